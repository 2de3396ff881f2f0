import Derived.Test.YtdopacgaklaaeaaDoorPDeadTellsx0
import Derived.Test.YtdopacgaklaaeaaDoorPDeadTellsx7
import Derived.Test.YtdopacgaklaaeaaDoorPDeadTellsx9
import Derived.Test.YtdopacgaklaaeaaDoorPDeadTellsx10
import Derived.Test.YtdopacgaklaaeaaDoorPDeadTellshcmp
import Derived.Test.YtdopacgaklaaeaaDoorPDeadTellshforms
import Derived.Test.YtdopacgaklaaeaaDoorPDeadTellshgnx
import Derived.Test.YtdopacgaklaaeaaDoorPDeadTellshgre
import Derived.Test.YtdopacgaklaaeaaDoorPDeadTellshplain0
namespace Go.Proofs.YtdopacgaklaaeaaDoor.PDeadTells
open Go.RowKit Go.Proofs.YtdopacgaklaaeaaDoorW.PrintWords Go.Proofs.YtdopacgaklaaeaaDoorW.PrintLast Go.Proofs.YtdopacgaklaaeaaDoorW.PrintMore
set_option linter.unusedVariables false
set_option linter.unusedSimpArgs false
/-! The document's graph in plain words: where an instruction goes to, and the walk that leaves one place out. -/
def fld14 (a0 : Int) : ByteArray := if 0 ≤ a0 ∧ a0 < 14 then rdOf ByteArray.empty ([(⟨#[68, 78]⟩ : ByteArray), (⟨#[68, 65]⟩ : ByteArray), (⟨#[68, 79, 65, 66]⟩ : ByteArray), (⟨#[68, 65, 66]⟩ : ByteArray), (⟨#[68, 65, 78]⟩ : ByteArray), (⟨#[65, 66, 78]⟩ : ByteArray), (⟨#[84]⟩ : ByteArray), (⟨#[65, 84]⟩ : ByteArray), (⟨#[46]⟩ : ByteArray), (⟨#[78]⟩ : ByteArray), (⟨#[78]⟩ : ByteArray), (⟨#[65]⟩ : ByteArray), (⟨#[78]⟩ : ByteArray), (⟨#[46]⟩ : ByteArray)] : List ByteArray) a0 else ⟨#[]⟩
theorem fields14 (a0 : Int) : palingref11_fields.f a0 = some (fld14 a0) := by
  unfold palingref11_fields.f fld14
  simp only [Option.bind_some, List.length_cons, List.length_nil]
  by_cases h0 : a0 < 0
  · rw [if_pos h0, if_neg (by omega)]
  · by_cases h1 : a0 ≥ 14
    · rw [if_neg h0, if_pos (by simpa using h1), if_neg (by omega)]
    · rw [if_neg h0, if_neg (by simpa using h1), if_pos (by omega), if_pos (by omega), if_pos (by omega)]
theorem fld14_nil (a0 : Int) : (fld14 a0).data.toList = [] ↔ ¬ (0 ≤ a0 ∧ a0 < 14) := by
  by_cases h : 0 ≤ a0 ∧ a0 < 14
  · have : ∀ i : Fin 14, (fld14 (i.val : Int)).data.toList ≠ [] := by decide
    have := this ⟨a0.toNat, by omega⟩
    rw [show ((a0.toNat : Nat) : Int) = a0 by omega] at this
    exact ⟨fun e => absurd e this, fun e => absurd h e⟩
  · have : fld14 a0 = ⟨#[]⟩ := by unfold fld14; rw [if_neg h]
    rw [this]
    exact ⟨fun _ => h, fun _ => rfl⟩
theorem ends14 (k : Int) : (k == 12 || k == 13) = fmB 9 k := by
  by_cases hk : 0 ≤ k ∧ k < 14
  · have : ∀ i : Fin 14, ((i.val : Int) == 12 || (i.val : Int) == 13) = fmB 9 i.val := by decide +kernel
    have := this ⟨k.toNat, by omega⟩
    simp only [show ((k.toNat : Nat) : Int) = k by omega] at this
    exact this
  · rw [fmB_out 9 (by decide) k hk]
    have h1 : ∀ c : Int, 0 ≤ c → c < 14 → (k == c) = false := fun c h0 h1 => by simp; omega
    simp [h1]
theorem bytes14_loop (s : ByteArray) : ∀ (d i : Nat) (r : List UInt8), s.size - i = d → ByteArray.toList.loop s i r = r.reverse ++ s.data.toList.drop i := by
  intro d
  induction d with
  | zero =>
    intro i r h
    rw [ByteArray.toList.loop, if_neg (by omega), List.drop_eq_nil_of_le (by rw [Array.length_toList]; show s.size ≤ i; omega)]
    simp
  | succ d ih =>
    intro i r h
    have hi : i < s.size := by omega
    have hl : i < s.data.toList.length := by rw [Array.length_toList]; exact hi
    rw [ByteArray.toList.loop, if_pos hi, ih (i + 1) _ (by omega), List.reverse_cons, List.append_assoc, List.drop_eq_getElem_cons hl]
    congr 1
    simp only [List.cons_append, List.nil_append]
    congr 1
    show s.data[i]! = _
    rw [getElem!_pos s.data i hi]
    simp
theorem bytes14 (s : ByteArray) : s.toList = s.data.toList := by
  rw [ByteArray.toList, bytes14_loop s s.size 0 [] (by omega)]
  simp
/-- where an instruction goes to -/
def nxV (y : S28) (i : Int) : List Int := if ¬ (0 ≤ y.f0 ∧ y.f0 < 14) ∨ fmB 9 y.f0 = true then [] else if y.f0 = 6 then [y.f6] else if y.f0 = 7 then twoL (i + 1) y.f6 else [i + 1]
theorem nxV_f (y : S28) (i : Int) (h : wrap64 (i + 1) = i + 1) : ins_Next.f y.f0 y.f1 y.f2 y.f3 y.f4 y.f5 y.f6 i = some (nxV y i) := by
  unfold ins_Next.f nxV
  rw [h]
theorem two_lt14 {a b : Int} (h : a < b) : twoL a b = [a, b] ∧ twoL b a = [a, b] := by
  refine ⟨rising_ext (twoL_spec _ _).1 (by simpa using h) (fun i => ?_), rising_ext (twoL_spec _ _).1 (by simpa using h) (fun i => ?_)⟩
  · rw [(twoL_spec _ _).2]; simp
  · rw [(twoL_spec _ _).2]; simp; omega
theorem two_eq14 (a : Int) : twoL a a = [a] := by
  refine rising_ext (twoL_spec _ _).1 (by simp) (fun i => ?_)
  rw [(twoL_spec _ _).2]; simp
theorem nextref14 (x : S28) (i : Int) (h : wrap64 (i + 1) = i + 1) : Ev (fun k => palingref11_Next.f k x.f0 x.f1 x.f2 x.f3 x.f4 x.f5 x.f6 i) (nxV x i) := by
  have e7 := fld14_nil x.f0
  have hend := ends14 x.f0
  refine Ev.congr (fun k => rfl) (Ev.bind (Ev.con (fields14 x.f0)) ?_)
  unfold nxV
  rw [← hend]
  have stop : Ev (fun k => palingref11_Next.j0 k i true x.f0 x.f1 x.f2 x.f3 x.f4 x.f5 x.f6) [] := Ev.step (f := fun _ => some []) (fun k => rfl) (Ev.now _)
  by_cases hk : 0 ≤ x.f0 ∧ x.f0 < 14
  · have hne : ¬ ((fld14 x.f0).toList = []) := by rw [bytes14, e7]; simpa using hk
    refine Ev.neg hne ?_
    by_cases h12 : x.f0 = 12
    · refine Ev.pos h12 ?_
      rw [if_pos (by simp [h12])]
      exact stop
    · refine Ev.neg h12 ?_
      by_cases h13 : x.f0 = 13
      · rw [show (x.f0 == 13) = true by simpa using h13, if_pos (by simp)]
        exact stop
      · rw [show (x.f0 == 13) = false by simpa using h13, if_neg (by simp [hk, h12])]
        refine Ev.step (fun k => rfl) ?_
        by_cases h6 : x.f0 = 6
        · rw [if_pos h6]; exact Ev.pos h6 (Ev.now _)
        · rw [if_neg h6]
          refine Ev.neg h6 ?_
          by_cases h7 : x.f0 = 7
          · rw [if_pos h7]
            refine Ev.pos h7 ?_
            rw [h]
            by_cases hlt : x.f6 < i + 1
            · rw [show decide (x.f6 < i + 1) = true from decide_eq_true hlt, (two_lt14 hlt).2]
              refine Ev.step (f := fun _ => some [x.f6, wrap64 (i + 1)]) (fun k => rfl) ?_
              rw [h]; exact Ev.now _
            · rw [show decide (x.f6 < i + 1) = false from decide_eq_false hlt]
              refine Ev.step (fun k => rfl) (Ev.pos h7 ?_)
              rw [h]
              by_cases hgt : x.f6 > i + 1
              · rw [(two_lt14 (show i + 1 < x.f6 from hgt)).1]
                exact Ev.pos hgt (Ev.now _)
              · have he : x.f6 = i + 1 := by omega
                rw [he, two_eq14]
                exact Ev.neg (by omega) (Ev.now _)
          · rw [if_neg h7]
            refine Ev.neg h7 (Ev.step (fun k => rfl) (Ev.neg h7 ?_))
            rw [h]; exact Ev.now _
  · have he : (fld14 x.f0).toList = [] := by rw [bytes14, e7]; exact hk
    rw [if_pos (.inl hk)]
    exact Ev.pos he stop
theorem nxV_len (y : S28) (i : Int) : (nxV y i).length ≤ 2 := by
  unfold nxV
  split
  · simp
  · split
    · simp
    · split
      · exact twoL_len _ _
      · simp
theorem nxOf_nxV (l : List S28) (hl : l.length ≤ 1000) (i : Int) (h0 : 0 ≤ i) (h1 : i < (l.length : Int)) : nxOf l i = (nxV (rd_T28 l i) i).filter fun x => !inB l.length x := by
  have hw : wrap64 (i + 1) = i + 1 := wrap_up h0 h1 (by omega)
  have h := graph_next_some l i h0 h1
  unfold graph_next.f at h
  rw [if_pos ⟨h0, h1⟩, nxV_f _ i hw, Option.bind_some, if_pos (by have := nxV_len (rd_T28 l i) i; omega)] at h
  exact (Option.some.inj h).symm
theorem refnext_spec (l : List S28) (hl : l.length ≤ 1000) (i : Int) (h0 : 0 ≤ i) (h1 : i < (l.length : Int)) : Ev (fun k => palingref14_Next.f k l i) (nxOf l i) := by
  have hw : wrap64 (i + 1) = i + 1 := wrap_up h0 h1 (by omega)
  rw [nxOf_nxV l hl i h0 h1]
  obtain ⟨js, hjs⟩ : ∃ js, js = nxV (rd_T28 l i) i := ⟨_, rfl⟩
  have hjl : js.length ≤ 2 := by rw [hjs]; exact nxV_len _ _
  have hn := nextref14 (rd_T28 l i) i hw
  rw [← hjs] at hn ⊢
  have main : ∀ m : Int, 0 ≤ m → m ≤ (js.length : Int) → ∀ acc : List Int, acc.length ≤ m.toNat → Ev (fun k => palingref14_Next.l0 k l js acc m) (acc ++ (js.drop m.toNat).filter fun x => !inB l.length x) := by
    refine up_ind (n := js.length) ?_ ?_
    · intro acc _
      rw [show ((js.length : Nat) : Int).toNat = js.length by omega, List.drop_length]
      refine Ev.step (f := fun _ => some acc) (fun k => ?_) (Ev.con (by simp))
      show (if ((js.length : Nat) : Int) < (js.length : Int) then _ else some acc) = some acc
      rw [if_neg (by omega)]
    · intro m m0 m1 ih acc hacc
      have hml : m.toNat < js.length := by omega
      obtain ⟨x, hx⟩ : ∃ x, x = js.getD m.toNat 0 := ⟨_, rfl⟩
      have hwm : wrap64 (m + 1) = m + 1 := wrap_up m0 m1 (by omega)
      rw [getD_drop js 0 m.toNat hml, ← hx, show m.toNat + 1 = (m + 1).toNat by omega, List.filter_cons]
      refine Ev.step (f := fun k => if m < (js.length : Int) then (if 0 ≤ m then (if x ≥ 0 then (if x < (l.length : Int) then (if acc.length < 17592186044416 then palingref14_Next.l0 k l js (acc ++ [x]) (wrap64 (m + 1)) else none) else palingref14_Next.l0 k l js acc (wrap64 (m + 1))) else palingref14_Next.l0 k l js acc (wrap64 (m + 1))) else none) else some acc) (fun k => by rw [hx]; rfl) ?_
      rw [hwm]
      refine Ev.pos m1 (Ev.pos m0 ?_)
      have hno : Ev (fun k => palingref14_Next.l0 k l js acc (m + 1)) (acc ++ (js.drop (m + 1).toNat).filter fun x => !inB l.length x) := ih acc (by omega)
      by_cases a : x ≥ 0
      · refine Ev.pos a ?_
        by_cases b : x < (l.length : Int)
        · refine Ev.pos b (Ev.pos (by omega) ?_)
          rw [if_pos (by unfold inB; simp; omega)]
          have := ih (acc ++ [x]) (by rw [List.length_append, List.length_singleton]; omega)
          rw [List.append_assoc] at this
          exact this
        · rw [if_neg (by unfold inB; simp; omega)]
          exact Ev.neg b hno
      · rw [if_neg (by unfold inB; simp; omega)]
        exact Ev.neg a hno
  have := main 0 (by omega) (by omega) [] (by simp)
  refine Ev.congr (f := fun k => if 0 ≤ i then (if i < (l.length : Int) then ((palingref11_Next.f k (rd_T28 l i).f0 (rd_T28 l i).f1 (rd_T28 l i).f2 (rd_T28 l i).f3 (rd_T28 l i).f4 (rd_T28 l i).f5 (rd_T28 l i).f6 i).bind fun t => palingref14_Next.l0 k l t [] 0) else none) else none) (fun k => rfl) ?_
  exact Ev.pos h0 (Ev.pos h1 (Ev.bind hn this))
theorem without_len (nx : Int → List Int) (n : Nat) (f not_ : Int) (hnx : ∀ i, 0 ≤ i → i < (n : Int) → ∀ j ∈ nx i, 0 ≤ j ∧ j < (n : Int)) : (without nx n f not_).length = n := by
  have h1 : ∀ (js : List Int) (s : List Bool) (l : List Int), (bfsIn not_ js s l).1.length = s.length := by
    intro js
    induction js with
    | nil => intro s l; rfl
    | cons j js ih =>
      intro s l
      rw [bfsIn]
      split
      · rw [ih, List.length_set]
      · exact ih s l
  have h2 : ∀ (k : Nat) (s : List Bool) (l : List Int) (i : Nat), (bfsGo nx not_ k s l i).length = s.length := by
    intro k
    induction k with
    | zero => intro s l i; rfl
    | succ k ih =>
      intro s l i
      rw [bfsGo]
      split
      · rw [ih]; exact h1 _ _ _
      · rfl
  unfold without
  split
  · simp
  · rw [h2]; simp
theorem refwithout_spec (l : List S28) (hl : l.length ≤ 1000) (f not_ : Int) : Ev (fun k => palingref14_without.f k l f not_) (without (nxOf l) l.length f not_) := by
  have hin := nxOf_in l
  refine Ev.congr (f := fun k => if 0 ≤ (l.length : Int) then (if l.length ≤ 281474976710656 then (if f < 0 then palingref14_without.j0 k l f not_ (List.replicate l.length false) true else (if f ≥ (l.length : Int) then palingref14_without.j0 k l f not_ (List.replicate l.length false) true else palingref14_without.j0 k l f not_ (List.replicate l.length false) (f == not_))) else none) else none) (fun k => rfl) ?_
  refine Ev.pos (by omega) (Ev.pos (by omega) ?_)
  have stop : Ev (fun k => palingref14_without.j0 k l f not_ (List.replicate l.length false) true) (List.replicate l.length false) := Ev.step (f := fun _ => some (List.replicate l.length false)) (fun k => rfl) (Ev.now _)
  unfold without
  by_cases c1 : f < 0
  · rw [if_pos (.inl c1)]; exact Ev.pos c1 stop
  refine Ev.neg c1 ?_
  by_cases c2 : f ≥ (l.length : Int)
  · rw [if_pos (.inr (.inl c2))]; exact Ev.pos c2 stop
  refine Ev.neg c2 ?_
  by_cases c3 : f = not_
  · rw [if_pos (.inr (.inr c3)), show (f == not_) = true by simpa using c3]; exact stop
  rw [if_neg (by omega), show (f == not_) = false by simpa using c3]
  have hf : 0 ≤ f ∧ f < (l.length : Int) := by omega
  have hset : ∀ i, 0 ≤ i → at_ ((List.replicate l.length false).set f.toNat true) i = if i = f then true else false := fun i h0 => by
    rw [at_set hf.1 (by rw [List.length_replicate]; exact hf.2) h0, at_rep]
  have hB : BInv (nxOf l) not_ l.length f ((List.replicate l.length false).set f.toNat true) [f] := by
    refine ⟨by simp, fun x hx => ?_, fun x h0 hx => ?_, ?_⟩
    · rw [List.mem_singleton] at hx; subst hx; exact ⟨hf, by rw [hset x hf.1, if_pos rfl]⟩
    · rw [hset x h0] at hx
      by_cases e : x = f
      · subst e; exact ⟨.refl _, by simp⟩
      · rw [if_neg e] at hx; exact absurd hx (by simp)
    · have := un_set' (s := List.replicate l.length false) hf.1 (by rw [List.length_replicate]; exact hf.2) (at_rep l.length f)
      rw [un_rep] at this
      simp; omega
  have main : ∀ (d : Nat) (s : List Bool) (L : List Int) (i : Nat), BInv (nxOf l) not_ l.length f s L → i ≤ L.length → l.length < i + d → Ev (fun k => palingref14_without.l0 k l not_ s L (i : Int)) (bfsGo (nxOf l) not_ d s L i) := by
    intro d
    induction d with
    | zero => intro s L i h hi hd; have := h.cnt; omega
    | succ d ih =>
      intro s L i h hi hd
      have hLl : L.length ≤ l.length := by have := h.cnt; omega
      rw [bfsGo]
      by_cases hlt : i < L.length
      · rw [if_pos hlt]
        obtain ⟨a, ha⟩ : ∃ a, a = L.getD i 0 := ⟨_, rfl⟩
        have hmem : a ∈ L := by rw [ha, List.getD_eq_getElem?_getD, List.getElem?_eq_getElem hlt]; exact List.getElem_mem hlt
        obtain ⟨hr, hsa⟩ := h.rng _ hmem
        have hway := (h.way _ hr.1 hsa).1
        obtain ⟨js, hjs⟩ : ∃ js, js = nxOf l a := ⟨_, rfl⟩
        have hjr : ∀ j ∈ js, (0 ≤ j ∧ j < (l.length : Int)) ∧ j ∈ nxOf l a := fun j hj => by rw [hjs] at hj; exact ⟨hin a j hj, hj⟩
        have hjl : js.length ≤ 2 := by rw [hjs]; exact nxOf_len l a
        obtain ⟨i1, _, _, tt, i4⟩ := bfsIn_inv (n := l.length) hway js s L hjr h
        have hn := refnext_spec l hl a hr.1 hr.2
        rw [← ha, ← hjs]
        have hwi : wrap64 ((i : Int) + 1) = (i : Int) + 1 := wrap_in (by omega) (by omega)
        refine Ev.step (f := fun k => if (i : Int) < (L.length : Int) then (if 0 ≤ (i : Int) then ((palingref14_Next.f k l a).bind fun t => palingref14_without.l1 k l not_ s L (i : Int) t 0) else none) else some s) (fun k => by rw [ha]; rfl) ?_
        rw [← hjs] at hn
        refine Ev.pos (by omega) (Ev.pos (by omega) (Ev.bind hn ?_))
        have inner : ∀ m : Int, 0 ≤ m → m ≤ (js.length : Int) → ∀ (s : List Bool) (L : List Int), s.length = l.length → L.length ≤ l.length + m.toNat → i + 1 ≤ L.length → BInv (nxOf l) not_ l.length f (bfsIn not_ (js.drop m.toNat) s L).1 (bfsIn not_ (js.drop m.toNat) s L).2 →
            i + 1 ≤ (bfsIn not_ (js.drop m.toNat) s L).2.length →
            Ev (fun k => palingref14_without.l1 k l not_ s L (i : Int) js m) (bfsGo (nxOf l) not_ d (bfsIn not_ (js.drop m.toNat) s L).1 (bfsIn not_ (js.drop m.toNat) s L).2 (i + 1)) := by
          refine up_ind (n := js.length) ?_ ?_
          · intro s L hs hL1 hL2 hBB hB2
            rw [show ((js.length : Nat) : Int).toNat = js.length by omega, List.drop_length] at hBB hB2 ⊢
            refine Ev.step (f := fun k => palingref14_without.l0 k l not_ s L (wrap64 ((i : Int) + 1))) (fun k => ?_) ?_
            · show (if ((js.length : Nat) : Int) < (js.length : Int) then _ else palingref14_without.l0 k l not_ s L (wrap64 ((i : Int) + 1))) = _
              rw [if_neg (by omega)]
            · rw [hwi, show ((i : Int) + 1) = ((i + 1 : Nat) : Int) by omega]
              exact ih s L (i + 1) hBB hB2 (by omega)
          · intro m m0 m1 ihm s L hs hL1 hL2 hBB hB2
            have hml : m.toNat < js.length := by omega
            obtain ⟨j, hj⟩ : ∃ j, j = js.getD m.toNat 0 := ⟨_, rfl⟩
            have hjm : j ∈ js := by rw [hj, List.getD_eq_getElem?_getD, List.getElem?_eq_getElem hml]; exact List.getElem_mem hml
            have hjr' := (hjr j hjm).1
            have hwm : wrap64 (m + 1) = m + 1 := wrap_up m0 m1 (by omega)
            rw [getD_drop js 0 m.toNat hml, ← hj, show m.toNat + 1 = (m + 1).toNat by omega] at hBB hB2 ⊢
            refine Ev.step (f := fun k => if m < (js.length : Int) then (if 0 ≤ m then (if 0 ≤ j then (if j < (s.length : Int) then (if at_ s j = true then palingref14_without.l1 k l not_ s L (i : Int) js (wrap64 (m + 1)) else (if j = not_ then palingref14_without.l1 k l not_ s L (i : Int) js (wrap64 (m + 1)) else (if L.length < 17592186044416 then palingref14_without.l1 k l not_ (s.set j.toNat true) (L ++ [j]) (i : Int) js (wrap64 (m + 1)) else none))) else none) else none) else none) else palingref14_without.l0 k l not_ s L (wrap64 ((i : Int) + 1))) (fun k => by rw [hj]; rfl) ?_
            rw [hwm]
            refine Ev.pos m1 (Ev.pos m0 (Ev.pos hjr'.1 (Ev.pos (by rw [hs]; exact hjr'.2) ?_)))
            by_cases hsj : at_ s j = true
            · have e : bfsIn not_ (j :: js.drop (m + 1).toNat) s L = bfsIn not_ (js.drop (m + 1).toNat) s L := by rw [bfsIn, if_neg (by simp [hsj])]
              rw [e] at hBB hB2 ⊢
              exact Ev.pos hsj (ihm s L hs (by omega) hL2 hBB hB2)
            · refine Ev.neg hsj ?_
              by_cases hjn : j = not_
              · have e : bfsIn not_ (j :: js.drop (m + 1).toNat) s L = bfsIn not_ (js.drop (m + 1).toNat) s L := by rw [bfsIn, if_neg (fun h => h.2 hjn)]
                rw [e] at hBB hB2 ⊢
                exact Ev.pos hjn (ihm s L hs (by omega) hL2 hBB hB2)
              · have e : bfsIn not_ (j :: js.drop (m + 1).toNat) s L = bfsIn not_ (js.drop (m + 1).toNat) (s.set j.toNat true) (L ++ [j]) := by rw [bfsIn, if_pos ⟨by simpa using hsj, hjn⟩]
                rw [e] at hBB hB2 ⊢
                exact Ev.neg hjn (Ev.pos (by omega) (ihm _ _ (by rw [List.length_set]; exact hs) (by rw [List.length_append, List.length_singleton]; omega) (by rw [List.length_append]; omega) hBB hB2))
        have := inner 0 (by omega) (by omega) s L h.len (by omega) (by omega) (by simpa using i1) (by
          have e : (0 : Int).toNat = 0 := rfl
          rw [e, List.drop_zero, i4, List.length_append]; omega)
        simpa using this
      · rw [if_neg hlt]
        refine Ev.step (f := fun _ => some s) (fun k => ?_) (Ev.now _)
        show (if (i : Int) < (L.length : Int) then _ else some s) = some s
        rw [if_neg (by omega)]
  refine Ev.step (f := fun k => if 0 ≤ f then (if f < ((List.replicate l.length false).length : Int) then palingref14_without.l0 k l not_ ((List.replicate l.length false).set f.toNat true) [f] 0 else none) else none) (fun k => rfl) ?_
  refine Ev.pos hf.1 (Ev.pos (by rw [List.length_replicate]; exact hf.2) ?_)
  exact main (l.length + 1) _ _ 0 hB (by simp) (by omega)
theorem way_no (l : List S28) (q : Int) (hq : q < 0) (a b : Int) : Way (no (nxOf l) q) a b ↔ Way (nxOf l) a b := by
  have e : no (nxOf l) q = nxOf l := by
    funext a
    unfold no
    refine List.filter_eq_self.2 (fun x hx => ?_)
    have := nxOf_in l a x hx
    simp; omega
  rw [e]
theorem bools_ext {a b : List Bool} {n : Nat} (ha : a.length = n) (hb : b.length = n) (h : ∀ i : Int, 0 ≤ i → i < (n : Int) → at_ a i = at_ b i) : a = b := by
  refine List.ext_getElem (ha.trans hb.symm) (fun i h1 h2 => ?_)
  have := h (i : Int) (by omega) (by omega)
  unfold at_ at this
  rw [Int.toNat_natCast, List.getD_eq_getElem?_getD, List.getD_eq_getElem?_getD, List.getElem?_eq_getElem h1, List.getElem?_eq_getElem h2] at this
  exact this
theorem refreach_spec (l : List S28) (hl : l.length ≤ 1000) (re : List Bool) (hrel : re.length = l.length) (hway : 0 < l.length → ∀ i, 0 ≤ i → (at_ re i = true ↔ Way (nxOf l) 0 i)) : Ev (fun k => palingref14_Reach.f k l) re := by
  have e : without (nxOf l) l.length 0 (-1) = re := by
    refine bools_ext (without_len _ _ _ _ (fun i _ _ => nxOf_in l i)) hrel (fun i i0 i1 => ?_)
    rw [Bool.eq_iff_iff, without_spec (fun i _ _ => nxOf_in l i) 0 (-1) i i0 (by omega), hway (by omega) i i0, way_no l (-1) (by omega)]
    simp
  have h := refwithout_spec l hl 0 (-1)
  rw [e] at h
  exact Ev.congr (f := fun k => (palingref14_without.f k l 0 (-1)).bind fun t => some t) (fun k => rfl) (Ev.bind h (Ev.now _))
end Go.Proofs.YtdopacgaklaaeaaDoor.PDeadTells
