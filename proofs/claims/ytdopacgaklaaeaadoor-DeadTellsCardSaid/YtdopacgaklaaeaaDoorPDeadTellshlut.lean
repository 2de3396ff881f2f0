import Derived.Test.YtdopacgaklaaeaaDoorPDeadTellsx0
import Derived.Test.YtdopacgaklaaeaaDoorPDeadTellshforms
import Derived.Test.YtdopacgaklaaeaaDoorPDeadTellshchk
import Derived.Test.YtdopacgaklaaeaaDoorPDeadTellsx10
import Derived.Test.YtdopacgaklaaeaaDoorPDeadTellsx11
import Derived.Test.YtdopacgaklaaeaaDoorPDeadTellshcmp
import Derived.Test.YtdopacgaklaaeaaDoorPDeadTellshins
import Derived.Test.YtdopacgaklaaeaaDoorPDeadTellshlgrow
import Derived.Test.YtdopacgaklaaeaaDoorPDeadTellsx7
import Derived.Test.YtdopacgaklaaeaaDoorPDeadTellsx9
import Derived.Test.YtdopacgaklaaeaaDoorPDeadTellshgnx
import Derived.Test.YtdopacgaklaaeaaDoorPDeadTellshgre
import Derived.Test.YtdopacgaklaaeaaDoorPDeadTellshplain0
import Derived.Lib.RowBridge
namespace Go.Proofs.YtdopacgaklaaeaaDoor.PDeadTells
open Go.RowKit Go.Proofs.YtdopacgaklaaeaaDoorW.PrintWords Go.Proofs.YtdopacgaklaaeaaDoorW.PrintLast Go.Proofs.YtdopacgaklaaeaaDoorW.PrintMore
set_option linter.unusedVariables false
set_option linter.unusedSimpArgs false
/-! The program's table of forms is the reference's. -/
theorem form_tab (k : Int) : fD k = fmB 1 k ∧ fA k = fmB 2 k ∧ fB k = fmB 3 k ∧ fO k = fmB 4 k ∧ fN k = fmB 5 k ∧ fT k = fmB 6 k ∧ (k == 4 || k == 5) = fmB 7 k ∧ (k == 12 || k == 13) = fmB 9 k := by
  by_cases hk : 0 ≤ k ∧ k < 14
  · have : ∀ i : Fin 14, fD (i.val : Int) = fmB 1 i.val ∧ fA (i.val : Int) = fmB 2 i.val ∧ fB (i.val : Int) = fmB 3 i.val ∧ fO (i.val : Int) = fmB 4 i.val ∧ fN (i.val : Int) = fmB 5 i.val ∧ fT (i.val : Int) = fmB 6 i.val ∧ ((i.val : Int) == 4 || (i.val : Int) == 5) = fmB 7 i.val ∧ ((i.val : Int) == 12 || (i.val : Int) == 13) = fmB 9 i.val := by decide +kernel
    have := this ⟨k.toNat, by omega⟩
    simp only [show ((k.toNat : Nat) : Int) = k by omega] at this
    exact this
  · rw [fmB_out 1 (by decide) k hk, fmB_out 2 (by decide) k hk, fmB_out 3 (by decide) k hk, fmB_out 4 (by decide) k hk, fmB_out 5 (by decide) k hk, fmB_out 6 (by decide) k hk, fmB_out 7 (by decide) k hk, fmB_out 9 (by decide) k hk]
    have h1 : ∀ c : Int, 0 ≤ c → c < 14 → (k == c) = false := fun c h0 h1 => by simp; omega
    simp [fD, fA, fB, fO, fN, fT, h1]
theorem form_pick (k : Int) : fmB 8 k = (k == 3) := by
  by_cases hk : 0 ≤ k ∧ k < 14
  · have : ∀ i : Fin 14, fmB 8 (i.val : Int) = ((i.val : Int) == 3) := by decide +kernel
    have := this ⟨k.toNat, by omega⟩
    simp only [show ((k.toNat : Nat) : Int) = k by omega] at this
    exact this
  · rw [fmB_out 8 (by decide) k hk]
    simp; omega
end Go.Proofs.YtdopacgaklaaeaaDoor.PDeadTells

namespace Go.Proofs.YtdopacgaklaaeaaDoor.PDeadTells
open Go.RowKit Go.Proofs.YtdopacgaklaaeaaDoorW.PrintWords Go.Proofs.YtdopacgaklaaeaaDoorW.PrintLast Go.Proofs.YtdopacgaklaaeaaDoorW.PrintMore
set_option linter.unusedVariables false
set_option linter.unusedSimpArgs false
open Go.Shelf
/-! What an instruction reads and writes, by package ins and by the document, are one. -/
theorem luses_eq (x : S28) : useRegs (useL x.f0 x.f2 x.f3 x.f4) = usesL x := by
  obtain ⟨h1, h2, h3, h4, h5, h6, h7, _⟩ := form_tab x.f0
  refine rising_ext (useRegs_spec _).1 (usesL_spec x).1 (fun i => ?_)
  rw [(useRegs_spec _).2, (usesL_spec x).2.1, h2, h3]
  unfold useL
  rw [form_pick, List.mem_append, List.mem_append]
  have e : ∀ (c : Bool) (v : Int), i ∈ (if c = true then [v] else []) ↔ (c = true ∧ i = v) := fun c v => by cases c <;> simp
  rw [e, e, e]
  simp only [beq_iff_eq]
  constructor
  · rintro ⟨(h | h) | h, h0⟩
    · exact ⟨h0, .inr (.inl h)⟩
    · exact ⟨h0, .inr (.inr h)⟩
    · exact ⟨h0, .inl h⟩
  · rintro ⟨h0, h | h | h⟩
    · exact ⟨.inr h, h0⟩
    · exact ⟨.inl (.inl h), h0⟩
    · exact ⟨.inl (.inr h), h0⟩
theorem ldef_eq (x : S28) : (if fmB 1 x.f0 = true then x.f2 else -1) = defL x := by
  unfold defL
  rw [(form_tab x.f0).1]
theorem luses_spec (x : S28) : Ev (fun k => palingref11_Uses.f k x.f0 x.f1 x.f2 x.f3 x.f4 x.f5 x.f6) (useQ x) := by
  rw [show useQ x = usesL x from luses_eq x]
  exact uses_spec x
theorem ldef_spec (x : S28) : Ev (fun k => palingref11_Def.f k x.f0 x.f1 x.f2 x.f3 x.f4 x.f5 x.f6) (defQ x) := by
  rw [show defQ x = defL x from ldef_eq x]
  exact def_spec x
end Go.Proofs.YtdopacgaklaaeaaDoor.PDeadTells

namespace Go.Proofs.YtdopacgaklaaeaaDoor.PDeadTells
open Go.RowKit Go.Proofs.YtdopacgaklaaeaaDoorW.PrintWords Go.Proofs.YtdopacgaklaaeaaDoorW.PrintLast Go.Proofs.YtdopacgaklaaeaaDoorW.PrintMore
set_option linter.unusedVariables false
set_option linter.unusedSimpArgs false
open Go.Shelf
/-! Where an instruction goes to, by the document. -/
def fld15 (a0 : Int) : ByteArray := if 0 ≤ a0 ∧ a0 < 14 then rdOf ByteArray.empty ([(⟨#[68, 78]⟩ : ByteArray), (⟨#[68, 65]⟩ : ByteArray), (⟨#[68, 79, 65, 66]⟩ : ByteArray), (⟨#[68, 65, 66]⟩ : ByteArray), (⟨#[68, 65, 78]⟩ : ByteArray), (⟨#[65, 66, 78]⟩ : ByteArray), (⟨#[84]⟩ : ByteArray), (⟨#[65, 84]⟩ : ByteArray), (⟨#[46]⟩ : ByteArray), (⟨#[78]⟩ : ByteArray), (⟨#[78]⟩ : ByteArray), (⟨#[65]⟩ : ByteArray), (⟨#[78]⟩ : ByteArray), (⟨#[46]⟩ : ByteArray)] : List ByteArray) a0 else ⟨#[]⟩
theorem fields15 (a0 : Int) : palingref11_fields.f a0 = some (fld15 a0) := by
  unfold palingref11_fields.f fld15
  simp only [Option.bind_some, List.length_cons, List.length_nil]
  by_cases h0 : a0 < 0
  · rw [if_pos h0, if_neg (by omega)]
  · by_cases h1 : a0 ≥ 14
    · rw [if_neg h0, if_pos (by simpa using h1), if_neg (by omega)]
    · rw [if_neg h0, if_neg (by simpa using h1), if_pos (by omega), if_pos (by omega), if_pos (by omega)]
theorem fld15_nil (a0 : Int) : (fld15 a0).data.toList = [] ↔ ¬ (0 ≤ a0 ∧ a0 < 14) := by
  by_cases h : 0 ≤ a0 ∧ a0 < 14
  · have : ∀ i : Fin 14, (fld15 (i.val : Int)).data.toList ≠ [] := by decide
    have := this ⟨a0.toNat, by omega⟩
    rw [show ((a0.toNat : Nat) : Int) = a0 by omega] at this
    exact ⟨fun e => absurd e this, fun e => absurd h e⟩
  · have : fld15 a0 = ⟨#[]⟩ := by unfold fld15; rw [if_neg h]
    rw [this]
    exact ⟨fun _ => h, fun _ => rfl⟩
theorem ends15 (k : Int) : (k == 12 || k == 13) = fmB 9 k := by
  by_cases hk : 0 ≤ k ∧ k < 14
  · have : ∀ i : Fin 14, ((i.val : Int) == 12 || (i.val : Int) == 13) = fmB 9 i.val := by decide +kernel
    have := this ⟨k.toNat, by omega⟩
    simp only [show ((k.toNat : Nat) : Int) = k by omega] at this
    exact this
  · rw [fmB_out 9 (by decide) k hk]
    have h1 : ∀ c : Int, 0 ≤ c → c < 14 → (k == c) = false := fun c h0 h1 => by simp; omega
    simp [h1]
theorem bytes15_loop (s : ByteArray) : ∀ (d i : Nat) (r : List UInt8), s.size - i = d → ByteArray.toList.loop s i r = r.reverse ++ s.data.toList.drop i := by
  intro d
  induction d with
  | zero =>
    intro i r h
    rw [ByteArray.toList.loop, if_neg (by omega), List.drop_eq_nil_of_le (by rw [Array.length_toList]; show s.size ≤ i; omega)]
    simp
  | succ d ih =>
    intro i r h
    have hi : i < s.size := by omega
    have hl : i < s.data.toList.length := by rw [Array.length_toList]; exact hi
    rw [ByteArray.toList.loop, if_pos hi, ih (i + 1) _ (by omega), List.reverse_cons, List.append_assoc, List.drop_eq_getElem_cons hl]
    congr 1
    simp only [List.cons_append, List.nil_append]
    congr 1
    show s.data[i]! = _
    rw [getElem!_pos s.data i hi]
    simp
theorem bytes15 (s : ByteArray) : s.toList = s.data.toList := by
  rw [ByteArray.toList, bytes15_loop s s.size 0 [] (by omega)]
  simp
theorem two_lt15 {a b : Int} (h : a < b) : twoL a b = [a, b] ∧ twoL b a = [a, b] := by
  refine ⟨rising_ext (twoL_spec _ _).1 (by simpa using h) (fun i => ?_), rising_ext (twoL_spec _ _).1 (by simpa using h) (fun i => ?_)⟩
  · rw [(twoL_spec _ _).2]; simp
  · rw [(twoL_spec _ _).2]; simp; omega
theorem two_eq15 (a : Int) : twoL a a = [a] := by
  refine rising_ext (twoL_spec _ _).1 (by simp) (fun i => ?_)
  rw [(twoL_spec _ _).2]; simp
theorem nextref15 (x : S28) (i : Int) (h : wrap64 (i + 1) = i + 1) : Ev (fun k => palingref11_Next.f k x.f0 x.f1 x.f2 x.f3 x.f4 x.f5 x.f6 i) (nyV x i) := by
  have e7 := fld15_nil x.f0
  have hend := ends15 x.f0
  refine Ev.congr (fun k => rfl) (Ev.bind (Ev.con (fields15 x.f0)) ?_)
  unfold nyV
  rw [← hend]
  have stop : Ev (fun k => palingref11_Next.j0 k i true x.f0 x.f1 x.f2 x.f3 x.f4 x.f5 x.f6) [] := Ev.step (f := fun _ => some []) (fun k => rfl) (Ev.now _)
  by_cases hk : 0 ≤ x.f0 ∧ x.f0 < 14
  · have hne : ¬ ((fld15 x.f0).toList = []) := by rw [bytes15, e7]; simpa using hk
    refine Ev.neg hne ?_
    by_cases h12 : x.f0 = 12
    · refine Ev.pos h12 ?_
      rw [if_pos (by simp [h12])]
      exact stop
    · refine Ev.neg h12 ?_
      by_cases h13 : x.f0 = 13
      · rw [show (x.f0 == 13) = true by simpa using h13, if_pos (by simp)]
        exact stop
      · rw [show (x.f0 == 13) = false by simpa using h13, if_neg (by simp [hk, h12])]
        refine Ev.step (fun k => rfl) ?_
        by_cases h6 : x.f0 = 6
        · rw [if_pos h6]; exact Ev.pos h6 (Ev.now _)
        · rw [if_neg h6]
          refine Ev.neg h6 ?_
          by_cases h7 : x.f0 = 7
          · rw [if_pos h7]
            refine Ev.pos h7 ?_
            rw [h]
            by_cases hlt : x.f6 < i + 1
            · rw [show decide (x.f6 < i + 1) = true from decide_eq_true hlt, (two_lt15 hlt).2]
              refine Ev.step (f := fun _ => some [x.f6, wrap64 (i + 1)]) (fun k => rfl) ?_
              rw [h]; exact Ev.now _
            · rw [show decide (x.f6 < i + 1) = false from decide_eq_false hlt]
              refine Ev.step (fun k => rfl) (Ev.pos h7 ?_)
              rw [h]
              by_cases hgt : x.f6 > i + 1
              · rw [(two_lt15 (show i + 1 < x.f6 from hgt)).1]
                exact Ev.pos hgt (Ev.now _)
              · have he : x.f6 = i + 1 := by omega
                rw [he, two_eq15]
                exact Ev.neg (by omega) (Ev.now _)
          · rw [if_neg h7]
            refine Ev.neg h7 (Ev.step (fun k => rfl) (Ev.neg h7 ?_))
            rw [h]; exact Ev.now _
  · have he : (fld15 x.f0).toList = [] := by rw [bytes15, e7]; exact hk
    rw [if_pos (.inl hk)]
    exact Ev.pos he stop
theorem lrefnext_spec (l : List S28) (hl : l.length ≤ 1000) (i : Int) (h0 : 0 ≤ i) (h1 : i < (l.length : Int)) : Ev (fun k => palingref14_Next.f k l i) (nxL l i) := by
  have hw : wrap64 (i + 1) = i + 1 := wrap_up h0 h1 (by omega)
  rw [nxL_nyV l hl i h0 h1]
  obtain ⟨js, hjs⟩ : ∃ js, js = nyV (rd_T28 l i) i := ⟨_, rfl⟩
  have hjl : js.length ≤ 2 := by rw [hjs]; exact nyV_len _ _
  have hn := nextref15 (rd_T28 l i) i hw
  rw [← hjs] at hn ⊢
  have main : ∀ m : Int, 0 ≤ m → m ≤ (js.length : Int) → ∀ acc : List Int, acc.length ≤ m.toNat → Ev (fun k => palingref14_Next.l0 k l js acc m) (acc ++ (js.drop m.toNat).filter fun x => !linB l.length x) := by
    refine up_ind (n := js.length) ?_ ?_
    · intro acc _
      rw [show ((js.length : Nat) : Int).toNat = js.length by omega, List.drop_length]
      refine Ev.step (f := fun _ => some acc) (fun k => ?_) (Ev.con (by simp))
      show (if ((js.length : Nat) : Int) < (js.length : Int) then _ else some acc) = some acc
      rw [if_neg (by omega)]
    · intro m m0 m1 ih acc hacc
      have hml : m.toNat < js.length := by omega
      obtain ⟨x, hx⟩ : ∃ x, x = js.getD m.toNat 0 := ⟨_, rfl⟩
      have hwm : wrap64 (m + 1) = m + 1 := wrap_up m0 m1 (by omega)
      rw [getD_drop js 0 m.toNat hml, ← hx, show m.toNat + 1 = (m + 1).toNat by omega, List.filter_cons]
      refine Ev.step (f := fun k => if m < (js.length : Int) then (if 0 ≤ m then (if x ≥ 0 then (if x < (l.length : Int) then (if acc.length < 17592186044416 then palingref14_Next.l0 k l js (acc ++ [x]) (wrap64 (m + 1)) else none) else palingref14_Next.l0 k l js acc (wrap64 (m + 1))) else palingref14_Next.l0 k l js acc (wrap64 (m + 1))) else none) else some acc) (fun k => by rw [hx]; rfl) ?_
      rw [hwm]
      refine Ev.pos m1 (Ev.pos m0 ?_)
      have hno : Ev (fun k => palingref14_Next.l0 k l js acc (m + 1)) (acc ++ (js.drop (m + 1).toNat).filter fun x => !linB l.length x) := ih acc (by omega)
      by_cases a : x ≥ 0
      · refine Ev.pos a ?_
        by_cases b : x < (l.length : Int)
        · refine Ev.pos b (Ev.pos (by omega) ?_)
          rw [if_pos (by unfold linB; simp; omega)]
          have := ih (acc ++ [x]) (by rw [List.length_append, List.length_singleton]; omega)
          rw [List.append_assoc] at this
          exact this
        · rw [if_neg (by unfold linB; simp; omega)]
          exact Ev.neg b hno
      · rw [if_neg (by unfold linB; simp; omega)]
        exact Ev.neg a hno
  have := main 0 (by omega) (by omega) [] (by simp)
  refine Ev.congr (f := fun k => if 0 ≤ i then (if i < (l.length : Int) then ((palingref11_Next.f k (rd_T28 l i).f0 (rd_T28 l i).f1 (rd_T28 l i).f2 (rd_T28 l i).f3 (rd_T28 l i).f4 (rd_T28 l i).f5 (rd_T28 l i).f6 i).bind fun t => palingref14_Next.l0 k l t [] 0) else none) else none) (fun k => rfl) ?_
  exact Ev.pos h0 (Ev.pos h1 (Ev.bind hn this))
end Go.Proofs.YtdopacgaklaaeaaDoor.PDeadTells
