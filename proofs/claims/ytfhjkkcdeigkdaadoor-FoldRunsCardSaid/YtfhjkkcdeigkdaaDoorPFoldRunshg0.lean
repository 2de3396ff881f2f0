import Derived.Test.YtfhjkkcdeigkdaaDoorPFoldRunsx0
import Derived.Test.YtfhjkkcdeigkdaaDoorShelf
import Derived.Lib.OwnBridge
import Derived.Lib.SliceRun
import Derived.Test.YtfhjkkcdeigkdaaDoorPFoldRunshway
import Derived.Test.YtfhjkkcdeigkdaaDoorPFoldRunsx3
import Derived.Test.YtfhjkkcdeigkdaaDoorPFoldRunsx2
import Derived.Test.YtfhjkkcdeigkdaaDoorPFoldRunsx4
namespace Go.Proofs.YtfhjkkcdeigkdaaDoor.PFoldRuns
open Go.RowKit Go.Proofs.YtfhjkkcdeigkdaaDoorW.PrintWords Go.Proofs.YtfhjkkcdeigkdaaDoorW.PrintLast Go.Proofs.YtfhjkkcdeigkdaaDoorW.PrintMore
set_option linter.unusedVariables false
set_option linter.unusedSimpArgs false
/-! A string's bytes as a list. -/
theorem toList_loop (s : ByteArray) : ∀ (d i : Nat) (r : List UInt8), s.size - i = d → ByteArray.toList.loop s i r = r.reverse ++ s.data.toList.drop i := by
  intro d
  induction d with
  | zero =>
    intro i r h
    rw [ByteArray.toList.loop, if_neg (by omega), List.drop_eq_nil_of_le (by rw [Array.length_toList]; show s.size ≤ i; omega)]
    simp
  | succ d ih =>
    intro i r h
    have hi : i < s.size := by omega
    have hl : i < s.data.toList.length := by rw [Array.length_toList]; exact hi
    rw [ByteArray.toList.loop, if_pos hi, ih (i + 1) _ (by omega), List.reverse_cons, List.append_assoc, List.drop_eq_getElem_cons hl]
    congr 1
    simp only [List.cons_append, List.nil_append]
    congr 1
    show s.data[i]! = _
    rw [getElem!_pos s.data i hi]
    simp
theorem toList_data (s : ByteArray) : s.toList = s.data.toList := by
  rw [ByteArray.toList, toList_loop s s.size 0 [] (by omega)]
  simp
end Go.Proofs.YtfhjkkcdeigkdaaDoor.PFoldRuns

namespace Go.Proofs.YtfhjkkcdeigkdaaDoor.PFoldRuns
open Go.RowKit Go.Proofs.YtfhjkkcdeigkdaaDoorW.PrintWords Go.Proofs.YtfhjkkcdeigkdaaDoorW.PrintLast Go.Proofs.YtfhjkkcdeigkdaaDoorW.PrintMore
set_option linter.unusedVariables false
set_option linter.unusedSimpArgs false
open Go.Shelf Go.Sort
/-! Rows of the call's own behind new blocks. -/
theorem compact_len (l : List Int) : (Lib.compact l).length ≤ l.length := by
  unfold Lib.compact Lib.compactUpTo
  rw [List.length_map]
  exact Nat.le_trans (List.length_filter_le _ _) (by simp)
theorem own_grow {w : World} {base e size n : Nat} {v : Value} {xs : List Value} (h : w.ownsRow base e size v n xs) (os : Array Obj) : (grow w os).ownsRow base e size v n xs :=
  own_move h (fun k hk => heap_grow_old w os (own_lt h k hk))
theorem below_grow' {B : Nat} {w0 w : World} (h : Below B w0 w) (os : Array Obj) (hB : B ≤ w.heap.size) : Below B w0 (grow w os) :=
  ⟨h.os, h.tape, h.output, by have := h.size; show w0.heap.size ≤ (w.heap ++ os).size; rw [Array.size_append]; omega, fun k hk => by rw [← h.block k hk]; exact heap_grow_old w os (by omega)⟩
end Go.Proofs.YtfhjkkcdeigkdaaDoor.PFoldRuns

-- HAND slices.Clone[paling/api.Code,paling/api.Ins] rounds=0 making=1
namespace Go.Proofs.YtfhjkkcdeigkdaaDoor.PFoldRuns
open Go.RowKit Go.Proofs.YtfhjkkcdeigkdaaDoorW.PrintWords Go.Proofs.YtfhjkkcdeigkdaaDoorW.PrintLast Go.Proofs.YtfhjkkcdeigkdaaDoorW.PrintMore
set_option linter.unusedVariables false
set_option linter.unusedSimpArgs false
/-! slices.Clone of a code. -/
def api_Ins.f (l0 : List S53) : Option (List S53) := if l0.length ≤ 1000000 then some l0 else none
theorem dInsInfo : (Tryd.prog.info? 53).map (fun i => (i.zero, i.size, i.bytes)) = some (some (.agg #[(.int .i64 0), (.int .i64 0), (.int .i64 0), (.int .i64 0), (.int .i64 0), (.int .i64 0), (.int .i64 0)]), 7, 56) := by kernel_rfl
theorem dC_none {n : Nat} {l0 : List S53} {w : World} (h : Kd.C k53 w none n l0) : l0 = [] := by
  obtain ⟨h1, _, h3⟩ := h
  cases l0 with
  | nil => rfl
  | cons x xs => obtain ⟨ad, e, _⟩ := h3 (by rw [← h1]; simp); cases e
theorem dR_empty (w : World) (b : Nat) (hb : b ≤ w.heap.size) : Kd.R k53 53 (w.alloc (.cells #[] 53)) b (fun _ => True) (.slice (some ⟨w.heap.size, 0, none⟩) 0 0) [] :=
  ⟨fun _ _ => trivial, [], World.ownsRow_lit w #[] 0 hb (by unfold maxLen; omega) rfl, Reps.none _ _⟩
theorem dBuild0 (w : World) : (Instr.buildSlice 28 0 #[]).run Tryd.prog w = .ok (.slice (some ⟨w.heap.size, 0, none⟩) 0 0) (w.alloc (.cells #[] 53)) := by
  obtain ⟨i, hi, hh⟩ := Option.map_eq_some_iff.1 dInsInfo
  simp [Instr.buildSlice, run_underlying Tryd.underlying28, sizeOf, typeInfo, hi, newRow, Instr.fill]
  rw [show (Array.map (fun _ => (default : Value)) (Array.range 0)) = #[] from Array.eq_empty_of_size_eq_zero (by simp)]
set_option maxRecDepth 100000 in
set_option maxHeartbeats 2000000 in
theorem api_Ins.calls (A0 : Option Addr) (c0 : Nat) (l0 : List S53) (r : List S53) (w : World) (hr0 : Kd.C k53 w A0 l0.length l0) (hc0 : l0.length ≤ c0) (h : api_Ins.f l0 = some r) :
    Calls Tryd.prog 21 #[.slice A0 l0.length c0] w fun e w' => ∃ v0_ : Value, e = .returned (v0_) ∧ Kd.R k53 53 w' w.heap.size (fun _ => True) v0_ r ∧ Below w.heap.size w w' := by
  unfold api_Ins.f at h
  have hlen : l0.length ≤ 1000000 := by
    by_cases hq : l0.length ≤ 1000000
    · exact hq
    · rw [if_neg hq] at h; cases h
  rw [if_pos hlen] at h
  obtain rfl := Option.some.inj h
  clear h
  have hq := fun (w : World) (a : Option Addr) (n c n' c' : Nat) => Lib.run_eql_slice_nil (P := Tryd.prog) w 28 53 a n c n' c' Tryd.underlying28
  have hbd := dBuild0
  have HR0 := Aside0.mk hr0
  have HC0 := Aside0.mk hc0
  have HL := Aside0.mk hlen
  clear hr0 hc0 hlen
  cases A0 with
  | none =>
    obtain rfl := dC_none HR0.out
    go_enter Tryd.func21, Tryd.ntmps21
    go_wp2_with fail
    go_ret
    exact ⟨_, rfl, Kd.R_nil _ _ _ _ _, Below.refl _ _⟩
  | some ad =>
    have HO := Aside0.mk (dR_empty w w.heap.size (Nat.le_refl _))
    have HX := Aside0.mk (Kd.C_below HR0.out ((Below.refl w.heap.size w).alloc (Nat.le_refl _) (.cells #[] 53)))
    have HB := Aside0.mk ((Below.refl w.heap.size w).alloc (Nat.le_refl _) (.cells #[] 53))
    go_enter Tryd.func21, Tryd.ntmps21
    go_wp2_with (first | ((with_reducible refine gate_builtin (b := .append) (xs := #[.tmp 5, .tmp 6]) rfl ?_); (try (refine gate_guard (by rfl) ?_; dsimp only)); at_builtin; refine Kd.R_append_rows k53 (Rr := k53.K (w.alloc (.cells #[] 53))) (w0 := w) w.heap.size rfl (.tmp 5) (.tmp 6) 28 53 (.agg #[(.int .i64 0), (.int .i64 0), (.int .i64 0), (.int .i64 0), (.int .i64 0), (.int .i64 0), (.int .i64 0)]) 56 rfl Tryd.underlying28 dInsInfo rfl (by decide) (by omega) (.slice (some ⟨w.heap.size, 0, none⟩) 0 0) [] l0 (some ad) l0.length c0 (fun _ => True) (fun _ => False) rfl rfl HO.out HX.out (fun x cs h => by rw [k53_open h]; exact k53_mkM _ _ _ x) (fun _ hk => hk.elim) (fun _ _ => trivial) HB.out HB.out.size (by have := HL.out; simp; omega) ?_; intro v1 w1 ho hb hg hat; have HO1 := Aside0.mk ho; have HB1 := Aside0.mk hb; clear ho hb hg hat HO HX HB))
    go_ret
    exact ⟨_, rfl, by simpa using HO1.out, HB1.out⟩
end Go.Proofs.YtfhjkkcdeigkdaaDoor.PFoldRuns

namespace Go.Proofs.YtfhjkkcdeigkdaaDoor.PFoldRuns
open Go.RowKit Go.Proofs.YtfhjkkcdeigkdaaDoorW.PrintWords Go.Proofs.YtfhjkkcdeigkdaaDoorW.PrintLast Go.Proofs.YtfhjkkcdeigkdaaDoorW.PrintMore
set_option linter.unusedVariables false
set_option linter.unusedSimpArgs false
/-! Plain tools: no program, no memory. -/
theorem wrap_in {x : Int} (h0 : -9223372036854775808 ≤ x) (h1 : x ≤ 9223372036854775807) : wrap64 x = x := by
  unfold wrap64
  omega
theorem wrap_up {i : Int} {n : Nat} (h0 : 0 ≤ i) (h : i < (n : Int)) (hn : n ≤ 4611686018427387904) : wrap64 (i + 1) = i + 1 := wrap_in (by omega) (by omega)
theorem Ev.mono_of {α : Type} {g : Nat → Option α} {r : α} (hg : ∀ k, LeO (g k) (g (k + 1))) (h : ∃ k, g k = some r) : Ev g r := by
  obtain ⟨k, h⟩ := h
  exact Ev.of hg h
theorem Ev.pos {α : Type} {c : Prop} [Decidable c] {g f : Nat → Option α} {r : α} (h : c) (e : Ev g r) : Ev (fun k => if c then g k else f k) r := by
  obtain ⟨K, e⟩ := e
  exact ⟨K, fun k hk => by simp only [if_pos h]; exact e k hk⟩
theorem Ev.neg {α : Type} {c : Prop} [Decidable c] {g f : Nat → Option α} {r : α} (h : ¬ c) (e : Ev f r) : Ev (fun k => if c then g k else f k) r := by
  obtain ⟨K, e⟩ := e
  exact ⟨K, fun k hk => by simp only [if_neg h]; exact e k hk⟩
theorem Ev.tt {α : Type} {g f : Nat → Option α} {r : α} (e : Ev g r) : Ev (fun k => if true = true then g k else f k) r := Ev.pos rfl e
theorem Ev.ff {α : Type} {g f : Nat → Option α} {r : α} (e : Ev f r) : Ev (fun k => if false = true then g k else f k) r := Ev.neg (by simp) e
theorem Ev.con {α : Type} {o : Option α} {r : α} (h : o = some r) : Ev (fun _ => o) r := ⟨0, fun _ _ => h⟩
theorem Ev.det {α : Type} {g : Nat → Option α} {r s : α} (h : Ev g r) (h' : Ev g s) : r = s := by
  obtain ⟨K, h⟩ := h
  obtain ⟨K', h'⟩ := h'
  have a := h (max K K') (Nat.le_max_left _ _)
  have b := h' (max K K') (Nat.le_max_right _ _)
  rw [a] at b
  exact Option.some.inj b
/-- A loop over the places of a list, from place i on: each round answers, or goes on. -/
theorem nodup_len {α : Type} [DecidableEq α] : ∀ {S T : List α}, S.Nodup → (∀ i ∈ S, i ∈ T) → S.length ≤ T.length
  | [], _, _, _ => by simp
  | x :: S, T, h, hs => by
    obtain ⟨h1, h2⟩ := List.nodup_cons.1 h
    have hx := hs x (by simp)
    have := nodup_len (T := T.erase x) h2 (fun i hi => by
      have hne : i ≠ x := fun e => h1 (e ▸ hi)
      exact (List.mem_erase_of_ne hne).2 (hs i (by simp [hi])))
    rw [List.length_erase_of_mem hx] at this
    have hp : 0 < T.length := List.length_pos_of_mem hx
    simp only [List.length_cons]
    omega
theorem getD_drop {α : Type} (l : List α) (z : α) (i : Nat) (h : i < l.length) : l.drop i = l.getD i z :: l.drop (i + 1) := by
  rw [List.drop_eq_getElem_cons h]
  congr 1
  simp [h]
/-- The places from i on, by what is left. -/
theorem up_ind {n : Nat} {P : Int → Prop} (hend : P n) (hstep : ∀ i : Int, 0 ≤ i → i < n → P (i + 1) → P i) : ∀ i : Int, 0 ≤ i → i ≤ n → P i := by
  have key : ∀ (d : Nat) (i : Int), 0 ≤ i → i ≤ n → (n : Int) - i = d → P i := by
    intro d
    induction d with
    | zero =>
      intro i _ _ h
      have : i = n := by omega
      rw [this]; exact hend
    | succ d ih => exact fun i h0 h1 h => hstep i h0 (by omega) (ih (i + 1) (by omega) (by omega) (by omega))
  intro i h0 h1
  exact key ((n : Int) - i).toNat i h0 h1 (by omega)
end Go.Proofs.YtfhjkkcdeigkdaaDoor.PFoldRuns

namespace Go.Proofs.YtfhjkkcdeigkdaaDoor.PFoldRuns
open Go.RowKit Go.Proofs.YtfhjkkcdeigkdaaDoorW.PrintWords Go.Proofs.YtfhjkkcdeigkdaaDoorW.PrintLast Go.Proofs.YtfhjkkcdeigkdaaDoorW.PrintMore
set_option linter.unusedVariables false
set_option linter.unusedSimpArgs false
/-! slices.Contains of whole numbers, in plain words. -/
theorem rd_dropI (l : List Int) (i : Int) (h0 : 0 ≤ i) (h : i < l.length) : l.drop i.toNat = rd l i :: l.drop (i + 1).toNat := by
  rw [show (i + 1).toNat = i.toNat + 1 by omega, List.drop_eq_getElem_cons (by omega)]
  congr 1
  unfold rd
  rw [List.getD_eq_getElem?_getD, List.getElem?_eq_getElem (by omega)]; rfl
theorem indexI (l : List Int) (a : Int) (hl : l.length ≤ 4611686018427387904) : ∃ r : Int, Ev (fun k => slices_Index_int_int.f k l a) r ∧ (decide (r ≥ 0)) = l.contains a := by
  suffices key : ∀ i : Int, 0 ≤ i → i ≤ l.length → ∃ r : Int, Ev (fun k => slices_Index_int_int.l0 k l a (l.length : Int) i) r ∧ (decide (r ≥ 0)) = (l.drop i.toNat).contains a by
    simpa [slices_Index_int_int.f] using key 0 (by omega) (by omega)
  refine up_ind ?_ ?_
  · refine ⟨-1, Ev.step (fun k => rfl) (Ev.neg (by omega) (Ev.con rfl)), ?_⟩
    rw [List.drop_eq_nil_of_le (by omega)]; rfl
  · intro i h0 h1 ⟨r, hr, hd⟩
    rw [rd_dropI l i h0 h1, List.contains_cons]
    by_cases hq : a = rd l i
    · refine ⟨i, Ev.step (fun k => rfl) (Ev.pos h1 (Ev.pos h0 (Ev.pos h1 (Ev.pos hq (Ev.con rfl))))), ?_⟩
      rw [show (a == rd l i) = true by simpa using hq, Bool.true_or]
      simpa using h0
    · refine ⟨r, Ev.step (fun k => rfl) (Ev.pos h1 (Ev.pos h0 (Ev.pos h1 (Ev.neg hq ?_)))), ?_⟩
      · rw [wrap_up h0 h1 hl]; exact hr
      · rw [show (a == rd l i) = false by simpa using hq, Bool.false_or]; exact hd
theorem containsI (l : List Int) (a : Int) (hl : l.length ≤ 4611686018427387904) : Ev (fun k => slices_Contains_int_int.f k l a) (l.contains a) := by
  obtain ⟨r, hr, hd⟩ := indexI l a hl
  unfold slices_Contains_int_int.f
  refine Ev.bind hr (Ev.con ?_)
  rw [hd]
end Go.Proofs.YtfhjkkcdeigkdaaDoor.PFoldRuns

namespace Go.Proofs.YtfhjkkcdeigkdaaDoor.PFoldRuns
open Go.RowKit Go.Proofs.YtfhjkkcdeigkdaaDoorW.PrintWords Go.Proofs.YtfhjkkcdeigkdaaDoorW.PrintLast Go.Proofs.YtfhjkkcdeigkdaaDoorW.PrintMore
set_option linter.unusedVariables false
set_option linter.unusedSimpArgs false
/-! The reference's instructions (palingref11), in plain words. -/
def hasC (s : ByteArray) (c : Int) : Bool := s.data.toList.any (fun b => ((b.toNat : Nat) : Int) == c)
theorem bt_get (s : ByteArray) (i : Int) (h0 : 0 ≤ i) (h1 : i < s.size) : s.data.toList.drop i.toNat = (s.data.toList.getD i.toNat 0) :: s.data.toList.drop (i.toNat + 1) ∧ bt s i = ((s.data.toList.getD i.toNat 0).toNat : Nat) := by
  have hl : i.toNat < s.data.toList.length := by rw [Array.length_toList]; show i.toNat < s.size; omega
  refine ⟨getD_drop _ 0 _ hl, ?_⟩
  have hs : i.toNat < s.size := by omega
  unfold bt
  rw [dif_pos hs]
  congr 2
  rw [List.getD_eq_getElem?_getD, List.getElem?_eq_getElem hl]
  rfl
theorem has_spec (s : ByteArray) (c : Int) (hs : s.size ≤ 4611686018427387904) : Ev (fun k => palingref11_Has.f k s c) (hasC s c) := by
  have key : ∀ i : Int, 0 ≤ i → i ≤ s.size → Ev (fun k => palingref11_Has.l0 k s c i) ((s.data.toList.drop i.toNat).any (fun b => ((b.toNat : Nat) : Int) == c)) := by
    refine up_ind ?_ ?_
    · refine Ev.step (fun k => rfl) (Ev.neg (by omega) (Ev.con ?_))
      rw [List.drop_eq_nil_of_le (by rw [Array.length_toList]; show s.size ≤ _; omega)]
      rfl
    · intro i h0 h1 ih
      obtain ⟨hd, hb⟩ := bt_get s i h0 h1
      refine Ev.step (fun k => rfl) (Ev.pos h1 (Ev.pos h0 ?_))
      rw [hd, List.any_cons]
      by_cases hq : bt s i = c
      · refine Ev.pos hq (Ev.con ?_)
        rw [← hb, hq]; simp
      · refine Ev.neg hq ?_
        rw [wrap_up h0 h1 hs]
        rw [show (i + 1).toNat = i.toNat + 1 by omega] at ih
        rw [← hb, show (bt s i == c) = false by simpa using hq, Bool.false_or]
        exact ih
  simpa [hasC, palingref11_Has.f] using key 0 (by omega) (by omega)
def fldB (a0 : Int) : ByteArray := if 0 ≤ a0 ∧ a0 < 14 then rdOf ByteArray.empty ([(⟨#[68, 78]⟩ : ByteArray), (⟨#[68, 65]⟩ : ByteArray), (⟨#[68, 79, 65, 66]⟩ : ByteArray), (⟨#[68, 65, 66]⟩ : ByteArray), (⟨#[68, 65, 78]⟩ : ByteArray), (⟨#[65, 66, 78]⟩ : ByteArray), (⟨#[84]⟩ : ByteArray), (⟨#[65, 84]⟩ : ByteArray), (⟨#[46]⟩ : ByteArray), (⟨#[78]⟩ : ByteArray), (⟨#[78]⟩ : ByteArray), (⟨#[65]⟩ : ByteArray), (⟨#[78]⟩ : ByteArray), (⟨#[46]⟩ : ByteArray)] : List ByteArray) a0 else ⟨#[]⟩
theorem fields_spec (a0 : Int) : palingref11_fields.f a0 = some (fldB a0) := by
  unfold palingref11_fields.f fldB
  simp only [Option.bind_some, List.length_cons, List.length_nil]
  by_cases h0 : a0 < 0
  · rw [if_pos h0, if_neg (by omega)]
  · by_cases h1 : a0 ≥ 14
    · rw [if_neg h0, if_pos (by simpa using h1), if_neg (by omega)]
    · rw [if_neg h0, if_neg (by simpa using h1), if_pos (by omega), if_pos (by omega), if_pos (by omega)]
theorem kind_cases {P : Int → Prop} (a0 : Int) (h : 0 ≤ a0 ∧ a0 < 14) (h0 : P 0) (h1 : P 1) (h2 : P 2) (h3 : P 3) (h4 : P 4) (h5 : P 5) (h6 : P 6) (h7 : P 7) (h8 : P 8) (h9 : P 9) (h10 : P 10) (h11 : P 11) (h12 : P 12) (h13 : P 13) : P a0 := by
  have : a0 = 0 ∨ a0 = 1 ∨ a0 = 2 ∨ a0 = 3 ∨ a0 = 4 ∨ a0 = 5 ∨ a0 = 6 ∨ a0 = 7 ∨ a0 = 8 ∨ a0 = 9 ∨ a0 = 10 ∨ a0 = 11 ∨ a0 = 12 ∨ a0 = 13 := by omega
  rcases this with rfl | rfl | rfl | rfl | rfl | rfl | rfl | rfl | rfl | rfl | rfl | rfl | rfl | rfl <;> assumption
/-- which fields are an instruction's own: D, A, B, Op, N, To -/
def fD (k : Int) : Bool := k == 0 || k == 1 || k == 2 || k == 3 || k == 4
def fA (k : Int) : Bool := k == 1 || k == 2 || k == 3 || k == 4 || k == 5 || k == 7 || k == 11
def fB (k : Int) : Bool := k == 2 || k == 3 || k == 5
def fO (k : Int) : Bool := k == 2
def fN (k : Int) : Bool := k == 0 || k == 4 || k == 5 || k == 9 || k == 10 || k == 12
def fT (k : Int) : Bool := k == 6 || k == 7
theorem fld_size (a0 : Int) : (fldB a0).size ≤ 4 := by
  by_cases h : 0 ≤ a0 ∧ a0 < 14
  · exact kind_cases (P := fun a => (fldB a).size ≤ 4) a0 h (by decide) (by decide) (by decide) (by decide) (by decide) (by decide) (by decide) (by decide) (by decide) (by decide) (by decide) (by decide) (by decide) (by decide)
  · unfold fldB; rw [if_neg h]; decide
theorem fld_has (a0 : Int) : hasC (fldB a0) 68 = fD a0 ∧ hasC (fldB a0) 65 = fA a0 ∧ hasC (fldB a0) 66 = fB a0 ∧ hasC (fldB a0) 79 = fO a0 ∧ hasC (fldB a0) 78 = fN a0 ∧ hasC (fldB a0) 84 = fT a0 ∧ ((fldB a0).data.toList = [] ↔ ¬ (0 ≤ a0 ∧ a0 < 14)) := by
  by_cases h : 0 ≤ a0 ∧ a0 < 14
  · exact kind_cases (P := fun a0 => hasC (fldB a0) 68 = fD a0 ∧ hasC (fldB a0) 65 = fA a0 ∧ hasC (fldB a0) 66 = fB a0 ∧ hasC (fldB a0) 79 = fO a0 ∧ hasC (fldB a0) 78 = fN a0 ∧ hasC (fldB a0) 84 = fT a0 ∧ ((fldB a0).data.toList = [] ↔ ¬ (0 ≤ a0 ∧ a0 < 14))) a0 h (by decide) (by decide) (by decide) (by decide) (by decide) (by decide) (by decide) (by decide) (by decide) (by decide) (by decide) (by decide) (by decide) (by decide)
  · have : fldB a0 = ⟨#[]⟩ := by unfold fldB; rw [if_neg h]
    rw [this]
    refine ⟨?_, ?_, ?_, ?_, ?_, ?_, ?_⟩
    · simp [hasC, fD]; omega
    · simp [hasC, fA]; omega
    · simp [hasC, fB]; omega
    · simp [hasC, fO]; omega
    · simp [hasC, fN]; omega
    · simp [hasC, fT]; omega
    · exact ⟨fun _ => h, fun _ => rfl⟩
end Go.Proofs.YtfhjkkcdeigkdaaDoor.PFoldRuns

namespace Go.Proofs.YtfhjkkcdeigkdaaDoor.PFoldRuns
open Go.RowKit Go.Proofs.YtfhjkkcdeigkdaaDoorW.PrintWords Go.Proofs.YtfhjkkcdeigkdaaDoorW.PrintLast Go.Proofs.YtfhjkkcdeigkdaaDoorW.PrintMore
set_option linter.unusedVariables false
set_option linter.unusedSimpArgs false
/-! The document's machine of one thread, in plain words: registers, values, steps. -/
def getG : List S69 → Int → Int
  | [], _ => 0
  | x :: xs, n => if x.f0 = n then x.f1 else getG xs n
def putG (l : List S69) (n x : Int) : List S69 := if n < 0 then l else l.filter (fun y => !(y.f0 == n)) ++ [⟨n, x⟩]
def evalL (o a b : Int) : Int := (palingref01_Eval.f 100 o a b).getD 0
def wordL (l : List S69) (x : S53) : Int := if x.f3 < 0 then x.f5 else wrap64 (x.f5 + getG l x.f3)
def valueL (l : List S69) (x : S53) : Int := if x.f0 = 0 then x.f5 else if x.f0 = 1 then getG l x.f3 else if x.f0 = 2 then evalL x.f1 (getG l x.f3) (getG l x.f4) else if getG l x.f3 = 0 then getG l x.f2 else getG l x.f4
theorem gdrop (l : List S69) (i : Int) (h0 : 0 ≤ i) (h : i < (l.length : Int)) : l.drop i.toNat = rd_T69 l i :: l.drop (i + 1).toNat := by
  rw [show (i + 1).toNat = i.toNat + 1 by omega, List.drop_eq_getElem_cons (by omega)]
  congr 1
  unfold rd_T69
  rw [List.getD_eq_getElem?_getD, List.getElem?_eq_getElem (by omega)]; rfl
theorem get_ev (l : List S69) (n : Int) (hl : l.length ≤ 4611686018427387904) : Ev (fun k => palingref12_Get.f k l n) (getG l n) := by
  have key : ∀ i : Int, 0 ≤ i → i ≤ (l.length : Int) → Ev (fun k => palingref12_Get.l0 k l n i) (getG (l.drop i.toNat) n) := by
    refine up_ind ?_ ?_
    · rw [List.drop_eq_nil_of_le (by omega)]
      exact Ev.step (fun k => rfl) (Ev.neg (by omega) (Ev.con rfl))
    · intro i i0 i1 ih
      rw [gdrop l i i0 i1, getG]
      refine Ev.step (fun k => rfl) (Ev.pos i1 (Ev.pos i0 ?_))
      by_cases hq : (rd_T69 l i).f0 = n
      · rw [if_pos hq]; exact Ev.pos hq (Ev.con rfl)
      · rw [if_neg hq, wrap_up i0 i1 hl]; exact Ev.neg hq ih
  exact key 0 (by omega) (by omega)
theorem put_ev (l : List S69) (n x : Int) (hl : l.length ≤ 1000000) : Ev (fun k => palingref12_Put.f k l n x) (putG l n x) := by
  unfold putG
  refine Ev.congr (f := fun k => if n < 0 then some l else palingref12_Put.l0 k l n x [] 0) (fun k => rfl) ?_
  by_cases hn : n < 0
  · rw [if_pos hn]; exact Ev.pos hn (Ev.con rfl)
  rw [if_neg hn]
  refine Ev.neg hn ?_
  have key : ∀ i : Int, 0 ≤ i → i ≤ (l.length : Int) → ∀ o : List S69, (o.length : Int) ≤ i → Ev (fun k => palingref12_Put.l0 k l n x o i) (o ++ (l.drop i.toNat).filter (fun y => !(y.f0 == n)) ++ [⟨n, x⟩]) := by
    refine up_ind ?_ ?_
    · intro o ho
      rw [List.drop_eq_nil_of_le (by omega)]
      exact Ev.step (fun k => rfl) (Ev.neg (by omega) (Ev.pos (by omega) (Ev.con (by simp))))
    · intro i i0 i1 ih o ho
      rw [gdrop l i i0 i1, List.filter_cons]
      refine Ev.step (fun k => rfl) (Ev.pos i1 (Ev.pos i0 ?_))
      rw [wrap_up i0 i1 (by omega)]
      by_cases hq : (rd_T69 l i).f0 = n
      · rw [if_neg (by simp [hq])]
        exact Ev.pos hq (ih o (by omega))
      · rw [if_pos (by simp [hq])]
        refine Ev.neg hq (Ev.pos (by omega) ?_)
        have := ih (o ++ [rd_T69 l i]) (by simp; omega)
        rw [List.append_assoc o] at this
        exact this
  simpa using key 0 (by omega) (by omega) [] (by simp)
theorem putG_len (l : List S69) (n x : Int) : (putG l n x).length ≤ l.length + 1 := by
  unfold putG
  split
  · omega
  · have := List.length_filter_le (fun y : S69 => !(y.f0 == n)) l
    simp; omega
theorem shift_ev (a : Int) (up : Bool) (n : Int) (hn : n ≤ 63) : ∀ (m : Nat) (i a : Int), 0 ≤ i → (n - i).toNat ≤ m → ∀ k, m < k → (palingref01_shift.l0 k a up n i).isSome = true
  | m, i, a, h0, hm, 0, hk => by omega
  | 0, i, a, h0, hm, k + 1, hk => by
    unfold palingref01_shift.l0
    rw [if_neg (by omega)]; rfl
  | m + 1, i, a, h0, hm, k + 1, hk => by
    unfold palingref01_shift.l0
    have hw : wrap64 (i + 1) = i + 1 ∨ ¬ i < n := by
      by_cases h : i < n
      · exact .inl (wrap_in (by omega) (by omega))
      · exact .inr h
    by_cases h : i < n
    · rw [if_pos h]
      have hw : wrap64 (i + 1) = i + 1 := wrap_in (by omega) (by omega)
      rw [hw]
      have ih := fun a => shift_ev a up n hn m (i + 1) a (by omega) (by omega) k (by omega)
      split
      · exact ih _
      · split
        · split <;> exact ih _
        · exact ih _
    · rw [if_neg h]; rfl
theorem shift_some (a b : Int) (up : Bool) (k : Nat) (hk : 70 ≤ k) : (palingref01_shift.f k a b up).isSome = true := by
  unfold palingref01_shift.f
  have h1 := Int.tmod_lt_of_pos (IntKind.u64.wrap b) (show (0 : Int) < 64 by omega)
  have h0 : 0 ≤ IntKind.u64.wrap b := by unfold IntKind.wrap; simp [IntKind.bits, IntKind.signed]; omega
  have h2 := Int.tmod_nonneg 64 h0
  rw [wrap_in (x := Int.tmod (IntKind.u64.wrap b) 64) (by omega) (by omega)]
  exact shift_ev a up _ (by omega) 64 0 a (by omega) (by omega) k (by omega)
theorem eval_ev (o a b : Int) : Ev (fun k => palingref01_Eval.f k o a b) (evalL o a b) := by
  have hs : (palingref01_Eval.f 100 o a b).isSome = true := by
    have h8 := fun up => shift_some a b up 99 (by omega)
    have hd : ∀ x y, (palingref01_div.f x y).isSome = true := fun x y => by unfold palingref01_div.f; split <;> (try split) <;> rfl
    have ho : ∀ x, (palingref01_one.f x).isSome = true := fun x => by unfold palingref01_one.f; split <;> rfl
    have hb : ∀ {α β : Type} (u : Option α) (f : α → Option β), u.isSome = true → (∀ t, (f t).isSome = true) → (u.bind f).isSome = true := fun u f h1 h2 => by
      cases u with
      | none => cases h1
      | some t => exact h2 t
    have hi : ∀ {c : Prop} [Decidable c] (u v : Option Int), u.isSome = true → v.isSome = true → (if c then u else v).isSome = true := fun {c} _ u v h1 h2 => by
      by_cases hc : c
      · rw [if_pos hc]; exact h1
      · rw [if_neg hc]; exact h2
    unfold palingref01_Eval.f
    simp only [palingref01_Eval.j0]
    repeat' first | rfl | exact hb _ _ (hd _ _) (fun _ => rfl) | exact hb _ _ (ho _) (fun _ => rfl) | exact hb _ _ (h8 _) (fun _ => rfl) | refine hi _ _ ?_ ?_
  obtain ⟨v, hv⟩ := Option.isSome_iff_exists.1 hs
  have e : evalL o a b = v := by unfold evalL; rw [hv]; rfl
  rw [e]
  exact Ev.of (palingref01_Eval.mono o a b) hv
/-- what the machine has -/
structure MSt where
  mem : List Int
  own : List S88
  regs : List S69
  pc : Int
  over : Bool
def plainS (x : S53) (s : MSt) : MSt :=
  if x.f0 = 0 ∨ x.f0 = 1 ∨ x.f0 = 2 ∨ x.f0 = 3 then { s with regs := putG s.regs x.f2 (valueL s.regs x), pc := wrap64 (s.pc + 1) }
  else if x.f0 = 4 then { s with regs := putG s.regs x.f2 (if 0 ≤ wordL s.regs x ∧ wordL s.regs x < (s.mem.length : Int) then rd s.mem (wordL s.regs x) else 0), pc := wrap64 (s.pc + 1) }
  else if x.f0 = 5 then { s with mem := if 0 ≤ wordL s.regs x ∧ wordL s.regs x < (s.mem.length : Int) then s.mem.set (wordL s.regs x).toNat (getG s.regs x.f4) else s.mem, pc := wrap64 (s.pc + 1) }
  else if x.f0 = 6 then { s with pc := x.f6 }
  else if x.f0 = 7 ∧ getG s.regs x.f3 = 0 then { s with pc := x.f6 }
  else { s with pc := wrap64 (s.pc + 1) }
def ownerL : List S88 → Int → Int
  | [], _ => -1
  | x :: xs, n => if x.f0 = n then x.f1 else ownerL xs n
/-- a Take, or a Give: the state, the event's kind, and how it ended -/
def lockS (x : S53) (s : MSt) : MSt × (Int × Int) × Int :=
  if x.f0 = 9 ∧ 0 ≤ ownerL s.own x.f5 then (s, (0, 0), 1)
  else ({ s with own := s.own.filter (fun y => !(y.f0 == x.f5)) ++ (if x.f0 = 9 then [⟨x.f5, 0⟩] else []), pc := wrap64 (s.pc + 1) }, (if x.f0 = 9 then 1 else 2, x.f5), 0)
def fetchS (c : List S53) (s : MSt) : S53 := if 0 ≤ s.pc ∧ s.pc < (c.length : Int) then c.getD s.pc.toNat z53 else ⟨13, 0, 0, 0, 0, 0, 0⟩
/-- turns of the machine: the event (kind, N), and how it ended -/
def runS (c : List S53) : Nat → MSt → MSt × (Int × Int) × Int
  | 0, s => (s, (0, 0), 3)
  | f + 1, s =>
    if (fetchS c s).f0 = 11 then ({ s with pc := wrap64 (s.pc + 1) }, (0, getG s.regs (fetchS c s).f3), 0)
    else if (fetchS c s).f0 = 9 ∨ (fetchS c s).f0 = 10 then lockS (fetchS c s) s
    else if (fetchS c s).f0 = 12 then ({ s with over := true }, (3, (fetchS c s).f5), 0)
    else if (fetchS c s).f0 = 13 then ({ s with over := true }, (4, 0), 0)
    else runS c f (plainS (fetchS c s) s)
def nextS (c : List S53) (f : Nat) (s : MSt) : MSt × (Int × Int) × Int := if s.over = true then (s, (0, 0), 2) else runS c f s
end Go.Proofs.YtfhjkkcdeigkdaaDoor.PFoldRuns

namespace Go.Proofs.YtfhjkkcdeigkdaaDoor.PFoldRuns
open Go.RowKit Go.Proofs.YtfhjkkcdeigkdaaDoorW.PrintWords Go.Proofs.YtfhjkkcdeigkdaaDoorW.PrintLast Go.Proofs.YtfhjkkcdeigkdaaDoorW.PrintMore
set_option linter.unusedVariables false
set_option linter.unusedSimpArgs false
/-! The document's machine of one thread, as it lies in memory. -/
/-- blocks of these types stay -/
def Stay (T : List Nat) (W W' : World) : Prop := W.heap.size ≤ W'.heap.size ∧ ∀ k, k < W.heap.size → (∃ q, q ∈ T ∧ ∃ cells, W.heap[k]? = some (.cells cells q (0, 0))) → W'.heap[k]? = W.heap[k]?
theorem Stay.refl (T : List Nat) (W : World) : Stay T W W := ⟨Nat.le_refl _, fun _ _ _ => rfl⟩
theorem Stay.trans {T : List Nat} {a b c : World} (h : Stay T a b) (k : Stay T b c) : Stay T a c :=
  ⟨Nat.le_trans h.1 k.1, fun i hi ht => by
    have e := h.2 i hi ht
    obtain ⟨q, hq, cs, hc⟩ := ht
    exact (k.2 i (Nat.lt_of_lt_of_le hi h.1) ⟨q, hq, cs, e.trans hc⟩).trans e⟩
theorem Stay.below {T : List Nat} {W W' : World} (h : Below W.heap.size W W') : Stay T W W' := ⟨h.size, fun k hk _ => h.block k hk⟩
theorem Stay.set {T : List Nat} {W : World} {g t : Nat} {cs : Array Value} (hg : W.heap[g]? = some (.cells cs t (0, 0))) (ht : t ∉ T) (j : Nat) (u : Value) : Stay T W (W.setCell ⟨g, j, none⟩ u) :=
  ⟨by simp [World.setCell], fun k hk ⟨q, hq, cs', hc⟩ => Below.heap_setCell W ⟨g, j, none⟩ u k (by
    rintro rfl
    have e := Option.some.inj (hg.symm.trans hc)
    injection e with e1 e2 e3
    exact ht (e2 ▸ hq))⟩
theorem Stay.kept {T : List Nat} {W W' : World} {P : Nat → Prop} {t : Nat} (h : Kept W W' P) (hP : ∀ k, P k → ∃ cs, W.heap[k]? = some (.cells cs t (0, 0))) (ht : t ∉ T) : Stay T W W' :=
  ⟨h.1, fun k hk ⟨q, hq, cs, hc⟩ => h.2 k hk (fun hp => by
    obtain ⟨cs', hc'⟩ := hP k hp
    have e := Option.some.inj (hc.symm.trans hc')
    injection e with e1 e2 e3
    exact ht (e2 ▸ hq))⟩
theorem Stay.blk {T : List Nat} {W W' : World} (h : Stay T W W') {g t : Nat} {cs : Array Value} (hg : W.heap[g]? = some (.cells cs t (0, 0))) (ht : t ∈ T) : W'.heap[g]? = some (.cells cs t (0, 0)) := (h.2 g (blk_lt hg) ⟨t, ht, cs, hg⟩).trans hg
theorem Stay.row {α : Type} {d : Kd α} {e base : Nat} {ok : Nat → Prop} {v : Value} {xs : List α} {T : List Nat} {W W' : World} (h : Stay T W W') (hr : d.R e W base ok v xs) (ht : ∀ q, q ∈ e :: d.E → q ∈ T) : d.R e W' base ok v xs :=
  Kd.R_mono (Kd.R_move (Kd.R_bound hr) (fun k hk => by
    obtain ⟨_, _, hlt, q, hq, cs, hc⟩ := hk
    exact h.2 k hlt ⟨q, ht q hq, cs, hc⟩)) (fun _ hk => hk.1)
/-- all but the thread: R's block, its code's, memory's, and locks' rows -/
structure MO (W : World) (base : Nat) (F : Nat → Prop) (b gC gT : Nat) (A0 : Option Addr) (n0 c0 : Nat) (vM vO : Value) (mem : List Int) (own : List S88) : Prop where
  fb : F b ∧ F gC ∧ F gT
  lb : base ≤ b ∧ base ≤ gC ∧ base ≤ gT
  hb : W.heap[b]? = some (.cells #[.slice (some ⟨gC, 0, none⟩) 1 1, vM, vO, .slice (some ⟨gT, 0, none⟩) 1 1] 46 (0, 0))
  hC : W.heap[gC]? = some (.cells #[.slice A0 n0 c0] 28 (0, 0))
  rM : Kd.R (Kd.int .i64) 2 W base F vM mem
  rO : Kd.R k88 88 W base F vO own
/-- its thread: H's block, and the registers' row -/
structure MT (W : World) (base : Nat) (F : Nat → Prop) (gT : Nat) (vG : Value) (regs : List S69) (pc : Int) (over : Bool) : Prop where
  hT : W.heap[gT]? = some (.cells #[.int .i64 pc, vG, .bool over] 42 (0, 0))
  rG : Kd.R k69 69 W base F vG regs
section
variable {W W' : World} {base : Nat} {F : Nat → Prop} {b gC gT : Nat} {A0 : Option Addr} {n0 c0 : Nat} {vM vO vG : Value} {mem : List Int} {own : List S88} {regs : List S69} {pc : Int} {over : Bool}
theorem MO.stay (h : MO W base F b gC gT A0 n0 c0 vM vO mem own) (hs : Stay [46, 28, 2, 88] W W') : MO W' base F b gC gT A0 n0 c0 vM vO mem own :=
  ⟨h.fb, h.lb, hs.blk h.hb (by decide), hs.blk h.hC (by decide), hs.row h.rM (by decide), hs.row h.rO (by decide)⟩
theorem MO.below (h : MO W base F b gC gT A0 n0 c0 vM vO mem own) (hb : Below W.heap.size W W') : MO W' base F b gC gT A0 n0 c0 vM vO mem own := h.stay (Stay.below hb)
theorem MT.stay (h : MT W base F gT vG regs pc over) (hs : Stay [42, 69] W W') : MT W' base F gT vG regs pc over := ⟨hs.blk h.hT (by decide), hs.row h.rG (by decide)⟩
theorem MT.below (h : MT W base F gT vG regs pc over) (hb : Below W.heap.size W W') : MT W' base F gT vG regs pc over := h.stay (Stay.below hb)
theorem MO.mono {F' : Nat → Prop} (h : MO W base F b gC gT A0 n0 c0 vM vO mem own) (hf : ∀ k, F k → F' k) : MO W base F' b gC gT A0 n0 c0 vM vO mem own :=
  ⟨⟨hf _ h.fb.1, hf _ h.fb.2.1, hf _ h.fb.2.2⟩, h.lb, h.hb, h.hC, Kd.R_mono h.rM hf, Kd.R_mono h.rO hf⟩
theorem MT.mono {F' : Nat → Prop} (h : MT W base F gT vG regs pc over) (hf : ∀ k, F k → F' k) : MT W base F' gT vG regs pc over := ⟨h.hT, Kd.R_mono h.rG hf⟩
/-- what another machine does to blocks that are not of this one -/
theorem MO.move (h : MO W base F b gC gT A0 n0 c0 vM vO mem own) (hm : ∀ k, F k → k < W.heap.size → W'.heap[k]? = W.heap[k]?) : MO W' base F b gC gT A0 n0 c0 vM vO mem own :=
  ⟨h.fb, h.lb, (hm b h.fb.1 (blk_lt h.hb)).trans h.hb, (hm gC h.fb.2.1 (blk_lt h.hC)).trans h.hC, Kd.R_step h.rM hm, Kd.R_step h.rO hm⟩
theorem MT.move (h : MT W base F gT vG regs pc over) (hf : F gT) (hm : ∀ k, F k → k < W.heap.size → W'.heap[k]? = W.heap[k]?) : MT W' base F gT vG regs pc over := ⟨(hm gT hf (blk_lt h.hT)).trans h.hT, Kd.R_step h.rG hm⟩
end
theorem MO.tight {W : World} {base : Nat} {F : Nat → Prop} {b gC gT : Nat} {A0 : Option Addr} {n0 c0 : Nat} {vM vO : Value} {mem : List Int} {own : List S88} (h : MO W base F b gC gT A0 n0 c0 vM vO mem own) (hT : gT < W.heap.size) : MO W base (fun k => F k ∧ k < W.heap.size) b gC gT A0 n0 c0 vM vO mem own :=
  ⟨⟨⟨h.fb.1, blk_lt h.hb⟩, ⟨h.fb.2.1, blk_lt h.hC⟩, ⟨h.fb.2.2, hT⟩⟩, h.lb, h.hb, h.hC, Kd.R_mono (Kd.R_bound h.rM) (fun k hk => ⟨hk.1, hk.2.2.1⟩), Kd.R_mono (Kd.R_bound h.rO) (fun k hk => ⟨hk.1, hk.2.2.1⟩)⟩
theorem MT.tight {W : World} {base : Nat} {F : Nat → Prop} {gT : Nat} {vG : Value} {regs : List S69} {pc : Int} {over : Bool} (h : MT W base F gT vG regs pc over) : MT W base (fun k => F k ∧ k < W.heap.size) gT vG regs pc over := ⟨h.hT, Kd.R_mono (Kd.R_bound h.rG) (fun k hk => ⟨hk.1, hk.2.2.1⟩)⟩
theorem odrop (l : List S88) (i : Int) (h0 : 0 ≤ i) (h : i < (l.length : Int)) : l.drop i.toNat = rd_T88 l i :: l.drop (i + 1).toNat := by
  rw [show (i + 1).toNat = i.toNat + 1 by omega, List.drop_eq_getElem_cons (by omega)]
  congr 1
  unfold rd_T88
  rw [List.getD_eq_getElem?_getD, List.getElem?_eq_getElem (by omega)]; rfl
set_option maxRecDepth 100000 in
set_option maxHeartbeats 4000000 in
theorem owner.calls (W : World) (base : Nat) (F : Nat → Prop) (b gC gT : Nat) (A0 : Option Addr) (n0 c0 : Nat) (vM vO : Value) (mem : List Int) (own : List S88) (lock : Int) (h : MO W base F b gC gT A0 n0 c0 vM vO mem own) (hl : own.length ≤ 1000000) :
    Calls Tryd.prog 40 #[.pointer (some ⟨b, 0, none⟩), .int .i64 lock] W fun e w' => e = .returned (.int .i64 (ownerL own lock)) ∧ w' = W := by
  obtain ⟨AO, cO, rfl⟩ := Kd.R_slice h.rO
  have y2 : W.cell? ⟨b, 2, none⟩ = some (.slice AO own.length cO) := (blk_cell h.hb 2).trans rfl
  have HC := Aside0.mk (Kd.R_reads' h.rO).2.2
  have HL := Aside0.mk hl
  clear h hl
  go_enter Tryd.func40, Tryd.ntmps40
  go_wp2_with fail
  go_loopg [5] own.length (fun kq v5 wr => ∃ i : Int, v5 = .int .i64 i ∧ 0 ≤ i ∧ i ≤ own.length ∧ own.length - i ≤ kq ∧ Aside0 (ownerL own lock = ownerL (own.drop i.toNat) lock) ∧ Aside0 (wr = W))
  case atStart => exact ⟨0, rfl, by omega, by omega, by omega, ⟨rfl⟩, ⟨rfl⟩⟩
  case round =>
    obtain ⟨i, rfl, i0, i1, ig, HE, HW⟩ := hrel
    obtain rfl := HW.out
    by_cases hi : i < own.length
    · obtain ⟨ad, e1, q0, q1⟩ := at_T88 HC.out i i0 hi
      cases e1
      have he := HE.out
      rw [odrop own i i0 hi, ownerL] at he
      obtain ⟨x, hx⟩ : ∃ x, x = rd_T88 own i := ⟨_, rfl⟩
      rw [← hx] at q0 q1 he
      clear hx HE
      have HWI := Aside0.mk (show wrap64 (i + 1) = i + 1 by have := HL.out; unfold wrap64; omega)
      by_cases hq : x.f0 = lock
      · rw [if_pos hq] at he
        have HE := Aside0.mk he
        have hq1 : (x.f0 == lock) = true := beq_iff_eq.2 hq
        clear he hq
        go_wp2_with fail
        go_ret
        exact ⟨by rw [HE.out]; rfl, rfl⟩
      · rw [if_neg hq] at he
        have HE := Aside0.mk he
        have hq1 : (x.f0 == lock) = false := beq_eq_false_iff_ne.2 hq
        clear he hq
        go_wp2_with fail
        go_roundg (gk - 1)
        case measure => omega
        case rel => exact ⟨i + 1, by first | rfl | rw [HWI.out], by omega, by omega, by omega, HE, ⟨rfl⟩⟩
    · have he := HE.out
      rw [List.drop_eq_nil_of_le (by omega), ownerL] at he
      have HE1 := Aside0.mk he
      clear he HE
      go_wp2_with fail
      go_ret
      exact ⟨by rw [HE1.out]; rfl, rfl⟩
end Go.Proofs.YtfhjkkcdeigkdaaDoor.PFoldRuns
