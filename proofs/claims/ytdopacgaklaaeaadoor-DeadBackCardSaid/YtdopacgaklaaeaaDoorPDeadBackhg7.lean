import Derived.Test.YtdopacgaklaaeaaDoorPDeadBackx0
import Derived.Test.YtdopacgaklaaeaaDoorPDeadBackhg6
import Derived.Test.YtdopacgaklaaeaaDoorPDeadBackhdback2
import Derived.Test.YtdopacgaklaaeaaDoorPDeadBackhdcode
import Derived.Test.YtdopacgaklaaeaaDoorPDeadBackhdmv
import Derived.Test.YtdopacgaklaaeaaDoorPDeadBackhdcl
import Derived.Test.YtdopacgaklaaeaaDoorPDeadBackhplain0
import Derived.Test.YtdopacgaklaaeaaDoorPDeadBackx7
namespace Go.Proofs.YtdopacgaklaaeaaDoor.PDeadBack
open Go.RowKit Go.Proofs.YtdopacgaklaaeaaDoorW.PrintWords Go.Proofs.YtdopacgaklaaeaaDoorW.PrintLast Go.Proofs.YtdopacgaklaaeaaDoorW.PrintMore
set_option linter.unusedVariables false
set_option linter.unusedSimpArgs false
/-! A code with fences, without them again, is what it was. -/
def goneB : List Bool → List Bool
  | [] => []
  | b :: bs => if b = true then true :: false :: goneB bs else false :: goneB bs
theorem drop_facts {α : Type} {l : List α} {m : Nat} {a z : α} {r : List α} (h : l.drop m = a :: r) : l.getD m z = a ∧ l.drop (m + 1) = r := by
  constructor
  · have e := congrArg (fun q => q.getD 0 z) h
    simpa [List.getD_eq_getElem?_getD, List.getElem?_drop] using e
  · rw [← List.drop_drop, h]; rfl
theorem keep_ins (y : S28) (f : S28 → S28) (g gone : List Bool) : ∀ (l : List S28) (n m : Nat), n + l.length = g.length → gone.drop m = goneB (g.drop n) → keepL (fun i _ => gone.getD i false) m ((insertL y g n l).map f) = l.map f
  | [], n, m, hn, hd => rfl
  | a :: tl, n, m, hn, hd => by
    have hl : n < g.length := by simp at hn; omega
    rw [getD_drop g false n hl, goneB] at hd
    rw [insertL]
    cases hg : g.getD n false with
    | true =>
      rw [hg, if_pos rfl] at hd
      obtain ⟨h1, h2⟩ := drop_facts (z := false) hd
      obtain ⟨h3, h4⟩ := drop_facts (z := false) h2
      rw [if_pos rfl, List.map_cons, List.map_cons, keepL, if_pos h1, keepL, if_neg (by rw [h3]; simp), keep_ins y f g gone tl (n + 1) (m + 1 + 1) (by simp at hn; omega) h4, List.map_cons]
    | false =>
      rw [hg, if_neg (by simp)] at hd
      obtain ⟨h1, h2⟩ := drop_facts (z := false) hd
      rw [if_neg (by simp), List.map_cons, keepL, if_neg (by rw [h1]; simp), keep_ins y f g gone tl (n + 1) (m + 1) (by simp at hn; omega) h2, List.map_cons]
theorem cnt_gone : ∀ (g : List Bool) (p : Nat), p ≤ g.length → cntD (goneB g) false (posL g p) = p
  | g, 0, h => by simp [posL, cntD]
  | [], p + 1, h => by simp at h
  | b :: bs, p + 1, h => by
    have ih := cnt_gone bs p (by simp at h; omega)
    have e : posL (b :: bs) (p + 1) = posL bs p + 1 + (if b = true then 1 else 0) := by
      unfold posL cntD
      rw [List.take_succ_cons, List.count_cons]
      cases b <;> simp <;> omega
    rw [e, goneB]
    unfold cntD at ih ⊢
    cases b with
    | true =>
      simp only [if_true]
      rw [List.take_succ_cons, List.take_succ_cons, List.count_cons, List.count_cons, ih]
      simp
    | false =>
      simp only [Bool.false_eq_true, if_false, Nat.add_zero]
      rw [List.take_succ_cons, List.count_cons, ih]
      simp
theorem goneB_len : ∀ g : List Bool, (goneB g).length = posL g g.length
  | [] => by simp [goneB, posL, cntD]
  | b :: bs => by
    have ih := goneB_len bs
    have e : posL (b :: bs) (bs.length + 1) = posL bs bs.length + 1 + (if b = true then 1 else 0) := by
      unfold posL cntD
      rw [List.take_succ_cons, List.count_cons]
      cases b <;> simp <;> omega
    rw [List.length_cons, e, goneB]
    cases b <;> simp [ih]
theorem less_fenced {c : List S28} {g : List Bool} (hg : g.length = c.length) (hl : c.length ≤ 1000) (hok : ∀ x ∈ c, 0 ≤ x.f6 ∧ x.f6 < (c.length : Int)) : lessL (fenced c g) (goneB g) = c := by
  unfold lessL fenced
  rw [keep_ins fenceI (mvx (tgt (goneB g))) g (goneB g) _ 0 0 (by simp; omega) rfl, List.map_map]
  have hid : ∀ x ∈ c, (mvx (tgt (goneB g)) ∘ mvx (insM g)) x = x := by
    intro x hx
    obtain ⟨x0, x1⟩ := hok x hx
    show mvx (tgt (goneB g)) (mvx (insM g) x) = x
    unfold mvx
    by_cases hk : x.f0 = 6 ∨ x.f0 = 7
    · rw [if_pos hk, if_pos hk]
      have hp := posL_le hg x.f6.toNat (by omega)
      have h1 : insM g x.f6 = ((posL g x.f6.toNat : Nat) : Int) := by
        unfold insM posL at *
        rw [wrap_in (by omega) (by omega)]
        omega
      have h2 : tgt (goneB g) (insM g x.f6) = x.f6 := by
        unfold tgt
        rw [h1, Int.toNat_natCast, cnt_gone g x.f6.toNat (by omega), goneB_len, cnt_gone g g.length (Nat.le_refl _), mn_eq]
        omega
      rw [h2]
    · rw [if_neg hk, if_neg hk]
  rw [List.map_congr_left hid]
  simp
end Go.Proofs.YtdopacgaklaaeaaDoor.PDeadBack

namespace Go.Proofs.YtdopacgaklaaeaaDoor.PDeadBack
open Go.RowKit Go.Proofs.YtdopacgaklaaeaaDoorW.PrintWords Go.Proofs.YtdopacgaklaaeaaDoorW.PrintLast Go.Proofs.YtdopacgaklaaeaaDoorW.PrintMore
set_option linter.unusedVariables false
set_option linter.unusedSimpArgs false
/-! The reference's instructions (palingref11), in plain words. -/
def hasC (s : ByteArray) (c : Int) : Bool := s.data.toList.any (fun b => ((b.toNat : Nat) : Int) == c)
theorem bt_get (s : ByteArray) (i : Int) (h0 : 0 ≤ i) (h1 : i < s.size) : s.data.toList.drop i.toNat = (s.data.toList.getD i.toNat 0) :: s.data.toList.drop (i.toNat + 1) ∧ bt s i = ((s.data.toList.getD i.toNat 0).toNat : Nat) := by
  have hl : i.toNat < s.data.toList.length := by rw [Array.length_toList]; show i.toNat < s.size; omega
  refine ⟨getD_drop _ 0 _ hl, ?_⟩
  have hs : i.toNat < s.size := by omega
  unfold bt
  rw [dif_pos hs]
  congr 2
  rw [List.getD_eq_getElem?_getD, List.getElem?_eq_getElem hl]
  rfl
theorem has_spec (s : ByteArray) (c : Int) (hs : s.size ≤ 4611686018427387904) : Ev (fun k => palingref11_Has.f k s c) (hasC s c) := by
  have key : ∀ i : Int, 0 ≤ i → i ≤ s.size → Ev (fun k => palingref11_Has.l0 k s c i) ((s.data.toList.drop i.toNat).any (fun b => ((b.toNat : Nat) : Int) == c)) := by
    refine up_ind ?_ ?_
    · refine Ev.step (fun k => rfl) (Ev.neg (by omega) (Ev.con ?_))
      rw [List.drop_eq_nil_of_le (by rw [Array.length_toList]; show s.size ≤ _; omega)]
      rfl
    · intro i h0 h1 ih
      obtain ⟨hd, hb⟩ := bt_get s i h0 h1
      refine Ev.step (fun k => rfl) (Ev.pos h1 (Ev.pos h0 ?_))
      rw [hd, List.any_cons]
      by_cases hq : bt s i = c
      · refine Ev.pos hq (Ev.con ?_)
        rw [← hb, hq]; simp
      · refine Ev.neg hq ?_
        rw [wrap_up h0 h1 hs]
        rw [show (i + 1).toNat = i.toNat + 1 by omega] at ih
        rw [← hb, show (bt s i == c) = false by simpa using hq, Bool.false_or]
        exact ih
  simpa [hasC, palingref11_Has.f] using key 0 (by omega) (by omega)
def fldB (a0 : Int) : ByteArray := if 0 ≤ a0 ∧ a0 < 14 then rdOf ByteArray.empty ([(⟨#[68, 78]⟩ : ByteArray), (⟨#[68, 65]⟩ : ByteArray), (⟨#[68, 79, 65, 66]⟩ : ByteArray), (⟨#[68, 65, 66]⟩ : ByteArray), (⟨#[68, 65, 78]⟩ : ByteArray), (⟨#[65, 66, 78]⟩ : ByteArray), (⟨#[84]⟩ : ByteArray), (⟨#[65, 84]⟩ : ByteArray), (⟨#[46]⟩ : ByteArray), (⟨#[78]⟩ : ByteArray), (⟨#[78]⟩ : ByteArray), (⟨#[65]⟩ : ByteArray), (⟨#[78]⟩ : ByteArray), (⟨#[46]⟩ : ByteArray)] : List ByteArray) a0 else ⟨#[]⟩
theorem fields_spec (a0 : Int) : palingref11_fields.f a0 = some (fldB a0) := by
  unfold palingref11_fields.f fldB
  simp only [Option.bind_some, List.length_cons, List.length_nil]
  by_cases h0 : a0 < 0
  · rw [if_pos h0, if_neg (by omega)]
  · by_cases h1 : a0 ≥ 14
    · rw [if_neg h0, if_pos (by simpa using h1), if_neg (by omega)]
    · rw [if_neg h0, if_neg (by simpa using h1), if_pos (by omega), if_pos (by omega), if_pos (by omega)]
theorem kind_cases {P : Int → Prop} (a0 : Int) (h : 0 ≤ a0 ∧ a0 < 14) (h0 : P 0) (h1 : P 1) (h2 : P 2) (h3 : P 3) (h4 : P 4) (h5 : P 5) (h6 : P 6) (h7 : P 7) (h8 : P 8) (h9 : P 9) (h10 : P 10) (h11 : P 11) (h12 : P 12) (h13 : P 13) : P a0 := by
  have : a0 = 0 ∨ a0 = 1 ∨ a0 = 2 ∨ a0 = 3 ∨ a0 = 4 ∨ a0 = 5 ∨ a0 = 6 ∨ a0 = 7 ∨ a0 = 8 ∨ a0 = 9 ∨ a0 = 10 ∨ a0 = 11 ∨ a0 = 12 ∨ a0 = 13 := by omega
  rcases this with rfl | rfl | rfl | rfl | rfl | rfl | rfl | rfl | rfl | rfl | rfl | rfl | rfl | rfl <;> assumption
/-- which fields are an instruction's own: D, A, B, Op, N, To -/
def fD (k : Int) : Bool := k == 0 || k == 1 || k == 2 || k == 3 || k == 4
def fA (k : Int) : Bool := k == 1 || k == 2 || k == 3 || k == 4 || k == 5 || k == 7 || k == 11
def fB (k : Int) : Bool := k == 2 || k == 3 || k == 5
def fO (k : Int) : Bool := k == 2
def fN (k : Int) : Bool := k == 0 || k == 4 || k == 5 || k == 9 || k == 10 || k == 12
def fT (k : Int) : Bool := k == 6 || k == 7
theorem fld_size (a0 : Int) : (fldB a0).size ≤ 4 := by
  by_cases h : 0 ≤ a0 ∧ a0 < 14
  · exact kind_cases (P := fun a => (fldB a).size ≤ 4) a0 h (by decide) (by decide) (by decide) (by decide) (by decide) (by decide) (by decide) (by decide) (by decide) (by decide) (by decide) (by decide) (by decide) (by decide)
  · unfold fldB; rw [if_neg h]; decide
theorem fld_has (a0 : Int) : hasC (fldB a0) 68 = fD a0 ∧ hasC (fldB a0) 65 = fA a0 ∧ hasC (fldB a0) 66 = fB a0 ∧ hasC (fldB a0) 79 = fO a0 ∧ hasC (fldB a0) 78 = fN a0 ∧ hasC (fldB a0) 84 = fT a0 ∧ ((fldB a0).data.toList = [] ↔ ¬ (0 ≤ a0 ∧ a0 < 14)) := by
  by_cases h : 0 ≤ a0 ∧ a0 < 14
  · exact kind_cases (P := fun a0 => hasC (fldB a0) 68 = fD a0 ∧ hasC (fldB a0) 65 = fA a0 ∧ hasC (fldB a0) 66 = fB a0 ∧ hasC (fldB a0) 79 = fO a0 ∧ hasC (fldB a0) 78 = fN a0 ∧ hasC (fldB a0) 84 = fT a0 ∧ ((fldB a0).data.toList = [] ↔ ¬ (0 ≤ a0 ∧ a0 < 14))) a0 h (by decide) (by decide) (by decide) (by decide) (by decide) (by decide) (by decide) (by decide) (by decide) (by decide) (by decide) (by decide) (by decide) (by decide)
  · have : fldB a0 = ⟨#[]⟩ := by unfold fldB; rw [if_neg h]
    rw [this]
    refine ⟨?_, ?_, ?_, ?_, ?_, ?_, ?_⟩
    · simp [hasC, fD]; omega
    · simp [hasC, fA]; omega
    · simp [hasC, fB]; omega
    · simp [hasC, fO]; omega
    · simp [hasC, fN]; omega
    · simp [hasC, fT]; omega
    · exact ⟨fun _ => h, fun _ => rfl⟩
end Go.Proofs.YtdopacgaklaaeaaDoor.PDeadBack
