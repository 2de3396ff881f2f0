-- HAND paling/calc.Digits rounds=0 making=1
import Derived.Test.YtggfikekggcclaaDoorPInsChecksx0
import Derived.Test.YtggfikekggcclaaDoorPInsCheckshforms
import Derived.Test.YtggfikekggcclaaDoorShelf
import Derived.Lib.ItoaLen
import Derived.Lib.AppendIntMem
namespace Go.Proofs.YtggfikekggcclaaDoor.PInsChecks
open Go.RowKit Go.Proofs.YtggfikekggcclaaDoorW.PrintWords Go.Proofs.YtggfikekggcclaaDoorW.PrintLast Go.Proofs.YtggfikekggcclaaDoorW.PrintMore
set_option linter.unusedVariables false
set_option linter.unusedSimpArgs false
open Go.Shelf
/-! calc: a number in digits; an operator's sign. -/
def digB (n : Int) : ByteArray := ⟨(Lib.itoa n).toArray⟩
def calc_Digits.f (a0 : Int) : Option ByteArray := if -9223372036854775808 ≤ a0 ∧ a0 ≤ 9223372036854775807 then some (digB a0) else none
theorem calc_Digits.calls (a0 : Int) (r : ByteArray) (w : World) (h : calc_Digits.f a0 = some r) (hgl : GlobOK w) :
    Calls Tryd.prog 30 #[.int .i64 a0] w fun e w' => e = .returned (.string r) ∧ Below w.heap.size w w' := by
  unfold calc_Digits.f at h
  by_cases hr : -9223372036854775808 ≤ a0 ∧ a0 ≤ 9223372036854775807
  · rw [if_pos hr] at h
    replace h := Option.some.inj h
    obtain ⟨h0, h1⟩ := hr
    have hcon := Tryd.strconv_FormatInt_10 a0 h0 h1 w hgl.pow10
    change Calls Tryd.prog 45 _ _ _ at hcon
    rw [show (⟨(Lib.itoa a0).toArray⟩ : ByteArray) = r from h] at hcon
    clear h hgl h0 h1
    go_enter Tryd.func30, Tryd.ntmps30
    go_wp2_with (go_at_call 45; refine hcon.mono ?_; rintro e w' ⟨rfl, q, os, rfl⟩)
    go_ret
    exact ⟨rfl, Lib.below_grow w.heap.size w (Nat.le_refl _) q os⟩
  · rw [if_neg hr] at h
    exact absurd h (by simp)
end Go.Proofs.YtggfikekggcclaaDoor.PInsChecks
