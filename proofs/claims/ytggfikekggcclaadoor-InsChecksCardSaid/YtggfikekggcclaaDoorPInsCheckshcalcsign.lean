-- HAND paling/calc.Sign rounds=0 making=1 glob=1
import Derived.Test.YtggfikekggcclaaDoorPInsChecksx0
import Derived.Test.YtggfikekggcclaaDoorPInsCheckshforms
namespace Go.Proofs.YtggfikekggcclaaDoor.PInsChecks
open Go.RowKit Go.Proofs.YtggfikekggcclaaDoorW.PrintWords Go.Proofs.YtggfikekggcclaaDoorW.PrintLast Go.Proofs.YtggfikekggcclaaDoorW.PrintMore
set_option linter.unusedVariables false
set_option linter.unusedSimpArgs false
/-! calc.Sign: how an operator is written. -/
def signB (k : Int) : ByteArray := if 0 ≤ k ∧ k < 19 then signsL.getD k.toNat ⟨#[]⟩ else ⟨#[]⟩
def calc_Sign.f (a0 : Int) : Option ByteArray := some (signB a0)
set_option maxHeartbeats 1000000 in
theorem calc_Sign.calls (a0 : Int) (r : ByteArray) (w : World) (h : calc_Sign.f a0 = some r) (hgl : GlobOK w) :
    Calls Tryd.prog 29 #[.int .i64 a0] w fun e w' => e = .returned (.string r) ∧ Below w.heap.size w w' := by
  unfold calc_Sign.f signB at h
  replace h := Option.some.inj h
  by_cases hr : 0 ≤ a0 ∧ a0 < 19
  · rw [if_pos hr] at h
    obtain ⟨h0, h1⟩ := hr
    have hl : a0.toNat < signsL.length := by show a0.toNat < 19; omega
    have hc := hgl.signs a0.toNat r (by rw [List.getElem?_eq_getElem hl, ← h, List.getD_eq_getElem?_getD, List.getElem?_eq_getElem hl]; rfl)
    have h2 : ¬ a0 < 0 := by omega
    have h3 : ¬ a0 ≥ 19 := by omega
    clear hgl h hl
    go_enter Tryd.func29, Tryd.ntmps29
    go_wp2_with fail
    go_ret
    exact ⟨rfl, Below.refl _ _⟩
  · rw [if_neg hr] at h
    subst h
    clear hgl
    by_cases h0 : a0 < 0
    · clear hr
      go_enter Tryd.func29, Tryd.ntmps29
      go_wp2_with fail
      go_ret
      exact ⟨rfl, Below.refl _ _⟩
    · have h1 : a0 ≥ 19 := by omega
      clear hr
      go_enter Tryd.func29, Tryd.ntmps29
      go_wp2_with fail
      go_ret
      exact ⟨rfl, Below.refl _ _⟩
end Go.Proofs.YtggfikekggcclaaDoor.PInsChecks
