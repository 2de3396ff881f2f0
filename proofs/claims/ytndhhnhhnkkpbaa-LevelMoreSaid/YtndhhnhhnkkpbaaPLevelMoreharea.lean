-- HAND paling/level.Area rounds=0 making=1
import Derived.Test.YtndhhnhhnkkpbaaPLevelMorex0
import Derived.Test.YtndhhnhhnkkpbaaPLevelMorehidxArea
import Derived.Test.YtndhhnhhnkkpbaaPLevelMorehscan
namespace Go.Proofs.Ytndhhnhhnkkpbaa.PLevelMore
open Go.RowKit Go.Proofs.YtndhhnhhnkkpbaaW.PrintWords Go.Proofs.YtndhhnhhnkkpbaaW.PrintLast Go.Proofs.YtndhhnhhnkkpbaaW.PrintMore
set_option linter.unusedVariables false
set_option linter.unusedSimpArgs false

theorem area1.calls (x0 x1 word : Int) (x2 : Bool) (B : Nat) (w : World) (hc : w.cell? ⟨B, 0, none⟩ = some (.int .i64 word)) :
    Calls Try.prog 17 #[.agg #[.int .i64 x0, .int .i64 x1, .bool x2], .pointer (some ⟨B, 0, none⟩)] w fun e w' => e = .returned (.bool (decide (word ≥ x0) && decide (word < wrap64 (x0 + x1)))) ∧ Below w.heap.size w w' := by
  have hB := World.block_lt_of_cell? w _ hc
  by_cases h : x0 ≤ word
  · have hd : decide (word ≥ x0) = true := decide_eq_true h
    rw [hd]
    go_enter Try.func17, Try.ntmps17
    go_wp2
    go_ret
    exact ⟨by simp [h], (Below.refl _ _).alloc (Nat.le_refl _) _⟩
  · have hd : decide (word ≥ x0) = false := decide_eq_false h
    rw [hd]
    go_enter Try.func17, Try.ntmps17
    go_wp2
    go_ret
    exact ⟨by simp [h], (Below.refl _ _).alloc (Nat.le_refl _) _⟩

def inArea (word : Int) (x : S26) : Bool := decide (word ≥ x.f0) && decide (word < wrap64 (x.f0 + x.f1))
def level_Area.f (l0 : List S26) (a1 : Int) : Option Int := if l0.length ≤ 9223372036854775807 then some (scanIdx (σ := Unit) (fun _ => inArea a1) (fun _ _ => ()) () l0 0).1 else none
set_option maxHeartbeats 1000000 in
theorem level_Area.calls (A0 : Option Addr) (c0 : Nat) (l0 : List S26) (a1 : Int) (r : Int) (w : World) (hr0 : Kd.C k26 w A0 l0.length l0) (hc0 : l0.length ≤ c0) (h : level_Area.f l0 a1 = some r) :
    Calls Try.prog 7 #[.slice A0 l0.length c0, .int .i64 a1] w fun e w' => e = .returned (.int .i64 r) ∧ Below w.heap.size w w' := by
  unfold level_Area.f at h
  by_cases hl : l0.length ≤ 9223372036854775807
  · rw [if_pos hl] at h
    obtain rfl := Option.some.inj h
    have HR0 := Aside0.mk hr0
    clear hr0 h
    have hmf : ∀ (fn : Fn) (first cap : Array Value) (w : World), (Instr.makeFunc fn first cap).run Try.prog w = .ok (.func fn first cap) w := fun _ _ _ _ => rfl
    go_enter Try.func7, Try.ntmps7
    go_wp2_with fail
    have hcl := idxArea.calls (σ := Unit) (fun _ => inArea a1) (fun _ _ => ()) (fun _ W => Below (w.heap.size + 1) (w.alloc (Obj.cells #[Value.int IntKind.i64 a1] 2)) W) #[.pointer (some ⟨w.heap.size, 0, none⟩)] 17 A0 c0 l0 () (w.alloc (Obj.cells #[Value.int IntKind.i64 a1] 2)) hl
      (enters_ Try.func17 (by kernel_rfl) rfl) (fun _ W hb => Kd.C_below HR0.out (below_step ((Below.refl _ _).alloc (Nat.le_refl _) _) (hb.mono (by simp)))) (Below.refl _ _) (fun _ x W hb => by
        have h1 := area1.calls x.f0 x.f1 a1 x.f2 w.heap.size W ((hb.cell (p := ⟨w.heap.size, 0, none⟩) (by simp)).trans (by simp))
        refine Calls.mono (R := fun e w' => e = .returned (.bool (decide (a1 ≥ x.f0) && decide (a1 < wrap64 (x.f0 + x.f1)))) ∧ Below W.heap.size W w') h1 ?_
        rintro e w' ⟨rfl, hb'⟩
        exact ⟨rfl, hb.trans (hb'.mono (by have := hb.size; simpa using this))⟩)
    refine hcl.mono ?_
    rintro e w' ⟨rfl, hb'⟩
    have HB := Aside0.mk (below_step ((Below.refl _ _).alloc (Nat.le_refl _) _) (hb'.mono (by simp)) : Below w.heap.size w w')
    clear hb' hcl
    go_wp2
    go_ret
    exact ⟨rfl, HB.out⟩
  · rw [if_neg hl] at h
    exact absurd h (by simp)
end Go.Proofs.Ytndhhnhhnkkpbaa.PLevelMore
