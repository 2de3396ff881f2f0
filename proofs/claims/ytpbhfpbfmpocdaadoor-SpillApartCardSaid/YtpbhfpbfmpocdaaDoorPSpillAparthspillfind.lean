-- HAND paling/spill.find rounds=0 making=1
import Derived.Test.YtpbhfpbfmpocdaaDoorPSpillApartx0
import Derived.Test.YtpbhfpbfmpocdaaDoorPSpillAparthidxPlace
import Derived.Test.YtpbhfpbfmpocdaaDoorPSpillAparthscan
namespace Go.Proofs.YtpbhfpbfmpocdaaDoor.PSpillApart
open Go.RowKit Go.Proofs.YtpbhfpbfmpocdaaDoorW.PrintWords Go.Proofs.YtpbhfpbfmpocdaaDoorW.PrintLast Go.Proofs.YtpbhfpbfmpocdaaDoorW.PrintMore
set_option linter.unusedVariables false
set_option linter.unusedSimpArgs false

theorem find1.calls (x0 x1 reg : Int) (B : Nat) (w : World) (hc : w.cell? ⟨B, 0, none⟩ = some (.int .i64 reg)) :
    Calls Tryd.prog 40 #[.agg #[.int .i64 x0, .int .i64 x1], .pointer (some ⟨B, 0, none⟩)] w fun e w' => e = .returned (.bool (x0 == reg)) ∧ Below w.heap.size w w' := by
  have hB := World.block_lt_of_cell? w _ hc
  go_enter Tryd.func40, Tryd.ntmps40
  go_wp2
  go_ret
  exact ⟨rfl, (Below.refl _ _).alloc (Nat.le_refl _) _⟩
def findIdx (l : List S45) (reg : Int) : Int := (scanIdx (σ := Unit) (fun _ x => x.f0 == reg) (fun _ _ => ()) () l 0).1
def spill_find.f (l0 : List S45) (a1 : Int) : Option Int := if l0.length ≤ 9223372036854775807 then some (findIdx l0 a1) else none
set_option maxHeartbeats 1000000 in
theorem spill_find.calls (A0 : Option Addr) (c0 : Nat) (l0 : List S45) (a1 : Int) (r : Int) (w : World) (hr0 : Kd.C k45 w A0 l0.length l0) (hc0 : l0.length ≤ c0) (h : spill_find.f l0 a1 = some r) :
    Calls Tryd.prog 25 #[.slice A0 l0.length c0, .int .i64 a1] w fun e w' => e = .returned (.int .i64 r) ∧ Below w.heap.size w w' := by
  unfold spill_find.f at h
  by_cases hl : l0.length ≤ 9223372036854775807
  · rw [if_pos hl] at h
    obtain rfl := Option.some.inj h
    have HR0 := Aside0.mk hr0
    clear hr0 h
    have hmf : ∀ (fn : Fn) (first cap : Array Value) (w : World), (Instr.makeFunc fn first cap).run Tryd.prog w = .ok (.func fn first cap) w := fun _ _ _ _ => rfl
    go_enter Tryd.func25, Tryd.ntmps25
    go_wp2_with fail
    have hcl := idxPlace.calls (σ := Unit) (fun _ x => x.f0 == a1) (fun _ _ => ()) (fun _ W => Below (w.heap.size + 1) (w.alloc (Obj.cells #[Value.int IntKind.i64 a1] 3)) W) #[.pointer (some ⟨w.heap.size, 0, none⟩)] 40 A0 c0 l0 () (w.alloc (Obj.cells #[Value.int IntKind.i64 a1] 3)) hl
      (enters_ Tryd.func40 (by kernel_rfl) rfl) (fun _ W hb => Kd.C_below HR0.out (below_step ((Below.refl _ _).alloc (Nat.le_refl _) _) (hb.mono (by simp)))) (Below.refl _ _) (fun _ x W hb => by
        have h1 := find1.calls x.f0 x.f1 a1 w.heap.size W ((hb.cell (p := ⟨w.heap.size, 0, none⟩) (by simp)).trans (by simp))
        refine Calls.mono (R := fun e w' => e = .returned (.bool (x.f0 == a1)) ∧ Below W.heap.size W w') h1 ?_
        rintro e w' ⟨rfl, hb'⟩
        exact ⟨rfl, hb.trans (hb'.mono (by have := hb.size; simpa using this))⟩)
    refine hcl.mono ?_
    rintro e w' ⟨rfl, hb'⟩
    have HB := Aside0.mk (below_step ((Below.refl _ _).alloc (Nat.le_refl _) _) (hb'.mono (by simp)) : Below w.heap.size w w')
    clear hb' hcl
    go_wp2
    go_ret
    exact ⟨rfl, HB.out⟩
  · rw [if_neg hl] at h
    exact absurd h (by simp)
end Go.Proofs.YtpbhfpbfmpocdaaDoor.PSpillApart
