-- HAND paling/ins.Def rounds=0 making=1 needs=paling/ins.of
import Derived.Test.YtdopacgaklaaeaaDoorPDeadOncex0
import Derived.Test.YtdopacgaklaaeaaDoorPDeadOncehforms
namespace Go.Proofs.YtdopacgaklaaeaaDoor.PDeadOnce
open Go.RowKit Go.Proofs.YtdopacgaklaaeaaDoorW.PrintWords Go.Proofs.YtdopacgaklaaeaaDoorW.PrintLast Go.Proofs.YtdopacgaklaaeaaDoorW.PrintMore
set_option linter.unusedVariables false
set_option linter.unusedSimpArgs false
/-! ins.Def: the register that an instruction writes. -/
def ins_Def.f (a0_0 : Int) (a0_1 : Int) (a0_2 : Int) (a0_3 : Int) (a0_4 : Int) (a0_5 : Int) (a0_6 : Int) : Option Int := some (if fmB 1 a0_0 = true then a0_2 else -1)
theorem ins_Def.calls (a0_0 : Int) (a0_1 : Int) (a0_2 : Int) (a0_3 : Int) (a0_4 : Int) (a0_5 : Int) (a0_6 : Int) (r : Int) (w : World) (h : ins_Def.f a0_0 a0_1 a0_2 a0_3 a0_4 a0_5 a0_6 = some r) (hgl : GlobOK w) :
    Calls Tryd.prog 25 #[.agg #[.int .i64 a0_0, .int .i64 a0_1, .int .i64 a0_2, .int .i64 a0_3, .int .i64 a0_4, .int .i64 a0_5, .int .i64 a0_6]] w fun e w' => e = .returned (.int .i64 r) ∧ Below w.heap.size w w' := by
  unfold ins_Def.f at h
  replace h := Option.some.inj h
  have HGL := Aside0.mk hgl
  clear hgl
  obtain ⟨q, hq⟩ : ∃ q, q = fmB 1 a0_0 := ⟨_, rfl⟩
  rw [← hq] at h
  have HQ := Aside0.mk hq
  clear hq
  go_enter Tryd.func25, Tryd.ntmps25
  go_wp2_with fail
  refine (ins_ofV.calls a0_0 _ (HGL.out.alloc _)).mono ?_
  rintro e w' ⟨rfl, hb⟩
  unfold formV
  rw [← HQ.out]
  have hx2 : w'.cell? ⟨w.heap.size, 2, none⟩ = some (.int .i64 a0_2) := (blk_cell (blk_below (blk_new w _) hb) 2).trans rfl
  have HB := Aside0.mk (below_step ((Below.refl _ _).alloc (Nat.le_refl _) _) hb)
  have hfl := form_field1
  clear hb HGL HQ
  cases q with
  | true =>
    rw [if_pos rfl] at h
    subst h
    go_wp2_with fail
    go_ret
    exact ⟨rfl, HB.out⟩
  | false =>
    rw [if_neg (by simp)] at h
    subst h
    go_wp2_with fail
    go_ret
    exact ⟨rfl, HB.out⟩
end Go.Proofs.YtdopacgaklaaeaaDoor.PDeadOnce
