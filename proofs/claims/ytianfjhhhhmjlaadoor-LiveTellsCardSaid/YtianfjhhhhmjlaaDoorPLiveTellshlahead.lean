-- HAND paling/live.Ahead rounds=1 making=1 needs=paling/live.next;paling/ins.Uses;paling/ins.Def
-- HAND paling/live.Behind rounds=1 making=1 needs=paling/live.next;paling/ins.Uses;paling/ins.Def
import Derived.Test.YtianfjhhhhmjlaaDoorPLiveTellsx0
import Derived.Test.YtianfjhhhhmjlaaDoorPLiveTellshforms
import Derived.Test.YtianfjhhhhmjlaaDoorPLiveTellshlflow
import Derived.Test.YtianfjhhhhmjlaaDoorPLiveTellshlrows
namespace Go.Proofs.YtianfjhhhhmjlaaDoor.PLiveTells
open Go.RowKit Go.Proofs.YtianfjhhhhmjlaaDoorW.PrintWords Go.Proofs.YtianfjhhhhmjlaaDoorW.PrintLast Go.Proofs.YtianfjhhhhmjlaaDoorW.PrintMore
set_option linter.unusedVariables false
set_option linter.unusedSimpArgs false
open Go.MapKept Go.RowKit
/-! live.Ahead, live.Behind. -/
def live_Ahead.f (k : Nat) (c : List S39) : Option (List (List Int)) := (live_flow.f k c).bind fun r => if wfRows r.1 then some r.1 else none
def live_Behind.f (k : Nat) (c : List S39) : Option (List (List Int)) := (live_flow.f k c).bind fun r => if wfRows r.2 then some r.2 else none
theorem live_Ahead.mono : ∀ a0 k, LeO (live_Ahead.f k a0) (live_Ahead.f (k + 1) a0) := fun a0 k => LeO.bind (live_flow.mono a0 k) (fun _ => LeO.refl _)
theorem live_Behind.mono : ∀ a0 k, LeO (live_Behind.f k a0) (live_Behind.f (k + 1) a0) := fun a0 k => LeO.bind (live_flow.mono a0 k) (fun _ => LeO.refl _)
set_option maxHeartbeats 1000000 in
theorem live_Ahead.calls (k : Nat) (A0 : Option Addr) (c0 : Nat) (l0 : List S39) (r : List (List Int)) (w : World) (hr0 : Kd.C k39 w A0 l0.length l0) (hc0 : l0.length ≤ c0) (h : live_Ahead.f k l0 = some r) (hgl : GlobOK w) :
    Calls Tryd.prog 12 #[.slice A0 l0.length c0] w fun e w' => ∃ v0_ : Value, e = .returned (v0_) ∧ Kd.S (Kd.slice 3 (Kd.int .i64)) 36 w' w.heap.size (fun _ => True) v0_ r ∧ Below w.heap.size w w' := by
  unfold live_Ahead.f at h
  obtain ⟨R, h1, h2⟩ := Option.bind_eq_some_iff.1 h
  by_cases hw : wfRows R.1
  case neg => rw [if_neg hw] at h2; exact absurd h2 (by simp)
  rw [if_pos hw] at h2
  have HR := Aside0.mk (Option.some.inj h2)
  have HW := Aside0.mk hw
  have CF := Aside0.mk (live_flow.calls k A0 c0 l0 R w hr0 hc0 h1 hgl)
  clear h h1 h2 hw hr0 hc0 hgl
  go_enter Tryd.func12, Tryd.ntmps12
  go_wp2_with fail
  refine CF.out.mono ?_
  rintro e w1 ⟨va, vb, xa, xb, rfl, hok, hb⟩
  have HO := Aside0.mk hok
  have HB := Aside0.mk hb
  clear hok hb CF
  go_wp2_with fail
  refine (lrows.calls w.heap.size va xa R.1 w1 HO.out.ra HO.out.la HO.out.ma HO.out.ua HW.out).mono ?_
  rintro e w2 ⟨v0, rfl, hS, hb2⟩
  have HS := Aside0.mk (Kd.S_lower hS HB.out.size)
  have HB2 := Aside0.mk (HB.out.trans (hb2.mono HB.out.size))
  clear hS hb2
  go_wp2
  go_ret
  exact ⟨v0, rfl, by rw [← HR.out]; exact HS.out, HB2.out⟩
set_option maxHeartbeats 1000000 in
theorem live_Behind.calls (k : Nat) (A0 : Option Addr) (c0 : Nat) (l0 : List S39) (r : List (List Int)) (w : World) (hr0 : Kd.C k39 w A0 l0.length l0) (hc0 : l0.length ≤ c0) (h : live_Behind.f k l0 = some r) (hgl : GlobOK w) :
    Calls Tryd.prog 14 #[.slice A0 l0.length c0] w fun e w' => ∃ v0_ : Value, e = .returned (v0_) ∧ Kd.S (Kd.slice 3 (Kd.int .i64)) 36 w' w.heap.size (fun _ => True) v0_ r ∧ Below w.heap.size w w' := by
  unfold live_Behind.f at h
  obtain ⟨R, h1, h2⟩ := Option.bind_eq_some_iff.1 h
  by_cases hw : wfRows R.2
  case neg => rw [if_neg hw] at h2; exact absurd h2 (by simp)
  rw [if_pos hw] at h2
  have HR := Aside0.mk (Option.some.inj h2)
  have HW := Aside0.mk hw
  have CF := Aside0.mk (live_flow.calls k A0 c0 l0 R w hr0 hc0 h1 hgl)
  clear h h1 h2 hw hr0 hc0 hgl
  go_enter Tryd.func14, Tryd.ntmps14
  go_wp2_with fail
  refine CF.out.mono ?_
  rintro e w1 ⟨va, vb, xa, xb, rfl, hok, hb⟩
  have HO := Aside0.mk hok
  have HB := Aside0.mk hb
  clear hok hb CF
  go_wp2_with fail
  refine (lrows.calls w.heap.size vb xb R.2 w1 HO.out.rb HO.out.lb HO.out.mb HO.out.ub HW.out).mono ?_
  rintro e w2 ⟨v0, rfl, hS, hb2⟩
  have HS := Aside0.mk (Kd.S_lower hS HB.out.size)
  have HB2 := Aside0.mk (HB.out.trans (hb2.mono HB.out.size))
  clear hS hb2
  go_wp2
  go_ret
  exact ⟨v0, rfl, by rw [← HR.out]; exact HS.out, HB2.out⟩
end Go.Proofs.YtianfjhhhhmjlaaDoor.PLiveTells
