-- HAND paling/live.Most rounds=1 making=1 needs=paling/live.next;paling/ins.Uses;paling/ins.Def
import Derived.Test.YtianfjhhhhmjlaaDoorPLiveTellsx0
import Derived.Test.YtianfjhhhhmjlaaDoorPLiveTellshforms
import Derived.Test.YtianfjhhhhmjlaaDoorPLiveTellshlenv
import Derived.Test.YtianfjhhhhmjlaaDoorPLiveTellshlflow
import Derived.Test.YtianfjhhhhmjlaaDoorPLiveTellshlgrow
import Derived.Test.YtianfjhhhhmjlaaDoorPLiveTellshlrows
import Derived.Test.YtianfjhhhhmjlaaDoorPLiveTellshplain0
namespace Go.Proofs.YtianfjhhhhmjlaaDoor.PLiveTells
open Go.RowKit Go.Proofs.YtianfjhhhhmjlaaDoorW.PrintWords Go.Proofs.YtianfjhhhhmjlaaDoorW.PrintLast Go.Proofs.YtianfjhhhhmjlaaDoorW.PrintMore
set_option linter.unusedVariables false
set_option linter.unusedSimpArgs false
open Go.MapKept Go.RowKit
attribute [local go_sem] max2_int
/-! live.Most: how many registers are needed at once, at most. -/
def mostL (L : List (List Int)) : Int := L.foldl (fun n l => mx n (l.length : Int)) 0
def live_Most.f (k : Nat) (c : List S39) : Option Int := (live_flow.f k c).bind fun r => if wfRows r.1 then some (mostL r.1) else none
theorem live_Most.mono : ∀ a0 k, LeO (live_Most.f k a0) (live_Most.f (k + 1) a0) := fun a0 k => LeO.bind (live_flow.mono a0 k) (fun _ => LeO.refl _)
set_option maxHeartbeats 4000000 in
set_option maxRecDepth 100000 in
theorem live_Most.calls (k : Nat) (A0 : Option Addr) (c0 : Nat) (l0 : List S39) (r : Int) (w : World) (hr0 : Kd.C k39 w A0 l0.length l0) (hc0 : l0.length ≤ c0) (h : live_Most.f k l0 = some r) (hgl : GlobOK w) :
    Calls Tryd.prog 16 #[.slice A0 l0.length c0] w fun e w' => e = .returned (.int .i64 r) ∧ Below w.heap.size w w' := by
  unfold live_Most.f at h
  obtain ⟨R, h1, h2⟩ := Option.bind_eq_some_iff.1 h
  by_cases hw : wfRows R.1
  case neg => rw [if_neg hw] at h2; exact absurd h2 (by simp)
  rw [if_pos hw] at h2
  have HR := Aside0.mk (Option.some.inj h2)
  have HW := Aside0.mk hw
  have CF := Aside0.mk (live_flow.calls k A0 c0 l0 R w hr0 hc0 h1 hgl)
  clear h h1 h2 hw hr0 hc0 hgl
  go_enter Tryd.func16, Tryd.ntmps16
  go_wp2_with fail
  refine CF.out.mono ?_
  rintro e w1 ⟨va, vb, xa, xb, rfl, hok, hb⟩
  have HO := Aside0.mk hok
  have HB := Aside0.mk hb
  obtain ⟨Aa, ca, ea⟩ := own_slice hok.ra
  subst ea
  clear hok hb CF
  go_wp2_with fail
  go_loopg [5, 15] R.1.length (fun kq v5 v15 wr => ∃ (t : Nat) (n : Int), v5 = .int .i64 n ∧ v15 = .int .i64 (t : Int) ∧ Aside0 (t + kq = R.1.length) ∧ Aside0 ((R.1.drop t).foldl (fun n l => mx n (l.length : Int)) n = r) ∧ Aside0 (wr = w1))
  case atStart => exact ⟨0, 0, rfl, rfl, ⟨by omega⟩, HR, ⟨rfl⟩⟩
  case round =>
    obtain ⟨t, n, rfl, rfl, HK, HE, HWR⟩ := hrel
    obtain rfl := HWR.out
    have ht0 : (0 : Int) ≤ (t : Int) := by omega
    have hla := HO.out.la
    by_cases hlt : (t : Int) < (xa.length : Int)
    case neg =>
      have he := HE.out
      rw [List.drop_eq_nil_of_le (by have := HK.out; omega)] at he
      obtain rfl : n = r := he
      clear HE HK hla
      go_wp2_with fail
      go_ret
      exact ⟨rfl, HB.out⟩
    cases gk with
    | zero => exact absurd HK.out (by omega)
    | succ m1 =>
    obtain ⟨b, hb⟩ : ∃ b, xa[t]? = some b := ⟨_, List.getElem?_eq_getElem (by omega)⟩
    obtain ⟨g, cap, ev, hx⟩ := own_map_at HO.out.ra hb
    cases ev
    have him := HO.out.ma t b hb
    have he := HE.out
    rw [getD_drop R.1 [] t (by omega), List.foldl_cons] at he
    obtain ⟨l, hl⟩ : ∃ l, l = R.1.getD t [] := ⟨_, rfl⟩
    rw [← hl] at him he
    have HE1 := Aside0.mk he
    have hlen := maplen b l.length (lv l) wr him 0
    change ∀ ty, (Builtin.len_ #[51] ty #[.map (some b)]).run Tryd.prog wr = .ok (.int .i64 l.length) wr at hlen
    have h63 : (t : Int) + 1 ≤ 9223372036854775807 := by have := HW.out.1; omega
    clear hb him he hl hla HE
    go_wp2_with fail
    go_roundg m1
    case measure => omega
    case rel => exact ⟨t + 1, _, rfl, by (try push_cast); (try rfl), ⟨by have := HK.out; omega⟩, ⟨by have h1 := HE1.out; rw [show mx n (l.length : Int) = max n (l.length : Int) by unfold mx; omega] at h1; exact h1⟩, ⟨rfl⟩⟩
end Go.Proofs.YtianfjhhhhmjlaaDoor.PLiveTells
