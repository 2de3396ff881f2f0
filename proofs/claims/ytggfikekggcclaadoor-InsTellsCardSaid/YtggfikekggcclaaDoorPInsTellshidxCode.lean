import Derived.Test.YtggfikekggcclaaDoorPInsTellsx0
import Derived.Test.YtggfikekggcclaaDoorPInsTellshscan
namespace Go.Proofs.YtggfikekggcclaaDoor.PInsTells
open Go.RowKit Go.Proofs.YtggfikekggcclaaDoorW.PrintWords Go.Proofs.YtggfikekggcclaaDoorW.PrintLast Go.Proofs.YtggfikekggcclaaDoorW.PrintMore
set_option linter.unusedVariables false
set_option linter.unusedSimpArgs false

set_option maxHeartbeats 4000000 in
theorem idxCode.calls {σ : Type} (p : σ → S23 → Bool) (nx : σ → S23 → σ) (I : σ → World → Prop) (lb : Array Value) (g : Nat) (A0 : Option Addr) (c0 : Nat) (l0 : List S23) (s0 : σ) (w : World) (hlen : l0.length ≤ 9223372036854775807)
    (eg : ∀ args w, (callFunc g args).run Tryd.prog w = .ok (.enter g args) w) (hC : ∀ s W, I s W → Kd.C k23 W A0 l0.length l0) (h0 : I s0 w)
    (hp : ∀ (s : σ) (x : S23) (W : World), I s W → Calls Tryd.prog g (#[.agg #[.int .i64 x.f0, .int .i64 x.f1, .int .i64 x.f2, .int .i64 x.f3, .int .i64 x.f4, .int .i64 x.f5, .int .i64 x.f6]] ++ lb) W fun e w' => e = .returned (.bool (p s x)) ∧ I (nx s x) w') :
    Calls Tryd.prog 49 #[.slice A0 l0.length c0, .func (.func g) #[] lb] w fun e w' => e = .returned (.int .i64 (scanIdx p nx s0 l0 0).1) ∧ I (scanIdx p nx s0 l0 0).2 w' := by
  have HC := Aside0.mk hC
  clear hC
  have HP := Aside0.mk hp
  clear hp
  have HI0 := Aside0.mk h0
  clear h0
  go_enter Tryd.func49, Tryd.ntmps49
  go_wp2
  go_loopg [5, 8] l0.length (fun gg _ s8 wr => ∃ (kk : Int) (s : σ), 0 ≤ kk ∧ kk ≤ l0.length ∧ l0.length - kk ≤ gg ∧ s8 = .int .i64 kk ∧ Aside0 (I s wr) ∧ Aside0 (scanIdx p nx s0 l0 0 = scanIdx p nx s (l0.drop kk.toNat) kk.toNat))
  case atStart => exact ⟨0, s0, by omega, by omega, by omega, rfl, HI0, ⟨rfl⟩⟩
  case round =>
    clear HI0
    obtain ⟨kk, s, hk0, hkk, hg, rfl, HI, HS⟩ := hrel
    by_cases hlt : kk < l0.length
    · have hdrop := drop_one l0 (z23) kk.toNat (by omega)
      obtain ⟨ad, e101, h0, h1, h2, h3, h4, h5, h6⟩ := at_T23 (HC.out _ _ HI.out) kk hk0 hlt
      cases e101
      have hcall := HP.out s (rd_T23 l0 kk) wr HI.out
      have hrd : l0.getD kk.toNat (z23) = rd_T23 l0 kk := rfl
      rw [hrd] at hdrop
      clear HP hrd
      obtain ⟨y, hy⟩ : ∃ y, y = rd_T23 l0 kk := ⟨_, rfl⟩
      rw [← hy] at h0 h1 h2 h3 h4 h5 h6 hcall hdrop
      clear hy
      have HS' := Aside0.mk (HS.out.trans (by rw [hdrop, scanIdx]))
      clear hdrop HS
      cases hq : p s y with
      | true =>
        rw [hq] at hcall HS'
        clear hq
        have HCL := Aside0.mk hcall
        clear hcall
        go_wp2_with fail
        refine HCL.out.mono ?_
        rintro e w' ⟨rfl, hb'⟩
        have HB := Aside0.mk hb'
        clear hb' HCL HI eg
        go_wp2
        go_ret
        rw [HS'.out]
        refine ⟨?_, HB.out⟩
        show Ending.returned (.int .i64 kk) = .returned (.int .i64 ((kk.toNat : Nat) : Int))
        rw [show ((kk.toNat : Nat) : Int) = kk by omega]
      | false =>
        rw [hq] at hcall HS'
        clear hq
        have HCL := Aside0.mk hcall
        clear hcall
        go_wp2_with fail
        refine HCL.out.mono ?_
        rintro e w' ⟨rfl, hb'⟩
        have HB := Aside0.mk hb'
        clear hb' HCL HI eg
        go_wp2
        go_roundg (l0.length - (kk.toNat + 1))
        case measure => omega
        case rel => exact ⟨kk + 1, nx s y, by omega, by omega, by omega, by go_num, HB, ⟨HS'.out.trans (by simp only [Bool.false_eq_true, if_false]; rw [show (kk + 1).toNat = kk.toNat + 1 by omega])⟩⟩
    · clear HP eg
      have hd : l0.drop kk.toNat = [] := List.drop_eq_nil_of_le (by omega)
      have HS' := Aside0.mk (HS.out.trans (by rw [hd, scanIdx]))
      clear hd HS
      go_wp2
      go_ret
      rw [HS'.out]
      exact ⟨rfl, HI.out⟩
theorem hasCode.calls {σ : Type} (p : σ → S23 → Bool) (nx : σ → S23 → σ) (I : σ → World → Prop) (lb : Array Value) (g : Nat) (A0 : Option Addr) (c0 : Nat) (l0 : List S23) (s0 : σ) (w : World) (hlen : l0.length ≤ 9223372036854775807)
    (eg : ∀ args w, (callFunc g args).run Tryd.prog w = .ok (.enter g args) w) (hC : ∀ s W, I s W → Kd.C k23 W A0 l0.length l0) (h0 : I s0 w)
    (hp : ∀ (s : σ) (x : S23) (W : World), I s W → Calls Tryd.prog g (#[.agg #[.int .i64 x.f0, .int .i64 x.f1, .int .i64 x.f2, .int .i64 x.f3, .int .i64 x.f4, .int .i64 x.f5, .int .i64 x.f6]] ++ lb) W fun e w' => e = .returned (.bool (p s x)) ∧ I (nx s x) w') :
    Calls Tryd.prog 37 #[.slice A0 l0.length c0, .func (.func g) #[] lb] w fun e w' => e = .returned (.bool (decide ((scanIdx p nx s0 l0 0).1 ≥ 0))) ∧ I (scanIdx p nx s0 l0 0).2 w' := by
  have HCL := Aside0.mk (idxCode.calls p nx I lb g A0 c0 l0 s0 w hlen eg hC h0 hp)
  clear hp hC h0
  obtain ⟨r, hr⟩ : ∃ r, r = scanIdx p nx s0 l0 0 := ⟨_, rfl⟩
  rw [← hr] at HCL ⊢
  clear hr
  obtain ⟨r1, r2⟩ := r
  go_enter Tryd.func37, Tryd.ntmps37
  go_wp2_with fail
  refine HCL.out.mono ?_
  rintro e w' ⟨rfl, hb'⟩
  have HB := Aside0.mk hb'
  clear hb' HCL eg
  go_wp2
  go_ret
  exact ⟨rfl, HB.out⟩
end Go.Proofs.YtggfikekggcclaaDoor.PInsTells
