-- HAND paling/palingref01.Digits rounds=0 making=1
import Derived.Test.YtggfikekggcclaaDoorPInsTellsx0
import Derived.Lib.ItoaLen
namespace Go.Proofs.YtggfikekggcclaaDoor.PInsTells
open Go.RowKit Go.Proofs.YtggfikekggcclaaDoorW.PrintWords Go.Proofs.YtggfikekggcclaaDoorW.PrintLast Go.Proofs.YtggfikekggcclaaDoorW.PrintMore
set_option linter.unusedVariables false
set_option linter.unusedSimpArgs false
/-! palingref01.Digits: a number in digits, as the document says it. -/
theorem dig_piece : ∀ i : Fin 10, ((⟨#[48, 49, 50, 51, 52, 53, 54, 55, 56, 57]⟩ : ByteArray).extract i.val (i.val + 1)).data.toList = [UInt8.ofNat (48 + i.val)] := by decide +kernel
theorem ba_ext0 {a b : ByteArray} (h : a.data.toList = b.data.toList) : a = b := by
  cases a; cases b
  simp only [ByteArray.mk.injEq]
  exact Array.toList_inj.1 h
def palingref01_Digits.f (a0 : Int) : Option ByteArray := if -9223372036854775808 ≤ a0 ∧ a0 ≤ 9223372036854775807 then some ⟨(Lib.itoa a0).toArray⟩ else none
set_option maxHeartbeats 4000000 in
set_option maxRecDepth 100000 in
theorem digits01Q (a0 : Int) (r : ByteArray) (w : World) (h : palingref01_Digits.f a0 = some r) :
    Calls Tryd.prog 32 #[.int .i64 a0] w fun e w' => e = .returned (.string r) ∧ w = w' := by
  unfold palingref01_Digits.f at h
  by_cases hr : -9223372036854775808 ≤ a0 ∧ a0 ≤ 9223372036854775807
  case neg => rw [if_neg hr] at h; exact absurd h (by simp)
  rw [if_pos hr] at h
  replace h := Option.some.inj h
  have HR := Aside0.mk h
  have HI := Aside0.mk hr
  clear h hr
  obtain ⟨dn, hdn⟩ : ∃ b, b = decide (a0 < 0) := ⟨_, rfl⟩
  have HDN := Aside0.mk hdn
  have hdn' := hdn.symm
  clear hdn
  go_enter Tryd.func32, Tryd.ntmps32
  go_wp2
  go_loopg [0, 3] a0.natAbs (fun gg v0 v3 wr => ∃ (n : Int) (s : ByteArray), v0 = .int .i64 n ∧ v3 = .string s ∧ w = wr ∧ Aside0 (n.natAbs ≤ gg) ∧ Aside0 (-9223372036854775808 ≤ n ∧ n ≤ 9223372036854775807) ∧ Aside0 (Lib.decDigits a0.natAbs = Lib.decDigits n.natAbs ++ s.data.toList))
  case atStart => exact ⟨a0, ⟨#[]⟩, rfl, rfl, rfl, ⟨Nat.le_refl _⟩, HI, ⟨by simp⟩⟩
  case round =>
    obtain ⟨n, s, rfl, rfl, rfl, HG, HN, HD⟩ := hrel
    obtain ⟨d, hd⟩ : ∃ d : Nat, d = n.natAbs % 10 := ⟨_, rfl⟩
    obtain ⟨q, hq⟩ : ∃ q : Int, q = Int.tdiv n 10 := ⟨_, rfl⟩
    have hdn0 : (Int.tmod n 10).natAbs = d := by rw [Int.natAbs_tmod, hd]; rfl
    have hqn0 : q.natAbs = n.natAbs / 10 := by rw [hq, Int.natAbs_tdiv]; rfl
    have hn := HN.out
    have hd10 : d < 10 := by rw [hd]; exact Nat.mod_lt _ (by omega)
    obtain ⟨P, hP⟩ : ∃ P : ByteArray, (⟨#[48, 49, 50, 51, 52, 53, 54, 55, 56, 57]⟩ : ByteArray).extract d (d + 1) = P := ⟨_, rfl⟩
    have hpd : P.data.toList = [UInt8.ofNat (48 + d)] := by rw [← hP]; exact dig_piece ⟨d, hd10⟩
    have hPs : P.size = 1 := (Array.length_toList).symm.trans (congrArg List.length hpd)
    have hss : s.size ≤ 20 := by
      have h1 := congrArg List.length HD.out
      have h2 := Lib.nDigits_le20 a0.natAbs (by have := HI.out; omega)
      have h3 : s.data.toList.length = s.size := Array.length_toList
      rw [Lib.decDigits_length, List.length_append] at h1
      omega
    have hPS : (P ++ s).size = P.size + s.size := ByteArray.size_append
    have z1 := eq_true (show P.size + s.size ≤ 9223372036854775807 by omega)
    have z1b : decide (P.size + s.size ≤ 9223372036854775807) = true := decide_eq_true (by omega)
    have z1c : (9223372036854775807 < P.size + s.size) = False := eq_false (by omega)
    have z2 := eq_true (show 1 + (P ++ s).size ≤ 9223372036854775807 by omega)
    have z2b : decide (1 + (P ++ s).size ≤ 9223372036854775807) = true := decide_eq_true (by omega)
    have z2c : (9223372036854775807 < 1 + (P ++ s).size) = False := eq_false (by omega)
    have z3 := eq_true (show 1 + (P.size + s.size) ≤ 9223372036854775807 by omega)
    have z3b : decide (1 + (P.size + s.size) ≤ 9223372036854775807) = true := decide_eq_true (by omega)
    have z3c : (9223372036854775807 < 1 + (P.size + s.size)) = False := eq_false (by omega)
    have HQ := Aside0.mk hqn0
    have HPD := Aside0.mk hpd
    have hdec : Lib.decDigits n.natAbs = if n.natAbs < 10 then [UInt8.ofNat (48 + d)] else Lib.decDigits (n.natAbs / 10) ++ [UInt8.ofNat (48 + d)] := by
      by_cases h : n.natAbs < 10
      · rw [if_pos h, Lib.decDigits_one h, hd, Nat.mod_eq_of_lt h]
      · rw [if_neg h, Lib.decDigits, dif_neg h, hd]
    have hd2 := HD.out
    rw [hdec] at hd2
    have HD2 := Aside0.mk hd2
    have hq0 : -9223372036854775808 ≤ q := by omega
    have hq1 : q ≤ 9223372036854775807 := by omega
    have hquo := hq.symm
    have hds : (d : Int) + 1 ≤ 10 := by omega
    have hds0 : (0 : Int) ≤ (d : Int) := by omega
    have hds2 : (d : Int) ≤ (d : Int) + 1 := by omega
    have hcase : (Int.tmod n 10 = -(d : Int) ∧ 0 < d) ∨ (Int.tmod n 10 = (d : Int)) := by omega
    clear hd hn hdn0 hPs hss hPS hpd hdec hd2 hqn0 hq
    by_cases hz : q = 0
    · have hlt : n.natAbs < 10 := by have := HQ.out; omega
      have hd3 := HD2.out
      rw [if_pos hlt, ← HPD.out] at hd3
      have HD3 := Aside0.mk hd3
      clear HD HD2 hd3 hlt HQ
      have hz' : (q == 0) = true := beq_iff_eq.2 hz
      subst hz
      cases dn with
      | true =>
        have hr : (⟨#[45]⟩ : ByteArray) ++ (P ++ s) = r := by
          rw [← HR.out]
          refine ba_ext0 ?_
          rw [ByteArray.data_append, Array.toList_append, ByteArray.data_append, Array.toList_append]
          show _ = Lib.itoa a0
          unfold Lib.itoa
          rw [if_pos (of_decide_eq_true HDN.out.symm), HD3.out]
          rfl
        have HRR := Aside0.mk hr
        clear hr
        rcases hcase with ⟨hrem, hdp⟩ | hrem
        · have h0' : decide (-(d : Int) < 0) = true := decide_eq_true (by omega)
          go_wp2
          go_ret
          exact ⟨by rw [← HRR.out]; rfl, rfl⟩
        · have h0' : decide ((d : Int) < 0) = false := decide_eq_false (by omega)
          go_wp2
          go_ret
          exact ⟨by rw [← HRR.out]; rfl, rfl⟩
      | false =>
        have hr : P ++ s = r := by
          rw [← HR.out]
          refine ba_ext0 ?_
          rw [ByteArray.data_append, Array.toList_append]
          show _ = Lib.itoa a0
          have ha : ¬ a0 < 0 := of_decide_eq_false HDN.out.symm
          unfold Lib.itoa
          rw [if_neg ha, show a0.toNat = a0.natAbs by omega, HD3.out]
        have HRR := Aside0.mk hr
        clear hr
        rcases hcase with ⟨hrem, hdp⟩ | hrem
        · have h0' : decide (-(d : Int) < 0) = true := decide_eq_true (by omega)
          go_wp2
          go_ret
          exact ⟨by rw [← HRR.out]; rfl, rfl⟩
        · have h0' : decide ((d : Int) < 0) = false := decide_eq_false (by omega)
          go_wp2
          go_ret
          exact ⟨by rw [← HRR.out]; rfl, rfl⟩
    · have hge : ¬ n.natAbs < 10 := by have := HQ.out; omega
      have hd3 := HD2.out
      rw [if_neg hge, ← HPD.out, ← HQ.out, List.append_assoc] at hd3
      have HD3 := Aside0.mk hd3
      have hmz := HQ.out
      have hmm : q.natAbs < n.natAbs := by omega
      have HM := Aside0.mk hmm
      clear HD HD2 hd3 hge HQ hmz hmm
      have hz' : (q == 0) = false := by simpa using hz
      clear hz
      rcases hcase with ⟨hrem, hdp⟩ | hrem
      · have h0' : decide (-(d : Int) < 0) = true := decide_eq_true (by omega)
        go_wp2
        go_roundg q.natAbs
        case measure => have := HM.out; have := HG.out; omega
        case rel => exact ⟨q, P ++ s, rfl, rfl, rfl, ⟨Nat.le_refl _⟩, ⟨⟨hq0, hq1⟩⟩, ⟨by rw [ByteArray.data_append, Array.toList_append]; exact HD3.out⟩⟩
      · have h0' : decide ((d : Int) < 0) = false := decide_eq_false (by omega)
        go_wp2
        go_roundg q.natAbs
        case measure => have := HM.out; have := HG.out; omega
        case rel => exact ⟨q, P ++ s, rfl, rfl, rfl, ⟨Nat.le_refl _⟩, ⟨⟨hq0, hq1⟩⟩, ⟨by rw [ByteArray.data_append, Array.toList_append]; exact HD3.out⟩⟩
theorem palingref01_Digits.calls (a0 : Int) (r : ByteArray) (w : World) (h : palingref01_Digits.f a0 = some r) :
    Calls Tryd.prog 32 #[.int .i64 a0] w fun e w' => e = .returned (.string r) ∧ Below w.heap.size w w' := by
  refine (digits01Q a0 r w h).mono ?_
  rintro e w' ⟨rfl, rfl⟩
  exact ⟨rfl, Below.refl _ _⟩
end Go.Proofs.YtggfikekggcclaaDoor.PInsTells
