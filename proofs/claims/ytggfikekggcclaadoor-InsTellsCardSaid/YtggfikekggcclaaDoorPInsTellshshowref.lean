-- HAND paling/palingref11.r rounds=0 making=1 needs=paling/palingref01.Digits
-- HAND paling/palingref11.Show rounds=0 making=1 needs=paling/palingref01.Digits;paling/palingref11.r;paling/palingref01.Sign
import Derived.Test.YtggfikekggcclaaDoorPInsTellsx0
import Derived.Test.YtggfikekggcclaaDoorPInsTellsx8
import Derived.Test.YtggfikekggcclaaDoorPInsTellshcalc
import Derived.Test.YtggfikekggcclaaDoorPInsTellshcalcsign
import Derived.Test.YtggfikekggcclaaDoorPInsTellshdigits01
import Derived.Test.YtggfikekggcclaaDoorPInsTellshforms
import Derived.Test.YtggfikekggcclaaDoorPInsTellshinsshow
import Derived.Test.YtggfikekggcclaaDoorPInsTellshshowparts
import Derived.Deep.QuietTactic
import Derived.BigQuiet
namespace Go.Proofs.YtggfikekggcclaaDoor.PInsTells
open Go.RowKit Go.Proofs.YtggfikekggcclaaDoorW.PrintWords Go.Proofs.YtggfikekggcclaaDoorW.PrintLast Go.Proofs.YtggfikekggcclaaDoorW.PrintMore
set_option linter.unusedVariables false
set_option linter.unusedSimpArgs false
open Go.Shelf
/-! palingref11.Show: the document's text of an instruction is the program's (wip/gen_showref.py). -/
theorem digQ (n : Int) (h : inI64 n) (w : World) : Calls Tryd.prog 32 #[.int .i64 n] w fun e w' => e = .returned (.string (digB n)) ∧ w' = w := (digits01Q n (digB n) w (if_pos h)).mono (fun e w' h => ⟨h.1, h.2.symm⟩)
def rB (n : Int) : ByteArray := (⟨#[32, 114]⟩ : ByteArray) ++ digB n
theorem rB_size {n : Int} (h : inI64 n) : (rB n).size ≤ 23 := by
  have := dig_size h
  rw [rB, ByteArray.size_append]
  show 2 + _ ≤ 23
  omega
theorem rQ (n : Int) (h : inI64 n) (w : World) : Calls Tryd.prog 33 #[.int .i64 n] w fun e w' => e = .returned (.string (rB n)) ∧ w' = w := by
  have hs := dig_size h
  have CD := Aside0.mk (digQ n h w)
  unfold rB
  obtain ⟨D, hD⟩ : ∃ D, D = digB n := ⟨_, rfl⟩
  rw [← hD] at CD hs ⊢
  have z1 := eq_true (show 2 + D.size ≤ 9223372036854775807 by omega)
  have z1b : decide (2 + D.size ≤ 9223372036854775807) = true := decide_eq_true (by omega)
  have z1c : (9223372036854775807 < 2 + D.size) = False := eq_false (by omega)
  clear hs hD
  go_enter Tryd.func33, Tryd.ntmps33
  go_wp2_with (go_at_call 32; refine CD.out.mono ?_; rintro e w' ⟨rfl, rfl⟩)
  go_ret
  exact ⟨rfl, rfl⟩
def palingref11_r.f (a0 : Int) : Option ByteArray := if -9223372036854775808 ≤ a0 ∧ a0 ≤ 9223372036854775807 then some (rB a0) else none
theorem palingref11_r.calls (a0 : Int) (r : ByteArray) (w : World) (h : palingref11_r.f a0 = some r) :
    Calls Tryd.prog 33 #[.int .i64 a0] w fun e w' => e = .returned (.string r) ∧ Below w.heap.size w w' := by
  unfold palingref11_r.f at h
  by_cases hr : -9223372036854775808 ≤ a0 ∧ a0 ≤ 9223372036854775807
  case neg => rw [if_neg hr] at h; exact absurd h (by simp)
  rw [if_pos hr] at h
  obtain rfl := Option.some.inj h
  refine (rQ a0 hr w).mono ?_
  rintro e w' ⟨rfl, rfl⟩
  exact ⟨rfl, Below.refl _ _⟩
theorem atB_size {a : Int} (h : inI64 a) : (atB a).size ≤ 30 := by
  unfold atB
  split
  · exact Nat.le_trans (rB_size h) (by omega)
  · decide
theorem signref_spec (op : Int) : palingref01_Sign.f op = some (signB op) := by
  have hl : signsL.length = 19 := rfl
  show (if op < 0 then some _ else if op ≥ (signsL.length : Int) then some _ else if 0 ≤ op then if op < (signsL.length : Int) then some (rdOf ByteArray.empty signsL op) else none else none) = some (signB op)
  rw [hl]
  unfold signB
  by_cases h0 : op < 0
  · rw [if_pos h0, if_neg (by omega)]
  · rw [if_neg h0]
    by_cases h1 : op ≥ ((19 : Nat) : Int)
    · rw [if_pos h1, if_neg (by omega)]
    · rw [if_neg h1, if_pos (by omega), if_pos (by omega), if_pos (by omega)]
      have : ∀ i : Fin 19, rdOf ByteArray.empty signsL (i.val : Int) = signsL.getD i.val ⟨#[]⟩ := by decide +kernel
      have := this ⟨op.toNat, by omega⟩
      simp only [show ((op.toNat : Nat) : Int) = op by omega] at this
      exact congrArg some this
def palingref11_Show.f (k op d a b n to_ : Int) : Option ByteArray := if inI64 d ∧ inI64 a ∧ inI64 b ∧ inI64 n ∧ inI64 to_ then some (showB k op d a b n to_) else none
set_option maxHeartbeats 16000000 in
set_option maxRecDepth 100000 in
theorem palingref11_Show.calls (k op d a b n to_ : Int) (r : ByteArray) (w : World) (h : palingref11_Show.f k op d a b n to_ = some r) :
    Calls Tryd.prog 16 #[.agg #[.int .i64 k, .int .i64 op, .int .i64 d, .int .i64 a, .int .i64 b, .int .i64 n, .int .i64 to_]] w fun e w' => e = .returned (.string r) ∧ Below w.heap.size w w' := by
  unfold palingref11_Show.f at h
  by_cases hr : inI64 d ∧ inI64 a ∧ inI64 b ∧ inI64 n ∧ inI64 to_
  case neg => rw [if_neg hr] at h; exact absurd h (by simp)
  rw [if_pos hr] at h
  replace h := Option.some.inj h
  have HR := Aside0.mk h
  obtain ⟨id, ia, ib, in_, it⟩ := hr
  have zd := rB_size id
  have za := rB_size ia
  have zb := rB_size ib
  have zn := dig_size in_
  have zt := dig_size it
  have zx := atB_size ia
  have zs := sign_size op
  have CN := Aside0.mk (fun W => digQ n in_ W)
  have CT := Aside0.mk (fun W => digQ to_ it W)
  have CD := Aside0.mk (fun W => rQ d id W)
  have CA := Aside0.mk (fun W => rQ a ia W)
  have CB := Aside0.mk (fun W => rQ b ib W)
  have HX := Aside0.mk (show (0 ≤ a → atB a = rB a) ∧ (a < 0 → atB a = ⟨#[]⟩) from ⟨fun h => if_pos h, fun h => if_neg (by omega)⟩)
  obtain ⟨N0, hN0⟩ : ∃ D, D = digB n := ⟨_, rfl⟩
  obtain ⟨T0, hT0⟩ : ∃ D, D = digB to_ := ⟨_, rfl⟩
  rw [← hN0] at CN zn
  rw [← hT0] at CT zt
  obtain ⟨rd, hrd⟩ : ∃ D, D = rB d := ⟨_, rfl⟩
  obtain ⟨ra, hra⟩ : ∃ D, D = rB a := ⟨_, rfl⟩
  obtain ⟨rb, hrb⟩ : ∃ D, D = rB b := ⟨_, rfl⟩
  rw [← hrd] at CD zd
  rw [← hra] at CA za HX
  rw [← hrb] at CB zb
  have CS := Aside0.mk (fun W => palingref01_Sign.calls op (signB op) W (signref_spec op))
  have HS := Aside0.mk (show signP op = if (signB op).toList = [] then below5 else signB op from rfl)
  obtain ⟨s0, hs0⟩ : ∃ D, D = signB op := ⟨_, rfl⟩
  rw [← hs0] at CS HS
  obtain ⟨x5, hx5⟩ : ∃ D, D = atB a := ⟨_, rfl⟩
  obtain ⟨x6, hx6⟩ : ∃ D, D = signP op := ⟨_, rfl⟩
  rw [← hx5] at HX zx
  rw [← hx6] at HS zs
  have y1 := eq_true (show 1 + N0.size ≤ 9223372036854775807 by omega)
  have y1b : decide (1 + N0.size ≤ 9223372036854775807) = true := decide_eq_true (by omega)
  have y1c : (9223372036854775807 < 1 + N0.size) = False := eq_false (by omega)
  have y2 := eq_true (show 1 + T0.size ≤ 9223372036854775807 by omega)
  have y2b : decide (1 + T0.size ≤ 9223372036854775807) = true := decide_eq_true (by omega)
  have y2c : (9223372036854775807 < 1 + T0.size) = False := eq_false (by omega)
  have hN1 : ((⟨#[32]⟩ : ByteArray) ++ N0).size ≤ 22 := by rw [ByteArray.size_append]; show 1 + _ ≤ 22; omega
  have hT1 : ((⟨#[32]⟩ : ByteArray) ++ T0).size ≤ 22 := by rw [ByteArray.size_append]; show 1 + _ ≤ 22; omega
  have HZ := Aside0.mk (And.intro zd (And.intro za (And.intro zb (And.intro hN1 (And.intro hT1 (And.intro zx zs))))))
  have HN := Aside0.mk hN0; have HT := Aside0.mk hT0; have HD := Aside0.mk hrd; have HA := Aside0.mk hra; have HBB := Aside0.mk hrb; have HX5 := Aside0.mk hx5; have HX6 := Aside0.mk hx6
  clear h zd za zb zn zt zx zs hN0 hT0 hrd hra hrb hs0 hx5 hx6 hN1 hT1 id ia ib in_ it
  have BI := Aside0.mk (blk_new w (.cells #[.int .i64 k, .int .i64 op, .int .i64 d, .int .i64 a, .int .i64 b, .int .i64 n, .int .i64 to_] 23 (0, 0)))
  have HB1 := Aside0.mk ((Below.refl w.heap.size w).alloc (Nat.le_refl _) (.cells #[.int .i64 k, .int .i64 op, .int .i64 d, .int .i64 a, .int .i64 b, .int .i64 n, .int .i64 to_] 23 (0, 0)))
  go_enter Tryd.func16, Tryd.ntmps16
  go_upto_if 17 with (first | (go_at_call 32; first | ((with_reducible refine (CN.out _).mono ?_); rintro e w' ⟨rfl, rfl⟩) | ((with_reducible refine (CT.out _).mono ?_); rintro e w' ⟨rfl, rfl⟩)))
  clear CN CT y1 y1b y1c y2 y2b y2c
  obtain ⟨x3, hx3⟩ : ∃ D, D = (⟨#[32]⟩ : ByteArray) ++ N0 := ⟨_, rfl⟩
  obtain ⟨x4, hx4⟩ : ∃ D, D = (⟨#[32]⟩ : ByteArray) ++ T0 := ⟨_, rfl⟩
  rw [← hx3, ← hx4] at HZ ⊢
  have HX3 := Aside0.mk hx3; have HX4 := Aside0.mk hx4
  clear hx3 hx4
  generalize (w.alloc (.cells #[.int .i64 k, .int .i64 op, .int .i64 d, .int .i64 a, .int .i64 b, .int .i64 n, .int .i64 to_] 23 (0, 0))) = W1 at BI HB1 ⊢
  obtain ⟨g1, hg1⟩ : ∃ g, g = w.heap.size := ⟨_, rfl⟩
  rw [← hg1] at BI ⊢
  clear hg1
  have i0 : W1.cell? ⟨g1, 0, none⟩ = some (.int .i64 k) := (blk_cell BI.out 0).trans rfl
  have i1 : W1.cell? ⟨g1, 1, none⟩ = some (.int .i64 op) := (blk_cell BI.out 1).trans rfl
  have i3 : W1.cell? ⟨g1, 3, none⟩ = some (.int .i64 a) := (blk_cell BI.out 3).trans rfl
  go_cut [5] (fun s5 wx => s5 = .string x5 ∧ W1 = wx)
  case first =>
    by_cases h0 : 0 ≤ a
    · have h0' : decide (0 ≤ a) = true := decide_eq_true h0
      have e := HX.out.1 h0
      clear h0 HX
      subst e
      rw [h0']
      go_wp2_with (go_at_call 33; (with_reducible refine (CA.out _).mono ?_); rintro e w' ⟨rfl, rfl⟩)
      go_meet
      exact ⟨rfl, rfl⟩
    · have h0' : decide (0 ≤ a) = false := decide_eq_false h0
      have e := HX.out.2 (by omega)
      clear h0 HX
      subst e
      rw [h0']
      go_wp2_with fail
      go_meet
      exact ⟨rfl, rfl⟩
  case rest =>
  obtain ⟨rfl, rfl⟩ := hcut
  clear HX
  go_upto_if 25 with (first | (go_at_call 34; (with_reducible refine (CS.out _).mono ?_); rintro e w2 ⟨rfl, hb⟩; have BI2 := Aside0.mk (blk_below BI.out hb); have HB2 := Aside0.mk (below_step HB1.out hb); clear hb i0 i1 i3))
  go_cut [6] (fun s6 wx => s6 = .string x6 ∧ w2 = wx)
  case first =>
    by_cases h0 : s0.toList = []
    · have h0' : (s0.toList == []) = true := by rw [h0]; rfl
      have h0'' : s0.toList.isEmpty = true := by rw [h0]; rfl
      have e := HS.out
      rw [if_pos h0] at e
      clear h0 HS
      subst e
      rw [h0'']
      go_wp2_with fail
      go_meet
      exact ⟨rfl, rfl⟩
    · have e := HS.out
      rw [if_neg h0] at e
      have h0' : s0.toList.isEmpty = false := by cases hh : s0.toList with
        | nil => exact absurd hh h0
        | cons a l => rfl
      clear h0 HS
      subst e
      rw [h0']
      go_wp2_with fail
      go_meet
      exact ⟨rfl, rfl⟩
  case rest =>
  obtain ⟨rfl, rfl⟩ := hcut
  clear HS CS
  have i0 : w2.cell? ⟨g1, 0, none⟩ = some (.int .i64 k) := (blk_cell BI2.out 0).trans rfl
  have i2 : w2.cell? ⟨g1, 2, none⟩ = some (.int .i64 d) := (blk_cell BI2.out 2).trans rfl
  have i3 : w2.cell? ⟨g1, 3, none⟩ = some (.int .i64 a) := (blk_cell BI2.out 3).trans rfl
  have i4 : w2.cell? ⟨g1, 4, none⟩ = some (.int .i64 b) := (blk_cell BI2.out 4).trans rfl
  by_cases hk : 0 ≤ k ∧ k < 14
  case neg =>
    have hr := HR.out
    rw [show_out k op d a b n to_ hk] at hr
    have k0 : (k == 0) = false := by simp; omega
    have k1 : (k == 1) = false := by simp; omega
    have k2 : (k == 2) = false := by simp; omega
    have k3 : (k == 3) = false := by simp; omega
    have k4 : (k == 4) = false := by simp; omega
    have k5 : (k == 5) = false := by simp; omega
    have k6 : (k == 6) = false := by simp; omega
    have k7 : (k == 7) = false := by simp; omega
    have k8 : (k == 8) = false := by simp; omega
    have k9 : (k == 9) = false := by simp; omega
    have k10 : (k == 10) = false := by simp; omega
    have k11 : (k == 11) = false := by simp; omega
    have k12 : (k == 12) = false := by simp; omega
    have k13 : (k == 13) = false := by simp; omega
    clear hk HR
    subst hr
    go_wp2_with fail
    go_ret
    exact ⟨rfl, HB2.out⟩
  have hc : k = 0 ∨ k = 1 ∨ k = 2 ∨ k = 3 ∨ k = 4 ∨ k = 5 ∨ k = 6 ∨ k = 7 ∨ k = 8 ∨ k = 9 ∨ k = 10 ∨ k = 11 ∨ k = 12 ∨ k = 13 := by omega
  clear hk
  obtain ⟨zd, za, zb, z3, z4, z5, z6⟩ := HZ.out
  clear HZ
  rcases hc with rfl | rfl | rfl | rfl | rfl | rfl | rfl | rfl | rfl | rfl | rfl | rfl | rfl | rfl
  · have hr : (((⟨#[115, 101, 116]⟩ : ByteArray) ++ rd) ++ x3) = r := by
      rw [← HR.out, show_eq0 op d a b n to_, HX3.out, HN.out, HD.out]
      try rfl
    have HRR := Aside0.mk hr
    clear hr HR
    have v0_0 := eq_true (show 3 + rd.size ≤ 9223372036854775807 by omega)
    have v0_0b : decide (3 + rd.size ≤ 9223372036854775807) = true := decide_eq_true (by omega)
    have v0_0c : (9223372036854775807 < 3 + rd.size) = False := eq_false (by omega)
    have q0_1 : ((⟨#[115, 101, 116]⟩ : ByteArray) ++ rd).size = 3 + rd.size := by simp only [ByteArray.size_append, sz_lit, List.length_cons, List.length_nil] <;> omega
    have w0_1 := eq_true (show ((⟨#[115, 101, 116]⟩ : ByteArray) ++ rd).size + x3.size ≤ 9223372036854775807 by omega)
    have w0_1b : decide (((⟨#[115, 101, 116]⟩ : ByteArray) ++ rd).size + x3.size ≤ 9223372036854775807) = true := decide_eq_true (by omega)
    have w0_1c : (9223372036854775807 < ((⟨#[115, 101, 116]⟩ : ByteArray) ++ rd).size + x3.size) = False := eq_false (by omega)
    have v0_1 := eq_true (show 3 + rd.size + x3.size ≤ 9223372036854775807 by omega)
    have v0_1b : decide (3 + rd.size + x3.size ≤ 9223372036854775807) = true := decide_eq_true (by omega)
    have v0_1c : (9223372036854775807 < 3 + rd.size + x3.size) = False := eq_false (by omega)
    clear q0_1
    clear zd za zb z3 z4 z5 z6
    go_wp2_with (first | (go_at_call 33; first | ((with_reducible refine (CD.out _).mono ?_); rintro e w3 ⟨rfl, rfl⟩) | ((with_reducible refine (CA.out _).mono ?_); rintro e w3 ⟨rfl, rfl⟩) | ((with_reducible refine (CB.out _).mono ?_); rintro e w3 ⟨rfl, rfl⟩)))
    go_ret
    exact ⟨by rw [← HRR.out]; rfl, HB2.out⟩
  · have hr : (((⟨#[109, 111, 118, 101]⟩ : ByteArray) ++ rd) ++ ra) = r := by
      rw [← HR.out, show_eq1 op d a b n to_, HD.out, HA.out]
      try rfl
    have HRR := Aside0.mk hr
    clear hr HR
    have v1_0 := eq_true (show 4 + rd.size ≤ 9223372036854775807 by omega)
    have v1_0b : decide (4 + rd.size ≤ 9223372036854775807) = true := decide_eq_true (by omega)
    have v1_0c : (9223372036854775807 < 4 + rd.size) = False := eq_false (by omega)
    have q1_1 : ((⟨#[109, 111, 118, 101]⟩ : ByteArray) ++ rd).size = 4 + rd.size := by simp only [ByteArray.size_append, sz_lit, List.length_cons, List.length_nil] <;> omega
    have w1_1 := eq_true (show ((⟨#[109, 111, 118, 101]⟩ : ByteArray) ++ rd).size + ra.size ≤ 9223372036854775807 by omega)
    have w1_1b : decide (((⟨#[109, 111, 118, 101]⟩ : ByteArray) ++ rd).size + ra.size ≤ 9223372036854775807) = true := decide_eq_true (by omega)
    have w1_1c : (9223372036854775807 < ((⟨#[109, 111, 118, 101]⟩ : ByteArray) ++ rd).size + ra.size) = False := eq_false (by omega)
    have v1_1 := eq_true (show 4 + rd.size + ra.size ≤ 9223372036854775807 by omega)
    have v1_1b : decide (4 + rd.size + ra.size ≤ 9223372036854775807) = true := decide_eq_true (by omega)
    have v1_1c : (9223372036854775807 < 4 + rd.size + ra.size) = False := eq_false (by omega)
    clear q1_1
    clear zd za zb z3 z4 z5 z6
    go_upto_region 13 with fail
    go_quiet ((go_at_call 33; first | exact Calls.quiet_of_same (CD.out _) | exact Calls.quiet_of_same (CA.out _) | exact Calls.quiet_of_same (CB.out _)))
    go_wp2_with fail
    go_ret
    exact ⟨by rw [← HRR.out]; rfl, by first | exact HB2.out | exact pw_below_drewN HB2.out _⟩
  · have hr : ((((((⟨#[99, 97, 108, 99]⟩ : ByteArray) ++ rd) ++ ra) ++ (⟨#[32]⟩ : ByteArray)) ++ x6) ++ rb) = r := by
      rw [← HR.out, show_eq2 op d a b n to_, HX6.out, HD.out, HA.out, HBB.out]
      try rfl
    have HRR := Aside0.mk hr
    clear hr HR
    have v2_0 := eq_true (show 4 + rd.size ≤ 9223372036854775807 by omega)
    have v2_0b : decide (4 + rd.size ≤ 9223372036854775807) = true := decide_eq_true (by omega)
    have v2_0c : (9223372036854775807 < 4 + rd.size) = False := eq_false (by omega)
    have q2_1 : ((⟨#[99, 97, 108, 99]⟩ : ByteArray) ++ rd).size = 4 + rd.size := by simp only [ByteArray.size_append, sz_lit, List.length_cons, List.length_nil] <;> omega
    have w2_1 := eq_true (show ((⟨#[99, 97, 108, 99]⟩ : ByteArray) ++ rd).size + ra.size ≤ 9223372036854775807 by omega)
    have w2_1b : decide (((⟨#[99, 97, 108, 99]⟩ : ByteArray) ++ rd).size + ra.size ≤ 9223372036854775807) = true := decide_eq_true (by omega)
    have w2_1c : (9223372036854775807 < ((⟨#[99, 97, 108, 99]⟩ : ByteArray) ++ rd).size + ra.size) = False := eq_false (by omega)
    have v2_1 := eq_true (show 4 + rd.size + ra.size ≤ 9223372036854775807 by omega)
    have v2_1b : decide (4 + rd.size + ra.size ≤ 9223372036854775807) = true := decide_eq_true (by omega)
    have v2_1c : (9223372036854775807 < 4 + rd.size + ra.size) = False := eq_false (by omega)
    clear q2_1
    have q2_2 : (((⟨#[99, 97, 108, 99]⟩ : ByteArray) ++ rd) ++ ra).size = 4 + rd.size + ra.size := by simp only [ByteArray.size_append, sz_lit, List.length_cons, List.length_nil] <;> omega
    have w2_2 := eq_true (show (((⟨#[99, 97, 108, 99]⟩ : ByteArray) ++ rd) ++ ra).size + 1 ≤ 9223372036854775807 by omega)
    have w2_2b : decide ((((⟨#[99, 97, 108, 99]⟩ : ByteArray) ++ rd) ++ ra).size + 1 ≤ 9223372036854775807) = true := decide_eq_true (by omega)
    have w2_2c : (9223372036854775807 < (((⟨#[99, 97, 108, 99]⟩ : ByteArray) ++ rd) ++ ra).size + 1) = False := eq_false (by omega)
    have v2_2 := eq_true (show 4 + rd.size + ra.size + 1 ≤ 9223372036854775807 by omega)
    have v2_2b : decide (4 + rd.size + ra.size + 1 ≤ 9223372036854775807) = true := decide_eq_true (by omega)
    have v2_2c : (9223372036854775807 < 4 + rd.size + ra.size + 1) = False := eq_false (by omega)
    clear q2_2
    have q2_3 : ((((⟨#[99, 97, 108, 99]⟩ : ByteArray) ++ rd) ++ ra) ++ (⟨#[32]⟩ : ByteArray)).size = 4 + rd.size + ra.size + 1 := by simp only [ByteArray.size_append, sz_lit, List.length_cons, List.length_nil] <;> omega
    have w2_3 := eq_true (show ((((⟨#[99, 97, 108, 99]⟩ : ByteArray) ++ rd) ++ ra) ++ (⟨#[32]⟩ : ByteArray)).size + x6.size ≤ 9223372036854775807 by omega)
    have w2_3b : decide (((((⟨#[99, 97, 108, 99]⟩ : ByteArray) ++ rd) ++ ra) ++ (⟨#[32]⟩ : ByteArray)).size + x6.size ≤ 9223372036854775807) = true := decide_eq_true (by omega)
    have w2_3c : (9223372036854775807 < ((((⟨#[99, 97, 108, 99]⟩ : ByteArray) ++ rd) ++ ra) ++ (⟨#[32]⟩ : ByteArray)).size + x6.size) = False := eq_false (by omega)
    have v2_3 := eq_true (show 4 + rd.size + ra.size + 1 + x6.size ≤ 9223372036854775807 by omega)
    have v2_3b : decide (4 + rd.size + ra.size + 1 + x6.size ≤ 9223372036854775807) = true := decide_eq_true (by omega)
    have v2_3c : (9223372036854775807 < 4 + rd.size + ra.size + 1 + x6.size) = False := eq_false (by omega)
    clear q2_3
    have q2_4 : (((((⟨#[99, 97, 108, 99]⟩ : ByteArray) ++ rd) ++ ra) ++ (⟨#[32]⟩ : ByteArray)) ++ x6).size = 4 + rd.size + ra.size + 1 + x6.size := by simp only [ByteArray.size_append, sz_lit, List.length_cons, List.length_nil] <;> omega
    have w2_4 := eq_true (show (((((⟨#[99, 97, 108, 99]⟩ : ByteArray) ++ rd) ++ ra) ++ (⟨#[32]⟩ : ByteArray)) ++ x6).size + rb.size ≤ 9223372036854775807 by omega)
    have w2_4b : decide ((((((⟨#[99, 97, 108, 99]⟩ : ByteArray) ++ rd) ++ ra) ++ (⟨#[32]⟩ : ByteArray)) ++ x6).size + rb.size ≤ 9223372036854775807) = true := decide_eq_true (by omega)
    have w2_4c : (9223372036854775807 < (((((⟨#[99, 97, 108, 99]⟩ : ByteArray) ++ rd) ++ ra) ++ (⟨#[32]⟩ : ByteArray)) ++ x6).size + rb.size) = False := eq_false (by omega)
    have v2_4 := eq_true (show 4 + rd.size + ra.size + 1 + x6.size + rb.size ≤ 9223372036854775807 by omega)
    have v2_4b : decide (4 + rd.size + ra.size + 1 + x6.size + rb.size ≤ 9223372036854775807) = true := decide_eq_true (by omega)
    have v2_4c : (9223372036854775807 < 4 + rd.size + ra.size + 1 + x6.size + rb.size) = False := eq_false (by omega)
    clear q2_4
    clear zd za zb z3 z4 z5 z6
    go_upto_region 15 with fail
    go_quiet ((go_at_call 33; first | exact Calls.quiet_of_same (CD.out _) | exact Calls.quiet_of_same (CA.out _) | exact Calls.quiet_of_same (CB.out _)))
    go_wp2_with fail
    go_ret
    exact ⟨by rw [← HRR.out]; rfl, by first | exact HB2.out | exact pw_below_drewN HB2.out _⟩
  · have hr : ((((⟨#[112, 105, 99, 107]⟩ : ByteArray) ++ rd) ++ ra) ++ rb) = r := by
      rw [← HR.out, show_eq3 op d a b n to_, HD.out, HA.out, HBB.out]
      try rfl
    have HRR := Aside0.mk hr
    clear hr HR
    have v3_0 := eq_true (show 4 + rd.size ≤ 9223372036854775807 by omega)
    have v3_0b : decide (4 + rd.size ≤ 9223372036854775807) = true := decide_eq_true (by omega)
    have v3_0c : (9223372036854775807 < 4 + rd.size) = False := eq_false (by omega)
    have q3_1 : ((⟨#[112, 105, 99, 107]⟩ : ByteArray) ++ rd).size = 4 + rd.size := by simp only [ByteArray.size_append, sz_lit, List.length_cons, List.length_nil] <;> omega
    have w3_1 := eq_true (show ((⟨#[112, 105, 99, 107]⟩ : ByteArray) ++ rd).size + ra.size ≤ 9223372036854775807 by omega)
    have w3_1b : decide (((⟨#[112, 105, 99, 107]⟩ : ByteArray) ++ rd).size + ra.size ≤ 9223372036854775807) = true := decide_eq_true (by omega)
    have w3_1c : (9223372036854775807 < ((⟨#[112, 105, 99, 107]⟩ : ByteArray) ++ rd).size + ra.size) = False := eq_false (by omega)
    have v3_1 := eq_true (show 4 + rd.size + ra.size ≤ 9223372036854775807 by omega)
    have v3_1b : decide (4 + rd.size + ra.size ≤ 9223372036854775807) = true := decide_eq_true (by omega)
    have v3_1c : (9223372036854775807 < 4 + rd.size + ra.size) = False := eq_false (by omega)
    clear q3_1
    have q3_2 : (((⟨#[112, 105, 99, 107]⟩ : ByteArray) ++ rd) ++ ra).size = 4 + rd.size + ra.size := by simp only [ByteArray.size_append, sz_lit, List.length_cons, List.length_nil] <;> omega
    have w3_2 := eq_true (show (((⟨#[112, 105, 99, 107]⟩ : ByteArray) ++ rd) ++ ra).size + rb.size ≤ 9223372036854775807 by omega)
    have w3_2b : decide ((((⟨#[112, 105, 99, 107]⟩ : ByteArray) ++ rd) ++ ra).size + rb.size ≤ 9223372036854775807) = true := decide_eq_true (by omega)
    have w3_2c : (9223372036854775807 < (((⟨#[112, 105, 99, 107]⟩ : ByteArray) ++ rd) ++ ra).size + rb.size) = False := eq_false (by omega)
    have v3_2 := eq_true (show 4 + rd.size + ra.size + rb.size ≤ 9223372036854775807 by omega)
    have v3_2b : decide (4 + rd.size + ra.size + rb.size ≤ 9223372036854775807) = true := decide_eq_true (by omega)
    have v3_2c : (9223372036854775807 < 4 + rd.size + ra.size + rb.size) = False := eq_false (by omega)
    clear q3_2
    clear zd za zb z3 z4 z5 z6
    go_upto_region 17 with fail
    go_quiet ((go_at_call 33; first | exact Calls.quiet_of_same (CD.out _) | exact Calls.quiet_of_same (CA.out _) | exact Calls.quiet_of_same (CB.out _)))
    go_wp2_with fail
    go_ret
    exact ⟨by rw [← HRR.out]; rfl, by first | exact HB2.out | exact pw_below_drewN HB2.out _⟩
  · have hr : ((((⟨#[108, 111, 97, 100]⟩ : ByteArray) ++ rd) ++ x3) ++ x5) = r := by
      rw [← HR.out, show_eq4 op d a b n to_, HX3.out, HN.out, HX5.out, HD.out]
      try rfl
    have HRR := Aside0.mk hr
    clear hr HR
    have v4_0 := eq_true (show 4 + rd.size ≤ 9223372036854775807 by omega)
    have v4_0b : decide (4 + rd.size ≤ 9223372036854775807) = true := decide_eq_true (by omega)
    have v4_0c : (9223372036854775807 < 4 + rd.size) = False := eq_false (by omega)
    have q4_1 : ((⟨#[108, 111, 97, 100]⟩ : ByteArray) ++ rd).size = 4 + rd.size := by simp only [ByteArray.size_append, sz_lit, List.length_cons, List.length_nil] <;> omega
    have w4_1 := eq_true (show ((⟨#[108, 111, 97, 100]⟩ : ByteArray) ++ rd).size + x3.size ≤ 9223372036854775807 by omega)
    have w4_1b : decide (((⟨#[108, 111, 97, 100]⟩ : ByteArray) ++ rd).size + x3.size ≤ 9223372036854775807) = true := decide_eq_true (by omega)
    have w4_1c : (9223372036854775807 < ((⟨#[108, 111, 97, 100]⟩ : ByteArray) ++ rd).size + x3.size) = False := eq_false (by omega)
    have v4_1 := eq_true (show 4 + rd.size + x3.size ≤ 9223372036854775807 by omega)
    have v4_1b : decide (4 + rd.size + x3.size ≤ 9223372036854775807) = true := decide_eq_true (by omega)
    have v4_1c : (9223372036854775807 < 4 + rd.size + x3.size) = False := eq_false (by omega)
    clear q4_1
    have q4_2 : (((⟨#[108, 111, 97, 100]⟩ : ByteArray) ++ rd) ++ x3).size = 4 + rd.size + x3.size := by simp only [ByteArray.size_append, sz_lit, List.length_cons, List.length_nil] <;> omega
    have w4_2 := eq_true (show (((⟨#[108, 111, 97, 100]⟩ : ByteArray) ++ rd) ++ x3).size + x5.size ≤ 9223372036854775807 by omega)
    have w4_2b : decide ((((⟨#[108, 111, 97, 100]⟩ : ByteArray) ++ rd) ++ x3).size + x5.size ≤ 9223372036854775807) = true := decide_eq_true (by omega)
    have w4_2c : (9223372036854775807 < (((⟨#[108, 111, 97, 100]⟩ : ByteArray) ++ rd) ++ x3).size + x5.size) = False := eq_false (by omega)
    have v4_2 := eq_true (show 4 + rd.size + x3.size + x5.size ≤ 9223372036854775807 by omega)
    have v4_2b : decide (4 + rd.size + x3.size + x5.size ≤ 9223372036854775807) = true := decide_eq_true (by omega)
    have v4_2c : (9223372036854775807 < 4 + rd.size + x3.size + x5.size) = False := eq_false (by omega)
    clear q4_2
    clear zd za zb z3 z4 z5 z6
    go_wp2_with (first | (go_at_call 33; first | ((with_reducible refine (CD.out _).mono ?_); rintro e w3 ⟨rfl, rfl⟩) | ((with_reducible refine (CA.out _).mono ?_); rintro e w3 ⟨rfl, rfl⟩) | ((with_reducible refine (CB.out _).mono ?_); rintro e w3 ⟨rfl, rfl⟩)))
    go_ret
    exact ⟨by rw [← HRR.out]; rfl, HB2.out⟩
  · have hr : ((((⟨#[115, 116, 111, 114, 101]⟩ : ByteArray) ++ x3) ++ rb) ++ x5) = r := by
      rw [← HR.out, show_eq5 op d a b n to_, HX3.out, HN.out, HX5.out, HBB.out]
      try rfl
    have HRR := Aside0.mk hr
    clear hr HR
    have v5_0 := eq_true (show 5 + x3.size ≤ 9223372036854775807 by omega)
    have v5_0b : decide (5 + x3.size ≤ 9223372036854775807) = true := decide_eq_true (by omega)
    have v5_0c : (9223372036854775807 < 5 + x3.size) = False := eq_false (by omega)
    have q5_1 : ((⟨#[115, 116, 111, 114, 101]⟩ : ByteArray) ++ x3).size = 5 + x3.size := by simp only [ByteArray.size_append, sz_lit, List.length_cons, List.length_nil] <;> omega
    have w5_1 := eq_true (show ((⟨#[115, 116, 111, 114, 101]⟩ : ByteArray) ++ x3).size + rb.size ≤ 9223372036854775807 by omega)
    have w5_1b : decide (((⟨#[115, 116, 111, 114, 101]⟩ : ByteArray) ++ x3).size + rb.size ≤ 9223372036854775807) = true := decide_eq_true (by omega)
    have w5_1c : (9223372036854775807 < ((⟨#[115, 116, 111, 114, 101]⟩ : ByteArray) ++ x3).size + rb.size) = False := eq_false (by omega)
    have v5_1 := eq_true (show 5 + x3.size + rb.size ≤ 9223372036854775807 by omega)
    have v5_1b : decide (5 + x3.size + rb.size ≤ 9223372036854775807) = true := decide_eq_true (by omega)
    have v5_1c : (9223372036854775807 < 5 + x3.size + rb.size) = False := eq_false (by omega)
    clear q5_1
    have q5_2 : (((⟨#[115, 116, 111, 114, 101]⟩ : ByteArray) ++ x3) ++ rb).size = 5 + x3.size + rb.size := by simp only [ByteArray.size_append, sz_lit, List.length_cons, List.length_nil] <;> omega
    have w5_2 := eq_true (show (((⟨#[115, 116, 111, 114, 101]⟩ : ByteArray) ++ x3) ++ rb).size + x5.size ≤ 9223372036854775807 by omega)
    have w5_2b : decide ((((⟨#[115, 116, 111, 114, 101]⟩ : ByteArray) ++ x3) ++ rb).size + x5.size ≤ 9223372036854775807) = true := decide_eq_true (by omega)
    have w5_2c : (9223372036854775807 < (((⟨#[115, 116, 111, 114, 101]⟩ : ByteArray) ++ x3) ++ rb).size + x5.size) = False := eq_false (by omega)
    have v5_2 := eq_true (show 5 + x3.size + rb.size + x5.size ≤ 9223372036854775807 by omega)
    have v5_2b : decide (5 + x3.size + rb.size + x5.size ≤ 9223372036854775807) = true := decide_eq_true (by omega)
    have v5_2c : (9223372036854775807 < 5 + x3.size + rb.size + x5.size) = False := eq_false (by omega)
    clear q5_2
    clear zd za zb z3 z4 z5 z6
    go_wp2_with (first | (go_at_call 33; first | ((with_reducible refine (CD.out _).mono ?_); rintro e w3 ⟨rfl, rfl⟩) | ((with_reducible refine (CA.out _).mono ?_); rintro e w3 ⟨rfl, rfl⟩) | ((with_reducible refine (CB.out _).mono ?_); rintro e w3 ⟨rfl, rfl⟩)))
    go_ret
    exact ⟨by rw [← HRR.out]; rfl, HB2.out⟩
  · have hr : ((⟨#[106, 117, 109, 112]⟩ : ByteArray) ++ x4) = r := by
      rw [← HR.out, show_eq6 op d a b n to_, HX4.out, HT.out]
      try rfl
    have HRR := Aside0.mk hr
    clear hr HR
    have v6_0 := eq_true (show 4 + x4.size ≤ 9223372036854775807 by omega)
    have v6_0b : decide (4 + x4.size ≤ 9223372036854775807) = true := decide_eq_true (by omega)
    have v6_0c : (9223372036854775807 < 4 + x4.size) = False := eq_false (by omega)
    clear zd za zb z3 z4 z5 z6
    go_wp2_with (first | (go_at_call 33; first | ((with_reducible refine (CD.out _).mono ?_); rintro e w3 ⟨rfl, rfl⟩) | ((with_reducible refine (CA.out _).mono ?_); rintro e w3 ⟨rfl, rfl⟩) | ((with_reducible refine (CB.out _).mono ?_); rintro e w3 ⟨rfl, rfl⟩)))
    go_ret
    exact ⟨by rw [← HRR.out]; rfl, HB2.out⟩
  · have hr : (((⟨#[122, 101, 114, 111]⟩ : ByteArray) ++ ra) ++ x4) = r := by
      rw [← HR.out, show_eq7 op d a b n to_, HX4.out, HT.out, HA.out]
      try rfl
    have HRR := Aside0.mk hr
    clear hr HR
    have v7_0 := eq_true (show 4 + ra.size ≤ 9223372036854775807 by omega)
    have v7_0b : decide (4 + ra.size ≤ 9223372036854775807) = true := decide_eq_true (by omega)
    have v7_0c : (9223372036854775807 < 4 + ra.size) = False := eq_false (by omega)
    have q7_1 : ((⟨#[122, 101, 114, 111]⟩ : ByteArray) ++ ra).size = 4 + ra.size := by simp only [ByteArray.size_append, sz_lit, List.length_cons, List.length_nil] <;> omega
    have w7_1 := eq_true (show ((⟨#[122, 101, 114, 111]⟩ : ByteArray) ++ ra).size + x4.size ≤ 9223372036854775807 by omega)
    have w7_1b : decide (((⟨#[122, 101, 114, 111]⟩ : ByteArray) ++ ra).size + x4.size ≤ 9223372036854775807) = true := decide_eq_true (by omega)
    have w7_1c : (9223372036854775807 < ((⟨#[122, 101, 114, 111]⟩ : ByteArray) ++ ra).size + x4.size) = False := eq_false (by omega)
    have v7_1 := eq_true (show 4 + ra.size + x4.size ≤ 9223372036854775807 by omega)
    have v7_1b : decide (4 + ra.size + x4.size ≤ 9223372036854775807) = true := decide_eq_true (by omega)
    have v7_1c : (9223372036854775807 < 4 + ra.size + x4.size) = False := eq_false (by omega)
    clear q7_1
    clear zd za zb z3 z4 z5 z6
    go_wp2_with (first | (go_at_call 33; first | ((with_reducible refine (CD.out _).mono ?_); rintro e w3 ⟨rfl, rfl⟩) | ((with_reducible refine (CA.out _).mono ?_); rintro e w3 ⟨rfl, rfl⟩) | ((with_reducible refine (CB.out _).mono ?_); rintro e w3 ⟨rfl, rfl⟩)))
    go_ret
    exact ⟨by rw [← HRR.out]; rfl, HB2.out⟩
  · have hr : (⟨#[102, 101, 110, 99, 101]⟩ : ByteArray) = r := by
      rw [← HR.out, show_eq8 op d a b n to_]
      try rfl
    have HRR := Aside0.mk hr
    clear hr HR
    clear zd za zb z3 z4 z5 z6
    go_wp2_with (first | (go_at_call 33; first | ((with_reducible refine (CD.out _).mono ?_); rintro e w3 ⟨rfl, rfl⟩) | ((with_reducible refine (CA.out _).mono ?_); rintro e w3 ⟨rfl, rfl⟩) | ((with_reducible refine (CB.out _).mono ?_); rintro e w3 ⟨rfl, rfl⟩)))
    go_ret
    exact ⟨by rw [← HRR.out]; rfl, HB2.out⟩
  · have hr : ((⟨#[116, 97, 107, 101]⟩ : ByteArray) ++ x3) = r := by
      rw [← HR.out, show_eq9 op d a b n to_, HX3.out, HN.out]
      try rfl
    have HRR := Aside0.mk hr
    clear hr HR
    have v9_0 := eq_true (show 4 + x3.size ≤ 9223372036854775807 by omega)
    have v9_0b : decide (4 + x3.size ≤ 9223372036854775807) = true := decide_eq_true (by omega)
    have v9_0c : (9223372036854775807 < 4 + x3.size) = False := eq_false (by omega)
    clear zd za zb z3 z4 z5 z6
    go_wp2_with (first | (go_at_call 33; first | ((with_reducible refine (CD.out _).mono ?_); rintro e w3 ⟨rfl, rfl⟩) | ((with_reducible refine (CA.out _).mono ?_); rintro e w3 ⟨rfl, rfl⟩) | ((with_reducible refine (CB.out _).mono ?_); rintro e w3 ⟨rfl, rfl⟩)))
    go_ret
    exact ⟨by rw [← HRR.out]; rfl, HB2.out⟩
  · have hr : ((⟨#[103, 105, 118, 101]⟩ : ByteArray) ++ x3) = r := by
      rw [← HR.out, show_eq10 op d a b n to_, HX3.out, HN.out]
      try rfl
    have HRR := Aside0.mk hr
    clear hr HR
    have v10_0 := eq_true (show 4 + x3.size ≤ 9223372036854775807 by omega)
    have v10_0b : decide (4 + x3.size ≤ 9223372036854775807) = true := decide_eq_true (by omega)
    have v10_0c : (9223372036854775807 < 4 + x3.size) = False := eq_false (by omega)
    clear zd za zb z3 z4 z5 z6
    go_wp2_with (first | (go_at_call 33; first | ((with_reducible refine (CD.out _).mono ?_); rintro e w3 ⟨rfl, rfl⟩) | ((with_reducible refine (CA.out _).mono ?_); rintro e w3 ⟨rfl, rfl⟩) | ((with_reducible refine (CB.out _).mono ?_); rintro e w3 ⟨rfl, rfl⟩)))
    go_ret
    exact ⟨by rw [← HRR.out]; rfl, HB2.out⟩
  · have hr : ((⟨#[111, 117, 116]⟩ : ByteArray) ++ ra) = r := by
      rw [← HR.out, show_eq11 op d a b n to_, HA.out]
      try rfl
    have HRR := Aside0.mk hr
    clear hr HR
    have v11_0 := eq_true (show 3 + ra.size ≤ 9223372036854775807 by omega)
    have v11_0b : decide (3 + ra.size ≤ 9223372036854775807) = true := decide_eq_true (by omega)
    have v11_0c : (9223372036854775807 < 3 + ra.size) = False := eq_false (by omega)
    clear zd za zb z3 z4 z5 z6
    go_wp2_with (first | (go_at_call 33; first | ((with_reducible refine (CD.out _).mono ?_); rintro e w3 ⟨rfl, rfl⟩) | ((with_reducible refine (CA.out _).mono ?_); rintro e w3 ⟨rfl, rfl⟩) | ((with_reducible refine (CB.out _).mono ?_); rintro e w3 ⟨rfl, rfl⟩)))
    go_ret
    exact ⟨by rw [← HRR.out]; rfl, HB2.out⟩
  · have hr : ((⟨#[116, 114, 97, 112]⟩ : ByteArray) ++ x3) = r := by
      rw [← HR.out, show_eq12 op d a b n to_, HX3.out, HN.out]
      try rfl
    have HRR := Aside0.mk hr
    clear hr HR
    have v12_0 := eq_true (show 4 + x3.size ≤ 9223372036854775807 by omega)
    have v12_0b : decide (4 + x3.size ≤ 9223372036854775807) = true := decide_eq_true (by omega)
    have v12_0c : (9223372036854775807 < 4 + x3.size) = False := eq_false (by omega)
    clear zd za zb z3 z4 z5 z6
    go_wp2_with (first | (go_at_call 33; first | ((with_reducible refine (CD.out _).mono ?_); rintro e w3 ⟨rfl, rfl⟩) | ((with_reducible refine (CA.out _).mono ?_); rintro e w3 ⟨rfl, rfl⟩) | ((with_reducible refine (CB.out _).mono ?_); rintro e w3 ⟨rfl, rfl⟩)))
    go_ret
    exact ⟨by rw [← HRR.out]; rfl, HB2.out⟩
  · have hr : (⟨#[104, 97, 108, 116]⟩ : ByteArray) = r := by
      rw [← HR.out, show_eq13 op d a b n to_]
      try rfl
    have HRR := Aside0.mk hr
    clear hr HR
    clear zd za zb z3 z4 z5 z6
    go_wp2_with (first | (go_at_call 33; first | ((with_reducible refine (CD.out _).mono ?_); rintro e w3 ⟨rfl, rfl⟩) | ((with_reducible refine (CA.out _).mono ?_); rintro e w3 ⟨rfl, rfl⟩) | ((with_reducible refine (CB.out _).mono ?_); rintro e w3 ⟨rfl, rfl⟩)))
    go_ret
    exact ⟨by rw [← HRR.out]; rfl, HB2.out⟩
end Go.Proofs.YtggfikekggcclaaDoor.PInsTells
