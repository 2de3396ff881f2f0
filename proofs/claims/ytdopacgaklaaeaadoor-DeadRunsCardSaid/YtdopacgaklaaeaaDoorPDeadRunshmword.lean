-- HAND paling/palingref12.Word rounds=1 making=1 needs=paling/palingref12.Get
-- HAND paling/palingref12.Value rounds=1 making=1 needs=paling/palingref12.Get;paling/palingref01.Eval
import Derived.Test.YtdopacgaklaaeaaDoorPDeadRunsx0
import Derived.Test.YtdopacgaklaaeaaDoorPDeadRunsx8
import Derived.Test.YtdopacgaklaaeaaDoorPDeadRunsx9
import Derived.Test.YtdopacgaklaaeaaDoorPDeadRunshg2
import Derived.Test.YtdopacgaklaaeaaDoorPDeadRunshg1
namespace Go.Proofs.YtdopacgaklaaeaaDoor.PDeadRuns
open Go.RowKit Go.Proofs.YtdopacgaklaaeaaDoorW.PrintWords Go.Proofs.YtdopacgaklaaeaaDoorW.PrintLast Go.Proofs.YtdopacgaklaaeaaDoorW.PrintMore
set_option linter.unusedVariables false
set_option linter.unusedSimpArgs false
/-! The document's machine: an instruction's word, and its value. -/
theorem mget.calls (l : List S90) (n : Int) (A0 : Option Addr) (c0 : Nat) (w : World) (hr0 : Kd.C k90 w A0 l.length l) (hc0 : l.length ≤ c0) (hl : l.length ≤ 1000000) :
    Calls Tryd.prog 39 #[.slice A0 l.length c0, .int .i64 n] w fun e w' => e = .returned (.int .i64 (getG l n)) ∧ Below w.heap.size w w' := by
  obtain ⟨k, hk⟩ := (get_ev l n (by omega)).rounds
  refine (palingref12_Get.calls k A0 c0 l n _ w hr0 hc0 hk).mono ?_
  rintro e w' ⟨rfl, nd, rfl⟩
  exact ⟨rfl, pw_below_drewN (Below.refl _ _) nd⟩
theorem meval.calls (o a b : Int) (w : World) : Calls Tryd.prog 77 #[.int .i64 o, .int .i64 a, .int .i64 b] w fun e w' => e = .returned (.int .i64 (evalL o a b)) ∧ Below w.heap.size w w' := by
  obtain ⟨k, hk⟩ := (eval_ev o a b).rounds
  refine (palingref01_Eval.calls k o a b _ w hk).mono ?_
  rintro e w' ⟨rfl, hb⟩
  exact ⟨rfl, by first | exact hb | (obtain ⟨nd, rfl⟩ := hb; exact pw_below_drewN (Below.refl _ _) nd)⟩
set_option maxRecDepth 100000 in
set_option maxHeartbeats 8000000 in
theorem mword.calls (l : List S90) (x : S28) (A0 : Option Addr) (c0 : Nat) (w : World) (hr0 : Kd.C k90 w A0 l.length l) (hc0 : l.length ≤ c0) (hl : l.length ≤ 1000000) :
    Calls Tryd.prog 62 #[.slice A0 l.length c0, .agg #[.int .i64 x.f0, .int .i64 x.f1, .int .i64 x.f2, .int .i64 x.f3, .int .i64 x.f4, .int .i64 x.f5, .int .i64 x.f6]] w fun e w' => e = .returned (.int .i64 (wordL l x)) ∧ Below w.heap.size w w' := by
  have hb1 : Below w.heap.size w (w.alloc (.cells #[.int .i64 x.f0, .int .i64 x.f1, .int .i64 x.f2, .int .i64 x.f3, .int .i64 x.f4, .int .i64 x.f5, .int .i64 x.f6] 28)) := (Below.refl _ _).alloc (Nat.le_refl _) _
  have HG := Aside0.mk (fun n (W : World) (hb : Below w.heap.size w W) => mget.calls l n A0 c0 W (Kd.C_below hr0 hb) hc0 hl)
  have HB1 := Aside0.mk hb1
  have GX := Aside0.mk (blk_new w (.cells #[.int .i64 x.f0, .int .i64 x.f1, .int .i64 x.f2, .int .i64 x.f3, .int .i64 x.f4, .int .i64 x.f5, .int .i64 x.f6] 28))
  clear hr0 hc0 hl hb1
  unfold wordL
  by_cases h3 : x.f3 < 0
  · rw [if_pos h3]
    have d3 : decide (x.f3 < 0) = true := decide_eq_true h3
    clear h3
    go_enter Tryd.func62, Tryd.ntmps62
    go_wp2_with fail
    go_ret
    exact ⟨rfl, HB1.out⟩
  · rw [if_neg h3]
    have d3 : decide (x.f3 < 0) = false := decide_eq_false h3
    clear h3
    obtain ⟨gx, hgx⟩ : ∃ gx, gx = w.heap.size := ⟨_, rfl⟩
    rw [← hgx] at GX
    have y3 : (w.alloc (.cells #[.int .i64 x.f0, .int .i64 x.f1, .int .i64 x.f2, .int .i64 x.f3, .int .i64 x.f4, .int .i64 x.f5, .int .i64 x.f6] 28)).cell? ⟨gx, 3, none⟩ = some (.int .i64 x.f3) := (blk_cell GX.out 3).trans rfl
    have y5 : (w.alloc (.cells #[.int .i64 x.f0, .int .i64 x.f1, .int .i64 x.f2, .int .i64 x.f3, .int .i64 x.f4, .int .i64 x.f5, .int .i64 x.f6] 28)).cell? ⟨gx, 5, none⟩ = some (.int .i64 x.f5) := (blk_cell GX.out 5).trans rfl
    have HGX := Aside0.mk hgx
    clear hgx
    go_enter Tryd.func62, Tryd.ntmps62
    go_upto_region 3 with fail
    rw [← HGX.out]
    refine start_ (n := 8) (S := (fun W' => W'.cell? ⟨gx, 3, none⟩ = some (.int .i64 x.f3) ∧ W'.cell? ⟨gx, 5, none⟩ = some (.int .i64 x.f5))) (ds := [7]) #[false, false, false, false, false, false, false, false] (by kernel_rfl) rfl rfl (⟨y3, y5⟩) (fun hHeld => ?_)
    refine pure_ (i := 0) (N := (some 10)) (v := ?_) (a' := ?_) #[true, false, false, false, false, false, false, false] rfl rfl (by kernel_rfl) (fun _ _ _ h => h) (Or.inl ⟨by rfl, ?_⟩) ?_ ?_
    rotate_left
    · intro w_
      go_simp
      with_reducible rfl
    rotate_left
    · simp only [Act.put, List.setIfInBounds_toArray, List.set_cons_zero, List.set_cons_succ, i64_w, i32_w]
      rfl
    refine take_ (i := 1) (N := (some 11)) (v := ?_) (a' := ?_) #[true, true, false, false, false, false, false, false] rfl rfl (by kernel_rfl) (fun _ _ _ h => h) (Or.inl ⟨by rfl, ?_⟩) hHeld ?_ ?_
    rotate_left
    · rintro w_ ⟨s0, s1⟩
      go_simp
      with_reducible rfl
    rotate_left
    · simp only [Act.put, List.setIfInBounds_toArray, List.set_cons_zero, List.set_cons_succ, i64_w, i32_w]
      rfl
    refine pure_ (i := 2) (N := (some 12)) (v := ?_) (a' := ?_) #[true, true, true, false, false, false, false, false] rfl rfl (by kernel_rfl) (fun _ _ _ h => h) (Or.inl ⟨by rfl, ?_⟩) ?_ ?_
    rotate_left
    · intro w_
      go_simp
      with_reducible rfl
    rotate_left
    · simp only [Act.put, List.setIfInBounds_toArray, List.set_cons_zero, List.set_cons_succ, i64_w, i32_w]
      rfl
    refine pure_ (i := 3) (N := (some 13)) (v := ?_) (a' := ?_) #[true, true, true, true, false, false, false, false] rfl rfl (by kernel_rfl) (fun _ _ _ h => h) (Or.inl ⟨by rfl, ?_⟩) ?_ ?_
    rotate_left
    · intro w_
      go_simp
      with_reducible rfl
    rotate_left
    · simp only [Act.put, List.setIfInBounds_toArray, List.set_cons_zero, List.set_cons_succ, i64_w, i32_w]
      rfl
    refine take_ (i := 4) (N := (some 14)) (v := ?_) (a' := ?_) #[true, true, true, true, true, false, false, false] rfl rfl (by kernel_rfl) (fun _ _ _ h => h) (Or.inl ⟨by rfl, ?_⟩) hHeld ?_ ?_
    rotate_left
    · rintro w_ ⟨s0, s1⟩
      go_simp
      with_reducible rfl
    rotate_left
    · simp only [Act.put, List.setIfInBounds_toArray, List.set_cons_zero, List.set_cons_succ, i64_w, i32_w]
      rfl
    refine one_ (i := 5) (N := (some 15)) #[true, true, true, true, true, true, false, false] rfl rfl (by kernel_rfl) (by decide) (fun K hK => ?_)
    refine goes_ Tryd.func39 (by kernel_rfl) rfl #[.slice A0 l.length c0, .int .i64 x.f3] (by rfl) rfl rfl (by (try simp only [List.map_toArray, List.map_cons, List.map_nil]); rfl) ?_
    refine (HG.out x.f3 _ (below_drew HB1.out)).mono ?_
    rintro e w2 ⟨rfl, hb⟩
    have y3b := pw_cell_below hb y3
    have y5b := pw_cell_below hb y5
    refine ⟨_, rfl, ?_⟩
    refine hK.out _ _ (⟨y3b, y5b⟩) (fun hHeld => ?_)
    clear hK K
    refine norm_ (a' := ?_) ?_ ?_
    rotate_left
    · show Act.put _ (some 15) _ = _
      simp only [Act.put, List.setIfInBounds_toArray, List.set_cons_zero, List.set_cons_succ, i64_w, i32_w]
      rfl
    refine pure_ (i := 6) (N := (some 16)) (v := ?_) (a' := ?_) #[true, true, true, true, true, true, true, false] rfl rfl (by kernel_rfl) (fun _ _ _ h => h) (Or.inl ⟨by rfl, ?_⟩) ?_ ?_
    rotate_left
    · intro w_
      go_simp
      with_reducible rfl
    rotate_left
    · simp only [Act.put, List.setIfInBounds_toArray, List.set_cons_zero, List.set_cons_succ, i64_w, i32_w]
      rfl
    refine pure_ (i := 7) (N := (some 4)) (v := ?_) (a' := ?_) #[true, true, true, true, true, true, true, true] rfl rfl (by kernel_rfl) (fun _ _ _ h => h) (Or.inl ⟨by rfl, ?_⟩) ?_ ?_
    rotate_left
    · intro w_
      go_simp
      with_reducible rfl
    rotate_left
    · simp only [Act.put, List.setIfInBounds_toArray, List.set_cons_zero, List.set_cons_succ, i64_w, i32_w]
      rfl
    refine done_ (by kernel_rfl) ?_
    go_wp2_with fail
    go_ret
    exact ⟨rfl, (below_drew HB1.out).trans (hb.mono (below_drew HB1.out).size)⟩
theorem mVK (k : Int) : ((k == 0) = true) ∨ ((k == 0) = false ∧ (k == 1) = true) ∨ ((k == 0) = false ∧ (k == 1) = false ∧ (k == 2) = true) ∨ ((k == 0) = false ∧ (k == 1) = false ∧ (k == 2) = false) := by
  cases (k == 0) <;> cases (k == 1) <;> cases (k == 2) <;> simp
set_option maxRecDepth 100000 in
set_option maxHeartbeats 8000000 in
theorem mvalue.calls (l : List S90) (x : S28) (A0 : Option Addr) (c0 : Nat) (w : World) (hr0 : Kd.C k90 w A0 l.length l) (hc0 : l.length ≤ c0) (hl : l.length ≤ 1000000) :
    Calls Tryd.prog 64 #[.slice A0 l.length c0, .agg #[.int .i64 x.f0, .int .i64 x.f1, .int .i64 x.f2, .int .i64 x.f3, .int .i64 x.f4, .int .i64 x.f5, .int .i64 x.f6]] w fun e w' => e = .returned (.int .i64 (valueL l x)) ∧ Below w.heap.size w w' := by
  have hb1 : Below w.heap.size w (w.alloc (.cells #[.int .i64 x.f0, .int .i64 x.f1, .int .i64 x.f2, .int .i64 x.f3, .int .i64 x.f4, .int .i64 x.f5, .int .i64 x.f6] 28)) := (Below.refl _ _).alloc (Nat.le_refl _) _
  have HG := Aside0.mk (fun n (W : World) (hb : Below w.heap.size w W) => mget.calls l n A0 c0 W (Kd.C_below hr0 hb) hc0 hl)
  have HB1 := Aside0.mk hb1
  have GX := Aside0.mk (blk_new w (.cells #[.int .i64 x.f0, .int .i64 x.f1, .int .i64 x.f2, .int .i64 x.f3, .int .i64 x.f4, .int .i64 x.f5, .int .i64 x.f6] 28))
  clear hr0 hc0 hl hb1
  obtain ⟨gx, hgx⟩ : ∃ gx, gx = w.heap.size := ⟨_, rfl⟩
  rw [← hgx] at GX
  have HGX := Aside0.mk hgx
  clear hgx
  rcases mVK x.f0 with h0 | ⟨h0, h1⟩ | ⟨h0, h1, h2⟩ | ⟨h0, h1, h2⟩
  · have hv : valueL l x = x.f5 := by unfold valueL; rw [if_pos (eq_of_beq h0)]
    have HV := Aside0.mk hv
    clear hv
    go_enter Tryd.func64, Tryd.ntmps64
    go_wp2_with fail
    go_ret
    exact ⟨by rw [HV.out]; rfl, HB1.out⟩
  · have hv : valueL l x = getG l x.f3 := by unfold valueL; rw [if_neg (by simpa using h0), if_pos (eq_of_beq h1)]
    have HV := Aside0.mk hv
    clear hv
    go_enter Tryd.func64, Tryd.ntmps64
    go_wp2_with fail
    refine (HG.out x.f3 _ HB1.out).mono ?_
    rintro e w2 ⟨rfl, hb⟩
    go_wp2_with fail
    go_ret
    exact ⟨by rw [HV.out]; rfl, HB1.out.trans (hb.mono HB1.out.size)⟩
  · have hv : valueL l x = evalL x.f1 (getG l x.f3) (getG l x.f4) := by unfold valueL; rw [if_neg (by simpa using h0), if_neg (by simpa using h1), if_pos (eq_of_beq h2)]
    have HV := Aside0.mk hv
    clear hv
    have y1 : (w.alloc (.cells #[.int .i64 x.f0, .int .i64 x.f1, .int .i64 x.f2, .int .i64 x.f3, .int .i64 x.f4, .int .i64 x.f5, .int .i64 x.f6] 28)).cell? ⟨gx, 1, none⟩ = some (.int .i64 x.f1) := (blk_cell GX.out 1).trans rfl
    have y3 : (w.alloc (.cells #[.int .i64 x.f0, .int .i64 x.f1, .int .i64 x.f2, .int .i64 x.f3, .int .i64 x.f4, .int .i64 x.f5, .int .i64 x.f6] 28)).cell? ⟨gx, 3, none⟩ = some (.int .i64 x.f3) := (blk_cell GX.out 3).trans rfl
    have y4 : (w.alloc (.cells #[.int .i64 x.f0, .int .i64 x.f1, .int .i64 x.f2, .int .i64 x.f3, .int .i64 x.f4, .int .i64 x.f5, .int .i64 x.f6] 28)).cell? ⟨gx, 4, none⟩ = some (.int .i64 x.f4) := (blk_cell GX.out 4).trans rfl
    obtain ⟨g3, hg3⟩ : ∃ g, g = getG l x.f3 := ⟨_, rfl⟩
    obtain ⟨g4, hg4⟩ : ∃ g, g = getG l x.f4 := ⟨_, rfl⟩
    have HG3 := Aside0.mk hg3
    have HG4 := Aside0.mk hg4
    clear hg3 hg4
    go_enter Tryd.func64, Tryd.ntmps64
    go_upto_region 7 with fail
    rw [← HGX.out]
    refine start_ (n := 12) (S := (fun W' => W'.cell? ⟨gx, 1, none⟩ = some (.int .i64 x.f1) ∧ W'.cell? ⟨gx, 3, none⟩ = some (.int .i64 x.f3) ∧ W'.cell? ⟨gx, 4, none⟩ = some (.int .i64 x.f4))) (ds := [11]) #[false, false, false, false, false, false, false, false, false, false, false, false] (by kernel_rfl) rfl rfl (⟨y1, y3, y4⟩) (fun hHeld => ?_)
    refine pure_ (i := 0) (N := (some 19)) (v := ?_) (a' := ?_) #[true, false, false, false, false, false, false, false, false, false, false, false] rfl rfl (by kernel_rfl) (fun _ _ _ h => h) (Or.inl ⟨by rfl, ?_⟩) ?_ ?_
    rotate_left
    · intro w_
      go_simp
      with_reducible rfl
    rotate_left
    · simp only [Act.put, List.setIfInBounds_toArray, List.set_cons_zero, List.set_cons_succ, i64_w, i32_w]
      rfl
    refine take_ (i := 1) (N := (some 20)) (v := ?_) (a' := ?_) #[true, true, false, false, false, false, false, false, false, false, false, false] rfl rfl (by kernel_rfl) (fun _ _ _ h => h) (Or.inl ⟨by rfl, ?_⟩) hHeld ?_ ?_
    rotate_left
    · rintro w_ ⟨s0, s1, s2⟩
      go_simp
      with_reducible rfl
    rotate_left
    · simp only [Act.put, List.setIfInBounds_toArray, List.set_cons_zero, List.set_cons_succ, i64_w, i32_w]
      rfl
    refine pure_ (i := 2) (N := (some 21)) (v := ?_) (a' := ?_) #[true, true, true, false, false, false, false, false, false, false, false, false] rfl rfl (by kernel_rfl) (fun _ _ _ h => h) (Or.inl ⟨by rfl, ?_⟩) ?_ ?_
    rotate_left
    · intro w_
      go_simp
      with_reducible rfl
    rotate_left
    · simp only [Act.put, List.setIfInBounds_toArray, List.set_cons_zero, List.set_cons_succ, i64_w, i32_w]
      rfl
    refine pure_ (i := 3) (N := (some 22)) (v := ?_) (a' := ?_) #[true, true, true, true, false, false, false, false, false, false, false, false] rfl rfl (by kernel_rfl) (fun _ _ _ h => h) (Or.inl ⟨by rfl, ?_⟩) ?_ ?_
    rotate_left
    · intro w_
      go_simp
      with_reducible rfl
    rotate_left
    · simp only [Act.put, List.setIfInBounds_toArray, List.set_cons_zero, List.set_cons_succ, i64_w, i32_w]
      rfl
    refine take_ (i := 4) (N := (some 23)) (v := ?_) (a' := ?_) #[true, true, true, true, true, false, false, false, false, false, false, false] rfl rfl (by kernel_rfl) (fun _ _ _ h => h) (Or.inl ⟨by rfl, ?_⟩) hHeld ?_ ?_
    rotate_left
    · rintro w_ ⟨s0, s1, s2⟩
      go_simp
      with_reducible rfl
    rotate_left
    · simp only [Act.put, List.setIfInBounds_toArray, List.set_cons_zero, List.set_cons_succ, i64_w, i32_w]
      rfl
    refine pure_ (i := 6) (N := (some 25)) (v := ?_) (a' := ?_) #[true, true, true, true, true, false, true, false, false, false, false, false] rfl rfl (by kernel_rfl) (fun _ _ _ h => h) (Or.inl ⟨by rfl, ?_⟩) ?_ ?_
    rotate_left
    · intro w_
      go_simp
      with_reducible rfl
    rotate_left
    · simp only [Act.put, List.setIfInBounds_toArray, List.set_cons_zero, List.set_cons_succ, i64_w, i32_w]
      rfl
    refine pure_ (i := 7) (N := (some 26)) (v := ?_) (a' := ?_) #[true, true, true, true, true, false, true, true, false, false, false, false] rfl rfl (by kernel_rfl) (fun _ _ _ h => h) (Or.inl ⟨by rfl, ?_⟩) ?_ ?_
    rotate_left
    · intro w_
      go_simp
      with_reducible rfl
    rotate_left
    · simp only [Act.put, List.setIfInBounds_toArray, List.set_cons_zero, List.set_cons_succ, i64_w, i32_w]
      rfl
    refine take_ (i := 8) (N := (some 27)) (v := ?_) (a' := ?_) #[true, true, true, true, true, false, true, true, true, false, false, false] rfl rfl (by kernel_rfl) (fun _ _ _ h => h) (Or.inl ⟨by rfl, ?_⟩) hHeld ?_ ?_
    rotate_left
    · rintro w_ ⟨s0, s1, s2⟩
      go_simp
      with_reducible rfl
    rotate_left
    · simp only [Act.put, List.setIfInBounds_toArray, List.set_cons_zero, List.set_cons_succ, i64_w, i32_w]
      rfl
    refine one_ (i := 5) (N := (some 24)) #[true, true, true, true, true, true, true, true, true, false, false, false] rfl rfl (by kernel_rfl) (by decide) (fun K hK => ?_)
    refine goes_ Tryd.func39 (by kernel_rfl) rfl #[.slice A0 l.length c0, .int .i64 x.f3] (by rfl) rfl rfl (by (try simp only [List.map_toArray, List.map_cons, List.map_nil]); rfl) ?_
    refine (HG.out x.f3 _ (below_drew HB1.out)).mono ?_
    rintro e w2 ⟨rfl, hb⟩
    have z1 := pw_cell_below hb y1
    have z3 := pw_cell_below hb y3
    have z4 := pw_cell_below hb y4
    have B2 := (below_drew HB1.out).trans (hb.mono (below_drew HB1.out).size)
    rw [← HG3.out]
    refine ⟨_, rfl, ?_⟩
    refine hK.out _ _ (⟨z1, z3, z4⟩) (fun hHeld => ?_)
    clear hK K
    refine norm_ (a' := ?_) ?_ ?_
    rotate_left
    · show Act.put _ (some 24) _ = _
      simp only [Act.put, List.setIfInBounds_toArray, List.set_cons_zero, List.set_cons_succ, i64_w, i32_w]
      rfl
    refine one_ (i := 9) (N := (some 28)) #[true, true, true, true, true, true, true, true, true, true, false, false] rfl rfl (by kernel_rfl) (by decide) (fun K hK => ?_)
    refine goes_ Tryd.func39 (by kernel_rfl) rfl #[.slice A0 l.length c0, .int .i64 x.f4] (by rfl) rfl rfl (by (try simp only [List.map_toArray, List.map_cons, List.map_nil]); rfl) ?_
    refine (HG.out x.f4 _ B2).mono ?_
    rintro e w3 ⟨rfl, hb3⟩
    have u1 := pw_cell_below hb3 z1
    have u3 := pw_cell_below hb3 z3
    have u4 := pw_cell_below hb3 z4
    have B3 := B2.trans (hb3.mono B2.size)
    rw [← HG4.out]
    refine ⟨_, rfl, ?_⟩
    refine hK.out _ _ (⟨u1, u3, u4⟩) (fun hHeld => ?_)
    clear hK K
    refine norm_ (a' := ?_) ?_ ?_
    rotate_left
    · show Act.put _ (some 28) _ = _
      simp only [Act.put, List.setIfInBounds_toArray, List.set_cons_zero, List.set_cons_succ, i64_w, i32_w]
      rfl
    refine one_ (i := 10) (N := (some 29)) #[true, true, true, true, true, true, true, true, true, true, true, false] rfl rfl (by kernel_rfl) (by decide) (fun K hK => ?_)
    refine goes_ Tryd.func77 (by kernel_rfl) rfl #[.int .i64 x.f1, .int .i64 g3, .int .i64 g4] (by rfl) rfl rfl (by (try simp only [List.map_toArray, List.map_cons, List.map_nil]); rfl) ?_
    refine (meval.calls x.f1 g3 g4 _).mono ?_
    rintro e w4 ⟨rfl, hb4⟩
    have t1 := pw_cell_below hb4 u1
    have t3 := pw_cell_below hb4 u3
    have t4 := pw_cell_below hb4 u4
    have B4 := B3.trans (hb4.mono B3.size)
    refine ⟨_, rfl, ?_⟩
    refine hK.out _ _ (⟨t1, t3, t4⟩) (fun hHeld => ?_)
    clear hK K
    refine norm_ (a' := ?_) ?_ ?_
    rotate_left
    · show Act.put _ (some 29) _ = _
      simp only [Act.put, List.setIfInBounds_toArray, List.set_cons_zero, List.set_cons_succ, i64_w, i32_w]
      rfl
    refine pure_ (i := 11) (N := (some 4)) (v := ?_) (a' := ?_) #[true, true, true, true, true, true, true, true, true, true, true, true] rfl rfl (by kernel_rfl) (fun _ _ _ h => h) (Or.inl ⟨by rfl, ?_⟩) ?_ ?_
    rotate_left
    · intro w_
      go_simp
      with_reducible rfl
    rotate_left
    · simp only [Act.put, List.setIfInBounds_toArray, List.set_cons_zero, List.set_cons_succ, i64_w, i32_w]
      rfl
    refine done_ (by kernel_rfl) ?_
    go_wp2_with fail
    go_ret
    exact ⟨by rw [HV.out, HG3.out, HG4.out]; rfl, B4⟩
  · have hv : valueL l x = if getG l x.f3 = 0 then getG l x.f2 else getG l x.f4 := by unfold valueL; rw [if_neg (by simpa using h0), if_neg (by simpa using h1), if_neg (by simpa using h2)]
    have HV := Aside0.mk hv
    clear hv
    go_enter Tryd.func64, Tryd.ntmps64
    go_wp2_with fail
    refine (HG.out x.f3 _ HB1.out).mono ?_
    rintro e w2 ⟨rfl, hb⟩
    have B2 := HB1.out.trans (hb.mono HB1.out.size)
    have g2 := blk_below GX.out hb
    have x2 : w2.cell? ⟨gx, 2, none⟩ = some (.int .i64 x.f2) := (blk_cell g2 2).trans rfl
    have x4 : w2.cell? ⟨gx, 4, none⟩ = some (.int .i64 x.f4) := (blk_cell g2 4).trans rfl
    rw [← HGX.out]
    by_cases hz : getG l x.f3 = 0
    · rw [if_pos hz] at HV
      have hz1 : (getG l x.f3 != 0) = false := by rw [hz]; rfl
      have BB := Aside0.mk B2
      clear hz g2 hb B2
      go_wp2_with fail
      refine (HG.out x.f2 _ BB.out).mono ?_
      rintro e w3 ⟨rfl, hb3⟩
      go_wp2_with fail
      go_ret
      exact ⟨by rw [HV.out]; rfl, BB.out.trans (hb3.mono BB.out.size)⟩
    · rw [if_neg hz] at HV
      have hz1 : (getG l x.f3 != 0) = true := bne_iff_ne.2 hz
      have BB := Aside0.mk B2
      clear hz g2 hb B2
      go_wp2_with fail
      refine (HG.out x.f4 _ BB.out).mono ?_
      rintro e w3 ⟨rfl, hb3⟩
      go_wp2_with fail
      go_ret
      exact ⟨by rw [HV.out]; rfl, BB.out.trans (hb3.mono BB.out.size)⟩
theorem mput.calls (w0 W : World) (F : Nat → Prop) (vG : Value) (l : List S90) (n x : Int) (hB : Below w0.heap.size w0 W) (h : Kd.R k90 90 W w0.heap.size F vG l) (hl : l.length ≤ 1000000) :
    Calls Tryd.prog 63 #[vG, .int .i64 n, .int .i64 x] W fun e w' => ∃ v', e = .returned v' ∧ Kd.R k90 90 w' w0.heap.size (fun k => F k ∨ W.heap.size ≤ k) v' (putG l n x) ∧ Below w0.heap.size w0 w' ∧ Kept W w' F ∧ ∀ T : List Nat, 90 ∉ T → Stay T W w' := by
  obtain ⟨k, hk⟩ := (put_ev l n x hl).rounds
  refine (palingref12_Put.calls k _ vG l n x _ w0 W hB (Kd.R_tight2 rfl h) hk).mono ?_
  rintro e w' ⟨v', rfl, h1, h2, h3⟩
  exact ⟨v', rfl, Kd.R_mono h1 (fun k hk => hk.imp (fun q => q.2) id), h2, h3.mono (fun k hk => hk.2), fun T hT => Stay.kept h3 (fun k hk => Kd.R_typed h k hk.1.symm) hT⟩
end Go.Proofs.YtdopacgaklaaeaaDoor.PDeadRuns
