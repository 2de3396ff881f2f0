-- HAND paling/level.Secret rounds=1 making=1
import Derived.Test.YtndhhnhhnkkpbaaPLevelMorex0
import Derived.Test.YtndhhnhhnkkpbaaPLevelMoreharea
import Derived.Test.YtndhhnhhnkkpbaaPLevelMorehkeysBool
import Derived.Test.YtndhhnhhnkkpbaaPLevelMorehmap
import Derived.Test.YtndhhnhhnkkpbaaPLevelMorehscan
namespace Go.Proofs.Ytndhhnhhnkkpbaa.PLevelMore
open Go.RowKit Go.Proofs.YtndhhnhhnkkpbaaW.PrintWords Go.Proofs.YtndhhnhhnkkpbaaW.PrintLast Go.Proofs.YtndhhnhhnkkpbaaW.PrintMore
set_option linter.unusedVariables false
set_option linter.unusedSimpArgs false

def areaIdx (l : List S26) (word : Int) : Int := (scanIdx (σ := Unit) (fun _ => inArea word) (fun _ _ => ()) () l 0).1
def makesB (l : List S26) (S : List Int) (x : S36) : Bool :=
  if x.f0 = 4 then (decide (areaIdx l x.f5 < 0) || (rd_T26 l (areaIdx l x.f5)).f2)
  else if x.f0 = 1 then S.contains x.f3 else if x.f0 = 2 then (S.contains x.f3 || S.contains x.f4) else if x.f0 = 3 then (S.contains x.f3 || S.contains x.f4) else false
def setF (S : List Int) : Int → Option Value := fun i => if S.contains i = true then some (.bool true) else none
theorem setF_get (S : List Int) (i : Int) : (setF S i).getD (.bool false) = .bool (S.contains i) := by
  unfold setF
  cases S.contains i <;> rfl
theorem scanIdx_lt {σ α : Type} (p : σ → α → Bool) (nx : σ → α → σ) : ∀ (s : σ) (l : List α) (k : Nat), (scanIdx p nx s l k).1 < (k + l.length : Nat) ∨ (scanIdx p nx s l k).1 = -1
  | s, [], k => .inr rfl
  | s, x :: xs, k => by
    unfold scanIdx
    split
    · left
      show (k : Int) < ((k + (xs.length + 1) : Nat) : Int)
      omega
    · rcases scanIdx_lt p nx (nx s x) xs (k + 1) with h | h
      · left
        simp only [List.length_cons]
        omega
      · exact .inr h

def secret1.Post (b : Bool) (w : World) (e : Ending) (w' : World) : Prop := e = .returned (.bool b) ∧ Below w.heap.size w w'
set_option maxHeartbeats 2000000 in
theorem secret1.calls (x : S36) (l : List S26) (S : List Int) (A1 : Option Addr) (c1 Bl Bm b n : Nat) (w : World) (hl : w.cell? ⟨Bl, 0, none⟩ = some (.slice A1 l.length c1)) (hC : Kd.C k26 w A1 l.length l) (hc1 : l.length ≤ c1) (hlen : l.length ≤ 9223372036854775807)
    (hm : w.cell? ⟨Bm, 0, none⟩ = some (.map (some b))) (him : IM w b (setF S) n) :
    Calls Try.prog 21 #[.agg #[.int .i64 x.f0, .int .i64 x.f1, .int .i64 x.f2, .int .i64 x.f3, .int .i64 x.f4, .int .i64 x.f5, .int .i64 x.f6], .pointer (some ⟨Bl, 0, none⟩), .pointer (some ⟨Bm, 0, none⟩)] w (secret1.Post (makesB l S x) w) := by
  obtain ⟨x0, x1, x2, x3, x4, x5, x6⟩ := x
  have hBl := World.block_lt_of_cell? w _ hl
  have hBm := World.block_lt_of_cell? w _ hm
  have HC := Aside0.mk hC
  clear hC
  have HI := Aside0.mk him
  clear him
  have hlk : ∀ (o : Obj) (i : Int), Sem.run Try.prog (Instr.lookup 45 (.map (some b)) (.int .i64 i) false) (w.alloc o) = .ok (.bool (S.contains i)) (w.alloc o) := fun o i => by
    rw [(HI.out.below ((Below.refl w.heap.size w).alloc (Nat.le_refl _) o) HI.out.lt).lookup Try.underlying45 Try.underlying3 (Try.zeroValue4 _) i, setF_get]
  obtain ⟨q, hq⟩ : ∃ q, q = makesB l S ⟨x0, x1, x2, x3, x4, x5, x6⟩ := ⟨_, rfl⟩
  rw [← hq]
  have HQ := Aside0.mk hq
  clear hq
  by_cases g4 : x0 = 4
  · subst g4
    clear hlk
    obtain ⟨k, hk⟩ : ∃ k, k = areaIdx l x5 := ⟨_, rfl⟩
    have hka : level_Area.f l x5 = some k := by rw [hk]; unfold level_Area.f; rw [if_pos hlen]; rfl
    have hk1 : k < l.length ∨ k = -1 := by
      rcases scanIdx_lt (σ := Unit) (fun _ => inArea x5) (fun _ _ => ()) () l 0 with h | h
      · left; rw [hk]; simpa [areaIdx] using h
      · right; rw [hk]; exact h
    have hkq : q = (decide (k < 0) || (rd_T26 l k).f2) := by rw [HQ.out, hk]; rfl
    clear HQ
    have HK := Aside0.mk hka
    clear hka
    have HKE := Aside0.mk hk
    clear hk
    by_cases g0 : k < 0
    · have hkq' : q = true := by rw [hkq]; simp [g0]
      subst hkq'
      clear hkq
      go_enter Try.func21, Try.ntmps21
      go_wp2_with fail
      refine (level_Area.calls A1 c1 l x5 k _ (Kd.C_below HC.out ((Below.refl _ _).alloc (Nat.le_refl _) _)) hc1 HK.out).mono ?_
      rintro e w' ⟨rfl, hb⟩
      have HB := Aside0.mk (below_step ((Below.refl _ _).alloc (Nat.le_refl _) _) hb)
      clear hb
      go_wp2
      go_ret
      exact ⟨rfl, HB.out⟩
    · obtain ⟨ad, e1, hx0, hx1, hx2⟩ := at_T26 HC.out k (by omega) (by omega)
      subst e1
      obtain ⟨y, hy⟩ : ∃ y, y = (rd_T26 l k).f2 := ⟨_, rfl⟩
      rw [← hy] at hx2 hkq
      have hkq' : q = y := by rw [hkq]; simp [g0]
      subst hkq'
      clear hkq hy hx0 hx1
      have hklt : k < l.length := by omega
      go_enter Try.func21, Try.ntmps21
      go_wp2_with fail
      refine (level_Area.calls (some ad) c1 l x5 k _ (Kd.C_below HC.out ((Below.refl _ _).alloc (Nat.le_refl _) _)) hc1 HK.out).mono ?_
      rintro e w' ⟨rfl, hb⟩
      have HB := Aside0.mk (below_step ((Below.refl _ _).alloc (Nat.le_refl _) _) hb)
      clear hb
      have hl' := (HB.out.cell (p := ⟨Bl, 0, none⟩) hBl).trans hl
      have hx2' := (HB.out.cell (World.block_lt_of_cell? w _ hx2)).trans hx2
      clear hl hx2 hm
      go_wp2
      go_ret
      exact ⟨by have hd : decide (k < 0) = false := decide_eq_false (by omega)
                simp [hd], HB.out⟩
  · by_cases g1 : x0 = 1
    · subst g1
      have hkq : q = S.contains x3 := by rw [HQ.out]; rfl
      subst hkq
      clear HQ HC
      obtain ⟨y, hy⟩ : ∃ y, y = S.contains x3 := ⟨_, rfl⟩
      have hlk3 := fun o => hlk o x3
      rw [← hy] at hlk3 ⊢
      clear hlk hy
      go_enter Try.func21, Try.ntmps21
      go_wp2
      go_ret
      exact ⟨rfl, (Below.refl _ _).alloc (Nat.le_refl _) _⟩
    · by_cases g2 : x0 = 2 ∨ x0 = 3
      · have hkq : q = (S.contains x3 || S.contains x4) := by rw [HQ.out]; rcases g2 with rfl | rfl <;> rfl
        clear HQ HC
        obtain ⟨y3, hy3⟩ : ∃ y, y = S.contains x3 := ⟨_, rfl⟩
        obtain ⟨y4, hy4⟩ : ∃ y, y = S.contains x4 := ⟨_, rfl⟩
        have hlk3 := fun o => hlk o x3
        have hlk4 := fun o => hlk o x4
        rw [← hy3] at hlk3 hkq
        rw [← hy4] at hlk4 hkq
        clear hlk hy3 hy4
        cases y3 with
        | true =>
          have hq' : q = true := by rw [hkq]; rfl
          subst hq'
          clear hkq hlk4
          rcases g2 with rfl | rfl
          all_goals
            go_enter Try.func21, Try.ntmps21
            go_wp2
            go_ret
            exact ⟨rfl, (Below.refl _ _).alloc (Nat.le_refl _) _⟩
        | false =>
          have hq' : q = y4 := by rw [hkq]; rfl
          subst hq'
          clear hkq
          rcases g2 with rfl | rfl
          all_goals
            go_enter Try.func21, Try.ntmps21
            go_wp2
            go_ret
            exact ⟨rfl, (Below.refl _ _).alloc (Nat.le_refl _) _⟩
      · have g2' : ¬ x0 = 2 := fun h => g2 (.inl h)
        have g3' : ¬ x0 = 3 := fun h => g2 (.inr h)
        have hq' : q = false := by rw [HQ.out]; simp [makesB, g4, g1, g2', g3']
        subst hq'
        clear HQ HC hlk
        go_enter Try.func21, Try.ntmps21
        go_wp2
        go_ret
        exact ⟨rfl, (Below.refl _ _).alloc (Nat.le_refl _) _⟩

/-! ### the whole -/
def secretStep (l : List S26) (S : List Int) (x : S36) : List Int := if makesB l S x = true then (if S.contains x.f2 = true then S else S ++ [x.f2]) else S
def level_Secret.l0 : Nat → List S36 → List S26 → Int → List Int → Option (List Int)
  | 0, _, _, _, _ => none
  | k + 1, c, l, was, S => if was < (S.length : Int) then level_Secret.l0 k c l (S.length : Int) (c.foldl (secretStep l) S) else some S
def sortI (S : List Int) : List Int := S.mergeSort (fun x y => decide (x ≤ y))
def level_Secret.f (k : Nat) (l0 : List S36) (l1 : List S26) : Option (List Int) :=
  if l0.length ≤ 9223372036854775807 ∧ l1.length ≤ 9223372036854775807 then (level_Secret.l0 k l0 l1 (-1) []).bind fun S => if S.all (fun i => (Lit.int .i64 i).wf) = true ∧ S.length * 8 ≤ 140737488355328 then some (sortI S) else none else none
theorem level_Secret.mono_l : ∀ k y0 y1 y2 y3, LeO (level_Secret.l0 k y0 y1 y2 y3) (level_Secret.l0 (k + 1) y0 y1 y2 y3)
  | 0 => fun _ _ _ _ r h => by simp [level_Secret.l0] at h
  | k + 1 => fun y0 y1 y2 y3 => by
    unfold level_Secret.l0
    exact LeO.ite (level_Secret.mono_l k _ _ _ _) (LeO.refl _)
theorem level_Secret.mono : ∀ a0 a1 k, LeO (level_Secret.f k a0 a1) (level_Secret.f (k + 1) a0 a1) := by
  intro a0 a1 k
  unfold level_Secret.f
  exact LeO.ite (LeO.bind (level_Secret.mono_l k _ _ _ _) (fun _ => LeO.refl _)) (LeO.refl _)

theorem setF_snoc (S : List Int) (i : Int) : upd (setF S) i (.bool true) = setF (S ++ [i]) := by
  funext j
  unfold upd setF
  by_cases h : j = i
  · subst h; simp
  · simp [h]
theorem setF_same (S : List Int) (i : Int) (h : S.contains i = true) : upd (setF S) i (.bool true) = setF S := by
  funext j
  unfold upd setF
  by_cases hj : j = i
  · subst hj; simp [h] at *; simp [h]
  · simp [hj]
theorem setF_some (S : List Int) (i : Int) : (setF S i).isSome = true ↔ i ∈ S := by
  unfold setF
  by_cases hc : S.contains i = true
  · rw [if_pos hc]; simpa using hc
  · rw [if_neg hc]; simpa using hc
def SecInv (w : World) (A1 : Option Addr) (n1 c1 : Nat) (S : List Int) (W : World) : Prop :=
  Below w.heap.size w W ∧ S.Nodup ∧ W.cell? ⟨w.heap.size, 0, none⟩ = some (.slice A1 n1 c1) ∧ W.cell? ⟨w.heap.size + 1 + 1, 0, none⟩ = some (.map (some (w.heap.size + 1))) ∧ IM W (w.heap.size + 1) (setF S) S.length
theorem SecInv.step {w W W' : World} {A1 : Option Addr} {n1 c1 : Nat} {S : List Int} (h : SecInv w A1 n1 c1 S W) (hb : Below W.heap.size W W') : SecInv w A1 n1 c1 S W' := by
  obtain ⟨h1, h0, h2, h3, h4⟩ := h
  exact ⟨below_step h1 hb, h0, (hb.cell (World.block_lt_of_cell? W _ h2)).trans h2, (hb.cell (World.block_lt_of_cell? W _ h3)).trans h3, h4.below hb h4.lt⟩
theorem SecInv.put {w W W' : World} {A1 : Option Addr} {n1 c1 : Nat} {S : List Int} (h : SecInv w A1 n1 c1 S W) (i : Int) (him : IM W' (w.heap.size + 1) (upd (setF S) i (.bool true)) (if (setF S i).isSome then S.length else S.length + 1)) (hg : W.grownBy W' (some (w.heap.size + 1))) :
    SecInv w A1 n1 c1 (if S.contains i = true then S else S ++ [i]) W' := by
  obtain ⟨h1, h0, h2, h3, h4⟩ := h
  have hcell : ∀ p : Addr, p.block < W.heap.size → p.block ≠ w.heap.size + 1 → W'.cell? p = W.cell? p := fun p hp hne => World.cell?_of_block (w := W) (hg.block p.block hp (by simpa using hne))
  refine ⟨h1.grown hg h1.size (fun k hk => by cases hk; omega), ?_, (hcell _ (World.block_lt_of_cell? W _ h2) (by simp)).trans h2, (hcell _ (World.block_lt_of_cell? W _ h3) (by simp)).trans h3, ?_⟩
  · by_cases hc : S.contains i = true
    · rw [if_pos hc]; exact h0
    · rw [if_neg hc]
      refine List.nodup_append.2 ⟨h0, by simp, ?_⟩
      intro a ha b hb
      simp only [List.mem_singleton] at hb
      subst hb
      rintro rfl
      exact hc (by simpa using ha)
  by_cases hc : S.contains i = true
  · rw [if_pos hc]
    rw [setF_same S i hc] at him
    refine him.congr (fun _ => rfl) ?_
    simp only [setF, hc, if_true, Option.isSome_some]
  · rw [if_neg hc]
    rw [setF_snoc] at him
    have hf : S.contains i = false := by simpa using hc
    refine him.congr (fun _ => rfl) ?_
    simp only [setF, hf, Bool.false_eq_true, if_false, Option.isSome_none, List.length_append, List.length_singleton]
theorem sorted_ext : ∀ {L M : List Int}, L.Pairwise (· < ·) → M.Pairwise (· < ·) → (∀ i, i ∈ L ↔ i ∈ M) → L = M
  | [], [], _, _, _ => rfl
  | [], m :: M, _, _, h => by have := (h m).2 (by simp); simp at this
  | x :: L, [], _, _, h => by have := (h x).1 (by simp); simp at this
  | x :: L, m :: M, h1, h2, h => by
    obtain ⟨a1, b1⟩ := List.pairwise_cons.1 h1
    obtain ⟨a2, b2⟩ := List.pairwise_cons.1 h2
    have hxm : x = m := by
      have e1 := (h x).1 (by simp)
      have e2 := (h m).2 (by simp)
      simp only [List.mem_cons] at e1 e2
      rcases e1 with e1 | e1
      · exact e1
      · rcases e2 with e2 | e2
        · exact e2.symm
        · have := a1 m e2; have := a2 x e1; omega
    subst hxm
    congr 1
    refine sorted_ext b1 b2 fun i => ?_
    have := h i
    simp only [List.mem_cons] at this
    constructor
    · intro hi
      rcases this.1 (.inr hi) with e | e
      · subst e; have := a1 i hi; omega
      · exact e
    · intro hi
      rcases this.2 (.inr hi) with e | e
      · subst e; have := a2 i hi; omega
      · exact e
theorem sortI_eq {L S : List Int} (h1 : L.Pairwise (· < ·)) (h2 : ∀ i, i ∈ L ↔ i ∈ S) (hn : S.Nodup) : L = sortI S := by
  obtain ⟨a, b, _⟩ := sorted_of hn
  exact sorted_ext h1 a (fun i => (h2 i).trans (b i).symm)
set_option maxHeartbeats 4000000 in
theorem level_Secret.calls (k : Nat) (A0 : Option Addr) (c0 : Nat) (l0 : List S36) (A1 : Option Addr) (c1 : Nat) (l1 : List S26) (r : List Int) (w : World) (hr0 : Kd.C k36 w A0 l0.length l0) (hc0 : l0.length ≤ c0) (hr1 : Kd.C k26 w A1 l1.length l1) (hc1 : l1.length ≤ c1) (h : level_Secret.f k l0 l1 = some r) :
    Calls Try.prog 13 #[.slice A0 l0.length c0, .slice A1 l1.length c1] w fun e w' => ∃ v0_ : Value, e = .returned (v0_) ∧ Kd.R (Kd.int .i64) 3 w' w.heap.size (fun _ => True) v0_ r ∧ Below w.heap.size w w' := by
  unfold level_Secret.f at h
  by_cases hl : l0.length ≤ 9223372036854775807 ∧ l1.length ≤ 9223372036854775807
  · rw [if_pos hl] at h
    obtain ⟨hl0, hl1⟩ := hl
    have HR0 := Aside0.mk hr0
    have HR1 := Aside0.mk hr1
    have HH := Aside0.mk h
    clear hr0 hr1 h
    have hmf : ∀ (fn : Fn) (first cap : Array Value) (w : World), (Instr.makeFunc fn first cap).run Try.prog w = .ok (.func fn first cap) w := fun _ _ _ _ => rfl
    have hmm := @run_makeMap Try.prog
    obtain ⟨Sf, hSf, hr⟩ := Option.bind_eq_some_iff.1 HH.out
    clear HH
    have HF := Aside0.mk hr
    clear hr
    have HS0 := Aside0.mk hSf
    clear hSf
    go_enter Try.func13, Try.ntmps13
    go_wp2
    go_loopg [7] k (fun gg v7 wr => ∃ (was : Int) (S : List Int), v7 = .int .i64 was ∧ Aside0 (level_Secret.l0 gg l0 l1 was S = some Sf) ∧ Aside0 (SecInv w A1 l1.length c1 S wr))
    case atStart =>
      have h1 := IM.made (w.alloc (Obj.cells #[Value.slice A1 l1.length c1] 23))
      have h2 := h1.below ((Below.refl _ _).alloc (Nat.le_refl _) (Obj.cells #[Value.map (some (w.heap.size + 1))] 45)) h1.lt
      refine ⟨-1, [], rfl, HS0, ⟨?_, List.nodup_nil, ?_, ?_, ?_⟩⟩
      · refine Below.alloc (Below.alloc (Below.alloc (Below.refl _ _) (Nat.le_refl _) _) ?_ _) ?_ _
        · simp
        · simp; omega
      · go_simp
      · go_simp
      exact (by simpa using h2 : IM _ (w.heap.size + 1) (fun _ => none) 0).congr (fun _ => rfl) rfl
    case round =>
      clear HS0
      obtain ⟨was, S, rfl, HL, HI⟩ := hrel
      cases gk with
      | zero => exact absurd HL.out (by simp [level_Secret.l0])
      | succ k1 =>
        have hL := HL.out
        clear HL
        simp only [level_Secret.l0] at hL
        obtain ⟨hb, _, hcl, hcm, him⟩ := HI.out
        have hle : ∀ ty, (Builtin.len_ #[45] ty #[.map (some (w.heap.size + 1))]).run Try.prog wr = .ok (.int .i64 S.length) wr := fun ty => him.len Try.underlying45 ty
        clear hb him
        by_cases hw : was < (S.length : Int)
        · rw [if_pos hw] at hL
          have HL := Aside0.mk hL
          clear hL
          go_wp2
          clear hle hcl hcm
          go_loopg [20] l0.length (fun gg v20 wr2 => ∃ (i : Int) (S2 : List Int), 0 ≤ i ∧ i ≤ l0.length ∧ l0.length - i ≤ gg ∧ v20 = .int .i64 i ∧ Aside0 (SecInv w A1 l1.length c1 S2 wr2) ∧ Aside0 (l0.foldl (secretStep l1) S = (l0.drop i.toNat).foldl (secretStep l1) S2))
          case atStart => exact ⟨0, S, by omega, by omega, by omega, rfl, HI, ⟨rfl⟩⟩
          case round =>
            clear HI
            obtain ⟨i, S2, hi0, hi1, hig, rfl, HI, HS⟩ := hrel
            by_cases hlt : i < l0.length
            · have hdrop := drop_one l0 z36 i.toNat (by omega)
              obtain ⟨ad, e1, hx0, hx1, hx2, hx3, hx4, hx5, hx6⟩ := at_T36 HR0.out i hi0 hlt
              subst e1
              have hrd : l0.getD i.toNat z36 = rd_T36 l0 i := rfl
              rw [hrd] at hdrop
              clear hrd
              obtain ⟨y, hy⟩ : ∃ y, y = rd_T36 l0 i := ⟨_, rfl⟩
              rw [← hy] at hx0 hx1 hx2 hx3 hx4 hx5 hx6 hdrop
              clear hy
              have HS' := Aside0.mk (HS.out.trans (by rw [hdrop, List.foldl_cons]))
              clear hdrop HS
              replace hx0 := (HI.out.1.cell (World.block_lt_of_cell? w _ hx0)).trans hx0
              replace hx1 := (HI.out.1.cell (World.block_lt_of_cell? w _ hx1)).trans hx1
              replace hx2 := (HI.out.1.cell (World.block_lt_of_cell? w _ hx2)).trans hx2
              replace hx3 := (HI.out.1.cell (World.block_lt_of_cell? w _ hx3)).trans hx3
              replace hx4 := (HI.out.1.cell (World.block_lt_of_cell? w _ hx4)).trans hx4
              replace hx5 := (HI.out.1.cell (World.block_lt_of_cell? w _ hx5)).trans hx5
              replace hx6 := (HI.out.1.cell (World.block_lt_of_cell? w _ hx6)).trans hx6
              go_wp2_with fail
              have HIa := Aside0.mk (HI.out.step ((Below.refl wr.heap.size wr).alloc (Nat.le_refl _) (Obj.cells #[Value.int IntKind.i64 y.f0, Value.int IntKind.i64 y.f1, Value.int IntKind.i64 y.f2, Value.int IntKind.i64 y.f3, Value.int IntKind.i64 y.f4, Value.int IntKind.i64 y.f5, Value.int IntKind.i64 y.f6] 36)))
              clear HI
              refine (secret1.calls y l1 S2 A1 c1 w.heap.size (w.heap.size + 1 + 1) (w.heap.size + 1) S2.length _ HIa.out.2.2.1 (Kd.C_below HR1.out HIa.out.1) hc1 hl1 HIa.out.2.2.2.1 HIa.out.2.2.2.2).mono ?_
              obtain ⟨q, hq⟩ : ∃ q, q = makesB l1 S2 y := ⟨_, rfl⟩
              rw [← hq]
              have HQ := Aside0.mk hq
              clear hq
              rintro e w' ⟨rfl, hb⟩
              have HIb := Aside0.mk (HIa.out.step hb)
              have hy2 : w'.cell? ⟨wr.heap.size, 2, none⟩ = some (.int .i64 y.f2) := (hb.cell (by simp)).trans (by simp)
              have hcm := HIb.out.2.2.2.1
              clear HIa hb hx0 hx1 hx2 hx3 hx4 hx5 hx6
              cases q with
              | true =>
                go_wp2_with (at_mapUpdate; refine wpList_update_im _ rfl _ _ _ 45 rfl 3 4 Try.underlying45 Try.underlying3 (w.heap.size + 1) S2.length (setF S2) rfl HIb.out.2.2.2.2 y.f2 (.bool true) rfl rfl ?_; intro w3 him3 hg3 _)
                have HIc := Aside0.mk (HIb.out.put y.f2 him3 hg3)
                clear him3 hg3 HIb hcm hy2
                go_wp2
                go_roundg (l0.length - (i.toNat + 1))
                case measure => omega
                case rel => exact ⟨i + 1, _, by omega, by omega, by omega, by go_num, HIc, ⟨HS'.out.trans (by rw [show (i + 1).toNat = i.toNat + 1 by omega]; simp only [secretStep, ← HQ.out, if_true])⟩⟩
              | false =>
                clear hcm hy2
                go_wp2
                go_roundg (l0.length - (i.toNat + 1))
                case measure => omega
                case rel => exact ⟨i + 1, S2, by omega, by omega, by omega, by go_num, HIb, ⟨HS'.out.trans (by rw [show (i + 1).toNat = i.toNat + 1 by omega]; simp only [secretStep, ← HQ.out, Bool.false_eq_true, if_false])⟩⟩
            · have hd : l0.drop i.toNat = [] := List.drop_eq_nil_of_le (by omega)
              have HS' := Aside0.mk (HS.out.trans (by rw [hd, List.foldl_nil]))
              clear hd HS
              go_wp2
              go_roundg k1
              case measure => omega
              case rel => exact ⟨(S.length : Int), S2, rfl, ⟨by rw [← HS'.out]; exact HL.out⟩, HI⟩
        · rw [if_neg hw] at hL
          obtain rfl := Option.some.inj hL
          clear hL
          have hF := HF.out
          clear HF
          by_cases hg : S.all (fun i => (Lit.int .i64 i).wf) = true ∧ S.length * 8 ≤ 140737488355328
          · rw [if_pos hg] at hF
            obtain rfl := Option.some.inj hF
            have HG := Aside0.mk hg
            clear hg hF
            go_wp2_with fail
            refine (keysBool.calls _ _).mono ?_
            rintro e w' ⟨rfl, rfl⟩
            clear hle hcl hcm
            go_wp2_with fail
            refine (sortedBool.calls (w.heap.size + 1) S.length (setF S) wr HI.out.2.2.2.2 (fun i hi => ?_) HG.out.2).mono ?_
            · have := List.all_eq_true.1 HG.out.1 i (by
                unfold setF at hi
                by_cases hc : S.contains i = true
                · simpa using hc
                · rw [if_neg hc] at hi; simp at hi)
              simpa using this
            rintro e w' ⟨v, L, rfl, hL1, hL2, hL3, hR, hB⟩
            have HB := Aside0.mk (below_step HI.out.1 (below_step ((Below.refl _ _).alloc (Nat.le_refl _) _) (by simpa using hB)))
            have HR := Aside0.mk (Kd.R_lower hR (show w.heap.size ≤ wr.heap.size + 1 by have := HI.out.1.size; omega))
            have HL := Aside0.mk (And.intro hL1 (And.intro hL2 hL3))
            clear hL1 hL2 hL3 hR hB
            go_wp2
            go_ret
            refine ⟨v, rfl, ?_, HB.out⟩
            have he : L = sortI S := sortI_eq HL.out.1 (fun i => (HL.out.2.1 i).trans (setF_some S i)) HI.out.2.1
            rw [← he]
            exact HR.out
          · rw [if_neg hg] at hF
            exact absurd hF (by simp)
  · rw [if_neg hl] at h
    exact absurd h (by simp)
end Go.Proofs.Ytndhhnhhnkkpbaa.PLevelMore
