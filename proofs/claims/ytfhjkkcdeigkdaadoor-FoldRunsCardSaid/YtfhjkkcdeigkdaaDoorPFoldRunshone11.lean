-- HAND paling/palingref11.one rounds=1 making=1 needs=paling/palingref11.fields;paling/palingref11.Has;paling/palingref11.reg;paling/palingref11.number
import Derived.Test.YtfhjkkcdeigkdaaDoorPFoldRunsx0
import Derived.Test.YtfhjkkcdeigkdaaDoorPFoldRunsx2
import Derived.Test.YtfhjkkcdeigkdaaDoorPFoldRunshqq
namespace Go.Proofs.YtfhjkkcdeigkdaaDoor.PFoldRuns
open Go.RowKit Go.Proofs.YtfhjkkcdeigkdaaDoorW.PrintWords Go.Proofs.YtfhjkkcdeigkdaaDoorW.PrintLast Go.Proofs.YtfhjkkcdeigkdaaDoorW.PrintMore
set_option linter.unusedVariables false
set_option linter.unusedSimpArgs false
/-! palingref11.one: may an instruction of a code of so many be? -/
def oneV (t : ByteArray) (rD2 rA2 rB2 hO hN hT nb : Bool) (o n to_ size : Int) : Bool := !(t.toList == [] || !rD2 || !rA2 || !rB2) && (!(!hO && o != 0 || decide (o < 0) || decide (18 < o) || !hN && n != 0 || !hT && to_ != 0) && (nb && (decide (0 ≤ to_) && decide (to_ < size))))
def palingref11_one.f (k : Nat) (a0_0 a0_1 a0_2 a0_3 a0_4 a0_5 a0_6 a1 a2 a3 : Int) : Option Bool :=
  (palingref11_fields.f a0_0).bind fun t => (palingref11_Has.f k t 68).bind fun hD => (palingref11_Has.f k t 65).bind fun hA => (palingref11_Has.f k t 66).bind fun hB => (palingref11_Has.f k t 79).bind fun hO => (palingref11_Has.f k t 78).bind fun hN => (palingref11_Has.f k t 84).bind fun hT =>
    (palingref11_reg.f a0_2 a2 hD false).bind fun rD2 => (palingref11_reg.f a0_3 a2 hA (a0_0 == 4 || a0_0 == 5)).bind fun rA2 => (palingref11_reg.f a0_4 a2 hB false).bind fun rB2 => (palingref11_number.f k a0_0 a0_1 a0_2 a0_3 a0_4 a0_5 a0_6 a3).bind fun nb =>
    some (oneV t rD2 rA2 rB2 hO hN hT nb a0_1 a0_5 a0_6 a1)
theorem palingref11_one.mono : ∀ a0_0 a0_1 a0_2 a0_3 a0_4 a0_5 a0_6 a1 a2 a3 k, LeO (palingref11_one.f k a0_0 a0_1 a0_2 a0_3 a0_4 a0_5 a0_6 a1 a2 a3) (palingref11_one.f (k + 1) a0_0 a0_1 a0_2 a0_3 a0_4 a0_5 a0_6 a1 a2 a3) := by
  intros
  unfold palingref11_one.f
  repeat' first | exact LeO.refl _ | exact palingref11_Has.mono _ _ _ | exact palingref11_number.mono _ _ _ _ _ _ _ _ _ | refine LeO.bind ?_ (fun _ => ?_)
theorem oneP (hO hN hT : Bool) (o n t : Int) : ∃ b : Bool, b = (!hO && o != 0 || decide (o < 0) || decide (18 < o) || !hN && n != 0 || !hT && t != 0) ∧
    (let G := (o == 0) = false ∧ (o != 0) = true; let Z := (o == 0) = true ∧ (o != 0) = false; let I := decide (o < 0) = false ∧ decide (18 < o) = false
     (hO = false ∧ b = true ∧ G) ∨ (hO = true ∧ b = true ∧ decide (o < 0) = true) ∨ (hO = true ∧ b = true ∧ decide (o < 0) = false ∧ decide (18 < o) = true) ∨
     (hO = true ∧ hN = false ∧ b = true ∧ I ∧ (n == 0) = false ∧ (n != 0) = true) ∨ (hO = false ∧ hN = false ∧ b = true ∧ Z ∧ I ∧ (n == 0) = false ∧ (n != 0) = true) ∨
     (hO = true ∧ hN = false ∧ hT = false ∧ b = true ∧ I ∧ ((n == 0) = true ∧ (n != 0) = false) ∧ (t == 0) = false ∧ (t != 0) = true) ∨
     (hO = false ∧ hN = false ∧ hT = false ∧ b = true ∧ Z ∧ I ∧ ((n == 0) = true ∧ (n != 0) = false) ∧ (t == 0) = false ∧ (t != 0) = true) ∨
     (hO = true ∧ hN = true ∧ hT = false ∧ b = true ∧ I ∧ (t == 0) = false ∧ (t != 0) = true) ∨ (hO = false ∧ hN = true ∧ hT = false ∧ b = true ∧ Z ∧ I ∧ (t == 0) = false ∧ (t != 0) = true) ∨
     (hO = true ∧ hN = false ∧ hT = false ∧ b = false ∧ I ∧ ((n == 0) = true ∧ (n != 0) = false) ∧ (t == 0) = true ∧ (t != 0) = false) ∨
     (hO = false ∧ hN = false ∧ hT = false ∧ b = false ∧ Z ∧ I ∧ ((n == 0) = true ∧ (n != 0) = false) ∧ (t == 0) = true ∧ (t != 0) = false) ∨
     (hO = true ∧ hN = true ∧ hT = false ∧ b = false ∧ I ∧ (t == 0) = true ∧ (t != 0) = false) ∨ (hO = false ∧ hN = true ∧ hT = false ∧ b = false ∧ Z ∧ I ∧ (t == 0) = true ∧ (t != 0) = false) ∨
     (hO = true ∧ hN = false ∧ hT = true ∧ b = false ∧ I ∧ (n == 0) = true ∧ (n != 0) = false) ∨ (hO = false ∧ hN = false ∧ hT = true ∧ b = false ∧ Z ∧ I ∧ (n == 0) = true ∧ (n != 0) = false) ∨
     (hO = true ∧ hN = true ∧ hT = true ∧ b = false ∧ I) ∨ (hO = false ∧ hN = true ∧ hT = true ∧ b = false ∧ Z ∧ I)) := by
  refine ⟨_, rfl, ?_⟩
  have e : ∀ z : Int, (z == 0) = !(z != 0) := fun z => by simp [bne]
  have g : ∀ z : Int, (z != 0) = false → z = 0 := fun z h => by simpa using h
  simp only [e]
  have ho : (o != 0) = false → decide (o < 0) = false ∧ decide (18 < o) = false := fun h => by rw [g o h]; decide
  generalize decide (o < 0) = l at *
  generalize decide (18 < o) = m at *
  generalize (o != 0) = p at *
  generalize (n != 0) = q at *
  generalize (t != 0) = s at *
  revert ho
  cases hO <;> cases hN <;> cases hT <;> cases l <;> cases m <;> cases p <;> cases q <;> cases s <;> simp
def oneT3 : Bool × List (List Nat × List Nat) := (true, [([], []), ([0], [0]), ([1], [1]), ([2], [2]), ([3, 2], [2, 3]), ([2], [2]), ([2], [2]), ([6, 2, 2], [2, 6]), ([4, 5, 7, 7, 2], [2, 4, 5, 7]), ([8, 2], [2, 8]), ([2, 9], [2, 9]), ([10, 8], [10]), ([11], [11]), ([12, 11], [11, 12]), ([11], [11]), ([11], [11]), ([15, 11, 11], [11, 15]), ([11], [11]), ([13, 14, 16, 17, 16, 11], [11, 13, 14, 16, 17]), ([18, 11], [11, 18]), ([11, 19], [11, 19]), ([20, 18], [20]), ([21], [21]), ([22, 21], [21, 22]), ([21], [21]), ([21], [21]), ([25, 21, 21], [21, 25]), ([23, 24, 26, 26, 21], [21, 23, 24, 26]), ([27, 21], [21, 27]), ([21, 28], [21, 28])])
def oneB3 : List Nat := [0, 1, 3, 7, 15, 7, 7, 71, 255, 511, 1023, 2047, 4095, 8191, 4095, 4095, 36863, 4095, 262143, 524287, 1048575, 2097151, 4194303, 8388607, 4194303, 4194303, 37748735, 134217727, 268435455, 536870911]
theorem oneTab : rtab .any (opsOf Tryd.f18 3) = oneT3 := by kernel_rfl
theorem oneBits : waitsOk oneT3.2 oneB3 = true := by kernel_rfl
theorem oArg {p : Prop} (h : p := by (try simp only [List.map_toArray, List.map_cons, List.map_nil]); first | done | rfl | (simp only [List.length_drop, List.length_take]; rfl)) : p := h
theorem oBK {p : Prop} (h : p := by (with_reducible repeat (first | refine blk_drewN ?_ _ | refine blk_drew ?_ | refine blk_alloc ?_ _)); exact BK.out) : p := h
theorem oHB {p : Prop} (h : p := by repeat (first | (with_reducible first | exact HB.out | apply below_alloc | apply pw_below_drewN | apply below_drew1 | refine below_set ?_ GE.out) | exact HB.out)) : p := h
theorem oC7 {w : World} {g : Nat} {t : TypeId} {v0 v1 v2 v3 v4 v5 v6 : Value} (h : w.heap[g]? = some (.cells #[v0, v1, v2, v3, v4, v5, v6] t (0, 0))) : w.cell? ⟨g, 0, none⟩ = some v0 ∧ w.cell? ⟨g, 1, none⟩ = some v1 ∧ w.cell? ⟨g, 2, none⟩ = some v2 ∧ w.cell? ⟨g, 3, none⟩ = some v3 ∧ w.cell? ⟨g, 4, none⟩ = some v4 ∧ w.cell? ⟨g, 5, none⟩ = some v5 ∧ w.cell? ⟨g, 6, none⟩ = some v6 := ⟨(blk_cell h 0).trans rfl, (blk_cell h 1).trans rfl, (blk_cell h 2).trans rfl, (blk_cell h 3).trans rfl, (blk_cell h 4).trans rfl, (blk_cell h 5).trans rfl, (blk_cell h 6).trans rfl⟩
theorem oF7 {w : World} {g : Nat} {t : TypeId} {v0 v1 v2 v3 v4 v5 v6 : Value} (h : w.heap[g]? = some (.cells #[v0, v1, v2, v3, v4, v5, v6] t (0, 0))) : w.cell? ⟨g, 0, none⟩ = some v0 ∧ w.cell? ⟨g, 1, none⟩ = some v1 ∧ w.cell? ⟨g, 2, none⟩ = some v2 ∧ w.cell? ⟨g, 3, none⟩ = some v3 ∧ w.cell? ⟨g, 4, none⟩ = some v4 ∧ w.cell? ⟨g, 5, none⟩ = some v5 ∧ w.cell? ⟨g, 6, none⟩ = some v6 ∧ w.frozen? ⟨g, 0, none⟩ = false ∧ w.frozen? ⟨g, 1, none⟩ = false ∧ w.frozen? ⟨g, 2, none⟩ = false ∧ w.frozen? ⟨g, 3, none⟩ = false ∧ w.frozen? ⟨g, 4, none⟩ = false ∧ w.frozen? ⟨g, 5, none⟩ = false ∧ w.frozen? ⟨g, 6, none⟩ = false := ⟨(blk_cell h 0).trans rfl, (blk_cell h 1).trans rfl, (blk_cell h 2).trans rfl, (blk_cell h 3).trans rfl, (blk_cell h 4).trans rfl, (blk_cell h 5).trans rfl, (blk_cell h 6).trans rfl, blk_frozen h 0, blk_frozen h 1, blk_frozen h 2, blk_frozen h 3, blk_frozen h 4, blk_frozen h 5, blk_frozen h 6⟩
theorem o7 {P : Program} {ops : Array Oper} {Q : Exit → Act → World → Prop} {md : Region.Mode} {S : World → Prop} {ds : List Nat} {i : Nat} {N : Option Tmp} {oi : Oper} {v : Value} {fuel : Nat} {l : Array Bool} {a a' : Act} {w : World} (l' : Array Bool) (hi : ops[i]? = some oi) (hN : oi.dst = N) (hS : S w) (h : wpAnyLast P md ops Q S ds fuel l' a' w) (hc : takeB md ops ds l l' i = true := by exact take_ofW HT_.out HW_.out (by kernel_rfl)) (hQ : ∀ c a w, Q (.panic c) (a.put oi.dst v) w → Q (.panic c) a w := by exact fun _ _ _ h => h) (hy : YieldsIf P ops S oi v a := by exact Or.inl ⟨by rfl, by rintro w' ⟨s0, s1, s2, s3, s4, s5, s6⟩; go_simp; with_reducible rfl⟩) (ha : a.put N v = a' := by simp only [Act.put, List.setIfInBounds_toArray, List.set_cons_zero, List.set_cons_succ, i64_w, i32_w]; rfl) : wpAnyLast P md ops Q S ds (fuel + 1) l a w := take_ l' hi hN hc hQ hy hS ha h
set_option maxHeartbeats 8000000 in
set_option maxRecDepth 100000 in
theorem palingref11_one.calls (k : Nat) (a0_0 : Int) (a0_1 : Int) (a0_2 : Int) (a0_3 : Int) (a0_4 : Int) (a0_5 : Int) (a0_6 : Int) (a1 : Int) (a2 : Int) (a3 : Int) (r : Bool) (w : World) (h : palingref11_one.f k a0_0 a0_1 a0_2 a0_3 a0_4 a0_5 a0_6 a1 a2 a3 = some r) :
    Calls Tryd.prog 18 #[.agg #[.int .i64 a0_0, .int .i64 a0_1, .int .i64 a0_2, .int .i64 a0_3, .int .i64 a0_4, .int .i64 a0_5, .int .i64 a0_6], .int .i64 a1, .int .i64 a2, .int .i64 a3] w fun e w' => e = .returned (.bool r) ∧ Below w.heap.size w w' := by
  have hu := Tryd.underlying53
  have HB := Aside0.mk (Below.refl w.heap.size w)
  have H := h
  clear h
  unfold palingref11_one.f at H
  obtain ⟨x10, hx10⟩ : ∃ x, x = (a0_0 == 4 || a0_0 == 5) := ⟨_, rfl⟩
  rw [← hx10] at H
  obtain ⟨t, At, H⟩ := bS_ H
  obtain ⟨hD, AhD, H⟩ := bS_ H
  obtain ⟨hA, AhA, H⟩ := bS_ H
  obtain ⟨hB, AhB, H⟩ := bS_ H
  obtain ⟨hO, AhO, H⟩ := bS_ H
  obtain ⟨hN, AhN, H⟩ := bS_ H
  obtain ⟨hT, AhT, H⟩ := bS_ H
  obtain ⟨rD2, ArD2, H⟩ := bS_ H
  obtain ⟨rA2, ArA2, H⟩ := bS_ H
  obtain ⟨rB2, ArB2, H⟩ := bS_ H
  obtain ⟨nb, Anb, H⟩ := bS_ H
  obtain ⟨x51, hx51⟩ : ∃ x, x = (t.toList == [] || !rD2 || !rA2 || !rB2) := ⟨_, rfl⟩
  obtain ⟨x89, hx89, hp⟩ := oneP hO hN hT a0_1 a0_5 a0_6
  have HP := Aside0.mk hp
  clear hp
  have HR : Aside0 ((!x51 && (!x89 && (nb && (decide (0 ≤ a0_6) && decide (a0_6 < a1))))) = r) := ⟨by rw [hx51, hx89]; exact Option.some.inj H⟩
  have HX10 := Aside0.mk hx10
  have HX51 := Aside0.mk hx51
  clear hx10 hx51 hx89 H
  go_enter Tryd.func18, Tryd.ntmps18
  go_upto_region 2 with (first | ((with_reducible refine gate_dst (N := 4) rfl ?_); refine box_event ?hg (N := 4) ?hd (cs := #[.int .i64 a0_0, .int .i64 a0_1, .int .i64 a0_2, .int .i64 a0_3, .int .i64 a0_4, .int .i64 a0_5, .int .i64 a0_6]) (t := 53) ?hr ?_; (case hd => rfl); (case hg => rfl); (case hr => first | (go_simp; done) | (go_simp; rfl)); intro gb hg w7 hbox hb; have BK := Aside0.mk (hbox); have GE := Aside0.mk ((by rw [hg]; exact (below_size oHB) : w.heap.size ≤ gb)); replace HB := Aside0.mk (below_step oHB hb); clear hb hbox hg; obtain ⟨hcz8_0, hcz8_1, hcz8_2, hcz8_3, hcz8_4, hcz8_5, hcz8_6, hfz8_0, hfz8_1, hfz8_2, hfz8_3, hfz8_4, hfz8_5, hfz8_6⟩ := oF7 BK.out) | ((with_reducible refine gate_callee (f := 29) rfl ?_); refine goesL_ (some 13) rfl rfl Tryd.func29 (by kernel_rfl) rfl #[.int .i64 a0_0] rfl oArg ?_; (with_reducible refine (palingref11_fields.calls a0_0 t _ At.out).mono ?_); rintro e w9 ⟨rfl, hb⟩; refine ⟨_, rfl, ?_⟩; replace BK := Aside0.mk (blk_below (g := gb) (o := (.cells #[.int .i64 a0_0, .int .i64 a0_1, .int .i64 a0_2, .int .i64 a0_3, .int .i64 a0_4, .int .i64 a0_5, .int .i64 a0_6] 53 (0, 0))) oBK hb); replace HB := Aside0.mk (below_step oHB hb); (try clear hb)))
  (try simp only [Act.put, List.setIfInBounds_toArray, List.set_cons_zero, List.set_cons_succ])
  go_cut [10] (fun v wc => v = .bool x10 ∧ Aside0 (wc.heap[gb]? = some (.cells #[.int .i64 a0_0, .int .i64 a0_1, .int .i64 a0_2, .int .i64 a0_3, .int .i64 a0_4, .int .i64 a0_5, .int .i64 a0_6] 53 (0, 0))) ∧ Aside0 (Below w.heap.size w wc))
  case first =>
    have hc : ((a0_0 == 4) = true ∧ (a0_0 != 4) = false) ∨ ((a0_0 == 4) = false ∧ (a0_0 != 4) = true) := by by_cases h : a0_0 = 4 <;> simp [h]
    rcases hc with ⟨c0, c1⟩ | ⟨c0, c1⟩
    all_goals
      (first | rw [c0] | (simp only [i64_w, i32_w]; rw [c0]) | skip)
      obtain ⟨z0, z1, z2, z3, z4, z5, z6, y0, y1, y2, y3, y4, y5, y6⟩ := oF7 BK.out
      go_wp2
      go_meet
      case rel => exact ⟨by rw [HX10.out, c0]; rfl, ⟨oBK⟩, ⟨oHB⟩⟩
  case rest =>
    obtain ⟨rfl, BK, HB⟩ := hcut
    clear HX10
    go_upto_region 3 with (fail)
    go_cut [51] (fun v wc => v = .bool x51 ∧ Aside0 (wc.heap[gb]? = some (.cells #[.int .i64 a0_0, .int .i64 a0_1, .int .i64 a0_2, .int .i64 a0_3, .int .i64 a0_4, .int .i64 a0_5, .int .i64 a0_6] 53 (0, 0))) ∧ Aside0 (Below w.heap.size w wc))
    case first =>
      have hc : ((t.toList == ([] : List UInt8)) = true ∧ (t.toList != ([] : List UInt8)) = false) ∨ ((t.toList == ([] : List UInt8)) = false ∧ (t.toList != ([] : List UInt8)) = true ∧ rD2 = false) ∨ ((t.toList == ([] : List UInt8)) = false ∧ (t.toList != ([] : List UInt8)) = true ∧ rD2 = true ∧ rA2 = false) ∨ ((t.toList == ([] : List UInt8)) = false ∧ (t.toList != ([] : List UInt8)) = true ∧ rD2 = true ∧ rA2 = true) := by
        have e : (t.toList != ([] : List UInt8)) = !(t.toList == ([] : List UInt8)) := rfl
        rw [e]
        generalize (t.toList == ([] : List UInt8)) = b
        cases b <;> cases rD2 <;> cases rA2 <;> simp
      rcases hc with ⟨c0, c1⟩ | ⟨c0, c1, rfl⟩ | ⟨c0, c1, rfl, rfl⟩ | ⟨c0, c1, rfl, rfl⟩
      all_goals
        (first | rw [c0] | (simp only [i64_w, i32_w]; rw [c0]) | skip)
        try go_wp2
        replace BK := Aside0.mk (blk_drew BK.out)
        replace HB := Aside0.mk (below_drew1 HB.out)
        refine start_ (n := 30) (S := fun w' => w'.cell? ⟨gb, 0, none⟩ = some (.int .i64 a0_0) ∧ w'.cell? ⟨gb, 1, none⟩ = some (.int .i64 a0_1) ∧ w'.cell? ⟨gb, 2, none⟩ = some (.int .i64 a0_2) ∧ w'.cell? ⟨gb, 3, none⟩ = some (.int .i64 a0_3) ∧ w'.cell? ⟨gb, 4, none⟩ = some (.int .i64 a0_4) ∧ w'.cell? ⟨gb, 5, none⟩ = some (.int .i64 a0_5) ∧ w'.cell? ⟨gb, 6, none⟩ = some (.int .i64 a0_6)) (ds := []) (bz 30 0) (by kernel_rfl) rfl rfl (oC7 BK.out) (fun hHeld => ?_); refine with_tabW oneTab oneBits (fun HT_ HW_ => ?_)
        generalize wc.drew = w15 at BK HB hHeld ⊢
        refine pz (i := 0) (N := some 22) (bz 30 1) rfl rfl ?_
        refine pz (i := 1) (N := some 23) (bz 30 3) rfl rfl ?_
        refine pz (i := 2) (N := some 24) (bz 30 7) rfl rfl ?_
        first | refine pu (i := 3) (N := some 25) (bz 30 15) rfl rfl ?_ | refine pz (i := 3) (N := some 25) (bz 30 15) rfl rfl ?_
        first | refine pu (i := 5) (N := some 27) (bz 30 47) rfl rfl ?_ | refine pz (i := 5) (N := some 27) (bz 30 47) rfl rfl ?_
        first | refine pu (i := 6) (N := some 28) (bz 30 111) rfl rfl ?_ | refine pz (i := 6) (N := some 28) (bz 30 111) rfl rfl ?_
        first | refine pu (i := 4) (N := some 26) (bz 30 127) rfl rfl ?_ | refine o7 (i := 4) (N := some 26) (bz 30 127) rfl rfl hHeld ?_
        first | refine pu (i := 7) (N := some 29) (bz 30 255) rfl rfl ?_ | (refine one_ (i := 7) (N := some 29) (bz 30 255) rfl rfl (one_of HT_.out (by kernel_rfl)) (by decide) (fun K hK => ?_); refine goes_ Tryd.func31 (by kernel_rfl) rfl #[.string t, .int .u8 68] (by rfl) rfl rfl oArg ?_; (with_reducible refine (palingref11_Has.calls k t 68 _ _ AhD.out).mono ?_); rintro e w' ⟨rfl, ⟨nd, rfl⟩⟩; refine ⟨_, rfl, ?_⟩; refine hK.out _ _ (oC7 BK.out) (fun hHeld => ?_); clear hK K; refine norm_ (a' := ?_) ?_ ?_; rotate_left; (show Act.put _ (some 29) _ = _; simp only [Act.put, List.setIfInBounds_toArray, List.set_cons_zero, List.set_cons_succ, i64_w, i32_w]; rfl))
        first | refine pu (i := 8) (N := some 30) (bz 30 511) rfl rfl ?_ | (refine one_ (i := 8) (N := some 30) (bz 30 511) rfl rfl (one_of HT_.out (by kernel_rfl)) (by decide) (fun K hK => ?_); refine goes_ Tryd.func30 (by kernel_rfl) rfl #[.int .i64 a0_2, .int .i64 a2, .bool hD, .bool false] (by rfl) rfl rfl oArg ?_; (with_reducible refine (palingref11_reg.calls a0_2 a2 hD false _ _ ArD2.out).mono ?_); rintro e w' ⟨rfl, ⟨nd, rfl⟩⟩; refine ⟨_, rfl, ?_⟩; refine hK.out _ _ (oC7 BK.out) (fun hHeld => ?_); clear hK K; refine norm_ (a' := ?_) ?_ ?_; rotate_left; (show Act.put _ (some 30) _ = _; simp only [Act.put, List.setIfInBounds_toArray, List.set_cons_zero, List.set_cons_succ, i64_w, i32_w]; rfl))
        first | refine pu (i := 9) (N := some 31) (bz 30 1023) rfl rfl ?_ | refine pz (i := 9) (N := some 31) (bz 30 1023) rfl rfl ?_
        refine pz (i := 10) (N := some 32) (bz 30 2047) rfl rfl ?_
        refine pz (i := 11) (N := some 33) (bz 30 4095) rfl rfl ?_
        first | refine pu (i := 12) (N := some 34) (bz 30 8191) rfl rfl ?_ | refine pz (i := 12) (N := some 34) (bz 30 8191) rfl rfl ?_
        first | refine pu (i := 14) (N := some 36) (bz 30 24575) rfl rfl ?_ | refine pz (i := 14) (N := some 36) (bz 30 24575) rfl rfl ?_
        first | refine pu (i := 15) (N := some 37) (bz 30 57343) rfl rfl ?_ | refine pz (i := 15) (N := some 37) (bz 30 57343) rfl rfl ?_
        first | refine pu (i := 17) (N := some 39) (bz 30 188415) rfl rfl ?_ | refine pz (i := 17) (N := some 39) (bz 30 188415) rfl rfl ?_
        first | refine pu (i := 13) (N := some 35) (bz 30 196607) rfl rfl ?_ | refine o7 (i := 13) (N := some 35) (bz 30 196607) rfl rfl hHeld ?_
        first | refine pu (i := 16) (N := some 38) (bz 30 262143) rfl rfl ?_ | (refine one_ (i := 16) (N := some 38) (bz 30 262143) rfl rfl (one_of HT_.out (by kernel_rfl)) (by decide) (fun K hK => ?_); refine goes_ Tryd.func31 (by kernel_rfl) rfl #[.string t, .int .u8 65] (by rfl) rfl rfl oArg ?_; (with_reducible refine (palingref11_Has.calls k t 65 _ _ AhA.out).mono ?_); rintro e w' ⟨rfl, ⟨nd, rfl⟩⟩; refine ⟨_, rfl, ?_⟩; refine hK.out _ _ (oC7 BK.out) (fun hHeld => ?_); clear hK K; refine norm_ (a' := ?_) ?_ ?_; rotate_left; (show Act.put _ (some 38) _ = _; simp only [Act.put, List.setIfInBounds_toArray, List.set_cons_zero, List.set_cons_succ, i64_w, i32_w]; rfl))
        first | refine pu (i := 18) (N := some 40) (bz 30 524287) rfl rfl ?_ | (refine one_ (i := 18) (N := some 40) (bz 30 524287) rfl rfl (one_of HT_.out (by kernel_rfl)) (by decide) (fun K hK => ?_); refine goes_ Tryd.func30 (by kernel_rfl) rfl #[.int .i64 a0_3, .int .i64 a2, .bool hA, .bool x10] (by rfl) rfl rfl oArg ?_; (with_reducible refine (palingref11_reg.calls a0_3 a2 hA x10 _ _ ArA2.out).mono ?_); rintro e w' ⟨rfl, ⟨nd, rfl⟩⟩; refine ⟨_, rfl, ?_⟩; refine hK.out _ _ (oC7 BK.out) (fun hHeld => ?_); clear hK K; refine norm_ (a' := ?_) ?_ ?_; rotate_left; (show Act.put _ (some 40) _ = _; simp only [Act.put, List.setIfInBounds_toArray, List.set_cons_zero, List.set_cons_succ, i64_w, i32_w]; rfl))
        first | refine pu (i := 19) (N := some 41) (bz 30 1048575) rfl rfl ?_ | refine pz (i := 19) (N := some 41) (bz 30 1048575) rfl rfl ?_
        refine pz (i := 20) (N := some 42) (bz 30 2097151) rfl rfl ?_
        refine pz (i := 21) (N := some 43) (bz 30 4194303) rfl rfl ?_
        first | refine pu (i := 22) (N := some 44) (bz 30 8388607) rfl rfl ?_ | refine pz (i := 22) (N := some 44) (bz 30 8388607) rfl rfl ?_
        first | refine pu (i := 24) (N := some 46) (bz 30 25165823) rfl rfl ?_ | refine pz (i := 24) (N := some 46) (bz 30 25165823) rfl rfl ?_
        first | refine pu (i := 25) (N := some 47) (bz 30 58720255) rfl rfl ?_ | refine pz (i := 25) (N := some 47) (bz 30 58720255) rfl rfl ?_
        first | refine pu (i := 23) (N := some 45) (bz 30 67108863) rfl rfl ?_ | refine o7 (i := 23) (N := some 45) (bz 30 67108863) rfl rfl hHeld ?_
        first | refine pu (i := 26) (N := some 48) (bz 30 134217727) rfl rfl ?_ | (refine one_ (i := 26) (N := some 48) (bz 30 134217727) rfl rfl (one_of HT_.out (by kernel_rfl)) (by decide) (fun K hK => ?_); refine goes_ Tryd.func31 (by kernel_rfl) rfl #[.string t, .int .u8 66] (by rfl) rfl rfl oArg ?_; (with_reducible refine (palingref11_Has.calls k t 66 _ _ AhB.out).mono ?_); rintro e w' ⟨rfl, ⟨nd, rfl⟩⟩; refine ⟨_, rfl, ?_⟩; refine hK.out _ _ (oC7 BK.out) (fun hHeld => ?_); clear hK K; refine norm_ (a' := ?_) ?_ ?_; rotate_left; (show Act.put _ (some 48) _ = _; simp only [Act.put, List.setIfInBounds_toArray, List.set_cons_zero, List.set_cons_succ, i64_w, i32_w]; rfl))
        first | refine pu (i := 27) (N := some 49) (bz 30 268435455) rfl rfl ?_ | (refine one_ (i := 27) (N := some 49) (bz 30 268435455) rfl rfl (one_of HT_.out (by kernel_rfl)) (by decide) (fun K hK => ?_); refine goes_ Tryd.func30 (by kernel_rfl) rfl #[.int .i64 a0_4, .int .i64 a2, .bool hB, .bool false] (by rfl) rfl rfl oArg ?_; (with_reducible refine (palingref11_reg.calls a0_4 a2 hB false _ _ ArB2.out).mono ?_); rintro e w' ⟨rfl, ⟨nd, rfl⟩⟩; refine ⟨_, rfl, ?_⟩; refine hK.out _ _ (oC7 BK.out) (fun hHeld => ?_); clear hK K; refine norm_ (a' := ?_) ?_ ?_; rotate_left; (show Act.put _ (some 49) _ = _; simp only [Act.put, List.setIfInBounds_toArray, List.set_cons_zero, List.set_cons_succ, i64_w, i32_w]; rfl))
        first | refine pu (i := 28) (N := some 50) (bz 30 536870911) rfl rfl ?_ | refine pz (i := 28) (N := some 50) (bz 30 536870911) rfl rfl ?_
        refine pz (i := 29) (N := some 51) (bz 30 1073741823) rfl rfl ?_
        refine done_ (done_of HT_.out (by kernel_rfl)) ?_
        try go_wp2
        go_meet
        case rel => exact ⟨by rw [HX51.out, c0]; rfl, ⟨oBK⟩, ⟨oHB⟩⟩
    case rest =>
      obtain ⟨rfl, BK, HB⟩ := hcut
      clear HX51
      cases x51 with
      | true =>
        go_wp2
        go_ret
        exact ⟨by rw [← HR.out]; rfl, oHB⟩
      | false =>
        go_upto_region 5 with (fail)
        go_cut [89] (fun v wc => v = .bool x89 ∧ Aside0 (wc.heap[gb]? = some (.cells #[.int .i64 a0_0, .int .i64 a0_1, .int .i64 a0_2, .int .i64 a0_3, .int .i64 a0_4, .int .i64 a0_5, .int .i64 a0_6] 53 (0, 0))) ∧ Aside0 (Below w.heap.size w wc))
        case first =>
          rcases HP.out with ⟨rfl, rfl, q0⟩ | ⟨rfl, rfl, q0⟩ | ⟨rfl, rfl, q0⟩ | ⟨rfl, rfl, rfl, q0⟩ | ⟨rfl, rfl, rfl, q0⟩ | ⟨rfl, rfl, rfl, rfl, q0⟩ | ⟨rfl, rfl, rfl, rfl, q0⟩ | ⟨rfl, rfl, rfl, rfl, q0⟩ | ⟨rfl, rfl, rfl, rfl, q0⟩ | ⟨rfl, rfl, rfl, rfl, q0⟩ | ⟨rfl, rfl, rfl, rfl, q0⟩ | ⟨rfl, rfl, rfl, rfl, q0⟩ | ⟨rfl, rfl, rfl, rfl, q0⟩ | ⟨rfl, rfl, rfl, rfl, q0⟩ | ⟨rfl, rfl, rfl, rfl, q0⟩ | ⟨rfl, rfl, rfl, rfl, q0⟩ | ⟨rfl, rfl, rfl, rfl, q0⟩
          all_goals
            clear HP
            (try obtain ⟨q0, q1⟩ := q0); (try obtain ⟨q1, q2⟩ := q1); (try obtain ⟨q2, q3⟩ := q2); (try obtain ⟨q3, q4⟩ := q3); (try obtain ⟨q4, q5⟩ := q4); (try obtain ⟨q0, q6⟩ := q0); (try obtain ⟨q1, q7⟩ := q1); (try obtain ⟨q2, q8⟩ := q2); (try obtain ⟨q3, q9⟩ := q3)
            obtain ⟨z0, z1, z2, z3, z4, z5, z6, y0, y1, y2, y3, y4, y5, y6⟩ := oF7 BK.out
            go_wp2_with (first | (go_at_call 31; (with_reducible refine (palingref11_Has.calls k t 79 _ _ AhO.out).mono ?_); rintro e w' ⟨rfl, ⟨nd, rfl⟩⟩) | (go_at_call 31; (with_reducible refine (palingref11_Has.calls k t 78 _ _ AhN.out).mono ?_); rintro e w' ⟨rfl, ⟨nd, rfl⟩⟩) | (go_at_call 31; (with_reducible refine (palingref11_Has.calls k t 84 _ _ AhT.out).mono ?_); rintro e w' ⟨rfl, ⟨nd, rfl⟩⟩))
            go_meet
            case rel => exact ⟨rfl, ⟨oBK⟩, ⟨oHB⟩⟩
        case rest =>
          obtain ⟨rfl, BK, HB⟩ := hcut
          clear HP
          cases x89 with
          | true =>
            go_wp2
            go_ret
            exact ⟨by rw [← HR.out]; rfl, oHB⟩
          | false =>
            have hc : (nb = false ∧ True ∧ True) ∨ (nb = true ∧ decide (0 ≤ a0_6) = false ∧ True) ∨ (nb = true ∧ decide (0 ≤ a0_6) = true ∧ True) := by cases nb <;> cases decide (0 ≤ a0_6) <;> simp
            rcases hc with ⟨rfl, c0, c1⟩ | ⟨rfl, c0, c1⟩ | ⟨rfl, c0, c1⟩
            all_goals
              clear c1
              obtain ⟨z0, z1, z2, z3, z4, z5, z6, y0, y1, y2, y3, y4, y5, y6⟩ := oF7 BK.out
              go_wp2_with ((with_reducible refine gate_callee (f := 32) rfl ?_); refine goesL_ (some 92) rfl rfl Tryd.func32 (by kernel_rfl) rfl #[.agg #[.int .i64 a0_0, .int .i64 a0_1, .int .i64 a0_2, .int .i64 a0_3, .int .i64 a0_4, .int .i64 a0_5, .int .i64 a0_6], .int .i64 a3] rfl oArg ?_; (with_reducible refine (palingref11_number.calls k a0_0 a0_1 a0_2 a0_3 a0_4 a0_5 a0_6 a3 _ _ Anb.out).mono ?_); rintro e w42 ⟨rfl, hb⟩; refine ⟨_, rfl, ?_⟩; replace BK := Aside0.mk (blk_below (g := gb) (o := (.cells #[.int .i64 a0_0, .int .i64 a0_1, .int .i64 a0_2, .int .i64 a0_3, .int .i64 a0_4, .int .i64 a0_5, .int .i64 a0_6] 53 (0, 0))) oBK hb); replace HB := Aside0.mk (below_step oHB hb); clear hb; obtain ⟨z0, z1, z2, z3, z4, z5, z6, y0, y1, y2, y3, y4, y5, y6⟩ := oF7 BK.out)
              go_ret
              exact ⟨by rw [← HR.out]; (try rw [c0]); rfl, oHB⟩
end Go.Proofs.YtfhjkkcdeigkdaaDoor.PFoldRuns
