-- HAND paling/ins.Text rounds=1 making=1 needs=paling/calc.Digits;paling/ins.Show
import Derived.Test.YtggfikekggcclaaDoorPInsTellsx0
import Derived.Test.YtggfikekggcclaaDoorPInsTellsx3
import Derived.Test.YtggfikekggcclaaDoorPInsTellshbuilder
import Derived.Test.YtggfikekggcclaaDoorPInsTellshcalc
import Derived.Test.YtggfikekggcclaaDoorPInsTellshforms
import Derived.Test.YtggfikekggcclaaDoorPInsTellshscan
import Derived.Shelf.Strings.Builder1
import Derived.OneCell
namespace Go.Proofs.YtggfikekggcclaaDoor.PInsTells
open Go.RowKit Go.Proofs.YtggfikekggcclaaDoorW.PrintWords Go.Proofs.YtggfikekggcclaaDoorW.PrintLast Go.Proofs.YtggfikekggcclaaDoorW.PrintMore
set_option linter.unusedVariables false
set_option linter.unusedSimpArgs false
open Go.Shelf
/-! ins.Text: a code's text. -/
def lineL (at_ : Int) (s : ByteArray) : List UInt8 := Lib.itoa at_ ++ [32] ++ s.data.toList ++ [10]
def textGo (k : Nat) : List S23 → Int → List UInt8 → Option (List UInt8)
  | [], _, acc => some acc
  | x :: xs, at_, acc => (ins_Show.f k x.f0 x.f1 x.f2 x.f3 x.f4 x.f5 x.f6).bind fun s => if acc.length + (lineL at_ s).length ≤ 140737488355328 then textGo k xs (at_ + 1) (acc ++ lineL at_ s) else none
def ins_Text.f (k : Nat) (l0 : List S23) : Option ByteArray := if l0.length ≤ 4611686018427387904 then (textGo k l0 0 []).bind fun l => some ⟨l.toArray⟩ else none
theorem textGo.mono (k : Nat) : ∀ xs at_ acc, LeO (textGo k xs at_ acc) (textGo (k + 1) xs at_ acc)
  | [], at_, acc, r, h => h
  | x :: xs, at_, acc, r, h => by
    rw [textGo] at h ⊢
    obtain ⟨s, h1, h2⟩ := Option.bind_eq_some_iff.1 h
    refine Option.bind_eq_some_iff.2 ⟨s, ins_Show.mono _ _ _ _ _ _ _ k s h1, ?_⟩
    by_cases hl : acc.length + (lineL at_ s).length ≤ 140737488355328
    · rw [if_pos hl] at h2 ⊢
      exact textGo.mono k xs _ _ r h2
    · rw [if_neg hl] at h2
      exact absurd h2 (by simp)
theorem ins_Text.mono : ∀ a0 k, LeO (ins_Text.f k a0) (ins_Text.f (k + 1) a0) := fun a0 k r h => by
  unfold ins_Text.f at h ⊢
  by_cases hl : a0.length ≤ 4611686018427387904
  · rw [if_pos hl] at h ⊢
    obtain ⟨s, h1, h2⟩ := Option.bind_eq_some_iff.1 h
    exact Option.bind_eq_some_iff.2 ⟨s, textGo.mono k _ _ _ s h1, h2⟩
  · rw [if_neg hl] at h
    exact absurd h (by simp)
theorem isBuilder_below {T e : TypeId} {B b : Nat} {bs : List Value} {W W' : World} (h : Lib.IsBuilder T e B b bs W) (hb : Below W.heap.size W W') : Lib.IsBuilder T e B b bs W' := by
  refine h.imp ?_ ?_
  all_goals
    rintro ⟨h1, v, h2, h3, h4⟩
    exact ⟨h1, v, (hb.block b (blk_lt h2)).trans h2, own_move h3 (fun k hk => hb.block k (own_lt h3 k hk)), h4⟩
set_option maxHeartbeats 8000000 in
set_option maxRecDepth 100000 in
theorem ins_Text.calls (k : Nat) (A0 : Option Addr) (c0 : Nat) (l0 : List S23) (r : ByteArray) (w : World) (hr0 : Kd.C k23 w A0 l0.length l0) (hc0 : l0.length ≤ c0) (h : ins_Text.f k l0 = some r) (hgl : GlobOK w) :
    Calls Tryd.prog 19 #[.slice A0 l0.length c0] w fun e w' => e = .returned (.string r) ∧ Below w.heap.size w w' := by
  unfold ins_Text.f at h
  by_cases hl : l0.length ≤ 4611686018427387904
  case neg => rw [if_neg hl] at h; exact absurd h (by simp)
  rw [if_pos hl] at h
  obtain ⟨R, h1, h2⟩ := Option.bind_eq_some_iff.1 h
  replace h2 := Option.some.inj h2
  subst h2
  have HGL := Aside0.mk hgl
  have HRow := Aside0.mk hr0
  have H1 := Aside0.mk h1
  clear h h1 hgl hr0
  go_enter Tryd.func19, Tryd.ntmps19
  go_wp2_with fail
  go_loopg [4, 8] l0.length (fun gg _ s8 wr => ∃ (kk : Int) (acc : List UInt8), 0 ≤ kk ∧ kk ≤ l0.length ∧ l0.length - kk ≤ gg ∧ s8 = .int .i64 kk ∧ Aside0 (Below w.heap.size w wr) ∧ Aside0 (Lib.IsBuilder 61 5 w.heap.size w.heap.size (Lib.byteCells acc) wr) ∧ Aside0 (textGo k (l0.drop kk.toNat) kk acc = some R) ∧ Aside0 (acc.length ≤ 140737488355328))
  case atStart => exact ⟨0, [], by omega, by omega, by omega, rfl, ⟨(Below.refl _ _).alloc (Nat.le_refl _) _⟩, ⟨Lib.fresh_isBuilder _ _ w⟩, ⟨H1.out⟩, ⟨by simp⟩⟩
  case round =>
    clear H1
    obtain ⟨kk, acc, hk0, hkk, hg, rfl, HB, HI, HT, HA⟩ := hrel
    by_cases hlt : kk < l0.length
    · have hdrop := drop_one l0 (z23) kk.toNat (by omega)
      obtain ⟨ad, e101, c_0, c_1, c_2, c_3, c_4, c_5, c_6⟩ := at_T23 (Kd.C_below HRow.out HB.out) kk hk0 hlt
      cases e101
      have hrd : l0.getD kk.toNat (z23) = rd_T23 l0 kk := rfl
      rw [hrd] at hdrop
      obtain ⟨y, hy⟩ : ∃ y, y = rd_T23 l0 kk := ⟨_, rfl⟩
      have ht := HT.out
      rw [hdrop, ← hy, textGo] at ht
      rw [← hy] at c_0 c_1 c_2 c_3 c_4 c_5 c_6
      obtain ⟨s, hs, ht2⟩ := Option.bind_eq_some_iff.1 ht
      by_cases hsz : acc.length + (lineL kk s).length ≤ 140737488355328
      case neg => rw [if_neg hsz] at ht2; exact absurd ht2 (by simp)
      rw [if_pos hsz] at ht2
      have HS := Aside0.mk hs
      replace HT := Aside0.mk ht2
      have HZ := Aside0.mk hsz
      clear hdrop hrd hy ht hs ht2 hsz
      go_upto_region 5 with fail
      have HB1 := Aside0.mk (below_alloc HB.out (.cells #[.int .i64 y.f0, .int .i64 y.f1, .int .i64 y.f2, .int .i64 y.f3, .int .i64 y.f4, .int .i64 y.f5, .int .i64 y.f6] 23 (0, 0)))
      have HI1 := Aside0.mk (isBuilder_below HI.out (below_alloc (Below.refl wr.heap.size wr) (.cells #[.int .i64 y.f0, .int .i64 y.f1, .int .i64 y.f2, .int .i64 y.f3, .int .i64 y.f4, .int .i64 y.f5, .int .i64 y.f6] 23 (0, 0))))
      have BY := Aside0.mk (blk_new wr (.cells #[.int .i64 y.f0, .int .i64 y.f1, .int .i64 y.f2, .int .i64 y.f3, .int .i64 y.f4, .int .i64 y.f5, .int .i64 y.f6] 23 (0, 0)))
      clear HB c_0 c_1 c_2 c_3 c_4 c_5 c_6
      have HG5 := Aside0.mk (show wr.heap.size ≠ w.heap.size by
        rcases HI.out with h | h
        all_goals (have := h.lt; omega))
      generalize (wr.alloc (.cells #[.int .i64 y.f0, .int .i64 y.f1, .int .i64 y.f2, .int .i64 y.f3, .int .i64 y.f4, .int .i64 y.f5, .int .i64 y.f6] 23 (0, 0))) = W1 at HB1 HI1 BY ⊢
      clear HI
      generalize wr.heap.size = g5 at BY HG5 ⊢
      have CD := Aside0.mk (fun W (hb : Below W1.heap.size W1 W) => (calc_Digits.calls kk (digB kk) W (if_pos ⟨by omega, by omega⟩) ((HGL.out.step HB1.out).step hb)).mono (R' := fun e w' => e = .returned (.string (digB kk)) ∧ Below W1.heap.size W1 w') (fun e w' h => ⟨h.1, below_step hb h.2⟩))
      have CS := Aside0.mk (fun W (hb : Below W1.heap.size W1 W) => (ins_Show.calls k y.f0 y.f1 y.f2 y.f3 y.f4 y.f5 y.f6 s W HS.out ((HGL.out.step HB1.out).step hb)).mono (R' := fun e w' => e = .returned (.string s) ∧ Below W1.heap.size W1 w') (fun e w' h => ⟨h.1, below_step hb h.2⟩))
      obtain ⟨D, hD⟩ : ∃ D, D = digB kk := ⟨_, rfl⟩
      rw [← hD] at CD
      have hls : D.size + 1 + s.size + 1 ≤ 140737488355328 := by
        have h1 := HZ.out
        have h2 : D.size = (Lib.itoa kk).length := by rw [hD]; exact List.size_toArray
        have h3 : s.size = s.data.toList.length := (Array.length_toList).symm
        simp only [lineL, List.length_append, List.length_cons, List.length_nil] at h1
        omega
      have z0 := eq_true (show D.size + 1 ≤ 9223372036854775807 by omega)
      have z0b : decide (D.size + 1 ≤ 9223372036854775807) = true := decide_eq_true (by omega)
      have z0c : (9223372036854775807 < D.size + 1) = False := eq_false (by omega)
      have z1 := eq_true (show D.size + 1 + s.size ≤ 9223372036854775807 by omega)
      have z1b : decide (D.size + 1 + s.size ≤ 9223372036854775807) = true := decide_eq_true (by omega)
      have z1c : (9223372036854775807 < D.size + 1 + s.size) = False := eq_false (by omega)
      have z2 := eq_true (show D.size + 1 + s.size + 1 ≤ 9223372036854775807 by omega)
      have z2b : decide (D.size + 1 + s.size + 1 ≤ 9223372036854775807) = true := decide_eq_true (by omega)
      have z2c : (9223372036854775807 < D.size + 1 + s.size + 1) = False := eq_false (by omega)
      have HD := Aside0.mk hD
      obtain ⟨L, hL⟩ : ∃ L : ByteArray, L = D ++ ⟨#[32]⟩ ++ s ++ ⟨#[10]⟩ := ⟨_, rfl⟩
      have hLs : L.data.toList = lineL kk s := by rw [hL, hD]; simp [digB, lineL, ByteArray.data_append]
      have hLz : L.size = (lineL kk s).length := by rw [← hLs]; exact (Array.length_toList).symm
      have CW := Aside0.mk (fun W (hb : Below W1.heap.size W1 W) => (writeString.calls w.heap.size w.heap.size (Lib.byteCells acc) L W (isBuilder_below HI1.out hb) (by rw [Lib.byteCells_length, hLz]; exact HZ.out) (Nat.le_trans HB1.out.size hb.size)).mono (R' := fun e w' => e = .returned (.tuple #[.int .i64 L.size, .nilIface]) ∧ Aside0 (Lib.IsBuilder 61 5 w.heap.size w.heap.size (Lib.byteCells acc ++ Lib.strCells L) w') ∧ Aside0 (Below w.heap.size w w') ∧ w'.heap[g5]? = some (.cells #[.int .i64 y.f0, .int .i64 y.f1, .int .i64 y.f2, .int .i64 y.f3, .int .i64 y.f4, .int .i64 y.f5, .int .i64 y.f6] 23 (0, 0))) (fun e w' h => ⟨h.1, ⟨Or.inr h.2.1⟩, ⟨(below_step HB1.out hb).trans h.2.2.1⟩, h.2.2.2 _ _ _ (blk_below BY.out hb) (by decide) HG5.out⟩))
      rw [hL] at CW
      rw [hL] at hLs
      have HLS := Aside0.mk hLs
      clear hD hls hL hLs hLz
      go_region_held3 (fun W => W.cell? ⟨g5, 0, none⟩ = some (.int .i64 y.f0) ∧ W.cell? ⟨g5, 1, none⟩ = some (.int .i64 y.f1) ∧ W.cell? ⟨g5, 2, none⟩ = some (.int .i64 y.f2) ∧ W.cell? ⟨g5, 3, none⟩ = some (.int .i64 y.f3) ∧ W.cell? ⟨g5, 4, none⟩ = some (.int .i64 y.f4) ∧ W.cell? ⟨g5, 5, none⟩ = some (.int .i64 y.f5) ∧ W.cell? ⟨g5, 6, none⟩ = some (.int .i64 y.f6))
        (first | exact ⟨(blk_cell BY.out 0).trans rfl, (blk_cell BY.out 1).trans rfl, (blk_cell BY.out 2).trans rfl, (blk_cell BY.out 3).trans rfl, (blk_cell BY.out 4).trans rfl, (blk_cell BY.out 5).trans rfl, (blk_cell BY.out 6).trans rfl⟩ | exact ⟨(blk_cell (blk_below BY.out hb) 0).trans rfl, (blk_cell (blk_below BY.out hb) 1).trans rfl, (blk_cell (blk_below BY.out hb) 2).trans rfl, (blk_cell (blk_below BY.out hb) 3).trans rfl, (blk_cell (blk_below BY.out hb) 4).trans rfl, (blk_cell (blk_below BY.out hb) 5).trans rfl, (blk_cell (blk_below BY.out hb) 6).trans rfl⟩ | exact ⟨(blk_cell BY3 0).trans rfl, (blk_cell BY3 1).trans rfl, (blk_cell BY3 2).trans rfl, (blk_cell BY3 3).trans rfl, (blk_cell BY3 4).trans rfl, (blk_cell BY3 5).trans rfl, (blk_cell BY3 6).trans rfl⟩ | go_keep)
        (first | ((with_reducible refine (CD.out _ (by first | exact below_drew (Below.refl _ _) | exact below_drew hb | exact hb)).mono ?_); clear CD; rintro e w2 ⟨rfl, hb⟩) | ((with_reducible refine (CS.out _ (by first | exact below_drew (Below.refl _ _) | exact below_drew hb | exact hb)).mono ?_); clear CS; rintro e w2 ⟨rfl, hb⟩) | ((with_reducible refine (CW.out _ (by first | exact below_drew hb | exact hb)).mono ?_); rintro e w3 ⟨rfl, HI3, HB3, BY3⟩; clear hb CW HI1 HB1 BY))
      all_goals
        clear BY3
        have HI4 := Aside0.mk (show Lib.IsBuilder 61 5 w.heap.size w.heap.size (Lib.byteCells (acc ++ lineL kk s)) _ by rw [Lib.byteCells_append, ← HLS.out, ← Lib.strCells_eq]; exact HI3.out)
        clear HI3
        go_wp2_with fail
        go_roundg (l0.length - (kk.toNat + 1))
        case measure => omega
        case rel => exact ⟨kk + 1, acc ++ lineL kk s, by omega, by omega, by omega, by go_num, HB3, HI4, ⟨by rw [show (kk + 1).toNat = kk.toNat + 1 by omega]; exact HT.out⟩, ⟨by rw [List.length_append]; exact HZ.out⟩⟩
    · have hd : l0.drop kk.toNat = [] := List.drop_eq_nil_of_le (by omega)
      have ht := HT.out
      rw [hd, textGo] at ht
      replace ht := Option.some.inj ht
      subst ht
      have CS := Aside0.mk (Tryd.Builder_String_any w.heap.size w.heap.size acc wr HI.out HB.out.size)
      clear hd HT HI HA HRow HGL
      go_wp2_with (go_at_call 40; (with_reducible refine CS.out.mono ?_); rintro e w2 ⟨rfl, hb⟩; have HB2 := Aside0.mk (HB.out.trans hb); clear hb CS)
      go_ret
      exact ⟨rfl, HB2.out⟩
end Go.Proofs.YtggfikekggcclaaDoor.PInsTells
