-- HAND paling/live.next rounds=0 making=1 needs=paling/ins.Next
import Derived.Test.YtianfjhhhhmjlaaDoorPLiveTellsx0
import Derived.Test.YtianfjhhhhmjlaaDoorPLiveTellshforms
import Derived.Test.YtianfjhhhhmjlaaDoorPLiveTellshinsnext
import Derived.OneCell
namespace Go.Proofs.YtianfjhhhhmjlaaDoor.PLiveTells
open Go.RowKit Go.Proofs.YtianfjhhhhmjlaaDoorW.PrintWords Go.Proofs.YtianfjhhhhmjlaaDoorW.PrintLast Go.Proofs.YtianfjhhhhmjlaaDoorW.PrintMore
set_option linter.unusedVariables false
set_option linter.unusedSimpArgs false
open Go.Shelf Go.Sort
/-! live.next: where an instruction goes to in its code. -/
def linB (n : Nat) (x : Int) : Bool := decide (x < 0) || decide (x ≥ (n : Int))
def live_next.f (l0 : List S39) (a1 : Int) : Option (List Int) :=
  if 0 ≤ a1 ∧ a1 < (l0.length : Int) then (ins_Next.f (rd_T39 l0 a1).f0 (rd_T39 l0 a1).f1 (rd_T39 l0 a1).f2 (rd_T39 l0 a1).f3 (rd_T39 l0 a1).f4 (rd_T39 l0 a1).f5 (rd_T39 l0 a1).f6 a1).bind fun l => if l.length ≤ 1000000 then some (l.filter (fun x => !linB l0.length x)) else none
  else none
theorem lown_lower {w : World} {base base' e size n : Nat} {v : Value} {xs : List Value} (h : w.ownsRow base e size v n xs) (hb : base' ≤ base) : w.ownsRow base' e size v n xs := by
  refine ⟨h.1, h.2.imp id ?_⟩
  rintro ⟨g, cap, cur, h1, h2, h3⟩
  exact ⟨g, cap, cur, h1, Nat.le_trans hb h2, h3⟩
theorem lsw_other {α : Type} [Inhabited α] {enc : α → Value} {w : World} {g off n b : Nat} {os : Array Obj} (d : Array α) (hb : b < w.heap.size) (hne : g ≠ b) : (sortWorld enc w g off n d os).heap[b]? = w.heap[b]? := by
  unfold sortWorld
  rw [heap_grow_old _ _ (by simpa using hb)]
  simp [putRow, mapBlock, Sort.ahead, Array.getElem?_modify, hne]
theorem lnext1.gives (x : Int) (W : World) (A0 : Option Addr) (n c B : Nat) (hB : W.heap[B]? = some (.cells #[.slice A0 n c] 44 (0, 0))) : FnGives Tryd.prog 46 #[.pointer (some ⟨B, 0, none⟩)] #[.int .i64 x] (.bool (linB n x)) W := by
  show Calls Tryd.prog 46 #[.int .i64 x, .pointer (some ⟨B, 0, none⟩)] W _
  have hc : W.cell? ⟨B, 0, none⟩ = some (.slice A0 n c) := cell_of_one hB
  unfold linB
  by_cases h0 : x < 0
  · have h0' : decide (x < 0) = true := decide_eq_true h0
    clear hB h0
    go_enter Tryd.func46, Tryd.ntmps46
    go_wp2
    go_ret
    exact ⟨by rw [h0']; rfl, 0, rfl⟩
  · have h0' : decide (x < 0) = false := decide_eq_false h0
    clear hB h0
    go_enter Tryd.func46, Tryd.ntmps46
    go_wp2
    go_ret
    exact ⟨by rw [h0', Bool.false_or]; rfl, 0, rfl⟩
set_option maxHeartbeats 1000000 in
theorem ldelete_nil (lb : Array Value) (w : World) : Calls Tryd.prog 44 #[.slice none 0 0, .func (.func 46) #[] lb] w fun e w' => e = .returned (.slice none 0 0) ∧ Below w.heap.size w w' := by
  have hcon := fun W => Tryd.slices_IndexFunc_empty (α := Int) none 0 (.func (.func 46) #[] lb) W
  go_enter Tryd.func44, Tryd.ntmps44
  go_wp2_with (go_at_call 52; refine (hcon _).mono ?_; rintro e w' ⟨rfl, rfl⟩)
  go_ret
  exact ⟨rfl, Below.refl _ _⟩
set_option maxHeartbeats 4000000 in
set_option maxRecDepth 100000 in
theorem live_next.calls (A0 : Option Addr) (c0 : Nat) (l0 : List S39) (a1 : Int) (r : List Int) (w : World) (hr0 : Kd.C k39 w A0 l0.length l0) (hc0 : l0.length ≤ c0) (h : live_next.f l0 a1 = some r) (hgl : GlobOK w) :
    Calls Tryd.prog 36 #[.slice A0 l0.length c0, .int .i64 a1] w fun e w' => ∃ v0_ : Value, e = .returned (v0_) ∧ Kd.R (Kd.int .i64) 3 w' w.heap.size (fun _ => True) v0_ r ∧ Below w.heap.size w w' := by
  unfold live_next.f at h
  by_cases hr : 0 ≤ a1 ∧ a1 < (l0.length : Int)
  case neg => rw [if_neg hr] at h; exact absurd h (by simp)
  rw [if_pos hr] at h
  obtain ⟨L, h1, h2⟩ := Option.bind_eq_some_iff.1 h
  by_cases hL : L.length ≤ 1000000
  case neg => rw [if_neg hL] at h2; exact absurd h2 (by simp)
  rw [if_pos hL] at h2
  replace h2 := Option.some.inj h2
  obtain ⟨hk0, hlt⟩ := hr
  have BX := Aside0.mk (blk_new w (.cells #[.slice A0 l0.length c0] 44 (0, 0)))
  have HB1 := Aside0.mk ((Below.refl w.heap.size w).alloc (Nat.le_refl _) (.cells #[.slice A0 l0.length c0] 44 (0, 0)))
  obtain ⟨ad, e101, c_0, c_1, c_2, c_3, c_4, c_5, c_6⟩ := at_T39 (Kd.C_below hr0 HB1.out) a1 hk0 hlt
  cases e101
  obtain ⟨y, hy⟩ : ∃ y, y = rd_T39 l0 a1 := ⟨_, rfl⟩
  rw [← hy] at c_0 c_1 c_2 c_3 c_4 c_5 c_6 h1
  have CN := Aside0.mk (fun W hg => ins_Next.calls y.f0 y.f1 y.f2 y.f3 y.f4 y.f5 y.f6 a1 L W h1 hg)
  have HGL := Aside0.mk (hgl.step HB1.out)
  have HR := Aside0.mk h2
  have HL := Aside0.mk hL
  clear h h1 h2 hL hr0 hgl hy
  go_enter Tryd.func36, Tryd.ntmps36
  go_wp2_with fail
  refine (CN.out _ HGL.out).mono ?_
  rintro e w1 ⟨v1, rfl, hR, hb⟩
  have hown := Kd.own_of_R hR
  have HB2 := Aside0.mk (below_step HB1.out hb)
  have BX2 := Aside0.mk (blk_below BX.out hb)
  have HS := Aside0.mk HB1.out.size
  clear hb hR CN HGL BX c_0 c_1 c_2 c_3 c_4 c_5 c_6
  by_cases hv : v1 = .slice none 0 0
  · subst hv
    have hl : L = [] := by
      rcases hown.2 with ⟨_, h0⟩ | ⟨g, cap, cur, e0, _⟩
      · exact List.eq_nil_of_length_eq_zero h0
      · cases e0
    subst hl
    have hr := HR.out
    clear hown
    go_wp2_with (go_at_call 44; refine (ldelete_nil _ _).mono ?_; rintro e w2 ⟨rfl, hb1⟩; have HB3 := Aside0.mk (below_step HB2.out hb1); clear hb1)
    go_ret
    exact ⟨_, rfl, by rw [← hr]; exact Kd.R_nil _ _ _ _ _, HB3.out⟩
  · obtain ⟨g, cap, rfl, hg, hlt1, hn, hm, hl, hH⟩ := Lib.holds_of_ownsRow hown hv
    obtain ⟨F, hF⟩ : ∃ F, F = L.filter (fun x => !linB l0.length x) := ⟨_, rfl⟩
    have hFl : F.length ≤ L.length := by rw [hF]; exact List.length_filter_le _ _
    have hBlt : w.heap.size < w1.heap.size := blk_lt BX2.out
    have hne : g ≠ w.heap.size := by have : (w.alloc (.cells #[.slice (some ad) l0.length c0] 44 (0, 0))).heap.size = w.heap.size + 1 := by simp
                                     omega
    have c1 := Tryd.slices_DeleteFunc (Value.int .i64) (fun _ => rfl) (fun x => linB l0.length x) 46 #[.pointer (some ⟨w.heap.size, 0, none⟩)] (enters_of Tryd.func46 (by kernel_rfl) rfl) 0 Tryd.zeroValue3 g 0 cap L.toArray w1
      (fun W x hb => lnext1.gives x W (some ad) l0.length c0 w.heap.size (blk_below BX2.out hb))
      (fun n os dk x hs => lnext1.gives x _ (some ad) l0.length c0 w.heap.size ((lsw_other dk hBlt hne).trans BX2.out)) hH (by have := HL.out; simp; omega) (by simpa using hn)
    change Calls Tryd.prog 44 _ _ _ at c1
    simp only [List.size_toArray, List.toList_toArray] at c1
    rw [← hF] at c1
    have hbase : w.heap.size ≤ g := by have : (w.alloc (.cells #[.slice (some ad) l0.length c0] 44 (0, 0))).heap.size = w.heap.size + 1 := by simp
                                       omega
    have own1 := Aside0.mk (fun (q : Nat) => (by
      have := Lib.ownsRow_putRow (q := q) (k := F.length) (ys := F ++ List.replicate (L.length - F.length) 0) hown (by simp; omega) hFl
      simpa using this : (putRow (Value.int .i64) (Sort.ahead w1 q) g 0 (F ++ List.replicate (L.length - F.length) 0).toArray).ownsRow _ 3 1 (.slice (some ⟨g, 0, none⟩) F.length cap) F.length (F.map (Value.int .i64))))
    have below1 := Aside0.mk (fun (q : Nat) => Lib.below_putRow (enc := Value.int .i64) (q := q) (d := (F ++ List.replicate (L.length - F.length) 0).toArray) HB2.out hbase)
    have C1 := Aside0.mk c1
    have HF := Aside0.mk (hF.trans HR.out)
    clear c1 hown hv hH hF hFl hBlt hne hbase hg hlt1 hn hm hl HR
    go_wp2_with (go_at_call 44; refine C1.out.mono ?_; rintro e w2 ⟨rfl, q, hw⟩; have o1 := Aside0.mk (own1.out q); have b1 := Aside0.mk (below1.out q); rw [← hw] at o1 b1; clear hw C1 own1 below1)
    go_ret
    exact ⟨_, rfl, by rw [← HF.out]; exact Kd.R_of_own (lown_lower o1.out (by simp)) (fun _ _ => trivial), b1.out⟩
end Go.Proofs.YtianfjhhhhmjlaaDoor.PLiveTells
