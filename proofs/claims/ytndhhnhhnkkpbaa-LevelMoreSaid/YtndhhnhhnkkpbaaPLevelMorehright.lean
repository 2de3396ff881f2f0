-- HAND paling/level.Right rounds=0 making=1
import Derived.Test.YtndhhnhhnkkpbaaPLevelMorex0
import Derived.Test.YtndhhnhhnkkpbaaPLevelMorehidxArea
import Derived.Test.YtndhhnhhnkkpbaaPLevelMorehscan
import Derived.OneCell
namespace Go.Proofs.Ytndhhnhhnkkpbaa.PLevelMore
open Go.RowKit Go.Proofs.YtndhhnhhnkkpbaaW.PrintWords Go.Proofs.YtndhhnhhnkkpbaaW.PrintLast Go.Proofs.YtndhhnhhnkkpbaaW.PrintMore
set_option linter.unusedVariables false
set_option linter.unusedSimpArgs false

def badArea (words : Int) (s : Int) (x : S26) : Bool := decide (x.f0 < s) || (decide (x.f1 < 1) || (decide (x.f0 > words) || decide (x.f1 > wrap64 (words - x.f0))))
def endArea (words : Int) (s : Int) (x : S26) : Int := if badArea words s x = true then s else wrap64 (x.f0 + x.f1)
def right1.Post (x : S26) (words s : Int) (E : Nat) (w : World) (e : Ending) (w' : World) : Prop := e = .returned (.bool (badArea words s x)) ∧
      ∃ o, (w' = w.alloc o ∨ w' = (w.setCell ⟨E, 0, none⟩ (.int .i64 (endArea words s x))).alloc o) ∧ w'.heap[E]? = some (.cells #[.int .i64 (endArea words s x)] 3 (0, 0))
set_option maxHeartbeats 2000000 in
theorem right1.calls (x : S26) (words s : Int) (E B : Nat) (w : World) (hE : w.heap[E]? = some (.cells #[.int .i64 s] 3 (0, 0))) (hc : w.cell? ⟨B, 0, none⟩ = some (.int .i64 words)) (hne : B ≠ E) :
    Calls Try.prog 18 #[.agg #[.int .i64 x.f0, .int .i64 x.f1, .bool x.f2], .pointer (some ⟨E, 0, none⟩), .pointer (some ⟨B, 0, none⟩)] w (right1.Post x words s E w) := by
  obtain ⟨x0, x1, x2⟩ := x
  have hB := World.block_lt_of_cell? w _ hc
  have hEl : E < w.heap.size := (Array.getElem?_eq_some_iff.1 hE).1
  have hEc : w.cell? ⟨E, 0, none⟩ = some (.int .i64 s) := cell_of_one hE
  have hEf : w.frozen? ⟨E, 0, none⟩ = false := free_of_one hE
  have HE := Aside0.mk hE
  clear hE
  have hold : ∀ o, (w.alloc o).heap[E]? = some (.cells #[.int .i64 s] 3 (0, 0)) := fun o => (Below.heap_alloc w o E hEl).trans HE.out
  have HO := Aside0.mk hold
  clear hold
  by_cases h1 : x0 < s
  · go_enter Try.func18, Try.ntmps18
    go_wp2
    go_ret
    exact ⟨by simp [badArea, h1], _, .inl rfl, by simpa [badArea, endArea, h1] using HO.out _⟩
  · by_cases h2 : x1 < 1
    · go_enter Try.func18, Try.ntmps18
      go_wp2
      go_ret
      exact ⟨by simp [badArea, h2], _, .inl rfl, by simpa [badArea, endArea, h2] using HO.out _⟩
    · by_cases h3 : words < x0
      · go_enter Try.func18, Try.ntmps18
        go_wp2
        go_ret
        exact ⟨by simp [badArea, h3], _, .inl rfl, by simpa [badArea, endArea, h3] using HO.out _⟩
      · by_cases h4 : wrap64 (words - x0) < x1
        · go_enter Try.func18, Try.ntmps18
          go_wp2
          go_ret
          exact ⟨by simp [badArea, h4], _, .inl rfl, by simpa [badArea, endArea, h4] using HO.out _⟩
        · go_enter Try.func18, Try.ntmps18
          go_wp2
          go_ret
          have hb : badArea words s ⟨x0, x1, x2⟩ = false := by simp [badArea]; omega
          have he : endArea words s ⟨x0, x1, x2⟩ = wrap64 (x0 + x1) := by simp [endArea, hb]
          exact ⟨by rw [hb]; rfl, _, .inr (by rw [he]), by rw [he]; exact (Below.heap_alloc _ _ E (by simpa using hEl)).trans (one_setCell HE.out)⟩

def level_Right.f (l0 : List S26) (a1 : Int) : Option Bool := if l0.length ≤ 9223372036854775807 then some (decide (a1 ≥ 0) && (decide (a1 ≤ 65536) && !decide ((scanIdx (badArea a1) (endArea a1) 0 l0 0).1 ≥ 0))) else none
set_option maxHeartbeats 2000000 in
theorem level_Right.calls (A0 : Option Addr) (c0 : Nat) (l0 : List S26) (a1 : Int) (r : Bool) (w : World) (hr0 : Kd.C k26 w A0 l0.length l0) (hc0 : l0.length ≤ c0) (h : level_Right.f l0 a1 = some r) :
    Calls Try.prog 9 #[.slice A0 l0.length c0, .int .i64 a1] w fun e w' => e = .returned (.bool r) ∧ Below w.heap.size w w' := by
  unfold level_Right.f at h
  by_cases hl : l0.length ≤ 9223372036854775807
  · rw [if_pos hl] at h
    have hr := Option.some.inj h
    have HR0 := Aside0.mk hr0
    clear hr0 h
    have hmf : ∀ (fn : Fn) (first cap : Array Value) (w : World), (Instr.makeFunc fn first cap).run Try.prog w = .ok (.func fn first cap) w := fun _ _ _ _ => rfl
    by_cases g1 : 0 ≤ a1
    · by_cases g2 : a1 ≤ 65536
      · have HR := Aside0.mk hr
        clear hr
        go_enter Try.func9, Try.ntmps9
        go_wp2_with fail
        have hcl := hasArea.calls (badArea a1) (endArea a1) (fun s W => Below w.heap.size w W ∧ W.heap[w.heap.size + 1]? = some (.cells #[.int .i64 s] 3 (0, 0)) ∧ W.cell? ⟨w.heap.size, 0, none⟩ = some (.int .i64 a1)) #[.pointer (some ⟨w.heap.size + 1, 0, none⟩), .pointer (some ⟨w.heap.size, 0, none⟩)] 18 A0 c0 l0 0
          ((w.alloc (Obj.cells #[Value.int IntKind.i64 a1] 3)).alloc (Obj.cells #[Value.int IntKind.i64 0] 3)) hl
          (enters_ Try.func18 (by kernel_rfl) rfl) (fun _ W hb => Kd.C_below HR0.out hb.1)
          ⟨((Below.refl _ _).alloc (Nat.le_refl _) _).alloc (by simp) _, heap_alloc_new (w.alloc (Obj.cells #[Value.int IntKind.i64 a1] 3)) _ |> fun h => by simpa using h, by simp⟩ (fun s x W hb => by
            obtain ⟨hb1, hb2, hb3⟩ := hb
            refine Calls.mono (R := right1.Post x a1 s (w.heap.size + 1) W) (right1.calls x a1 s (w.heap.size + 1) w.heap.size W hb2 hb3 (by omega)) ?_
            rintro e w' ⟨he, o, hw, hE⟩
            have hB := World.block_lt_of_cell? W _ hb3
            refine ⟨he, ?_, hE, ?_⟩
            · rcases hw with rfl | rfl
              · exact hb1.alloc hb1.size _
              · exact (hb1.setCell (by simp) _).alloc (by simpa using hb1.size) _
            · rcases hw with rfl | rfl
              · exact (World.cell?_alloc_past _ _ _ hB).trans hb3
              · refine (World.cell?_alloc_past _ _ _ (by simpa using hB)).trans ((World.cell?_setCell_other _ _ _ _ (by simp)).trans hb3))
        refine hcl.mono ?_
        rintro e w' ⟨rfl, hb'⟩
        have HB := Aside0.mk hb'.1
        clear hb' hcl
        obtain ⟨q, hq⟩ : ∃ q, q = (scanIdx (badArea a1) (endArea a1) 0 l0 0).1 := ⟨_, rfl⟩
        rw [← hq] at HR ⊢
        clear hq
        go_wp2
        go_ret
        exact ⟨by rw [← HR.out]; simp [g1, g2], HB.out⟩
      · have HR := Aside0.mk hr
        clear hr
        go_enter Try.func9, Try.ntmps9
        go_wp2
        go_ret
        exact ⟨by rw [← HR.out]; simp; omega, ((Below.refl _ _).alloc (Nat.le_refl _) _).alloc (by simp) _⟩
    · have HR := Aside0.mk hr
      clear hr
      go_enter Try.func9, Try.ntmps9
      go_wp2
      go_ret
      exact ⟨by rw [← HR.out]; simp; omega, ((Below.refl _ _).alloc (Nat.le_refl _) _).alloc (by simp) _⟩
  · rw [if_neg hl] at h
    exact absurd h (by simp)
end Go.Proofs.Ytndhhnhhnkkpbaa.PLevelMore
