import Derived.Test.YtpbhfpbfmpocdaaDoorPSpillNonex0
namespace Go.Proofs.YtpbhfpbfmpocdaaDoor.PSpillNone
open Go.RowKit Go.Proofs.YtpbhfpbfmpocdaaDoorW.PrintWords Go.Proofs.YtpbhfpbfmpocdaaDoorW.PrintLast Go.Proofs.YtpbhfpbfmpocdaaDoorW.PrintMore
set_option linter.unusedVariables false
set_option linter.unusedSimpArgs false

/-- The first place at which a predicate with a state says yes, and the state behind. -/
def scanIdx {σ α : Type} (p : σ → α → Bool) (nx : σ → α → σ) : σ → List α → Nat → Int × σ
  | s, [], _ => (-1, s)
  | s, x :: xs, k => if p s x = true then ((k : Int), nx s x) else scanIdx p nx (nx s x) xs (k + 1)
theorem drop_one {α : Type} (l : List α) (z : α) (k : Nat) (h : k < l.length) : l.drop k = l.getD k z :: l.drop (k + 1) := by
  rw [List.drop_eq_getElem_cons h]
  congr 1
  simp [h]
theorem scanIdx_unit {α : Type} (p : α → Bool) : ∀ (l : List α) (k : Nat), (scanIdx (σ := Unit) (fun _ x => p x) (fun _ _ => ()) () l k).1 = match l.findIdx? p with | some i => ((k + i : Nat) : Int) | none => -1
  | [], k => rfl
  | x :: xs, k => by
    unfold scanIdx
    rw [List.findIdx?_cons]
    by_cases h : p x = true
    · simp [h]
    · simp only [h, Bool.false_eq_true, if_false]
      rw [scanIdx_unit p xs (k + 1)]
      cases xs.findIdx? p with
      | none => rfl
      | some i =>
        show ((k + 1 + i : Nat) : Int) = ((k + (i + 1) : Nat) : Int)
        congr 1
        omega
theorem scanIdx_has {σ α : Type} (p : σ → α → Bool) (nx : σ → α → σ) : ∀ (s : σ) (l : List α) (k : Nat), -1 ≤ (scanIdx p nx s l k).1
  | s, [], k => by simp [scanIdx]
  | s, x :: xs, k => by
    unfold scanIdx
    split
    · show (-1 : Int) ≤ (k : Int)
      omega
    · exact scanIdx_has p nx _ xs _
/-- a row of ints, read -/
theorem at_int {w : World} {A : Option Addr} {n : Nat} {xs : List Int} (h : Kd.C (Kd.int .i64) w A n xs) (i : Int) (h0 : 0 ≤ i) (h1 : i < n) : ∃ ad, A = some ad ∧ w.cell? (ad.add i.toNat) = some (.int .i64 (rd xs i)) := by
  obtain ⟨ad, c, e, _, hK, hc0⟩ := Kd.C_get h (0 : Int) i h0 h1
  have hc : c = [.int .i64 (xs.getD i.toNat 0)] := hK
  subst hc
  have := hc0 0 _ rfl
  rw [show (Kd.int IntKind.i64).sz = 1 from rfl] at this
  exact ⟨ad, e, by simpa [rd] using this⟩
end Go.Proofs.YtpbhfpbfmpocdaaDoor.PSpillNone

namespace Go.Proofs.YtpbhfpbfmpocdaaDoor.PSpillNone
open Go.RowKit Go.Proofs.YtpbhfpbfmpocdaaDoorW.PrintWords Go.Proofs.YtpbhfpbfmpocdaaDoorW.PrintLast Go.Proofs.YtpbhfpbfmpocdaaDoorW.PrintMore
set_option linter.unusedVariables false
set_option linter.unusedSimpArgs false

set_option maxHeartbeats 4000000 in
theorem idxPlace.calls {σ : Type} (p : σ → S45 → Bool) (nx : σ → S45 → σ) (I : σ → World → Prop) (lb : Array Value) (g : Nat) (A0 : Option Addr) (c0 : Nat) (l0 : List S45) (s0 : σ) (w : World) (hlen : l0.length ≤ 9223372036854775807)
    (eg : ∀ args w, (callFunc g args).run Tryd.prog w = .ok (.enter g args) w) (hC : ∀ s W, I s W → Kd.C k45 W A0 l0.length l0) (h0 : I s0 w)
    (hp : ∀ (s : σ) (x : S45) (W : World), I s W → Calls Tryd.prog g (#[.agg #[.int .i64 x.f0, .int .i64 x.f1]] ++ lb) W fun e w' => e = .returned (.bool (p s x)) ∧ I (nx s x) w') :
    Calls Tryd.prog 39 #[.slice A0 l0.length c0, .func (.func g) #[] lb] w fun e w' => e = .returned (.int .i64 (scanIdx p nx s0 l0 0).1) ∧ I (scanIdx p nx s0 l0 0).2 w' := by
  have HC := Aside0.mk hC
  clear hC
  have HP := Aside0.mk hp
  clear hp
  have HI0 := Aside0.mk h0
  clear h0
  go_enter Tryd.func39, Tryd.ntmps39
  go_wp2
  go_loopg [5, 8] l0.length (fun gg _ s8 wr => ∃ (kk : Int) (s : σ), 0 ≤ kk ∧ kk ≤ l0.length ∧ l0.length - kk ≤ gg ∧ s8 = .int .i64 kk ∧ Aside0 (I s wr) ∧ Aside0 (scanIdx p nx s0 l0 0 = scanIdx p nx s (l0.drop kk.toNat) kk.toNat))
  case atStart => exact ⟨0, s0, by omega, by omega, by omega, rfl, HI0, ⟨rfl⟩⟩
  case round =>
    clear HI0
    obtain ⟨kk, s, hk0, hkk, hg, rfl, HI, HS⟩ := hrel
    by_cases hlt : kk < l0.length
    · have hdrop := drop_one l0 (z45) kk.toNat (by omega)
      obtain ⟨ad, e101, h0, h1⟩ := at_T45 (HC.out _ _ HI.out) kk hk0 hlt
      cases e101
      have hcall := HP.out s (rd_T45 l0 kk) wr HI.out
      have hrd : l0.getD kk.toNat (z45) = rd_T45 l0 kk := rfl
      rw [hrd] at hdrop
      clear HP hrd
      obtain ⟨y, hy⟩ : ∃ y, y = rd_T45 l0 kk := ⟨_, rfl⟩
      rw [← hy] at h0 h1 hcall hdrop
      clear hy
      have HS' := Aside0.mk (HS.out.trans (by rw [hdrop, scanIdx]))
      clear hdrop HS
      cases hq : p s y with
      | true =>
        rw [hq] at hcall HS'
        clear hq
        have HCL := Aside0.mk hcall
        clear hcall
        go_wp2_with fail
        refine HCL.out.mono ?_
        rintro e w' ⟨rfl, hb'⟩
        have HB := Aside0.mk hb'
        clear hb' HCL HI eg
        go_wp2
        go_ret
        rw [HS'.out]
        refine ⟨?_, HB.out⟩
        show Ending.returned (.int .i64 kk) = .returned (.int .i64 ((kk.toNat : Nat) : Int))
        rw [show ((kk.toNat : Nat) : Int) = kk by omega]
      | false =>
        rw [hq] at hcall HS'
        clear hq
        have HCL := Aside0.mk hcall
        clear hcall
        go_wp2_with fail
        refine HCL.out.mono ?_
        rintro e w' ⟨rfl, hb'⟩
        have HB := Aside0.mk hb'
        clear hb' HCL HI eg
        go_wp2
        go_roundg (l0.length - (kk.toNat + 1))
        case measure => omega
        case rel => exact ⟨kk + 1, nx s y, by omega, by omega, by omega, by go_num, HB, ⟨HS'.out.trans (by simp only [Bool.false_eq_true, if_false]; rw [show (kk + 1).toNat = kk.toNat + 1 by omega])⟩⟩
    · clear HP eg
      have hd : l0.drop kk.toNat = [] := List.drop_eq_nil_of_le (by omega)
      have HS' := Aside0.mk (HS.out.trans (by rw [hd, scanIdx]))
      clear hd HS
      go_wp2
      go_ret
      rw [HS'.out]
      exact ⟨rfl, HI.out⟩
end Go.Proofs.YtpbhfpbfmpocdaaDoor.PSpillNone

-- HAND paling/spill.find rounds=0 making=1
namespace Go.Proofs.YtpbhfpbfmpocdaaDoor.PSpillNone
open Go.RowKit Go.Proofs.YtpbhfpbfmpocdaaDoorW.PrintWords Go.Proofs.YtpbhfpbfmpocdaaDoorW.PrintLast Go.Proofs.YtpbhfpbfmpocdaaDoorW.PrintMore
set_option linter.unusedVariables false
set_option linter.unusedSimpArgs false

theorem find1.calls (x0 x1 reg : Int) (B : Nat) (w : World) (hc : w.cell? ⟨B, 0, none⟩ = some (.int .i64 reg)) :
    Calls Tryd.prog 40 #[.agg #[.int .i64 x0, .int .i64 x1], .pointer (some ⟨B, 0, none⟩)] w fun e w' => e = .returned (.bool (x0 == reg)) ∧ Below w.heap.size w w' := by
  have hB := World.block_lt_of_cell? w _ hc
  go_enter Tryd.func40, Tryd.ntmps40
  go_wp2
  go_ret
  exact ⟨rfl, (Below.refl _ _).alloc (Nat.le_refl _) _⟩
def findIdx (l : List S45) (reg : Int) : Int := (scanIdx (σ := Unit) (fun _ x => x.f0 == reg) (fun _ _ => ()) () l 0).1
def spill_find.f (l0 : List S45) (a1 : Int) : Option Int := if l0.length ≤ 9223372036854775807 then some (findIdx l0 a1) else none
set_option maxHeartbeats 1000000 in
theorem spill_find.calls (A0 : Option Addr) (c0 : Nat) (l0 : List S45) (a1 : Int) (r : Int) (w : World) (hr0 : Kd.C k45 w A0 l0.length l0) (hc0 : l0.length ≤ c0) (h : spill_find.f l0 a1 = some r) :
    Calls Tryd.prog 25 #[.slice A0 l0.length c0, .int .i64 a1] w fun e w' => e = .returned (.int .i64 r) ∧ Below w.heap.size w w' := by
  unfold spill_find.f at h
  by_cases hl : l0.length ≤ 9223372036854775807
  · rw [if_pos hl] at h
    obtain rfl := Option.some.inj h
    have HR0 := Aside0.mk hr0
    clear hr0 h
    have hmf : ∀ (fn : Fn) (first cap : Array Value) (w : World), (Instr.makeFunc fn first cap).run Tryd.prog w = .ok (.func fn first cap) w := fun _ _ _ _ => rfl
    go_enter Tryd.func25, Tryd.ntmps25
    go_wp2_with fail
    have hcl := idxPlace.calls (σ := Unit) (fun _ x => x.f0 == a1) (fun _ _ => ()) (fun _ W => Below (w.heap.size + 1) (w.alloc (Obj.cells #[Value.int IntKind.i64 a1] 3)) W) #[.pointer (some ⟨w.heap.size, 0, none⟩)] 40 A0 c0 l0 () (w.alloc (Obj.cells #[Value.int IntKind.i64 a1] 3)) hl
      (enters_ Tryd.func40 (by kernel_rfl) rfl) (fun _ W hb => Kd.C_below HR0.out (below_step ((Below.refl _ _).alloc (Nat.le_refl _) _) (hb.mono (by simp)))) (Below.refl _ _) (fun _ x W hb => by
        have h1 := find1.calls x.f0 x.f1 a1 w.heap.size W ((hb.cell (p := ⟨w.heap.size, 0, none⟩) (by simp)).trans (by simp))
        refine Calls.mono (R := fun e w' => e = .returned (.bool (x.f0 == a1)) ∧ Below W.heap.size W w') h1 ?_
        rintro e w' ⟨rfl, hb'⟩
        exact ⟨rfl, hb.trans (hb'.mono (by have := hb.size; simpa using this))⟩)
    refine hcl.mono ?_
    rintro e w' ⟨rfl, hb'⟩
    have HB := Aside0.mk (below_step ((Below.refl _ _).alloc (Nat.le_refl _) _) (hb'.mono (by simp)) : Below w.heap.size w w')
    clear hb' hcl
    go_wp2
    go_ret
    exact ⟨rfl, HB.out⟩
  · rw [if_neg hl] at h
    exact absurd h (by simp)
end Go.Proofs.YtpbhfpbfmpocdaaDoor.PSpillNone
