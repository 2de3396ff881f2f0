import Derived.Test.YtoncneglplglhaaDoorPGraphLoopsx0
import Derived.Test.YtoncneglplglhaaDoorPGraphLoopshgnext
import Derived.Test.YtoncneglplglhaaDoorPGraphLoopshway
import Derived.Test.YtoncneglplglhaaDoorShelf
import Derived.Lib.OwnBridge
import Derived.OneCell
import Derived.Deep.QuietTactic
import Derived.BigQuiet
namespace Go.Proofs.YtoncneglplglhaaDoor.PGraphLoops
open Go.RowKit Go.Proofs.YtoncneglplglhaaDoorW.PrintWords Go.Proofs.YtoncneglplglhaaDoorW.PrintLast Go.Proofs.YtoncneglplglhaaDoorW.PrintMore
set_option linter.unusedVariables false
set_option linter.unusedSimpArgs false
open Go.Shelf Go.Sort
/-! Loops' parts: a row of rows is read; DeleteFunc over places; the two closures. -/
theorem rows_at {α : Type} {d : Kd α} {e : Nat} {W : World} {n : Nat} {P : List (List α)} {Ap : Option Addr} (h : (Kd.slice e d).C W Ap n P) (hl : P.length = n) {i : Int} (h0 : 0 ≤ i) (h1 : i < (n : Int)) :
    ∃ (ad : Addr) (A : Option Addr) (c : Nat), Ap = some ad ∧ W.cell? (ad.add i.toNat) = some (.slice A (P.getD i.toNat []).length c) ∧ (P.getD i.toNat []).length ≤ c ∧ d.C W A (P.getD i.toNat []).length (P.getD i.toNat []) := by
  have hpos : 0 < n := by omega
  obtain ⟨ad, e1, hcell⟩ := h.2.2 hpos
  have hi : i.toNat < P.length := by omega
  obtain ⟨cs, hc1, ⟨A, c, rfl, hle, hC⟩, hc3⟩ := hcell i.toNat P[i.toNat] (List.getElem?_eq_getElem hi)
  have e2 : P.getD i.toNat [] = P[i.toNat] := by rw [List.getD_eq_getElem?_getD, List.getElem?_eq_getElem hi]; rfl
  rw [e2]
  refine ⟨ad, A, c, e1, ?_, hle, hC⟩
  have := hc3 0 _ rfl
  rw [Nat.add_zero, show (Kd.slice e d).sz = 1 from rfl, Nat.mul_one] at this
  exact this
set_option maxHeartbeats 1000000 in
theorem gdelete_nil' (fv : Value) (w : World) : Calls Tryd.prog 29 #[.slice none 0 0, fv] w fun e w' => e = .returned (.slice none 0 0) ∧ Below w.heap.size w w' := by
  have hcon := fun W => Tryd.slices_IndexFunc_empty (α := Int) none 0 fv W
  go_enter Tryd.func29, Tryd.ntmps29
  go_wp2_with (go_at_call 37; refine (hcon _).mono ?_; rintro e w' ⟨rfl, rfl⟩)
  go_ret
  exact ⟨rfl, Below.refl _ _⟩
theorem fin_filter {n : Nat} (hn : 0 < n) (p : Int → Bool) : ∀ (L : List Int), (∀ x ∈ L, 0 ≤ x ∧ x < (n : Int)) → ((L.map fun x => (⟨x.toNat % n, Nat.mod_lt _ hn⟩ : Fin n)).filter fun x => !p (x.val : Int)).map (fun x => (x.val : Int)) = L.filter fun x => !p x
  | [], _ => rfl
  | x :: L, h => by
    have hx := h x (by simp)
    have hz : (((⟨x.toNat % n, Nat.mod_lt _ hn⟩ : Fin n).val : Nat) : Int) = x := by
      show ((x.toNat % n : Nat) : Int) = x
      rw [Nat.mod_eq_of_lt (by omega)]; omega
    have ih := fin_filter hn p L (fun y hy => h y (List.mem_cons_of_mem _ hy))
    rw [List.map_cons, List.filter_cons, List.filter_cons, hz]
    by_cases hp : (!p x) = true
    · rw [if_pos hp, if_pos hp, List.map_cons, hz, ih]
    · rw [if_neg hp, if_neg hp, ih]
theorem fin_map {n : Nat} (hn : 0 < n) : ∀ (L : List Int), (∀ x ∈ L, 0 ≤ x ∧ x < (n : Int)) → (L.map fun x => (⟨x.toNat % n, Nat.mod_lt _ hn⟩ : Fin n)).map (fun x => (x.val : Int)) = L := fun L h => by
  have h1 := fin_filter hn (fun _ => false) L h
  have h2 : ∀ {β : Type} (l : List β), l.filter (fun _ => !false) = l := fun l => List.filter_eq_self.2 (fun _ _ => rfl)
  rw [h2, h2] at h1
  exact h1
set_option maxHeartbeats 2000000 in
theorem gdelete_any (g : Nat) (lb : Array Value) (eg : ∀ args w, (callFunc g args).run Tryd.prog w = .ok (.enter g args) w) (p : Int → Bool) (n base : Nat) (hn : 0 < n) (L : List Int) (hL : ∀ x ∈ L, 0 ≤ x ∧ x < (n : Int)) (v : Value) (W : World) (hb : base ≤ W.heap.size)
    (hR : Kd.R (Kd.int .i64) 3 W base (fun _ => True) v L)
    (hp : ∀ W' x, (∀ b, b < base → W'.heap[b]? = W.heap[b]?) → 0 ≤ x → x < (n : Int) → FnGives Tryd.prog g lb #[.int .i64 x] (.bool (p x)) W') :
    Calls Tryd.prog 29 #[v, .func (.func g) #[] lb] W fun e w' => ∃ v' : Value, e = .returned v' ∧ Kd.R (Kd.int .i64) 3 w' base (fun _ => True) v' (L.filter fun x => !p x) ∧ Below base W w' := by
  have hown := Kd.own_of_R hR
  by_cases hv : v = .slice none 0 0
  · subst hv
    have hl : L = [] := by
      rcases hown.2 with ⟨_, h0⟩ | ⟨g, cap, cur, e0, _⟩
      · exact List.eq_nil_of_length_eq_zero h0
      · cases e0
    subst hl
    refine (gdelete_nil' _ W).mono ?_
    rintro e w' ⟨rfl, hb'⟩
    exact ⟨_, rfl, Kd.R_nil _ _ _ _ _, hb'.mono hb⟩
  · haveI : Inhabited (Fin n) := ⟨⟨0, hn⟩⟩
    obtain ⟨F, hF⟩ : ∃ F : List (Fin n), F = L.map fun x => ⟨x.toNat % n, Nat.mod_lt _ hn⟩ := ⟨_, rfl⟩
    have hFL : F.length = L.length := by rw [hF, List.length_map]
    have hFm : F.map (fun x => (x.val : Int)) = L := by rw [hF]; exact fin_map hn L hL
    have hFf : (F.filter fun x => !p (x.val : Int)).map (fun x => (x.val : Int)) = L.filter fun x => !p x := by rw [hF]; exact fin_filter hn p L hL
    have hen : encs (Value.int .i64) L = F.map (fun x => Value.int .i64 (x.val : Int)) := by rw [← hFm]; unfold encs; rw [List.map_map]; rfl
    rw [hen] at hown
    obtain ⟨gb, cap, rfl, hg, hlt1, hn1, hm, hl, hH⟩ := Lib.holds_of_ownsRow hown hv
    obtain ⟨G, hG⟩ : ∃ G, G = F.filter (fun x => !p (x.val : Int)) := ⟨_, rfl⟩
    have hGl : G.length ≤ F.length := by rw [hG]; exact List.length_filter_le _ _
    have c1 := Tryd.slices_DeleteFunc (fun x : Fin n => Value.int .i64 (x.val : Int)) (fun _ => rfl) (fun x => p (x.val : Int)) g lb eg ⟨0, hn⟩ Tryd.zeroValue3 gb 0 cap F.toArray W
      (fun W' x hbb => hp W' _ (fun b hb' => hbb.block b (by omega)) (by omega) (by have := x.isLt; omega))
      (fun m os dk x hs => hp _ _ (fun b hb' => sw_other dk (by omega) (by omega)) (by omega) (by have := x.isLt; omega)) hH (by unfold maxLen at hm; simp; omega) (by simp; omega)
    simp only [List.size_toArray, List.toList_toArray] at c1
    rw [← hG, hFL] at c1
    refine c1.mono ?_
    rintro e w2 ⟨rfl, q, hw⟩
    have o1 := Lib.ownsRow_putRow (q := q) (k := G.length) (ys := G ++ List.replicate (F.length - G.length) (⟨0, hn⟩ : Fin n)) hown (by simp; omega) (by omega)
    have b1 := Lib.below_putRow (enc := fun x : Fin n => Value.int .i64 (x.val : Int)) (q := q) (d := (G ++ List.replicate (F.length - G.length) (⟨0, hn⟩ : Fin n)).toArray) (Below.refl base W) hg
    rw [hFL] at o1 b1
    rw [← hw] at o1 b1
    refine ⟨_, rfl, ?_, b1⟩
    rw [← hFf, ← hG]
    refine Kd.R_of_own ?_ (fun _ _ => trivial)
    rw [List.length_map]
    have e3 : (G ++ List.replicate (L.length - G.length) (⟨0, hn⟩ : Fin n)).take G.length = G := by simp
    rw [e3] at o1
    have e4 : encs (Value.int .i64) (G.map (fun x => (x.val : Int))) = G.map (fun x => Value.int .i64 (x.val : Int)) := by unfold encs; rw [List.map_map]; rfl
    rw [e4]
    exact o1
set_option maxHeartbeats 2000000 in
theorem loops1.calls (W : World) (n B4 B6 : Nat) (Aa : Option Addr) (ca : Nat) (R : List (List Bool)) (p k : Int) (h : (Kd.slice 4 Kd.bool).C W Aa n R) (hs : Sq n R) (h4 : W.heap[B4]? = some (.cells #[.slice Aa n ca] 31 (0, 0))) (h6 : W.heap[B6]? = some (.cells #[.int .i64 k] 3 (0, 0))) (p0 : 0 ≤ p) (p1 : p < (n : Int)) (k0 : 0 ≤ k) (k1 : k < (n : Int)) :
    Calls Tryd.prog 31 #[.int .i64 p, .pointer (some ⟨B4, 0, none⟩), .pointer (some ⟨B6, 0, none⟩)] W fun e w' => e = .returned (.bool !val R p k) ∧ ∃ q, w' = W.drewN q := by
  obtain ⟨ad, A, c, rfl, c1, hle, hC⟩ := rows_at h hs.1 p0 p1
  have hlen : (R.getD p.toNat []).length = n := sq_row hs p0 p1
  rw [hlen] at c1 hle
  obtain ⟨ad2, rfl, c2⟩ := Kd.at_bool hC k k0 (by rw [hlen]; exact k1)
  have e2 : rdOf false (R.getD p.toNat []) k = val R p k := rfl
  rw [e2] at c2
  have c5 : W.cell? ⟨B4, 0, none⟩ = some (.slice (some ad) n ca) := cell_of_one h4
  have c6 : W.cell? ⟨B6, 0, none⟩ = some (.int .i64 k) := cell_of_one h6
  clear h h4 h6 hC hlen e2 hs
  go_enter Tryd.func31, Tryd.ntmps31
  go_wp2_with fail
  go_quiet (fail)
  go_wp2_with fail
  go_ret
  exact ⟨rfl, _, rfl⟩
/-- steps back, not beyond the loop's beginning -/
def stepsB (P : List (List Int)) (h : Int) (a : Int) : Option (List Int) := if a = h then some [] else if 0 ≤ a ∧ a < (P.length : Int) then some (P.getD a.toNat []) else none
set_option maxHeartbeats 2000000 in
theorem loops2.calls (W : World) (n B3 B6 : Nat) (Ap : Option Addr) (cp : Nat) (P : List (List Int)) (a k : Int) (r : List Int) (hr : stepsB P k a = some r) (h : (Kd.slice 3 (Kd.int .i64)).C W Ap n P) (hl : P.length = n) (h3 : W.heap[B3]? = some (.cells #[.slice Ap n cp] 28 (0, 0))) (h6 : W.heap[B6]? = some (.cells #[.int .i64 k] 3 (0, 0))) :
    Calls Tryd.prog 32 #[.int .i64 a, .pointer (some ⟨B6, 0, none⟩), .pointer (some ⟨B3, 0, none⟩)] W fun e W' => ∃ (A : Option Addr) (c : Nat), e = .returned (.slice A r.length c) ∧ (Kd.int .i64).C W' A r.length r ∧ Below W.heap.size W W' := by
  have c3 : W.cell? ⟨B3, 0, none⟩ = some (.slice Ap n cp) := cell_of_one h3
  have c6 : W.cell? ⟨B6, 0, none⟩ = some (.int .i64 k) := cell_of_one h6
  unfold stepsB at hr
  by_cases e : a = k
  · rw [if_pos e] at hr
    obtain rfl := Option.some.inj hr
    subst e
    clear hr h h3 h6
    go_enter Tryd.func32, Tryd.ntmps32
    go_wp2_with fail
    go_ret
    exact ⟨none, 0, rfl, Kd.C_nil _ _, Below.refl _ _⟩
  · rw [if_neg e] at hr
    by_cases hi : 0 ≤ a ∧ a < (P.length : Int)
    case neg => rw [if_neg hi] at hr; exact absurd hr (by simp)
    rw [if_pos hi] at hr
    obtain ⟨ad, A, c, rfl, c1, hle, hC⟩ := rows_at h hl hi.1 (by omega)
    rw [Option.some.inj hr] at c1 hle hC
    obtain ⟨a0, a1⟩ := hi
    rw [hl] at a1
    have HC := Aside0.mk hC
    clear hr h h3 h6 hC hl
    have hne : ((a : Int) == k) = false := by simpa using e
    go_enter Tryd.func32, Tryd.ntmps32
    go_wp2_with fail
    go_ret
    exact ⟨A, c, rfl, HC.out, Below.refl _ _⟩
end Go.Proofs.YtoncneglplglhaaDoor.PGraphLoops
