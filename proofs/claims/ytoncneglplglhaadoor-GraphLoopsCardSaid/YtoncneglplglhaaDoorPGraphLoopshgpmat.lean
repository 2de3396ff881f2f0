import Derived.Test.YtoncneglplglhaaDoorPGraphLoopsx0
import Derived.Test.YtoncneglplglhaaDoorPGraphLoopshgmat
import Derived.OneCell
import Derived.Laws.MakeOwn
import Derived.Deep.OwnRows
namespace Go.Proofs.YtoncneglplglhaaDoor.PGraphLoops
open Go.RowKit Go.Proofs.YtoncneglplglhaaDoorW.PrintWords Go.Proofs.YtoncneglplglhaaDoorW.PrintLast Go.Proofs.YtoncneglplglhaaDoorW.PrintMore
set_option linter.unusedVariables false
set_option linter.unusedSimpArgs false
/-! A square table while its rows are being made. -/
def nilRowV : Value := .slice none 0 0
structure PMat (W : World) (g : Nat) (gs : List Nat) (n : Nat) (R : List (List Bool)) : Prop where
  le : gs.length ≤ n
  len : R.length = gs.length
  sq : ∀ r ∈ R, r.length = n
  nd : gs.Nodup
  top : W.heap[g]? = some (.cells ((gs.map (rowV n) ++ List.replicate (n - gs.length) nilRowV).toArray) 25 (0, 0))
  row : ∀ (i : Nat) (b : Nat), gs[i]? = some b → W.heap[b]? = some (.cells (((R.getD i []).map Value.bool).toArray) 4 (0, 0))
section
variable {W W' : World} {g n : Nat} {gs : List Nat} {R : List (List Bool)}
theorem PMat.move (h : PMat W g gs n R) (hm : ∀ b, b = g ∨ b ∈ gs → W'.heap[b]? = W.heap[b]?) : PMat W' g gs n R :=
  ⟨h.le, h.len, h.sq, h.nd, (hm g (.inl rfl)).trans h.top, fun i b hb => (hm b (.inr (List.mem_of_getElem? hb))).trans (h.row i b hb)⟩
theorem PMat.lt (h : PMat W g gs n R) : ∀ b, b = g ∨ b ∈ gs → b < W.heap.size := by
  intro b hb
  rcases hb with rfl | hb
  · exact blk_lt h.top
  · obtain ⟨i, hi, he⟩ := List.mem_iff_getElem.1 hb
    exact blk_lt (h.row i b (by rw [List.getElem?_eq_getElem hi, he]))
theorem PMat.below (h : PMat W g gs n R) (hb : Below W.heap.size W W') : PMat W' g gs n R := h.move (fun b hbb => hb.block b (h.lt b hbb))
theorem PMat.ne (h : PMat W g gs n R) {b B : Nat} (hb : b ∈ gs) {t : TypeId} {cs : Array Value} (hB : W.heap[B]? = some (.cells cs t (0, 0))) (ht : 4 ≠ t) : b ≠ B := by
  obtain ⟨i, hi, he⟩ := List.mem_iff_getElem.1 hb
  exact blk_ne (h.row i b (by rw [List.getElem?_eq_getElem hi, he])) hB ht
theorem PMat.start (hg : W.heap[g]? = some (.cells ((List.replicate n nilRowV).toArray) 25 (0, 0))) : PMat W g [] n [] :=
  ⟨Nat.zero_le _, rfl, fun _ h => absurd h (by simp), List.nodup_nil, by simpa using hg, fun i b h => absurd h (by simp)⟩
theorem PMat.done (h : PMat W g gs n R) (hl : gs.length = n) : Mat W g gs n R :=
  ⟨hl, ⟨h.len.trans hl, h.sq⟩, h.nd, by have := h.top; rw [hl, Nat.sub_self] at this; simpa using this, h.row⟩
theorem set_here {α : Type} (xs : List α) (d : Nat) (z v : α) : (xs ++ List.replicate (d + 1) z).set xs.length v = xs ++ [v] ++ List.replicate d z := by
  simp [List.replicate_succ, List.set_append]
theorem PMat.at (h : PMat W g gs n R) (hl : gs.length < n) : W.cell? ⟨g, gs.length, none⟩ = some nilRowV ∧ W.frozen? ⟨g, gs.length, none⟩ = false := by
  refine ⟨?_, blk_frozen h.top _⟩
  rw [blk_cell h.top]
  obtain ⟨d, hd⟩ : ∃ d, n - gs.length = d + 1 := ⟨n - gs.length - 1, by omega⟩
  rw [hd]
  simp [List.getElem?_append, List.replicate_succ]
theorem PMat.push (h : PMat W g gs n R) (hl : gs.length < n) {cs : Array Value} (hcs : cs = ((List.replicate n false).map Value.bool).toArray) {W' : World} (hh : W'.heap = ((W.alloc (.cells cs 4 (0, 0))).setCell ⟨g, gs.length, none⟩ (rowV n W.heap.size)).heap) :
    PMat W' g (gs ++ [W.heap.size]) n (R ++ [List.replicate n false]) := by
  have hnew : W.heap.size ∉ gs := fun hm => absurd (h.lt _ (.inr hm)) (Nat.lt_irrefl _)
  have hgl := h.lt g (.inl rfl)
  refine ⟨by simp; omega, by simp [h.len], fun r hr => ?_, ?_, ?_, fun i b hb => ?_⟩
  · rcases List.mem_append.1 hr with hr | hr
    · exact h.sq r hr
    · rw [List.mem_singleton.1 hr]; simp
  · rw [List.nodup_append]
    exact ⟨h.nd, by simp, fun a ha b hb => by rw [List.mem_singleton.1 hb]; intro e; exact hnew (e ▸ ha)⟩
  · rw [hh]
    have h1 := blk_set (blk_alloc h.top (.cells cs 4 (0, 0))) gs.length (rowV n W.heap.size)
    rw [h1]
    congr 2
    obtain ⟨d, hd⟩ : ∃ d, n - gs.length = d + 1 := ⟨n - gs.length - 1, by omega⟩
    have hd2 : n - (gs ++ [W.heap.size]).length = d := by simp; omega
    rw [hd, hd2]
    have := set_here (gs.map (rowV n)) d nilRowV (rowV n W.heap.size)
    rw [List.length_map] at this
    simp only [List.setIfInBounds_toArray, List.map_append, List.map_cons, List.map_nil]
    rw [this]
  · rw [hh]
    by_cases hi : i < gs.length
    · rw [List.getElem?_append_left hi] at hb
      have hm := List.mem_of_getElem? hb
      have e1 : (R ++ [List.replicate n false]).getD i [] = R.getD i [] := by
        simp only [List.getD_eq_getElem?_getD]
        rw [List.getElem?_append_left (by rw [h.len]; exact hi)]
      rw [e1]
      exact blk_far (blk_alloc (h.row i b hb) _) (h.ne hm h.top (by decide)) _
    · have hi2 : i = gs.length := by
        have := (List.getElem?_eq_some_iff.1 hb).1
        simp at this; omega
      subst hi2
      have hb2 : b = W.heap.size := by simpa using hb.symm
      subst hb2
      have e1 : (R ++ [List.replicate n false]).getD gs.length [] = List.replicate n false := by
        rw [List.getD_eq_getElem?_getD, ← h.len]; simp
      rw [e1]
      have h1 := blk_far (blk_new W (.cells cs 4 (0, 0))) (p := ⟨g, gs.length, none⟩) (by show W.heap.size ≠ g; omega) (rowV n W.heap.size)
      rw [← hcs]
      exact h1
variable {gs0 : List Nat} {R0 : List (List Bool)} {r : List Bool} {b : Nat}
theorem PMat.last (h : PMat W g (gs0 ++ [b]) n (R0 ++ [r])) : W.cell? ⟨g, gs0.length, none⟩ = some (rowV n b) := by
  rw [blk_cell h.top]
  simp [List.getElem?_append]
theorem PMat.lastrow (h : PMat W g (gs0 ++ [b]) n (R0 ++ [r])) : W.heap[b]? = some (.cells ((r.map Value.bool).toArray) 4 (0, 0)) := by
  have := h.row gs0.length b (by simp)
  have hl : R0.length = gs0.length := by have := h.len; simpa using this
  have e : (R0 ++ [r]).getD gs0.length [] = r := by rw [List.getD_eq_getElem?_getD, ← hl]; simp
  rw [e] at this
  exact this
theorem PMat.lastcell (h : PMat W g (gs0 ++ [b]) n (R0 ++ [r])) {k : Nat} (hk : k < n) : (∃ v, W.cell? ⟨b, k, none⟩ = some (.bool v)) ∧ W.frozen? ⟨b, k, none⟩ = false := by
  have hr : r.length = n := h.sq r (by simp)
  refine ⟨⟨r[k]'(by omega), ?_⟩, blk_frozen h.lastrow _⟩
  rw [blk_cell h.lastrow]
  simp [hr, hk]
theorem PMat.put (h : PMat W g (gs0 ++ [b]) n (R0 ++ [r])) {k : Nat} {v : Bool} {W' : World} (hh : W'.heap = (W.setCell ⟨b, k, none⟩ (.bool v)).heap) : PMat W' g (gs0 ++ [b]) n (R0 ++ [r.set k v]) := by
  have hl : R0.length = gs0.length := by have := h.len; simpa using this
  have hbg : b ≠ g := h.ne (by simp) h.top (by decide)
  refine ⟨h.le, by simp [hl], fun x hx => ?_, h.nd, ?_, fun i c hc => ?_⟩
  · rcases List.mem_append.1 hx with hx | hx
    · exact h.sq x (List.mem_append_left _ hx)
    · rw [List.mem_singleton.1 hx, List.length_set]; exact h.sq r (by simp)
  · rw [hh]; exact blk_far h.top (fun e => hbg e.symm) _
  · rw [hh]
    by_cases hi : i < gs0.length
    · have e1 : (R0 ++ [r.set k v]).getD i [] = (R0 ++ [r]).getD i [] := by
        simp only [List.getD_eq_getElem?_getD]
        rw [List.getElem?_append_left (by omega), List.getElem?_append_left (by omega)]
      rw [e1]
      refine blk_far (h.row i c hc) (fun e => ?_) _
      have e2 := nodup_same h.nd (i := i) (j := gs0.length) (by simp; omega) (by simp) (by
        have := (List.getElem?_eq_some_iff.1 hc).2
        rw [this, e]; simp)
      omega
    · have hi2 : i = gs0.length := by
        have := (List.getElem?_eq_some_iff.1 hc).1
        simp at this; omega
      subst hi2
      have hc2 : c = b := by simpa using hc.symm
      subst hc2
      have e : (R0 ++ [r.set k v]).getD gs0.length [] = r.set k v := by rw [List.getD_eq_getElem?_getD, ← hl]; simp
      rw [e, blk_set h.lastrow k (.bool v)]
      simp [List.map_set]
end
theorem Mat.S {W : World} {g n base : Nat} {gs : List Nat} {R : List (List Bool)} (h : Mat W g gs n R) (hg : base ≤ g) (hgs : ∀ b ∈ gs, base ≤ b) (hn : n ≤ 1000000) :
    Kd.S (Kd.slice 4 Kd.bool) 25 W base (fun _ => True) (.slice (some ⟨g, 0, none⟩) n n) R := by
  refine ⟨fun b => gs.idxOf b, fun _ _ => trivial, gs.map (rowV n), ⟨by simp [h.len, h.sq.1, Kd.slice, Kd.tag], .inr ⟨g, n, _, by simp [h.sq.1], hg, h.top, by simp [h.sq.1], by unfold maxLen; omega, by simp [h.len, Kd.slice, Kd.tag], by simp [h.len, h.sq.1, Kd.slice, Kd.tag]; rw [List.take_of_length_le (by simp [h.len])]⟩⟩, by simp [h.len, h.sq.1, Kd.slice, Kd.tag], fun j p hj => ?_⟩
  rw [List.getElem?_zipIdx, Nat.zero_add] at hj
  obtain ⟨x, hx, rfl⟩ := Option.map_eq_some_iff.1 hj
  have hjl : j < R.length := (List.getElem?_eq_some_iff.1 hx).1
  have hjg : j < gs.length := by have := h.sq.1; have := h.len; omega
  have hgj : gs[j]? = some gs[j] := List.getElem?_eq_getElem hjg
  have hxl : x.length = n := h.sq.2 x (List.mem_of_getElem? hx)
  have hrow := h.row j gs[j] hgj
  have hxe : R.getD j [] = x := by rw [List.getD_eq_getElem?_getD, hx]; rfl
  rw [hxe] at hrow
  have hm : gs[j] ∈ gs := List.getElem_mem hjg
  have hidx : gs.idxOf gs[j] = j := nodup_same h.nd (List.idxOf_lt_length_of_mem hm) hjg (List.getElem_idxOf _)
  refine ⟨rowV n gs[j], ?_, Kd.R_of_own (enc := Value.bool) (h1 := fun _ => rfl) ⟨by simp [encs], .inr ⟨gs[j], n, _, by simp [rowV, hxl], hgs _ hm, hrow, Nat.le_of_eq hxl, by unfold maxLen; omega, by simp [hxl], by simp [encs, hxl]; rw [List.take_of_length_le (by simp [hxl])]⟩⟩ (fun k hk => ?_)⟩
  · rw [show (Kd.tag (fun b => gs.idxOf b) (Kd.slice 4 Kd.bool)).sz = 1 from rfl, Nat.mul_one, List.drop_eq_getElem_cons (by simp; exact hjg)]
    simp
  · have : k = gs[j] := (Option.some.inj hk).symm
    subst this
    exact ⟨⟨trivial, fun e => h.ne hm h.top (by decide) (Option.some.inj e)⟩, hidx⟩
end Go.Proofs.YtoncneglplglhaaDoor.PGraphLoops
