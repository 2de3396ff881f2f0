import Derived.Test.YtianfjhhhhmjlaaDoorPLiveTellsx0
import Derived.Test.YtianfjhhhhmjlaaDoorPLiveTellshlenv
import Derived.Test.YtianfjhhhhmjlaaDoorPLiveTellshmaps
namespace Go.Proofs.YtianfjhhhhmjlaaDoor.PLiveTells
open Go.RowKit Go.Proofs.YtianfjhhhhmjlaaDoorW.PrintWords Go.Proofs.YtianfjhhhhmjlaaDoorW.PrintLast Go.Proofs.YtianfjhhhhmjlaaDoorW.PrintMore
set_option linter.unusedVariables false
set_option linter.unusedSimpArgs false
open Go.MapKept Go.RowKit
/-! live.Ranges: a map from registers to ranges, as a rising list. -/
def encR (x : S30) : Value := .agg #[.int .i64 x.f0, .int .i64 x.f1, .int .i64 x.f2]
def lkR (M : List S30) (i : Int) : Option S30 := M.find? (fun x => x.f0 == i)
def rv (M : List S30) : Int → Option Value := fun i => (lkR M i).map encR
def keyUp (M : List S30) : Prop := M.Pairwise (fun x y => x.f0 < y.f0)
def putR : List S30 → Int → Int → List S30
  | [], r, p => [⟨r, p, p⟩]
  | x :: M, r, p => if x.f0 < r then x :: putR M r p else if x.f0 = r then ⟨x.f0, x.f1, p⟩ :: M else ⟨r, p, p⟩ :: x :: M
def newR (M : List S30) (r p : Int) : S30 := match lkR M r with | some x => ⟨x.f0, x.f1, p⟩ | none => ⟨r, p, p⟩
def lastR (M : List S30) (b : List Int) (p : Int) : List S30 := M.map (fun x => if x.f0 ∈ b then ⟨x.f0, x.f1, p⟩ else x)
theorem lkR_cons (x : S30) (M : List S30) (i : Int) : lkR (x :: M) i = if x.f0 = i then some x else lkR M i := by
  unfold lkR
  rw [List.find?_cons]
  by_cases h : x.f0 = i
  · rw [if_pos h, show (x.f0 == i) = true by simpa using h]
  · rw [if_neg h, show (x.f0 == i) = false by simpa using h]
theorem lkR_key {M : List S30} {i : Int} {x : S30} (h : lkR M i = some x) : x.f0 = i ∧ x ∈ M := by
  unfold lkR at h
  exact ⟨by simpa using List.find?_some h, List.mem_of_find?_eq_some h⟩
theorem lkR_none {M : List S30} {i : Int} (h : ∀ x ∈ M, i < x.f0) : lkR M i = none := by
  unfold lkR
  rw [List.find?_eq_none]
  intro x hx
  have := h x hx
  simp; omega
theorem lkR_isSome {M : List S30} {i : Int} : (lkR M i).isSome = true ↔ i ∈ M.map (·.f0) := by
  unfold lkR
  rw [List.find?_isSome, List.mem_map]
  simp
theorem putR_spec (r p : Int) : ∀ M : List S30, keyUp M → keyUp (putR M r p) ∧ (∀ i, lkR (putR M r p) i = if i = r then some (newR M r p) else lkR M i) ∧ (∀ y ∈ putR M r p, y.f0 = r ∨ ∃ x ∈ M, x.f0 = y.f0)
  | [], _ => by
    refine ⟨by simp [putR, keyUp], fun i => ?_, by simp [putR]⟩
    simp only [putR, lkR_cons, newR]
    by_cases h : i = r
    · subst h; simp [lkR]
    · rw [if_neg (fun e => h e.symm), if_neg h]
  | x :: M, hp => by
    obtain ⟨p1, p2⟩ := List.pairwise_cons.1 hp
    obtain ⟨h1, h2, h3⟩ := putR_spec r p M p2
    unfold putR
    by_cases c1 : x.f0 < r
    · rw [if_pos c1]
      refine ⟨List.pairwise_cons.2 ⟨fun y hy => ?_, h1⟩, fun i => ?_, fun y hy => ?_⟩
      · rcases h3 y hy with e | ⟨z, hz, e⟩
        · omega
        · have := p1 z hz; omega
      · rw [lkR_cons, h2, lkR_cons]
        by_cases hi : i = r
        · subst hi
          rw [if_neg (by omega), if_pos rfl, if_pos rfl]
          unfold newR
          rw [lkR_cons, if_neg (by omega)]
        · rw [if_neg hi, if_neg hi]
      · rcases List.mem_cons.1 hy with rfl | hy
        · exact .inr ⟨y, by simp, rfl⟩
        · rcases h3 y hy with e | ⟨z, hz, e⟩
          · exact .inl e
          · exact .inr ⟨z, by simp [hz], e⟩
    · rw [if_neg c1]
      by_cases c2 : x.f0 = r
      · rw [if_pos c2]
        refine ⟨List.pairwise_cons.2 ⟨p1, p2⟩, fun i => ?_, fun y hy => ?_⟩
        · rw [lkR_cons, lkR_cons]
          by_cases hi : i = r
          · subst hi
            rw [if_pos c2, if_pos rfl]
            unfold newR
            rw [lkR_cons, if_pos c2]
          · rw [if_neg (show ¬ x.f0 = i by omega), if_neg hi, if_neg (show ¬ x.f0 = i by omega)]
        · rcases List.mem_cons.1 hy with rfl | hy
          · exact .inl c2
          · exact .inr ⟨y, by simp [hy], rfl⟩
      · rw [if_neg c2]
        refine ⟨List.pairwise_cons.2 ⟨fun y hy => ?_, hp⟩, fun i => ?_, fun y hy => ?_⟩
        · show r < y.f0
          rcases List.mem_cons.1 hy with rfl | hy
          · omega
          · have := p1 y hy; omega
        · rw [lkR_cons]
          by_cases hi : i = r
          · subst hi
            have hn : lkR (x :: M) i = none := lkR_none (fun y hy => by
              rcases List.mem_cons.1 hy with rfl | hy
              · omega
              · have := p1 y hy; omega)
            rw [if_pos rfl, if_pos rfl]
            unfold newR
            rw [hn]
          · rw [if_neg (fun e => hi e.symm), if_neg hi]
        · rcases List.mem_cons.1 hy with rfl | hy
          · exact .inl rfl
          · exact .inr ⟨y, by simpa using hy, rfl⟩
theorem newR_key (M : List S30) (r p : Int) : (newR M r p).f0 = r := by
  unfold newR
  cases h : lkR M r with
  | none => rfl
  | some x => exact (lkR_key h).1
def putAllR (M : List S30) (H : List Int) (p : Int) : List S30 := H.foldl (fun M r => putR M r p) M
theorem putAllR_spec (p : Int) : ∀ (H : List Int) (M : List S30), H.Nodup → keyUp M → keyUp (putAllR M H p) ∧ ∀ i, lkR (putAllR M H p) i = if i ∈ H then some (newR M i p) else lkR M i
  | [], M, _, h => ⟨h, by simp [putAllR]⟩
  | r :: H, M, hn, h => by
    obtain ⟨n1, n2⟩ := List.nodup_cons.1 hn
    obtain ⟨a, b, _⟩ := putR_spec r p M h
    obtain ⟨h1, h2⟩ := putAllR_spec p H (putR M r p) n2 a
    refine ⟨h1, fun i => ?_⟩
    show lkR (putAllR (putR M r p) H p) i = _
    rw [h2]
    by_cases hi : i ∈ H
    · have hir : i ≠ r := fun e => n1 (e ▸ hi)
      rw [if_pos hi, if_pos (List.mem_cons_of_mem _ hi)]
      unfold newR
      rw [b, if_neg hir]
    · rw [if_neg hi, b]
      by_cases hir : i = r
      · subst hir; rw [if_pos rfl, if_pos (by simp)]
      · rw [if_neg hir, if_neg (by simp [hir, hi])]
theorem lastR_spec (b : List Int) (p : Int) : ∀ M : List S30, keyUp M → keyUp (lastR M b p) ∧ ∀ i, lkR (lastR M b p) i = (lkR M i).map (fun x => if i ∈ b then ⟨x.f0, x.f1, p⟩ else x)
  | [], _ => ⟨by simp [lastR, keyUp], fun i => rfl⟩
  | x :: M, h => by
    obtain ⟨p1, p2⟩ := List.pairwise_cons.1 h
    obtain ⟨h1, h2⟩ := lastR_spec b p M p2
    have hk : ∀ y : S30, (if y.f0 ∈ b then (⟨y.f0, y.f1, p⟩ : S30) else y).f0 = y.f0 := fun y => by split <;> rfl
    refine ⟨?_, fun i => ?_⟩
    · show keyUp ((if x.f0 ∈ b then (⟨x.f0, x.f1, p⟩ : S30) else x) :: lastR M b p)
      refine List.pairwise_cons.2 ⟨fun y hy => ?_, h1⟩
      obtain ⟨z, hz, rfl⟩ := List.mem_map.1 hy
      rw [hk, hk]
      exact p1 z hz
    · show lkR ((if x.f0 ∈ b then (⟨x.f0, x.f1, p⟩ : S30) else x) :: lastR M b p) i = _
      rw [lkR_cons, hk, h2, lkR_cons]
      by_cases hi : x.f0 = i
      · subst hi; rw [if_pos rfl, if_pos rfl]; rfl
      · rw [if_neg hi, if_neg hi]
theorem keyUp_nodup {M : List S30} (h : keyUp M) : (M.map (·.f0)).Pairwise (· < ·) := List.pairwise_map.2 h
/-- how many keys -/
theorem IM.ranged {w : World} {b n : Nat} {f : Int → Option Value} (h : IM w b f n) {M : List S30} (hk : keyUp M) (hf : ∀ i, f i = rv M i) : IM w b (rv M) M.length := by
  refine h.congr hf ?_
  have := h.count (L := M.map (·.f0)) (up_nodup (keyUp_nodup hk)) (fun i => by rw [hf, rv, Option.isSome_map, lkR_isSome])
  rw [this, List.length_map]
end Go.Proofs.YtianfjhhhhmjlaaDoor.PLiveTells
