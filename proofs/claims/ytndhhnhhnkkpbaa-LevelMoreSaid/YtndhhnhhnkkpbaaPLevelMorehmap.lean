import Derived.Test.YtndhhnhhnkkpbaaPLevelMorex0
import Derived.WalkKit
import Derived.Maps.RangeRun
import Derived.Maps.OwnSet
import Derived.Carry
import Derived.Lib.SlKeysI
import Derived.Below
namespace Go.Proofs.Ytndhhnhhnkkpbaa.PLevelMore
open Go.RowKit Go.Proofs.YtndhhnhhnkkpbaaW.PrintWords Go.Proofs.YtndhhnhhnkkpbaaW.PrintLast Go.Proofs.YtndhhnhhnkkpbaaW.PrintMore
set_option linter.unusedVariables false
set_option linter.unusedSimpArgs false
open Go.MapKept Go.RowKit
open Go.ChangeMaps (setBlock)

/-- Block b is a map from ints (of n entries) that has just what f says. -/
def IM (w : World) (b : Nat) (f : Int → Option Value) (n : Nat) : Prop :=
  ∃ es clock, w.heap[b]? = some (.map es clock) ∧ Stamped es clock ∧ es.size = n ∧
    (∀ e ∈ es.toList, ∃ i, e.key = .int .i64 i) ∧ (∀ i v, f i = some v ↔ ∃ e ∈ es.toList, e.key = .int .i64 i ∧ e.val = v)

def upd {α : Type} (f : Int → Option α) (i : Int) (v : α) : Int → Option α := fun j => if j = i then some v else f j
def del {α : Type} (f : Int → Option α) (i : Int) : Int → Option α := fun j => if j = i then none else f j

section
variable {w w1 : World} {b n : Nat} {f : Int → Option Value} {P : Program}

theorem IM.lt (h : IM w b f n) : b < w.heap.size := by
  obtain ⟨es, clock, hb, _⟩ := h
  exact (Array.getElem?_eq_some_iff.1 hb).1
theorem IM.move (h : IM w b f n) (hm : w1.heap[b]? = w.heap[b]?) : IM w1 b f n := by
  obtain ⟨es, clock, hb, r⟩ := h
  exact ⟨es, clock, hm.trans hb, r⟩
theorem IM.below {B : Nat} (h : IM w b f n) (hb : Below B w w1) (hB : b < B) : IM w1 b f n := h.move (hb.block b hB)
theorem IM.congr {g : Int → Option Value} {m : Nat} (h : IM w b f n) (hg : ∀ i, f i = g i) (hm : n = m) : IM w b g m := by
  subst hm
  obtain rfl : f = g := funext hg
  exact h
theorem IM.made (w : World) : IM (w.alloc (.map #[] 0)) w.heap.size (fun _ => none) 0 :=
  ⟨#[], 0, heap_alloc_new w _, stamped_empty 0, rfl, by simp, by simp⟩

theorem keys_kind {es : Array MapEntry} (hk : ∀ e ∈ es.toList, ∃ i, e.key = .int .i64 i) : ∀ e ∈ es.toList, IsKey (.int .i64) e.key := fun e he => by
  obtain ⟨i, hi⟩ := hk e he
  rw [hi]; rfl
/-- two entries at one key are one -/
theorem one_at {es : Array MapEntry} {clock : Nat} (hs : Stamped es clock) {e e' : MapEntry} (he : e ∈ es.toList) (he' : e' ∈ es.toList) (h : e.key = e'.key) : e = e' := by
  have hp := ((stamped_iff es clock).1 hs).2.2
  obtain ⟨i, hi, rfl⟩ := List.mem_iff_getElem.1 he
  obtain ⟨j, hj, rfl⟩ := List.mem_iff_getElem.1 he'
  rcases Nat.lt_trichotomy i j with hlt | rfl | hlt
  · exact absurd h (List.pairwise_iff_getElem.1 hp i j hi hj hlt)
  · rfl
  · exact absurd h.symm (List.pairwise_iff_getElem.1 hp j i hj hi hlt)

theorem find_either {kt : TypeId} (hd : P.underlying kt = some (.int .i64)) {es : Array MapEntry} {clock : Nat} (hs : Stamped es clock) (hk : ∀ e ∈ es.toList, ∃ i, e.key = .int .i64 i)
    (hf : ∀ i v, f i = some v ↔ ∃ e ∈ es.toList, e.key = .int .i64 i ∧ e.val = v) (i : Int) :
    (f i = none ∧ (Instr.findKey kt (.int .i64 i) es.toList).run P w = .ok none w ∧ ∀ e ∈ es.toList, e.key ≠ .int .i64 i) ∨
    ∃ j e, f i = some e.val ∧ (Instr.findKey kt (.int .i64 i) es.toList).run P w = .ok (some (j, e.val)) w ∧ es.toList[j]? = some e ∧ e.key = .int .i64 i := by
  rcases findNow_spec (d := .int .i64) (k := .int .i64 i) rfl es.toList 0 (keys_kind hk) with ⟨h1, h2⟩ | ⟨j, e0, h1, h2, h3⟩
  · refine .inl ⟨?_, run_findKey hd h1, h2⟩
    cases hfi : f i with
    | none => rfl
    | some v =>
      obtain ⟨e, he, hke, _⟩ := (hf i v).1 hfi
      exact absurd hke (h2 e he)
  · exact .inr ⟨j, e0, (hf i _).2 ⟨e0, List.mem_of_getElem? h2, h3, rfl⟩, by simpa using run_findKey hd h1, h2, h3⟩

/-- 'm[i]' -/
theorem IM.lookup {t kt et : TypeId} (h : IM w b f n) (ht : P.underlying t = some (.map kt et)) (hd : P.underlying kt = some (.int .i64)) {z : Value} (hz : (zeroValue et).run P w = .ok z w) (i : Int) :
    (Instr.lookup t (.map (some b)) (.int .i64 i) false).run P w = .ok ((f i).getD z) w := by
  obtain ⟨es, clock, hb, hs, hn, hk, hf⟩ := h
  rcases find_either (w := w) hd hs hk hf i with ⟨h0, h1, _⟩ | ⟨j, e, h0, h1, _⟩
  · simp [Instr.lookup, run_underlying ht, MapKept.run_getObj_map hb, run_checkKey hd (k := .int .i64 i) rfl, h1, h0, hz, Result.andThen]
  · simp [Instr.lookup, run_underlying ht, MapKept.run_getObj_map hb, run_checkKey hd (k := .int .i64 i) rfl, h1, h0, Result.andThen]
/-- 'v, ok := m[i]' -/
theorem IM.lookup_ok {t kt et : TypeId} (h : IM w b f n) (ht : P.underlying t = some (.map kt et)) (hd : P.underlying kt = some (.int .i64)) {z : Value} (hz : (zeroValue et).run P w = .ok z w) (i : Int) :
    (Instr.lookup t (.map (some b)) (.int .i64 i) true).run P w = .ok (.tuple #[(f i).getD z, .bool (f i).isSome]) w := by
  obtain ⟨es, clock, hb, hs, hn, hk, hf⟩ := h
  rcases find_either (w := w) hd hs hk hf i with ⟨h0, h1, _⟩ | ⟨j, e, h0, h1, _⟩
  · simp [Instr.lookup, run_underlying ht, MapKept.run_getObj_map hb, run_checkKey hd (k := .int .i64 i) rfl, h1, h0, hz, Result.andThen]
  · simp [Instr.lookup, run_underlying ht, MapKept.run_getObj_map hb, run_checkKey hd (k := .int .i64 i) rfl, h1, h0, Result.andThen]
theorem lookup_nil {t kt et : TypeId} (ht : P.underlying t = some (.map kt et)) (hd : P.underlying kt = some (.int .i64)) {z : Value} (hz : (zeroValue et).run P w = .ok z w) (i : Int) (c : Bool) :
    (Instr.lookup t (.map none) (.int .i64 i) c).run P w = .ok (if c then .tuple #[z, .bool false] else z) w := by
  have h1 : (Instr.findKey kt (.int .i64 i) []).run P w = .ok none w := run_findKey hd rfl
  cases c <;> simp [Instr.lookup, run_underlying ht, run_checkKey hd (k := .int .i64 i) rfl, h1, hz, Result.andThen]
/-- 'len(m)' -/
theorem IM.len {t kt et : TypeId} (h : IM w b f n) (ht : P.underlying t = some (.map kt et)) (ty : TypeId) : (Builtin.len_ #[t] ty #[.map (some b)]).run P w = .ok (.int .i64 n) w := by
  obtain ⟨es, clock, hb, hs, hn, hk, hf⟩ := h
  subst hn
  simp [Builtin.len_, run_underlying ht, MapKept.run_getObj_map hb, Result.andThen, goInt]

theorem heap_setBlock {o o' : Obj} (hb : w.heap[b]? = some o) : (setBlock w b o').heap[b]? = some o' := (heap_set hb).1
theorem heap_setBlock_ne {o' : Obj} {k : Nat} (hk : k ≠ b) : (setBlock w b o').heap[k]? = w.heap[k]? := by
  simp [setBlock, Array.getElem?_setIfInBounds, Ne.symm hk]
theorem setBlock_size (w : World) (b : Nat) (o' : Obj) : (setBlock w b o').heap.size = w.heap.size := by simp [setBlock]
theorem grown_setBlock (w : World) (b : Nat) (o' : Obj) : w.grownBy (setBlock w b o') (some b) :=
  ⟨rfl, rfl, rfl, by simp [setBlock], fun i _ hi => heap_setBlock_ne (fun e => hi (by rw [e]))⟩

/-- 'm[i] = v' -/
theorem IM.update {t kt et : TypeId} (h : IM w b f n) (ht : P.underlying t = some (.map kt et)) (hd : P.underlying kt = some (.int .i64)) (i : Int) (v : Value) :
    ∃ w', (Instr.mapUpdate t (.map (some b)) (.int .i64 i) v).run P w = .ok () w' ∧ IM w' b (upd f i v) (if (f i).isSome then n else n + 1) ∧ w.grownBy w' (some b) ∧ w'.heap.size = w.heap.size := by
  obtain ⟨es, clock, hb, hs, hn, hk, hf⟩ := h
  rcases find_either (w := w) hd hs hk hf i with ⟨h0, h1, h2⟩ | ⟨j, e, h0, h1, h2, h3⟩
  · refine ⟨setBlock w b (.map (es.push ⟨.int .i64 i, v, clock⟩) (clock + 1)), ?_, ⟨_, _, heap_setBlock hb, stamped_push hs h2, ?_, ?_, ?_⟩, grown_setBlock .., setBlock_size ..⟩
    · simp [Instr.mapUpdate, run_underlying ht, MapKept.run_getObj_map hb, run_checkKey hd (k := .int .i64 i) rfl, h1, Result.andThen, run_setObj_map _ hb, setBlock]
    · simp [h0, hn]
    · intro e he
      simp only [Array.toList_push, List.mem_append, List.mem_singleton] at he
      rcases he with he | rfl
      · exact hk e he
      · exact ⟨i, rfl⟩
    · intro i' v'
      simp only [Array.toList_push, List.mem_append, List.mem_singleton, upd]
      by_cases hi : i' = i
      · subst hi
        simp only [if_true, Option.some.injEq]
        constructor
        · rintro rfl
          exact ⟨_, .inr rfl, rfl, rfl⟩
        · rintro ⟨e, he | rfl, hke, hve⟩
          · exact absurd hke (h2 e he)
          · exact hve
      · rw [if_neg hi, hf]
        constructor
        · rintro ⟨e, he, r⟩
          exact ⟨e, .inl he, r⟩
        · rintro ⟨e, he | rfl, hke, hve⟩
          · exact ⟨e, he, hke, hve⟩
          · simp at hke; exact absurd hke.symm hi
  · have hkey : ∀ e' ∈ es.toList, es[j]? = some e' → e'.key = .int .i64 i := fun e' _ he' => by
      rw [← Array.getElem?_toList, h2] at he'
      cases he'
      exact h3
    have hjl : j < es.toList.length := (List.getElem?_eq_some_iff.1 h2).1
    have hmem : ∀ x, x ∈ (es.modify j (fun e' => { e' with key := .int .i64 i, val := v })).toList ↔ x = { e with key := .int .i64 i, val := v } ∨ (x ∈ es.toList ∧ x.key ≠ .int .i64 i) := by
      intro x
      rw [List.mem_iff_getElem?]
      simp only [Array.getElem?_toList, Array.getElem?_modify]
      have hej : es[j]? = some e := by rw [← Array.getElem?_toList]; exact h2
      constructor
      · rintro ⟨k, hx⟩
        by_cases hkj : j = k
        · subst hkj
          rw [if_pos rfl, hej] at hx
          simp at hx
          exact .inl hx.symm
        · rw [if_neg hkj] at hx
          have hxm : x ∈ es.toList := by
            rw [List.mem_iff_getElem?]
            exact ⟨k, by rw [Array.getElem?_toList]; exact hx⟩
          refine .inr ⟨hxm, fun hxk => hkj ?_⟩
          have hp := ((stamped_iff es clock).1 hs).2.2
          have hkl : k < es.toList.length := by
            rw [← Array.getElem?_toList] at hx
            exact (List.getElem?_eq_some_iff.1 hx).1
          have hxe : es.toList[k] = x := by
            rw [← Array.getElem?_toList] at hx
            exact (List.getElem?_eq_some_iff.1 hx).2
          have hee : es.toList[j] = e := (List.getElem?_eq_some_iff.1 h2).2
          rcases Nat.lt_trichotomy j k with hlt | he | hlt
          · exact absurd (by rw [hee, hxe, h3, hxk]) (List.pairwise_iff_getElem.1 hp j k hjl hkl hlt)
          · exact he
          · exact absurd (by rw [hee, hxe, h3, hxk]) (List.pairwise_iff_getElem.1 hp k j hkl hjl hlt)
      · rintro (rfl | ⟨hx, hxk⟩)
        · exact ⟨j, by rw [if_pos rfl, hej]; rfl⟩
        · obtain ⟨k, hk'⟩ := List.mem_iff_getElem?.1 hx
          refine ⟨k, ?_⟩
          have : j ≠ k := by
            rintro rfl
            rw [h2] at hk'
            cases hk'
            exact hxk h3
          rw [if_neg this, ← Array.getElem?_toList]
          exact hk'
    refine ⟨setBlock w b (.map (es.modify j fun e' => { e' with key := .int .i64 i, val := v }) clock), ?_, ⟨_, _, heap_setBlock hb, stamped_modify hs _ _ (fun _ _ => rfl) (fun e' he0 he' => (hkey e' he0 he').symm), ?_, ?_, ?_⟩, grown_setBlock .., setBlock_size ..⟩
    · have hke : ((es[j]?).map (·.key)).getD (.int .i64 i) = .int .i64 i := by
        rw [← Array.getElem?_toList, h2]; simpa using h3
      simp [Instr.mapUpdate, run_underlying ht, MapKept.run_getObj_map hb, run_checkKey hd (k := .int .i64 i) rfl, h1, Result.andThen, hke, run_keyThatStays (d := .int .i64) (k := .int .i64 i) rfl, run_setObj_map _ hb, setBlock]
    · simp [h0, hn]
    · intro x hx
      rcases (hmem x).1 hx with rfl | ⟨hx, _⟩
      · exact ⟨i, rfl⟩
      · exact hk x hx
    · intro i' v'
      simp only [upd]
      by_cases hi : i' = i
      · subst hi
        simp only [if_true, Option.some.injEq]
        constructor
        · rintro rfl
          exact ⟨_, (hmem _).2 (.inl rfl), rfl, rfl⟩
        · rintro ⟨x, hx, hxk, hxv⟩
          rcases (hmem x).1 hx with rfl | ⟨_, hne⟩
          · exact hxv
          · exact absurd hxk hne
      · rw [if_neg hi, hf]
        constructor
        · rintro ⟨x, hx, hxk, hxv⟩
          exact ⟨x, (hmem _).2 (.inr ⟨hx, by rw [hxk]; simp; exact hi⟩), hxk, hxv⟩
        · rintro ⟨x, hx, hxk, hxv⟩
          rcases (hmem x).1 hx with rfl | ⟨hx, _⟩
          · simp at hxk; exact absurd hxk.symm hi
          · exact ⟨x, hx, hxk, hxv⟩

/-- 'delete(m, i)' -/
theorem IM.delete {t kt et : TypeId} (h : IM w b f n) (ht : P.underlying t = some (.map kt et)) (hd : P.underlying kt = some (.int .i64)) (i : Int) (ty : TypeId) :
    ∃ w', (Builtin.delete_ #[t, kt] ty #[.map (some b), .int .i64 i]).run P w = .ok (.tuple #[]) w' ∧ IM w' b (del f i) (if (f i).isSome then n - 1 else n) ∧ w.grownBy w' (some b) ∧ w'.heap.size = w.heap.size := by
  obtain ⟨es, clock, hb, hs, hn, hk, hf⟩ := h
  rcases find_either (w := w) hd hs hk hf i with ⟨h0, h1, h2⟩ | ⟨j, e, h0, h1, h2, h3⟩
  · refine ⟨setBlock w b (.map es clock), ?_, ⟨_, _, heap_setBlock hb, hs, ?_, hk, ?_⟩, grown_setBlock .., setBlock_size ..⟩
    · simp [Builtin.delete_, run_underlying ht, MapKept.run_getObj_map hb, run_checkKey hd (k := .int .i64 i) rfl, h1, Result.andThen, run_setObj_map _ hb, setBlock]
    · simp [h0, hn]
    · intro i' v'
      simp only [del]
      by_cases hi : i' = i
      · subst hi
        simp only [if_true, reduceCtorEq, false_iff, not_exists, not_and]
        intro e he hke
        exact absurd hke (h2 e he)
      · rw [if_neg hi, hf]
  · have hjl : j < es.size := by simpa using (List.getElem?_eq_some_iff.1 h2).1
    have hej : es.toList[j]'(by simpa using hjl) = e := (List.getElem?_eq_some_iff.1 h2).2
    have hsub : (es.eraseIdxIfInBounds j).toList = es.toList.eraseIdx j := by
      unfold Array.eraseIdxIfInBounds
      rw [dif_pos hjl]
      simp
    have hmem : ∀ x, x ∈ (es.eraseIdxIfInBounds j).toList ↔ x ∈ es.toList ∧ x.key ≠ .int .i64 i := by
      intro x
      rw [hsub, List.mem_eraseIdx_iff_getElem]
      have hp := ((stamped_iff es clock).1 hs).2.2
      constructor
      · rintro ⟨k, hkl, hkj, rfl⟩
        refine ⟨List.getElem_mem _, fun hxk => ?_⟩
        rcases Nat.lt_or_gt_of_ne hkj with hlt | hlt
        · exact absurd (by rw [hxk, hej, h3]) (List.pairwise_iff_getElem.1 hp k j hkl (by simpa using hjl) hlt)
        · exact absurd (by rw [hxk, hej, h3]) (List.pairwise_iff_getElem.1 hp j k (by simpa using hjl) hkl hlt)
      · rintro ⟨hx, hxk⟩
        obtain ⟨k, hkl, rfl⟩ := List.mem_iff_getElem.1 hx
        refine ⟨k, hkl, ?_, rfl⟩
        rintro rfl
        rw [hej] at hxk
        exact hxk h3
    refine ⟨setBlock w b (.map (es.eraseIdxIfInBounds j) clock), ?_, ⟨_, _, heap_setBlock hb, stamped_erase hs j, ?_, ?_, ?_⟩, grown_setBlock .., setBlock_size ..⟩
    · simp [Builtin.delete_, run_underlying ht, MapKept.run_getObj_map hb, run_checkKey hd (k := .int .i64 i) rfl, h1, Result.andThen, run_setObj_map _ hb, setBlock]
    · have : (es.eraseIdxIfInBounds j).size = es.size - 1 := by
        unfold Array.eraseIdxIfInBounds
        rw [dif_pos hjl]
        simp
      simp [h0, this, hn]
    · intro x hx
      exact hk x ((hmem x).1 hx).1
    · intro i' v'
      simp only [del]
      by_cases hi : i' = i
      · subst hi
        simp only [if_true, reduceCtorEq, false_iff, not_exists, not_and]
        intro x hx hxk
        exact absurd hxk ((hmem x).1 hx).2
      · rw [if_neg hi, hf]
        constructor
        · rintro ⟨x, hx, hxk, hxv⟩
          exact ⟨x, (hmem x).2 ⟨hx, by rw [hxk]; simp; exact hi⟩, hxk, hxv⟩
        · rintro ⟨x, hx, hxk, hxv⟩
          exact ⟨x, ((hmem x).1 hx).1, hxk, hxv⟩

/-! ### the kit's word for the same map: every element reads as itself -/
def anyElem (v : Value) : Option (DataW Value × List MemPlace) := some (.held v, [])
theorem insert_mem {x p : Lit × DataW Value} : ∀ {l : List (Lit × DataW Value)}, p ∈ DataW.insert x l ↔ p = x ∨ p ∈ l
  | [] => by simp [DataW.insert]
  | y :: l => by
    unfold DataW.insert
    split
    · simp
    · simp only [List.mem_cons, insert_mem (l := l)]
      constructor
      · rintro (h | h | h)
        · exact .inr (.inl h)
        · exact .inl h
        · exact .inr (.inr h)
      · rintro (h | h | h)
        · exact .inr (.inl h)
        · exact .inl h
        · exact .inr (.inr h)
theorem foldr_mem {p : Lit × DataW Value} : ∀ {l : List (Lit × DataW Value)}, p ∈ l.foldr DataW.insert [] ↔ p ∈ l
  | [] => by simp
  | x :: l => by simp [insert_mem, foldr_mem (l := l)]
theorem IM.owns {kt : TypeId} (h : IM w b f n) (hd : P.underlying kt = some (.int .i64)) (hwf : ∀ i, (f i).isSome = true → (Lit.int .i64 i).wf = true) (hn : n ≤ maxLen) :
    ∃ D : DataW Value, w.ownsMap P kt anyElem b n D ∧ Maps.size D = n ∧ (intKeys D).length = n ∧ (intKeys D).Nodup ∧ ∀ i, i ∈ intKeys D ↔ (f i).isSome = true := by
  obtain ⟨es, clock, hb, hs, hsz, hk, hf⟩ := h
  have hread : ∀ x ∈ es.toList, ∃ i, x.key = .int .i64 i ∧ WideElems.rd P kt anyElem x = some (.int .i64 i, .held x.val) := fun x hx => by
    obtain ⟨i, hi⟩ := hk x hx
    have hw : (Lit.int .i64 i).wf = true := hwf i (by rw [(hf i x.val).2 ⟨x, hx, hi, rfl⟩]; rfl)
    refine ⟨i, hi, ?_⟩
    unfold WideElems.rd
    rw [hi, Maps.keyOf_int_mk hd hw]
    rfl
  have hrg : ∀ x ∈ es.toList, ∃ i, x.key = .int .i64 i ∧ WideElems.rg P kt anyElem x = (.int .i64 i, .held x.val) := fun x hx => by
    obtain ⟨i, hi, hr⟩ := hread x hx
    exact ⟨i, hi, WideElems.rg_of hr⟩
  have F : WideElems.Fit P kt anyElem es clock := ⟨by omega, hs, fun x hx => by obtain ⟨i, _, hr⟩ := hread x hx; exact ⟨_, hr⟩⟩
  have hown : w.ownsMap P kt anyElem b n (.map ((es.toList.map (WideElems.rg P kt anyElem)).foldr DataW.insert [])) := ⟨es, clock, hb, F, by omega, rfl⟩
  have hlen : ((es.toList.map (WideElems.rg P kt anyElem)).foldr DataW.insert []).length = n := by rw [length_sorted]; simpa using hsz
  refine ⟨_, hown, hlen, by simpa [intKeys] using hlen, ?_, fun i => ?_⟩
  · have hp := Maps.fit_apart (Maps.int_keyed hd) F
    have hkeys : ∀ p ∈ (es.toList.map (WideElems.rg P kt anyElem)).foldr DataW.insert [], ∃ i, p.1 = .int .i64 i := fun p hp' => by
      rw [foldr_mem] at hp'
      obtain ⟨x, hx, rfl⟩ := List.mem_map.1 hp'
      obtain ⟨i, _, hr⟩ := hrg x hx
      exact ⟨i, by rw [hr]⟩
    obtain ⟨D0, hD0⟩ : ∃ D0, D0 = (es.toList.map (WideElems.rg P kt anyElem)).foldr DataW.insert [] := ⟨_, rfl⟩
    have htidy : Maps.Tidy (.map D0) := by rw [hD0]; exact hown.tidy (Maps.int_keyed hd)
    rw [← hD0] at hkeys ⊢
    obtain ⟨es0, he, hpw⟩ := htidy
    cases he
    simp only [intKeys]
    rw [List.nodup_iff_pairwise_ne, List.pairwise_map]
    refine List.Pairwise.imp_of_mem ?_ hpw
    intro p q hp' hq' hne
    obtain ⟨i, hi⟩ := hkeys p hp'
    obtain ⟨j, hj⟩ := hkeys q hq'
    rw [hi, hj] at hne ⊢
    intro e
    simp [intOf] at e
    exact hne (by rw [e])
  · simp only [intKeys, List.mem_map, foldr_mem]
    constructor
    · rintro ⟨p, ⟨x, hx, rfl⟩, he⟩
      obtain ⟨j, hj, hr⟩ := hrg x hx
      rw [hr] at he
      simp [intOf] at he
      subst he
      rw [(hf j x.val).2 ⟨x, hx, hj, rfl⟩]
      rfl
    · intro hi
      obtain ⟨v, hv⟩ := Option.isSome_iff_exists.1 hi
      obtain ⟨x, hx, hxk, hxv⟩ := (hf i v).1 hv
      obtain ⟨j, hj, hr⟩ := hrg x hx
      refine ⟨_, ⟨x, hx, rfl⟩, ?_⟩
      rw [hr]
      rw [hj] at hxk
      simpa [intOf] using hxk

/-! ### at the operation, for the walk -/
section
variable {ops : Array Oper} {rest : List Oper} {o : Oper} {a : Act} {Q : Exit → Act → World → Prop}
theorem wpList_update_im (w : World) (hg : o.guard = none) (m x v : Operand) (t : TypeId) (hop : o.op = Op.mapUpdate t m x v) (kt et : TypeId) (ht : P.underlying t = some (.map kt et)) (hd : P.underlying kt = some (.int .i64))
    (b n : Nat) (f : Int → Option Value) (hm : a.eval m = .map (some b)) (h : IM w b f n) (i : Int) (u : Value) (hx : a.eval x = .int .i64 i) (hv : a.eval v = u)
    (hK : ∀ w', IM w' b (upd f i u) (if (f i).isSome then n else n + 1) → w.grownBy w' (some b) → w'.heap.size = w.heap.size → wpList P ops Q rest (a.put o.dst undef) w') :
    wpList P ops Q (o :: rest) a w := by
  refine wpList_plain hg fun K' hK' => ?_
  obtain ⟨w', hrun, r1, r2, r3⟩ := h.update ht hd i u
  unfold Oper.wp
  simp [execOp, hop, hm, hx, hv, hrun, Result.andThen]
  exact hK' _ _ (hK w' r1 r2 r3)
theorem wpList_lookup_im (w : World) (hg : o.guard = none) (m x : Operand) (t : TypeId) (hop : o.op = Op.lookup t m x false) (kt et : TypeId) (ht : P.underlying t = some (.map kt et)) (hd : P.underlying kt = some (.int .i64)) (z : Value) (hz : (zeroValue et).run P w = .ok z w)
    (b n : Nat) (f : Int → Option Value) (hm : a.eval m = .map (some b)) (h : IM w b f n) (i : Int) (hx : a.eval x = .int .i64 i) (hK : wpList P ops Q rest (a.put o.dst ((f i).getD z)) w) :
    wpList P ops Q (o :: rest) a w := by
  refine wpList_plain hg fun K' hK' => ?_
  unfold Oper.wp
  simp [execOp, hop, hm, hx, h.lookup ht hd hz i, Result.andThen]
  exact hK' _ _ hK
theorem wpList_lookup_ok_im (w : World) (hg : o.guard = none) (m x : Operand) (t : TypeId) (hop : o.op = Op.lookup t m x true) (kt et : TypeId) (ht : P.underlying t = some (.map kt et)) (hd : P.underlying kt = some (.int .i64)) (z : Value) (hz : (zeroValue et).run P w = .ok z w)
    (b n : Nat) (f : Int → Option Value) (hm : a.eval m = .map (some b)) (h : IM w b f n) (i : Int) (hx : a.eval x = .int .i64 i) (hK : wpList P ops Q rest (a.put o.dst (.tuple #[(f i).getD z, .bool (f i).isSome])) w) :
    wpList P ops Q (o :: rest) a w := by
  refine wpList_plain hg fun K' hK' => ?_
  unfold Oper.wp
  simp [execOp, hop, hm, hx, h.lookup_ok ht hd hz i, Result.andThen]
  exact hK' _ _ hK
theorem wpList_delete_im (w : World) (hg : o.guard = none) (m x : Operand) (t kt et : TypeId) (hop : o.op = Op.call { callee := Callee.builtin Builtin.delete, args := #[m, x], argTypes := #[t, kt] }) (ht : P.underlying t = some (.map kt et)) (hd : P.underlying kt = some (.int .i64))
    (b n : Nat) (f : Int → Option Value) (hm : a.eval m = .map (some b)) (h : IM w b f n) (i : Int) (hx : a.eval x = .int .i64 i)
    (hK : ∀ w', IM w' b (del f i) (if (f i).isSome then n - 1 else n) → w.grownBy w' (some b) → w'.heap.size = w.heap.size → wpList P ops Q rest (a.put o.dst (.tuple #[])) w') :
    wpList P ops Q (o :: rest) a w := by
  refine wpList_plain hg fun K' hK' => ?_
  obtain ⟨w', hrun, r1, r2, r3⟩ := h.delete (n := n) ht hd i o.type
  unfold Oper.wp
  simp [execOp, hop, hm, hx, hrun, Result.andThen, resolve, invoke, builtin]
  exact hK' _ _ (hK w' r1 r2 r3)
theorem wpList_len_im (w : World) (hg : o.guard = none) (m : Operand) (t kt et : TypeId) (hop : o.op = Op.call { callee := Callee.builtin Builtin.len, args := #[m], argTypes := #[t] }) (ht : P.underlying t = some (.map kt et))
    (b n : Nat) (f : Int → Option Value) (hm : a.eval m = .map (some b)) (h : IM w b f n) (hK : wpList P ops Q rest (a.put o.dst (.int .i64 n)) w) :
    wpList P ops Q (o :: rest) a w := by
  refine wpList_plain hg fun K' hK' => ?_
  unfold Oper.wp
  simp [execOp, hop, hm, h.len ht, Result.andThen, resolve, invoke, builtin]
  exact hK' _ _ hK
end
end
end Go.Proofs.Ytndhhnhhnkkpbaa.PLevelMore
