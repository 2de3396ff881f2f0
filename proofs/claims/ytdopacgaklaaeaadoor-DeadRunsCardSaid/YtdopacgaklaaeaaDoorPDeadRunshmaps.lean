import Derived.Test.YtdopacgaklaaeaaDoorPDeadRunsx0
import Derived.Test.YtdopacgaklaaeaaDoorPDeadRunshplain0
import Derived.WalkKit
import Derived.Maps.RangeRun
import Derived.Maps.OwnSet
import Derived.Carry
import Derived.Lib.SlKeysI
import Derived.Below
import Derived.Maps.RangeWalk
namespace Go.Proofs.YtdopacgaklaaeaaDoor.PDeadRuns
open Go.RowKit Go.Proofs.YtdopacgaklaaeaaDoorW.PrintWords Go.Proofs.YtdopacgaklaaeaaDoorW.PrintLast Go.Proofs.YtdopacgaklaaeaaDoorW.PrintMore
set_option linter.unusedVariables false
set_option linter.unusedSimpArgs false
open Go.MapKept Go.RowKit
open Go.ChangeMaps (setBlock)

/-- Block b is a map from ints (of n entries) that has just what f says. -/
def IM (w : World) (b : Nat) (f : Int → Option Value) (n : Nat) : Prop :=
  ∃ es clock, w.heap[b]? = some (.map es clock) ∧ Stamped es clock ∧ es.size = n ∧
    (∀ e ∈ es.toList, ∃ i, e.key = .int .i64 i) ∧ (∀ i v, f i = some v ↔ ∃ e ∈ es.toList, e.key = .int .i64 i ∧ e.val = v)

def upd {α : Type} (f : Int → Option α) (i : Int) (v : α) : Int → Option α := fun j => if j = i then some v else f j
def del {α : Type} (f : Int → Option α) (i : Int) : Int → Option α := fun j => if j = i then none else f j

section
variable {w w1 : World} {b n : Nat} {f : Int → Option Value} {P : Program}

theorem IM.lt (h : IM w b f n) : b < w.heap.size := by
  obtain ⟨es, clock, hb, _⟩ := h
  exact (Array.getElem?_eq_some_iff.1 hb).1
theorem IM.move (h : IM w b f n) (hm : w1.heap[b]? = w.heap[b]?) : IM w1 b f n := by
  obtain ⟨es, clock, hb, r⟩ := h
  exact ⟨es, clock, hm.trans hb, r⟩
theorem IM.below {B : Nat} (h : IM w b f n) (hb : Below B w w1) (hB : b < B) : IM w1 b f n := h.move (hb.block b hB)
theorem IM.congr {g : Int → Option Value} {m : Nat} (h : IM w b f n) (hg : ∀ i, f i = g i) (hm : n = m) : IM w b g m := by
  subst hm
  obtain rfl : f = g := funext hg
  exact h
theorem IM.made (w : World) : IM (w.alloc (.map #[] 0)) w.heap.size (fun _ => none) 0 :=
  ⟨#[], 0, heap_alloc_new w _, stamped_empty 0, rfl, by simp, by simp⟩

theorem keys_kind {es : Array MapEntry} (hk : ∀ e ∈ es.toList, ∃ i, e.key = .int .i64 i) : ∀ e ∈ es.toList, IsKey (.int .i64) e.key := fun e he => by
  obtain ⟨i, hi⟩ := hk e he
  rw [hi]; rfl
/-- two entries at one key are one -/
theorem one_at {es : Array MapEntry} {clock : Nat} (hs : Stamped es clock) {e e' : MapEntry} (he : e ∈ es.toList) (he' : e' ∈ es.toList) (h : e.key = e'.key) : e = e' := by
  have hp := ((stamped_iff es clock).1 hs).2.2
  obtain ⟨i, hi, rfl⟩ := List.mem_iff_getElem.1 he
  obtain ⟨j, hj, rfl⟩ := List.mem_iff_getElem.1 he'
  rcases Nat.lt_trichotomy i j with hlt | rfl | hlt
  · exact absurd h (List.pairwise_iff_getElem.1 hp i j hi hj hlt)
  · rfl
  · exact absurd h.symm (List.pairwise_iff_getElem.1 hp j i hj hi hlt)

theorem find_either {kt : TypeId} (hd : P.underlying kt = some (.int .i64)) {es : Array MapEntry} {clock : Nat} (hs : Stamped es clock) (hk : ∀ e ∈ es.toList, ∃ i, e.key = .int .i64 i)
    (hf : ∀ i v, f i = some v ↔ ∃ e ∈ es.toList, e.key = .int .i64 i ∧ e.val = v) (i : Int) :
    (f i = none ∧ (Instr.findKey kt (.int .i64 i) es.toList).run P w = .ok none w ∧ ∀ e ∈ es.toList, e.key ≠ .int .i64 i) ∨
    ∃ j e, f i = some e.val ∧ (Instr.findKey kt (.int .i64 i) es.toList).run P w = .ok (some (j, e.val)) w ∧ es.toList[j]? = some e ∧ e.key = .int .i64 i := by
  rcases findNow_spec (d := .int .i64) (k := .int .i64 i) rfl es.toList 0 (keys_kind hk) with ⟨h1, h2⟩ | ⟨j, e0, h1, h2, h3⟩
  · refine .inl ⟨?_, run_findKey hd h1, h2⟩
    cases hfi : f i with
    | none => rfl
    | some v =>
      obtain ⟨e, he, hke, _⟩ := (hf i v).1 hfi
      exact absurd hke (h2 e he)
  · exact .inr ⟨j, e0, (hf i _).2 ⟨e0, List.mem_of_getElem? h2, h3, rfl⟩, by simpa using run_findKey hd h1, h2, h3⟩

/-- 'm[i]' -/
theorem IM.lookup {t kt et : TypeId} (h : IM w b f n) (ht : P.underlying t = some (.map kt et)) (hd : P.underlying kt = some (.int .i64)) {z : Value} (hz : (zeroValue et).run P w = .ok z w) (i : Int) :
    (Instr.lookup t (.map (some b)) (.int .i64 i) false).run P w = .ok ((f i).getD z) w := by
  obtain ⟨es, clock, hb, hs, hn, hk, hf⟩ := h
  rcases find_either (w := w) hd hs hk hf i with ⟨h0, h1, _⟩ | ⟨j, e, h0, h1, _⟩
  · simp [Instr.lookup, run_underlying ht, MapKept.run_getObj_map hb, run_checkKey hd (k := .int .i64 i) rfl, h1, h0, hz, Result.andThen]
  · simp [Instr.lookup, run_underlying ht, MapKept.run_getObj_map hb, run_checkKey hd (k := .int .i64 i) rfl, h1, h0, Result.andThen]
/-- 'v, ok := m[i]' -/
theorem IM.lookup_ok {t kt et : TypeId} (h : IM w b f n) (ht : P.underlying t = some (.map kt et)) (hd : P.underlying kt = some (.int .i64)) {z : Value} (hz : (zeroValue et).run P w = .ok z w) (i : Int) :
    (Instr.lookup t (.map (some b)) (.int .i64 i) true).run P w = .ok (.tuple #[(f i).getD z, .bool (f i).isSome]) w := by
  obtain ⟨es, clock, hb, hs, hn, hk, hf⟩ := h
  rcases find_either (w := w) hd hs hk hf i with ⟨h0, h1, _⟩ | ⟨j, e, h0, h1, _⟩
  · simp [Instr.lookup, run_underlying ht, MapKept.run_getObj_map hb, run_checkKey hd (k := .int .i64 i) rfl, h1, h0, hz, Result.andThen]
  · simp [Instr.lookup, run_underlying ht, MapKept.run_getObj_map hb, run_checkKey hd (k := .int .i64 i) rfl, h1, h0, Result.andThen]
theorem lookup_nil {t kt et : TypeId} (ht : P.underlying t = some (.map kt et)) (hd : P.underlying kt = some (.int .i64)) {z : Value} (hz : (zeroValue et).run P w = .ok z w) (i : Int) (c : Bool) :
    (Instr.lookup t (.map none) (.int .i64 i) c).run P w = .ok (if c then .tuple #[z, .bool false] else z) w := by
  have h1 : (Instr.findKey kt (.int .i64 i) []).run P w = .ok none w := run_findKey hd rfl
  cases c <;> simp [Instr.lookup, run_underlying ht, run_checkKey hd (k := .int .i64 i) rfl, h1, hz, Result.andThen]
/-- 'len(m)' -/
theorem IM.len {t kt et : TypeId} (h : IM w b f n) (ht : P.underlying t = some (.map kt et)) (ty : TypeId) : (Builtin.len_ #[t] ty #[.map (some b)]).run P w = .ok (.int .i64 n) w := by
  obtain ⟨es, clock, hb, hs, hn, hk, hf⟩ := h
  subst hn
  simp [Builtin.len_, run_underlying ht, MapKept.run_getObj_map hb, Result.andThen, goInt]

theorem heap_setBlock {o o' : Obj} (hb : w.heap[b]? = some o) : (setBlock w b o').heap[b]? = some o' := (heap_set hb).1
theorem heap_setBlock_ne {o' : Obj} {k : Nat} (hk : k ≠ b) : (setBlock w b o').heap[k]? = w.heap[k]? := by
  simp [setBlock, Array.getElem?_setIfInBounds, Ne.symm hk]
theorem setBlock_size (w : World) (b : Nat) (o' : Obj) : (setBlock w b o').heap.size = w.heap.size := by simp [setBlock]
theorem grown_setBlock (w : World) (b : Nat) (o' : Obj) : w.grownBy (setBlock w b o') (some b) :=
  ⟨rfl, rfl, rfl, by simp [setBlock], fun i _ hi => heap_setBlock_ne (fun e => hi (by rw [e]))⟩

/-- 'm[i] = v' -/
theorem IM.update {t kt et : TypeId} (h : IM w b f n) (ht : P.underlying t = some (.map kt et)) (hd : P.underlying kt = some (.int .i64)) (i : Int) (v : Value) :
    ∃ w', (Instr.mapUpdate t (.map (some b)) (.int .i64 i) v).run P w = .ok () w' ∧ IM w' b (upd f i v) (if (f i).isSome then n else n + 1) ∧ w.grownBy w' (some b) ∧ w'.heap.size = w.heap.size := by
  obtain ⟨es, clock, hb, hs, hn, hk, hf⟩ := h
  rcases find_either (w := w) hd hs hk hf i with ⟨h0, h1, h2⟩ | ⟨j, e, h0, h1, h2, h3⟩
  · refine ⟨setBlock w b (.map (es.push ⟨.int .i64 i, v, clock⟩) (clock + 1)), ?_, ⟨_, _, heap_setBlock hb, stamped_push hs h2, ?_, ?_, ?_⟩, grown_setBlock .., setBlock_size ..⟩
    · simp [Instr.mapUpdate, run_underlying ht, MapKept.run_getObj_map hb, run_checkKey hd (k := .int .i64 i) rfl, h1, Result.andThen, run_setObj_map _ hb, setBlock]
    · simp [h0, hn]
    · intro e he
      simp only [Array.toList_push, List.mem_append, List.mem_singleton] at he
      rcases he with he | rfl
      · exact hk e he
      · exact ⟨i, rfl⟩
    · intro i' v'
      simp only [Array.toList_push, List.mem_append, List.mem_singleton, upd]
      by_cases hi : i' = i
      · subst hi
        simp only [if_true, Option.some.injEq]
        constructor
        · rintro rfl
          exact ⟨_, .inr rfl, rfl, rfl⟩
        · rintro ⟨e, he | rfl, hke, hve⟩
          · exact absurd hke (h2 e he)
          · exact hve
      · rw [if_neg hi, hf]
        constructor
        · rintro ⟨e, he, r⟩
          exact ⟨e, .inl he, r⟩
        · rintro ⟨e, he | rfl, hke, hve⟩
          · exact ⟨e, he, hke, hve⟩
          · simp at hke; exact absurd hke.symm hi
  · have hkey : ∀ e' ∈ es.toList, es[j]? = some e' → e'.key = .int .i64 i := fun e' _ he' => by
      rw [← Array.getElem?_toList, h2] at he'
      cases he'
      exact h3
    have hjl : j < es.toList.length := (List.getElem?_eq_some_iff.1 h2).1
    have hmem : ∀ x, x ∈ (es.modify j (fun e' => { e' with key := .int .i64 i, val := v })).toList ↔ x = { e with key := .int .i64 i, val := v } ∨ (x ∈ es.toList ∧ x.key ≠ .int .i64 i) := by
      intro x
      rw [List.mem_iff_getElem?]
      simp only [Array.getElem?_toList, Array.getElem?_modify]
      have hej : es[j]? = some e := by rw [← Array.getElem?_toList]; exact h2
      constructor
      · rintro ⟨k, hx⟩
        by_cases hkj : j = k
        · subst hkj
          rw [if_pos rfl, hej] at hx
          simp at hx
          exact .inl hx.symm
        · rw [if_neg hkj] at hx
          have hxm : x ∈ es.toList := by
            rw [List.mem_iff_getElem?]
            exact ⟨k, by rw [Array.getElem?_toList]; exact hx⟩
          refine .inr ⟨hxm, fun hxk => hkj ?_⟩
          have hp := ((stamped_iff es clock).1 hs).2.2
          have hkl : k < es.toList.length := by
            rw [← Array.getElem?_toList] at hx
            exact (List.getElem?_eq_some_iff.1 hx).1
          have hxe : es.toList[k] = x := by
            rw [← Array.getElem?_toList] at hx
            exact (List.getElem?_eq_some_iff.1 hx).2
          have hee : es.toList[j] = e := (List.getElem?_eq_some_iff.1 h2).2
          rcases Nat.lt_trichotomy j k with hlt | he | hlt
          · exact absurd (by rw [hee, hxe, h3, hxk]) (List.pairwise_iff_getElem.1 hp j k hjl hkl hlt)
          · exact he
          · exact absurd (by rw [hee, hxe, h3, hxk]) (List.pairwise_iff_getElem.1 hp k j hkl hjl hlt)
      · rintro (rfl | ⟨hx, hxk⟩)
        · exact ⟨j, by rw [if_pos rfl, hej]; rfl⟩
        · obtain ⟨k, hk'⟩ := List.mem_iff_getElem?.1 hx
          refine ⟨k, ?_⟩
          have : j ≠ k := by
            rintro rfl
            rw [h2] at hk'
            cases hk'
            exact hxk h3
          rw [if_neg this, ← Array.getElem?_toList]
          exact hk'
    refine ⟨setBlock w b (.map (es.modify j fun e' => { e' with key := .int .i64 i, val := v }) clock), ?_, ⟨_, _, heap_setBlock hb, stamped_modify hs _ _ (fun _ _ => rfl) (fun e' he0 he' => (hkey e' he0 he').symm), ?_, ?_, ?_⟩, grown_setBlock .., setBlock_size ..⟩
    · have hke : ((es[j]?).map (·.key)).getD (.int .i64 i) = .int .i64 i := by
        rw [← Array.getElem?_toList, h2]; simpa using h3
      simp [Instr.mapUpdate, run_underlying ht, MapKept.run_getObj_map hb, run_checkKey hd (k := .int .i64 i) rfl, h1, Result.andThen, hke, run_keyThatStays (d := .int .i64) (k := .int .i64 i) rfl, run_setObj_map _ hb, setBlock]
    · simp [h0, hn]
    · intro x hx
      rcases (hmem x).1 hx with rfl | ⟨hx, _⟩
      · exact ⟨i, rfl⟩
      · exact hk x hx
    · intro i' v'
      simp only [upd]
      by_cases hi : i' = i
      · subst hi
        simp only [if_true, Option.some.injEq]
        constructor
        · rintro rfl
          exact ⟨_, (hmem _).2 (.inl rfl), rfl, rfl⟩
        · rintro ⟨x, hx, hxk, hxv⟩
          rcases (hmem x).1 hx with rfl | ⟨_, hne⟩
          · exact hxv
          · exact absurd hxk hne
      · rw [if_neg hi, hf]
        constructor
        · rintro ⟨x, hx, hxk, hxv⟩
          exact ⟨x, (hmem _).2 (.inr ⟨hx, by rw [hxk]; simp; exact hi⟩), hxk, hxv⟩
        · rintro ⟨x, hx, hxk, hxv⟩
          rcases (hmem x).1 hx with rfl | ⟨hx, _⟩
          · simp at hxk; exact absurd hxk.symm hi
          · exact ⟨x, hx, hxk, hxv⟩

/-- 'delete(m, i)' -/
theorem IM.delete {t kt et : TypeId} (h : IM w b f n) (ht : P.underlying t = some (.map kt et)) (hd : P.underlying kt = some (.int .i64)) (i : Int) (ty : TypeId) :
    ∃ w', (Builtin.delete_ #[t, kt] ty #[.map (some b), .int .i64 i]).run P w = .ok (.tuple #[]) w' ∧ IM w' b (del f i) (if (f i).isSome then n - 1 else n) ∧ w.grownBy w' (some b) ∧ w'.heap.size = w.heap.size := by
  obtain ⟨es, clock, hb, hs, hn, hk, hf⟩ := h
  rcases find_either (w := w) hd hs hk hf i with ⟨h0, h1, h2⟩ | ⟨j, e, h0, h1, h2, h3⟩
  · refine ⟨setBlock w b (.map es clock), ?_, ⟨_, _, heap_setBlock hb, hs, ?_, hk, ?_⟩, grown_setBlock .., setBlock_size ..⟩
    · simp [Builtin.delete_, run_underlying ht, MapKept.run_getObj_map hb, run_checkKey hd (k := .int .i64 i) rfl, h1, Result.andThen, run_setObj_map _ hb, setBlock]
    · simp [h0, hn]
    · intro i' v'
      simp only [del]
      by_cases hi : i' = i
      · subst hi
        simp only [if_true, reduceCtorEq, false_iff, not_exists, not_and]
        intro e he hke
        exact absurd hke (h2 e he)
      · rw [if_neg hi, hf]
  · have hjl : j < es.size := by simpa using (List.getElem?_eq_some_iff.1 h2).1
    have hej : es.toList[j]'(by simpa using hjl) = e := (List.getElem?_eq_some_iff.1 h2).2
    have hsub : (es.eraseIdxIfInBounds j).toList = es.toList.eraseIdx j := by
      unfold Array.eraseIdxIfInBounds
      rw [dif_pos hjl]
      simp
    have hmem : ∀ x, x ∈ (es.eraseIdxIfInBounds j).toList ↔ x ∈ es.toList ∧ x.key ≠ .int .i64 i := by
      intro x
      rw [hsub, List.mem_eraseIdx_iff_getElem]
      have hp := ((stamped_iff es clock).1 hs).2.2
      constructor
      · rintro ⟨k, hkl, hkj, rfl⟩
        refine ⟨List.getElem_mem _, fun hxk => ?_⟩
        rcases Nat.lt_or_gt_of_ne hkj with hlt | hlt
        · exact absurd (by rw [hxk, hej, h3]) (List.pairwise_iff_getElem.1 hp k j hkl (by simpa using hjl) hlt)
        · exact absurd (by rw [hxk, hej, h3]) (List.pairwise_iff_getElem.1 hp j k (by simpa using hjl) hkl hlt)
      · rintro ⟨hx, hxk⟩
        obtain ⟨k, hkl, rfl⟩ := List.mem_iff_getElem.1 hx
        refine ⟨k, hkl, ?_, rfl⟩
        rintro rfl
        rw [hej] at hxk
        exact hxk h3
    refine ⟨setBlock w b (.map (es.eraseIdxIfInBounds j) clock), ?_, ⟨_, _, heap_setBlock hb, stamped_erase hs j, ?_, ?_, ?_⟩, grown_setBlock .., setBlock_size ..⟩
    · simp [Builtin.delete_, run_underlying ht, MapKept.run_getObj_map hb, run_checkKey hd (k := .int .i64 i) rfl, h1, Result.andThen, run_setObj_map _ hb, setBlock]
    · have : (es.eraseIdxIfInBounds j).size = es.size - 1 := by
        unfold Array.eraseIdxIfInBounds
        rw [dif_pos hjl]
        simp
      simp [h0, this, hn]
    · intro x hx
      exact hk x ((hmem x).1 hx).1
    · intro i' v'
      simp only [del]
      by_cases hi : i' = i
      · subst hi
        simp only [if_true, reduceCtorEq, false_iff, not_exists, not_and]
        intro x hx hxk
        exact absurd hxk ((hmem x).1 hx).2
      · rw [if_neg hi, hf]
        constructor
        · rintro ⟨x, hx, hxk, hxv⟩
          exact ⟨x, (hmem x).2 ⟨hx, by rw [hxk]; simp; exact hi⟩, hxk, hxv⟩
        · rintro ⟨x, hx, hxk, hxv⟩
          exact ⟨x, ((hmem x).1 hx).1, hxk, hxv⟩

/-! ### the kit's word for the same map: every element reads as itself -/
def anyElem (v : Value) : Option (DataW Value × List MemPlace) := some (.held v, [])
theorem insert_mem {x p : Lit × DataW Value} : ∀ {l : List (Lit × DataW Value)}, p ∈ DataW.insert x l ↔ p = x ∨ p ∈ l
  | [] => by simp [DataW.insert]
  | y :: l => by
    unfold DataW.insert
    split
    · simp
    · simp only [List.mem_cons, insert_mem (l := l)]
      constructor
      · rintro (h | h | h)
        · exact .inr (.inl h)
        · exact .inl h
        · exact .inr (.inr h)
      · rintro (h | h | h)
        · exact .inr (.inl h)
        · exact .inl h
        · exact .inr (.inr h)
theorem foldr_mem {p : Lit × DataW Value} : ∀ {l : List (Lit × DataW Value)}, p ∈ l.foldr DataW.insert [] ↔ p ∈ l
  | [] => by simp
  | x :: l => by simp [insert_mem, foldr_mem (l := l)]
theorem IM.owns {kt : TypeId} (h : IM w b f n) (hd : P.underlying kt = some (.int .i64)) (hwf : ∀ i, (f i).isSome = true → (Lit.int .i64 i).wf = true) (hn : n ≤ maxLen) :
    ∃ D : DataW Value, w.ownsMap P kt anyElem b n D ∧ Maps.size D = n ∧ (intKeys D).length = n ∧ (intKeys D).Nodup ∧ ∀ i, i ∈ intKeys D ↔ (f i).isSome = true := by
  obtain ⟨es, clock, hb, hs, hsz, hk, hf⟩ := h
  have hread : ∀ x ∈ es.toList, ∃ i, x.key = .int .i64 i ∧ WideElems.rd P kt anyElem x = some (.int .i64 i, .held x.val) := fun x hx => by
    obtain ⟨i, hi⟩ := hk x hx
    have hw : (Lit.int .i64 i).wf = true := hwf i (by rw [(hf i x.val).2 ⟨x, hx, hi, rfl⟩]; rfl)
    refine ⟨i, hi, ?_⟩
    unfold WideElems.rd
    rw [hi, Maps.keyOf_int_mk hd hw]
    rfl
  have hrg : ∀ x ∈ es.toList, ∃ i, x.key = .int .i64 i ∧ WideElems.rg P kt anyElem x = (.int .i64 i, .held x.val) := fun x hx => by
    obtain ⟨i, hi, hr⟩ := hread x hx
    exact ⟨i, hi, WideElems.rg_of hr⟩
  have F : WideElems.Fit P kt anyElem es clock := ⟨by omega, hs, fun x hx => by obtain ⟨i, _, hr⟩ := hread x hx; exact ⟨_, hr⟩⟩
  have hown : w.ownsMap P kt anyElem b n (.map ((es.toList.map (WideElems.rg P kt anyElem)).foldr DataW.insert [])) := ⟨es, clock, hb, F, by omega, rfl⟩
  have hlen : ((es.toList.map (WideElems.rg P kt anyElem)).foldr DataW.insert []).length = n := by rw [length_sorted]; simpa using hsz
  refine ⟨_, hown, hlen, by simpa [intKeys] using hlen, ?_, fun i => ?_⟩
  · have hp := Maps.fit_apart (Maps.int_keyed hd) F
    have hkeys : ∀ p ∈ (es.toList.map (WideElems.rg P kt anyElem)).foldr DataW.insert [], ∃ i, p.1 = .int .i64 i := fun p hp' => by
      rw [foldr_mem] at hp'
      obtain ⟨x, hx, rfl⟩ := List.mem_map.1 hp'
      obtain ⟨i, _, hr⟩ := hrg x hx
      exact ⟨i, by rw [hr]⟩
    obtain ⟨D0, hD0⟩ : ∃ D0, D0 = (es.toList.map (WideElems.rg P kt anyElem)).foldr DataW.insert [] := ⟨_, rfl⟩
    have htidy : Maps.Tidy (.map D0) := by rw [hD0]; exact hown.tidy (Maps.int_keyed hd)
    rw [← hD0] at hkeys ⊢
    obtain ⟨es0, he, hpw⟩ := htidy
    cases he
    simp only [intKeys]
    rw [List.nodup_iff_pairwise_ne, List.pairwise_map]
    refine List.Pairwise.imp_of_mem ?_ hpw
    intro p q hp' hq' hne
    obtain ⟨i, hi⟩ := hkeys p hp'
    obtain ⟨j, hj⟩ := hkeys q hq'
    rw [hi, hj] at hne ⊢
    intro e
    simp [intOf] at e
    exact hne (by rw [e])
  · simp only [intKeys, List.mem_map, foldr_mem]
    constructor
    · rintro ⟨p, ⟨x, hx, rfl⟩, he⟩
      obtain ⟨j, hj, hr⟩ := hrg x hx
      rw [hr] at he
      simp [intOf] at he
      subst he
      rw [(hf j x.val).2 ⟨x, hx, hj, rfl⟩]
      rfl
    · intro hi
      obtain ⟨v, hv⟩ := Option.isSome_iff_exists.1 hi
      obtain ⟨x, hx, hxk, hxv⟩ := (hf i v).1 hv
      obtain ⟨j, hj, hr⟩ := hrg x hx
      refine ⟨_, ⟨x, hx, rfl⟩, ?_⟩
      rw [hr]
      rw [hj] at hxk
      simpa [intOf] using hxk

/-! ### at the operation, for the walk -/
section
variable {ops : Array Oper} {rest : List Oper} {o : Oper} {a : Act} {Q : Exit → Act → World → Prop}
theorem wpList_update_im (w : World) (hg : o.guard = none) (m x v : Operand) (t : TypeId) (hop : o.op = Op.mapUpdate t m x v) (kt et : TypeId) (ht : P.underlying t = some (.map kt et)) (hd : P.underlying kt = some (.int .i64))
    (b n : Nat) (f : Int → Option Value) (hm : a.eval m = .map (some b)) (h : IM w b f n) (i : Int) (u : Value) (hx : a.eval x = .int .i64 i) (hv : a.eval v = u)
    (hK : ∀ w', IM w' b (upd f i u) (if (f i).isSome then n else n + 1) → w.grownBy w' (some b) → w'.heap.size = w.heap.size → wpList P ops Q rest (a.put o.dst undef) w') :
    wpList P ops Q (o :: rest) a w := by
  refine wpList_plain hg fun K' hK' => ?_
  obtain ⟨w', hrun, r1, r2, r3⟩ := h.update ht hd i u
  unfold Oper.wp
  simp [execOp, hop, hm, hx, hv, hrun, Result.andThen]
  exact hK' _ _ (hK w' r1 r2 r3)
theorem wpList_lookup_im (w : World) (hg : o.guard = none) (m x : Operand) (t : TypeId) (hop : o.op = Op.lookup t m x false) (kt et : TypeId) (ht : P.underlying t = some (.map kt et)) (hd : P.underlying kt = some (.int .i64)) (z : Value) (hz : (zeroValue et).run P w = .ok z w)
    (b n : Nat) (f : Int → Option Value) (hm : a.eval m = .map (some b)) (h : IM w b f n) (i : Int) (hx : a.eval x = .int .i64 i) (hK : wpList P ops Q rest (a.put o.dst ((f i).getD z)) w) :
    wpList P ops Q (o :: rest) a w := by
  refine wpList_plain hg fun K' hK' => ?_
  unfold Oper.wp
  simp [execOp, hop, hm, hx, h.lookup ht hd hz i, Result.andThen]
  exact hK' _ _ hK
theorem wpList_lookup_ok_im (w : World) (hg : o.guard = none) (m x : Operand) (t : TypeId) (hop : o.op = Op.lookup t m x true) (kt et : TypeId) (ht : P.underlying t = some (.map kt et)) (hd : P.underlying kt = some (.int .i64)) (z : Value) (hz : (zeroValue et).run P w = .ok z w)
    (b n : Nat) (f : Int → Option Value) (hm : a.eval m = .map (some b)) (h : IM w b f n) (i : Int) (hx : a.eval x = .int .i64 i) (hK : wpList P ops Q rest (a.put o.dst (.tuple #[(f i).getD z, .bool (f i).isSome])) w) :
    wpList P ops Q (o :: rest) a w := by
  refine wpList_plain hg fun K' hK' => ?_
  unfold Oper.wp
  simp [execOp, hop, hm, hx, h.lookup_ok ht hd hz i, Result.andThen]
  exact hK' _ _ hK
theorem wpList_delete_im (w : World) (hg : o.guard = none) (m x : Operand) (t kt et : TypeId) (hop : o.op = Op.call { callee := Callee.builtin Builtin.delete, args := #[m, x], argTypes := #[t, kt] }) (ht : P.underlying t = some (.map kt et)) (hd : P.underlying kt = some (.int .i64))
    (b n : Nat) (f : Int → Option Value) (hm : a.eval m = .map (some b)) (h : IM w b f n) (i : Int) (hx : a.eval x = .int .i64 i)
    (hK : ∀ w', IM w' b (del f i) (if (f i).isSome then n - 1 else n) → w.grownBy w' (some b) → w'.heap.size = w.heap.size → wpList P ops Q rest (a.put o.dst (.tuple #[])) w') :
    wpList P ops Q (o :: rest) a w := by
  refine wpList_plain hg fun K' hK' => ?_
  obtain ⟨w', hrun, r1, r2, r3⟩ := h.delete (n := n) ht hd i o.type
  unfold Oper.wp
  simp [execOp, hop, hm, hx, hrun, Result.andThen, resolve, invoke, builtin]
  exact hK' _ _ (hK w' r1 r2 r3)
theorem wpList_len_im (w : World) (hg : o.guard = none) (m : Operand) (t kt et : TypeId) (hop : o.op = Op.call { callee := Callee.builtin Builtin.len, args := #[m], argTypes := #[t] }) (ht : P.underlying t = some (.map kt et))
    (b n : Nat) (f : Int → Option Value) (hm : a.eval m = .map (some b)) (h : IM w b f n) (hK : wpList P ops Q rest (a.put o.dst (.int .i64 n)) w) :
    wpList P ops Q (o :: rest) a w := by
  refine wpList_plain hg fun K' hK' => ?_
  unfold Oper.wp
  simp [execOp, hop, hm, h.len ht, Result.andThen, resolve, invoke, builtin]
  exact hK' _ _ hK
end
end
end Go.Proofs.YtdopacgaklaaeaaDoor.PDeadRuns

namespace Go.Proofs.YtdopacgaklaaeaaDoor.PDeadRuns
open Go.RowKit Go.Proofs.YtdopacgaklaaeaaDoorW.PrintWords Go.Proofs.YtdopacgaklaaeaaDoorW.PrintLast Go.Proofs.YtdopacgaklaaeaaDoorW.PrintMore
set_option linter.unusedVariables false
set_option linter.unusedSimpArgs false
open Go.MapKept Go.RowKit
open Go.ChangeMaps (setBlock)
/-- 'for i, v := range m' under way: block b is a map from ints, block r its iterator; left i: is what stands at i still to come? -/
def IR (w : World) (b r : Nat) (f : Int → Option Value) (n : Nat) (left : Int → Bool) (cnt : Nat) : Prop :=
  ∃ es clock since seen c0, w.heap[b]? = some (.map es clock) ∧ Stamped es clock ∧ es.size = n ∧ (∀ e ∈ es.toList, ∃ i, e.key = .int .i64 i) ∧ (∀ i v, f i = some v ↔ ∃ e ∈ es.toList, e.key = .int .i64 i ∧ e.val = v) ∧
    w.heap[r]? = some (.mapIter (some b) since seen c0) ∧ (∀ x ∈ es.toList, x.born < since) ∧ since ≤ c0 ∧ since ≤ clock ∧ (leftOf es seen).size = cnt ∧
    (∀ x ∈ es.toList, ∀ i, x.key = .int .i64 i → left i = !seen.contains x.born) ∧ (∀ i, left i = true → ∃ x ∈ es.toList, x.key = .int .i64 i)
section
variable {P : Program} {w w' : World} {b r n cnt : Nat} {f : Int → Option Value} {left : Int → Bool}
theorem IR.im (h : IR w b r f n left cnt) : IM w b f n := by
  obtain ⟨es, clock, since, seen, c0, hb, hs, hn, hk, hf, _⟩ := h
  exact ⟨es, clock, hb, hs, hn, hk, hf⟩
theorem IR.lt (h : IR w b r f n left cnt) : r < w.heap.size := by
  obtain ⟨es, clock, since, seen, c0, hb, hs, hn, hk, hf, hr, _⟩ := h
  exact (Array.getElem?_eq_some_iff.1 hr).1
theorem IR.ne (h : IR w b r f n left cnt) : r ≠ b := by
  obtain ⟨es, clock, since, seen, c0, hb, hs, hn, hk, hf, hr, _⟩ := h
  intro e
  rw [e, hb] at hr
  cases hr
theorem IR.left_eq (h : IR w b r f n left cnt) : w.rangeLeft b r = cnt := by
  obtain ⟨es, clock, since, seen, c0, hb, hs, hn, hk, hf, hr, _, _, _, hc, _⟩ := h
  simp only [World.rangeLeft, hb, hr]
  exact hc
theorem IR.move (h : IR w b r f n left cnt) (hb' : w'.heap[b]? = w.heap[b]?) (hr' : w'.heap[r]? = w.heap[r]?) : IR w' b r f n left cnt := by
  obtain ⟨es, clock, since, seen, c0, hb, hs, hn, hk, hf, hr, rest⟩ := h
  exact ⟨es, clock, since, seen, c0, hb'.trans hb, hs, hn, hk, hf, hr'.trans hr, rest⟩
theorem IR.kept {row : Option Nat} (h : IR w b r f n left cnt) (hg : w.grownBy w' row) (hb' : some b ≠ row) (hr' : some r ≠ row) : IR w' b r f n left cnt :=
  h.move (hg.block b h.im.lt hb') (hg.block r h.lt hr')
theorem IR.done (h : IR w b r f n left 0) (i : Int) : left i = false := by
  obtain ⟨es, clock, since, seen, c0, hb, hs, hn, hk, hf, hr, _, _, _, hc, hl1, hl2⟩ := h
  cases hl : left i with
  | false => rfl
  | true =>
    obtain ⟨x, hx, hxi⟩ := hl2 i hl
    rw [hl1 x hx i hxi, all_seen es seen hc x hx] at hl
    exact absurd hl (by simp)
theorem IM.range {t kt et : TypeId} (h : IM w b f n) (ht : P.underlying t = some (.map kt et)) :
    ∃ w', (Instr.range t (.map (some b))).run P w = .ok (.pointer (some ⟨w.heap.size, 0, none⟩)) w' ∧ IR w' b w.heap.size f n (fun i => (f i).isSome) n ∧ w.grownBy w' none ∧ w'.heap.size = w.heap.size + 1 := by
  have hlt := h.lt
  obtain ⟨es, clock, hb, hs, hn, hk, hf⟩ := h
  refine ⟨_, run_range_map w t kt et b es clock ht hb, ⟨es, clock, clock, #[], clock, ((MapKept.heap_alloc w _).2 b hlt).trans hb, hs, hn, hk, hf, (MapKept.heap_alloc w _).1, hs.1, Nat.le_refl _, Nat.le_refl _, ?_, ?_, ?_⟩, World.grownBy_alloc w _ none, by simp⟩
  · rw [← hn]; simp [leftOf]
  · intro x hx i hi
    show (f i).isSome = _
    rw [(hf i x.val).2 ⟨x, hx, hi, rfl⟩]
    simp
  · intro i hi
    obtain ⟨v, hv⟩ := Option.isSome_iff_exists.1 hi
    obtain ⟨x, hx, hxi, _⟩ := (hf i v).1 hv
    exact ⟨x, hx, hxi⟩
theorem IR.next (h : IR w b r f n left cnt) (ty : TypeId) :
    (cnt = 0 ∧ (∀ i, left i = false) ∧ (Instr.next (.pointer (some ⟨r, 0, none⟩)) false ty).run P w = .ok (.tuple #[.bool false]) w) ∨
    ∃ i v w' cnt', left i = true ∧ f i = some v ∧ (Instr.next (.pointer (some ⟨r, 0, none⟩)) false ty).run P w = .ok (.tuple #[.bool true, .int .i64 i, v]) w' ∧
      IR w' b r f n (fun j => left j && !(j == i)) cnt' ∧ cnt' < cnt ∧ w.grownBy w' (some r) ∧ w'.heap.size = w.heap.size ∧ (Instr.entry (.pointer (some ⟨r, 0, none⟩))).run P w' = .ok (.tuple #[.int .i64 i, v]) w' := by
  have hne := h.ne
  have hdone := h
  obtain ⟨es, clock, since, seen, c0, hb, hs, hn, hk, hf, hr, hold, hsc, hsk, hc, hl1, hl2⟩ := h
  rcases run_next_at (P := P) w ty r b since c0 seen es clock hr hb hold hsc with ⟨h0, hrun⟩ | ⟨e, he, w1, hal, hrun⟩
  · have : cnt = 0 := by rw [← hc]; exact h0
    subst this
    exact Or.inl ⟨rfl, hdone.done, hrun⟩
  · obtain ⟨hem, hes⟩ := mem_left he
    obtain ⟨i, hi⟩ := hk e hem
    have hr1 : w1.heap[r]? = some (.mapIter (some b) since seen c0) := by rcases hal with rfl | rfl <;> exact hr
    have hb1 : w1.heap[b]? = some (.map es clock) := by rcases hal with rfl | rfl <;> exact hb
    have hsz1 : w1.heap.size = w.heap.size := by rcases hal with rfl | rfl <;> rfl
    have hg1 : w.grownBy w1 none := by
      rcases hal with rfl | rfl
      · exact ⟨rfl, rfl, rfl, Nat.le_refl _, fun _ _ _ => rfl⟩
      · exact ⟨rfl, rfl, rfl, Nat.le_refl _, fun _ _ _ => rfl⟩
    rw [hi] at hrun
    have hb2 : (setBlock w1 r (.mapIter (some b) since (seen.push e.born) clock)).heap[b]? = some (.map es clock) := (heap_setBlock_ne (Ne.symm hne)).trans hb1
    have hr2 : (setBlock w1 r (.mapIter (some b) since (seen.push e.born) clock)).heap[r]? = some (.mapIter (some b) since (seen.push e.born) clock) := heap_setBlock hr1
    refine Or.inr ⟨i, e.val, _, (leftOf es (seen.push e.born)).size, ?_, (hf i e.val).2 ⟨e, hem, hi, rfl⟩, hrun, ⟨es, clock, since, seen.push e.born, clock, hb2, hs, hn, hk, hf, hr2, hold, hsk, hsk, rfl, ?_, ?_⟩, ?_, ?_, (setBlock_size ..).trans hsz1, ?_⟩
    · rw [hl1 e hem i hi, hes]; rfl
    · intro x hx j hj
      show (left j && !(j == i)) = _
      rw [hl1 x hx j hj, contains_push]
      by_cases hji : j = i
      · subst hji
        have : x = e := one_at hs hx hem (hj.trans hi.symm)
        subst this
        simp
      · have : (x.born == e.born) = false := by
          refine beq_eq_false_iff_ne.2 fun hbb => hji ?_
          have := born_inj hs.2.1 hx hem hbb
          subst this
          have := hj.symm.trans hi
          simpa using this
        rw [this, show (j == i) = false by simpa using hji]
        simp
    · intro j hj
      have hj' : left j = true := by
        have : (left j && !(j == i)) = true := hj
        revert this
        cases left j <;> simp
      exact hl2 j hj'
    · rw [← hc]; exact left_shrinks es seen e he
    · have h2 := grown_setBlock w1 r (.mapIter (some b) since (seen.push e.born) clock)
      exact (hg1.but (some r)).andThen h2 (fun j hj => by cases hj; exact Or.inr rfl)
    · have := run_entry_at (P := P) _ r b since seen es clock e hr2 hb2 hem hs.2.1
      rw [hi] at this
      exact this
end
section
variable {P : Program} {ops : Array Oper} {rest : List Oper} {o : Oper} {a : Act} {Q : Exit → Act → World → Prop}
theorem wpList_range_im (w : World) (hg : o.guard = none) (m : Operand) (t : TypeId) (hop : o.op = Op.range t m) (kt et : TypeId) (ht : P.underlying t = some (.map kt et)) (b n : Nat) (f : Int → Option Value) (hm : a.eval m = .map (some b)) (h : IM w b f n)
    (hK : ∀ w', IR w' b w.heap.size f n (fun i => (f i).isSome) n → w.grownBy w' none → w'.heap.size = w.heap.size + 1 → wpList P ops Q rest (a.put o.dst (.pointer (some ⟨w.heap.size, 0, none⟩))) w') :
    wpList P ops Q (o :: rest) a w := by
  refine wpList_plain hg fun K' hK' => ?_
  obtain ⟨w', hrun, r1, r2, r3⟩ := h.range ht
  unfold Oper.wp
  simp [execOp, hop, hm, hrun, Result.andThen]
  exact hK' _ _ (hK w' r1 r2 r3)
theorem wpList_next_im (w : World) (hg : o.guard = none) (it : Operand) (hop : o.op = Op.next it false) (b r n : Nat) (f : Int → Option Value) (left : Int → Bool) (cnt : Nat) (hit : a.eval it = .pointer (some ⟨r, 0, none⟩)) (h : IR w b r f n left cnt)
    (hDone : cnt = 0 → (∀ i, left i = false) → wpList P ops Q rest (a.put o.dst (.tuple #[.bool false])) w)
    (hMore : ∀ (i : Int) (v : Value) (w' : World) (cnt' : Nat), left i = true → f i = some v → IR w' b r f n (fun j => left j && !(j == i)) cnt' → cnt' < cnt → w.grownBy w' (some r) → w'.heap.size = w.heap.size →
      (Instr.entry (.pointer (some ⟨r, 0, none⟩))).run P w' = .ok (.tuple #[.int .i64 i, v]) w' → wpList P ops Q rest (a.put o.dst (.tuple #[.bool true, .int .i64 i, v])) w') :
    wpList P ops Q (o :: rest) a w := by
  refine wpList_plain hg fun K' hK' => ?_
  unfold Oper.wp
  rcases IR.next (P := P) h o.type with ⟨h0, hl, hrun⟩ | ⟨i, v, w', cnt', hl, hf, hrun, hir, hlt, hgr, hsz, hen⟩
  · simp [execOp, hop, hit, hrun, Result.andThen]
    exact hK' _ _ (hDone h0 hl)
  · simp [execOp, hop, hit, hrun, Result.andThen]
    exact hK' _ _ (hMore i v w' cnt' hl hf hir hlt hgr hsz hen)
end
end Go.Proofs.YtdopacgaklaaeaaDoor.PDeadRuns

namespace Go.Proofs.YtdopacgaklaaeaaDoor.PDeadRuns
open Go.RowKit Go.Proofs.YtdopacgaklaaeaaDoorW.PrintWords Go.Proofs.YtdopacgaklaaeaaDoorW.PrintLast Go.Proofs.YtdopacgaklaaeaaDoorW.PrintMore
set_option linter.unusedVariables false
set_option linter.unusedSimpArgs false
open Go.MapKept Go.RowKit
/-! Sets of ints as maps to true. -/
def setV (S : Int → Bool) : Int → Option Value := fun i => if S i = true then some (.bool true) else none
theorem setV_isSome (S : Int → Bool) (i : Int) : (setV S i).isSome = S i := by
  unfold setV
  cases S i <;> simp
theorem setV_upd (S : Int → Bool) (i : Int) : upd (setV S) i (.bool true) = setV (fun j => S j || j == i) := by
  funext j
  unfold upd setV
  by_cases h : j = i
  · subst h; simp
  · rw [if_neg h]
    show _ = if (S j || j == i) = true then _ else _
    rw [show (j == i) = false by simpa using h, Bool.or_false]
/-- how many keys a map has, when they are told by a list that names none twice -/
theorem IM.count {w : World} {b n : Nat} {f : Int → Option Value} (h : IM w b f n) {L : List Int} (hL : L.Nodup) (hm : ∀ i, i ∈ L ↔ (f i).isSome = true) : n = L.length := by
  obtain ⟨es, clock, hb, hs, hn, hk, hf⟩ := h
  have hp : (es.toList.map (·.key)).Perm (L.map (Value.int .i64)) := by
    refine (List.perm_ext_iff_of_nodup hs.2.2 (List.pairwise_map.2 (hL.imp fun hab e => hab (by simpa using e)))).2 fun v => ?_
    rw [List.mem_map, List.mem_map]
    constructor
    · rintro ⟨e, he, rfl⟩
      obtain ⟨i, hi⟩ := hk e he
      exact ⟨i, (hm i).2 (by rw [(hf i e.val).2 ⟨e, he, hi, rfl⟩]; rfl), hi.symm⟩
    · rintro ⟨i, hi, rfl⟩
      obtain ⟨v, hv⟩ := Option.isSome_iff_exists.1 ((hm i).1 hi)
      obtain ⟨e, he, hei, _⟩ := (hf i v).1 hv
      exact ⟨e, he, hei⟩
  have := hp.length_eq
  rw [List.length_map, List.length_map, Array.length_toList] at this
  omega
end Go.Proofs.YtdopacgaklaaeaaDoor.PDeadRuns

namespace Go.Proofs.YtdopacgaklaaeaaDoor.PDeadRuns
open Go.RowKit Go.Proofs.YtdopacgaklaaeaaDoorW.PrintWords Go.Proofs.YtdopacgaklaaeaaDoorW.PrintLast Go.Proofs.YtdopacgaklaaeaaDoorW.PrintMore
set_option linter.unusedVariables false
set_option linter.unusedSimpArgs false
open Go.MapKept Go.RowKit
set_option maxRecDepth 100000 in
/-- maps.Copy of one set into another. -/
theorem mapCopy.calls (b1 b2 n1 n2 : Nat) (S1 S2 : Int → Bool) (w : World) (h1 : IM w b1 (setV S1) n1) (h2 : IM w b2 (setV S2) n2) (hne : b1 ≠ b2) :
    Calls Tryd.prog 71 #[.map (some b1), .map (some b2)] w fun e w' => (∃ v, e = .returned v) ∧ (∃ m, IM w' b1 (setV (fun i => S1 i || S2 i)) m) ∧ w.grownBy w' (some b1) := by
  have hl1 := h1.lt
  have hl2 := h2.lt
  go_enter Tryd.func71, Tryd.ntmps71
  go_wp2_with (first
    | (at_range; refine wpList_range_im _ rfl _ 102 rfl 3 4 Tryd.underlying102 b2 n2 _ rfl h2 ?_; intro w0 hrg0 hg0 hs0)
    | go_in)
  go_frame
  go_loopw [8] (fun _ wr => ∃ (left : Int → Bool) (cnt m : Nat) (D : Int → Bool), IR wr b2 w.heap.size (setV S2) n2 left cnt ∧ IM wr b1 (setV D) m ∧ (∀ i, D i = (S1 i || (S2 i && !left i))) ∧ w.grownBy wr (some b1)) (fun _ wr => wr.rangeLeft b2 w.heap.size)
  case atStart =>
    refine ⟨_, _, _, S1, hrg0, h1.move (hg0.block b1 hl1 (by simp)), fun i => ?_, hg0.but _⟩
    rw [setV_isSome]
    cases S1 i <;> cases S2 i <;> rfl
  case round =>
    obtain ⟨left, cnt, m, D, hrg, hout, hD, hg⟩ := hrel
    go_wp2_with (first
      | (at_next; refine wpList_next_im _ rfl _ rfl b2 w.heap.size n2 _ _ _ rfl hrg ?_ ?_)
      | go_in)
    · intro hc0 hl0
      go_wp2
      (try simp only [Exit.inBlock, Exit.then])
      (first | refine bodyPost_end (results_none rfl _ _ _) rfl ?_ | refine bodyPost_ret (results_none rfl _ _ _) rfl ?_)
      refine ⟨⟨_, rfl⟩, ⟨m, hout.congr (fun i => ?_) rfl⟩, hg⟩
      unfold setV
      rw [hD i, hl0 i]
      simp
    · intro i v w1 cnt1 hli hfi hrg1 hlt hg1 hs1 hen
      have hv : v = .bool true := by
        unfold setV at hfi
        by_cases hS : S2 i = true
        · rw [if_pos hS] at hfi; exact (Option.some.inj hfi).symm
        · rw [if_neg hS] at hfi; exact absurd hfi (by simp)
      subst hv
      have hout1 := hout.move (hg1.block b1 hout.lt (fun e => by have := Option.some.inj e; omega))
      go_wp2_with (first
        | (at_mapUpdate; refine wpList_update_im _ rfl _ _ _ 102 rfl 3 4 Tryd.underlying102 rfl b1 m _ rfl hout1 i (.bool true) rfl rfl ?_; intro w2 hout2 hg2 hs2; go_frame)
        | go_in)
      have hrg2 := hrg1.kept hg2 (fun e => hne (Option.some.inj e).symm) (fun e => by have := Option.some.inj e; omega)
      go_roundw
      case rel =>
        refine ⟨_, cnt1, _, _, hrg2, setV_upd D i ▸ hout2, fun j => ?_, (hg.andThen hg1 (fun j hj => by cases hj; exact Or.inl (Nat.le_refl _))).andThen hg2 (fun j hj => by cases hj; exact Or.inr rfl)⟩
        have hS : S2 i = true := by
          have : (setV S2 i).isSome = true := by rw [hfi]; rfl
          rwa [setV_isSome] at this
        show (D j || j == i) = (S1 j || (S2 j && !(left j && !(j == i))))
        rw [hD j]
        by_cases hji : j = i
        · subst hji
          rw [hS]
          simp
        · rw [show (j == i) = false by simpa using hji]
          simp
      case measure => rw [hrg2.left_eq, hrg.left_eq]; exact hlt
end Go.Proofs.YtdopacgaklaaeaaDoor.PDeadRuns
