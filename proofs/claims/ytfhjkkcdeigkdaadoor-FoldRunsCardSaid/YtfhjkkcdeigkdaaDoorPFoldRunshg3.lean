import Derived.Test.YtfhjkkcdeigkdaaDoorPFoldRunsx0
import Derived.Maps.AppendAt
import Derived.Test.YtfhjkkcdeigkdaaDoorPFoldRunshway
import Derived.WalkKit
import Derived.Maps.RangeRun
import Derived.Maps.OwnSet
import Derived.Carry
import Derived.Lib.SlKeysI
import Derived.Below
import Derived.Test.YtfhjkkcdeigkdaaDoorPFoldRunsx3
import Derived.Test.YtfhjkkcdeigkdaaDoorPFoldRunsx4
import Derived.Test.YtfhjkkcdeigkdaaDoorPFoldRunshg6
import Derived.Test.YtfhjkkcdeigkdaaDoorPFoldRunshg0
import Derived.IntWalk
namespace Go.Proofs.YtfhjkkcdeigkdaaDoor.PFoldRuns
open Go.RowKit Go.Proofs.YtfhjkkcdeigkdaaDoorW.PrintWords Go.Proofs.YtfhjkkcdeigkdaaDoorW.PrintLast Go.Proofs.YtfhjkkcdeigkdaaDoorW.PrintMore
set_option linter.unusedVariables false
set_option linter.unusedSimpArgs false
/-! A queue: a row of ints of the call's own that is taken from at its head ('wait = wait[1:]') and appended to. -/
def QR (w : World) (base : Nat) (e : TypeId) (v : Value) (xs : List Int) : Prop :=
  (v = .slice none 0 0 ∧ xs = []) ∨ ∃ g off cap cur, v = .slice (some ⟨g, off, none⟩) xs.length cap ∧ base ≤ g ∧ w.heap[g]? = some (.cells cur e (0, 0)) ∧ off + cap ≤ cur.size ∧ xs.length ≤ cap ∧ cap ≤ maxLen ∧ ∀ j x, xs[j]? = some x → cur[off + j]? = some (.int .i64 x)
section
variable {w w' : World} {base : Nat} {e : TypeId} {v : Value} {xs : List Int}
theorem QR.slice (h : QR w base e v xs) : ∃ A c, v = .slice A xs.length c ∧ xs.length ≤ c ∧ xs.length ≤ maxLen := by
  rcases h with ⟨rfl, rfl⟩ | ⟨g, off, cap, cur, rfl, _, _, _, h4, h5, _⟩
  · exact ⟨none, 0, rfl, Nat.le_refl _, Nat.zero_le _⟩
  · exact ⟨_, _, rfl, h4, Nat.le_trans h4 h5⟩
theorem QR.lt (h : QR w base e v xs) : ∀ k, v.ownBlock = some k → base ≤ k ∧ k < w.heap.size := by
  rcases h with ⟨rfl, rfl⟩ | ⟨g, off, cap, cur, rfl, h1, h2, _⟩
  · intro k hk; cases hk
  · intro k hk
    obtain rfl : g = k := Option.some.inj hk
    exact ⟨h1, blk_lt h2⟩
theorem QR.kept {row : Option Nat} (h : QR w base e v xs) (hg : w.grownBy w' row) (hne : ∀ k, v.ownBlock = some k → some k ≠ row) : QR w' base e v xs := by
  rcases h with ⟨rfl, rfl⟩ | ⟨g, off, cap, cur, rfl, h1, h2, h3⟩
  · exact .inl ⟨rfl, rfl⟩
  · exact .inr ⟨g, off, cap, cur, rfl, h1, (hg.block g (blk_lt h2) (hne g rfl)).trans h2, h3⟩
theorem QR.move (h : QR w base e v xs) (hm : ∀ k, v.ownBlock = some k → w'.heap[k]? = w.heap[k]?) : QR w' base e v xs := by
  rcases h with ⟨rfl, rfl⟩ | ⟨g, off, cap, cur, rfl, h1, h2, h3⟩
  · exact .inl ⟨rfl, rfl⟩
  · exact .inr ⟨g, off, cap, cur, rfl, h1, (hm g rfl).trans h2, h3⟩
theorem QR.below (h : QR w base e v xs) (hb : Below w.heap.size w w') : QR w' base e v xs := h.move (fun k hk => hb.block k (h.lt k hk).2)
theorem QR.lower {base' : Nat} (h : QR w base e v xs) (hb : base' ≤ base) : QR w base' e v xs := by
  rcases h with h | ⟨g, off, cap, cur, rfl, h1, h2⟩
  · exact .inl h
  · exact .inr ⟨g, off, cap, cur, rfl, Nat.le_trans hb h1, h2⟩
theorem QR.of_own (h : w.ownsRow base e 1 v xs.length (xs.map (.int .i64))) : QR w base e v xs := by
  obtain ⟨_, h⟩ := h
  rcases h with ⟨rfl, h0⟩ | ⟨g, cap, cur, rfl, h1, h2, h3, h4, h5, h6⟩
  · exact .inl ⟨rfl, List.eq_nil_of_length_eq_zero h0⟩
  · refine .inr ⟨g, 0, cap, cur, rfl, h1, h2, by omega, h3, h4, fun j x hj => ?_⟩
    have hj' : (xs.map (Value.int .i64))[j]? = some (.int .i64 x) := by rw [List.getElem?_map, hj]; rfl
    rw [← h6, List.getElem?_take] at hj'
    split at hj'
    · rw [Nat.zero_add, ← Array.getElem?_toList]; exact hj'
    · cases hj'
theorem QR.of_R {ok : Nat → Prop} (h : Kd.R (Kd.int .i64) e w base ok v xs) : QR w base e v xs := by
  obtain ⟨A, c, rfl⟩ := Kd.R_slice h
  rcases Nat.eq_zero_or_pos xs.length with h0 | h0
  · obtain rfl := List.eq_nil_of_length_eq_zero h0
    have ho := (Kd.own_of_R h)
    exact QR.of_own ho
  · exact QR.of_own (Kd.own_of_R h)
end
section
variable {P : Program} (w : World)
theorem run_append_off (t ty e : TypeId) (i : TypeInfo) (ht : P.underlying t = some (.slice e)) (hi : P.info? e = some i) (h1 : i.size = 1)
    (g off sLen sCap : Nat) (cur : Array Value) (hg : w.heap[g]? = some (.cells cur e (0, 0))) (a : Addr) (c : Nat) (u : Value) (hu : ∀ j y, [u][j]? = some y → w.cell? (a.add j) = some y) (hone : u.oneCell' = true) (hroom : sLen + 1 ≤ sCap) (hfit : off + sLen + 1 ≤ cur.size) :
    (Builtin.append_ #[t, t] ty #[.slice (some ⟨g, off, none⟩) sLen sCap, .slice (some a) 1 c]).run P w = .ok (.slice (some ⟨g, off, none⟩) (sLen + 1) sCap) (w.setRow g (cur.toList.take (off + sLen) ++ [u] ++ cur.toList.drop (off + sLen + 1)).toArray) := by
  have hf := run_firstCells_some (P := P) w i.size 1 a 1 c [u] (by simp [h1]) hu
  have hst := run_storeCells_at P g (off + sLen) e [u] 0 cur w hg (by simpa using hfit) (by simpa using hone)
  simp only [Nat.add_zero, List.length_singleton] at hst
  simp only [h1, Nat.mul_one] at hf
  simp [Builtin.append_, run_underlying ht, sizeOf, typeInfo, hi, Builtin.lenOf, hroom, hf, h1, Addr.add_lit, hst]
theorem run_queue (base : Nat) (t ty e : TypeId) (i : TypeInfo) (z : Value) (ht : P.underlying t = some (.slice e)) (hi : P.info? e = some i) (hz : i.zero = some z) (hsize : i.size = 1) (hby : i.bytes = 8) (hzs : z.cells.size = 1)
    (v : Value) (xs : List Int) (hq : QR w base e v xs) (a : Addr) (c : Nat) (x : Int) (hx : ∀ j y, [Value.int .i64 x][j]? = some y → w.cell? (a.add j) = some y) (hb : xs.length ≤ 2000000) (hbase : base ≤ w.heap.size) :
    ∃ v' w', (Builtin.append_ #[t, t] ty #[v, .slice (some a) 1 c]).run P w = .ok v' w' ∧ QR w' base e v' (xs ++ [x]) ∧ w.grownBy w' v.ownBlock ∧ (v'.ownBlock = v.ownBlock ∨ v'.ownBlock = some w.heap.size) := by
  rcases hq with ⟨rfl, rfl⟩ | ⟨g, off, cap, cur, rfl, hbg, hg, hoc, hnc, hcm, hcur⟩
  · obtain ⟨v', w', h1, h2, h3, _, h5⟩ := run_append_own_at (P := P) w base t ty e i z 1 8 ht hi hz hsize hby hzs (by omega) _ 0 [] (World.ownsRow_nil w base e 1) a 1 c [.int .i64 x] rfl hx (by simp [Value.oneCell']) (by simp [maxLen]) (by omega) hbase
    exact ⟨v', w', h1, QR.of_own (xs := [x]) h2, h3, h5⟩
  · by_cases hroom : xs.length + 1 ≤ cap
    · have hr := run_append_off (P := P) w t ty e i ht hi hsize g off xs.length cap cur hg a c (.int .i64 x) hx (by simp [Value.oneCell']) hroom (by omega)
      refine ⟨_, _, hr, .inr ⟨g, off, cap, _, by simp, hbg, setRow_heap w g cur _ e _ hg, ?_, by simpa using hroom, hcm, ?_⟩, ⟨rfl, rfl, rfl, by simp, fun k _ hk => setRow_other w g k _ (fun e => hk (by simp [Value.ownBlock, e]))⟩, Or.inl rfl⟩
      · simp only [List.size_toArray, List.length_append, List.length_take, List.length_drop, Array.length_toList, List.length_singleton]
        omega
      · intro j y hj
        have hlt : off + xs.length ≤ cur.toList.length := by have := @Array.length_toList _ cur; omega
        rw [List.getElem?_toArray, List.append_assoc]
        by_cases hjl : j < xs.length
        · rw [List.getElem?_append_left hjl] at hj
          rw [List.getElem?_append_left (by rw [List.length_take]; omega), List.getElem?_take, if_pos (by omega), Array.getElem?_toList]
          exact hcur j y hj
        · rw [List.getElem?_append_right (by omega)] at hj
          have hj0 : j - xs.length = 0 := by
            have := (List.getElem?_eq_some_iff.1 hj).1
            simp at this
            omega
          rw [hj0] at hj
          rw [List.getElem?_append_right (by rw [List.length_take]; omega), List.length_take, show off + j - min (off + xs.length) cur.toList.length = 0 by omega]
          simp at hj ⊢
          exact hj
    · have holds : ∀ j u, (xs.map (Value.int .i64))[j]? = some u → w.cell? ((⟨g, off, none⟩ : Addr).add j) = some u := by
        intro j u hj
        rw [List.getElem?_map] at hj
        obtain ⟨y, hy, rfl⟩ := Option.map_eq_some_iff.1 hj
        have := hcur j y hy
        rw [Addr.add_lit, cell_of_row w g (off + j) cur e (0, 0) hg]
        exact this
      have hr := run_append_grow (P := P) w t ty e i z ht hi hz ⟨g, off, none⟩ xs.length cap (xs.map (Value.int .i64)) (by simp [hsize]) holds a 1 c [.int .i64 x] (by simp [hsize]) hx (by omega) (by omega) (growslice_fits (by omega) (by rw [hby]; omega))
      have hge := grownCap_ge w (xs.length + 1) cap e
      have hcm2 : grownCap w (xs.length + 1) cap e ≤ maxLen := grownCap_le_maxLen w (xs.length + 1) cap e (by simp [maxLen]; omega)
      refine ⟨_, _, hr, .inr ⟨w.heap.size, 0, grownCap w (xs.length + 1) cap e, _, by simp, hbase, heap_alloc_new w.drew _, ?_, by simpa using hge, hcm2, ?_⟩, ⟨rfl, rfl, rfl, by simp, fun k hk _ => heap_alloc_old w.drew _ hk⟩, Or.inr rfl⟩
      · simp only [Array.size_append, List.size_toArray, size_zeroCells, hzs, List.length_map, List.length_singleton]
        omega
      · intro j y hj
        have hjl : j < xs.length + 1 := by have := (List.getElem?_eq_some_iff.1 hj).1; simpa using this
        have hm : ((xs ++ [x]).map (Value.int .i64))[j]? = some (.int .i64 y) := by rw [List.getElem?_map, hj]; rfl
        rw [Nat.zero_add, Array.getElem?_append_left (by simp; omega)]
        rw [show (xs.map (Value.int .i64)).toArray ++ [Value.int .i64 x].toArray = ((xs ++ [x]).map (Value.int .i64)).toArray by simp]
        simpa using hm
/-- 'append(wait, x)' in the walk -/
theorem wpList_queue {ops : Array Oper} {rest : List Oper} {o : Oper} {a : Act} {Q : Exit → Act → World → Prop} {w0 W : World} (base : Nat) (hgd : o.guard = none) (s x : Operand) (t e : TypeId) (z : Value)
    (ho : o.op = .call { callee := .builtin .append, args := #[s, x], argTypes := #[t, t] }) (ht : P.underlying t = some (.slice e)) (hinfo : (P.info? e).map (fun i => (i.zero, i.size, i.bytes)) = some (some z, 1, 8)) (hzs : z.cells.size = 1)
    (v : Value) (xs : List Int) (y : Int) (hs : a.eval s = v) (hx : a.eval x = .slice (some ⟨W.heap.size, 0, none⟩) 1 1) (hq : QR W base e v xs) (HB : Below base w0 W) (hbase : base ≤ W.heap.size) (hb : xs.length ≤ 2000000)
    (h : ∀ v1 w1, QR w1 base e v1 (xs ++ [y]) → Below base w0 w1 → W.grownBy w1 v.ownBlock → (v1.ownBlock = v.ownBlock ∨ ∃ b, v1.ownBlock = some b ∧ W.heap.size ≤ b) → wpList P ops Q rest (a.put o.dst v1) w1) :
    wpList P ops Q (o :: rest) a (W.alloc (.cells #[.int .i64 y] e)) := by
  obtain ⟨i0, hi, hzz⟩ := Option.map_eq_some_iff.1 hinfo
  simp only [Prod.mk.injEq] at hzz
  obtain ⟨hz0, hz1, hz2⟩ := hzz
  refine wpList_plain hgd fun K hK => ?_
  obtain ⟨v', w', hr, h2, h3, h4⟩ := run_queue (P := P) (W.alloc (.cells #[.int .i64 y] e)) base t o.type e i0 z ht hi hz0 hz1 hz2 hzs v xs (hq.below ((Below.refl _ _).alloc (Nat.le_refl _) _)) ⟨W.heap.size, 0, none⟩ 1 y (cell_one_new _ _ _) hb (by simp; omega)
  unfold Oper.wp execOp
  simp only [ho, resolve, invoke, builtin, Sem.run_bind, Sem.run_pure, Result.andThen_ok, List.map_toArray, List.map_cons, List.map_nil, hs, hx, hr]
  have hg := World.grownBy.trans (World.grownBy_alloc W (.cells #[.int .i64 y] e) v.ownBlock) h3
  refine hK _ _ (h v' w' h2 ((HB.alloc hbase _).grown h3 (by simp; omega) (fun k hk => (hq.lt k hk).1)) hg ?_)
  rcases h4 with h4 | h4
  · exact .inl h4
  · exact .inr ⟨_, h4, by simp⟩
end
end Go.Proofs.YtfhjkkcdeigkdaaDoor.PFoldRuns

namespace Go.Proofs.YtfhjkkcdeigkdaaDoor.PFoldRuns
open Go.RowKit Go.Proofs.YtfhjkkcdeigkdaaDoorW.PrintWords Go.Proofs.YtfhjkkcdeigkdaaDoorW.PrintLast Go.Proofs.YtfhjkkcdeigkdaaDoorW.PrintMore
set_option linter.unusedVariables false
set_option linter.unusedSimpArgs false
open Go.MapKept Go.RowKit
open Go.ChangeMaps (setBlock)

/-- Block b is a map from ints (of n entries) that has just what f says. -/
def IM (w : World) (b : Nat) (f : Int → Option Value) (n : Nat) : Prop :=
  ∃ es clock, w.heap[b]? = some (.map es clock) ∧ Stamped es clock ∧ es.size = n ∧
    (∀ e ∈ es.toList, ∃ i, e.key = .int .i64 i) ∧ (∀ i v, f i = some v ↔ ∃ e ∈ es.toList, e.key = .int .i64 i ∧ e.val = v)

def upd {α : Type} (f : Int → Option α) (i : Int) (v : α) : Int → Option α := fun j => if j = i then some v else f j
def del {α : Type} (f : Int → Option α) (i : Int) : Int → Option α := fun j => if j = i then none else f j

section
variable {w w1 : World} {b n : Nat} {f : Int → Option Value} {P : Program}

theorem IM.lt (h : IM w b f n) : b < w.heap.size := by
  obtain ⟨es, clock, hb, _⟩ := h
  exact (Array.getElem?_eq_some_iff.1 hb).1
theorem IM.move (h : IM w b f n) (hm : w1.heap[b]? = w.heap[b]?) : IM w1 b f n := by
  obtain ⟨es, clock, hb, r⟩ := h
  exact ⟨es, clock, hm.trans hb, r⟩
theorem IM.below {B : Nat} (h : IM w b f n) (hb : Below B w w1) (hB : b < B) : IM w1 b f n := h.move (hb.block b hB)
theorem IM.congr {g : Int → Option Value} {m : Nat} (h : IM w b f n) (hg : ∀ i, f i = g i) (hm : n = m) : IM w b g m := by
  subst hm
  obtain rfl : f = g := funext hg
  exact h
theorem IM.made (w : World) : IM (w.alloc (.map #[] 0)) w.heap.size (fun _ => none) 0 :=
  ⟨#[], 0, heap_alloc_new w _, stamped_empty 0, rfl, by simp, by simp⟩

theorem keys_kind {es : Array MapEntry} (hk : ∀ e ∈ es.toList, ∃ i, e.key = .int .i64 i) : ∀ e ∈ es.toList, IsKey (.int .i64) e.key := fun e he => by
  obtain ⟨i, hi⟩ := hk e he
  rw [hi]; rfl
/-- two entries at one key are one -/
theorem one_at {es : Array MapEntry} {clock : Nat} (hs : Stamped es clock) {e e' : MapEntry} (he : e ∈ es.toList) (he' : e' ∈ es.toList) (h : e.key = e'.key) : e = e' := by
  have hp := ((stamped_iff es clock).1 hs).2.2
  obtain ⟨i, hi, rfl⟩ := List.mem_iff_getElem.1 he
  obtain ⟨j, hj, rfl⟩ := List.mem_iff_getElem.1 he'
  rcases Nat.lt_trichotomy i j with hlt | rfl | hlt
  · exact absurd h (List.pairwise_iff_getElem.1 hp i j hi hj hlt)
  · rfl
  · exact absurd h.symm (List.pairwise_iff_getElem.1 hp j i hj hi hlt)

theorem find_either {kt : TypeId} (hd : P.underlying kt = some (.int .i64)) {es : Array MapEntry} {clock : Nat} (hs : Stamped es clock) (hk : ∀ e ∈ es.toList, ∃ i, e.key = .int .i64 i)
    (hf : ∀ i v, f i = some v ↔ ∃ e ∈ es.toList, e.key = .int .i64 i ∧ e.val = v) (i : Int) :
    (f i = none ∧ (Instr.findKey kt (.int .i64 i) es.toList).run P w = .ok none w ∧ ∀ e ∈ es.toList, e.key ≠ .int .i64 i) ∨
    ∃ j e, f i = some e.val ∧ (Instr.findKey kt (.int .i64 i) es.toList).run P w = .ok (some (j, e.val)) w ∧ es.toList[j]? = some e ∧ e.key = .int .i64 i := by
  rcases findNow_spec (d := .int .i64) (k := .int .i64 i) rfl es.toList 0 (keys_kind hk) with ⟨h1, h2⟩ | ⟨j, e0, h1, h2, h3⟩
  · refine .inl ⟨?_, run_findKey hd h1, h2⟩
    cases hfi : f i with
    | none => rfl
    | some v =>
      obtain ⟨e, he, hke, _⟩ := (hf i v).1 hfi
      exact absurd hke (h2 e he)
  · exact .inr ⟨j, e0, (hf i _).2 ⟨e0, List.mem_of_getElem? h2, h3, rfl⟩, by simpa using run_findKey hd h1, h2, h3⟩

/-- 'm[i]' -/
theorem IM.lookup {t kt et : TypeId} (h : IM w b f n) (ht : P.underlying t = some (.map kt et)) (hd : P.underlying kt = some (.int .i64)) {z : Value} (hz : (zeroValue et).run P w = .ok z w) (i : Int) :
    (Instr.lookup t (.map (some b)) (.int .i64 i) false).run P w = .ok ((f i).getD z) w := by
  obtain ⟨es, clock, hb, hs, hn, hk, hf⟩ := h
  rcases find_either (w := w) hd hs hk hf i with ⟨h0, h1, _⟩ | ⟨j, e, h0, h1, _⟩
  · simp [Instr.lookup, run_underlying ht, MapKept.run_getObj_map hb, run_checkKey hd (k := .int .i64 i) rfl, h1, h0, hz, Result.andThen]
  · simp [Instr.lookup, run_underlying ht, MapKept.run_getObj_map hb, run_checkKey hd (k := .int .i64 i) rfl, h1, h0, Result.andThen]
/-- 'v, ok := m[i]' -/
theorem IM.lookup_ok {t kt et : TypeId} (h : IM w b f n) (ht : P.underlying t = some (.map kt et)) (hd : P.underlying kt = some (.int .i64)) {z : Value} (hz : (zeroValue et).run P w = .ok z w) (i : Int) :
    (Instr.lookup t (.map (some b)) (.int .i64 i) true).run P w = .ok (.tuple #[(f i).getD z, .bool (f i).isSome]) w := by
  obtain ⟨es, clock, hb, hs, hn, hk, hf⟩ := h
  rcases find_either (w := w) hd hs hk hf i with ⟨h0, h1, _⟩ | ⟨j, e, h0, h1, _⟩
  · simp [Instr.lookup, run_underlying ht, MapKept.run_getObj_map hb, run_checkKey hd (k := .int .i64 i) rfl, h1, h0, hz, Result.andThen]
  · simp [Instr.lookup, run_underlying ht, MapKept.run_getObj_map hb, run_checkKey hd (k := .int .i64 i) rfl, h1, h0, Result.andThen]
theorem lookup_nil {t kt et : TypeId} (ht : P.underlying t = some (.map kt et)) (hd : P.underlying kt = some (.int .i64)) {z : Value} (hz : (zeroValue et).run P w = .ok z w) (i : Int) (c : Bool) :
    (Instr.lookup t (.map none) (.int .i64 i) c).run P w = .ok (if c then .tuple #[z, .bool false] else z) w := by
  have h1 : (Instr.findKey kt (.int .i64 i) []).run P w = .ok none w := run_findKey hd rfl
  cases c <;> simp [Instr.lookup, run_underlying ht, run_checkKey hd (k := .int .i64 i) rfl, h1, hz, Result.andThen]
/-- 'len(m)' -/
theorem IM.len {t kt et : TypeId} (h : IM w b f n) (ht : P.underlying t = some (.map kt et)) (ty : TypeId) : (Builtin.len_ #[t] ty #[.map (some b)]).run P w = .ok (.int .i64 n) w := by
  obtain ⟨es, clock, hb, hs, hn, hk, hf⟩ := h
  subst hn
  simp [Builtin.len_, run_underlying ht, MapKept.run_getObj_map hb, Result.andThen, goInt]

theorem heap_setBlock {o o' : Obj} (hb : w.heap[b]? = some o) : (setBlock w b o').heap[b]? = some o' := (heap_set hb).1
theorem heap_setBlock_ne {o' : Obj} {k : Nat} (hk : k ≠ b) : (setBlock w b o').heap[k]? = w.heap[k]? := by
  simp [setBlock, Array.getElem?_setIfInBounds, Ne.symm hk]
theorem setBlock_size (w : World) (b : Nat) (o' : Obj) : (setBlock w b o').heap.size = w.heap.size := by simp [setBlock]
theorem grown_setBlock (w : World) (b : Nat) (o' : Obj) : w.grownBy (setBlock w b o') (some b) :=
  ⟨rfl, rfl, rfl, by simp [setBlock], fun i _ hi => heap_setBlock_ne (fun e => hi (by rw [e]))⟩

/-- 'm[i] = v' -/
theorem IM.update {t kt et : TypeId} (h : IM w b f n) (ht : P.underlying t = some (.map kt et)) (hd : P.underlying kt = some (.int .i64)) (i : Int) (v : Value) :
    ∃ w', (Instr.mapUpdate t (.map (some b)) (.int .i64 i) v).run P w = .ok () w' ∧ IM w' b (upd f i v) (if (f i).isSome then n else n + 1) ∧ w.grownBy w' (some b) ∧ w'.heap.size = w.heap.size := by
  obtain ⟨es, clock, hb, hs, hn, hk, hf⟩ := h
  rcases find_either (w := w) hd hs hk hf i with ⟨h0, h1, h2⟩ | ⟨j, e, h0, h1, h2, h3⟩
  · refine ⟨setBlock w b (.map (es.push ⟨.int .i64 i, v, clock⟩) (clock + 1)), ?_, ⟨_, _, heap_setBlock hb, stamped_push hs h2, ?_, ?_, ?_⟩, grown_setBlock .., setBlock_size ..⟩
    · simp [Instr.mapUpdate, run_underlying ht, MapKept.run_getObj_map hb, run_checkKey hd (k := .int .i64 i) rfl, h1, Result.andThen, run_setObj_map _ hb, setBlock]
    · simp [h0, hn]
    · intro e he
      simp only [Array.toList_push, List.mem_append, List.mem_singleton] at he
      rcases he with he | rfl
      · exact hk e he
      · exact ⟨i, rfl⟩
    · intro i' v'
      simp only [Array.toList_push, List.mem_append, List.mem_singleton, upd]
      by_cases hi : i' = i
      · subst hi
        simp only [if_true, Option.some.injEq]
        constructor
        · rintro rfl
          exact ⟨_, .inr rfl, rfl, rfl⟩
        · rintro ⟨e, he | rfl, hke, hve⟩
          · exact absurd hke (h2 e he)
          · exact hve
      · rw [if_neg hi, hf]
        constructor
        · rintro ⟨e, he, r⟩
          exact ⟨e, .inl he, r⟩
        · rintro ⟨e, he | rfl, hke, hve⟩
          · exact ⟨e, he, hke, hve⟩
          · simp at hke; exact absurd hke.symm hi
  · have hkey : ∀ e' ∈ es.toList, es[j]? = some e' → e'.key = .int .i64 i := fun e' _ he' => by
      rw [← Array.getElem?_toList, h2] at he'
      cases he'
      exact h3
    have hjl : j < es.toList.length := (List.getElem?_eq_some_iff.1 h2).1
    have hmem : ∀ x, x ∈ (es.modify j (fun e' => { e' with key := .int .i64 i, val := v })).toList ↔ x = { e with key := .int .i64 i, val := v } ∨ (x ∈ es.toList ∧ x.key ≠ .int .i64 i) := by
      intro x
      rw [List.mem_iff_getElem?]
      simp only [Array.getElem?_toList, Array.getElem?_modify]
      have hej : es[j]? = some e := by rw [← Array.getElem?_toList]; exact h2
      constructor
      · rintro ⟨k, hx⟩
        by_cases hkj : j = k
        · subst hkj
          rw [if_pos rfl, hej] at hx
          simp at hx
          exact .inl hx.symm
        · rw [if_neg hkj] at hx
          have hxm : x ∈ es.toList := by
            rw [List.mem_iff_getElem?]
            exact ⟨k, by rw [Array.getElem?_toList]; exact hx⟩
          refine .inr ⟨hxm, fun hxk => hkj ?_⟩
          have hp := ((stamped_iff es clock).1 hs).2.2
          have hkl : k < es.toList.length := by
            rw [← Array.getElem?_toList] at hx
            exact (List.getElem?_eq_some_iff.1 hx).1
          have hxe : es.toList[k] = x := by
            rw [← Array.getElem?_toList] at hx
            exact (List.getElem?_eq_some_iff.1 hx).2
          have hee : es.toList[j] = e := (List.getElem?_eq_some_iff.1 h2).2
          rcases Nat.lt_trichotomy j k with hlt | he | hlt
          · exact absurd (by rw [hee, hxe, h3, hxk]) (List.pairwise_iff_getElem.1 hp j k hjl hkl hlt)
          · exact he
          · exact absurd (by rw [hee, hxe, h3, hxk]) (List.pairwise_iff_getElem.1 hp k j hkl hjl hlt)
      · rintro (rfl | ⟨hx, hxk⟩)
        · exact ⟨j, by rw [if_pos rfl, hej]; rfl⟩
        · obtain ⟨k, hk'⟩ := List.mem_iff_getElem?.1 hx
          refine ⟨k, ?_⟩
          have : j ≠ k := by
            rintro rfl
            rw [h2] at hk'
            cases hk'
            exact hxk h3
          rw [if_neg this, ← Array.getElem?_toList]
          exact hk'
    refine ⟨setBlock w b (.map (es.modify j fun e' => { e' with key := .int .i64 i, val := v }) clock), ?_, ⟨_, _, heap_setBlock hb, stamped_modify hs _ _ (fun _ _ => rfl) (fun e' he0 he' => (hkey e' he0 he').symm), ?_, ?_, ?_⟩, grown_setBlock .., setBlock_size ..⟩
    · have hke : ((es[j]?).map (·.key)).getD (.int .i64 i) = .int .i64 i := by
        rw [← Array.getElem?_toList, h2]; simpa using h3
      simp [Instr.mapUpdate, run_underlying ht, MapKept.run_getObj_map hb, run_checkKey hd (k := .int .i64 i) rfl, h1, Result.andThen, hke, run_keyThatStays (d := .int .i64) (k := .int .i64 i) rfl, run_setObj_map _ hb, setBlock]
    · simp [h0, hn]
    · intro x hx
      rcases (hmem x).1 hx with rfl | ⟨hx, _⟩
      · exact ⟨i, rfl⟩
      · exact hk x hx
    · intro i' v'
      simp only [upd]
      by_cases hi : i' = i
      · subst hi
        simp only [if_true, Option.some.injEq]
        constructor
        · rintro rfl
          exact ⟨_, (hmem _).2 (.inl rfl), rfl, rfl⟩
        · rintro ⟨x, hx, hxk, hxv⟩
          rcases (hmem x).1 hx with rfl | ⟨_, hne⟩
          · exact hxv
          · exact absurd hxk hne
      · rw [if_neg hi, hf]
        constructor
        · rintro ⟨x, hx, hxk, hxv⟩
          exact ⟨x, (hmem _).2 (.inr ⟨hx, by rw [hxk]; simp; exact hi⟩), hxk, hxv⟩
        · rintro ⟨x, hx, hxk, hxv⟩
          rcases (hmem x).1 hx with rfl | ⟨hx, _⟩
          · simp at hxk; exact absurd hxk.symm hi
          · exact ⟨x, hx, hxk, hxv⟩

/-- 'delete(m, i)' -/
theorem IM.delete {t kt et : TypeId} (h : IM w b f n) (ht : P.underlying t = some (.map kt et)) (hd : P.underlying kt = some (.int .i64)) (i : Int) (ty : TypeId) :
    ∃ w', (Builtin.delete_ #[t, kt] ty #[.map (some b), .int .i64 i]).run P w = .ok (.tuple #[]) w' ∧ IM w' b (del f i) (if (f i).isSome then n - 1 else n) ∧ w.grownBy w' (some b) ∧ w'.heap.size = w.heap.size := by
  obtain ⟨es, clock, hb, hs, hn, hk, hf⟩ := h
  rcases find_either (w := w) hd hs hk hf i with ⟨h0, h1, h2⟩ | ⟨j, e, h0, h1, h2, h3⟩
  · refine ⟨setBlock w b (.map es clock), ?_, ⟨_, _, heap_setBlock hb, hs, ?_, hk, ?_⟩, grown_setBlock .., setBlock_size ..⟩
    · simp [Builtin.delete_, run_underlying ht, MapKept.run_getObj_map hb, run_checkKey hd (k := .int .i64 i) rfl, h1, Result.andThen, run_setObj_map _ hb, setBlock]
    · simp [h0, hn]
    · intro i' v'
      simp only [del]
      by_cases hi : i' = i
      · subst hi
        simp only [if_true, reduceCtorEq, false_iff, not_exists, not_and]
        intro e he hke
        exact absurd hke (h2 e he)
      · rw [if_neg hi, hf]
  · have hjl : j < es.size := by simpa using (List.getElem?_eq_some_iff.1 h2).1
    have hej : es.toList[j]'(by simpa using hjl) = e := (List.getElem?_eq_some_iff.1 h2).2
    have hsub : (es.eraseIdxIfInBounds j).toList = es.toList.eraseIdx j := by
      unfold Array.eraseIdxIfInBounds
      rw [dif_pos hjl]
      simp
    have hmem : ∀ x, x ∈ (es.eraseIdxIfInBounds j).toList ↔ x ∈ es.toList ∧ x.key ≠ .int .i64 i := by
      intro x
      rw [hsub, List.mem_eraseIdx_iff_getElem]
      have hp := ((stamped_iff es clock).1 hs).2.2
      constructor
      · rintro ⟨k, hkl, hkj, rfl⟩
        refine ⟨List.getElem_mem _, fun hxk => ?_⟩
        rcases Nat.lt_or_gt_of_ne hkj with hlt | hlt
        · exact absurd (by rw [hxk, hej, h3]) (List.pairwise_iff_getElem.1 hp k j hkl (by simpa using hjl) hlt)
        · exact absurd (by rw [hxk, hej, h3]) (List.pairwise_iff_getElem.1 hp j k (by simpa using hjl) hkl hlt)
      · rintro ⟨hx, hxk⟩
        obtain ⟨k, hkl, rfl⟩ := List.mem_iff_getElem.1 hx
        refine ⟨k, hkl, ?_, rfl⟩
        rintro rfl
        rw [hej] at hxk
        exact hxk h3
    refine ⟨setBlock w b (.map (es.eraseIdxIfInBounds j) clock), ?_, ⟨_, _, heap_setBlock hb, stamped_erase hs j, ?_, ?_, ?_⟩, grown_setBlock .., setBlock_size ..⟩
    · simp [Builtin.delete_, run_underlying ht, MapKept.run_getObj_map hb, run_checkKey hd (k := .int .i64 i) rfl, h1, Result.andThen, run_setObj_map _ hb, setBlock]
    · have : (es.eraseIdxIfInBounds j).size = es.size - 1 := by
        unfold Array.eraseIdxIfInBounds
        rw [dif_pos hjl]
        simp
      simp [h0, this, hn]
    · intro x hx
      exact hk x ((hmem x).1 hx).1
    · intro i' v'
      simp only [del]
      by_cases hi : i' = i
      · subst hi
        simp only [if_true, reduceCtorEq, false_iff, not_exists, not_and]
        intro x hx hxk
        exact absurd hxk ((hmem x).1 hx).2
      · rw [if_neg hi, hf]
        constructor
        · rintro ⟨x, hx, hxk, hxv⟩
          exact ⟨x, (hmem x).2 ⟨hx, by rw [hxk]; simp; exact hi⟩, hxk, hxv⟩
        · rintro ⟨x, hx, hxk, hxv⟩
          exact ⟨x, ((hmem x).1 hx).1, hxk, hxv⟩

/-! ### the kit's word for the same map: every element reads as itself -/
def anyElem (v : Value) : Option (DataW Value × List MemPlace) := some (.held v, [])
theorem insert_mem {x p : Lit × DataW Value} : ∀ {l : List (Lit × DataW Value)}, p ∈ DataW.insert x l ↔ p = x ∨ p ∈ l
  | [] => by simp [DataW.insert]
  | y :: l => by
    unfold DataW.insert
    split
    · simp
    · simp only [List.mem_cons, insert_mem (l := l)]
      constructor
      · rintro (h | h | h)
        · exact .inr (.inl h)
        · exact .inl h
        · exact .inr (.inr h)
      · rintro (h | h | h)
        · exact .inr (.inl h)
        · exact .inl h
        · exact .inr (.inr h)
theorem foldr_mem {p : Lit × DataW Value} : ∀ {l : List (Lit × DataW Value)}, p ∈ l.foldr DataW.insert [] ↔ p ∈ l
  | [] => by simp
  | x :: l => by simp [insert_mem, foldr_mem (l := l)]
theorem IM.owns {kt : TypeId} (h : IM w b f n) (hd : P.underlying kt = some (.int .i64)) (hwf : ∀ i, (f i).isSome = true → (Lit.int .i64 i).wf = true) (hn : n ≤ maxLen) :
    ∃ D : DataW Value, w.ownsMap P kt anyElem b n D ∧ Maps.size D = n ∧ (intKeys D).length = n ∧ (intKeys D).Nodup ∧ ∀ i, i ∈ intKeys D ↔ (f i).isSome = true := by
  obtain ⟨es, clock, hb, hs, hsz, hk, hf⟩ := h
  have hread : ∀ x ∈ es.toList, ∃ i, x.key = .int .i64 i ∧ WideElems.rd P kt anyElem x = some (.int .i64 i, .held x.val) := fun x hx => by
    obtain ⟨i, hi⟩ := hk x hx
    have hw : (Lit.int .i64 i).wf = true := hwf i (by rw [(hf i x.val).2 ⟨x, hx, hi, rfl⟩]; rfl)
    refine ⟨i, hi, ?_⟩
    unfold WideElems.rd
    rw [hi, Maps.keyOf_int_mk hd hw]
    rfl
  have hrg : ∀ x ∈ es.toList, ∃ i, x.key = .int .i64 i ∧ WideElems.rg P kt anyElem x = (.int .i64 i, .held x.val) := fun x hx => by
    obtain ⟨i, hi, hr⟩ := hread x hx
    exact ⟨i, hi, WideElems.rg_of hr⟩
  have F : WideElems.Fit P kt anyElem es clock := ⟨by omega, hs, fun x hx => by obtain ⟨i, _, hr⟩ := hread x hx; exact ⟨_, hr⟩⟩
  have hown : w.ownsMap P kt anyElem b n (.map ((es.toList.map (WideElems.rg P kt anyElem)).foldr DataW.insert [])) := ⟨es, clock, hb, F, by omega, rfl⟩
  have hlen : ((es.toList.map (WideElems.rg P kt anyElem)).foldr DataW.insert []).length = n := by rw [length_sorted]; simpa using hsz
  refine ⟨_, hown, hlen, by simpa [intKeys] using hlen, ?_, fun i => ?_⟩
  · have hp := Maps.fit_apart (Maps.int_keyed hd) F
    have hkeys : ∀ p ∈ (es.toList.map (WideElems.rg P kt anyElem)).foldr DataW.insert [], ∃ i, p.1 = .int .i64 i := fun p hp' => by
      rw [foldr_mem] at hp'
      obtain ⟨x, hx, rfl⟩ := List.mem_map.1 hp'
      obtain ⟨i, _, hr⟩ := hrg x hx
      exact ⟨i, by rw [hr]⟩
    obtain ⟨D0, hD0⟩ : ∃ D0, D0 = (es.toList.map (WideElems.rg P kt anyElem)).foldr DataW.insert [] := ⟨_, rfl⟩
    have htidy : Maps.Tidy (.map D0) := by rw [hD0]; exact hown.tidy (Maps.int_keyed hd)
    rw [← hD0] at hkeys ⊢
    obtain ⟨es0, he, hpw⟩ := htidy
    cases he
    simp only [intKeys]
    rw [List.nodup_iff_pairwise_ne, List.pairwise_map]
    refine List.Pairwise.imp_of_mem ?_ hpw
    intro p q hp' hq' hne
    obtain ⟨i, hi⟩ := hkeys p hp'
    obtain ⟨j, hj⟩ := hkeys q hq'
    rw [hi, hj] at hne ⊢
    intro e
    simp [_root_.Go.intOf] at e
    exact hne (by rw [e])
  · simp only [intKeys, List.mem_map, foldr_mem]
    constructor
    · rintro ⟨p, ⟨x, hx, rfl⟩, he⟩
      obtain ⟨j, hj, hr⟩ := hrg x hx
      rw [hr] at he
      simp [_root_.Go.intOf] at he
      subst he
      rw [(hf j x.val).2 ⟨x, hx, hj, rfl⟩]
      rfl
    · intro hi
      obtain ⟨v, hv⟩ := Option.isSome_iff_exists.1 hi
      obtain ⟨x, hx, hxk, hxv⟩ := (hf i v).1 hv
      obtain ⟨j, hj, hr⟩ := hrg x hx
      refine ⟨_, ⟨x, hx, rfl⟩, ?_⟩
      rw [hr]
      rw [hj] at hxk
      simpa [_root_.Go.intOf] using hxk

/-! ### at the operation, for the walk -/
section
variable {ops : Array Oper} {rest : List Oper} {o : Oper} {a : Act} {Q : Exit → Act → World → Prop}
theorem wpList_update_im (w : World) (hg : o.guard = none) (m x v : Operand) (t : TypeId) (hop : o.op = Op.mapUpdate t m x v) (kt et : TypeId) (ht : P.underlying t = some (.map kt et)) (hd : P.underlying kt = some (.int .i64))
    (b n : Nat) (f : Int → Option Value) (hm : a.eval m = .map (some b)) (h : IM w b f n) (i : Int) (u : Value) (hx : a.eval x = .int .i64 i) (hv : a.eval v = u)
    (hK : ∀ w', IM w' b (upd f i u) (if (f i).isSome then n else n + 1) → w.grownBy w' (some b) → w'.heap.size = w.heap.size → wpList P ops Q rest (a.put o.dst undef) w') :
    wpList P ops Q (o :: rest) a w := by
  refine wpList_plain hg fun K' hK' => ?_
  obtain ⟨w', hrun, r1, r2, r3⟩ := h.update ht hd i u
  unfold Oper.wp
  simp [execOp, hop, hm, hx, hv, hrun, Result.andThen]
  exact hK' _ _ (hK w' r1 r2 r3)
theorem wpList_lookup_im (w : World) (hg : o.guard = none) (m x : Operand) (t : TypeId) (hop : o.op = Op.lookup t m x false) (kt et : TypeId) (ht : P.underlying t = some (.map kt et)) (hd : P.underlying kt = some (.int .i64)) (z : Value) (hz : (zeroValue et).run P w = .ok z w)
    (b n : Nat) (f : Int → Option Value) (hm : a.eval m = .map (some b)) (h : IM w b f n) (i : Int) (hx : a.eval x = .int .i64 i) (hK : wpList P ops Q rest (a.put o.dst ((f i).getD z)) w) :
    wpList P ops Q (o :: rest) a w := by
  refine wpList_plain hg fun K' hK' => ?_
  unfold Oper.wp
  simp [execOp, hop, hm, hx, h.lookup ht hd hz i, Result.andThen]
  exact hK' _ _ hK
theorem wpList_lookup_ok_im (w : World) (hg : o.guard = none) (m x : Operand) (t : TypeId) (hop : o.op = Op.lookup t m x true) (kt et : TypeId) (ht : P.underlying t = some (.map kt et)) (hd : P.underlying kt = some (.int .i64)) (z : Value) (hz : (zeroValue et).run P w = .ok z w)
    (b n : Nat) (f : Int → Option Value) (hm : a.eval m = .map (some b)) (h : IM w b f n) (i : Int) (hx : a.eval x = .int .i64 i) (hK : wpList P ops Q rest (a.put o.dst (.tuple #[(f i).getD z, .bool (f i).isSome])) w) :
    wpList P ops Q (o :: rest) a w := by
  refine wpList_plain hg fun K' hK' => ?_
  unfold Oper.wp
  simp [execOp, hop, hm, hx, h.lookup_ok ht hd hz i, Result.andThen]
  exact hK' _ _ hK
theorem wpList_delete_im (w : World) (hg : o.guard = none) (m x : Operand) (t kt et : TypeId) (hop : o.op = Op.call { callee := Callee.builtin Builtin.delete, args := #[m, x], argTypes := #[t, kt] }) (ht : P.underlying t = some (.map kt et)) (hd : P.underlying kt = some (.int .i64))
    (b n : Nat) (f : Int → Option Value) (hm : a.eval m = .map (some b)) (h : IM w b f n) (i : Int) (hx : a.eval x = .int .i64 i)
    (hK : ∀ w', IM w' b (del f i) (if (f i).isSome then n - 1 else n) → w.grownBy w' (some b) → w'.heap.size = w.heap.size → wpList P ops Q rest (a.put o.dst (.tuple #[])) w') :
    wpList P ops Q (o :: rest) a w := by
  refine wpList_plain hg fun K' hK' => ?_
  obtain ⟨w', hrun, r1, r2, r3⟩ := h.delete (n := n) ht hd i o.type
  unfold Oper.wp
  simp [execOp, hop, hm, hx, hrun, Result.andThen, resolve, invoke, builtin]
  exact hK' _ _ (hK w' r1 r2 r3)
theorem wpList_len_im (w : World) (hg : o.guard = none) (m : Operand) (t kt et : TypeId) (hop : o.op = Op.call { callee := Callee.builtin Builtin.len, args := #[m], argTypes := #[t] }) (ht : P.underlying t = some (.map kt et))
    (b n : Nat) (f : Int → Option Value) (hm : a.eval m = .map (some b)) (h : IM w b f n) (hK : wpList P ops Q rest (a.put o.dst (.int .i64 n)) w) :
    wpList P ops Q (o :: rest) a w := by
  refine wpList_plain hg fun K' hK' => ?_
  unfold Oper.wp
  simp [execOp, hop, hm, h.len ht, Result.andThen, resolve, invoke, builtin]
  exact hK' _ _ hK
end
end
end Go.Proofs.YtfhjkkcdeigkdaaDoor.PFoldRuns

namespace Go.Proofs.YtfhjkkcdeigkdaaDoor.PFoldRuns
open Go.RowKit Go.Proofs.YtfhjkkcdeigkdaaDoorW.PrintWords Go.Proofs.YtfhjkkcdeigkdaaDoorW.PrintLast Go.Proofs.YtfhjkkcdeigkdaaDoorW.PrintMore
set_option linter.unusedVariables false
set_option linter.unusedSimpArgs false
open Go.MapKept Go.RowKit
/-! calc.Eval: the operators' closures in a map. -/
section
variable {P : Program} {ops : Array Oper} {rest : List Oper} {o : Oper} {a : Act} {Q : Exit → Act → World → Prop}
theorem wpList_insert_im (w : World) (hg : o.guard = none) (m x v : Operand) (t : TypeId) (hop : o.op = Op.insert t m x v) (kt et : TypeId) (ht : P.underlying t = some (.map kt et)) (hd : P.underlying kt = some (.int .i64))
    (b n : Nat) (f : Int → Option Value) (hm : a.eval m = .map (some b)) (h : IM w b f n) (i : Int) (u : Value) (hx : a.eval x = .int .i64 i) (hv : a.eval v = u)
    (hK : ∀ w', IM w' b (upd f i u) (if (f i).isSome then n else n + 1) → w.grownBy w' (some b) → w'.heap.size = w.heap.size → wpList P ops Q rest (a.put o.dst undef) w') :
    wpList P ops Q (o :: rest) a w := by
  refine wpList_plain hg fun K' hK' => ?_
  obtain ⟨w', hrun, r1, r2, r3⟩ := h.update ht hd i u
  unfold Oper.wp
  simp [execOp, hop, hm, hx, hv, hrun, Result.andThen]
  exact hK' _ _ (hK w' r1 r2 r3)
end
/-- by how much is shifted -/
def shN (b : Int) : Nat := (BitVec.ofInt 64 b).toNat % 64
theorem shN_bits (b : Int) : bits .and .i64 b 63 = (shN b : Int) := by
  have h63 : (BitVec.ofInt 64 b &&& BitVec.ofInt 64 63).toNat = shN b := by
    rw [BitVec.toNat_and, show (BitVec.ofInt 64 63).toNat = 2 ^ 6 - 1 by decide, Nat.and_two_pow_sub_one_eq_mod]
    rfl
  show IntKind.i64.wrap ((BitVec.ofInt 64 b &&& BitVec.ofInt 64 63).toNat : Int) = _
  rw [h63]
  have : shN b < 64 := Nat.mod_lt _ (by decide)
  exact (Go.IntWalk.i64_left _).trans (wrap_in (by omega) (by omega))
theorem shN_tmod (b : Int) : wrap64 (Int.tmod (IntKind.u64.wrap b) 64) = (shN b : Int) := by
  have h1 : IntKind.u64.wrap b = ((BitVec.ofInt 64 b).toNat : Int) := by
    rw [BitVec.toNat_ofInt]
    unfold IntKind.wrap
    simp [IntKind.bits, IntKind.signed]
    omega
  rw [h1]
  have h2 : Int.tmod ((BitVec.ofInt 64 b).toNat : Int) 64 = (shN b : Int) := by
    unfold shN
    rw [Int.tmod_eq_emod_of_nonneg (by omega)]
    rfl
  rw [h2]
  have : shN b < 64 := Nat.mod_lt _ (by decide)
  exact wrap_in (by omega) (by omega)
theorem run_shl (a b : Int) (w : World) : (Op.shift .shl .i64 a .i64 (bits .and .i64 b 63)).run Tryd.prog w = .ok (.int .i64 (wrap64 (a * 2 ^ shN b))) w := by
  have : shN b < 64 := Nat.mod_lt _ (by decide)
  rw [shN_bits]
  unfold Op.shift
  rw [if_neg (by omega), Int.toNat_natCast, show min (shN b) IntKind.i64.bits = shN b by simp [IntKind.bits]; omega, ← Go.IntWalk.i64_left]
  rfl
theorem run_shr (a b : Int) (w : World) : (Op.shift .shr .i64 a .i64 (bits .and .i64 b 63)).run Tryd.prog w = .ok (.int .i64 (a.fdiv (2 ^ shN b))) w := by
  have : shN b < 64 := Nat.mod_lt _ (by decide)
  rw [shN_bits]
  unfold Op.shift
  rw [if_neg (by omega), Int.toNat_natCast, show min (shN b) IntKind.i64.bits = shN b by simp [IntKind.bits]; omega]
  rfl
theorem wrap_eq (x : Int) : wrap64 x = (x + 9223372036854775808) % 18446744073709551616 - 9223372036854775808 := by unfold wrap64; omega
theorem shl_loop (n : Int) (hn : n ≤ 63) : ∀ (m : Nat) (i a : Int), 0 ≤ i → n - i = (m : Int) → ∀ k, m < k → palingref01_shift.l0 k a true n i = some (if m = 0 then a else wrap64 (a * 2 ^ m))
  | m, i, a, h0, hm, 0, hk => by omega
  | 0, i, a, h0, hm, k + 1, hk => by unfold palingref01_shift.l0; rw [if_neg (by omega)]; rfl
  | m + 1, i, a, h0, hm, k + 1, hk => by
    unfold palingref01_shift.l0
    rw [if_pos (by omega), if_pos rfl, wrap_in (x := i + 1) (by omega) (by omega), shl_loop n hn m (i + 1) (wrap64 (a * 2)) (by omega) (by omega) k (by omega), if_neg (show ¬ m + 1 = 0 by omega)]
    congr 1
    by_cases hm0 : m = 0
    · rw [if_pos hm0, hm0]; simp
    · rw [if_neg hm0]
      have e : (2 : Int) ^ (m + 1) = 2 * 2 ^ m := by rw [Int.pow_succ]; omega
      rw [e, ← Int.mul_assoc]
      generalize a * 2 = z
      generalize (2 : Int) ^ m = q
      rw [wrap_eq, wrap_eq, wrap_eq]
      have h1 : ((z + 9223372036854775808) % 18446744073709551616 - 9223372036854775808) * q + 9223372036854775808 = (z * q + 9223372036854775808) + 18446744073709551616 * (- ((z + 9223372036854775808) / 18446744073709551616) * q) := by
        have := Int.emod_add_mul_ediv (z + 9223372036854775808) 18446744073709551616
        have h2 : (z + 9223372036854775808) % 18446744073709551616 = z + 9223372036854775808 - 18446744073709551616 * ((z + 9223372036854775808) / 18446744073709551616) := by omega
        rw [h2]
        generalize (z + 9223372036854775808) / 18446744073709551616 = d
        rw [Int.sub_mul, Int.sub_mul, Int.add_mul, Int.neg_mul, Int.mul_neg, Int.mul_assoc]
        omega
      rw [h1, Int.add_mul_emod_self_left]
theorem shr_loop (n : Int) (hn : n ≤ 63) : ∀ (m : Nat) (i a : Int), inR a → 0 ≤ i → n - i = (m : Int) → ∀ k, m < k → palingref01_shift.l0 k a false n i = some (a.fdiv (2 ^ m))
  | m, i, a, hr, h0, hm, 0, hk => by omega
  | 0, i, a, hr, h0, hm, k + 1, hk => by unfold palingref01_shift.l0; rw [if_neg (by omega)]; simp
  | m + 1, i, a, hr, h0, hm, k + 1, hk => by
    have hf : a.fdiv (2 ^ (m + 1)) = (a / 2).fdiv (2 ^ m) := by
      have e : (2 : Int) ^ (m + 1) = 2 * 2 ^ m := by rw [Int.pow_succ]; omega
      have hp : (0 : Int) ≤ 2 ^ m := by exact_mod_cast Nat.zero_le _
      rw [e, Int.fdiv_eq_ediv_of_nonneg _ (by omega), Int.fdiv_eq_ediv_of_nonneg _ hp, Int.ediv_ediv, if_neg (by omega), Int.sub_zero]
    unfold inR at hr
    unfold palingref01_shift.l0
    rw [if_pos (by omega), if_neg (by simp), wrap_in (x := i + 1) (by omega) (by omega), hf]
    have ih := fun b hb => shr_loop n hn m (i + 1) b hb (by omega) (by omega) k (by omega)
    by_cases hneg : a < 0
    · rw [if_pos hneg]
      have ht : Int.tdiv a 2 = - ((-a) / 2) := by
        have := Int.neg_tdiv (-a) 2
        rw [Int.neg_neg] at this
        rw [this, Int.tdiv_eq_ediv_of_nonneg (by omega)]
      have htm : Int.tmod a 2 = - ((-a) % 2) := by
        have := Int.neg_tmod (-a) 2
        rw [Int.neg_neg] at this
        rw [this, Int.tmod_eq_emod_of_nonneg (by omega)]
      by_cases hz : Int.tmod a 2 = 0
      · rw [if_pos hz, ht, wrap_in (by omega) (by omega), show -(-a / 2) = a / 2 by omega]
        exact ih _ (by unfold inR; omega)
      · rw [if_neg hz, ht, wrap_in (x := -(-a / 2)) (by omega) (by omega), wrap_in (by omega) (by omega), show -(-a / 2) - 1 = a / 2 by omega]
        exact ih _ (by unfold inR; omega)
    · rw [if_neg hneg, Int.tdiv_eq_ediv_of_nonneg (by omega), wrap_in (by omega) (by omega)]
      exact ih _ (by unfold inR; omega)
theorem ev_shl (a b : Int) (ha : inR a) : evalL 8 a b = wrap64 (a * 2 ^ shN b) := by
  have hs : shN b < 64 := Nat.mod_lt _ (by decide)
  have h := shl_loop (shN b : Int) (by omega) (shN b) 0 a (by omega) (by omega) 99 (by omega)
  unfold evalL palingref01_Eval.f
  rw [if_neg (by decide), if_neg (by decide), if_neg (by decide), if_neg (by decide), if_neg (by decide), if_neg (by decide), if_neg (by decide), if_neg (by decide), if_pos rfl]
  rw [show palingref01_Eval.j0 100 8 a b 8 ((8 : Int) == 8) = ((palingref01_shift.f 99 a b ((8 : Int) == 8)).bind fun t => some t) from rfl]
  unfold palingref01_shift.f
  rw [shN_tmod, show ((8 : Int) == 8) = true by decide, h]
  show (if _ then _ else _) = _
  split
  · rename_i h0; rw [h0]; unfold inR at ha; rw [wrap_in (by simp; omega) (by simp; omega)]; simp
  · rfl
theorem ev_shr (a b : Int) (ha : inR a) : evalL 9 a b = a.fdiv (2 ^ shN b) := by
  have hs : shN b < 64 := Nat.mod_lt _ (by decide)
  have h := shr_loop (shN b : Int) (by omega) (shN b) 0 a ha (by omega) (by omega) 99 (by omega)
  unfold evalL palingref01_Eval.f
  rw [if_neg (by decide), if_neg (by decide), if_neg (by decide), if_neg (by decide), if_neg (by decide), if_neg (by decide), if_neg (by decide), if_neg (by decide), if_neg (by decide)]
  rw [show palingref01_Eval.j0 100 9 a b 9 ((9 : Int) == 9) = ((palingref01_shift.f 99 a b ((9 : Int) == 8)).bind fun t => some t) from rfl]
  unfold palingref01_shift.f
  rw [shN_tmod, show ((9 : Int) == 8) = false by decide, h]
  rfl
end Go.Proofs.YtfhjkkcdeigkdaaDoor.PFoldRuns
