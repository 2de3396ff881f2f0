import Derived.Test.YtndhhnhhnkkpbaaPLevelNonex0
namespace Go.Proofs.Ytndhhnhhnkkpbaa.PLevelNone
open Go.RowKit Go.Proofs.YtndhhnhhnkkpbaaW.PrintWords Go.Proofs.YtndhhnhhnkkpbaaW.PrintLast Go.Proofs.YtndhhnhhnkkpbaaW.PrintMore
set_option linter.unusedVariables false
set_option linter.unusedSimpArgs false
/-! append(x, y...) where y's type is another slice type of the same element. -/
section
variable {P : Program} {ops : Array Oper} {rest : List Oper} {o : Oper} {a : Act} {Q : Exit → Act → World → Prop} {α : Type}
theorem append_mixed {t t' e e' : TypeId} (ht : P.underlying t = some (.slice e)) (ht' : P.underlying t' = some (.slice e')) (ty : TypeId) (args : Array Value) (W : World) : (Builtin.append_ #[t, t'] ty args).run P W = (Builtin.append_ #[t, t] ty args).run P W := by
  unfold Builtin.append_
  generalize args[0]? = A0
  generalize args[1]? = A1
  cases A0 with
  | none => simp
  | some s =>
    cases A1 with
    | none => simp
    | some x =>
      cases s <;> simp [run_underlying ht]
      congr 1
      funext size w
      simp [run_underlying ht, run_underlying ht']
theorem wp_mixed {t t' e e' : TypeId} {s x : Operand} (ht : P.underlying t = some (.slice e)) (ht' : P.underlying t' = some (.slice e')) (ho : o.op = .call { callee := .builtin .append, args := #[s, x], argTypes := #[t, t'] }) {W : World} {K : Act → World → Prop}
    (h : Oper.wp P { o with op := .call { callee := .builtin .append, args := #[s, x], argTypes := #[t, t] } } a W K Q) : Oper.wp P o a W K Q := by
  unfold Oper.wp execOp at h ⊢
  simp only [ho, resolve, invoke, builtin, Sem.run_bind, Sem.run_pure, Result.andThen_ok, List.map_toArray, List.map_cons, List.map_nil] at h ⊢
  rw [append_mixed ht ht']
  exact h
theorem R_append_rows2 (d : Kd α) {t' e' : TypeId} (ht' : P.underlying t' = some (.slice e')) {Rr : α → List Value → Prop} {w0 W : World} (base : Nat) (hgd : o.guard = none) (s x : Operand) (t e : TypeId) (z : Value) (bytes : Nat)
    (ho : o.op = .call { callee := .builtin .append, args := #[s, x], argTypes := #[t, t'] })
    (ht : P.underlying t = some (.slice e)) (hinfo : (P.info? e).map (fun i => (i.zero, i.size, i.bytes)) = some (some z, d.sz, bytes)) (hz : z.cells.size = d.sz) (hs0 : 0 < d.sz) (hb0 : 0 < bytes)
    (v : Value) (xs ys : List α) (A : Option Addr) (m c : Nat) (ok okp : Nat → Prop) (hs : a.eval s = v) (hx : a.eval x = .slice A m c)
    (HO : d.R e W base ok v xs) (HR : ReadsRow Rr d.sz W A m ys) (hKM : ∀ x cs, Rr x cs → d.M W base okp x cs) (hokp : ∀ k, okp k → ok k ∧ some k ≠ v.ownBlock) (hfresh : ∀ k, W.heap.size ≤ k → ok k)
    (HB : Below base w0 W) (hbase : base ≤ W.heap.size) (hl : (xs.length + m) * bytes ≤ 140737488355328)
    (h : ∀ v1 w1, d.R e w1 base ok v1 (xs ++ ys) → Below base w0 w1 → W.grownBy w1 v.ownBlock → (v1.ownBlock = v.ownBlock ∨ ∃ b, v1.ownBlock = some b ∧ W.heap.size ≤ b) → wpList P ops Q rest (a.put o.dst v1) w1) :
    wpList P ops Q (o :: rest) a W := by
  refine wpList_plain hgd fun K hK => wp_mixed ht ht' ho ?_
  have hw : Region.wanted { o with op := .call { callee := .builtin .append, args := #[s, x], argTypes := #[t, t] } } (yielded ops a.tmps) = true := by simp [Region.wanted, hgd]
  have := Kd.R_append_rows_step (ops := ops) (o := { o with op := .call { callee := .builtin .append, args := #[s, x], argTypes := #[t, t] } }) (Kc := K) (Q := Q) (w0 := w0) d base hw s x t e z bytes rfl ht hinfo hz hs0 hb0 v xs ys A m c ok okp hs hx HO HR hKM hokp hfresh HB hbase hl (fun v1 w1 h1 h2 h3 h4 => hK _ _ (h v1 w1 h1 h2 h3 h4))
  rw [if_pos hw] at this
  exact this
end
end Go.Proofs.Ytndhhnhhnkkpbaa.PLevelNone
