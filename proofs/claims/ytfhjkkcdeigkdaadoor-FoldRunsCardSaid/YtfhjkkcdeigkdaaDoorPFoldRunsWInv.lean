/- The print's words, cut to what this claim names (wip/prune.py). -/
import Derived.Test.YtfhjkkcdeigkdaaDoorPFoldRunsWTab
namespace Go.Proofs.YtfhjkkcdeigkdaaDoorW.PrintLast
def up (b : Nat → Bool) (i : Nat) : Nat → Bool := fun j => if j = i then true else b j
section
variable {P : Program} {ops : Array Oper} {Q : Exit → Act → World → Prop} {md : Region.Mode} {T : Bool × List (List Nat × List Nat)} {B : List Nat} {O : List Nat} {b : Nat → Bool} {i j n : Nat}
end
end Go.Proofs.YtfhjkkcdeigkdaaDoorW.PrintLast
