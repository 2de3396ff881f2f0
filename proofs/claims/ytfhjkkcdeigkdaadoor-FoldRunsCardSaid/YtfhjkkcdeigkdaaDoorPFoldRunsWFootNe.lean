/- The print's words, cut to what this claim names (wip/prune.py). -/
import Derived.Test.YtfhjkkcdeigkdaaDoorPFoldRunsWN
namespace Go.Proofs.YtfhjkkcdeigkdaaDoorW.PrintWords
open Go.RowKit
namespace Kd
section
variable {α : Type} {d : Kd α} {W : World} {g n : Nat} {S ok : Nat → Prop} {A : Option Addr} {ad : Addr} {xs : List α}
end
end Kd
end Go.Proofs.YtfhjkkcdeigkdaaDoorW.PrintWords
