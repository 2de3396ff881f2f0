/- The print's words, cut to what this claim names (wip/prune.py). -/
import Derived.SizedLaws
import Derived.ChangeSlices
namespace Go.Proofs.YtggfikekggcclaaDoorW.PrintWords
open Go.ChangeShapes Go.WideShapes
end Go.Proofs.YtggfikekggcclaaDoorW.PrintWords
