import Derived.Test.YtpbhfpbfmpocdaaDoorPSpillNonex0
import Derived.Test.YtpbhfpbfmpocdaaDoorPSpillNonex4
namespace Go.Proofs.YtpbhfpbfmpocdaaDoor.PSpillNone
open Go.RowKit Go.Proofs.YtpbhfpbfmpocdaaDoorW.PrintWords Go.Proofs.YtpbhfpbfmpocdaaDoorW.PrintLast Go.Proofs.YtpbhfpbfmpocdaaDoorW.PrintMore
set_option linter.unusedVariables false
set_option linter.unusedSimpArgs false
set_option maxRecDepth 100000 in
theorem awake22 : Ev (fun k => palinglaw22_awake.f k) true := Ev.of palinglaw22_awake.mono (k := 20) (by kernel_rfl)
end Go.Proofs.YtpbhfpbfmpocdaaDoor.PSpillNone
