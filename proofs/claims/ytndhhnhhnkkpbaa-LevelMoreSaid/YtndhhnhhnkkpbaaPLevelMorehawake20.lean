import Derived.Test.YtndhhnhhnkkpbaaPLevelMorex0
import Derived.Test.YtndhhnhhnkkpbaaPLevelMorex2
import Derived.Test.YtndhhnhhnkkpbaaPLevelMorehsecret
namespace Go.Proofs.Ytndhhnhhnkkpbaa.PLevelMore
open Go.RowKit Go.Proofs.YtndhhnhhnkkpbaaW.PrintWords Go.Proofs.YtndhhnhhnkkpbaaW.PrintLast Go.Proofs.YtndhhnhhnkkpbaaW.PrintMore
set_option linter.unusedVariables false
set_option linter.unusedSimpArgs false
theorem awake20 : Ev (fun k => palinglaw20_awake.f k) true := by
  have h1 : level_Secret.f 20 [(⟨4, 0, 0, (-1), 0, 7, 0⟩ : S36), (⟨1, 0, 1, 0, 0, 0, 0⟩ : S36), (⟨4, 0, 2, (-1), 0, 1, 0⟩ : S36), (⟨13, 0, 0, 0, 0, 0, 0⟩ : S36)] [(⟨0, 4, false⟩ : S26), (⟨4, 4, true⟩ : S26)] = some [0, 1] := by
    have h2 : level_Secret.l0 20 [(⟨4, 0, 0, (-1), 0, 7, 0⟩ : S36), (⟨1, 0, 1, 0, 0, 0, 0⟩ : S36), (⟨4, 0, 2, (-1), 0, 1, 0⟩ : S36), (⟨13, 0, 0, 0, 0, 0, 0⟩ : S36)] [(⟨0, 4, false⟩ : S26), (⟨4, 4, true⟩ : S26)] (-1) [] = some [0, 1] := by kernel_rfl
    have h3 : sortI [0, 1] = [0, 1] := (sortI_eq (L := [0, 1]) (S := [0, 1]) (by decide) (fun _ => Iff.rfl) (by decide)).symm
    unfold level_Secret.f
    rw [if_pos (by decide), h2]
    simp only [Option.bind_some]
    rw [if_pos (by decide), h3]
  refine Ev.of palinglaw20_awake.mono (k := 20) ?_
  unfold palinglaw20_awake.f
  simp only [Option.bind_some]
  rw [h1]
  kernel_rfl
end Go.Proofs.Ytndhhnhhnkkpbaa.PLevelMore
