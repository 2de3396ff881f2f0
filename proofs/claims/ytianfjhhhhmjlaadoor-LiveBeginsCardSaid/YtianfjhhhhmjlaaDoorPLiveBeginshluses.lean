import Derived.Test.YtianfjhhhhmjlaaDoorPLiveBeginsx0
import Derived.Test.YtianfjhhhhmjlaaDoorPLiveBeginsx3
import Derived.Test.YtianfjhhhhmjlaaDoorPLiveBeginshcompact
import Derived.Test.YtianfjhhhhmjlaaDoorPLiveBeginshcompregs
import Derived.Test.YtianfjhhhhmjlaaDoorPLiveBeginshforms
import Derived.Test.YtianfjhhhhmjlaaDoorPLiveBeginshformtab
import Derived.Test.YtianfjhhhhmjlaaDoorPLiveBeginshinsregs
import Derived.Test.YtianfjhhhhmjlaaDoorPLiveBeginshinsuses
import Derived.Test.YtianfjhhhhmjlaaDoorPLiveBeginshlgrow
import Derived.Test.YtianfjhhhhmjlaaDoorPLiveBeginshuses
namespace Go.Proofs.YtianfjhhhhmjlaaDoor.PLiveBegins
open Go.RowKit Go.Proofs.YtianfjhhhhmjlaaDoorW.PrintWords Go.Proofs.YtianfjhhhhmjlaaDoorW.PrintLast Go.Proofs.YtianfjhhhhmjlaaDoorW.PrintMore
set_option linter.unusedVariables false
set_option linter.unusedSimpArgs false
open Go.Shelf
/-! What an instruction reads and writes, by package ins and by the document, are one. -/
theorem luses_eq (x : S39) : useRegs (useL x.f0 x.f2 x.f3 x.f4) = usesL x := by
  obtain ⟨h1, h2, h3, h4, h5, h6, h7, _⟩ := form_tab x.f0
  refine rising_ext (useRegs_spec _).1 (usesL_spec x).1 (fun i => ?_)
  rw [(useRegs_spec _).2, (usesL_spec x).2.1, h2, h3]
  unfold useL
  rw [form_pick, List.mem_append, List.mem_append]
  have e : ∀ (c : Bool) (v : Int), i ∈ (if c = true then [v] else []) ↔ (c = true ∧ i = v) := fun c v => by cases c <;> simp
  rw [e, e, e]
  simp only [beq_iff_eq]
  constructor
  · rintro ⟨(h | h) | h, h0⟩
    · exact ⟨h0, .inr (.inl h)⟩
    · exact ⟨h0, .inr (.inr h)⟩
    · exact ⟨h0, .inl h⟩
  · rintro ⟨h0, h | h | h⟩
    · exact ⟨.inr h, h0⟩
    · exact ⟨.inl (.inl h), h0⟩
    · exact ⟨.inl (.inr h), h0⟩
theorem ldef_eq (x : S39) : (if fmB 1 x.f0 = true then x.f2 else -1) = defL x := by
  unfold defL
  rw [(form_tab x.f0).1]
theorem luses_spec (x : S39) : Ev (fun k => palingref11_Uses.f k x.f0 x.f1 x.f2 x.f3 x.f4 x.f5 x.f6) (useQ x) := by
  rw [show useQ x = usesL x from luses_eq x]
  exact uses_spec x
theorem ldef_spec (x : S39) : Ev (fun k => palingref11_Def.f k x.f0 x.f1 x.f2 x.f3 x.f4 x.f5 x.f6) (defQ x) := by
  rw [show defQ x = defL x from ldef_eq x]
  exact def_spec x
end Go.Proofs.YtianfjhhhhmjlaaDoor.PLiveBegins
