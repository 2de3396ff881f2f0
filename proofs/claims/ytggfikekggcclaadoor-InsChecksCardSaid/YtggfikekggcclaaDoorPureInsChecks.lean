/- Whether any code may be, and its text, are the document's. -/
import Derived.Test.YtggfikekggcclaaDoorStmInsChecks
import Derived.Test.YtggfikekggcclaaDoorPInsCheckshtop
import Derived.Test.YtggfikekggcclaaDoorPInsCheckshforms
import Derived.Test.YtggfikekggcclaaDoorPInsCheckshinscheck
import Derived.Test.YtggfikekggcclaaDoorPInsCheckshinsright
import Derived.Test.YtggfikekggcclaaDoorPInsCheckshinsshow
import Derived.Test.YtggfikekggcclaaDoorPInsCheckshinstext
import Derived.Test.YtggfikekggcclaaDoorPInsCheckshpure
namespace Go.Proofs.YtggfikekggcclaaDoor.Pure
open Go.RowKit Go.Proofs.YtggfikekggcclaaDoor.PInsChecks Go.Proofs.YtggfikekggcclaaDoorW.PrintWords Go.Proofs.YtggfikekggcclaaDoorW.PrintLast Go.Proofs.YtggfikekggcclaaDoorW.PrintMore
set_option linter.unusedVariables false
set_option linter.unusedSimpArgs false
open Go.Shelf
theorem num_eq (k n locks : Int) (h : inI64 locks) : numB k n locks = inumB k n locks := by
  have e1 : wrap64 (mx locks 0 - 1) = max locks 0 - 1 := by rw [mx_in]; exact wrap_in (by have := h.1; omega) (by have := h.2; omega)
  unfold numB inumB
  rw [e1]
  split
  · rfl
  · split
    · rw [Bool.eq_iff_iff]
      simp only [Bool.and_eq_true, decide_eq_true_eq]
      omega
    · split
      · rw [Bool.eq_iff_iff]
        simp only [Bool.and_eq_true, Bool.or_eq_true, decide_eq_true_eq, beq_iff_eq]
        omega
      · rfl
theorem reg_eq (a0 a1 : Int) (a2 a3 : Bool) : regB a0 a1 a2 a3 = iregB a0 a1 a2 a3 := rfl
theorem one_eq (x : S23) (size regs locks : Int) (h : inI64 locks) : oneB x size regs locks = rightS x size regs locks := by
  obtain ⟨h1, h2, h3, h4, h5, h6, h7, _⟩ := form_tab x.f0
  unfold oneB rightS rightB opB
  rw [h1, h2, h3, h4, h5, h6, h7, num_eq _ _ _ h, reg_eq, reg_eq, reg_eq]
  rw [Bool.eq_iff_iff]
  simp only [Bool.and_eq_true, decide_eq_true_eq]
  constructor
  · rintro ⟨a, b, c, d, e, f, g, h, i, j, k, l⟩
    exact ⟨⟨⟨a, ⟨b, c⟩, d⟩, ⟨e, h⟩, i⟩, ⟨⟨⟨f, g⟩, j⟩, k⟩, l⟩
  · rintro ⟨⟨⟨a, ⟨b, c⟩, d⟩, ⟨e, h⟩, i⟩, ⟨⟨⟨f, g⟩, j⟩, k⟩, l⟩
    exact ⟨a, b, c, d, e, f, g, h, i, j, k, l⟩
theorem check_eq (l : List S23) (regs locks : Int) (h : inI64 locks) : checkB l regs locks = icheckB l regs locks := by
  unfold checkB icheckB
  have hall : l.all (fun x => oneB x l.length regs locks) = l.all (fun x => rightS x l.length regs locks) := by
    congr 1
    funext x
    exact one_eq x _ _ _ h
  rw [hall]
  by_cases h1 : 1 ≤ l.length
  · have hx : rd_T23 l ((l.length : Int) - 1) = l.getD (l.length - 1) z23 := by
      unfold rd_T23
      rw [show ((l.length : Int) - 1).toNat = l.length - 1 by omega]
    have h2 : endsB l = ((l.getD (l.length - 1) z23).f0 == 6 || fmB 9 (l.getD (l.length - 1) z23).f0) := by
      unfold endsB
      rw [hx, (form_tab _).2.2.2.2.2.2.2]
    rw [h2]
    by_cases h3 : l.length ≤ 4096
    · simp [h1, h3]
    · simp [h3]
  · simp [h1]
theorem InsChecks : palinglaw11_InsChecks.Pure := by
  intro l a1 a2 hl hwf w1 w2
  refine Ev.rounds ?_
  refine Ev.congr (fun k => rfl) (Ev.bind awake_ev (Ev.tt ?_))
  by_cases h5 : (l.length : Int) > 5000
  · exact Ev.pos h5 (Ev.now true)
  refine Ev.neg h5 ?_
  have hlen : l.length ≤ 5000 := by omega
  have hw : ∀ x ∈ l, wfI x := fun x hx => by
    have h := hwf x hx
    exact ⟨wf64 h.2.2.1, wf64 h.2.2.2.1, wf64 h.2.2.2.2.1, wf64 h.2.2.2.2.2.1, wf64 h.2.2.2.2.2.2⟩
  refine Ev.bind (a := icheckB l a1 a2) (Ev.con rfl) (Ev.bind (check_spec l a1 a2) ?_)
  refine Ev.pos (by rw [check_eq l a1 a2 (wf64 w2)]; simp) ?_
  refine Ev.bind (Ev.of (k := 8) (ins_Text.mono _) (text_f 0 l hw hlen)) (Ev.bind (textref_spec l hw hlen) ?_)
  exact Ev.con (by simp)
end Go.Proofs.YtggfikekggcclaaDoor.Pure
