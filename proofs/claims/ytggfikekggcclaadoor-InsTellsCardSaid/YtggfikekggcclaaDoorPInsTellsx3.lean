-- Written by print2.py over the kit's printer. Not trusted: Lean checks it.
import Derived.Test.YtggfikekggcclaaDoorPInsTellsx0
import Derived.Test.YtggfikekggcclaaDoorPInsTellsx2
import Derived.Test.YtggfikekggcclaaDoorPInsTellshcalc
import Derived.Test.YtggfikekggcclaaDoorPInsTellshcalcsign
import Derived.Test.YtggfikekggcclaaDoorPInsTellshforms
import Derived.Test.YtggfikekggcclaaDoorPInsTellshjoin
namespace Go.Proofs.YtggfikekggcclaaDoor.PInsTells
open Go.RowKit Go.Proofs.YtggfikekggcclaaDoorW.PrintWords Go.Proofs.YtggfikekggcclaaDoorW.PrintLast Go.Proofs.YtggfikekggcclaaDoorW.PrintMore
attribute [local go_sem] max2_int min2_int max_two min_two max_three min_three max_four min_four   -- for this text's walks alone
set_option linter.unusedVariables false
set_option linter.unusedSimpArgs false

/-! ### ins_Show: function 15 -/
mutual
def ins_Show.j0 : Nat → List ByteArray → Int → Int → Int → Int → Int → Int → Int → ByteArray → Bool → Bool → Bool → Bool → Bool → Bool → Bool → Bool → Bool → Option (ByteArray)
  | 0, _, _, _, _, _, _, _, _, _, _, _, _, _, _, _, _, _, _ => none
  | k + 1, x4, x105000, x105001, x105002, x105003, x105004, x105005, x105006, x116000, x116001, x116002, x116003, x116004, x116005, x116006, x116007, x116008, x116009 => if x116002 = true then (ins_Show.j1 k x4 (!x116007) x105000 x105001 x105002 x105003 x105004 x105005 x105006 x116000 x116001 x116002 x116003 x116004 x116005 x116006 x116007 x116008 x116009) else (ins_Show.j1 k x4 false x105000 x105001 x105002 x105003 x105004 x105005 x105006 x116000 x116001 x116002 x116003 x116004 x116005 x116006 x116007 x116008 x116009)
def ins_Show.j1 : Nat → List ByteArray → Bool → Int → Int → Int → Int → Int → Int → Int → ByteArray → Bool → Bool → Bool → Bool → Bool → Bool → Bool → Bool → Bool → Option (ByteArray)
  | 0, _, _, _, _, _, _, _, _, _, _, _, _, _, _, _, _, _, _, _ => none
  | k + 1, x4, x26, x105000, x105001, x105002, x105003, x105004, x105005, x105006, x116000, x116001, x116002, x116003, x116004, x116005, x116006, x116007, x116008, x116009 => if x26 = true then ((ins_name.f x105003).bind fun t123 => (if x4.length < 8796093022208 then (ins_Show.j2 k (x4 ++ [t123]) x105000 x105001 x105002 x105003 x105004 x105005 x105006 x116000 x116001 x116002 x116003 x116004 x116005 x116006 x116007 x116008 x116009) else (none))) else (ins_Show.j2 k x4 x105000 x105001 x105002 x105003 x105004 x105005 x105006 x116000 x116001 x116002 x116003 x116004 x116005 x116006 x116007 x116008 x116009)
def ins_Show.j2 : Nat → List ByteArray → Int → Int → Int → Int → Int → Int → Int → ByteArray → Bool → Bool → Bool → Bool → Bool → Bool → Bool → Bool → Bool → Option (ByteArray)
  | 0, _, _, _, _, _, _, _, _, _, _, _, _, _, _, _, _, _, _ => none
  | k + 1, x4, x105000, x105001, x105002, x105003, x105004, x105005, x105006, x116000, x116001, x116002, x116003, x116004, x116005, x116006, x116007, x116008, x116009 => if x116004 = true then ((calc_Sign.f x105001).bind fun t127 => (if t127.toList = ([] : List UInt8) then (if x4.length < 8796093022208 then (ins_Show.j3 k (x4 ++ [(⟨#[98, 101, 108, 111, 119]⟩ : ByteArray)]) x105000 x105001 x105002 x105003 x105004 x105005 x105006 x116000 x116001 x116002 x116003 x116004 x116005 x116006 x116007 x116008 x116009) else (none)) else (if x4.length < 8796093022208 then (ins_Show.j3 k (x4 ++ [t127]) x105000 x105001 x105002 x105003 x105004 x105005 x105006 x116000 x116001 x116002 x116003 x116004 x116005 x116006 x116007 x116008 x116009) else (none)))) else (ins_Show.j3 k x4 x105000 x105001 x105002 x105003 x105004 x105005 x105006 x116000 x116001 x116002 x116003 x116004 x116005 x116006 x116007 x116008 x116009)
def ins_Show.j3 : Nat → List ByteArray → Int → Int → Int → Int → Int → Int → Int → ByteArray → Bool → Bool → Bool → Bool → Bool → Bool → Bool → Bool → Bool → Option (ByteArray)
  | 0, _, _, _, _, _, _, _, _, _, _, _, _, _, _, _, _, _, _ => none
  | k + 1, x4, x105000, x105001, x105002, x105003, x105004, x105005, x105006, x116000, x116001, x116002, x116003, x116004, x116005, x116006, x116007, x116008, x116009 => if x116005 = true then ((calc_Digits.f x105005).bind fun t134 => (if x4.length < 8796093022208 then (ins_Show.j4 k (x4 ++ [t134]) x105000 x105001 x105002 x105003 x105004 x105005 x105006 x116000 x116001 x116002 x116003 x116004 x116005 x116006 x116007 x116008 x116009) else (none))) else (ins_Show.j4 k x4 x105000 x105001 x105002 x105003 x105004 x105005 x105006 x116000 x116001 x116002 x116003 x116004 x116005 x116006 x116007 x116008 x116009)
def ins_Show.j4 : Nat → List ByteArray → Int → Int → Int → Int → Int → Int → Int → ByteArray → Bool → Bool → Bool → Bool → Bool → Bool → Bool → Bool → Bool → Option (ByteArray)
  | 0, _, _, _, _, _, _, _, _, _, _, _, _, _, _, _, _, _, _ => none
  | k + 1, x4, x105000, x105001, x105002, x105003, x105004, x105005, x105006, x116000, x116001, x116002, x116003, x116004, x116005, x116006, x116007, x116008, x116009 => if x116003 = true then ((ins_name.f x105004).bind fun t138 => (if x4.length < 8796093022208 then (ins_Show.j5 k (x4 ++ [t138]) x105000 x105001 x105002 x105003 x105004 x105005 x105006 x116000 x116001 x116002 x116003 x116004 x116005 x116006 x116007 x116008 x116009) else (none))) else (ins_Show.j5 k x4 x105000 x105001 x105002 x105003 x105004 x105005 x105006 x116000 x116001 x116002 x116003 x116004 x116005 x116006 x116007 x116008 x116009)
def ins_Show.j5 : Nat → List ByteArray → Int → Int → Int → Int → Int → Int → Int → ByteArray → Bool → Bool → Bool → Bool → Bool → Bool → Bool → Bool → Bool → Option (ByteArray)
  | 0, _, _, _, _, _, _, _, _, _, _, _, _, _, _, _, _, _, _ => none
  | k + 1, x4, x105000, x105001, x105002, x105003, x105004, x105005, x105006, x116000, x116001, x116002, x116003, x116004, x116005, x116006, x116007, x116008, x116009 => if x116007 = true then (ins_Show.j6 k x4 (decide (x105003 ≥ 0)) x105000 x105001 x105002 x105003 x105004 x105005 x105006 x116000 x116001 x116002 x116003 x116004 x116005 x116006 x116007 x116008 x116009) else (ins_Show.j6 k x4 false x105000 x105001 x105002 x105003 x105004 x105005 x105006 x116000 x116001 x116002 x116003 x116004 x116005 x116006 x116007 x116008 x116009)
def ins_Show.j6 : Nat → List ByteArray → Bool → Int → Int → Int → Int → Int → Int → Int → ByteArray → Bool → Bool → Bool → Bool → Bool → Bool → Bool → Bool → Bool → Option (ByteArray)
  | 0, _, _, _, _, _, _, _, _, _, _, _, _, _, _, _, _, _, _, _ => none
  | k + 1, x4, x66, x105000, x105001, x105002, x105003, x105004, x105005, x105006, x116000, x116001, x116002, x116003, x116004, x116005, x116006, x116007, x116008, x116009 => if x66 = true then ((ins_name.f x105003).bind fun t142 => (if x4.length < 8796093022208 then (ins_Show.j7 k (x4 ++ [t142]) x105000 x105001 x105002 x105003 x105004 x105005 x105006 x116000 x116001 x116002 x116003 x116004 x116005 x116006 x116007 x116008 x116009) else (none))) else (ins_Show.j7 k x4 x105000 x105001 x105002 x105003 x105004 x105005 x105006 x116000 x116001 x116002 x116003 x116004 x116005 x116006 x116007 x116008 x116009)
def ins_Show.j7 : Nat → List ByteArray → Int → Int → Int → Int → Int → Int → Int → ByteArray → Bool → Bool → Bool → Bool → Bool → Bool → Bool → Bool → Bool → Option (ByteArray)
  | 0, _, _, _, _, _, _, _, _, _, _, _, _, _, _, _, _, _, _ => none
  | k + 1, x4, x105000, x105001, x105002, x105003, x105004, x105005, x105006, x116000, x116001, x116002, x116003, x116004, x116005, x116006, x116007, x116008, x116009 => if x116006 = true then ((calc_Digits.f x105006).bind fun t146 => (if x4.length < 8796093022208 then ((strings_Join.f (x4 ++ [t146]) (⟨#[32]⟩ : ByteArray)).bind fun t150 => (some t150)) else (none))) else ((strings_Join.f x4 (⟨#[32]⟩ : ByteArray)).bind fun t151 => (some t151))
end
def ins_Show.f (k : Nat) (a0_0 : Int) (a0_1 : Int) (a0_2 : Int) (a0_3 : Int) (a0_4 : Int) (a0_5 : Int) (a0_6 : Int) : Option (ByteArray) := (ins_of.f a0_0).bind fun bt105 => ((some (([bt105.1] : List ByteArray) : List ByteArray)).bind fun y116 => (if bt105.2.1 = true then ((ins_name.f a0_2).bind fun t119 => (if y116.length < 8796093022208 then (ins_Show.j0 k (y116 ++ [t119]) a0_0 a0_1 a0_2 a0_3 a0_4 a0_5 a0_6 bt105.1 bt105.2.1 bt105.2.2.1 bt105.2.2.2.1 bt105.2.2.2.2.1 bt105.2.2.2.2.2.1 bt105.2.2.2.2.2.2.1 bt105.2.2.2.2.2.2.2.1 bt105.2.2.2.2.2.2.2.2.1 bt105.2.2.2.2.2.2.2.2.2) else (none))) else (ins_Show.j0 k y116 a0_0 a0_1 a0_2 a0_3 a0_4 a0_5 a0_6 bt105.1 bt105.2.1 bt105.2.2.1 bt105.2.2.2.1 bt105.2.2.2.2.1 bt105.2.2.2.2.2.1 bt105.2.2.2.2.2.2.1 bt105.2.2.2.2.2.2.2.1 bt105.2.2.2.2.2.2.2.2.1 bt105.2.2.2.2.2.2.2.2.2)))
theorem ins_Show.mono_l : ∀ k, (∀ y0 y1 y2 y3 y4 y5 y6 y7 y8 y9 y10 y11 y12 y13 y14 y15 y16 y17, LeO (ins_Show.j0 k y0 y1 y2 y3 y4 y5 y6 y7 y8 y9 y10 y11 y12 y13 y14 y15 y16 y17) (ins_Show.j0 (k + 1) y0 y1 y2 y3 y4 y5 y6 y7 y8 y9 y10 y11 y12 y13 y14 y15 y16 y17)) ∧ (∀ y0 y1 y2 y3 y4 y5 y6 y7 y8 y9 y10 y11 y12 y13 y14 y15 y16 y17 y18, LeO (ins_Show.j1 k y0 y1 y2 y3 y4 y5 y6 y7 y8 y9 y10 y11 y12 y13 y14 y15 y16 y17 y18) (ins_Show.j1 (k + 1) y0 y1 y2 y3 y4 y5 y6 y7 y8 y9 y10 y11 y12 y13 y14 y15 y16 y17 y18)) ∧ (∀ y0 y1 y2 y3 y4 y5 y6 y7 y8 y9 y10 y11 y12 y13 y14 y15 y16 y17, LeO (ins_Show.j2 k y0 y1 y2 y3 y4 y5 y6 y7 y8 y9 y10 y11 y12 y13 y14 y15 y16 y17) (ins_Show.j2 (k + 1) y0 y1 y2 y3 y4 y5 y6 y7 y8 y9 y10 y11 y12 y13 y14 y15 y16 y17)) ∧ (∀ y0 y1 y2 y3 y4 y5 y6 y7 y8 y9 y10 y11 y12 y13 y14 y15 y16 y17, LeO (ins_Show.j3 k y0 y1 y2 y3 y4 y5 y6 y7 y8 y9 y10 y11 y12 y13 y14 y15 y16 y17) (ins_Show.j3 (k + 1) y0 y1 y2 y3 y4 y5 y6 y7 y8 y9 y10 y11 y12 y13 y14 y15 y16 y17)) ∧ (∀ y0 y1 y2 y3 y4 y5 y6 y7 y8 y9 y10 y11 y12 y13 y14 y15 y16 y17, LeO (ins_Show.j4 k y0 y1 y2 y3 y4 y5 y6 y7 y8 y9 y10 y11 y12 y13 y14 y15 y16 y17) (ins_Show.j4 (k + 1) y0 y1 y2 y3 y4 y5 y6 y7 y8 y9 y10 y11 y12 y13 y14 y15 y16 y17)) ∧ (∀ y0 y1 y2 y3 y4 y5 y6 y7 y8 y9 y10 y11 y12 y13 y14 y15 y16 y17, LeO (ins_Show.j5 k y0 y1 y2 y3 y4 y5 y6 y7 y8 y9 y10 y11 y12 y13 y14 y15 y16 y17) (ins_Show.j5 (k + 1) y0 y1 y2 y3 y4 y5 y6 y7 y8 y9 y10 y11 y12 y13 y14 y15 y16 y17)) ∧ (∀ y0 y1 y2 y3 y4 y5 y6 y7 y8 y9 y10 y11 y12 y13 y14 y15 y16 y17 y18, LeO (ins_Show.j6 k y0 y1 y2 y3 y4 y5 y6 y7 y8 y9 y10 y11 y12 y13 y14 y15 y16 y17 y18) (ins_Show.j6 (k + 1) y0 y1 y2 y3 y4 y5 y6 y7 y8 y9 y10 y11 y12 y13 y14 y15 y16 y17 y18)) ∧ (∀ y0 y1 y2 y3 y4 y5 y6 y7 y8 y9 y10 y11 y12 y13 y14 y15 y16 y17, LeO (ins_Show.j7 k y0 y1 y2 y3 y4 y5 y6 y7 y8 y9 y10 y11 y12 y13 y14 y15 y16 y17) (ins_Show.j7 (k + 1) y0 y1 y2 y3 y4 y5 y6 y7 y8 y9 y10 y11 y12 y13 y14 y15 y16 y17))
  | 0 => ⟨fun _ _ _ _ _ _ _ _ _ _ _ _ _ _ _ _ _ _ r h => by simp [ins_Show.j0] at h, fun _ _ _ _ _ _ _ _ _ _ _ _ _ _ _ _ _ _ _ r h => by simp [ins_Show.j1] at h, fun _ _ _ _ _ _ _ _ _ _ _ _ _ _ _ _ _ _ r h => by simp [ins_Show.j2] at h, fun _ _ _ _ _ _ _ _ _ _ _ _ _ _ _ _ _ _ r h => by simp [ins_Show.j3] at h, fun _ _ _ _ _ _ _ _ _ _ _ _ _ _ _ _ _ _ r h => by simp [ins_Show.j4] at h, fun _ _ _ _ _ _ _ _ _ _ _ _ _ _ _ _ _ _ r h => by simp [ins_Show.j5] at h, fun _ _ _ _ _ _ _ _ _ _ _ _ _ _ _ _ _ _ _ r h => by simp [ins_Show.j6] at h, fun _ _ _ _ _ _ _ _ _ _ _ _ _ _ _ _ _ _ r h => by simp [ins_Show.j7] at h⟩
  | k + 1 => by
    obtain ⟨ih0, ih1, ih2, ih3, ih4, ih5, ih6, ih7⟩ := ins_Show.mono_l k
    refine ⟨?_, ?_, ?_, ?_, ?_, ?_, ?_, ?_⟩
    · intro y0 y1 y2 y3 y4 y5 y6 y7 y8 y9 y10 y11 y12 y13 y14 y15 y16 y17
      unfold ins_Show.j0
      repeat' first
      | (with_reducible exact ih0 _ _ _ _ _ _ _ _ _ _ _ _ _ _ _ _ _ _)
      | (with_reducible exact ih1 _ _ _ _ _ _ _ _ _ _ _ _ _ _ _ _ _ _ _)
      | (with_reducible exact ih2 _ _ _ _ _ _ _ _ _ _ _ _ _ _ _ _ _ _)
      | (with_reducible exact ih3 _ _ _ _ _ _ _ _ _ _ _ _ _ _ _ _ _ _)
      | (with_reducible exact ih4 _ _ _ _ _ _ _ _ _ _ _ _ _ _ _ _ _ _)
      | (with_reducible exact ih5 _ _ _ _ _ _ _ _ _ _ _ _ _ _ _ _ _ _)
      | (with_reducible exact ih6 _ _ _ _ _ _ _ _ _ _ _ _ _ _ _ _ _ _ _)
      | (with_reducible exact ih7 _ _ _ _ _ _ _ _ _ _ _ _ _ _ _ _ _ _)
      | (with_reducible exact LeO.refl _)
      | (with_reducible exact LeO.none _)
      | (with_reducible refine LeO.ite ?_ ?_)
      | (with_reducible refine LeO.bind ?_ (fun _ => ?_))
      | exact ih0 _ _ _ _ _ _ _ _ _ _ _ _ _ _ _ _ _ _
      | exact ih1 _ _ _ _ _ _ _ _ _ _ _ _ _ _ _ _ _ _ _
      | exact ih2 _ _ _ _ _ _ _ _ _ _ _ _ _ _ _ _ _ _
      | exact ih3 _ _ _ _ _ _ _ _ _ _ _ _ _ _ _ _ _ _
      | exact ih4 _ _ _ _ _ _ _ _ _ _ _ _ _ _ _ _ _ _
      | exact ih5 _ _ _ _ _ _ _ _ _ _ _ _ _ _ _ _ _ _
      | exact ih6 _ _ _ _ _ _ _ _ _ _ _ _ _ _ _ _ _ _ _
      | exact ih7 _ _ _ _ _ _ _ _ _ _ _ _ _ _ _ _ _ _
      | exact LeO.none _
      | refine LeO.ite ?_ ?_
      | refine LeO.bind ?_ (fun _ => ?_)
    · intro y0 y1 y2 y3 y4 y5 y6 y7 y8 y9 y10 y11 y12 y13 y14 y15 y16 y17 y18
      unfold ins_Show.j1
      repeat' first
      | (with_reducible exact ih0 _ _ _ _ _ _ _ _ _ _ _ _ _ _ _ _ _ _)
      | (with_reducible exact ih1 _ _ _ _ _ _ _ _ _ _ _ _ _ _ _ _ _ _ _)
      | (with_reducible exact ih2 _ _ _ _ _ _ _ _ _ _ _ _ _ _ _ _ _ _)
      | (with_reducible exact ih3 _ _ _ _ _ _ _ _ _ _ _ _ _ _ _ _ _ _)
      | (with_reducible exact ih4 _ _ _ _ _ _ _ _ _ _ _ _ _ _ _ _ _ _)
      | (with_reducible exact ih5 _ _ _ _ _ _ _ _ _ _ _ _ _ _ _ _ _ _)
      | (with_reducible exact ih6 _ _ _ _ _ _ _ _ _ _ _ _ _ _ _ _ _ _ _)
      | (with_reducible exact ih7 _ _ _ _ _ _ _ _ _ _ _ _ _ _ _ _ _ _)
      | (with_reducible exact LeO.refl _)
      | (with_reducible exact LeO.none _)
      | (with_reducible refine LeO.ite ?_ ?_)
      | (with_reducible refine LeO.bind ?_ (fun _ => ?_))
      | exact ih0 _ _ _ _ _ _ _ _ _ _ _ _ _ _ _ _ _ _
      | exact ih1 _ _ _ _ _ _ _ _ _ _ _ _ _ _ _ _ _ _ _
      | exact ih2 _ _ _ _ _ _ _ _ _ _ _ _ _ _ _ _ _ _
      | exact ih3 _ _ _ _ _ _ _ _ _ _ _ _ _ _ _ _ _ _
      | exact ih4 _ _ _ _ _ _ _ _ _ _ _ _ _ _ _ _ _ _
      | exact ih5 _ _ _ _ _ _ _ _ _ _ _ _ _ _ _ _ _ _
      | exact ih6 _ _ _ _ _ _ _ _ _ _ _ _ _ _ _ _ _ _ _
      | exact ih7 _ _ _ _ _ _ _ _ _ _ _ _ _ _ _ _ _ _
      | exact LeO.none _
      | refine LeO.ite ?_ ?_
      | refine LeO.bind ?_ (fun _ => ?_)
    · intro y0 y1 y2 y3 y4 y5 y6 y7 y8 y9 y10 y11 y12 y13 y14 y15 y16 y17
      unfold ins_Show.j2
      repeat' first
      | (with_reducible exact ih0 _ _ _ _ _ _ _ _ _ _ _ _ _ _ _ _ _ _)
      | (with_reducible exact ih1 _ _ _ _ _ _ _ _ _ _ _ _ _ _ _ _ _ _ _)
      | (with_reducible exact ih2 _ _ _ _ _ _ _ _ _ _ _ _ _ _ _ _ _ _)
      | (with_reducible exact ih3 _ _ _ _ _ _ _ _ _ _ _ _ _ _ _ _ _ _)
      | (with_reducible exact ih4 _ _ _ _ _ _ _ _ _ _ _ _ _ _ _ _ _ _)
      | (with_reducible exact ih5 _ _ _ _ _ _ _ _ _ _ _ _ _ _ _ _ _ _)
      | (with_reducible exact ih6 _ _ _ _ _ _ _ _ _ _ _ _ _ _ _ _ _ _ _)
      | (with_reducible exact ih7 _ _ _ _ _ _ _ _ _ _ _ _ _ _ _ _ _ _)
      | (with_reducible exact LeO.refl _)
      | (with_reducible exact LeO.none _)
      | (with_reducible refine LeO.ite ?_ ?_)
      | (with_reducible refine LeO.bind ?_ (fun _ => ?_))
      | exact ih0 _ _ _ _ _ _ _ _ _ _ _ _ _ _ _ _ _ _
      | exact ih1 _ _ _ _ _ _ _ _ _ _ _ _ _ _ _ _ _ _ _
      | exact ih2 _ _ _ _ _ _ _ _ _ _ _ _ _ _ _ _ _ _
      | exact ih3 _ _ _ _ _ _ _ _ _ _ _ _ _ _ _ _ _ _
      | exact ih4 _ _ _ _ _ _ _ _ _ _ _ _ _ _ _ _ _ _
      | exact ih5 _ _ _ _ _ _ _ _ _ _ _ _ _ _ _ _ _ _
      | exact ih6 _ _ _ _ _ _ _ _ _ _ _ _ _ _ _ _ _ _ _
      | exact ih7 _ _ _ _ _ _ _ _ _ _ _ _ _ _ _ _ _ _
      | exact LeO.none _
      | refine LeO.ite ?_ ?_
      | refine LeO.bind ?_ (fun _ => ?_)
    · intro y0 y1 y2 y3 y4 y5 y6 y7 y8 y9 y10 y11 y12 y13 y14 y15 y16 y17
      unfold ins_Show.j3
      repeat' first
      | (with_reducible exact ih0 _ _ _ _ _ _ _ _ _ _ _ _ _ _ _ _ _ _)
      | (with_reducible exact ih1 _ _ _ _ _ _ _ _ _ _ _ _ _ _ _ _ _ _ _)
      | (with_reducible exact ih2 _ _ _ _ _ _ _ _ _ _ _ _ _ _ _ _ _ _)
      | (with_reducible exact ih3 _ _ _ _ _ _ _ _ _ _ _ _ _ _ _ _ _ _)
      | (with_reducible exact ih4 _ _ _ _ _ _ _ _ _ _ _ _ _ _ _ _ _ _)
      | (with_reducible exact ih5 _ _ _ _ _ _ _ _ _ _ _ _ _ _ _ _ _ _)
      | (with_reducible exact ih6 _ _ _ _ _ _ _ _ _ _ _ _ _ _ _ _ _ _ _)
      | (with_reducible exact ih7 _ _ _ _ _ _ _ _ _ _ _ _ _ _ _ _ _ _)
      | (with_reducible exact LeO.refl _)
      | (with_reducible exact LeO.none _)
      | (with_reducible refine LeO.ite ?_ ?_)
      | (with_reducible refine LeO.bind ?_ (fun _ => ?_))
      | exact ih0 _ _ _ _ _ _ _ _ _ _ _ _ _ _ _ _ _ _
      | exact ih1 _ _ _ _ _ _ _ _ _ _ _ _ _ _ _ _ _ _ _
      | exact ih2 _ _ _ _ _ _ _ _ _ _ _ _ _ _ _ _ _ _
      | exact ih3 _ _ _ _ _ _ _ _ _ _ _ _ _ _ _ _ _ _
      | exact ih4 _ _ _ _ _ _ _ _ _ _ _ _ _ _ _ _ _ _
      | exact ih5 _ _ _ _ _ _ _ _ _ _ _ _ _ _ _ _ _ _
      | exact ih6 _ _ _ _ _ _ _ _ _ _ _ _ _ _ _ _ _ _ _
      | exact ih7 _ _ _ _ _ _ _ _ _ _ _ _ _ _ _ _ _ _
      | exact LeO.none _
      | refine LeO.ite ?_ ?_
      | refine LeO.bind ?_ (fun _ => ?_)
    · intro y0 y1 y2 y3 y4 y5 y6 y7 y8 y9 y10 y11 y12 y13 y14 y15 y16 y17
      unfold ins_Show.j4
      repeat' first
      | (with_reducible exact ih0 _ _ _ _ _ _ _ _ _ _ _ _ _ _ _ _ _ _)
      | (with_reducible exact ih1 _ _ _ _ _ _ _ _ _ _ _ _ _ _ _ _ _ _ _)
      | (with_reducible exact ih2 _ _ _ _ _ _ _ _ _ _ _ _ _ _ _ _ _ _)
      | (with_reducible exact ih3 _ _ _ _ _ _ _ _ _ _ _ _ _ _ _ _ _ _)
      | (with_reducible exact ih4 _ _ _ _ _ _ _ _ _ _ _ _ _ _ _ _ _ _)
      | (with_reducible exact ih5 _ _ _ _ _ _ _ _ _ _ _ _ _ _ _ _ _ _)
      | (with_reducible exact ih6 _ _ _ _ _ _ _ _ _ _ _ _ _ _ _ _ _ _ _)
      | (with_reducible exact ih7 _ _ _ _ _ _ _ _ _ _ _ _ _ _ _ _ _ _)
      | (with_reducible exact LeO.refl _)
      | (with_reducible exact LeO.none _)
      | (with_reducible refine LeO.ite ?_ ?_)
      | (with_reducible refine LeO.bind ?_ (fun _ => ?_))
      | exact ih0 _ _ _ _ _ _ _ _ _ _ _ _ _ _ _ _ _ _
      | exact ih1 _ _ _ _ _ _ _ _ _ _ _ _ _ _ _ _ _ _ _
      | exact ih2 _ _ _ _ _ _ _ _ _ _ _ _ _ _ _ _ _ _
      | exact ih3 _ _ _ _ _ _ _ _ _ _ _ _ _ _ _ _ _ _
      | exact ih4 _ _ _ _ _ _ _ _ _ _ _ _ _ _ _ _ _ _
      | exact ih5 _ _ _ _ _ _ _ _ _ _ _ _ _ _ _ _ _ _
      | exact ih6 _ _ _ _ _ _ _ _ _ _ _ _ _ _ _ _ _ _ _
      | exact ih7 _ _ _ _ _ _ _ _ _ _ _ _ _ _ _ _ _ _
      | exact LeO.none _
      | refine LeO.ite ?_ ?_
      | refine LeO.bind ?_ (fun _ => ?_)
    · intro y0 y1 y2 y3 y4 y5 y6 y7 y8 y9 y10 y11 y12 y13 y14 y15 y16 y17
      unfold ins_Show.j5
      repeat' first
      | (with_reducible exact ih0 _ _ _ _ _ _ _ _ _ _ _ _ _ _ _ _ _ _)
      | (with_reducible exact ih1 _ _ _ _ _ _ _ _ _ _ _ _ _ _ _ _ _ _ _)
      | (with_reducible exact ih2 _ _ _ _ _ _ _ _ _ _ _ _ _ _ _ _ _ _)
      | (with_reducible exact ih3 _ _ _ _ _ _ _ _ _ _ _ _ _ _ _ _ _ _)
      | (with_reducible exact ih4 _ _ _ _ _ _ _ _ _ _ _ _ _ _ _ _ _ _)
      | (with_reducible exact ih5 _ _ _ _ _ _ _ _ _ _ _ _ _ _ _ _ _ _)
      | (with_reducible exact ih6 _ _ _ _ _ _ _ _ _ _ _ _ _ _ _ _ _ _ _)
      | (with_reducible exact ih7 _ _ _ _ _ _ _ _ _ _ _ _ _ _ _ _ _ _)
      | (with_reducible exact LeO.refl _)
      | (with_reducible exact LeO.none _)
      | (with_reducible refine LeO.ite ?_ ?_)
      | (with_reducible refine LeO.bind ?_ (fun _ => ?_))
      | exact ih0 _ _ _ _ _ _ _ _ _ _ _ _ _ _ _ _ _ _
      | exact ih1 _ _ _ _ _ _ _ _ _ _ _ _ _ _ _ _ _ _ _
      | exact ih2 _ _ _ _ _ _ _ _ _ _ _ _ _ _ _ _ _ _
      | exact ih3 _ _ _ _ _ _ _ _ _ _ _ _ _ _ _ _ _ _
      | exact ih4 _ _ _ _ _ _ _ _ _ _ _ _ _ _ _ _ _ _
      | exact ih5 _ _ _ _ _ _ _ _ _ _ _ _ _ _ _ _ _ _
      | exact ih6 _ _ _ _ _ _ _ _ _ _ _ _ _ _ _ _ _ _ _
      | exact ih7 _ _ _ _ _ _ _ _ _ _ _ _ _ _ _ _ _ _
      | exact LeO.none _
      | refine LeO.ite ?_ ?_
      | refine LeO.bind ?_ (fun _ => ?_)
    · intro y0 y1 y2 y3 y4 y5 y6 y7 y8 y9 y10 y11 y12 y13 y14 y15 y16 y17 y18
      unfold ins_Show.j6
      repeat' first
      | (with_reducible exact ih0 _ _ _ _ _ _ _ _ _ _ _ _ _ _ _ _ _ _)
      | (with_reducible exact ih1 _ _ _ _ _ _ _ _ _ _ _ _ _ _ _ _ _ _ _)
      | (with_reducible exact ih2 _ _ _ _ _ _ _ _ _ _ _ _ _ _ _ _ _ _)
      | (with_reducible exact ih3 _ _ _ _ _ _ _ _ _ _ _ _ _ _ _ _ _ _)
      | (with_reducible exact ih4 _ _ _ _ _ _ _ _ _ _ _ _ _ _ _ _ _ _)
      | (with_reducible exact ih5 _ _ _ _ _ _ _ _ _ _ _ _ _ _ _ _ _ _)
      | (with_reducible exact ih6 _ _ _ _ _ _ _ _ _ _ _ _ _ _ _ _ _ _ _)
      | (with_reducible exact ih7 _ _ _ _ _ _ _ _ _ _ _ _ _ _ _ _ _ _)
      | (with_reducible exact LeO.refl _)
      | (with_reducible exact LeO.none _)
      | (with_reducible refine LeO.ite ?_ ?_)
      | (with_reducible refine LeO.bind ?_ (fun _ => ?_))
      | exact ih0 _ _ _ _ _ _ _ _ _ _ _ _ _ _ _ _ _ _
      | exact ih1 _ _ _ _ _ _ _ _ _ _ _ _ _ _ _ _ _ _ _
      | exact ih2 _ _ _ _ _ _ _ _ _ _ _ _ _ _ _ _ _ _
      | exact ih3 _ _ _ _ _ _ _ _ _ _ _ _ _ _ _ _ _ _
      | exact ih4 _ _ _ _ _ _ _ _ _ _ _ _ _ _ _ _ _ _
      | exact ih5 _ _ _ _ _ _ _ _ _ _ _ _ _ _ _ _ _ _
      | exact ih6 _ _ _ _ _ _ _ _ _ _ _ _ _ _ _ _ _ _ _
      | exact ih7 _ _ _ _ _ _ _ _ _ _ _ _ _ _ _ _ _ _
      | exact LeO.none _
      | refine LeO.ite ?_ ?_
      | refine LeO.bind ?_ (fun _ => ?_)
    · intro y0 y1 y2 y3 y4 y5 y6 y7 y8 y9 y10 y11 y12 y13 y14 y15 y16 y17
      unfold ins_Show.j7
      repeat' first
      | (with_reducible exact ih0 _ _ _ _ _ _ _ _ _ _ _ _ _ _ _ _ _ _)
      | (with_reducible exact ih1 _ _ _ _ _ _ _ _ _ _ _ _ _ _ _ _ _ _ _)
      | (with_reducible exact ih2 _ _ _ _ _ _ _ _ _ _ _ _ _ _ _ _ _ _)
      | (with_reducible exact ih3 _ _ _ _ _ _ _ _ _ _ _ _ _ _ _ _ _ _)
      | (with_reducible exact ih4 _ _ _ _ _ _ _ _ _ _ _ _ _ _ _ _ _ _)
      | (with_reducible exact ih5 _ _ _ _ _ _ _ _ _ _ _ _ _ _ _ _ _ _)
      | (with_reducible exact ih6 _ _ _ _ _ _ _ _ _ _ _ _ _ _ _ _ _ _ _)
      | (with_reducible exact ih7 _ _ _ _ _ _ _ _ _ _ _ _ _ _ _ _ _ _)
      | (with_reducible exact LeO.refl _)
      | (with_reducible exact LeO.none _)
      | (with_reducible refine LeO.ite ?_ ?_)
      | (with_reducible refine LeO.bind ?_ (fun _ => ?_))
      | exact ih0 _ _ _ _ _ _ _ _ _ _ _ _ _ _ _ _ _ _
      | exact ih1 _ _ _ _ _ _ _ _ _ _ _ _ _ _ _ _ _ _ _
      | exact ih2 _ _ _ _ _ _ _ _ _ _ _ _ _ _ _ _ _ _
      | exact ih3 _ _ _ _ _ _ _ _ _ _ _ _ _ _ _ _ _ _
      | exact ih4 _ _ _ _ _ _ _ _ _ _ _ _ _ _ _ _ _ _
      | exact ih5 _ _ _ _ _ _ _ _ _ _ _ _ _ _ _ _ _ _
      | exact ih6 _ _ _ _ _ _ _ _ _ _ _ _ _ _ _ _ _ _ _
      | exact ih7 _ _ _ _ _ _ _ _ _ _ _ _ _ _ _ _ _ _
      | exact LeO.none _
      | refine LeO.ite ?_ ?_
      | refine LeO.bind ?_ (fun _ => ?_)
theorem ins_Show.mono : ∀ a0 a1 a2 a3 a4 a5 a6 k, LeO (ins_Show.f k a0 a1 a2 a3 a4 a5 a6) (ins_Show.f (k + 1) a0 a1 a2 a3 a4 a5 a6) := by
  intro a0 a1 a2 a3 a4 a5 a6 k
  obtain ⟨ih0, ih1, ih2, ih3, ih4, ih5, ih6, ih7⟩ := ins_Show.mono_l k
  unfold ins_Show.f
  repeat' first
      | (with_reducible exact ih0 _ _ _ _ _ _ _ _ _ _ _ _ _ _ _ _ _ _)
      | (with_reducible exact ih1 _ _ _ _ _ _ _ _ _ _ _ _ _ _ _ _ _ _ _)
      | (with_reducible exact ih2 _ _ _ _ _ _ _ _ _ _ _ _ _ _ _ _ _ _)
      | (with_reducible exact ih3 _ _ _ _ _ _ _ _ _ _ _ _ _ _ _ _ _ _)
      | (with_reducible exact ih4 _ _ _ _ _ _ _ _ _ _ _ _ _ _ _ _ _ _)
      | (with_reducible exact ih5 _ _ _ _ _ _ _ _ _ _ _ _ _ _ _ _ _ _)
      | (with_reducible exact ih6 _ _ _ _ _ _ _ _ _ _ _ _ _ _ _ _ _ _ _)
      | (with_reducible exact ih7 _ _ _ _ _ _ _ _ _ _ _ _ _ _ _ _ _ _)
      | (with_reducible exact LeO.refl _)
      | (with_reducible exact LeO.none _)
      | (with_reducible refine LeO.ite ?_ ?_)
      | (with_reducible refine LeO.bind ?_ (fun _ => ?_))
      | exact ih0 _ _ _ _ _ _ _ _ _ _ _ _ _ _ _ _ _ _
      | exact ih1 _ _ _ _ _ _ _ _ _ _ _ _ _ _ _ _ _ _ _
      | exact ih2 _ _ _ _ _ _ _ _ _ _ _ _ _ _ _ _ _ _
      | exact ih3 _ _ _ _ _ _ _ _ _ _ _ _ _ _ _ _ _ _
      | exact ih4 _ _ _ _ _ _ _ _ _ _ _ _ _ _ _ _ _ _
      | exact ih5 _ _ _ _ _ _ _ _ _ _ _ _ _ _ _ _ _ _
      | exact ih6 _ _ _ _ _ _ _ _ _ _ _ _ _ _ _ _ _ _ _
      | exact ih7 _ _ _ _ _ _ _ _ _ _ _ _ _ _ _ _ _ _
      | exact LeO.none _
      | refine LeO.ite ?_ ?_
      | refine LeO.bind ?_ (fun _ => ?_)
set_option maxHeartbeats 8000000 in
set_option maxRecDepth 100000 in
theorem ins_Show.calls (k : Nat) (a0_0 : Int) (a0_1 : Int) (a0_2 : Int) (a0_3 : Int) (a0_4 : Int) (a0_5 : Int) (a0_6 : Int) (r : ByteArray) (w : World) (h : ins_Show.f k a0_0 a0_1 a0_2 a0_3 a0_4 a0_5 a0_6 = some r) (hgl : GlobOK w) :
    Calls Tryd.prog 15 #[.agg #[.int .i64 a0_0, .int .i64 a0_1, .int .i64 a0_2, .int .i64 a0_3, .int .i64 a0_4, .int .i64 a0_5, .int .i64 a0_6]] w fun e w' => e = .returned (.string r) ∧ Below w.heap.size w w' := by
  have hu23 := Tryd.underlying23
  have hu43 := Tryd.underlying43
  have HB := Aside0.mk (Below.refl w.heap.size w)
  have HGL := Aside0.mk hgl
  clear hgl
  have H : ((ins_of.f a0_0).bind fun bt105 => ((some (([bt105.1] : List ByteArray) : List ByteArray)).bind fun y116 => (if bt105.2.1 = true then ((ins_name.f a0_2).bind fun t119 => (if y116.length < 8796093022208 then (ins_Show.j0 k (y116 ++ [t119]) a0_0 a0_1 a0_2 a0_3 a0_4 a0_5 a0_6 bt105.1 bt105.2.1 bt105.2.2.1 bt105.2.2.2.1 bt105.2.2.2.2.1 bt105.2.2.2.2.2.1 bt105.2.2.2.2.2.2.1 bt105.2.2.2.2.2.2.2.1 bt105.2.2.2.2.2.2.2.2.1 bt105.2.2.2.2.2.2.2.2.2) else (none))) else (ins_Show.j0 k y116 a0_0 a0_1 a0_2 a0_3 a0_4 a0_5 a0_6 bt105.1 bt105.2.1 bt105.2.2.1 bt105.2.2.2.1 bt105.2.2.2.2.1 bt105.2.2.2.2.2.1 bt105.2.2.2.2.2.2.1 bt105.2.2.2.2.2.2.2.1 bt105.2.2.2.2.2.2.2.2.1 bt105.2.2.2.2.2.2.2.2.2)))) = some r := h
  clear h
  replace H := Option.bind_eq_some_iff.mp H
  obtain ⟨⟨t105, t106, t107, t108, t109, t110, t111, t112, t113, t114⟩, A20, H⟩ := H
  replace H : ((some (([t105] : List ByteArray) : List ByteArray)).bind fun y116 => (if t106 = true then ((ins_name.f a0_2).bind fun t119 => (if y116.length < 8796093022208 then (ins_Show.j0 k (y116 ++ [t119]) a0_0 a0_1 a0_2 a0_3 a0_4 a0_5 a0_6 t105 t106 t107 t108 t109 t110 t111 t112 t113 t114) else (none))) else (ins_Show.j0 k y116 a0_0 a0_1 a0_2 a0_3 a0_4 a0_5 a0_6 t105 t106 t107 t108 t109 t110 t111 t112 t113 t114))) = some r := H
  have A2 := Aside0.mk A20
  clear A20
  obtain ⟨y116, hy116⟩ : ∃ y_ : List ByteArray, y_ = (([t105] : List ByteArray)) := ⟨_, rfl⟩
  replace H : (if t106 = true then ((ins_name.f a0_2).bind fun t119 => (if y116.length < 8796093022208 then (ins_Show.j0 k (y116 ++ [t119]) a0_0 a0_1 a0_2 a0_3 a0_4 a0_5 a0_6 t105 t106 t107 t108 t109 t110 t111 t112 t113 t114) else (none))) else (ins_Show.j0 k y116 a0_0 a0_1 a0_2 a0_3 a0_4 a0_5 a0_6 t105 t106 t107 t108 t109 t110 t111 t112 t113 t114)) = some r := by first | (rw [hy116]; with_reducible exact H) | (have H2_ := (Option.bind_some _ _).symm.trans H; rw [hy116]; with_reducible exact H2_) | (have H2_ := (Option.bind_some _ _).symm.trans H; with_reducible exact H2_) | with_reducible exact H | (rw [hy116]; exact H) | exact H
  have Ny116 := Aside0.mk hy116
  clear hy116
  have HC3 := Aside0.mk H
  clear H
  go_enter Tryd.func15, Tryd.ntmps15
  go_upto_if 13 with (first | ((with_reducible refine gate_dst (N := 1) rfl ?_); refine box_event ?hg (N := 1) ?hd (cs := #[.int .i64 a0_0, .int .i64 a0_1, .int .i64 a0_2, .int .i64 a0_3, .int .i64 a0_4, .int .i64 a0_5, .int .i64 a0_6]) (t := 23) ?hr ?_; (case hd => rfl); (case hg => rfl); (case hr => first | (go_simp; done) | (go_simp; rfl)); intro gb104 hg w4 hbox hb; have n0_ := Aside0.mk (below_step (by repeat (first | (with_reducible first | exact HB.out | apply below_alloc | apply pw_below_drewN | apply below_drew1) | exact HB.out)) hb); have n1_ := Aside0.mk (hbox); have n2_ := Aside0.mk ((by rw [hg]; exact (below_size (by repeat (first | (with_reducible first | exact HB.out | apply below_alloc | apply pw_below_drewN | apply below_drew1) | exact HB.out))) : w.heap.size ≤ gb104)); have n3_ := Aside0.mk ((by rw [hg]; exact (below_size (by repeat (first | (with_reducible first | exact HB.out | apply below_alloc | apply pw_below_drewN | apply below_drew1) | exact HB.out))) : w.heap.size ≤ gb104)); clear HB; have HB := n0_; have BK104 := n1_; have GW104 := n2_; have GE104 := n3_; clear n0_ n1_ n2_ n3_; clear hb hbox hg; have hcz5_0 : w4.cell? ⟨gb104, 0, none⟩ = some (.int .i64 a0_0) := (blk_cell BK104.out 0).trans rfl; have hcz5_1 : w4.cell? ⟨gb104, 1, none⟩ = some (.int .i64 a0_1) := (blk_cell BK104.out 1).trans rfl; have hcz5_2 : w4.cell? ⟨gb104, 2, none⟩ = some (.int .i64 a0_2) := (blk_cell BK104.out 2).trans rfl; have hcz5_3 : w4.cell? ⟨gb104, 3, none⟩ = some (.int .i64 a0_3) := (blk_cell BK104.out 3).trans rfl; have hcz5_4 : w4.cell? ⟨gb104, 4, none⟩ = some (.int .i64 a0_4) := (blk_cell BK104.out 4).trans rfl; have hcz5_5 : w4.cell? ⟨gb104, 5, none⟩ = some (.int .i64 a0_5) := (blk_cell BK104.out 5).trans rfl; have hcz5_6 : w4.cell? ⟨gb104, 6, none⟩ = some (.int .i64 a0_6) := (blk_cell BK104.out 6).trans rfl; have hfz5_0 := blk_frozen BK104.out 0; have hfz5_1 := blk_frozen BK104.out 1; have hfz5_2 := blk_frozen BK104.out 2; have hfz5_3 := blk_frozen BK104.out 3; have hfz5_4 := blk_frozen BK104.out 4; have hfz5_5 := blk_frozen BK104.out 5; have hfz5_6 := blk_frozen BK104.out 6) | ((with_reducible refine gate_callee (f := 21) rfl ?_); refine goesL_ (some 8) rfl rfl Tryd.func21 (by kernel_rfl) rfl #[.int .i64 a0_0] rfl (by (try simp only [List.map_toArray, List.map_cons, List.map_nil]); first | done | rfl | (simp only [List.length_drop, List.length_take]; rfl)) ?_; (with_reducible refine (ins_of.calls a0_0 t105 t106 t107 t108 t109 t110 t111 t112 t113 t114 _ A2.out (GlobOK.step HGL.out (by repeat (first | (with_reducible first | exact HB.out | apply below_alloc | apply pw_below_drewN | apply below_drew1 | refine below_set ?_ GE104.out) | exact HB.out)))).mono ?_); rintro e w6 ⟨rfl, hb⟩; refine ⟨_, rfl, ?_⟩; have n0_ := Aside0.mk (blk_below (g := gb104) (o := .cells #[.int .i64 a0_0, .int .i64 a0_1, .int .i64 a0_2, .int .i64 a0_3, .int .i64 a0_4, .int .i64 a0_5, .int .i64 a0_6] 23 (0, 0)) (by (with_reducible repeat (first | refine blk_drewN ?_ _ | refine blk_drew ?_ | refine blk_alloc ?_ _)); exact BK104.out) hb); have n1_ := Aside0.mk (below_step (by repeat (first | (with_reducible first | exact HB.out | apply below_alloc | apply pw_below_drewN | apply below_drew1 | refine below_set ?_ GE104.out) | exact HB.out)) hb); clear BK104; clear HB; have BK104 := n0_; have HB := n1_; clear n0_ n1_; (try clear hb); (try clear hb2); (try clear hk); (try clear hi)) | ((with_reducible refine gate_dst (N := 3) rfl ?_); refine box_event ?hg (N := 3) ?hd (cs := #[.string (⟨#[]⟩ : ByteArray), .bool false, .bool false, .bool false, .bool false, .bool false, .bool false, .bool false, .bool false, .bool false]) (t := 43) ?hr ?_; (case hd => rfl); (case hg => rfl); (case hr => first | (go_simp; done) | (go_simp; rfl)); intro gb115 hg w7 hbox hb; have n0_ := Aside0.mk (blk_below (g := gb104) (o := .cells #[.int .i64 a0_0, .int .i64 a0_1, .int .i64 a0_2, .int .i64 a0_3, .int .i64 a0_4, .int .i64 a0_5, .int .i64 a0_6] 23 (0, 0)) (by (with_reducible repeat (first | refine blk_drewN ?_ _ | refine blk_drew ?_ | refine blk_alloc ?_ _)); exact BK104.out) hb); have n1_ := Aside0.mk (below_step (by repeat (first | (with_reducible first | exact HB.out | apply below_alloc | apply pw_below_drewN | apply below_drew1 | refine below_set ?_ GE104.out) | exact HB.out)) hb); have n2_ := Aside0.mk (hbox); have n3_ := Aside0.mk ((by rw [hg]; exact (below_size (by repeat (first | (with_reducible first | exact HB.out | apply below_alloc | apply pw_below_drewN | apply below_drew1 | refine below_set ?_ GE104.out) | exact HB.out))) : w.heap.size ≤ gb115)); have n4_ := Aside0.mk ((by rw [hg]; exact (below_size (by repeat (first | (with_reducible first | exact HB.out | apply below_alloc | apply pw_below_drewN | apply below_drew1 | refine below_set ?_ GE104.out) | exact HB.out))) : w.heap.size ≤ gb115)); have n5_ := Aside0.mk ((by rw [hg]; exact Nat.ne_of_lt (blk_lt (g := gb104) (o := .cells #[.int .i64 a0_0, .int .i64 a0_1, .int .i64 a0_2, .int .i64 a0_3, .int .i64 a0_4, .int .i64 a0_5, .int .i64 a0_6] 23 (0, 0)) (by (with_reducible repeat (first | refine blk_drewN ?_ _ | refine blk_drew ?_ | refine blk_alloc ?_ _)); exact BK104.out)) : gb104 ≠ gb115)); have n6_ := Aside0.mk ((by rw [hg]; exact Nat.ne_of_gt (blk_lt (g := gb104) (o := .cells #[.int .i64 a0_0, .int .i64 a0_1, .int .i64 a0_2, .int .i64 a0_3, .int .i64 a0_4, .int .i64 a0_5, .int .i64 a0_6] 23 (0, 0)) (by (with_reducible repeat (first | refine blk_drewN ?_ _ | refine blk_drew ?_ | refine blk_alloc ?_ _)); exact BK104.out)) : gb115 ≠ gb104)); clear BK104; clear HB; have BK104 := n0_; have HB := n1_; have BK115 := n2_; have GW115 := n3_; have GE115 := n4_; have NB104_115 := n5_; have NB115_104 := n6_; clear n0_ n1_ n2_ n3_ n4_ n5_ n6_; clear hb hbox hg; have hnb8 := NB115_104.out; have hnc8 := NB104_115.out; have hcz9_0 : w7.cell? ⟨gb115, 0, none⟩ = some (.string (⟨#[]⟩ : ByteArray)) := (blk_cell BK115.out 0).trans rfl; have hcz9_1 : w7.cell? ⟨gb115, 1, none⟩ = some (.bool false) := (blk_cell BK115.out 1).trans rfl; have hcz9_2 : w7.cell? ⟨gb115, 2, none⟩ = some (.bool false) := (blk_cell BK115.out 2).trans rfl; have hcz9_3 : w7.cell? ⟨gb115, 3, none⟩ = some (.bool false) := (blk_cell BK115.out 3).trans rfl; have hcz9_4 : w7.cell? ⟨gb115, 4, none⟩ = some (.bool false) := (blk_cell BK115.out 4).trans rfl; have hcz9_5 : w7.cell? ⟨gb115, 5, none⟩ = some (.bool false) := (blk_cell BK115.out 5).trans rfl; have hcz9_6 : w7.cell? ⟨gb115, 6, none⟩ = some (.bool false) := (blk_cell BK115.out 6).trans rfl; have hcz9_7 : w7.cell? ⟨gb115, 7, none⟩ = some (.bool false) := (blk_cell BK115.out 7).trans rfl; have hcz9_8 : w7.cell? ⟨gb115, 8, none⟩ = some (.bool false) := (blk_cell BK115.out 8).trans rfl; have hcz9_9 : w7.cell? ⟨gb115, 9, none⟩ = some (.bool false) := (blk_cell BK115.out 9).trans rfl; have hfz9_0 := blk_frozen BK115.out 0; have hfz9_1 := blk_frozen BK115.out 1; have hfz9_2 := blk_frozen BK115.out 2; have hfz9_3 := blk_frozen BK115.out 3; have hfz9_4 := blk_frozen BK115.out 4; have hfz9_5 := blk_frozen BK115.out 5; have hfz9_6 := blk_frozen BK115.out 6; have hfz9_7 := blk_frozen BK115.out 7; have hfz9_8 := blk_frozen BK115.out 8; have hfz9_9 := blk_frozen BK115.out 9) | ((with_reducible refine gate_dst (N := 11) rfl ?_); refine Kd.R_lit Kd.string _ 9 ?hg (N := 11) ?hd (xs := ([t105] : List ByteArray)) (inner := [.string t105]) (ok := fun _ => True) (okp := fun _ => True) ?hr ?hp (fun _ hk => hk) trivial (Below.refl _ _) (Nat.le_refl _) (by simp) ?_; (case hd => rfl); (case hg => rfl); (case hr => first | (go_simp; done) | (go_simp; rfl)); (case hp => exact (Reps.one (show Kd.M Kd.string _ _ _ t105 [.string t105] from rfl) (Reps.none _ _))); intro v117 w10 ho11 hb hg_ hnew_; clear hg_ hnew_; (first | rw [← Ny116.out] at ho11 | (simp only [Int.reduceToNat] at ho11; rw [← Ny116.out] at ho11)); have n0_ := Aside0.mk (Kd.R_lower ho11 (below_size (by repeat (first | (with_reducible first | exact HB.out | apply below_alloc | apply pw_below_drewN | apply below_drew1 | refine below_set ?_ GE104.out | refine below_set ?_ GE115.out) | exact HB.out)))); have n1_ := Aside0.mk (blk_below (g := gb104) (o := .cells #[.int .i64 a0_0, .int .i64 a0_1, .int .i64 a0_2, .int .i64 a0_3, .int .i64 a0_4, .int .i64 a0_5, .int .i64 a0_6] 23 (0, 0)) (by (with_reducible repeat (first | refine blk_drewN ?_ _ | refine blk_drew ?_ | refine blk_alloc ?_ _)); refine blk_far ?_ NB104_115.out _; (with_reducible repeat (first | refine blk_drewN ?_ _ | refine blk_drew ?_ | refine blk_alloc ?_ _)); refine blk_far ?_ NB104_115.out _; (with_reducible repeat (first | refine blk_drewN ?_ _ | refine blk_drew ?_ | refine blk_alloc ?_ _)); refine blk_far ?_ NB104_115.out _; (with_reducible repeat (first | refine blk_drewN ?_ _ | refine blk_drew ?_ | refine blk_alloc ?_ _)); refine blk_far ?_ NB104_115.out _; (with_reducible repeat (first | refine blk_drewN ?_ _ | refine blk_drew ?_ | refine blk_alloc ?_ _)); refine blk_far ?_ NB104_115.out _; (with_reducible repeat (first | refine blk_drewN ?_ _ | refine blk_drew ?_ | refine blk_alloc ?_ _)); refine blk_far ?_ NB104_115.out _; (with_reducible repeat (first | refine blk_drewN ?_ _ | refine blk_drew ?_ | refine blk_alloc ?_ _)); refine blk_far ?_ NB104_115.out _; (with_reducible repeat (first | refine blk_drewN ?_ _ | refine blk_drew ?_ | refine blk_alloc ?_ _)); refine blk_far ?_ NB104_115.out _; (with_reducible repeat (first | refine blk_drewN ?_ _ | refine blk_drew ?_ | refine blk_alloc ?_ _)); refine blk_far ?_ NB104_115.out _; (with_reducible repeat (first | refine blk_drewN ?_ _ | refine blk_drew ?_ | refine blk_alloc ?_ _)); refine blk_far ?_ NB104_115.out _; (with_reducible repeat (first | refine blk_drewN ?_ _ | refine blk_drew ?_ | refine blk_alloc ?_ _)); exact BK104.out) hb); have n2_ := Aside0.mk (blk_below (g := gb115) (o := .cells #[.string t105, .bool t106, .bool t107, .bool t108, .bool t109, .bool t110, .bool t111, .bool t112, .bool t113, .bool t114] 43 (0, 0)) (by (with_reducible repeat (first | refine blk_drewN ?_ _ | refine blk_drew ?_ | refine blk_alloc ?_ _)); refine blk_put (cs := #[.string t105, .bool t106, .bool t107, .bool t108, .bool t109, .bool t110, .bool t111, .bool t112, .bool t113, .bool false]) ?_ 9 _ rfl; (with_reducible repeat (first | refine blk_drewN ?_ _ | refine blk_drew ?_ | refine blk_alloc ?_ _)); refine blk_put (cs := #[.string t105, .bool t106, .bool t107, .bool t108, .bool t109, .bool t110, .bool t111, .bool t112, .bool false, .bool false]) ?_ 8 _ rfl; (with_reducible repeat (first | refine blk_drewN ?_ _ | refine blk_drew ?_ | refine blk_alloc ?_ _)); refine blk_put (cs := #[.string t105, .bool t106, .bool t107, .bool t108, .bool t109, .bool t110, .bool t111, .bool false, .bool false, .bool false]) ?_ 7 _ rfl; (with_reducible repeat (first | refine blk_drewN ?_ _ | refine blk_drew ?_ | refine blk_alloc ?_ _)); refine blk_put (cs := #[.string t105, .bool t106, .bool t107, .bool t108, .bool t109, .bool t110, .bool false, .bool false, .bool false, .bool false]) ?_ 6 _ rfl; (with_reducible repeat (first | refine blk_drewN ?_ _ | refine blk_drew ?_ | refine blk_alloc ?_ _)); refine blk_put (cs := #[.string t105, .bool t106, .bool t107, .bool t108, .bool t109, .bool false, .bool false, .bool false, .bool false, .bool false]) ?_ 5 _ rfl; (with_reducible repeat (first | refine blk_drewN ?_ _ | refine blk_drew ?_ | refine blk_alloc ?_ _)); refine blk_put (cs := #[.string t105, .bool t106, .bool t107, .bool t108, .bool false, .bool false, .bool false, .bool false, .bool false, .bool false]) ?_ 4 _ rfl; (with_reducible repeat (first | refine blk_drewN ?_ _ | refine blk_drew ?_ | refine blk_alloc ?_ _)); refine blk_put (cs := #[.string t105, .bool t106, .bool t107, .bool false, .bool false, .bool false, .bool false, .bool false, .bool false, .bool false]) ?_ 3 _ rfl; (with_reducible repeat (first | refine blk_drewN ?_ _ | refine blk_drew ?_ | refine blk_alloc ?_ _)); refine blk_put (cs := #[.string t105, .bool t106, .bool false, .bool false, .bool false, .bool false, .bool false, .bool false, .bool false, .bool false]) ?_ 2 _ rfl; (with_reducible repeat (first | refine blk_drewN ?_ _ | refine blk_drew ?_ | refine blk_alloc ?_ _)); refine blk_put (cs := #[.string t105, .bool false, .bool false, .bool false, .bool false, .bool false, .bool false, .bool false, .bool false, .bool false]) ?_ 1 _ rfl; (with_reducible repeat (first | refine blk_drewN ?_ _ | refine blk_drew ?_ | refine blk_alloc ?_ _)); refine blk_put (cs := #[.string (⟨#[]⟩ : ByteArray), .bool false, .bool false, .bool false, .bool false, .bool false, .bool false, .bool false, .bool false, .bool false]) ?_ 0 _ rfl; (with_reducible repeat (first | refine blk_drewN ?_ _ | refine blk_drew ?_ | refine blk_alloc ?_ _)); exact BK115.out) hb); have n3_ := Aside0.mk (below_step (by repeat (first | (with_reducible first | exact HB.out | apply below_alloc | apply pw_below_drewN | apply below_drew1 | refine below_set ?_ GE104.out | refine below_set ?_ GE115.out) | exact HB.out)) hb); clear BK104; clear BK115; clear HB; have HO118 := n0_; have BK104 := n1_; have BK115 := n2_; have HB := n3_; clear n0_ n1_ n2_ n3_; clear hb ho11; have hcz12_0 : w10.cell? ⟨gb115, 0, none⟩ = some (.string t105) := (blk_cell BK115.out 0).trans rfl; have hcz12_1 : w10.cell? ⟨gb115, 1, none⟩ = some (.bool t106) := (blk_cell BK115.out 1).trans rfl; have hcz12_2 : w10.cell? ⟨gb115, 2, none⟩ = some (.bool t107) := (blk_cell BK115.out 2).trans rfl; have hcz12_3 : w10.cell? ⟨gb115, 3, none⟩ = some (.bool t108) := (blk_cell BK115.out 3).trans rfl; have hcz12_4 : w10.cell? ⟨gb115, 4, none⟩ = some (.bool t109) := (blk_cell BK115.out 4).trans rfl; have hcz12_5 : w10.cell? ⟨gb115, 5, none⟩ = some (.bool t110) := (blk_cell BK115.out 5).trans rfl; have hcz12_6 : w10.cell? ⟨gb115, 6, none⟩ = some (.bool t111) := (blk_cell BK115.out 6).trans rfl; have hcz12_7 : w10.cell? ⟨gb115, 7, none⟩ = some (.bool t112) := (blk_cell BK115.out 7).trans rfl; have hcz12_8 : w10.cell? ⟨gb115, 8, none⟩ = some (.bool t113) := (blk_cell BK115.out 8).trans rfl; have hcz12_9 : w10.cell? ⟨gb115, 9, none⟩ = some (.bool t114) := (blk_cell BK115.out 9).trans rfl; have hfz12_0 := blk_frozen BK115.out 0; have hfz12_1 := blk_frozen BK115.out 1; have hfz12_2 := blk_frozen BK115.out 2; have hfz12_3 := blk_frozen BK115.out 3; have hfz12_4 := blk_frozen BK115.out 4; have hfz12_5 := blk_frozen BK115.out 5; have hfz12_6 := blk_frozen BK115.out 6; have hfz12_7 := blk_frozen BK115.out 7; have hfz12_8 := blk_frozen BK115.out 8; have hfz12_9 := blk_frozen BK115.out 9))
  (try simp only [Act.put, List.setIfInBounds_toArray, List.set_cons_zero, List.set_cons_succ])
  go_cut [4] (fun v4 wc => ∃ (kq : Nat) (x4_2 : List ByteArray), Aside0 (ins_Show.j0 kq x4_2 a0_0 a0_1 a0_2 a0_3 a0_4 a0_5 a0_6 t105 t106 t107 t108 t109 t110 t111 t112 t113 t114 = some r) ∧ Aside0 (kq ≤ k) ∧ Aside0 (Kd.R Kd.string 9 wc w.heap.size (fun _ => True) v4 x4_2) ∧ Aside0 (wc.heap[gb104]? = some (.cells #[.int .i64 a0_0, .int .i64 a0_1, .int .i64 a0_2, .int .i64 a0_3, .int .i64 a0_4, .int .i64 a0_5, .int .i64 a0_6] 23 (0, 0))) ∧ Aside0 (wc.heap[gb115]? = some (.cells #[.string t105, .bool t106, .bool t107, .bool t108, .bool t109, .bool t110, .bool t111, .bool t112, .bool t113, .bool t114] 43 (0, 0))) ∧ Aside0 (Below w.heap.size w wc))
  case first =>
    have H := HC3.out
    clear HC3
    by_cases c13 : t106 = true
    · subst c13
      have H1 : ((ins_name.f a0_2).bind fun t119 => (if y116.length < 8796093022208 then (ins_Show.j0 k (y116 ++ [t119]) a0_0 a0_1 a0_2 a0_3 a0_4 a0_5 a0_6 t105 true t107 t108 t109 t110 t111 t112 t113 t114) else (none))) = some r := by rw [if_pos rfl] at H; exact H
      clear H
      have H := H1
      clear H1
      replace H := Option.bind_eq_some_iff.mp H
      obtain ⟨t119, A140, H⟩ := H
      replace H : (if y116.length < 8796093022208 then (ins_Show.j0 k (y116 ++ [t119]) a0_0 a0_1 a0_2 a0_3 a0_4 a0_5 a0_6 t105 true t107 t108 t109 t110 t111 t112 t113 t114) else (none)) = some r := H
      have A14 := Aside0.mk A140
      clear A140
      by_cases c15 : y116.length < 8796093022208
      · rw [if_pos c15] at H
        have LMc15 := Aside0.mk c15
        clear c15
        obtain ⟨y120, hy120⟩ : ∃ y_ : List ByteArray, y_ = (y116 ++ [t119]) := ⟨_, rfl⟩
        replace H : (ins_Show.j0 k y120 a0_0 a0_1 a0_2 a0_3 a0_4 a0_5 a0_6 t105 true t107 t108 t109 t110 t111 t112 t113 t114) = some r := by first | (rw [hy120]; with_reducible exact H) | (have H2_ := (Option.bind_some _ _).symm.trans H; rw [hy120]; with_reducible exact H2_) | (have H2_ := (Option.bind_some _ _).symm.trans H; with_reducible exact H2_) | with_reducible exact H | (rw [hy120]; exact H) | exact H
        have Ny120 := Aside0.mk hy120
        clear hy120
        have H' := Aside0.mk H
        clear H
        have hnb16 := NB104_115.out
        have hnc16 := NB115_104.out
        have hcz17_0 : w10.cell? ⟨gb104, 0, none⟩ = some (.int .i64 a0_0) := (blk_cell BK104.out 0).trans rfl
        have hcz17_1 : w10.cell? ⟨gb104, 1, none⟩ = some (.int .i64 a0_1) := (blk_cell BK104.out 1).trans rfl
        have hcz17_2 : w10.cell? ⟨gb104, 2, none⟩ = some (.int .i64 a0_2) := (blk_cell BK104.out 2).trans rfl
        have hcz17_3 : w10.cell? ⟨gb104, 3, none⟩ = some (.int .i64 a0_3) := (blk_cell BK104.out 3).trans rfl
        have hcz17_4 : w10.cell? ⟨gb104, 4, none⟩ = some (.int .i64 a0_4) := (blk_cell BK104.out 4).trans rfl
        have hcz17_5 : w10.cell? ⟨gb104, 5, none⟩ = some (.int .i64 a0_5) := (blk_cell BK104.out 5).trans rfl
        have hcz17_6 : w10.cell? ⟨gb104, 6, none⟩ = some (.int .i64 a0_6) := (blk_cell BK104.out 6).trans rfl
        have hfz17_0 := blk_frozen BK104.out 0
        have hfz17_1 := blk_frozen BK104.out 1
        have hfz17_2 := blk_frozen BK104.out 2
        have hfz17_3 := blk_frozen BK104.out 3
        have hfz17_4 := blk_frozen BK104.out 4
        have hfz17_5 := blk_frozen BK104.out 5
        have hfz17_6 := blk_frozen BK104.out 6
        go_wp2_with (first | ((with_reducible refine gate_callee (f := 28) rfl ?_); refine goesL_ (some 17) rfl rfl Tryd.func28 (by kernel_rfl) rfl #[.int .i64 a0_2] rfl (by (try simp only [List.map_toArray, List.map_cons, List.map_nil]); first | done | rfl | (simp only [List.length_drop, List.length_take]; rfl)) ?_; (with_reducible refine (ins_name.calls a0_2 t119 _ A14.out (GlobOK.step HGL.out (by repeat (first | (with_reducible first | exact HB.out | apply below_alloc | apply pw_below_drewN | apply below_drew1 | refine below_set ?_ GE104.out | refine below_set ?_ GE115.out) | exact HB.out)))).mono ?_); rintro e w18 ⟨rfl, hb⟩; refine ⟨_, rfl, ?_⟩; have n0_ := Aside0.mk (Kd.R_below (by (with_reducible repeat (first | apply Kd.R_alloc | apply Kd.R_drewN | apply Kd.R_drew)); exact HO118.out) hb); have n1_ := Aside0.mk (blk_below (g := gb104) (o := .cells #[.int .i64 a0_0, .int .i64 a0_1, .int .i64 a0_2, .int .i64 a0_3, .int .i64 a0_4, .int .i64 a0_5, .int .i64 a0_6] 23 (0, 0)) (by (with_reducible repeat (first | refine blk_drewN ?_ _ | refine blk_drew ?_ | refine blk_alloc ?_ _)); exact BK104.out) hb); have n2_ := Aside0.mk (blk_below (g := gb115) (o := .cells #[.string t105, .bool true, .bool t107, .bool t108, .bool t109, .bool t110, .bool t111, .bool t112, .bool t113, .bool t114] 43 (0, 0)) (by (with_reducible repeat (first | refine blk_drewN ?_ _ | refine blk_drew ?_ | refine blk_alloc ?_ _)); exact BK115.out) hb); have n3_ := Aside0.mk (below_step (by repeat (first | (with_reducible first | exact HB.out | apply below_alloc | apply pw_below_drewN | apply below_drew1 | refine below_set ?_ GE104.out | refine below_set ?_ GE115.out) | exact HB.out)) hb); clear HO118; clear BK104; clear BK115; clear HB; have HO118 := n0_; have BK104 := n1_; have BK115 := n2_; have HB := n3_; clear n0_ n1_ n2_ n3_; (try clear hb); (try clear hb2); (try clear hk); (try clear hi)) | ((with_reducible refine gate_builtin (b := .append) (xs := #[.tmp 14, .tmp 18]) rfl ?_); at_builtin; refine Kd.R_append Kd.string (w0 := w) w.heap.size rfl (.tmp 14) (.tmp 18) 51 9 (.string ⟨#[]⟩) 16 rfl Tryd.underlying51 info9 rfl (by decide) (by omega) v117 y116 t119 [.string t119] (fun _ => True) (fun _ => False) rfl rfl ?aP (fun _ hk => hk.elim) ?aF ?aO ?aB ?aS ?aL ?_; (case aP => exact rfl); (case aB => exact (by repeat (first | (with_reducible first | exact HB.out | apply below_alloc | apply pw_below_drewN | apply below_drew1 | refine below_set ?_ GE104.out | refine below_set ?_ GE115.out) | exact HB.out))); (case aF => exact (fun _ _ => trivial)); (case aO => exact (by (with_reducible repeat (first | apply Kd.R_alloc | apply Kd.R_drewN | apply Kd.R_drew)); exact HO118.out)); (case aS => exact (below_size (by repeat (first | (with_reducible first | exact HB.out | apply below_alloc | apply pw_below_drewN | apply below_drew1 | refine below_set ?_ GE104.out | refine below_set ?_ GE115.out) | exact HB.out)))); (case aL => have := LMc15.out; omega); intro v121 w19 ho hb hg hat; rw [← Ny120.out] at ho; have n0_ := Aside0.mk (blk_grown (g := gb104) (o := .cells #[.int .i64 a0_0, .int .i64 a0_1, .int .i64 a0_2, .int .i64 a0_3, .int .i64 a0_4, .int .i64 a0_5, .int .i64 a0_6] 23 (0, 0)) (by (with_reducible repeat (first | refine blk_drewN ?_ _ | refine blk_drew ?_ | refine blk_alloc ?_ _)); exact BK104.out) hg (Kd.R_ne HO118.out BK104.out (by decide))); have n1_ := Aside0.mk (blk_grown (g := gb115) (o := .cells #[.string t105, .bool true, .bool t107, .bool t108, .bool t109, .bool t110, .bool t111, .bool t112, .bool t113, .bool t114] 43 (0, 0)) (by (with_reducible repeat (first | refine blk_drewN ?_ _ | refine blk_drew ?_ | refine blk_alloc ?_ _)); exact BK115.out) hg (Kd.R_ne HO118.out BK115.out (by decide))); have n2_ := Aside0.mk (hb); have n3_ := Aside0.mk (ho); clear BK104; clear BK115; clear HB; clear HO118; have BK104 := n0_; have BK115 := n1_; have HB := n2_; have HO122 := n3_; clear n0_ n1_ n2_ n3_; clear ho hb hg hat))
        go_meet
        case rel => exact ⟨_, (y120), H', ⟨by first | omega | exact Nat.le_refl _⟩, ⟨by (with_reducible repeat (first | apply Kd.R_alloc | apply Kd.R_drewN | apply Kd.R_drew)); exact HO122.out⟩, ⟨by (with_reducible repeat (first | refine blk_drewN ?_ _ | refine blk_drew ?_ | refine blk_alloc ?_ _)); exact BK104.out⟩, ⟨by (with_reducible repeat (first | refine blk_drewN ?_ _ | refine blk_drew ?_ | refine blk_alloc ?_ _)); exact BK115.out⟩, ⟨by repeat (first | (with_reducible first | exact HB.out | apply below_alloc | apply pw_below_drewN | apply below_drew1 | refine below_set ?_ GE104.out | refine below_set ?_ GE115.out) | exact HB.out)⟩⟩
      · rw [if_neg c15] at H
        exact absurd H (by simp)
    · replace c13 := Bool.eq_false_iff.mpr c13
      subst c13
      have H1 : (ins_Show.j0 k y116 a0_0 a0_1 a0_2 a0_3 a0_4 a0_5 a0_6 t105 false t107 t108 t109 t110 t111 t112 t113 t114) = some r := by rw [if_neg (show ¬ (false = true) by decide)] at H; exact H
      clear H
      have H := H1
      clear H1
      have H' := Aside0.mk H
      clear H
      go_wp2
      go_meet
      case rel => exact ⟨_, (y116), H', ⟨by first | omega | exact Nat.le_refl _⟩, ⟨by (with_reducible repeat (first | apply Kd.R_alloc | apply Kd.R_drewN | apply Kd.R_drew)); exact HO118.out⟩, ⟨by (with_reducible repeat (first | refine blk_drewN ?_ _ | refine blk_drew ?_ | refine blk_alloc ?_ _)); exact BK104.out⟩, ⟨by (with_reducible repeat (first | refine blk_drewN ?_ _ | refine blk_drew ?_ | refine blk_alloc ?_ _)); exact BK115.out⟩, ⟨by repeat (first | (with_reducible first | exact HB.out | apply below_alloc | apply pw_below_drewN | apply below_drew1 | refine below_set ?_ GE104.out | refine below_set ?_ GE115.out) | exact HB.out)⟩⟩
  case rest =>
    clear HC3
    try clear c1
    try clear c2
    try clear p2
    try clear c8
    try clear c13
    try clear c15
    try clear c16
    try clear hcz12_0
    try clear hcz12_1
    try clear hcz12_2
    try clear hcz12_3
    try clear hcz12_4
    try clear hcz12_5
    try clear hcz12_6
    try clear hcz12_7
    try clear hcz12_8
    try clear hcz12_9
    try clear hcz17_0
    try clear hcz17_1
    try clear hcz17_2
    try clear hcz17_3
    try clear hcz17_4
    try clear hcz17_5
    try clear hcz17_6
    try clear hcz5_0
    try clear hcz5_1
    try clear hcz5_2
    try clear hcz5_3
    try clear hcz5_4
    try clear hcz5_5
    try clear hcz5_6
    try clear hcz9_0
    try clear hcz9_1
    try clear hcz9_2
    try clear hcz9_3
    try clear hcz9_4
    try clear hcz9_5
    try clear hcz9_6
    try clear hcz9_7
    try clear hcz9_8
    try clear hcz9_9
    try clear hfz12_0
    try clear hfz12_1
    try clear hfz12_2
    try clear hfz12_3
    try clear hfz12_4
    try clear hfz12_5
    try clear hfz12_6
    try clear hfz12_7
    try clear hfz12_8
    try clear hfz12_9
    try clear hfz17_0
    try clear hfz17_1
    try clear hfz17_2
    try clear hfz17_3
    try clear hfz17_4
    try clear hfz17_5
    try clear hfz17_6
    try clear hfz5_0
    try clear hfz5_1
    try clear hfz5_2
    try clear hfz5_3
    try clear hfz5_4
    try clear hfz5_5
    try clear hfz5_6
    try clear hfz9_0
    try clear hfz9_1
    try clear hfz9_2
    try clear hfz9_3
    try clear hfz9_4
    try clear hfz9_5
    try clear hfz9_6
    try clear hfz9_7
    try clear hfz9_8
    try clear hfz9_9
    obtain ⟨kq, x4_2, HA, HJ2, HO_4, BK104, BK115, HB⟩ := hcut
    cases kq with
    | zero => exact absurd HA.out (by simp [ins_Show.j0])
    | succ kj2 =>
      have H := HA.out
      clear HA
      simp only [ins_Show.j0] at H
      have HC20 := Aside0.mk H
      clear H
      go_upto_region 5 with (fail)
      go_cut [26] (fun v26 wc => ∃ (kq : Nat) (x26_19 : Bool), v26 = .bool x26_19 ∧ Aside0 (ins_Show.j1 kq x4_2 x26_19 a0_0 a0_1 a0_2 a0_3 a0_4 a0_5 a0_6 t105 t106 t107 t108 t109 t110 t111 t112 t113 t114 = some r) ∧ Aside0 (kq ≤ kj2) ∧ Aside0 (Kd.R Kd.string 9 wc w.heap.size (fun _ => True) u4 x4_2) ∧ Aside0 (wc.heap[gb104]? = some (.cells #[.int .i64 a0_0, .int .i64 a0_1, .int .i64 a0_2, .int .i64 a0_3, .int .i64 a0_4, .int .i64 a0_5, .int .i64 a0_6] 23 (0, 0))) ∧ Aside0 (wc.heap[gb115]? = some (.cells #[.string t105, .bool t106, .bool t107, .bool t108, .bool t109, .bool t110, .bool t111, .bool t112, .bool t113, .bool t114] 43 (0, 0))) ∧ Aside0 (Below w.heap.size w wc))
      case first =>
        have H := HC20.out
        clear HC20
        by_cases c21 : t107 = true
        · subst c21
          have H1 : (ins_Show.j1 kj2 x4_2 (!t112) a0_0 a0_1 a0_2 a0_3 a0_4 a0_5 a0_6 t105 t106 true t108 t109 t110 t111 t112 t113 t114) = some r := by rw [if_pos rfl] at H; exact H
          clear H
          have H := H1
          clear H1
          have H' := Aside0.mk H
          clear H
          have hnb22 := NB115_104.out
          have hnc22 := NB104_115.out
          have hcz23_0 : wc.cell? ⟨gb115, 0, none⟩ = some (.string t105) := (blk_cell BK115.out 0).trans rfl
          have hcz23_1 : wc.cell? ⟨gb115, 1, none⟩ = some (.bool t106) := (blk_cell BK115.out 1).trans rfl
          have hcz23_2 : wc.cell? ⟨gb115, 2, none⟩ = some (.bool true) := (blk_cell BK115.out 2).trans rfl
          have hcz23_3 : wc.cell? ⟨gb115, 3, none⟩ = some (.bool t108) := (blk_cell BK115.out 3).trans rfl
          have hcz23_4 : wc.cell? ⟨gb115, 4, none⟩ = some (.bool t109) := (blk_cell BK115.out 4).trans rfl
          have hcz23_5 : wc.cell? ⟨gb115, 5, none⟩ = some (.bool t110) := (blk_cell BK115.out 5).trans rfl
          have hcz23_6 : wc.cell? ⟨gb115, 6, none⟩ = some (.bool t111) := (blk_cell BK115.out 6).trans rfl
          have hcz23_7 : wc.cell? ⟨gb115, 7, none⟩ = some (.bool t112) := (blk_cell BK115.out 7).trans rfl
          have hcz23_8 : wc.cell? ⟨gb115, 8, none⟩ = some (.bool t113) := (blk_cell BK115.out 8).trans rfl
          have hcz23_9 : wc.cell? ⟨gb115, 9, none⟩ = some (.bool t114) := (blk_cell BK115.out 9).trans rfl
          have hfz23_0 := blk_frozen BK115.out 0
          have hfz23_1 := blk_frozen BK115.out 1
          have hfz23_2 := blk_frozen BK115.out 2
          have hfz23_3 := blk_frozen BK115.out 3
          have hfz23_4 := blk_frozen BK115.out 4
          have hfz23_5 := blk_frozen BK115.out 5
          have hfz23_6 := blk_frozen BK115.out 6
          have hfz23_7 := blk_frozen BK115.out 7
          have hfz23_8 := blk_frozen BK115.out 8
          have hfz23_9 := blk_frozen BK115.out 9
          go_wp2
          go_meet
          case rel => exact ⟨_, (!t112), (by first | rfl | (simp; done) | (simp [*]; done)), H', ⟨by have := HJ2.out; first | omega | exact Nat.le_refl _⟩, ⟨by (with_reducible repeat (first | apply Kd.R_alloc | apply Kd.R_drewN | apply Kd.R_drew)); exact HO_4.out⟩, ⟨by (with_reducible repeat (first | refine blk_drewN ?_ _ | refine blk_drew ?_ | refine blk_alloc ?_ _)); exact BK104.out⟩, ⟨by (with_reducible repeat (first | refine blk_drewN ?_ _ | refine blk_drew ?_ | refine blk_alloc ?_ _)); exact BK115.out⟩, ⟨by repeat (first | (with_reducible first | exact HB.out | apply below_alloc | apply pw_below_drewN | apply below_drew1 | refine below_set ?_ GE104.out | refine below_set ?_ GE115.out) | exact HB.out)⟩⟩
        · replace c21 := Bool.eq_false_iff.mpr c21
          subst c21
          have H1 : (ins_Show.j1 kj2 x4_2 false a0_0 a0_1 a0_2 a0_3 a0_4 a0_5 a0_6 t105 t106 false t108 t109 t110 t111 t112 t113 t114) = some r := by rw [if_neg (show ¬ (false = true) by decide)] at H; exact H
          clear H
          have H := H1
          clear H1
          have H' := Aside0.mk H
          clear H
          have hnb24 := NB115_104.out
          have hnc24 := NB104_115.out
          have hcz25_0 : wc.cell? ⟨gb115, 0, none⟩ = some (.string t105) := (blk_cell BK115.out 0).trans rfl
          have hcz25_1 : wc.cell? ⟨gb115, 1, none⟩ = some (.bool t106) := (blk_cell BK115.out 1).trans rfl
          have hcz25_2 : wc.cell? ⟨gb115, 2, none⟩ = some (.bool false) := (blk_cell BK115.out 2).trans rfl
          have hcz25_3 : wc.cell? ⟨gb115, 3, none⟩ = some (.bool t108) := (blk_cell BK115.out 3).trans rfl
          have hcz25_4 : wc.cell? ⟨gb115, 4, none⟩ = some (.bool t109) := (blk_cell BK115.out 4).trans rfl
          have hcz25_5 : wc.cell? ⟨gb115, 5, none⟩ = some (.bool t110) := (blk_cell BK115.out 5).trans rfl
          have hcz25_6 : wc.cell? ⟨gb115, 6, none⟩ = some (.bool t111) := (blk_cell BK115.out 6).trans rfl
          have hcz25_7 : wc.cell? ⟨gb115, 7, none⟩ = some (.bool t112) := (blk_cell BK115.out 7).trans rfl
          have hcz25_8 : wc.cell? ⟨gb115, 8, none⟩ = some (.bool t113) := (blk_cell BK115.out 8).trans rfl
          have hcz25_9 : wc.cell? ⟨gb115, 9, none⟩ = some (.bool t114) := (blk_cell BK115.out 9).trans rfl
          have hfz25_0 := blk_frozen BK115.out 0
          have hfz25_1 := blk_frozen BK115.out 1
          have hfz25_2 := blk_frozen BK115.out 2
          have hfz25_3 := blk_frozen BK115.out 3
          have hfz25_4 := blk_frozen BK115.out 4
          have hfz25_5 := blk_frozen BK115.out 5
          have hfz25_6 := blk_frozen BK115.out 6
          have hfz25_7 := blk_frozen BK115.out 7
          have hfz25_8 := blk_frozen BK115.out 8
          have hfz25_9 := blk_frozen BK115.out 9
          go_wp2
          go_meet
          case rel => exact ⟨_, (false), (by first | rfl | (simp; done) | (simp [*]; done)), H', ⟨by have := HJ2.out; first | omega | exact Nat.le_refl _⟩, ⟨by (with_reducible repeat (first | apply Kd.R_alloc | apply Kd.R_drewN | apply Kd.R_drew)); exact HO_4.out⟩, ⟨by (with_reducible repeat (first | refine blk_drewN ?_ _ | refine blk_drew ?_ | refine blk_alloc ?_ _)); exact BK104.out⟩, ⟨by (with_reducible repeat (first | refine blk_drewN ?_ _ | refine blk_drew ?_ | refine blk_alloc ?_ _)); exact BK115.out⟩, ⟨by repeat (first | (with_reducible first | exact HB.out | apply below_alloc | apply pw_below_drewN | apply below_drew1 | refine below_set ?_ GE104.out | refine below_set ?_ GE115.out) | exact HB.out)⟩⟩
      case rest =>
        clear HC20
        try clear c1
        try clear c2
        try clear p2
        try clear c8
        try clear c13
        try clear c15
        try clear c16
        try clear c21
        try clear c22
        try clear c24
        try clear hcz12_0
        try clear hcz12_1
        try clear hcz12_2
        try clear hcz12_3
        try clear hcz12_4
        try clear hcz12_5
        try clear hcz12_6
        try clear hcz12_7
        try clear hcz12_8
        try clear hcz12_9
        try clear hcz17_0
        try clear hcz17_1
        try clear hcz17_2
        try clear hcz17_3
        try clear hcz17_4
        try clear hcz17_5
        try clear hcz17_6
        try clear hcz23_0
        try clear hcz23_1
        try clear hcz23_2
        try clear hcz23_3
        try clear hcz23_4
        try clear hcz23_5
        try clear hcz23_6
        try clear hcz23_7
        try clear hcz23_8
        try clear hcz23_9
        try clear hcz25_0
        try clear hcz25_1
        try clear hcz25_2
        try clear hcz25_3
        try clear hcz25_4
        try clear hcz25_5
        try clear hcz25_6
        try clear hcz25_7
        try clear hcz25_8
        try clear hcz25_9
        try clear hcz5_0
        try clear hcz5_1
        try clear hcz5_2
        try clear hcz5_3
        try clear hcz5_4
        try clear hcz5_5
        try clear hcz5_6
        try clear hcz9_0
        try clear hcz9_1
        try clear hcz9_2
        try clear hcz9_3
        try clear hcz9_4
        try clear hcz9_5
        try clear hcz9_6
        try clear hcz9_7
        try clear hcz9_8
        try clear hcz9_9
        try clear hfz12_0
        try clear hfz12_1
        try clear hfz12_2
        try clear hfz12_3
        try clear hfz12_4
        try clear hfz12_5
        try clear hfz12_6
        try clear hfz12_7
        try clear hfz12_8
        try clear hfz12_9
        try clear hfz17_0
        try clear hfz17_1
        try clear hfz17_2
        try clear hfz17_3
        try clear hfz17_4
        try clear hfz17_5
        try clear hfz17_6
        try clear hfz23_0
        try clear hfz23_1
        try clear hfz23_2
        try clear hfz23_3
        try clear hfz23_4
        try clear hfz23_5
        try clear hfz23_6
        try clear hfz23_7
        try clear hfz23_8
        try clear hfz23_9
        try clear hfz25_0
        try clear hfz25_1
        try clear hfz25_2
        try clear hfz25_3
        try clear hfz25_4
        try clear hfz25_5
        try clear hfz25_6
        try clear hfz25_7
        try clear hfz25_8
        try clear hfz25_9
        try clear hfz5_0
        try clear hfz5_1
        try clear hfz5_2
        try clear hfz5_3
        try clear hfz5_4
        try clear hfz5_5
        try clear hfz5_6
        try clear hfz9_0
        try clear hfz9_1
        try clear hfz9_2
        try clear hfz9_3
        try clear hfz9_4
        try clear hfz9_5
        try clear hfz9_6
        try clear hfz9_7
        try clear hfz9_8
        try clear hfz9_9
        try clear p2
        obtain ⟨kq, x26_19, rfl, HA, HJ19, HO_4, BK104, BK115, HB⟩ := hcut
        cases kq with
        | zero => exact absurd HA.out (by simp [ins_Show.j1])
        | succ kj19 =>
          have H := HA.out
          clear HA
          simp only [ins_Show.j1] at H
          have HC26 := Aside0.mk H
          clear H
          go_upto_if 26 with (fail)
          go_cut [4] (fun v4 wc => ∃ (kq : Nat) (x4_25 : List ByteArray), Aside0 (ins_Show.j2 kq x4_25 a0_0 a0_1 a0_2 a0_3 a0_4 a0_5 a0_6 t105 t106 t107 t108 t109 t110 t111 t112 t113 t114 = some r) ∧ Aside0 (kq ≤ kj19) ∧ Aside0 (Kd.R Kd.string 9 wc w.heap.size (fun _ => True) v4 x4_25) ∧ Aside0 (wc.heap[gb104]? = some (.cells #[.int .i64 a0_0, .int .i64 a0_1, .int .i64 a0_2, .int .i64 a0_3, .int .i64 a0_4, .int .i64 a0_5, .int .i64 a0_6] 23 (0, 0))) ∧ Aside0 (wc.heap[gb115]? = some (.cells #[.string t105, .bool t106, .bool t107, .bool t108, .bool t109, .bool t110, .bool t111, .bool t112, .bool t113, .bool t114] 43 (0, 0))) ∧ Aside0 (Below w.heap.size w wc))
          case first =>
            have H := HC26.out
            clear HC26
            by_cases c27 : x26_19 = true
            · subst c27
              have H1 : ((ins_name.f a0_3).bind fun t123 => (if x4_2.length < 8796093022208 then (ins_Show.j2 kj19 (x4_2 ++ [t123]) a0_0 a0_1 a0_2 a0_3 a0_4 a0_5 a0_6 t105 t106 t107 t108 t109 t110 t111 t112 t113 t114) else (none))) = some r := by rw [if_pos rfl] at H; exact H
              clear H
              have H := H1
              clear H1
              replace H := Option.bind_eq_some_iff.mp H
              obtain ⟨t123, A280, H⟩ := H
              replace H : (if x4_2.length < 8796093022208 then (ins_Show.j2 kj19 (x4_2 ++ [t123]) a0_0 a0_1 a0_2 a0_3 a0_4 a0_5 a0_6 t105 t106 t107 t108 t109 t110 t111 t112 t113 t114) else (none)) = some r := H
              have A28 := Aside0.mk A280
              clear A280
              by_cases c29 : x4_2.length < 8796093022208
              · rw [if_pos c29] at H
                have LMc29 := Aside0.mk c29
                clear c29
                obtain ⟨y124, hy124⟩ : ∃ y_ : List ByteArray, y_ = (x4_2 ++ [t123]) := ⟨_, rfl⟩
                replace H : (ins_Show.j2 kj19 y124 a0_0 a0_1 a0_2 a0_3 a0_4 a0_5 a0_6 t105 t106 t107 t108 t109 t110 t111 t112 t113 t114) = some r := by first | (rw [hy124]; with_reducible exact H) | (have H2_ := (Option.bind_some _ _).symm.trans H; rw [hy124]; with_reducible exact H2_) | (have H2_ := (Option.bind_some _ _).symm.trans H; with_reducible exact H2_) | with_reducible exact H | (rw [hy124]; exact H) | exact H
                have Ny124 := Aside0.mk hy124
                clear hy124
                have H' := Aside0.mk H
                clear H
                have hnb30 := NB104_115.out
                have hnc30 := NB115_104.out
                have hcz31_0 : wc.cell? ⟨gb104, 0, none⟩ = some (.int .i64 a0_0) := (blk_cell BK104.out 0).trans rfl
                have hcz31_1 : wc.cell? ⟨gb104, 1, none⟩ = some (.int .i64 a0_1) := (blk_cell BK104.out 1).trans rfl
                have hcz31_2 : wc.cell? ⟨gb104, 2, none⟩ = some (.int .i64 a0_2) := (blk_cell BK104.out 2).trans rfl
                have hcz31_3 : wc.cell? ⟨gb104, 3, none⟩ = some (.int .i64 a0_3) := (blk_cell BK104.out 3).trans rfl
                have hcz31_4 : wc.cell? ⟨gb104, 4, none⟩ = some (.int .i64 a0_4) := (blk_cell BK104.out 4).trans rfl
                have hcz31_5 : wc.cell? ⟨gb104, 5, none⟩ = some (.int .i64 a0_5) := (blk_cell BK104.out 5).trans rfl
                have hcz31_6 : wc.cell? ⟨gb104, 6, none⟩ = some (.int .i64 a0_6) := (blk_cell BK104.out 6).trans rfl
                have hfz31_0 := blk_frozen BK104.out 0
                have hfz31_1 := blk_frozen BK104.out 1
                have hfz31_2 := blk_frozen BK104.out 2
                have hfz31_3 := blk_frozen BK104.out 3
                have hfz31_4 := blk_frozen BK104.out 4
                have hfz31_5 := blk_frozen BK104.out 5
                have hfz31_6 := blk_frozen BK104.out 6
                go_wp2_with (first | ((with_reducible refine gate_callee (f := 28) rfl ?_); refine goesL_ (some 30) rfl rfl Tryd.func28 (by kernel_rfl) rfl #[.int .i64 a0_3] rfl (by (try simp only [List.map_toArray, List.map_cons, List.map_nil]); first | done | rfl | (simp only [List.length_drop, List.length_take]; rfl)) ?_; (with_reducible refine (ins_name.calls a0_3 t123 _ A28.out (GlobOK.step HGL.out (by repeat (first | (with_reducible first | exact HB.out | apply below_alloc | apply pw_below_drewN | apply below_drew1 | refine below_set ?_ GE104.out | refine below_set ?_ GE115.out) | exact HB.out)))).mono ?_); rintro e w32 ⟨rfl, hb⟩; refine ⟨_, rfl, ?_⟩; have n0_ := Aside0.mk (Kd.R_below (by (with_reducible repeat (first | apply Kd.R_alloc | apply Kd.R_drewN | apply Kd.R_drew)); exact HO_4.out) hb); have n1_ := Aside0.mk (blk_below (g := gb104) (o := .cells #[.int .i64 a0_0, .int .i64 a0_1, .int .i64 a0_2, .int .i64 a0_3, .int .i64 a0_4, .int .i64 a0_5, .int .i64 a0_6] 23 (0, 0)) (by (with_reducible repeat (first | refine blk_drewN ?_ _ | refine blk_drew ?_ | refine blk_alloc ?_ _)); exact BK104.out) hb); have n2_ := Aside0.mk (blk_below (g := gb115) (o := .cells #[.string t105, .bool t106, .bool t107, .bool t108, .bool t109, .bool t110, .bool t111, .bool t112, .bool t113, .bool t114] 43 (0, 0)) (by (with_reducible repeat (first | refine blk_drewN ?_ _ | refine blk_drew ?_ | refine blk_alloc ?_ _)); exact BK115.out) hb); have n3_ := Aside0.mk (below_step (by repeat (first | (with_reducible first | exact HB.out | apply below_alloc | apply pw_below_drewN | apply below_drew1 | refine below_set ?_ GE104.out | refine below_set ?_ GE115.out) | exact HB.out)) hb); clear HO_4; clear BK104; clear BK115; clear HB; have HO_4 := n0_; have BK104 := n1_; have BK115 := n2_; have HB := n3_; clear n0_ n1_ n2_ n3_; (try clear hb); (try clear hb2); (try clear hk); (try clear hi)) | ((with_reducible refine gate_builtin (b := .append) (xs := #[.tmp 27, .tmp 31]) rfl ?_); at_builtin; refine Kd.R_append Kd.string (w0 := w) w.heap.size rfl (.tmp 27) (.tmp 31) 51 9 (.string ⟨#[]⟩) 16 rfl Tryd.underlying51 info9 rfl (by decide) (by omega) u4 x4_2 t123 [.string t123] (fun _ => True) (fun _ => False) rfl rfl ?aP (fun _ hk => hk.elim) ?aF ?aO ?aB ?aS ?aL ?_; (case aP => exact rfl); (case aB => exact (by repeat (first | (with_reducible first | exact HB.out | apply below_alloc | apply pw_below_drewN | apply below_drew1 | refine below_set ?_ GE104.out | refine below_set ?_ GE115.out) | exact HB.out))); (case aF => exact (fun _ _ => trivial)); (case aO => exact (by (with_reducible repeat (first | apply Kd.R_alloc | apply Kd.R_drewN | apply Kd.R_drew)); exact HO_4.out)); (case aS => exact (below_size (by repeat (first | (with_reducible first | exact HB.out | apply below_alloc | apply pw_below_drewN | apply below_drew1 | refine below_set ?_ GE104.out | refine below_set ?_ GE115.out) | exact HB.out)))); (case aL => have := LMc29.out; omega); intro v125 w33 ho hb hg hat; rw [← Ny124.out] at ho; have n0_ := Aside0.mk (blk_grown (g := gb104) (o := .cells #[.int .i64 a0_0, .int .i64 a0_1, .int .i64 a0_2, .int .i64 a0_3, .int .i64 a0_4, .int .i64 a0_5, .int .i64 a0_6] 23 (0, 0)) (by (with_reducible repeat (first | refine blk_drewN ?_ _ | refine blk_drew ?_ | refine blk_alloc ?_ _)); exact BK104.out) hg (Kd.R_ne HO_4.out BK104.out (by decide))); have n1_ := Aside0.mk (blk_grown (g := gb115) (o := .cells #[.string t105, .bool t106, .bool t107, .bool t108, .bool t109, .bool t110, .bool t111, .bool t112, .bool t113, .bool t114] 43 (0, 0)) (by (with_reducible repeat (first | refine blk_drewN ?_ _ | refine blk_drew ?_ | refine blk_alloc ?_ _)); exact BK115.out) hg (Kd.R_ne HO_4.out BK115.out (by decide))); have n2_ := Aside0.mk (hb); have n3_ := Aside0.mk (ho); clear BK104; clear BK115; clear HB; clear HO_4; have BK104 := n0_; have BK115 := n1_; have HB := n2_; have HO126 := n3_; clear n0_ n1_ n2_ n3_; clear ho hb hg hat))
                go_meet
                case rel => exact ⟨_, (y124), H', ⟨by have := HJ2.out; have := HJ19.out; first | omega | exact Nat.le_refl _⟩, ⟨by (with_reducible repeat (first | apply Kd.R_alloc | apply Kd.R_drewN | apply Kd.R_drew)); exact HO126.out⟩, ⟨by (with_reducible repeat (first | refine blk_drewN ?_ _ | refine blk_drew ?_ | refine blk_alloc ?_ _)); exact BK104.out⟩, ⟨by (with_reducible repeat (first | refine blk_drewN ?_ _ | refine blk_drew ?_ | refine blk_alloc ?_ _)); exact BK115.out⟩, ⟨by repeat (first | (with_reducible first | exact HB.out | apply below_alloc | apply pw_below_drewN | apply below_drew1 | refine below_set ?_ GE104.out | refine below_set ?_ GE115.out) | exact HB.out)⟩⟩
              · rw [if_neg c29] at H
                exact absurd H (by simp)
            · replace c27 := Bool.eq_false_iff.mpr c27
              subst c27
              have H1 : (ins_Show.j2 kj19 x4_2 a0_0 a0_1 a0_2 a0_3 a0_4 a0_5 a0_6 t105 t106 t107 t108 t109 t110 t111 t112 t113 t114) = some r := by rw [if_neg (show ¬ (false = true) by decide)] at H; exact H
              clear H
              have H := H1
              clear H1
              have H' := Aside0.mk H
              clear H
              go_wp2
              go_meet
              case rel => exact ⟨_, (x4_2), H', ⟨by have := HJ2.out; have := HJ19.out; first | omega | exact Nat.le_refl _⟩, ⟨by (with_reducible repeat (first | apply Kd.R_alloc | apply Kd.R_drewN | apply Kd.R_drew)); exact HO_4.out⟩, ⟨by (with_reducible repeat (first | refine blk_drewN ?_ _ | refine blk_drew ?_ | refine blk_alloc ?_ _)); exact BK104.out⟩, ⟨by (with_reducible repeat (first | refine blk_drewN ?_ _ | refine blk_drew ?_ | refine blk_alloc ?_ _)); exact BK115.out⟩, ⟨by repeat (first | (with_reducible first | exact HB.out | apply below_alloc | apply pw_below_drewN | apply below_drew1 | refine below_set ?_ GE104.out | refine below_set ?_ GE115.out) | exact HB.out)⟩⟩
          case rest =>
            clear HC26
            try clear c1
            try clear c2
            try clear p2
            try clear c3
            try clear c8
            try clear c13
            try clear c15
            try clear c16
            try clear c21
            try clear c22
            try clear c24
            try clear c27
            try clear c28
            try clear c29
            try clear c30
            try clear hcz12_0
            try clear hcz12_1
            try clear hcz12_2
            try clear hcz12_3
            try clear hcz12_4
            try clear hcz12_5
            try clear hcz12_6
            try clear hcz12_7
            try clear hcz12_8
            try clear hcz12_9
            try clear hcz17_0
            try clear hcz17_1
            try clear hcz17_2
            try clear hcz17_3
            try clear hcz17_4
            try clear hcz17_5
            try clear hcz17_6
            try clear hcz23_0
            try clear hcz23_1
            try clear hcz23_2
            try clear hcz23_3
            try clear hcz23_4
            try clear hcz23_5
            try clear hcz23_6
            try clear hcz23_7
            try clear hcz23_8
            try clear hcz23_9
            try clear hcz25_0
            try clear hcz25_1
            try clear hcz25_2
            try clear hcz25_3
            try clear hcz25_4
            try clear hcz25_5
            try clear hcz25_6
            try clear hcz25_7
            try clear hcz25_8
            try clear hcz25_9
            try clear hcz31_0
            try clear hcz31_1
            try clear hcz31_2
            try clear hcz31_3
            try clear hcz31_4
            try clear hcz31_5
            try clear hcz31_6
            try clear hcz5_0
            try clear hcz5_1
            try clear hcz5_2
            try clear hcz5_3
            try clear hcz5_4
            try clear hcz5_5
            try clear hcz5_6
            try clear hcz9_0
            try clear hcz9_1
            try clear hcz9_2
            try clear hcz9_3
            try clear hcz9_4
            try clear hcz9_5
            try clear hcz9_6
            try clear hcz9_7
            try clear hcz9_8
            try clear hcz9_9
            try clear hfz12_0
            try clear hfz12_1
            try clear hfz12_2
            try clear hfz12_3
            try clear hfz12_4
            try clear hfz12_5
            try clear hfz12_6
            try clear hfz12_7
            try clear hfz12_8
            try clear hfz12_9
            try clear hfz17_0
            try clear hfz17_1
            try clear hfz17_2
            try clear hfz17_3
            try clear hfz17_4
            try clear hfz17_5
            try clear hfz17_6
            try clear hfz23_0
            try clear hfz23_1
            try clear hfz23_2
            try clear hfz23_3
            try clear hfz23_4
            try clear hfz23_5
            try clear hfz23_6
            try clear hfz23_7
            try clear hfz23_8
            try clear hfz23_9
            try clear hfz25_0
            try clear hfz25_1
            try clear hfz25_2
            try clear hfz25_3
            try clear hfz25_4
            try clear hfz25_5
            try clear hfz25_6
            try clear hfz25_7
            try clear hfz25_8
            try clear hfz25_9
            try clear hfz31_0
            try clear hfz31_1
            try clear hfz31_2
            try clear hfz31_3
            try clear hfz31_4
            try clear hfz31_5
            try clear hfz31_6
            try clear hfz5_0
            try clear hfz5_1
            try clear hfz5_2
            try clear hfz5_3
            try clear hfz5_4
            try clear hfz5_5
            try clear hfz5_6
            try clear hfz9_0
            try clear hfz9_1
            try clear hfz9_2
            try clear hfz9_3
            try clear hfz9_4
            try clear hfz9_5
            try clear hfz9_6
            try clear hfz9_7
            try clear hfz9_8
            try clear hfz9_9
            try clear p2
            obtain ⟨kq, x4_25, HA, HJ25, HO_4, BK104, BK115, HB⟩ := hcut
            cases kq with
            | zero => exact absurd HA.out (by simp [ins_Show.j2])
            | succ kj25 =>
              have H := HA.out
              clear HA
              simp only [ins_Show.j2] at H
              have HC34 := Aside0.mk H
              clear H
              have hnb35 := NB115_104.out
              have hnc35 := NB104_115.out
              have hcz36_0 : wc.cell? ⟨gb115, 0, none⟩ = some (.string t105) := (blk_cell BK115.out 0).trans rfl
              have hcz36_1 : wc.cell? ⟨gb115, 1, none⟩ = some (.bool t106) := (blk_cell BK115.out 1).trans rfl
              have hcz36_2 : wc.cell? ⟨gb115, 2, none⟩ = some (.bool t107) := (blk_cell BK115.out 2).trans rfl
              have hcz36_3 : wc.cell? ⟨gb115, 3, none⟩ = some (.bool t108) := (blk_cell BK115.out 3).trans rfl
              have hcz36_4 : wc.cell? ⟨gb115, 4, none⟩ = some (.bool t109) := (blk_cell BK115.out 4).trans rfl
              have hcz36_5 : wc.cell? ⟨gb115, 5, none⟩ = some (.bool t110) := (blk_cell BK115.out 5).trans rfl
              have hcz36_6 : wc.cell? ⟨gb115, 6, none⟩ = some (.bool t111) := (blk_cell BK115.out 6).trans rfl
              have hcz36_7 : wc.cell? ⟨gb115, 7, none⟩ = some (.bool t112) := (blk_cell BK115.out 7).trans rfl
              have hcz36_8 : wc.cell? ⟨gb115, 8, none⟩ = some (.bool t113) := (blk_cell BK115.out 8).trans rfl
              have hcz36_9 : wc.cell? ⟨gb115, 9, none⟩ = some (.bool t114) := (blk_cell BK115.out 9).trans rfl
              have hfz36_0 := blk_frozen BK115.out 0
              have hfz36_1 := blk_frozen BK115.out 1
              have hfz36_2 := blk_frozen BK115.out 2
              have hfz36_3 := blk_frozen BK115.out 3
              have hfz36_4 := blk_frozen BK115.out 4
              have hfz36_5 := blk_frozen BK115.out 5
              have hfz36_6 := blk_frozen BK115.out 6
              have hfz36_7 := blk_frozen BK115.out 7
              have hfz36_8 := blk_frozen BK115.out 8
              have hfz36_9 := blk_frozen BK115.out 9
              go_upto_if 34 with (fail)
              go_cut [4] (fun v4 wc => ∃ (kq : Nat) (x4_33 : List ByteArray), Aside0 (ins_Show.j3 kq x4_33 a0_0 a0_1 a0_2 a0_3 a0_4 a0_5 a0_6 t105 t106 t107 t108 t109 t110 t111 t112 t113 t114 = some r) ∧ Aside0 (kq ≤ kj25) ∧ Aside0 (Kd.R Kd.string 9 wc w.heap.size (fun _ => True) v4 x4_33) ∧ Aside0 (wc.heap[gb104]? = some (.cells #[.int .i64 a0_0, .int .i64 a0_1, .int .i64 a0_2, .int .i64 a0_3, .int .i64 a0_4, .int .i64 a0_5, .int .i64 a0_6] 23 (0, 0))) ∧ Aside0 (wc.heap[gb115]? = some (.cells #[.string t105, .bool t106, .bool t107, .bool t108, .bool t109, .bool t110, .bool t111, .bool t112, .bool t113, .bool t114] 43 (0, 0))) ∧ Aside0 (Below w.heap.size w wc))
              case first =>
                have H := HC34.out
                clear HC34
                by_cases c37 : t109 = true
                · subst c37
                  have H1 : ((calc_Sign.f a0_1).bind fun t127 => (if t127.toList = ([] : List UInt8) then (if x4_25.length < 8796093022208 then (ins_Show.j3 kj25 (x4_25 ++ [(⟨#[98, 101, 108, 111, 119]⟩ : ByteArray)]) a0_0 a0_1 a0_2 a0_3 a0_4 a0_5 a0_6 t105 t106 t107 t108 true t110 t111 t112 t113 t114) else (none)) else (if x4_25.length < 8796093022208 then (ins_Show.j3 kj25 (x4_25 ++ [t127]) a0_0 a0_1 a0_2 a0_3 a0_4 a0_5 a0_6 t105 t106 t107 t108 true t110 t111 t112 t113 t114) else (none)))) = some r := by rw [if_pos rfl] at H; exact H
                  clear H
                  have H := H1
                  clear H1
                  replace H := Option.bind_eq_some_iff.mp H
                  obtain ⟨t127, A380, H⟩ := H
                  replace H : (if t127.toList = ([] : List UInt8) then (if x4_25.length < 8796093022208 then (ins_Show.j3 kj25 (x4_25 ++ [(⟨#[98, 101, 108, 111, 119]⟩ : ByteArray)]) a0_0 a0_1 a0_2 a0_3 a0_4 a0_5 a0_6 t105 t106 t107 t108 true t110 t111 t112 t113 t114) else (none)) else (if x4_25.length < 8796093022208 then (ins_Show.j3 kj25 (x4_25 ++ [t127]) a0_0 a0_1 a0_2 a0_3 a0_4 a0_5 a0_6 t105 t106 t107 t108 true t110 t111 t112 t113 t114) else (none))) = some r := H
                  have A38 := Aside0.mk A380
                  clear A380
                  by_cases c39 : t127.toList = ([] : List UInt8)
                  · rw [if_pos c39] at H
                    have c39b0 : (t127.toList == ([] : List UInt8)) = true := beq_iff_eq.mpr c39
                    have c39b1 : (t127.toList != ([] : List UInt8)) = false := bne_eq_false_iff_eq.mpr c39
                    clear c39
                    (first | rw [c39b0] | (simp only [i64_w, i32_w]; rw [c39b0]) | skip)
                    by_cases c40 : x4_25.length < 8796093022208
                    · rw [if_pos c40] at H
                      have LMc40 := Aside0.mk c40
                      clear c40
                      obtain ⟨y128, hy128⟩ : ∃ y_ : List ByteArray, y_ = (x4_25 ++ [(⟨#[98, 101, 108, 111, 119]⟩ : ByteArray)]) := ⟨_, rfl⟩
                      replace H : (ins_Show.j3 kj25 y128 a0_0 a0_1 a0_2 a0_3 a0_4 a0_5 a0_6 t105 t106 t107 t108 true t110 t111 t112 t113 t114) = some r := by first | (rw [hy128]; with_reducible exact H) | (have H2_ := (Option.bind_some _ _).symm.trans H; rw [hy128]; with_reducible exact H2_) | (have H2_ := (Option.bind_some _ _).symm.trans H; with_reducible exact H2_) | with_reducible exact H | (rw [hy128]; exact H) | exact H
                      have Ny128 := Aside0.mk hy128
                      clear hy128
                      have H' := Aside0.mk H
                      clear H
                      have hnb41 := NB104_115.out
                      have hnc41 := NB115_104.out
                      have hcz42_0 : wc.cell? ⟨gb104, 0, none⟩ = some (.int .i64 a0_0) := (blk_cell BK104.out 0).trans rfl
                      have hcz42_1 : wc.cell? ⟨gb104, 1, none⟩ = some (.int .i64 a0_1) := (blk_cell BK104.out 1).trans rfl
                      have hcz42_2 : wc.cell? ⟨gb104, 2, none⟩ = some (.int .i64 a0_2) := (blk_cell BK104.out 2).trans rfl
                      have hcz42_3 : wc.cell? ⟨gb104, 3, none⟩ = some (.int .i64 a0_3) := (blk_cell BK104.out 3).trans rfl
                      have hcz42_4 : wc.cell? ⟨gb104, 4, none⟩ = some (.int .i64 a0_4) := (blk_cell BK104.out 4).trans rfl
                      have hcz42_5 : wc.cell? ⟨gb104, 5, none⟩ = some (.int .i64 a0_5) := (blk_cell BK104.out 5).trans rfl
                      have hcz42_6 : wc.cell? ⟨gb104, 6, none⟩ = some (.int .i64 a0_6) := (blk_cell BK104.out 6).trans rfl
                      have hfz42_0 := blk_frozen BK104.out 0
                      have hfz42_1 := blk_frozen BK104.out 1
                      have hfz42_2 := blk_frozen BK104.out 2
                      have hfz42_3 := blk_frozen BK104.out 3
                      have hfz42_4 := blk_frozen BK104.out 4
                      have hfz42_5 := blk_frozen BK104.out 5
                      have hfz42_6 := blk_frozen BK104.out 6
                      go_wp2_with (first | ((with_reducible refine gate_callee (f := 29) rfl ?_); refine goesL_ (some 37) rfl rfl Tryd.func29 (by kernel_rfl) rfl #[.int .i64 a0_1] rfl (by (try simp only [List.map_toArray, List.map_cons, List.map_nil]); first | done | rfl | (simp only [List.length_drop, List.length_take]; rfl)) ?_; (with_reducible refine (calc_Sign.calls a0_1 t127 _ A38.out (GlobOK.step HGL.out (by repeat (first | (with_reducible first | exact HB.out | apply below_alloc | apply pw_below_drewN | apply below_drew1 | refine below_set ?_ GE104.out | refine below_set ?_ GE115.out) | exact HB.out)))).mono ?_); rintro e w43 ⟨rfl, hb⟩; refine ⟨_, rfl, ?_⟩; have n0_ := Aside0.mk (Kd.R_below (by (with_reducible repeat (first | apply Kd.R_alloc | apply Kd.R_drewN | apply Kd.R_drew)); exact HO_4.out) hb); have n1_ := Aside0.mk (blk_below (g := gb104) (o := .cells #[.int .i64 a0_0, .int .i64 a0_1, .int .i64 a0_2, .int .i64 a0_3, .int .i64 a0_4, .int .i64 a0_5, .int .i64 a0_6] 23 (0, 0)) (by (with_reducible repeat (first | refine blk_drewN ?_ _ | refine blk_drew ?_ | refine blk_alloc ?_ _)); exact BK104.out) hb); have n2_ := Aside0.mk (blk_below (g := gb115) (o := .cells #[.string t105, .bool t106, .bool t107, .bool t108, .bool true, .bool t110, .bool t111, .bool t112, .bool t113, .bool t114] 43 (0, 0)) (by (with_reducible repeat (first | refine blk_drewN ?_ _ | refine blk_drew ?_ | refine blk_alloc ?_ _)); exact BK115.out) hb); have n3_ := Aside0.mk (below_step (by repeat (first | (with_reducible first | exact HB.out | apply below_alloc | apply pw_below_drewN | apply below_drew1 | refine below_set ?_ GE104.out | refine below_set ?_ GE115.out) | exact HB.out)) hb); clear HO_4; clear BK104; clear BK115; clear HB; have HO_4 := n0_; have BK104 := n1_; have BK115 := n2_; have HB := n3_; clear n0_ n1_ n2_ n3_; (try clear hb); (try clear hb2); (try clear hk); (try clear hi)) | ((with_reducible refine gate_builtin (b := .append) (xs := #[.tmp 40, .tmp 42]) rfl ?_); at_builtin; refine Kd.R_append Kd.string (w0 := w) w.heap.size rfl (.tmp 40) (.tmp 42) 51 9 (.string ⟨#[]⟩) 16 rfl Tryd.underlying51 info9 rfl (by decide) (by omega) u4 x4_25 (⟨#[98, 101, 108, 111, 119]⟩ : ByteArray) [.string (⟨#[98, 101, 108, 111, 119]⟩ : ByteArray)] (fun _ => True) (fun _ => False) rfl rfl ?aP (fun _ hk => hk.elim) ?aF ?aO ?aB ?aS ?aL ?_; (case aP => exact rfl); (case aB => exact (by repeat (first | (with_reducible first | exact HB.out | apply below_alloc | apply pw_below_drewN | apply below_drew1 | refine below_set ?_ GE104.out | refine below_set ?_ GE115.out) | exact HB.out))); (case aF => exact (fun _ _ => trivial)); (case aO => exact (by (with_reducible repeat (first | apply Kd.R_alloc | apply Kd.R_drewN | apply Kd.R_drew)); exact HO_4.out)); (case aS => exact (below_size (by repeat (first | (with_reducible first | exact HB.out | apply below_alloc | apply pw_below_drewN | apply below_drew1 | refine below_set ?_ GE104.out | refine below_set ?_ GE115.out) | exact HB.out)))); (case aL => have := LMc40.out; omega); intro v129 w44 ho hb hg hat; rw [← Ny128.out] at ho; have n0_ := Aside0.mk (blk_grown (g := gb104) (o := .cells #[.int .i64 a0_0, .int .i64 a0_1, .int .i64 a0_2, .int .i64 a0_3, .int .i64 a0_4, .int .i64 a0_5, .int .i64 a0_6] 23 (0, 0)) (by (with_reducible repeat (first | refine blk_drewN ?_ _ | refine blk_drew ?_ | refine blk_alloc ?_ _)); exact BK104.out) hg (Kd.R_ne HO_4.out BK104.out (by decide))); have n1_ := Aside0.mk (blk_grown (g := gb115) (o := .cells #[.string t105, .bool t106, .bool t107, .bool t108, .bool true, .bool t110, .bool t111, .bool t112, .bool t113, .bool t114] 43 (0, 0)) (by (with_reducible repeat (first | refine blk_drewN ?_ _ | refine blk_drew ?_ | refine blk_alloc ?_ _)); exact BK115.out) hg (Kd.R_ne HO_4.out BK115.out (by decide))); have n2_ := Aside0.mk (hb); have n3_ := Aside0.mk (ho); clear BK104; clear BK115; clear HB; clear HO_4; have BK104 := n0_; have BK115 := n1_; have HB := n2_; have HO130 := n3_; clear n0_ n1_ n2_ n3_; clear ho hb hg hat))
                      go_meet
                      case rel => exact ⟨_, (y128), H', ⟨by have := HJ2.out; have := HJ19.out; have := HJ25.out; first | omega | exact Nat.le_refl _⟩, ⟨by (with_reducible repeat (first | apply Kd.R_alloc | apply Kd.R_drewN | apply Kd.R_drew)); exact HO130.out⟩, ⟨by (with_reducible repeat (first | refine blk_drewN ?_ _ | refine blk_drew ?_ | refine blk_alloc ?_ _)); exact BK104.out⟩, ⟨by (with_reducible repeat (first | refine blk_drewN ?_ _ | refine blk_drew ?_ | refine blk_alloc ?_ _)); exact BK115.out⟩, ⟨by repeat (first | (with_reducible first | exact HB.out | apply below_alloc | apply pw_below_drewN | apply below_drew1 | refine below_set ?_ GE104.out | refine below_set ?_ GE115.out) | exact HB.out)⟩⟩
                    · rw [if_neg c40] at H
                      exact absurd H (by simp)
                  · rw [if_neg c39] at H
                    have c39b0 : (t127.toList == ([] : List UInt8)) = false := beq_eq_false_iff_ne.mpr c39
                    have c39b1 : (t127.toList != ([] : List UInt8)) = true := bne_iff_ne.mpr c39
                    (first | rw [c39b0] | (simp only [i64_w, i32_w]; rw [c39b0]) | skip)
                    by_cases c45 : x4_25.length < 8796093022208
                    · rw [if_pos c45] at H
                      have LMc45 := Aside0.mk c45
                      clear c45
                      obtain ⟨y131, hy131⟩ : ∃ y_ : List ByteArray, y_ = (x4_25 ++ [t127]) := ⟨_, rfl⟩
                      replace H : (ins_Show.j3 kj25 y131 a0_0 a0_1 a0_2 a0_3 a0_4 a0_5 a0_6 t105 t106 t107 t108 true t110 t111 t112 t113 t114) = some r := by first | (rw [hy131]; with_reducible exact H) | (have H2_ := (Option.bind_some _ _).symm.trans H; rw [hy131]; with_reducible exact H2_) | (have H2_ := (Option.bind_some _ _).symm.trans H; with_reducible exact H2_) | with_reducible exact H | (rw [hy131]; exact H) | exact H
                      have Ny131 := Aside0.mk hy131
                      clear hy131
                      have H' := Aside0.mk H
                      clear H
                      have hnb46 := NB104_115.out
                      have hnc46 := NB115_104.out
                      have hcz47_0 : wc.cell? ⟨gb104, 0, none⟩ = some (.int .i64 a0_0) := (blk_cell BK104.out 0).trans rfl
                      have hcz47_1 : wc.cell? ⟨gb104, 1, none⟩ = some (.int .i64 a0_1) := (blk_cell BK104.out 1).trans rfl
                      have hcz47_2 : wc.cell? ⟨gb104, 2, none⟩ = some (.int .i64 a0_2) := (blk_cell BK104.out 2).trans rfl
                      have hcz47_3 : wc.cell? ⟨gb104, 3, none⟩ = some (.int .i64 a0_3) := (blk_cell BK104.out 3).trans rfl
                      have hcz47_4 : wc.cell? ⟨gb104, 4, none⟩ = some (.int .i64 a0_4) := (blk_cell BK104.out 4).trans rfl
                      have hcz47_5 : wc.cell? ⟨gb104, 5, none⟩ = some (.int .i64 a0_5) := (blk_cell BK104.out 5).trans rfl
                      have hcz47_6 : wc.cell? ⟨gb104, 6, none⟩ = some (.int .i64 a0_6) := (blk_cell BK104.out 6).trans rfl
                      have hfz47_0 := blk_frozen BK104.out 0
                      have hfz47_1 := blk_frozen BK104.out 1
                      have hfz47_2 := blk_frozen BK104.out 2
                      have hfz47_3 := blk_frozen BK104.out 3
                      have hfz47_4 := blk_frozen BK104.out 4
                      have hfz47_5 := blk_frozen BK104.out 5
                      have hfz47_6 := blk_frozen BK104.out 6
                      go_wp2_with (first | ((with_reducible refine gate_callee (f := 29) rfl ?_); refine goesL_ (some 37) rfl rfl Tryd.func29 (by kernel_rfl) rfl #[.int .i64 a0_1] rfl (by (try simp only [List.map_toArray, List.map_cons, List.map_nil]); first | done | rfl | (simp only [List.length_drop, List.length_take]; rfl)) ?_; (with_reducible refine (calc_Sign.calls a0_1 t127 _ A38.out (GlobOK.step HGL.out (by repeat (first | (with_reducible first | exact HB.out | apply below_alloc | apply pw_below_drewN | apply below_drew1 | refine below_set ?_ GE104.out | refine below_set ?_ GE115.out) | exact HB.out)))).mono ?_); rintro e w48 ⟨rfl, hb⟩; refine ⟨_, rfl, ?_⟩; have n0_ := Aside0.mk (Kd.R_below (by (with_reducible repeat (first | apply Kd.R_alloc | apply Kd.R_drewN | apply Kd.R_drew)); exact HO_4.out) hb); have n1_ := Aside0.mk (blk_below (g := gb104) (o := .cells #[.int .i64 a0_0, .int .i64 a0_1, .int .i64 a0_2, .int .i64 a0_3, .int .i64 a0_4, .int .i64 a0_5, .int .i64 a0_6] 23 (0, 0)) (by (with_reducible repeat (first | refine blk_drewN ?_ _ | refine blk_drew ?_ | refine blk_alloc ?_ _)); exact BK104.out) hb); have n2_ := Aside0.mk (blk_below (g := gb115) (o := .cells #[.string t105, .bool t106, .bool t107, .bool t108, .bool true, .bool t110, .bool t111, .bool t112, .bool t113, .bool t114] 43 (0, 0)) (by (with_reducible repeat (first | refine blk_drewN ?_ _ | refine blk_drew ?_ | refine blk_alloc ?_ _)); exact BK115.out) hb); have n3_ := Aside0.mk (below_step (by repeat (first | (with_reducible first | exact HB.out | apply below_alloc | apply pw_below_drewN | apply below_drew1 | refine below_set ?_ GE104.out | refine below_set ?_ GE115.out) | exact HB.out)) hb); clear HO_4; clear BK104; clear BK115; clear HB; have HO_4 := n0_; have BK104 := n1_; have BK115 := n2_; have HB := n3_; clear n0_ n1_ n2_ n3_; (try clear hb); (try clear hb2); (try clear hk); (try clear hi)) | ((with_reducible refine gate_builtin (b := .append) (xs := #[.tmp 40, .tmp 42]) rfl ?_); at_builtin; refine Kd.R_append Kd.string (w0 := w) w.heap.size rfl (.tmp 40) (.tmp 42) 51 9 (.string ⟨#[]⟩) 16 rfl Tryd.underlying51 info9 rfl (by decide) (by omega) u4 x4_25 t127 [.string t127] (fun _ => True) (fun _ => False) rfl rfl ?aP (fun _ hk => hk.elim) ?aF ?aO ?aB ?aS ?aL ?_; (case aP => exact rfl); (case aB => exact (by repeat (first | (with_reducible first | exact HB.out | apply below_alloc | apply pw_below_drewN | apply below_drew1 | refine below_set ?_ GE104.out | refine below_set ?_ GE115.out) | exact HB.out))); (case aF => exact (fun _ _ => trivial)); (case aO => exact (by (with_reducible repeat (first | apply Kd.R_alloc | apply Kd.R_drewN | apply Kd.R_drew)); exact HO_4.out)); (case aS => exact (below_size (by repeat (first | (with_reducible first | exact HB.out | apply below_alloc | apply pw_below_drewN | apply below_drew1 | refine below_set ?_ GE104.out | refine below_set ?_ GE115.out) | exact HB.out)))); (case aL => have := LMc45.out; omega); intro v132 w49 ho hb hg hat; rw [← Ny131.out] at ho; have n0_ := Aside0.mk (blk_grown (g := gb104) (o := .cells #[.int .i64 a0_0, .int .i64 a0_1, .int .i64 a0_2, .int .i64 a0_3, .int .i64 a0_4, .int .i64 a0_5, .int .i64 a0_6] 23 (0, 0)) (by (with_reducible repeat (first | refine blk_drewN ?_ _ | refine blk_drew ?_ | refine blk_alloc ?_ _)); exact BK104.out) hg (Kd.R_ne HO_4.out BK104.out (by decide))); have n1_ := Aside0.mk (blk_grown (g := gb115) (o := .cells #[.string t105, .bool t106, .bool t107, .bool t108, .bool true, .bool t110, .bool t111, .bool t112, .bool t113, .bool t114] 43 (0, 0)) (by (with_reducible repeat (first | refine blk_drewN ?_ _ | refine blk_drew ?_ | refine blk_alloc ?_ _)); exact BK115.out) hg (Kd.R_ne HO_4.out BK115.out (by decide))); have n2_ := Aside0.mk (hb); have n3_ := Aside0.mk (ho); clear BK104; clear BK115; clear HB; clear HO_4; have BK104 := n0_; have BK115 := n1_; have HB := n2_; have HO133 := n3_; clear n0_ n1_ n2_ n3_; clear ho hb hg hat))
                      go_meet
                      case rel => exact ⟨_, (y131), H', ⟨by have := HJ2.out; have := HJ19.out; have := HJ25.out; first | omega | exact Nat.le_refl _⟩, ⟨by (with_reducible repeat (first | apply Kd.R_alloc | apply Kd.R_drewN | apply Kd.R_drew)); exact HO133.out⟩, ⟨by (with_reducible repeat (first | refine blk_drewN ?_ _ | refine blk_drew ?_ | refine blk_alloc ?_ _)); exact BK104.out⟩, ⟨by (with_reducible repeat (first | refine blk_drewN ?_ _ | refine blk_drew ?_ | refine blk_alloc ?_ _)); exact BK115.out⟩, ⟨by repeat (first | (with_reducible first | exact HB.out | apply below_alloc | apply pw_below_drewN | apply below_drew1 | refine below_set ?_ GE104.out | refine below_set ?_ GE115.out) | exact HB.out)⟩⟩
                    · rw [if_neg c45] at H
                      exact absurd H (by simp)
                · replace c37 := Bool.eq_false_iff.mpr c37
                  subst c37
                  have H1 : (ins_Show.j3 kj25 x4_25 a0_0 a0_1 a0_2 a0_3 a0_4 a0_5 a0_6 t105 t106 t107 t108 false t110 t111 t112 t113 t114) = some r := by rw [if_neg (show ¬ (false = true) by decide)] at H; exact H
                  clear H
                  have H := H1
                  clear H1
                  have H' := Aside0.mk H
                  clear H
                  go_wp2
                  go_meet
                  case rel => exact ⟨_, (x4_25), H', ⟨by have := HJ2.out; have := HJ19.out; have := HJ25.out; first | omega | exact Nat.le_refl _⟩, ⟨by (with_reducible repeat (first | apply Kd.R_alloc | apply Kd.R_drewN | apply Kd.R_drew)); exact HO_4.out⟩, ⟨by (with_reducible repeat (first | refine blk_drewN ?_ _ | refine blk_drew ?_ | refine blk_alloc ?_ _)); exact BK104.out⟩, ⟨by (with_reducible repeat (first | refine blk_drewN ?_ _ | refine blk_drew ?_ | refine blk_alloc ?_ _)); exact BK115.out⟩, ⟨by repeat (first | (with_reducible first | exact HB.out | apply below_alloc | apply pw_below_drewN | apply below_drew1 | refine below_set ?_ GE104.out | refine below_set ?_ GE115.out) | exact HB.out)⟩⟩
              case rest =>
                clear HC34
                try clear c1
                try clear c2
                try clear p2
                try clear c3
                try clear c4
                try clear c8
                try clear c13
                try clear c15
                try clear c16
                try clear c21
                try clear c22
                try clear c24
                try clear c27
                try clear c28
                try clear c29
                try clear c30
                try clear c35
                try clear c37
                try clear c39
                try clear c39b0
                try clear c39b1
                try clear c40
                try clear c41
                try clear c45
                try clear c46
                try clear hcz12_0
                try clear hcz12_1
                try clear hcz12_2
                try clear hcz12_3
                try clear hcz12_4
                try clear hcz12_5
                try clear hcz12_6
                try clear hcz12_7
                try clear hcz12_8
                try clear hcz12_9
                try clear hcz17_0
                try clear hcz17_1
                try clear hcz17_2
                try clear hcz17_3
                try clear hcz17_4
                try clear hcz17_5
                try clear hcz17_6
                try clear hcz23_0
                try clear hcz23_1
                try clear hcz23_2
                try clear hcz23_3
                try clear hcz23_4
                try clear hcz23_5
                try clear hcz23_6
                try clear hcz23_7
                try clear hcz23_8
                try clear hcz23_9
                try clear hcz25_0
                try clear hcz25_1
                try clear hcz25_2
                try clear hcz25_3
                try clear hcz25_4
                try clear hcz25_5
                try clear hcz25_6
                try clear hcz25_7
                try clear hcz25_8
                try clear hcz25_9
                try clear hcz31_0
                try clear hcz31_1
                try clear hcz31_2
                try clear hcz31_3
                try clear hcz31_4
                try clear hcz31_5
                try clear hcz31_6
                try clear hcz36_0
                try clear hcz36_1
                try clear hcz36_2
                try clear hcz36_3
                try clear hcz36_4
                try clear hcz36_5
                try clear hcz36_6
                try clear hcz36_7
                try clear hcz36_8
                try clear hcz36_9
                try clear hcz42_0
                try clear hcz42_1
                try clear hcz42_2
                try clear hcz42_3
                try clear hcz42_4
                try clear hcz42_5
                try clear hcz42_6
                try clear hcz47_0
                try clear hcz47_1
                try clear hcz47_2
                try clear hcz47_3
                try clear hcz47_4
                try clear hcz47_5
                try clear hcz47_6
                try clear hcz5_0
                try clear hcz5_1
                try clear hcz5_2
                try clear hcz5_3
                try clear hcz5_4
                try clear hcz5_5
                try clear hcz5_6
                try clear hcz9_0
                try clear hcz9_1
                try clear hcz9_2
                try clear hcz9_3
                try clear hcz9_4
                try clear hcz9_5
                try clear hcz9_6
                try clear hcz9_7
                try clear hcz9_8
                try clear hcz9_9
                try clear hfz12_0
                try clear hfz12_1
                try clear hfz12_2
                try clear hfz12_3
                try clear hfz12_4
                try clear hfz12_5
                try clear hfz12_6
                try clear hfz12_7
                try clear hfz12_8
                try clear hfz12_9
                try clear hfz17_0
                try clear hfz17_1
                try clear hfz17_2
                try clear hfz17_3
                try clear hfz17_4
                try clear hfz17_5
                try clear hfz17_6
                try clear hfz23_0
                try clear hfz23_1
                try clear hfz23_2
                try clear hfz23_3
                try clear hfz23_4
                try clear hfz23_5
                try clear hfz23_6
                try clear hfz23_7
                try clear hfz23_8
                try clear hfz23_9
                try clear hfz25_0
                try clear hfz25_1
                try clear hfz25_2
                try clear hfz25_3
                try clear hfz25_4
                try clear hfz25_5
                try clear hfz25_6
                try clear hfz25_7
                try clear hfz25_8
                try clear hfz25_9
                try clear hfz31_0
                try clear hfz31_1
                try clear hfz31_2
                try clear hfz31_3
                try clear hfz31_4
                try clear hfz31_5
                try clear hfz31_6
                try clear hfz36_0
                try clear hfz36_1
                try clear hfz36_2
                try clear hfz36_3
                try clear hfz36_4
                try clear hfz36_5
                try clear hfz36_6
                try clear hfz36_7
                try clear hfz36_8
                try clear hfz36_9
                try clear hfz42_0
                try clear hfz42_1
                try clear hfz42_2
                try clear hfz42_3
                try clear hfz42_4
                try clear hfz42_5
                try clear hfz42_6
                try clear hfz47_0
                try clear hfz47_1
                try clear hfz47_2
                try clear hfz47_3
                try clear hfz47_4
                try clear hfz47_5
                try clear hfz47_6
                try clear hfz5_0
                try clear hfz5_1
                try clear hfz5_2
                try clear hfz5_3
                try clear hfz5_4
                try clear hfz5_5
                try clear hfz5_6
                try clear hfz9_0
                try clear hfz9_1
                try clear hfz9_2
                try clear hfz9_3
                try clear hfz9_4
                try clear hfz9_5
                try clear hfz9_6
                try clear hfz9_7
                try clear hfz9_8
                try clear hfz9_9
                try clear p2
                obtain ⟨kq, x4_33, HA, HJ33, HO_4, BK104, BK115, HB⟩ := hcut
                cases kq with
                | zero => exact absurd HA.out (by simp [ins_Show.j3])
                | succ kj33 =>
                  have H := HA.out
                  clear HA
                  simp only [ins_Show.j3] at H
                  have HC50 := Aside0.mk H
                  clear H
                  have hnb51 := NB115_104.out
                  have hnc51 := NB104_115.out
                  have hcz52_0 : wc.cell? ⟨gb115, 0, none⟩ = some (.string t105) := (blk_cell BK115.out 0).trans rfl
                  have hcz52_1 : wc.cell? ⟨gb115, 1, none⟩ = some (.bool t106) := (blk_cell BK115.out 1).trans rfl
                  have hcz52_2 : wc.cell? ⟨gb115, 2, none⟩ = some (.bool t107) := (blk_cell BK115.out 2).trans rfl
                  have hcz52_3 : wc.cell? ⟨gb115, 3, none⟩ = some (.bool t108) := (blk_cell BK115.out 3).trans rfl
                  have hcz52_4 : wc.cell? ⟨gb115, 4, none⟩ = some (.bool t109) := (blk_cell BK115.out 4).trans rfl
                  have hcz52_5 : wc.cell? ⟨gb115, 5, none⟩ = some (.bool t110) := (blk_cell BK115.out 5).trans rfl
                  have hcz52_6 : wc.cell? ⟨gb115, 6, none⟩ = some (.bool t111) := (blk_cell BK115.out 6).trans rfl
                  have hcz52_7 : wc.cell? ⟨gb115, 7, none⟩ = some (.bool t112) := (blk_cell BK115.out 7).trans rfl
                  have hcz52_8 : wc.cell? ⟨gb115, 8, none⟩ = some (.bool t113) := (blk_cell BK115.out 8).trans rfl
                  have hcz52_9 : wc.cell? ⟨gb115, 9, none⟩ = some (.bool t114) := (blk_cell BK115.out 9).trans rfl
                  have hfz52_0 := blk_frozen BK115.out 0
                  have hfz52_1 := blk_frozen BK115.out 1
                  have hfz52_2 := blk_frozen BK115.out 2
                  have hfz52_3 := blk_frozen BK115.out 3
                  have hfz52_4 := blk_frozen BK115.out 4
                  have hfz52_5 := blk_frozen BK115.out 5
                  have hfz52_6 := blk_frozen BK115.out 6
                  have hfz52_7 := blk_frozen BK115.out 7
                  have hfz52_8 := blk_frozen BK115.out 8
                  have hfz52_9 := blk_frozen BK115.out 9
                  go_upto_if 45 with (fail)
                  go_cut [4] (fun v4 wc => ∃ (kq : Nat) (x4_49 : List ByteArray), Aside0 (ins_Show.j4 kq x4_49 a0_0 a0_1 a0_2 a0_3 a0_4 a0_5 a0_6 t105 t106 t107 t108 t109 t110 t111 t112 t113 t114 = some r) ∧ Aside0 (kq ≤ kj33) ∧ Aside0 (Kd.R Kd.string 9 wc w.heap.size (fun _ => True) v4 x4_49) ∧ Aside0 (wc.heap[gb104]? = some (.cells #[.int .i64 a0_0, .int .i64 a0_1, .int .i64 a0_2, .int .i64 a0_3, .int .i64 a0_4, .int .i64 a0_5, .int .i64 a0_6] 23 (0, 0))) ∧ Aside0 (wc.heap[gb115]? = some (.cells #[.string t105, .bool t106, .bool t107, .bool t108, .bool t109, .bool t110, .bool t111, .bool t112, .bool t113, .bool t114] 43 (0, 0))) ∧ Aside0 (Below w.heap.size w wc))
                  case first =>
                    have H := HC50.out
                    clear HC50
                    by_cases c53 : t110 = true
                    · subst c53
                      have H1 : ((calc_Digits.f a0_5).bind fun t134 => (if x4_33.length < 8796093022208 then (ins_Show.j4 kj33 (x4_33 ++ [t134]) a0_0 a0_1 a0_2 a0_3 a0_4 a0_5 a0_6 t105 t106 t107 t108 t109 true t111 t112 t113 t114) else (none))) = some r := by rw [if_pos rfl] at H; exact H
                      clear H
                      have H := H1
                      clear H1
                      replace H := Option.bind_eq_some_iff.mp H
                      obtain ⟨t134, A540, H⟩ := H
                      replace H : (if x4_33.length < 8796093022208 then (ins_Show.j4 kj33 (x4_33 ++ [t134]) a0_0 a0_1 a0_2 a0_3 a0_4 a0_5 a0_6 t105 t106 t107 t108 t109 true t111 t112 t113 t114) else (none)) = some r := H
                      have A54 := Aside0.mk A540
                      clear A540
                      by_cases c55 : x4_33.length < 8796093022208
                      · rw [if_pos c55] at H
                        have LMc55 := Aside0.mk c55
                        clear c55
                        obtain ⟨y135, hy135⟩ : ∃ y_ : List ByteArray, y_ = (x4_33 ++ [t134]) := ⟨_, rfl⟩
                        replace H : (ins_Show.j4 kj33 y135 a0_0 a0_1 a0_2 a0_3 a0_4 a0_5 a0_6 t105 t106 t107 t108 t109 true t111 t112 t113 t114) = some r := by first | (rw [hy135]; with_reducible exact H) | (have H2_ := (Option.bind_some _ _).symm.trans H; rw [hy135]; with_reducible exact H2_) | (have H2_ := (Option.bind_some _ _).symm.trans H; with_reducible exact H2_) | with_reducible exact H | (rw [hy135]; exact H) | exact H
                        have Ny135 := Aside0.mk hy135
                        clear hy135
                        have H' := Aside0.mk H
                        clear H
                        have hnb56 := NB104_115.out
                        have hnc56 := NB115_104.out
                        have hcz57_0 : wc.cell? ⟨gb104, 0, none⟩ = some (.int .i64 a0_0) := (blk_cell BK104.out 0).trans rfl
                        have hcz57_1 : wc.cell? ⟨gb104, 1, none⟩ = some (.int .i64 a0_1) := (blk_cell BK104.out 1).trans rfl
                        have hcz57_2 : wc.cell? ⟨gb104, 2, none⟩ = some (.int .i64 a0_2) := (blk_cell BK104.out 2).trans rfl
                        have hcz57_3 : wc.cell? ⟨gb104, 3, none⟩ = some (.int .i64 a0_3) := (blk_cell BK104.out 3).trans rfl
                        have hcz57_4 : wc.cell? ⟨gb104, 4, none⟩ = some (.int .i64 a0_4) := (blk_cell BK104.out 4).trans rfl
                        have hcz57_5 : wc.cell? ⟨gb104, 5, none⟩ = some (.int .i64 a0_5) := (blk_cell BK104.out 5).trans rfl
                        have hcz57_6 : wc.cell? ⟨gb104, 6, none⟩ = some (.int .i64 a0_6) := (blk_cell BK104.out 6).trans rfl
                        have hfz57_0 := blk_frozen BK104.out 0
                        have hfz57_1 := blk_frozen BK104.out 1
                        have hfz57_2 := blk_frozen BK104.out 2
                        have hfz57_3 := blk_frozen BK104.out 3
                        have hfz57_4 := blk_frozen BK104.out 4
                        have hfz57_5 := blk_frozen BK104.out 5
                        have hfz57_6 := blk_frozen BK104.out 6
                        go_wp2_with (first | ((with_reducible refine gate_callee (f := 30) rfl ?_); refine goesL_ (some 49) rfl rfl Tryd.func30 (by kernel_rfl) rfl #[.int .i64 a0_5] rfl (by (try simp only [List.map_toArray, List.map_cons, List.map_nil]); first | done | rfl | (simp only [List.length_drop, List.length_take]; rfl)) ?_; (with_reducible refine (calc_Digits.calls a0_5 t134 _ A54.out (GlobOK.step HGL.out (by repeat (first | (with_reducible first | exact HB.out | apply below_alloc | apply pw_below_drewN | apply below_drew1 | refine below_set ?_ GE104.out | refine below_set ?_ GE115.out) | exact HB.out)))).mono ?_); rintro e w58 ⟨rfl, hb⟩; refine ⟨_, rfl, ?_⟩; have n0_ := Aside0.mk (Kd.R_below (by (with_reducible repeat (first | apply Kd.R_alloc | apply Kd.R_drewN | apply Kd.R_drew)); exact HO_4.out) hb); have n1_ := Aside0.mk (blk_below (g := gb104) (o := .cells #[.int .i64 a0_0, .int .i64 a0_1, .int .i64 a0_2, .int .i64 a0_3, .int .i64 a0_4, .int .i64 a0_5, .int .i64 a0_6] 23 (0, 0)) (by (with_reducible repeat (first | refine blk_drewN ?_ _ | refine blk_drew ?_ | refine blk_alloc ?_ _)); exact BK104.out) hb); have n2_ := Aside0.mk (blk_below (g := gb115) (o := .cells #[.string t105, .bool t106, .bool t107, .bool t108, .bool t109, .bool true, .bool t111, .bool t112, .bool t113, .bool t114] 43 (0, 0)) (by (with_reducible repeat (first | refine blk_drewN ?_ _ | refine blk_drew ?_ | refine blk_alloc ?_ _)); exact BK115.out) hb); have n3_ := Aside0.mk (below_step (by repeat (first | (with_reducible first | exact HB.out | apply below_alloc | apply pw_below_drewN | apply below_drew1 | refine below_set ?_ GE104.out | refine below_set ?_ GE115.out) | exact HB.out)) hb); clear HO_4; clear BK104; clear BK115; clear HB; have HO_4 := n0_; have BK104 := n1_; have BK115 := n2_; have HB := n3_; clear n0_ n1_ n2_ n3_; (try clear hb); (try clear hb2); (try clear hk); (try clear hi)) | ((with_reducible refine gate_builtin (b := .append) (xs := #[.tmp 46, .tmp 50]) rfl ?_); at_builtin; refine Kd.R_append Kd.string (w0 := w) w.heap.size rfl (.tmp 46) (.tmp 50) 51 9 (.string ⟨#[]⟩) 16 rfl Tryd.underlying51 info9 rfl (by decide) (by omega) u4 x4_33 t134 [.string t134] (fun _ => True) (fun _ => False) rfl rfl ?aP (fun _ hk => hk.elim) ?aF ?aO ?aB ?aS ?aL ?_; (case aP => exact rfl); (case aB => exact (by repeat (first | (with_reducible first | exact HB.out | apply below_alloc | apply pw_below_drewN | apply below_drew1 | refine below_set ?_ GE104.out | refine below_set ?_ GE115.out) | exact HB.out))); (case aF => exact (fun _ _ => trivial)); (case aO => exact (by (with_reducible repeat (first | apply Kd.R_alloc | apply Kd.R_drewN | apply Kd.R_drew)); exact HO_4.out)); (case aS => exact (below_size (by repeat (first | (with_reducible first | exact HB.out | apply below_alloc | apply pw_below_drewN | apply below_drew1 | refine below_set ?_ GE104.out | refine below_set ?_ GE115.out) | exact HB.out)))); (case aL => have := LMc55.out; omega); intro v136 w59 ho hb hg hat; rw [← Ny135.out] at ho; have n0_ := Aside0.mk (blk_grown (g := gb104) (o := .cells #[.int .i64 a0_0, .int .i64 a0_1, .int .i64 a0_2, .int .i64 a0_3, .int .i64 a0_4, .int .i64 a0_5, .int .i64 a0_6] 23 (0, 0)) (by (with_reducible repeat (first | refine blk_drewN ?_ _ | refine blk_drew ?_ | refine blk_alloc ?_ _)); exact BK104.out) hg (Kd.R_ne HO_4.out BK104.out (by decide))); have n1_ := Aside0.mk (blk_grown (g := gb115) (o := .cells #[.string t105, .bool t106, .bool t107, .bool t108, .bool t109, .bool true, .bool t111, .bool t112, .bool t113, .bool t114] 43 (0, 0)) (by (with_reducible repeat (first | refine blk_drewN ?_ _ | refine blk_drew ?_ | refine blk_alloc ?_ _)); exact BK115.out) hg (Kd.R_ne HO_4.out BK115.out (by decide))); have n2_ := Aside0.mk (hb); have n3_ := Aside0.mk (ho); clear BK104; clear BK115; clear HB; clear HO_4; have BK104 := n0_; have BK115 := n1_; have HB := n2_; have HO137 := n3_; clear n0_ n1_ n2_ n3_; clear ho hb hg hat))
                        go_meet
                        case rel => exact ⟨_, (y135), H', ⟨by have := HJ2.out; have := HJ19.out; have := HJ25.out; have := HJ33.out; first | omega | exact Nat.le_refl _⟩, ⟨by (with_reducible repeat (first | apply Kd.R_alloc | apply Kd.R_drewN | apply Kd.R_drew)); exact HO137.out⟩, ⟨by (with_reducible repeat (first | refine blk_drewN ?_ _ | refine blk_drew ?_ | refine blk_alloc ?_ _)); exact BK104.out⟩, ⟨by (with_reducible repeat (first | refine blk_drewN ?_ _ | refine blk_drew ?_ | refine blk_alloc ?_ _)); exact BK115.out⟩, ⟨by repeat (first | (with_reducible first | exact HB.out | apply below_alloc | apply pw_below_drewN | apply below_drew1 | refine below_set ?_ GE104.out | refine below_set ?_ GE115.out) | exact HB.out)⟩⟩
                      · rw [if_neg c55] at H
                        exact absurd H (by simp)
                    · replace c53 := Bool.eq_false_iff.mpr c53
                      subst c53
                      have H1 : (ins_Show.j4 kj33 x4_33 a0_0 a0_1 a0_2 a0_3 a0_4 a0_5 a0_6 t105 t106 t107 t108 t109 false t111 t112 t113 t114) = some r := by rw [if_neg (show ¬ (false = true) by decide)] at H; exact H
                      clear H
                      have H := H1
                      clear H1
                      have H' := Aside0.mk H
                      clear H
                      go_wp2
                      go_meet
                      case rel => exact ⟨_, (x4_33), H', ⟨by have := HJ2.out; have := HJ19.out; have := HJ25.out; have := HJ33.out; first | omega | exact Nat.le_refl _⟩, ⟨by (with_reducible repeat (first | apply Kd.R_alloc | apply Kd.R_drewN | apply Kd.R_drew)); exact HO_4.out⟩, ⟨by (with_reducible repeat (first | refine blk_drewN ?_ _ | refine blk_drew ?_ | refine blk_alloc ?_ _)); exact BK104.out⟩, ⟨by (with_reducible repeat (first | refine blk_drewN ?_ _ | refine blk_drew ?_ | refine blk_alloc ?_ _)); exact BK115.out⟩, ⟨by repeat (first | (with_reducible first | exact HB.out | apply below_alloc | apply pw_below_drewN | apply below_drew1 | refine below_set ?_ GE104.out | refine below_set ?_ GE115.out) | exact HB.out)⟩⟩
                  case rest =>
                    clear HC50
                    try clear c1
                    try clear c2
                    try clear p2
                    try clear c3
                    try clear c4
                    try clear c5
                    try clear c8
                    try clear c13
                    try clear c15
                    try clear c16
                    try clear c21
                    try clear c22
                    try clear c24
                    try clear c27
                    try clear c28
                    try clear c29
                    try clear c30
                    try clear c35
                    try clear c37
                    try clear c39
                    try clear c39b0
                    try clear c39b1
                    try clear c40
                    try clear c41
                    try clear c45
                    try clear c46
                    try clear c51
                    try clear c53
                    try clear c55
                    try clear c56
                    try clear hcz12_0
                    try clear hcz12_1
                    try clear hcz12_2
                    try clear hcz12_3
                    try clear hcz12_4
                    try clear hcz12_5
                    try clear hcz12_6
                    try clear hcz12_7
                    try clear hcz12_8
                    try clear hcz12_9
                    try clear hcz17_0
                    try clear hcz17_1
                    try clear hcz17_2
                    try clear hcz17_3
                    try clear hcz17_4
                    try clear hcz17_5
                    try clear hcz17_6
                    try clear hcz23_0
                    try clear hcz23_1
                    try clear hcz23_2
                    try clear hcz23_3
                    try clear hcz23_4
                    try clear hcz23_5
                    try clear hcz23_6
                    try clear hcz23_7
                    try clear hcz23_8
                    try clear hcz23_9
                    try clear hcz25_0
                    try clear hcz25_1
                    try clear hcz25_2
                    try clear hcz25_3
                    try clear hcz25_4
                    try clear hcz25_5
                    try clear hcz25_6
                    try clear hcz25_7
                    try clear hcz25_8
                    try clear hcz25_9
                    try clear hcz31_0
                    try clear hcz31_1
                    try clear hcz31_2
                    try clear hcz31_3
                    try clear hcz31_4
                    try clear hcz31_5
                    try clear hcz31_6
                    try clear hcz36_0
                    try clear hcz36_1
                    try clear hcz36_2
                    try clear hcz36_3
                    try clear hcz36_4
                    try clear hcz36_5
                    try clear hcz36_6
                    try clear hcz36_7
                    try clear hcz36_8
                    try clear hcz36_9
                    try clear hcz42_0
                    try clear hcz42_1
                    try clear hcz42_2
                    try clear hcz42_3
                    try clear hcz42_4
                    try clear hcz42_5
                    try clear hcz42_6
                    try clear hcz47_0
                    try clear hcz47_1
                    try clear hcz47_2
                    try clear hcz47_3
                    try clear hcz47_4
                    try clear hcz47_5
                    try clear hcz47_6
                    try clear hcz52_0
                    try clear hcz52_1
                    try clear hcz52_2
                    try clear hcz52_3
                    try clear hcz52_4
                    try clear hcz52_5
                    try clear hcz52_6
                    try clear hcz52_7
                    try clear hcz52_8
                    try clear hcz52_9
                    try clear hcz57_0
                    try clear hcz57_1
                    try clear hcz57_2
                    try clear hcz57_3
                    try clear hcz57_4
                    try clear hcz57_5
                    try clear hcz57_6
                    try clear hcz5_0
                    try clear hcz5_1
                    try clear hcz5_2
                    try clear hcz5_3
                    try clear hcz5_4
                    try clear hcz5_5
                    try clear hcz5_6
                    try clear hcz9_0
                    try clear hcz9_1
                    try clear hcz9_2
                    try clear hcz9_3
                    try clear hcz9_4
                    try clear hcz9_5
                    try clear hcz9_6
                    try clear hcz9_7
                    try clear hcz9_8
                    try clear hcz9_9
                    try clear hfz12_0
                    try clear hfz12_1
                    try clear hfz12_2
                    try clear hfz12_3
                    try clear hfz12_4
                    try clear hfz12_5
                    try clear hfz12_6
                    try clear hfz12_7
                    try clear hfz12_8
                    try clear hfz12_9
                    try clear hfz17_0
                    try clear hfz17_1
                    try clear hfz17_2
                    try clear hfz17_3
                    try clear hfz17_4
                    try clear hfz17_5
                    try clear hfz17_6
                    try clear hfz23_0
                    try clear hfz23_1
                    try clear hfz23_2
                    try clear hfz23_3
                    try clear hfz23_4
                    try clear hfz23_5
                    try clear hfz23_6
                    try clear hfz23_7
                    try clear hfz23_8
                    try clear hfz23_9
                    try clear hfz25_0
                    try clear hfz25_1
                    try clear hfz25_2
                    try clear hfz25_3
                    try clear hfz25_4
                    try clear hfz25_5
                    try clear hfz25_6
                    try clear hfz25_7
                    try clear hfz25_8
                    try clear hfz25_9
                    try clear hfz31_0
                    try clear hfz31_1
                    try clear hfz31_2
                    try clear hfz31_3
                    try clear hfz31_4
                    try clear hfz31_5
                    try clear hfz31_6
                    try clear hfz36_0
                    try clear hfz36_1
                    try clear hfz36_2
                    try clear hfz36_3
                    try clear hfz36_4
                    try clear hfz36_5
                    try clear hfz36_6
                    try clear hfz36_7
                    try clear hfz36_8
                    try clear hfz36_9
                    try clear hfz42_0
                    try clear hfz42_1
                    try clear hfz42_2
                    try clear hfz42_3
                    try clear hfz42_4
                    try clear hfz42_5
                    try clear hfz42_6
                    try clear hfz47_0
                    try clear hfz47_1
                    try clear hfz47_2
                    try clear hfz47_3
                    try clear hfz47_4
                    try clear hfz47_5
                    try clear hfz47_6
                    try clear hfz52_0
                    try clear hfz52_1
                    try clear hfz52_2
                    try clear hfz52_3
                    try clear hfz52_4
                    try clear hfz52_5
                    try clear hfz52_6
                    try clear hfz52_7
                    try clear hfz52_8
                    try clear hfz52_9
                    try clear hfz57_0
                    try clear hfz57_1
                    try clear hfz57_2
                    try clear hfz57_3
                    try clear hfz57_4
                    try clear hfz57_5
                    try clear hfz57_6
                    try clear hfz5_0
                    try clear hfz5_1
                    try clear hfz5_2
                    try clear hfz5_3
                    try clear hfz5_4
                    try clear hfz5_5
                    try clear hfz5_6
                    try clear hfz9_0
                    try clear hfz9_1
                    try clear hfz9_2
                    try clear hfz9_3
                    try clear hfz9_4
                    try clear hfz9_5
                    try clear hfz9_6
                    try clear hfz9_7
                    try clear hfz9_8
                    try clear hfz9_9
                    try clear p2
                    obtain ⟨kq, x4_49, HA, HJ49, HO_4, BK104, BK115, HB⟩ := hcut
                    cases kq with
                    | zero => exact absurd HA.out (by simp [ins_Show.j4])
                    | succ kj49 =>
                      have H := HA.out
                      clear HA
                      simp only [ins_Show.j4] at H
                      have HC60 := Aside0.mk H
                      clear H
                      have hnb61 := NB115_104.out
                      have hnc61 := NB104_115.out
                      have hcz62_0 : wc.cell? ⟨gb115, 0, none⟩ = some (.string t105) := (blk_cell BK115.out 0).trans rfl
                      have hcz62_1 : wc.cell? ⟨gb115, 1, none⟩ = some (.bool t106) := (blk_cell BK115.out 1).trans rfl
                      have hcz62_2 : wc.cell? ⟨gb115, 2, none⟩ = some (.bool t107) := (blk_cell BK115.out 2).trans rfl
                      have hcz62_3 : wc.cell? ⟨gb115, 3, none⟩ = some (.bool t108) := (blk_cell BK115.out 3).trans rfl
                      have hcz62_4 : wc.cell? ⟨gb115, 4, none⟩ = some (.bool t109) := (blk_cell BK115.out 4).trans rfl
                      have hcz62_5 : wc.cell? ⟨gb115, 5, none⟩ = some (.bool t110) := (blk_cell BK115.out 5).trans rfl
                      have hcz62_6 : wc.cell? ⟨gb115, 6, none⟩ = some (.bool t111) := (blk_cell BK115.out 6).trans rfl
                      have hcz62_7 : wc.cell? ⟨gb115, 7, none⟩ = some (.bool t112) := (blk_cell BK115.out 7).trans rfl
                      have hcz62_8 : wc.cell? ⟨gb115, 8, none⟩ = some (.bool t113) := (blk_cell BK115.out 8).trans rfl
                      have hcz62_9 : wc.cell? ⟨gb115, 9, none⟩ = some (.bool t114) := (blk_cell BK115.out 9).trans rfl
                      have hfz62_0 := blk_frozen BK115.out 0
                      have hfz62_1 := blk_frozen BK115.out 1
                      have hfz62_2 := blk_frozen BK115.out 2
                      have hfz62_3 := blk_frozen BK115.out 3
                      have hfz62_4 := blk_frozen BK115.out 4
                      have hfz62_5 := blk_frozen BK115.out 5
                      have hfz62_6 := blk_frozen BK115.out 6
                      have hfz62_7 := blk_frozen BK115.out 7
                      have hfz62_8 := blk_frozen BK115.out 8
                      have hfz62_9 := blk_frozen BK115.out 9
                      go_upto_if 53 with (fail)
                      go_cut [4] (fun v4 wc => ∃ (kq : Nat) (x4_59 : List ByteArray), Aside0 (ins_Show.j5 kq x4_59 a0_0 a0_1 a0_2 a0_3 a0_4 a0_5 a0_6 t105 t106 t107 t108 t109 t110 t111 t112 t113 t114 = some r) ∧ Aside0 (kq ≤ kj49) ∧ Aside0 (Kd.R Kd.string 9 wc w.heap.size (fun _ => True) v4 x4_59) ∧ Aside0 (wc.heap[gb104]? = some (.cells #[.int .i64 a0_0, .int .i64 a0_1, .int .i64 a0_2, .int .i64 a0_3, .int .i64 a0_4, .int .i64 a0_5, .int .i64 a0_6] 23 (0, 0))) ∧ Aside0 (wc.heap[gb115]? = some (.cells #[.string t105, .bool t106, .bool t107, .bool t108, .bool t109, .bool t110, .bool t111, .bool t112, .bool t113, .bool t114] 43 (0, 0))) ∧ Aside0 (Below w.heap.size w wc))
                      case first =>
                        have H := HC60.out
                        clear HC60
                        by_cases c63 : t108 = true
                        · subst c63
                          have H1 : ((ins_name.f a0_4).bind fun t138 => (if x4_49.length < 8796093022208 then (ins_Show.j5 kj49 (x4_49 ++ [t138]) a0_0 a0_1 a0_2 a0_3 a0_4 a0_5 a0_6 t105 t106 t107 true t109 t110 t111 t112 t113 t114) else (none))) = some r := by rw [if_pos rfl] at H; exact H
                          clear H
                          have H := H1
                          clear H1
                          replace H := Option.bind_eq_some_iff.mp H
                          obtain ⟨t138, A640, H⟩ := H
                          replace H : (if x4_49.length < 8796093022208 then (ins_Show.j5 kj49 (x4_49 ++ [t138]) a0_0 a0_1 a0_2 a0_3 a0_4 a0_5 a0_6 t105 t106 t107 true t109 t110 t111 t112 t113 t114) else (none)) = some r := H
                          have A64 := Aside0.mk A640
                          clear A640
                          by_cases c65 : x4_49.length < 8796093022208
                          · rw [if_pos c65] at H
                            have LMc65 := Aside0.mk c65
                            clear c65
                            obtain ⟨y139, hy139⟩ : ∃ y_ : List ByteArray, y_ = (x4_49 ++ [t138]) := ⟨_, rfl⟩
                            replace H : (ins_Show.j5 kj49 y139 a0_0 a0_1 a0_2 a0_3 a0_4 a0_5 a0_6 t105 t106 t107 true t109 t110 t111 t112 t113 t114) = some r := by first | (rw [hy139]; with_reducible exact H) | (have H2_ := (Option.bind_some _ _).symm.trans H; rw [hy139]; with_reducible exact H2_) | (have H2_ := (Option.bind_some _ _).symm.trans H; with_reducible exact H2_) | with_reducible exact H | (rw [hy139]; exact H) | exact H
                            have Ny139 := Aside0.mk hy139
                            clear hy139
                            have H' := Aside0.mk H
                            clear H
                            have hnb66 := NB104_115.out
                            have hnc66 := NB115_104.out
                            have hcz67_0 : wc.cell? ⟨gb104, 0, none⟩ = some (.int .i64 a0_0) := (blk_cell BK104.out 0).trans rfl
                            have hcz67_1 : wc.cell? ⟨gb104, 1, none⟩ = some (.int .i64 a0_1) := (blk_cell BK104.out 1).trans rfl
                            have hcz67_2 : wc.cell? ⟨gb104, 2, none⟩ = some (.int .i64 a0_2) := (blk_cell BK104.out 2).trans rfl
                            have hcz67_3 : wc.cell? ⟨gb104, 3, none⟩ = some (.int .i64 a0_3) := (blk_cell BK104.out 3).trans rfl
                            have hcz67_4 : wc.cell? ⟨gb104, 4, none⟩ = some (.int .i64 a0_4) := (blk_cell BK104.out 4).trans rfl
                            have hcz67_5 : wc.cell? ⟨gb104, 5, none⟩ = some (.int .i64 a0_5) := (blk_cell BK104.out 5).trans rfl
                            have hcz67_6 : wc.cell? ⟨gb104, 6, none⟩ = some (.int .i64 a0_6) := (blk_cell BK104.out 6).trans rfl
                            have hfz67_0 := blk_frozen BK104.out 0
                            have hfz67_1 := blk_frozen BK104.out 1
                            have hfz67_2 := blk_frozen BK104.out 2
                            have hfz67_3 := blk_frozen BK104.out 3
                            have hfz67_4 := blk_frozen BK104.out 4
                            have hfz67_5 := blk_frozen BK104.out 5
                            have hfz67_6 := blk_frozen BK104.out 6
                            go_wp2_with (first | ((with_reducible refine gate_callee (f := 28) rfl ?_); refine goesL_ (some 57) rfl rfl Tryd.func28 (by kernel_rfl) rfl #[.int .i64 a0_4] rfl (by (try simp only [List.map_toArray, List.map_cons, List.map_nil]); first | done | rfl | (simp only [List.length_drop, List.length_take]; rfl)) ?_; (with_reducible refine (ins_name.calls a0_4 t138 _ A64.out (GlobOK.step HGL.out (by repeat (first | (with_reducible first | exact HB.out | apply below_alloc | apply pw_below_drewN | apply below_drew1 | refine below_set ?_ GE104.out | refine below_set ?_ GE115.out) | exact HB.out)))).mono ?_); rintro e w68 ⟨rfl, hb⟩; refine ⟨_, rfl, ?_⟩; have n0_ := Aside0.mk (Kd.R_below (by (with_reducible repeat (first | apply Kd.R_alloc | apply Kd.R_drewN | apply Kd.R_drew)); exact HO_4.out) hb); have n1_ := Aside0.mk (blk_below (g := gb104) (o := .cells #[.int .i64 a0_0, .int .i64 a0_1, .int .i64 a0_2, .int .i64 a0_3, .int .i64 a0_4, .int .i64 a0_5, .int .i64 a0_6] 23 (0, 0)) (by (with_reducible repeat (first | refine blk_drewN ?_ _ | refine blk_drew ?_ | refine blk_alloc ?_ _)); exact BK104.out) hb); have n2_ := Aside0.mk (blk_below (g := gb115) (o := .cells #[.string t105, .bool t106, .bool t107, .bool true, .bool t109, .bool t110, .bool t111, .bool t112, .bool t113, .bool t114] 43 (0, 0)) (by (with_reducible repeat (first | refine blk_drewN ?_ _ | refine blk_drew ?_ | refine blk_alloc ?_ _)); exact BK115.out) hb); have n3_ := Aside0.mk (below_step (by repeat (first | (with_reducible first | exact HB.out | apply below_alloc | apply pw_below_drewN | apply below_drew1 | refine below_set ?_ GE104.out | refine below_set ?_ GE115.out) | exact HB.out)) hb); clear HO_4; clear BK104; clear BK115; clear HB; have HO_4 := n0_; have BK104 := n1_; have BK115 := n2_; have HB := n3_; clear n0_ n1_ n2_ n3_; (try clear hb); (try clear hb2); (try clear hk); (try clear hi)) | ((with_reducible refine gate_builtin (b := .append) (xs := #[.tmp 54, .tmp 58]) rfl ?_); at_builtin; refine Kd.R_append Kd.string (w0 := w) w.heap.size rfl (.tmp 54) (.tmp 58) 51 9 (.string ⟨#[]⟩) 16 rfl Tryd.underlying51 info9 rfl (by decide) (by omega) u4 x4_49 t138 [.string t138] (fun _ => True) (fun _ => False) rfl rfl ?aP (fun _ hk => hk.elim) ?aF ?aO ?aB ?aS ?aL ?_; (case aP => exact rfl); (case aB => exact (by repeat (first | (with_reducible first | exact HB.out | apply below_alloc | apply pw_below_drewN | apply below_drew1 | refine below_set ?_ GE104.out | refine below_set ?_ GE115.out) | exact HB.out))); (case aF => exact (fun _ _ => trivial)); (case aO => exact (by (with_reducible repeat (first | apply Kd.R_alloc | apply Kd.R_drewN | apply Kd.R_drew)); exact HO_4.out)); (case aS => exact (below_size (by repeat (first | (with_reducible first | exact HB.out | apply below_alloc | apply pw_below_drewN | apply below_drew1 | refine below_set ?_ GE104.out | refine below_set ?_ GE115.out) | exact HB.out)))); (case aL => have := LMc65.out; omega); intro v140 w69 ho hb hg hat; rw [← Ny139.out] at ho; have n0_ := Aside0.mk (blk_grown (g := gb104) (o := .cells #[.int .i64 a0_0, .int .i64 a0_1, .int .i64 a0_2, .int .i64 a0_3, .int .i64 a0_4, .int .i64 a0_5, .int .i64 a0_6] 23 (0, 0)) (by (with_reducible repeat (first | refine blk_drewN ?_ _ | refine blk_drew ?_ | refine blk_alloc ?_ _)); exact BK104.out) hg (Kd.R_ne HO_4.out BK104.out (by decide))); have n1_ := Aside0.mk (blk_grown (g := gb115) (o := .cells #[.string t105, .bool t106, .bool t107, .bool true, .bool t109, .bool t110, .bool t111, .bool t112, .bool t113, .bool t114] 43 (0, 0)) (by (with_reducible repeat (first | refine blk_drewN ?_ _ | refine blk_drew ?_ | refine blk_alloc ?_ _)); exact BK115.out) hg (Kd.R_ne HO_4.out BK115.out (by decide))); have n2_ := Aside0.mk (hb); have n3_ := Aside0.mk (ho); clear BK104; clear BK115; clear HB; clear HO_4; have BK104 := n0_; have BK115 := n1_; have HB := n2_; have HO141 := n3_; clear n0_ n1_ n2_ n3_; clear ho hb hg hat))
                            go_meet
                            case rel => exact ⟨_, (y139), H', ⟨by have := HJ2.out; have := HJ19.out; have := HJ25.out; have := HJ33.out; have := HJ49.out; first | omega | exact Nat.le_refl _⟩, ⟨by (with_reducible repeat (first | apply Kd.R_alloc | apply Kd.R_drewN | apply Kd.R_drew)); exact HO141.out⟩, ⟨by (with_reducible repeat (first | refine blk_drewN ?_ _ | refine blk_drew ?_ | refine blk_alloc ?_ _)); exact BK104.out⟩, ⟨by (with_reducible repeat (first | refine blk_drewN ?_ _ | refine blk_drew ?_ | refine blk_alloc ?_ _)); exact BK115.out⟩, ⟨by repeat (first | (with_reducible first | exact HB.out | apply below_alloc | apply pw_below_drewN | apply below_drew1 | refine below_set ?_ GE104.out | refine below_set ?_ GE115.out) | exact HB.out)⟩⟩
                          · rw [if_neg c65] at H
                            exact absurd H (by simp)
                        · replace c63 := Bool.eq_false_iff.mpr c63
                          subst c63
                          have H1 : (ins_Show.j5 kj49 x4_49 a0_0 a0_1 a0_2 a0_3 a0_4 a0_5 a0_6 t105 t106 t107 false t109 t110 t111 t112 t113 t114) = some r := by rw [if_neg (show ¬ (false = true) by decide)] at H; exact H
                          clear H
                          have H := H1
                          clear H1
                          have H' := Aside0.mk H
                          clear H
                          go_wp2
                          go_meet
                          case rel => exact ⟨_, (x4_49), H', ⟨by have := HJ2.out; have := HJ19.out; have := HJ25.out; have := HJ33.out; have := HJ49.out; first | omega | exact Nat.le_refl _⟩, ⟨by (with_reducible repeat (first | apply Kd.R_alloc | apply Kd.R_drewN | apply Kd.R_drew)); exact HO_4.out⟩, ⟨by (with_reducible repeat (first | refine blk_drewN ?_ _ | refine blk_drew ?_ | refine blk_alloc ?_ _)); exact BK104.out⟩, ⟨by (with_reducible repeat (first | refine blk_drewN ?_ _ | refine blk_drew ?_ | refine blk_alloc ?_ _)); exact BK115.out⟩, ⟨by repeat (first | (with_reducible first | exact HB.out | apply below_alloc | apply pw_below_drewN | apply below_drew1 | refine below_set ?_ GE104.out | refine below_set ?_ GE115.out) | exact HB.out)⟩⟩
                      case rest =>
                        clear HC60
                        try clear c1
                        try clear c2
                        try clear p2
                        try clear c3
                        try clear c4
                        try clear c5
                        try clear c6
                        try clear c8
                        try clear c13
                        try clear c15
                        try clear c16
                        try clear c21
                        try clear c22
                        try clear c24
                        try clear c27
                        try clear c28
                        try clear c29
                        try clear c30
                        try clear c35
                        try clear c37
                        try clear c39
                        try clear c39b0
                        try clear c39b1
                        try clear c40
                        try clear c41
                        try clear c45
                        try clear c46
                        try clear c51
                        try clear c53
                        try clear c55
                        try clear c56
                        try clear c61
                        try clear c63
                        try clear c65
                        try clear c66
                        try clear hcz12_0
                        try clear hcz12_1
                        try clear hcz12_2
                        try clear hcz12_3
                        try clear hcz12_4
                        try clear hcz12_5
                        try clear hcz12_6
                        try clear hcz12_7
                        try clear hcz12_8
                        try clear hcz12_9
                        try clear hcz17_0
                        try clear hcz17_1
                        try clear hcz17_2
                        try clear hcz17_3
                        try clear hcz17_4
                        try clear hcz17_5
                        try clear hcz17_6
                        try clear hcz23_0
                        try clear hcz23_1
                        try clear hcz23_2
                        try clear hcz23_3
                        try clear hcz23_4
                        try clear hcz23_5
                        try clear hcz23_6
                        try clear hcz23_7
                        try clear hcz23_8
                        try clear hcz23_9
                        try clear hcz25_0
                        try clear hcz25_1
                        try clear hcz25_2
                        try clear hcz25_3
                        try clear hcz25_4
                        try clear hcz25_5
                        try clear hcz25_6
                        try clear hcz25_7
                        try clear hcz25_8
                        try clear hcz25_9
                        try clear hcz31_0
                        try clear hcz31_1
                        try clear hcz31_2
                        try clear hcz31_3
                        try clear hcz31_4
                        try clear hcz31_5
                        try clear hcz31_6
                        try clear hcz36_0
                        try clear hcz36_1
                        try clear hcz36_2
                        try clear hcz36_3
                        try clear hcz36_4
                        try clear hcz36_5
                        try clear hcz36_6
                        try clear hcz36_7
                        try clear hcz36_8
                        try clear hcz36_9
                        try clear hcz42_0
                        try clear hcz42_1
                        try clear hcz42_2
                        try clear hcz42_3
                        try clear hcz42_4
                        try clear hcz42_5
                        try clear hcz42_6
                        try clear hcz47_0
                        try clear hcz47_1
                        try clear hcz47_2
                        try clear hcz47_3
                        try clear hcz47_4
                        try clear hcz47_5
                        try clear hcz47_6
                        try clear hcz52_0
                        try clear hcz52_1
                        try clear hcz52_2
                        try clear hcz52_3
                        try clear hcz52_4
                        try clear hcz52_5
                        try clear hcz52_6
                        try clear hcz52_7
                        try clear hcz52_8
                        try clear hcz52_9
                        try clear hcz57_0
                        try clear hcz57_1
                        try clear hcz57_2
                        try clear hcz57_3
                        try clear hcz57_4
                        try clear hcz57_5
                        try clear hcz57_6
                        try clear hcz5_0
                        try clear hcz5_1
                        try clear hcz5_2
                        try clear hcz5_3
                        try clear hcz5_4
                        try clear hcz5_5
                        try clear hcz5_6
                        try clear hcz62_0
                        try clear hcz62_1
                        try clear hcz62_2
                        try clear hcz62_3
                        try clear hcz62_4
                        try clear hcz62_5
                        try clear hcz62_6
                        try clear hcz62_7
                        try clear hcz62_8
                        try clear hcz62_9
                        try clear hcz67_0
                        try clear hcz67_1
                        try clear hcz67_2
                        try clear hcz67_3
                        try clear hcz67_4
                        try clear hcz67_5
                        try clear hcz67_6
                        try clear hcz9_0
                        try clear hcz9_1
                        try clear hcz9_2
                        try clear hcz9_3
                        try clear hcz9_4
                        try clear hcz9_5
                        try clear hcz9_6
                        try clear hcz9_7
                        try clear hcz9_8
                        try clear hcz9_9
                        try clear hfz12_0
                        try clear hfz12_1
                        try clear hfz12_2
                        try clear hfz12_3
                        try clear hfz12_4
                        try clear hfz12_5
                        try clear hfz12_6
                        try clear hfz12_7
                        try clear hfz12_8
                        try clear hfz12_9
                        try clear hfz17_0
                        try clear hfz17_1
                        try clear hfz17_2
                        try clear hfz17_3
                        try clear hfz17_4
                        try clear hfz17_5
                        try clear hfz17_6
                        try clear hfz23_0
                        try clear hfz23_1
                        try clear hfz23_2
                        try clear hfz23_3
                        try clear hfz23_4
                        try clear hfz23_5
                        try clear hfz23_6
                        try clear hfz23_7
                        try clear hfz23_8
                        try clear hfz23_9
                        try clear hfz25_0
                        try clear hfz25_1
                        try clear hfz25_2
                        try clear hfz25_3
                        try clear hfz25_4
                        try clear hfz25_5
                        try clear hfz25_6
                        try clear hfz25_7
                        try clear hfz25_8
                        try clear hfz25_9
                        try clear hfz31_0
                        try clear hfz31_1
                        try clear hfz31_2
                        try clear hfz31_3
                        try clear hfz31_4
                        try clear hfz31_5
                        try clear hfz31_6
                        try clear hfz36_0
                        try clear hfz36_1
                        try clear hfz36_2
                        try clear hfz36_3
                        try clear hfz36_4
                        try clear hfz36_5
                        try clear hfz36_6
                        try clear hfz36_7
                        try clear hfz36_8
                        try clear hfz36_9
                        try clear hfz42_0
                        try clear hfz42_1
                        try clear hfz42_2
                        try clear hfz42_3
                        try clear hfz42_4
                        try clear hfz42_5
                        try clear hfz42_6
                        try clear hfz47_0
                        try clear hfz47_1
                        try clear hfz47_2
                        try clear hfz47_3
                        try clear hfz47_4
                        try clear hfz47_5
                        try clear hfz47_6
                        try clear hfz52_0
                        try clear hfz52_1
                        try clear hfz52_2
                        try clear hfz52_3
                        try clear hfz52_4
                        try clear hfz52_5
                        try clear hfz52_6
                        try clear hfz52_7
                        try clear hfz52_8
                        try clear hfz52_9
                        try clear hfz57_0
                        try clear hfz57_1
                        try clear hfz57_2
                        try clear hfz57_3
                        try clear hfz57_4
                        try clear hfz57_5
                        try clear hfz57_6
                        try clear hfz5_0
                        try clear hfz5_1
                        try clear hfz5_2
                        try clear hfz5_3
                        try clear hfz5_4
                        try clear hfz5_5
                        try clear hfz5_6
                        try clear hfz62_0
                        try clear hfz62_1
                        try clear hfz62_2
                        try clear hfz62_3
                        try clear hfz62_4
                        try clear hfz62_5
                        try clear hfz62_6
                        try clear hfz62_7
                        try clear hfz62_8
                        try clear hfz62_9
                        try clear hfz67_0
                        try clear hfz67_1
                        try clear hfz67_2
                        try clear hfz67_3
                        try clear hfz67_4
                        try clear hfz67_5
                        try clear hfz67_6
                        try clear hfz9_0
                        try clear hfz9_1
                        try clear hfz9_2
                        try clear hfz9_3
                        try clear hfz9_4
                        try clear hfz9_5
                        try clear hfz9_6
                        try clear hfz9_7
                        try clear hfz9_8
                        try clear hfz9_9
                        try clear p2
                        obtain ⟨kq, x4_59, HA, HJ59, HO_4, BK104, BK115, HB⟩ := hcut
                        cases kq with
                        | zero => exact absurd HA.out (by simp [ins_Show.j5])
                        | succ kj59 =>
                          have H := HA.out
                          clear HA
                          simp only [ins_Show.j5] at H
                          have HC70 := Aside0.mk H
                          clear H
                          go_upto_region 16 with (fail)
                          go_cut [66] (fun v66 wc => ∃ (kq : Nat) (x66_69 : Bool), v66 = .bool x66_69 ∧ Aside0 (ins_Show.j6 kq x4_59 x66_69 a0_0 a0_1 a0_2 a0_3 a0_4 a0_5 a0_6 t105 t106 t107 t108 t109 t110 t111 t112 t113 t114 = some r) ∧ Aside0 (kq ≤ kj59) ∧ Aside0 (Kd.R Kd.string 9 wc w.heap.size (fun _ => True) u4 x4_59) ∧ Aside0 (wc.heap[gb104]? = some (.cells #[.int .i64 a0_0, .int .i64 a0_1, .int .i64 a0_2, .int .i64 a0_3, .int .i64 a0_4, .int .i64 a0_5, .int .i64 a0_6] 23 (0, 0))) ∧ Aside0 (wc.heap[gb115]? = some (.cells #[.string t105, .bool t106, .bool t107, .bool t108, .bool t109, .bool t110, .bool t111, .bool t112, .bool t113, .bool t114] 43 (0, 0))) ∧ Aside0 (Below w.heap.size w wc))
                          case first =>
                            have H := HC70.out
                            clear HC70
                            by_cases c71 : t112 = true
                            · subst c71
                              have H1 : (ins_Show.j6 kj59 x4_59 (decide (a0_3 ≥ 0)) a0_0 a0_1 a0_2 a0_3 a0_4 a0_5 a0_6 t105 t106 t107 t108 t109 t110 t111 true t113 t114) = some r := by rw [if_pos rfl] at H; exact H
                              clear H
                              have H := H1
                              clear H1
                              have H' := Aside0.mk H
                              clear H
                              have hnb72 := NB115_104.out
                              have hnc72 := NB104_115.out
                              have hcz73_0 : wc.cell? ⟨gb115, 0, none⟩ = some (.string t105) := (blk_cell BK115.out 0).trans rfl
                              have hcz73_1 : wc.cell? ⟨gb115, 1, none⟩ = some (.bool t106) := (blk_cell BK115.out 1).trans rfl
                              have hcz73_2 : wc.cell? ⟨gb115, 2, none⟩ = some (.bool t107) := (blk_cell BK115.out 2).trans rfl
                              have hcz73_3 : wc.cell? ⟨gb115, 3, none⟩ = some (.bool t108) := (blk_cell BK115.out 3).trans rfl
                              have hcz73_4 : wc.cell? ⟨gb115, 4, none⟩ = some (.bool t109) := (blk_cell BK115.out 4).trans rfl
                              have hcz73_5 : wc.cell? ⟨gb115, 5, none⟩ = some (.bool t110) := (blk_cell BK115.out 5).trans rfl
                              have hcz73_6 : wc.cell? ⟨gb115, 6, none⟩ = some (.bool t111) := (blk_cell BK115.out 6).trans rfl
                              have hcz73_7 : wc.cell? ⟨gb115, 7, none⟩ = some (.bool true) := (blk_cell BK115.out 7).trans rfl
                              have hcz73_8 : wc.cell? ⟨gb115, 8, none⟩ = some (.bool t113) := (blk_cell BK115.out 8).trans rfl
                              have hcz73_9 : wc.cell? ⟨gb115, 9, none⟩ = some (.bool t114) := (blk_cell BK115.out 9).trans rfl
                              have hfz73_0 := blk_frozen BK115.out 0
                              have hfz73_1 := blk_frozen BK115.out 1
                              have hfz73_2 := blk_frozen BK115.out 2
                              have hfz73_3 := blk_frozen BK115.out 3
                              have hfz73_4 := blk_frozen BK115.out 4
                              have hfz73_5 := blk_frozen BK115.out 5
                              have hfz73_6 := blk_frozen BK115.out 6
                              have hfz73_7 := blk_frozen BK115.out 7
                              have hfz73_8 := blk_frozen BK115.out 8
                              have hfz73_9 := blk_frozen BK115.out 9
                              have hcz74_0 : wc.cell? ⟨gb104, 0, none⟩ = some (.int .i64 a0_0) := (blk_cell BK104.out 0).trans rfl
                              have hcz74_1 : wc.cell? ⟨gb104, 1, none⟩ = some (.int .i64 a0_1) := (blk_cell BK104.out 1).trans rfl
                              have hcz74_2 : wc.cell? ⟨gb104, 2, none⟩ = some (.int .i64 a0_2) := (blk_cell BK104.out 2).trans rfl
                              have hcz74_3 : wc.cell? ⟨gb104, 3, none⟩ = some (.int .i64 a0_3) := (blk_cell BK104.out 3).trans rfl
                              have hcz74_4 : wc.cell? ⟨gb104, 4, none⟩ = some (.int .i64 a0_4) := (blk_cell BK104.out 4).trans rfl
                              have hcz74_5 : wc.cell? ⟨gb104, 5, none⟩ = some (.int .i64 a0_5) := (blk_cell BK104.out 5).trans rfl
                              have hcz74_6 : wc.cell? ⟨gb104, 6, none⟩ = some (.int .i64 a0_6) := (blk_cell BK104.out 6).trans rfl
                              have hfz74_0 := blk_frozen BK104.out 0
                              have hfz74_1 := blk_frozen BK104.out 1
                              have hfz74_2 := blk_frozen BK104.out 2
                              have hfz74_3 := blk_frozen BK104.out 3
                              have hfz74_4 := blk_frozen BK104.out 4
                              have hfz74_5 := blk_frozen BK104.out 5
                              have hfz74_6 := blk_frozen BK104.out 6
                              go_wp2
                              go_meet
                              case rel => exact ⟨_, (decide (a0_3 ≥ 0)), (by first | rfl | (simp; done) | (simp [*]; done)), H', ⟨by have := HJ2.out; have := HJ19.out; have := HJ25.out; have := HJ33.out; have := HJ49.out; have := HJ59.out; first | omega | exact Nat.le_refl _⟩, ⟨by (with_reducible repeat (first | apply Kd.R_alloc | apply Kd.R_drewN | apply Kd.R_drew)); exact HO_4.out⟩, ⟨by (with_reducible repeat (first | refine blk_drewN ?_ _ | refine blk_drew ?_ | refine blk_alloc ?_ _)); exact BK104.out⟩, ⟨by (with_reducible repeat (first | refine blk_drewN ?_ _ | refine blk_drew ?_ | refine blk_alloc ?_ _)); exact BK115.out⟩, ⟨by repeat (first | (with_reducible first | exact HB.out | apply below_alloc | apply pw_below_drewN | apply below_drew1 | refine below_set ?_ GE104.out | refine below_set ?_ GE115.out) | exact HB.out)⟩⟩
                            · replace c71 := Bool.eq_false_iff.mpr c71
                              subst c71
                              have H1 : (ins_Show.j6 kj59 x4_59 false a0_0 a0_1 a0_2 a0_3 a0_4 a0_5 a0_6 t105 t106 t107 t108 t109 t110 t111 false t113 t114) = some r := by rw [if_neg (show ¬ (false = true) by decide)] at H; exact H
                              clear H
                              have H := H1
                              clear H1
                              have H' := Aside0.mk H
                              clear H
                              have hnb75 := NB115_104.out
                              have hnc75 := NB104_115.out
                              have hcz76_0 : wc.cell? ⟨gb115, 0, none⟩ = some (.string t105) := (blk_cell BK115.out 0).trans rfl
                              have hcz76_1 : wc.cell? ⟨gb115, 1, none⟩ = some (.bool t106) := (blk_cell BK115.out 1).trans rfl
                              have hcz76_2 : wc.cell? ⟨gb115, 2, none⟩ = some (.bool t107) := (blk_cell BK115.out 2).trans rfl
                              have hcz76_3 : wc.cell? ⟨gb115, 3, none⟩ = some (.bool t108) := (blk_cell BK115.out 3).trans rfl
                              have hcz76_4 : wc.cell? ⟨gb115, 4, none⟩ = some (.bool t109) := (blk_cell BK115.out 4).trans rfl
                              have hcz76_5 : wc.cell? ⟨gb115, 5, none⟩ = some (.bool t110) := (blk_cell BK115.out 5).trans rfl
                              have hcz76_6 : wc.cell? ⟨gb115, 6, none⟩ = some (.bool t111) := (blk_cell BK115.out 6).trans rfl
                              have hcz76_7 : wc.cell? ⟨gb115, 7, none⟩ = some (.bool false) := (blk_cell BK115.out 7).trans rfl
                              have hcz76_8 : wc.cell? ⟨gb115, 8, none⟩ = some (.bool t113) := (blk_cell BK115.out 8).trans rfl
                              have hcz76_9 : wc.cell? ⟨gb115, 9, none⟩ = some (.bool t114) := (blk_cell BK115.out 9).trans rfl
                              have hfz76_0 := blk_frozen BK115.out 0
                              have hfz76_1 := blk_frozen BK115.out 1
                              have hfz76_2 := blk_frozen BK115.out 2
                              have hfz76_3 := blk_frozen BK115.out 3
                              have hfz76_4 := blk_frozen BK115.out 4
                              have hfz76_5 := blk_frozen BK115.out 5
                              have hfz76_6 := blk_frozen BK115.out 6
                              have hfz76_7 := blk_frozen BK115.out 7
                              have hfz76_8 := blk_frozen BK115.out 8
                              have hfz76_9 := blk_frozen BK115.out 9
                              go_wp2
                              go_meet
                              case rel => exact ⟨_, (false), (by first | rfl | (simp; done) | (simp [*]; done)), H', ⟨by have := HJ2.out; have := HJ19.out; have := HJ25.out; have := HJ33.out; have := HJ49.out; have := HJ59.out; first | omega | exact Nat.le_refl _⟩, ⟨by (with_reducible repeat (first | apply Kd.R_alloc | apply Kd.R_drewN | apply Kd.R_drew)); exact HO_4.out⟩, ⟨by (with_reducible repeat (first | refine blk_drewN ?_ _ | refine blk_drew ?_ | refine blk_alloc ?_ _)); exact BK104.out⟩, ⟨by (with_reducible repeat (first | refine blk_drewN ?_ _ | refine blk_drew ?_ | refine blk_alloc ?_ _)); exact BK115.out⟩, ⟨by repeat (first | (with_reducible first | exact HB.out | apply below_alloc | apply pw_below_drewN | apply below_drew1 | refine below_set ?_ GE104.out | refine below_set ?_ GE115.out) | exact HB.out)⟩⟩
                          case rest =>
                            clear HC70
                            try clear c1
                            try clear c2
                            try clear p2
                            try clear c3
                            try clear c4
                            try clear c5
                            try clear c6
                            try clear c7
                            try clear c8
                            try clear c13
                            try clear c15
                            try clear c16
                            try clear c21
                            try clear c22
                            try clear c24
                            try clear c27
                            try clear c28
                            try clear c29
                            try clear c30
                            try clear c35
                            try clear c37
                            try clear c39
                            try clear c39b0
                            try clear c39b1
                            try clear c40
                            try clear c41
                            try clear c45
                            try clear c46
                            try clear c51
                            try clear c53
                            try clear c55
                            try clear c56
                            try clear c61
                            try clear c63
                            try clear c65
                            try clear c66
                            try clear c71
                            try clear c72
                            try clear c75
                            try clear hcz12_0
                            try clear hcz12_1
                            try clear hcz12_2
                            try clear hcz12_3
                            try clear hcz12_4
                            try clear hcz12_5
                            try clear hcz12_6
                            try clear hcz12_7
                            try clear hcz12_8
                            try clear hcz12_9
                            try clear hcz17_0
                            try clear hcz17_1
                            try clear hcz17_2
                            try clear hcz17_3
                            try clear hcz17_4
                            try clear hcz17_5
                            try clear hcz17_6
                            try clear hcz23_0
                            try clear hcz23_1
                            try clear hcz23_2
                            try clear hcz23_3
                            try clear hcz23_4
                            try clear hcz23_5
                            try clear hcz23_6
                            try clear hcz23_7
                            try clear hcz23_8
                            try clear hcz23_9
                            try clear hcz25_0
                            try clear hcz25_1
                            try clear hcz25_2
                            try clear hcz25_3
                            try clear hcz25_4
                            try clear hcz25_5
                            try clear hcz25_6
                            try clear hcz25_7
                            try clear hcz25_8
                            try clear hcz25_9
                            try clear hcz31_0
                            try clear hcz31_1
                            try clear hcz31_2
                            try clear hcz31_3
                            try clear hcz31_4
                            try clear hcz31_5
                            try clear hcz31_6
                            try clear hcz36_0
                            try clear hcz36_1
                            try clear hcz36_2
                            try clear hcz36_3
                            try clear hcz36_4
                            try clear hcz36_5
                            try clear hcz36_6
                            try clear hcz36_7
                            try clear hcz36_8
                            try clear hcz36_9
                            try clear hcz42_0
                            try clear hcz42_1
                            try clear hcz42_2
                            try clear hcz42_3
                            try clear hcz42_4
                            try clear hcz42_5
                            try clear hcz42_6
                            try clear hcz47_0
                            try clear hcz47_1
                            try clear hcz47_2
                            try clear hcz47_3
                            try clear hcz47_4
                            try clear hcz47_5
                            try clear hcz47_6
                            try clear hcz52_0
                            try clear hcz52_1
                            try clear hcz52_2
                            try clear hcz52_3
                            try clear hcz52_4
                            try clear hcz52_5
                            try clear hcz52_6
                            try clear hcz52_7
                            try clear hcz52_8
                            try clear hcz52_9
                            try clear hcz57_0
                            try clear hcz57_1
                            try clear hcz57_2
                            try clear hcz57_3
                            try clear hcz57_4
                            try clear hcz57_5
                            try clear hcz57_6
                            try clear hcz5_0
                            try clear hcz5_1
                            try clear hcz5_2
                            try clear hcz5_3
                            try clear hcz5_4
                            try clear hcz5_5
                            try clear hcz5_6
                            try clear hcz62_0
                            try clear hcz62_1
                            try clear hcz62_2
                            try clear hcz62_3
                            try clear hcz62_4
                            try clear hcz62_5
                            try clear hcz62_6
                            try clear hcz62_7
                            try clear hcz62_8
                            try clear hcz62_9
                            try clear hcz67_0
                            try clear hcz67_1
                            try clear hcz67_2
                            try clear hcz67_3
                            try clear hcz67_4
                            try clear hcz67_5
                            try clear hcz67_6
                            try clear hcz73_0
                            try clear hcz73_1
                            try clear hcz73_2
                            try clear hcz73_3
                            try clear hcz73_4
                            try clear hcz73_5
                            try clear hcz73_6
                            try clear hcz73_7
                            try clear hcz73_8
                            try clear hcz73_9
                            try clear hcz74_0
                            try clear hcz74_1
                            try clear hcz74_2
                            try clear hcz74_3
                            try clear hcz74_4
                            try clear hcz74_5
                            try clear hcz74_6
                            try clear hcz76_0
                            try clear hcz76_1
                            try clear hcz76_2
                            try clear hcz76_3
                            try clear hcz76_4
                            try clear hcz76_5
                            try clear hcz76_6
                            try clear hcz76_7
                            try clear hcz76_8
                            try clear hcz76_9
                            try clear hcz9_0
                            try clear hcz9_1
                            try clear hcz9_2
                            try clear hcz9_3
                            try clear hcz9_4
                            try clear hcz9_5
                            try clear hcz9_6
                            try clear hcz9_7
                            try clear hcz9_8
                            try clear hcz9_9
                            try clear hfz12_0
                            try clear hfz12_1
                            try clear hfz12_2
                            try clear hfz12_3
                            try clear hfz12_4
                            try clear hfz12_5
                            try clear hfz12_6
                            try clear hfz12_7
                            try clear hfz12_8
                            try clear hfz12_9
                            try clear hfz17_0
                            try clear hfz17_1
                            try clear hfz17_2
                            try clear hfz17_3
                            try clear hfz17_4
                            try clear hfz17_5
                            try clear hfz17_6
                            try clear hfz23_0
                            try clear hfz23_1
                            try clear hfz23_2
                            try clear hfz23_3
                            try clear hfz23_4
                            try clear hfz23_5
                            try clear hfz23_6
                            try clear hfz23_7
                            try clear hfz23_8
                            try clear hfz23_9
                            try clear hfz25_0
                            try clear hfz25_1
                            try clear hfz25_2
                            try clear hfz25_3
                            try clear hfz25_4
                            try clear hfz25_5
                            try clear hfz25_6
                            try clear hfz25_7
                            try clear hfz25_8
                            try clear hfz25_9
                            try clear hfz31_0
                            try clear hfz31_1
                            try clear hfz31_2
                            try clear hfz31_3
                            try clear hfz31_4
                            try clear hfz31_5
                            try clear hfz31_6
                            try clear hfz36_0
                            try clear hfz36_1
                            try clear hfz36_2
                            try clear hfz36_3
                            try clear hfz36_4
                            try clear hfz36_5
                            try clear hfz36_6
                            try clear hfz36_7
                            try clear hfz36_8
                            try clear hfz36_9
                            try clear hfz42_0
                            try clear hfz42_1
                            try clear hfz42_2
                            try clear hfz42_3
                            try clear hfz42_4
                            try clear hfz42_5
                            try clear hfz42_6
                            try clear hfz47_0
                            try clear hfz47_1
                            try clear hfz47_2
                            try clear hfz47_3
                            try clear hfz47_4
                            try clear hfz47_5
                            try clear hfz47_6
                            try clear hfz52_0
                            try clear hfz52_1
                            try clear hfz52_2
                            try clear hfz52_3
                            try clear hfz52_4
                            try clear hfz52_5
                            try clear hfz52_6
                            try clear hfz52_7
                            try clear hfz52_8
                            try clear hfz52_9
                            try clear hfz57_0
                            try clear hfz57_1
                            try clear hfz57_2
                            try clear hfz57_3
                            try clear hfz57_4
                            try clear hfz57_5
                            try clear hfz57_6
                            try clear hfz5_0
                            try clear hfz5_1
                            try clear hfz5_2
                            try clear hfz5_3
                            try clear hfz5_4
                            try clear hfz5_5
                            try clear hfz5_6
                            try clear hfz62_0
                            try clear hfz62_1
                            try clear hfz62_2
                            try clear hfz62_3
                            try clear hfz62_4
                            try clear hfz62_5
                            try clear hfz62_6
                            try clear hfz62_7
                            try clear hfz62_8
                            try clear hfz62_9
                            try clear hfz67_0
                            try clear hfz67_1
                            try clear hfz67_2
                            try clear hfz67_3
                            try clear hfz67_4
                            try clear hfz67_5
                            try clear hfz67_6
                            try clear hfz73_0
                            try clear hfz73_1
                            try clear hfz73_2
                            try clear hfz73_3
                            try clear hfz73_4
                            try clear hfz73_5
                            try clear hfz73_6
                            try clear hfz73_7
                            try clear hfz73_8
                            try clear hfz73_9
                            try clear hfz74_0
                            try clear hfz74_1
                            try clear hfz74_2
                            try clear hfz74_3
                            try clear hfz74_4
                            try clear hfz74_5
                            try clear hfz74_6
                            try clear hfz76_0
                            try clear hfz76_1
                            try clear hfz76_2
                            try clear hfz76_3
                            try clear hfz76_4
                            try clear hfz76_5
                            try clear hfz76_6
                            try clear hfz76_7
                            try clear hfz76_8
                            try clear hfz76_9
                            try clear hfz9_0
                            try clear hfz9_1
                            try clear hfz9_2
                            try clear hfz9_3
                            try clear hfz9_4
                            try clear hfz9_5
                            try clear hfz9_6
                            try clear hfz9_7
                            try clear hfz9_8
                            try clear hfz9_9
                            try clear p2
                            obtain ⟨kq, x66_69, rfl, HA, HJ69, HO_4, BK104, BK115, HB⟩ := hcut
                            cases kq with
                            | zero => exact absurd HA.out (by simp [ins_Show.j6])
                            | succ kj69 =>
                              have H := HA.out
                              clear HA
                              simp only [ins_Show.j6] at H
                              have HC77 := Aside0.mk H
                              clear H
                              go_upto_if 66 with (fail)
                              go_cut [4] (fun v4 wc => ∃ (kq : Nat) (x4_76 : List ByteArray), Aside0 (ins_Show.j7 kq x4_76 a0_0 a0_1 a0_2 a0_3 a0_4 a0_5 a0_6 t105 t106 t107 t108 t109 t110 t111 t112 t113 t114 = some r) ∧ Aside0 (kq ≤ kj69) ∧ Aside0 (Kd.R Kd.string 9 wc w.heap.size (fun _ => True) v4 x4_76) ∧ Aside0 (wc.heap[gb104]? = some (.cells #[.int .i64 a0_0, .int .i64 a0_1, .int .i64 a0_2, .int .i64 a0_3, .int .i64 a0_4, .int .i64 a0_5, .int .i64 a0_6] 23 (0, 0))) ∧ Aside0 (wc.heap[gb115]? = some (.cells #[.string t105, .bool t106, .bool t107, .bool t108, .bool t109, .bool t110, .bool t111, .bool t112, .bool t113, .bool t114] 43 (0, 0))) ∧ Aside0 (Below w.heap.size w wc))
                              case first =>
                                have H := HC77.out
                                clear HC77
                                by_cases c78 : x66_69 = true
                                · subst c78
                                  have H1 : ((ins_name.f a0_3).bind fun t142 => (if x4_59.length < 8796093022208 then (ins_Show.j7 kj69 (x4_59 ++ [t142]) a0_0 a0_1 a0_2 a0_3 a0_4 a0_5 a0_6 t105 t106 t107 t108 t109 t110 t111 t112 t113 t114) else (none))) = some r := by rw [if_pos rfl] at H; exact H
                                  clear H
                                  have H := H1
                                  clear H1
                                  replace H := Option.bind_eq_some_iff.mp H
                                  obtain ⟨t142, A790, H⟩ := H
                                  replace H : (if x4_59.length < 8796093022208 then (ins_Show.j7 kj69 (x4_59 ++ [t142]) a0_0 a0_1 a0_2 a0_3 a0_4 a0_5 a0_6 t105 t106 t107 t108 t109 t110 t111 t112 t113 t114) else (none)) = some r := H
                                  have A79 := Aside0.mk A790
                                  clear A790
                                  by_cases c80 : x4_59.length < 8796093022208
                                  · rw [if_pos c80] at H
                                    have LMc80 := Aside0.mk c80
                                    clear c80
                                    obtain ⟨y143, hy143⟩ : ∃ y_ : List ByteArray, y_ = (x4_59 ++ [t142]) := ⟨_, rfl⟩
                                    replace H : (ins_Show.j7 kj69 y143 a0_0 a0_1 a0_2 a0_3 a0_4 a0_5 a0_6 t105 t106 t107 t108 t109 t110 t111 t112 t113 t114) = some r := by first | (rw [hy143]; with_reducible exact H) | (have H2_ := (Option.bind_some _ _).symm.trans H; rw [hy143]; with_reducible exact H2_) | (have H2_ := (Option.bind_some _ _).symm.trans H; with_reducible exact H2_) | with_reducible exact H | (rw [hy143]; exact H) | exact H
                                    have Ny143 := Aside0.mk hy143
                                    clear hy143
                                    have H' := Aside0.mk H
                                    clear H
                                    have hnb81 := NB104_115.out
                                    have hnc81 := NB115_104.out
                                    have hcz82_0 : wc.cell? ⟨gb104, 0, none⟩ = some (.int .i64 a0_0) := (blk_cell BK104.out 0).trans rfl
                                    have hcz82_1 : wc.cell? ⟨gb104, 1, none⟩ = some (.int .i64 a0_1) := (blk_cell BK104.out 1).trans rfl
                                    have hcz82_2 : wc.cell? ⟨gb104, 2, none⟩ = some (.int .i64 a0_2) := (blk_cell BK104.out 2).trans rfl
                                    have hcz82_3 : wc.cell? ⟨gb104, 3, none⟩ = some (.int .i64 a0_3) := (blk_cell BK104.out 3).trans rfl
                                    have hcz82_4 : wc.cell? ⟨gb104, 4, none⟩ = some (.int .i64 a0_4) := (blk_cell BK104.out 4).trans rfl
                                    have hcz82_5 : wc.cell? ⟨gb104, 5, none⟩ = some (.int .i64 a0_5) := (blk_cell BK104.out 5).trans rfl
                                    have hcz82_6 : wc.cell? ⟨gb104, 6, none⟩ = some (.int .i64 a0_6) := (blk_cell BK104.out 6).trans rfl
                                    have hfz82_0 := blk_frozen BK104.out 0
                                    have hfz82_1 := blk_frozen BK104.out 1
                                    have hfz82_2 := blk_frozen BK104.out 2
                                    have hfz82_3 := blk_frozen BK104.out 3
                                    have hfz82_4 := blk_frozen BK104.out 4
                                    have hfz82_5 := blk_frozen BK104.out 5
                                    have hfz82_6 := blk_frozen BK104.out 6
                                    go_wp2_with (first | ((with_reducible refine gate_callee (f := 28) rfl ?_); refine goesL_ (some 70) rfl rfl Tryd.func28 (by kernel_rfl) rfl #[.int .i64 a0_3] rfl (by (try simp only [List.map_toArray, List.map_cons, List.map_nil]); first | done | rfl | (simp only [List.length_drop, List.length_take]; rfl)) ?_; (with_reducible refine (ins_name.calls a0_3 t142 _ A79.out (GlobOK.step HGL.out (by repeat (first | (with_reducible first | exact HB.out | apply below_alloc | apply pw_below_drewN | apply below_drew1 | refine below_set ?_ GE104.out | refine below_set ?_ GE115.out) | exact HB.out)))).mono ?_); rintro e w83 ⟨rfl, hb⟩; refine ⟨_, rfl, ?_⟩; have n0_ := Aside0.mk (Kd.R_below (by (with_reducible repeat (first | apply Kd.R_alloc | apply Kd.R_drewN | apply Kd.R_drew)); exact HO_4.out) hb); have n1_ := Aside0.mk (blk_below (g := gb104) (o := .cells #[.int .i64 a0_0, .int .i64 a0_1, .int .i64 a0_2, .int .i64 a0_3, .int .i64 a0_4, .int .i64 a0_5, .int .i64 a0_6] 23 (0, 0)) (by (with_reducible repeat (first | refine blk_drewN ?_ _ | refine blk_drew ?_ | refine blk_alloc ?_ _)); exact BK104.out) hb); have n2_ := Aside0.mk (blk_below (g := gb115) (o := .cells #[.string t105, .bool t106, .bool t107, .bool t108, .bool t109, .bool t110, .bool t111, .bool t112, .bool t113, .bool t114] 43 (0, 0)) (by (with_reducible repeat (first | refine blk_drewN ?_ _ | refine blk_drew ?_ | refine blk_alloc ?_ _)); exact BK115.out) hb); have n3_ := Aside0.mk (below_step (by repeat (first | (with_reducible first | exact HB.out | apply below_alloc | apply pw_below_drewN | apply below_drew1 | refine below_set ?_ GE104.out | refine below_set ?_ GE115.out) | exact HB.out)) hb); clear HO_4; clear BK104; clear BK115; clear HB; have HO_4 := n0_; have BK104 := n1_; have BK115 := n2_; have HB := n3_; clear n0_ n1_ n2_ n3_; (try clear hb); (try clear hb2); (try clear hk); (try clear hi)) | ((with_reducible refine gate_builtin (b := .append) (xs := #[.tmp 67, .tmp 71]) rfl ?_); at_builtin; refine Kd.R_append Kd.string (w0 := w) w.heap.size rfl (.tmp 67) (.tmp 71) 51 9 (.string ⟨#[]⟩) 16 rfl Tryd.underlying51 info9 rfl (by decide) (by omega) u4 x4_59 t142 [.string t142] (fun _ => True) (fun _ => False) rfl rfl ?aP (fun _ hk => hk.elim) ?aF ?aO ?aB ?aS ?aL ?_; (case aP => exact rfl); (case aB => exact (by repeat (first | (with_reducible first | exact HB.out | apply below_alloc | apply pw_below_drewN | apply below_drew1 | refine below_set ?_ GE104.out | refine below_set ?_ GE115.out) | exact HB.out))); (case aF => exact (fun _ _ => trivial)); (case aO => exact (by (with_reducible repeat (first | apply Kd.R_alloc | apply Kd.R_drewN | apply Kd.R_drew)); exact HO_4.out)); (case aS => exact (below_size (by repeat (first | (with_reducible first | exact HB.out | apply below_alloc | apply pw_below_drewN | apply below_drew1 | refine below_set ?_ GE104.out | refine below_set ?_ GE115.out) | exact HB.out)))); (case aL => have := LMc80.out; omega); intro v144 w84 ho hb hg hat; rw [← Ny143.out] at ho; have n0_ := Aside0.mk (blk_grown (g := gb104) (o := .cells #[.int .i64 a0_0, .int .i64 a0_1, .int .i64 a0_2, .int .i64 a0_3, .int .i64 a0_4, .int .i64 a0_5, .int .i64 a0_6] 23 (0, 0)) (by (with_reducible repeat (first | refine blk_drewN ?_ _ | refine blk_drew ?_ | refine blk_alloc ?_ _)); exact BK104.out) hg (Kd.R_ne HO_4.out BK104.out (by decide))); have n1_ := Aside0.mk (blk_grown (g := gb115) (o := .cells #[.string t105, .bool t106, .bool t107, .bool t108, .bool t109, .bool t110, .bool t111, .bool t112, .bool t113, .bool t114] 43 (0, 0)) (by (with_reducible repeat (first | refine blk_drewN ?_ _ | refine blk_drew ?_ | refine blk_alloc ?_ _)); exact BK115.out) hg (Kd.R_ne HO_4.out BK115.out (by decide))); have n2_ := Aside0.mk (hb); have n3_ := Aside0.mk (ho); clear BK104; clear BK115; clear HB; clear HO_4; have BK104 := n0_; have BK115 := n1_; have HB := n2_; have HO145 := n3_; clear n0_ n1_ n2_ n3_; clear ho hb hg hat))
                                    go_meet
                                    case rel => exact ⟨_, (y143), H', ⟨by have := HJ2.out; have := HJ19.out; have := HJ25.out; have := HJ33.out; have := HJ49.out; have := HJ59.out; have := HJ69.out; first | omega | exact Nat.le_refl _⟩, ⟨by (with_reducible repeat (first | apply Kd.R_alloc | apply Kd.R_drewN | apply Kd.R_drew)); exact HO145.out⟩, ⟨by (with_reducible repeat (first | refine blk_drewN ?_ _ | refine blk_drew ?_ | refine blk_alloc ?_ _)); exact BK104.out⟩, ⟨by (with_reducible repeat (first | refine blk_drewN ?_ _ | refine blk_drew ?_ | refine blk_alloc ?_ _)); exact BK115.out⟩, ⟨by repeat (first | (with_reducible first | exact HB.out | apply below_alloc | apply pw_below_drewN | apply below_drew1 | refine below_set ?_ GE104.out | refine below_set ?_ GE115.out) | exact HB.out)⟩⟩
                                  · rw [if_neg c80] at H
                                    exact absurd H (by simp)
                                · replace c78 := Bool.eq_false_iff.mpr c78
                                  subst c78
                                  have H1 : (ins_Show.j7 kj69 x4_59 a0_0 a0_1 a0_2 a0_3 a0_4 a0_5 a0_6 t105 t106 t107 t108 t109 t110 t111 t112 t113 t114) = some r := by rw [if_neg (show ¬ (false = true) by decide)] at H; exact H
                                  clear H
                                  have H := H1
                                  clear H1
                                  have H' := Aside0.mk H
                                  clear H
                                  go_wp2
                                  go_meet
                                  case rel => exact ⟨_, (x4_59), H', ⟨by have := HJ2.out; have := HJ19.out; have := HJ25.out; have := HJ33.out; have := HJ49.out; have := HJ59.out; have := HJ69.out; first | omega | exact Nat.le_refl _⟩, ⟨by (with_reducible repeat (first | apply Kd.R_alloc | apply Kd.R_drewN | apply Kd.R_drew)); exact HO_4.out⟩, ⟨by (with_reducible repeat (first | refine blk_drewN ?_ _ | refine blk_drew ?_ | refine blk_alloc ?_ _)); exact BK104.out⟩, ⟨by (with_reducible repeat (first | refine blk_drewN ?_ _ | refine blk_drew ?_ | refine blk_alloc ?_ _)); exact BK115.out⟩, ⟨by repeat (first | (with_reducible first | exact HB.out | apply below_alloc | apply pw_below_drewN | apply below_drew1 | refine below_set ?_ GE104.out | refine below_set ?_ GE115.out) | exact HB.out)⟩⟩
                              case rest =>
                                clear HC77
                                try clear c1
                                try clear c2
                                try clear p2
                                try clear c3
                                try clear c4
                                try clear c5
                                try clear c6
                                try clear c7
                                try clear c8
                                try clear c13
                                try clear c15
                                try clear c16
                                try clear c21
                                try clear c22
                                try clear c24
                                try clear c27
                                try clear c28
                                try clear c29
                                try clear c30
                                try clear c35
                                try clear c37
                                try clear c39
                                try clear c39b0
                                try clear c39b1
                                try clear c40
                                try clear c41
                                try clear c45
                                try clear c46
                                try clear c51
                                try clear c53
                                try clear c55
                                try clear c56
                                try clear c61
                                try clear c63
                                try clear c65
                                try clear c66
                                try clear c71
                                try clear c72
                                try clear c75
                                try clear c78
                                try clear c80
                                try clear c81
                                try clear hcz12_0
                                try clear hcz12_1
                                try clear hcz12_2
                                try clear hcz12_3
                                try clear hcz12_4
                                try clear hcz12_5
                                try clear hcz12_6
                                try clear hcz12_7
                                try clear hcz12_8
                                try clear hcz12_9
                                try clear hcz17_0
                                try clear hcz17_1
                                try clear hcz17_2
                                try clear hcz17_3
                                try clear hcz17_4
                                try clear hcz17_5
                                try clear hcz17_6
                                try clear hcz23_0
                                try clear hcz23_1
                                try clear hcz23_2
                                try clear hcz23_3
                                try clear hcz23_4
                                try clear hcz23_5
                                try clear hcz23_6
                                try clear hcz23_7
                                try clear hcz23_8
                                try clear hcz23_9
                                try clear hcz25_0
                                try clear hcz25_1
                                try clear hcz25_2
                                try clear hcz25_3
                                try clear hcz25_4
                                try clear hcz25_5
                                try clear hcz25_6
                                try clear hcz25_7
                                try clear hcz25_8
                                try clear hcz25_9
                                try clear hcz31_0
                                try clear hcz31_1
                                try clear hcz31_2
                                try clear hcz31_3
                                try clear hcz31_4
                                try clear hcz31_5
                                try clear hcz31_6
                                try clear hcz36_0
                                try clear hcz36_1
                                try clear hcz36_2
                                try clear hcz36_3
                                try clear hcz36_4
                                try clear hcz36_5
                                try clear hcz36_6
                                try clear hcz36_7
                                try clear hcz36_8
                                try clear hcz36_9
                                try clear hcz42_0
                                try clear hcz42_1
                                try clear hcz42_2
                                try clear hcz42_3
                                try clear hcz42_4
                                try clear hcz42_5
                                try clear hcz42_6
                                try clear hcz47_0
                                try clear hcz47_1
                                try clear hcz47_2
                                try clear hcz47_3
                                try clear hcz47_4
                                try clear hcz47_5
                                try clear hcz47_6
                                try clear hcz52_0
                                try clear hcz52_1
                                try clear hcz52_2
                                try clear hcz52_3
                                try clear hcz52_4
                                try clear hcz52_5
                                try clear hcz52_6
                                try clear hcz52_7
                                try clear hcz52_8
                                try clear hcz52_9
                                try clear hcz57_0
                                try clear hcz57_1
                                try clear hcz57_2
                                try clear hcz57_3
                                try clear hcz57_4
                                try clear hcz57_5
                                try clear hcz57_6
                                try clear hcz5_0
                                try clear hcz5_1
                                try clear hcz5_2
                                try clear hcz5_3
                                try clear hcz5_4
                                try clear hcz5_5
                                try clear hcz5_6
                                try clear hcz62_0
                                try clear hcz62_1
                                try clear hcz62_2
                                try clear hcz62_3
                                try clear hcz62_4
                                try clear hcz62_5
                                try clear hcz62_6
                                try clear hcz62_7
                                try clear hcz62_8
                                try clear hcz62_9
                                try clear hcz67_0
                                try clear hcz67_1
                                try clear hcz67_2
                                try clear hcz67_3
                                try clear hcz67_4
                                try clear hcz67_5
                                try clear hcz67_6
                                try clear hcz73_0
                                try clear hcz73_1
                                try clear hcz73_2
                                try clear hcz73_3
                                try clear hcz73_4
                                try clear hcz73_5
                                try clear hcz73_6
                                try clear hcz73_7
                                try clear hcz73_8
                                try clear hcz73_9
                                try clear hcz74_0
                                try clear hcz74_1
                                try clear hcz74_2
                                try clear hcz74_3
                                try clear hcz74_4
                                try clear hcz74_5
                                try clear hcz74_6
                                try clear hcz76_0
                                try clear hcz76_1
                                try clear hcz76_2
                                try clear hcz76_3
                                try clear hcz76_4
                                try clear hcz76_5
                                try clear hcz76_6
                                try clear hcz76_7
                                try clear hcz76_8
                                try clear hcz76_9
                                try clear hcz82_0
                                try clear hcz82_1
                                try clear hcz82_2
                                try clear hcz82_3
                                try clear hcz82_4
                                try clear hcz82_5
                                try clear hcz82_6
                                try clear hcz9_0
                                try clear hcz9_1
                                try clear hcz9_2
                                try clear hcz9_3
                                try clear hcz9_4
                                try clear hcz9_5
                                try clear hcz9_6
                                try clear hcz9_7
                                try clear hcz9_8
                                try clear hcz9_9
                                try clear hfz12_0
                                try clear hfz12_1
                                try clear hfz12_2
                                try clear hfz12_3
                                try clear hfz12_4
                                try clear hfz12_5
                                try clear hfz12_6
                                try clear hfz12_7
                                try clear hfz12_8
                                try clear hfz12_9
                                try clear hfz17_0
                                try clear hfz17_1
                                try clear hfz17_2
                                try clear hfz17_3
                                try clear hfz17_4
                                try clear hfz17_5
                                try clear hfz17_6
                                try clear hfz23_0
                                try clear hfz23_1
                                try clear hfz23_2
                                try clear hfz23_3
                                try clear hfz23_4
                                try clear hfz23_5
                                try clear hfz23_6
                                try clear hfz23_7
                                try clear hfz23_8
                                try clear hfz23_9
                                try clear hfz25_0
                                try clear hfz25_1
                                try clear hfz25_2
                                try clear hfz25_3
                                try clear hfz25_4
                                try clear hfz25_5
                                try clear hfz25_6
                                try clear hfz25_7
                                try clear hfz25_8
                                try clear hfz25_9
                                try clear hfz31_0
                                try clear hfz31_1
                                try clear hfz31_2
                                try clear hfz31_3
                                try clear hfz31_4
                                try clear hfz31_5
                                try clear hfz31_6
                                try clear hfz36_0
                                try clear hfz36_1
                                try clear hfz36_2
                                try clear hfz36_3
                                try clear hfz36_4
                                try clear hfz36_5
                                try clear hfz36_6
                                try clear hfz36_7
                                try clear hfz36_8
                                try clear hfz36_9
                                try clear hfz42_0
                                try clear hfz42_1
                                try clear hfz42_2
                                try clear hfz42_3
                                try clear hfz42_4
                                try clear hfz42_5
                                try clear hfz42_6
                                try clear hfz47_0
                                try clear hfz47_1
                                try clear hfz47_2
                                try clear hfz47_3
                                try clear hfz47_4
                                try clear hfz47_5
                                try clear hfz47_6
                                try clear hfz52_0
                                try clear hfz52_1
                                try clear hfz52_2
                                try clear hfz52_3
                                try clear hfz52_4
                                try clear hfz52_5
                                try clear hfz52_6
                                try clear hfz52_7
                                try clear hfz52_8
                                try clear hfz52_9
                                try clear hfz57_0
                                try clear hfz57_1
                                try clear hfz57_2
                                try clear hfz57_3
                                try clear hfz57_4
                                try clear hfz57_5
                                try clear hfz57_6
                                try clear hfz5_0
                                try clear hfz5_1
                                try clear hfz5_2
                                try clear hfz5_3
                                try clear hfz5_4
                                try clear hfz5_5
                                try clear hfz5_6
                                try clear hfz62_0
                                try clear hfz62_1
                                try clear hfz62_2
                                try clear hfz62_3
                                try clear hfz62_4
                                try clear hfz62_5
                                try clear hfz62_6
                                try clear hfz62_7
                                try clear hfz62_8
                                try clear hfz62_9
                                try clear hfz67_0
                                try clear hfz67_1
                                try clear hfz67_2
                                try clear hfz67_3
                                try clear hfz67_4
                                try clear hfz67_5
                                try clear hfz67_6
                                try clear hfz73_0
                                try clear hfz73_1
                                try clear hfz73_2
                                try clear hfz73_3
                                try clear hfz73_4
                                try clear hfz73_5
                                try clear hfz73_6
                                try clear hfz73_7
                                try clear hfz73_8
                                try clear hfz73_9
                                try clear hfz74_0
                                try clear hfz74_1
                                try clear hfz74_2
                                try clear hfz74_3
                                try clear hfz74_4
                                try clear hfz74_5
                                try clear hfz74_6
                                try clear hfz76_0
                                try clear hfz76_1
                                try clear hfz76_2
                                try clear hfz76_3
                                try clear hfz76_4
                                try clear hfz76_5
                                try clear hfz76_6
                                try clear hfz76_7
                                try clear hfz76_8
                                try clear hfz76_9
                                try clear hfz82_0
                                try clear hfz82_1
                                try clear hfz82_2
                                try clear hfz82_3
                                try clear hfz82_4
                                try clear hfz82_5
                                try clear hfz82_6
                                try clear hfz9_0
                                try clear hfz9_1
                                try clear hfz9_2
                                try clear hfz9_3
                                try clear hfz9_4
                                try clear hfz9_5
                                try clear hfz9_6
                                try clear hfz9_7
                                try clear hfz9_8
                                try clear hfz9_9
                                try clear p2
                                obtain ⟨kq, x4_76, HA, HJ76, HO_4, BK104, BK115, HB⟩ := hcut
                                cases kq with
                                | zero => exact absurd HA.out (by simp [ins_Show.j7])
                                | succ kj76 =>
                                  have H := HA.out
                                  clear HA
                                  simp only [ins_Show.j7] at H
                                  by_cases c85 : t111 = true
                                  · subst c85
                                    have H1 : ((calc_Digits.f a0_6).bind fun t146 => (if x4_76.length < 8796093022208 then ((strings_Join.f (x4_76 ++ [t146]) (⟨#[32]⟩ : ByteArray)).bind fun t150 => (some t150)) else (none))) = some r := by rw [if_pos rfl] at H; exact H
                                    clear H
                                    have H := H1
                                    clear H1
                                    replace H := Option.bind_eq_some_iff.mp H
                                    obtain ⟨t146, A860, H⟩ := H
                                    replace H : (if x4_76.length < 8796093022208 then ((strings_Join.f (x4_76 ++ [t146]) (⟨#[32]⟩ : ByteArray)).bind fun t150 => (some t150)) else (none)) = some r := H
                                    have A86 := Aside0.mk A860
                                    clear A860
                                    by_cases c87 : x4_76.length < 8796093022208
                                    · rw [if_pos c87] at H
                                      have LMc87 := Aside0.mk c87
                                      clear c87
                                      obtain ⟨y147, hy147⟩ : ∃ y_ : List ByteArray, y_ = (x4_76 ++ [t146]) := ⟨_, rfl⟩
                                      replace H : ((strings_Join.f y147 (⟨#[32]⟩ : ByteArray)).bind fun t150 => (some t150)) = some r := by first | (rw [hy147]; with_reducible exact H) | (have H2_ := (Option.bind_some _ _).symm.trans H; rw [hy147]; with_reducible exact H2_) | (have H2_ := (Option.bind_some _ _).symm.trans H; with_reducible exact H2_) | with_reducible exact H | (rw [hy147]; exact H) | exact H
                                      have Ny147 := Aside0.mk hy147
                                      clear hy147
                                      replace H := Option.bind_eq_some_iff.mp H
                                      obtain ⟨t150, A880, H⟩ := H
                                      replace H : (some t150) = some r := H
                                      have A88 := Aside0.mk A880
                                      clear A880
                                      obtain rfl := Option.some.inj H
                                      have hnb89 := NB115_104.out
                                      have hnc89 := NB104_115.out
                                      have hcz90_0 : wc.cell? ⟨gb115, 0, none⟩ = some (.string t105) := (blk_cell BK115.out 0).trans rfl
                                      have hcz90_1 : wc.cell? ⟨gb115, 1, none⟩ = some (.bool t106) := (blk_cell BK115.out 1).trans rfl
                                      have hcz90_2 : wc.cell? ⟨gb115, 2, none⟩ = some (.bool t107) := (blk_cell BK115.out 2).trans rfl
                                      have hcz90_3 : wc.cell? ⟨gb115, 3, none⟩ = some (.bool t108) := (blk_cell BK115.out 3).trans rfl
                                      have hcz90_4 : wc.cell? ⟨gb115, 4, none⟩ = some (.bool t109) := (blk_cell BK115.out 4).trans rfl
                                      have hcz90_5 : wc.cell? ⟨gb115, 5, none⟩ = some (.bool t110) := (blk_cell BK115.out 5).trans rfl
                                      have hcz90_6 : wc.cell? ⟨gb115, 6, none⟩ = some (.bool true) := (blk_cell BK115.out 6).trans rfl
                                      have hcz90_7 : wc.cell? ⟨gb115, 7, none⟩ = some (.bool t112) := (blk_cell BK115.out 7).trans rfl
                                      have hcz90_8 : wc.cell? ⟨gb115, 8, none⟩ = some (.bool t113) := (blk_cell BK115.out 8).trans rfl
                                      have hcz90_9 : wc.cell? ⟨gb115, 9, none⟩ = some (.bool t114) := (blk_cell BK115.out 9).trans rfl
                                      have hfz90_0 := blk_frozen BK115.out 0
                                      have hfz90_1 := blk_frozen BK115.out 1
                                      have hfz90_2 := blk_frozen BK115.out 2
                                      have hfz90_3 := blk_frozen BK115.out 3
                                      have hfz90_4 := blk_frozen BK115.out 4
                                      have hfz90_5 := blk_frozen BK115.out 5
                                      have hfz90_6 := blk_frozen BK115.out 6
                                      have hfz90_7 := blk_frozen BK115.out 7
                                      have hfz90_8 := blk_frozen BK115.out 8
                                      have hfz90_9 := blk_frozen BK115.out 9
                                      have hcz91_0 : wc.cell? ⟨gb104, 0, none⟩ = some (.int .i64 a0_0) := (blk_cell BK104.out 0).trans rfl
                                      have hcz91_1 : wc.cell? ⟨gb104, 1, none⟩ = some (.int .i64 a0_1) := (blk_cell BK104.out 1).trans rfl
                                      have hcz91_2 : wc.cell? ⟨gb104, 2, none⟩ = some (.int .i64 a0_2) := (blk_cell BK104.out 2).trans rfl
                                      have hcz91_3 : wc.cell? ⟨gb104, 3, none⟩ = some (.int .i64 a0_3) := (blk_cell BK104.out 3).trans rfl
                                      have hcz91_4 : wc.cell? ⟨gb104, 4, none⟩ = some (.int .i64 a0_4) := (blk_cell BK104.out 4).trans rfl
                                      have hcz91_5 : wc.cell? ⟨gb104, 5, none⟩ = some (.int .i64 a0_5) := (blk_cell BK104.out 5).trans rfl
                                      have hcz91_6 : wc.cell? ⟨gb104, 6, none⟩ = some (.int .i64 a0_6) := (blk_cell BK104.out 6).trans rfl
                                      have hfz91_0 := blk_frozen BK104.out 0
                                      have hfz91_1 := blk_frozen BK104.out 1
                                      have hfz91_2 := blk_frozen BK104.out 2
                                      have hfz91_3 := blk_frozen BK104.out 3
                                      have hfz91_4 := blk_frozen BK104.out 4
                                      have hfz91_5 := blk_frozen BK104.out 5
                                      have hfz91_6 := blk_frozen BK104.out 6
                                      go_wp2_with (first | ((with_reducible refine gate_callee (f := 30) rfl ?_); refine goesL_ (some 78) rfl rfl Tryd.func30 (by kernel_rfl) rfl #[.int .i64 a0_6] rfl (by (try simp only [List.map_toArray, List.map_cons, List.map_nil]); first | done | rfl | (simp only [List.length_drop, List.length_take]; rfl)) ?_; (with_reducible refine (calc_Digits.calls a0_6 t146 _ A86.out (GlobOK.step HGL.out (by repeat (first | (with_reducible first | exact HB.out | apply below_alloc | apply pw_below_drewN | apply below_drew1 | refine below_set ?_ GE104.out | refine below_set ?_ GE115.out) | exact HB.out)))).mono ?_); rintro e w92 ⟨rfl, hb⟩; refine ⟨_, rfl, ?_⟩; have n0_ := Aside0.mk (Kd.R_below (by (with_reducible repeat (first | apply Kd.R_alloc | apply Kd.R_drewN | apply Kd.R_drew)); exact HO_4.out) hb); have n1_ := Aside0.mk (blk_below (g := gb104) (o := .cells #[.int .i64 a0_0, .int .i64 a0_1, .int .i64 a0_2, .int .i64 a0_3, .int .i64 a0_4, .int .i64 a0_5, .int .i64 a0_6] 23 (0, 0)) (by (with_reducible repeat (first | refine blk_drewN ?_ _ | refine blk_drew ?_ | refine blk_alloc ?_ _)); exact BK104.out) hb); have n2_ := Aside0.mk (blk_below (g := gb115) (o := .cells #[.string t105, .bool t106, .bool t107, .bool t108, .bool t109, .bool t110, .bool true, .bool t112, .bool t113, .bool t114] 43 (0, 0)) (by (with_reducible repeat (first | refine blk_drewN ?_ _ | refine blk_drew ?_ | refine blk_alloc ?_ _)); exact BK115.out) hb); have n3_ := Aside0.mk (below_step (by repeat (first | (with_reducible first | exact HB.out | apply below_alloc | apply pw_below_drewN | apply below_drew1 | refine below_set ?_ GE104.out | refine below_set ?_ GE115.out) | exact HB.out)) hb); clear HO_4; clear BK104; clear BK115; clear HB; have HO_4 := n0_; have BK104 := n1_; have BK115 := n2_; have HB := n3_; clear n0_ n1_ n2_ n3_; (try clear hb); (try clear hb2); (try clear hk); (try clear hi)) | ((with_reducible refine gate_builtin (b := .append) (xs := #[.tmp 75, .tmp 79]) rfl ?_); at_builtin; refine Kd.R_append Kd.string (w0 := w) w.heap.size rfl (.tmp 75) (.tmp 79) 51 9 (.string ⟨#[]⟩) 16 rfl Tryd.underlying51 info9 rfl (by decide) (by omega) u4 x4_76 t146 [.string t146] (fun _ => True) (fun _ => False) rfl rfl ?aP (fun _ hk => hk.elim) ?aF ?aO ?aB ?aS ?aL ?_; (case aP => exact rfl); (case aB => exact (by repeat (first | (with_reducible first | exact HB.out | apply below_alloc | apply pw_below_drewN | apply below_drew1 | refine below_set ?_ GE104.out | refine below_set ?_ GE115.out) | exact HB.out))); (case aF => exact (fun _ _ => trivial)); (case aO => exact (by (with_reducible repeat (first | apply Kd.R_alloc | apply Kd.R_drewN | apply Kd.R_drew)); exact HO_4.out)); (case aS => exact (below_size (by repeat (first | (with_reducible first | exact HB.out | apply below_alloc | apply pw_below_drewN | apply below_drew1 | refine below_set ?_ GE104.out | refine below_set ?_ GE115.out) | exact HB.out)))); (case aL => have := LMc87.out; omega); intro v148 w93 ho hb hg hat; rw [← Ny147.out] at ho; have n0_ := Aside0.mk (blk_grown (g := gb104) (o := .cells #[.int .i64 a0_0, .int .i64 a0_1, .int .i64 a0_2, .int .i64 a0_3, .int .i64 a0_4, .int .i64 a0_5, .int .i64 a0_6] 23 (0, 0)) (by (with_reducible repeat (first | refine blk_drewN ?_ _ | refine blk_drew ?_ | refine blk_alloc ?_ _)); exact BK104.out) hg (Kd.R_ne HO_4.out BK104.out (by decide))); have n1_ := Aside0.mk (blk_grown (g := gb115) (o := .cells #[.string t105, .bool t106, .bool t107, .bool t108, .bool t109, .bool t110, .bool true, .bool t112, .bool t113, .bool t114] 43 (0, 0)) (by (with_reducible repeat (first | refine blk_drewN ?_ _ | refine blk_drew ?_ | refine blk_alloc ?_ _)); exact BK115.out) hg (Kd.R_ne HO_4.out BK115.out (by decide))); have n2_ := Aside0.mk (hb); have n3_ := Aside0.mk (ho); clear BK104; clear BK115; clear HB; clear HO_4; have BK104 := n0_; have BK115 := n1_; have HB := n2_; have HO149 := n3_; clear n0_ n1_ n2_ n3_; clear ho hb hg hat; obtain ⟨Ao94, co94, eo94⟩ := Kd.R_slice HO149.out; subst eo94) | ((with_reducible refine gate_callee (f := 31) rfl ?_); refine goesL_ (some 82) rfl rfl Tryd.func31 (by kernel_rfl) rfl #[.slice Ao94 y147.length co94, .string (⟨#[32]⟩ : ByteArray)] rfl (by (try simp only [List.map_toArray, List.map_cons, List.map_nil]); first | done | rfl | (simp only [List.length_drop, List.length_take]; rfl)) ?_; (with_reducible refine (strings_Join.calls _ _ y147 (⟨#[32]⟩ : ByteArray) t150 _ ?side1 ?side2 A88.out).mono ?_); (case side1 => repeat (first | exact (Kd.R_reads' HO149.out).2.2 | (with_reducible refine Kd.C_alloc ?_ _) | (with_reducible refine Kd.C_drewN ?_ _) | (with_reducible refine Kd.C_drew ?_))); (case side2 => exact (Kd.R_reads' HO149.out).2.1); rintro e w95 ⟨rfl, hb⟩; refine ⟨_, rfl, ?_⟩; have n0_ := Aside0.mk (Kd.R_below (by (with_reducible repeat (first | apply Kd.R_alloc | apply Kd.R_drewN | apply Kd.R_drew)); exact HO149.out) hb); have n1_ := Aside0.mk (blk_below (g := gb104) (o := .cells #[.int .i64 a0_0, .int .i64 a0_1, .int .i64 a0_2, .int .i64 a0_3, .int .i64 a0_4, .int .i64 a0_5, .int .i64 a0_6] 23 (0, 0)) (by (with_reducible repeat (first | refine blk_drewN ?_ _ | refine blk_drew ?_ | refine blk_alloc ?_ _)); exact BK104.out) hb); have n2_ := Aside0.mk (blk_below (g := gb115) (o := .cells #[.string t105, .bool t106, .bool t107, .bool t108, .bool t109, .bool t110, .bool true, .bool t112, .bool t113, .bool t114] 43 (0, 0)) (by (with_reducible repeat (first | refine blk_drewN ?_ _ | refine blk_drew ?_ | refine blk_alloc ?_ _)); exact BK115.out) hb); have n3_ := Aside0.mk (below_step (by repeat (first | (with_reducible first | exact HB.out | apply below_alloc | apply pw_below_drewN | apply below_drew1 | refine below_set ?_ GE104.out | refine below_set ?_ GE115.out) | exact HB.out)) hb); clear HO149; clear BK104; clear BK115; clear HB; have HO149 := n0_; have BK104 := n1_; have BK115 := n2_; have HB := n3_; clear n0_ n1_ n2_ n3_; (try clear hb); (try clear hb2); (try clear hk); (try clear hi)))
                                      go_ret
                                      exact ⟨by first | rfl | (simp [errW_none, errW_some] <;> rfl) | (simp [*, errW_none, errW_some] <;> rfl), by repeat (first | (with_reducible first | exact HB.out | apply below_alloc | apply pw_below_drewN | apply below_drew1 | refine below_set ?_ GE104.out | refine below_set ?_ GE115.out) | exact HB.out)⟩
                                    · rw [if_neg c87] at H
                                      exact absurd H (by simp)
                                  · replace c85 := Bool.eq_false_iff.mpr c85
                                    subst c85
                                    have H1 : ((strings_Join.f x4_76 (⟨#[32]⟩ : ByteArray)).bind fun t151 => (some t151)) = some r := by rw [if_neg (show ¬ (false = true) by decide)] at H; exact H
                                    clear H
                                    have H := H1
                                    clear H1
                                    replace H := Option.bind_eq_some_iff.mp H
                                    obtain ⟨t151, A960, H⟩ := H
                                    replace H : (some t151) = some r := H
                                    have A96 := Aside0.mk A960
                                    clear A960
                                    obtain rfl := Option.some.inj H
                                    have hnb97 := NB115_104.out
                                    have hnc97 := NB104_115.out
                                    have hcz98_0 : wc.cell? ⟨gb115, 0, none⟩ = some (.string t105) := (blk_cell BK115.out 0).trans rfl
                                    have hcz98_1 : wc.cell? ⟨gb115, 1, none⟩ = some (.bool t106) := (blk_cell BK115.out 1).trans rfl
                                    have hcz98_2 : wc.cell? ⟨gb115, 2, none⟩ = some (.bool t107) := (blk_cell BK115.out 2).trans rfl
                                    have hcz98_3 : wc.cell? ⟨gb115, 3, none⟩ = some (.bool t108) := (blk_cell BK115.out 3).trans rfl
                                    have hcz98_4 : wc.cell? ⟨gb115, 4, none⟩ = some (.bool t109) := (blk_cell BK115.out 4).trans rfl
                                    have hcz98_5 : wc.cell? ⟨gb115, 5, none⟩ = some (.bool t110) := (blk_cell BK115.out 5).trans rfl
                                    have hcz98_6 : wc.cell? ⟨gb115, 6, none⟩ = some (.bool false) := (blk_cell BK115.out 6).trans rfl
                                    have hcz98_7 : wc.cell? ⟨gb115, 7, none⟩ = some (.bool t112) := (blk_cell BK115.out 7).trans rfl
                                    have hcz98_8 : wc.cell? ⟨gb115, 8, none⟩ = some (.bool t113) := (blk_cell BK115.out 8).trans rfl
                                    have hcz98_9 : wc.cell? ⟨gb115, 9, none⟩ = some (.bool t114) := (blk_cell BK115.out 9).trans rfl
                                    have hfz98_0 := blk_frozen BK115.out 0
                                    have hfz98_1 := blk_frozen BK115.out 1
                                    have hfz98_2 := blk_frozen BK115.out 2
                                    have hfz98_3 := blk_frozen BK115.out 3
                                    have hfz98_4 := blk_frozen BK115.out 4
                                    have hfz98_5 := blk_frozen BK115.out 5
                                    have hfz98_6 := blk_frozen BK115.out 6
                                    have hfz98_7 := blk_frozen BK115.out 7
                                    have hfz98_8 := blk_frozen BK115.out 8
                                    have hfz98_9 := blk_frozen BK115.out 9
                                    obtain ⟨Ao99, co99, eo99⟩ := Kd.R_slice HO_4.out
                                    subst eo99
                                    go_wp2_with (first | ((with_reducible refine gate_callee (f := 31) rfl ?_); refine goesL_ (some 82) rfl rfl Tryd.func31 (by kernel_rfl) rfl #[.slice Ao99 x4_76.length co99, .string (⟨#[32]⟩ : ByteArray)] rfl (by (try simp only [List.map_toArray, List.map_cons, List.map_nil]); first | done | rfl | (simp only [List.length_drop, List.length_take]; rfl)) ?_; (with_reducible refine (strings_Join.calls _ _ x4_76 (⟨#[32]⟩ : ByteArray) t151 _ ?side1 ?side2 A96.out).mono ?_); (case side1 => repeat (first | exact (Kd.R_reads' HO_4.out).2.2 | (with_reducible refine Kd.C_alloc ?_ _) | (with_reducible refine Kd.C_drewN ?_ _) | (with_reducible refine Kd.C_drew ?_))); (case side2 => exact (Kd.R_reads' HO_4.out).2.1); rintro e w100 ⟨rfl, hb⟩; refine ⟨_, rfl, ?_⟩; have n0_ := Aside0.mk (Kd.R_below (by (with_reducible repeat (first | apply Kd.R_alloc | apply Kd.R_drewN | apply Kd.R_drew)); exact HO_4.out) hb); have n1_ := Aside0.mk (blk_below (g := gb104) (o := .cells #[.int .i64 a0_0, .int .i64 a0_1, .int .i64 a0_2, .int .i64 a0_3, .int .i64 a0_4, .int .i64 a0_5, .int .i64 a0_6] 23 (0, 0)) (by (with_reducible repeat (first | refine blk_drewN ?_ _ | refine blk_drew ?_ | refine blk_alloc ?_ _)); exact BK104.out) hb); have n2_ := Aside0.mk (blk_below (g := gb115) (o := .cells #[.string t105, .bool t106, .bool t107, .bool t108, .bool t109, .bool t110, .bool false, .bool t112, .bool t113, .bool t114] 43 (0, 0)) (by (with_reducible repeat (first | refine blk_drewN ?_ _ | refine blk_drew ?_ | refine blk_alloc ?_ _)); exact BK115.out) hb); have n3_ := Aside0.mk (below_step (by repeat (first | (with_reducible first | exact HB.out | apply below_alloc | apply pw_below_drewN | apply below_drew1 | refine below_set ?_ GE104.out | refine below_set ?_ GE115.out) | exact HB.out)) hb); clear HO_4; clear BK104; clear BK115; clear HB; have HO_4 := n0_; have BK104 := n1_; have BK115 := n2_; have HB := n3_; clear n0_ n1_ n2_ n3_; (try clear hb); (try clear hb2); (try clear hk); (try clear hi)))
                                    go_ret
                                    exact ⟨by first | rfl | (simp [errW_none, errW_some] <;> rfl) | (simp [*, errW_none, errW_some] <;> rfl), by repeat (first | (with_reducible first | exact HB.out | apply below_alloc | apply pw_below_drewN | apply below_drew1 | refine below_set ?_ GE104.out | refine below_set ?_ GE115.out) | exact HB.out)⟩

end Go.Proofs.YtggfikekggcclaaDoor.PInsTells
