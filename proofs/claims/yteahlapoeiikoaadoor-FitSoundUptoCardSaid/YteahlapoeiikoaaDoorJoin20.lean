/- Several texts, one behind the other. -/
import Derived.Test.YteahlapoeiikoaaDoorJoin11
import Derived.Test.YteahlapoeiikoaaDoorJoin19
import Derived.Test.YteahlapoeiikoaaDoorJoin12


-- Printed by a program of this session (wip/myprint.py over the kit's print).
namespace Go.Proofs.YteahlapoeiikoaaDoor.P
open Go.RowKit Go.Proofs.YteahlapoeiikoaaDoorW.PrintWords Go.Proofs.YteahlapoeiikoaaDoorW.PrintLast Go.Proofs.YteahlapoeiikoaaDoorW.PrintMore
attribute [local go_sem] max2_int min2_int max_two min_two max_three min_three max_four min_four   -- for this text's walks alone
set_option linter.unusedVariables false
set_option linter.unusedSimpArgs false

/-! ### decanterlaw21_FitIn: function 4 -/
mutual
def decanterlaw21_FitIn.j0 : Nat → List ByteArray → ByteArray → Bool → Option (Bool)
  | 0, _, _, _ => none
  | k + 1, x0, x1, x18 => if x18 = true then ((decanterlaw21_speaks.f k).bind fun t174 => (some t174)) else ((some (([x1, (⟨#[112]⟩ : ByteArray), (⟨#[108, 105]⟩ : ByteArray), (⟨#[100, 100]⟩ : ByteArray), (⟨#[100, 116]⟩ : ByteArray), (⟨#[97]⟩ : ByteArray), (⟨#[104, 50]⟩ : ByteArray), (⟨#[100, 105, 118]⟩ : ByteArray), (⟨#[98]⟩ : ByteArray), (⟨#[104, 114]⟩ : ByteArray)] : List ByteArray) : List ByteArray)).bind fun y175 => (decanterlaw21_FitIn.l0 k x0 y175 (y175.length : Int) 0))
def decanterlaw21_FitIn.l0 : Nat → List ByteArray → List ByteArray → Int → Int → Option (Bool)
  | 0, _, _, _, _ => none
  | k + 1, x0, x21, x22, x23 => if x23 < x22 then (if 0 ≤ x23 then (if x23 < (x21.length : Int) then ((fit_In.f k x0 (rdOf ByteArray.empty x21 x23)).bind fun t179 => ((decanterref21_In.f k x0 (rdOf ByteArray.empty x21 x23)).bind fun t180 => (if (t179 != t180) = true then (some false) else (decanterlaw21_FitIn.l0 k x0 x21 x22 (wrap64 (x23 + 1)))))) else (none)) else (none)) else (some true)
end
def decanterlaw21_FitIn.f (k : Nat) (l0 : List ByteArray) (a1 : ByteArray) : Option (Bool) := (decanterlaw21_speaks.f k).bind fun t173 => (if t173 = true then (if (l0.length : Int) > 40 then (decanterlaw21_FitIn.j0 k l0 a1 true) else (decanterlaw21_FitIn.j0 k l0 a1 (decide ((a1.size : Int) > 60)))) else (decanterlaw21_FitIn.j0 k l0 a1 true))
theorem decanterlaw21_FitIn.mono_l : ∀ k, (∀ y0 y1 y2, LeO (decanterlaw21_FitIn.j0 k y0 y1 y2) (decanterlaw21_FitIn.j0 (k + 1) y0 y1 y2)) ∧ (∀ y0 y1 y2 y3, LeO (decanterlaw21_FitIn.l0 k y0 y1 y2 y3) (decanterlaw21_FitIn.l0 (k + 1) y0 y1 y2 y3))
  | 0 => ⟨fun _ _ _ r h => by simp [decanterlaw21_FitIn.j0] at h, fun _ _ _ _ r h => by simp [decanterlaw21_FitIn.l0] at h⟩
  | k + 1 => by
    obtain ⟨ih0, ih1⟩ := decanterlaw21_FitIn.mono_l k
    refine ⟨?_, ?_⟩
    · intro y0 y1 y2
      unfold decanterlaw21_FitIn.j0
      repeat' first
      | (with_reducible exact ih0 _ _ _)
      | (with_reducible exact ih1 _ _ _ _)
      | (with_reducible exact decanterlaw21_speaks.mono _)
      | (with_reducible exact decanterref21_In.mono _ _ _)
      | (with_reducible exact fit_In.mono _ _ _)
      | (with_reducible exact LeO.refl _)
      | (with_reducible exact LeO.none _)
      | (with_reducible refine LeO.ite ?_ ?_)
      | (with_reducible refine LeO.bind ?_ (fun _ => ?_))
      | exact ih0 _ _ _
      | exact ih1 _ _ _ _
      | exact decanterlaw21_speaks.mono _
      | exact decanterref21_In.mono _ _ _
      | exact fit_In.mono _ _ _
      | exact LeO.none _
      | refine LeO.ite ?_ ?_
      | refine LeO.bind ?_ (fun _ => ?_)
    · intro y0 y1 y2 y3
      unfold decanterlaw21_FitIn.l0
      repeat' first
      | (with_reducible exact ih0 _ _ _)
      | (with_reducible exact ih1 _ _ _ _)
      | (with_reducible exact decanterlaw21_speaks.mono _)
      | (with_reducible exact decanterref21_In.mono _ _ _)
      | (with_reducible exact fit_In.mono _ _ _)
      | (with_reducible exact LeO.refl _)
      | (with_reducible exact LeO.none _)
      | (with_reducible refine LeO.ite ?_ ?_)
      | (with_reducible refine LeO.bind ?_ (fun _ => ?_))
      | exact ih0 _ _ _
      | exact ih1 _ _ _ _
      | exact decanterlaw21_speaks.mono _
      | exact decanterref21_In.mono _ _ _
      | exact fit_In.mono _ _ _
      | exact LeO.none _
      | refine LeO.ite ?_ ?_
      | refine LeO.bind ?_ (fun _ => ?_)
theorem decanterlaw21_FitIn.mono : ∀ a0 a1 k, LeO (decanterlaw21_FitIn.f k a0 a1) (decanterlaw21_FitIn.f (k + 1) a0 a1) := by
  intro a0 a1 k
  obtain ⟨ih0, ih1⟩ := decanterlaw21_FitIn.mono_l k
  unfold decanterlaw21_FitIn.f
  repeat' first
      | (with_reducible exact ih0 _ _ _)
      | (with_reducible exact ih1 _ _ _ _)
      | (with_reducible exact decanterlaw21_speaks.mono _)
      | (with_reducible exact decanterref21_In.mono _ _ _)
      | (with_reducible exact fit_In.mono _ _ _)
      | (with_reducible exact LeO.refl _)
      | (with_reducible exact LeO.none _)
      | (with_reducible refine LeO.ite ?_ ?_)
      | (with_reducible refine LeO.bind ?_ (fun _ => ?_))
      | exact ih0 _ _ _
      | exact ih1 _ _ _ _
      | exact decanterlaw21_speaks.mono _
      | exact decanterref21_In.mono _ _ _
      | exact fit_In.mono _ _ _
      | exact LeO.none _
      | refine LeO.ite ?_ ?_
      | refine LeO.bind ?_ (fun _ => ?_)
end Go.Proofs.YteahlapoeiikoaaDoor.P


-- Printed by a program of this session (wip/myprint.py over the kit's print).
namespace Go.Proofs.YteahlapoeiikoaaDoor.P
open Go.RowKit Go.Proofs.YteahlapoeiikoaaDoorW.PrintWords Go.Proofs.YteahlapoeiikoaaDoorW.PrintLast Go.Proofs.YteahlapoeiikoaaDoorW.PrintMore
attribute [local go_sem] max2_int min2_int max_two min_two max_three min_three max_four min_four   -- for this text's walks alone
set_option linter.unusedVariables false
set_option linter.unusedSimpArgs false

/-! ### decanterlaw21_FitOuter: function 5 -/
mutual
def decanterlaw21_FitOuter.j0 : Nat → List ByteArray → List ByteArray → ByteArray → Bool → Option (Bool)
  | 0, _, _, _, _ => none
  | k + 1, x0, x1, x2, x24 => if x24 = true then ((decanterlaw21_speaks.f k).bind fun t182 => (some t182)) else ((some (([] : List ByteArray) : List ByteArray)).bind fun y183 => (if y183.length + x0.length < 8796093022208 then ((some (y183 ++ x0 : List ByteArray)).bind fun y186 => (if y186.length < 8796093022208 then ((some (y186 ++ [(⟨#[112]⟩ : ByteArray)] : List ByteArray)).bind fun y189 => (if y189.length + x1.length < 8796093022208 then ((some (y189 ++ x1 : List ByteArray)).bind fun y192 => ((decanterref11_Is.f k x2 1).bind fun t195 => (if t195 = true then ((fit_In.f k y192 x2).bind fun t196 => (decanterlaw21_FitOuter.j1 k x0 x1 x2 y192 t196)) else (decanterlaw21_FitOuter.j1 k x0 x1 x2 y192 false)))) else (none))) else (none))) else (none)))
def decanterlaw21_FitOuter.j1 : Nat → List ByteArray → List ByteArray → ByteArray → List ByteArray → Bool → Option (Bool)
  | 0, _, _, _, _, _ => none
  | k + 1, x0, x1, x2, x7, x39 => if x39 = true then (some false) else ((decanterref11_Is.f k x2 1).bind fun t197 => (if t197 = true then (decanterlaw21_FitOuter.j2 k x0 x1 x2 false) else (if x2.toList = ([97] : List UInt8) then (decanterlaw21_FitOuter.j2 k x0 x1 x2 false) else ((fit_In.f k x7 x2).bind fun t198 => (decanterlaw21_FitOuter.j2 k x0 x1 x2 (!t198))))))
def decanterlaw21_FitOuter.j2 : Nat → List ByteArray → List ByteArray → ByteArray → Bool → Option (Bool)
  | 0, _, _, _, _ => none
  | k + 1, x0, x1, x2, x52 => if x52 = true then (some false) else ((some (([] : List ByteArray) : List ByteArray)).bind fun y199 => (if y199.length + x0.length < 8796093022208 then ((some (y199 ++ x0 : List ByteArray)).bind fun y202 => (if y202.length < 8796093022208 then ((some (y202 ++ [(⟨#[97]⟩ : ByteArray)] : List ByteArray)).bind fun y205 => (if y205.length + x1.length < 8796093022208 then ((fit_In.f k (y205 ++ x1) (⟨#[97]⟩ : ByteArray)).bind fun t211 => (if t211 = true then (some false) else ((fit_In.f k ([] : List ByteArray) x2).bind fun t212 => (some t212)))) else (none))) else (none))) else (none)))
end
def decanterlaw21_FitOuter.f (k : Nat) (l0 : List ByteArray) (l1 : List ByteArray) (a2 : ByteArray) : Option (Bool) := (decanterlaw21_speaks.f k).bind fun t181 => (if t181 = true then (if (l0.length : Int) > 20 then (decanterlaw21_FitOuter.j0 k l0 l1 a2 true) else (if (l1.length : Int) > 20 then (decanterlaw21_FitOuter.j0 k l0 l1 a2 true) else (decanterlaw21_FitOuter.j0 k l0 l1 a2 (decide ((a2.size : Int) > 60))))) else (decanterlaw21_FitOuter.j0 k l0 l1 a2 true))
theorem decanterlaw21_FitOuter.mono_l : ∀ k, (∀ y0 y1 y2 y3, LeO (decanterlaw21_FitOuter.j0 k y0 y1 y2 y3) (decanterlaw21_FitOuter.j0 (k + 1) y0 y1 y2 y3)) ∧ (∀ y0 y1 y2 y3 y4, LeO (decanterlaw21_FitOuter.j1 k y0 y1 y2 y3 y4) (decanterlaw21_FitOuter.j1 (k + 1) y0 y1 y2 y3 y4)) ∧ (∀ y0 y1 y2 y3, LeO (decanterlaw21_FitOuter.j2 k y0 y1 y2 y3) (decanterlaw21_FitOuter.j2 (k + 1) y0 y1 y2 y3))
  | 0 => ⟨fun _ _ _ _ r h => by simp [decanterlaw21_FitOuter.j0] at h, fun _ _ _ _ _ r h => by simp [decanterlaw21_FitOuter.j1] at h, fun _ _ _ _ r h => by simp [decanterlaw21_FitOuter.j2] at h⟩
  | k + 1 => by
    obtain ⟨ih0, ih1, ih2⟩ := decanterlaw21_FitOuter.mono_l k
    refine ⟨?_, ?_, ?_⟩
    · intro y0 y1 y2 y3
      unfold decanterlaw21_FitOuter.j0
      repeat' first
      | (with_reducible exact ih0 _ _ _ _)
      | (with_reducible exact ih1 _ _ _ _ _)
      | (with_reducible exact ih2 _ _ _ _)
      | (with_reducible exact decanterlaw21_speaks.mono _)
      | (with_reducible exact decanterref11_Is.mono _ _ _)
      | (with_reducible exact fit_In.mono _ _ _)
      | (with_reducible exact LeO.refl _)
      | (with_reducible exact LeO.none _)
      | (with_reducible refine LeO.ite ?_ ?_)
      | (with_reducible refine LeO.bind ?_ (fun _ => ?_))
      | exact ih0 _ _ _ _
      | exact ih1 _ _ _ _ _
      | exact ih2 _ _ _ _
      | exact decanterlaw21_speaks.mono _
      | exact decanterref11_Is.mono _ _ _
      | exact fit_In.mono _ _ _
      | exact LeO.none _
      | refine LeO.ite ?_ ?_
      | refine LeO.bind ?_ (fun _ => ?_)
    · intro y0 y1 y2 y3 y4
      unfold decanterlaw21_FitOuter.j1
      repeat' first
      | (with_reducible exact ih0 _ _ _ _)
      | (with_reducible exact ih1 _ _ _ _ _)
      | (with_reducible exact ih2 _ _ _ _)
      | (with_reducible exact decanterlaw21_speaks.mono _)
      | (with_reducible exact decanterref11_Is.mono _ _ _)
      | (with_reducible exact fit_In.mono _ _ _)
      | (with_reducible exact LeO.refl _)
      | (with_reducible exact LeO.none _)
      | (with_reducible refine LeO.ite ?_ ?_)
      | (with_reducible refine LeO.bind ?_ (fun _ => ?_))
      | exact ih0 _ _ _ _
      | exact ih1 _ _ _ _ _
      | exact ih2 _ _ _ _
      | exact decanterlaw21_speaks.mono _
      | exact decanterref11_Is.mono _ _ _
      | exact fit_In.mono _ _ _
      | exact LeO.none _
      | refine LeO.ite ?_ ?_
      | refine LeO.bind ?_ (fun _ => ?_)
    · intro y0 y1 y2 y3
      unfold decanterlaw21_FitOuter.j2
      repeat' first
      | (with_reducible exact ih0 _ _ _ _)
      | (with_reducible exact ih1 _ _ _ _ _)
      | (with_reducible exact ih2 _ _ _ _)
      | (with_reducible exact decanterlaw21_speaks.mono _)
      | (with_reducible exact decanterref11_Is.mono _ _ _)
      | (with_reducible exact fit_In.mono _ _ _)
      | (with_reducible exact LeO.refl _)
      | (with_reducible exact LeO.none _)
      | (with_reducible refine LeO.ite ?_ ?_)
      | (with_reducible refine LeO.bind ?_ (fun _ => ?_))
      | exact ih0 _ _ _ _
      | exact ih1 _ _ _ _ _
      | exact ih2 _ _ _ _
      | exact decanterlaw21_speaks.mono _
      | exact decanterref11_Is.mono _ _ _
      | exact fit_In.mono _ _ _
      | exact LeO.none _
      | refine LeO.ite ?_ ?_
      | refine LeO.bind ?_ (fun _ => ?_)
theorem decanterlaw21_FitOuter.mono : ∀ a0 a1 a2 k, LeO (decanterlaw21_FitOuter.f k a0 a1 a2) (decanterlaw21_FitOuter.f (k + 1) a0 a1 a2) := by
  intro a0 a1 a2 k
  obtain ⟨ih0, ih1, ih2⟩ := decanterlaw21_FitOuter.mono_l k
  unfold decanterlaw21_FitOuter.f
  repeat' first
      | (with_reducible exact ih0 _ _ _ _)
      | (with_reducible exact ih1 _ _ _ _ _)
      | (with_reducible exact ih2 _ _ _ _)
      | (with_reducible exact decanterlaw21_speaks.mono _)
      | (with_reducible exact decanterref11_Is.mono _ _ _)
      | (with_reducible exact fit_In.mono _ _ _)
      | (with_reducible exact LeO.refl _)
      | (with_reducible exact LeO.none _)
      | (with_reducible refine LeO.ite ?_ ?_)
      | (with_reducible refine LeO.bind ?_ (fun _ => ?_))
      | exact ih0 _ _ _ _
      | exact ih1 _ _ _ _ _
      | exact ih2 _ _ _ _
      | exact decanterlaw21_speaks.mono _
      | exact decanterref11_Is.mono _ _ _
      | exact fit_In.mono _ _ _
      | exact LeO.none _
      | refine LeO.ite ?_ ?_
      | refine LeO.bind ?_ (fun _ => ?_)
end Go.Proofs.YteahlapoeiikoaaDoor.P

/-
  FitIn and FitOuter, about plain functions. Condition: no text is longer than 2^59 bytes.
-/

namespace Go.Proofs.YteahlapoeiikoaaDoor.Pure
open Go.RowKit Go.Proofs.YteahlapoeiikoaaDoor.P Go.Proofs.YteahlapoeiikoaaDoorW.PrintWords Go.Proofs.YteahlapoeiikoaaDoorW.PrintLast

theorem fits_of {o : List ByteArray} {n : ByteArray} {M k : Nat} (h1 : ∀ x ∈ o, x.size ≤ M) (h2 : n.size ≤ M) (h3 : M ≤ 1152921504606846000) (h4 : o.length ≤ 1000) (h5 : M + 2110 ≤ k) : Fits o n M k := ⟨h1, h2, h3, by omega, by omega⟩

set_option maxRecDepth 100000 in
theorem speaks21 (k : Nat) (hk : 2200 ≤ k) : decanterlaw21_speaks.f k = some true := by
  obtain ⟨k, rfl⟩ : ∃ m, k = m + 3 := ⟨k - 3, by omega⟩
  have f := fun (o : List ByteArray) (n : ByteArray) (h1 : ∀ x ∈ o, x.size ≤ 10) (h2 : n.size ≤ 10) (h4 : o.length ≤ 1000) => fitIn o n 10 k (fits_of h1 h2 (by decide) h4 (by omega))
  rw [decanterlaw21_speaks.f, f _ _ (by decide) (by decide) (by decide), f _ _ (by decide) (by decide) (by decide), f _ _ (by decide) (by decide) (by decide)]
  have e1 : inB [⟨#[98]⟩] ⟨#[100, 105, 118]⟩ = true := by decide +kernel
  have e2 : inB [⟨#[112]⟩] ⟨#[100, 105, 118]⟩ = false := by decide +kernel
  have e3 : inB [⟨#[112]⟩, ⟨#[98]⟩] ⟨#[100, 105, 118]⟩ = false := by decide +kernel
  rw [e1, e2, e3]
  rfl

end Go.Proofs.YteahlapoeiikoaaDoor.Pure
