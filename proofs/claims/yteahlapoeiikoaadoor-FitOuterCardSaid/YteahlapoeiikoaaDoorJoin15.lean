/- Several texts, one behind the other. -/
import Derived.Test.YteahlapoeiikoaaDoorJoin11
import Derived.Test.YteahlapoeiikoaaDoorJoin14


-- Printed by a program of this session (wip/myprint.py over the kit's print).
namespace Go.Proofs.YteahlapoeiikoaaDoor.P
open Go.RowKit Go.Proofs.YteahlapoeiikoaaDoorW.PrintWords Go.Proofs.YteahlapoeiikoaaDoorW.PrintLast Go.Proofs.YteahlapoeiikoaaDoorW.PrintMore
attribute [local go_sem] max2_int min2_int max_two min_two max_three min_three max_four min_four   -- for this text's walks alone
set_option linter.unusedVariables false
set_option linter.unusedSimpArgs false

/-! ### decanterlaw21_FitOuter: function 5 -/
mutual
def decanterlaw21_FitOuter.j0 : Nat → List ByteArray → List ByteArray → ByteArray → Bool → Option (Bool)
  | 0, _, _, _, _ => none
  | k + 1, x0, x1, x2, x24 => if x24 = true then ((decanterlaw21_speaks.f k).bind fun t182 => (some t182)) else ((some (([] : List ByteArray) : List ByteArray)).bind fun y183 => (if y183.length + x0.length < 8796093022208 then ((some (y183 ++ x0 : List ByteArray)).bind fun y186 => (if y186.length < 8796093022208 then ((some (y186 ++ [(⟨#[112]⟩ : ByteArray)] : List ByteArray)).bind fun y189 => (if y189.length + x1.length < 8796093022208 then ((some (y189 ++ x1 : List ByteArray)).bind fun y192 => ((decanterref11_Is.f k x2 1).bind fun t195 => (if t195 = true then ((fit_In.f k y192 x2).bind fun t196 => (decanterlaw21_FitOuter.j1 k x0 x1 x2 y192 t196)) else (decanterlaw21_FitOuter.j1 k x0 x1 x2 y192 false)))) else (none))) else (none))) else (none)))
def decanterlaw21_FitOuter.j1 : Nat → List ByteArray → List ByteArray → ByteArray → List ByteArray → Bool → Option (Bool)
  | 0, _, _, _, _, _ => none
  | k + 1, x0, x1, x2, x7, x39 => if x39 = true then (some false) else ((decanterref11_Is.f k x2 1).bind fun t197 => (if t197 = true then (decanterlaw21_FitOuter.j2 k x0 x1 x2 false) else (if x2.toList = ([97] : List UInt8) then (decanterlaw21_FitOuter.j2 k x0 x1 x2 false) else ((fit_In.f k x7 x2).bind fun t198 => (decanterlaw21_FitOuter.j2 k x0 x1 x2 (!t198))))))
def decanterlaw21_FitOuter.j2 : Nat → List ByteArray → List ByteArray → ByteArray → Bool → Option (Bool)
  | 0, _, _, _, _ => none
  | k + 1, x0, x1, x2, x52 => if x52 = true then (some false) else ((some (([] : List ByteArray) : List ByteArray)).bind fun y199 => (if y199.length + x0.length < 8796093022208 then ((some (y199 ++ x0 : List ByteArray)).bind fun y202 => (if y202.length < 8796093022208 then ((some (y202 ++ [(⟨#[97]⟩ : ByteArray)] : List ByteArray)).bind fun y205 => (if y205.length + x1.length < 8796093022208 then ((fit_In.f k (y205 ++ x1) (⟨#[97]⟩ : ByteArray)).bind fun t211 => (if t211 = true then (some false) else ((fit_In.f k ([] : List ByteArray) x2).bind fun t212 => (some t212)))) else (none))) else (none))) else (none)))
end
def decanterlaw21_FitOuter.f (k : Nat) (l0 : List ByteArray) (l1 : List ByteArray) (a2 : ByteArray) : Option (Bool) := (decanterlaw21_speaks.f k).bind fun t181 => (if t181 = true then (if (l0.length : Int) > 20 then (decanterlaw21_FitOuter.j0 k l0 l1 a2 true) else (if (l1.length : Int) > 20 then (decanterlaw21_FitOuter.j0 k l0 l1 a2 true) else (decanterlaw21_FitOuter.j0 k l0 l1 a2 (decide ((a2.size : Int) > 60))))) else (decanterlaw21_FitOuter.j0 k l0 l1 a2 true))
theorem decanterlaw21_FitOuter.mono_l : ∀ k, (∀ y0 y1 y2 y3, LeO (decanterlaw21_FitOuter.j0 k y0 y1 y2 y3) (decanterlaw21_FitOuter.j0 (k + 1) y0 y1 y2 y3)) ∧ (∀ y0 y1 y2 y3 y4, LeO (decanterlaw21_FitOuter.j1 k y0 y1 y2 y3 y4) (decanterlaw21_FitOuter.j1 (k + 1) y0 y1 y2 y3 y4)) ∧ (∀ y0 y1 y2 y3, LeO (decanterlaw21_FitOuter.j2 k y0 y1 y2 y3) (decanterlaw21_FitOuter.j2 (k + 1) y0 y1 y2 y3))
  | 0 => ⟨fun _ _ _ _ r h => by simp [decanterlaw21_FitOuter.j0] at h, fun _ _ _ _ _ r h => by simp [decanterlaw21_FitOuter.j1] at h, fun _ _ _ _ r h => by simp [decanterlaw21_FitOuter.j2] at h⟩
  | k + 1 => by
    obtain ⟨ih0, ih1, ih2⟩ := decanterlaw21_FitOuter.mono_l k
    refine ⟨?_, ?_, ?_⟩
    · intro y0 y1 y2 y3
      unfold decanterlaw21_FitOuter.j0
      repeat' first
      | (with_reducible exact ih0 _ _ _ _)
      | (with_reducible exact ih1 _ _ _ _ _)
      | (with_reducible exact ih2 _ _ _ _)
      | (with_reducible exact decanterlaw21_speaks.mono _)
      | (with_reducible exact decanterref11_Is.mono _ _ _)
      | (with_reducible exact fit_In.mono _ _ _)
      | (with_reducible exact LeO.refl _)
      | (with_reducible exact LeO.none _)
      | (with_reducible refine LeO.ite ?_ ?_)
      | (with_reducible refine LeO.bind ?_ (fun _ => ?_))
      | exact ih0 _ _ _ _
      | exact ih1 _ _ _ _ _
      | exact ih2 _ _ _ _
      | exact decanterlaw21_speaks.mono _
      | exact decanterref11_Is.mono _ _ _
      | exact fit_In.mono _ _ _
      | exact LeO.none _
      | refine LeO.ite ?_ ?_
      | refine LeO.bind ?_ (fun _ => ?_)
    · intro y0 y1 y2 y3 y4
      unfold decanterlaw21_FitOuter.j1
      repeat' first
      | (with_reducible exact ih0 _ _ _ _)
      | (with_reducible exact ih1 _ _ _ _ _)
      | (with_reducible exact ih2 _ _ _ _)
      | (with_reducible exact decanterlaw21_speaks.mono _)
      | (with_reducible exact decanterref11_Is.mono _ _ _)
      | (with_reducible exact fit_In.mono _ _ _)
      | (with_reducible exact LeO.refl _)
      | (with_reducible exact LeO.none _)
      | (with_reducible refine LeO.ite ?_ ?_)
      | (with_reducible refine LeO.bind ?_ (fun _ => ?_))
      | exact ih0 _ _ _ _
      | exact ih1 _ _ _ _ _
      | exact ih2 _ _ _ _
      | exact decanterlaw21_speaks.mono _
      | exact decanterref11_Is.mono _ _ _
      | exact fit_In.mono _ _ _
      | exact LeO.none _
      | refine LeO.ite ?_ ?_
      | refine LeO.bind ?_ (fun _ => ?_)
    · intro y0 y1 y2 y3
      unfold decanterlaw21_FitOuter.j2
      repeat' first
      | (with_reducible exact ih0 _ _ _ _)
      | (with_reducible exact ih1 _ _ _ _ _)
      | (with_reducible exact ih2 _ _ _ _)
      | (with_reducible exact decanterlaw21_speaks.mono _)
      | (with_reducible exact decanterref11_Is.mono _ _ _)
      | (with_reducible exact fit_In.mono _ _ _)
      | (with_reducible exact LeO.refl _)
      | (with_reducible exact LeO.none _)
      | (with_reducible refine LeO.ite ?_ ?_)
      | (with_reducible refine LeO.bind ?_ (fun _ => ?_))
      | exact ih0 _ _ _ _
      | exact ih1 _ _ _ _ _
      | exact ih2 _ _ _ _
      | exact decanterlaw21_speaks.mono _
      | exact decanterref11_Is.mono _ _ _
      | exact fit_In.mono _ _ _
      | exact LeO.none _
      | refine LeO.ite ?_ ?_
      | refine LeO.bind ?_ (fun _ => ?_)
theorem decanterlaw21_FitOuter.mono : ∀ a0 a1 a2 k, LeO (decanterlaw21_FitOuter.f k a0 a1 a2) (decanterlaw21_FitOuter.f (k + 1) a0 a1 a2) := by
  intro a0 a1 a2 k
  obtain ⟨ih0, ih1, ih2⟩ := decanterlaw21_FitOuter.mono_l k
  unfold decanterlaw21_FitOuter.f
  repeat' first
      | (with_reducible exact ih0 _ _ _ _)
      | (with_reducible exact ih1 _ _ _ _ _)
      | (with_reducible exact ih2 _ _ _ _)
      | (with_reducible exact decanterlaw21_speaks.mono _)
      | (with_reducible exact decanterref11_Is.mono _ _ _)
      | (with_reducible exact fit_In.mono _ _ _)
      | (with_reducible exact LeO.refl _)
      | (with_reducible exact LeO.none _)
      | (with_reducible refine LeO.ite ?_ ?_)
      | (with_reducible refine LeO.bind ?_ (fun _ => ?_))
      | exact ih0 _ _ _ _
      | exact ih1 _ _ _ _ _
      | exact ih2 _ _ _ _
      | exact decanterlaw21_speaks.mono _
      | exact decanterref11_Is.mono _ _ _
      | exact fit_In.mono _ _ _
      | exact LeO.none _
      | refine LeO.ite ?_ ?_
      | refine LeO.bind ?_ (fun _ => ?_)
set_option maxHeartbeats 8000000 in
set_option maxRecDepth 100000 in
theorem decanterlaw21_FitOuter.calls (k : Nat) (A0 : Option Addr) (c0 : Nat) (l0 : List ByteArray) (A1 : Option Addr) (c1 : Nat) (l1 : List ByteArray) (a2 : ByteArray) (r : Bool) (w : World) (hr0 : Kd.C Kd.string w A0 l0.length l0) (hc0 : l0.length ≤ c0) (hr1 : Kd.C Kd.string w A1 l1.length l1) (hc1 : l1.length ≤ c1) (hG : GW w) (h : decanterlaw21_FitOuter.f k l0 l1 a2 = some r) :
    Calls Tryd.prog 5 #[.slice A0 l0.length c0, .slice A1 l1.length c1, .string a2] w fun e w' => e = .returned (.bool r) ∧ Below w.heap.size w w' := by
  have HR0 := Aside0.mk hr0
  have HC0 := Aside0.mk hc0
  clear hr0 hc0
  have HR1 := Aside0.mk hr1
  have HC1 := Aside0.mk hc1
  clear hr1 hc1
  have HG := Aside0.mk hG
  clear hG
  have HB := Aside0.mk (Below.refl w.heap.size w)
  have H : ((decanterlaw21_speaks.f k).bind fun t181 => (if t181 = true then (if (l0.length : Int) > 20 then (decanterlaw21_FitOuter.j0 k l0 l1 a2 true) else (if (l1.length : Int) > 20 then (decanterlaw21_FitOuter.j0 k l0 l1 a2 true) else (decanterlaw21_FitOuter.j0 k l0 l1 a2 (decide ((a2.size : Int) > 60))))) else (decanterlaw21_FitOuter.j0 k l0 l1 a2 true))) = some r := h
  clear h
  have HC4 := Aside0.mk H
  clear H
  go_enter Tryd.func5, Tryd.ntmps5
  go_upto_region 1 with (fail)
  go_cut [24] (fun v24 wc => ∃ (kq : Nat) (x24_3 : Bool), v24 = .bool x24_3 ∧ Aside0 (decanterlaw21_FitOuter.j0 kq l0 l1 a2 x24_3 = some r) ∧ Aside0 (kq ≤ k) ∧ Aside0 (Below w.heap.size w wc))
  case first =>
    have H := HC4.out
    clear HC4
    replace H := Option.bind_eq_some_iff.mp H
    obtain ⟨t181, A50, H⟩ := H
    replace H : (if t181 = true then (if (l0.length : Int) > 20 then (decanterlaw21_FitOuter.j0 k l0 l1 a2 true) else (if (l1.length : Int) > 20 then (decanterlaw21_FitOuter.j0 k l0 l1 a2 true) else (decanterlaw21_FitOuter.j0 k l0 l1 a2 (decide ((a2.size : Int) > 60))))) else (decanterlaw21_FitOuter.j0 k l0 l1 a2 true)) = some r := H
    have A5 := Aside0.mk A50
    clear A50
    by_cases c6 : t181 = true
    · subst c6
      have H1 : (if (l0.length : Int) > 20 then (decanterlaw21_FitOuter.j0 k l0 l1 a2 true) else (if (l1.length : Int) > 20 then (decanterlaw21_FitOuter.j0 k l0 l1 a2 true) else (decanterlaw21_FitOuter.j0 k l0 l1 a2 (decide ((a2.size : Int) > 60))))) = some r := by rw [if_pos rfl] at H; exact H
      clear H
      have H := H1
      clear H1
      by_cases c7 : (l0.length : Int) > 20
      · rw [if_pos c7] at H
        have c7b0 : decide (20 < (l0.length : Int)) = true := decide_eq_true c7
        have c7b1 : decide (20 < l0.length) = true := decide_eq_true (by omega)
        clear c7
        (first | rw [c7b0] | (simp only [i64_w, i32_w]; rw [c7b0]) | rw [c7b1] | skip)
        have H' := Aside0.mk H
        clear H
        go_wp2_with (first | ((with_reducible refine gate_callee (f := 17) rfl ?_); refine goesL_ (some 8) rfl rfl Tryd.func17 (by kernel_rfl) rfl #[] rfl (by (try simp only [List.map_toArray, List.map_cons, List.map_nil]); first | done | rfl | (simp only [List.length_drop, List.length_take]; rfl)) ?_; (with_reducible refine (decanterlaw21_speaks.calls k  true _ ?side1 A5.out).mono ?_); (case side1 => exact GW.below HG.out (by repeat (first | (with_reducible first | exact HB.out | apply below_alloc | apply pw_below_drewN | apply below_drew1) | exact HB.out))); rintro e w8 ⟨rfl, hb⟩; refine ⟨_, rfl, ?_⟩; have n0_ := Aside0.mk (below_step (by repeat (first | (with_reducible first | exact HB.out | apply below_alloc | apply pw_below_drewN | apply below_drew1) | exact HB.out)) hb); clear HB; have HB := n0_; clear n0_; (try clear hb); (try clear hb2); (try clear hk); (try clear hi)))
        go_meet
        case rel => exact ⟨_, (true), (by first | rfl | (simp; done) | (simp [*]; done)), H', ⟨by first | omega | exact Nat.le_refl _⟩, ⟨by repeat (first | (with_reducible first | exact HB.out | apply below_alloc | apply pw_below_drewN | apply below_drew1) | exact HB.out)⟩⟩
      · rw [if_neg c7] at H
        have c7b0 : decide (20 < (l0.length : Int)) = false := decide_eq_false c7
        have c7b1 : decide (20 < l0.length) = false := decide_eq_false (by omega)
        clear c7
        (first | rw [c7b0] | (simp only [i64_w, i32_w]; rw [c7b0]) | rw [c7b1] | skip)
        by_cases c9 : (l1.length : Int) > 20
        · rw [if_pos c9] at H
          have c9b0 : decide (20 < (l1.length : Int)) = true := decide_eq_true c9
          have c9b1 : decide (20 < l1.length) = true := decide_eq_true (by omega)
          clear c9
          have H' := Aside0.mk H
          clear H
          go_wp2_with (first | ((with_reducible refine gate_callee (f := 17) rfl ?_); refine goesL_ (some 8) rfl rfl Tryd.func17 (by kernel_rfl) rfl #[] rfl (by (try simp only [List.map_toArray, List.map_cons, List.map_nil]); first | done | rfl | (simp only [List.length_drop, List.length_take]; rfl)) ?_; (with_reducible refine (decanterlaw21_speaks.calls k  true _ ?side1 A5.out).mono ?_); (case side1 => exact GW.below HG.out (by repeat (first | (with_reducible first | exact HB.out | apply below_alloc | apply pw_below_drewN | apply below_drew1) | exact HB.out))); rintro e w10 ⟨rfl, hb⟩; refine ⟨_, rfl, ?_⟩; have n0_ := Aside0.mk (below_step (by repeat (first | (with_reducible first | exact HB.out | apply below_alloc | apply pw_below_drewN | apply below_drew1) | exact HB.out)) hb); clear HB; have HB := n0_; clear n0_; (try clear hb); (try clear hb2); (try clear hk); (try clear hi)))
          go_meet
          case rel => exact ⟨_, (true), (by first | rfl | (simp; done) | (simp [*]; done)), H', ⟨by first | omega | exact Nat.le_refl _⟩, ⟨by repeat (first | (with_reducible first | exact HB.out | apply below_alloc | apply pw_below_drewN | apply below_drew1) | exact HB.out)⟩⟩
        · rw [if_neg c9] at H
          have c9b0 : decide (20 < (l1.length : Int)) = false := decide_eq_false c9
          have c9b1 : decide (20 < l1.length) = false := decide_eq_false (by omega)
          clear c9
          have H' := Aside0.mk H
          clear H
          go_wp2_with (first | ((with_reducible refine gate_callee (f := 17) rfl ?_); refine goesL_ (some 8) rfl rfl Tryd.func17 (by kernel_rfl) rfl #[] rfl (by (try simp only [List.map_toArray, List.map_cons, List.map_nil]); first | done | rfl | (simp only [List.length_drop, List.length_take]; rfl)) ?_; (with_reducible refine (decanterlaw21_speaks.calls k  true _ ?side1 A5.out).mono ?_); (case side1 => exact GW.below HG.out (by repeat (first | (with_reducible first | exact HB.out | apply below_alloc | apply pw_below_drewN | apply below_drew1) | exact HB.out))); rintro e w11 ⟨rfl, hb⟩; refine ⟨_, rfl, ?_⟩; have n0_ := Aside0.mk (below_step (by repeat (first | (with_reducible first | exact HB.out | apply below_alloc | apply pw_below_drewN | apply below_drew1) | exact HB.out)) hb); clear HB; have HB := n0_; clear n0_; (try clear hb); (try clear hb2); (try clear hk); (try clear hi)))
          go_meet
          case rel => exact ⟨_, (decide ((a2.size : Int) > 60)), (by first | rfl | (simp; done) | (simp [*]; done)), H', ⟨by first | omega | exact Nat.le_refl _⟩, ⟨by repeat (first | (with_reducible first | exact HB.out | apply below_alloc | apply pw_below_drewN | apply below_drew1) | exact HB.out)⟩⟩
    · replace c6 := Bool.eq_false_iff.mpr c6
      subst c6
      have H1 : (decanterlaw21_FitOuter.j0 k l0 l1 a2 true) = some r := by rw [if_neg (show ¬ (false = true) by decide)] at H; exact H
      clear H
      have H := H1
      clear H1
      have H' := Aside0.mk H
      clear H
      go_wp2_with (first | ((with_reducible refine gate_callee (f := 17) rfl ?_); refine goesL_ (some 8) rfl rfl Tryd.func17 (by kernel_rfl) rfl #[] rfl (by (try simp only [List.map_toArray, List.map_cons, List.map_nil]); first | done | rfl | (simp only [List.length_drop, List.length_take]; rfl)) ?_; (with_reducible refine (decanterlaw21_speaks.calls k  false _ ?side1 A5.out).mono ?_); (case side1 => exact GW.below HG.out (by repeat (first | (with_reducible first | exact HB.out | apply below_alloc | apply pw_below_drewN | apply below_drew1) | exact HB.out))); rintro e w12 ⟨rfl, hb⟩; refine ⟨_, rfl, ?_⟩; have n0_ := Aside0.mk (below_step (by repeat (first | (with_reducible first | exact HB.out | apply below_alloc | apply pw_below_drewN | apply below_drew1) | exact HB.out)) hb); clear HB; have HB := n0_; clear n0_; (try clear hb); (try clear hb2); (try clear hk); (try clear hi)))
      go_meet
      case rel => exact ⟨_, (true), (by first | rfl | (simp; done) | (simp [*]; done)), H', ⟨by first | omega | exact Nat.le_refl _⟩, ⟨by repeat (first | (with_reducible first | exact HB.out | apply below_alloc | apply pw_below_drewN | apply below_drew1) | exact HB.out)⟩⟩
  case rest =>
    clear HC4
    try clear c1
    try clear p2
    try clear c5
    try clear c6
    try clear c7
    try clear c7b0
    try clear c7b1
    try clear c9
    try clear c9b0
    try clear c9b1
    obtain ⟨kq, x24_3, rfl, HA, HJ3, HB⟩ := hcut
    cases kq with
    | zero => exact absurd HA.out (by simp [decanterlaw21_FitOuter.j0])
    | succ kj3 =>
      have H := HA.out
      clear HA
      simp only [decanterlaw21_FitOuter.j0] at H
      by_cases c13 : x24_3 = true
      · subst c13
        have H1 : ((decanterlaw21_speaks.f kj3).bind fun t182 => (some t182)) = some r := by rw [if_pos rfl] at H; exact H
        clear H
        have H := H1
        clear H1
        replace H := Option.bind_eq_some_iff.mp H
        obtain ⟨t182, A140, H⟩ := H
        replace H : (some t182) = some r := H
        have A14 := Aside0.mk A140
        clear A140
        obtain rfl := Option.some.inj H
        go_wp2_with (first | ((with_reducible refine gate_callee (f := 17) rfl ?_); refine goesL_ (some 25) rfl rfl Tryd.func17 (by kernel_rfl) rfl #[] rfl (by (try simp only [List.map_toArray, List.map_cons, List.map_nil]); first | done | rfl | (simp only [List.length_drop, List.length_take]; rfl)) ?_; (with_reducible refine (decanterlaw21_speaks.calls kj3  t182 _ ?side1 A14.out).mono ?_); (case side1 => exact GW.below HG.out (by repeat (first | (with_reducible first | exact HB.out | apply below_alloc | apply pw_below_drewN | apply below_drew1) | exact HB.out))); rintro e w15 ⟨rfl, hb⟩; refine ⟨_, rfl, ?_⟩; have n0_ := Aside0.mk (below_step (by repeat (first | (with_reducible first | exact HB.out | apply below_alloc | apply pw_below_drewN | apply below_drew1) | exact HB.out)) hb); clear HB; have HB := n0_; clear n0_; (try clear hb); (try clear hb2); (try clear hk); (try clear hi)))
        go_ret
        exact ⟨by first | rfl | (simp [errW_none, errW_some] <;> rfl) | (simp [*, errW_none, errW_some] <;> rfl), by repeat (first | (with_reducible first | exact HB.out | apply below_alloc | apply pw_below_drewN | apply below_drew1) | exact HB.out)⟩
      · replace c13 := Bool.eq_false_iff.mpr c13
        subst c13
        have H1 : ((some (([] : List ByteArray) : List ByteArray)).bind fun y183 => (if y183.length + l0.length < 8796093022208 then ((some (y183 ++ l0 : List ByteArray)).bind fun y186 => (if y186.length < 8796093022208 then ((some (y186 ++ [(⟨#[112]⟩ : ByteArray)] : List ByteArray)).bind fun y189 => (if y189.length + l1.length < 8796093022208 then ((some (y189 ++ l1 : List ByteArray)).bind fun y192 => ((decanterref11_Is.f kj3 a2 1).bind fun t195 => (if t195 = true then ((fit_In.f kj3 y192 a2).bind fun t196 => (decanterlaw21_FitOuter.j1 kj3 l0 l1 a2 y192 t196)) else (decanterlaw21_FitOuter.j1 kj3 l0 l1 a2 y192 false)))) else (none))) else (none))) else (none))) = some r := by rw [if_neg (show ¬ (false = true) by decide)] at H; exact H
        clear H
        have H := H1
        clear H1
        obtain ⟨y183, hy183⟩ : ∃ y_ : List ByteArray, y_ = (([] : List ByteArray)) := ⟨_, rfl⟩
        replace H : (if y183.length + l0.length < 8796093022208 then ((some (y183 ++ l0 : List ByteArray)).bind fun y186 => (if y186.length < 8796093022208 then ((some (y186 ++ [(⟨#[112]⟩ : ByteArray)] : List ByteArray)).bind fun y189 => (if y189.length + l1.length < 8796093022208 then ((some (y189 ++ l1 : List ByteArray)).bind fun y192 => ((decanterref11_Is.f kj3 a2 1).bind fun t195 => (if t195 = true then ((fit_In.f kj3 y192 a2).bind fun t196 => (decanterlaw21_FitOuter.j1 kj3 l0 l1 a2 y192 t196)) else (decanterlaw21_FitOuter.j1 kj3 l0 l1 a2 y192 false)))) else (none))) else (none))) else (none)) = some r := by first | (rw [hy183]; with_reducible exact H) | (have H2_ := (Option.bind_some _ _).symm.trans H; rw [hy183]; with_reducible exact H2_) | (have H2_ := (Option.bind_some _ _).symm.trans H; with_reducible exact H2_) | with_reducible exact H | (rw [hy183]; exact H) | exact H
        have Ny183 := Aside0.mk hy183
        clear hy183
        by_cases c16 : y183.length + l0.length < 8796093022208
        · rw [if_pos c16] at H
          have LMc16 := Aside0.mk c16
          clear c16
          obtain ⟨y186, hy186⟩ : ∃ y_ : List ByteArray, y_ = (y183 ++ l0) := ⟨_, rfl⟩
          replace H : (if y186.length < 8796093022208 then ((some (y186 ++ [(⟨#[112]⟩ : ByteArray)] : List ByteArray)).bind fun y189 => (if y189.length + l1.length < 8796093022208 then ((some (y189 ++ l1 : List ByteArray)).bind fun y192 => ((decanterref11_Is.f kj3 a2 1).bind fun t195 => (if t195 = true then ((fit_In.f kj3 y192 a2).bind fun t196 => (decanterlaw21_FitOuter.j1 kj3 l0 l1 a2 y192 t196)) else (decanterlaw21_FitOuter.j1 kj3 l0 l1 a2 y192 false)))) else (none))) else (none)) = some r := by first | (rw [hy186]; with_reducible exact H) | (have H2_ := (Option.bind_some _ _).symm.trans H; rw [hy186]; with_reducible exact H2_) | (have H2_ := (Option.bind_some _ _).symm.trans H; with_reducible exact H2_) | with_reducible exact H | (rw [hy186]; exact H) | exact H
          have Ny186 := Aside0.mk hy186
          clear hy186
          by_cases c17 : y186.length < 8796093022208
          · rw [if_pos c17] at H
            have LMc17 := Aside0.mk c17
            clear c17
            obtain ⟨y189, hy189⟩ : ∃ y_ : List ByteArray, y_ = (y186 ++ [(⟨#[112]⟩ : ByteArray)]) := ⟨_, rfl⟩
            replace H : (if y189.length + l1.length < 8796093022208 then ((some (y189 ++ l1 : List ByteArray)).bind fun y192 => ((decanterref11_Is.f kj3 a2 1).bind fun t195 => (if t195 = true then ((fit_In.f kj3 y192 a2).bind fun t196 => (decanterlaw21_FitOuter.j1 kj3 l0 l1 a2 y192 t196)) else (decanterlaw21_FitOuter.j1 kj3 l0 l1 a2 y192 false)))) else (none)) = some r := by first | (rw [hy189]; with_reducible exact H) | (have H2_ := (Option.bind_some _ _).symm.trans H; rw [hy189]; with_reducible exact H2_) | (have H2_ := (Option.bind_some _ _).symm.trans H; with_reducible exact H2_) | with_reducible exact H | (rw [hy189]; exact H) | exact H
            have Ny189 := Aside0.mk hy189
            clear hy189
            by_cases c18 : y189.length + l1.length < 8796093022208
            · rw [if_pos c18] at H
              have LMc18 := Aside0.mk c18
              clear c18
              obtain ⟨y192, hy192⟩ : ∃ y_ : List ByteArray, y_ = (y189 ++ l1) := ⟨_, rfl⟩
              replace H : ((decanterref11_Is.f kj3 a2 1).bind fun t195 => (if t195 = true then ((fit_In.f kj3 y192 a2).bind fun t196 => (decanterlaw21_FitOuter.j1 kj3 l0 l1 a2 y192 t196)) else (decanterlaw21_FitOuter.j1 kj3 l0 l1 a2 y192 false))) = some r := by first | (rw [hy192]; with_reducible exact H) | (have H2_ := (Option.bind_some _ _).symm.trans H; rw [hy192]; with_reducible exact H2_) | (have H2_ := (Option.bind_some _ _).symm.trans H; with_reducible exact H2_) | with_reducible exact H | (rw [hy192]; exact H) | exact H
              have Ny192 := Aside0.mk hy192
              clear hy192
              have HC19 := Aside0.mk H
              clear H
              go_upto_region 4 with (first | ((with_reducible refine gate_dst (N := 26) rfl ?_); (try (refine gate_guard (by rfl) ?_; dsimp only)); refine Kd.R_lit Kd.string _ 9 ?hg (N := 26) ?hd (xs := ([] : List ByteArray)) (inner := []) (ok := fun _ => True) (okp := fun _ => True) ?hr ?hp (fun _ hk => hk) trivial (Below.refl _ _) (Nat.le_refl _) (by simp) ?_; (case hd => rfl); (case hg => rfl); (case hr => first | (go_simp; done) | (go_simp; rfl)); (case hp => exact (Reps.none _ _)); intro v184 w20 ho21 hb hg_ hnew_; clear hg_ hnew_; (first | rw [← Ny183.out] at ho21 | (simp only [Int.reduceToNat] at ho21; rw [← Ny183.out] at ho21)); have n0_ := Aside0.mk (Kd.R_lower ho21 (below_size (by repeat (first | (with_reducible first | exact HB.out | apply below_alloc | apply pw_below_drewN | apply below_drew1) | exact HB.out)))); have n1_ := Aside0.mk (below_step (by repeat (first | (with_reducible first | exact HB.out | apply below_alloc | apply pw_below_drewN | apply below_drew1) | exact HB.out)) hb); clear HB; have HO185 := n0_; have HB := n1_; clear n0_ n1_; clear hb ho21) | ((with_reducible refine gate_builtin (b := .append) (xs := #[.tmp 26, .tmp 27]) rfl ?_); (try (refine gate_guard (by rfl) ?_; dsimp only)); at_builtin; refine Kd.R_append_rows Kd.string (w0 := w) w.heap.size rfl (.tmp 26) (.tmp 27) 25 9 (.string ⟨#[]⟩) 16 rfl Tryd.underlying25 info9 rfl (by decide) (by omega) v184 y183 l0 _ _ _ (fun _ => True) (fun _ => False) rfl rfl ?aO ?aR (fun _ _ h => h) (fun _ h => h.elim) ?aF ?aB ?aS ?aL ?_; (case aR => repeat (first | exact (Kd.C_below HR0.out HB.out) | (with_reducible refine Kd.C_alloc ?_ _) | (with_reducible refine Kd.C_drewN ?_ _) | (with_reducible refine Kd.C_drew ?_))); (case aB => exact (by repeat (first | (with_reducible first | exact HB.out | apply below_alloc | apply pw_below_drewN | apply below_drew1) | exact HB.out))); (case aF => exact (fun _ _ => trivial)); (case aO => exact (by (with_reducible repeat (first | apply Kd.R_alloc | apply Kd.R_drewN | apply Kd.R_drew)); exact HO185.out)); (case aS => exact (below_size (by repeat (first | (with_reducible first | exact HB.out | apply below_alloc | apply pw_below_drewN | apply below_drew1) | exact HB.out)))); (case aL => have := LMc16.out; omega); intro v187 w22 ho hb hg hat; rw [← Ny186.out] at ho; have n0_ := Aside0.mk (hb); have n1_ := Aside0.mk (ho); clear HB; clear HO185; have HB := n0_; have HO188 := n1_; clear n0_ n1_; clear ho hb hg hat) | ((with_reducible refine gate_builtin (b := .append) (xs := #[.tmp 28, .tmp 29]) rfl ?_); (try (refine gate_guard (by rfl) ?_; dsimp only)); at_builtin; refine Kd.R_append Kd.string (w0 := w) w.heap.size rfl (.tmp 28) (.tmp 29) 25 9 (.string ⟨#[]⟩) 16 rfl Tryd.underlying25 info9 rfl (by decide) (by omega) v187 y186 (⟨#[112]⟩ : ByteArray) [.string (⟨#[112]⟩ : ByteArray)] (fun _ => True) (fun _ => False) rfl rfl ?aP (fun _ hk => hk.elim) ?aF ?aO ?aB ?aS ?aL ?_; (case aP => exact rfl); (case aB => exact (by repeat (first | (with_reducible first | exact HB.out | apply below_alloc | apply pw_below_drewN | apply below_drew1) | exact HB.out))); (case aF => exact (fun _ _ => trivial)); (case aO => exact (by (with_reducible repeat (first | apply Kd.R_alloc | apply Kd.R_drewN | apply Kd.R_drew)); exact HO188.out)); (case aS => exact (below_size (by repeat (first | (with_reducible first | exact HB.out | apply below_alloc | apply pw_below_drewN | apply below_drew1) | exact HB.out)))); (case aL => have := LMc17.out; omega); intro v190 w23 ho hb hg hat; rw [← Ny189.out] at ho; have n0_ := Aside0.mk (hb); have n1_ := Aside0.mk (ho); clear HB; clear HO188; have HB := n0_; have HO191 := n1_; clear n0_ n1_; clear ho hb hg hat) | ((with_reducible refine gate_builtin (b := .append) (xs := #[.tmp 30, .tmp 31]) rfl ?_); (try (refine gate_guard (by rfl) ?_; dsimp only)); at_builtin; refine Kd.R_append_rows Kd.string (w0 := w) w.heap.size rfl (.tmp 30) (.tmp 31) 25 9 (.string ⟨#[]⟩) 16 rfl Tryd.underlying25 info9 rfl (by decide) (by omega) v190 y189 l1 _ _ _ (fun _ => True) (fun _ => False) rfl rfl ?aO ?aR (fun _ _ h => h) (fun _ h => h.elim) ?aF ?aB ?aS ?aL ?_; (case aR => repeat (first | exact (Kd.C_below HR1.out HB.out) | (with_reducible refine Kd.C_alloc ?_ _) | (with_reducible refine Kd.C_drewN ?_ _) | (with_reducible refine Kd.C_drew ?_))); (case aB => exact (by repeat (first | (with_reducible first | exact HB.out | apply below_alloc | apply pw_below_drewN | apply below_drew1) | exact HB.out))); (case aF => exact (fun _ _ => trivial)); (case aO => exact (by (with_reducible repeat (first | apply Kd.R_alloc | apply Kd.R_drewN | apply Kd.R_drew)); exact HO191.out)); (case aS => exact (below_size (by repeat (first | (with_reducible first | exact HB.out | apply below_alloc | apply pw_below_drewN | apply below_drew1) | exact HB.out)))); (case aL => have := LMc18.out; omega); intro v193 w24 ho hb hg hat; rw [← Ny192.out] at ho; have n0_ := Aside0.mk (hb); have n1_ := Aside0.mk (ho); clear HB; clear HO191; have HB := n0_; have HO194 := n1_; clear n0_ n1_; clear ho hb hg hat))
              (try simp only [Act.put, List.setIfInBounds_toArray, List.set_cons_zero, List.set_cons_succ])
              go_cut [39] (fun v39 wc => ∃ (kq : Nat) (x39_18 : Bool), v39 = .bool x39_18 ∧ Aside0 (decanterlaw21_FitOuter.j1 kq l0 l1 a2 y192 x39_18 = some r) ∧ Aside0 (kq ≤ kj3) ∧ Aside0 (Kd.R Kd.string 9 wc w.heap.size (fun _ => True) v193 y192) ∧ Aside0 (Below w.heap.size w wc))
              case first =>
                have H := HC19.out
                clear HC19
                replace H := Option.bind_eq_some_iff.mp H
                obtain ⟨t195, A250, H⟩ := H
                replace H : (if t195 = true then ((fit_In.f kj3 y192 a2).bind fun t196 => (decanterlaw21_FitOuter.j1 kj3 l0 l1 a2 y192 t196)) else (decanterlaw21_FitOuter.j1 kj3 l0 l1 a2 y192 false)) = some r := H
                have A25 := Aside0.mk A250
                clear A250
                by_cases c26 : t195 = true
                · subst c26
                  have H1 : ((fit_In.f kj3 y192 a2).bind fun t196 => (decanterlaw21_FitOuter.j1 kj3 l0 l1 a2 y192 t196)) = some r := by rw [if_pos rfl] at H; exact H
                  clear H
                  have H := H1
                  clear H1
                  replace H := Option.bind_eq_some_iff.mp H
                  obtain ⟨t196, A270, H⟩ := H
                  replace H : (decanterlaw21_FitOuter.j1 kj3 l0 l1 a2 y192 t196) = some r := H
                  have A27 := Aside0.mk A270
                  clear A270
                  have H' := Aside0.mk H
                  clear H
                  go_wp2_with (first | ((with_reducible refine gate_callee (f := 20) rfl ?_); refine goesL_ (some 34) rfl rfl Tryd.func20 (by kernel_rfl) rfl #[.string a2, .int .i64 1] rfl (by (try simp only [List.map_toArray, List.map_cons, List.map_nil]); first | done | rfl | (simp only [List.length_drop, List.length_take]; rfl)) ?_; (with_reducible refine (decanterref11_Is.calls kj3 a2 1 true _ A25.out).mono ?_); rintro e w28 ⟨rfl, hb⟩; refine ⟨_, rfl, ?_⟩; have n0_ := Aside0.mk (Kd.R_below (by (with_reducible repeat (first | apply Kd.R_alloc | apply Kd.R_drewN | apply Kd.R_drew)); exact HO194.out) hb); have n1_ := Aside0.mk (below_step (by repeat (first | (with_reducible first | exact HB.out | apply below_alloc | apply pw_below_drewN | apply below_drew1) | exact HB.out)) hb); clear HO194; clear HB; have HO194 := n0_; have HB := n1_; clear n0_ n1_; (try clear hb); (try clear hb2); (try clear hk); (try clear hi); obtain ⟨Ao29, co29, eo29⟩ := Kd.R_slice HO194.out; subst eo29) | (go_at_call 18; (with_reducible refine (fit_In.calls kj3 _ _ y192 a2 t196 _ ?side1 ?side2 ?side3 A27.out).mono ?_); (case side1 => repeat (first | exact (Kd.R_reads' HO194.out).2.2 | (with_reducible refine Kd.C_alloc ?_ _) | (with_reducible refine Kd.C_drewN ?_ _) | (with_reducible refine Kd.C_drew ?_))); (case side2 => exact (Kd.R_reads' HO194.out).2.1); (case side3 => exact GW.below HG.out (by repeat (first | (with_reducible first | exact HB.out | apply below_alloc | apply pw_below_drewN | apply below_drew1) | exact HB.out))); rintro e w30 ⟨rfl, hb⟩; have n0_ := Aside0.mk (Kd.R_below (by (with_reducible repeat (first | apply Kd.R_alloc | apply Kd.R_drewN | apply Kd.R_drew)); exact HO194.out) hb); have n1_ := Aside0.mk (below_step (by repeat (first | (with_reducible first | exact HB.out | apply below_alloc | apply pw_below_drewN | apply below_drew1) | exact HB.out)) hb); clear HO194; clear HB; have HO194 := n0_; have HB := n1_; clear n0_ n1_; (try clear hb); (try clear hb2); (try clear hk); (try clear hi)))
                  go_meet
                  case rel => exact ⟨_, (t196), (by first | rfl | (simp; done) | (simp [*]; done)), H', ⟨by have := HJ3.out; first | omega | exact Nat.le_refl _⟩, ⟨by (with_reducible repeat (first | apply Kd.R_alloc | apply Kd.R_drewN | apply Kd.R_drew)); exact HO194.out⟩, ⟨by repeat (first | (with_reducible first | exact HB.out | apply below_alloc | apply pw_below_drewN | apply below_drew1) | exact HB.out)⟩⟩
                · replace c26 := Bool.eq_false_iff.mpr c26
                  subst c26
                  have H1 : (decanterlaw21_FitOuter.j1 kj3 l0 l1 a2 y192 false) = some r := by rw [if_neg (show ¬ (false = true) by decide)] at H; exact H
                  clear H
                  have H := H1
                  clear H1
                  have H' := Aside0.mk H
                  clear H
                  go_wp2_with (first | ((with_reducible refine gate_callee (f := 20) rfl ?_); refine goesL_ (some 34) rfl rfl Tryd.func20 (by kernel_rfl) rfl #[.string a2, .int .i64 1] rfl (by (try simp only [List.map_toArray, List.map_cons, List.map_nil]); first | done | rfl | (simp only [List.length_drop, List.length_take]; rfl)) ?_; (with_reducible refine (decanterref11_Is.calls kj3 a2 1 false _ A25.out).mono ?_); rintro e w31 ⟨rfl, hb⟩; refine ⟨_, rfl, ?_⟩; have n0_ := Aside0.mk (Kd.R_below (by (with_reducible repeat (first | apply Kd.R_alloc | apply Kd.R_drewN | apply Kd.R_drew)); exact HO194.out) hb); have n1_ := Aside0.mk (below_step (by repeat (first | (with_reducible first | exact HB.out | apply below_alloc | apply pw_below_drewN | apply below_drew1) | exact HB.out)) hb); clear HO194; clear HB; have HO194 := n0_; have HB := n1_; clear n0_ n1_; (try clear hb); (try clear hb2); (try clear hk); (try clear hi)))
                  go_meet
                  case rel => exact ⟨_, (false), (by first | rfl | (simp; done) | (simp [*]; done)), H', ⟨by have := HJ3.out; first | omega | exact Nat.le_refl _⟩, ⟨by (with_reducible repeat (first | apply Kd.R_alloc | apply Kd.R_drewN | apply Kd.R_drew)); exact HO194.out⟩, ⟨by repeat (first | (with_reducible first | exact HB.out | apply below_alloc | apply pw_below_drewN | apply below_drew1) | exact HB.out)⟩⟩
              case rest =>
                clear HC19
                try clear c1
                try clear c2
                try clear p2
                try clear c5
                try clear c6
                try clear c7
                try clear c7b0
                try clear c7b1
                try clear c9
                try clear c9b0
                try clear c9b1
                try clear c13
                try clear c16
                try clear c17
                try clear c18
                try clear c20
                try clear c26
                try clear p2
                obtain ⟨kq, x39_18, rfl, HA, HJ18, HO_7, HB⟩ := hcut
                cases kq with
                | zero => exact absurd HA.out (by simp [decanterlaw21_FitOuter.j1])
                | succ kj18 =>
                  have H := HA.out
                  clear HA
                  simp only [decanterlaw21_FitOuter.j1] at H
                  by_cases c32 : x39_18 = true
                  · subst c32
                    have H1 : (some false) = some r := by rw [if_pos rfl] at H; exact H
                    clear H
                    have H := H1
                    clear H1
                    obtain rfl := Option.some.inj H
                    go_wp2
                    go_ret
                    exact ⟨by first | rfl | (simp [errW_none, errW_some] <;> rfl) | (simp [*, errW_none, errW_some] <;> rfl), by repeat (first | (with_reducible first | exact HB.out | apply below_alloc | apply pw_below_drewN | apply below_drew1) | exact HB.out)⟩
                  · replace c32 := Bool.eq_false_iff.mpr c32
                    subst c32
                    have H1 : ((decanterref11_Is.f kj18 a2 1).bind fun t197 => (if t197 = true then (decanterlaw21_FitOuter.j2 kj18 l0 l1 a2 false) else (if a2.toList = ([97] : List UInt8) then (decanterlaw21_FitOuter.j2 kj18 l0 l1 a2 false) else ((fit_In.f kj18 y192 a2).bind fun t198 => (decanterlaw21_FitOuter.j2 kj18 l0 l1 a2 (!t198)))))) = some r := by rw [if_neg (show ¬ (false = true) by decide)] at H; exact H
                    clear H
                    have H := H1
                    clear H1
                    have HC33 := Aside0.mk H
                    clear H
                    go_upto_region 6 with (fail)
                    go_cut [52] (fun v52 wc => ∃ (kq : Nat) (x52_32 : Bool), v52 = .bool x52_32 ∧ Aside0 (decanterlaw21_FitOuter.j2 kq l0 l1 a2 x52_32 = some r) ∧ Aside0 (kq ≤ kj18) ∧ Aside0 (Below w.heap.size w wc))
                    case first =>
                      have H := HC33.out
                      clear HC33
                      replace H := Option.bind_eq_some_iff.mp H
                      obtain ⟨t197, A340, H⟩ := H
                      replace H : (if t197 = true then (decanterlaw21_FitOuter.j2 kj18 l0 l1 a2 false) else (if a2.toList = ([97] : List UInt8) then (decanterlaw21_FitOuter.j2 kj18 l0 l1 a2 false) else ((fit_In.f kj18 y192 a2).bind fun t198 => (decanterlaw21_FitOuter.j2 kj18 l0 l1 a2 (!t198))))) = some r := H
                      have A34 := Aside0.mk A340
                      clear A340
                      by_cases c35 : t197 = true
                      · subst c35
                        have H1 : (decanterlaw21_FitOuter.j2 kj18 l0 l1 a2 false) = some r := by rw [if_pos rfl] at H; exact H
                        clear H
                        have H := H1
                        clear H1
                        have H' := Aside0.mk H
                        clear H
                        go_wp2_with (first | ((with_reducible refine gate_callee (f := 20) rfl ?_); refine goesL_ (some 41) rfl rfl Tryd.func20 (by kernel_rfl) rfl #[.string a2, .int .i64 1] rfl (by (try simp only [List.map_toArray, List.map_cons, List.map_nil]); first | done | rfl | (simp only [List.length_drop, List.length_take]; rfl)) ?_; (with_reducible refine (decanterref11_Is.calls kj18 a2 1 true _ A34.out).mono ?_); rintro e w36 ⟨rfl, hb⟩; refine ⟨_, rfl, ?_⟩; have n0_ := Aside0.mk (Kd.R_below (by (with_reducible repeat (first | apply Kd.R_alloc | apply Kd.R_drewN | apply Kd.R_drew)); exact HO_7.out) hb); have n1_ := Aside0.mk (below_step (by repeat (first | (with_reducible first | exact HB.out | apply below_alloc | apply pw_below_drewN | apply below_drew1) | exact HB.out)) hb); clear HO_7; clear HB; have HO_7 := n0_; have HB := n1_; clear n0_ n1_; (try clear hb); (try clear hb2); (try clear hk); (try clear hi)))
                        go_meet
                        case rel => exact ⟨_, (false), (by first | rfl | (simp; done) | (simp [*]; done)), H', ⟨by have := HJ3.out; have := HJ18.out; first | omega | exact Nat.le_refl _⟩, ⟨by repeat (first | (with_reducible first | exact HB.out | apply below_alloc | apply pw_below_drewN | apply below_drew1) | exact HB.out)⟩⟩
                      · replace c35 := Bool.eq_false_iff.mpr c35
                        subst c35
                        have H1 : (if a2.toList = ([97] : List UInt8) then (decanterlaw21_FitOuter.j2 kj18 l0 l1 a2 false) else ((fit_In.f kj18 y192 a2).bind fun t198 => (decanterlaw21_FitOuter.j2 kj18 l0 l1 a2 (!t198)))) = some r := by rw [if_neg (show ¬ (false = true) by decide)] at H; exact H
                        clear H
                        have H := H1
                        clear H1
                        by_cases c37 : a2.toList = ([97] : List UInt8)
                        · rw [if_pos c37] at H
                          have c37b0 : (a2.toList == ([97] : List UInt8)) = true := beq_iff_eq.mpr c37
                          have c37b1 : (a2.toList != ([97] : List UInt8)) = false := bne_eq_false_iff_eq.mpr c37
                          clear c37
                          (first | rw [c37b0] | (simp only [i64_w, i32_w]; rw [c37b0]) | rw [c37b1] | skip)
                          have H' := Aside0.mk H
                          clear H
                          go_wp2_with (first | ((with_reducible refine gate_callee (f := 20) rfl ?_); refine goesL_ (some 41) rfl rfl Tryd.func20 (by kernel_rfl) rfl #[.string a2, .int .i64 1] rfl (by (try simp only [List.map_toArray, List.map_cons, List.map_nil]); first | done | rfl | (simp only [List.length_drop, List.length_take]; rfl)) ?_; (with_reducible refine (decanterref11_Is.calls kj18 a2 1 false _ A34.out).mono ?_); rintro e w38 ⟨rfl, hb⟩; refine ⟨_, rfl, ?_⟩; have n0_ := Aside0.mk (Kd.R_below (by (with_reducible repeat (first | apply Kd.R_alloc | apply Kd.R_drewN | apply Kd.R_drew)); exact HO_7.out) hb); have n1_ := Aside0.mk (below_step (by repeat (first | (with_reducible first | exact HB.out | apply below_alloc | apply pw_below_drewN | apply below_drew1) | exact HB.out)) hb); clear HO_7; clear HB; have HO_7 := n0_; have HB := n1_; clear n0_ n1_; (try clear hb); (try clear hb2); (try clear hk); (try clear hi)))
                          go_meet
                          case rel => exact ⟨_, (false), (by first | rfl | (simp; done) | (simp [*]; done)), H', ⟨by have := HJ3.out; have := HJ18.out; first | omega | exact Nat.le_refl _⟩, ⟨by repeat (first | (with_reducible first | exact HB.out | apply below_alloc | apply pw_below_drewN | apply below_drew1) | exact HB.out)⟩⟩
                        · rw [if_neg c37] at H
                          have c37b0 : (a2.toList == ([97] : List UInt8)) = false := beq_eq_false_iff_ne.mpr c37
                          have c37b1 : (a2.toList != ([97] : List UInt8)) = true := bne_iff_ne.mpr c37
                          (first | rw [c37b0] | (simp only [i64_w, i32_w]; rw [c37b0]) | rw [c37b1] | skip)
                          replace H := Option.bind_eq_some_iff.mp H
                          obtain ⟨t198, A390, H⟩ := H
                          replace H : (decanterlaw21_FitOuter.j2 kj18 l0 l1 a2 (!t198)) = some r := H
                          have A39 := Aside0.mk A390
                          clear A390
                          have H' := Aside0.mk H
                          clear H
                          go_wp2_with (first | ((with_reducible refine gate_callee (f := 20) rfl ?_); refine goesL_ (some 41) rfl rfl Tryd.func20 (by kernel_rfl) rfl #[.string a2, .int .i64 1] rfl (by (try simp only [List.map_toArray, List.map_cons, List.map_nil]); first | done | rfl | (simp only [List.length_drop, List.length_take]; rfl)) ?_; (with_reducible refine (decanterref11_Is.calls kj18 a2 1 false _ A34.out).mono ?_); rintro e w40 ⟨rfl, hb⟩; refine ⟨_, rfl, ?_⟩; have n0_ := Aside0.mk (Kd.R_below (by (with_reducible repeat (first | apply Kd.R_alloc | apply Kd.R_drewN | apply Kd.R_drew)); exact HO_7.out) hb); have n1_ := Aside0.mk (below_step (by repeat (first | (with_reducible first | exact HB.out | apply below_alloc | apply pw_below_drewN | apply below_drew1) | exact HB.out)) hb); clear HO_7; clear HB; have HO_7 := n0_; have HB := n1_; clear n0_ n1_; (try clear hb); (try clear hb2); (try clear hk); (try clear hi); obtain ⟨Ao41, co41, eo41⟩ := Kd.R_slice HO_7.out; subst eo41) | (go_at_call 18; (with_reducible refine (fit_In.calls kj18 _ _ y192 a2 t198 _ ?side1 ?side2 ?side3 A39.out).mono ?_); (case side1 => repeat (first | exact (Kd.R_reads' HO_7.out).2.2 | (with_reducible refine Kd.C_alloc ?_ _) | (with_reducible refine Kd.C_drewN ?_ _) | (with_reducible refine Kd.C_drew ?_))); (case side2 => exact (Kd.R_reads' HO_7.out).2.1); (case side3 => exact GW.below HG.out (by repeat (first | (with_reducible first | exact HB.out | apply below_alloc | apply pw_below_drewN | apply below_drew1) | exact HB.out))); rintro e w42 ⟨rfl, hb⟩; have n0_ := Aside0.mk (Kd.R_below (by (with_reducible repeat (first | apply Kd.R_alloc | apply Kd.R_drewN | apply Kd.R_drew)); exact HO_7.out) hb); have n1_ := Aside0.mk (below_step (by repeat (first | (with_reducible first | exact HB.out | apply below_alloc | apply pw_below_drewN | apply below_drew1) | exact HB.out)) hb); clear HO_7; clear HB; have HO_7 := n0_; have HB := n1_; clear n0_ n1_; (try clear hb); (try clear hb2); (try clear hk); (try clear hi)))
                          go_meet
                          case rel => exact ⟨_, (!t198), (by first | rfl | (simp; done) | (simp [*]; done)), H', ⟨by have := HJ3.out; have := HJ18.out; first | omega | exact Nat.le_refl _⟩, ⟨by repeat (first | (with_reducible first | exact HB.out | apply below_alloc | apply pw_below_drewN | apply below_drew1) | exact HB.out)⟩⟩
                    case rest =>
                      clear HC33
                      try clear c1
                      try clear c2
                      try clear p2
                      try clear c3
                      try clear c5
                      try clear c6
                      try clear c7
                      try clear c7b0
                      try clear c7b1
                      try clear c9
                      try clear c9b0
                      try clear c9b1
                      try clear c13
                      try clear c16
                      try clear c17
                      try clear c18
                      try clear c20
                      try clear c26
                      try clear c32
                      try clear c35
                      try clear c37
                      try clear c37b0
                      try clear c37b1
                      try clear p2
                      obtain ⟨kq, x52_32, rfl, HA, HJ32, HB⟩ := hcut
                      cases kq with
                      | zero => exact absurd HA.out (by simp [decanterlaw21_FitOuter.j2])
                      | succ kj32 =>
                        have H := HA.out
                        clear HA
                        simp only [decanterlaw21_FitOuter.j2] at H
                        by_cases c43 : x52_32 = true
                        · subst c43
                          have H1 : (some false) = some r := by rw [if_pos rfl] at H; exact H
                          clear H
                          have H := H1
                          clear H1
                          obtain rfl := Option.some.inj H
                          go_wp2
                          go_ret
                          exact ⟨by first | rfl | (simp [errW_none, errW_some] <;> rfl) | (simp [*, errW_none, errW_some] <;> rfl), by repeat (first | (with_reducible first | exact HB.out | apply below_alloc | apply pw_below_drewN | apply below_drew1) | exact HB.out)⟩
                        · replace c43 := Bool.eq_false_iff.mpr c43
                          subst c43
                          have H1 : ((some (([] : List ByteArray) : List ByteArray)).bind fun y199 => (if y199.length + l0.length < 8796093022208 then ((some (y199 ++ l0 : List ByteArray)).bind fun y202 => (if y202.length < 8796093022208 then ((some (y202 ++ [(⟨#[97]⟩ : ByteArray)] : List ByteArray)).bind fun y205 => (if y205.length + l1.length < 8796093022208 then ((fit_In.f kj32 (y205 ++ l1) (⟨#[97]⟩ : ByteArray)).bind fun t211 => (if t211 = true then (some false) else ((fit_In.f kj32 ([] : List ByteArray) a2).bind fun t212 => (some t212)))) else (none))) else (none))) else (none))) = some r := by rw [if_neg (show ¬ (false = true) by decide)] at H; exact H
                          clear H
                          have H := H1
                          clear H1
                          obtain ⟨y199, hy199⟩ : ∃ y_ : List ByteArray, y_ = (([] : List ByteArray)) := ⟨_, rfl⟩
                          replace H : (if y199.length + l0.length < 8796093022208 then ((some (y199 ++ l0 : List ByteArray)).bind fun y202 => (if y202.length < 8796093022208 then ((some (y202 ++ [(⟨#[97]⟩ : ByteArray)] : List ByteArray)).bind fun y205 => (if y205.length + l1.length < 8796093022208 then ((fit_In.f kj32 (y205 ++ l1) (⟨#[97]⟩ : ByteArray)).bind fun t211 => (if t211 = true then (some false) else ((fit_In.f kj32 ([] : List ByteArray) a2).bind fun t212 => (some t212)))) else (none))) else (none))) else (none)) = some r := by first | (rw [hy199]; with_reducible exact H) | (have H2_ := (Option.bind_some _ _).symm.trans H; rw [hy199]; with_reducible exact H2_) | (have H2_ := (Option.bind_some _ _).symm.trans H; with_reducible exact H2_) | with_reducible exact H | (rw [hy199]; exact H) | exact H
                          have Ny199 := Aside0.mk hy199
                          clear hy199
                          by_cases c44 : y199.length + l0.length < 8796093022208
                          · rw [if_pos c44] at H
                            have LMc44 := Aside0.mk c44
                            clear c44
                            obtain ⟨y202, hy202⟩ : ∃ y_ : List ByteArray, y_ = (y199 ++ l0) := ⟨_, rfl⟩
                            replace H : (if y202.length < 8796093022208 then ((some (y202 ++ [(⟨#[97]⟩ : ByteArray)] : List ByteArray)).bind fun y205 => (if y205.length + l1.length < 8796093022208 then ((fit_In.f kj32 (y205 ++ l1) (⟨#[97]⟩ : ByteArray)).bind fun t211 => (if t211 = true then (some false) else ((fit_In.f kj32 ([] : List ByteArray) a2).bind fun t212 => (some t212)))) else (none))) else (none)) = some r := by first | (rw [hy202]; with_reducible exact H) | (have H2_ := (Option.bind_some _ _).symm.trans H; rw [hy202]; with_reducible exact H2_) | (have H2_ := (Option.bind_some _ _).symm.trans H; with_reducible exact H2_) | with_reducible exact H | (rw [hy202]; exact H) | exact H
                            have Ny202 := Aside0.mk hy202
                            clear hy202
                            by_cases c45 : y202.length < 8796093022208
                            · rw [if_pos c45] at H
                              have LMc45 := Aside0.mk c45
                              clear c45
                              obtain ⟨y205, hy205⟩ : ∃ y_ : List ByteArray, y_ = (y202 ++ [(⟨#[97]⟩ : ByteArray)]) := ⟨_, rfl⟩
                              replace H : (if y205.length + l1.length < 8796093022208 then ((fit_In.f kj32 (y205 ++ l1) (⟨#[97]⟩ : ByteArray)).bind fun t211 => (if t211 = true then (some false) else ((fit_In.f kj32 ([] : List ByteArray) a2).bind fun t212 => (some t212)))) else (none)) = some r := by first | (rw [hy205]; with_reducible exact H) | (have H2_ := (Option.bind_some _ _).symm.trans H; rw [hy205]; with_reducible exact H2_) | (have H2_ := (Option.bind_some _ _).symm.trans H; with_reducible exact H2_) | with_reducible exact H | (rw [hy205]; exact H) | exact H
                              have Ny205 := Aside0.mk hy205
                              clear hy205
                              by_cases c46 : y205.length + l1.length < 8796093022208
                              · rw [if_pos c46] at H
                                have LMc46 := Aside0.mk c46
                                clear c46
                                obtain ⟨y208, hy208⟩ : ∃ y_ : List ByteArray, y_ = (y205 ++ l1) := ⟨_, rfl⟩
                                replace H : ((fit_In.f kj32 y208 (⟨#[97]⟩ : ByteArray)).bind fun t211 => (if t211 = true then (some false) else ((fit_In.f kj32 ([] : List ByteArray) a2).bind fun t212 => (some t212)))) = some r := by first | (rw [hy208]; with_reducible exact H) | (have H2_ := (Option.bind_some _ _).symm.trans H; rw [hy208]; with_reducible exact H2_) | (have H2_ := (Option.bind_some _ _).symm.trans H; with_reducible exact H2_) | with_reducible exact H | (rw [hy208]; exact H) | exact H
                                have Ny208 := Aside0.mk hy208
                                clear hy208
                                replace H := Option.bind_eq_some_iff.mp H
                                obtain ⟨t211, A470, H⟩ := H
                                replace H : (if t211 = true then (some false) else ((fit_In.f kj32 ([] : List ByteArray) a2).bind fun t212 => (some t212))) = some r := H
                                have A47 := Aside0.mk A470
                                clear A470
                                by_cases c48 : t211 = true
                                · subst c48
                                  have H1 : (some false) = some r := by rw [if_pos rfl] at H; exact H
                                  clear H
                                  have H := H1
                                  clear H1
                                  obtain rfl := Option.some.inj H
                                  go_wp2_with (first | ((with_reducible refine gate_dst (N := 53) rfl ?_); (try (refine gate_guard (by rfl) ?_; dsimp only)); refine Kd.R_lit Kd.string _ 9 ?hg (N := 53) ?hd (xs := ([] : List ByteArray)) (inner := []) (ok := fun _ => True) (okp := fun _ => True) ?hr ?hp (fun _ hk => hk) trivial (Below.refl _ _) (Nat.le_refl _) (by simp) ?_; (case hd => rfl); (case hg => rfl); (case hr => first | (go_simp; done) | (go_simp; rfl)); (case hp => exact (Reps.none _ _)); intro v200 w49 ho50 hb hg_ hnew_; clear hg_ hnew_; (first | rw [← Ny199.out] at ho50 | (simp only [Int.reduceToNat] at ho50; rw [← Ny199.out] at ho50)); have n0_ := Aside0.mk (Kd.R_lower ho50 (below_size (by repeat (first | (with_reducible first | exact HB.out | apply below_alloc | apply pw_below_drewN | apply below_drew1) | exact HB.out)))); have n1_ := Aside0.mk (below_step (by repeat (first | (with_reducible first | exact HB.out | apply below_alloc | apply pw_below_drewN | apply below_drew1) | exact HB.out)) hb); clear HB; have HO201 := n0_; have HB := n1_; clear n0_ n1_; clear hb ho50) | ((with_reducible refine gate_builtin (b := .append) (xs := #[.tmp 53, .tmp 54]) rfl ?_); (try (refine gate_guard (by rfl) ?_; dsimp only)); at_builtin; refine Kd.R_append_rows Kd.string (w0 := w) w.heap.size rfl (.tmp 53) (.tmp 54) 25 9 (.string ⟨#[]⟩) 16 rfl Tryd.underlying25 info9 rfl (by decide) (by omega) v200 y199 l0 _ _ _ (fun _ => True) (fun _ => False) rfl rfl ?aO ?aR (fun _ _ h => h) (fun _ h => h.elim) ?aF ?aB ?aS ?aL ?_; (case aR => repeat (first | exact (Kd.C_below HR0.out HB.out) | (with_reducible refine Kd.C_alloc ?_ _) | (with_reducible refine Kd.C_drewN ?_ _) | (with_reducible refine Kd.C_drew ?_))); (case aB => exact (by repeat (first | (with_reducible first | exact HB.out | apply below_alloc | apply pw_below_drewN | apply below_drew1) | exact HB.out))); (case aF => exact (fun _ _ => trivial)); (case aO => exact (by (with_reducible repeat (first | apply Kd.R_alloc | apply Kd.R_drewN | apply Kd.R_drew)); exact HO201.out)); (case aS => exact (below_size (by repeat (first | (with_reducible first | exact HB.out | apply below_alloc | apply pw_below_drewN | apply below_drew1) | exact HB.out)))); (case aL => have := LMc44.out; omega); intro v203 w51 ho hb hg hat; rw [← Ny202.out] at ho; have n0_ := Aside0.mk (hb); have n1_ := Aside0.mk (ho); clear HB; clear HO201; have HB := n0_; have HO204 := n1_; clear n0_ n1_; clear ho hb hg hat) | ((with_reducible refine gate_builtin (b := .append) (xs := #[.tmp 55, .tmp 56]) rfl ?_); (try (refine gate_guard (by rfl) ?_; dsimp only)); at_builtin; refine Kd.R_append Kd.string (w0 := w) w.heap.size rfl (.tmp 55) (.tmp 56) 25 9 (.string ⟨#[]⟩) 16 rfl Tryd.underlying25 info9 rfl (by decide) (by omega) v203 y202 (⟨#[97]⟩ : ByteArray) [.string (⟨#[97]⟩ : ByteArray)] (fun _ => True) (fun _ => False) rfl rfl ?aP (fun _ hk => hk.elim) ?aF ?aO ?aB ?aS ?aL ?_; (case aP => exact rfl); (case aB => exact (by repeat (first | (with_reducible first | exact HB.out | apply below_alloc | apply pw_below_drewN | apply below_drew1) | exact HB.out))); (case aF => exact (fun _ _ => trivial)); (case aO => exact (by (with_reducible repeat (first | apply Kd.R_alloc | apply Kd.R_drewN | apply Kd.R_drew)); exact HO204.out)); (case aS => exact (below_size (by repeat (first | (with_reducible first | exact HB.out | apply below_alloc | apply pw_below_drewN | apply below_drew1) | exact HB.out)))); (case aL => have := LMc45.out; omega); intro v206 w52 ho hb hg hat; rw [← Ny205.out] at ho; have n0_ := Aside0.mk (hb); have n1_ := Aside0.mk (ho); clear HB; clear HO204; have HB := n0_; have HO207 := n1_; clear n0_ n1_; clear ho hb hg hat) | ((with_reducible refine gate_builtin (b := .append) (xs := #[.tmp 57, .tmp 58]) rfl ?_); (try (refine gate_guard (by rfl) ?_; dsimp only)); at_builtin; refine Kd.R_append_rows Kd.string (w0 := w) w.heap.size rfl (.tmp 57) (.tmp 58) 25 9 (.string ⟨#[]⟩) 16 rfl Tryd.underlying25 info9 rfl (by decide) (by omega) v206 y205 l1 _ _ _ (fun _ => True) (fun _ => False) rfl rfl ?aO ?aR (fun _ _ h => h) (fun _ h => h.elim) ?aF ?aB ?aS ?aL ?_; (case aR => repeat (first | exact (Kd.C_below HR1.out HB.out) | (with_reducible refine Kd.C_alloc ?_ _) | (with_reducible refine Kd.C_drewN ?_ _) | (with_reducible refine Kd.C_drew ?_))); (case aB => exact (by repeat (first | (with_reducible first | exact HB.out | apply below_alloc | apply pw_below_drewN | apply below_drew1) | exact HB.out))); (case aF => exact (fun _ _ => trivial)); (case aO => exact (by (with_reducible repeat (first | apply Kd.R_alloc | apply Kd.R_drewN | apply Kd.R_drew)); exact HO207.out)); (case aS => exact (below_size (by repeat (first | (with_reducible first | exact HB.out | apply below_alloc | apply pw_below_drewN | apply below_drew1) | exact HB.out)))); (case aL => have := LMc46.out; omega); intro v209 w53 ho hb hg hat; rw [← Ny208.out] at ho; have n0_ := Aside0.mk (hb); have n1_ := Aside0.mk (ho); clear HB; clear HO207; have HB := n0_; have HO210 := n1_; clear n0_ n1_; clear ho hb hg hat; obtain ⟨Ao54, co54, eo54⟩ := Kd.R_slice HO210.out; subst eo54) | ((with_reducible refine gate_callee (f := 18) rfl ?_); refine goesL_ (some 60) rfl rfl Tryd.func18 (by kernel_rfl) rfl #[.slice Ao54 y208.length co54, .string (⟨#[97]⟩ : ByteArray)] rfl (by (try simp only [List.map_toArray, List.map_cons, List.map_nil]); first | done | rfl | (simp only [List.length_drop, List.length_take]; rfl)) ?_; (with_reducible refine (fit_In.calls kj32 _ _ y208 (⟨#[97]⟩ : ByteArray) true _ ?side1 ?side2 ?side3 A47.out).mono ?_); (case side1 => repeat (first | exact (Kd.R_reads' HO210.out).2.2 | (with_reducible refine Kd.C_alloc ?_ _) | (with_reducible refine Kd.C_drewN ?_ _) | (with_reducible refine Kd.C_drew ?_))); (case side2 => exact (Kd.R_reads' HO210.out).2.1); (case side3 => exact GW.below HG.out (by repeat (first | (with_reducible first | exact HB.out | apply below_alloc | apply pw_below_drewN | apply below_drew1) | exact HB.out))); rintro e w55 ⟨rfl, hb⟩; refine ⟨_, rfl, ?_⟩; have n0_ := Aside0.mk (Kd.R_below (by (with_reducible repeat (first | apply Kd.R_alloc | apply Kd.R_drewN | apply Kd.R_drew)); exact HO210.out) hb); have n1_ := Aside0.mk (below_step (by repeat (first | (with_reducible first | exact HB.out | apply below_alloc | apply pw_below_drewN | apply below_drew1) | exact HB.out)) hb); clear HO210; clear HB; have HO210 := n0_; have HB := n1_; clear n0_ n1_; (try clear hb); (try clear hb2); (try clear hk); (try clear hi)))
                                  go_ret
                                  exact ⟨by first | rfl | (simp [errW_none, errW_some] <;> rfl) | (simp [*, errW_none, errW_some] <;> rfl), by repeat (first | (with_reducible first | exact HB.out | apply below_alloc | apply pw_below_drewN | apply below_drew1) | exact HB.out)⟩
                                · replace c48 := Bool.eq_false_iff.mpr c48
                                  subst c48
                                  have H1 : ((fit_In.f kj32 ([] : List ByteArray) a2).bind fun t212 => (some t212)) = some r := by rw [if_neg (show ¬ (false = true) by decide)] at H; exact H
                                  clear H
                                  have H := H1
                                  clear H1
                                  replace H := Option.bind_eq_some_iff.mp H
                                  obtain ⟨t212, A560, H⟩ := H
                                  replace H : (some t212) = some r := H
                                  have A56 := Aside0.mk A560
                                  clear A560
                                  obtain rfl := Option.some.inj H
                                  go_wp2_with (first | ((with_reducible refine gate_dst (N := 53) rfl ?_); (try (refine gate_guard (by rfl) ?_; dsimp only)); refine Kd.R_lit Kd.string _ 9 ?hg (N := 53) ?hd (xs := ([] : List ByteArray)) (inner := []) (ok := fun _ => True) (okp := fun _ => True) ?hr ?hp (fun _ hk => hk) trivial (Below.refl _ _) (Nat.le_refl _) (by simp) ?_; (case hd => rfl); (case hg => rfl); (case hr => first | (go_simp; done) | (go_simp; rfl)); (case hp => exact (Reps.none _ _)); intro v200 w57 ho58 hb hg_ hnew_; clear hg_ hnew_; (first | rw [← Ny199.out] at ho58 | (simp only [Int.reduceToNat] at ho58; rw [← Ny199.out] at ho58)); have n0_ := Aside0.mk (Kd.R_lower ho58 (below_size (by repeat (first | (with_reducible first | exact HB.out | apply below_alloc | apply pw_below_drewN | apply below_drew1) | exact HB.out)))); have n1_ := Aside0.mk (below_step (by repeat (first | (with_reducible first | exact HB.out | apply below_alloc | apply pw_below_drewN | apply below_drew1) | exact HB.out)) hb); clear HB; have HO201 := n0_; have HB := n1_; clear n0_ n1_; clear hb ho58) | ((with_reducible refine gate_builtin (b := .append) (xs := #[.tmp 53, .tmp 54]) rfl ?_); (try (refine gate_guard (by rfl) ?_; dsimp only)); at_builtin; refine Kd.R_append_rows Kd.string (w0 := w) w.heap.size rfl (.tmp 53) (.tmp 54) 25 9 (.string ⟨#[]⟩) 16 rfl Tryd.underlying25 info9 rfl (by decide) (by omega) v200 y199 l0 _ _ _ (fun _ => True) (fun _ => False) rfl rfl ?aO ?aR (fun _ _ h => h) (fun _ h => h.elim) ?aF ?aB ?aS ?aL ?_; (case aR => repeat (first | exact (Kd.C_below HR0.out HB.out) | (with_reducible refine Kd.C_alloc ?_ _) | (with_reducible refine Kd.C_drewN ?_ _) | (with_reducible refine Kd.C_drew ?_))); (case aB => exact (by repeat (first | (with_reducible first | exact HB.out | apply below_alloc | apply pw_below_drewN | apply below_drew1) | exact HB.out))); (case aF => exact (fun _ _ => trivial)); (case aO => exact (by (with_reducible repeat (first | apply Kd.R_alloc | apply Kd.R_drewN | apply Kd.R_drew)); exact HO201.out)); (case aS => exact (below_size (by repeat (first | (with_reducible first | exact HB.out | apply below_alloc | apply pw_below_drewN | apply below_drew1) | exact HB.out)))); (case aL => have := LMc44.out; omega); intro v203 w59 ho hb hg hat; rw [← Ny202.out] at ho; have n0_ := Aside0.mk (hb); have n1_ := Aside0.mk (ho); clear HB; clear HO201; have HB := n0_; have HO204 := n1_; clear n0_ n1_; clear ho hb hg hat) | ((with_reducible refine gate_builtin (b := .append) (xs := #[.tmp 55, .tmp 56]) rfl ?_); (try (refine gate_guard (by rfl) ?_; dsimp only)); at_builtin; refine Kd.R_append Kd.string (w0 := w) w.heap.size rfl (.tmp 55) (.tmp 56) 25 9 (.string ⟨#[]⟩) 16 rfl Tryd.underlying25 info9 rfl (by decide) (by omega) v203 y202 (⟨#[97]⟩ : ByteArray) [.string (⟨#[97]⟩ : ByteArray)] (fun _ => True) (fun _ => False) rfl rfl ?aP (fun _ hk => hk.elim) ?aF ?aO ?aB ?aS ?aL ?_; (case aP => exact rfl); (case aB => exact (by repeat (first | (with_reducible first | exact HB.out | apply below_alloc | apply pw_below_drewN | apply below_drew1) | exact HB.out))); (case aF => exact (fun _ _ => trivial)); (case aO => exact (by (with_reducible repeat (first | apply Kd.R_alloc | apply Kd.R_drewN | apply Kd.R_drew)); exact HO204.out)); (case aS => exact (below_size (by repeat (first | (with_reducible first | exact HB.out | apply below_alloc | apply pw_below_drewN | apply below_drew1) | exact HB.out)))); (case aL => have := LMc45.out; omega); intro v206 w60 ho hb hg hat; rw [← Ny205.out] at ho; have n0_ := Aside0.mk (hb); have n1_ := Aside0.mk (ho); clear HB; clear HO204; have HB := n0_; have HO207 := n1_; clear n0_ n1_; clear ho hb hg hat) | ((with_reducible refine gate_builtin (b := .append) (xs := #[.tmp 57, .tmp 58]) rfl ?_); (try (refine gate_guard (by rfl) ?_; dsimp only)); at_builtin; refine Kd.R_append_rows Kd.string (w0 := w) w.heap.size rfl (.tmp 57) (.tmp 58) 25 9 (.string ⟨#[]⟩) 16 rfl Tryd.underlying25 info9 rfl (by decide) (by omega) v206 y205 l1 _ _ _ (fun _ => True) (fun _ => False) rfl rfl ?aO ?aR (fun _ _ h => h) (fun _ h => h.elim) ?aF ?aB ?aS ?aL ?_; (case aR => repeat (first | exact (Kd.C_below HR1.out HB.out) | (with_reducible refine Kd.C_alloc ?_ _) | (with_reducible refine Kd.C_drewN ?_ _) | (with_reducible refine Kd.C_drew ?_))); (case aB => exact (by repeat (first | (with_reducible first | exact HB.out | apply below_alloc | apply pw_below_drewN | apply below_drew1) | exact HB.out))); (case aF => exact (fun _ _ => trivial)); (case aO => exact (by (with_reducible repeat (first | apply Kd.R_alloc | apply Kd.R_drewN | apply Kd.R_drew)); exact HO207.out)); (case aS => exact (below_size (by repeat (first | (with_reducible first | exact HB.out | apply below_alloc | apply pw_below_drewN | apply below_drew1) | exact HB.out)))); (case aL => have := LMc46.out; omega); intro v209 w61 ho hb hg hat; rw [← Ny208.out] at ho; have n0_ := Aside0.mk (hb); have n1_ := Aside0.mk (ho); clear HB; clear HO207; have HB := n0_; have HO210 := n1_; clear n0_ n1_; clear ho hb hg hat; obtain ⟨Ao62, co62, eo62⟩ := Kd.R_slice HO210.out; subst eo62) | ((with_reducible refine gate_callee (f := 18) rfl ?_); refine goesL_ (some 60) rfl rfl Tryd.func18 (by kernel_rfl) rfl #[.slice Ao62 y208.length co62, .string (⟨#[97]⟩ : ByteArray)] rfl (by (try simp only [List.map_toArray, List.map_cons, List.map_nil]); first | done | rfl | (simp only [List.length_drop, List.length_take]; rfl)) ?_; (with_reducible refine (fit_In.calls kj32 _ _ y208 (⟨#[97]⟩ : ByteArray) false _ ?side1 ?side2 ?side3 A47.out).mono ?_); (case side1 => repeat (first | exact (Kd.R_reads' HO210.out).2.2 | (with_reducible refine Kd.C_alloc ?_ _) | (with_reducible refine Kd.C_drewN ?_ _) | (with_reducible refine Kd.C_drew ?_))); (case side2 => exact (Kd.R_reads' HO210.out).2.1); (case side3 => exact GW.below HG.out (by repeat (first | (with_reducible first | exact HB.out | apply below_alloc | apply pw_below_drewN | apply below_drew1) | exact HB.out))); rintro e w63 ⟨rfl, hb⟩; refine ⟨_, rfl, ?_⟩; have n0_ := Aside0.mk (Kd.R_below (by (with_reducible repeat (first | apply Kd.R_alloc | apply Kd.R_drewN | apply Kd.R_drew)); exact HO210.out) hb); have n1_ := Aside0.mk (below_step (by repeat (first | (with_reducible first | exact HB.out | apply below_alloc | apply pw_below_drewN | apply below_drew1) | exact HB.out)) hb); clear HO210; clear HB; have HO210 := n0_; have HB := n1_; clear n0_ n1_; (try clear hb); (try clear hb2); (try clear hk); (try clear hi)) | (go_at_call 18; (refine (fit_In.calls kj32 _ _ ([] : List ByteArray) a2 t212 _ ?side1 ?side2 ?side3 A56.out).mono ?_); (case side1 => exact Kd.C_nil _ _); (case side2 => exact Nat.le_refl _); (case side3 => exact GW.below HG.out (by repeat (first | (with_reducible first | exact HB.out | apply below_alloc | apply pw_below_drewN | apply below_drew1) | exact HB.out))); rintro e w64 ⟨rfl, hb⟩; have n0_ := Aside0.mk (Kd.R_below (by (with_reducible repeat (first | apply Kd.R_alloc | apply Kd.R_drewN | apply Kd.R_drew)); exact HO210.out) hb); have n1_ := Aside0.mk (below_step (by repeat (first | (with_reducible first | exact HB.out | apply below_alloc | apply pw_below_drewN | apply below_drew1) | exact HB.out)) hb); clear HO210; clear HB; have HO210 := n0_; have HB := n1_; clear n0_ n1_; (try clear hb); (try clear hb2); (try clear hk); (try clear hi)))
                                  go_ret
                                  exact ⟨by first | rfl | (simp [errW_none, errW_some] <;> rfl) | (simp [*, errW_none, errW_some] <;> rfl), by repeat (first | (with_reducible first | exact HB.out | apply below_alloc | apply pw_below_drewN | apply below_drew1) | exact HB.out)⟩
                              · rw [if_neg c46] at H
                                exact absurd H (by simp)
                            · rw [if_neg c45] at H
                              exact absurd H (by simp)
                          · rw [if_neg c44] at H
                            exact absurd H (by simp)
            · rw [if_neg c18] at H
              exact absurd H (by simp)
          · rw [if_neg c17] at H
            exact absurd H (by simp)
        · rw [if_neg c16] at H
          exact absurd H (by simp)

end Go.Proofs.YteahlapoeiikoaaDoor.P

/-
  FitIn and FitOuter, about plain functions. Condition: no text is longer than 2^59 bytes.
-/

namespace Go.Proofs.YteahlapoeiikoaaDoor.Pure
open Go.RowKit Go.Proofs.YteahlapoeiikoaaDoor.P Go.Proofs.YteahlapoeiikoaaDoorW.PrintWords Go.Proofs.YteahlapoeiikoaaDoorW.PrintLast

theorem fits_of {o : List ByteArray} {n : ByteArray} {M k : Nat} (h1 : ∀ x ∈ o, x.size ≤ M) (h2 : n.size ≤ M) (h3 : M ≤ 1152921504606846000) (h4 : o.length ≤ 1000) (h5 : M + 2110 ≤ k) : Fits o n M k := ⟨h1, h2, h3, by omega, by omega⟩

theorem fitIn' {o : List ByteArray} {n : ByteArray} {M k : Nat} (h1 : ∀ x ∈ o, x.size ≤ M) (h2 : n.size ≤ M) (h3 : M ≤ 1152921504606846000) (h4 : o.length ≤ 1000) (h5 : M + 2200 ≤ k) : fit_In.f k o n = some (inB o n) := by
  obtain ⟨q, rfl⟩ : ∃ m, k = m + 3 := ⟨k - 3, by omega⟩
  exact fitIn o n M q (fits_of h1 h2 h3 h4 (by omega))
theorem refIn' {o : List ByteArray} {n : ByteArray} {M k : Nat} (h1 : ∀ x ∈ o, x.size ≤ M) (h2 : n.size ≤ M) (h3 : M ≤ 1152921504606846000) (h4 : o.length ≤ 1000) (h5 : M + 2200 ≤ k) : decanterref21_In.f k o n = some (inB o n) := by
  obtain ⟨q, rfl⟩ : ∃ m, k = m + 3 := ⟨k - 3, by omega⟩
  exact refIn o n M q (fits_of h1 h2 h3 h4 (by omega))

set_option maxRecDepth 100000 in
theorem speaks21 (k : Nat) (hk : 2200 ≤ k) : decanterlaw21_speaks.f k = some true := by
  obtain ⟨k, rfl⟩ : ∃ m, k = m + 3 := ⟨k - 3, by omega⟩
  have f := fun (o : List ByteArray) (n : ByteArray) (h1 : ∀ x ∈ o, x.size ≤ 10) (h2 : n.size ≤ 10) (h4 : o.length ≤ 1000) => fitIn o n 10 k (fits_of h1 h2 (by decide) h4 (by omega))
  rw [decanterlaw21_speaks.f, f _ _ (by decide) (by decide) (by decide), f _ _ (by decide) (by decide) (by decide), f _ _ (by decide) (by decide) (by decide)]
  have e1 : inB [⟨#[98]⟩] ⟨#[100, 105, 118]⟩ = true := by decide +kernel
  have e2 : inB [⟨#[112]⟩] ⟨#[100, 105, 118]⟩ = false := by decide +kernel
  have e3 : inB [⟨#[112]⟩, ⟨#[98]⟩] ⟨#[100, 105, 118]⟩ = false := by decide +kernel
  rw [e1, e2, e3]
  rfl

theorem fitIn_loop (o l : List ByteArray) (M : Nat) (h1 : ∀ x ∈ o, x.size ≤ M) (h2 : ∀ x ∈ l, x.size ≤ M) (h3 : M ≤ 1152921504606846000) (h4 : o.length ≤ 1000) (hl : l.length ≤ 1000) (d : Nat) : ∀ (k i : Nat), i ≤ l.length → l.length - i = d → d + M + 3000 < k →
    decanterlaw21_FitIn.l0 k o l (l.length : Int) (i : Int) = some true := by
  induction d with
  | zero =>
    intro k i hi hd hk
    obtain ⟨k, rfl⟩ : ∃ m, k = m + 1 := ⟨k - 1, by omega⟩
    simp only [decanterlaw21_FitIn.l0]
    rw [if_neg (by omega)]
  | succ d ih =>
    intro k i hi hd hk
    obtain ⟨k, rfl⟩ : ∃ m, k = m + 1 := ⟨k - 1, by omega⟩
    have hlt : i < l.length := by omega
    have hih := ih k (i + 1) (by omega) (by omega) (by omega)
    simp only [decanterlaw21_FitIn.l0]
    rw [if_pos (by omega), if_pos (by omega), if_pos (by omega), rd_get l i hlt, fitIn' h1 (h2 _ (List.getElem_mem hlt)) h3 h4 (by omega), refIn' h1 (h2 _ (List.getElem_mem hlt)) h3 h4 (by omega)]
    simp only [Option.bind_some]
    have e : ((i : Int) + 1) = ((i + 1 : Nat) : Int) := by omega
    rw [wrap_id (by omega) (by omega), e, hih]
    simp

theorem fitInLaw (o : List ByteArray) (n : ByteArray) (M : Nat) (h1 : ∀ x ∈ o, x.size ≤ M) (h3 : M ≤ 1152921504606840000) : ∃ k, decanterlaw21_FitIn.f k o n = some true := by
  have hj : ∀ k, 2300 ≤ k → decanterlaw21_FitIn.j0 (k + 1) o n true = some true := by
    intro k hk
    simp only [decanterlaw21_FitIn.j0, if_true]
    rw [speaks21 k (by omega)]
    rfl
  refine ⟨M + 6001, ?_⟩
  rw [decanterlaw21_FitIn.f, speaks21 _ (by omega)]
  simp only [Option.bind_some, if_true]
  by_cases ho : (o.length : Int) > 40
  · rw [if_pos ho]; exact hj _ (by omega)
  · rw [if_neg ho]
    by_cases hn : (n.size : Int) > 60
    · rw [decide_eq_true hn]; exact hj _ (by omega)
    · rw [decide_eq_false hn]
      simp only [decanterlaw21_FitIn.j0, Bool.false_eq_true, if_false, Option.bind_some]
      refine fitIn_loop o _ (M + 60) (fun x hx => by have := h1 x hx; omega) ?_ (by omega) (by omega) (by simp) 10 (M + 6000) 0 (by simp) (by simp) (by omega)
      intro x hx
      simp only [List.mem_cons, List.mem_nil_iff, or_false] at hx
      rcases hx with rfl | rfl | rfl | rfl | rfl | rfl | rfl | rfl | rfl | rfl <;> first | omega | (show _ ≤ M + 60; exact Nat.le_trans (by decide : _ ≤ 60) (by omega))

theorem memB_append (x : ByteArray) (a b : List ByteArray) : memB x (a ++ b) = (memB x a || memB x b) := by simp [memB]
theorem memB_self (x : ByteArray) (a : List ByteArray) : memB x (x :: a) = true := by rw [memB_cons, beq_self_eq_true, Bool.true_or]

/-- What isn't allowed in a p isn't in anything that stands in it. -/
theorem in_closer (a b : List ByteArray) (n : ByteArray) (h : kB n 1 = true) : inB (a ++ [nP] ++ b) n = false := by
  have e : memB nP (a ++ [nP] ++ b) = true := by rw [memB_append, memB_append, memB_self, Bool.or_true, Bool.true_or]
  unfold inB
  rw [h, e]
  rfl
/-- No a stands in an a. -/
theorem in_a (a b : List ByteArray) : inB (a ++ [nA] ++ b) nA = false := by
  have e : memB nA (a ++ [nA] ++ b) = true := by rw [memB_append, memB_append, memB_self, Bool.or_true, Bool.true_or]
  have e2 : (nA.toList == [97]) = true := by decide +kernel
  unfold inB
  rw [e, e2]
  split
  · rfl
  · split
    · rfl
    · split <;> rfl
set_option maxRecDepth 100000 in
theorem closers : ∀ w, w ∈ words 2 → w ∈ words 1 := by decide +kernel
set_option maxRecDepth 100000 in
theorem items_close : ([108, 105] : List UInt8) ∈ words 1 ∧ ([100, 100] : List UInt8) ∈ words 1 ∧ ([100, 116] : List UInt8) ∈ words 1 := by decide +kernel
/-- What is no Closer and no a fits anywhere. -/
theorem in_any (o : List ByteArray) (n : ByteArray) (h : kB n 1 = false) (ha : ¬ n.toList = [97]) : inB o n = true := by
  have h2 : kB n 2 = false := by
    unfold kB at h ⊢
    rw [decide_eq_false_iff_not] at h ⊢
    exact fun hm => h (closers _ hm)
  have hne : ∀ w : List UInt8, w ∈ words 1 → ¬ n.toList = w := by
    intro w hw e
    unfold kB at h
    rw [decide_eq_false_iff_not] at h
    rw [ByteArray.toList_eq] at e
    exact h (e ▸ hw)
  have h3 := nested_no (o := o) (hne _ items_close.1) (hne _ items_close.2.1) (hne _ items_close.2.2)
  unfold inB
  rw [h, h2, h3, beq_eq_false_iff_ne.2 ha]
  rfl
/-- All fits in nothing. -/
theorem in_nil (n : ByteArray) : inB [] n = true := by
  have e : kB (lastOf []) 2 = false := by decide +kernel
  have e2 : nestedB [] n = false := by unfold nestedB; rfl
  unfold inB
  rw [e, e2]
  simp [memB]

theorem fitOuterLaw (a b : List ByteArray) (n : ByteArray) (M : Nat) (h1 : ∀ x ∈ a, x.size ≤ M) (h2 : ∀ x ∈ b, x.size ≤ M) (h3 : M ≤ 1152921504606840000) : ∃ k, decanterlaw21_FitOuter.f k a b n = some true := by
  have hj : ∀ k, 2300 ≤ k → decanterlaw21_FitOuter.j0 (k + 1) a b n true = some true := by
    intro k hk
    simp only [decanterlaw21_FitOuter.j0, if_true]
    rw [speaks21 k (by omega)]
    rfl
  refine ⟨M + 6001, ?_⟩
  rw [decanterlaw21_FitOuter.f, speaks21 _ (by omega)]
  simp only [Option.bind_some, if_true]
  by_cases ha : (a.length : Int) > 20
  · rw [if_pos ha]; exact hj _ (by omega)
  rw [if_neg ha]
  by_cases hb : (b.length : Int) > 20
  · rw [if_pos hb]; exact hj _ (by omega)
  rw [if_neg hb]
  by_cases hn : (n.size : Int) > 60
  · rw [decide_eq_true hn]; exact hj _ (by omega)
  rw [decide_eq_false hn]
  have hM : ∀ (x : ByteArray), x.size = 1 → ∀ y ∈ a ++ [x] ++ b, y.size ≤ M + 60 := by
    intro x hx y hy
    simp only [List.append_assoc, List.mem_append, List.mem_cons, List.mem_nil_iff, or_false] at hy
    rcases hy with hy | hy | hy
    · have := h1 y hy; omega
    · subst hy; omega
    · have := h2 y hy; omega
  have l1 : ∀ x : ByteArray, (a ++ [x] ++ b).length ≤ 1000 := by intro x; simp; omega
  have f1 := fun k (hk : M + 2300 ≤ k) => fitIn' (o := a ++ [nP] ++ b) (n := n) (M := M + 60) (k := k) (hM nP rfl) (by omega) (by omega) (l1 _) (by omega)
  have f2 := fun k (hk : M + 2300 ≤ k) => fitIn' (o := a ++ [nA] ++ b) (n := nA) (M := M + 60) (k := k) (hM nA rfl) (by show 1 ≤ _; omega) (by omega) (l1 _) (by omega)
  have f3 := fun k (hk : M + 2300 ≤ k) => fitIn' (o := []) (n := n) (M := M + 60) (k := k) (by simp) (by omega) (by omega) (by simp) (by omega)
  have i1 := fun k (hk : M + 2300 ≤ k) => refIs_k n (by omega) 1 (by decide) k (by omega)
  have hend : ∀ k, M + 2300 ≤ k → decanterlaw21_FitOuter.j2 (k + 1) a b n false = some true := by
    intro k hk
    simp only [decanterlaw21_FitOuter.j2, Bool.false_eq_true, if_false, Option.bind_some, List.nil_append, List.length_nil, List.length_append, List.length_cons]
    rw [if_pos (by omega), if_pos (by omega), if_pos (by omega), f2 k hk, in_a]
    simp only [Option.bind_some, Bool.false_eq_true, if_false]
    rw [f3 k hk, in_nil]
    rfl
  have hmid : ∀ k, M + 2300 ≤ k → decanterlaw21_FitOuter.j1 (k + 1 + 1) a b n (a ++ [nP] ++ b) false = some true := by
    intro k hk
    simp only [decanterlaw21_FitOuter.j1, Bool.false_eq_true, if_false]
    rw [show (1 : Int) = ((1 : Nat) : Int) from rfl, i1 (k + 1) (by omega)]
    simp only [Option.bind_some]
    cases hk1 : kB n 1 with
    | true => rw [if_pos rfl]; exact hend k hk
    | false =>
      rw [if_neg (by decide)]
      by_cases hna : n.toList = [97]
      · rw [if_pos hna]; exact hend k hk
      · rw [if_neg hna, f1 (k + 1) (by omega), in_any _ _ hk1 hna]
        simp only [Option.bind_some, Bool.not_true]
        exact hend k hk
  simp only [decanterlaw21_FitOuter.j0, Bool.false_eq_true, if_false, Option.bind_some, List.nil_append, List.length_nil, List.length_append, List.length_cons]
  rw [if_pos (by omega), if_pos (by omega), if_pos (by omega), show (1 : Int) = ((1 : Nat) : Int) from rfl, i1 (M + 6000) (by omega)]
  simp only [Option.bind_some]
  cases hk1 : kB n 1 with
  | true =>
    rw [if_pos rfl, f1 (M + 6000) (by omega), in_closer _ _ _ hk1]
    exact hmid (M + 5998) (by omega)
  | false =>
    rw [if_neg (by decide)]
    exact hmid (M + 5998) (by omega)
end Go.Proofs.YteahlapoeiikoaaDoor.Pure
