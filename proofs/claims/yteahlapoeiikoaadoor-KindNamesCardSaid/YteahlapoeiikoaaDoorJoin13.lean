
import Derived.Test.YteahlapoeiikoaaDoorJoin12
import Derived.Test.YteahlapoeiikoaaDoorKindAll
import Derived.Test.YteahlapoeiikoaaDoorKindsC
import Derived.Laws.Runes
-- Printed by a program of this session (wip/myprint.py over the kit's print).
namespace Go.Proofs.YteahlapoeiikoaaDoor.P
open Go.RowKit Go.Proofs.YteahlapoeiikoaaDoorW.PrintWords Go.Proofs.YteahlapoeiikoaaDoorW.PrintLast Go.Proofs.YteahlapoeiikoaaDoorW.PrintMore
attribute [local go_sem] max2_int min2_int max_two min_two max_three min_three max_four min_four   -- for this text's walks alone
set_option linter.unusedVariables false
set_option linter.unusedSimpArgs false

/-! ### decanterlaw11_KindPlain: function 12 -/
mutual
def decanterlaw11_KindPlain.j0 : Nat → ByteArray → Int → Bool → Option (Bool)
  | 0, _, _, _ => none
  | k + 1, x0, x1, x17 => if x17 = true then ((decanterlaw11_speaks.f).bind fun t306 => (some t306)) else (decanterlaw11_KindPlain.l0 k x0 x1 (x0.toList != ([] : List UInt8)) (x0.size : Int) 0)
def decanterlaw11_KindPlain.l0 : Nat → ByteArray → Int → Bool → Int → Int → Option (Bool)
  | 0, _, _, _, _, _ => none
  | k + 1, x0, x1, x5, x22, x23 => if x23 < x22 then (if 0 ≤ x23 then (if x23 < (x0.size : Int) then (if x5 = true then (if (bt x0 x23) ≥ 97 then (if (bt x0 x23) ≤ 122 then (decanterlaw11_KindPlain.l0 k x0 x1 true x22 (wrap64 (x23 + 1))) else (if (bt x0 x23) ≥ 48 then (decanterlaw11_KindPlain.l0 k x0 x1 (decide ((bt x0 x23) ≤ 57)) x22 (wrap64 (x23 + 1))) else (decanterlaw11_KindPlain.l0 k x0 x1 false x22 (wrap64 (x23 + 1))))) else (if (bt x0 x23) ≥ 48 then (decanterlaw11_KindPlain.l0 k x0 x1 (decide ((bt x0 x23) ≤ 57)) x22 (wrap64 (x23 + 1))) else (decanterlaw11_KindPlain.l0 k x0 x1 false x22 (wrap64 (x23 + 1))))) else (decanterlaw11_KindPlain.l0 k x0 x1 false x22 (wrap64 (x23 + 1)))) else (none)) else (none)) else (if x5 = true then (decanterlaw11_KindPlain.j2 k x1 false) else ((kind_Of.f x0).bind fun t307 => (if t307 = 0 then ((kind_Is.f x0 (-1)).bind fun t308 => (decanterlaw11_KindPlain.j2 k x1 t308)) else (decanterlaw11_KindPlain.j2 k x1 true))))
def decanterlaw11_KindPlain.j2 : Nat → Int → Bool → Option (Bool)
  | 0, _, _ => none
  | k + 1, x1, x57 => if x57 = true then (some false) else ((kind_All.f (-1)).bind fun t309 => (if (t309.length : Int) = 0 then (some false) else (if 0 ≤ (Int.tmod (wrap64 (x1)) (t309.length : Int)) then (if (Int.tmod (wrap64 (x1)) (t309.length : Int)) < (t309.length : Int) then (if 0 < ((rdOf ByteArray.empty t309 (Int.tmod (wrap64 (x1)) (t309.length : Int))).size : Int) then (if 1 ≤ ((rdOf ByteArray.empty t309 (Int.tmod (wrap64 (x1)) (t309.length : Int))).size : Int) then (if (Go.Utf8.encode (((bt (rdOf ByteArray.empty t309 (Int.tmod (wrap64 (x1)) (t309.length : Int))) 0) - 32) % 256)).size + ((rdOf ByteArray.empty t309 (Int.tmod (wrap64 (x1)) (t309.length : Int))).extract 1 (rdOf ByteArray.empty t309 (Int.tmod (wrap64 (x1)) (t309.length : Int))).size).size ≤ 9223372036854775807 then ((kind_Of.f (rdOf ByteArray.empty t309 (Int.tmod (wrap64 (x1)) (t309.length : Int)))).bind fun t313 => (if t313 = 0 then (some false) else ((kind_Of.f ((Go.Utf8.encode (((bt (rdOf ByteArray.empty t309 (Int.tmod (wrap64 (x1)) (t309.length : Int))) 0) - 32) % 256)) ++ ((rdOf ByteArray.empty t309 (Int.tmod (wrap64 (x1)) (t309.length : Int))).extract 1 (rdOf ByteArray.empty t309 (Int.tmod (wrap64 (x1)) (t309.length : Int))).size))).bind fun t314 => (if t314 = 0 then (if (rdOf ByteArray.empty t309 (Int.tmod (wrap64 (x1)) (t309.length : Int))).size + 1 ≤ 9223372036854775807 then ((kind_Of.f ((rdOf ByteArray.empty t309 (Int.tmod (wrap64 (x1)) (t309.length : Int))) ++ (⟨#[32]⟩ : ByteArray))).bind fun t315 => (if t315 = 0 then (if 1 + (rdOf ByteArray.empty t309 (Int.tmod (wrap64 (x1)) (t309.length : Int))).size ≤ 9223372036854775807 then ((kind_Of.f ((⟨#[32]⟩ : ByteArray) ++ (rdOf ByteArray.empty t309 (Int.tmod (wrap64 (x1)) (t309.length : Int))))).bind fun t316 => (some (t316 == 0))) else (none)) else (some false))) else (none)) else (some false))))) else (none)) else (none)) else (none)) else (none)) else (none))))
end
def decanterlaw11_KindPlain.f (k : Nat) (a0 : ByteArray) (a1 : Int) : Option (Bool) := (decanterlaw11_speaks.f).bind fun t305 => (if t305 = true then (decanterlaw11_KindPlain.j0 k a0 a1 (decide ((a0.size : Int) > 60))) else (decanterlaw11_KindPlain.j0 k a0 a1 true))
theorem decanterlaw11_KindPlain.mono_l : ∀ k, (∀ y0 y1 y2, LeO (decanterlaw11_KindPlain.j0 k y0 y1 y2) (decanterlaw11_KindPlain.j0 (k + 1) y0 y1 y2)) ∧ (∀ y0 y1 y2 y3 y4, LeO (decanterlaw11_KindPlain.l0 k y0 y1 y2 y3 y4) (decanterlaw11_KindPlain.l0 (k + 1) y0 y1 y2 y3 y4)) ∧ (∀ y0 y1, LeO (decanterlaw11_KindPlain.j2 k y0 y1) (decanterlaw11_KindPlain.j2 (k + 1) y0 y1))
  | 0 => ⟨fun _ _ _ r h => by simp [decanterlaw11_KindPlain.j0] at h, fun _ _ _ _ _ r h => by simp [decanterlaw11_KindPlain.l0] at h, fun _ _ r h => by simp [decanterlaw11_KindPlain.j2] at h⟩
  | k + 1 => by
    obtain ⟨ih0, ih1, ih2⟩ := decanterlaw11_KindPlain.mono_l k
    refine ⟨?_, ?_, ?_⟩
    · intro y0 y1 y2
      unfold decanterlaw11_KindPlain.j0
      repeat' first
      | (with_reducible exact ih0 _ _ _)
      | (with_reducible exact ih1 _ _ _ _ _)
      | (with_reducible exact ih2 _ _)
      | (with_reducible exact LeO.refl _)
      | (with_reducible exact LeO.none _)
      | (with_reducible refine LeO.ite ?_ ?_)
      | (with_reducible refine LeO.bind ?_ (fun _ => ?_))
      | exact ih0 _ _ _
      | exact ih1 _ _ _ _ _
      | exact ih2 _ _
      | exact LeO.none _
      | refine LeO.ite ?_ ?_
      | refine LeO.bind ?_ (fun _ => ?_)
    · intro y0 y1 y2 y3 y4
      unfold decanterlaw11_KindPlain.l0
      repeat' first
      | (with_reducible exact ih0 _ _ _)
      | (with_reducible exact ih1 _ _ _ _ _)
      | (with_reducible exact ih2 _ _)
      | (with_reducible exact LeO.refl _)
      | (with_reducible exact LeO.none _)
      | (with_reducible refine LeO.ite ?_ ?_)
      | (with_reducible refine LeO.bind ?_ (fun _ => ?_))
      | exact ih0 _ _ _
      | exact ih1 _ _ _ _ _
      | exact ih2 _ _
      | exact LeO.none _
      | refine LeO.ite ?_ ?_
      | refine LeO.bind ?_ (fun _ => ?_)
    · intro y0 y1
      unfold decanterlaw11_KindPlain.j2
      repeat' first
      | (with_reducible exact ih0 _ _ _)
      | (with_reducible exact ih1 _ _ _ _ _)
      | (with_reducible exact ih2 _ _)
      | (with_reducible exact LeO.refl _)
      | (with_reducible exact LeO.none _)
      | (with_reducible refine LeO.ite ?_ ?_)
      | (with_reducible refine LeO.bind ?_ (fun _ => ?_))
      | exact ih0 _ _ _
      | exact ih1 _ _ _ _ _
      | exact ih2 _ _
      | exact LeO.none _
      | refine LeO.ite ?_ ?_
      | refine LeO.bind ?_ (fun _ => ?_)
theorem decanterlaw11_KindPlain.mono : ∀ a0 a1 k, LeO (decanterlaw11_KindPlain.f k a0 a1) (decanterlaw11_KindPlain.f (k + 1) a0 a1) := by
  intro a0 a1 k
  obtain ⟨ih0, ih1, ih2⟩ := decanterlaw11_KindPlain.mono_l k
  unfold decanterlaw11_KindPlain.f
  repeat' first
      | (with_reducible exact ih0 _ _ _)
      | (with_reducible exact ih1 _ _ _ _ _)
      | (with_reducible exact ih2 _ _)
      | (with_reducible exact LeO.refl _)
      | (with_reducible exact LeO.none _)
      | (with_reducible refine LeO.ite ?_ ?_)
      | (with_reducible refine LeO.bind ?_ (fun _ => ?_))
      | exact ih0 _ _ _
      | exact ih1 _ _ _ _ _
      | exact ih2 _ _
      | exact LeO.none _
      | refine LeO.ite ?_ ?_
      | refine LeO.bind ?_ (fun _ => ?_)
set_option maxHeartbeats 8000000 in
set_option maxRecDepth 100000 in
theorem decanterlaw11_KindPlain.calls (k : Nat) (a0 : ByteArray) (a1 : Int) (r : Bool) (w : World) (hG : GW w) (h : decanterlaw11_KindPlain.f k a0 a1 = some r) :
    Calls Tryd.prog 12 #[.string a0, .int .u16 a1] w fun e w' => e = .returned (.bool r) ∧ Below w.heap.size w w' := by
  have HG := Aside0.mk hG
  clear hG
  have HB := Aside0.mk (Below.refl w.heap.size w)
  have H : ((decanterlaw11_speaks.f).bind fun t305 => (if t305 = true then (decanterlaw11_KindPlain.j0 k a0 a1 (decide ((a0.size : Int) > 60))) else (decanterlaw11_KindPlain.j0 k a0 a1 true))) = some r := h
  clear h
  have HC3 := Aside0.mk H
  clear H
  go_enter Tryd.func12, Tryd.ntmps12
  go_upto_region 1 with (fail)
  repeat (go_quiet (fail); go_upto_region 1 with (fail))
  go_cut [17] (fun v17 wc => ∃ (kq : Nat) (x17_2 : Bool), v17 = .bool x17_2 ∧ Aside0 (decanterlaw11_KindPlain.j0 kq a0 a1 x17_2 = some r) ∧ Aside0 (kq ≤ k) ∧ Aside0 (Below w.heap.size w wc))
  case first =>
    have H := HC3.out
    clear HC3
    replace H := Option.bind_eq_some_iff.mp H
    obtain ⟨t305, A40, H⟩ := H
    replace H : (if t305 = true then (decanterlaw11_KindPlain.j0 k a0 a1 (decide ((a0.size : Int) > 60))) else (decanterlaw11_KindPlain.j0 k a0 a1 true)) = some r := H
    have A4 := Aside0.mk A40
    clear A40
    by_cases c5 : t305 = true
    · subst c5
      have H1 : (decanterlaw11_KindPlain.j0 k a0 a1 (decide ((a0.size : Int) > 60))) = some r := by rw [if_pos rfl] at H; exact H
      clear H
      have H := H1
      clear H1
      have H' := Aside0.mk H
      clear H
      go_wp2_with (first | (go_at_call 13; (with_reducible refine (decanterlaw11_speaks.calls  true _ ?side1 A4.out).mono ?_); (case side1 => exact GW.below HG.out (by repeat (first | (with_reducible first | exact HB.out | apply below_alloc | apply pw_below_drewN | apply below_drew1) | exact HB.out))); rintro e w6 ⟨rfl, hb⟩; have n0_ := Aside0.mk (below_step (by repeat (first | (with_reducible first | exact HB.out | apply below_alloc | apply pw_below_drewN | apply below_drew1) | exact HB.out)) hb); clear HB; have HB := n0_; clear n0_; (try clear hb); (try clear hb2); (try clear hk); (try clear hi)))
      repeat (go_quiet (first | (go_at_call 13; (with_reducible refine (decanterlaw11_speaks.calls  true _ ?side1 A4.out).mono ?_); (case side1 => exact GW.below HG.out (by repeat (first | (with_reducible first | exact HB.out | apply below_alloc | apply pw_below_drewN | apply below_drew1) | exact HB.out))); rintro e w6 ⟨rfl, hb⟩; have n0_ := Aside0.mk (below_step (by repeat (first | (with_reducible first | exact HB.out | apply below_alloc | apply pw_below_drewN | apply below_drew1) | exact HB.out)) hb); clear HB; have HB := n0_; clear n0_; (try clear hb); (try clear hb2); (try clear hk); (try clear hi))); try go_wp2_with (first | (go_at_call 13; (with_reducible refine (decanterlaw11_speaks.calls  true _ ?side1 A4.out).mono ?_); (case side1 => exact GW.below HG.out (by repeat (first | (with_reducible first | exact HB.out | apply below_alloc | apply pw_below_drewN | apply below_drew1) | exact HB.out))); rintro e w6 ⟨rfl, hb⟩; have n0_ := Aside0.mk (below_step (by repeat (first | (with_reducible first | exact HB.out | apply below_alloc | apply pw_below_drewN | apply below_drew1) | exact HB.out)) hb); clear HB; have HB := n0_; clear n0_; (try clear hb); (try clear hb2); (try clear hk); (try clear hi))))
      go_meet
      case rel => exact ⟨_, (decide ((a0.size : Int) > 60)), (by first | rfl | (simp; done) | (simp [*]; done)), H', ⟨by first | omega | exact Nat.le_refl _⟩, ⟨by repeat (first | (with_reducible first | exact HB.out | apply below_alloc | apply pw_below_drewN | apply below_drew1) | exact HB.out)⟩⟩
    · replace c5 := Bool.eq_false_iff.mpr c5
      subst c5
      have H1 : (decanterlaw11_KindPlain.j0 k a0 a1 true) = some r := by rw [if_neg (show ¬ (false = true) by decide)] at H; exact H
      clear H
      have H := H1
      clear H1
      have H' := Aside0.mk H
      clear H
      go_wp2_with (first | (go_at_call 13; (with_reducible refine (decanterlaw11_speaks.calls  false _ ?side1 A4.out).mono ?_); (case side1 => exact GW.below HG.out (by repeat (first | (with_reducible first | exact HB.out | apply below_alloc | apply pw_below_drewN | apply below_drew1) | exact HB.out))); rintro e w7 ⟨rfl, hb⟩; have n0_ := Aside0.mk (below_step (by repeat (first | (with_reducible first | exact HB.out | apply below_alloc | apply pw_below_drewN | apply below_drew1) | exact HB.out)) hb); clear HB; have HB := n0_; clear n0_; (try clear hb); (try clear hb2); (try clear hk); (try clear hi)))
      repeat (go_quiet (first | (go_at_call 13; (with_reducible refine (decanterlaw11_speaks.calls  false _ ?side1 A4.out).mono ?_); (case side1 => exact GW.below HG.out (by repeat (first | (with_reducible first | exact HB.out | apply below_alloc | apply pw_below_drewN | apply below_drew1) | exact HB.out))); rintro e w7 ⟨rfl, hb⟩; have n0_ := Aside0.mk (below_step (by repeat (first | (with_reducible first | exact HB.out | apply below_alloc | apply pw_below_drewN | apply below_drew1) | exact HB.out)) hb); clear HB; have HB := n0_; clear n0_; (try clear hb); (try clear hb2); (try clear hk); (try clear hi))); try go_wp2_with (first | (go_at_call 13; (with_reducible refine (decanterlaw11_speaks.calls  false _ ?side1 A4.out).mono ?_); (case side1 => exact GW.below HG.out (by repeat (first | (with_reducible first | exact HB.out | apply below_alloc | apply pw_below_drewN | apply below_drew1) | exact HB.out))); rintro e w7 ⟨rfl, hb⟩; have n0_ := Aside0.mk (below_step (by repeat (first | (with_reducible first | exact HB.out | apply below_alloc | apply pw_below_drewN | apply below_drew1) | exact HB.out)) hb); clear HB; have HB := n0_; clear n0_; (try clear hb); (try clear hb2); (try clear hk); (try clear hi))))
      go_meet
      case rel => exact ⟨_, (true), (by first | rfl | (simp; done) | (simp [*]; done)), H', ⟨by first | omega | exact Nat.le_refl _⟩, ⟨by repeat (first | (with_reducible first | exact HB.out | apply below_alloc | apply pw_below_drewN | apply below_drew1) | exact HB.out)⟩⟩
  case rest =>
    clear HC3
    try clear c1
    try clear p2
    try clear c5
    obtain ⟨kq, x17_2, rfl, HA, HJ2, HB⟩ := hcut
    cases kq with
    | zero => exact absurd HA.out (by simp [decanterlaw11_KindPlain.j0])
    | succ kj2 =>
      have H := HA.out
      clear HA
      simp only [decanterlaw11_KindPlain.j0] at H
      by_cases c8 : x17_2 = true
      · subst c8
        have H1 : ((decanterlaw11_speaks.f).bind fun t306 => (some t306)) = some r := by rw [if_pos rfl] at H; exact H
        clear H
        have H := H1
        clear H1
        replace H := Option.bind_eq_some_iff.mp H
        obtain ⟨t306, A90, H⟩ := H
        replace H : (some t306) = some r := H
        have A9 := Aside0.mk A90
        clear A90
        obtain rfl := Option.some.inj H
        go_wp2_with (first | (go_at_call 13; (with_reducible refine (decanterlaw11_speaks.calls  t306 _ ?side1 A9.out).mono ?_); (case side1 => exact GW.below HG.out (by repeat (first | (with_reducible first | exact HB.out | apply below_alloc | apply pw_below_drewN | apply below_drew1) | exact HB.out))); rintro e w10 ⟨rfl, hb⟩; have n0_ := Aside0.mk (below_step (by repeat (first | (with_reducible first | exact HB.out | apply below_alloc | apply pw_below_drewN | apply below_drew1) | exact HB.out)) hb); clear HB; have HB := n0_; clear n0_; (try clear hb); (try clear hb2); (try clear hk); (try clear hi)))
        repeat (go_quiet (first | (go_at_call 13; (with_reducible refine (decanterlaw11_speaks.calls  t306 _ ?side1 A9.out).mono ?_); (case side1 => exact GW.below HG.out (by repeat (first | (with_reducible first | exact HB.out | apply below_alloc | apply pw_below_drewN | apply below_drew1) | exact HB.out))); rintro e w10 ⟨rfl, hb⟩; have n0_ := Aside0.mk (below_step (by repeat (first | (with_reducible first | exact HB.out | apply below_alloc | apply pw_below_drewN | apply below_drew1) | exact HB.out)) hb); clear HB; have HB := n0_; clear n0_; (try clear hb); (try clear hb2); (try clear hk); (try clear hi))); try go_wp2_with (first | (go_at_call 13; (with_reducible refine (decanterlaw11_speaks.calls  t306 _ ?side1 A9.out).mono ?_); (case side1 => exact GW.below HG.out (by repeat (first | (with_reducible first | exact HB.out | apply below_alloc | apply pw_below_drewN | apply below_drew1) | exact HB.out))); rintro e w10 ⟨rfl, hb⟩; have n0_ := Aside0.mk (below_step (by repeat (first | (with_reducible first | exact HB.out | apply below_alloc | apply pw_below_drewN | apply below_drew1) | exact HB.out)) hb); clear HB; have HB := n0_; clear n0_; (try clear hb); (try clear hb2); (try clear hk); (try clear hi))))
        go_ret
        exact ⟨by first | rfl | (simp [errW_none, errW_some] <;> rfl) | (simp [*, errW_none, errW_some] <;> rfl), by repeat (first | (with_reducible first | exact HB.out | apply below_alloc | apply pw_below_drewN | apply below_drew1) | exact HB.out)⟩
      · replace c8 := Bool.eq_false_iff.mpr c8
        subst c8
        have H1 : (decanterlaw11_KindPlain.l0 kj2 a0 a1 (a0.toList != ([] : List UInt8)) (a0.size : Int) 0) = some r := by rw [if_neg (show ¬ (false = true) by decide)] at H; exact H
        clear H
        have H := H1
        clear H1
        have H' := Aside0.mk H
        clear H
        go_wp2
        repeat (go_quiet (fail); try go_wp2)
        go_loopg [5, 23] kj2 (fun kq v5 v23 w' => ∃ (x5_2 : Bool) (x23_2 : Int), v5 = .bool x5_2 ∧ v23 = .int .i64 x23_2 ∧ Aside0 (decanterlaw11_KindPlain.l0 kq a0 a1 x5_2 (a0.size : Int) x23_2 = some r) ∧ Aside0 (kq ≤ kj2) ∧ Aside0 (Below w.heap.size w w'))
        case atStart => exact ⟨((a0.toList != ([] : List UInt8))), (0), (by first | rfl | (simp; done) | (simp [*]; done) | (simp; generalize ByteArray.toList _ = l_; cases l_ <;> rfl)), (by first | rfl | (simp; done) | (simp [*]; done) | (simp; generalize ByteArray.toList _ = l_; cases l_ <;> rfl)), H', ⟨Nat.le_refl _⟩, ⟨by repeat (first | (with_reducible first | exact HB.out | apply below_alloc | apply pw_below_drewN | apply below_drew1) | exact HB.out)⟩⟩
        case round =>
          clear H'
          try clear c1
          try clear p2
          try clear c5
          try clear c8
          try clear p2
          obtain ⟨x5_2, x23_2, rfl, rfl, HA, HK2, HB⟩ := hrel
          cases gk with
          | zero => exact absurd HA.out (by simp [decanterlaw11_KindPlain.l0])
          | succ k2 =>
            have H := HA.out
            clear HA
            simp only [decanterlaw11_KindPlain.l0] at H
            by_cases c11 : x23_2 < (a0.size : Int)
            · rw [if_pos c11] at H
              have c11b0 : decide (x23_2 < (a0.size : Int)) = true := decide_eq_true c11
              clear c11
              by_cases c12 : 0 ≤ x23_2
              · rw [if_pos c12] at H
                have c12b0 : decide (0 ≤ x23_2) = true := decide_eq_true c12
                clear c12
                by_cases c13 : x23_2 < (a0.size : Int)
                · rw [if_pos c13] at H
                  have c13b0 : decide (x23_2 < (a0.size : Int)) = true := decide_eq_true c13
                  clear c13
                  by_cases c15 : x5_2 = true
                  · subst c15
                    have H1 : (if (bt a0 x23_2) ≥ 97 then (if (bt a0 x23_2) ≤ 122 then (decanterlaw11_KindPlain.l0 k2 a0 a1 true (a0.size : Int) (wrap64 (x23_2 + 1))) else (if (bt a0 x23_2) ≥ 48 then (decanterlaw11_KindPlain.l0 k2 a0 a1 (decide ((bt a0 x23_2) ≤ 57)) (a0.size : Int) (wrap64 (x23_2 + 1))) else (decanterlaw11_KindPlain.l0 k2 a0 a1 false (a0.size : Int) (wrap64 (x23_2 + 1))))) else (if (bt a0 x23_2) ≥ 48 then (decanterlaw11_KindPlain.l0 k2 a0 a1 (decide ((bt a0 x23_2) ≤ 57)) (a0.size : Int) (wrap64 (x23_2 + 1))) else (decanterlaw11_KindPlain.l0 k2 a0 a1 false (a0.size : Int) (wrap64 (x23_2 + 1))))) = some r := by rw [if_pos rfl] at H; exact H
                    clear H
                    have H := H1
                    clear H1
                    by_cases c16 : (bt a0 x23_2) ≥ 97
                    · rw [if_pos c16] at H
                      have c16b0 : decide (97 ≤ (bt a0 x23_2)) = true := decide_eq_true c16
                      clear c16
                      by_cases c17 : (bt a0 x23_2) ≤ 122
                      · rw [if_pos c17] at H
                        have c17b0 : decide ((bt a0 x23_2) ≤ 122) = true := decide_eq_true c17
                        clear c17
                        have H' := Aside0.mk H
                        clear H
                        have p14 : 0 ≤ (x23_2 : Int) := of_decide_eq_true (by first | (with_reducible assumption) | assumption)
                        have q14 : x23_2 < (a0.size : Int) := of_decide_eq_true (by first | (with_reducible assumption) | assumption)
                        have hx14 := bt_at a0 x23_2
                        replace p14 := eq_true p14
                        replace q14 := eq_true q14
                        go_wp2
                        repeat (go_quiet (fail); try go_wp2)
                        go_roundg k2
                        case measure => have := HJ2.out; have := HK2.out; omega
                        case rel => exact ⟨(true), (wrap64 (x23_2 + 1)), (by first | rfl | (simp; done) | (simp [*]; done)), (by first | rfl | (simp; done) | (simp [*]; done)), H', ⟨by have := HJ2.out; have := HK2.out; omega⟩, ⟨by repeat (first | (with_reducible first | exact HB.out | apply below_alloc | apply pw_below_drewN | apply below_drew1) | exact HB.out)⟩⟩
                      · rw [if_neg c17] at H
                        have c17b0 : decide ((bt a0 x23_2) ≤ 122) = false := decide_eq_false c17
                        clear c17
                        by_cases c18 : (bt a0 x23_2) ≥ 48
                        · rw [if_pos c18] at H
                          have c18b0 : decide (48 ≤ (bt a0 x23_2)) = true := decide_eq_true c18
                          clear c18
                          have H' := Aside0.mk H
                          clear H
                          have p14 : 0 ≤ (x23_2 : Int) := of_decide_eq_true (by first | (with_reducible assumption) | assumption)
                          have q14 : x23_2 < (a0.size : Int) := of_decide_eq_true (by first | (with_reducible assumption) | assumption)
                          have hx14 := bt_at a0 x23_2
                          replace p14 := eq_true p14
                          replace q14 := eq_true q14
                          go_wp2
                          repeat (go_quiet (fail); try go_wp2)
                          go_roundg k2
                          case measure => have := HJ2.out; have := HK2.out; omega
                          case rel => exact ⟨(decide ((bt a0 x23_2) ≤ 57)), (wrap64 (x23_2 + 1)), (by first | rfl | (simp; done) | (simp [*]; done)), (by first | rfl | (simp; done) | (simp [*]; done)), H', ⟨by have := HJ2.out; have := HK2.out; omega⟩, ⟨by repeat (first | (with_reducible first | exact HB.out | apply below_alloc | apply pw_below_drewN | apply below_drew1) | exact HB.out)⟩⟩
                        · rw [if_neg c18] at H
                          have c18b0 : decide (48 ≤ (bt a0 x23_2)) = false := decide_eq_false c18
                          clear c18
                          have H' := Aside0.mk H
                          clear H
                          have p14 : 0 ≤ (x23_2 : Int) := of_decide_eq_true (by first | (with_reducible assumption) | assumption)
                          have q14 : x23_2 < (a0.size : Int) := of_decide_eq_true (by first | (with_reducible assumption) | assumption)
                          have hx14 := bt_at a0 x23_2
                          replace p14 := eq_true p14
                          replace q14 := eq_true q14
                          go_wp2
                          repeat (go_quiet (fail); try go_wp2)
                          go_roundg k2
                          case measure => have := HJ2.out; have := HK2.out; omega
                          case rel => exact ⟨(false), (wrap64 (x23_2 + 1)), (by first | rfl | (simp; done) | (simp [*]; done)), (by first | rfl | (simp; done) | (simp [*]; done)), H', ⟨by have := HJ2.out; have := HK2.out; omega⟩, ⟨by repeat (first | (with_reducible first | exact HB.out | apply below_alloc | apply pw_below_drewN | apply below_drew1) | exact HB.out)⟩⟩
                    · rw [if_neg c16] at H
                      have c16b0 : decide (97 ≤ (bt a0 x23_2)) = false := decide_eq_false c16
                      clear c16
                      by_cases c19 : (bt a0 x23_2) ≥ 48
                      · rw [if_pos c19] at H
                        have c19b0 : decide (48 ≤ (bt a0 x23_2)) = true := decide_eq_true c19
                        clear c19
                        have H' := Aside0.mk H
                        clear H
                        have p14 : 0 ≤ (x23_2 : Int) := of_decide_eq_true (by first | (with_reducible assumption) | assumption)
                        have q14 : x23_2 < (a0.size : Int) := of_decide_eq_true (by first | (with_reducible assumption) | assumption)
                        have hx14 := bt_at a0 x23_2
                        replace p14 := eq_true p14
                        replace q14 := eq_true q14
                        go_wp2
                        repeat (go_quiet (fail); try go_wp2)
                        go_roundg k2
                        case measure => have := HJ2.out; have := HK2.out; omega
                        case rel => exact ⟨(decide ((bt a0 x23_2) ≤ 57)), (wrap64 (x23_2 + 1)), (by first | rfl | (simp; done) | (simp [*]; done)), (by first | rfl | (simp; done) | (simp [*]; done)), H', ⟨by have := HJ2.out; have := HK2.out; omega⟩, ⟨by repeat (first | (with_reducible first | exact HB.out | apply below_alloc | apply pw_below_drewN | apply below_drew1) | exact HB.out)⟩⟩
                      · rw [if_neg c19] at H
                        have c19b0 : decide (48 ≤ (bt a0 x23_2)) = false := decide_eq_false c19
                        clear c19
                        have H' := Aside0.mk H
                        clear H
                        have p14 : 0 ≤ (x23_2 : Int) := of_decide_eq_true (by first | (with_reducible assumption) | assumption)
                        have q14 : x23_2 < (a0.size : Int) := of_decide_eq_true (by first | (with_reducible assumption) | assumption)
                        have hx14 := bt_at a0 x23_2
                        replace p14 := eq_true p14
                        replace q14 := eq_true q14
                        go_wp2
                        repeat (go_quiet (fail); try go_wp2)
                        go_roundg k2
                        case measure => have := HJ2.out; have := HK2.out; omega
                        case rel => exact ⟨(false), (wrap64 (x23_2 + 1)), (by first | rfl | (simp; done) | (simp [*]; done)), (by first | rfl | (simp; done) | (simp [*]; done)), H', ⟨by have := HJ2.out; have := HK2.out; omega⟩, ⟨by repeat (first | (with_reducible first | exact HB.out | apply below_alloc | apply pw_below_drewN | apply below_drew1) | exact HB.out)⟩⟩
                  · replace c15 := Bool.eq_false_iff.mpr c15
                    subst c15
                    have H1 : (decanterlaw11_KindPlain.l0 k2 a0 a1 false (a0.size : Int) (wrap64 (x23_2 + 1))) = some r := by rw [if_neg (show ¬ (false = true) by decide)] at H; exact H
                    clear H
                    have H := H1
                    clear H1
                    have H' := Aside0.mk H
                    clear H
                    have p14 : 0 ≤ (x23_2 : Int) := of_decide_eq_true (by first | (with_reducible assumption) | assumption)
                    have q14 : x23_2 < (a0.size : Int) := of_decide_eq_true (by first | (with_reducible assumption) | assumption)
                    have hx14 := bt_at a0 x23_2
                    replace p14 := eq_true p14
                    replace q14 := eq_true q14
                    go_wp2
                    repeat (go_quiet (fail); try go_wp2)
                    go_roundg k2
                    case measure => have := HJ2.out; have := HK2.out; omega
                    case rel => exact ⟨(false), (wrap64 (x23_2 + 1)), (by first | rfl | (simp; done) | (simp [*]; done)), (by first | rfl | (simp; done) | (simp [*]; done)), H', ⟨by have := HJ2.out; have := HK2.out; omega⟩, ⟨by repeat (first | (with_reducible first | exact HB.out | apply below_alloc | apply pw_below_drewN | apply below_drew1) | exact HB.out)⟩⟩
                · rw [if_neg c13] at H
                  exact absurd H (by simp)
              · rw [if_neg c12] at H
                exact absurd H (by simp)
            · rw [if_neg c11] at H
              have c11b0 : decide (x23_2 < (a0.size : Int)) = false := decide_eq_false c11
              clear c11
              have HC20 := Aside0.mk H
              clear H
              go_upto_region 10 with (fail)
              repeat (go_quiet (fail); go_upto_region 10 with (fail))
              go_cut [57] (fun v57 wc => ∃ (kq : Nat) (x57_19 : Bool), v57 = .bool x57_19 ∧ Aside0 (decanterlaw11_KindPlain.j2 kq a1 x57_19 = some r) ∧ Aside0 (kq ≤ k2) ∧ Aside0 (Below w.heap.size w wc))
              case first =>
                have H := HC20.out
                clear HC20
                by_cases c21 : x5_2 = true
                · subst c21
                  have H1 : (decanterlaw11_KindPlain.j2 k2 a1 false) = some r := by rw [if_pos rfl] at H; exact H
                  clear H
                  have H := H1
                  clear H1
                  have H' := Aside0.mk H
                  clear H
                  go_wp2
                  repeat (go_quiet (fail); try go_wp2)
                  go_meet
                  case rel => exact ⟨_, (false), (by first | rfl | (simp; done) | (simp [*]; done)), H', ⟨by have := HJ2.out; have := HK2.out; first | omega | exact Nat.le_refl _⟩, ⟨by repeat (first | (with_reducible first | exact HB.out | apply below_alloc | apply pw_below_drewN | apply below_drew1) | exact HB.out)⟩⟩
                · replace c21 := Bool.eq_false_iff.mpr c21
                  subst c21
                  have H1 : ((kind_Of.f a0).bind fun t307 => (if t307 = 0 then ((kind_Is.f a0 (-1)).bind fun t308 => (decanterlaw11_KindPlain.j2 k2 a1 t308)) else (decanterlaw11_KindPlain.j2 k2 a1 true))) = some r := by rw [if_neg (show ¬ (false = true) by decide)] at H; exact H
                  clear H
                  have H := H1
                  clear H1
                  replace H := Option.bind_eq_some_iff.mp H
                  obtain ⟨t307, A220, H⟩ := H
                  replace H : (if t307 = 0 then ((kind_Is.f a0 (-1)).bind fun t308 => (decanterlaw11_KindPlain.j2 k2 a1 t308)) else (decanterlaw11_KindPlain.j2 k2 a1 true)) = some r := H
                  have A22 := Aside0.mk A220
                  clear A220
                  by_cases c23 : t307 = 0
                  · rw [if_pos c23] at H
                    have c23b0 : (t307 == 0) = true := beq_iff_eq.mpr c23
                    have c23b1 : (t307 != 0) = false := bne_eq_false_iff_eq.mpr c23
                    clear c23
                    (first | rw [c23b0] | (simp only [i64_w, i32_w]; rw [c23b0]) | rw [c23b1] | skip)
                    replace H := Option.bind_eq_some_iff.mp H
                    obtain ⟨t308, A240, H⟩ := H
                    replace H : (decanterlaw11_KindPlain.j2 k2 a1 t308) = some r := H
                    have A24 := Aside0.mk A240
                    clear A240
                    have H' := Aside0.mk H
                    clear H
                    go_wp2_with (first | (go_at_call 15; (with_reducible refine (kind_Of.calls a0 t307 _ ?side1 A22.out).mono ?_); (case side1 => exact GW.below HG.out (by repeat (first | (with_reducible first | exact HB.out | apply below_alloc | apply pw_below_drewN | apply below_drew1) | exact HB.out))); rintro e w25 ⟨rfl, hb⟩; have n0_ := Aside0.mk (below_step (by repeat (first | (with_reducible first | exact HB.out | apply below_alloc | apply pw_below_drewN | apply below_drew1) | exact HB.out)) hb); clear HB; have HB := n0_; clear n0_; (try clear hb); (try clear hb2); (try clear hk); (try clear hi)) | (go_at_call 16; (with_reducible refine (kind_Is.calls a0 (-1) t308 _ ?side1 A24.out).mono ?_); (case side1 => exact GW.below HG.out (by repeat (first | (with_reducible first | exact HB.out | apply below_alloc | apply pw_below_drewN | apply below_drew1) | exact HB.out))); rintro e w26 ⟨rfl, hb⟩; have n0_ := Aside0.mk (below_step (by repeat (first | (with_reducible first | exact HB.out | apply below_alloc | apply pw_below_drewN | apply below_drew1) | exact HB.out)) hb); clear HB; have HB := n0_; clear n0_; (try clear hb); (try clear hb2); (try clear hk); (try clear hi)))
                    repeat (go_quiet (first | (go_at_call 15; (with_reducible refine (kind_Of.calls a0 t307 _ ?side1 A22.out).mono ?_); (case side1 => exact GW.below HG.out (by repeat (first | (with_reducible first | exact HB.out | apply below_alloc | apply pw_below_drewN | apply below_drew1) | exact HB.out))); rintro e w25 ⟨rfl, hb⟩; have n0_ := Aside0.mk (below_step (by repeat (first | (with_reducible first | exact HB.out | apply below_alloc | apply pw_below_drewN | apply below_drew1) | exact HB.out)) hb); clear HB; have HB := n0_; clear n0_; (try clear hb); (try clear hb2); (try clear hk); (try clear hi)) | (go_at_call 16; (with_reducible refine (kind_Is.calls a0 (-1) t308 _ ?side1 A24.out).mono ?_); (case side1 => exact GW.below HG.out (by repeat (first | (with_reducible first | exact HB.out | apply below_alloc | apply pw_below_drewN | apply below_drew1) | exact HB.out))); rintro e w26 ⟨rfl, hb⟩; have n0_ := Aside0.mk (below_step (by repeat (first | (with_reducible first | exact HB.out | apply below_alloc | apply pw_below_drewN | apply below_drew1) | exact HB.out)) hb); clear HB; have HB := n0_; clear n0_; (try clear hb); (try clear hb2); (try clear hk); (try clear hi))); try go_wp2_with (first | (go_at_call 15; (with_reducible refine (kind_Of.calls a0 t307 _ ?side1 A22.out).mono ?_); (case side1 => exact GW.below HG.out (by repeat (first | (with_reducible first | exact HB.out | apply below_alloc | apply pw_below_drewN | apply below_drew1) | exact HB.out))); rintro e w25 ⟨rfl, hb⟩; have n0_ := Aside0.mk (below_step (by repeat (first | (with_reducible first | exact HB.out | apply below_alloc | apply pw_below_drewN | apply below_drew1) | exact HB.out)) hb); clear HB; have HB := n0_; clear n0_; (try clear hb); (try clear hb2); (try clear hk); (try clear hi)) | (go_at_call 16; (with_reducible refine (kind_Is.calls a0 (-1) t308 _ ?side1 A24.out).mono ?_); (case side1 => exact GW.below HG.out (by repeat (first | (with_reducible first | exact HB.out | apply below_alloc | apply pw_below_drewN | apply below_drew1) | exact HB.out))); rintro e w26 ⟨rfl, hb⟩; have n0_ := Aside0.mk (below_step (by repeat (first | (with_reducible first | exact HB.out | apply below_alloc | apply pw_below_drewN | apply below_drew1) | exact HB.out)) hb); clear HB; have HB := n0_; clear n0_; (try clear hb); (try clear hb2); (try clear hk); (try clear hi))))
                    go_meet
                    case rel => exact ⟨_, (t308), (by first | rfl | (simp; done) | (simp [*]; done)), H', ⟨by have := HJ2.out; have := HK2.out; first | omega | exact Nat.le_refl _⟩, ⟨by repeat (first | (with_reducible first | exact HB.out | apply below_alloc | apply pw_below_drewN | apply below_drew1) | exact HB.out)⟩⟩
                  · rw [if_neg c23] at H
                    have c23b0 : (t307 == 0) = false := beq_eq_false_iff_ne.mpr c23
                    have c23b1 : (t307 != 0) = true := bne_iff_ne.mpr c23
                    (first | rw [c23b0] | (simp only [i64_w, i32_w]; rw [c23b0]) | rw [c23b1] | skip)
                    have H' := Aside0.mk H
                    clear H
                    go_wp2_with (first | (go_at_call 15; (with_reducible refine (kind_Of.calls a0 t307 _ ?side1 A22.out).mono ?_); (case side1 => exact GW.below HG.out (by repeat (first | (with_reducible first | exact HB.out | apply below_alloc | apply pw_below_drewN | apply below_drew1) | exact HB.out))); rintro e w27 ⟨rfl, hb⟩; have n0_ := Aside0.mk (below_step (by repeat (first | (with_reducible first | exact HB.out | apply below_alloc | apply pw_below_drewN | apply below_drew1) | exact HB.out)) hb); clear HB; have HB := n0_; clear n0_; (try clear hb); (try clear hb2); (try clear hk); (try clear hi)))
                    repeat (go_quiet (first | (go_at_call 15; (with_reducible refine (kind_Of.calls a0 t307 _ ?side1 A22.out).mono ?_); (case side1 => exact GW.below HG.out (by repeat (first | (with_reducible first | exact HB.out | apply below_alloc | apply pw_below_drewN | apply below_drew1) | exact HB.out))); rintro e w27 ⟨rfl, hb⟩; have n0_ := Aside0.mk (below_step (by repeat (first | (with_reducible first | exact HB.out | apply below_alloc | apply pw_below_drewN | apply below_drew1) | exact HB.out)) hb); clear HB; have HB := n0_; clear n0_; (try clear hb); (try clear hb2); (try clear hk); (try clear hi))); try go_wp2_with (first | (go_at_call 15; (with_reducible refine (kind_Of.calls a0 t307 _ ?side1 A22.out).mono ?_); (case side1 => exact GW.below HG.out (by repeat (first | (with_reducible first | exact HB.out | apply below_alloc | apply pw_below_drewN | apply below_drew1) | exact HB.out))); rintro e w27 ⟨rfl, hb⟩; have n0_ := Aside0.mk (below_step (by repeat (first | (with_reducible first | exact HB.out | apply below_alloc | apply pw_below_drewN | apply below_drew1) | exact HB.out)) hb); clear HB; have HB := n0_; clear n0_; (try clear hb); (try clear hb2); (try clear hk); (try clear hi))))
                    go_meet
                    case rel => exact ⟨_, (true), (by first | rfl | (simp; done) | (simp [*]; done)), H', ⟨by have := HJ2.out; have := HK2.out; first | omega | exact Nat.le_refl _⟩, ⟨by repeat (first | (with_reducible first | exact HB.out | apply below_alloc | apply pw_below_drewN | apply below_drew1) | exact HB.out)⟩⟩
              case rest =>
                clear HC20
                try clear c1
                try clear p1
                try clear q1
                try clear hx1
                try clear c2
                try clear p2
                try clear c5
                try clear p6
                try clear c8
                try clear c11
                try clear c11b0
                try clear c12
                try clear c12b0
                try clear c13
                try clear c13b0
                try clear p14
                try clear q14
                try clear hx14
                try clear c15
                try clear c16
                try clear c16b0
                try clear c17
                try clear c17b0
                try clear c18
                try clear c18b0
                try clear c19
                try clear c19b0
                try clear c21
                try clear c23
                try clear c23b0
                try clear c23b1
                try clear p14
                try clear p2
                try clear q14
                obtain ⟨kq, x57_19, rfl, HA, HJ19, HB⟩ := hcut
                cases kq with
                | zero => exact absurd HA.out (by simp [decanterlaw11_KindPlain.j2])
                | succ kj19 =>
                  have H := HA.out
                  clear HA
                  simp only [decanterlaw11_KindPlain.j2] at H
                  by_cases c28 : x57_19 = true
                  · subst c28
                    have H1 : (some false) = some r := by rw [if_pos rfl] at H; exact H
                    clear H
                    have H := H1
                    clear H1
                    obtain rfl := Option.some.inj H
                    go_wp2
                    repeat (go_quiet (fail); try go_wp2)
                    go_ret
                    exact ⟨by first | rfl | (simp [errW_none, errW_some] <;> rfl) | (simp [*, errW_none, errW_some] <;> rfl), by repeat (first | (with_reducible first | exact HB.out | apply below_alloc | apply pw_below_drewN | apply below_drew1) | exact HB.out)⟩
                  · replace c28 := Bool.eq_false_iff.mpr c28
                    subst c28
                    have H1 : ((kind_All.f (-1)).bind fun t309 => (if (t309.length : Int) = 0 then (some false) else (if 0 ≤ (Int.tmod (wrap64 (a1)) (t309.length : Int)) then (if (Int.tmod (wrap64 (a1)) (t309.length : Int)) < (t309.length : Int) then (if 0 < ((rdOf ByteArray.empty t309 (Int.tmod (wrap64 (a1)) (t309.length : Int))).size : Int) then (if 1 ≤ ((rdOf ByteArray.empty t309 (Int.tmod (wrap64 (a1)) (t309.length : Int))).size : Int) then (if (Go.Utf8.encode (((bt (rdOf ByteArray.empty t309 (Int.tmod (wrap64 (a1)) (t309.length : Int))) 0) - 32) % 256)).size + ((rdOf ByteArray.empty t309 (Int.tmod (wrap64 (a1)) (t309.length : Int))).extract 1 (rdOf ByteArray.empty t309 (Int.tmod (wrap64 (a1)) (t309.length : Int))).size).size ≤ 9223372036854775807 then ((kind_Of.f (rdOf ByteArray.empty t309 (Int.tmod (wrap64 (a1)) (t309.length : Int)))).bind fun t313 => (if t313 = 0 then (some false) else ((kind_Of.f ((Go.Utf8.encode (((bt (rdOf ByteArray.empty t309 (Int.tmod (wrap64 (a1)) (t309.length : Int))) 0) - 32) % 256)) ++ ((rdOf ByteArray.empty t309 (Int.tmod (wrap64 (a1)) (t309.length : Int))).extract 1 (rdOf ByteArray.empty t309 (Int.tmod (wrap64 (a1)) (t309.length : Int))).size))).bind fun t314 => (if t314 = 0 then (if (rdOf ByteArray.empty t309 (Int.tmod (wrap64 (a1)) (t309.length : Int))).size + 1 ≤ 9223372036854775807 then ((kind_Of.f ((rdOf ByteArray.empty t309 (Int.tmod (wrap64 (a1)) (t309.length : Int))) ++ (⟨#[32]⟩ : ByteArray))).bind fun t315 => (if t315 = 0 then (if 1 + (rdOf ByteArray.empty t309 (Int.tmod (wrap64 (a1)) (t309.length : Int))).size ≤ 9223372036854775807 then ((kind_Of.f ((⟨#[32]⟩ : ByteArray) ++ (rdOf ByteArray.empty t309 (Int.tmod (wrap64 (a1)) (t309.length : Int))))).bind fun t316 => (some (t316 == 0))) else (none)) else (some false))) else (none)) else (some false))))) else (none)) else (none)) else (none)) else (none)) else (none)))) = some r := by rw [if_neg (show ¬ (false = true) by decide)] at H; exact H
                    clear H
                    have H := H1
                    clear H1
                    replace H := Option.bind_eq_some_iff.mp H
                    obtain ⟨t309, A290, H⟩ := H
                    replace H : (if (t309.length : Int) = 0 then (some false) else (if 0 ≤ (Int.tmod (wrap64 (a1)) (t309.length : Int)) then (if (Int.tmod (wrap64 (a1)) (t309.length : Int)) < (t309.length : Int) then (if 0 < ((rdOf ByteArray.empty t309 (Int.tmod (wrap64 (a1)) (t309.length : Int))).size : Int) then (if 1 ≤ ((rdOf ByteArray.empty t309 (Int.tmod (wrap64 (a1)) (t309.length : Int))).size : Int) then (if (Go.Utf8.encode (((bt (rdOf ByteArray.empty t309 (Int.tmod (wrap64 (a1)) (t309.length : Int))) 0) - 32) % 256)).size + ((rdOf ByteArray.empty t309 (Int.tmod (wrap64 (a1)) (t309.length : Int))).extract 1 (rdOf ByteArray.empty t309 (Int.tmod (wrap64 (a1)) (t309.length : Int))).size).size ≤ 9223372036854775807 then ((kind_Of.f (rdOf ByteArray.empty t309 (Int.tmod (wrap64 (a1)) (t309.length : Int)))).bind fun t313 => (if t313 = 0 then (some false) else ((kind_Of.f ((Go.Utf8.encode (((bt (rdOf ByteArray.empty t309 (Int.tmod (wrap64 (a1)) (t309.length : Int))) 0) - 32) % 256)) ++ ((rdOf ByteArray.empty t309 (Int.tmod (wrap64 (a1)) (t309.length : Int))).extract 1 (rdOf ByteArray.empty t309 (Int.tmod (wrap64 (a1)) (t309.length : Int))).size))).bind fun t314 => (if t314 = 0 then (if (rdOf ByteArray.empty t309 (Int.tmod (wrap64 (a1)) (t309.length : Int))).size + 1 ≤ 9223372036854775807 then ((kind_Of.f ((rdOf ByteArray.empty t309 (Int.tmod (wrap64 (a1)) (t309.length : Int))) ++ (⟨#[32]⟩ : ByteArray))).bind fun t315 => (if t315 = 0 then (if 1 + (rdOf ByteArray.empty t309 (Int.tmod (wrap64 (a1)) (t309.length : Int))).size ≤ 9223372036854775807 then ((kind_Of.f ((⟨#[32]⟩ : ByteArray) ++ (rdOf ByteArray.empty t309 (Int.tmod (wrap64 (a1)) (t309.length : Int))))).bind fun t316 => (some (t316 == 0))) else (none)) else (some false))) else (none)) else (some false))))) else (none)) else (none)) else (none)) else (none)) else (none))) = some r := H
                    have A29 := Aside0.mk A290
                    clear A290
                    by_cases c30 : (t309.length : Int) = 0
                    · rw [if_pos c30] at H
                      have c30b0 : ((t309.length : Int) == 0) = true := beq_iff_eq.mpr c30
                      have c30b1 : ((t309.length : Int) != 0) = false := bne_eq_false_iff_eq.mpr c30
                      clear c30
                      obtain rfl := Option.some.inj H
                      go_wp2_with (first | (go_at_call 33; (with_reducible refine (kind_All.calls (-1) t309 _ ?side1 A29.out).mono ?_); (case side1 => exact GW.below HG.out (by repeat (first | (with_reducible first | exact HB.out | apply below_alloc | apply pw_below_drewN | apply below_drew1) | exact HB.out))); rintro e w31 ⟨v310, rfl, ho0, hb⟩; have n0_ := Aside0.mk (Kd.R_lower ho0 (below_size (by repeat (first | (with_reducible first | exact HB.out | apply below_alloc | apply pw_below_drewN | apply below_drew1) | exact HB.out)))); have n1_ := Aside0.mk (below_step (by repeat (first | (with_reducible first | exact HB.out | apply below_alloc | apply pw_below_drewN | apply below_drew1) | exact HB.out)) hb); clear HB; have HO311 := n0_; have HB := n1_; clear n0_ n1_; (try clear hb); (try clear hb2); (try clear hk); (try clear hi); (try clear ho0); obtain ⟨Ao32, co32, eo32⟩ := Kd.R_slice HO311.out; subst eo32))
                      repeat (go_quiet (first | (go_at_call 33; (with_reducible refine (kind_All.calls (-1) t309 _ ?side1 A29.out).mono ?_); (case side1 => exact GW.below HG.out (by repeat (first | (with_reducible first | exact HB.out | apply below_alloc | apply pw_below_drewN | apply below_drew1) | exact HB.out))); rintro e w31 ⟨v310, rfl, ho0, hb⟩; have n0_ := Aside0.mk (Kd.R_lower ho0 (below_size (by repeat (first | (with_reducible first | exact HB.out | apply below_alloc | apply pw_below_drewN | apply below_drew1) | exact HB.out)))); have n1_ := Aside0.mk (below_step (by repeat (first | (with_reducible first | exact HB.out | apply below_alloc | apply pw_below_drewN | apply below_drew1) | exact HB.out)) hb); clear HB; have HO311 := n0_; have HB := n1_; clear n0_ n1_; (try clear hb); (try clear hb2); (try clear hk); (try clear hi); (try clear ho0); obtain ⟨Ao32, co32, eo32⟩ := Kd.R_slice HO311.out; subst eo32)); try go_wp2_with (first | (go_at_call 33; (with_reducible refine (kind_All.calls (-1) t309 _ ?side1 A29.out).mono ?_); (case side1 => exact GW.below HG.out (by repeat (first | (with_reducible first | exact HB.out | apply below_alloc | apply pw_below_drewN | apply below_drew1) | exact HB.out))); rintro e w31 ⟨v310, rfl, ho0, hb⟩; have n0_ := Aside0.mk (Kd.R_lower ho0 (below_size (by repeat (first | (with_reducible first | exact HB.out | apply below_alloc | apply pw_below_drewN | apply below_drew1) | exact HB.out)))); have n1_ := Aside0.mk (below_step (by repeat (first | (with_reducible first | exact HB.out | apply below_alloc | apply pw_below_drewN | apply below_drew1) | exact HB.out)) hb); clear HB; have HO311 := n0_; have HB := n1_; clear n0_ n1_; (try clear hb); (try clear hb2); (try clear hk); (try clear hi); (try clear ho0); obtain ⟨Ao32, co32, eo32⟩ := Kd.R_slice HO311.out; subst eo32)))
                      go_ret
                      exact ⟨by first | rfl | (simp [errW_none, errW_some] <;> rfl) | (simp [*, errW_none, errW_some] <;> rfl), by repeat (first | (with_reducible first | exact HB.out | apply below_alloc | apply pw_below_drewN | apply below_drew1) | exact HB.out)⟩
                    · rw [if_neg c30] at H
                      have c30b0 : ((t309.length : Int) == 0) = false := beq_eq_false_iff_ne.mpr c30
                      have c30b1 : ((t309.length : Int) != 0) = true := bne_iff_ne.mpr c30
                      have c30b2 : ¬ (t309 = []) := fun h_ => c30 (by rw [h_]; rfl)
                      obtain ⟨ji33, hji33⟩ : ∃ j_ : Int, (Int.tmod (wrap64 (a1)) (t309.length : Int)) = j_ := ⟨_, rfl⟩
                      replace H : (if 0 ≤ (ji33) then (if (ji33) < (t309.length : Int) then (if 0 < ((rdOf ByteArray.empty t309 (ji33)).size : Int) then (if 1 ≤ ((rdOf ByteArray.empty t309 (ji33)).size : Int) then (if (Go.Utf8.encode (((bt (rdOf ByteArray.empty t309 (ji33)) 0) - 32) % 256)).size + ((rdOf ByteArray.empty t309 (ji33)).extract 1 (rdOf ByteArray.empty t309 (ji33)).size).size ≤ 9223372036854775807 then ((kind_Of.f (rdOf ByteArray.empty t309 (ji33))).bind fun t313 => (if t313 = 0 then (some false) else ((kind_Of.f ((Go.Utf8.encode (((bt (rdOf ByteArray.empty t309 (ji33)) 0) - 32) % 256)) ++ ((rdOf ByteArray.empty t309 (ji33)).extract 1 (rdOf ByteArray.empty t309 (ji33)).size))).bind fun t314 => (if t314 = 0 then (if (rdOf ByteArray.empty t309 (ji33)).size + 1 ≤ 9223372036854775807 then ((kind_Of.f ((rdOf ByteArray.empty t309 (ji33)) ++ (⟨#[32]⟩ : ByteArray))).bind fun t315 => (if t315 = 0 then (if 1 + (rdOf ByteArray.empty t309 (ji33)).size ≤ 9223372036854775807 then ((kind_Of.f ((⟨#[32]⟩ : ByteArray) ++ (rdOf ByteArray.empty t309 (ji33)))).bind fun t316 => (some (t316 == 0))) else (none)) else (some false))) else (none)) else (some false))))) else (none)) else (none)) else (none)) else (none)) else (none)) = some r := by first | (rw [hji33] at H; exact H) | (simp only [hji33] at H ⊢; exact H)
                      (try rw [hji33] at A29)
                      by_cases c34 : 0 ≤ (ji33)
                      · rw [if_pos c34] at H
                        have c34b0 : decide (0 ≤ (ji33)) = true := decide_eq_true c34
                        clear c34
                        by_cases c35 : (ji33) < (t309.length : Int)
                        · rw [if_pos c35] at H
                          have c35b0 : decide ((ji33) < (t309.length : Int)) = true := decide_eq_true c35
                          clear c35
                          by_cases c36 : 0 < ((rdOf ByteArray.empty t309 (ji33)).size : Int)
                          · rw [if_pos c36] at H
                            have c36b0 : decide (0 < ((rdOf ByteArray.empty t309 (ji33)).size : Int)) = true := decide_eq_true c36
                            have c36b1 : decide (0 < (rdOf ByteArray.empty t309 (ji33)).size) = true := decide_eq_true (by omega)
                            clear c36
                            by_cases c38 : 1 ≤ ((rdOf ByteArray.empty t309 (ji33)).size : Int)
                            · rw [if_pos c38] at H
                              have c38b0 := eq_true c38
                              have c38b1 : decide (1 ≤ ((rdOf ByteArray.empty t309 (ji33)).size : Int)) = true := decide_eq_true c38
                              clear c38
                              by_cases c39 : (Go.Utf8.encode (((bt (rdOf ByteArray.empty t309 (ji33)) 0) - 32) % 256)).size + ((rdOf ByteArray.empty t309 (ji33)).extract 1 (rdOf ByteArray.empty t309 (ji33)).size).size ≤ 9223372036854775807
                              · rw [if_pos c39] at H
                                have c39b0 := eq_true c39
                                have c39b1 : decide ((Go.Utf8.encode (((bt (rdOf ByteArray.empty t309 (ji33)) 0) - 32) % 256)).size + ((rdOf ByteArray.empty t309 (ji33)).extract 1 (rdOf ByteArray.empty t309 (ji33)).size).size ≤ 9223372036854775807) = true := decide_eq_true c39
                                try have c39b2 : (9223372036854775807 < (Go.Utf8.encode (((bt (rdOf ByteArray.empty t309 (ji33)) 0) - 32) % 256)).size + ((rdOf ByteArray.empty t309 (ji33)).extract 1 (rdOf ByteArray.empty t309 (ji33)).size).size) = False := eq_false (Nat.not_lt.2 c39)
                                replace H := Option.bind_eq_some_iff.mp H
                                obtain ⟨t313, A400, H⟩ := H
                                replace H : (if t313 = 0 then (some false) else ((kind_Of.f ((Go.Utf8.encode (((bt (rdOf ByteArray.empty t309 (ji33)) 0) - 32) % 256)) ++ ((rdOf ByteArray.empty t309 (ji33)).extract 1 (rdOf ByteArray.empty t309 (ji33)).size))).bind fun t314 => (if t314 = 0 then (if (rdOf ByteArray.empty t309 (ji33)).size + 1 ≤ 9223372036854775807 then ((kind_Of.f ((rdOf ByteArray.empty t309 (ji33)) ++ (⟨#[32]⟩ : ByteArray))).bind fun t315 => (if t315 = 0 then (if 1 + (rdOf ByteArray.empty t309 (ji33)).size ≤ 9223372036854775807 then ((kind_Of.f ((⟨#[32]⟩ : ByteArray) ++ (rdOf ByteArray.empty t309 (ji33)))).bind fun t316 => (some (t316 == 0))) else (none)) else (some false))) else (none)) else (some false)))) = some r := H
                                have A40 := Aside0.mk A400
                                clear A400
                                by_cases c41 : t313 = 0
                                · rw [if_pos c41] at H
                                  have c41b0 : (t313 == 0) = true := beq_iff_eq.mpr c41
                                  have c41b1 : (t313 != 0) = false := bne_eq_false_iff_eq.mpr c41
                                  clear c41
                                  obtain rfl := Option.some.inj H
                                  go_wp2_with (first | (go_at_call 33; (with_reducible refine (kind_All.calls (-1) t309 _ ?side1 A29.out).mono ?_); (case side1 => exact GW.below HG.out (by repeat (first | (with_reducible first | exact HB.out | apply below_alloc | apply pw_below_drewN | apply below_drew1) | exact HB.out))); rintro e w42 ⟨v310, rfl, ho0, hb⟩; have n0_ := Aside0.mk (Kd.R_lower ho0 (below_size (by repeat (first | (with_reducible first | exact HB.out | apply below_alloc | apply pw_below_drewN | apply below_drew1) | exact HB.out)))); have n1_ := Aside0.mk (below_step (by repeat (first | (with_reducible first | exact HB.out | apply below_alloc | apply pw_below_drewN | apply below_drew1) | exact HB.out)) hb); clear HB; have HO311 := n0_; have HB := n1_; clear n0_ n1_; (try clear hb); (try clear hb2); (try clear hk); (try clear hi); (try clear ho0); obtain ⟨Ao43, co43, eo43⟩ := Kd.R_slice HO311.out; subst eo43; have p312 : 0 ≤ ((ji33) : Int) := of_decide_eq_true (by first | (with_reducible assumption) | assumption); have q312 : (ji33) < (t309.length : Int) := of_decide_eq_true (by first | (with_reducible assumption) | assumption); obtain ⟨ad312, e312, hx312_0⟩ := Kd.at_string (Kd.R_reads' HO311.out).2.2 (ji33) p312 q312; cases e312; replace p312 := eq_true p312; replace q312 := eq_true q312; have p37 : 0 ≤ (0 : Int) := (by omega); have q37 : 0 < (rdOf ByteArray.empty t309 (ji33)).size := (by have : (0 : Int) < ((rdOf ByteArray.empty t309 (ji33)).size : Int) := of_decide_eq_true (by first | (with_reducible assumption) | assumption); omega); have hx37 : ∀ h : 0 < (rdOf ByteArray.empty t309 (ji33)).size, (((rdOf ByteArray.empty t309 (ji33))[0]'h).toNat : Int) = bt (rdOf ByteArray.empty t309 (ji33)) 0 := bt_at (rdOf ByteArray.empty t309 (ji33)) 0; clear p37; have qi37 : (0 < ((rdOf ByteArray.empty t309 (ji33)).size : Int)) = True := eq_true (of_decide_eq_true (by first | (with_reducible assumption) | assumption)); replace q37 := eq_true q37) | (go_at_call 15; (with_reducible refine (kind_Of.calls (rdOf ByteArray.empty t309 (ji33)) t313 _ ?side1 A40.out).mono ?_); (case side1 => exact GW.below HG.out (by repeat (first | (with_reducible first | exact HB.out | apply below_alloc | apply pw_below_drewN | apply below_drew1) | exact HB.out))); rintro e w44 ⟨rfl, hb⟩; have n0_ := Aside0.mk (Kd.R_below (by (with_reducible repeat (first | apply Kd.R_alloc | apply Kd.R_drewN | apply Kd.R_drew)); exact HO311.out) hb); have n1_ := Aside0.mk (below_step (by repeat (first | (with_reducible first | exact HB.out | apply below_alloc | apply pw_below_drewN | apply below_drew1) | exact HB.out)) hb); clear HO311; clear HB; have HO311 := n0_; have HB := n1_; clear n0_ n1_; (try clear hb); (try clear hb2); (try clear hk); (try clear hi)))
                                  repeat (go_quiet (first | (go_at_call 33; (with_reducible refine (kind_All.calls (-1) t309 _ ?side1 A29.out).mono ?_); (case side1 => exact GW.below HG.out (by repeat (first | (with_reducible first | exact HB.out | apply below_alloc | apply pw_below_drewN | apply below_drew1) | exact HB.out))); rintro e w42 ⟨v310, rfl, ho0, hb⟩; have n0_ := Aside0.mk (Kd.R_lower ho0 (below_size (by repeat (first | (with_reducible first | exact HB.out | apply below_alloc | apply pw_below_drewN | apply below_drew1) | exact HB.out)))); have n1_ := Aside0.mk (below_step (by repeat (first | (with_reducible first | exact HB.out | apply below_alloc | apply pw_below_drewN | apply below_drew1) | exact HB.out)) hb); clear HB; have HO311 := n0_; have HB := n1_; clear n0_ n1_; (try clear hb); (try clear hb2); (try clear hk); (try clear hi); (try clear ho0); obtain ⟨Ao43, co43, eo43⟩ := Kd.R_slice HO311.out; subst eo43; have p312 : 0 ≤ ((ji33) : Int) := of_decide_eq_true (by first | (with_reducible assumption) | assumption); have q312 : (ji33) < (t309.length : Int) := of_decide_eq_true (by first | (with_reducible assumption) | assumption); obtain ⟨ad312, e312, hx312_0⟩ := Kd.at_string (Kd.R_reads' HO311.out).2.2 (ji33) p312 q312; cases e312; replace p312 := eq_true p312; replace q312 := eq_true q312; have p37 : 0 ≤ (0 : Int) := (by omega); have q37 : 0 < (rdOf ByteArray.empty t309 (ji33)).size := (by have : (0 : Int) < ((rdOf ByteArray.empty t309 (ji33)).size : Int) := of_decide_eq_true (by first | (with_reducible assumption) | assumption); omega); have hx37 : ∀ h : 0 < (rdOf ByteArray.empty t309 (ji33)).size, (((rdOf ByteArray.empty t309 (ji33))[0]'h).toNat : Int) = bt (rdOf ByteArray.empty t309 (ji33)) 0 := bt_at (rdOf ByteArray.empty t309 (ji33)) 0; clear p37; have qi37 : (0 < ((rdOf ByteArray.empty t309 (ji33)).size : Int)) = True := eq_true (of_decide_eq_true (by first | (with_reducible assumption) | assumption)); replace q37 := eq_true q37) | (go_at_call 15; (with_reducible refine (kind_Of.calls (rdOf ByteArray.empty t309 (ji33)) t313 _ ?side1 A40.out).mono ?_); (case side1 => exact GW.below HG.out (by repeat (first | (with_reducible first | exact HB.out | apply below_alloc | apply pw_below_drewN | apply below_drew1) | exact HB.out))); rintro e w44 ⟨rfl, hb⟩; have n0_ := Aside0.mk (Kd.R_below (by (with_reducible repeat (first | apply Kd.R_alloc | apply Kd.R_drewN | apply Kd.R_drew)); exact HO311.out) hb); have n1_ := Aside0.mk (below_step (by repeat (first | (with_reducible first | exact HB.out | apply below_alloc | apply pw_below_drewN | apply below_drew1) | exact HB.out)) hb); clear HO311; clear HB; have HO311 := n0_; have HB := n1_; clear n0_ n1_; (try clear hb); (try clear hb2); (try clear hk); (try clear hi))); try go_wp2_with (first | (go_at_call 33; (with_reducible refine (kind_All.calls (-1) t309 _ ?side1 A29.out).mono ?_); (case side1 => exact GW.below HG.out (by repeat (first | (with_reducible first | exact HB.out | apply below_alloc | apply pw_below_drewN | apply below_drew1) | exact HB.out))); rintro e w42 ⟨v310, rfl, ho0, hb⟩; have n0_ := Aside0.mk (Kd.R_lower ho0 (below_size (by repeat (first | (with_reducible first | exact HB.out | apply below_alloc | apply pw_below_drewN | apply below_drew1) | exact HB.out)))); have n1_ := Aside0.mk (below_step (by repeat (first | (with_reducible first | exact HB.out | apply below_alloc | apply pw_below_drewN | apply below_drew1) | exact HB.out)) hb); clear HB; have HO311 := n0_; have HB := n1_; clear n0_ n1_; (try clear hb); (try clear hb2); (try clear hk); (try clear hi); (try clear ho0); obtain ⟨Ao43, co43, eo43⟩ := Kd.R_slice HO311.out; subst eo43; have p312 : 0 ≤ ((ji33) : Int) := of_decide_eq_true (by first | (with_reducible assumption) | assumption); have q312 : (ji33) < (t309.length : Int) := of_decide_eq_true (by first | (with_reducible assumption) | assumption); obtain ⟨ad312, e312, hx312_0⟩ := Kd.at_string (Kd.R_reads' HO311.out).2.2 (ji33) p312 q312; cases e312; replace p312 := eq_true p312; replace q312 := eq_true q312; have p37 : 0 ≤ (0 : Int) := (by omega); have q37 : 0 < (rdOf ByteArray.empty t309 (ji33)).size := (by have : (0 : Int) < ((rdOf ByteArray.empty t309 (ji33)).size : Int) := of_decide_eq_true (by first | (with_reducible assumption) | assumption); omega); have hx37 : ∀ h : 0 < (rdOf ByteArray.empty t309 (ji33)).size, (((rdOf ByteArray.empty t309 (ji33))[0]'h).toNat : Int) = bt (rdOf ByteArray.empty t309 (ji33)) 0 := bt_at (rdOf ByteArray.empty t309 (ji33)) 0; clear p37; have qi37 : (0 < ((rdOf ByteArray.empty t309 (ji33)).size : Int)) = True := eq_true (of_decide_eq_true (by first | (with_reducible assumption) | assumption)); replace q37 := eq_true q37) | (go_at_call 15; (with_reducible refine (kind_Of.calls (rdOf ByteArray.empty t309 (ji33)) t313 _ ?side1 A40.out).mono ?_); (case side1 => exact GW.below HG.out (by repeat (first | (with_reducible first | exact HB.out | apply below_alloc | apply pw_below_drewN | apply below_drew1) | exact HB.out))); rintro e w44 ⟨rfl, hb⟩; have n0_ := Aside0.mk (Kd.R_below (by (with_reducible repeat (first | apply Kd.R_alloc | apply Kd.R_drewN | apply Kd.R_drew)); exact HO311.out) hb); have n1_ := Aside0.mk (below_step (by repeat (first | (with_reducible first | exact HB.out | apply below_alloc | apply pw_below_drewN | apply below_drew1) | exact HB.out)) hb); clear HO311; clear HB; have HO311 := n0_; have HB := n1_; clear n0_ n1_; (try clear hb); (try clear hb2); (try clear hk); (try clear hi))))
                                  go_ret
                                  exact ⟨by first | rfl | (simp [errW_none, errW_some] <;> rfl) | (simp only [← hji33]; first | rfl | (simp [errW_none, errW_some] <;> rfl)) | (simp [*, errW_none, errW_some] <;> rfl), by repeat (first | (with_reducible first | exact HB.out | apply below_alloc | apply pw_below_drewN | apply below_drew1) | exact HB.out)⟩
                                · rw [if_neg c41] at H
                                  have c41b0 : (t313 == 0) = false := beq_eq_false_iff_ne.mpr c41
                                  have c41b1 : (t313 != 0) = true := bne_iff_ne.mpr c41
                                  replace H := Option.bind_eq_some_iff.mp H
                                  obtain ⟨t314, A450, H⟩ := H
                                  replace H : (if t314 = 0 then (if (rdOf ByteArray.empty t309 (ji33)).size + 1 ≤ 9223372036854775807 then ((kind_Of.f ((rdOf ByteArray.empty t309 (ji33)) ++ (⟨#[32]⟩ : ByteArray))).bind fun t315 => (if t315 = 0 then (if 1 + (rdOf ByteArray.empty t309 (ji33)).size ≤ 9223372036854775807 then ((kind_Of.f ((⟨#[32]⟩ : ByteArray) ++ (rdOf ByteArray.empty t309 (ji33)))).bind fun t316 => (some (t316 == 0))) else (none)) else (some false))) else (none)) else (some false)) = some r := H
                                  have A45 := Aside0.mk A450
                                  clear A450
                                  by_cases c46 : t314 = 0
                                  · rw [if_pos c46] at H
                                    have c46b0 : (t314 == 0) = true := beq_iff_eq.mpr c46
                                    have c46b1 : (t314 != 0) = false := bne_eq_false_iff_eq.mpr c46
                                    clear c46
                                    by_cases c47 : (rdOf ByteArray.empty t309 (ji33)).size + 1 ≤ 9223372036854775807
                                    · rw [if_pos c47] at H
                                      have c47b0 := eq_true c47
                                      have c47b1 : decide ((rdOf ByteArray.empty t309 (ji33)).size + 1 ≤ 9223372036854775807) = true := decide_eq_true c47
                                      try have c47b2 : (9223372036854775807 < (rdOf ByteArray.empty t309 (ji33)).size + 1) = False := eq_false (Nat.not_lt.2 c47)
                                      replace H := Option.bind_eq_some_iff.mp H
                                      obtain ⟨t315, A480, H⟩ := H
                                      replace H : (if t315 = 0 then (if 1 + (rdOf ByteArray.empty t309 (ji33)).size ≤ 9223372036854775807 then ((kind_Of.f ((⟨#[32]⟩ : ByteArray) ++ (rdOf ByteArray.empty t309 (ji33)))).bind fun t316 => (some (t316 == 0))) else (none)) else (some false)) = some r := H
                                      have A48 := Aside0.mk A480
                                      clear A480
                                      by_cases c49 : t315 = 0
                                      · rw [if_pos c49] at H
                                        have c49b0 : (t315 == 0) = true := beq_iff_eq.mpr c49
                                        have c49b1 : (t315 != 0) = false := bne_eq_false_iff_eq.mpr c49
                                        clear c49
                                        by_cases c50 : 1 + (rdOf ByteArray.empty t309 (ji33)).size ≤ 9223372036854775807
                                        · rw [if_pos c50] at H
                                          have c50b0 := eq_true c50
                                          have c50b1 : decide (1 + (rdOf ByteArray.empty t309 (ji33)).size ≤ 9223372036854775807) = true := decide_eq_true c50
                                          try have c50b2 : (9223372036854775807 < 1 + (rdOf ByteArray.empty t309 (ji33)).size) = False := eq_false (Nat.not_lt.2 c50)
                                          replace H := Option.bind_eq_some_iff.mp H
                                          obtain ⟨t316, A510, H⟩ := H
                                          replace H : (some (t316 == 0)) = some r := H
                                          have A51 := Aside0.mk A510
                                          clear A510
                                          obtain rfl := Option.some.inj H
                                          go_wp2_with (first | (go_at_call 33; (with_reducible refine (kind_All.calls (-1) t309 _ ?side1 A29.out).mono ?_); (case side1 => exact GW.below HG.out (by repeat (first | (with_reducible first | exact HB.out | apply below_alloc | apply pw_below_drewN | apply below_drew1) | exact HB.out))); rintro e w52 ⟨v310, rfl, ho0, hb⟩; have n0_ := Aside0.mk (Kd.R_lower ho0 (below_size (by repeat (first | (with_reducible first | exact HB.out | apply below_alloc | apply pw_below_drewN | apply below_drew1) | exact HB.out)))); have n1_ := Aside0.mk (below_step (by repeat (first | (with_reducible first | exact HB.out | apply below_alloc | apply pw_below_drewN | apply below_drew1) | exact HB.out)) hb); clear HB; have HO311 := n0_; have HB := n1_; clear n0_ n1_; (try clear hb); (try clear hb2); (try clear hk); (try clear hi); (try clear ho0); obtain ⟨Ao53, co53, eo53⟩ := Kd.R_slice HO311.out; subst eo53; have p312 : 0 ≤ ((ji33) : Int) := of_decide_eq_true (by first | (with_reducible assumption) | assumption); have q312 : (ji33) < (t309.length : Int) := of_decide_eq_true (by first | (with_reducible assumption) | assumption); obtain ⟨ad312, e312, hx312_0⟩ := Kd.at_string (Kd.R_reads' HO311.out).2.2 (ji33) p312 q312; cases e312; replace p312 := eq_true p312; replace q312 := eq_true q312; have p37 : 0 ≤ (0 : Int) := (by omega); have q37 : 0 < (rdOf ByteArray.empty t309 (ji33)).size := (by have : (0 : Int) < ((rdOf ByteArray.empty t309 (ji33)).size : Int) := of_decide_eq_true (by first | (with_reducible assumption) | assumption); omega); have hx37 : ∀ h : 0 < (rdOf ByteArray.empty t309 (ji33)).size, (((rdOf ByteArray.empty t309 (ji33))[0]'h).toNat : Int) = bt (rdOf ByteArray.empty t309 (ji33)) 0 := bt_at (rdOf ByteArray.empty t309 (ji33)) 0; clear p37; have qi37 : (0 < ((rdOf ByteArray.empty t309 (ji33)).size : Int)) = True := eq_true (of_decide_eq_true (by first | (with_reducible assumption) | assumption)); replace q37 := eq_true q37) | (go_at_call 15; (with_reducible refine (kind_Of.calls (rdOf ByteArray.empty t309 (ji33)) t313 _ ?side1 A40.out).mono ?_); (case side1 => exact GW.below HG.out (by repeat (first | (with_reducible first | exact HB.out | apply below_alloc | apply pw_below_drewN | apply below_drew1) | exact HB.out))); rintro e w54 ⟨rfl, hb⟩; have n0_ := Aside0.mk (Kd.R_below (by (with_reducible repeat (first | apply Kd.R_alloc | apply Kd.R_drewN | apply Kd.R_drew)); exact HO311.out) hb); have n1_ := Aside0.mk (below_step (by repeat (first | (with_reducible first | exact HB.out | apply below_alloc | apply pw_below_drewN | apply below_drew1) | exact HB.out)) hb); clear HO311; clear HB; have HO311 := n0_; have HB := n1_; clear n0_ n1_; (try clear hb); (try clear hb2); (try clear hk); (try clear hi)) | (go_at_call 15; (with_reducible refine (kind_Of.calls ((Go.Utf8.encode (((bt (rdOf ByteArray.empty t309 (ji33)) 0) - 32) % 256)) ++ ((rdOf ByteArray.empty t309 (ji33)).extract 1 (rdOf ByteArray.empty t309 (ji33)).size)) t314 _ ?side1 A45.out).mono ?_); (case side1 => exact GW.below HG.out (by repeat (first | (with_reducible first | exact HB.out | apply below_alloc | apply pw_below_drewN | apply below_drew1) | exact HB.out))); rintro e w55 ⟨rfl, hb⟩; have n0_ := Aside0.mk (Kd.R_below (by (with_reducible repeat (first | apply Kd.R_alloc | apply Kd.R_drewN | apply Kd.R_drew)); exact HO311.out) hb); have n1_ := Aside0.mk (below_step (by repeat (first | (with_reducible first | exact HB.out | apply below_alloc | apply pw_below_drewN | apply below_drew1) | exact HB.out)) hb); clear HO311; clear HB; have HO311 := n0_; have HB := n1_; clear n0_ n1_; (try clear hb); (try clear hb2); (try clear hk); (try clear hi)) | (go_at_call 15; (with_reducible refine (kind_Of.calls ((rdOf ByteArray.empty t309 (ji33)) ++ (⟨#[32]⟩ : ByteArray)) t315 _ ?side1 A48.out).mono ?_); (case side1 => exact GW.below HG.out (by repeat (first | (with_reducible first | exact HB.out | apply below_alloc | apply pw_below_drewN | apply below_drew1) | exact HB.out))); rintro e w56 ⟨rfl, hb⟩; have n0_ := Aside0.mk (Kd.R_below (by (with_reducible repeat (first | apply Kd.R_alloc | apply Kd.R_drewN | apply Kd.R_drew)); exact HO311.out) hb); have n1_ := Aside0.mk (below_step (by repeat (first | (with_reducible first | exact HB.out | apply below_alloc | apply pw_below_drewN | apply below_drew1) | exact HB.out)) hb); clear HO311; clear HB; have HO311 := n0_; have HB := n1_; clear n0_ n1_; (try clear hb); (try clear hb2); (try clear hk); (try clear hi)) | (go_at_call 15; (with_reducible refine (kind_Of.calls ((⟨#[32]⟩ : ByteArray) ++ (rdOf ByteArray.empty t309 (ji33))) t316 _ ?side1 A51.out).mono ?_); (case side1 => exact GW.below HG.out (by repeat (first | (with_reducible first | exact HB.out | apply below_alloc | apply pw_below_drewN | apply below_drew1) | exact HB.out))); rintro e w57 ⟨rfl, hb⟩; have n0_ := Aside0.mk (Kd.R_below (by (with_reducible repeat (first | apply Kd.R_alloc | apply Kd.R_drewN | apply Kd.R_drew)); exact HO311.out) hb); have n1_ := Aside0.mk (below_step (by repeat (first | (with_reducible first | exact HB.out | apply below_alloc | apply pw_below_drewN | apply below_drew1) | exact HB.out)) hb); clear HO311; clear HB; have HO311 := n0_; have HB := n1_; clear n0_ n1_; (try clear hb); (try clear hb2); (try clear hk); (try clear hi)))
                                          repeat (go_quiet (first | (go_at_call 33; (with_reducible refine (kind_All.calls (-1) t309 _ ?side1 A29.out).mono ?_); (case side1 => exact GW.below HG.out (by repeat (first | (with_reducible first | exact HB.out | apply below_alloc | apply pw_below_drewN | apply below_drew1) | exact HB.out))); rintro e w52 ⟨v310, rfl, ho0, hb⟩; have n0_ := Aside0.mk (Kd.R_lower ho0 (below_size (by repeat (first | (with_reducible first | exact HB.out | apply below_alloc | apply pw_below_drewN | apply below_drew1) | exact HB.out)))); have n1_ := Aside0.mk (below_step (by repeat (first | (with_reducible first | exact HB.out | apply below_alloc | apply pw_below_drewN | apply below_drew1) | exact HB.out)) hb); clear HB; have HO311 := n0_; have HB := n1_; clear n0_ n1_; (try clear hb); (try clear hb2); (try clear hk); (try clear hi); (try clear ho0); obtain ⟨Ao53, co53, eo53⟩ := Kd.R_slice HO311.out; subst eo53; have p312 : 0 ≤ ((ji33) : Int) := of_decide_eq_true (by first | (with_reducible assumption) | assumption); have q312 : (ji33) < (t309.length : Int) := of_decide_eq_true (by first | (with_reducible assumption) | assumption); obtain ⟨ad312, e312, hx312_0⟩ := Kd.at_string (Kd.R_reads' HO311.out).2.2 (ji33) p312 q312; cases e312; replace p312 := eq_true p312; replace q312 := eq_true q312; have p37 : 0 ≤ (0 : Int) := (by omega); have q37 : 0 < (rdOf ByteArray.empty t309 (ji33)).size := (by have : (0 : Int) < ((rdOf ByteArray.empty t309 (ji33)).size : Int) := of_decide_eq_true (by first | (with_reducible assumption) | assumption); omega); have hx37 : ∀ h : 0 < (rdOf ByteArray.empty t309 (ji33)).size, (((rdOf ByteArray.empty t309 (ji33))[0]'h).toNat : Int) = bt (rdOf ByteArray.empty t309 (ji33)) 0 := bt_at (rdOf ByteArray.empty t309 (ji33)) 0; clear p37; have qi37 : (0 < ((rdOf ByteArray.empty t309 (ji33)).size : Int)) = True := eq_true (of_decide_eq_true (by first | (with_reducible assumption) | assumption)); replace q37 := eq_true q37) | (go_at_call 15; (with_reducible refine (kind_Of.calls (rdOf ByteArray.empty t309 (ji33)) t313 _ ?side1 A40.out).mono ?_); (case side1 => exact GW.below HG.out (by repeat (first | (with_reducible first | exact HB.out | apply below_alloc | apply pw_below_drewN | apply below_drew1) | exact HB.out))); rintro e w54 ⟨rfl, hb⟩; have n0_ := Aside0.mk (Kd.R_below (by (with_reducible repeat (first | apply Kd.R_alloc | apply Kd.R_drewN | apply Kd.R_drew)); exact HO311.out) hb); have n1_ := Aside0.mk (below_step (by repeat (first | (with_reducible first | exact HB.out | apply below_alloc | apply pw_below_drewN | apply below_drew1) | exact HB.out)) hb); clear HO311; clear HB; have HO311 := n0_; have HB := n1_; clear n0_ n1_; (try clear hb); (try clear hb2); (try clear hk); (try clear hi)) | (go_at_call 15; (with_reducible refine (kind_Of.calls ((Go.Utf8.encode (((bt (rdOf ByteArray.empty t309 (ji33)) 0) - 32) % 256)) ++ ((rdOf ByteArray.empty t309 (ji33)).extract 1 (rdOf ByteArray.empty t309 (ji33)).size)) t314 _ ?side1 A45.out).mono ?_); (case side1 => exact GW.below HG.out (by repeat (first | (with_reducible first | exact HB.out | apply below_alloc | apply pw_below_drewN | apply below_drew1) | exact HB.out))); rintro e w55 ⟨rfl, hb⟩; have n0_ := Aside0.mk (Kd.R_below (by (with_reducible repeat (first | apply Kd.R_alloc | apply Kd.R_drewN | apply Kd.R_drew)); exact HO311.out) hb); have n1_ := Aside0.mk (below_step (by repeat (first | (with_reducible first | exact HB.out | apply below_alloc | apply pw_below_drewN | apply below_drew1) | exact HB.out)) hb); clear HO311; clear HB; have HO311 := n0_; have HB := n1_; clear n0_ n1_; (try clear hb); (try clear hb2); (try clear hk); (try clear hi)) | (go_at_call 15; (with_reducible refine (kind_Of.calls ((rdOf ByteArray.empty t309 (ji33)) ++ (⟨#[32]⟩ : ByteArray)) t315 _ ?side1 A48.out).mono ?_); (case side1 => exact GW.below HG.out (by repeat (first | (with_reducible first | exact HB.out | apply below_alloc | apply pw_below_drewN | apply below_drew1) | exact HB.out))); rintro e w56 ⟨rfl, hb⟩; have n0_ := Aside0.mk (Kd.R_below (by (with_reducible repeat (first | apply Kd.R_alloc | apply Kd.R_drewN | apply Kd.R_drew)); exact HO311.out) hb); have n1_ := Aside0.mk (below_step (by repeat (first | (with_reducible first | exact HB.out | apply below_alloc | apply pw_below_drewN | apply below_drew1) | exact HB.out)) hb); clear HO311; clear HB; have HO311 := n0_; have HB := n1_; clear n0_ n1_; (try clear hb); (try clear hb2); (try clear hk); (try clear hi)) | (go_at_call 15; (with_reducible refine (kind_Of.calls ((⟨#[32]⟩ : ByteArray) ++ (rdOf ByteArray.empty t309 (ji33))) t316 _ ?side1 A51.out).mono ?_); (case side1 => exact GW.below HG.out (by repeat (first | (with_reducible first | exact HB.out | apply below_alloc | apply pw_below_drewN | apply below_drew1) | exact HB.out))); rintro e w57 ⟨rfl, hb⟩; have n0_ := Aside0.mk (Kd.R_below (by (with_reducible repeat (first | apply Kd.R_alloc | apply Kd.R_drewN | apply Kd.R_drew)); exact HO311.out) hb); have n1_ := Aside0.mk (below_step (by repeat (first | (with_reducible first | exact HB.out | apply below_alloc | apply pw_below_drewN | apply below_drew1) | exact HB.out)) hb); clear HO311; clear HB; have HO311 := n0_; have HB := n1_; clear n0_ n1_; (try clear hb); (try clear hb2); (try clear hk); (try clear hi))); try go_wp2_with (first | (go_at_call 33; (with_reducible refine (kind_All.calls (-1) t309 _ ?side1 A29.out).mono ?_); (case side1 => exact GW.below HG.out (by repeat (first | (with_reducible first | exact HB.out | apply below_alloc | apply pw_below_drewN | apply below_drew1) | exact HB.out))); rintro e w52 ⟨v310, rfl, ho0, hb⟩; have n0_ := Aside0.mk (Kd.R_lower ho0 (below_size (by repeat (first | (with_reducible first | exact HB.out | apply below_alloc | apply pw_below_drewN | apply below_drew1) | exact HB.out)))); have n1_ := Aside0.mk (below_step (by repeat (first | (with_reducible first | exact HB.out | apply below_alloc | apply pw_below_drewN | apply below_drew1) | exact HB.out)) hb); clear HB; have HO311 := n0_; have HB := n1_; clear n0_ n1_; (try clear hb); (try clear hb2); (try clear hk); (try clear hi); (try clear ho0); obtain ⟨Ao53, co53, eo53⟩ := Kd.R_slice HO311.out; subst eo53; have p312 : 0 ≤ ((ji33) : Int) := of_decide_eq_true (by first | (with_reducible assumption) | assumption); have q312 : (ji33) < (t309.length : Int) := of_decide_eq_true (by first | (with_reducible assumption) | assumption); obtain ⟨ad312, e312, hx312_0⟩ := Kd.at_string (Kd.R_reads' HO311.out).2.2 (ji33) p312 q312; cases e312; replace p312 := eq_true p312; replace q312 := eq_true q312; have p37 : 0 ≤ (0 : Int) := (by omega); have q37 : 0 < (rdOf ByteArray.empty t309 (ji33)).size := (by have : (0 : Int) < ((rdOf ByteArray.empty t309 (ji33)).size : Int) := of_decide_eq_true (by first | (with_reducible assumption) | assumption); omega); have hx37 : ∀ h : 0 < (rdOf ByteArray.empty t309 (ji33)).size, (((rdOf ByteArray.empty t309 (ji33))[0]'h).toNat : Int) = bt (rdOf ByteArray.empty t309 (ji33)) 0 := bt_at (rdOf ByteArray.empty t309 (ji33)) 0; clear p37; have qi37 : (0 < ((rdOf ByteArray.empty t309 (ji33)).size : Int)) = True := eq_true (of_decide_eq_true (by first | (with_reducible assumption) | assumption)); replace q37 := eq_true q37) | (go_at_call 15; (with_reducible refine (kind_Of.calls (rdOf ByteArray.empty t309 (ji33)) t313 _ ?side1 A40.out).mono ?_); (case side1 => exact GW.below HG.out (by repeat (first | (with_reducible first | exact HB.out | apply below_alloc | apply pw_below_drewN | apply below_drew1) | exact HB.out))); rintro e w54 ⟨rfl, hb⟩; have n0_ := Aside0.mk (Kd.R_below (by (with_reducible repeat (first | apply Kd.R_alloc | apply Kd.R_drewN | apply Kd.R_drew)); exact HO311.out) hb); have n1_ := Aside0.mk (below_step (by repeat (first | (with_reducible first | exact HB.out | apply below_alloc | apply pw_below_drewN | apply below_drew1) | exact HB.out)) hb); clear HO311; clear HB; have HO311 := n0_; have HB := n1_; clear n0_ n1_; (try clear hb); (try clear hb2); (try clear hk); (try clear hi)) | (go_at_call 15; (with_reducible refine (kind_Of.calls ((Go.Utf8.encode (((bt (rdOf ByteArray.empty t309 (ji33)) 0) - 32) % 256)) ++ ((rdOf ByteArray.empty t309 (ji33)).extract 1 (rdOf ByteArray.empty t309 (ji33)).size)) t314 _ ?side1 A45.out).mono ?_); (case side1 => exact GW.below HG.out (by repeat (first | (with_reducible first | exact HB.out | apply below_alloc | apply pw_below_drewN | apply below_drew1) | exact HB.out))); rintro e w55 ⟨rfl, hb⟩; have n0_ := Aside0.mk (Kd.R_below (by (with_reducible repeat (first | apply Kd.R_alloc | apply Kd.R_drewN | apply Kd.R_drew)); exact HO311.out) hb); have n1_ := Aside0.mk (below_step (by repeat (first | (with_reducible first | exact HB.out | apply below_alloc | apply pw_below_drewN | apply below_drew1) | exact HB.out)) hb); clear HO311; clear HB; have HO311 := n0_; have HB := n1_; clear n0_ n1_; (try clear hb); (try clear hb2); (try clear hk); (try clear hi)) | (go_at_call 15; (with_reducible refine (kind_Of.calls ((rdOf ByteArray.empty t309 (ji33)) ++ (⟨#[32]⟩ : ByteArray)) t315 _ ?side1 A48.out).mono ?_); (case side1 => exact GW.below HG.out (by repeat (first | (with_reducible first | exact HB.out | apply below_alloc | apply pw_below_drewN | apply below_drew1) | exact HB.out))); rintro e w56 ⟨rfl, hb⟩; have n0_ := Aside0.mk (Kd.R_below (by (with_reducible repeat (first | apply Kd.R_alloc | apply Kd.R_drewN | apply Kd.R_drew)); exact HO311.out) hb); have n1_ := Aside0.mk (below_step (by repeat (first | (with_reducible first | exact HB.out | apply below_alloc | apply pw_below_drewN | apply below_drew1) | exact HB.out)) hb); clear HO311; clear HB; have HO311 := n0_; have HB := n1_; clear n0_ n1_; (try clear hb); (try clear hb2); (try clear hk); (try clear hi)) | (go_at_call 15; (with_reducible refine (kind_Of.calls ((⟨#[32]⟩ : ByteArray) ++ (rdOf ByteArray.empty t309 (ji33))) t316 _ ?side1 A51.out).mono ?_); (case side1 => exact GW.below HG.out (by repeat (first | (with_reducible first | exact HB.out | apply below_alloc | apply pw_below_drewN | apply below_drew1) | exact HB.out))); rintro e w57 ⟨rfl, hb⟩; have n0_ := Aside0.mk (Kd.R_below (by (with_reducible repeat (first | apply Kd.R_alloc | apply Kd.R_drewN | apply Kd.R_drew)); exact HO311.out) hb); have n1_ := Aside0.mk (below_step (by repeat (first | (with_reducible first | exact HB.out | apply below_alloc | apply pw_below_drewN | apply below_drew1) | exact HB.out)) hb); clear HO311; clear HB; have HO311 := n0_; have HB := n1_; clear n0_ n1_; (try clear hb); (try clear hb2); (try clear hk); (try clear hi))))
                                          go_ret
                                          exact ⟨by first | rfl | (simp [errW_none, errW_some] <;> rfl) | (simp only [← hji33]; first | rfl | (simp [errW_none, errW_some] <;> rfl)) | (simp [*, errW_none, errW_some] <;> rfl), by repeat (first | (with_reducible first | exact HB.out | apply below_alloc | apply pw_below_drewN | apply below_drew1) | exact HB.out)⟩
                                        · rw [if_neg c50] at H
                                          exact absurd H (by simp)
                                      · rw [if_neg c49] at H
                                        have c49b0 : (t315 == 0) = false := beq_eq_false_iff_ne.mpr c49
                                        have c49b1 : (t315 != 0) = true := bne_iff_ne.mpr c49
                                        obtain rfl := Option.some.inj H
                                        go_wp2_with (first | (go_at_call 33; (with_reducible refine (kind_All.calls (-1) t309 _ ?side1 A29.out).mono ?_); (case side1 => exact GW.below HG.out (by repeat (first | (with_reducible first | exact HB.out | apply below_alloc | apply pw_below_drewN | apply below_drew1) | exact HB.out))); rintro e w58 ⟨v310, rfl, ho0, hb⟩; have n0_ := Aside0.mk (Kd.R_lower ho0 (below_size (by repeat (first | (with_reducible first | exact HB.out | apply below_alloc | apply pw_below_drewN | apply below_drew1) | exact HB.out)))); have n1_ := Aside0.mk (below_step (by repeat (first | (with_reducible first | exact HB.out | apply below_alloc | apply pw_below_drewN | apply below_drew1) | exact HB.out)) hb); clear HB; have HO311 := n0_; have HB := n1_; clear n0_ n1_; (try clear hb); (try clear hb2); (try clear hk); (try clear hi); (try clear ho0); obtain ⟨Ao59, co59, eo59⟩ := Kd.R_slice HO311.out; subst eo59; have p312 : 0 ≤ ((ji33) : Int) := of_decide_eq_true (by first | (with_reducible assumption) | assumption); have q312 : (ji33) < (t309.length : Int) := of_decide_eq_true (by first | (with_reducible assumption) | assumption); obtain ⟨ad312, e312, hx312_0⟩ := Kd.at_string (Kd.R_reads' HO311.out).2.2 (ji33) p312 q312; cases e312; replace p312 := eq_true p312; replace q312 := eq_true q312; have p37 : 0 ≤ (0 : Int) := (by omega); have q37 : 0 < (rdOf ByteArray.empty t309 (ji33)).size := (by have : (0 : Int) < ((rdOf ByteArray.empty t309 (ji33)).size : Int) := of_decide_eq_true (by first | (with_reducible assumption) | assumption); omega); have hx37 : ∀ h : 0 < (rdOf ByteArray.empty t309 (ji33)).size, (((rdOf ByteArray.empty t309 (ji33))[0]'h).toNat : Int) = bt (rdOf ByteArray.empty t309 (ji33)) 0 := bt_at (rdOf ByteArray.empty t309 (ji33)) 0; clear p37; have qi37 : (0 < ((rdOf ByteArray.empty t309 (ji33)).size : Int)) = True := eq_true (of_decide_eq_true (by first | (with_reducible assumption) | assumption)); replace q37 := eq_true q37) | (go_at_call 15; (with_reducible refine (kind_Of.calls (rdOf ByteArray.empty t309 (ji33)) t313 _ ?side1 A40.out).mono ?_); (case side1 => exact GW.below HG.out (by repeat (first | (with_reducible first | exact HB.out | apply below_alloc | apply pw_below_drewN | apply below_drew1) | exact HB.out))); rintro e w60 ⟨rfl, hb⟩; have n0_ := Aside0.mk (Kd.R_below (by (with_reducible repeat (first | apply Kd.R_alloc | apply Kd.R_drewN | apply Kd.R_drew)); exact HO311.out) hb); have n1_ := Aside0.mk (below_step (by repeat (first | (with_reducible first | exact HB.out | apply below_alloc | apply pw_below_drewN | apply below_drew1) | exact HB.out)) hb); clear HO311; clear HB; have HO311 := n0_; have HB := n1_; clear n0_ n1_; (try clear hb); (try clear hb2); (try clear hk); (try clear hi)) | (go_at_call 15; (with_reducible refine (kind_Of.calls ((Go.Utf8.encode (((bt (rdOf ByteArray.empty t309 (ji33)) 0) - 32) % 256)) ++ ((rdOf ByteArray.empty t309 (ji33)).extract 1 (rdOf ByteArray.empty t309 (ji33)).size)) t314 _ ?side1 A45.out).mono ?_); (case side1 => exact GW.below HG.out (by repeat (first | (with_reducible first | exact HB.out | apply below_alloc | apply pw_below_drewN | apply below_drew1) | exact HB.out))); rintro e w61 ⟨rfl, hb⟩; have n0_ := Aside0.mk (Kd.R_below (by (with_reducible repeat (first | apply Kd.R_alloc | apply Kd.R_drewN | apply Kd.R_drew)); exact HO311.out) hb); have n1_ := Aside0.mk (below_step (by repeat (first | (with_reducible first | exact HB.out | apply below_alloc | apply pw_below_drewN | apply below_drew1) | exact HB.out)) hb); clear HO311; clear HB; have HO311 := n0_; have HB := n1_; clear n0_ n1_; (try clear hb); (try clear hb2); (try clear hk); (try clear hi)) | (go_at_call 15; (with_reducible refine (kind_Of.calls ((rdOf ByteArray.empty t309 (ji33)) ++ (⟨#[32]⟩ : ByteArray)) t315 _ ?side1 A48.out).mono ?_); (case side1 => exact GW.below HG.out (by repeat (first | (with_reducible first | exact HB.out | apply below_alloc | apply pw_below_drewN | apply below_drew1) | exact HB.out))); rintro e w62 ⟨rfl, hb⟩; have n0_ := Aside0.mk (Kd.R_below (by (with_reducible repeat (first | apply Kd.R_alloc | apply Kd.R_drewN | apply Kd.R_drew)); exact HO311.out) hb); have n1_ := Aside0.mk (below_step (by repeat (first | (with_reducible first | exact HB.out | apply below_alloc | apply pw_below_drewN | apply below_drew1) | exact HB.out)) hb); clear HO311; clear HB; have HO311 := n0_; have HB := n1_; clear n0_ n1_; (try clear hb); (try clear hb2); (try clear hk); (try clear hi)))
                                        repeat (go_quiet (first | (go_at_call 33; (with_reducible refine (kind_All.calls (-1) t309 _ ?side1 A29.out).mono ?_); (case side1 => exact GW.below HG.out (by repeat (first | (with_reducible first | exact HB.out | apply below_alloc | apply pw_below_drewN | apply below_drew1) | exact HB.out))); rintro e w58 ⟨v310, rfl, ho0, hb⟩; have n0_ := Aside0.mk (Kd.R_lower ho0 (below_size (by repeat (first | (with_reducible first | exact HB.out | apply below_alloc | apply pw_below_drewN | apply below_drew1) | exact HB.out)))); have n1_ := Aside0.mk (below_step (by repeat (first | (with_reducible first | exact HB.out | apply below_alloc | apply pw_below_drewN | apply below_drew1) | exact HB.out)) hb); clear HB; have HO311 := n0_; have HB := n1_; clear n0_ n1_; (try clear hb); (try clear hb2); (try clear hk); (try clear hi); (try clear ho0); obtain ⟨Ao59, co59, eo59⟩ := Kd.R_slice HO311.out; subst eo59; have p312 : 0 ≤ ((ji33) : Int) := of_decide_eq_true (by first | (with_reducible assumption) | assumption); have q312 : (ji33) < (t309.length : Int) := of_decide_eq_true (by first | (with_reducible assumption) | assumption); obtain ⟨ad312, e312, hx312_0⟩ := Kd.at_string (Kd.R_reads' HO311.out).2.2 (ji33) p312 q312; cases e312; replace p312 := eq_true p312; replace q312 := eq_true q312; have p37 : 0 ≤ (0 : Int) := (by omega); have q37 : 0 < (rdOf ByteArray.empty t309 (ji33)).size := (by have : (0 : Int) < ((rdOf ByteArray.empty t309 (ji33)).size : Int) := of_decide_eq_true (by first | (with_reducible assumption) | assumption); omega); have hx37 : ∀ h : 0 < (rdOf ByteArray.empty t309 (ji33)).size, (((rdOf ByteArray.empty t309 (ji33))[0]'h).toNat : Int) = bt (rdOf ByteArray.empty t309 (ji33)) 0 := bt_at (rdOf ByteArray.empty t309 (ji33)) 0; clear p37; have qi37 : (0 < ((rdOf ByteArray.empty t309 (ji33)).size : Int)) = True := eq_true (of_decide_eq_true (by first | (with_reducible assumption) | assumption)); replace q37 := eq_true q37) | (go_at_call 15; (with_reducible refine (kind_Of.calls (rdOf ByteArray.empty t309 (ji33)) t313 _ ?side1 A40.out).mono ?_); (case side1 => exact GW.below HG.out (by repeat (first | (with_reducible first | exact HB.out | apply below_alloc | apply pw_below_drewN | apply below_drew1) | exact HB.out))); rintro e w60 ⟨rfl, hb⟩; have n0_ := Aside0.mk (Kd.R_below (by (with_reducible repeat (first | apply Kd.R_alloc | apply Kd.R_drewN | apply Kd.R_drew)); exact HO311.out) hb); have n1_ := Aside0.mk (below_step (by repeat (first | (with_reducible first | exact HB.out | apply below_alloc | apply pw_below_drewN | apply below_drew1) | exact HB.out)) hb); clear HO311; clear HB; have HO311 := n0_; have HB := n1_; clear n0_ n1_; (try clear hb); (try clear hb2); (try clear hk); (try clear hi)) | (go_at_call 15; (with_reducible refine (kind_Of.calls ((Go.Utf8.encode (((bt (rdOf ByteArray.empty t309 (ji33)) 0) - 32) % 256)) ++ ((rdOf ByteArray.empty t309 (ji33)).extract 1 (rdOf ByteArray.empty t309 (ji33)).size)) t314 _ ?side1 A45.out).mono ?_); (case side1 => exact GW.below HG.out (by repeat (first | (with_reducible first | exact HB.out | apply below_alloc | apply pw_below_drewN | apply below_drew1) | exact HB.out))); rintro e w61 ⟨rfl, hb⟩; have n0_ := Aside0.mk (Kd.R_below (by (with_reducible repeat (first | apply Kd.R_alloc | apply Kd.R_drewN | apply Kd.R_drew)); exact HO311.out) hb); have n1_ := Aside0.mk (below_step (by repeat (first | (with_reducible first | exact HB.out | apply below_alloc | apply pw_below_drewN | apply below_drew1) | exact HB.out)) hb); clear HO311; clear HB; have HO311 := n0_; have HB := n1_; clear n0_ n1_; (try clear hb); (try clear hb2); (try clear hk); (try clear hi)) | (go_at_call 15; (with_reducible refine (kind_Of.calls ((rdOf ByteArray.empty t309 (ji33)) ++ (⟨#[32]⟩ : ByteArray)) t315 _ ?side1 A48.out).mono ?_); (case side1 => exact GW.below HG.out (by repeat (first | (with_reducible first | exact HB.out | apply below_alloc | apply pw_below_drewN | apply below_drew1) | exact HB.out))); rintro e w62 ⟨rfl, hb⟩; have n0_ := Aside0.mk (Kd.R_below (by (with_reducible repeat (first | apply Kd.R_alloc | apply Kd.R_drewN | apply Kd.R_drew)); exact HO311.out) hb); have n1_ := Aside0.mk (below_step (by repeat (first | (with_reducible first | exact HB.out | apply below_alloc | apply pw_below_drewN | apply below_drew1) | exact HB.out)) hb); clear HO311; clear HB; have HO311 := n0_; have HB := n1_; clear n0_ n1_; (try clear hb); (try clear hb2); (try clear hk); (try clear hi))); try go_wp2_with (first | (go_at_call 33; (with_reducible refine (kind_All.calls (-1) t309 _ ?side1 A29.out).mono ?_); (case side1 => exact GW.below HG.out (by repeat (first | (with_reducible first | exact HB.out | apply below_alloc | apply pw_below_drewN | apply below_drew1) | exact HB.out))); rintro e w58 ⟨v310, rfl, ho0, hb⟩; have n0_ := Aside0.mk (Kd.R_lower ho0 (below_size (by repeat (first | (with_reducible first | exact HB.out | apply below_alloc | apply pw_below_drewN | apply below_drew1) | exact HB.out)))); have n1_ := Aside0.mk (below_step (by repeat (first | (with_reducible first | exact HB.out | apply below_alloc | apply pw_below_drewN | apply below_drew1) | exact HB.out)) hb); clear HB; have HO311 := n0_; have HB := n1_; clear n0_ n1_; (try clear hb); (try clear hb2); (try clear hk); (try clear hi); (try clear ho0); obtain ⟨Ao59, co59, eo59⟩ := Kd.R_slice HO311.out; subst eo59; have p312 : 0 ≤ ((ji33) : Int) := of_decide_eq_true (by first | (with_reducible assumption) | assumption); have q312 : (ji33) < (t309.length : Int) := of_decide_eq_true (by first | (with_reducible assumption) | assumption); obtain ⟨ad312, e312, hx312_0⟩ := Kd.at_string (Kd.R_reads' HO311.out).2.2 (ji33) p312 q312; cases e312; replace p312 := eq_true p312; replace q312 := eq_true q312; have p37 : 0 ≤ (0 : Int) := (by omega); have q37 : 0 < (rdOf ByteArray.empty t309 (ji33)).size := (by have : (0 : Int) < ((rdOf ByteArray.empty t309 (ji33)).size : Int) := of_decide_eq_true (by first | (with_reducible assumption) | assumption); omega); have hx37 : ∀ h : 0 < (rdOf ByteArray.empty t309 (ji33)).size, (((rdOf ByteArray.empty t309 (ji33))[0]'h).toNat : Int) = bt (rdOf ByteArray.empty t309 (ji33)) 0 := bt_at (rdOf ByteArray.empty t309 (ji33)) 0; clear p37; have qi37 : (0 < ((rdOf ByteArray.empty t309 (ji33)).size : Int)) = True := eq_true (of_decide_eq_true (by first | (with_reducible assumption) | assumption)); replace q37 := eq_true q37) | (go_at_call 15; (with_reducible refine (kind_Of.calls (rdOf ByteArray.empty t309 (ji33)) t313 _ ?side1 A40.out).mono ?_); (case side1 => exact GW.below HG.out (by repeat (first | (with_reducible first | exact HB.out | apply below_alloc | apply pw_below_drewN | apply below_drew1) | exact HB.out))); rintro e w60 ⟨rfl, hb⟩; have n0_ := Aside0.mk (Kd.R_below (by (with_reducible repeat (first | apply Kd.R_alloc | apply Kd.R_drewN | apply Kd.R_drew)); exact HO311.out) hb); have n1_ := Aside0.mk (below_step (by repeat (first | (with_reducible first | exact HB.out | apply below_alloc | apply pw_below_drewN | apply below_drew1) | exact HB.out)) hb); clear HO311; clear HB; have HO311 := n0_; have HB := n1_; clear n0_ n1_; (try clear hb); (try clear hb2); (try clear hk); (try clear hi)) | (go_at_call 15; (with_reducible refine (kind_Of.calls ((Go.Utf8.encode (((bt (rdOf ByteArray.empty t309 (ji33)) 0) - 32) % 256)) ++ ((rdOf ByteArray.empty t309 (ji33)).extract 1 (rdOf ByteArray.empty t309 (ji33)).size)) t314 _ ?side1 A45.out).mono ?_); (case side1 => exact GW.below HG.out (by repeat (first | (with_reducible first | exact HB.out | apply below_alloc | apply pw_below_drewN | apply below_drew1) | exact HB.out))); rintro e w61 ⟨rfl, hb⟩; have n0_ := Aside0.mk (Kd.R_below (by (with_reducible repeat (first | apply Kd.R_alloc | apply Kd.R_drewN | apply Kd.R_drew)); exact HO311.out) hb); have n1_ := Aside0.mk (below_step (by repeat (first | (with_reducible first | exact HB.out | apply below_alloc | apply pw_below_drewN | apply below_drew1) | exact HB.out)) hb); clear HO311; clear HB; have HO311 := n0_; have HB := n1_; clear n0_ n1_; (try clear hb); (try clear hb2); (try clear hk); (try clear hi)) | (go_at_call 15; (with_reducible refine (kind_Of.calls ((rdOf ByteArray.empty t309 (ji33)) ++ (⟨#[32]⟩ : ByteArray)) t315 _ ?side1 A48.out).mono ?_); (case side1 => exact GW.below HG.out (by repeat (first | (with_reducible first | exact HB.out | apply below_alloc | apply pw_below_drewN | apply below_drew1) | exact HB.out))); rintro e w62 ⟨rfl, hb⟩; have n0_ := Aside0.mk (Kd.R_below (by (with_reducible repeat (first | apply Kd.R_alloc | apply Kd.R_drewN | apply Kd.R_drew)); exact HO311.out) hb); have n1_ := Aside0.mk (below_step (by repeat (first | (with_reducible first | exact HB.out | apply below_alloc | apply pw_below_drewN | apply below_drew1) | exact HB.out)) hb); clear HO311; clear HB; have HO311 := n0_; have HB := n1_; clear n0_ n1_; (try clear hb); (try clear hb2); (try clear hk); (try clear hi))))
                                        go_ret
                                        exact ⟨by first | rfl | (simp [errW_none, errW_some] <;> rfl) | (simp only [← hji33]; first | rfl | (simp [errW_none, errW_some] <;> rfl)) | (simp [*, errW_none, errW_some] <;> rfl), by repeat (first | (with_reducible first | exact HB.out | apply below_alloc | apply pw_below_drewN | apply below_drew1) | exact HB.out)⟩
                                    · rw [if_neg c47] at H
                                      exact absurd H (by simp)
                                  · rw [if_neg c46] at H
                                    have c46b0 : (t314 == 0) = false := beq_eq_false_iff_ne.mpr c46
                                    have c46b1 : (t314 != 0) = true := bne_iff_ne.mpr c46
                                    obtain rfl := Option.some.inj H
                                    go_wp2_with (first | (go_at_call 33; (with_reducible refine (kind_All.calls (-1) t309 _ ?side1 A29.out).mono ?_); (case side1 => exact GW.below HG.out (by repeat (first | (with_reducible first | exact HB.out | apply below_alloc | apply pw_below_drewN | apply below_drew1) | exact HB.out))); rintro e w63 ⟨v310, rfl, ho0, hb⟩; have n0_ := Aside0.mk (Kd.R_lower ho0 (below_size (by repeat (first | (with_reducible first | exact HB.out | apply below_alloc | apply pw_below_drewN | apply below_drew1) | exact HB.out)))); have n1_ := Aside0.mk (below_step (by repeat (first | (with_reducible first | exact HB.out | apply below_alloc | apply pw_below_drewN | apply below_drew1) | exact HB.out)) hb); clear HB; have HO311 := n0_; have HB := n1_; clear n0_ n1_; (try clear hb); (try clear hb2); (try clear hk); (try clear hi); (try clear ho0); obtain ⟨Ao64, co64, eo64⟩ := Kd.R_slice HO311.out; subst eo64; have p312 : 0 ≤ ((ji33) : Int) := of_decide_eq_true (by first | (with_reducible assumption) | assumption); have q312 : (ji33) < (t309.length : Int) := of_decide_eq_true (by first | (with_reducible assumption) | assumption); obtain ⟨ad312, e312, hx312_0⟩ := Kd.at_string (Kd.R_reads' HO311.out).2.2 (ji33) p312 q312; cases e312; replace p312 := eq_true p312; replace q312 := eq_true q312; have p37 : 0 ≤ (0 : Int) := (by omega); have q37 : 0 < (rdOf ByteArray.empty t309 (ji33)).size := (by have : (0 : Int) < ((rdOf ByteArray.empty t309 (ji33)).size : Int) := of_decide_eq_true (by first | (with_reducible assumption) | assumption); omega); have hx37 : ∀ h : 0 < (rdOf ByteArray.empty t309 (ji33)).size, (((rdOf ByteArray.empty t309 (ji33))[0]'h).toNat : Int) = bt (rdOf ByteArray.empty t309 (ji33)) 0 := bt_at (rdOf ByteArray.empty t309 (ji33)) 0; clear p37; have qi37 : (0 < ((rdOf ByteArray.empty t309 (ji33)).size : Int)) = True := eq_true (of_decide_eq_true (by first | (with_reducible assumption) | assumption)); replace q37 := eq_true q37) | (go_at_call 15; (with_reducible refine (kind_Of.calls (rdOf ByteArray.empty t309 (ji33)) t313 _ ?side1 A40.out).mono ?_); (case side1 => exact GW.below HG.out (by repeat (first | (with_reducible first | exact HB.out | apply below_alloc | apply pw_below_drewN | apply below_drew1) | exact HB.out))); rintro e w65 ⟨rfl, hb⟩; have n0_ := Aside0.mk (Kd.R_below (by (with_reducible repeat (first | apply Kd.R_alloc | apply Kd.R_drewN | apply Kd.R_drew)); exact HO311.out) hb); have n1_ := Aside0.mk (below_step (by repeat (first | (with_reducible first | exact HB.out | apply below_alloc | apply pw_below_drewN | apply below_drew1) | exact HB.out)) hb); clear HO311; clear HB; have HO311 := n0_; have HB := n1_; clear n0_ n1_; (try clear hb); (try clear hb2); (try clear hk); (try clear hi)) | (go_at_call 15; (with_reducible refine (kind_Of.calls ((Go.Utf8.encode (((bt (rdOf ByteArray.empty t309 (ji33)) 0) - 32) % 256)) ++ ((rdOf ByteArray.empty t309 (ji33)).extract 1 (rdOf ByteArray.empty t309 (ji33)).size)) t314 _ ?side1 A45.out).mono ?_); (case side1 => exact GW.below HG.out (by repeat (first | (with_reducible first | exact HB.out | apply below_alloc | apply pw_below_drewN | apply below_drew1) | exact HB.out))); rintro e w66 ⟨rfl, hb⟩; have n0_ := Aside0.mk (Kd.R_below (by (with_reducible repeat (first | apply Kd.R_alloc | apply Kd.R_drewN | apply Kd.R_drew)); exact HO311.out) hb); have n1_ := Aside0.mk (below_step (by repeat (first | (with_reducible first | exact HB.out | apply below_alloc | apply pw_below_drewN | apply below_drew1) | exact HB.out)) hb); clear HO311; clear HB; have HO311 := n0_; have HB := n1_; clear n0_ n1_; (try clear hb); (try clear hb2); (try clear hk); (try clear hi)))
                                    repeat (go_quiet (first | (go_at_call 33; (with_reducible refine (kind_All.calls (-1) t309 _ ?side1 A29.out).mono ?_); (case side1 => exact GW.below HG.out (by repeat (first | (with_reducible first | exact HB.out | apply below_alloc | apply pw_below_drewN | apply below_drew1) | exact HB.out))); rintro e w63 ⟨v310, rfl, ho0, hb⟩; have n0_ := Aside0.mk (Kd.R_lower ho0 (below_size (by repeat (first | (with_reducible first | exact HB.out | apply below_alloc | apply pw_below_drewN | apply below_drew1) | exact HB.out)))); have n1_ := Aside0.mk (below_step (by repeat (first | (with_reducible first | exact HB.out | apply below_alloc | apply pw_below_drewN | apply below_drew1) | exact HB.out)) hb); clear HB; have HO311 := n0_; have HB := n1_; clear n0_ n1_; (try clear hb); (try clear hb2); (try clear hk); (try clear hi); (try clear ho0); obtain ⟨Ao64, co64, eo64⟩ := Kd.R_slice HO311.out; subst eo64; have p312 : 0 ≤ ((ji33) : Int) := of_decide_eq_true (by first | (with_reducible assumption) | assumption); have q312 : (ji33) < (t309.length : Int) := of_decide_eq_true (by first | (with_reducible assumption) | assumption); obtain ⟨ad312, e312, hx312_0⟩ := Kd.at_string (Kd.R_reads' HO311.out).2.2 (ji33) p312 q312; cases e312; replace p312 := eq_true p312; replace q312 := eq_true q312; have p37 : 0 ≤ (0 : Int) := (by omega); have q37 : 0 < (rdOf ByteArray.empty t309 (ji33)).size := (by have : (0 : Int) < ((rdOf ByteArray.empty t309 (ji33)).size : Int) := of_decide_eq_true (by first | (with_reducible assumption) | assumption); omega); have hx37 : ∀ h : 0 < (rdOf ByteArray.empty t309 (ji33)).size, (((rdOf ByteArray.empty t309 (ji33))[0]'h).toNat : Int) = bt (rdOf ByteArray.empty t309 (ji33)) 0 := bt_at (rdOf ByteArray.empty t309 (ji33)) 0; clear p37; have qi37 : (0 < ((rdOf ByteArray.empty t309 (ji33)).size : Int)) = True := eq_true (of_decide_eq_true (by first | (with_reducible assumption) | assumption)); replace q37 := eq_true q37) | (go_at_call 15; (with_reducible refine (kind_Of.calls (rdOf ByteArray.empty t309 (ji33)) t313 _ ?side1 A40.out).mono ?_); (case side1 => exact GW.below HG.out (by repeat (first | (with_reducible first | exact HB.out | apply below_alloc | apply pw_below_drewN | apply below_drew1) | exact HB.out))); rintro e w65 ⟨rfl, hb⟩; have n0_ := Aside0.mk (Kd.R_below (by (with_reducible repeat (first | apply Kd.R_alloc | apply Kd.R_drewN | apply Kd.R_drew)); exact HO311.out) hb); have n1_ := Aside0.mk (below_step (by repeat (first | (with_reducible first | exact HB.out | apply below_alloc | apply pw_below_drewN | apply below_drew1) | exact HB.out)) hb); clear HO311; clear HB; have HO311 := n0_; have HB := n1_; clear n0_ n1_; (try clear hb); (try clear hb2); (try clear hk); (try clear hi)) | (go_at_call 15; (with_reducible refine (kind_Of.calls ((Go.Utf8.encode (((bt (rdOf ByteArray.empty t309 (ji33)) 0) - 32) % 256)) ++ ((rdOf ByteArray.empty t309 (ji33)).extract 1 (rdOf ByteArray.empty t309 (ji33)).size)) t314 _ ?side1 A45.out).mono ?_); (case side1 => exact GW.below HG.out (by repeat (first | (with_reducible first | exact HB.out | apply below_alloc | apply pw_below_drewN | apply below_drew1) | exact HB.out))); rintro e w66 ⟨rfl, hb⟩; have n0_ := Aside0.mk (Kd.R_below (by (with_reducible repeat (first | apply Kd.R_alloc | apply Kd.R_drewN | apply Kd.R_drew)); exact HO311.out) hb); have n1_ := Aside0.mk (below_step (by repeat (first | (with_reducible first | exact HB.out | apply below_alloc | apply pw_below_drewN | apply below_drew1) | exact HB.out)) hb); clear HO311; clear HB; have HO311 := n0_; have HB := n1_; clear n0_ n1_; (try clear hb); (try clear hb2); (try clear hk); (try clear hi))); try go_wp2_with (first | (go_at_call 33; (with_reducible refine (kind_All.calls (-1) t309 _ ?side1 A29.out).mono ?_); (case side1 => exact GW.below HG.out (by repeat (first | (with_reducible first | exact HB.out | apply below_alloc | apply pw_below_drewN | apply below_drew1) | exact HB.out))); rintro e w63 ⟨v310, rfl, ho0, hb⟩; have n0_ := Aside0.mk (Kd.R_lower ho0 (below_size (by repeat (first | (with_reducible first | exact HB.out | apply below_alloc | apply pw_below_drewN | apply below_drew1) | exact HB.out)))); have n1_ := Aside0.mk (below_step (by repeat (first | (with_reducible first | exact HB.out | apply below_alloc | apply pw_below_drewN | apply below_drew1) | exact HB.out)) hb); clear HB; have HO311 := n0_; have HB := n1_; clear n0_ n1_; (try clear hb); (try clear hb2); (try clear hk); (try clear hi); (try clear ho0); obtain ⟨Ao64, co64, eo64⟩ := Kd.R_slice HO311.out; subst eo64; have p312 : 0 ≤ ((ji33) : Int) := of_decide_eq_true (by first | (with_reducible assumption) | assumption); have q312 : (ji33) < (t309.length : Int) := of_decide_eq_true (by first | (with_reducible assumption) | assumption); obtain ⟨ad312, e312, hx312_0⟩ := Kd.at_string (Kd.R_reads' HO311.out).2.2 (ji33) p312 q312; cases e312; replace p312 := eq_true p312; replace q312 := eq_true q312; have p37 : 0 ≤ (0 : Int) := (by omega); have q37 : 0 < (rdOf ByteArray.empty t309 (ji33)).size := (by have : (0 : Int) < ((rdOf ByteArray.empty t309 (ji33)).size : Int) := of_decide_eq_true (by first | (with_reducible assumption) | assumption); omega); have hx37 : ∀ h : 0 < (rdOf ByteArray.empty t309 (ji33)).size, (((rdOf ByteArray.empty t309 (ji33))[0]'h).toNat : Int) = bt (rdOf ByteArray.empty t309 (ji33)) 0 := bt_at (rdOf ByteArray.empty t309 (ji33)) 0; clear p37; have qi37 : (0 < ((rdOf ByteArray.empty t309 (ji33)).size : Int)) = True := eq_true (of_decide_eq_true (by first | (with_reducible assumption) | assumption)); replace q37 := eq_true q37) | (go_at_call 15; (with_reducible refine (kind_Of.calls (rdOf ByteArray.empty t309 (ji33)) t313 _ ?side1 A40.out).mono ?_); (case side1 => exact GW.below HG.out (by repeat (first | (with_reducible first | exact HB.out | apply below_alloc | apply pw_below_drewN | apply below_drew1) | exact HB.out))); rintro e w65 ⟨rfl, hb⟩; have n0_ := Aside0.mk (Kd.R_below (by (with_reducible repeat (first | apply Kd.R_alloc | apply Kd.R_drewN | apply Kd.R_drew)); exact HO311.out) hb); have n1_ := Aside0.mk (below_step (by repeat (first | (with_reducible first | exact HB.out | apply below_alloc | apply pw_below_drewN | apply below_drew1) | exact HB.out)) hb); clear HO311; clear HB; have HO311 := n0_; have HB := n1_; clear n0_ n1_; (try clear hb); (try clear hb2); (try clear hk); (try clear hi)) | (go_at_call 15; (with_reducible refine (kind_Of.calls ((Go.Utf8.encode (((bt (rdOf ByteArray.empty t309 (ji33)) 0) - 32) % 256)) ++ ((rdOf ByteArray.empty t309 (ji33)).extract 1 (rdOf ByteArray.empty t309 (ji33)).size)) t314 _ ?side1 A45.out).mono ?_); (case side1 => exact GW.below HG.out (by repeat (first | (with_reducible first | exact HB.out | apply below_alloc | apply pw_below_drewN | apply below_drew1) | exact HB.out))); rintro e w66 ⟨rfl, hb⟩; have n0_ := Aside0.mk (Kd.R_below (by (with_reducible repeat (first | apply Kd.R_alloc | apply Kd.R_drewN | apply Kd.R_drew)); exact HO311.out) hb); have n1_ := Aside0.mk (below_step (by repeat (first | (with_reducible first | exact HB.out | apply below_alloc | apply pw_below_drewN | apply below_drew1) | exact HB.out)) hb); clear HO311; clear HB; have HO311 := n0_; have HB := n1_; clear n0_ n1_; (try clear hb); (try clear hb2); (try clear hk); (try clear hi))))
                                    go_ret
                                    exact ⟨by first | rfl | (simp [errW_none, errW_some] <;> rfl) | (simp only [← hji33]; first | rfl | (simp [errW_none, errW_some] <;> rfl)) | (simp [*, errW_none, errW_some] <;> rfl), by repeat (first | (with_reducible first | exact HB.out | apply below_alloc | apply pw_below_drewN | apply below_drew1) | exact HB.out)⟩
                              · rw [if_neg c39] at H
                                exact absurd H (by simp)
                            · rw [if_neg c38] at H
                              exact absurd H (by simp)
                          · rw [if_neg c36] at H
                            exact absurd H (by simp)
                        · rw [if_neg c35] at H
                          exact absurd H (by simp)
                      · rw [if_neg c34] at H
                        exact absurd H (by simp)

end Go.Proofs.YteahlapoeiikoaaDoor.P
