/- Several texts, one behind the other. -/
import Derived.Test.YteahlapoeiikoaaDoorJoin11
import Derived.Test.YteahlapoeiikoaaDoorJoin12
import Derived.Test.YteahlapoeiikoaaDoorKindsC
import Derived.Test.YteahlapoeiikoaaDoorNested


-- Printed by a program of this session (wip/myprint.py over the kit's print).
namespace Go.Proofs.YteahlapoeiikoaaDoor.P
open Go.RowKit Go.Proofs.YteahlapoeiikoaaDoorW.PrintWords Go.Proofs.YteahlapoeiikoaaDoorW.PrintLast Go.Proofs.YteahlapoeiikoaaDoorW.PrintMore
attribute [local go_sem] max2_int min2_int max_two min_two max_three min_three max_four min_four   -- for this text's walks alone
set_option linter.unusedVariables false
set_option linter.unusedSimpArgs false

/-! ### fit_In: function 18 -/
mutual
def fit_In.j0 : Nat → List ByteArray → ByteArray → ByteArray → Option (Bool)
  | 0, _, _, _ => none
  | k + 1, x0, x1, x5 => (kind_Is.f x1 2).bind fun t125 => (if t125 = true then ((slices_Contains_string_string.f k x0 (⟨#[112]⟩ : ByteArray)).bind fun t126 => (fit_In.j1 k x0 x1 x5 t126)) else (fit_In.j1 k x0 x1 x5 false))
def fit_In.j1 : Nat → List ByteArray → ByteArray → ByteArray → Bool → Option (Bool)
  | 0, _, _, _, _ => none
  | k + 1, x0, x1, x5, x15 => if x15 = true then (some false) else ((kind_Is.f x1 4).bind fun t127 => (if t127 = true then ((kind_Is.f x5 4).bind fun t128 => (fit_In.j2 k x0 x1 t128)) else (fit_In.j2 k x0 x1 false)))
def fit_In.j2 : Nat → List ByteArray → ByteArray → Bool → Option (Bool)
  | 0, _, _, _ => none
  | k + 1, x0, x1, x22 => if x22 = true then (some false) else ((fit_nested.f x0 x1).bind fun t129 => (if t129 = true then (some false) else (if x1.toList = ([97] : List UInt8) then ((slices_Contains_string_string.f k x0 (⟨#[97]⟩ : ByteArray)).bind fun t130 => (if t130 = true then (some false) else (some true))) else (some true))))
end
def fit_In.f (k : Nat) (l0 : List ByteArray) (a1 : ByteArray) : Option (Bool) := if (l0.length : Int) > 0 then (if 0 ≤ (wrap64 ((l0.length : Int) - 1)) then (if (wrap64 ((l0.length : Int) - 1)) < (l0.length : Int) then (fit_In.j0 k l0 a1 (rdOf ByteArray.empty l0 (wrap64 ((l0.length : Int) - 1)))) else (none)) else (none)) else (fit_In.j0 k l0 a1 (⟨#[]⟩ : ByteArray))
theorem fit_In.mono_l : ∀ k, (∀ y0 y1 y2, LeO (fit_In.j0 k y0 y1 y2) (fit_In.j0 (k + 1) y0 y1 y2)) ∧ (∀ y0 y1 y2 y3, LeO (fit_In.j1 k y0 y1 y2 y3) (fit_In.j1 (k + 1) y0 y1 y2 y3)) ∧ (∀ y0 y1 y2, LeO (fit_In.j2 k y0 y1 y2) (fit_In.j2 (k + 1) y0 y1 y2))
  | 0 => ⟨fun _ _ _ r h => by simp [fit_In.j0] at h, fun _ _ _ _ r h => by simp [fit_In.j1] at h, fun _ _ _ r h => by simp [fit_In.j2] at h⟩
  | k + 1 => by
    obtain ⟨ih0, ih1, ih2⟩ := fit_In.mono_l k
    refine ⟨?_, ?_, ?_⟩
    · intro y0 y1 y2
      unfold fit_In.j0
      repeat' first
      | (with_reducible exact ih0 _ _ _)
      | (with_reducible exact ih1 _ _ _ _)
      | (with_reducible exact ih2 _ _ _)
      | (with_reducible exact slices_Contains_string_string.mono _ _ _)
      | (with_reducible exact LeO.refl _)
      | (with_reducible exact LeO.none _)
      | (with_reducible refine LeO.ite ?_ ?_)
      | (with_reducible refine LeO.bind ?_ (fun _ => ?_))
      | exact ih0 _ _ _
      | exact ih1 _ _ _ _
      | exact ih2 _ _ _
      | exact slices_Contains_string_string.mono _ _ _
      | exact LeO.none _
      | refine LeO.ite ?_ ?_
      | refine LeO.bind ?_ (fun _ => ?_)
    · intro y0 y1 y2 y3
      unfold fit_In.j1
      repeat' first
      | (with_reducible exact ih0 _ _ _)
      | (with_reducible exact ih1 _ _ _ _)
      | (with_reducible exact ih2 _ _ _)
      | (with_reducible exact slices_Contains_string_string.mono _ _ _)
      | (with_reducible exact LeO.refl _)
      | (with_reducible exact LeO.none _)
      | (with_reducible refine LeO.ite ?_ ?_)
      | (with_reducible refine LeO.bind ?_ (fun _ => ?_))
      | exact ih0 _ _ _
      | exact ih1 _ _ _ _
      | exact ih2 _ _ _
      | exact slices_Contains_string_string.mono _ _ _
      | exact LeO.none _
      | refine LeO.ite ?_ ?_
      | refine LeO.bind ?_ (fun _ => ?_)
    · intro y0 y1 y2
      unfold fit_In.j2
      repeat' first
      | (with_reducible exact ih0 _ _ _)
      | (with_reducible exact ih1 _ _ _ _)
      | (with_reducible exact ih2 _ _ _)
      | (with_reducible exact slices_Contains_string_string.mono _ _ _)
      | (with_reducible exact LeO.refl _)
      | (with_reducible exact LeO.none _)
      | (with_reducible refine LeO.ite ?_ ?_)
      | (with_reducible refine LeO.bind ?_ (fun _ => ?_))
      | exact ih0 _ _ _
      | exact ih1 _ _ _ _
      | exact ih2 _ _ _
      | exact slices_Contains_string_string.mono _ _ _
      | exact LeO.none _
      | refine LeO.ite ?_ ?_
      | refine LeO.bind ?_ (fun _ => ?_)
theorem fit_In.mono : ∀ a0 a1 k, LeO (fit_In.f k a0 a1) (fit_In.f (k + 1) a0 a1) := by
  intro a0 a1 k
  obtain ⟨ih0, ih1, ih2⟩ := fit_In.mono_l k
  unfold fit_In.f
  repeat' first
      | (with_reducible exact ih0 _ _ _)
      | (with_reducible exact ih1 _ _ _ _)
      | (with_reducible exact ih2 _ _ _)
      | (with_reducible exact slices_Contains_string_string.mono _ _ _)
      | (with_reducible exact LeO.refl _)
      | (with_reducible exact LeO.none _)
      | (with_reducible refine LeO.ite ?_ ?_)
      | (with_reducible refine LeO.bind ?_ (fun _ => ?_))
      | exact ih0 _ _ _
      | exact ih1 _ _ _ _
      | exact ih2 _ _ _
      | exact slices_Contains_string_string.mono _ _ _
      | exact LeO.none _
      | refine LeO.ite ?_ ?_
      | refine LeO.bind ?_ (fun _ => ?_)
set_option maxHeartbeats 8000000 in
set_option maxRecDepth 100000 in
theorem fit_In.calls (k : Nat) (A0 : Option Addr) (c0 : Nat) (l0 : List ByteArray) (a1 : ByteArray) (r : Bool) (w : World) (hr0 : Kd.C Kd.string w A0 l0.length l0) (hc0 : l0.length ≤ c0) (hG : GW w) (h : fit_In.f k l0 a1 = some r) :
    Calls Tryd.prog 18 #[.slice A0 l0.length c0, .string a1] w fun e w' => e = .returned (.bool r) ∧ Below w.heap.size w w' := by
  have HR0 := Aside0.mk hr0
  have HC0 := Aside0.mk hc0
  clear hr0 hc0
  have HG := Aside0.mk hG
  clear hG
  have HB := Aside0.mk (Below.refl w.heap.size w)
  have H : (if (l0.length : Int) > 0 then (if 0 ≤ (wrap64 ((l0.length : Int) - 1)) then (if (wrap64 ((l0.length : Int) - 1)) < (l0.length : Int) then (fit_In.j0 k l0 a1 (rdOf ByteArray.empty l0 (wrap64 ((l0.length : Int) - 1)))) else (none)) else (none)) else (fit_In.j0 k l0 a1 (⟨#[]⟩ : ByteArray))) = some r := h
  clear h
  have HC3 := Aside0.mk H
  clear H
  go_enter Tryd.func18, Tryd.ntmps18
  go_upto_if 8 with (fail)
  go_cut [5] (fun v5 wc => ∃ (kq : Nat) (x5_2 : ByteArray), v5 = .string x5_2 ∧ Aside0 (fit_In.j0 kq l0 a1 x5_2 = some r) ∧ Aside0 (kq ≤ k) ∧ Aside0 (Below w.heap.size w wc))
  case first =>
    have H := HC3.out
    clear HC3
    by_cases c4 : (l0.length : Int) > 0
    · rw [if_pos c4] at H
      have c4b0 : decide (0 < (l0.length : Int)) = true := decide_eq_true c4
      have c4b1 : decide (0 < l0.length) = true := decide_eq_true (by omega)
      clear c4
      (first | rw [c4b0] | (simp only [i64_w, i32_w]; rw [c4b0]) | rw [c4b1] | skip)
      obtain ⟨ji5, hji5⟩ : ∃ j_ : Int, (wrap64 ((l0.length : Int) - 1)) = j_ := ⟨_, rfl⟩
      replace H : (if 0 ≤ (ji5) then (if (ji5) < (l0.length : Int) then (fit_In.j0 k l0 a1 (rdOf ByteArray.empty l0 (ji5))) else (none)) else (none)) = some r := by first | (rw [hji5] at H; exact H) | (simp only [hji5] at H ⊢; exact H)
      have hji5w : (IntKind.i64.wrap ((l0.length : Int) - 1)) = ji5 := (i64_w _).trans hji5
      by_cases c6 : 0 ≤ (ji5)
      · rw [if_pos c6] at H
        have c6b0 : decide (0 ≤ (ji5)) = true := decide_eq_true c6
        clear c6
        by_cases c7 : (ji5) < (l0.length : Int)
        · rw [if_pos c7] at H
          have c7b0 : decide ((ji5) < (l0.length : Int)) = true := decide_eq_true c7
          clear c7
          have H' := Aside0.mk H
          clear H
          have p124 : 0 ≤ ((ji5) : Int) := of_decide_eq_true (by first | (with_reducible assumption) | assumption)
          have q124 : (ji5) < (l0.length : Int) := of_decide_eq_true (by first | (with_reducible assumption) | assumption)
          obtain ⟨ad124, e124, hx124_0⟩ := Kd.at_string HR0.out (ji5) p124 q124
          cases e124
          replace hx124_0 := (HB.out.cell (World.block_lt_of_cell? w _ hx124_0)).trans hx124_0
          replace p124 := eq_true p124
          replace q124 := eq_true q124
          go_wp2
          go_meet
          case rel => exact ⟨_, (rdOf ByteArray.empty l0 (ji5)), (by first | rfl | (simp; done) | (simp only [← hji5] <;> (first | rfl | simp)) | (simp [*]; done)), H', ⟨by first | omega | exact Nat.le_refl _⟩, ⟨by repeat (first | (with_reducible first | exact HB.out | apply below_alloc | apply pw_below_drewN | apply below_drew1) | exact HB.out)⟩⟩
        · rw [if_neg c7] at H
          exact absurd H (by simp)
      · rw [if_neg c6] at H
        exact absurd H (by simp)
    · rw [if_neg c4] at H
      have c4b0 : decide (0 < (l0.length : Int)) = false := decide_eq_false c4
      have c4b1 : decide (0 < l0.length) = false := decide_eq_false (by omega)
      clear c4
      (first | rw [c4b0] | (simp only [i64_w, i32_w]; rw [c4b0]) | rw [c4b1] | skip)
      have H' := Aside0.mk H
      clear H
      go_wp2
      go_meet
      case rel => exact ⟨_, ((⟨#[]⟩ : ByteArray)), (by first | rfl | (simp; done) | (simp [*]; done)), H', ⟨by first | omega | exact Nat.le_refl _⟩, ⟨by repeat (first | (with_reducible first | exact HB.out | apply below_alloc | apply pw_below_drewN | apply below_drew1) | exact HB.out)⟩⟩
  case rest =>
    clear HC3
    try clear c1
    try clear p1
    try clear q1
    try clear hx1
    try clear p2
    try clear c4
    try clear c4b0
    try clear c4b1
    try clear c6
    try clear c6b0
    try clear p6
    try clear c7
    try clear c7b0
    try clear hx124_0
    try clear p124
    try clear q124
    obtain ⟨kq, x5_2, rfl, HA, HJ2, HB⟩ := hcut
    cases kq with
    | zero => exact absurd HA.out (by simp [fit_In.j0])
    | succ kj2 =>
      have H := HA.out
      clear HA
      simp only [fit_In.j0] at H
      have HC8 := Aside0.mk H
      clear H
      go_upto_region 5 with (fail)
      go_cut [15] (fun v15 wc => ∃ (kq : Nat) (x15_7 : Bool), v15 = .bool x15_7 ∧ Aside0 (fit_In.j1 kq l0 a1 x5_2 x15_7 = some r) ∧ Aside0 (kq ≤ kj2) ∧ Aside0 (Below w.heap.size w wc))
      case first =>
        have H := HC8.out
        clear HC8
        replace H := Option.bind_eq_some_iff.mp H
        obtain ⟨t125, A90, H⟩ := H
        replace H : (if t125 = true then ((slices_Contains_string_string.f kj2 l0 (⟨#[112]⟩ : ByteArray)).bind fun t126 => (fit_In.j1 kj2 l0 a1 x5_2 t126)) else (fit_In.j1 kj2 l0 a1 x5_2 false)) = some r := H
        have A9 := Aside0.mk A90
        clear A90
        by_cases c10 : t125 = true
        · subst c10
          have H1 : ((slices_Contains_string_string.f kj2 l0 (⟨#[112]⟩ : ByteArray)).bind fun t126 => (fit_In.j1 kj2 l0 a1 x5_2 t126)) = some r := by rw [if_pos rfl] at H; exact H
          clear H
          have H := H1
          clear H1
          replace H := Option.bind_eq_some_iff.mp H
          obtain ⟨t126, A110, H⟩ := H
          replace H : (fit_In.j1 kj2 l0 a1 x5_2 t126) = some r := H
          have A11 := Aside0.mk A110
          clear A110
          have H' := Aside0.mk H
          clear H
          go_wp2_with (first | ((with_reducible refine gate_callee (f := 16) rfl ?_); refine goesL_ (some 17) rfl rfl Tryd.func16 (by kernel_rfl) rfl #[.string a1, .int .i64 2] rfl (by (try simp only [List.map_toArray, List.map_cons, List.map_nil]); first | done | rfl | (simp only [List.length_drop, List.length_take]; rfl)) ?_; (with_reducible refine (kind_Is.calls a1 2 true _ ?side1 A9.out).mono ?_); (case side1 => exact GW.below HG.out (by repeat (first | (with_reducible first | exact HB.out | apply below_alloc | apply pw_below_drewN | apply below_drew1) | exact HB.out))); rintro e w12 ⟨rfl, hb⟩; refine ⟨_, rfl, ?_⟩; have n0_ := Aside0.mk (below_step (by repeat (first | (with_reducible first | exact HB.out | apply below_alloc | apply pw_below_drewN | apply below_drew1) | exact HB.out)) hb); clear HB; have HB := n0_; clear n0_; (try clear hb); (try clear hb2); (try clear hk); (try clear hi)) | (go_at_call 36; (with_reducible refine (slices_Contains_string_string.calls kj2 _ _ l0 (⟨#[112]⟩ : ByteArray) t126 _ ?side1 ?side2 A11.out).mono ?_); (case side1 => repeat (first | exact (Kd.C_below HR0.out HB.out) | (with_reducible refine Kd.C_alloc ?_ _) | (with_reducible refine Kd.C_drewN ?_ _) | (with_reducible refine Kd.C_drew ?_))); (case side2 => exact HC0.out); rintro e w' ⟨rfl, ⟨nd, rfl⟩⟩))
          go_meet
          case rel => exact ⟨_, (t126), (by first | rfl | (simp; done) | (simp [*]; done)), H', ⟨by have := HJ2.out; first | omega | exact Nat.le_refl _⟩, ⟨by repeat (first | (with_reducible first | exact HB.out | apply below_alloc | apply pw_below_drewN | apply below_drew1) | exact HB.out)⟩⟩
        · replace c10 := Bool.eq_false_iff.mpr c10
          subst c10
          have H1 : (fit_In.j1 kj2 l0 a1 x5_2 false) = some r := by rw [if_neg (show ¬ (false = true) by decide)] at H; exact H
          clear H
          have H := H1
          clear H1
          have H' := Aside0.mk H
          clear H
          go_wp2_with (first | ((with_reducible refine gate_callee (f := 16) rfl ?_); refine goesL_ (some 17) rfl rfl Tryd.func16 (by kernel_rfl) rfl #[.string a1, .int .i64 2] rfl (by (try simp only [List.map_toArray, List.map_cons, List.map_nil]); first | done | rfl | (simp only [List.length_drop, List.length_take]; rfl)) ?_; (with_reducible refine (kind_Is.calls a1 2 false _ ?side1 A9.out).mono ?_); (case side1 => exact GW.below HG.out (by repeat (first | (with_reducible first | exact HB.out | apply below_alloc | apply pw_below_drewN | apply below_drew1) | exact HB.out))); rintro e w13 ⟨rfl, hb⟩; refine ⟨_, rfl, ?_⟩; have n0_ := Aside0.mk (below_step (by repeat (first | (with_reducible first | exact HB.out | apply below_alloc | apply pw_below_drewN | apply below_drew1) | exact HB.out)) hb); clear HB; have HB := n0_; clear n0_; (try clear hb); (try clear hb2); (try clear hk); (try clear hi)))
          go_meet
          case rel => exact ⟨_, (false), (by first | rfl | (simp; done) | (simp [*]; done)), H', ⟨by have := HJ2.out; first | omega | exact Nat.le_refl _⟩, ⟨by repeat (first | (with_reducible first | exact HB.out | apply below_alloc | apply pw_below_drewN | apply below_drew1) | exact HB.out)⟩⟩
      case rest =>
        clear HC8
        try clear c1
        try clear p1
        try clear q1
        try clear hx1
        try clear p2
        try clear c4
        try clear c4b0
        try clear c4b1
        try clear c6
        try clear c6b0
        try clear p6
        try clear c7
        try clear c7b0
        try clear c10
        try clear p12
        try clear q12
        try clear hx12
        try clear hx124_0
        try clear p1
        try clear p124
        try clear p2
        try clear p6
        try clear q1
        try clear q124
        obtain ⟨kq, x15_7, rfl, HA, HJ7, HB⟩ := hcut
        cases kq with
        | zero => exact absurd HA.out (by simp [fit_In.j1])
        | succ kj7 =>
          have H := HA.out
          clear HA
          simp only [fit_In.j1] at H
          by_cases c14 : x15_7 = true
          · subst c14
            have H1 : (some false) = some r := by rw [if_pos rfl] at H; exact H
            clear H
            have H := H1
            clear H1
            obtain rfl := Option.some.inj H
            go_wp2
            go_ret
            exact ⟨by first | rfl | (simp [errW_none, errW_some] <;> rfl) | (simp [*, errW_none, errW_some] <;> rfl), by repeat (first | (with_reducible first | exact HB.out | apply below_alloc | apply pw_below_drewN | apply below_drew1) | exact HB.out)⟩
          · replace c14 := Bool.eq_false_iff.mpr c14
            subst c14
            have H1 : ((kind_Is.f a1 4).bind fun t127 => (if t127 = true then ((kind_Is.f x5_2 4).bind fun t128 => (fit_In.j2 kj7 l0 a1 t128)) else (fit_In.j2 kj7 l0 a1 false))) = some r := by rw [if_neg (show ¬ (false = true) by decide)] at H; exact H
            clear H
            have H := H1
            clear H1
            have HC15 := Aside0.mk H
            clear H
            go_upto_region 6 with (fail)
            go_cut [22] (fun v22 wc => ∃ (kq : Nat) (x22_14 : Bool), v22 = .bool x22_14 ∧ Aside0 (fit_In.j2 kq l0 a1 x22_14 = some r) ∧ Aside0 (kq ≤ kj7) ∧ Aside0 (Below w.heap.size w wc))
            case first =>
              have H := HC15.out
              clear HC15
              replace H := Option.bind_eq_some_iff.mp H
              obtain ⟨t127, A160, H⟩ := H
              replace H : (if t127 = true then ((kind_Is.f x5_2 4).bind fun t128 => (fit_In.j2 kj7 l0 a1 t128)) else (fit_In.j2 kj7 l0 a1 false)) = some r := H
              have A16 := Aside0.mk A160
              clear A160
              by_cases c17 : t127 = true
              · subst c17
                have H1 : ((kind_Is.f x5_2 4).bind fun t128 => (fit_In.j2 kj7 l0 a1 t128)) = some r := by rw [if_pos rfl] at H; exact H
                clear H
                have H := H1
                clear H1
                replace H := Option.bind_eq_some_iff.mp H
                obtain ⟨t128, A180, H⟩ := H
                replace H : (fit_In.j2 kj7 l0 a1 t128) = some r := H
                have A18 := Aside0.mk A180
                clear A180
                have H' := Aside0.mk H
                clear H
                go_wp2_with (first | ((with_reducible refine gate_callee (f := 16) rfl ?_); refine goesL_ (some 24) rfl rfl Tryd.func16 (by kernel_rfl) rfl #[.string a1, .int .i64 4] rfl (by (try simp only [List.map_toArray, List.map_cons, List.map_nil]); first | done | rfl | (simp only [List.length_drop, List.length_take]; rfl)) ?_; (with_reducible refine (kind_Is.calls a1 4 true _ ?side1 A16.out).mono ?_); (case side1 => exact GW.below HG.out (by repeat (first | (with_reducible first | exact HB.out | apply below_alloc | apply pw_below_drewN | apply below_drew1) | exact HB.out))); rintro e w19 ⟨rfl, hb⟩; refine ⟨_, rfl, ?_⟩; have n0_ := Aside0.mk (below_step (by repeat (first | (with_reducible first | exact HB.out | apply below_alloc | apply pw_below_drewN | apply below_drew1) | exact HB.out)) hb); clear HB; have HB := n0_; clear n0_; (try clear hb); (try clear hb2); (try clear hk); (try clear hi)) | (go_at_call 16; (with_reducible refine (kind_Is.calls x5_2 4 t128 _ ?side1 A18.out).mono ?_); (case side1 => exact GW.below HG.out (by repeat (first | (with_reducible first | exact HB.out | apply below_alloc | apply pw_below_drewN | apply below_drew1) | exact HB.out))); rintro e w20 ⟨rfl, hb⟩; have n0_ := Aside0.mk (below_step (by repeat (first | (with_reducible first | exact HB.out | apply below_alloc | apply pw_below_drewN | apply below_drew1) | exact HB.out)) hb); clear HB; have HB := n0_; clear n0_; (try clear hb); (try clear hb2); (try clear hk); (try clear hi)))
                go_meet
                case rel => exact ⟨_, (t128), (by first | rfl | (simp; done) | (simp [*]; done)), H', ⟨by have := HJ2.out; have := HJ7.out; first | omega | exact Nat.le_refl _⟩, ⟨by repeat (first | (with_reducible first | exact HB.out | apply below_alloc | apply pw_below_drewN | apply below_drew1) | exact HB.out)⟩⟩
              · replace c17 := Bool.eq_false_iff.mpr c17
                subst c17
                have H1 : (fit_In.j2 kj7 l0 a1 false) = some r := by rw [if_neg (show ¬ (false = true) by decide)] at H; exact H
                clear H
                have H := H1
                clear H1
                have H' := Aside0.mk H
                clear H
                go_wp2_with (first | ((with_reducible refine gate_callee (f := 16) rfl ?_); refine goesL_ (some 24) rfl rfl Tryd.func16 (by kernel_rfl) rfl #[.string a1, .int .i64 4] rfl (by (try simp only [List.map_toArray, List.map_cons, List.map_nil]); first | done | rfl | (simp only [List.length_drop, List.length_take]; rfl)) ?_; (with_reducible refine (kind_Is.calls a1 4 false _ ?side1 A16.out).mono ?_); (case side1 => exact GW.below HG.out (by repeat (first | (with_reducible first | exact HB.out | apply below_alloc | apply pw_below_drewN | apply below_drew1) | exact HB.out))); rintro e w21 ⟨rfl, hb⟩; refine ⟨_, rfl, ?_⟩; have n0_ := Aside0.mk (below_step (by repeat (first | (with_reducible first | exact HB.out | apply below_alloc | apply pw_below_drewN | apply below_drew1) | exact HB.out)) hb); clear HB; have HB := n0_; clear n0_; (try clear hb); (try clear hb2); (try clear hk); (try clear hi)))
                go_meet
                case rel => exact ⟨_, (false), (by first | rfl | (simp; done) | (simp [*]; done)), H', ⟨by have := HJ2.out; have := HJ7.out; first | omega | exact Nat.le_refl _⟩, ⟨by repeat (first | (with_reducible first | exact HB.out | apply below_alloc | apply pw_below_drewN | apply below_drew1) | exact HB.out)⟩⟩
            case rest =>
              clear HC15
              try clear c1
              try clear p1
              try clear q1
              try clear hx1
              try clear p2
              try clear c4
              try clear c4b0
              try clear c4b1
              try clear c6
              try clear c6b0
              try clear p6
              try clear c7
              try clear c7b0
              try clear c10
              try clear p12
              try clear q12
              try clear hx12
              try clear c14
              try clear c16
              try clear c17
              try clear c18
              try clear hx124_0
              try clear p1
              try clear p12
              try clear p124
              try clear p2
              try clear p6
              try clear q1
              try clear q12
              try clear q124
              obtain ⟨kq, x22_14, rfl, HA, HJ14, HB⟩ := hcut
              cases kq with
              | zero => exact absurd HA.out (by simp [fit_In.j2])
              | succ kj14 =>
                have H := HA.out
                clear HA
                simp only [fit_In.j2] at H
                by_cases c22 : x22_14 = true
                · subst c22
                  have H1 : (some false) = some r := by rw [if_pos rfl] at H; exact H
                  clear H
                  have H := H1
                  clear H1
                  obtain rfl := Option.some.inj H
                  go_wp2
                  go_ret
                  exact ⟨by first | rfl | (simp [errW_none, errW_some] <;> rfl) | (simp [*, errW_none, errW_some] <;> rfl), by repeat (first | (with_reducible first | exact HB.out | apply below_alloc | apply pw_below_drewN | apply below_drew1) | exact HB.out)⟩
                · replace c22 := Bool.eq_false_iff.mpr c22
                  subst c22
                  have H1 : ((fit_nested.f l0 a1).bind fun t129 => (if t129 = true then (some false) else (if a1.toList = ([97] : List UInt8) then ((slices_Contains_string_string.f kj14 l0 (⟨#[97]⟩ : ByteArray)).bind fun t130 => (if t130 = true then (some false) else (some true))) else (some true)))) = some r := by rw [if_neg (show ¬ (false = true) by decide)] at H; exact H
                  clear H
                  have H := H1
                  clear H1
                  replace H := Option.bind_eq_some_iff.mp H
                  obtain ⟨t129, A230, H⟩ := H
                  replace H : (if t129 = true then (some false) else (if a1.toList = ([97] : List UInt8) then ((slices_Contains_string_string.f kj14 l0 (⟨#[97]⟩ : ByteArray)).bind fun t130 => (if t130 = true then (some false) else (some true))) else (some true))) = some r := H
                  have A23 := Aside0.mk A230
                  clear A230
                  by_cases c24 : t129 = true
                  · subst c24
                    have H1 : (some false) = some r := by rw [if_pos rfl] at H; exact H
                    clear H
                    have H := H1
                    clear H1
                    obtain rfl := Option.some.inj H
                    go_wp2_with (first | ((with_reducible refine gate_callee (f := 37) rfl ?_); refine goesL_ (some 32) rfl rfl Tryd.func37 (by kernel_rfl) rfl #[.slice A0 l0.length c0, .string a1] rfl (by (try simp only [List.map_toArray, List.map_cons, List.map_nil]); first | done | rfl | (simp only [List.length_drop, List.length_take]; rfl)) ?_; (with_reducible refine (fit_nested.calls _ _ l0 a1 true _ ?side1 ?side2 ?side3 A23.out).mono ?_); (case side1 => repeat (first | exact (Kd.C_below HR0.out HB.out) | (with_reducible refine Kd.C_alloc ?_ _) | (with_reducible refine Kd.C_drewN ?_ _) | (with_reducible refine Kd.C_drew ?_))); (case side2 => exact HC0.out); (case side3 => exact GW.below HG.out (by repeat (first | (with_reducible first | exact HB.out | apply below_alloc | apply pw_below_drewN | apply below_drew1) | exact HB.out))); rintro e w25 ⟨rfl, hb⟩; refine ⟨_, rfl, ?_⟩; have n0_ := Aside0.mk (below_step (by repeat (first | (with_reducible first | exact HB.out | apply below_alloc | apply pw_below_drewN | apply below_drew1) | exact HB.out)) hb); clear HB; have HB := n0_; clear n0_; (try clear hb); (try clear hb2); (try clear hk); (try clear hi)))
                    go_ret
                    exact ⟨by first | rfl | (simp [errW_none, errW_some] <;> rfl) | (simp [*, errW_none, errW_some] <;> rfl), by repeat (first | (with_reducible first | exact HB.out | apply below_alloc | apply pw_below_drewN | apply below_drew1) | exact HB.out)⟩
                  · replace c24 := Bool.eq_false_iff.mpr c24
                    subst c24
                    have H1 : (if a1.toList = ([97] : List UInt8) then ((slices_Contains_string_string.f kj14 l0 (⟨#[97]⟩ : ByteArray)).bind fun t130 => (if t130 = true then (some false) else (some true))) else (some true)) = some r := by rw [if_neg (show ¬ (false = true) by decide)] at H; exact H
                    clear H
                    have H := H1
                    clear H1
                    by_cases c26 : a1.toList = ([97] : List UInt8)
                    · rw [if_pos c26] at H
                      have c26b0 : (a1.toList == ([97] : List UInt8)) = true := beq_iff_eq.mpr c26
                      have c26b1 : (a1.toList != ([97] : List UInt8)) = false := bne_eq_false_iff_eq.mpr c26
                      clear c26
                      replace H := Option.bind_eq_some_iff.mp H
                      obtain ⟨t130, A270, H⟩ := H
                      replace H : (if t130 = true then (some false) else (some true)) = some r := H
                      have A27 := Aside0.mk A270
                      clear A270
                      by_cases c28 : t130 = true
                      · subst c28
                        have H1 : (some false) = some r := by rw [if_pos rfl] at H; exact H
                        clear H
                        have H := H1
                        clear H1
                        obtain rfl := Option.some.inj H
                        go_wp2_with (first | ((with_reducible refine gate_callee (f := 37) rfl ?_); refine goesL_ (some 32) rfl rfl Tryd.func37 (by kernel_rfl) rfl #[.slice A0 l0.length c0, .string a1] rfl (by (try simp only [List.map_toArray, List.map_cons, List.map_nil]); first | done | rfl | (simp only [List.length_drop, List.length_take]; rfl)) ?_; (with_reducible refine (fit_nested.calls _ _ l0 a1 false _ ?side1 ?side2 ?side3 A23.out).mono ?_); (case side1 => repeat (first | exact (Kd.C_below HR0.out HB.out) | (with_reducible refine Kd.C_alloc ?_ _) | (with_reducible refine Kd.C_drewN ?_ _) | (with_reducible refine Kd.C_drew ?_))); (case side2 => exact HC0.out); (case side3 => exact GW.below HG.out (by repeat (first | (with_reducible first | exact HB.out | apply below_alloc | apply pw_below_drewN | apply below_drew1) | exact HB.out))); rintro e w29 ⟨rfl, hb⟩; refine ⟨_, rfl, ?_⟩; have n0_ := Aside0.mk (below_step (by repeat (first | (with_reducible first | exact HB.out | apply below_alloc | apply pw_below_drewN | apply below_drew1) | exact HB.out)) hb); clear HB; have HB := n0_; clear n0_; (try clear hb); (try clear hb2); (try clear hk); (try clear hi)) | (go_at_call 36; (with_reducible refine (slices_Contains_string_string.calls kj14 _ _ l0 (⟨#[97]⟩ : ByteArray) true _ ?side1 ?side2 A27.out).mono ?_); (case side1 => repeat (first | exact (Kd.C_below HR0.out HB.out) | (with_reducible refine Kd.C_alloc ?_ _) | (with_reducible refine Kd.C_drewN ?_ _) | (with_reducible refine Kd.C_drew ?_))); (case side2 => exact HC0.out); rintro e w' ⟨rfl, ⟨nd, rfl⟩⟩))
                        go_ret
                        exact ⟨by first | rfl | (simp [errW_none, errW_some] <;> rfl) | (simp [*, errW_none, errW_some] <;> rfl), by repeat (first | (with_reducible first | exact HB.out | apply below_alloc | apply pw_below_drewN | apply below_drew1) | exact HB.out)⟩
                      · replace c28 := Bool.eq_false_iff.mpr c28
                        subst c28
                        have H1 : (some true) = some r := by rw [if_neg (show ¬ (false = true) by decide)] at H; exact H
                        clear H
                        have H := H1
                        clear H1
                        obtain rfl := Option.some.inj H
                        go_wp2_with (first | ((with_reducible refine gate_callee (f := 37) rfl ?_); refine goesL_ (some 32) rfl rfl Tryd.func37 (by kernel_rfl) rfl #[.slice A0 l0.length c0, .string a1] rfl (by (try simp only [List.map_toArray, List.map_cons, List.map_nil]); first | done | rfl | (simp only [List.length_drop, List.length_take]; rfl)) ?_; (with_reducible refine (fit_nested.calls _ _ l0 a1 false _ ?side1 ?side2 ?side3 A23.out).mono ?_); (case side1 => repeat (first | exact (Kd.C_below HR0.out HB.out) | (with_reducible refine Kd.C_alloc ?_ _) | (with_reducible refine Kd.C_drewN ?_ _) | (with_reducible refine Kd.C_drew ?_))); (case side2 => exact HC0.out); (case side3 => exact GW.below HG.out (by repeat (first | (with_reducible first | exact HB.out | apply below_alloc | apply pw_below_drewN | apply below_drew1) | exact HB.out))); rintro e w30 ⟨rfl, hb⟩; refine ⟨_, rfl, ?_⟩; have n0_ := Aside0.mk (below_step (by repeat (first | (with_reducible first | exact HB.out | apply below_alloc | apply pw_below_drewN | apply below_drew1) | exact HB.out)) hb); clear HB; have HB := n0_; clear n0_; (try clear hb); (try clear hb2); (try clear hk); (try clear hi)) | (go_at_call 36; (with_reducible refine (slices_Contains_string_string.calls kj14 _ _ l0 (⟨#[97]⟩ : ByteArray) false _ ?side1 ?side2 A27.out).mono ?_); (case side1 => repeat (first | exact (Kd.C_below HR0.out HB.out) | (with_reducible refine Kd.C_alloc ?_ _) | (with_reducible refine Kd.C_drewN ?_ _) | (with_reducible refine Kd.C_drew ?_))); (case side2 => exact HC0.out); rintro e w' ⟨rfl, ⟨nd, rfl⟩⟩))
                        go_ret
                        exact ⟨by first | rfl | (simp [errW_none, errW_some] <;> rfl) | (simp [*, errW_none, errW_some] <;> rfl), by repeat (first | (with_reducible first | exact HB.out | apply below_alloc | apply pw_below_drewN | apply below_drew1) | exact HB.out)⟩
                    · rw [if_neg c26] at H
                      have c26b0 : (a1.toList == ([97] : List UInt8)) = false := beq_eq_false_iff_ne.mpr c26
                      have c26b1 : (a1.toList != ([97] : List UInt8)) = true := bne_iff_ne.mpr c26
                      obtain rfl := Option.some.inj H
                      go_wp2_with (first | ((with_reducible refine gate_callee (f := 37) rfl ?_); refine goesL_ (some 32) rfl rfl Tryd.func37 (by kernel_rfl) rfl #[.slice A0 l0.length c0, .string a1] rfl (by (try simp only [List.map_toArray, List.map_cons, List.map_nil]); first | done | rfl | (simp only [List.length_drop, List.length_take]; rfl)) ?_; (with_reducible refine (fit_nested.calls _ _ l0 a1 false _ ?side1 ?side2 ?side3 A23.out).mono ?_); (case side1 => repeat (first | exact (Kd.C_below HR0.out HB.out) | (with_reducible refine Kd.C_alloc ?_ _) | (with_reducible refine Kd.C_drewN ?_ _) | (with_reducible refine Kd.C_drew ?_))); (case side2 => exact HC0.out); (case side3 => exact GW.below HG.out (by repeat (first | (with_reducible first | exact HB.out | apply below_alloc | apply pw_below_drewN | apply below_drew1) | exact HB.out))); rintro e w31 ⟨rfl, hb⟩; refine ⟨_, rfl, ?_⟩; have n0_ := Aside0.mk (below_step (by repeat (first | (with_reducible first | exact HB.out | apply below_alloc | apply pw_below_drewN | apply below_drew1) | exact HB.out)) hb); clear HB; have HB := n0_; clear n0_; (try clear hb); (try clear hb2); (try clear hk); (try clear hi)))
                      go_ret
                      exact ⟨by first | rfl | (simp [errW_none, errW_some] <;> rfl) | (simp [*, errW_none, errW_some] <;> rfl), by repeat (first | (with_reducible first | exact HB.out | apply below_alloc | apply pw_below_drewN | apply below_drew1) | exact HB.out)⟩

end Go.Proofs.YteahlapoeiikoaaDoor.P

/-
  fit.In and the document's In, as plain functions of lists. Conditions: sizes alone.
-/

namespace Go.Proofs.YteahlapoeiikoaaDoor.Pure
open Go.RowKit Go.Proofs.YteahlapoeiikoaaDoor.P Go.Proofs.YteahlapoeiikoaaDoorW.PrintWords Go.Proofs.YteahlapoeiikoaaDoorW.PrintLast

/-- Is a name of the i-th kind? -/
def kB (x : ByteArray) (i : Nat) : Bool := decide (x.data.toList ∈ words i)

theorem sum_bits (l : List UInt8) : ∃ b : Nat → Nat, (∀ i, b i = if l ∈ words i then 1 else 0) ∧
    sumF 10 0 l = b 0 + 2 * b 1 + 4 * b 2 + 8 * b 3 + 16 * b 4 + 32 * b 5 + 64 * b 6 + 128 * b 7 + 256 * b 8 + 512 * b 9 := by
  refine ⟨fun i => if l ∈ words i then 1 else 0, fun _ => rfl, ?_⟩
  have e : ∀ (i : Nat) (c : Int), (if l ∈ words i then c else 0) = c * ((if l ∈ words i then 1 else 0 : Nat) : Int) := by
    intro i c
    split <;> simp
  simp only [sumF, e, Nat.zero_add, Nat.reduceAdd, Int.reducePow]
  generalize (if l ∈ words 0 then 1 else 0 : Nat) = b0
  generalize (if l ∈ words 1 then 1 else 0 : Nat) = b1
  generalize (if l ∈ words 2 then 1 else 0 : Nat) = b2
  generalize (if l ∈ words 3 then 1 else 0 : Nat) = b3
  generalize (if l ∈ words 4 then 1 else 0 : Nat) = b4
  generalize (if l ∈ words 5 then 1 else 0 : Nat) = b5
  generalize (if l ∈ words 6 then 1 else 0 : Nat) = b6
  generalize (if l ∈ words 7 then 1 else 0 : Nat) = b7
  generalize (if l ∈ words 8 then 1 else 0 : Nat) = b8
  generalize (if l ∈ words 9 then 1 else 0 : Nat) = b9
  omega

theorem and_pow (n i : Nat) : (n &&& 2 ^ i != 0) = n.testBit i := by
  rw [Bool.eq_iff_iff, bne_iff_ne]
  constructor
  · intro h
    rcases hb : n.testBit i with _ | _
    · exfalso
      refine h (Nat.eq_of_testBit_eq fun j => ?_)
      rw [Nat.testBit_and, Nat.testBit_two_pow, Nat.zero_testBit]
      by_cases hj : i = j
      · subst hj; simp [hb]
      · simp [hj]
    · rfl
  · intro h e
    have h1 : (n &&& 2 ^ i).testBit i = true := by
      rw [Nat.testBit_and, Nat.testBit_two_pow, h]
      simp
    rw [e, Nat.zero_testBit] at h1
    cases h1

theorem is_bit (x : ByteArray) (hx : x.size ≤ maxLen) (i : Nat) (hi : i < 10) : kind_Is.f x (2 ^ i) = some (kB x i) := by
  rw [kind_Is.f, if_pos hx, and_1023 _ _ (kind_range x).1 (kind_range x).2]
  congr 1
  have hr := kind_range x
  rw [and_small _ _ hr.1 hr.2]
  have h2 : (BitVec.ofInt 64 ((2 : Int) ^ i)).toNat = 2 ^ i := by
    have : ∀ j : Fin 10, (BitVec.ofInt 64 ((2 : Int) ^ j.1)).toNat = 2 ^ j.1 := by decide
    exact this ⟨i, hi⟩
  rw [h2]
  have hc : ∀ m : Nat, ((m : Int) != 0) = (m != 0) := by
    intro m
    rw [Bool.eq_iff_iff, bne_iff_ne, bne_iff_ne]
    omega
  rw [hc, and_pow, Nat.testBit_eq_decide_div_mod_eq]
  obtain ⟨b, hb, hs⟩ := sum_bits x.data.toList
  rw [← kind_sum] at hs
  have hbi : ∀ j : Nat, b j ≤ 1 := fun j => by rw [hb j]; split <;> omega
  have key : (kindOf x).toNat / 2 ^ i % 2 = b i := by
    have h0 := hbi 0; have h1 := hbi 1; have h2 := hbi 2; have h3 := hbi 3; have h4 := hbi 4
    have h5 := hbi 5; have h6 := hbi 6; have h7 := hbi 7; have h8 := hbi 8; have h9 := hbi 9
    clear hc hb hr hbi
    match i, hi with
    | 0, _ => show _ = b 0; omega
    | 1, _ => show _ = b 1; omega
    | 2, _ => show _ = b 2; omega
    | 3, _ => show _ = b 3; omega
    | 4, _ => show _ = b 4; omega
    | 5, _ => show _ = b 5; omega
    | 6, _ => show _ = b 6; omega
    | 7, _ => show _ = b 7; omega
    | 8, _ => show _ = b 8; omega
    | 9, _ => show _ = b 9; omega
  rw [key, hb]
  unfold kB
  by_cases h : x.data.toList ∈ words i
  · simp [h]
  · simp [h]

theorem refIs_k (x : ByteArray) (hx : x.size ≤ 1152921504606846000) (i : Nat) (hi : i < 10) (k : Nat) (hk : x.size + 1000 ≤ k) :
    decanterref11_Is.f k x (i : Int) = some (kB x i) := refIs x hx i hi k hk

theorem rd_get (l : List ByteArray) (i : Nat) (h : i < l.length) : rdOf ByteArray.empty l (i : Int) = l[i] := by
  unfold rdOf
  rw [Int.toNat_natCast, List.getD_eq_getElem?_getD, List.getElem?_eq_getElem h]
  rfl

theorem memB_cons (x y : ByteArray) (r : List ByteArray) : memB x (y :: r) = (x.toList == y.toList || memB x r) := rfl
theorem beq_comm_l (a b : List UInt8) : (a == b) = (b == a) := by
  rw [Bool.eq_iff_iff, beq_iff_eq, beq_iff_eq]; exact eq_comm

theorem among_loop (x : ByteArray) (l : List ByteArray) (hl : l.length ≤ 4611686018427387903) (d : Nat) : ∀ (k i : Nat), i ≤ l.length → l.length - i = d → d < k →
    decanterref13_Among.l0 k x l (i : Int) = some (memB x (l.drop i)) := by
  induction d with
  | zero =>
    intro k i hi hd hk
    obtain ⟨k, rfl⟩ : ∃ m, k = m + 1 := ⟨k - 1, by omega⟩
    simp only [decanterref13_Among.l0]
    rw [if_neg (by omega), List.drop_eq_nil_of_le (by omega)]
    rfl
  | succ d ih =>
    intro k i hi hd hk
    obtain ⟨k, rfl⟩ : ∃ m, k = m + 1 := ⟨k - 1, by omega⟩
    have hlt : i < l.length := by omega
    simp only [decanterref13_Among.l0]
    rw [if_pos (by omega), if_pos (by omega), rd_get l i hlt, List.drop_eq_getElem_cons hlt]
    have e : ((i : Int) + 1) = ((i + 1 : Nat) : Int) := by omega
    rw [wrap_id (by omega) (by omega), e, ih k (i + 1) (by omega) (by omega) (by omega)]
    by_cases h : (l[i]).toList = x.toList
    · rw [if_pos h, memB_cons, beq_iff_eq.2 h.symm, Bool.true_or]
    · have h' : (x.toList == (l[i]).toList) = false := beq_eq_false_iff_ne.2 (fun e => h e.symm)
      rw [if_neg h, memB_cons, h', Bool.false_or]

theorem among (x : ByteArray) (l : List ByteArray) (hl : l.length ≤ 4611686018427387903) (k : Nat) (hk : l.length < k) : decanterref13_Among.f k x l = some (memB x l) := by
  have := among_loop x l hl l.length k 0 (by omega) (by omega) hk
  simpa [decanterref13_Among.f] using this

theorem index_loop (x : ByteArray) (l : List ByteArray) (hl : l.length ≤ 4611686018427387903) (d : Nat) : ∀ (k i : Nat), i ≤ l.length → l.length - i = d → d < k →
    ∃ r, slices_Index_string_string.l0 k l x (l.length : Int) (i : Int) = some r ∧ decide (r ≥ 0) = memB x (l.drop i) := by
  induction d with
  | zero =>
    intro k i hi hd hk
    obtain ⟨k, rfl⟩ : ∃ m, k = m + 1 := ⟨k - 1, by omega⟩
    simp only [slices_Index_string_string.l0]
    rw [if_neg (by omega), List.drop_eq_nil_of_le (by omega)]
    exact ⟨-1, rfl, rfl⟩
  | succ d ih =>
    intro k i hi hd hk
    obtain ⟨k, rfl⟩ : ∃ m, k = m + 1 := ⟨k - 1, by omega⟩
    have hlt : i < l.length := by omega
    obtain ⟨r, hr, hr2⟩ := ih k (i + 1) (by omega) (by omega) (by omega)
    simp only [slices_Index_string_string.l0]
    rw [if_pos (by omega), if_pos (by omega), if_pos (by omega), rd_get l i hlt, List.drop_eq_getElem_cons hlt]
    have e : ((i : Int) + 1) = ((i + 1 : Nat) : Int) := by omega
    rw [wrap_id (by omega) (by omega), e]
    by_cases h : x.toList = (l[i]).toList
    · rw [if_pos h]
      refine ⟨_, rfl, ?_⟩
      have : (i : Int) ≥ 0 := by omega
      rw [memB_cons, beq_iff_eq.2 h, Bool.true_or, decide_eq_true this]
    · rw [if_neg h]
      refine ⟨r, hr, ?_⟩
      have h' : (x.toList == (l[i]).toList) = false := beq_eq_false_iff_ne.2 h
      rw [hr2, memB_cons, h', Bool.false_or]

theorem contains (x : ByteArray) (l : List ByteArray) (hl : l.length ≤ 4611686018427387903) (k : Nat) (hk : l.length < k) : slices_Contains_string_string.f k l x = some (memB x l) := by
  obtain ⟨r, hr, h⟩ := index_loop x l hl l.length k 0 (by omega) (by omega) hk
  rw [slices_Contains_string_string.f, slices_Index_string_string.f]
  have e : (0 : Int) = ((0 : Nat) : Int) := rfl
  rw [e, hr]
  simp only [Option.bind_some]
  rw [← e, h]
  rfl

/-- The names that end no search. -/
def three : List ByteArray := [⟨#[97, 100, 100, 114, 101, 115, 115]⟩, ⟨#[100, 105, 118]⟩, ⟨#[112]⟩]
theorem lit_toList (l : List UInt8) : (⟨l.toArray⟩ : ByteArray).toList = l := by rw [ByteArray.toList_eq]

theorem stop_eq (n : ByteArray) (hn : n.size ≤ maxLen) : stopB n = (kB n 4 && !memB n three) := by
  have h := is_bit n hn 4 (by decide)
  rw [kind_Is.f, if_pos hn] at h
  have h' := Option.some.inj h
  have e16 : ((2 : Int) ^ 4) = 16 := by decide
  rw [e16] at h'
  unfold stopB
  rw [h']
  unfold memB three
  rw [show (⟨#[97, 100, 100, 114, 101, 115, 115]⟩ : ByteArray) = ⟨[97, 100, 100, 114, 101, 115, 115].toArray⟩ from rfl, show (⟨#[100, 105, 118]⟩ : ByteArray) = ⟨[100, 105, 118].toArray⟩ from rfl, show (⟨#[112]⟩ : ByteArray) = ⟨[112].toArray⟩ from rfl]
  simp only [List.any_cons, List.any_nil, lit_toList, Bool.or_false]
  cases kB n 4 <;> cases (n.toList == [97, 100, 100, 114, 101, 115, 115]) <;> cases (n.toList == [100, 105, 118]) <;> cases (n.toList == [112]) <;> rfl

theorem comes_loop (o L : List ByteArray) (M : Nat) (hM : ∀ x ∈ o, x.size ≤ M) (hM2 : M ≤ 1152921504606846000) (ho : o.length ≤ 4611686018427387900) (hL : L.length ≤ 100) (d : Nat) : ∀ (k : Nat), d ≤ o.length → d + M + 1000 < k →
    decanterref21_comes.l0 k o L ((d : Int) - 1) = some (nestScan L (o.take d).reverse) := by
  induction d with
  | zero =>
    intro k hd hk
    obtain ⟨k, rfl⟩ : ∃ m, k = m + 1 := ⟨k - 1, by omega⟩
    simp only [decanterref21_comes.l0]
    rw [if_neg (by omega)]
    rfl
  | succ d ih =>
    intro k hd hk
    obtain ⟨k, rfl⟩ : ∃ m, k = m + 1 := ⟨k - 1, by omega⟩
    have hlt : d < o.length := by omega
    have e : ((d + 1 : Nat) : Int) - 1 = (d : Int) := by omega
    have hx : (o[d]).size ≤ M := hM _ (List.getElem_mem hlt)
    have hmx : (o[d]).size ≤ maxLen := by unfold maxLen; omega
    have hih := ih k (by omega) (by omega)
    simp only [decanterref21_comes.l0]
    rw [e, if_pos (by omega), if_pos (by omega), if_pos (by omega), rd_get o d hlt, among _ _ (by omega) k (by omega)]
    simp only [Option.bind_some]
    rw [List.take_succ_eq_append_getElem hlt, List.reverse_append, List.reverse_singleton, List.singleton_append, nestScan]
    cases hm : memB o[d] L with
    | true => simp
    | false =>
      rw [if_neg (by decide), if_neg (by decide)]
      rw [show (4 : Int) = ((4 : Nat) : Int) from rfl, refIs_k _ (by omega) 4 (by decide) k (by omega)]
      simp only [Option.bind_some]
      rw [stop_eq _ hmx, wrap_id (by omega) (by omega), hih]
      cases hk4 : kB o[d] 4 with
      | false => simp
      | true =>
        rw [if_pos rfl]
        have ha := among o[d] three (by decide) k (by simp [three]; omega)
        unfold three at ha
        rw [ha]
        simp only [Option.bind_some]
        show (if memB o[d] three = true then _ else _) = _
        cases memB o[d] three <;> simp

theorem comes (o L : List ByteArray) (M : Nat) (hM : ∀ x ∈ o, x.size ≤ M) (hM2 : M ≤ 1152921504606846000) (ho : o.length ≤ 4611686018427387900) (hL : L.length ≤ 100) (k : Nat) (hk : o.length + M + 1000 < k) :
    decanterref21_comes.f k o L = some (nestScan L o.reverse) := by
  have := comes_loop o L M hM hM2 ho hL o.length k (Nat.le_refl _) hk
  rw [decanterref21_comes.f, wrap_id (by omega) (by omega), this, List.take_of_length_le (Nat.le_refl _)]
end Go.Proofs.YteahlapoeiikoaaDoor.Pure

/-
  fit.In is the document's In. Conditions: sizes alone.
-/

namespace Go.Proofs.YteahlapoeiikoaaDoor.Pure
open Go.RowKit Go.Proofs.YteahlapoeiikoaaDoor.P Go.Proofs.YteahlapoeiikoaaDoorW.PrintWords Go.Proofs.YteahlapoeiikoaaDoorW.PrintLast

abbrev nP : ByteArray := ⟨#[112]⟩
abbrev nA : ByteArray := ⟨#[97]⟩
def lastOf (o : List ByteArray) : ByteArray := o.getLastD ⟨#[]⟩

/-- Does an element fit in others? -/
def inB (o : List ByteArray) (n : ByteArray) : Bool :=
  if kB n 1 && memB nP o then false
  else if kB n 2 && kB (lastOf o) 2 then false
  else if nestedB o n then false
  else if (n.toList == [97]) && memB nA o then false else true

theorem last_get (o : List ByteArray) (h : 0 < o.length) : rdOf ByteArray.empty o ((o.length : Int) - 1) = lastOf o := by
  have e : ((o.length : Int) - 1) = ((o.length - 1 : Nat) : Int) := by omega
  rw [e, rd_get o _ (by omega)]
  unfold lastOf
  rw [List.getLastD_eq_getLast?, List.getLast?_eq_getElem?, List.getElem?_eq_getElem (by omega)]
  rfl

structure Fits (o : List ByteArray) (n : ByteArray) (M k : Nat) : Prop where
  all : ∀ x ∈ o, x.size ≤ M
  one : n.size ≤ M
  low : M ≤ 1152921504606846000
  len : o.length ≤ 4611686018427387900
  rounds : o.length + M + 1100 < k

theorem last_size {o : List ByteArray} {n : ByteArray} {M k : Nat} (h : Fits o n M k) : (lastOf o).size ≤ M := by
  unfold lastOf
  rw [List.getLastD_eq_getLast?]
  cases e : o.getLast? with
  | none => exact Nat.zero_le _
  | some x => exact h.all x (List.mem_of_getLast? e)

theorem fit_j0 (o : List ByteArray) (n : ByteArray) (M k : Nat) (h : Fits o n M k) : fit_In.j0 (k + 3) o n (lastOf o) = some (inB o n) := by
  have hl := last_size h
  obtain ⟨ha, h1, h2, h3, h4⟩ := h
  have m1 : n.size ≤ maxLen := by unfold maxLen; omega
  have m2 : (lastOf o).size ≤ maxLen := by unfold maxLen; omega
  have i1 := is_bit n m1 1 (by decide)
  have i2 := is_bit n m1 2 (by decide)
  have i3 := is_bit (lastOf o) m2 2 (by decide)
  rw [show ((2 : Int) ^ 1) = 2 from rfl] at i1
  rw [show ((2 : Int) ^ 2) = 4 from rfl] at i2 i3
  have hN : fit_nested.f o n = some (nestedB o n) := by
    unfold fit_nested.f
    rw [if_pos (List.all_eq_true.2 fun x hx => by simpa using (show x.size ≤ maxLen by have := ha x hx; unfold maxLen; omega))]
  have c1 := contains nP o (by omega) (k + 2) (by omega)
  have c2 := contains nA o (by omega) k (by omega)
  have e2 : ∀ b, b = (kB n 2 && kB (lastOf o) 2) → fit_In.j2 (k + 1) o n b = some (if b then false else if nestedB o n then false else if (n.toList == [97]) && memB nA o then false else true) := by
    intro b _
    simp only [fit_In.j2]
    cases b with
    | true => rfl
    | false =>
      simp only [Bool.false_eq_true, if_false]
      rw [hN]
      simp only [Option.bind_some]
      cases nestedB o n with
      | true => rfl
      | false =>
        simp only [Bool.false_eq_true, if_false]
        by_cases hn : n.toList = [97]
        · rw [if_pos hn, c2, beq_iff_eq.2 hn]
          simp only [Option.bind_some, Bool.true_and]
          cases memB nA o <;> rfl
        · rw [if_neg hn, beq_eq_false_iff_ne.2 hn]
          rfl
  have e1 : ∀ b, fit_In.j1 (k + 2) o n (lastOf o) b = some (if b then false else if kB n 2 && kB (lastOf o) 2 then false else if nestedB o n then false else if (n.toList == [97]) && memB nA o then false else true) := by
    intro b
    simp only [fit_In.j1]
    cases b with
    | true => rfl
    | false =>
      simp only [Bool.false_eq_true, if_false]
      rw [i2]
      simp only [Option.bind_some]
      cases hk : kB n 2 with
      | true =>
        simp only [if_true]
        rw [i3]
        simp only [Option.bind_some]
        rw [e2 (kB (lastOf o) 2) (by rw [hk]; rfl), Bool.true_and]
      | false =>
        simp only [Bool.false_eq_true, if_false]
        rw [e2 false (by rw [hk]; rfl), Bool.false_and]
  simp only [fit_In.j0]
  rw [i1]
  simp only [Option.bind_some]
  unfold inB
  cases kB n 1 with
  | true =>
    simp only [if_true, Bool.true_and]
    rw [c1]
    simp only [Option.bind_some]
    exact e1 _
  | false =>
    simp only [Bool.false_eq_true, if_false, Bool.false_and]
    rw [e1 false]
    rfl

theorem fitIn (o : List ByteArray) (n : ByteArray) (M k : Nat) (h : Fits o n M k) : fit_In.f (k + 3) o n = some (inB o n) := by
  rw [fit_In.f]
  by_cases hp : (o.length : Int) > 0
  · have hl := h.len
    rw [if_pos hp, wrap_id (by omega) (by omega), if_pos (by omega), if_pos (by omega), last_get o (by omega)]
    exact fit_j0 o n M k h
  · rw [if_neg hp]
    have e : lastOf o = ⟨#[]⟩ := by
      have : o = [] := List.eq_nil_of_length_eq_zero (by omega)
      rw [this]; rfl
    rw [← e]
    exact fit_j0 o n M k h

theorem nested_li {o : List ByteArray} {n : ByteArray} (h : n.toList = [108, 105]) : nestedB o n = nestScan [⟨#[108, 105]⟩] o.reverse := by
  unfold nestedB likes fit_items.f
  rw [if_pos h]
  rfl
theorem nested_dd {o : List ByteArray} {n : ByteArray} (h0 : ¬ n.toList = [108, 105]) (h : n.toList = [100, 100] ∨ n.toList = [100, 116]) : nestedB o n = nestScan [⟨#[100, 100]⟩, ⟨#[100, 116]⟩] o.reverse := by
  unfold nestedB likes fit_items.f
  rw [if_neg h0]
  by_cases h1 : n.toList = [100, 100]
  · rw [if_pos h1]; rfl
  · rw [if_neg h1, if_pos (h.resolve_left h1)]; rfl
theorem scan_nil (l : List ByteArray) : nestScan [] l = false := by
  induction l with
  | nil => rfl
  | cons y l ih => simp [nestScan, memB, ih]
theorem nested_no {o : List ByteArray} {n : ByteArray} (h0 : ¬ n.toList = [108, 105]) (h1 : ¬ n.toList = [100, 100]) (h2 : ¬ n.toList = [100, 116]) : nestedB o n = false := by
  unfold nestedB likes fit_items.f
  rw [if_neg h0, if_neg h1, if_neg h2]
  exact scan_nil _

theorem refIn (o : List ByteArray) (n : ByteArray) (M k : Nat) (h : Fits o n M k) : decanterref21_In.f (k + 3) o n = some (inB o n) := by
  have hl := last_size h
  obtain ⟨ha, h1, h2, h3, h4⟩ := h
  have i1 := refIs_k n (by omega) 1 (by decide) (k + 3) (by omega)
  have i2 := refIs_k n (by omega) 2 (by decide) (k + 2) (by omega)
  have i3 := refIs_k (lastOf o) (by omega) 2 (by decide) (k + 2) (by omega)
  have a1 := among nP o (by omega) (k + 3) (by omega)
  have a2 := among nA o (by omega) k (by omega)
  have c1 := comes o [⟨#[108, 105]⟩] M ha h2 h3 (by decide) (k + 1) (by omega)
  have c2 := comes o [⟨#[100, 100]⟩, ⟨#[100, 116]⟩] M ha h2 h3 (by decide) k (by omega)
  have tail : (if n.toList = ([97] : List UInt8) then ((decanterref13_Among.f k (⟨#[97]⟩ : ByteArray) o).bind fun t => (some (!t))) else (some true)) = some (if (n.toList == [97]) && memB nA o then false else true) := by
    by_cases hn : n.toList = [97]
    · rw [if_pos hn, a2, beq_iff_eq.2 hn]
      simp only [Option.bind_some, Bool.true_and]
      cases memB nA o <;> rfl
    · rw [if_neg hn, beq_eq_false_iff_ne.2 hn]
      rfl
  have e1 : ∀ b, decanterref21_In.j1 (k + 2) o n b = some (if b then false else if nestedB o n then false else if (n.toList == [97]) && memB nA o then false else true) := by
    intro b
    simp only [decanterref21_In.j1]
    cases b with
    | true => rfl
    | false =>
      simp only [Bool.false_eq_true, if_false]
      by_cases hli : n.toList = [108, 105]
      · rw [if_pos hli, c1]
        simp only [Option.bind_some]
        rw [nested_li hli]
        simp only [decanterref21_In.j2]
        have n1 : ¬ n.toList = [100, 100] := by rw [hli]; decide
        have n2 : ¬ n.toList = [100, 116] := by rw [hli]; decide
        cases nestScan [⟨#[108, 105]⟩] o.reverse with
        | true => rfl
        | false =>
          simp only [Bool.false_eq_true, if_false]
          rw [if_neg n1, if_neg n2]
          exact tail
      · rw [if_neg hli]
        simp only [decanterref21_In.j2, Bool.false_eq_true, if_false]
        by_cases hdd : n.toList = [100, 100]
        · rw [if_pos hdd, c2, nested_dd hli (.inl hdd)]
          simp only [Option.bind_some]
          cases nestScan [⟨#[100, 100]⟩, ⟨#[100, 116]⟩] o.reverse with
          | true => rfl
          | false =>
            simp only [Bool.false_eq_true, if_false]
            exact tail
        · rw [if_neg hdd]
          by_cases hdt : n.toList = [100, 116]
          · rw [if_pos hdt, c2, nested_dd hli (.inr hdt)]
            simp only [Option.bind_some]
            cases nestScan [⟨#[100, 100]⟩, ⟨#[100, 116]⟩] o.reverse with
            | true => rfl
            | false =>
              simp only [Bool.false_eq_true, if_false]
              exact tail
          · rw [if_neg hdt, nested_no hli hdd hdt]
            simp only [Bool.false_eq_true, if_false]
            exact tail
  have e0 : ∀ b, decanterref21_In.j0 (k + 3) o n b = some (if b then false else if kB n 2 && kB (lastOf o) 2 then false else if nestedB o n then false else if (n.toList == [97]) && memB nA o then false else true) := by
    intro b
    simp only [decanterref21_In.j0]
    cases b with
    | true => rfl
    | false =>
      simp only [Bool.false_eq_true, if_false]
      rw [show (2 : Int) = ((2 : Nat) : Int) from rfl, i2]
      simp only [Option.bind_some]
      cases kB n 2 with
      | false =>
        simp only [Bool.false_eq_true, if_false, Bool.false_and]
        rw [e1 false]
        rfl
      | true =>
        simp only [if_true, Bool.true_and]
        by_cases hp : (o.length : Int) > 0
        · rw [if_pos hp, wrap_id (by omega) (by omega), if_pos (by omega), if_pos (by omega), last_get o (by omega), i3]
          simp only [Option.bind_some]
          exact e1 _
        · rw [if_neg hp]
          have e : kB (lastOf o) 2 = false := by
            have : o = [] := List.eq_nil_of_length_eq_zero (by omega)
            rw [this]
            decide +kernel
          rw [e, e1 false]
  rw [decanterref21_In.f, show (1 : Int) = ((1 : Nat) : Int) from rfl, i1]
  simp only [Option.bind_some]
  unfold inB
  cases kB n 1 with
  | false =>
    simp only [Bool.false_eq_true, if_false, Bool.false_and]
    rw [e0 false]
    rfl
  | true =>
    simp only [if_true, Bool.true_and]
    rw [a1]
    simp only [Option.bind_some]
    exact e0 _
end Go.Proofs.YteahlapoeiikoaaDoor.Pure


-- Printed by a program of this session (wip/myprint.py over the kit's print).
namespace Go.Proofs.YteahlapoeiikoaaDoor.P
open Go.RowKit Go.Proofs.YteahlapoeiikoaaDoorW.PrintWords Go.Proofs.YteahlapoeiikoaaDoorW.PrintLast Go.Proofs.YteahlapoeiikoaaDoorW.PrintMore
attribute [local go_sem] max2_int min2_int max_two min_two max_three min_three max_four min_four   -- for this text's walks alone
set_option linter.unusedVariables false
set_option linter.unusedSimpArgs false

/-! ### decanterlaw21_speaks: function 17 -/
def decanterlaw21_speaks.f (k : Nat)  : Option (Bool) := (fit_In.f k (([(⟨#[98]⟩ : ByteArray)] : List ByteArray)) (⟨#[100, 105, 118]⟩ : ByteArray)).bind fun t134 => (if t134 = true then ((fit_In.f k (([(⟨#[112]⟩ : ByteArray)] : List ByteArray)) (⟨#[100, 105, 118]⟩ : ByteArray)).bind fun t138 => (if t138 = true then (some false) else ((fit_In.f k (([(⟨#[112]⟩ : ByteArray), (⟨#[98]⟩ : ByteArray)] : List ByteArray)) (⟨#[100, 105, 118]⟩ : ByteArray)).bind fun t142 => (some (!t142))))) else (some false))
theorem decanterlaw21_speaks.mono : ∀ k, LeO (decanterlaw21_speaks.f k ) (decanterlaw21_speaks.f (k + 1) ) := by
  intro  k
  unfold decanterlaw21_speaks.f
  repeat' first
      | (with_reducible exact fit_In.mono _ _ _)
      | (with_reducible exact LeO.refl _)
      | (with_reducible exact LeO.none _)
      | (with_reducible refine LeO.ite ?_ ?_)
      | (with_reducible refine LeO.bind ?_ (fun _ => ?_))
      | exact fit_In.mono _ _ _
      | exact LeO.none _
      | refine LeO.ite ?_ ?_
      | refine LeO.bind ?_ (fun _ => ?_)
set_option maxHeartbeats 8000000 in
set_option maxRecDepth 100000 in
theorem decanterlaw21_speaks.calls (k : Nat)  (r : Bool) (w : World) (hG : GW w) (h : decanterlaw21_speaks.f k  = some r) :
    Calls Tryd.prog 17 #[] w fun e w' => e = .returned (.bool r) ∧ Below w.heap.size w w' := by
  have HG := Aside0.mk hG
  clear hG
  have HB := Aside0.mk (Below.refl w.heap.size w)
  have H : ((fit_In.f k (([(⟨#[98]⟩ : ByteArray)] : List ByteArray)) (⟨#[100, 105, 118]⟩ : ByteArray)).bind fun t134 => (if t134 = true then ((fit_In.f k (([(⟨#[112]⟩ : ByteArray)] : List ByteArray)) (⟨#[100, 105, 118]⟩ : ByteArray)).bind fun t138 => (if t138 = true then (some false) else ((fit_In.f k (([(⟨#[112]⟩ : ByteArray), (⟨#[98]⟩ : ByteArray)] : List ByteArray)) (⟨#[100, 105, 118]⟩ : ByteArray)).bind fun t142 => (some (!t142))))) else (some false))) = some r := h
  clear h
  obtain ⟨y131, hy131⟩ : ∃ y_ : List ByteArray, y_ = (([(⟨#[98]⟩ : ByteArray)] : List ByteArray)) := ⟨_, rfl⟩
  replace H : ((fit_In.f k y131 (⟨#[100, 105, 118]⟩ : ByteArray)).bind fun t134 => (if t134 = true then ((fit_In.f k (([(⟨#[112]⟩ : ByteArray)] : List ByteArray)) (⟨#[100, 105, 118]⟩ : ByteArray)).bind fun t138 => (if t138 = true then (some false) else ((fit_In.f k (([(⟨#[112]⟩ : ByteArray), (⟨#[98]⟩ : ByteArray)] : List ByteArray)) (⟨#[100, 105, 118]⟩ : ByteArray)).bind fun t142 => (some (!t142))))) else (some false))) = some r := by first | (rw [hy131]; with_reducible exact H) | (have H2_ := (Option.bind_some _ _).symm.trans H; rw [hy131]; with_reducible exact H2_) | (have H2_ := (Option.bind_some _ _).symm.trans H; with_reducible exact H2_) | with_reducible exact H | (rw [hy131]; exact H) | exact H
  have Ny131 := Aside0.mk hy131
  clear hy131
  replace H := Option.bind_eq_some_iff.mp H
  obtain ⟨t134, A10, H⟩ := H
  replace H : (if t134 = true then ((fit_In.f k (([(⟨#[112]⟩ : ByteArray)] : List ByteArray)) (⟨#[100, 105, 118]⟩ : ByteArray)).bind fun t138 => (if t138 = true then (some false) else ((fit_In.f k (([(⟨#[112]⟩ : ByteArray), (⟨#[98]⟩ : ByteArray)] : List ByteArray)) (⟨#[100, 105, 118]⟩ : ByteArray)).bind fun t142 => (some (!t142))))) else (some false)) = some r := H
  have A1 := Aside0.mk A10
  clear A10
  by_cases c2 : t134 = true
  · subst c2
    have H1 : ((fit_In.f k (([(⟨#[112]⟩ : ByteArray)] : List ByteArray)) (⟨#[100, 105, 118]⟩ : ByteArray)).bind fun t138 => (if t138 = true then (some false) else ((fit_In.f k (([(⟨#[112]⟩ : ByteArray), (⟨#[98]⟩ : ByteArray)] : List ByteArray)) (⟨#[100, 105, 118]⟩ : ByteArray)).bind fun t142 => (some (!t142))))) = some r := by rw [if_pos rfl] at H; exact H
    clear H
    have H := H1
    clear H1
    obtain ⟨y135, hy135⟩ : ∃ y_ : List ByteArray, y_ = (([(⟨#[112]⟩ : ByteArray)] : List ByteArray)) := ⟨_, rfl⟩
    replace H : ((fit_In.f k y135 (⟨#[100, 105, 118]⟩ : ByteArray)).bind fun t138 => (if t138 = true then (some false) else ((fit_In.f k (([(⟨#[112]⟩ : ByteArray), (⟨#[98]⟩ : ByteArray)] : List ByteArray)) (⟨#[100, 105, 118]⟩ : ByteArray)).bind fun t142 => (some (!t142))))) = some r := by first | (rw [hy135]; with_reducible exact H) | (have H2_ := (Option.bind_some _ _).symm.trans H; rw [hy135]; with_reducible exact H2_) | (have H2_ := (Option.bind_some _ _).symm.trans H; with_reducible exact H2_) | with_reducible exact H | (rw [hy135]; exact H) | exact H
    have Ny135 := Aside0.mk hy135
    clear hy135
    replace H := Option.bind_eq_some_iff.mp H
    obtain ⟨t138, A30, H⟩ := H
    replace H : (if t138 = true then (some false) else ((fit_In.f k (([(⟨#[112]⟩ : ByteArray), (⟨#[98]⟩ : ByteArray)] : List ByteArray)) (⟨#[100, 105, 118]⟩ : ByteArray)).bind fun t142 => (some (!t142)))) = some r := H
    have A3 := Aside0.mk A30
    clear A30
    by_cases c4 : t138 = true
    · subst c4
      have H1 : (some false) = some r := by rw [if_pos rfl] at H; exact H
      clear H
      have H := H1
      clear H1
      obtain rfl := Option.some.inj H
      go_enter Tryd.func17, Tryd.ntmps17
      go_wp2_with (first | ((with_reducible refine gate_dst (N := 1) rfl ?_); (try (refine gate_guard (by rfl) ?_; dsimp only)); refine Kd.R_lit Kd.string _ 9 ?hg (N := 1) ?hd (xs := ([(⟨#[98]⟩ : ByteArray)] : List ByteArray)) (inner := [.string (⟨#[98]⟩ : ByteArray)]) (ok := fun _ => True) (okp := fun _ => True) ?hr ?hp (fun _ hk => hk) trivial (Below.refl _ _) (Nat.le_refl _) (by simp) ?_; (case hd => rfl); (case hg => rfl); (case hr => first | (go_simp; done) | (go_simp; rfl)); (case hp => exact (Reps.one (show Kd.M Kd.string _ _ _ (⟨#[98]⟩ : ByteArray) [.string (⟨#[98]⟩ : ByteArray)] from rfl) (Reps.none _ _))); intro v132 w5 ho6 hb hg_ hnew_; clear hg_ hnew_; (first | rw [← Ny131.out] at ho6 | (simp only [Int.reduceToNat] at ho6; rw [← Ny131.out] at ho6)); have n0_ := Aside0.mk (Kd.R_lower ho6 (below_size (by repeat (first | (with_reducible first | exact HB.out | apply below_alloc | apply pw_below_drewN | apply below_drew1) | exact HB.out)))); have n1_ := Aside0.mk (below_step (by repeat (first | (with_reducible first | exact HB.out | apply below_alloc | apply pw_below_drewN | apply below_drew1) | exact HB.out)) hb); clear HB; have HO133 := n0_; have HB := n1_; clear n0_ n1_; clear hb ho6; obtain ⟨Ao7, co7, eo7⟩ := Kd.R_slice HO133.out; subst eo7) | ((with_reducible refine gate_callee (f := 18) rfl ?_); refine goesL_ (some 2) rfl rfl Tryd.func18 (by kernel_rfl) rfl #[.slice Ao7 y131.length co7, .string (⟨#[100, 105, 118]⟩ : ByteArray)] rfl (by (try simp only [List.map_toArray, List.map_cons, List.map_nil]); first | done | rfl | (simp only [List.length_drop, List.length_take]; rfl)) ?_; (with_reducible refine (fit_In.calls k _ _ y131 (⟨#[100, 105, 118]⟩ : ByteArray) true _ ?side1 ?side2 ?side3 A1.out).mono ?_); (case side1 => repeat (first | exact (Kd.R_reads' HO133.out).2.2 | (with_reducible refine Kd.C_alloc ?_ _) | (with_reducible refine Kd.C_drewN ?_ _) | (with_reducible refine Kd.C_drew ?_))); (case side2 => exact (Kd.R_reads' HO133.out).2.1); (case side3 => exact GW.below HG.out (by repeat (first | (with_reducible first | exact HB.out | apply below_alloc | apply pw_below_drewN | apply below_drew1) | exact HB.out))); rintro e w8 ⟨rfl, hb⟩; refine ⟨_, rfl, ?_⟩; have n0_ := Aside0.mk (Kd.R_below (by (with_reducible repeat (first | apply Kd.R_alloc | apply Kd.R_drewN | apply Kd.R_drew)); exact HO133.out) hb); have n1_ := Aside0.mk (below_step (by repeat (first | (with_reducible first | exact HB.out | apply below_alloc | apply pw_below_drewN | apply below_drew1) | exact HB.out)) hb); clear HO133; clear HB; have HO133 := n0_; have HB := n1_; clear n0_ n1_; (try clear hb); (try clear hb2); (try clear hk); (try clear hi)) | ((with_reducible refine gate_dst (N := 4) rfl ?_); (try (refine gate_guard (by rfl) ?_; dsimp only)); refine Kd.R_lit Kd.string _ 9 ?hg (N := 4) ?hd (xs := ([(⟨#[112]⟩ : ByteArray)] : List ByteArray)) (inner := [.string (⟨#[112]⟩ : ByteArray)]) (ok := fun _ => True) (okp := fun _ => True) ?hr ?hp (fun _ hk => hk) trivial (Below.refl _ _) (Nat.le_refl _) (by simp) ?_; (case hd => rfl); (case hg => rfl); (case hr => first | (go_simp; done) | (go_simp; rfl)); (case hp => exact (Reps.one (show Kd.M Kd.string _ _ _ (⟨#[112]⟩ : ByteArray) [.string (⟨#[112]⟩ : ByteArray)] from rfl) (Reps.none _ _))); intro v136 w9 ho10 hb hg_ hnew_; clear hg_ hnew_; (first | rw [← Ny135.out] at ho10 | (simp only [Int.reduceToNat] at ho10; rw [← Ny135.out] at ho10)); have n0_ := Aside0.mk (Kd.R_elder' (by (with_reducible repeat (first | apply Kd.R_alloc | apply Kd.R_drewN | apply Kd.R_drew)); exact HO133.out) (Kd.R_base ho10) hb); have n1_ := Aside0.mk (Kd.R_lower (Kd.R_new' ho10 (Kd.R_lt (by (with_reducible repeat (first | apply Kd.R_alloc | apply Kd.R_drewN | apply Kd.R_drew)); exact HO133.out))) (below_size (by repeat (first | (with_reducible first | exact HB.out | apply below_alloc | apply pw_below_drewN | apply below_drew1) | exact HB.out)))); have n2_ := Aside0.mk (below_step (by repeat (first | (with_reducible first | exact HB.out | apply below_alloc | apply pw_below_drewN | apply below_drew1) | exact HB.out)) hb); clear HO133; clear HB; have HO133 := n0_; have HO137 := n1_; have HB := n2_; clear n0_ n1_ n2_; clear hb ho10; obtain ⟨Ao11, co11, eo11⟩ := Kd.R_slice HO137.out; subst eo11) | (go_at_call 18; (with_reducible refine (fit_In.calls k _ _ y135 (⟨#[100, 105, 118]⟩ : ByteArray) true _ ?side1 ?side2 ?side3 A3.out).mono ?_); (case side1 => repeat (first | exact (Kd.R_reads' HO137.out).2.2 | (with_reducible refine Kd.C_alloc ?_ _) | (with_reducible refine Kd.C_drewN ?_ _) | (with_reducible refine Kd.C_drew ?_))); (case side2 => exact (Kd.R_reads' HO137.out).2.1); (case side3 => exact GW.below HG.out (by repeat (first | (with_reducible first | exact HB.out | apply below_alloc | apply pw_below_drewN | apply below_drew1) | exact HB.out))); rintro e w12 ⟨rfl, hb⟩; have n0_ := Aside0.mk (Kd.R_below (by (with_reducible repeat (first | apply Kd.R_alloc | apply Kd.R_drewN | apply Kd.R_drew)); exact HO133.out) hb); have n1_ := Aside0.mk (Kd.R_below (by (with_reducible repeat (first | apply Kd.R_alloc | apply Kd.R_drewN | apply Kd.R_drew)); exact HO137.out) hb); have n2_ := Aside0.mk (below_step (by repeat (first | (with_reducible first | exact HB.out | apply below_alloc | apply pw_below_drewN | apply below_drew1) | exact HB.out)) hb); clear HO133; clear HO137; clear HB; have HO133 := n0_; have HO137 := n1_; have HB := n2_; clear n0_ n1_ n2_; (try clear hb); (try clear hb2); (try clear hk); (try clear hi)))
      go_ret
      exact ⟨by first | rfl | (simp [errW_none, errW_some] <;> rfl) | (simp [*, errW_none, errW_some] <;> rfl), by repeat (first | (with_reducible first | exact HB.out | apply below_alloc | apply pw_below_drewN | apply below_drew1) | exact HB.out)⟩
    · replace c4 := Bool.eq_false_iff.mpr c4
      subst c4
      have H1 : ((fit_In.f k (([(⟨#[112]⟩ : ByteArray), (⟨#[98]⟩ : ByteArray)] : List ByteArray)) (⟨#[100, 105, 118]⟩ : ByteArray)).bind fun t142 => (some (!t142))) = some r := by rw [if_neg (show ¬ (false = true) by decide)] at H; exact H
      clear H
      have H := H1
      clear H1
      obtain ⟨y139, hy139⟩ : ∃ y_ : List ByteArray, y_ = (([(⟨#[112]⟩ : ByteArray), (⟨#[98]⟩ : ByteArray)] : List ByteArray)) := ⟨_, rfl⟩
      replace H : ((fit_In.f k y139 (⟨#[100, 105, 118]⟩ : ByteArray)).bind fun t142 => (some (!t142))) = some r := by first | (rw [hy139]; with_reducible exact H) | (have H2_ := (Option.bind_some _ _).symm.trans H; rw [hy139]; with_reducible exact H2_) | (have H2_ := (Option.bind_some _ _).symm.trans H; with_reducible exact H2_) | with_reducible exact H | (rw [hy139]; exact H) | exact H
      have Ny139 := Aside0.mk hy139
      clear hy139
      replace H := Option.bind_eq_some_iff.mp H
      obtain ⟨t142, A130, H⟩ := H
      replace H : (some (!t142)) = some r := H
      have A13 := Aside0.mk A130
      clear A130
      obtain rfl := Option.some.inj H
      go_enter Tryd.func17, Tryd.ntmps17
      go_wp2_with (first | ((with_reducible refine gate_dst (N := 1) rfl ?_); (try (refine gate_guard (by rfl) ?_; dsimp only)); refine Kd.R_lit Kd.string _ 9 ?hg (N := 1) ?hd (xs := ([(⟨#[98]⟩ : ByteArray)] : List ByteArray)) (inner := [.string (⟨#[98]⟩ : ByteArray)]) (ok := fun _ => True) (okp := fun _ => True) ?hr ?hp (fun _ hk => hk) trivial (Below.refl _ _) (Nat.le_refl _) (by simp) ?_; (case hd => rfl); (case hg => rfl); (case hr => first | (go_simp; done) | (go_simp; rfl)); (case hp => exact (Reps.one (show Kd.M Kd.string _ _ _ (⟨#[98]⟩ : ByteArray) [.string (⟨#[98]⟩ : ByteArray)] from rfl) (Reps.none _ _))); intro v132 w14 ho15 hb hg_ hnew_; clear hg_ hnew_; (first | rw [← Ny131.out] at ho15 | (simp only [Int.reduceToNat] at ho15; rw [← Ny131.out] at ho15)); have n0_ := Aside0.mk (Kd.R_lower ho15 (below_size (by repeat (first | (with_reducible first | exact HB.out | apply below_alloc | apply pw_below_drewN | apply below_drew1) | exact HB.out)))); have n1_ := Aside0.mk (below_step (by repeat (first | (with_reducible first | exact HB.out | apply below_alloc | apply pw_below_drewN | apply below_drew1) | exact HB.out)) hb); clear HB; have HO133 := n0_; have HB := n1_; clear n0_ n1_; clear hb ho15; obtain ⟨Ao16, co16, eo16⟩ := Kd.R_slice HO133.out; subst eo16) | ((with_reducible refine gate_callee (f := 18) rfl ?_); refine goesL_ (some 2) rfl rfl Tryd.func18 (by kernel_rfl) rfl #[.slice Ao16 y131.length co16, .string (⟨#[100, 105, 118]⟩ : ByteArray)] rfl (by (try simp only [List.map_toArray, List.map_cons, List.map_nil]); first | done | rfl | (simp only [List.length_drop, List.length_take]; rfl)) ?_; (with_reducible refine (fit_In.calls k _ _ y131 (⟨#[100, 105, 118]⟩ : ByteArray) true _ ?side1 ?side2 ?side3 A1.out).mono ?_); (case side1 => repeat (first | exact (Kd.R_reads' HO133.out).2.2 | (with_reducible refine Kd.C_alloc ?_ _) | (with_reducible refine Kd.C_drewN ?_ _) | (with_reducible refine Kd.C_drew ?_))); (case side2 => exact (Kd.R_reads' HO133.out).2.1); (case side3 => exact GW.below HG.out (by repeat (first | (with_reducible first | exact HB.out | apply below_alloc | apply pw_below_drewN | apply below_drew1) | exact HB.out))); rintro e w17 ⟨rfl, hb⟩; refine ⟨_, rfl, ?_⟩; have n0_ := Aside0.mk (Kd.R_below (by (with_reducible repeat (first | apply Kd.R_alloc | apply Kd.R_drewN | apply Kd.R_drew)); exact HO133.out) hb); have n1_ := Aside0.mk (below_step (by repeat (first | (with_reducible first | exact HB.out | apply below_alloc | apply pw_below_drewN | apply below_drew1) | exact HB.out)) hb); clear HO133; clear HB; have HO133 := n0_; have HB := n1_; clear n0_ n1_; (try clear hb); (try clear hb2); (try clear hk); (try clear hi)) | ((with_reducible refine gate_dst (N := 4) rfl ?_); (try (refine gate_guard (by rfl) ?_; dsimp only)); refine Kd.R_lit Kd.string _ 9 ?hg (N := 4) ?hd (xs := ([(⟨#[112]⟩ : ByteArray)] : List ByteArray)) (inner := [.string (⟨#[112]⟩ : ByteArray)]) (ok := fun _ => True) (okp := fun _ => True) ?hr ?hp (fun _ hk => hk) trivial (Below.refl _ _) (Nat.le_refl _) (by simp) ?_; (case hd => rfl); (case hg => rfl); (case hr => first | (go_simp; done) | (go_simp; rfl)); (case hp => exact (Reps.one (show Kd.M Kd.string _ _ _ (⟨#[112]⟩ : ByteArray) [.string (⟨#[112]⟩ : ByteArray)] from rfl) (Reps.none _ _))); intro v136 w18 ho19 hb hg_ hnew_; clear hg_ hnew_; (first | rw [← Ny135.out] at ho19 | (simp only [Int.reduceToNat] at ho19; rw [← Ny135.out] at ho19)); have n0_ := Aside0.mk (Kd.R_elder' (by (with_reducible repeat (first | apply Kd.R_alloc | apply Kd.R_drewN | apply Kd.R_drew)); exact HO133.out) (Kd.R_base ho19) hb); have n1_ := Aside0.mk (Kd.R_lower (Kd.R_new' ho19 (Kd.R_lt (by (with_reducible repeat (first | apply Kd.R_alloc | apply Kd.R_drewN | apply Kd.R_drew)); exact HO133.out))) (below_size (by repeat (first | (with_reducible first | exact HB.out | apply below_alloc | apply pw_below_drewN | apply below_drew1) | exact HB.out)))); have n2_ := Aside0.mk (below_step (by repeat (first | (with_reducible first | exact HB.out | apply below_alloc | apply pw_below_drewN | apply below_drew1) | exact HB.out)) hb); clear HO133; clear HB; have HO133 := n0_; have HO137 := n1_; have HB := n2_; clear n0_ n1_ n2_; clear hb ho19; obtain ⟨Ao20, co20, eo20⟩ := Kd.R_slice HO137.out; subst eo20) | (go_at_call 18; (with_reducible refine (fit_In.calls k _ _ y135 (⟨#[100, 105, 118]⟩ : ByteArray) false _ ?side1 ?side2 ?side3 A3.out).mono ?_); (case side1 => repeat (first | exact (Kd.R_reads' HO137.out).2.2 | (with_reducible refine Kd.C_alloc ?_ _) | (with_reducible refine Kd.C_drewN ?_ _) | (with_reducible refine Kd.C_drew ?_))); (case side2 => exact (Kd.R_reads' HO137.out).2.1); (case side3 => exact GW.below HG.out (by repeat (first | (with_reducible first | exact HB.out | apply below_alloc | apply pw_below_drewN | apply below_drew1) | exact HB.out))); rintro e w21 ⟨rfl, hb⟩; have n0_ := Aside0.mk (Kd.R_below (by (with_reducible repeat (first | apply Kd.R_alloc | apply Kd.R_drewN | apply Kd.R_drew)); exact HO133.out) hb); have n1_ := Aside0.mk (Kd.R_below (by (with_reducible repeat (first | apply Kd.R_alloc | apply Kd.R_drewN | apply Kd.R_drew)); exact HO137.out) hb); have n2_ := Aside0.mk (below_step (by repeat (first | (with_reducible first | exact HB.out | apply below_alloc | apply pw_below_drewN | apply below_drew1) | exact HB.out)) hb); clear HO133; clear HO137; clear HB; have HO133 := n0_; have HO137 := n1_; have HB := n2_; clear n0_ n1_ n2_; (try clear hb); (try clear hb2); (try clear hk); (try clear hi)) | ((with_reducible refine gate_dst (N := 9) rfl ?_); (try (refine gate_guard (by rfl) ?_; dsimp only)); refine Kd.R_lit Kd.string _ 9 ?hg (N := 9) ?hd (xs := ([(⟨#[112]⟩ : ByteArray), (⟨#[98]⟩ : ByteArray)] : List ByteArray)) (inner := [.string (⟨#[112]⟩ : ByteArray), .string (⟨#[98]⟩ : ByteArray)]) (ok := fun _ => True) (okp := fun _ => True) ?hr ?hp (fun _ hk => hk) trivial (Below.refl _ _) (Nat.le_refl _) (by simp) ?_; (case hd => rfl); (case hg => rfl); (case hr => first | (go_simp; done) | (go_simp; rfl)); (case hp => exact (Reps.one (show Kd.M Kd.string _ _ _ (⟨#[112]⟩ : ByteArray) [.string (⟨#[112]⟩ : ByteArray)] from rfl) (Reps.one (show Kd.M Kd.string _ _ _ (⟨#[98]⟩ : ByteArray) [.string (⟨#[98]⟩ : ByteArray)] from rfl) (Reps.none _ _)))); intro v140 w22 ho23 hb hg_ hnew_; clear hg_ hnew_; (first | rw [← Ny139.out] at ho23 | (simp only [Int.reduceToNat] at ho23; rw [← Ny139.out] at ho23)); have n0_ := Aside0.mk (Kd.R_elder' (by (with_reducible repeat (first | apply Kd.R_alloc | apply Kd.R_drewN | apply Kd.R_drew)); exact HO133.out) (Kd.R_base ho23) hb); have n1_ := Aside0.mk (Kd.R_elder' (by (with_reducible repeat (first | apply Kd.R_alloc | apply Kd.R_drewN | apply Kd.R_drew)); exact HO137.out) (Kd.R_base ho23) hb); have n2_ := Aside0.mk (Kd.R_lower (Kd.R_new' (Kd.R_new' ho23 (Kd.R_lt (by (with_reducible repeat (first | apply Kd.R_alloc | apply Kd.R_drewN | apply Kd.R_drew)); exact HO133.out))) (Kd.R_lt (by (with_reducible repeat (first | apply Kd.R_alloc | apply Kd.R_drewN | apply Kd.R_drew)); exact HO137.out))) (below_size (by repeat (first | (with_reducible first | exact HB.out | apply below_alloc | apply pw_below_drewN | apply below_drew1) | exact HB.out)))); have n3_ := Aside0.mk (below_step (by repeat (first | (with_reducible first | exact HB.out | apply below_alloc | apply pw_below_drewN | apply below_drew1) | exact HB.out)) hb); clear HO133; clear HO137; clear HB; have HO133 := n0_; have HO137 := n1_; have HO141 := n2_; have HB := n3_; clear n0_ n1_ n2_ n3_; clear hb ho23; obtain ⟨Ao24, co24, eo24⟩ := Kd.R_slice HO141.out; subst eo24) | (go_at_call 18; (with_reducible refine (fit_In.calls k _ _ y139 (⟨#[100, 105, 118]⟩ : ByteArray) t142 _ ?side1 ?side2 ?side3 A13.out).mono ?_); (case side1 => repeat (first | exact (Kd.R_reads' HO141.out).2.2 | (with_reducible refine Kd.C_alloc ?_ _) | (with_reducible refine Kd.C_drewN ?_ _) | (with_reducible refine Kd.C_drew ?_))); (case side2 => exact (Kd.R_reads' HO141.out).2.1); (case side3 => exact GW.below HG.out (by repeat (first | (with_reducible first | exact HB.out | apply below_alloc | apply pw_below_drewN | apply below_drew1) | exact HB.out))); rintro e w25 ⟨rfl, hb⟩; have n0_ := Aside0.mk (Kd.R_below (by (with_reducible repeat (first | apply Kd.R_alloc | apply Kd.R_drewN | apply Kd.R_drew)); exact HO133.out) hb); have n1_ := Aside0.mk (Kd.R_below (by (with_reducible repeat (first | apply Kd.R_alloc | apply Kd.R_drewN | apply Kd.R_drew)); exact HO137.out) hb); have n2_ := Aside0.mk (Kd.R_below (by (with_reducible repeat (first | apply Kd.R_alloc | apply Kd.R_drewN | apply Kd.R_drew)); exact HO141.out) hb); have n3_ := Aside0.mk (below_step (by repeat (first | (with_reducible first | exact HB.out | apply below_alloc | apply pw_below_drewN | apply below_drew1) | exact HB.out)) hb); clear HO133; clear HO137; clear HO141; clear HB; have HO133 := n0_; have HO137 := n1_; have HO141 := n2_; have HB := n3_; clear n0_ n1_ n2_ n3_; (try clear hb); (try clear hb2); (try clear hk); (try clear hi)))
      go_ret
      exact ⟨by first | rfl | (simp [errW_none, errW_some] <;> rfl) | (simp [*, errW_none, errW_some] <;> rfl), by repeat (first | (with_reducible first | exact HB.out | apply below_alloc | apply pw_below_drewN | apply below_drew1) | exact HB.out)⟩
  · replace c2 := Bool.eq_false_iff.mpr c2
    subst c2
    have H1 : (some false) = some r := by rw [if_neg (show ¬ (false = true) by decide)] at H; exact H
    clear H
    have H := H1
    clear H1
    obtain rfl := Option.some.inj H
    go_enter Tryd.func17, Tryd.ntmps17
    go_wp2_with (first | ((with_reducible refine gate_dst (N := 1) rfl ?_); (try (refine gate_guard (by rfl) ?_; dsimp only)); refine Kd.R_lit Kd.string _ 9 ?hg (N := 1) ?hd (xs := ([(⟨#[98]⟩ : ByteArray)] : List ByteArray)) (inner := [.string (⟨#[98]⟩ : ByteArray)]) (ok := fun _ => True) (okp := fun _ => True) ?hr ?hp (fun _ hk => hk) trivial (Below.refl _ _) (Nat.le_refl _) (by simp) ?_; (case hd => rfl); (case hg => rfl); (case hr => first | (go_simp; done) | (go_simp; rfl)); (case hp => exact (Reps.one (show Kd.M Kd.string _ _ _ (⟨#[98]⟩ : ByteArray) [.string (⟨#[98]⟩ : ByteArray)] from rfl) (Reps.none _ _))); intro v132 w26 ho27 hb hg_ hnew_; clear hg_ hnew_; (first | rw [← Ny131.out] at ho27 | (simp only [Int.reduceToNat] at ho27; rw [← Ny131.out] at ho27)); have n0_ := Aside0.mk (Kd.R_lower ho27 (below_size (by repeat (first | (with_reducible first | exact HB.out | apply below_alloc | apply pw_below_drewN | apply below_drew1) | exact HB.out)))); have n1_ := Aside0.mk (below_step (by repeat (first | (with_reducible first | exact HB.out | apply below_alloc | apply pw_below_drewN | apply below_drew1) | exact HB.out)) hb); clear HB; have HO133 := n0_; have HB := n1_; clear n0_ n1_; clear hb ho27; obtain ⟨Ao28, co28, eo28⟩ := Kd.R_slice HO133.out; subst eo28) | ((with_reducible refine gate_callee (f := 18) rfl ?_); refine goesL_ (some 2) rfl rfl Tryd.func18 (by kernel_rfl) rfl #[.slice Ao28 y131.length co28, .string (⟨#[100, 105, 118]⟩ : ByteArray)] rfl (by (try simp only [List.map_toArray, List.map_cons, List.map_nil]); first | done | rfl | (simp only [List.length_drop, List.length_take]; rfl)) ?_; (with_reducible refine (fit_In.calls k _ _ y131 (⟨#[100, 105, 118]⟩ : ByteArray) false _ ?side1 ?side2 ?side3 A1.out).mono ?_); (case side1 => repeat (first | exact (Kd.R_reads' HO133.out).2.2 | (with_reducible refine Kd.C_alloc ?_ _) | (with_reducible refine Kd.C_drewN ?_ _) | (with_reducible refine Kd.C_drew ?_))); (case side2 => exact (Kd.R_reads' HO133.out).2.1); (case side3 => exact GW.below HG.out (by repeat (first | (with_reducible first | exact HB.out | apply below_alloc | apply pw_below_drewN | apply below_drew1) | exact HB.out))); rintro e w29 ⟨rfl, hb⟩; refine ⟨_, rfl, ?_⟩; have n0_ := Aside0.mk (Kd.R_below (by (with_reducible repeat (first | apply Kd.R_alloc | apply Kd.R_drewN | apply Kd.R_drew)); exact HO133.out) hb); have n1_ := Aside0.mk (below_step (by repeat (first | (with_reducible first | exact HB.out | apply below_alloc | apply pw_below_drewN | apply below_drew1) | exact HB.out)) hb); clear HO133; clear HB; have HO133 := n0_; have HB := n1_; clear n0_ n1_; (try clear hb); (try clear hb2); (try clear hk); (try clear hi)))
    go_ret
    exact ⟨by first | rfl | (simp [errW_none, errW_some] <;> rfl) | (simp [*, errW_none, errW_some] <;> rfl), by repeat (first | (with_reducible first | exact HB.out | apply below_alloc | apply pw_below_drewN | apply below_drew1) | exact HB.out)⟩

end Go.Proofs.YteahlapoeiikoaaDoor.P


-- Printed by a program of this session (wip/myprint.py over the kit's print).
namespace Go.Proofs.YteahlapoeiikoaaDoor.P
open Go.RowKit Go.Proofs.YteahlapoeiikoaaDoorW.PrintWords Go.Proofs.YteahlapoeiikoaaDoorW.PrintLast Go.Proofs.YteahlapoeiikoaaDoorW.PrintMore
attribute [local go_sem] max2_int min2_int max_two min_two max_three min_three max_four min_four   -- for this text's walks alone
set_option linter.unusedVariables false
set_option linter.unusedSimpArgs false

/-! ### decanterlaw21_FitIn: function 4 -/
mutual
def decanterlaw21_FitIn.j0 : Nat → List ByteArray → ByteArray → Bool → Option (Bool)
  | 0, _, _, _ => none
  | k + 1, x0, x1, x18 => if x18 = true then ((decanterlaw21_speaks.f k).bind fun t174 => (some t174)) else ((some (([x1, (⟨#[112]⟩ : ByteArray), (⟨#[108, 105]⟩ : ByteArray), (⟨#[100, 100]⟩ : ByteArray), (⟨#[100, 116]⟩ : ByteArray), (⟨#[97]⟩ : ByteArray), (⟨#[104, 50]⟩ : ByteArray), (⟨#[100, 105, 118]⟩ : ByteArray), (⟨#[98]⟩ : ByteArray), (⟨#[104, 114]⟩ : ByteArray)] : List ByteArray) : List ByteArray)).bind fun y175 => (decanterlaw21_FitIn.l0 k x0 y175 (y175.length : Int) 0))
def decanterlaw21_FitIn.l0 : Nat → List ByteArray → List ByteArray → Int → Int → Option (Bool)
  | 0, _, _, _, _ => none
  | k + 1, x0, x21, x22, x23 => if x23 < x22 then (if 0 ≤ x23 then (if x23 < (x21.length : Int) then ((fit_In.f k x0 (rdOf ByteArray.empty x21 x23)).bind fun t179 => ((decanterref21_In.f k x0 (rdOf ByteArray.empty x21 x23)).bind fun t180 => (if (t179 != t180) = true then (some false) else (decanterlaw21_FitIn.l0 k x0 x21 x22 (wrap64 (x23 + 1)))))) else (none)) else (none)) else (some true)
end
def decanterlaw21_FitIn.f (k : Nat) (l0 : List ByteArray) (a1 : ByteArray) : Option (Bool) := (decanterlaw21_speaks.f k).bind fun t173 => (if t173 = true then (if (l0.length : Int) > 40 then (decanterlaw21_FitIn.j0 k l0 a1 true) else (decanterlaw21_FitIn.j0 k l0 a1 (decide ((a1.size : Int) > 60)))) else (decanterlaw21_FitIn.j0 k l0 a1 true))
theorem decanterlaw21_FitIn.mono_l : ∀ k, (∀ y0 y1 y2, LeO (decanterlaw21_FitIn.j0 k y0 y1 y2) (decanterlaw21_FitIn.j0 (k + 1) y0 y1 y2)) ∧ (∀ y0 y1 y2 y3, LeO (decanterlaw21_FitIn.l0 k y0 y1 y2 y3) (decanterlaw21_FitIn.l0 (k + 1) y0 y1 y2 y3))
  | 0 => ⟨fun _ _ _ r h => by simp [decanterlaw21_FitIn.j0] at h, fun _ _ _ _ r h => by simp [decanterlaw21_FitIn.l0] at h⟩
  | k + 1 => by
    obtain ⟨ih0, ih1⟩ := decanterlaw21_FitIn.mono_l k
    refine ⟨?_, ?_⟩
    · intro y0 y1 y2
      unfold decanterlaw21_FitIn.j0
      repeat' first
      | (with_reducible exact ih0 _ _ _)
      | (with_reducible exact ih1 _ _ _ _)
      | (with_reducible exact decanterlaw21_speaks.mono _)
      | (with_reducible exact decanterref21_In.mono _ _ _)
      | (with_reducible exact fit_In.mono _ _ _)
      | (with_reducible exact LeO.refl _)
      | (with_reducible exact LeO.none _)
      | (with_reducible refine LeO.ite ?_ ?_)
      | (with_reducible refine LeO.bind ?_ (fun _ => ?_))
      | exact ih0 _ _ _
      | exact ih1 _ _ _ _
      | exact decanterlaw21_speaks.mono _
      | exact decanterref21_In.mono _ _ _
      | exact fit_In.mono _ _ _
      | exact LeO.none _
      | refine LeO.ite ?_ ?_
      | refine LeO.bind ?_ (fun _ => ?_)
    · intro y0 y1 y2 y3
      unfold decanterlaw21_FitIn.l0
      repeat' first
      | (with_reducible exact ih0 _ _ _)
      | (with_reducible exact ih1 _ _ _ _)
      | (with_reducible exact decanterlaw21_speaks.mono _)
      | (with_reducible exact decanterref21_In.mono _ _ _)
      | (with_reducible exact fit_In.mono _ _ _)
      | (with_reducible exact LeO.refl _)
      | (with_reducible exact LeO.none _)
      | (with_reducible refine LeO.ite ?_ ?_)
      | (with_reducible refine LeO.bind ?_ (fun _ => ?_))
      | exact ih0 _ _ _
      | exact ih1 _ _ _ _
      | exact decanterlaw21_speaks.mono _
      | exact decanterref21_In.mono _ _ _
      | exact fit_In.mono _ _ _
      | exact LeO.none _
      | refine LeO.ite ?_ ?_
      | refine LeO.bind ?_ (fun _ => ?_)
theorem decanterlaw21_FitIn.mono : ∀ a0 a1 k, LeO (decanterlaw21_FitIn.f k a0 a1) (decanterlaw21_FitIn.f (k + 1) a0 a1) := by
  intro a0 a1 k
  obtain ⟨ih0, ih1⟩ := decanterlaw21_FitIn.mono_l k
  unfold decanterlaw21_FitIn.f
  repeat' first
      | (with_reducible exact ih0 _ _ _)
      | (with_reducible exact ih1 _ _ _ _)
      | (with_reducible exact decanterlaw21_speaks.mono _)
      | (with_reducible exact decanterref21_In.mono _ _ _)
      | (with_reducible exact fit_In.mono _ _ _)
      | (with_reducible exact LeO.refl _)
      | (with_reducible exact LeO.none _)
      | (with_reducible refine LeO.ite ?_ ?_)
      | (with_reducible refine LeO.bind ?_ (fun _ => ?_))
      | exact ih0 _ _ _
      | exact ih1 _ _ _ _
      | exact decanterlaw21_speaks.mono _
      | exact decanterref21_In.mono _ _ _
      | exact fit_In.mono _ _ _
      | exact LeO.none _
      | refine LeO.ite ?_ ?_
      | refine LeO.bind ?_ (fun _ => ?_)
set_option maxHeartbeats 8000000 in
set_option maxRecDepth 100000 in
theorem decanterlaw21_FitIn.calls (k : Nat) (A0 : Option Addr) (c0 : Nat) (l0 : List ByteArray) (a1 : ByteArray) (r : Bool) (w : World) (hr0 : Kd.C Kd.string w A0 l0.length l0) (hc0 : l0.length ≤ c0) (hG : GW w) (h : decanterlaw21_FitIn.f k l0 a1 = some r) :
    Calls Tryd.prog 4 #[.slice A0 l0.length c0, .string a1] w fun e w' => e = .returned (.bool r) ∧ Below w.heap.size w w' := by
  have HR0 := Aside0.mk hr0
  have HC0 := Aside0.mk hc0
  clear hr0 hc0
  have HG := Aside0.mk hG
  clear hG
  have HB := Aside0.mk (Below.refl w.heap.size w)
  have H : ((decanterlaw21_speaks.f k).bind fun t173 => (if t173 = true then (if (l0.length : Int) > 40 then (decanterlaw21_FitIn.j0 k l0 a1 true) else (decanterlaw21_FitIn.j0 k l0 a1 (decide ((a1.size : Int) > 60)))) else (decanterlaw21_FitIn.j0 k l0 a1 true))) = some r := h
  clear h
  have HC3 := Aside0.mk H
  clear H
  go_enter Tryd.func4, Tryd.ntmps4
  go_upto_region 1 with (fail)
  go_cut [18] (fun v18 wc => ∃ (kq : Nat) (x18_2 : Bool), v18 = .bool x18_2 ∧ Aside0 (decanterlaw21_FitIn.j0 kq l0 a1 x18_2 = some r) ∧ Aside0 (kq ≤ k) ∧ Aside0 (Below w.heap.size w wc))
  case first =>
    have H := HC3.out
    clear HC3
    replace H := Option.bind_eq_some_iff.mp H
    obtain ⟨t173, A40, H⟩ := H
    replace H : (if t173 = true then (if (l0.length : Int) > 40 then (decanterlaw21_FitIn.j0 k l0 a1 true) else (decanterlaw21_FitIn.j0 k l0 a1 (decide ((a1.size : Int) > 60)))) else (decanterlaw21_FitIn.j0 k l0 a1 true)) = some r := H
    have A4 := Aside0.mk A40
    clear A40
    by_cases c5 : t173 = true
    · subst c5
      have H1 : (if (l0.length : Int) > 40 then (decanterlaw21_FitIn.j0 k l0 a1 true) else (decanterlaw21_FitIn.j0 k l0 a1 (decide ((a1.size : Int) > 60)))) = some r := by rw [if_pos rfl] at H; exact H
      clear H
      have H := H1
      clear H1
      by_cases c6 : (l0.length : Int) > 40
      · rw [if_pos c6] at H
        have c6b0 : decide (40 < (l0.length : Int)) = true := decide_eq_true c6
        have c6b1 : decide (40 < l0.length) = true := decide_eq_true (by omega)
        clear c6
        (first | rw [c6b0] | (simp only [i64_w, i32_w]; rw [c6b0]) | rw [c6b1] | skip)
        have H' := Aside0.mk H
        clear H
        go_wp2_with (first | ((with_reducible refine gate_callee (f := 17) rfl ?_); refine goesL_ (some 7) rfl rfl Tryd.func17 (by kernel_rfl) rfl #[] rfl (by (try simp only [List.map_toArray, List.map_cons, List.map_nil]); first | done | rfl | (simp only [List.length_drop, List.length_take]; rfl)) ?_; (with_reducible refine (decanterlaw21_speaks.calls k  true _ ?side1 A4.out).mono ?_); (case side1 => exact GW.below HG.out (by repeat (first | (with_reducible first | exact HB.out | apply below_alloc | apply pw_below_drewN | apply below_drew1) | exact HB.out))); rintro e w7 ⟨rfl, hb⟩; refine ⟨_, rfl, ?_⟩; have n0_ := Aside0.mk (below_step (by repeat (first | (with_reducible first | exact HB.out | apply below_alloc | apply pw_below_drewN | apply below_drew1) | exact HB.out)) hb); clear HB; have HB := n0_; clear n0_; (try clear hb); (try clear hb2); (try clear hk); (try clear hi)))
        go_meet
        case rel => exact ⟨_, (true), (by first | rfl | (simp; done) | (simp [*]; done)), H', ⟨by first | omega | exact Nat.le_refl _⟩, ⟨by repeat (first | (with_reducible first | exact HB.out | apply below_alloc | apply pw_below_drewN | apply below_drew1) | exact HB.out)⟩⟩
      · rw [if_neg c6] at H
        have c6b0 : decide (40 < (l0.length : Int)) = false := decide_eq_false c6
        have c6b1 : decide (40 < l0.length) = false := decide_eq_false (by omega)
        clear c6
        (first | rw [c6b0] | (simp only [i64_w, i32_w]; rw [c6b0]) | rw [c6b1] | skip)
        have H' := Aside0.mk H
        clear H
        go_wp2_with (first | ((with_reducible refine gate_callee (f := 17) rfl ?_); refine goesL_ (some 7) rfl rfl Tryd.func17 (by kernel_rfl) rfl #[] rfl (by (try simp only [List.map_toArray, List.map_cons, List.map_nil]); first | done | rfl | (simp only [List.length_drop, List.length_take]; rfl)) ?_; (with_reducible refine (decanterlaw21_speaks.calls k  true _ ?side1 A4.out).mono ?_); (case side1 => exact GW.below HG.out (by repeat (first | (with_reducible first | exact HB.out | apply below_alloc | apply pw_below_drewN | apply below_drew1) | exact HB.out))); rintro e w8 ⟨rfl, hb⟩; refine ⟨_, rfl, ?_⟩; have n0_ := Aside0.mk (below_step (by repeat (first | (with_reducible first | exact HB.out | apply below_alloc | apply pw_below_drewN | apply below_drew1) | exact HB.out)) hb); clear HB; have HB := n0_; clear n0_; (try clear hb); (try clear hb2); (try clear hk); (try clear hi)))
        go_meet
        case rel => exact ⟨_, (decide ((a1.size : Int) > 60)), (by first | rfl | (simp; done) | (simp [*]; done)), H', ⟨by first | omega | exact Nat.le_refl _⟩, ⟨by repeat (first | (with_reducible first | exact HB.out | apply below_alloc | apply pw_below_drewN | apply below_drew1) | exact HB.out)⟩⟩
    · replace c5 := Bool.eq_false_iff.mpr c5
      subst c5
      have H1 : (decanterlaw21_FitIn.j0 k l0 a1 true) = some r := by rw [if_neg (show ¬ (false = true) by decide)] at H; exact H
      clear H
      have H := H1
      clear H1
      have H' := Aside0.mk H
      clear H
      go_wp2_with (first | ((with_reducible refine gate_callee (f := 17) rfl ?_); refine goesL_ (some 7) rfl rfl Tryd.func17 (by kernel_rfl) rfl #[] rfl (by (try simp only [List.map_toArray, List.map_cons, List.map_nil]); first | done | rfl | (simp only [List.length_drop, List.length_take]; rfl)) ?_; (with_reducible refine (decanterlaw21_speaks.calls k  false _ ?side1 A4.out).mono ?_); (case side1 => exact GW.below HG.out (by repeat (first | (with_reducible first | exact HB.out | apply below_alloc | apply pw_below_drewN | apply below_drew1) | exact HB.out))); rintro e w9 ⟨rfl, hb⟩; refine ⟨_, rfl, ?_⟩; have n0_ := Aside0.mk (below_step (by repeat (first | (with_reducible first | exact HB.out | apply below_alloc | apply pw_below_drewN | apply below_drew1) | exact HB.out)) hb); clear HB; have HB := n0_; clear n0_; (try clear hb); (try clear hb2); (try clear hk); (try clear hi)))
      go_meet
      case rel => exact ⟨_, (true), (by first | rfl | (simp; done) | (simp [*]; done)), H', ⟨by first | omega | exact Nat.le_refl _⟩, ⟨by repeat (first | (with_reducible first | exact HB.out | apply below_alloc | apply pw_below_drewN | apply below_drew1) | exact HB.out)⟩⟩
  case rest =>
    clear HC3
    try clear c1
    try clear p2
    try clear c4
    try clear c5
    try clear c6
    try clear c6b0
    try clear c6b1
    obtain ⟨kq, x18_2, rfl, HA, HJ2, HB⟩ := hcut
    cases kq with
    | zero => exact absurd HA.out (by simp [decanterlaw21_FitIn.j0])
    | succ kj2 =>
      have H := HA.out
      clear HA
      simp only [decanterlaw21_FitIn.j0] at H
      by_cases c10 : x18_2 = true
      · subst c10
        have H1 : ((decanterlaw21_speaks.f kj2).bind fun t174 => (some t174)) = some r := by rw [if_pos rfl] at H; exact H
        clear H
        have H := H1
        clear H1
        replace H := Option.bind_eq_some_iff.mp H
        obtain ⟨t174, A110, H⟩ := H
        replace H : (some t174) = some r := H
        have A11 := Aside0.mk A110
        clear A110
        obtain rfl := Option.some.inj H
        go_wp2_with (first | ((with_reducible refine gate_callee (f := 17) rfl ?_); refine goesL_ (some 19) rfl rfl Tryd.func17 (by kernel_rfl) rfl #[] rfl (by (try simp only [List.map_toArray, List.map_cons, List.map_nil]); first | done | rfl | (simp only [List.length_drop, List.length_take]; rfl)) ?_; (with_reducible refine (decanterlaw21_speaks.calls kj2  t174 _ ?side1 A11.out).mono ?_); (case side1 => exact GW.below HG.out (by repeat (first | (with_reducible first | exact HB.out | apply below_alloc | apply pw_below_drewN | apply below_drew1) | exact HB.out))); rintro e w12 ⟨rfl, hb⟩; refine ⟨_, rfl, ?_⟩; have n0_ := Aside0.mk (below_step (by repeat (first | (with_reducible first | exact HB.out | apply below_alloc | apply pw_below_drewN | apply below_drew1) | exact HB.out)) hb); clear HB; have HB := n0_; clear n0_; (try clear hb); (try clear hb2); (try clear hk); (try clear hi)))
        go_ret
        exact ⟨by first | rfl | (simp [errW_none, errW_some] <;> rfl) | (simp [*, errW_none, errW_some] <;> rfl), by repeat (first | (with_reducible first | exact HB.out | apply below_alloc | apply pw_below_drewN | apply below_drew1) | exact HB.out)⟩
      · replace c10 := Bool.eq_false_iff.mpr c10
        subst c10
        have H1 : ((some (([a1, (⟨#[112]⟩ : ByteArray), (⟨#[108, 105]⟩ : ByteArray), (⟨#[100, 100]⟩ : ByteArray), (⟨#[100, 116]⟩ : ByteArray), (⟨#[97]⟩ : ByteArray), (⟨#[104, 50]⟩ : ByteArray), (⟨#[100, 105, 118]⟩ : ByteArray), (⟨#[98]⟩ : ByteArray), (⟨#[104, 114]⟩ : ByteArray)] : List ByteArray) : List ByteArray)).bind fun y175 => (decanterlaw21_FitIn.l0 kj2 l0 y175 (y175.length : Int) 0)) = some r := by rw [if_neg (show ¬ (false = true) by decide)] at H; exact H
        clear H
        have H := H1
        clear H1
        obtain ⟨y175, hy175⟩ : ∃ y_ : List ByteArray, y_ = (([a1, (⟨#[112]⟩ : ByteArray), (⟨#[108, 105]⟩ : ByteArray), (⟨#[100, 100]⟩ : ByteArray), (⟨#[100, 116]⟩ : ByteArray), (⟨#[97]⟩ : ByteArray), (⟨#[104, 50]⟩ : ByteArray), (⟨#[100, 105, 118]⟩ : ByteArray), (⟨#[98]⟩ : ByteArray), (⟨#[104, 114]⟩ : ByteArray)] : List ByteArray)) := ⟨_, rfl⟩
        replace H : (decanterlaw21_FitIn.l0 kj2 l0 y175 (y175.length : Int) 0) = some r := by first | (rw [hy175]; with_reducible exact H) | (have H2_ := (Option.bind_some _ _).symm.trans H; rw [hy175]; with_reducible exact H2_) | (have H2_ := (Option.bind_some _ _).symm.trans H; with_reducible exact H2_) | with_reducible exact H | (rw [hy175]; exact H) | exact H
        have Ny175 := Aside0.mk hy175
        clear hy175
        have H' := Aside0.mk H
        clear H
        go_wp2_with (first | ((with_reducible refine gate_dst (N := 21) rfl ?_); (try (refine gate_guard (by rfl) ?_; dsimp only)); refine Kd.R_lit Kd.string _ 9 ?hg (N := 21) ?hd (xs := ([a1, (⟨#[112]⟩ : ByteArray), (⟨#[108, 105]⟩ : ByteArray), (⟨#[100, 100]⟩ : ByteArray), (⟨#[100, 116]⟩ : ByteArray), (⟨#[97]⟩ : ByteArray), (⟨#[104, 50]⟩ : ByteArray), (⟨#[100, 105, 118]⟩ : ByteArray), (⟨#[98]⟩ : ByteArray), (⟨#[104, 114]⟩ : ByteArray)] : List ByteArray)) (inner := [.string a1, .string (⟨#[112]⟩ : ByteArray), .string (⟨#[108, 105]⟩ : ByteArray), .string (⟨#[100, 100]⟩ : ByteArray), .string (⟨#[100, 116]⟩ : ByteArray), .string (⟨#[97]⟩ : ByteArray), .string (⟨#[104, 50]⟩ : ByteArray), .string (⟨#[100, 105, 118]⟩ : ByteArray), .string (⟨#[98]⟩ : ByteArray), .string (⟨#[104, 114]⟩ : ByteArray)]) (ok := fun _ => True) (okp := fun _ => True) ?hr ?hp (fun _ hk => hk) trivial (Below.refl _ _) (Nat.le_refl _) (by simp) ?_; (case hd => rfl); (case hg => rfl); (case hr => first | (go_simp; done) | (go_simp; rfl)); (case hp => exact (Reps.one (show Kd.M Kd.string _ _ _ a1 [.string a1] from rfl) (Reps.one (show Kd.M Kd.string _ _ _ (⟨#[112]⟩ : ByteArray) [.string (⟨#[112]⟩ : ByteArray)] from rfl) (Reps.one (show Kd.M Kd.string _ _ _ (⟨#[108, 105]⟩ : ByteArray) [.string (⟨#[108, 105]⟩ : ByteArray)] from rfl) (Reps.one (show Kd.M Kd.string _ _ _ (⟨#[100, 100]⟩ : ByteArray) [.string (⟨#[100, 100]⟩ : ByteArray)] from rfl) (Reps.one (show Kd.M Kd.string _ _ _ (⟨#[100, 116]⟩ : ByteArray) [.string (⟨#[100, 116]⟩ : ByteArray)] from rfl) (Reps.one (show Kd.M Kd.string _ _ _ (⟨#[97]⟩ : ByteArray) [.string (⟨#[97]⟩ : ByteArray)] from rfl) (Reps.one (show Kd.M Kd.string _ _ _ (⟨#[104, 50]⟩ : ByteArray) [.string (⟨#[104, 50]⟩ : ByteArray)] from rfl) (Reps.one (show Kd.M Kd.string _ _ _ (⟨#[100, 105, 118]⟩ : ByteArray) [.string (⟨#[100, 105, 118]⟩ : ByteArray)] from rfl) (Reps.one (show Kd.M Kd.string _ _ _ (⟨#[98]⟩ : ByteArray) [.string (⟨#[98]⟩ : ByteArray)] from rfl) (Reps.one (show Kd.M Kd.string _ _ _ (⟨#[104, 114]⟩ : ByteArray) [.string (⟨#[104, 114]⟩ : ByteArray)] from rfl) (Reps.none _ _)))))))))))); intro v176 w13 ho14 hb hg_ hnew_; clear hg_ hnew_; (first | rw [← Ny175.out] at ho14 | (simp only [Int.reduceToNat] at ho14; rw [← Ny175.out] at ho14)); have n0_ := Aside0.mk (Kd.R_lower ho14 (below_size (by repeat (first | (with_reducible first | exact HB.out | apply below_alloc | apply pw_below_drewN | apply below_drew1) | exact HB.out)))); have n1_ := Aside0.mk (below_step (by repeat (first | (with_reducible first | exact HB.out | apply below_alloc | apply pw_below_drewN | apply below_drew1) | exact HB.out)) hb); clear HB; have HO177 := n0_; have HB := n1_; clear n0_ n1_; clear hb ho14; obtain ⟨Ao15, co15, eo15⟩ := Kd.R_slice HO177.out; subst eo15))
        go_loopg [23] kj2 (fun kq v23 w' => ∃ (x23_2 : Int), v23 = .int .i64 x23_2 ∧ Aside0 (decanterlaw21_FitIn.l0 kq l0 y175 (y175.length : Int) x23_2 = some r) ∧ Aside0 (kq ≤ kj2) ∧ Aside0 (Kd.R Kd.string 9 w' w.heap.size (fun _ => True) (.slice Ao15 y175.length co15) y175) ∧ Aside0 (Below w.heap.size w w'))
        case atStart => exact ⟨(0), (by first | rfl | (simp; done) | (simp [*]; done)), H', ⟨Nat.le_refl _⟩, ⟨by (with_reducible repeat (first | apply Kd.R_alloc | apply Kd.R_drewN | apply Kd.R_drew)); exact HO177.out⟩, ⟨by repeat (first | (with_reducible first | exact HB.out | apply below_alloc | apply pw_below_drewN | apply below_drew1) | exact HB.out)⟩⟩
        case round =>
          clear H'
          try clear c1
          try clear p2
          try clear c4
          try clear c5
          try clear c6
          try clear c6b0
          try clear c6b1
          try clear c10
          try clear p2
          obtain ⟨x23_2, rfl, HA, HK2, HO_21, HB⟩ := hrel
          cases gk with
          | zero => exact absurd HA.out (by simp [decanterlaw21_FitIn.l0])
          | succ k2 =>
            have H := HA.out
            clear HA
            simp only [decanterlaw21_FitIn.l0] at H
            by_cases c16 : x23_2 < (y175.length : Int)
            · rw [if_pos c16] at H
              have c16b0 : decide (x23_2 < (y175.length : Int)) = true := decide_eq_true c16
              clear c16
              by_cases c17 : 0 ≤ x23_2
              · rw [if_pos c17] at H
                have c17b0 : decide (0 ≤ x23_2) = true := decide_eq_true c17
                clear c17
                by_cases c18 : x23_2 < (y175.length : Int)
                · rw [if_pos c18] at H
                  have c18b0 : decide (x23_2 < (y175.length : Int)) = true := decide_eq_true c18
                  clear c18
                  replace H := Option.bind_eq_some_iff.mp H
                  obtain ⟨t179, A190, H⟩ := H
                  replace H : ((decanterref21_In.f k2 l0 (rdOf ByteArray.empty y175 x23_2)).bind fun t180 => (if (t179 != t180) = true then (some false) else (decanterlaw21_FitIn.l0 k2 l0 y175 (y175.length : Int) (wrap64 (x23_2 + 1))))) = some r := H
                  have A19 := Aside0.mk A190
                  clear A190
                  replace H := Option.bind_eq_some_iff.mp H
                  obtain ⟨t180, A200, H⟩ := H
                  replace H : (if (t179 != t180) = true then (some false) else (decanterlaw21_FitIn.l0 k2 l0 y175 (y175.length : Int) (wrap64 (x23_2 + 1)))) = some r := H
                  have A20 := Aside0.mk A200
                  clear A200
                  by_cases c21 : (t179 != t180) = true
                  · rw [if_pos c21] at H
                    have c21b0 : (t179 != t180) = true := c21
                    (try (have c21b1 : decide (t179 = t180) = false := by simpa using c21))
                    (try (have c21b2 : (t179 == t180) = false := by simpa using c21))
                    (try (have c21b3 : ¬ (t179 = t180) := by simpa using c21))
                    clear c21
                    obtain rfl := Option.some.inj H
                    have p178 : 0 ≤ (x23_2 : Int) := of_decide_eq_true (by first | (with_reducible assumption) | assumption)
                    have q178 : x23_2 < (y175.length : Int) := of_decide_eq_true (by first | (with_reducible assumption) | assumption)
                    obtain ⟨ad178, e178, hx178_0⟩ := Kd.at_string (Kd.R_reads' HO_21.out).2.2 x23_2 p178 q178
                    cases e178
                    replace p178 := eq_true p178
                    replace q178 := eq_true q178
                    go_wp2_with (first | ((with_reducible refine gate_callee (f := 18) rfl ?_); refine goesL_ (some 29) rfl rfl Tryd.func18 (by kernel_rfl) rfl #[.slice A0 l0.length c0, .string (rdOf ByteArray.empty y175 x23_2)] rfl (by (try simp only [List.map_toArray, List.map_cons, List.map_nil]); first | done | rfl | (simp only [List.length_drop, List.length_take]; rfl)) ?_; (with_reducible refine (fit_In.calls k2 _ _ l0 (rdOf ByteArray.empty y175 x23_2) t179 _ ?side1 ?side2 ?side3 A19.out).mono ?_); (case side1 => repeat (first | exact (Kd.C_below HR0.out HB.out) | (with_reducible refine Kd.C_alloc ?_ _) | (with_reducible refine Kd.C_drewN ?_ _) | (with_reducible refine Kd.C_drew ?_))); (case side2 => exact HC0.out); (case side3 => exact GW.below HG.out (by repeat (first | (with_reducible first | exact HB.out | apply below_alloc | apply pw_below_drewN | apply below_drew1) | exact HB.out))); rintro e w22 ⟨rfl, hb⟩; refine ⟨_, rfl, ?_⟩; have n0_ := Aside0.mk (Kd.R_below (by (with_reducible repeat (first | apply Kd.R_alloc | apply Kd.R_drewN | apply Kd.R_drew)); exact HO_21.out) hb); have n1_ := Aside0.mk (below_step (by repeat (first | (with_reducible first | exact HB.out | apply below_alloc | apply pw_below_drewN | apply below_drew1) | exact HB.out)) hb); clear HO_21; clear HB; have HO_21 := n0_; have HB := n1_; clear n0_ n1_; (try clear hb); (try clear hb2); (try clear hk); (try clear hi)) | ((with_reducible refine gate_callee (f := 19) rfl ?_); refine goesL_ (some 32) rfl rfl Tryd.func19 (by kernel_rfl) rfl #[.slice A0 l0.length c0, .string (rdOf ByteArray.empty y175 x23_2)] rfl (by (try simp only [List.map_toArray, List.map_cons, List.map_nil]); first | done | rfl | (simp only [List.length_drop, List.length_take]; rfl)) ?_; (with_reducible refine (decanterref21_In.calls k2 _ _ l0 (rdOf ByteArray.empty y175 x23_2) t180 _ ?side1 ?side2 A20.out).mono ?_); (case side1 => repeat (first | exact (Kd.C_below HR0.out HB.out) | (with_reducible refine Kd.C_alloc ?_ _) | (with_reducible refine Kd.C_drewN ?_ _) | (with_reducible refine Kd.C_drew ?_))); (case side2 => exact HC0.out); rintro e w23 ⟨rfl, hb⟩; refine ⟨_, rfl, ?_⟩; have n0_ := Aside0.mk (Kd.R_below (by (with_reducible repeat (first | apply Kd.R_alloc | apply Kd.R_drewN | apply Kd.R_drew)); exact HO_21.out) hb); have n1_ := Aside0.mk (below_step (by repeat (first | (with_reducible first | exact HB.out | apply below_alloc | apply pw_below_drewN | apply below_drew1) | exact HB.out)) hb); clear HO_21; clear HB; have HO_21 := n0_; have HB := n1_; clear n0_ n1_; (try clear hb); (try clear hb2); (try clear hk); (try clear hi)))
                    go_ret
                    exact ⟨by first | rfl | (simp [errW_none, errW_some] <;> rfl) | (simp [*, errW_none, errW_some] <;> rfl), by repeat (first | (with_reducible first | exact HB.out | apply below_alloc | apply pw_below_drewN | apply below_drew1) | exact HB.out)⟩
                  · rw [if_neg c21] at H
                    have c21b0 : (t179 != t180) = false := by simpa using c21
                    (try (have c21b1 : decide (t179 = t180) = true := by simpa using c21))
                    (try (have c21b2 : (t179 == t180) = true := by simpa using c21))
                    clear c21
                    have H' := Aside0.mk H
                    clear H
                    have p178 : 0 ≤ (x23_2 : Int) := of_decide_eq_true (by first | (with_reducible assumption) | assumption)
                    have q178 : x23_2 < (y175.length : Int) := of_decide_eq_true (by first | (with_reducible assumption) | assumption)
                    obtain ⟨ad178, e178, hx178_0⟩ := Kd.at_string (Kd.R_reads' HO_21.out).2.2 x23_2 p178 q178
                    cases e178
                    replace p178 := eq_true p178
                    replace q178 := eq_true q178
                    go_wp2_with (first | ((with_reducible refine gate_callee (f := 18) rfl ?_); refine goesL_ (some 29) rfl rfl Tryd.func18 (by kernel_rfl) rfl #[.slice A0 l0.length c0, .string (rdOf ByteArray.empty y175 x23_2)] rfl (by (try simp only [List.map_toArray, List.map_cons, List.map_nil]); first | done | rfl | (simp only [List.length_drop, List.length_take]; rfl)) ?_; (with_reducible refine (fit_In.calls k2 _ _ l0 (rdOf ByteArray.empty y175 x23_2) t179 _ ?side1 ?side2 ?side3 A19.out).mono ?_); (case side1 => repeat (first | exact (Kd.C_below HR0.out HB.out) | (with_reducible refine Kd.C_alloc ?_ _) | (with_reducible refine Kd.C_drewN ?_ _) | (with_reducible refine Kd.C_drew ?_))); (case side2 => exact HC0.out); (case side3 => exact GW.below HG.out (by repeat (first | (with_reducible first | exact HB.out | apply below_alloc | apply pw_below_drewN | apply below_drew1) | exact HB.out))); rintro e w24 ⟨rfl, hb⟩; refine ⟨_, rfl, ?_⟩; have n0_ := Aside0.mk (Kd.R_below (by (with_reducible repeat (first | apply Kd.R_alloc | apply Kd.R_drewN | apply Kd.R_drew)); exact HO_21.out) hb); have n1_ := Aside0.mk (below_step (by repeat (first | (with_reducible first | exact HB.out | apply below_alloc | apply pw_below_drewN | apply below_drew1) | exact HB.out)) hb); clear HO_21; clear HB; have HO_21 := n0_; have HB := n1_; clear n0_ n1_; (try clear hb); (try clear hb2); (try clear hk); (try clear hi)) | ((with_reducible refine gate_callee (f := 19) rfl ?_); refine goesL_ (some 32) rfl rfl Tryd.func19 (by kernel_rfl) rfl #[.slice A0 l0.length c0, .string (rdOf ByteArray.empty y175 x23_2)] rfl (by (try simp only [List.map_toArray, List.map_cons, List.map_nil]); first | done | rfl | (simp only [List.length_drop, List.length_take]; rfl)) ?_; (with_reducible refine (decanterref21_In.calls k2 _ _ l0 (rdOf ByteArray.empty y175 x23_2) t180 _ ?side1 ?side2 A20.out).mono ?_); (case side1 => repeat (first | exact (Kd.C_below HR0.out HB.out) | (with_reducible refine Kd.C_alloc ?_ _) | (with_reducible refine Kd.C_drewN ?_ _) | (with_reducible refine Kd.C_drew ?_))); (case side2 => exact HC0.out); rintro e w25 ⟨rfl, hb⟩; refine ⟨_, rfl, ?_⟩; have n0_ := Aside0.mk (Kd.R_below (by (with_reducible repeat (first | apply Kd.R_alloc | apply Kd.R_drewN | apply Kd.R_drew)); exact HO_21.out) hb); have n1_ := Aside0.mk (below_step (by repeat (first | (with_reducible first | exact HB.out | apply below_alloc | apply pw_below_drewN | apply below_drew1) | exact HB.out)) hb); clear HO_21; clear HB; have HO_21 := n0_; have HB := n1_; clear n0_ n1_; (try clear hb); (try clear hb2); (try clear hk); (try clear hi)))
                    go_roundg k2
                    case measure => have := HJ2.out; have := HK2.out; omega
                    case rel => exact ⟨(wrap64 (x23_2 + 1)), (by first | rfl | (simp; done) | (simp [*]; done)), H', ⟨by have := HJ2.out; have := HK2.out; omega⟩, ⟨by (with_reducible repeat (first | apply Kd.R_alloc | apply Kd.R_drewN | apply Kd.R_drew)); exact HO_21.out⟩, ⟨by repeat (first | (with_reducible first | exact HB.out | apply below_alloc | apply pw_below_drewN | apply below_drew1) | exact HB.out)⟩⟩
                · rw [if_neg c18] at H
                  exact absurd H (by simp)
              · rw [if_neg c17] at H
                exact absurd H (by simp)
            · rw [if_neg c16] at H
              have c16b0 : decide (x23_2 < (y175.length : Int)) = false := decide_eq_false c16
              clear c16
              obtain rfl := Option.some.inj H
              go_wp2
              go_ret
              exact ⟨by first | rfl | (simp [errW_none, errW_some] <;> rfl) | (simp [*, errW_none, errW_some] <;> rfl), by repeat (first | (with_reducible first | exact HB.out | apply below_alloc | apply pw_below_drewN | apply below_drew1) | exact HB.out)⟩

end Go.Proofs.YteahlapoeiikoaaDoor.P
