
import Derived.Test.YteahlapoeiikoaaDoorJoin11
import Derived.Test.YteahlapoeiikoaaDoorJoin19
import Derived.Test.YteahlapoeiikoaaDoorJoin13
import Derived.Test.YteahlapoeiikoaaDoorJoin21
import Derived.Test.YteahlapoeiikoaaDoorJoin12
import Derived.Test.YteahlapoeiikoaaDoorJoin22
-- Printed by a program of this session (wip/myprint.py over the kit's print).
namespace Go.Proofs.YteahlapoeiikoaaDoor.P
open Go.RowKit Go.Proofs.YteahlapoeiikoaaDoorW.PrintWords Go.Proofs.YteahlapoeiikoaaDoorW.PrintLast Go.Proofs.YteahlapoeiikoaaDoorW.PrintMore
attribute [local go_sem] max2_int min2_int max_two min_two max_three min_three max_four min_four   -- for this text's walks alone
set_option linter.unusedVariables false
set_option linter.unusedSimpArgs false

/-! ### decanterlaw21_FitFronts: function 8 -/
mutual
def decanterlaw21_FitFronts.j0 : Nat → List (S82) → Int → Bool → Option (Bool)
  | 0, _, _, _ => none
  | k + 1, x0, x1, x20 => if x20 = true then ((decanterlaw21_speaks.f k).bind fun t300 => (some t300)) else ((decanterlaw12_Of.f k x0).bind fun t301 => (if (wrap64 ((t301.length : Int) + 1)) = 0 then (none) else (if 0 ≤ (Int.tmod (wrap64 (x1)) (wrap64 ((t301.length : Int) + 1))) then (if (Int.tmod (wrap64 (x1)) (wrap64 ((t301.length : Int) + 1))) ≤ (t301.length : Int) then ((fit_Sound.f k (t301.take ((Int.tmod (wrap64 (x1)) (wrap64 ((t301.length : Int) + 1))) : Int).toNat)).bind fun t308 => (if t308 = true then ((fit_Sound.f k (t301.drop ((Int.tmod (wrap64 (x1)) (wrap64 ((t301.length : Int) + 1))) : Int).toNat)).bind fun t313 => (decanterlaw21_FitFronts.j1 k t301 (!t313))) else (decanterlaw21_FitFronts.j1 k t301 true))) else (none)) else (none))))
def decanterlaw21_FitFronts.j1 : Nat → List (S52) → Bool → Option (Bool)
  | 0, _, _ => none
  | k + 1, x5, x41 => if x41 = true then (some false) else (decanterlaw21_FitFronts.l0 k x5 x5 (x5.length : Int) 0)
def decanterlaw21_FitFronts.l0 : Nat → List (S52) → List (S52) → Int → Int → Option (Bool)
  | 0, _, _, _, _ => none
  | k + 1, x5, x42, x43, x44 => if x44 < x43 then (if 0 ≤ x44 then (if x44 < (x42.length : Int) then (if ((rd_T52 x42 x44).f0).toList = ([] : List UInt8) then (decanterlaw21_FitFronts.l0 k x5 x42 x43 (wrap64 (x44 + 1))) else (if x44 ≤ (wrap64 (x44 + 1)) then (if (wrap64 (x44 + 1)) ≤ (x5.length : Int) then ((fit_Sound.f k ((x5.take ((wrap64 (x44 + 1)) : Int).toNat).drop (x44 : Int).toNat)).bind fun t320 => (if t320 = true then ((fit_Sound.f k ((rd_T52 x42 x44).f3)).bind fun t321 => (if t321 = true then (decanterlaw21_FitFronts.l0 k x5 x42 x43 (wrap64 (x44 + 1))) else (some false))) else (some false))) else (none)) else (none))) else (none)) else (none)) else (some true)
end
def decanterlaw21_FitFronts.f (k : Nat) (l0 : List (S82)) (a1 : Int) : Option (Bool) := (decanterlaw21_speaks.f k).bind fun t297 => (if t297 = true then ((decanterlaw21_few.f k l0).bind fun t298 => (if t298 = true then ((decanterref21_Sound.f k l0 ([] : List ByteArray)).bind fun t299 => (decanterlaw21_FitFronts.j0 k l0 a1 (!t299))) else (decanterlaw21_FitFronts.j0 k l0 a1 true))) else (decanterlaw21_FitFronts.j0 k l0 a1 true))
set_option maxHeartbeats 8000000 in
set_option maxRecDepth 100000 in
theorem decanterlaw21_FitFronts.calls (k : Nat) (A0 : Option Addr) (c0 : Nat) (l0 : List (S82)) (a1 : Int) (r : Bool) (w : World) (hr0 : Kd.C k82 w A0 l0.length l0) (hc0 : l0.length ≤ c0) (hG : GW w) (h : decanterlaw21_FitFronts.f k l0 a1 = some r) :
    Calls Tryd.prog 8 #[.slice A0 l0.length c0, .int .u8 a1] w fun e w' => e = .returned (.bool r) ∧ Below w.heap.size w w' := by
  have hu52 := Tryd.underlying52
  have HR0 := Aside0.mk hr0
  have HC0 := Aside0.mk hc0
  clear hr0 hc0
  have HG := Aside0.mk hG
  clear hG
  have HB := Aside0.mk (Below.refl w.heap.size w)
  have H : ((decanterlaw21_speaks.f k).bind fun t297 => (if t297 = true then ((decanterlaw21_few.f k l0).bind fun t298 => (if t298 = true then ((decanterref21_Sound.f k l0 ([] : List ByteArray)).bind fun t299 => (decanterlaw21_FitFronts.j0 k l0 a1 (!t299))) else (decanterlaw21_FitFronts.j0 k l0 a1 true))) else (decanterlaw21_FitFronts.j0 k l0 a1 true))) = some r := h
  clear h
  have HC3 := Aside0.mk H
  clear H
  go_enter Tryd.func8, Tryd.ntmps8
  go_upto_region 1 with (fail)
  go_cut [20] (fun v20 wc => ∃ (kq : Nat) (x20_2 : Bool), v20 = .bool x20_2 ∧ Aside0 (decanterlaw21_FitFronts.j0 kq l0 a1 x20_2 = some r) ∧ Aside0 (kq ≤ k) ∧ Aside0 (Below w.heap.size w wc))
  case first =>
    have H := HC3.out
    clear HC3
    replace H := Option.bind_eq_some_iff.mp H
    obtain ⟨t297, A40, H⟩ := H
    replace H : (if t297 = true then ((decanterlaw21_few.f k l0).bind fun t298 => (if t298 = true then ((decanterref21_Sound.f k l0 ([] : List ByteArray)).bind fun t299 => (decanterlaw21_FitFronts.j0 k l0 a1 (!t299))) else (decanterlaw21_FitFronts.j0 k l0 a1 true))) else (decanterlaw21_FitFronts.j0 k l0 a1 true)) = some r := H
    have A4 := Aside0.mk A40
    clear A40
    by_cases c5 : t297 = true
    · subst c5
      have H1 : ((decanterlaw21_few.f k l0).bind fun t298 => (if t298 = true then ((decanterref21_Sound.f k l0 ([] : List ByteArray)).bind fun t299 => (decanterlaw21_FitFronts.j0 k l0 a1 (!t299))) else (decanterlaw21_FitFronts.j0 k l0 a1 true))) = some r := by rw [if_pos rfl] at H; exact H
      clear H
      have H := H1
      clear H1
      replace H := Option.bind_eq_some_iff.mp H
      obtain ⟨t298, A60, H⟩ := H
      replace H : (if t298 = true then ((decanterref21_Sound.f k l0 ([] : List ByteArray)).bind fun t299 => (decanterlaw21_FitFronts.j0 k l0 a1 (!t299))) else (decanterlaw21_FitFronts.j0 k l0 a1 true)) = some r := H
      have A6 := Aside0.mk A60
      clear A60
      by_cases c7 : t298 = true
      · subst c7
        have H1 : ((decanterref21_Sound.f k l0 ([] : List ByteArray)).bind fun t299 => (decanterlaw21_FitFronts.j0 k l0 a1 (!t299))) = some r := by rw [if_pos rfl] at H; exact H
        clear H
        have H := H1
        clear H1
        replace H := Option.bind_eq_some_iff.mp H
        obtain ⟨t299, A80, H⟩ := H
        replace H : (decanterlaw21_FitFronts.j0 k l0 a1 (!t299)) = some r := H
        have A8 := Aside0.mk A80
        clear A80
        have H' := Aside0.mk H
        clear H
        go_wp2_with (first | ((with_reducible refine gate_callee (f := 17) rfl ?_); refine goesL_ (some 9) rfl rfl Tryd.func17 (by kernel_rfl) rfl #[] rfl (by (try simp only [List.map_toArray, List.map_cons, List.map_nil]); first | done | rfl | (simp only [List.length_drop, List.length_take]; rfl)) ?_; (with_reducible refine (decanterlaw21_speaks.calls k  true _ ?side1 A4.out).mono ?_); (case side1 => exact GW.below HG.out (by repeat (first | (with_reducible first | exact HB.out | apply below_alloc | apply pw_below_drewN | apply below_drew1) | exact HB.out))); rintro e w9 ⟨rfl, hb⟩; refine ⟨_, rfl, ?_⟩; have n0_ := Aside0.mk (below_step (by repeat (first | (with_reducible first | exact HB.out | apply below_alloc | apply pw_below_drewN | apply below_drew1) | exact HB.out)) hb); clear HB; have HB := n0_; clear n0_; (try clear hb); (try clear hb2); (try clear hk); (try clear hi)) | (go_at_call 29; (with_reducible refine (decanterlaw21_few.calls k _ _ l0 true _ ?side1 ?side2 A6.out).mono ?_); (case side1 => repeat (first | exact (Kd.C_below HR0.out HB.out) | (with_reducible refine Kd.C_alloc ?_ _) | (with_reducible refine Kd.C_drewN ?_ _) | (with_reducible refine Kd.C_drew ?_))); (case side2 => exact HC0.out); rintro e w' ⟨rfl, ⟨nd, rfl⟩⟩) | (go_at_call 32; (refine (decanterref21_Sound.calls k _ _ l0 _ _ ([] : List ByteArray) t299 _ ?side1 ?side2 ?side3 ?side4 A8.out).mono ?_); (case side1 => repeat (first | exact (Kd.C_below HR0.out (by repeat (first | (with_reducible first | exact HB.out | apply below_alloc | apply pw_below_drewN | apply below_drew1) | exact HB.out))) | (with_reducible refine Kd.C_alloc ?_ _) | (with_reducible refine Kd.C_drewN ?_ _) | (with_reducible refine Kd.C_drew ?_))); (case side2 => exact HC0.out); (case side3 => exact Kd.C_nil _ _); (case side4 => exact Nat.le_refl _); rintro e w10 ⟨rfl, hb⟩; have n0_ := Aside0.mk (below_step (by repeat (first | (with_reducible first | exact HB.out | apply below_alloc | apply pw_below_drewN | apply below_drew1) | exact HB.out)) hb); clear HB; have HB := n0_; clear n0_; (try clear hb); (try clear hb2); (try clear hk); (try clear hi)))
        go_meet
        case rel => exact ⟨_, (!t299), (by first | rfl | (simp; done) | (simp [*]; done)), H', ⟨by first | omega | exact Nat.le_refl _⟩, ⟨by repeat (first | (with_reducible first | exact HB.out | apply below_alloc | apply pw_below_drewN | apply below_drew1) | exact HB.out)⟩⟩
      · replace c7 := Bool.eq_false_iff.mpr c7
        subst c7
        have H1 : (decanterlaw21_FitFronts.j0 k l0 a1 true) = some r := by rw [if_neg (show ¬ (false = true) by decide)] at H; exact H
        clear H
        have H := H1
        clear H1
        have H' := Aside0.mk H
        clear H
        go_wp2_with (first | ((with_reducible refine gate_callee (f := 17) rfl ?_); refine goesL_ (some 9) rfl rfl Tryd.func17 (by kernel_rfl) rfl #[] rfl (by (try simp only [List.map_toArray, List.map_cons, List.map_nil]); first | done | rfl | (simp only [List.length_drop, List.length_take]; rfl)) ?_; (with_reducible refine (decanterlaw21_speaks.calls k  true _ ?side1 A4.out).mono ?_); (case side1 => exact GW.below HG.out (by repeat (first | (with_reducible first | exact HB.out | apply below_alloc | apply pw_below_drewN | apply below_drew1) | exact HB.out))); rintro e w11 ⟨rfl, hb⟩; refine ⟨_, rfl, ?_⟩; have n0_ := Aside0.mk (below_step (by repeat (first | (with_reducible first | exact HB.out | apply below_alloc | apply pw_below_drewN | apply below_drew1) | exact HB.out)) hb); clear HB; have HB := n0_; clear n0_; (try clear hb); (try clear hb2); (try clear hk); (try clear hi)) | (go_at_call 29; (with_reducible refine (decanterlaw21_few.calls k _ _ l0 false _ ?side1 ?side2 A6.out).mono ?_); (case side1 => repeat (first | exact (Kd.C_below HR0.out HB.out) | (with_reducible refine Kd.C_alloc ?_ _) | (with_reducible refine Kd.C_drewN ?_ _) | (with_reducible refine Kd.C_drew ?_))); (case side2 => exact HC0.out); rintro e w' ⟨rfl, ⟨nd, rfl⟩⟩))
        go_meet
        case rel => exact ⟨_, (true), (by first | rfl | (simp; done) | (simp [*]; done)), H', ⟨by first | omega | exact Nat.le_refl _⟩, ⟨by repeat (first | (with_reducible first | exact HB.out | apply below_alloc | apply pw_below_drewN | apply below_drew1) | exact HB.out)⟩⟩
    · replace c5 := Bool.eq_false_iff.mpr c5
      subst c5
      have H1 : (decanterlaw21_FitFronts.j0 k l0 a1 true) = some r := by rw [if_neg (show ¬ (false = true) by decide)] at H; exact H
      clear H
      have H := H1
      clear H1
      have H' := Aside0.mk H
      clear H
      go_wp2_with (first | ((with_reducible refine gate_callee (f := 17) rfl ?_); refine goesL_ (some 9) rfl rfl Tryd.func17 (by kernel_rfl) rfl #[] rfl (by (try simp only [List.map_toArray, List.map_cons, List.map_nil]); first | done | rfl | (simp only [List.length_drop, List.length_take]; rfl)) ?_; (with_reducible refine (decanterlaw21_speaks.calls k  false _ ?side1 A4.out).mono ?_); (case side1 => exact GW.below HG.out (by repeat (first | (with_reducible first | exact HB.out | apply below_alloc | apply pw_below_drewN | apply below_drew1) | exact HB.out))); rintro e w12 ⟨rfl, hb⟩; refine ⟨_, rfl, ?_⟩; have n0_ := Aside0.mk (below_step (by repeat (first | (with_reducible first | exact HB.out | apply below_alloc | apply pw_below_drewN | apply below_drew1) | exact HB.out)) hb); clear HB; have HB := n0_; clear n0_; (try clear hb); (try clear hb2); (try clear hk); (try clear hi)))
      go_meet
      case rel => exact ⟨_, (true), (by first | rfl | (simp; done) | (simp [*]; done)), H', ⟨by first | omega | exact Nat.le_refl _⟩, ⟨by repeat (first | (with_reducible first | exact HB.out | apply below_alloc | apply pw_below_drewN | apply below_drew1) | exact HB.out)⟩⟩
  case rest =>
    clear HC3
    try clear c1
    try clear p2
    try clear c5
    try clear c7
    try clear c8
    obtain ⟨kq, x20_2, rfl, HA, HJ2, HB⟩ := hcut
    cases kq with
    | zero => exact absurd HA.out (by simp [decanterlaw21_FitFronts.j0])
    | succ kj2 =>
      have H := HA.out
      clear HA
      simp only [decanterlaw21_FitFronts.j0] at H
      by_cases c13 : x20_2 = true
      · subst c13
        have H1 : ((decanterlaw21_speaks.f kj2).bind fun t300 => (some t300)) = some r := by rw [if_pos rfl] at H; exact H
        clear H
        have H := H1
        clear H1
        replace H := Option.bind_eq_some_iff.mp H
        obtain ⟨t300, A140, H⟩ := H
        replace H : (some t300) = some r := H
        have A14 := Aside0.mk A140
        clear A140
        obtain rfl := Option.some.inj H
        go_wp2_with (first | ((with_reducible refine gate_callee (f := 17) rfl ?_); refine goesL_ (some 21) rfl rfl Tryd.func17 (by kernel_rfl) rfl #[] rfl (by (try simp only [List.map_toArray, List.map_cons, List.map_nil]); first | done | rfl | (simp only [List.length_drop, List.length_take]; rfl)) ?_; (with_reducible refine (decanterlaw21_speaks.calls kj2  t300 _ ?side1 A14.out).mono ?_); (case side1 => exact GW.below HG.out (by repeat (first | (with_reducible first | exact HB.out | apply below_alloc | apply pw_below_drewN | apply below_drew1) | exact HB.out))); rintro e w15 ⟨rfl, hb⟩; refine ⟨_, rfl, ?_⟩; have n0_ := Aside0.mk (below_step (by repeat (first | (with_reducible first | exact HB.out | apply below_alloc | apply pw_below_drewN | apply below_drew1) | exact HB.out)) hb); clear HB; have HB := n0_; clear n0_; (try clear hb); (try clear hb2); (try clear hk); (try clear hi)))
        go_ret
        exact ⟨by first | rfl | (simp [errW_none, errW_some] <;> rfl) | (simp [*, errW_none, errW_some] <;> rfl), by repeat (first | (with_reducible first | exact HB.out | apply below_alloc | apply pw_below_drewN | apply below_drew1) | exact HB.out)⟩
      · replace c13 := Bool.eq_false_iff.mpr c13
        subst c13
        have H1 : ((decanterlaw12_Of.f kj2 l0).bind fun t301 => (if (wrap64 ((t301.length : Int) + 1)) = 0 then (none) else (if 0 ≤ (Int.tmod (wrap64 (a1)) (wrap64 ((t301.length : Int) + 1))) then (if (Int.tmod (wrap64 (a1)) (wrap64 ((t301.length : Int) + 1))) ≤ (t301.length : Int) then ((fit_Sound.f kj2 (t301.take ((Int.tmod (wrap64 (a1)) (wrap64 ((t301.length : Int) + 1))) : Int).toNat)).bind fun t308 => (if t308 = true then ((fit_Sound.f kj2 (t301.drop ((Int.tmod (wrap64 (a1)) (wrap64 ((t301.length : Int) + 1))) : Int).toNat)).bind fun t313 => (decanterlaw21_FitFronts.j1 kj2 t301 (!t313))) else (decanterlaw21_FitFronts.j1 kj2 t301 true))) else (none)) else (none)))) = some r := by rw [if_neg (show ¬ (false = true) by decide)] at H; exact H
        clear H
        have H := H1
        clear H1
        replace H := Option.bind_eq_some_iff.mp H
        obtain ⟨t301, A160, H⟩ := H
        replace H : (if (wrap64 ((t301.length : Int) + 1)) = 0 then (none) else (if 0 ≤ (Int.tmod (wrap64 (a1)) (wrap64 ((t301.length : Int) + 1))) then (if (Int.tmod (wrap64 (a1)) (wrap64 ((t301.length : Int) + 1))) ≤ (t301.length : Int) then ((fit_Sound.f kj2 (t301.take ((Int.tmod (wrap64 (a1)) (wrap64 ((t301.length : Int) + 1))) : Int).toNat)).bind fun t308 => (if t308 = true then ((fit_Sound.f kj2 (t301.drop ((Int.tmod (wrap64 (a1)) (wrap64 ((t301.length : Int) + 1))) : Int).toNat)).bind fun t313 => (decanterlaw21_FitFronts.j1 kj2 t301 (!t313))) else (decanterlaw21_FitFronts.j1 kj2 t301 true))) else (none)) else (none))) = some r := H
        have A16 := Aside0.mk A160
        clear A160
        by_cases c17 : (wrap64 ((t301.length : Int) + 1)) = 0
        · rw [if_pos c17] at H
          exact absurd H (by simp)
        · rw [if_neg c17] at H
          have c17b0 : ((wrap64 ((t301.length : Int) + 1)) == 0) = false := beq_eq_false_iff_ne.mpr c17
          have c17b1 : ((wrap64 ((t301.length : Int) + 1)) != 0) = true := bne_iff_ne.mpr c17
          have HC18 := Aside0.mk H
          clear H
          go_upto_region 5 with (first | ((with_reducible refine gate_callee (f := 31) rfl ?_); refine goesL_ (some 23) rfl rfl Tryd.func31 (by kernel_rfl) rfl #[.slice A0 l0.length c0] rfl (by (try simp only [List.map_toArray, List.map_cons, List.map_nil]); first | done | rfl | (simp only [List.length_drop, List.length_take]; rfl)) ?_; (with_reducible refine (decanterlaw12_Of.calls kj2 _ _ l0 t301 _ ?side1 ?side2 A16.out).mono ?_); (case side1 => repeat (first | exact (Kd.C_below HR0.out HB.out) | (with_reducible refine Kd.C_alloc ?_ _) | (with_reducible refine Kd.C_drewN ?_ _) | (with_reducible refine Kd.C_drew ?_))); (case side2 => exact HC0.out); rintro e w19 ⟨v302, rfl, ho0, hb⟩; refine ⟨_, rfl, ?_⟩; have n0_ := Aside0.mk (Kd.R_lower ho0 (below_size (by repeat (first | (with_reducible first | exact HB.out | apply below_alloc | apply pw_below_drewN | apply below_drew1) | exact HB.out)))); have n1_ := Aside0.mk (below_step (by repeat (first | (with_reducible first | exact HB.out | apply below_alloc | apply pw_below_drewN | apply below_drew1) | exact HB.out)) hb); clear HB; have HO303 := n0_; have HB := n1_; clear n0_ n1_; (try clear hb); (try clear hb2); (try clear hk); (try clear hi); (try clear ho0); obtain ⟨Ao20, co20, eo20⟩ := Kd.R_slice HO303.out; subst eo20))
          (try simp only [Act.put, List.setIfInBounds_toArray, List.set_cons_zero, List.set_cons_succ])
          go_cut [41] (fun v41 wc => ∃ (kq : Nat) (x41_17 : Bool), v41 = .bool x41_17 ∧ Aside0 (decanterlaw21_FitFronts.j1 kq t301 x41_17 = some r) ∧ Aside0 (kq ≤ kj2) ∧ Aside0 (Kd.R k52 52 wc w.heap.size (fun _ => True) (.slice Ao20 t301.length co20) t301) ∧ Aside0 (Below w.heap.size w wc))
          case first =>
            have H := HC18.out
            clear HC18
            obtain ⟨ji21, hji21⟩ : ∃ j_ : Int, (Int.tmod (wrap64 (a1)) (wrap64 ((t301.length : Int) + 1))) = j_ := ⟨_, rfl⟩
            replace H : (if 0 ≤ (ji21) then (if (ji21) ≤ (t301.length : Int) then ((fit_Sound.f kj2 (t301.take ((ji21) : Int).toNat)).bind fun t308 => (if t308 = true then ((fit_Sound.f kj2 (t301.drop ((ji21) : Int).toNat)).bind fun t313 => (decanterlaw21_FitFronts.j1 kj2 t301 (!t313))) else (decanterlaw21_FitFronts.j1 kj2 t301 true))) else (none)) else (none)) = some r := by first | (rw [hji21] at H; exact H) | (simp only [hji21] at H ⊢; exact H)
            by_cases c22 : 0 ≤ (ji21)
            · rw [if_pos c22] at H
              have c22b0 := eq_true c22
              have c22b1 : decide (0 ≤ (ji21)) = true := decide_eq_true c22
              clear c22
              by_cases c23 : (ji21) ≤ (t301.length : Int)
              · rw [if_pos c23] at H
                have c23b0 := eq_true c23
                have c23b1 : decide ((ji21) ≤ (t301.length : Int)) = true := decide_eq_true c23
                clear c23
                obtain ⟨y304, hy304⟩ : ∃ y_ : List (S52), y_ = (t301.take ((ji21) : Int).toNat) := ⟨_, rfl⟩
                replace H : ((fit_Sound.f kj2 y304).bind fun t308 => (if t308 = true then ((fit_Sound.f kj2 (t301.drop ((ji21) : Int).toNat)).bind fun t313 => (decanterlaw21_FitFronts.j1 kj2 t301 (!t313))) else (decanterlaw21_FitFronts.j1 kj2 t301 true))) = some r := by first | (rw [hy304]; with_reducible exact H) | (have H2_ := (Option.bind_some _ _).symm.trans H; rw [hy304]; with_reducible exact H2_) | (have H2_ := (Option.bind_some _ _).symm.trans H; with_reducible exact H2_) | with_reducible exact H | (rw [hy304]; exact H) | exact H
                have Ny304 := Aside0.mk hy304
                clear hy304
                replace H := Option.bind_eq_some_iff.mp H
                obtain ⟨t308, A240, H⟩ := H
                replace H : (if t308 = true then ((fit_Sound.f kj2 (t301.drop ((ji21) : Int).toNat)).bind fun t313 => (decanterlaw21_FitFronts.j1 kj2 t301 (!t313))) else (decanterlaw21_FitFronts.j1 kj2 t301 true)) = some r := H
                have A24 := Aside0.mk A240
                clear A240
                by_cases c25 : t308 = true
                · subst c25
                  have H1 : ((fit_Sound.f kj2 (t301.drop ((ji21) : Int).toNat)).bind fun t313 => (decanterlaw21_FitFronts.j1 kj2 t301 (!t313))) = some r := by rw [if_pos rfl] at H; exact H
                  clear H
                  have H := H1
                  clear H1
                  have c26b0 := eq_true (of_decide_eq_true (by first | (with_reducible assumption) | assumption) : 0 ≤ (ji21))
                  have c27b0 := eq_true (of_decide_eq_true (by first | (with_reducible assumption) | assumption) : (ji21) ≤ (t301.length : Int))
                  obtain ⟨y309, hy309⟩ : ∃ y_ : List (S52), y_ = (t301.drop ((ji21) : Int).toNat) := ⟨_, rfl⟩
                  replace H : ((fit_Sound.f kj2 y309).bind fun t313 => (decanterlaw21_FitFronts.j1 kj2 t301 (!t313))) = some r := by first | (rw [hy309]; with_reducible exact H) | (have H2_ := (Option.bind_some _ _).symm.trans H; rw [hy309]; with_reducible exact H2_) | (have H2_ := (Option.bind_some _ _).symm.trans H; with_reducible exact H2_) | with_reducible exact H | (rw [hy309]; exact H) | exact H
                  have Ny309 := Aside0.mk hy309
                  clear hy309
                  replace H := Option.bind_eq_some_iff.mp H
                  obtain ⟨t313, A280, H⟩ := H
                  replace H : (decanterlaw21_FitFronts.j1 kj2 t301 (!t313)) = some r := H
                  have A28 := Aside0.mk A280
                  clear A280
                  have H' := Aside0.mk H
                  clear H
                  have q29 : ((ji21) : Int) ≤ ((t301.length : Int) : Int) := of_decide_eq_true (by first | (with_reducible assumption) | assumption)
                  obtain ⟨i029, hi029, _, hsz29, _⟩ := info_parts info52
                  have hroom29 : t301.length ≤ co20 := (Kd.R_reads' HO303.out).2.1
                  have hC29 : Kd.C k52 _ Ao20 t301.length t301 := (Kd.R_reads' HO303.out).2.2
                  have hcut29 := cut_to (P := Tryd.prog) 47 52 .i64 Tryd.underlying47 hi029 Ao20 t301.length co20 (ji21) (of_decide_eq_true (by first | (with_reducible assumption) | assumption)) q29 hroom29
                  have hr29 := Kd.C_take (m := ((ji21) : Int).toNat) hC29 (by omega)
                  have hy29 : y304.length = ((ji21) : Int).toNat := (by rw [Ny304.out, List.length_take]; omega)
                  rw [← Ny304.out] at hr29
                  rw [← hy29] at hcut29
                  have HR307 := Aside0.mk hr29
                  have HC307 := Aside0.mk (show y304.length ≤ co20 from by omega)
                  clear hr29 hC29 hroom29 hi029 hsz29
                  have KY29 := Aside0.mk hy29
                  clear hy29
                  have KL29 := Aside0.mk (show ((ji21) : Int).toNat ≤ t301.length from by omega)
                  replace q29 := eq_true q29
                  go_wp2_with (first | ((with_reducible refine gate_callee (f := 30) rfl ?_); refine goesL_ (some 33) rfl rfl Tryd.func30 (by kernel_rfl) rfl #[.slice Ao20 y304.length co20] rfl (by (try simp only [List.map_toArray, List.map_cons, List.map_nil]); first | done | rfl | (simp only [List.length_drop, List.length_take]; rfl)) ?_; (with_reducible refine (fit_Sound.calls kj2 _ _ y304 true _ ?side1 ?side2 ?side3 A24.out).mono ?_); (case side1 => repeat (first | exact (by repeat (first | (with_reducible exact HR307.out) | (with_reducible refine Kd.C_alloc ?_ _) | (with_reducible refine Kd.C_drewN ?_ _) | (with_reducible refine Kd.C_drew ?_) | exact HR307.out)) | (with_reducible refine Kd.C_alloc ?_ _) | (with_reducible refine Kd.C_drewN ?_ _) | (with_reducible refine Kd.C_drew ?_))); (case side2 => exact HC307.out); (case side3 => exact GW.below HG.out (by repeat (first | (with_reducible first | exact HB.out | apply below_alloc | apply pw_below_drewN | apply below_drew1) | exact HB.out))); rintro e w30 ⟨rfl, hb⟩; refine ⟨_, rfl, ?_⟩; have n0_ := Aside0.mk (Kd.R_below (by (with_reducible repeat (first | apply Kd.R_alloc | apply Kd.R_drewN | apply Kd.R_drew)); exact HO303.out) hb); have n1_ := Aside0.mk (Kd.C_below (by repeat (first | (with_reducible exact HR307.out) | (with_reducible refine Kd.C_alloc ?_ _) | (with_reducible refine Kd.C_drewN ?_ _) | (with_reducible refine Kd.C_drew ?_) | exact HR307.out)) hb); have n2_ := Aside0.mk (below_step (by repeat (first | (with_reducible first | exact HB.out | apply below_alloc | apply pw_below_drewN | apply below_drew1) | exact HB.out)) hb); clear HO303; clear HR307; clear HB; have HO303 := n0_; have HR307 := n1_; have HB := n2_; clear n0_ n1_ n2_; (try clear hb); (try clear hb2); (try clear hk); (try clear hi); have q31 : ((ji21) : Int) ≤ ((t301.length : Int) : Int) := of_decide_eq_true (by first | (with_reducible assumption) | assumption); obtain ⟨i031, hi031, _, hsz31, _⟩ := info_parts info52; have hroom31 : t301.length ≤ co20 := (Kd.R_reads' HO303.out).2.1; have hC31 : Kd.C k52 _ Ao20 t301.length t301 := (Kd.R_reads' HO303.out).2.2; have q031 : (0 : Int) ≤ ((ji21) : Int) := of_decide_eq_true (by first | (with_reducible assumption) | assumption); have hcut31 := cut_from (P := Tryd.prog) 47 52 .i64 Tryd.underlying47 hi031 4 hsz31 Ao20 t301.length co20 (ji21) q031 q31; have hr31 := Kd.C_drop (m := ((ji21) : Int).toNat) (c := co20) hC31 (by omega) hroom31; obtain ⟨A31, hA31⟩ : ∃ A1, A1 = (if co20 = ((ji21) : Int).toNat then Ao20 else (Ao20 : Option Addr).map (·.add (((ji21) : Int).toNat * 4))) := ⟨_, rfl⟩; obtain ⟨c31, hc31⟩ : ∃ c1, c1 = co20 - ((ji21) : Int).toNat := ⟨_, rfl⟩; have hy31 : y309.length = t301.length - ((ji21) : Int).toNat := (by rw [Ny309.out, List.length_drop] <;> omega); rw [show (t301).drop ((ji21) : Int).toNat = y309 from Ny309.out.symm] at hr31; replace hr31 : Kd.C k52 _ A31 y309.length y309 := (by rw [hA31]; exact hr31); rw [← hy31, ← hA31, ← hc31] at hcut31; have HR312 := Aside0.mk hr31; have HC312 := Aside0.mk (show y309.length ≤ c31 from by rw [hy31, hc31]; exact Nat.sub_le_sub_right hroom31 _); clear hr31 hC31 hroom31 hi031 hsz31 hc31; have KY31 := Aside0.mk hy31; have KA31 := Aside0.mk hA31; clear hy31 hA31; have KL31 := Aside0.mk (show ((ji21) : Int).toNat ≤ t301.length from by omega); replace q31 := eq_true q31) | (go_at_call 30; (with_reducible refine (fit_Sound.calls kj2 _ _ y309 t313 _ ?side1 ?side2 ?side3 A28.out).mono ?_); (case side1 => repeat (first | exact (by repeat (first | (with_reducible exact HR312.out) | (with_reducible refine Kd.C_alloc ?_ _) | (with_reducible refine Kd.C_drewN ?_ _) | (with_reducible refine Kd.C_drew ?_) | exact HR312.out)) | (with_reducible refine Kd.C_alloc ?_ _) | (with_reducible refine Kd.C_drewN ?_ _) | (with_reducible refine Kd.C_drew ?_))); (case side2 => exact HC312.out); (case side3 => exact GW.below HG.out (by repeat (first | (with_reducible first | exact HB.out | apply below_alloc | apply pw_below_drewN | apply below_drew1) | exact HB.out))); rintro e w32 ⟨rfl, hb⟩; have n0_ := Aside0.mk (Kd.R_below (by (with_reducible repeat (first | apply Kd.R_alloc | apply Kd.R_drewN | apply Kd.R_drew)); exact HO303.out) hb); have n1_ := Aside0.mk (Kd.C_below (by repeat (first | (with_reducible exact HR307.out) | (with_reducible refine Kd.C_alloc ?_ _) | (with_reducible refine Kd.C_drewN ?_ _) | (with_reducible refine Kd.C_drew ?_) | exact HR307.out)) hb); have n2_ := Aside0.mk (Kd.C_below (by repeat (first | (with_reducible exact HR312.out) | (with_reducible refine Kd.C_alloc ?_ _) | (with_reducible refine Kd.C_drewN ?_ _) | (with_reducible refine Kd.C_drew ?_) | exact HR312.out)) hb); have n3_ := Aside0.mk (below_step (by repeat (first | (with_reducible first | exact HB.out | apply below_alloc | apply pw_below_drewN | apply below_drew1) | exact HB.out)) hb); clear HO303; clear HR307; clear HR312; clear HB; have HO303 := n0_; have HR307 := n1_; have HR312 := n2_; have HB := n3_; clear n0_ n1_ n2_ n3_; (try clear hb); (try clear hb2); (try clear hk); (try clear hi)))
                  (try subst hji21)
                  go_meet
                  case rel => exact ⟨_, (!t313), (by first | rfl | (simp; done) | (simp [*]; done)), H', ⟨by have := HJ2.out; first | omega | exact Nat.le_refl _⟩, ⟨by (with_reducible repeat (first | apply Kd.R_alloc | apply Kd.R_drewN | apply Kd.R_drew)); exact HO303.out⟩, ⟨by repeat (first | (with_reducible first | exact HB.out | apply below_alloc | apply pw_below_drewN | apply below_drew1) | exact HB.out)⟩⟩
                · replace c25 := Bool.eq_false_iff.mpr c25
                  subst c25
                  have H1 : (decanterlaw21_FitFronts.j1 kj2 t301 true) = some r := by rw [if_neg (show ¬ (false = true) by decide)] at H; exact H
                  clear H
                  have H := H1
                  clear H1
                  have H' := Aside0.mk H
                  clear H
                  have q33 : ((ji21) : Int) ≤ ((t301.length : Int) : Int) := of_decide_eq_true (by first | (with_reducible assumption) | assumption)
                  obtain ⟨i033, hi033, _, hsz33, _⟩ := info_parts info52
                  have hroom33 : t301.length ≤ co20 := (Kd.R_reads' HO303.out).2.1
                  have hC33 : Kd.C k52 _ Ao20 t301.length t301 := (Kd.R_reads' HO303.out).2.2
                  have hcut33 := cut_to (P := Tryd.prog) 47 52 .i64 Tryd.underlying47 hi033 Ao20 t301.length co20 (ji21) (of_decide_eq_true (by first | (with_reducible assumption) | assumption)) q33 hroom33
                  have hr33 := Kd.C_take (m := ((ji21) : Int).toNat) hC33 (by omega)
                  have hy33 : y304.length = ((ji21) : Int).toNat := (by rw [Ny304.out, List.length_take]; omega)
                  rw [← Ny304.out] at hr33
                  rw [← hy33] at hcut33
                  have HR307 := Aside0.mk hr33
                  have HC307 := Aside0.mk (show y304.length ≤ co20 from by omega)
                  clear hr33 hC33 hroom33 hi033 hsz33
                  have KY33 := Aside0.mk hy33
                  clear hy33
                  have KL33 := Aside0.mk (show ((ji21) : Int).toNat ≤ t301.length from by omega)
                  replace q33 := eq_true q33
                  go_wp2_with (first | ((with_reducible refine gate_callee (f := 30) rfl ?_); refine goesL_ (some 33) rfl rfl Tryd.func30 (by kernel_rfl) rfl #[.slice Ao20 y304.length co20] rfl (by (try simp only [List.map_toArray, List.map_cons, List.map_nil]); first | done | rfl | (simp only [List.length_drop, List.length_take]; rfl)) ?_; (with_reducible refine (fit_Sound.calls kj2 _ _ y304 false _ ?side1 ?side2 ?side3 A24.out).mono ?_); (case side1 => repeat (first | exact (by repeat (first | (with_reducible exact HR307.out) | (with_reducible refine Kd.C_alloc ?_ _) | (with_reducible refine Kd.C_drewN ?_ _) | (with_reducible refine Kd.C_drew ?_) | exact HR307.out)) | (with_reducible refine Kd.C_alloc ?_ _) | (with_reducible refine Kd.C_drewN ?_ _) | (with_reducible refine Kd.C_drew ?_))); (case side2 => exact HC307.out); (case side3 => exact GW.below HG.out (by repeat (first | (with_reducible first | exact HB.out | apply below_alloc | apply pw_below_drewN | apply below_drew1) | exact HB.out))); rintro e w34 ⟨rfl, hb⟩; refine ⟨_, rfl, ?_⟩; have n0_ := Aside0.mk (Kd.R_below (by (with_reducible repeat (first | apply Kd.R_alloc | apply Kd.R_drewN | apply Kd.R_drew)); exact HO303.out) hb); have n1_ := Aside0.mk (Kd.C_below (by repeat (first | (with_reducible exact HR307.out) | (with_reducible refine Kd.C_alloc ?_ _) | (with_reducible refine Kd.C_drewN ?_ _) | (with_reducible refine Kd.C_drew ?_) | exact HR307.out)) hb); have n2_ := Aside0.mk (below_step (by repeat (first | (with_reducible first | exact HB.out | apply below_alloc | apply pw_below_drewN | apply below_drew1) | exact HB.out)) hb); clear HO303; clear HR307; clear HB; have HO303 := n0_; have HR307 := n1_; have HB := n2_; clear n0_ n1_ n2_; (try clear hb); (try clear hb2); (try clear hk); (try clear hi)))
                  (try subst hji21)
                  go_meet
                  case rel => exact ⟨_, (true), (by first | rfl | (simp; done) | (simp [*]; done)), H', ⟨by have := HJ2.out; first | omega | exact Nat.le_refl _⟩, ⟨by (with_reducible repeat (first | apply Kd.R_alloc | apply Kd.R_drewN | apply Kd.R_drew)); exact HO303.out⟩, ⟨by repeat (first | (with_reducible first | exact HB.out | apply below_alloc | apply pw_below_drewN | apply below_drew1) | exact HB.out)⟩⟩
              · rw [if_neg c23] at H
                exact absurd H (by simp)
            · rw [if_neg c22] at H
              exact absurd H (by simp)
          case rest =>
            clear HC18
            try clear c1
            try clear c2
            try clear p2
            try clear q2
            try clear c3
            try clear q3
            try clear c5
            try clear p6
            try clear c7
            try clear c8
            try clear c13
            try clear c17
            try clear c17b0
            try clear c17b1
            try clear c22
            try clear c22b0
            try clear c22b1
            try clear c23
            try clear c23b0
            try clear c23b1
            try clear c25
            try clear c26
            try clear c26b0
            try clear c27
            try clear c27b0
            try clear q29
            try clear c30
            try clear c31
            try clear q31
            try clear q33
            try clear p2
            try clear q031
            try clear q29
            try clear q31
            try clear q33
            obtain ⟨kq, x41_17, rfl, HA, HJ17, HO_5, HB⟩ := hcut
            cases kq with
            | zero => exact absurd HA.out (by simp [decanterlaw21_FitFronts.j1])
            | succ kj17 =>
              have H := HA.out
              clear HA
              simp only [decanterlaw21_FitFronts.j1] at H
              by_cases c35 : x41_17 = true
              · subst c35
                have H1 : (some false) = some r := by rw [if_pos rfl] at H; exact H
                clear H
                have H := H1
                clear H1
                obtain rfl := Option.some.inj H
                go_wp2
                go_ret
                exact ⟨by first | rfl | (simp [errW_none, errW_some] <;> rfl) | (simp [*, errW_none, errW_some] <;> rfl), by repeat (first | (with_reducible first | exact HB.out | apply below_alloc | apply pw_below_drewN | apply below_drew1) | exact HB.out)⟩
              · replace c35 := Bool.eq_false_iff.mpr c35
                subst c35
                have H1 : (decanterlaw21_FitFronts.l0 kj17 t301 t301 (t301.length : Int) 0) = some r := by rw [if_neg (show ¬ (false = true) by decide)] at H; exact H
                clear H
                have H := H1
                clear H1
                have H' := Aside0.mk H
                clear H
                go_wp2
                go_loopg [44] kj17 (fun kq v44 w' => ∃ (x44_3 : Int), v44 = .int .i64 x44_3 ∧ Aside0 (decanterlaw21_FitFronts.l0 kq t301 t301 (t301.length : Int) x44_3 = some r) ∧ Aside0 (kq ≤ kj17) ∧ Aside0 (Kd.R k52 52 w' w.heap.size (fun _ => True) (.slice Ao20 t301.length co20) t301) ∧ Aside0 (Kd.R k52 52 w' w.heap.size (fun _ => True) (.slice Ao20 t301.length co20) t301) ∧ Aside0 (Below w.heap.size w w'))
                case atStart => exact ⟨(0), (by first | rfl | (simp; done) | (simp [*]; done) | (simp; generalize ByteArray.toList _ = l_; cases l_ <;> rfl)), H', ⟨Nat.le_refl _⟩, ⟨by (with_reducible repeat (first | apply Kd.R_alloc | apply Kd.R_drewN | apply Kd.R_drew)); exact HO_5.out⟩, ⟨by (with_reducible repeat (first | apply Kd.R_alloc | apply Kd.R_drewN | apply Kd.R_drew)); exact HO_5.out⟩, ⟨by repeat (first | (with_reducible first | exact HB.out | apply below_alloc | apply pw_below_drewN | apply below_drew1) | exact HB.out)⟩⟩
                case round =>
                  clear H'
                  try clear c1
                  try clear c2
                  try clear p2
                  try clear q2
                  try clear c3
                  try clear q3
                  try clear c5
                  try clear p6
                  try clear c7
                  try clear c8
                  try clear c13
                  try clear c17
                  try clear c17b0
                  try clear c17b1
                  try clear c22
                  try clear c22b0
                  try clear c22b1
                  try clear c23
                  try clear c23b0
                  try clear c23b1
                  try clear c25
                  try clear c26
                  try clear c26b0
                  try clear c27
                  try clear c27b0
                  try clear q29
                  try clear c30
                  try clear c31
                  try clear q31
                  try clear q33
                  try clear c35
                  try clear p2
                  try clear p6
                  try clear q031
                  try clear q2
                  try clear q29
                  try clear q3
                  try clear q31
                  try clear q33
                  obtain ⟨x44_3, rfl, HA, HK3, HO_5, HO_42, HB⟩ := hrel
                  cases gk with
                  | zero => exact absurd HA.out (by simp [decanterlaw21_FitFronts.l0])
                  | succ k3 =>
                    have H := HA.out
                    clear HA
                    simp only [decanterlaw21_FitFronts.l0] at H
                    by_cases c36 : x44_3 < (t301.length : Int)
                    · rw [if_pos c36] at H
                      have c36b0 : decide (x44_3 < (t301.length : Int)) = true := decide_eq_true c36
                      clear c36
                      by_cases c37 : 0 ≤ x44_3
                      · rw [if_pos c37] at H
                        have c37b0 : decide (0 ≤ x44_3) = true := decide_eq_true c37
                        clear c37
                        by_cases c38 : x44_3 < (t301.length : Int)
                        · rw [if_pos c38] at H
                          have c38b0 : decide (x44_3 < (t301.length : Int)) = true := decide_eq_true c38
                          clear c38
                          by_cases c39 : ((rd_T52 t301 x44_3).f0).toList = ([] : List UInt8)
                          · rw [if_pos c39] at H
                            have c39b0 : (((rd_T52 t301 x44_3).f0).toList == ([] : List UInt8)) = true := beq_iff_eq.mpr c39
                            have c39b1 : (((rd_T52 t301 x44_3).f0).toList != ([] : List UInt8)) = false := bne_eq_false_iff_eq.mpr c39
                            clear c39
                            have H' := Aside0.mk H
                            clear H
                            have p314 : 0 ≤ (x44_3 : Int) := of_decide_eq_true (by first | (with_reducible assumption) | assumption)
                            have q314 : x44_3 < (t301.length : Int) := of_decide_eq_true (by first | (with_reducible assumption) | assumption)
                            obtain ⟨ad314, A314_1, c314_1, A314_3, c314_3, e314, hx314_0, hx314_1, hx314_2, hx314_3, hl314_1, hi314_1, hl314_3, hi314_3⟩ := at_T52 (Kd.R_reads' HO_42.out).2.2 x44_3 p314 q314
                            cases e314
                            obtain ⟨ce314, hce314, hMe314, hcc314⟩ := Kd.R_get HO_42.out z52 x44_3 p314 (by first | exact q314 | exact of_decide_eq_true (by first | (with_reducible assumption) | assumption) | (have e_ := (Kd.R_reads' HO_42.out).1; omega))
                            obtain ⟨ve314_1, ve314_3, rfl, ge314_1, ge314_3⟩ := k52_openM hMe314
                            have hv314_1 := hcc314 1 _ rfl
                            rw [add_field _ _ 1 (by omega)] at hv314_1
                            replace hv314_1 := Option.some.inj (hv314_1.symm.trans hx314_1)
                            rw [hv314_1] at ge314_1
                            have HL314_1 := Aside0.mk (show Kd.R k99 99 _ _ _ _ ((rd_T52 t301 x44_3).f1) from ge314_1)
                            clear hv314_1 ge314_1
                            have hv314_3 := hcc314 3 _ rfl
                            rw [add_field _ _ 3 (by omega)] at hv314_3
                            replace hv314_3 := Option.some.inj (hv314_3.symm.trans hx314_3)
                            rw [hv314_3] at ge314_3
                            have HL314_3 := Aside0.mk (show Kd.R k52 52 _ _ _ _ ((rd_T52 t301 x44_3).f3) from ge314_3)
                            clear hv314_3 ge314_3
                            clear hcc314 hce314
                            have HR314_1 := Aside0.mk hi314_1
                            have HC314_1 := Aside0.mk hl314_1
                            clear hi314_1 hl314_1
                            have HR314_3 := Aside0.mk hi314_3
                            have HC314_3 := Aside0.mk hl314_3
                            clear hi314_3 hl314_3
                            replace p314 := eq_true p314
                            replace q314 := eq_true q314
                            go_wp2_with (first | ((with_reducible refine gate_dst (N := 8) rfl ?_); refine box_event ?hg (N := 8) ?hd (cs := #[.string (⟨#[]⟩ : ByteArray), .slice none 0 0, .string (⟨#[]⟩ : ByteArray), .slice none 0 0]) (t := 52) ?hr ?_; (case hd => rfl); (case hg => rfl); (case hr => first | (go_simp; done) | (go_simp; rfl)); intro gb315 hg w40 hbox hb; have n0_ := Aside0.mk (Kd.R_below (Kd.R_elderB (by (with_reducible repeat (first | apply Kd.R_alloc | apply Kd.R_drewN | apply Kd.R_drew)); exact HO_5.out) gb315 (Nat.le_of_eq hg.symm)) hb); have n1_ := Aside0.mk (Kd.R_below (Kd.R_elderB (by (with_reducible repeat (first | apply Kd.R_alloc | apply Kd.R_drewN | apply Kd.R_drew)); exact HO_42.out) gb315 (Nat.le_of_eq hg.symm)) hb); have n2_ := Aside0.mk (Kd.R_below (by (with_reducible repeat (first | apply Kd.R_alloc | apply Kd.R_drewN | apply Kd.R_drew)); exact HL314_1.out) hb); have n3_ := Aside0.mk (Kd.R_below (Kd.R_elderB (by (with_reducible repeat (first | apply Kd.R_alloc | apply Kd.R_drewN | apply Kd.R_drew)); exact HL314_3.out) gb315 (Nat.le_of_eq hg.symm)) hb); have n4_ := Aside0.mk (Kd.C_below (by repeat (first | (with_reducible exact HR314_1.out) | (with_reducible refine Kd.C_alloc ?_ _) | (with_reducible refine Kd.C_drewN ?_ _) | (with_reducible refine Kd.C_drew ?_) | exact HR314_1.out)) hb); have n5_ := Aside0.mk (Kd.C_below (by repeat (first | (with_reducible exact HR314_3.out) | (with_reducible refine Kd.C_alloc ?_ _) | (with_reducible refine Kd.C_drewN ?_ _) | (with_reducible refine Kd.C_drew ?_) | exact HR314_3.out)) hb); have n6_ := Aside0.mk (below_step (by repeat (first | (with_reducible first | exact HB.out | apply below_alloc | apply pw_below_drewN | apply below_drew1) | exact HB.out)) hb); have n7_ := Aside0.mk (hbox); have n8_ := Aside0.mk ((by rw [hg]; exact (below_size (by repeat (first | (with_reducible first | exact HB.out | apply below_alloc | apply pw_below_drewN | apply below_drew1) | exact HB.out))) : w.heap.size ≤ gb315)); have n9_ := Aside0.mk ((by rw [hg]; exact (below_size (by repeat (first | (with_reducible first | exact HB.out | apply below_alloc | apply pw_below_drewN | apply below_drew1) | exact HB.out))) : w.heap.size ≤ gb315)); clear HO_5; clear HO_42; clear HL314_1; clear HL314_3; clear HR314_1; clear HR314_3; clear HB; have HO_5 := n0_; have HO_42 := n1_; have HL314_1 := n2_; have HL314_3 := n3_; have HR314_1 := n4_; have HR314_3 := n5_; have HB := n6_; have BK315 := n7_; have GW315 := n8_; have GE315 := n9_; clear n0_ n1_ n2_ n3_ n4_ n5_ n6_ n7_ n8_ n9_; clear hb hbox hg; have hcz41_0 : w40.cell? ⟨gb315, 0, none⟩ = some (.string (⟨#[]⟩ : ByteArray)) := (blk_cell BK315.out 0).trans rfl; have hcz41_1 : w40.cell? ⟨gb315, 1, none⟩ = some (.slice none 0 0) := (blk_cell BK315.out 1).trans rfl; have hcz41_2 : w40.cell? ⟨gb315, 2, none⟩ = some (.string (⟨#[]⟩ : ByteArray)) := (blk_cell BK315.out 2).trans rfl; have hcz41_3 : w40.cell? ⟨gb315, 3, none⟩ = some (.slice none 0 0) := (blk_cell BK315.out 3).trans rfl; have hfz41_0 := blk_frozen BK315.out 0; have hfz41_1 := blk_frozen BK315.out 1; have hfz41_2 := blk_frozen BK315.out 2; have hfz41_3 := blk_frozen BK315.out 3))
                            go_roundg k3
                            case measure => have := HJ2.out; have := HJ17.out; have := HK3.out; omega
                            case rel => exact ⟨(wrap64 (x44_3 + 1)), (by first | rfl | (simp; done) | (simp [*]; done)), H', ⟨by have := HJ2.out; have := HJ17.out; have := HK3.out; omega⟩, ⟨by (with_reducible repeat (first | apply Kd.R_alloc | apply Kd.R_drewN | apply Kd.R_drew)); exact Kd.R_mono (Kd.R_far (p := ⟨gb315, 3, none⟩) (Kd.R_far (p := ⟨gb315, 2, none⟩) (Kd.R_far (p := ⟨gb315, 1, none⟩) (Kd.R_far (p := ⟨gb315, 0, none⟩) (Kd.R_mono HO_5.out (fun k_ hk => (⟨hk, hk.2⟩ : _ ∧ k_ ≠ gb315))) (fun _ hk => hk.2) (.string ((rd_T52 t301 x44_3).f0))) (fun _ hk => hk.2) (.slice A314_1 ((rd_T52 t301 x44_3).f1).length c314_1)) (fun _ hk => hk.2) (.string ((rd_T52 t301 x44_3).f2))) (fun _ hk => hk.2) (.slice A314_3 ((rd_T52 t301 x44_3).f3).length c314_3)) (fun _ hk => trivial)⟩, ⟨by (with_reducible repeat (first | apply Kd.R_alloc | apply Kd.R_drewN | apply Kd.R_drew)); exact Kd.R_mono (Kd.R_far (p := ⟨gb315, 3, none⟩) (Kd.R_far (p := ⟨gb315, 2, none⟩) (Kd.R_far (p := ⟨gb315, 1, none⟩) (Kd.R_far (p := ⟨gb315, 0, none⟩) (Kd.R_mono HO_42.out (fun k_ hk => (⟨hk, hk.2⟩ : _ ∧ k_ ≠ gb315))) (fun _ hk => hk.2) (.string ((rd_T52 t301 x44_3).f0))) (fun _ hk => hk.2) (.slice A314_1 ((rd_T52 t301 x44_3).f1).length c314_1)) (fun _ hk => hk.2) (.string ((rd_T52 t301 x44_3).f2))) (fun _ hk => hk.2) (.slice A314_3 ((rd_T52 t301 x44_3).f3).length c314_3)) (fun _ hk => trivial)⟩, ⟨by repeat (first | (with_reducible first | exact HB.out | apply below_alloc | apply pw_below_drewN | apply below_drew1 | refine below_set ?_ GE315.out) | exact HB.out)⟩⟩
                          · rw [if_neg c39] at H
                            have c39b0 : (((rd_T52 t301 x44_3).f0).toList == ([] : List UInt8)) = false := beq_eq_false_iff_ne.mpr c39
                            have c39b1 : (((rd_T52 t301 x44_3).f0).toList != ([] : List UInt8)) = true := bne_iff_ne.mpr c39
                            have c42b0 := eq_true (of_decide_eq_true (by first | (with_reducible assumption) | assumption) : 0 ≤ x44_3)
                            by_cases c43 : x44_3 ≤ (wrap64 (x44_3 + 1))
                            · rw [if_pos c43] at H
                              have c43b0 := eq_true c43
                              have c43b1 : decide (x44_3 ≤ (wrap64 (x44_3 + 1))) = true := decide_eq_true c43
                              by_cases c44 : (wrap64 (x44_3 + 1)) ≤ (t301.length : Int)
                              · rw [if_pos c44] at H
                                have c44b0 := eq_true c44
                                have c44b1 : decide ((wrap64 (x44_3 + 1)) ≤ (t301.length : Int)) = true := decide_eq_true c44
                                obtain ⟨y316, hy316⟩ : ∃ y_ : List (S52), y_ = ((t301.take ((wrap64 (x44_3 + 1)) : Int).toNat).drop (x44_3 : Int).toNat) := ⟨_, rfl⟩
                                replace H : ((fit_Sound.f k3 y316).bind fun t320 => (if t320 = true then ((fit_Sound.f k3 ((rd_T52 t301 x44_3).f3)).bind fun t321 => (if t321 = true then (decanterlaw21_FitFronts.l0 k3 t301 t301 (t301.length : Int) (wrap64 (x44_3 + 1))) else (some false))) else (some false))) = some r := by first | (rw [hy316]; with_reducible exact H) | (have H2_ := (Option.bind_some _ _).symm.trans H; rw [hy316]; with_reducible exact H2_) | (have H2_ := (Option.bind_some _ _).symm.trans H; with_reducible exact H2_) | with_reducible exact H | (rw [hy316]; exact H) | exact H
                                have Ny316 := Aside0.mk hy316
                                clear hy316
                                replace H := Option.bind_eq_some_iff.mp H
                                obtain ⟨t320, A450, H⟩ := H
                                replace H : (if t320 = true then ((fit_Sound.f k3 ((rd_T52 t301 x44_3).f3)).bind fun t321 => (if t321 = true then (decanterlaw21_FitFronts.l0 k3 t301 t301 (t301.length : Int) (wrap64 (x44_3 + 1))) else (some false))) else (some false)) = some r := H
                                have A45 := Aside0.mk A450
                                clear A450
                                by_cases c46 : t320 = true
                                · subst c46
                                  have H1 : ((fit_Sound.f k3 ((rd_T52 t301 x44_3).f3)).bind fun t321 => (if t321 = true then (decanterlaw21_FitFronts.l0 k3 t301 t301 (t301.length : Int) (wrap64 (x44_3 + 1))) else (some false))) = some r := by rw [if_pos rfl] at H; exact H
                                  clear H
                                  have H := H1
                                  clear H1
                                  replace H := Option.bind_eq_some_iff.mp H
                                  obtain ⟨t321, A470, H⟩ := H
                                  replace H : (if t321 = true then (decanterlaw21_FitFronts.l0 k3 t301 t301 (t301.length : Int) (wrap64 (x44_3 + 1))) else (some false)) = some r := H
                                  have A47 := Aside0.mk A470
                                  clear A470
                                  by_cases c48 : t321 = true
                                  · subst c48
                                    have H1 : (decanterlaw21_FitFronts.l0 k3 t301 t301 (t301.length : Int) (wrap64 (x44_3 + 1))) = some r := by rw [if_pos rfl] at H; exact H
                                    clear H
                                    have H := H1
                                    clear H1
                                    have H' := Aside0.mk H
                                    clear H
                                    have p314 : 0 ≤ (x44_3 : Int) := of_decide_eq_true (by first | (with_reducible assumption) | assumption)
                                    have q314 : x44_3 < (t301.length : Int) := of_decide_eq_true (by first | (with_reducible assumption) | assumption)
                                    obtain ⟨ad314, A314_1, c314_1, A314_3, c314_3, e314, hx314_0, hx314_1, hx314_2, hx314_3, hl314_1, hi314_1, hl314_3, hi314_3⟩ := at_T52 (Kd.R_reads' HO_42.out).2.2 x44_3 p314 q314
                                    cases e314
                                    obtain ⟨ce314, hce314, hMe314, hcc314⟩ := Kd.R_get HO_42.out z52 x44_3 p314 (by first | exact q314 | exact of_decide_eq_true (by first | (with_reducible assumption) | assumption) | (have e_ := (Kd.R_reads' HO_42.out).1; omega))
                                    obtain ⟨ve314_1, ve314_3, rfl, ge314_1, ge314_3⟩ := k52_openM hMe314
                                    have hv314_1 := hcc314 1 _ rfl
                                    rw [add_field _ _ 1 (by omega)] at hv314_1
                                    replace hv314_1 := Option.some.inj (hv314_1.symm.trans hx314_1)
                                    rw [hv314_1] at ge314_1
                                    have HL314_1 := Aside0.mk (show Kd.R k99 99 _ _ _ _ ((rd_T52 t301 x44_3).f1) from ge314_1)
                                    clear hv314_1 ge314_1
                                    have hv314_3 := hcc314 3 _ rfl
                                    rw [add_field _ _ 3 (by omega)] at hv314_3
                                    replace hv314_3 := Option.some.inj (hv314_3.symm.trans hx314_3)
                                    rw [hv314_3] at ge314_3
                                    have HL314_3 := Aside0.mk (show Kd.R k52 52 _ _ _ _ ((rd_T52 t301 x44_3).f3) from ge314_3)
                                    clear hv314_3 ge314_3
                                    clear hcc314 hce314
                                    have HR314_1 := Aside0.mk hi314_1
                                    have HC314_1 := Aside0.mk hl314_1
                                    clear hi314_1 hl314_1
                                    have HR314_3 := Aside0.mk hi314_3
                                    have HC314_3 := Aside0.mk hl314_3
                                    clear hi314_3 hl314_3
                                    replace p314 := eq_true p314
                                    replace q314 := eq_true q314
                                    go_wp2_with (first | ((with_reducible refine gate_dst (N := 8) rfl ?_); refine box_event ?hg (N := 8) ?hd (cs := #[.string (⟨#[]⟩ : ByteArray), .slice none 0 0, .string (⟨#[]⟩ : ByteArray), .slice none 0 0]) (t := 52) ?hr ?_; (case hd => rfl); (case hg => rfl); (case hr => first | (go_simp; done) | (go_simp; rfl)); intro gb315 hg w49 hbox hb; have n0_ := Aside0.mk (Kd.R_below (Kd.R_elderB (by (with_reducible repeat (first | apply Kd.R_alloc | apply Kd.R_drewN | apply Kd.R_drew)); exact HO_5.out) gb315 (Nat.le_of_eq hg.symm)) hb); have n1_ := Aside0.mk (Kd.R_below (Kd.R_elderB (by (with_reducible repeat (first | apply Kd.R_alloc | apply Kd.R_drewN | apply Kd.R_drew)); exact HO_42.out) gb315 (Nat.le_of_eq hg.symm)) hb); have n2_ := Aside0.mk (Kd.R_below (by (with_reducible repeat (first | apply Kd.R_alloc | apply Kd.R_drewN | apply Kd.R_drew)); exact HL314_1.out) hb); have n3_ := Aside0.mk (Kd.R_below (Kd.R_elderB (by (with_reducible repeat (first | apply Kd.R_alloc | apply Kd.R_drewN | apply Kd.R_drew)); exact HL314_3.out) gb315 (Nat.le_of_eq hg.symm)) hb); have n4_ := Aside0.mk (Kd.C_below (by repeat (first | (with_reducible exact HR314_1.out) | (with_reducible refine Kd.C_alloc ?_ _) | (with_reducible refine Kd.C_drewN ?_ _) | (with_reducible refine Kd.C_drew ?_) | exact HR314_1.out)) hb); have n5_ := Aside0.mk (Kd.C_below (by repeat (first | (with_reducible exact HR314_3.out) | (with_reducible refine Kd.C_alloc ?_ _) | (with_reducible refine Kd.C_drewN ?_ _) | (with_reducible refine Kd.C_drew ?_) | exact HR314_3.out)) hb); have n6_ := Aside0.mk (below_step (by repeat (first | (with_reducible first | exact HB.out | apply below_alloc | apply pw_below_drewN | apply below_drew1) | exact HB.out)) hb); have n7_ := Aside0.mk (hbox); have n8_ := Aside0.mk ((by rw [hg]; exact (below_size (by repeat (first | (with_reducible first | exact HB.out | apply below_alloc | apply pw_below_drewN | apply below_drew1) | exact HB.out))) : w.heap.size ≤ gb315)); have n9_ := Aside0.mk ((by rw [hg]; exact (below_size (by repeat (first | (with_reducible first | exact HB.out | apply below_alloc | apply pw_below_drewN | apply below_drew1) | exact HB.out))) : w.heap.size ≤ gb315)); clear HO_5; clear HO_42; clear HL314_1; clear HL314_3; clear HR314_1; clear HR314_3; clear HB; have HO_5 := n0_; have HO_42 := n1_; have HL314_1 := n2_; have HL314_3 := n3_; have HR314_1 := n4_; have HR314_3 := n5_; have HB := n6_; have BK315 := n7_; have GW315 := n8_; have GE315 := n9_; clear n0_ n1_ n2_ n3_ n4_ n5_ n6_ n7_ n8_ n9_; clear hb hbox hg; have hcz50_0 : w49.cell? ⟨gb315, 0, none⟩ = some (.string (⟨#[]⟩ : ByteArray)) := (blk_cell BK315.out 0).trans rfl; have hcz50_1 : w49.cell? ⟨gb315, 1, none⟩ = some (.slice none 0 0) := (blk_cell BK315.out 1).trans rfl; have hcz50_2 : w49.cell? ⟨gb315, 2, none⟩ = some (.string (⟨#[]⟩ : ByteArray)) := (blk_cell BK315.out 2).trans rfl; have hcz50_3 : w49.cell? ⟨gb315, 3, none⟩ = some (.slice none 0 0) := (blk_cell BK315.out 3).trans rfl; have hfz50_0 := blk_frozen BK315.out 0; have hfz50_1 := blk_frozen BK315.out 1; have hfz50_2 := blk_frozen BK315.out 2; have hfz50_3 := blk_frozen BK315.out 3) | ((with_reducible refine gate_store (t := 52) (p := 8) rfl ?_); refine store_event (t := 52) (p := 8) (v := ?vo_w51) (w1 := ((((w49.setCell ⟨gb315, 0, none⟩ (.string ((rd_T52 t301 x44_3).f0))).setCell ⟨gb315, 1, none⟩ (.slice A314_1 ((rd_T52 t301 x44_3).f1).length c314_1)).setCell ⟨gb315, 2, none⟩ (.string ((rd_T52 t301 x44_3).f2))).setCell ⟨gb315, 3, none⟩ (.slice A314_3 ((rd_T52 t301 x44_3).f3).length c314_3))) ?hg ?ho ?hn ?hr ?_; (case ho => rfl); (case hg => rfl); (case hn => rfl); (case hr => first | (go_simp; done) | (go_simp; rfl)); intro w51 hw; have n0_ : Aside0 (Kd.R k52 52 w51 w.heap.size (fun k_ => k_ ≠ gb315) (.slice (some ad314) t301.length co20) t301) := ⟨(by rw [hw]; exact (by (with_reducible repeat (first | apply Kd.R_alloc | apply Kd.R_drewN | apply Kd.R_drew)); exact Kd.R_mono (Kd.R_far (p := ⟨gb315, 3, none⟩) (Kd.R_far (p := ⟨gb315, 2, none⟩) (Kd.R_far (p := ⟨gb315, 1, none⟩) (Kd.R_far (p := ⟨gb315, 0, none⟩) (Kd.R_mono HO_5.out (fun k_ hk => (⟨hk, hk.2⟩ : _ ∧ k_ ≠ gb315))) (fun _ hk => hk.2) (.string ((rd_T52 t301 x44_3).f0))) (fun _ hk => hk.2) (.slice A314_1 ((rd_T52 t301 x44_3).f1).length c314_1)) (fun _ hk => hk.2) (.string ((rd_T52 t301 x44_3).f2))) (fun _ hk => hk.2) (.slice A314_3 ((rd_T52 t301 x44_3).f3).length c314_3)) (fun _ hk => hk.1.2)))⟩; have n1_ : Aside0 (Kd.R k52 52 w51 w.heap.size (fun k_ => k_ ≠ gb315) (.slice (some ad314) t301.length co20) t301) := ⟨(by rw [hw]; exact (by (with_reducible repeat (first | apply Kd.R_alloc | apply Kd.R_drewN | apply Kd.R_drew)); exact Kd.R_mono (Kd.R_far (p := ⟨gb315, 3, none⟩) (Kd.R_far (p := ⟨gb315, 2, none⟩) (Kd.R_far (p := ⟨gb315, 1, none⟩) (Kd.R_far (p := ⟨gb315, 0, none⟩) (Kd.R_mono HO_42.out (fun k_ hk => (⟨hk, hk.2⟩ : _ ∧ k_ ≠ gb315))) (fun _ hk => hk.2) (.string ((rd_T52 t301 x44_3).f0))) (fun _ hk => hk.2) (.slice A314_1 ((rd_T52 t301 x44_3).f1).length c314_1)) (fun _ hk => hk.2) (.string ((rd_T52 t301 x44_3).f2))) (fun _ hk => hk.2) (.slice A314_3 ((rd_T52 t301 x44_3).f3).length c314_3)) (fun _ hk => hk.1.2)))⟩; have n2_ : Aside0 (Kd.R k99 99 w51 w.heap.size (fun k_ => some k_ ≠ (.slice (some ad314) t301.length co20 : Value).ownBlock) (.slice A314_1 ((rd_T52 t301 x44_3).f1).length c314_1) ((rd_T52 t301 x44_3).f1)) := ⟨(by rw [hw]; exact (by (with_reducible repeat (first | apply Kd.R_alloc | apply Kd.R_drewN | apply Kd.R_drew)); exact Kd.R_mono (Kd.R_far (p := ⟨gb315, 3, none⟩) (Kd.R_far (p := ⟨gb315, 2, none⟩) (Kd.R_far (p := ⟨gb315, 1, none⟩) (Kd.R_far (p := ⟨gb315, 0, none⟩) (Kd.R_types HL314_1.out BK315.out (by decide)) (fun _ hk => hk.2) (.string ((rd_T52 t301 x44_3).f0))) (fun _ hk => hk.2) (.slice A314_1 ((rd_T52 t301 x44_3).f1).length c314_1)) (fun _ hk => hk.2) (.string ((rd_T52 t301 x44_3).f2))) (fun _ hk => hk.2) (.slice A314_3 ((rd_T52 t301 x44_3).f3).length c314_3)) (fun _ hk => hk.1.2)))⟩; have n3_ : Aside0 (Kd.R k52 52 w51 w.heap.size (fun k_ => some k_ ≠ (.slice (some ad314) t301.length co20 : Value).ownBlock ∧ k_ ≠ gb315) (.slice A314_3 ((rd_T52 t301 x44_3).f3).length c314_3) ((rd_T52 t301 x44_3).f3)) := ⟨(by rw [hw]; exact (by (with_reducible repeat (first | apply Kd.R_alloc | apply Kd.R_drewN | apply Kd.R_drew)); exact Kd.R_mono (Kd.R_far (p := ⟨gb315, 3, none⟩) (Kd.R_far (p := ⟨gb315, 2, none⟩) (Kd.R_far (p := ⟨gb315, 1, none⟩) (Kd.R_far (p := ⟨gb315, 0, none⟩) (Kd.R_mono HL314_3.out (fun k_ hk => (⟨hk, hk.2⟩ : _ ∧ k_ ≠ gb315))) (fun _ hk => hk.2) (.string ((rd_T52 t301 x44_3).f0))) (fun _ hk => hk.2) (.slice A314_1 ((rd_T52 t301 x44_3).f1).length c314_1)) (fun _ hk => hk.2) (.string ((rd_T52 t301 x44_3).f2))) (fun _ hk => hk.2) (.slice A314_3 ((rd_T52 t301 x44_3).f3).length c314_3)) (fun _ hk => ⟨hk.1.1.2, hk.1.2⟩)))⟩; have n4_ : Aside0 (w51.heap[gb315]? = some (.cells #[.string ((rd_T52 t301 x44_3).f0), .slice A314_1 ((rd_T52 t301 x44_3).f1).length c314_1, .string ((rd_T52 t301 x44_3).f2), .slice A314_3 ((rd_T52 t301 x44_3).f3).length c314_3] 52 (0, 0))) := ⟨(by rw [hw]; exact (by (with_reducible repeat (first | refine blk_drewN ?_ _ | refine blk_drew ?_ | refine blk_alloc ?_ _)); refine blk_put (cs := #[.string ((rd_T52 t301 x44_3).f0), .slice A314_1 ((rd_T52 t301 x44_3).f1).length c314_1, .string ((rd_T52 t301 x44_3).f2), .slice none 0 0]) ?_ 3 _ rfl; (with_reducible repeat (first | refine blk_drewN ?_ _ | refine blk_drew ?_ | refine blk_alloc ?_ _)); refine blk_put (cs := #[.string ((rd_T52 t301 x44_3).f0), .slice A314_1 ((rd_T52 t301 x44_3).f1).length c314_1, .string (⟨#[]⟩ : ByteArray), .slice none 0 0]) ?_ 2 _ rfl; (with_reducible repeat (first | refine blk_drewN ?_ _ | refine blk_drew ?_ | refine blk_alloc ?_ _)); refine blk_put (cs := #[.string ((rd_T52 t301 x44_3).f0), .slice none 0 0, .string (⟨#[]⟩ : ByteArray), .slice none 0 0]) ?_ 1 _ rfl; (with_reducible repeat (first | refine blk_drewN ?_ _ | refine blk_drew ?_ | refine blk_alloc ?_ _)); refine blk_put (cs := #[.string (⟨#[]⟩ : ByteArray), .slice none 0 0, .string (⟨#[]⟩ : ByteArray), .slice none 0 0]) ?_ 0 _ rfl; (with_reducible repeat (first | refine blk_drewN ?_ _ | refine blk_drew ?_ | refine blk_alloc ?_ _)); exact BK315.out))⟩; have n5_ : Aside0 (Below w.heap.size w w51) := ⟨(by rw [hw]; exact (by repeat (first | (with_reducible first | exact HB.out | apply below_alloc | apply pw_below_drewN | apply below_drew1 | refine below_set ?_ GE315.out) | exact HB.out)))⟩; clear hw; clear HO_5; clear HO_42; clear HL314_1; clear HL314_3; clear BK315; clear HB; have HO_5 := n0_; have HO_42 := n1_; have HL314_1 := n2_; have HL314_3 := n3_; have BK315 := n4_; have HB := n5_; clear n0_ n1_ n2_ n3_ n4_ n5_; have hcz52_0 : w51.cell? ⟨gb315, 0, none⟩ = some (.string ((rd_T52 t301 x44_3).f0)) := (blk_cell BK315.out 0).trans rfl; have hcz52_1 : w51.cell? ⟨gb315, 1, none⟩ = some (.slice A314_1 ((rd_T52 t301 x44_3).f1).length c314_1) := (blk_cell BK315.out 1).trans rfl; have hcz52_2 : w51.cell? ⟨gb315, 2, none⟩ = some (.string ((rd_T52 t301 x44_3).f2)) := (blk_cell BK315.out 2).trans rfl; have hcz52_3 : w51.cell? ⟨gb315, 3, none⟩ = some (.slice A314_3 ((rd_T52 t301 x44_3).f3).length c314_3) := (blk_cell BK315.out 3).trans rfl; have hfz52_0 := blk_frozen BK315.out 0; have hfz52_1 := blk_frozen BK315.out 1; have hfz52_2 := blk_frozen BK315.out 2; have hfz52_3 := blk_frozen BK315.out 3; have q53 : ((wrap64 (x44_3 + 1)) : Int) ≤ ((t301.length : Int) : Int) := of_decide_eq_true (by first | (with_reducible assumption) | assumption); obtain ⟨i053, hi053, _, hsz53, _⟩ := info_parts info52; have hroom53 : t301.length ≤ co20 := (Kd.R_reads' HO_5.out).2.1; have hC53 : Kd.C k52 _ (some ad314) t301.length t301 := (Kd.R_reads' HO_5.out).2.2; have ql53 : (x44_3 : Int) ≤ ((wrap64 (x44_3 + 1)) : Int) := of_decide_eq_true (by first | (with_reducible assumption) | assumption); have q053 : (0 : Int) ≤ (x44_3 : Int) := of_decide_eq_true (by first | (with_reducible assumption) | assumption); have hcut53 := cut_mid (P := Tryd.prog) 47 52 .i64 .i64 Tryd.underlying47 hi053 4 hsz53 (some ad314) t301.length co20 x44_3 (wrap64 (x44_3 + 1)) q053 ql53 q53 hroom53; have hr53 := Kd.C_mid (lo := (x44_3 : Int).toNat) (hi := ((wrap64 (x44_3 + 1)) : Int).toNat) (c := co20) hC53 (by omega) (by omega) hroom53; obtain ⟨A53, hA53⟩ : ∃ A1, A1 = (if co20 = (x44_3 : Int).toNat then (some ad314) else ((some ad314) : Option Addr).map (·.add ((x44_3 : Int).toNat * 4))) := ⟨_, rfl⟩; obtain ⟨c53, hc53⟩ : ∃ c1, c1 = co20 - (x44_3 : Int).toNat := ⟨_, rfl⟩; have hy53 : y316.length = ((wrap64 (x44_3 + 1)) : Int).toNat - (x44_3 : Int).toNat := (by rw [Ny316.out, List.length_drop, List.length_take] <;> omega); rw [show ((t301).take ((wrap64 (x44_3 + 1)) : Int).toNat).drop (x44_3 : Int).toNat = y316 from Ny316.out.symm] at hr53; replace hr53 : Kd.C k52 _ A53 y316.length y316 := (by rw [hA53]; exact hr53); rw [← hy53, ← hA53, ← hc53] at hcut53; have HR319 := Aside0.mk hr53; have HC319 := Aside0.mk (show y316.length ≤ c53 from by rw [hy53, hc53]; exact Nat.sub_le_sub_right (Nat.le_trans (by omega) hroom53) _); clear hr53 hC53 hroom53 hi053 hsz53 hc53; have KY53 := Aside0.mk hy53; have KA53 := Aside0.mk hA53; clear hy53 hA53; have KL53 := Aside0.mk (show ((wrap64 (x44_3 + 1)) : Int).toNat ≤ t301.length from by omega); have KM53 := Aside0.mk (show (x44_3 : Int).toNat ≤ ((wrap64 (x44_3 + 1)) : Int).toNat from by omega); replace q53 := eq_true q53; have cc_ := Aside0.mk (Kd.R_reads' HL314_1.out).2.2; clear HR314_1; have HR314_1 := cc_; clear cc_; have cc_ := Aside0.mk (Kd.R_reads' HL314_3.out).2.2; clear HR314_3; have HR314_3 := cc_; clear cc_) | ((with_reducible refine gate_callee (f := 30) rfl ?_); refine goesL_ (some 57) rfl rfl Tryd.func30 (by kernel_rfl) rfl #[.slice A53 y316.length c53] rfl (by (try simp only [List.map_toArray, List.map_cons, List.map_nil]); first | done | rfl | (simp only [List.length_drop, List.length_take]; rfl)) ?_; (with_reducible refine (fit_Sound.calls k3 _ _ y316 true _ ?side1 ?side2 ?side3 A45.out).mono ?_); (case side1 => repeat (first | exact (by repeat (first | (with_reducible exact HR319.out) | (with_reducible refine Kd.C_alloc ?_ _) | (with_reducible refine Kd.C_drewN ?_ _) | (with_reducible refine Kd.C_drew ?_) | exact HR319.out)) | (with_reducible refine Kd.C_alloc ?_ _) | (with_reducible refine Kd.C_drewN ?_ _) | (with_reducible refine Kd.C_drew ?_))); (case side2 => exact HC319.out); (case side3 => exact GW.below HG.out (by repeat (first | (with_reducible first | exact HB.out | apply below_alloc | apply pw_below_drewN | apply below_drew1 | refine below_set ?_ GE315.out) | exact HB.out))); rintro e w54 ⟨rfl, hb⟩; refine ⟨_, rfl, ?_⟩; have n0_ := Aside0.mk (Kd.R_below (by (with_reducible repeat (first | apply Kd.R_alloc | apply Kd.R_drewN | apply Kd.R_drew)); exact HO_5.out) hb); have n1_ := Aside0.mk (Kd.R_below (by (with_reducible repeat (first | apply Kd.R_alloc | apply Kd.R_drewN | apply Kd.R_drew)); exact HO_42.out) hb); have n2_ := Aside0.mk (Kd.R_below (by (with_reducible repeat (first | apply Kd.R_alloc | apply Kd.R_drewN | apply Kd.R_drew)); exact HL314_1.out) hb); have n3_ := Aside0.mk (Kd.R_below (by (with_reducible repeat (first | apply Kd.R_alloc | apply Kd.R_drewN | apply Kd.R_drew)); exact HL314_3.out) hb); have n4_ := Aside0.mk (Kd.C_below (by repeat (first | (with_reducible exact HR314_1.out) | (with_reducible refine Kd.C_alloc ?_ _) | (with_reducible refine Kd.C_drewN ?_ _) | (with_reducible refine Kd.C_drew ?_) | exact HR314_1.out)) hb); have n5_ := Aside0.mk (Kd.C_below (by repeat (first | (with_reducible exact HR314_3.out) | (with_reducible refine Kd.C_alloc ?_ _) | (with_reducible refine Kd.C_drewN ?_ _) | (with_reducible refine Kd.C_drew ?_) | exact HR314_3.out)) hb); have n6_ := Aside0.mk (blk_below (g := gb315) (o := .cells #[.string ((rd_T52 t301 x44_3).f0), .slice A314_1 ((rd_T52 t301 x44_3).f1).length c314_1, .string ((rd_T52 t301 x44_3).f2), .slice A314_3 ((rd_T52 t301 x44_3).f3).length c314_3] 52 (0, 0)) (by (with_reducible repeat (first | refine blk_drewN ?_ _ | refine blk_drew ?_ | refine blk_alloc ?_ _)); exact BK315.out) hb); have n7_ := Aside0.mk (Kd.C_below (by repeat (first | (with_reducible exact HR319.out) | (with_reducible refine Kd.C_alloc ?_ _) | (with_reducible refine Kd.C_drewN ?_ _) | (with_reducible refine Kd.C_drew ?_) | exact HR319.out)) hb); have n8_ := Aside0.mk (below_step (by repeat (first | (with_reducible first | exact HB.out | apply below_alloc | apply pw_below_drewN | apply below_drew1 | refine below_set ?_ GE315.out) | exact HB.out)) hb); clear HO_5; clear HO_42; clear HL314_1; clear HL314_3; clear HR314_1; clear HR314_3; clear BK315; clear HR319; clear HB; have HO_5 := n0_; have HO_42 := n1_; have HL314_1 := n2_; have HL314_3 := n3_; have HR314_1 := n4_; have HR314_3 := n5_; have BK315 := n6_; have HR319 := n7_; have HB := n8_; clear n0_ n1_ n2_ n3_ n4_ n5_ n6_ n7_ n8_; (try clear hb); (try clear hb2); (try clear hk); (try clear hi); have hcz55_0 : w54.cell? ⟨gb315, 0, none⟩ = some (.string ((rd_T52 t301 x44_3).f0)) := (blk_cell BK315.out 0).trans rfl; have hcz55_1 : w54.cell? ⟨gb315, 1, none⟩ = some (.slice A314_1 ((rd_T52 t301 x44_3).f1).length c314_1) := (blk_cell BK315.out 1).trans rfl; have hcz55_2 : w54.cell? ⟨gb315, 2, none⟩ = some (.string ((rd_T52 t301 x44_3).f2)) := (blk_cell BK315.out 2).trans rfl; have hcz55_3 : w54.cell? ⟨gb315, 3, none⟩ = some (.slice A314_3 ((rd_T52 t301 x44_3).f3).length c314_3) := (blk_cell BK315.out 3).trans rfl; have hfz55_0 := blk_frozen BK315.out 0; have hfz55_1 := blk_frozen BK315.out 1; have hfz55_2 := blk_frozen BK315.out 2; have hfz55_3 := blk_frozen BK315.out 3) | (go_at_call 30; (with_reducible refine (fit_Sound.calls k3 _ _ ((rd_T52 t301 x44_3).f3) true _ ?side1 ?side2 ?side3 A47.out).mono ?_); (case side1 => repeat (first | exact (by repeat (first | (with_reducible exact HR314_3.out) | (with_reducible refine Kd.C_alloc ?_ _) | (with_reducible refine Kd.C_drewN ?_ _) | (with_reducible refine Kd.C_drew ?_) | exact HR314_3.out)) | (with_reducible refine Kd.C_alloc ?_ _) | (with_reducible refine Kd.C_drewN ?_ _) | (with_reducible refine Kd.C_drew ?_))); (case side2 => exact HC314_3.out); (case side3 => exact GW.below HG.out (by repeat (first | (with_reducible first | exact HB.out | apply below_alloc | apply pw_below_drewN | apply below_drew1 | refine below_set ?_ GE315.out) | exact HB.out))); rintro e w56 ⟨rfl, hb⟩; have n0_ := Aside0.mk (Kd.R_below (by (with_reducible repeat (first | apply Kd.R_alloc | apply Kd.R_drewN | apply Kd.R_drew)); exact HO_5.out) hb); have n1_ := Aside0.mk (Kd.R_below (by (with_reducible repeat (first | apply Kd.R_alloc | apply Kd.R_drewN | apply Kd.R_drew)); exact HO_42.out) hb); have n2_ := Aside0.mk (Kd.R_below (by (with_reducible repeat (first | apply Kd.R_alloc | apply Kd.R_drewN | apply Kd.R_drew)); exact HL314_1.out) hb); have n3_ := Aside0.mk (Kd.R_below (by (with_reducible repeat (first | apply Kd.R_alloc | apply Kd.R_drewN | apply Kd.R_drew)); exact HL314_3.out) hb); have n4_ := Aside0.mk (Kd.C_below (by repeat (first | (with_reducible exact HR314_1.out) | (with_reducible refine Kd.C_alloc ?_ _) | (with_reducible refine Kd.C_drewN ?_ _) | (with_reducible refine Kd.C_drew ?_) | exact HR314_1.out)) hb); have n5_ := Aside0.mk (Kd.C_below (by repeat (first | (with_reducible exact HR314_3.out) | (with_reducible refine Kd.C_alloc ?_ _) | (with_reducible refine Kd.C_drewN ?_ _) | (with_reducible refine Kd.C_drew ?_) | exact HR314_3.out)) hb); have n6_ := Aside0.mk (blk_below (g := gb315) (o := .cells #[.string ((rd_T52 t301 x44_3).f0), .slice A314_1 ((rd_T52 t301 x44_3).f1).length c314_1, .string ((rd_T52 t301 x44_3).f2), .slice A314_3 ((rd_T52 t301 x44_3).f3).length c314_3] 52 (0, 0)) (by (with_reducible repeat (first | refine blk_drewN ?_ _ | refine blk_drew ?_ | refine blk_alloc ?_ _)); exact BK315.out) hb); have n7_ := Aside0.mk (Kd.C_below (by repeat (first | (with_reducible exact HR319.out) | (with_reducible refine Kd.C_alloc ?_ _) | (with_reducible refine Kd.C_drewN ?_ _) | (with_reducible refine Kd.C_drew ?_) | exact HR319.out)) hb); have n8_ := Aside0.mk (below_step (by repeat (first | (with_reducible first | exact HB.out | apply below_alloc | apply pw_below_drewN | apply below_drew1 | refine below_set ?_ GE315.out) | exact HB.out)) hb); clear HO_5; clear HO_42; clear HL314_1; clear HL314_3; clear HR314_1; clear HR314_3; clear BK315; clear HR319; clear HB; have HO_5 := n0_; have HO_42 := n1_; have HL314_1 := n2_; have HL314_3 := n3_; have HR314_1 := n4_; have HR314_3 := n5_; have BK315 := n6_; have HR319 := n7_; have HB := n8_; clear n0_ n1_ n2_ n3_ n4_ n5_ n6_ n7_ n8_; (try clear hb); (try clear hb2); (try clear hk); (try clear hi)))
                                    go_roundg k3
                                    case measure => have := HJ2.out; have := HJ17.out; have := HK3.out; omega
                                    case rel => exact ⟨(wrap64 (x44_3 + 1)), (by first | rfl | (simp; done) | (simp [*]; done)), H', ⟨by have := HJ2.out; have := HJ17.out; have := HK3.out; omega⟩, ⟨by (with_reducible repeat (first | apply Kd.R_alloc | apply Kd.R_drewN | apply Kd.R_drew)); exact Kd.R_mono HO_5.out (fun _ hk => trivial)⟩, ⟨by (with_reducible repeat (first | apply Kd.R_alloc | apply Kd.R_drewN | apply Kd.R_drew)); exact Kd.R_mono HO_42.out (fun _ hk => trivial)⟩, ⟨by repeat (first | (with_reducible first | exact HB.out | apply below_alloc | apply pw_below_drewN | apply below_drew1 | refine below_set ?_ GE315.out) | exact HB.out)⟩⟩
                                  · replace c48 := Bool.eq_false_iff.mpr c48
                                    subst c48
                                    have H1 : (some false) = some r := by rw [if_neg (show ¬ (false = true) by decide)] at H; exact H
                                    clear H
                                    have H := H1
                                    clear H1
                                    obtain rfl := Option.some.inj H
                                    have p314 : 0 ≤ (x44_3 : Int) := of_decide_eq_true (by first | (with_reducible assumption) | assumption)
                                    have q314 : x44_3 < (t301.length : Int) := of_decide_eq_true (by first | (with_reducible assumption) | assumption)
                                    obtain ⟨ad314, A314_1, c314_1, A314_3, c314_3, e314, hx314_0, hx314_1, hx314_2, hx314_3, hl314_1, hi314_1, hl314_3, hi314_3⟩ := at_T52 (Kd.R_reads' HO_42.out).2.2 x44_3 p314 q314
                                    cases e314
                                    obtain ⟨ce314, hce314, hMe314, hcc314⟩ := Kd.R_get HO_42.out z52 x44_3 p314 (by first | exact q314 | exact of_decide_eq_true (by first | (with_reducible assumption) | assumption) | (have e_ := (Kd.R_reads' HO_42.out).1; omega))
                                    obtain ⟨ve314_1, ve314_3, rfl, ge314_1, ge314_3⟩ := k52_openM hMe314
                                    have hv314_1 := hcc314 1 _ rfl
                                    rw [add_field _ _ 1 (by omega)] at hv314_1
                                    replace hv314_1 := Option.some.inj (hv314_1.symm.trans hx314_1)
                                    rw [hv314_1] at ge314_1
                                    have HL314_1 := Aside0.mk (show Kd.R k99 99 _ _ _ _ ((rd_T52 t301 x44_3).f1) from ge314_1)
                                    clear hv314_1 ge314_1
                                    have hv314_3 := hcc314 3 _ rfl
                                    rw [add_field _ _ 3 (by omega)] at hv314_3
                                    replace hv314_3 := Option.some.inj (hv314_3.symm.trans hx314_3)
                                    rw [hv314_3] at ge314_3
                                    have HL314_3 := Aside0.mk (show Kd.R k52 52 _ _ _ _ ((rd_T52 t301 x44_3).f3) from ge314_3)
                                    clear hv314_3 ge314_3
                                    clear hcc314 hce314
                                    have HR314_1 := Aside0.mk hi314_1
                                    have HC314_1 := Aside0.mk hl314_1
                                    clear hi314_1 hl314_1
                                    have HR314_3 := Aside0.mk hi314_3
                                    have HC314_3 := Aside0.mk hl314_3
                                    clear hi314_3 hl314_3
                                    replace p314 := eq_true p314
                                    replace q314 := eq_true q314
                                    go_wp2_with (first | ((with_reducible refine gate_dst (N := 8) rfl ?_); refine box_event ?hg (N := 8) ?hd (cs := #[.string (⟨#[]⟩ : ByteArray), .slice none 0 0, .string (⟨#[]⟩ : ByteArray), .slice none 0 0]) (t := 52) ?hr ?_; (case hd => rfl); (case hg => rfl); (case hr => first | (go_simp; done) | (go_simp; rfl)); intro gb315 hg w57 hbox hb; have n0_ := Aside0.mk (Kd.R_below (Kd.R_elderB (by (with_reducible repeat (first | apply Kd.R_alloc | apply Kd.R_drewN | apply Kd.R_drew)); exact HO_5.out) gb315 (Nat.le_of_eq hg.symm)) hb); have n1_ := Aside0.mk (Kd.R_below (Kd.R_elderB (by (with_reducible repeat (first | apply Kd.R_alloc | apply Kd.R_drewN | apply Kd.R_drew)); exact HO_42.out) gb315 (Nat.le_of_eq hg.symm)) hb); have n2_ := Aside0.mk (Kd.R_below (by (with_reducible repeat (first | apply Kd.R_alloc | apply Kd.R_drewN | apply Kd.R_drew)); exact HL314_1.out) hb); have n3_ := Aside0.mk (Kd.R_below (Kd.R_elderB (by (with_reducible repeat (first | apply Kd.R_alloc | apply Kd.R_drewN | apply Kd.R_drew)); exact HL314_3.out) gb315 (Nat.le_of_eq hg.symm)) hb); have n4_ := Aside0.mk (Kd.C_below (by repeat (first | (with_reducible exact HR314_1.out) | (with_reducible refine Kd.C_alloc ?_ _) | (with_reducible refine Kd.C_drewN ?_ _) | (with_reducible refine Kd.C_drew ?_) | exact HR314_1.out)) hb); have n5_ := Aside0.mk (Kd.C_below (by repeat (first | (with_reducible exact HR314_3.out) | (with_reducible refine Kd.C_alloc ?_ _) | (with_reducible refine Kd.C_drewN ?_ _) | (with_reducible refine Kd.C_drew ?_) | exact HR314_3.out)) hb); have n6_ := Aside0.mk (below_step (by repeat (first | (with_reducible first | exact HB.out | apply below_alloc | apply pw_below_drewN | apply below_drew1) | exact HB.out)) hb); have n7_ := Aside0.mk (hbox); have n8_ := Aside0.mk ((by rw [hg]; exact (below_size (by repeat (first | (with_reducible first | exact HB.out | apply below_alloc | apply pw_below_drewN | apply below_drew1) | exact HB.out))) : w.heap.size ≤ gb315)); have n9_ := Aside0.mk ((by rw [hg]; exact (below_size (by repeat (first | (with_reducible first | exact HB.out | apply below_alloc | apply pw_below_drewN | apply below_drew1) | exact HB.out))) : w.heap.size ≤ gb315)); clear HO_5; clear HO_42; clear HL314_1; clear HL314_3; clear HR314_1; clear HR314_3; clear HB; have HO_5 := n0_; have HO_42 := n1_; have HL314_1 := n2_; have HL314_3 := n3_; have HR314_1 := n4_; have HR314_3 := n5_; have HB := n6_; have BK315 := n7_; have GW315 := n8_; have GE315 := n9_; clear n0_ n1_ n2_ n3_ n4_ n5_ n6_ n7_ n8_ n9_; clear hb hbox hg; have hcz58_0 : w57.cell? ⟨gb315, 0, none⟩ = some (.string (⟨#[]⟩ : ByteArray)) := (blk_cell BK315.out 0).trans rfl; have hcz58_1 : w57.cell? ⟨gb315, 1, none⟩ = some (.slice none 0 0) := (blk_cell BK315.out 1).trans rfl; have hcz58_2 : w57.cell? ⟨gb315, 2, none⟩ = some (.string (⟨#[]⟩ : ByteArray)) := (blk_cell BK315.out 2).trans rfl; have hcz58_3 : w57.cell? ⟨gb315, 3, none⟩ = some (.slice none 0 0) := (blk_cell BK315.out 3).trans rfl; have hfz58_0 := blk_frozen BK315.out 0; have hfz58_1 := blk_frozen BK315.out 1; have hfz58_2 := blk_frozen BK315.out 2; have hfz58_3 := blk_frozen BK315.out 3) | ((with_reducible refine gate_store (t := 52) (p := 8) rfl ?_); refine store_event (t := 52) (p := 8) (v := ?vo_w59) (w1 := ((((w57.setCell ⟨gb315, 0, none⟩ (.string ((rd_T52 t301 x44_3).f0))).setCell ⟨gb315, 1, none⟩ (.slice A314_1 ((rd_T52 t301 x44_3).f1).length c314_1)).setCell ⟨gb315, 2, none⟩ (.string ((rd_T52 t301 x44_3).f2))).setCell ⟨gb315, 3, none⟩ (.slice A314_3 ((rd_T52 t301 x44_3).f3).length c314_3))) ?hg ?ho ?hn ?hr ?_; (case ho => rfl); (case hg => rfl); (case hn => rfl); (case hr => first | (go_simp; done) | (go_simp; rfl)); intro w59 hw; have n0_ : Aside0 (Kd.R k52 52 w59 w.heap.size (fun k_ => k_ ≠ gb315) (.slice (some ad314) t301.length co20) t301) := ⟨(by rw [hw]; exact (by (with_reducible repeat (first | apply Kd.R_alloc | apply Kd.R_drewN | apply Kd.R_drew)); exact Kd.R_mono (Kd.R_far (p := ⟨gb315, 3, none⟩) (Kd.R_far (p := ⟨gb315, 2, none⟩) (Kd.R_far (p := ⟨gb315, 1, none⟩) (Kd.R_far (p := ⟨gb315, 0, none⟩) (Kd.R_mono HO_5.out (fun k_ hk => (⟨hk, hk.2⟩ : _ ∧ k_ ≠ gb315))) (fun _ hk => hk.2) (.string ((rd_T52 t301 x44_3).f0))) (fun _ hk => hk.2) (.slice A314_1 ((rd_T52 t301 x44_3).f1).length c314_1)) (fun _ hk => hk.2) (.string ((rd_T52 t301 x44_3).f2))) (fun _ hk => hk.2) (.slice A314_3 ((rd_T52 t301 x44_3).f3).length c314_3)) (fun _ hk => hk.1.2)))⟩; have n1_ : Aside0 (Kd.R k52 52 w59 w.heap.size (fun k_ => k_ ≠ gb315) (.slice (some ad314) t301.length co20) t301) := ⟨(by rw [hw]; exact (by (with_reducible repeat (first | apply Kd.R_alloc | apply Kd.R_drewN | apply Kd.R_drew)); exact Kd.R_mono (Kd.R_far (p := ⟨gb315, 3, none⟩) (Kd.R_far (p := ⟨gb315, 2, none⟩) (Kd.R_far (p := ⟨gb315, 1, none⟩) (Kd.R_far (p := ⟨gb315, 0, none⟩) (Kd.R_mono HO_42.out (fun k_ hk => (⟨hk, hk.2⟩ : _ ∧ k_ ≠ gb315))) (fun _ hk => hk.2) (.string ((rd_T52 t301 x44_3).f0))) (fun _ hk => hk.2) (.slice A314_1 ((rd_T52 t301 x44_3).f1).length c314_1)) (fun _ hk => hk.2) (.string ((rd_T52 t301 x44_3).f2))) (fun _ hk => hk.2) (.slice A314_3 ((rd_T52 t301 x44_3).f3).length c314_3)) (fun _ hk => hk.1.2)))⟩; have n2_ : Aside0 (Kd.R k99 99 w59 w.heap.size (fun k_ => some k_ ≠ (.slice (some ad314) t301.length co20 : Value).ownBlock) (.slice A314_1 ((rd_T52 t301 x44_3).f1).length c314_1) ((rd_T52 t301 x44_3).f1)) := ⟨(by rw [hw]; exact (by (with_reducible repeat (first | apply Kd.R_alloc | apply Kd.R_drewN | apply Kd.R_drew)); exact Kd.R_mono (Kd.R_far (p := ⟨gb315, 3, none⟩) (Kd.R_far (p := ⟨gb315, 2, none⟩) (Kd.R_far (p := ⟨gb315, 1, none⟩) (Kd.R_far (p := ⟨gb315, 0, none⟩) (Kd.R_types HL314_1.out BK315.out (by decide)) (fun _ hk => hk.2) (.string ((rd_T52 t301 x44_3).f0))) (fun _ hk => hk.2) (.slice A314_1 ((rd_T52 t301 x44_3).f1).length c314_1)) (fun _ hk => hk.2) (.string ((rd_T52 t301 x44_3).f2))) (fun _ hk => hk.2) (.slice A314_3 ((rd_T52 t301 x44_3).f3).length c314_3)) (fun _ hk => hk.1.2)))⟩; have n3_ : Aside0 (Kd.R k52 52 w59 w.heap.size (fun k_ => some k_ ≠ (.slice (some ad314) t301.length co20 : Value).ownBlock ∧ k_ ≠ gb315) (.slice A314_3 ((rd_T52 t301 x44_3).f3).length c314_3) ((rd_T52 t301 x44_3).f3)) := ⟨(by rw [hw]; exact (by (with_reducible repeat (first | apply Kd.R_alloc | apply Kd.R_drewN | apply Kd.R_drew)); exact Kd.R_mono (Kd.R_far (p := ⟨gb315, 3, none⟩) (Kd.R_far (p := ⟨gb315, 2, none⟩) (Kd.R_far (p := ⟨gb315, 1, none⟩) (Kd.R_far (p := ⟨gb315, 0, none⟩) (Kd.R_mono HL314_3.out (fun k_ hk => (⟨hk, hk.2⟩ : _ ∧ k_ ≠ gb315))) (fun _ hk => hk.2) (.string ((rd_T52 t301 x44_3).f0))) (fun _ hk => hk.2) (.slice A314_1 ((rd_T52 t301 x44_3).f1).length c314_1)) (fun _ hk => hk.2) (.string ((rd_T52 t301 x44_3).f2))) (fun _ hk => hk.2) (.slice A314_3 ((rd_T52 t301 x44_3).f3).length c314_3)) (fun _ hk => ⟨hk.1.1.2, hk.1.2⟩)))⟩; have n4_ : Aside0 (w59.heap[gb315]? = some (.cells #[.string ((rd_T52 t301 x44_3).f0), .slice A314_1 ((rd_T52 t301 x44_3).f1).length c314_1, .string ((rd_T52 t301 x44_3).f2), .slice A314_3 ((rd_T52 t301 x44_3).f3).length c314_3] 52 (0, 0))) := ⟨(by rw [hw]; exact (by (with_reducible repeat (first | refine blk_drewN ?_ _ | refine blk_drew ?_ | refine blk_alloc ?_ _)); refine blk_put (cs := #[.string ((rd_T52 t301 x44_3).f0), .slice A314_1 ((rd_T52 t301 x44_3).f1).length c314_1, .string ((rd_T52 t301 x44_3).f2), .slice none 0 0]) ?_ 3 _ rfl; (with_reducible repeat (first | refine blk_drewN ?_ _ | refine blk_drew ?_ | refine blk_alloc ?_ _)); refine blk_put (cs := #[.string ((rd_T52 t301 x44_3).f0), .slice A314_1 ((rd_T52 t301 x44_3).f1).length c314_1, .string (⟨#[]⟩ : ByteArray), .slice none 0 0]) ?_ 2 _ rfl; (with_reducible repeat (first | refine blk_drewN ?_ _ | refine blk_drew ?_ | refine blk_alloc ?_ _)); refine blk_put (cs := #[.string ((rd_T52 t301 x44_3).f0), .slice none 0 0, .string (⟨#[]⟩ : ByteArray), .slice none 0 0]) ?_ 1 _ rfl; (with_reducible repeat (first | refine blk_drewN ?_ _ | refine blk_drew ?_ | refine blk_alloc ?_ _)); refine blk_put (cs := #[.string (⟨#[]⟩ : ByteArray), .slice none 0 0, .string (⟨#[]⟩ : ByteArray), .slice none 0 0]) ?_ 0 _ rfl; (with_reducible repeat (first | refine blk_drewN ?_ _ | refine blk_drew ?_ | refine blk_alloc ?_ _)); exact BK315.out))⟩; have n5_ : Aside0 (Below w.heap.size w w59) := ⟨(by rw [hw]; exact (by repeat (first | (with_reducible first | exact HB.out | apply below_alloc | apply pw_below_drewN | apply below_drew1 | refine below_set ?_ GE315.out) | exact HB.out)))⟩; clear hw; clear HO_5; clear HO_42; clear HL314_1; clear HL314_3; clear BK315; clear HB; have HO_5 := n0_; have HO_42 := n1_; have HL314_1 := n2_; have HL314_3 := n3_; have BK315 := n4_; have HB := n5_; clear n0_ n1_ n2_ n3_ n4_ n5_; have hcz60_0 : w59.cell? ⟨gb315, 0, none⟩ = some (.string ((rd_T52 t301 x44_3).f0)) := (blk_cell BK315.out 0).trans rfl; have hcz60_1 : w59.cell? ⟨gb315, 1, none⟩ = some (.slice A314_1 ((rd_T52 t301 x44_3).f1).length c314_1) := (blk_cell BK315.out 1).trans rfl; have hcz60_2 : w59.cell? ⟨gb315, 2, none⟩ = some (.string ((rd_T52 t301 x44_3).f2)) := (blk_cell BK315.out 2).trans rfl; have hcz60_3 : w59.cell? ⟨gb315, 3, none⟩ = some (.slice A314_3 ((rd_T52 t301 x44_3).f3).length c314_3) := (blk_cell BK315.out 3).trans rfl; have hfz60_0 := blk_frozen BK315.out 0; have hfz60_1 := blk_frozen BK315.out 1; have hfz60_2 := blk_frozen BK315.out 2; have hfz60_3 := blk_frozen BK315.out 3; have q61 : ((wrap64 (x44_3 + 1)) : Int) ≤ ((t301.length : Int) : Int) := of_decide_eq_true (by first | (with_reducible assumption) | assumption); obtain ⟨i061, hi061, _, hsz61, _⟩ := info_parts info52; have hroom61 : t301.length ≤ co20 := (Kd.R_reads' HO_5.out).2.1; have hC61 : Kd.C k52 _ (some ad314) t301.length t301 := (Kd.R_reads' HO_5.out).2.2; have ql61 : (x44_3 : Int) ≤ ((wrap64 (x44_3 + 1)) : Int) := of_decide_eq_true (by first | (with_reducible assumption) | assumption); have q061 : (0 : Int) ≤ (x44_3 : Int) := of_decide_eq_true (by first | (with_reducible assumption) | assumption); have hcut61 := cut_mid (P := Tryd.prog) 47 52 .i64 .i64 Tryd.underlying47 hi061 4 hsz61 (some ad314) t301.length co20 x44_3 (wrap64 (x44_3 + 1)) q061 ql61 q61 hroom61; have hr61 := Kd.C_mid (lo := (x44_3 : Int).toNat) (hi := ((wrap64 (x44_3 + 1)) : Int).toNat) (c := co20) hC61 (by omega) (by omega) hroom61; obtain ⟨A61, hA61⟩ : ∃ A1, A1 = (if co20 = (x44_3 : Int).toNat then (some ad314) else ((some ad314) : Option Addr).map (·.add ((x44_3 : Int).toNat * 4))) := ⟨_, rfl⟩; obtain ⟨c61, hc61⟩ : ∃ c1, c1 = co20 - (x44_3 : Int).toNat := ⟨_, rfl⟩; have hy61 : y316.length = ((wrap64 (x44_3 + 1)) : Int).toNat - (x44_3 : Int).toNat := (by rw [Ny316.out, List.length_drop, List.length_take] <;> omega); rw [show ((t301).take ((wrap64 (x44_3 + 1)) : Int).toNat).drop (x44_3 : Int).toNat = y316 from Ny316.out.symm] at hr61; replace hr61 : Kd.C k52 _ A61 y316.length y316 := (by rw [hA61]; exact hr61); rw [← hy61, ← hA61, ← hc61] at hcut61; have HR319 := Aside0.mk hr61; have HC319 := Aside0.mk (show y316.length ≤ c61 from by rw [hy61, hc61]; exact Nat.sub_le_sub_right (Nat.le_trans (by omega) hroom61) _); clear hr61 hC61 hroom61 hi061 hsz61 hc61; have KY61 := Aside0.mk hy61; have KA61 := Aside0.mk hA61; clear hy61 hA61; have KL61 := Aside0.mk (show ((wrap64 (x44_3 + 1)) : Int).toNat ≤ t301.length from by omega); have KM61 := Aside0.mk (show (x44_3 : Int).toNat ≤ ((wrap64 (x44_3 + 1)) : Int).toNat from by omega); replace q61 := eq_true q61; have cc_ := Aside0.mk (Kd.R_reads' HL314_1.out).2.2; clear HR314_1; have HR314_1 := cc_; clear cc_; have cc_ := Aside0.mk (Kd.R_reads' HL314_3.out).2.2; clear HR314_3; have HR314_3 := cc_; clear cc_) | ((with_reducible refine gate_callee (f := 30) rfl ?_); refine goesL_ (some 57) rfl rfl Tryd.func30 (by kernel_rfl) rfl #[.slice A61 y316.length c61] rfl (by (try simp only [List.map_toArray, List.map_cons, List.map_nil]); first | done | rfl | (simp only [List.length_drop, List.length_take]; rfl)) ?_; (with_reducible refine (fit_Sound.calls k3 _ _ y316 true _ ?side1 ?side2 ?side3 A45.out).mono ?_); (case side1 => repeat (first | exact (by repeat (first | (with_reducible exact HR319.out) | (with_reducible refine Kd.C_alloc ?_ _) | (with_reducible refine Kd.C_drewN ?_ _) | (with_reducible refine Kd.C_drew ?_) | exact HR319.out)) | (with_reducible refine Kd.C_alloc ?_ _) | (with_reducible refine Kd.C_drewN ?_ _) | (with_reducible refine Kd.C_drew ?_))); (case side2 => exact HC319.out); (case side3 => exact GW.below HG.out (by repeat (first | (with_reducible first | exact HB.out | apply below_alloc | apply pw_below_drewN | apply below_drew1 | refine below_set ?_ GE315.out) | exact HB.out))); rintro e w62 ⟨rfl, hb⟩; refine ⟨_, rfl, ?_⟩; have n0_ := Aside0.mk (Kd.R_below (by (with_reducible repeat (first | apply Kd.R_alloc | apply Kd.R_drewN | apply Kd.R_drew)); exact HO_5.out) hb); have n1_ := Aside0.mk (Kd.R_below (by (with_reducible repeat (first | apply Kd.R_alloc | apply Kd.R_drewN | apply Kd.R_drew)); exact HO_42.out) hb); have n2_ := Aside0.mk (Kd.R_below (by (with_reducible repeat (first | apply Kd.R_alloc | apply Kd.R_drewN | apply Kd.R_drew)); exact HL314_1.out) hb); have n3_ := Aside0.mk (Kd.R_below (by (with_reducible repeat (first | apply Kd.R_alloc | apply Kd.R_drewN | apply Kd.R_drew)); exact HL314_3.out) hb); have n4_ := Aside0.mk (Kd.C_below (by repeat (first | (with_reducible exact HR314_1.out) | (with_reducible refine Kd.C_alloc ?_ _) | (with_reducible refine Kd.C_drewN ?_ _) | (with_reducible refine Kd.C_drew ?_) | exact HR314_1.out)) hb); have n5_ := Aside0.mk (Kd.C_below (by repeat (first | (with_reducible exact HR314_3.out) | (with_reducible refine Kd.C_alloc ?_ _) | (with_reducible refine Kd.C_drewN ?_ _) | (with_reducible refine Kd.C_drew ?_) | exact HR314_3.out)) hb); have n6_ := Aside0.mk (blk_below (g := gb315) (o := .cells #[.string ((rd_T52 t301 x44_3).f0), .slice A314_1 ((rd_T52 t301 x44_3).f1).length c314_1, .string ((rd_T52 t301 x44_3).f2), .slice A314_3 ((rd_T52 t301 x44_3).f3).length c314_3] 52 (0, 0)) (by (with_reducible repeat (first | refine blk_drewN ?_ _ | refine blk_drew ?_ | refine blk_alloc ?_ _)); exact BK315.out) hb); have n7_ := Aside0.mk (Kd.C_below (by repeat (first | (with_reducible exact HR319.out) | (with_reducible refine Kd.C_alloc ?_ _) | (with_reducible refine Kd.C_drewN ?_ _) | (with_reducible refine Kd.C_drew ?_) | exact HR319.out)) hb); have n8_ := Aside0.mk (below_step (by repeat (first | (with_reducible first | exact HB.out | apply below_alloc | apply pw_below_drewN | apply below_drew1 | refine below_set ?_ GE315.out) | exact HB.out)) hb); clear HO_5; clear HO_42; clear HL314_1; clear HL314_3; clear HR314_1; clear HR314_3; clear BK315; clear HR319; clear HB; have HO_5 := n0_; have HO_42 := n1_; have HL314_1 := n2_; have HL314_3 := n3_; have HR314_1 := n4_; have HR314_3 := n5_; have BK315 := n6_; have HR319 := n7_; have HB := n8_; clear n0_ n1_ n2_ n3_ n4_ n5_ n6_ n7_ n8_; (try clear hb); (try clear hb2); (try clear hk); (try clear hi); have hcz63_0 : w62.cell? ⟨gb315, 0, none⟩ = some (.string ((rd_T52 t301 x44_3).f0)) := (blk_cell BK315.out 0).trans rfl; have hcz63_1 : w62.cell? ⟨gb315, 1, none⟩ = some (.slice A314_1 ((rd_T52 t301 x44_3).f1).length c314_1) := (blk_cell BK315.out 1).trans rfl; have hcz63_2 : w62.cell? ⟨gb315, 2, none⟩ = some (.string ((rd_T52 t301 x44_3).f2)) := (blk_cell BK315.out 2).trans rfl; have hcz63_3 : w62.cell? ⟨gb315, 3, none⟩ = some (.slice A314_3 ((rd_T52 t301 x44_3).f3).length c314_3) := (blk_cell BK315.out 3).trans rfl; have hfz63_0 := blk_frozen BK315.out 0; have hfz63_1 := blk_frozen BK315.out 1; have hfz63_2 := blk_frozen BK315.out 2; have hfz63_3 := blk_frozen BK315.out 3) | (go_at_call 30; (with_reducible refine (fit_Sound.calls k3 _ _ ((rd_T52 t301 x44_3).f3) false _ ?side1 ?side2 ?side3 A47.out).mono ?_); (case side1 => repeat (first | exact (by repeat (first | (with_reducible exact HR314_3.out) | (with_reducible refine Kd.C_alloc ?_ _) | (with_reducible refine Kd.C_drewN ?_ _) | (with_reducible refine Kd.C_drew ?_) | exact HR314_3.out)) | (with_reducible refine Kd.C_alloc ?_ _) | (with_reducible refine Kd.C_drewN ?_ _) | (with_reducible refine Kd.C_drew ?_))); (case side2 => exact HC314_3.out); (case side3 => exact GW.below HG.out (by repeat (first | (with_reducible first | exact HB.out | apply below_alloc | apply pw_below_drewN | apply below_drew1 | refine below_set ?_ GE315.out) | exact HB.out))); rintro e w64 ⟨rfl, hb⟩; have n0_ := Aside0.mk (Kd.R_below (by (with_reducible repeat (first | apply Kd.R_alloc | apply Kd.R_drewN | apply Kd.R_drew)); exact HO_5.out) hb); have n1_ := Aside0.mk (Kd.R_below (by (with_reducible repeat (first | apply Kd.R_alloc | apply Kd.R_drewN | apply Kd.R_drew)); exact HO_42.out) hb); have n2_ := Aside0.mk (Kd.R_below (by (with_reducible repeat (first | apply Kd.R_alloc | apply Kd.R_drewN | apply Kd.R_drew)); exact HL314_1.out) hb); have n3_ := Aside0.mk (Kd.R_below (by (with_reducible repeat (first | apply Kd.R_alloc | apply Kd.R_drewN | apply Kd.R_drew)); exact HL314_3.out) hb); have n4_ := Aside0.mk (Kd.C_below (by repeat (first | (with_reducible exact HR314_1.out) | (with_reducible refine Kd.C_alloc ?_ _) | (with_reducible refine Kd.C_drewN ?_ _) | (with_reducible refine Kd.C_drew ?_) | exact HR314_1.out)) hb); have n5_ := Aside0.mk (Kd.C_below (by repeat (first | (with_reducible exact HR314_3.out) | (with_reducible refine Kd.C_alloc ?_ _) | (with_reducible refine Kd.C_drewN ?_ _) | (with_reducible refine Kd.C_drew ?_) | exact HR314_3.out)) hb); have n6_ := Aside0.mk (blk_below (g := gb315) (o := .cells #[.string ((rd_T52 t301 x44_3).f0), .slice A314_1 ((rd_T52 t301 x44_3).f1).length c314_1, .string ((rd_T52 t301 x44_3).f2), .slice A314_3 ((rd_T52 t301 x44_3).f3).length c314_3] 52 (0, 0)) (by (with_reducible repeat (first | refine blk_drewN ?_ _ | refine blk_drew ?_ | refine blk_alloc ?_ _)); exact BK315.out) hb); have n7_ := Aside0.mk (Kd.C_below (by repeat (first | (with_reducible exact HR319.out) | (with_reducible refine Kd.C_alloc ?_ _) | (with_reducible refine Kd.C_drewN ?_ _) | (with_reducible refine Kd.C_drew ?_) | exact HR319.out)) hb); have n8_ := Aside0.mk (below_step (by repeat (first | (with_reducible first | exact HB.out | apply below_alloc | apply pw_below_drewN | apply below_drew1 | refine below_set ?_ GE315.out) | exact HB.out)) hb); clear HO_5; clear HO_42; clear HL314_1; clear HL314_3; clear HR314_1; clear HR314_3; clear BK315; clear HR319; clear HB; have HO_5 := n0_; have HO_42 := n1_; have HL314_1 := n2_; have HL314_3 := n3_; have HR314_1 := n4_; have HR314_3 := n5_; have BK315 := n6_; have HR319 := n7_; have HB := n8_; clear n0_ n1_ n2_ n3_ n4_ n5_ n6_ n7_ n8_; (try clear hb); (try clear hb2); (try clear hk); (try clear hi)))
                                    go_ret
                                    exact ⟨by first | rfl | (simp [errW_none, errW_some] <;> rfl) | (simp [*, errW_none, errW_some] <;> rfl), by repeat (first | (with_reducible first | exact HB.out | apply below_alloc | apply pw_below_drewN | apply below_drew1 | refine below_set ?_ GE315.out) | exact HB.out)⟩
                                · replace c46 := Bool.eq_false_iff.mpr c46
                                  subst c46
                                  have H1 : (some false) = some r := by rw [if_neg (show ¬ (false = true) by decide)] at H; exact H
                                  clear H
                                  have H := H1
                                  clear H1
                                  obtain rfl := Option.some.inj H
                                  have p314 : 0 ≤ (x44_3 : Int) := of_decide_eq_true (by first | (with_reducible assumption) | assumption)
                                  have q314 : x44_3 < (t301.length : Int) := of_decide_eq_true (by first | (with_reducible assumption) | assumption)
                                  obtain ⟨ad314, A314_1, c314_1, A314_3, c314_3, e314, hx314_0, hx314_1, hx314_2, hx314_3, hl314_1, hi314_1, hl314_3, hi314_3⟩ := at_T52 (Kd.R_reads' HO_42.out).2.2 x44_3 p314 q314
                                  cases e314
                                  obtain ⟨ce314, hce314, hMe314, hcc314⟩ := Kd.R_get HO_42.out z52 x44_3 p314 (by first | exact q314 | exact of_decide_eq_true (by first | (with_reducible assumption) | assumption) | (have e_ := (Kd.R_reads' HO_42.out).1; omega))
                                  obtain ⟨ve314_1, ve314_3, rfl, ge314_1, ge314_3⟩ := k52_openM hMe314
                                  have hv314_1 := hcc314 1 _ rfl
                                  rw [add_field _ _ 1 (by omega)] at hv314_1
                                  replace hv314_1 := Option.some.inj (hv314_1.symm.trans hx314_1)
                                  rw [hv314_1] at ge314_1
                                  have HL314_1 := Aside0.mk (show Kd.R k99 99 _ _ _ _ ((rd_T52 t301 x44_3).f1) from ge314_1)
                                  clear hv314_1 ge314_1
                                  have hv314_3 := hcc314 3 _ rfl
                                  rw [add_field _ _ 3 (by omega)] at hv314_3
                                  replace hv314_3 := Option.some.inj (hv314_3.symm.trans hx314_3)
                                  rw [hv314_3] at ge314_3
                                  have HL314_3 := Aside0.mk (show Kd.R k52 52 _ _ _ _ ((rd_T52 t301 x44_3).f3) from ge314_3)
                                  clear hv314_3 ge314_3
                                  clear hcc314 hce314
                                  have HR314_1 := Aside0.mk hi314_1
                                  have HC314_1 := Aside0.mk hl314_1
                                  clear hi314_1 hl314_1
                                  have HR314_3 := Aside0.mk hi314_3
                                  have HC314_3 := Aside0.mk hl314_3
                                  clear hi314_3 hl314_3
                                  replace p314 := eq_true p314
                                  replace q314 := eq_true q314
                                  go_wp2_with (first | ((with_reducible refine gate_dst (N := 8) rfl ?_); refine box_event ?hg (N := 8) ?hd (cs := #[.string (⟨#[]⟩ : ByteArray), .slice none 0 0, .string (⟨#[]⟩ : ByteArray), .slice none 0 0]) (t := 52) ?hr ?_; (case hd => rfl); (case hg => rfl); (case hr => first | (go_simp; done) | (go_simp; rfl)); intro gb315 hg w65 hbox hb; have n0_ := Aside0.mk (Kd.R_below (Kd.R_elderB (by (with_reducible repeat (first | apply Kd.R_alloc | apply Kd.R_drewN | apply Kd.R_drew)); exact HO_5.out) gb315 (Nat.le_of_eq hg.symm)) hb); have n1_ := Aside0.mk (Kd.R_below (Kd.R_elderB (by (with_reducible repeat (first | apply Kd.R_alloc | apply Kd.R_drewN | apply Kd.R_drew)); exact HO_42.out) gb315 (Nat.le_of_eq hg.symm)) hb); have n2_ := Aside0.mk (Kd.R_below (by (with_reducible repeat (first | apply Kd.R_alloc | apply Kd.R_drewN | apply Kd.R_drew)); exact HL314_1.out) hb); have n3_ := Aside0.mk (Kd.R_below (Kd.R_elderB (by (with_reducible repeat (first | apply Kd.R_alloc | apply Kd.R_drewN | apply Kd.R_drew)); exact HL314_3.out) gb315 (Nat.le_of_eq hg.symm)) hb); have n4_ := Aside0.mk (Kd.C_below (by repeat (first | (with_reducible exact HR314_1.out) | (with_reducible refine Kd.C_alloc ?_ _) | (with_reducible refine Kd.C_drewN ?_ _) | (with_reducible refine Kd.C_drew ?_) | exact HR314_1.out)) hb); have n5_ := Aside0.mk (Kd.C_below (by repeat (first | (with_reducible exact HR314_3.out) | (with_reducible refine Kd.C_alloc ?_ _) | (with_reducible refine Kd.C_drewN ?_ _) | (with_reducible refine Kd.C_drew ?_) | exact HR314_3.out)) hb); have n6_ := Aside0.mk (below_step (by repeat (first | (with_reducible first | exact HB.out | apply below_alloc | apply pw_below_drewN | apply below_drew1) | exact HB.out)) hb); have n7_ := Aside0.mk (hbox); have n8_ := Aside0.mk ((by rw [hg]; exact (below_size (by repeat (first | (with_reducible first | exact HB.out | apply below_alloc | apply pw_below_drewN | apply below_drew1) | exact HB.out))) : w.heap.size ≤ gb315)); have n9_ := Aside0.mk ((by rw [hg]; exact (below_size (by repeat (first | (with_reducible first | exact HB.out | apply below_alloc | apply pw_below_drewN | apply below_drew1) | exact HB.out))) : w.heap.size ≤ gb315)); clear HO_5; clear HO_42; clear HL314_1; clear HL314_3; clear HR314_1; clear HR314_3; clear HB; have HO_5 := n0_; have HO_42 := n1_; have HL314_1 := n2_; have HL314_3 := n3_; have HR314_1 := n4_; have HR314_3 := n5_; have HB := n6_; have BK315 := n7_; have GW315 := n8_; have GE315 := n9_; clear n0_ n1_ n2_ n3_ n4_ n5_ n6_ n7_ n8_ n9_; clear hb hbox hg; have hcz66_0 : w65.cell? ⟨gb315, 0, none⟩ = some (.string (⟨#[]⟩ : ByteArray)) := (blk_cell BK315.out 0).trans rfl; have hcz66_1 : w65.cell? ⟨gb315, 1, none⟩ = some (.slice none 0 0) := (blk_cell BK315.out 1).trans rfl; have hcz66_2 : w65.cell? ⟨gb315, 2, none⟩ = some (.string (⟨#[]⟩ : ByteArray)) := (blk_cell BK315.out 2).trans rfl; have hcz66_3 : w65.cell? ⟨gb315, 3, none⟩ = some (.slice none 0 0) := (blk_cell BK315.out 3).trans rfl; have hfz66_0 := blk_frozen BK315.out 0; have hfz66_1 := blk_frozen BK315.out 1; have hfz66_2 := blk_frozen BK315.out 2; have hfz66_3 := blk_frozen BK315.out 3) | ((with_reducible refine gate_store (t := 52) (p := 8) rfl ?_); refine store_event (t := 52) (p := 8) (v := ?vo_w67) (w1 := ((((w65.setCell ⟨gb315, 0, none⟩ (.string ((rd_T52 t301 x44_3).f0))).setCell ⟨gb315, 1, none⟩ (.slice A314_1 ((rd_T52 t301 x44_3).f1).length c314_1)).setCell ⟨gb315, 2, none⟩ (.string ((rd_T52 t301 x44_3).f2))).setCell ⟨gb315, 3, none⟩ (.slice A314_3 ((rd_T52 t301 x44_3).f3).length c314_3))) ?hg ?ho ?hn ?hr ?_; (case ho => rfl); (case hg => rfl); (case hn => rfl); (case hr => first | (go_simp; done) | (go_simp; rfl)); intro w67 hw; have n0_ : Aside0 (Kd.R k52 52 w67 w.heap.size (fun k_ => k_ ≠ gb315) (.slice (some ad314) t301.length co20) t301) := ⟨(by rw [hw]; exact (by (with_reducible repeat (first | apply Kd.R_alloc | apply Kd.R_drewN | apply Kd.R_drew)); exact Kd.R_mono (Kd.R_far (p := ⟨gb315, 3, none⟩) (Kd.R_far (p := ⟨gb315, 2, none⟩) (Kd.R_far (p := ⟨gb315, 1, none⟩) (Kd.R_far (p := ⟨gb315, 0, none⟩) (Kd.R_mono HO_5.out (fun k_ hk => (⟨hk, hk.2⟩ : _ ∧ k_ ≠ gb315))) (fun _ hk => hk.2) (.string ((rd_T52 t301 x44_3).f0))) (fun _ hk => hk.2) (.slice A314_1 ((rd_T52 t301 x44_3).f1).length c314_1)) (fun _ hk => hk.2) (.string ((rd_T52 t301 x44_3).f2))) (fun _ hk => hk.2) (.slice A314_3 ((rd_T52 t301 x44_3).f3).length c314_3)) (fun _ hk => hk.1.2)))⟩; have n1_ : Aside0 (Kd.R k52 52 w67 w.heap.size (fun k_ => k_ ≠ gb315) (.slice (some ad314) t301.length co20) t301) := ⟨(by rw [hw]; exact (by (with_reducible repeat (first | apply Kd.R_alloc | apply Kd.R_drewN | apply Kd.R_drew)); exact Kd.R_mono (Kd.R_far (p := ⟨gb315, 3, none⟩) (Kd.R_far (p := ⟨gb315, 2, none⟩) (Kd.R_far (p := ⟨gb315, 1, none⟩) (Kd.R_far (p := ⟨gb315, 0, none⟩) (Kd.R_mono HO_42.out (fun k_ hk => (⟨hk, hk.2⟩ : _ ∧ k_ ≠ gb315))) (fun _ hk => hk.2) (.string ((rd_T52 t301 x44_3).f0))) (fun _ hk => hk.2) (.slice A314_1 ((rd_T52 t301 x44_3).f1).length c314_1)) (fun _ hk => hk.2) (.string ((rd_T52 t301 x44_3).f2))) (fun _ hk => hk.2) (.slice A314_3 ((rd_T52 t301 x44_3).f3).length c314_3)) (fun _ hk => hk.1.2)))⟩; have n2_ : Aside0 (Kd.R k99 99 w67 w.heap.size (fun k_ => some k_ ≠ (.slice (some ad314) t301.length co20 : Value).ownBlock) (.slice A314_1 ((rd_T52 t301 x44_3).f1).length c314_1) ((rd_T52 t301 x44_3).f1)) := ⟨(by rw [hw]; exact (by (with_reducible repeat (first | apply Kd.R_alloc | apply Kd.R_drewN | apply Kd.R_drew)); exact Kd.R_mono (Kd.R_far (p := ⟨gb315, 3, none⟩) (Kd.R_far (p := ⟨gb315, 2, none⟩) (Kd.R_far (p := ⟨gb315, 1, none⟩) (Kd.R_far (p := ⟨gb315, 0, none⟩) (Kd.R_types HL314_1.out BK315.out (by decide)) (fun _ hk => hk.2) (.string ((rd_T52 t301 x44_3).f0))) (fun _ hk => hk.2) (.slice A314_1 ((rd_T52 t301 x44_3).f1).length c314_1)) (fun _ hk => hk.2) (.string ((rd_T52 t301 x44_3).f2))) (fun _ hk => hk.2) (.slice A314_3 ((rd_T52 t301 x44_3).f3).length c314_3)) (fun _ hk => hk.1.2)))⟩; have n3_ : Aside0 (Kd.R k52 52 w67 w.heap.size (fun k_ => some k_ ≠ (.slice (some ad314) t301.length co20 : Value).ownBlock ∧ k_ ≠ gb315) (.slice A314_3 ((rd_T52 t301 x44_3).f3).length c314_3) ((rd_T52 t301 x44_3).f3)) := ⟨(by rw [hw]; exact (by (with_reducible repeat (first | apply Kd.R_alloc | apply Kd.R_drewN | apply Kd.R_drew)); exact Kd.R_mono (Kd.R_far (p := ⟨gb315, 3, none⟩) (Kd.R_far (p := ⟨gb315, 2, none⟩) (Kd.R_far (p := ⟨gb315, 1, none⟩) (Kd.R_far (p := ⟨gb315, 0, none⟩) (Kd.R_mono HL314_3.out (fun k_ hk => (⟨hk, hk.2⟩ : _ ∧ k_ ≠ gb315))) (fun _ hk => hk.2) (.string ((rd_T52 t301 x44_3).f0))) (fun _ hk => hk.2) (.slice A314_1 ((rd_T52 t301 x44_3).f1).length c314_1)) (fun _ hk => hk.2) (.string ((rd_T52 t301 x44_3).f2))) (fun _ hk => hk.2) (.slice A314_3 ((rd_T52 t301 x44_3).f3).length c314_3)) (fun _ hk => ⟨hk.1.1.2, hk.1.2⟩)))⟩; have n4_ : Aside0 (w67.heap[gb315]? = some (.cells #[.string ((rd_T52 t301 x44_3).f0), .slice A314_1 ((rd_T52 t301 x44_3).f1).length c314_1, .string ((rd_T52 t301 x44_3).f2), .slice A314_3 ((rd_T52 t301 x44_3).f3).length c314_3] 52 (0, 0))) := ⟨(by rw [hw]; exact (by (with_reducible repeat (first | refine blk_drewN ?_ _ | refine blk_drew ?_ | refine blk_alloc ?_ _)); refine blk_put (cs := #[.string ((rd_T52 t301 x44_3).f0), .slice A314_1 ((rd_T52 t301 x44_3).f1).length c314_1, .string ((rd_T52 t301 x44_3).f2), .slice none 0 0]) ?_ 3 _ rfl; (with_reducible repeat (first | refine blk_drewN ?_ _ | refine blk_drew ?_ | refine blk_alloc ?_ _)); refine blk_put (cs := #[.string ((rd_T52 t301 x44_3).f0), .slice A314_1 ((rd_T52 t301 x44_3).f1).length c314_1, .string (⟨#[]⟩ : ByteArray), .slice none 0 0]) ?_ 2 _ rfl; (with_reducible repeat (first | refine blk_drewN ?_ _ | refine blk_drew ?_ | refine blk_alloc ?_ _)); refine blk_put (cs := #[.string ((rd_T52 t301 x44_3).f0), .slice none 0 0, .string (⟨#[]⟩ : ByteArray), .slice none 0 0]) ?_ 1 _ rfl; (with_reducible repeat (first | refine blk_drewN ?_ _ | refine blk_drew ?_ | refine blk_alloc ?_ _)); refine blk_put (cs := #[.string (⟨#[]⟩ : ByteArray), .slice none 0 0, .string (⟨#[]⟩ : ByteArray), .slice none 0 0]) ?_ 0 _ rfl; (with_reducible repeat (first | refine blk_drewN ?_ _ | refine blk_drew ?_ | refine blk_alloc ?_ _)); exact BK315.out))⟩; have n5_ : Aside0 (Below w.heap.size w w67) := ⟨(by rw [hw]; exact (by repeat (first | (with_reducible first | exact HB.out | apply below_alloc | apply pw_below_drewN | apply below_drew1 | refine below_set ?_ GE315.out) | exact HB.out)))⟩; clear hw; clear HO_5; clear HO_42; clear HL314_1; clear HL314_3; clear BK315; clear HB; have HO_5 := n0_; have HO_42 := n1_; have HL314_1 := n2_; have HL314_3 := n3_; have BK315 := n4_; have HB := n5_; clear n0_ n1_ n2_ n3_ n4_ n5_; have hcz68_0 : w67.cell? ⟨gb315, 0, none⟩ = some (.string ((rd_T52 t301 x44_3).f0)) := (blk_cell BK315.out 0).trans rfl; have hcz68_1 : w67.cell? ⟨gb315, 1, none⟩ = some (.slice A314_1 ((rd_T52 t301 x44_3).f1).length c314_1) := (blk_cell BK315.out 1).trans rfl; have hcz68_2 : w67.cell? ⟨gb315, 2, none⟩ = some (.string ((rd_T52 t301 x44_3).f2)) := (blk_cell BK315.out 2).trans rfl; have hcz68_3 : w67.cell? ⟨gb315, 3, none⟩ = some (.slice A314_3 ((rd_T52 t301 x44_3).f3).length c314_3) := (blk_cell BK315.out 3).trans rfl; have hfz68_0 := blk_frozen BK315.out 0; have hfz68_1 := blk_frozen BK315.out 1; have hfz68_2 := blk_frozen BK315.out 2; have hfz68_3 := blk_frozen BK315.out 3; have q69 : ((wrap64 (x44_3 + 1)) : Int) ≤ ((t301.length : Int) : Int) := of_decide_eq_true (by first | (with_reducible assumption) | assumption); obtain ⟨i069, hi069, _, hsz69, _⟩ := info_parts info52; have hroom69 : t301.length ≤ co20 := (Kd.R_reads' HO_5.out).2.1; have hC69 : Kd.C k52 _ (some ad314) t301.length t301 := (Kd.R_reads' HO_5.out).2.2; have ql69 : (x44_3 : Int) ≤ ((wrap64 (x44_3 + 1)) : Int) := of_decide_eq_true (by first | (with_reducible assumption) | assumption); have q069 : (0 : Int) ≤ (x44_3 : Int) := of_decide_eq_true (by first | (with_reducible assumption) | assumption); have hcut69 := cut_mid (P := Tryd.prog) 47 52 .i64 .i64 Tryd.underlying47 hi069 4 hsz69 (some ad314) t301.length co20 x44_3 (wrap64 (x44_3 + 1)) q069 ql69 q69 hroom69; have hr69 := Kd.C_mid (lo := (x44_3 : Int).toNat) (hi := ((wrap64 (x44_3 + 1)) : Int).toNat) (c := co20) hC69 (by omega) (by omega) hroom69; obtain ⟨A69, hA69⟩ : ∃ A1, A1 = (if co20 = (x44_3 : Int).toNat then (some ad314) else ((some ad314) : Option Addr).map (·.add ((x44_3 : Int).toNat * 4))) := ⟨_, rfl⟩; obtain ⟨c69, hc69⟩ : ∃ c1, c1 = co20 - (x44_3 : Int).toNat := ⟨_, rfl⟩; have hy69 : y316.length = ((wrap64 (x44_3 + 1)) : Int).toNat - (x44_3 : Int).toNat := (by rw [Ny316.out, List.length_drop, List.length_take] <;> omega); rw [show ((t301).take ((wrap64 (x44_3 + 1)) : Int).toNat).drop (x44_3 : Int).toNat = y316 from Ny316.out.symm] at hr69; replace hr69 : Kd.C k52 _ A69 y316.length y316 := (by rw [hA69]; exact hr69); rw [← hy69, ← hA69, ← hc69] at hcut69; have HR319 := Aside0.mk hr69; have HC319 := Aside0.mk (show y316.length ≤ c69 from by rw [hy69, hc69]; exact Nat.sub_le_sub_right (Nat.le_trans (by omega) hroom69) _); clear hr69 hC69 hroom69 hi069 hsz69 hc69; have KY69 := Aside0.mk hy69; have KA69 := Aside0.mk hA69; clear hy69 hA69; have KL69 := Aside0.mk (show ((wrap64 (x44_3 + 1)) : Int).toNat ≤ t301.length from by omega); have KM69 := Aside0.mk (show (x44_3 : Int).toNat ≤ ((wrap64 (x44_3 + 1)) : Int).toNat from by omega); replace q69 := eq_true q69; have cc_ := Aside0.mk (Kd.R_reads' HL314_1.out).2.2; clear HR314_1; have HR314_1 := cc_; clear cc_; have cc_ := Aside0.mk (Kd.R_reads' HL314_3.out).2.2; clear HR314_3; have HR314_3 := cc_; clear cc_) | ((with_reducible refine gate_callee (f := 30) rfl ?_); refine goesL_ (some 57) rfl rfl Tryd.func30 (by kernel_rfl) rfl #[.slice A69 y316.length c69] rfl (by (try simp only [List.map_toArray, List.map_cons, List.map_nil]); first | done | rfl | (simp only [List.length_drop, List.length_take]; rfl)) ?_; (with_reducible refine (fit_Sound.calls k3 _ _ y316 false _ ?side1 ?side2 ?side3 A45.out).mono ?_); (case side1 => repeat (first | exact (by repeat (first | (with_reducible exact HR319.out) | (with_reducible refine Kd.C_alloc ?_ _) | (with_reducible refine Kd.C_drewN ?_ _) | (with_reducible refine Kd.C_drew ?_) | exact HR319.out)) | (with_reducible refine Kd.C_alloc ?_ _) | (with_reducible refine Kd.C_drewN ?_ _) | (with_reducible refine Kd.C_drew ?_))); (case side2 => exact HC319.out); (case side3 => exact GW.below HG.out (by repeat (first | (with_reducible first | exact HB.out | apply below_alloc | apply pw_below_drewN | apply below_drew1 | refine below_set ?_ GE315.out) | exact HB.out))); rintro e w70 ⟨rfl, hb⟩; refine ⟨_, rfl, ?_⟩; have n0_ := Aside0.mk (Kd.R_below (by (with_reducible repeat (first | apply Kd.R_alloc | apply Kd.R_drewN | apply Kd.R_drew)); exact HO_5.out) hb); have n1_ := Aside0.mk (Kd.R_below (by (with_reducible repeat (first | apply Kd.R_alloc | apply Kd.R_drewN | apply Kd.R_drew)); exact HO_42.out) hb); have n2_ := Aside0.mk (Kd.R_below (by (with_reducible repeat (first | apply Kd.R_alloc | apply Kd.R_drewN | apply Kd.R_drew)); exact HL314_1.out) hb); have n3_ := Aside0.mk (Kd.R_below (by (with_reducible repeat (first | apply Kd.R_alloc | apply Kd.R_drewN | apply Kd.R_drew)); exact HL314_3.out) hb); have n4_ := Aside0.mk (Kd.C_below (by repeat (first | (with_reducible exact HR314_1.out) | (with_reducible refine Kd.C_alloc ?_ _) | (with_reducible refine Kd.C_drewN ?_ _) | (with_reducible refine Kd.C_drew ?_) | exact HR314_1.out)) hb); have n5_ := Aside0.mk (Kd.C_below (by repeat (first | (with_reducible exact HR314_3.out) | (with_reducible refine Kd.C_alloc ?_ _) | (with_reducible refine Kd.C_drewN ?_ _) | (with_reducible refine Kd.C_drew ?_) | exact HR314_3.out)) hb); have n6_ := Aside0.mk (blk_below (g := gb315) (o := .cells #[.string ((rd_T52 t301 x44_3).f0), .slice A314_1 ((rd_T52 t301 x44_3).f1).length c314_1, .string ((rd_T52 t301 x44_3).f2), .slice A314_3 ((rd_T52 t301 x44_3).f3).length c314_3] 52 (0, 0)) (by (with_reducible repeat (first | refine blk_drewN ?_ _ | refine blk_drew ?_ | refine blk_alloc ?_ _)); exact BK315.out) hb); have n7_ := Aside0.mk (Kd.C_below (by repeat (first | (with_reducible exact HR319.out) | (with_reducible refine Kd.C_alloc ?_ _) | (with_reducible refine Kd.C_drewN ?_ _) | (with_reducible refine Kd.C_drew ?_) | exact HR319.out)) hb); have n8_ := Aside0.mk (below_step (by repeat (first | (with_reducible first | exact HB.out | apply below_alloc | apply pw_below_drewN | apply below_drew1 | refine below_set ?_ GE315.out) | exact HB.out)) hb); clear HO_5; clear HO_42; clear HL314_1; clear HL314_3; clear HR314_1; clear HR314_3; clear BK315; clear HR319; clear HB; have HO_5 := n0_; have HO_42 := n1_; have HL314_1 := n2_; have HL314_3 := n3_; have HR314_1 := n4_; have HR314_3 := n5_; have BK315 := n6_; have HR319 := n7_; have HB := n8_; clear n0_ n1_ n2_ n3_ n4_ n5_ n6_ n7_ n8_; (try clear hb); (try clear hb2); (try clear hk); (try clear hi)))
                                  go_ret
                                  exact ⟨by first | rfl | (simp [errW_none, errW_some] <;> rfl) | (simp [*, errW_none, errW_some] <;> rfl), by repeat (first | (with_reducible first | exact HB.out | apply below_alloc | apply pw_below_drewN | apply below_drew1 | refine below_set ?_ GE315.out) | exact HB.out)⟩
                              · rw [if_neg c44] at H
                                exact absurd H (by simp)
                            · rw [if_neg c43] at H
                              exact absurd H (by simp)
                        · rw [if_neg c38] at H
                          exact absurd H (by simp)
                      · rw [if_neg c37] at H
                        exact absurd H (by simp)
                    · rw [if_neg c36] at H
                      have c36b0 : decide (x44_3 < (t301.length : Int)) = false := decide_eq_false c36
                      clear c36
                      obtain rfl := Option.some.inj H
                      go_wp2
                      go_ret
                      exact ⟨by first | rfl | (simp [errW_none, errW_some] <;> rfl) | (simp [*, errW_none, errW_some] <;> rfl), by repeat (first | (with_reducible first | exact HB.out | apply below_alloc | apply pw_below_drewN | apply below_drew1) | exact HB.out)⟩

end Go.Proofs.YteahlapoeiikoaaDoor.P
