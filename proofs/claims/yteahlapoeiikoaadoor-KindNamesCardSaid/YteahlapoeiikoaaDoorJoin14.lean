/- Several texts, one behind the other. -/
import Derived.Test.YteahlapoeiikoaaDoorJoin12
import Derived.Test.YteahlapoeiikoaaDoorKindAll
import Derived.Test.YteahlapoeiikoaaDoorKindsC
import Derived.Lib.Strings


-- Printed by a program of this session (wip/myprint.py over the kit's print).
namespace Go.Proofs.YteahlapoeiikoaaDoor.P
open Go.RowKit Go.Proofs.YteahlapoeiikoaaDoorW.PrintWords Go.Proofs.YteahlapoeiikoaaDoorW.PrintLast Go.Proofs.YteahlapoeiikoaaDoorW.PrintMore
attribute [local go_sem] max2_int min2_int max_two min_two max_three min_three max_four min_four   -- for this text's walks alone
set_option linter.unusedVariables false
set_option linter.unusedSimpArgs false

/-! ### decanterlaw11_KindRules: function 10 -/
mutual
def decanterlaw11_KindRules.l0 : Nat → List ByteArray → Int → Int → Option (Bool)
  | 0, _, _, _ => none
  | k + 1, x14, x15, x16 => if x16 < x15 then (if 0 ≤ x16 then (if x16 < (x14.length : Int) then ((kind_Is.f (rdOf ByteArray.empty x14 x16) 4).bind fun t293 => (if t293 = true then ((kind_Is.f (rdOf ByteArray.empty x14 x16) 2).bind fun t294 => (if t294 = true then ((kind_Is.f (rdOf ByteArray.empty x14 x16) 16).bind fun t295 => (decanterlaw11_KindRules.j1 k (rdOf ByteArray.empty x14 x16) (!t295) x14 x15 x16)) else (decanterlaw11_KindRules.j1 k (rdOf ByteArray.empty x14 x16) (!false) x14 x15 x16))) else (decanterlaw11_KindRules.j1 k (rdOf ByteArray.empty x14 x16) false x14 x15 x16))) else (none)) else (none)) else (some true)
def decanterlaw11_KindRules.j1 : Nat → ByteArray → Bool → List ByteArray → Int → Int → Option (Bool)
  | 0, _, _, _, _, _ => none
  | k + 1, x4, x5, x14, x15, x16 => (kind_Is.f x4 32).bind fun t296 => (if t296 = true then ((kind_Is.f x4 16).bind fun t297 => (decanterlaw11_KindRules.j2 k x4 x5 (!t297) x14 x15 x16)) else (decanterlaw11_KindRules.j2 k x4 x5 false x14 x15 x16))
def decanterlaw11_KindRules.j2 : Nat → ByteArray → Bool → Bool → List ByteArray → Int → Int → Option (Bool)
  | 0, _, _, _, _, _, _ => none
  | k + 1, x4, x5, x6, x14, x15, x16 => (kind_Is.f x4 8).bind fun t298 => (if t298 = true then ((kind_Is.f x4 147).bind fun t299 => (decanterlaw11_KindRules.j3 k x4 x5 x6 t299 x14 x15 x16)) else (decanterlaw11_KindRules.j3 k x4 x5 x6 false x14 x15 x16))
def decanterlaw11_KindRules.j3 : Nat → ByteArray → Bool → Bool → Bool → List ByteArray → Int → Int → Option (Bool)
  | 0, _, _, _, _, _, _, _ => none
  | k + 1, x4, x5, x6, x7, x14, x15, x16 => (kind_Is.f x4 512).bind fun t300 => (if t300 = true then ((kind_Is.f x4 352).bind fun t301 => (decanterlaw11_KindRules.j4 k x4 x5 x6 x7 t301 x14 x15 x16)) else (decanterlaw11_KindRules.j4 k x4 x5 x6 x7 false x14 x15 x16))
def decanterlaw11_KindRules.j4 : Nat → ByteArray → Bool → Bool → Bool → Bool → List ByteArray → Int → Int → Option (Bool)
  | 0, _, _, _, _, _, _, _, _ => none
  | k + 1, x4, x5, x6, x7, x8, x14, x15, x16 => if x5 = true then (some false) else (if x6 = true then (some false) else (if x7 = true then (some false) else (if x8 = true then (some false) else ((kind_Is.f x4 0).bind fun t302 => (if t302 = true then (some false) else ((kind_Is.f x4 (-1)).bind fun t303 => ((kind_Of.f x4).bind fun t304 => (if (t303 != (t304 != 0)) = true then (some false) else (decanterlaw11_KindRules.l0 k x14 x15 (wrap64 (x16 + 1)))))))))))
end
def decanterlaw11_KindRules.f (k : Nat) (a0 : ByteArray) : Option (Bool) := (decanterlaw11_speaks.f).bind fun t285 => (if t285 = true then ((kind_All.f (-1)).bind fun t286 => (if t286.length < 8796093022208 then ((some (t286 ++ [a0] : List ByteArray)).bind fun y289 => (decanterlaw11_KindRules.l0 k y289 (y289.length : Int) 0)) else (none))) else (some false))
theorem decanterlaw11_KindRules.mono_l : ∀ k, (∀ y0 y1 y2, LeO (decanterlaw11_KindRules.l0 k y0 y1 y2) (decanterlaw11_KindRules.l0 (k + 1) y0 y1 y2)) ∧ (∀ y0 y1 y2 y3 y4, LeO (decanterlaw11_KindRules.j1 k y0 y1 y2 y3 y4) (decanterlaw11_KindRules.j1 (k + 1) y0 y1 y2 y3 y4)) ∧ (∀ y0 y1 y2 y3 y4 y5, LeO (decanterlaw11_KindRules.j2 k y0 y1 y2 y3 y4 y5) (decanterlaw11_KindRules.j2 (k + 1) y0 y1 y2 y3 y4 y5)) ∧ (∀ y0 y1 y2 y3 y4 y5 y6, LeO (decanterlaw11_KindRules.j3 k y0 y1 y2 y3 y4 y5 y6) (decanterlaw11_KindRules.j3 (k + 1) y0 y1 y2 y3 y4 y5 y6)) ∧ (∀ y0 y1 y2 y3 y4 y5 y6 y7, LeO (decanterlaw11_KindRules.j4 k y0 y1 y2 y3 y4 y5 y6 y7) (decanterlaw11_KindRules.j4 (k + 1) y0 y1 y2 y3 y4 y5 y6 y7))
  | 0 => ⟨fun _ _ _ r h => by simp [decanterlaw11_KindRules.l0] at h, fun _ _ _ _ _ r h => by simp [decanterlaw11_KindRules.j1] at h, fun _ _ _ _ _ _ r h => by simp [decanterlaw11_KindRules.j2] at h, fun _ _ _ _ _ _ _ r h => by simp [decanterlaw11_KindRules.j3] at h, fun _ _ _ _ _ _ _ _ r h => by simp [decanterlaw11_KindRules.j4] at h⟩
  | k + 1 => by
    obtain ⟨ih0, ih1, ih2, ih3, ih4⟩ := decanterlaw11_KindRules.mono_l k
    refine ⟨?_, ?_, ?_, ?_, ?_⟩
    · intro y0 y1 y2
      unfold decanterlaw11_KindRules.l0
      repeat' first
      | (with_reducible exact ih0 _ _ _)
      | (with_reducible exact ih1 _ _ _ _ _)
      | (with_reducible exact ih2 _ _ _ _ _ _)
      | (with_reducible exact ih3 _ _ _ _ _ _ _)
      | (with_reducible exact ih4 _ _ _ _ _ _ _ _)
      | (with_reducible exact LeO.refl _)
      | (with_reducible exact LeO.none _)
      | (with_reducible refine LeO.ite ?_ ?_)
      | (with_reducible refine LeO.bind ?_ (fun _ => ?_))
      | exact ih0 _ _ _
      | exact ih1 _ _ _ _ _
      | exact ih2 _ _ _ _ _ _
      | exact ih3 _ _ _ _ _ _ _
      | exact ih4 _ _ _ _ _ _ _ _
      | exact LeO.none _
      | refine LeO.ite ?_ ?_
      | refine LeO.bind ?_ (fun _ => ?_)
    · intro y0 y1 y2 y3 y4
      unfold decanterlaw11_KindRules.j1
      repeat' first
      | (with_reducible exact ih0 _ _ _)
      | (with_reducible exact ih1 _ _ _ _ _)
      | (with_reducible exact ih2 _ _ _ _ _ _)
      | (with_reducible exact ih3 _ _ _ _ _ _ _)
      | (with_reducible exact ih4 _ _ _ _ _ _ _ _)
      | (with_reducible exact LeO.refl _)
      | (with_reducible exact LeO.none _)
      | (with_reducible refine LeO.ite ?_ ?_)
      | (with_reducible refine LeO.bind ?_ (fun _ => ?_))
      | exact ih0 _ _ _
      | exact ih1 _ _ _ _ _
      | exact ih2 _ _ _ _ _ _
      | exact ih3 _ _ _ _ _ _ _
      | exact ih4 _ _ _ _ _ _ _ _
      | exact LeO.none _
      | refine LeO.ite ?_ ?_
      | refine LeO.bind ?_ (fun _ => ?_)
    · intro y0 y1 y2 y3 y4 y5
      unfold decanterlaw11_KindRules.j2
      repeat' first
      | (with_reducible exact ih0 _ _ _)
      | (with_reducible exact ih1 _ _ _ _ _)
      | (with_reducible exact ih2 _ _ _ _ _ _)
      | (with_reducible exact ih3 _ _ _ _ _ _ _)
      | (with_reducible exact ih4 _ _ _ _ _ _ _ _)
      | (with_reducible exact LeO.refl _)
      | (with_reducible exact LeO.none _)
      | (with_reducible refine LeO.ite ?_ ?_)
      | (with_reducible refine LeO.bind ?_ (fun _ => ?_))
      | exact ih0 _ _ _
      | exact ih1 _ _ _ _ _
      | exact ih2 _ _ _ _ _ _
      | exact ih3 _ _ _ _ _ _ _
      | exact ih4 _ _ _ _ _ _ _ _
      | exact LeO.none _
      | refine LeO.ite ?_ ?_
      | refine LeO.bind ?_ (fun _ => ?_)
    · intro y0 y1 y2 y3 y4 y5 y6
      unfold decanterlaw11_KindRules.j3
      repeat' first
      | (with_reducible exact ih0 _ _ _)
      | (with_reducible exact ih1 _ _ _ _ _)
      | (with_reducible exact ih2 _ _ _ _ _ _)
      | (with_reducible exact ih3 _ _ _ _ _ _ _)
      | (with_reducible exact ih4 _ _ _ _ _ _ _ _)
      | (with_reducible exact LeO.refl _)
      | (with_reducible exact LeO.none _)
      | (with_reducible refine LeO.ite ?_ ?_)
      | (with_reducible refine LeO.bind ?_ (fun _ => ?_))
      | exact ih0 _ _ _
      | exact ih1 _ _ _ _ _
      | exact ih2 _ _ _ _ _ _
      | exact ih3 _ _ _ _ _ _ _
      | exact ih4 _ _ _ _ _ _ _ _
      | exact LeO.none _
      | refine LeO.ite ?_ ?_
      | refine LeO.bind ?_ (fun _ => ?_)
    · intro y0 y1 y2 y3 y4 y5 y6 y7
      unfold decanterlaw11_KindRules.j4
      repeat' first
      | (with_reducible exact ih0 _ _ _)
      | (with_reducible exact ih1 _ _ _ _ _)
      | (with_reducible exact ih2 _ _ _ _ _ _)
      | (with_reducible exact ih3 _ _ _ _ _ _ _)
      | (with_reducible exact ih4 _ _ _ _ _ _ _ _)
      | (with_reducible exact LeO.refl _)
      | (with_reducible exact LeO.none _)
      | (with_reducible refine LeO.ite ?_ ?_)
      | (with_reducible refine LeO.bind ?_ (fun _ => ?_))
      | exact ih0 _ _ _
      | exact ih1 _ _ _ _ _
      | exact ih2 _ _ _ _ _ _
      | exact ih3 _ _ _ _ _ _ _
      | exact ih4 _ _ _ _ _ _ _ _
      | exact LeO.none _
      | refine LeO.ite ?_ ?_
      | refine LeO.bind ?_ (fun _ => ?_)
theorem decanterlaw11_KindRules.mono : ∀ a0 k, LeO (decanterlaw11_KindRules.f k a0) (decanterlaw11_KindRules.f (k + 1) a0) := by
  intro a0 k
  obtain ⟨ih0, ih1, ih2, ih3, ih4⟩ := decanterlaw11_KindRules.mono_l k
  unfold decanterlaw11_KindRules.f
  repeat' first
      | (with_reducible exact ih0 _ _ _)
      | (with_reducible exact ih1 _ _ _ _ _)
      | (with_reducible exact ih2 _ _ _ _ _ _)
      | (with_reducible exact ih3 _ _ _ _ _ _ _)
      | (with_reducible exact ih4 _ _ _ _ _ _ _ _)
      | (with_reducible exact LeO.refl _)
      | (with_reducible exact LeO.none _)
      | (with_reducible refine LeO.ite ?_ ?_)
      | (with_reducible refine LeO.bind ?_ (fun _ => ?_))
      | exact ih0 _ _ _
      | exact ih1 _ _ _ _ _
      | exact ih2 _ _ _ _ _ _
      | exact ih3 _ _ _ _ _ _ _
      | exact ih4 _ _ _ _ _ _ _ _
      | exact LeO.none _
      | refine LeO.ite ?_ ?_
      | refine LeO.bind ?_ (fun _ => ?_)
set_option maxHeartbeats 8000000 in
set_option maxRecDepth 100000 in
theorem decanterlaw11_KindRules.calls (k : Nat) (a0 : ByteArray) (r : Bool) (w : World) (hG : GW w) (h : decanterlaw11_KindRules.f k a0 = some r) :
    Calls Tryd.prog 10 #[.string a0] w fun e w' => e = .returned (.bool r) ∧ Below w.heap.size w w' := by
  have HG := Aside0.mk hG
  clear hG
  have HB := Aside0.mk (Below.refl w.heap.size w)
  have H : ((decanterlaw11_speaks.f).bind fun t285 => (if t285 = true then ((kind_All.f (-1)).bind fun t286 => (if t286.length < 8796093022208 then ((some (t286 ++ [a0] : List ByteArray)).bind fun y289 => (decanterlaw11_KindRules.l0 k y289 (y289.length : Int) 0)) else (none))) else (some false))) = some r := h
  clear h
  replace H := Option.bind_eq_some_iff.mp H
  obtain ⟨t285, A20, H⟩ := H
  replace H : (if t285 = true then ((kind_All.f (-1)).bind fun t286 => (if t286.length < 8796093022208 then ((some (t286 ++ [a0] : List ByteArray)).bind fun y289 => (decanterlaw11_KindRules.l0 k y289 (y289.length : Int) 0)) else (none))) else (some false)) = some r := H
  have A2 := Aside0.mk A20
  clear A20
  by_cases c3 : t285 = true
  · subst c3
    have H1 : ((kind_All.f (-1)).bind fun t286 => (if t286.length < 8796093022208 then ((some (t286 ++ [a0] : List ByteArray)).bind fun y289 => (decanterlaw11_KindRules.l0 k y289 (y289.length : Int) 0)) else (none))) = some r := by rw [if_pos rfl] at H; exact H
    clear H
    have H := H1
    clear H1
    replace H := Option.bind_eq_some_iff.mp H
    obtain ⟨t286, A40, H⟩ := H
    replace H : (if t286.length < 8796093022208 then ((some (t286 ++ [a0] : List ByteArray)).bind fun y289 => (decanterlaw11_KindRules.l0 k y289 (y289.length : Int) 0)) else (none)) = some r := H
    have A4 := Aside0.mk A40
    clear A40
    by_cases c5 : t286.length < 8796093022208
    · rw [if_pos c5] at H
      have LMc5 := Aside0.mk c5
      clear c5
      obtain ⟨y289, hy289⟩ : ∃ y_ : List ByteArray, y_ = (t286 ++ [a0]) := ⟨_, rfl⟩
      replace H : (decanterlaw11_KindRules.l0 k y289 (y289.length : Int) 0) = some r := by first | (rw [hy289]; with_reducible exact H) | (have H2_ := (Option.bind_some _ _).symm.trans H; rw [hy289]; with_reducible exact H2_) | (have H2_ := (Option.bind_some _ _).symm.trans H; with_reducible exact H2_) | with_reducible exact H | (rw [hy289]; exact H) | exact H
      have Ny289 := Aside0.mk hy289
      clear hy289
      have H' := Aside0.mk H
      clear H
      go_enter Tryd.func10, Tryd.ntmps10
      go_wp2_with (first | ((with_reducible refine gate_callee (f := 13) rfl ?_); refine goesL_ (some 9) rfl rfl Tryd.func13 (by kernel_rfl) rfl #[] rfl (by (try simp only [List.map_toArray, List.map_cons, List.map_nil]); first | done | rfl | (simp only [List.length_drop, List.length_take]; rfl)) ?_; (with_reducible refine (decanterlaw11_speaks.calls  true _ ?side1 A2.out).mono ?_); (case side1 => exact GW.below HG.out (by repeat (first | (with_reducible first | exact HB.out | apply below_alloc | apply pw_below_drewN | apply below_drew1) | exact HB.out))); rintro e w6 ⟨rfl, hb⟩; refine ⟨_, rfl, ?_⟩; have n0_ := Aside0.mk (below_step (by repeat (first | (with_reducible first | exact HB.out | apply below_alloc | apply pw_below_drewN | apply below_drew1) | exact HB.out)) hb); clear HB; have HB := n0_; clear n0_; (try clear hb); (try clear hb2); (try clear hk); (try clear hi)) | ((with_reducible refine gate_callee (f := 33) rfl ?_); refine goesL_ (some 11) rfl rfl Tryd.func33 (by kernel_rfl) rfl #[.int .i64 (-1)] rfl (by (try simp only [List.map_toArray, List.map_cons, List.map_nil]); first | done | rfl | (simp only [List.length_drop, List.length_take]; rfl)) ?_; (with_reducible refine (kind_All.calls (-1) t286 _ ?side1 A4.out).mono ?_); (case side1 => exact GW.below HG.out (by repeat (first | (with_reducible first | exact HB.out | apply below_alloc | apply pw_below_drewN | apply below_drew1) | exact HB.out))); rintro e w7 ⟨v287, rfl, ho0, hb⟩; refine ⟨_, rfl, ?_⟩; have n0_ := Aside0.mk (Kd.R_lower ho0 (below_size (by repeat (first | (with_reducible first | exact HB.out | apply below_alloc | apply pw_below_drewN | apply below_drew1) | exact HB.out)))); have n1_ := Aside0.mk (below_step (by repeat (first | (with_reducible first | exact HB.out | apply below_alloc | apply pw_below_drewN | apply below_drew1) | exact HB.out)) hb); clear HB; have HO288 := n0_; have HB := n1_; clear n0_ n1_; (try clear hb); (try clear hb2); (try clear hk); (try clear hi); (try clear ho0)) | ((with_reducible refine gate_builtin (b := .append) (xs := #[.tmp 11, .tmp 13]) rfl ?_); at_builtin; refine Kd.R_append Kd.string (w0 := w) w.heap.size rfl (.tmp 11) (.tmp 13) 25 9 (.string ⟨#[]⟩) 16 rfl Tryd.underlying25 info9 rfl (by decide) (by omega) v287 t286 a0 [.string a0] (fun _ => True) (fun _ => False) rfl rfl ?aP (fun _ hk => hk.elim) ?aF ?aO ?aB ?aS ?aL ?_; (case aP => exact rfl); (case aB => exact (by repeat (first | (with_reducible first | exact HB.out | apply below_alloc | apply pw_below_drewN | apply below_drew1) | exact HB.out))); (case aF => exact (fun _ _ => trivial)); (case aO => exact (by (with_reducible repeat (first | apply Kd.R_alloc | apply Kd.R_drewN | apply Kd.R_drew)); exact HO288.out)); (case aS => exact (below_size (by repeat (first | (with_reducible first | exact HB.out | apply below_alloc | apply pw_below_drewN | apply below_drew1) | exact HB.out)))); (case aL => have := LMc5.out; omega); intro v290 w8 ho hb hg hat; rw [← Ny289.out] at ho; have n0_ := Aside0.mk (hb); have n1_ := Aside0.mk (ho); clear HB; clear HO288; have HB := n0_; have HO291 := n1_; clear n0_ n1_; clear ho hb hg hat; obtain ⟨Ao9, co9, eo9⟩ := Kd.R_slice HO291.out; subst eo9))
      go_loopg [16] k (fun kq v16 w' => ∃ (x16_1 : Int), v16 = .int .i64 x16_1 ∧ Aside0 (decanterlaw11_KindRules.l0 kq y289 (y289.length : Int) x16_1 = some r) ∧ Aside0 (kq ≤ k) ∧ Aside0 (Kd.R Kd.string 9 w' w.heap.size (fun _ => True) (.slice Ao9 y289.length co9) y289) ∧ Aside0 (Below w.heap.size w w'))
      case atStart => exact ⟨(0), (by first | rfl | (simp; done) | (simp [*]; done) | (simp; generalize ByteArray.toList _ = l_; cases l_ <;> rfl)), H', ⟨Nat.le_refl _⟩, ⟨by (with_reducible repeat (first | apply Kd.R_alloc | apply Kd.R_drewN | apply Kd.R_drew)); exact HO291.out⟩, ⟨by repeat (first | (with_reducible first | exact HB.out | apply below_alloc | apply pw_below_drewN | apply below_drew1) | exact HB.out)⟩⟩
      case round =>
        clear H'
        try clear c1
        try clear p2
        try clear c3
        try clear c5
        obtain ⟨x16_1, rfl, HA, HK1, HO_14, HB⟩ := hrel
        cases gk with
        | zero => exact absurd HA.out (by simp [decanterlaw11_KindRules.l0])
        | succ k1 =>
          have H := HA.out
          clear HA
          simp only [decanterlaw11_KindRules.l0] at H
          by_cases c10 : x16_1 < (y289.length : Int)
          · rw [if_pos c10] at H
            have c10b0 : decide (x16_1 < (y289.length : Int)) = true := decide_eq_true c10
            clear c10
            by_cases c11 : 0 ≤ x16_1
            · rw [if_pos c11] at H
              have c11b0 : decide (0 ≤ x16_1) = true := decide_eq_true c11
              clear c11
              by_cases c12 : x16_1 < (y289.length : Int)
              · rw [if_pos c12] at H
                have c12b0 : decide (x16_1 < (y289.length : Int)) = true := decide_eq_true c12
                clear c12
                have HC13 := Aside0.mk H
                clear H
                have p292 : 0 ≤ (x16_1 : Int) := of_decide_eq_true (by first | (with_reducible assumption) | assumption)
                have q292 : x16_1 < (y289.length : Int) := of_decide_eq_true (by first | (with_reducible assumption) | assumption)
                obtain ⟨ad292, e292, hx292_0⟩ := Kd.at_string (Kd.R_reads' HO_14.out).2.2 x16_1 p292 q292
                cases e292
                replace p292 := eq_true p292
                replace q292 := eq_true q292
                go_upto_region 6 with (fail)
                go_cut [5] (fun v5 wc => ∃ (kq : Nat) (x5_12 : Bool), v5 = .bool x5_12 ∧ Aside0 (decanterlaw11_KindRules.j1 kq (rdOf ByteArray.empty y289 x16_1) x5_12 y289 (y289.length : Int) x16_1 = some r) ∧ Aside0 (kq ≤ k1) ∧ Aside0 (Kd.R Kd.string 9 wc w.heap.size (fun _ => True) (.slice (some ad292) y289.length co9) y289) ∧ Aside0 (Below w.heap.size w wc))
                case first =>
                  have H := HC13.out
                  clear HC13
                  replace H := Option.bind_eq_some_iff.mp H
                  obtain ⟨t293, A140, H⟩ := H
                  replace H : (if t293 = true then ((kind_Is.f (rdOf ByteArray.empty y289 x16_1) 2).bind fun t294 => (if t294 = true then ((kind_Is.f (rdOf ByteArray.empty y289 x16_1) 16).bind fun t295 => (decanterlaw11_KindRules.j1 k1 (rdOf ByteArray.empty y289 x16_1) (!t295) y289 (y289.length : Int) x16_1)) else (decanterlaw11_KindRules.j1 k1 (rdOf ByteArray.empty y289 x16_1) (!false) y289 (y289.length : Int) x16_1))) else (decanterlaw11_KindRules.j1 k1 (rdOf ByteArray.empty y289 x16_1) false y289 (y289.length : Int) x16_1)) = some r := H
                  have A14 := Aside0.mk A140
                  clear A140
                  by_cases c15 : t293 = true
                  · subst c15
                    have H1 : ((kind_Is.f (rdOf ByteArray.empty y289 x16_1) 2).bind fun t294 => (if t294 = true then ((kind_Is.f (rdOf ByteArray.empty y289 x16_1) 16).bind fun t295 => (decanterlaw11_KindRules.j1 k1 (rdOf ByteArray.empty y289 x16_1) (!t295) y289 (y289.length : Int) x16_1)) else (decanterlaw11_KindRules.j1 k1 (rdOf ByteArray.empty y289 x16_1) (!false) y289 (y289.length : Int) x16_1))) = some r := by rw [if_pos rfl] at H; exact H
                    clear H
                    have H := H1
                    clear H1
                    replace H := Option.bind_eq_some_iff.mp H
                    obtain ⟨t294, A160, H⟩ := H
                    replace H : (if t294 = true then ((kind_Is.f (rdOf ByteArray.empty y289 x16_1) 16).bind fun t295 => (decanterlaw11_KindRules.j1 k1 (rdOf ByteArray.empty y289 x16_1) (!t295) y289 (y289.length : Int) x16_1)) else (decanterlaw11_KindRules.j1 k1 (rdOf ByteArray.empty y289 x16_1) (!false) y289 (y289.length : Int) x16_1)) = some r := H
                    have A16 := Aside0.mk A160
                    clear A160
                    by_cases c17 : t294 = true
                    · subst c17
                      have H1 : ((kind_Is.f (rdOf ByteArray.empty y289 x16_1) 16).bind fun t295 => (decanterlaw11_KindRules.j1 k1 (rdOf ByteArray.empty y289 x16_1) (!t295) y289 (y289.length : Int) x16_1)) = some r := by rw [if_pos rfl] at H; exact H
                      clear H
                      have H := H1
                      clear H1
                      replace H := Option.bind_eq_some_iff.mp H
                      obtain ⟨t295, A180, H⟩ := H
                      replace H : (decanterlaw11_KindRules.j1 k1 (rdOf ByteArray.empty y289 x16_1) (!t295) y289 (y289.length : Int) x16_1) = some r := H
                      have A18 := Aside0.mk A180
                      clear A180
                      have H' := Aside0.mk H
                      clear H
                      go_wp2_with (first | ((with_reducible refine gate_callee (f := 16) rfl ?_); refine goesL_ (some 21) rfl rfl Tryd.func16 (by kernel_rfl) rfl #[.string (rdOf ByteArray.empty y289 x16_1), .int .i64 4] rfl (by (try simp only [List.map_toArray, List.map_cons, List.map_nil]); first | done | rfl | (simp only [List.length_drop, List.length_take]; rfl)) ?_; (with_reducible refine (kind_Is.calls (rdOf ByteArray.empty y289 x16_1) 4 true _ ?side1 A14.out).mono ?_); (case side1 => exact GW.below HG.out (by repeat (first | (with_reducible first | exact HB.out | apply below_alloc | apply pw_below_drewN | apply below_drew1) | exact HB.out))); rintro e w19 ⟨rfl, hb⟩; refine ⟨_, rfl, ?_⟩; have n0_ := Aside0.mk (Kd.R_below (by (with_reducible repeat (first | apply Kd.R_alloc | apply Kd.R_drewN | apply Kd.R_drew)); exact HO_14.out) hb); have n1_ := Aside0.mk (below_step (by repeat (first | (with_reducible first | exact HB.out | apply below_alloc | apply pw_below_drewN | apply below_drew1) | exact HB.out)) hb); clear HO_14; clear HB; have HO_14 := n0_; have HB := n1_; clear n0_ n1_; (try clear hb); (try clear hb2); (try clear hk); (try clear hi)) | (go_at_call 16; (with_reducible refine (kind_Is.calls (rdOf ByteArray.empty y289 x16_1) 2 true _ ?side1 A16.out).mono ?_); (case side1 => exact GW.below HG.out (by repeat (first | (with_reducible first | exact HB.out | apply below_alloc | apply pw_below_drewN | apply below_drew1) | exact HB.out))); rintro e w20 ⟨rfl, hb⟩; have n0_ := Aside0.mk (Kd.R_below (by (with_reducible repeat (first | apply Kd.R_alloc | apply Kd.R_drewN | apply Kd.R_drew)); exact HO_14.out) hb); have n1_ := Aside0.mk (below_step (by repeat (first | (with_reducible first | exact HB.out | apply below_alloc | apply pw_below_drewN | apply below_drew1) | exact HB.out)) hb); clear HO_14; clear HB; have HO_14 := n0_; have HB := n1_; clear n0_ n1_; (try clear hb); (try clear hb2); (try clear hk); (try clear hi)) | (go_at_call 16; (with_reducible refine (kind_Is.calls (rdOf ByteArray.empty y289 x16_1) 16 t295 _ ?side1 A18.out).mono ?_); (case side1 => exact GW.below HG.out (by repeat (first | (with_reducible first | exact HB.out | apply below_alloc | apply pw_below_drewN | apply below_drew1) | exact HB.out))); rintro e w21 ⟨rfl, hb⟩; have n0_ := Aside0.mk (Kd.R_below (by (with_reducible repeat (first | apply Kd.R_alloc | apply Kd.R_drewN | apply Kd.R_drew)); exact HO_14.out) hb); have n1_ := Aside0.mk (below_step (by repeat (first | (with_reducible first | exact HB.out | apply below_alloc | apply pw_below_drewN | apply below_drew1) | exact HB.out)) hb); clear HO_14; clear HB; have HO_14 := n0_; have HB := n1_; clear n0_ n1_; (try clear hb); (try clear hb2); (try clear hk); (try clear hi)))
                      go_meet
                      case rel => exact ⟨_, (!t295), (by first | rfl | (simp; done) | (simp [*]; done)), H', ⟨by have := HK1.out; first | omega | exact Nat.le_refl _⟩, ⟨by (with_reducible repeat (first | apply Kd.R_alloc | apply Kd.R_drewN | apply Kd.R_drew)); exact HO_14.out⟩, ⟨by repeat (first | (with_reducible first | exact HB.out | apply below_alloc | apply pw_below_drewN | apply below_drew1) | exact HB.out)⟩⟩
                    · replace c17 := Bool.eq_false_iff.mpr c17
                      subst c17
                      have H1 : (decanterlaw11_KindRules.j1 k1 (rdOf ByteArray.empty y289 x16_1) (!false) y289 (y289.length : Int) x16_1) = some r := by rw [if_neg (show ¬ (false = true) by decide)] at H; exact H
                      clear H
                      have H := H1
                      clear H1
                      have H' := Aside0.mk H
                      clear H
                      go_wp2_with (first | ((with_reducible refine gate_callee (f := 16) rfl ?_); refine goesL_ (some 21) rfl rfl Tryd.func16 (by kernel_rfl) rfl #[.string (rdOf ByteArray.empty y289 x16_1), .int .i64 4] rfl (by (try simp only [List.map_toArray, List.map_cons, List.map_nil]); first | done | rfl | (simp only [List.length_drop, List.length_take]; rfl)) ?_; (with_reducible refine (kind_Is.calls (rdOf ByteArray.empty y289 x16_1) 4 true _ ?side1 A14.out).mono ?_); (case side1 => exact GW.below HG.out (by repeat (first | (with_reducible first | exact HB.out | apply below_alloc | apply pw_below_drewN | apply below_drew1) | exact HB.out))); rintro e w22 ⟨rfl, hb⟩; refine ⟨_, rfl, ?_⟩; have n0_ := Aside0.mk (Kd.R_below (by (with_reducible repeat (first | apply Kd.R_alloc | apply Kd.R_drewN | apply Kd.R_drew)); exact HO_14.out) hb); have n1_ := Aside0.mk (below_step (by repeat (first | (with_reducible first | exact HB.out | apply below_alloc | apply pw_below_drewN | apply below_drew1) | exact HB.out)) hb); clear HO_14; clear HB; have HO_14 := n0_; have HB := n1_; clear n0_ n1_; (try clear hb); (try clear hb2); (try clear hk); (try clear hi)) | (go_at_call 16; (with_reducible refine (kind_Is.calls (rdOf ByteArray.empty y289 x16_1) 2 false _ ?side1 A16.out).mono ?_); (case side1 => exact GW.below HG.out (by repeat (first | (with_reducible first | exact HB.out | apply below_alloc | apply pw_below_drewN | apply below_drew1) | exact HB.out))); rintro e w23 ⟨rfl, hb⟩; have n0_ := Aside0.mk (Kd.R_below (by (with_reducible repeat (first | apply Kd.R_alloc | apply Kd.R_drewN | apply Kd.R_drew)); exact HO_14.out) hb); have n1_ := Aside0.mk (below_step (by repeat (first | (with_reducible first | exact HB.out | apply below_alloc | apply pw_below_drewN | apply below_drew1) | exact HB.out)) hb); clear HO_14; clear HB; have HO_14 := n0_; have HB := n1_; clear n0_ n1_; (try clear hb); (try clear hb2); (try clear hk); (try clear hi)))
                      go_meet
                      case rel => exact ⟨_, (!false), (by first | rfl | (simp; done) | (simp [*]; done)), H', ⟨by have := HK1.out; first | omega | exact Nat.le_refl _⟩, ⟨by (with_reducible repeat (first | apply Kd.R_alloc | apply Kd.R_drewN | apply Kd.R_drew)); exact HO_14.out⟩, ⟨by repeat (first | (with_reducible first | exact HB.out | apply below_alloc | apply pw_below_drewN | apply below_drew1) | exact HB.out)⟩⟩
                  · replace c15 := Bool.eq_false_iff.mpr c15
                    subst c15
                    have H1 : (decanterlaw11_KindRules.j1 k1 (rdOf ByteArray.empty y289 x16_1) false y289 (y289.length : Int) x16_1) = some r := by rw [if_neg (show ¬ (false = true) by decide)] at H; exact H
                    clear H
                    have H := H1
                    clear H1
                    have H' := Aside0.mk H
                    clear H
                    go_wp2_with (first | ((with_reducible refine gate_callee (f := 16) rfl ?_); refine goesL_ (some 21) rfl rfl Tryd.func16 (by kernel_rfl) rfl #[.string (rdOf ByteArray.empty y289 x16_1), .int .i64 4] rfl (by (try simp only [List.map_toArray, List.map_cons, List.map_nil]); first | done | rfl | (simp only [List.length_drop, List.length_take]; rfl)) ?_; (with_reducible refine (kind_Is.calls (rdOf ByteArray.empty y289 x16_1) 4 false _ ?side1 A14.out).mono ?_); (case side1 => exact GW.below HG.out (by repeat (first | (with_reducible first | exact HB.out | apply below_alloc | apply pw_below_drewN | apply below_drew1) | exact HB.out))); rintro e w24 ⟨rfl, hb⟩; refine ⟨_, rfl, ?_⟩; have n0_ := Aside0.mk (Kd.R_below (by (with_reducible repeat (first | apply Kd.R_alloc | apply Kd.R_drewN | apply Kd.R_drew)); exact HO_14.out) hb); have n1_ := Aside0.mk (below_step (by repeat (first | (with_reducible first | exact HB.out | apply below_alloc | apply pw_below_drewN | apply below_drew1) | exact HB.out)) hb); clear HO_14; clear HB; have HO_14 := n0_; have HB := n1_; clear n0_ n1_; (try clear hb); (try clear hb2); (try clear hk); (try clear hi)))
                    go_meet
                    case rel => exact ⟨_, (false), (by first | rfl | (simp; done) | (simp [*]; done)), H', ⟨by have := HK1.out; first | omega | exact Nat.le_refl _⟩, ⟨by (with_reducible repeat (first | apply Kd.R_alloc | apply Kd.R_drewN | apply Kd.R_drew)); exact HO_14.out⟩, ⟨by repeat (first | (with_reducible first | exact HB.out | apply below_alloc | apply pw_below_drewN | apply below_drew1) | exact HB.out)⟩⟩
                case rest =>
                  clear HC13
                  try clear c1
                  try clear p2
                  try clear q2
                  try clear hx2
                  try clear c3
                  try clear c5
                  try clear c10
                  try clear c10b0
                  try clear c11
                  try clear c11b0
                  try clear c12
                  try clear c12b0
                  try clear c13
                  try clear c15
                  try clear c16
                  try clear c17
                  try clear hx292_0
                  try clear p2
                  try clear p292
                  try clear q292
                  obtain ⟨kq, x5_12, rfl, HA, HJ12, HO_14, HB⟩ := hcut
                  cases kq with
                  | zero => exact absurd HA.out (by simp [decanterlaw11_KindRules.j1])
                  | succ kj12 =>
                    have H := HA.out
                    clear HA
                    simp only [decanterlaw11_KindRules.j1] at H
                    have HC25 := Aside0.mk H
                    clear H
                    go_upto_region 7 with (fail)
                    go_cut [6] (fun v6 wc => ∃ (kq : Nat) (x6_24 : Bool), v6 = .bool x6_24 ∧ Aside0 (decanterlaw11_KindRules.j2 kq (rdOf ByteArray.empty y289 x16_1) x5_12 x6_24 y289 (y289.length : Int) x16_1 = some r) ∧ Aside0 (kq ≤ kj12) ∧ Aside0 (Kd.R Kd.string 9 wc w.heap.size (fun _ => True) (.slice (some ad292) y289.length co9) y289) ∧ Aside0 (Below w.heap.size w wc))
                    case first =>
                      have H := HC25.out
                      clear HC25
                      replace H := Option.bind_eq_some_iff.mp H
                      obtain ⟨t296, A260, H⟩ := H
                      replace H : (if t296 = true then ((kind_Is.f (rdOf ByteArray.empty y289 x16_1) 16).bind fun t297 => (decanterlaw11_KindRules.j2 kj12 (rdOf ByteArray.empty y289 x16_1) x5_12 (!t297) y289 (y289.length : Int) x16_1)) else (decanterlaw11_KindRules.j2 kj12 (rdOf ByteArray.empty y289 x16_1) x5_12 false y289 (y289.length : Int) x16_1)) = some r := H
                      have A26 := Aside0.mk A260
                      clear A260
                      by_cases c27 : t296 = true
                      · subst c27
                        have H1 : ((kind_Is.f (rdOf ByteArray.empty y289 x16_1) 16).bind fun t297 => (decanterlaw11_KindRules.j2 kj12 (rdOf ByteArray.empty y289 x16_1) x5_12 (!t297) y289 (y289.length : Int) x16_1)) = some r := by rw [if_pos rfl] at H; exact H
                        clear H
                        have H := H1
                        clear H1
                        replace H := Option.bind_eq_some_iff.mp H
                        obtain ⟨t297, A280, H⟩ := H
                        replace H : (decanterlaw11_KindRules.j2 kj12 (rdOf ByteArray.empty y289 x16_1) x5_12 (!t297) y289 (y289.length : Int) x16_1) = some r := H
                        have A28 := Aside0.mk A280
                        clear A280
                        have H' := Aside0.mk H
                        clear H
                        go_wp2_with (first | ((with_reducible refine gate_callee (f := 16) rfl ?_); refine goesL_ (some 32) rfl rfl Tryd.func16 (by kernel_rfl) rfl #[.string (rdOf ByteArray.empty y289 x16_1), .int .i64 32] rfl (by (try simp only [List.map_toArray, List.map_cons, List.map_nil]); first | done | rfl | (simp only [List.length_drop, List.length_take]; rfl)) ?_; (with_reducible refine (kind_Is.calls (rdOf ByteArray.empty y289 x16_1) 32 true _ ?side1 A26.out).mono ?_); (case side1 => exact GW.below HG.out (by repeat (first | (with_reducible first | exact HB.out | apply below_alloc | apply pw_below_drewN | apply below_drew1) | exact HB.out))); rintro e w29 ⟨rfl, hb⟩; refine ⟨_, rfl, ?_⟩; have n0_ := Aside0.mk (Kd.R_below (by (with_reducible repeat (first | apply Kd.R_alloc | apply Kd.R_drewN | apply Kd.R_drew)); exact HO_14.out) hb); have n1_ := Aside0.mk (below_step (by repeat (first | (with_reducible first | exact HB.out | apply below_alloc | apply pw_below_drewN | apply below_drew1) | exact HB.out)) hb); clear HO_14; clear HB; have HO_14 := n0_; have HB := n1_; clear n0_ n1_; (try clear hb); (try clear hb2); (try clear hk); (try clear hi)) | (go_at_call 16; (with_reducible refine (kind_Is.calls (rdOf ByteArray.empty y289 x16_1) 16 t297 _ ?side1 A28.out).mono ?_); (case side1 => exact GW.below HG.out (by repeat (first | (with_reducible first | exact HB.out | apply below_alloc | apply pw_below_drewN | apply below_drew1) | exact HB.out))); rintro e w30 ⟨rfl, hb⟩; have n0_ := Aside0.mk (Kd.R_below (by (with_reducible repeat (first | apply Kd.R_alloc | apply Kd.R_drewN | apply Kd.R_drew)); exact HO_14.out) hb); have n1_ := Aside0.mk (below_step (by repeat (first | (with_reducible first | exact HB.out | apply below_alloc | apply pw_below_drewN | apply below_drew1) | exact HB.out)) hb); clear HO_14; clear HB; have HO_14 := n0_; have HB := n1_; clear n0_ n1_; (try clear hb); (try clear hb2); (try clear hk); (try clear hi)))
                        go_meet
                        case rel => exact ⟨_, (!t297), (by first | rfl | (simp; done) | (simp [*]; done)), H', ⟨by have := HK1.out; have := HJ12.out; first | omega | exact Nat.le_refl _⟩, ⟨by (with_reducible repeat (first | apply Kd.R_alloc | apply Kd.R_drewN | apply Kd.R_drew)); exact HO_14.out⟩, ⟨by repeat (first | (with_reducible first | exact HB.out | apply below_alloc | apply pw_below_drewN | apply below_drew1) | exact HB.out)⟩⟩
                      · replace c27 := Bool.eq_false_iff.mpr c27
                        subst c27
                        have H1 : (decanterlaw11_KindRules.j2 kj12 (rdOf ByteArray.empty y289 x16_1) x5_12 false y289 (y289.length : Int) x16_1) = some r := by rw [if_neg (show ¬ (false = true) by decide)] at H; exact H
                        clear H
                        have H := H1
                        clear H1
                        have H' := Aside0.mk H
                        clear H
                        go_wp2_with (first | ((with_reducible refine gate_callee (f := 16) rfl ?_); refine goesL_ (some 32) rfl rfl Tryd.func16 (by kernel_rfl) rfl #[.string (rdOf ByteArray.empty y289 x16_1), .int .i64 32] rfl (by (try simp only [List.map_toArray, List.map_cons, List.map_nil]); first | done | rfl | (simp only [List.length_drop, List.length_take]; rfl)) ?_; (with_reducible refine (kind_Is.calls (rdOf ByteArray.empty y289 x16_1) 32 false _ ?side1 A26.out).mono ?_); (case side1 => exact GW.below HG.out (by repeat (first | (with_reducible first | exact HB.out | apply below_alloc | apply pw_below_drewN | apply below_drew1) | exact HB.out))); rintro e w31 ⟨rfl, hb⟩; refine ⟨_, rfl, ?_⟩; have n0_ := Aside0.mk (Kd.R_below (by (with_reducible repeat (first | apply Kd.R_alloc | apply Kd.R_drewN | apply Kd.R_drew)); exact HO_14.out) hb); have n1_ := Aside0.mk (below_step (by repeat (first | (with_reducible first | exact HB.out | apply below_alloc | apply pw_below_drewN | apply below_drew1) | exact HB.out)) hb); clear HO_14; clear HB; have HO_14 := n0_; have HB := n1_; clear n0_ n1_; (try clear hb); (try clear hb2); (try clear hk); (try clear hi)))
                        go_meet
                        case rel => exact ⟨_, (false), (by first | rfl | (simp; done) | (simp [*]; done)), H', ⟨by have := HK1.out; have := HJ12.out; first | omega | exact Nat.le_refl _⟩, ⟨by (with_reducible repeat (first | apply Kd.R_alloc | apply Kd.R_drewN | apply Kd.R_drew)); exact HO_14.out⟩, ⟨by repeat (first | (with_reducible first | exact HB.out | apply below_alloc | apply pw_below_drewN | apply below_drew1) | exact HB.out)⟩⟩
                    case rest =>
                      clear HC25
                      try clear c1
                      try clear c2
                      try clear p2
                      try clear q2
                      try clear hx2
                      try clear c3
                      try clear c5
                      try clear c10
                      try clear c10b0
                      try clear c11
                      try clear c11b0
                      try clear c12
                      try clear c12b0
                      try clear c13
                      try clear c15
                      try clear c16
                      try clear c17
                      try clear c27
                      try clear p29
                      try clear q29
                      try clear hx29
                      try clear hx292_0
                      try clear p2
                      try clear p292
                      try clear q2
                      try clear q292
                      obtain ⟨kq, x6_24, rfl, HA, HJ24, HO_14, HB⟩ := hcut
                      cases kq with
                      | zero => exact absurd HA.out (by simp [decanterlaw11_KindRules.j2])
                      | succ kj24 =>
                        have H := HA.out
                        clear HA
                        simp only [decanterlaw11_KindRules.j2] at H
                        have HC32 := Aside0.mk H
                        clear H
                        go_upto_region 8 with (fail)
                        go_cut [7] (fun v7 wc => ∃ (kq : Nat) (x7_31 : Bool), v7 = .bool x7_31 ∧ Aside0 (decanterlaw11_KindRules.j3 kq (rdOf ByteArray.empty y289 x16_1) x5_12 x6_24 x7_31 y289 (y289.length : Int) x16_1 = some r) ∧ Aside0 (kq ≤ kj24) ∧ Aside0 (Kd.R Kd.string 9 wc w.heap.size (fun _ => True) (.slice (some ad292) y289.length co9) y289) ∧ Aside0 (Below w.heap.size w wc))
                        case first =>
                          have H := HC32.out
                          clear HC32
                          replace H := Option.bind_eq_some_iff.mp H
                          obtain ⟨t298, A330, H⟩ := H
                          replace H : (if t298 = true then ((kind_Is.f (rdOf ByteArray.empty y289 x16_1) 147).bind fun t299 => (decanterlaw11_KindRules.j3 kj24 (rdOf ByteArray.empty y289 x16_1) x5_12 x6_24 t299 y289 (y289.length : Int) x16_1)) else (decanterlaw11_KindRules.j3 kj24 (rdOf ByteArray.empty y289 x16_1) x5_12 x6_24 false y289 (y289.length : Int) x16_1)) = some r := H
                          have A33 := Aside0.mk A330
                          clear A330
                          by_cases c34 : t298 = true
                          · subst c34
                            have H1 : ((kind_Is.f (rdOf ByteArray.empty y289 x16_1) 147).bind fun t299 => (decanterlaw11_KindRules.j3 kj24 (rdOf ByteArray.empty y289 x16_1) x5_12 x6_24 t299 y289 (y289.length : Int) x16_1)) = some r := by rw [if_pos rfl] at H; exact H
                            clear H
                            have H := H1
                            clear H1
                            replace H := Option.bind_eq_some_iff.mp H
                            obtain ⟨t299, A350, H⟩ := H
                            replace H : (decanterlaw11_KindRules.j3 kj24 (rdOf ByteArray.empty y289 x16_1) x5_12 x6_24 t299 y289 (y289.length : Int) x16_1) = some r := H
                            have A35 := Aside0.mk A350
                            clear A350
                            have H' := Aside0.mk H
                            clear H
                            go_wp2_with (first | ((with_reducible refine gate_callee (f := 16) rfl ?_); refine goesL_ (some 39) rfl rfl Tryd.func16 (by kernel_rfl) rfl #[.string (rdOf ByteArray.empty y289 x16_1), .int .i64 8] rfl (by (try simp only [List.map_toArray, List.map_cons, List.map_nil]); first | done | rfl | (simp only [List.length_drop, List.length_take]; rfl)) ?_; (with_reducible refine (kind_Is.calls (rdOf ByteArray.empty y289 x16_1) 8 true _ ?side1 A33.out).mono ?_); (case side1 => exact GW.below HG.out (by repeat (first | (with_reducible first | exact HB.out | apply below_alloc | apply pw_below_drewN | apply below_drew1) | exact HB.out))); rintro e w36 ⟨rfl, hb⟩; refine ⟨_, rfl, ?_⟩; have n0_ := Aside0.mk (Kd.R_below (by (with_reducible repeat (first | apply Kd.R_alloc | apply Kd.R_drewN | apply Kd.R_drew)); exact HO_14.out) hb); have n1_ := Aside0.mk (below_step (by repeat (first | (with_reducible first | exact HB.out | apply below_alloc | apply pw_below_drewN | apply below_drew1) | exact HB.out)) hb); clear HO_14; clear HB; have HO_14 := n0_; have HB := n1_; clear n0_ n1_; (try clear hb); (try clear hb2); (try clear hk); (try clear hi)) | (go_at_call 16; (with_reducible refine (kind_Is.calls (rdOf ByteArray.empty y289 x16_1) 147 t299 _ ?side1 A35.out).mono ?_); (case side1 => exact GW.below HG.out (by repeat (first | (with_reducible first | exact HB.out | apply below_alloc | apply pw_below_drewN | apply below_drew1) | exact HB.out))); rintro e w37 ⟨rfl, hb⟩; have n0_ := Aside0.mk (Kd.R_below (by (with_reducible repeat (first | apply Kd.R_alloc | apply Kd.R_drewN | apply Kd.R_drew)); exact HO_14.out) hb); have n1_ := Aside0.mk (below_step (by repeat (first | (with_reducible first | exact HB.out | apply below_alloc | apply pw_below_drewN | apply below_drew1) | exact HB.out)) hb); clear HO_14; clear HB; have HO_14 := n0_; have HB := n1_; clear n0_ n1_; (try clear hb); (try clear hb2); (try clear hk); (try clear hi)))
                            go_meet
                            case rel => exact ⟨_, (t299), (by first | rfl | (simp; done) | (simp [*]; done)), H', ⟨by have := HK1.out; have := HJ12.out; have := HJ24.out; first | omega | exact Nat.le_refl _⟩, ⟨by (with_reducible repeat (first | apply Kd.R_alloc | apply Kd.R_drewN | apply Kd.R_drew)); exact HO_14.out⟩, ⟨by repeat (first | (with_reducible first | exact HB.out | apply below_alloc | apply pw_below_drewN | apply below_drew1) | exact HB.out)⟩⟩
                          · replace c34 := Bool.eq_false_iff.mpr c34
                            subst c34
                            have H1 : (decanterlaw11_KindRules.j3 kj24 (rdOf ByteArray.empty y289 x16_1) x5_12 x6_24 false y289 (y289.length : Int) x16_1) = some r := by rw [if_neg (show ¬ (false = true) by decide)] at H; exact H
                            clear H
                            have H := H1
                            clear H1
                            have H' := Aside0.mk H
                            clear H
                            go_wp2_with (first | ((with_reducible refine gate_callee (f := 16) rfl ?_); refine goesL_ (some 39) rfl rfl Tryd.func16 (by kernel_rfl) rfl #[.string (rdOf ByteArray.empty y289 x16_1), .int .i64 8] rfl (by (try simp only [List.map_toArray, List.map_cons, List.map_nil]); first | done | rfl | (simp only [List.length_drop, List.length_take]; rfl)) ?_; (with_reducible refine (kind_Is.calls (rdOf ByteArray.empty y289 x16_1) 8 false _ ?side1 A33.out).mono ?_); (case side1 => exact GW.below HG.out (by repeat (first | (with_reducible first | exact HB.out | apply below_alloc | apply pw_below_drewN | apply below_drew1) | exact HB.out))); rintro e w38 ⟨rfl, hb⟩; refine ⟨_, rfl, ?_⟩; have n0_ := Aside0.mk (Kd.R_below (by (with_reducible repeat (first | apply Kd.R_alloc | apply Kd.R_drewN | apply Kd.R_drew)); exact HO_14.out) hb); have n1_ := Aside0.mk (below_step (by repeat (first | (with_reducible first | exact HB.out | apply below_alloc | apply pw_below_drewN | apply below_drew1) | exact HB.out)) hb); clear HO_14; clear HB; have HO_14 := n0_; have HB := n1_; clear n0_ n1_; (try clear hb); (try clear hb2); (try clear hk); (try clear hi)))
                            go_meet
                            case rel => exact ⟨_, (false), (by first | rfl | (simp; done) | (simp [*]; done)), H', ⟨by have := HK1.out; have := HJ12.out; have := HJ24.out; first | omega | exact Nat.le_refl _⟩, ⟨by (with_reducible repeat (first | apply Kd.R_alloc | apply Kd.R_drewN | apply Kd.R_drew)); exact HO_14.out⟩, ⟨by repeat (first | (with_reducible first | exact HB.out | apply below_alloc | apply pw_below_drewN | apply below_drew1) | exact HB.out)⟩⟩
                        case rest =>
                          clear HC32
                          try clear c1
                          try clear c2
                          try clear p2
                          try clear q2
                          try clear hx2
                          try clear c3
                          try clear c5
                          try clear c10
                          try clear c10b0
                          try clear c11
                          try clear c11b0
                          try clear c12
                          try clear c12b0
                          try clear c13
                          try clear c15
                          try clear c16
                          try clear c17
                          try clear c27
                          try clear p29
                          try clear q29
                          try clear hx29
                          try clear c33
                          try clear c34
                          try clear hx292_0
                          try clear p2
                          try clear p29
                          try clear p292
                          try clear q2
                          try clear q29
                          try clear q292
                          obtain ⟨kq, x7_31, rfl, HA, HJ31, HO_14, HB⟩ := hcut
                          cases kq with
                          | zero => exact absurd HA.out (by simp [decanterlaw11_KindRules.j3])
                          | succ kj31 =>
                            have H := HA.out
                            clear HA
                            simp only [decanterlaw11_KindRules.j3] at H
                            have HC39 := Aside0.mk H
                            clear H
                            go_upto_region 9 with (fail)
                            go_cut [8] (fun v8 wc => ∃ (kq : Nat) (x8_38 : Bool), v8 = .bool x8_38 ∧ Aside0 (decanterlaw11_KindRules.j4 kq (rdOf ByteArray.empty y289 x16_1) x5_12 x6_24 x7_31 x8_38 y289 (y289.length : Int) x16_1 = some r) ∧ Aside0 (kq ≤ kj31) ∧ Aside0 (Kd.R Kd.string 9 wc w.heap.size (fun _ => True) (.slice (some ad292) y289.length co9) y289) ∧ Aside0 (Below w.heap.size w wc))
                            case first =>
                              have H := HC39.out
                              clear HC39
                              replace H := Option.bind_eq_some_iff.mp H
                              obtain ⟨t300, A400, H⟩ := H
                              replace H : (if t300 = true then ((kind_Is.f (rdOf ByteArray.empty y289 x16_1) 352).bind fun t301 => (decanterlaw11_KindRules.j4 kj31 (rdOf ByteArray.empty y289 x16_1) x5_12 x6_24 x7_31 t301 y289 (y289.length : Int) x16_1)) else (decanterlaw11_KindRules.j4 kj31 (rdOf ByteArray.empty y289 x16_1) x5_12 x6_24 x7_31 false y289 (y289.length : Int) x16_1)) = some r := H
                              have A40 := Aside0.mk A400
                              clear A400
                              by_cases c41 : t300 = true
                              · subst c41
                                have H1 : ((kind_Is.f (rdOf ByteArray.empty y289 x16_1) 352).bind fun t301 => (decanterlaw11_KindRules.j4 kj31 (rdOf ByteArray.empty y289 x16_1) x5_12 x6_24 x7_31 t301 y289 (y289.length : Int) x16_1)) = some r := by rw [if_pos rfl] at H; exact H
                                clear H
                                have H := H1
                                clear H1
                                replace H := Option.bind_eq_some_iff.mp H
                                obtain ⟨t301, A420, H⟩ := H
                                replace H : (decanterlaw11_KindRules.j4 kj31 (rdOf ByteArray.empty y289 x16_1) x5_12 x6_24 x7_31 t301 y289 (y289.length : Int) x16_1) = some r := H
                                have A42 := Aside0.mk A420
                                clear A420
                                have H' := Aside0.mk H
                                clear H
                                go_wp2_with (first | ((with_reducible refine gate_callee (f := 16) rfl ?_); refine goesL_ (some 45) rfl rfl Tryd.func16 (by kernel_rfl) rfl #[.string (rdOf ByteArray.empty y289 x16_1), .int .i64 512] rfl (by (try simp only [List.map_toArray, List.map_cons, List.map_nil]); first | done | rfl | (simp only [List.length_drop, List.length_take]; rfl)) ?_; (with_reducible refine (kind_Is.calls (rdOf ByteArray.empty y289 x16_1) 512 true _ ?side1 A40.out).mono ?_); (case side1 => exact GW.below HG.out (by repeat (first | (with_reducible first | exact HB.out | apply below_alloc | apply pw_below_drewN | apply below_drew1) | exact HB.out))); rintro e w43 ⟨rfl, hb⟩; refine ⟨_, rfl, ?_⟩; have n0_ := Aside0.mk (Kd.R_below (by (with_reducible repeat (first | apply Kd.R_alloc | apply Kd.R_drewN | apply Kd.R_drew)); exact HO_14.out) hb); have n1_ := Aside0.mk (below_step (by repeat (first | (with_reducible first | exact HB.out | apply below_alloc | apply pw_below_drewN | apply below_drew1) | exact HB.out)) hb); clear HO_14; clear HB; have HO_14 := n0_; have HB := n1_; clear n0_ n1_; (try clear hb); (try clear hb2); (try clear hk); (try clear hi)) | (go_at_call 16; (with_reducible refine (kind_Is.calls (rdOf ByteArray.empty y289 x16_1) 352 t301 _ ?side1 A42.out).mono ?_); (case side1 => exact GW.below HG.out (by repeat (first | (with_reducible first | exact HB.out | apply below_alloc | apply pw_below_drewN | apply below_drew1) | exact HB.out))); rintro e w44 ⟨rfl, hb⟩; have n0_ := Aside0.mk (Kd.R_below (by (with_reducible repeat (first | apply Kd.R_alloc | apply Kd.R_drewN | apply Kd.R_drew)); exact HO_14.out) hb); have n1_ := Aside0.mk (below_step (by repeat (first | (with_reducible first | exact HB.out | apply below_alloc | apply pw_below_drewN | apply below_drew1) | exact HB.out)) hb); clear HO_14; clear HB; have HO_14 := n0_; have HB := n1_; clear n0_ n1_; (try clear hb); (try clear hb2); (try clear hk); (try clear hi)))
                                go_meet
                                case rel => exact ⟨_, (t301), (by first | rfl | (simp; done) | (simp [*]; done)), H', ⟨by have := HK1.out; have := HJ12.out; have := HJ24.out; have := HJ31.out; first | omega | exact Nat.le_refl _⟩, ⟨by (with_reducible repeat (first | apply Kd.R_alloc | apply Kd.R_drewN | apply Kd.R_drew)); exact HO_14.out⟩, ⟨by repeat (first | (with_reducible first | exact HB.out | apply below_alloc | apply pw_below_drewN | apply below_drew1) | exact HB.out)⟩⟩
                              · replace c41 := Bool.eq_false_iff.mpr c41
                                subst c41
                                have H1 : (decanterlaw11_KindRules.j4 kj31 (rdOf ByteArray.empty y289 x16_1) x5_12 x6_24 x7_31 false y289 (y289.length : Int) x16_1) = some r := by rw [if_neg (show ¬ (false = true) by decide)] at H; exact H
                                clear H
                                have H := H1
                                clear H1
                                have H' := Aside0.mk H
                                clear H
                                go_wp2_with (first | ((with_reducible refine gate_callee (f := 16) rfl ?_); refine goesL_ (some 45) rfl rfl Tryd.func16 (by kernel_rfl) rfl #[.string (rdOf ByteArray.empty y289 x16_1), .int .i64 512] rfl (by (try simp only [List.map_toArray, List.map_cons, List.map_nil]); first | done | rfl | (simp only [List.length_drop, List.length_take]; rfl)) ?_; (with_reducible refine (kind_Is.calls (rdOf ByteArray.empty y289 x16_1) 512 false _ ?side1 A40.out).mono ?_); (case side1 => exact GW.below HG.out (by repeat (first | (with_reducible first | exact HB.out | apply below_alloc | apply pw_below_drewN | apply below_drew1) | exact HB.out))); rintro e w45 ⟨rfl, hb⟩; refine ⟨_, rfl, ?_⟩; have n0_ := Aside0.mk (Kd.R_below (by (with_reducible repeat (first | apply Kd.R_alloc | apply Kd.R_drewN | apply Kd.R_drew)); exact HO_14.out) hb); have n1_ := Aside0.mk (below_step (by repeat (first | (with_reducible first | exact HB.out | apply below_alloc | apply pw_below_drewN | apply below_drew1) | exact HB.out)) hb); clear HO_14; clear HB; have HO_14 := n0_; have HB := n1_; clear n0_ n1_; (try clear hb); (try clear hb2); (try clear hk); (try clear hi)))
                                go_meet
                                case rel => exact ⟨_, (false), (by first | rfl | (simp; done) | (simp [*]; done)), H', ⟨by have := HK1.out; have := HJ12.out; have := HJ24.out; have := HJ31.out; first | omega | exact Nat.le_refl _⟩, ⟨by (with_reducible repeat (first | apply Kd.R_alloc | apply Kd.R_drewN | apply Kd.R_drew)); exact HO_14.out⟩, ⟨by repeat (first | (with_reducible first | exact HB.out | apply below_alloc | apply pw_below_drewN | apply below_drew1) | exact HB.out)⟩⟩
                            case rest =>
                              clear HC39
                              try clear c1
                              try clear c2
                              try clear p2
                              try clear q2
                              try clear hx2
                              try clear c3
                              try clear c4
                              try clear c5
                              try clear c10
                              try clear c10b0
                              try clear c11
                              try clear c11b0
                              try clear c12
                              try clear c12b0
                              try clear c13
                              try clear c15
                              try clear c16
                              try clear c17
                              try clear c27
                              try clear p29
                              try clear q29
                              try clear hx29
                              try clear c33
                              try clear c34
                              try clear c41
                              try clear hx292_0
                              try clear p2
                              try clear p29
                              try clear p292
                              try clear q2
                              try clear q29
                              try clear q292
                              obtain ⟨kq, x8_38, rfl, HA, HJ38, HO_14, HB⟩ := hcut
                              cases kq with
                              | zero => exact absurd HA.out (by simp [decanterlaw11_KindRules.j4])
                              | succ kj38 =>
                                have H := HA.out
                                clear HA
                                simp only [decanterlaw11_KindRules.j4] at H
                                by_cases c46 : x5_12 = true
                                · subst c46
                                  have H1 : (some false) = some r := by rw [if_pos rfl] at H; exact H
                                  clear H
                                  have H := H1
                                  clear H1
                                  obtain rfl := Option.some.inj H
                                  go_wp2
                                  go_ret
                                  exact ⟨by first | rfl | (simp [errW_none, errW_some] <;> rfl) | (simp [*, errW_none, errW_some] <;> rfl), by repeat (first | (with_reducible first | exact HB.out | apply below_alloc | apply pw_below_drewN | apply below_drew1) | exact HB.out)⟩
                                · replace c46 := Bool.eq_false_iff.mpr c46
                                  subst c46
                                  have H1 : (if x6_24 = true then (some false) else (if x7_31 = true then (some false) else (if x8_38 = true then (some false) else ((kind_Is.f (rdOf ByteArray.empty y289 x16_1) 0).bind fun t302 => (if t302 = true then (some false) else ((kind_Is.f (rdOf ByteArray.empty y289 x16_1) (-1)).bind fun t303 => ((kind_Of.f (rdOf ByteArray.empty y289 x16_1)).bind fun t304 => (if (t303 != (t304 != 0)) = true then (some false) else (decanterlaw11_KindRules.l0 kj38 y289 (y289.length : Int) (wrap64 (x16_1 + 1))))))))))) = some r := by rw [if_neg (show ¬ (false = true) by decide)] at H; exact H
                                  clear H
                                  have H := H1
                                  clear H1
                                  by_cases c47 : x6_24 = true
                                  · subst c47
                                    have H1 : (some false) = some r := by rw [if_pos rfl] at H; exact H
                                    clear H
                                    have H := H1
                                    clear H1
                                    obtain rfl := Option.some.inj H
                                    go_wp2
                                    go_ret
                                    exact ⟨by first | rfl | (simp [errW_none, errW_some] <;> rfl) | (simp [*, errW_none, errW_some] <;> rfl), by repeat (first | (with_reducible first | exact HB.out | apply below_alloc | apply pw_below_drewN | apply below_drew1) | exact HB.out)⟩
                                  · replace c47 := Bool.eq_false_iff.mpr c47
                                    subst c47
                                    have H1 : (if x7_31 = true then (some false) else (if x8_38 = true then (some false) else ((kind_Is.f (rdOf ByteArray.empty y289 x16_1) 0).bind fun t302 => (if t302 = true then (some false) else ((kind_Is.f (rdOf ByteArray.empty y289 x16_1) (-1)).bind fun t303 => ((kind_Of.f (rdOf ByteArray.empty y289 x16_1)).bind fun t304 => (if (t303 != (t304 != 0)) = true then (some false) else (decanterlaw11_KindRules.l0 kj38 y289 (y289.length : Int) (wrap64 (x16_1 + 1)))))))))) = some r := by rw [if_neg (show ¬ (false = true) by decide)] at H; exact H
                                    clear H
                                    have H := H1
                                    clear H1
                                    by_cases c48 : x7_31 = true
                                    · subst c48
                                      have H1 : (some false) = some r := by rw [if_pos rfl] at H; exact H
                                      clear H
                                      have H := H1
                                      clear H1
                                      obtain rfl := Option.some.inj H
                                      go_wp2
                                      go_ret
                                      exact ⟨by first | rfl | (simp [errW_none, errW_some] <;> rfl) | (simp [*, errW_none, errW_some] <;> rfl), by repeat (first | (with_reducible first | exact HB.out | apply below_alloc | apply pw_below_drewN | apply below_drew1) | exact HB.out)⟩
                                    · replace c48 := Bool.eq_false_iff.mpr c48
                                      subst c48
                                      have H1 : (if x8_38 = true then (some false) else ((kind_Is.f (rdOf ByteArray.empty y289 x16_1) 0).bind fun t302 => (if t302 = true then (some false) else ((kind_Is.f (rdOf ByteArray.empty y289 x16_1) (-1)).bind fun t303 => ((kind_Of.f (rdOf ByteArray.empty y289 x16_1)).bind fun t304 => (if (t303 != (t304 != 0)) = true then (some false) else (decanterlaw11_KindRules.l0 kj38 y289 (y289.length : Int) (wrap64 (x16_1 + 1))))))))) = some r := by rw [if_neg (show ¬ (false = true) by decide)] at H; exact H
                                      clear H
                                      have H := H1
                                      clear H1
                                      by_cases c49 : x8_38 = true
                                      · subst c49
                                        have H1 : (some false) = some r := by rw [if_pos rfl] at H; exact H
                                        clear H
                                        have H := H1
                                        clear H1
                                        obtain rfl := Option.some.inj H
                                        go_wp2
                                        go_ret
                                        exact ⟨by first | rfl | (simp [errW_none, errW_some] <;> rfl) | (simp [*, errW_none, errW_some] <;> rfl), by repeat (first | (with_reducible first | exact HB.out | apply below_alloc | apply pw_below_drewN | apply below_drew1) | exact HB.out)⟩
                                      · replace c49 := Bool.eq_false_iff.mpr c49
                                        subst c49
                                        have H1 : ((kind_Is.f (rdOf ByteArray.empty y289 x16_1) 0).bind fun t302 => (if t302 = true then (some false) else ((kind_Is.f (rdOf ByteArray.empty y289 x16_1) (-1)).bind fun t303 => ((kind_Of.f (rdOf ByteArray.empty y289 x16_1)).bind fun t304 => (if (t303 != (t304 != 0)) = true then (some false) else (decanterlaw11_KindRules.l0 kj38 y289 (y289.length : Int) (wrap64 (x16_1 + 1)))))))) = some r := by rw [if_neg (show ¬ (false = true) by decide)] at H; exact H
                                        clear H
                                        have H := H1
                                        clear H1
                                        replace H := Option.bind_eq_some_iff.mp H
                                        obtain ⟨t302, A500, H⟩ := H
                                        replace H : (if t302 = true then (some false) else ((kind_Is.f (rdOf ByteArray.empty y289 x16_1) (-1)).bind fun t303 => ((kind_Of.f (rdOf ByteArray.empty y289 x16_1)).bind fun t304 => (if (t303 != (t304 != 0)) = true then (some false) else (decanterlaw11_KindRules.l0 kj38 y289 (y289.length : Int) (wrap64 (x16_1 + 1))))))) = some r := H
                                        have A50 := Aside0.mk A500
                                        clear A500
                                        by_cases c51 : t302 = true
                                        · subst c51
                                          have H1 : (some false) = some r := by rw [if_pos rfl] at H; exact H
                                          clear H
                                          have H := H1
                                          clear H1
                                          obtain rfl := Option.some.inj H
                                          go_wp2_with (first | (go_at_call 16; (with_reducible refine (kind_Is.calls (rdOf ByteArray.empty y289 x16_1) 0 true _ ?side1 A50.out).mono ?_); (case side1 => exact GW.below HG.out (by repeat (first | (with_reducible first | exact HB.out | apply below_alloc | apply pw_below_drewN | apply below_drew1) | exact HB.out))); rintro e w52 ⟨rfl, hb⟩; have n0_ := Aside0.mk (Kd.R_below (by (with_reducible repeat (first | apply Kd.R_alloc | apply Kd.R_drewN | apply Kd.R_drew)); exact HO_14.out) hb); have n1_ := Aside0.mk (below_step (by repeat (first | (with_reducible first | exact HB.out | apply below_alloc | apply pw_below_drewN | apply below_drew1) | exact HB.out)) hb); clear HO_14; clear HB; have HO_14 := n0_; have HB := n1_; clear n0_ n1_; (try clear hb); (try clear hb2); (try clear hk); (try clear hi)))
                                          go_ret
                                          exact ⟨by first | rfl | (simp [errW_none, errW_some] <;> rfl) | (simp [*, errW_none, errW_some] <;> rfl), by repeat (first | (with_reducible first | exact HB.out | apply below_alloc | apply pw_below_drewN | apply below_drew1) | exact HB.out)⟩
                                        · replace c51 := Bool.eq_false_iff.mpr c51
                                          subst c51
                                          have H1 : ((kind_Is.f (rdOf ByteArray.empty y289 x16_1) (-1)).bind fun t303 => ((kind_Of.f (rdOf ByteArray.empty y289 x16_1)).bind fun t304 => (if (t303 != (t304 != 0)) = true then (some false) else (decanterlaw11_KindRules.l0 kj38 y289 (y289.length : Int) (wrap64 (x16_1 + 1)))))) = some r := by rw [if_neg (show ¬ (false = true) by decide)] at H; exact H
                                          clear H
                                          have H := H1
                                          clear H1
                                          replace H := Option.bind_eq_some_iff.mp H
                                          obtain ⟨t303, A530, H⟩ := H
                                          replace H : ((kind_Of.f (rdOf ByteArray.empty y289 x16_1)).bind fun t304 => (if (t303 != (t304 != 0)) = true then (some false) else (decanterlaw11_KindRules.l0 kj38 y289 (y289.length : Int) (wrap64 (x16_1 + 1))))) = some r := H
                                          have A53 := Aside0.mk A530
                                          clear A530
                                          replace H := Option.bind_eq_some_iff.mp H
                                          obtain ⟨t304, A540, H⟩ := H
                                          replace H : (if (t303 != (t304 != 0)) = true then (some false) else (decanterlaw11_KindRules.l0 kj38 y289 (y289.length : Int) (wrap64 (x16_1 + 1)))) = some r := H
                                          have A54 := Aside0.mk A540
                                          clear A540
                                          by_cases c55 : (t303 != (t304 != 0)) = true
                                          · rw [if_pos c55] at H
                                            have c55b0 : (t303 != (t304 != 0)) = true := c55
                                            (try (have c55b1 : decide (t303 = (t304 != 0)) = false := by simpa using c55))
                                            (try (have c55b2 : (t303 == (t304 != 0)) = false := by simpa using c55))
                                            (try (have c55b3 : ¬ (t303 = (t304 != 0)) := by simpa using c55))
                                            clear c55
                                            obtain rfl := Option.some.inj H
                                            go_wp2_with (first | (go_at_call 16; (with_reducible refine (kind_Is.calls (rdOf ByteArray.empty y289 x16_1) 0 false _ ?side1 A50.out).mono ?_); (case side1 => exact GW.below HG.out (by repeat (first | (with_reducible first | exact HB.out | apply below_alloc | apply pw_below_drewN | apply below_drew1) | exact HB.out))); rintro e w56 ⟨rfl, hb⟩; have n0_ := Aside0.mk (Kd.R_below (by (with_reducible repeat (first | apply Kd.R_alloc | apply Kd.R_drewN | apply Kd.R_drew)); exact HO_14.out) hb); have n1_ := Aside0.mk (below_step (by repeat (first | (with_reducible first | exact HB.out | apply below_alloc | apply pw_below_drewN | apply below_drew1) | exact HB.out)) hb); clear HO_14; clear HB; have HO_14 := n0_; have HB := n1_; clear n0_ n1_; (try clear hb); (try clear hb2); (try clear hk); (try clear hi)) | (go_at_call 16; (with_reducible refine (kind_Is.calls (rdOf ByteArray.empty y289 x16_1) (-1) t303 _ ?side1 A53.out).mono ?_); (case side1 => exact GW.below HG.out (by repeat (first | (with_reducible first | exact HB.out | apply below_alloc | apply pw_below_drewN | apply below_drew1) | exact HB.out))); rintro e w57 ⟨rfl, hb⟩; have n0_ := Aside0.mk (Kd.R_below (by (with_reducible repeat (first | apply Kd.R_alloc | apply Kd.R_drewN | apply Kd.R_drew)); exact HO_14.out) hb); have n1_ := Aside0.mk (below_step (by repeat (first | (with_reducible first | exact HB.out | apply below_alloc | apply pw_below_drewN | apply below_drew1) | exact HB.out)) hb); clear HO_14; clear HB; have HO_14 := n0_; have HB := n1_; clear n0_ n1_; (try clear hb); (try clear hb2); (try clear hk); (try clear hi)) | (go_at_call 15; (with_reducible refine (kind_Of.calls (rdOf ByteArray.empty y289 x16_1) t304 _ ?side1 A54.out).mono ?_); (case side1 => exact GW.below HG.out (by repeat (first | (with_reducible first | exact HB.out | apply below_alloc | apply pw_below_drewN | apply below_drew1) | exact HB.out))); rintro e w58 ⟨rfl, hb⟩; have n0_ := Aside0.mk (Kd.R_below (by (with_reducible repeat (first | apply Kd.R_alloc | apply Kd.R_drewN | apply Kd.R_drew)); exact HO_14.out) hb); have n1_ := Aside0.mk (below_step (by repeat (first | (with_reducible first | exact HB.out | apply below_alloc | apply pw_below_drewN | apply below_drew1) | exact HB.out)) hb); clear HO_14; clear HB; have HO_14 := n0_; have HB := n1_; clear n0_ n1_; (try clear hb); (try clear hb2); (try clear hk); (try clear hi)))
                                            go_ret
                                            exact ⟨by first | rfl | (simp [errW_none, errW_some] <;> rfl) | (simp [*, errW_none, errW_some] <;> rfl), by repeat (first | (with_reducible first | exact HB.out | apply below_alloc | apply pw_below_drewN | apply below_drew1) | exact HB.out)⟩
                                          · rw [if_neg c55] at H
                                            have c55b0 : (t303 != (t304 != 0)) = false := by simpa using c55
                                            (try (have c55b1 : decide (t303 = (t304 != 0)) = true := by simpa using c55))
                                            (try (have c55b2 : (t303 == (t304 != 0)) = true := by simpa using c55))
                                            clear c55
                                            have H' := Aside0.mk H
                                            clear H
                                            go_wp2_with (first | (go_at_call 16; (with_reducible refine (kind_Is.calls (rdOf ByteArray.empty y289 x16_1) 0 false _ ?side1 A50.out).mono ?_); (case side1 => exact GW.below HG.out (by repeat (first | (with_reducible first | exact HB.out | apply below_alloc | apply pw_below_drewN | apply below_drew1) | exact HB.out))); rintro e w59 ⟨rfl, hb⟩; have n0_ := Aside0.mk (Kd.R_below (by (with_reducible repeat (first | apply Kd.R_alloc | apply Kd.R_drewN | apply Kd.R_drew)); exact HO_14.out) hb); have n1_ := Aside0.mk (below_step (by repeat (first | (with_reducible first | exact HB.out | apply below_alloc | apply pw_below_drewN | apply below_drew1) | exact HB.out)) hb); clear HO_14; clear HB; have HO_14 := n0_; have HB := n1_; clear n0_ n1_; (try clear hb); (try clear hb2); (try clear hk); (try clear hi)) | (go_at_call 16; (with_reducible refine (kind_Is.calls (rdOf ByteArray.empty y289 x16_1) (-1) t303 _ ?side1 A53.out).mono ?_); (case side1 => exact GW.below HG.out (by repeat (first | (with_reducible first | exact HB.out | apply below_alloc | apply pw_below_drewN | apply below_drew1) | exact HB.out))); rintro e w60 ⟨rfl, hb⟩; have n0_ := Aside0.mk (Kd.R_below (by (with_reducible repeat (first | apply Kd.R_alloc | apply Kd.R_drewN | apply Kd.R_drew)); exact HO_14.out) hb); have n1_ := Aside0.mk (below_step (by repeat (first | (with_reducible first | exact HB.out | apply below_alloc | apply pw_below_drewN | apply below_drew1) | exact HB.out)) hb); clear HO_14; clear HB; have HO_14 := n0_; have HB := n1_; clear n0_ n1_; (try clear hb); (try clear hb2); (try clear hk); (try clear hi)) | (go_at_call 15; (with_reducible refine (kind_Of.calls (rdOf ByteArray.empty y289 x16_1) t304 _ ?side1 A54.out).mono ?_); (case side1 => exact GW.below HG.out (by repeat (first | (with_reducible first | exact HB.out | apply below_alloc | apply pw_below_drewN | apply below_drew1) | exact HB.out))); rintro e w61 ⟨rfl, hb⟩; have n0_ := Aside0.mk (Kd.R_below (by (with_reducible repeat (first | apply Kd.R_alloc | apply Kd.R_drewN | apply Kd.R_drew)); exact HO_14.out) hb); have n1_ := Aside0.mk (below_step (by repeat (first | (with_reducible first | exact HB.out | apply below_alloc | apply pw_below_drewN | apply below_drew1) | exact HB.out)) hb); clear HO_14; clear HB; have HO_14 := n0_; have HB := n1_; clear n0_ n1_; (try clear hb); (try clear hb2); (try clear hk); (try clear hi)))
                                            go_roundg kj38
                                            case measure => have := HK1.out; have := HJ12.out; have := HJ24.out; have := HJ31.out; have := HJ38.out; omega
                                            case rel => exact ⟨(wrap64 (x16_1 + 1)), (by first | rfl | (simp; done) | (simp [*]; done)), H', ⟨by have := HK1.out; have := HJ12.out; have := HJ24.out; have := HJ31.out; have := HJ38.out; omega⟩, ⟨by (with_reducible repeat (first | apply Kd.R_alloc | apply Kd.R_drewN | apply Kd.R_drew)); exact HO_14.out⟩, ⟨by repeat (first | (with_reducible first | exact HB.out | apply below_alloc | apply pw_below_drewN | apply below_drew1) | exact HB.out)⟩⟩
              · rw [if_neg c12] at H
                exact absurd H (by simp)
            · rw [if_neg c11] at H
              exact absurd H (by simp)
          · rw [if_neg c10] at H
            have c10b0 : decide (x16_1 < (y289.length : Int)) = false := decide_eq_false c10
            clear c10
            obtain rfl := Option.some.inj H
            go_wp2
            go_ret
            exact ⟨by first | rfl | (simp [errW_none, errW_some] <;> rfl) | (simp [*, errW_none, errW_some] <;> rfl), by repeat (first | (with_reducible first | exact HB.out | apply below_alloc | apply pw_below_drewN | apply below_drew1) | exact HB.out)⟩
    · rw [if_neg c5] at H
      exact absurd H (by simp)
  · replace c3 := Bool.eq_false_iff.mpr c3
    subst c3
    have H1 : (some false) = some r := by rw [if_neg (show ¬ (false = true) by decide)] at H; exact H
    clear H
    have H := H1
    clear H1
    obtain rfl := Option.some.inj H
    go_enter Tryd.func10, Tryd.ntmps10
    go_wp2_with (first | ((with_reducible refine gate_callee (f := 13) rfl ?_); refine goesL_ (some 9) rfl rfl Tryd.func13 (by kernel_rfl) rfl #[] rfl (by (try simp only [List.map_toArray, List.map_cons, List.map_nil]); first | done | rfl | (simp only [List.length_drop, List.length_take]; rfl)) ?_; (with_reducible refine (decanterlaw11_speaks.calls  false _ ?side1 A2.out).mono ?_); (case side1 => exact GW.below HG.out (by repeat (first | (with_reducible first | exact HB.out | apply below_alloc | apply pw_below_drewN | apply below_drew1) | exact HB.out))); rintro e w62 ⟨rfl, hb⟩; refine ⟨_, rfl, ?_⟩; have n0_ := Aside0.mk (below_step (by repeat (first | (with_reducible first | exact HB.out | apply below_alloc | apply pw_below_drewN | apply below_drew1) | exact HB.out)) hb); clear HB; have HB := n0_; clear n0_; (try clear hb); (try clear hb2); (try clear hk); (try clear hi)))
    go_ret
    exact ⟨by first | rfl | (simp [errW_none, errW_some] <;> rfl) | (simp [*, errW_none, errW_some] <;> rfl), by repeat (first | (with_reducible first | exact HB.out | apply below_alloc | apply pw_below_drewN | apply below_drew1) | exact HB.out)⟩

end Go.Proofs.YteahlapoeiikoaaDoor.P


-- Printed by a program of this session (wip/myprint.py over the kit's print).
namespace Go.Proofs.YteahlapoeiikoaaDoor.P
open Go.RowKit Go.Proofs.YteahlapoeiikoaaDoorW.PrintWords Go.Proofs.YteahlapoeiikoaaDoorW.PrintLast Go.Proofs.YteahlapoeiikoaaDoorW.PrintMore
attribute [local go_sem] max2_int min2_int max_two min_two max_three min_three max_four min_four   -- for this text's walks alone
set_option linter.unusedVariables false
set_option linter.unusedSimpArgs false

/-! ### decanterref11_Lists: function 34 -/
def decanterref11_Lists.f  : Option (List ByteArray) := some (([(⟨#[32, 97, 114, 101, 97, 32, 98, 97, 115, 101, 32, 98, 97, 115, 101, 102, 111, 110, 116, 32, 98, 103, 115, 111, 117, 110, 100, 32, 98, 114, 32, 101, 109, 98, 101, 100, 32, 104, 114, 32, 105, 109, 103, 32, 105, 110, 112, 117, 116, 32, 107, 101, 121, 103, 101, 110, 32, 108, 105, 110, 107, 32, 109, 101, 116, 97, 32, 112, 97, 114, 97, 109, 32, 115, 111, 117, 114, 99, 101, 32, 116, 114, 97, 99, 107, 32, 119, 98, 114, 32]⟩ : ByteArray), (⟨#[32, 97, 100, 100, 114, 101, 115, 115, 32, 97, 114, 116, 105, 99, 108, 101, 32, 97, 115, 105, 100, 101, 32, 98, 108, 111, 99, 107, 113, 117, 111, 116, 101, 32, 99, 101, 110, 116, 101, 114, 32, 100, 100, 32, 100, 101, 116, 97, 105, 108, 115, 32, 100, 105, 97, 108, 111, 103, 32, 100, 105, 114, 32, 100, 105, 118, 32, 100, 108, 32, 100, 116, 32, 102, 105, 101, 108, 100, 115, 101, 116, 32, 102, 105, 103, 99, 97, 112, 116, 105, 111, 110, 32, 102, 105, 103, 117, 114, 101, 32, 102, 111, 111, 116, 101, 114, 32, 102, 111, 114, 109, 32, 104, 49, 32, 104, 50, 32, 104, 51, 32, 104, 52, 32, 104, 53, 32, 104, 54, 32, 104, 101, 97, 100, 101, 114, 32, 104, 103, 114, 111, 117, 112, 32, 104, 114, 32, 108, 105, 32, 108, 105, 115, 116, 105, 110, 103, 32, 109, 97, 105, 110, 32, 109, 101, 110, 117, 32, 110, 97, 118, 32, 111, 108, 32, 112, 32, 112, 108, 97, 105, 110, 116, 101, 120, 116, 32, 112, 114, 101, 32, 115, 101, 99, 116, 105, 111, 110, 32, 115, 117, 109, 109, 97, 114, 121, 32, 116, 97, 98, 108, 101, 32, 117, 108, 32, 120, 109, 112, 32]⟩ : ByteArray), (⟨#[32, 104, 49, 32, 104, 50, 32, 104, 51, 32, 104, 52, 32, 104, 53, 32, 104, 54, 32]⟩ : ByteArray), (⟨#[32, 97, 32, 98, 32, 98, 105, 103, 32, 99, 111, 100, 101, 32, 101, 109, 32, 102, 111, 110, 116, 32, 105, 32, 110, 111, 98, 114, 32, 115, 32, 115, 109, 97, 108, 108, 32, 115, 116, 114, 105, 107, 101, 32, 115, 116, 114, 111, 110, 103, 32, 116, 116, 32, 117, 32]⟩ : ByteArray), (⟨#[32, 97, 100, 100, 114, 101, 115, 115, 32, 97, 112, 112, 108, 101, 116, 32, 97, 114, 101, 97, 32, 97, 114, 116, 105, 99, 108, 101, 32, 97, 115, 105, 100, 101, 32, 98, 97, 115, 101, 32, 98, 97, 115, 101, 102, 111, 110, 116, 32, 98, 103, 115, 111, 117, 110, 100, 32, 98, 108, 111, 99, 107, 113, 117, 111, 116, 101, 32, 98, 114, 32, 98, 117, 116, 116, 111, 110, 32, 99, 101, 110, 116, 101, 114, 32, 100, 100, 32, 100, 101, 116, 97, 105, 108, 115, 32, 100, 105, 114, 32, 100, 105, 118, 32, 100, 108, 32, 100, 116, 32, 101, 109, 98, 101, 100, 32, 102, 105, 101, 108, 100, 115, 101, 116, 32, 102, 105, 103, 99, 97, 112, 116, 105, 111, 110, 32, 102, 105, 103, 117, 114, 101, 32, 102, 111, 111, 116, 101, 114, 32, 102, 111, 114, 109, 32, 104, 49, 32, 104, 50, 32, 104, 51, 32, 104, 52, 32, 104, 53, 32, 104, 54, 32, 104, 101, 97, 100, 101, 114, 32, 104, 103, 114, 111, 117, 112, 32, 104, 114, 32, 105, 102, 114, 97, 109, 101, 32, 105, 109, 103, 32, 105, 110, 112, 117, 116, 32, 107, 101, 121, 103, 101, 110, 32, 108, 105, 32, 108, 105, 110, 107, 32, 108, 105, 115, 116, 105, 110, 103, 32, 109, 97, 105, 110, 32, 109, 97, 114, 113, 117, 101, 101, 32, 109, 101, 110, 117, 32, 109, 101, 116, 97, 32, 110, 97, 118, 32, 110, 111, 101, 109, 98, 101, 100, 32, 110, 111, 102, 114, 97, 109, 101, 115, 32, 111, 98, 106, 101, 99, 116, 32, 111, 108, 32, 112, 32, 112, 97, 114, 97, 109, 32, 112, 108, 97, 105, 110, 116, 101, 120, 116, 32, 112, 114, 101, 32, 115, 99, 114, 105, 112, 116, 32, 115, 101, 99, 116, 105, 111, 110, 32, 115, 101, 108, 101, 99, 116, 32, 115, 111, 117, 114, 99, 101, 32, 115, 116, 121, 108, 101, 32, 115, 117, 109, 109, 97, 114, 121, 32, 116, 97, 98, 108, 101, 32, 116, 101, 109, 112, 108, 97, 116, 101, 32, 116, 101, 120, 116, 97, 114, 101, 97, 32, 116, 105, 116, 108, 101, 32, 116, 114, 97, 99, 107, 32, 117, 108, 32, 119, 98, 114, 32, 120, 109, 112, 32]⟩ : ByteArray), (⟨#[32, 97, 112, 112, 108, 101, 116, 32, 109, 97, 114, 113, 117, 101, 101, 32, 111, 98, 106, 101, 99, 116, 32, 116, 97, 98, 108, 101, 32, 116, 101, 109, 112, 108, 97, 116, 101, 32]⟩ : ByteArray), (⟨#[32, 98, 111, 100, 121, 32, 99, 97, 112, 116, 105, 111, 110, 32, 99, 111, 108, 32, 99, 111, 108, 103, 114, 111, 117, 112, 32, 102, 114, 97, 109, 101, 32, 102, 114, 97, 109, 101, 115, 101, 116, 32, 104, 101, 97, 100, 32, 104, 116, 109, 108, 32, 116, 98, 111, 100, 121, 32, 116, 100, 32, 116, 102, 111, 111, 116, 32, 116, 104, 32, 116, 104, 101, 97, 100, 32, 116, 114, 32]⟩ : ByteArray), (⟨#[32, 100, 100, 32, 100, 116, 32, 108, 105, 32, 111, 112, 116, 103, 114, 111, 117, 112, 32, 111, 112, 116, 105, 111, 110, 32, 112, 32, 114, 98, 32, 114, 112, 32, 114, 116, 32, 114, 116, 99, 32]⟩ : ByteArray), (⟨#[32, 97, 112, 112, 108, 101, 116, 32, 109, 97, 114, 113, 117, 101, 101, 32, 111, 98, 106, 101, 99, 116, 32]⟩ : ByteArray), (⟨#[32, 97, 32, 97, 98, 98, 114, 32, 97, 100, 100, 114, 101, 115, 115, 32, 97, 114, 116, 105, 99, 108, 101, 32, 97, 115, 105, 100, 101, 32, 98, 32, 98, 100, 105, 32, 98, 100, 111, 32, 98, 105, 103, 32, 98, 108, 111, 99, 107, 113, 117, 111, 116, 101, 32, 98, 114, 32, 99, 101, 110, 116, 101, 114, 32, 99, 105, 116, 101, 32, 99, 111, 100, 101, 32, 100, 100, 32, 100, 101, 108, 32, 100, 102, 110, 32, 100, 105, 114, 32, 100, 105, 118, 32, 100, 108, 32, 100, 116, 32, 101, 109, 32, 102, 105, 103, 99, 97, 112, 116, 105, 111, 110, 32, 102, 105, 103, 117, 114, 101, 32, 102, 111, 110, 116, 32, 102, 111, 111, 116, 101, 114, 32, 104, 49, 32, 104, 50, 32, 104, 51, 32, 104, 52, 32, 104, 53, 32, 104, 54, 32, 104, 101, 97, 100, 101, 114, 32, 104, 114, 32, 105, 32, 105, 109, 103, 32, 105, 110, 115, 32, 107, 98, 100, 32, 108, 105, 32, 109, 97, 105, 110, 32, 109, 97, 114, 107, 32, 110, 97, 118, 32, 111, 108, 32, 112, 32, 112, 114, 101, 32, 113, 32, 115, 32, 115, 97, 109, 112, 32, 115, 101, 99, 116, 105, 111, 110, 32, 115, 109, 97, 108, 108, 32, 115, 112, 97, 110, 32, 115, 116, 114, 105, 107, 101, 32, 115, 116, 114, 111, 110, 103, 32, 115, 117, 98, 32, 115, 117, 112, 32, 116, 105, 109, 101, 32, 116, 116, 32, 117, 32, 117, 108, 32, 118, 97, 114, 32, 119, 98, 114, 32]⟩ : ByteArray)] : List ByteArray))
set_option maxHeartbeats 8000000 in
set_option maxRecDepth 100000 in
theorem decanterref11_Lists.calls  (r : List ByteArray) (w : World) (h : decanterref11_Lists.f  = some r) :
    Calls Tryd.prog 34 #[] w fun e w' => ∃ v0_ : Value, e = .returned (v0_) ∧ Kd.R Kd.string 9 w' w.heap.size (fun _ => True) v0_ r ∧ Below w.heap.size w w' := by
  have HB := Aside0.mk (Below.refl w.heap.size w)
  have H : (some (([(⟨#[32, 97, 114, 101, 97, 32, 98, 97, 115, 101, 32, 98, 97, 115, 101, 102, 111, 110, 116, 32, 98, 103, 115, 111, 117, 110, 100, 32, 98, 114, 32, 101, 109, 98, 101, 100, 32, 104, 114, 32, 105, 109, 103, 32, 105, 110, 112, 117, 116, 32, 107, 101, 121, 103, 101, 110, 32, 108, 105, 110, 107, 32, 109, 101, 116, 97, 32, 112, 97, 114, 97, 109, 32, 115, 111, 117, 114, 99, 101, 32, 116, 114, 97, 99, 107, 32, 119, 98, 114, 32]⟩ : ByteArray), (⟨#[32, 97, 100, 100, 114, 101, 115, 115, 32, 97, 114, 116, 105, 99, 108, 101, 32, 97, 115, 105, 100, 101, 32, 98, 108, 111, 99, 107, 113, 117, 111, 116, 101, 32, 99, 101, 110, 116, 101, 114, 32, 100, 100, 32, 100, 101, 116, 97, 105, 108, 115, 32, 100, 105, 97, 108, 111, 103, 32, 100, 105, 114, 32, 100, 105, 118, 32, 100, 108, 32, 100, 116, 32, 102, 105, 101, 108, 100, 115, 101, 116, 32, 102, 105, 103, 99, 97, 112, 116, 105, 111, 110, 32, 102, 105, 103, 117, 114, 101, 32, 102, 111, 111, 116, 101, 114, 32, 102, 111, 114, 109, 32, 104, 49, 32, 104, 50, 32, 104, 51, 32, 104, 52, 32, 104, 53, 32, 104, 54, 32, 104, 101, 97, 100, 101, 114, 32, 104, 103, 114, 111, 117, 112, 32, 104, 114, 32, 108, 105, 32, 108, 105, 115, 116, 105, 110, 103, 32, 109, 97, 105, 110, 32, 109, 101, 110, 117, 32, 110, 97, 118, 32, 111, 108, 32, 112, 32, 112, 108, 97, 105, 110, 116, 101, 120, 116, 32, 112, 114, 101, 32, 115, 101, 99, 116, 105, 111, 110, 32, 115, 117, 109, 109, 97, 114, 121, 32, 116, 97, 98, 108, 101, 32, 117, 108, 32, 120, 109, 112, 32]⟩ : ByteArray), (⟨#[32, 104, 49, 32, 104, 50, 32, 104, 51, 32, 104, 52, 32, 104, 53, 32, 104, 54, 32]⟩ : ByteArray), (⟨#[32, 97, 32, 98, 32, 98, 105, 103, 32, 99, 111, 100, 101, 32, 101, 109, 32, 102, 111, 110, 116, 32, 105, 32, 110, 111, 98, 114, 32, 115, 32, 115, 109, 97, 108, 108, 32, 115, 116, 114, 105, 107, 101, 32, 115, 116, 114, 111, 110, 103, 32, 116, 116, 32, 117, 32]⟩ : ByteArray), (⟨#[32, 97, 100, 100, 114, 101, 115, 115, 32, 97, 112, 112, 108, 101, 116, 32, 97, 114, 101, 97, 32, 97, 114, 116, 105, 99, 108, 101, 32, 97, 115, 105, 100, 101, 32, 98, 97, 115, 101, 32, 98, 97, 115, 101, 102, 111, 110, 116, 32, 98, 103, 115, 111, 117, 110, 100, 32, 98, 108, 111, 99, 107, 113, 117, 111, 116, 101, 32, 98, 114, 32, 98, 117, 116, 116, 111, 110, 32, 99, 101, 110, 116, 101, 114, 32, 100, 100, 32, 100, 101, 116, 97, 105, 108, 115, 32, 100, 105, 114, 32, 100, 105, 118, 32, 100, 108, 32, 100, 116, 32, 101, 109, 98, 101, 100, 32, 102, 105, 101, 108, 100, 115, 101, 116, 32, 102, 105, 103, 99, 97, 112, 116, 105, 111, 110, 32, 102, 105, 103, 117, 114, 101, 32, 102, 111, 111, 116, 101, 114, 32, 102, 111, 114, 109, 32, 104, 49, 32, 104, 50, 32, 104, 51, 32, 104, 52, 32, 104, 53, 32, 104, 54, 32, 104, 101, 97, 100, 101, 114, 32, 104, 103, 114, 111, 117, 112, 32, 104, 114, 32, 105, 102, 114, 97, 109, 101, 32, 105, 109, 103, 32, 105, 110, 112, 117, 116, 32, 107, 101, 121, 103, 101, 110, 32, 108, 105, 32, 108, 105, 110, 107, 32, 108, 105, 115, 116, 105, 110, 103, 32, 109, 97, 105, 110, 32, 109, 97, 114, 113, 117, 101, 101, 32, 109, 101, 110, 117, 32, 109, 101, 116, 97, 32, 110, 97, 118, 32, 110, 111, 101, 109, 98, 101, 100, 32, 110, 111, 102, 114, 97, 109, 101, 115, 32, 111, 98, 106, 101, 99, 116, 32, 111, 108, 32, 112, 32, 112, 97, 114, 97, 109, 32, 112, 108, 97, 105, 110, 116, 101, 120, 116, 32, 112, 114, 101, 32, 115, 99, 114, 105, 112, 116, 32, 115, 101, 99, 116, 105, 111, 110, 32, 115, 101, 108, 101, 99, 116, 32, 115, 111, 117, 114, 99, 101, 32, 115, 116, 121, 108, 101, 32, 115, 117, 109, 109, 97, 114, 121, 32, 116, 97, 98, 108, 101, 32, 116, 101, 109, 112, 108, 97, 116, 101, 32, 116, 101, 120, 116, 97, 114, 101, 97, 32, 116, 105, 116, 108, 101, 32, 116, 114, 97, 99, 107, 32, 117, 108, 32, 119, 98, 114, 32, 120, 109, 112, 32]⟩ : ByteArray), (⟨#[32, 97, 112, 112, 108, 101, 116, 32, 109, 97, 114, 113, 117, 101, 101, 32, 111, 98, 106, 101, 99, 116, 32, 116, 97, 98, 108, 101, 32, 116, 101, 109, 112, 108, 97, 116, 101, 32]⟩ : ByteArray), (⟨#[32, 98, 111, 100, 121, 32, 99, 97, 112, 116, 105, 111, 110, 32, 99, 111, 108, 32, 99, 111, 108, 103, 114, 111, 117, 112, 32, 102, 114, 97, 109, 101, 32, 102, 114, 97, 109, 101, 115, 101, 116, 32, 104, 101, 97, 100, 32, 104, 116, 109, 108, 32, 116, 98, 111, 100, 121, 32, 116, 100, 32, 116, 102, 111, 111, 116, 32, 116, 104, 32, 116, 104, 101, 97, 100, 32, 116, 114, 32]⟩ : ByteArray), (⟨#[32, 100, 100, 32, 100, 116, 32, 108, 105, 32, 111, 112, 116, 103, 114, 111, 117, 112, 32, 111, 112, 116, 105, 111, 110, 32, 112, 32, 114, 98, 32, 114, 112, 32, 114, 116, 32, 114, 116, 99, 32]⟩ : ByteArray), (⟨#[32, 97, 112, 112, 108, 101, 116, 32, 109, 97, 114, 113, 117, 101, 101, 32, 111, 98, 106, 101, 99, 116, 32]⟩ : ByteArray), (⟨#[32, 97, 32, 97, 98, 98, 114, 32, 97, 100, 100, 114, 101, 115, 115, 32, 97, 114, 116, 105, 99, 108, 101, 32, 97, 115, 105, 100, 101, 32, 98, 32, 98, 100, 105, 32, 98, 100, 111, 32, 98, 105, 103, 32, 98, 108, 111, 99, 107, 113, 117, 111, 116, 101, 32, 98, 114, 32, 99, 101, 110, 116, 101, 114, 32, 99, 105, 116, 101, 32, 99, 111, 100, 101, 32, 100, 100, 32, 100, 101, 108, 32, 100, 102, 110, 32, 100, 105, 114, 32, 100, 105, 118, 32, 100, 108, 32, 100, 116, 32, 101, 109, 32, 102, 105, 103, 99, 97, 112, 116, 105, 111, 110, 32, 102, 105, 103, 117, 114, 101, 32, 102, 111, 110, 116, 32, 102, 111, 111, 116, 101, 114, 32, 104, 49, 32, 104, 50, 32, 104, 51, 32, 104, 52, 32, 104, 53, 32, 104, 54, 32, 104, 101, 97, 100, 101, 114, 32, 104, 114, 32, 105, 32, 105, 109, 103, 32, 105, 110, 115, 32, 107, 98, 100, 32, 108, 105, 32, 109, 97, 105, 110, 32, 109, 97, 114, 107, 32, 110, 97, 118, 32, 111, 108, 32, 112, 32, 112, 114, 101, 32, 113, 32, 115, 32, 115, 97, 109, 112, 32, 115, 101, 99, 116, 105, 111, 110, 32, 115, 109, 97, 108, 108, 32, 115, 112, 97, 110, 32, 115, 116, 114, 105, 107, 101, 32, 115, 116, 114, 111, 110, 103, 32, 115, 117, 98, 32, 115, 117, 112, 32, 116, 105, 109, 101, 32, 116, 116, 32, 117, 32, 117, 108, 32, 118, 97, 114, 32, 119, 98, 114, 32]⟩ : ByteArray)] : List ByteArray))) = some r := h
  clear h
  obtain ⟨y104, hy104⟩ : ∃ y_ : List ByteArray, y_ = (([(⟨#[32, 97, 114, 101, 97, 32, 98, 97, 115, 101, 32, 98, 97, 115, 101, 102, 111, 110, 116, 32, 98, 103, 115, 111, 117, 110, 100, 32, 98, 114, 32, 101, 109, 98, 101, 100, 32, 104, 114, 32, 105, 109, 103, 32, 105, 110, 112, 117, 116, 32, 107, 101, 121, 103, 101, 110, 32, 108, 105, 110, 107, 32, 109, 101, 116, 97, 32, 112, 97, 114, 97, 109, 32, 115, 111, 117, 114, 99, 101, 32, 116, 114, 97, 99, 107, 32, 119, 98, 114, 32]⟩ : ByteArray), (⟨#[32, 97, 100, 100, 114, 101, 115, 115, 32, 97, 114, 116, 105, 99, 108, 101, 32, 97, 115, 105, 100, 101, 32, 98, 108, 111, 99, 107, 113, 117, 111, 116, 101, 32, 99, 101, 110, 116, 101, 114, 32, 100, 100, 32, 100, 101, 116, 97, 105, 108, 115, 32, 100, 105, 97, 108, 111, 103, 32, 100, 105, 114, 32, 100, 105, 118, 32, 100, 108, 32, 100, 116, 32, 102, 105, 101, 108, 100, 115, 101, 116, 32, 102, 105, 103, 99, 97, 112, 116, 105, 111, 110, 32, 102, 105, 103, 117, 114, 101, 32, 102, 111, 111, 116, 101, 114, 32, 102, 111, 114, 109, 32, 104, 49, 32, 104, 50, 32, 104, 51, 32, 104, 52, 32, 104, 53, 32, 104, 54, 32, 104, 101, 97, 100, 101, 114, 32, 104, 103, 114, 111, 117, 112, 32, 104, 114, 32, 108, 105, 32, 108, 105, 115, 116, 105, 110, 103, 32, 109, 97, 105, 110, 32, 109, 101, 110, 117, 32, 110, 97, 118, 32, 111, 108, 32, 112, 32, 112, 108, 97, 105, 110, 116, 101, 120, 116, 32, 112, 114, 101, 32, 115, 101, 99, 116, 105, 111, 110, 32, 115, 117, 109, 109, 97, 114, 121, 32, 116, 97, 98, 108, 101, 32, 117, 108, 32, 120, 109, 112, 32]⟩ : ByteArray), (⟨#[32, 104, 49, 32, 104, 50, 32, 104, 51, 32, 104, 52, 32, 104, 53, 32, 104, 54, 32]⟩ : ByteArray), (⟨#[32, 97, 32, 98, 32, 98, 105, 103, 32, 99, 111, 100, 101, 32, 101, 109, 32, 102, 111, 110, 116, 32, 105, 32, 110, 111, 98, 114, 32, 115, 32, 115, 109, 97, 108, 108, 32, 115, 116, 114, 105, 107, 101, 32, 115, 116, 114, 111, 110, 103, 32, 116, 116, 32, 117, 32]⟩ : ByteArray), (⟨#[32, 97, 100, 100, 114, 101, 115, 115, 32, 97, 112, 112, 108, 101, 116, 32, 97, 114, 101, 97, 32, 97, 114, 116, 105, 99, 108, 101, 32, 97, 115, 105, 100, 101, 32, 98, 97, 115, 101, 32, 98, 97, 115, 101, 102, 111, 110, 116, 32, 98, 103, 115, 111, 117, 110, 100, 32, 98, 108, 111, 99, 107, 113, 117, 111, 116, 101, 32, 98, 114, 32, 98, 117, 116, 116, 111, 110, 32, 99, 101, 110, 116, 101, 114, 32, 100, 100, 32, 100, 101, 116, 97, 105, 108, 115, 32, 100, 105, 114, 32, 100, 105, 118, 32, 100, 108, 32, 100, 116, 32, 101, 109, 98, 101, 100, 32, 102, 105, 101, 108, 100, 115, 101, 116, 32, 102, 105, 103, 99, 97, 112, 116, 105, 111, 110, 32, 102, 105, 103, 117, 114, 101, 32, 102, 111, 111, 116, 101, 114, 32, 102, 111, 114, 109, 32, 104, 49, 32, 104, 50, 32, 104, 51, 32, 104, 52, 32, 104, 53, 32, 104, 54, 32, 104, 101, 97, 100, 101, 114, 32, 104, 103, 114, 111, 117, 112, 32, 104, 114, 32, 105, 102, 114, 97, 109, 101, 32, 105, 109, 103, 32, 105, 110, 112, 117, 116, 32, 107, 101, 121, 103, 101, 110, 32, 108, 105, 32, 108, 105, 110, 107, 32, 108, 105, 115, 116, 105, 110, 103, 32, 109, 97, 105, 110, 32, 109, 97, 114, 113, 117, 101, 101, 32, 109, 101, 110, 117, 32, 109, 101, 116, 97, 32, 110, 97, 118, 32, 110, 111, 101, 109, 98, 101, 100, 32, 110, 111, 102, 114, 97, 109, 101, 115, 32, 111, 98, 106, 101, 99, 116, 32, 111, 108, 32, 112, 32, 112, 97, 114, 97, 109, 32, 112, 108, 97, 105, 110, 116, 101, 120, 116, 32, 112, 114, 101, 32, 115, 99, 114, 105, 112, 116, 32, 115, 101, 99, 116, 105, 111, 110, 32, 115, 101, 108, 101, 99, 116, 32, 115, 111, 117, 114, 99, 101, 32, 115, 116, 121, 108, 101, 32, 115, 117, 109, 109, 97, 114, 121, 32, 116, 97, 98, 108, 101, 32, 116, 101, 109, 112, 108, 97, 116, 101, 32, 116, 101, 120, 116, 97, 114, 101, 97, 32, 116, 105, 116, 108, 101, 32, 116, 114, 97, 99, 107, 32, 117, 108, 32, 119, 98, 114, 32, 120, 109, 112, 32]⟩ : ByteArray), (⟨#[32, 97, 112, 112, 108, 101, 116, 32, 109, 97, 114, 113, 117, 101, 101, 32, 111, 98, 106, 101, 99, 116, 32, 116, 97, 98, 108, 101, 32, 116, 101, 109, 112, 108, 97, 116, 101, 32]⟩ : ByteArray), (⟨#[32, 98, 111, 100, 121, 32, 99, 97, 112, 116, 105, 111, 110, 32, 99, 111, 108, 32, 99, 111, 108, 103, 114, 111, 117, 112, 32, 102, 114, 97, 109, 101, 32, 102, 114, 97, 109, 101, 115, 101, 116, 32, 104, 101, 97, 100, 32, 104, 116, 109, 108, 32, 116, 98, 111, 100, 121, 32, 116, 100, 32, 116, 102, 111, 111, 116, 32, 116, 104, 32, 116, 104, 101, 97, 100, 32, 116, 114, 32]⟩ : ByteArray), (⟨#[32, 100, 100, 32, 100, 116, 32, 108, 105, 32, 111, 112, 116, 103, 114, 111, 117, 112, 32, 111, 112, 116, 105, 111, 110, 32, 112, 32, 114, 98, 32, 114, 112, 32, 114, 116, 32, 114, 116, 99, 32]⟩ : ByteArray), (⟨#[32, 97, 112, 112, 108, 101, 116, 32, 109, 97, 114, 113, 117, 101, 101, 32, 111, 98, 106, 101, 99, 116, 32]⟩ : ByteArray), (⟨#[32, 97, 32, 97, 98, 98, 114, 32, 97, 100, 100, 114, 101, 115, 115, 32, 97, 114, 116, 105, 99, 108, 101, 32, 97, 115, 105, 100, 101, 32, 98, 32, 98, 100, 105, 32, 98, 100, 111, 32, 98, 105, 103, 32, 98, 108, 111, 99, 107, 113, 117, 111, 116, 101, 32, 98, 114, 32, 99, 101, 110, 116, 101, 114, 32, 99, 105, 116, 101, 32, 99, 111, 100, 101, 32, 100, 100, 32, 100, 101, 108, 32, 100, 102, 110, 32, 100, 105, 114, 32, 100, 105, 118, 32, 100, 108, 32, 100, 116, 32, 101, 109, 32, 102, 105, 103, 99, 97, 112, 116, 105, 111, 110, 32, 102, 105, 103, 117, 114, 101, 32, 102, 111, 110, 116, 32, 102, 111, 111, 116, 101, 114, 32, 104, 49, 32, 104, 50, 32, 104, 51, 32, 104, 52, 32, 104, 53, 32, 104, 54, 32, 104, 101, 97, 100, 101, 114, 32, 104, 114, 32, 105, 32, 105, 109, 103, 32, 105, 110, 115, 32, 107, 98, 100, 32, 108, 105, 32, 109, 97, 105, 110, 32, 109, 97, 114, 107, 32, 110, 97, 118, 32, 111, 108, 32, 112, 32, 112, 114, 101, 32, 113, 32, 115, 32, 115, 97, 109, 112, 32, 115, 101, 99, 116, 105, 111, 110, 32, 115, 109, 97, 108, 108, 32, 115, 112, 97, 110, 32, 115, 116, 114, 105, 107, 101, 32, 115, 116, 114, 111, 110, 103, 32, 115, 117, 98, 32, 115, 117, 112, 32, 116, 105, 109, 101, 32, 116, 116, 32, 117, 32, 117, 108, 32, 118, 97, 114, 32, 119, 98, 114, 32]⟩ : ByteArray)] : List ByteArray)) := ⟨_, rfl⟩
  replace H : (some y104) = some r := by first | (rw [hy104]; with_reducible exact H) | (have H2_ := (Option.bind_some _ _).symm.trans H; rw [hy104]; with_reducible exact H2_) | (have H2_ := (Option.bind_some _ _).symm.trans H; with_reducible exact H2_) | with_reducible exact H | (rw [hy104]; exact H) | exact H
  have Ny104 := Aside0.mk hy104
  clear hy104
  obtain rfl := Option.some.inj H
  go_enter Tryd.func34, Tryd.ntmps34
  go_wp2_with (first | ((with_reducible refine gate_dst (N := 1) rfl ?_); refine Kd.R_lit Kd.string _ 9 ?hg (N := 1) ?hd (xs := ([(⟨#[32, 97, 114, 101, 97, 32, 98, 97, 115, 101, 32, 98, 97, 115, 101, 102, 111, 110, 116, 32, 98, 103, 115, 111, 117, 110, 100, 32, 98, 114, 32, 101, 109, 98, 101, 100, 32, 104, 114, 32, 105, 109, 103, 32, 105, 110, 112, 117, 116, 32, 107, 101, 121, 103, 101, 110, 32, 108, 105, 110, 107, 32, 109, 101, 116, 97, 32, 112, 97, 114, 97, 109, 32, 115, 111, 117, 114, 99, 101, 32, 116, 114, 97, 99, 107, 32, 119, 98, 114, 32]⟩ : ByteArray), (⟨#[32, 97, 100, 100, 114, 101, 115, 115, 32, 97, 114, 116, 105, 99, 108, 101, 32, 97, 115, 105, 100, 101, 32, 98, 108, 111, 99, 107, 113, 117, 111, 116, 101, 32, 99, 101, 110, 116, 101, 114, 32, 100, 100, 32, 100, 101, 116, 97, 105, 108, 115, 32, 100, 105, 97, 108, 111, 103, 32, 100, 105, 114, 32, 100, 105, 118, 32, 100, 108, 32, 100, 116, 32, 102, 105, 101, 108, 100, 115, 101, 116, 32, 102, 105, 103, 99, 97, 112, 116, 105, 111, 110, 32, 102, 105, 103, 117, 114, 101, 32, 102, 111, 111, 116, 101, 114, 32, 102, 111, 114, 109, 32, 104, 49, 32, 104, 50, 32, 104, 51, 32, 104, 52, 32, 104, 53, 32, 104, 54, 32, 104, 101, 97, 100, 101, 114, 32, 104, 103, 114, 111, 117, 112, 32, 104, 114, 32, 108, 105, 32, 108, 105, 115, 116, 105, 110, 103, 32, 109, 97, 105, 110, 32, 109, 101, 110, 117, 32, 110, 97, 118, 32, 111, 108, 32, 112, 32, 112, 108, 97, 105, 110, 116, 101, 120, 116, 32, 112, 114, 101, 32, 115, 101, 99, 116, 105, 111, 110, 32, 115, 117, 109, 109, 97, 114, 121, 32, 116, 97, 98, 108, 101, 32, 117, 108, 32, 120, 109, 112, 32]⟩ : ByteArray), (⟨#[32, 104, 49, 32, 104, 50, 32, 104, 51, 32, 104, 52, 32, 104, 53, 32, 104, 54, 32]⟩ : ByteArray), (⟨#[32, 97, 32, 98, 32, 98, 105, 103, 32, 99, 111, 100, 101, 32, 101, 109, 32, 102, 111, 110, 116, 32, 105, 32, 110, 111, 98, 114, 32, 115, 32, 115, 109, 97, 108, 108, 32, 115, 116, 114, 105, 107, 101, 32, 115, 116, 114, 111, 110, 103, 32, 116, 116, 32, 117, 32]⟩ : ByteArray), (⟨#[32, 97, 100, 100, 114, 101, 115, 115, 32, 97, 112, 112, 108, 101, 116, 32, 97, 114, 101, 97, 32, 97, 114, 116, 105, 99, 108, 101, 32, 97, 115, 105, 100, 101, 32, 98, 97, 115, 101, 32, 98, 97, 115, 101, 102, 111, 110, 116, 32, 98, 103, 115, 111, 117, 110, 100, 32, 98, 108, 111, 99, 107, 113, 117, 111, 116, 101, 32, 98, 114, 32, 98, 117, 116, 116, 111, 110, 32, 99, 101, 110, 116, 101, 114, 32, 100, 100, 32, 100, 101, 116, 97, 105, 108, 115, 32, 100, 105, 114, 32, 100, 105, 118, 32, 100, 108, 32, 100, 116, 32, 101, 109, 98, 101, 100, 32, 102, 105, 101, 108, 100, 115, 101, 116, 32, 102, 105, 103, 99, 97, 112, 116, 105, 111, 110, 32, 102, 105, 103, 117, 114, 101, 32, 102, 111, 111, 116, 101, 114, 32, 102, 111, 114, 109, 32, 104, 49, 32, 104, 50, 32, 104, 51, 32, 104, 52, 32, 104, 53, 32, 104, 54, 32, 104, 101, 97, 100, 101, 114, 32, 104, 103, 114, 111, 117, 112, 32, 104, 114, 32, 105, 102, 114, 97, 109, 101, 32, 105, 109, 103, 32, 105, 110, 112, 117, 116, 32, 107, 101, 121, 103, 101, 110, 32, 108, 105, 32, 108, 105, 110, 107, 32, 108, 105, 115, 116, 105, 110, 103, 32, 109, 97, 105, 110, 32, 109, 97, 114, 113, 117, 101, 101, 32, 109, 101, 110, 117, 32, 109, 101, 116, 97, 32, 110, 97, 118, 32, 110, 111, 101, 109, 98, 101, 100, 32, 110, 111, 102, 114, 97, 109, 101, 115, 32, 111, 98, 106, 101, 99, 116, 32, 111, 108, 32, 112, 32, 112, 97, 114, 97, 109, 32, 112, 108, 97, 105, 110, 116, 101, 120, 116, 32, 112, 114, 101, 32, 115, 99, 114, 105, 112, 116, 32, 115, 101, 99, 116, 105, 111, 110, 32, 115, 101, 108, 101, 99, 116, 32, 115, 111, 117, 114, 99, 101, 32, 115, 116, 121, 108, 101, 32, 115, 117, 109, 109, 97, 114, 121, 32, 116, 97, 98, 108, 101, 32, 116, 101, 109, 112, 108, 97, 116, 101, 32, 116, 101, 120, 116, 97, 114, 101, 97, 32, 116, 105, 116, 108, 101, 32, 116, 114, 97, 99, 107, 32, 117, 108, 32, 119, 98, 114, 32, 120, 109, 112, 32]⟩ : ByteArray), (⟨#[32, 97, 112, 112, 108, 101, 116, 32, 109, 97, 114, 113, 117, 101, 101, 32, 111, 98, 106, 101, 99, 116, 32, 116, 97, 98, 108, 101, 32, 116, 101, 109, 112, 108, 97, 116, 101, 32]⟩ : ByteArray), (⟨#[32, 98, 111, 100, 121, 32, 99, 97, 112, 116, 105, 111, 110, 32, 99, 111, 108, 32, 99, 111, 108, 103, 114, 111, 117, 112, 32, 102, 114, 97, 109, 101, 32, 102, 114, 97, 109, 101, 115, 101, 116, 32, 104, 101, 97, 100, 32, 104, 116, 109, 108, 32, 116, 98, 111, 100, 121, 32, 116, 100, 32, 116, 102, 111, 111, 116, 32, 116, 104, 32, 116, 104, 101, 97, 100, 32, 116, 114, 32]⟩ : ByteArray), (⟨#[32, 100, 100, 32, 100, 116, 32, 108, 105, 32, 111, 112, 116, 103, 114, 111, 117, 112, 32, 111, 112, 116, 105, 111, 110, 32, 112, 32, 114, 98, 32, 114, 112, 32, 114, 116, 32, 114, 116, 99, 32]⟩ : ByteArray), (⟨#[32, 97, 112, 112, 108, 101, 116, 32, 109, 97, 114, 113, 117, 101, 101, 32, 111, 98, 106, 101, 99, 116, 32]⟩ : ByteArray), (⟨#[32, 97, 32, 97, 98, 98, 114, 32, 97, 100, 100, 114, 101, 115, 115, 32, 97, 114, 116, 105, 99, 108, 101, 32, 97, 115, 105, 100, 101, 32, 98, 32, 98, 100, 105, 32, 98, 100, 111, 32, 98, 105, 103, 32, 98, 108, 111, 99, 107, 113, 117, 111, 116, 101, 32, 98, 114, 32, 99, 101, 110, 116, 101, 114, 32, 99, 105, 116, 101, 32, 99, 111, 100, 101, 32, 100, 100, 32, 100, 101, 108, 32, 100, 102, 110, 32, 100, 105, 114, 32, 100, 105, 118, 32, 100, 108, 32, 100, 116, 32, 101, 109, 32, 102, 105, 103, 99, 97, 112, 116, 105, 111, 110, 32, 102, 105, 103, 117, 114, 101, 32, 102, 111, 110, 116, 32, 102, 111, 111, 116, 101, 114, 32, 104, 49, 32, 104, 50, 32, 104, 51, 32, 104, 52, 32, 104, 53, 32, 104, 54, 32, 104, 101, 97, 100, 101, 114, 32, 104, 114, 32, 105, 32, 105, 109, 103, 32, 105, 110, 115, 32, 107, 98, 100, 32, 108, 105, 32, 109, 97, 105, 110, 32, 109, 97, 114, 107, 32, 110, 97, 118, 32, 111, 108, 32, 112, 32, 112, 114, 101, 32, 113, 32, 115, 32, 115, 97, 109, 112, 32, 115, 101, 99, 116, 105, 111, 110, 32, 115, 109, 97, 108, 108, 32, 115, 112, 97, 110, 32, 115, 116, 114, 105, 107, 101, 32, 115, 116, 114, 111, 110, 103, 32, 115, 117, 98, 32, 115, 117, 112, 32, 116, 105, 109, 101, 32, 116, 116, 32, 117, 32, 117, 108, 32, 118, 97, 114, 32, 119, 98, 114, 32]⟩ : ByteArray)] : List ByteArray)) (inner := [.string (⟨#[32, 97, 114, 101, 97, 32, 98, 97, 115, 101, 32, 98, 97, 115, 101, 102, 111, 110, 116, 32, 98, 103, 115, 111, 117, 110, 100, 32, 98, 114, 32, 101, 109, 98, 101, 100, 32, 104, 114, 32, 105, 109, 103, 32, 105, 110, 112, 117, 116, 32, 107, 101, 121, 103, 101, 110, 32, 108, 105, 110, 107, 32, 109, 101, 116, 97, 32, 112, 97, 114, 97, 109, 32, 115, 111, 117, 114, 99, 101, 32, 116, 114, 97, 99, 107, 32, 119, 98, 114, 32]⟩ : ByteArray), .string (⟨#[32, 97, 100, 100, 114, 101, 115, 115, 32, 97, 114, 116, 105, 99, 108, 101, 32, 97, 115, 105, 100, 101, 32, 98, 108, 111, 99, 107, 113, 117, 111, 116, 101, 32, 99, 101, 110, 116, 101, 114, 32, 100, 100, 32, 100, 101, 116, 97, 105, 108, 115, 32, 100, 105, 97, 108, 111, 103, 32, 100, 105, 114, 32, 100, 105, 118, 32, 100, 108, 32, 100, 116, 32, 102, 105, 101, 108, 100, 115, 101, 116, 32, 102, 105, 103, 99, 97, 112, 116, 105, 111, 110, 32, 102, 105, 103, 117, 114, 101, 32, 102, 111, 111, 116, 101, 114, 32, 102, 111, 114, 109, 32, 104, 49, 32, 104, 50, 32, 104, 51, 32, 104, 52, 32, 104, 53, 32, 104, 54, 32, 104, 101, 97, 100, 101, 114, 32, 104, 103, 114, 111, 117, 112, 32, 104, 114, 32, 108, 105, 32, 108, 105, 115, 116, 105, 110, 103, 32, 109, 97, 105, 110, 32, 109, 101, 110, 117, 32, 110, 97, 118, 32, 111, 108, 32, 112, 32, 112, 108, 97, 105, 110, 116, 101, 120, 116, 32, 112, 114, 101, 32, 115, 101, 99, 116, 105, 111, 110, 32, 115, 117, 109, 109, 97, 114, 121, 32, 116, 97, 98, 108, 101, 32, 117, 108, 32, 120, 109, 112, 32]⟩ : ByteArray), .string (⟨#[32, 104, 49, 32, 104, 50, 32, 104, 51, 32, 104, 52, 32, 104, 53, 32, 104, 54, 32]⟩ : ByteArray), .string (⟨#[32, 97, 32, 98, 32, 98, 105, 103, 32, 99, 111, 100, 101, 32, 101, 109, 32, 102, 111, 110, 116, 32, 105, 32, 110, 111, 98, 114, 32, 115, 32, 115, 109, 97, 108, 108, 32, 115, 116, 114, 105, 107, 101, 32, 115, 116, 114, 111, 110, 103, 32, 116, 116, 32, 117, 32]⟩ : ByteArray), .string (⟨#[32, 97, 100, 100, 114, 101, 115, 115, 32, 97, 112, 112, 108, 101, 116, 32, 97, 114, 101, 97, 32, 97, 114, 116, 105, 99, 108, 101, 32, 97, 115, 105, 100, 101, 32, 98, 97, 115, 101, 32, 98, 97, 115, 101, 102, 111, 110, 116, 32, 98, 103, 115, 111, 117, 110, 100, 32, 98, 108, 111, 99, 107, 113, 117, 111, 116, 101, 32, 98, 114, 32, 98, 117, 116, 116, 111, 110, 32, 99, 101, 110, 116, 101, 114, 32, 100, 100, 32, 100, 101, 116, 97, 105, 108, 115, 32, 100, 105, 114, 32, 100, 105, 118, 32, 100, 108, 32, 100, 116, 32, 101, 109, 98, 101, 100, 32, 102, 105, 101, 108, 100, 115, 101, 116, 32, 102, 105, 103, 99, 97, 112, 116, 105, 111, 110, 32, 102, 105, 103, 117, 114, 101, 32, 102, 111, 111, 116, 101, 114, 32, 102, 111, 114, 109, 32, 104, 49, 32, 104, 50, 32, 104, 51, 32, 104, 52, 32, 104, 53, 32, 104, 54, 32, 104, 101, 97, 100, 101, 114, 32, 104, 103, 114, 111, 117, 112, 32, 104, 114, 32, 105, 102, 114, 97, 109, 101, 32, 105, 109, 103, 32, 105, 110, 112, 117, 116, 32, 107, 101, 121, 103, 101, 110, 32, 108, 105, 32, 108, 105, 110, 107, 32, 108, 105, 115, 116, 105, 110, 103, 32, 109, 97, 105, 110, 32, 109, 97, 114, 113, 117, 101, 101, 32, 109, 101, 110, 117, 32, 109, 101, 116, 97, 32, 110, 97, 118, 32, 110, 111, 101, 109, 98, 101, 100, 32, 110, 111, 102, 114, 97, 109, 101, 115, 32, 111, 98, 106, 101, 99, 116, 32, 111, 108, 32, 112, 32, 112, 97, 114, 97, 109, 32, 112, 108, 97, 105, 110, 116, 101, 120, 116, 32, 112, 114, 101, 32, 115, 99, 114, 105, 112, 116, 32, 115, 101, 99, 116, 105, 111, 110, 32, 115, 101, 108, 101, 99, 116, 32, 115, 111, 117, 114, 99, 101, 32, 115, 116, 121, 108, 101, 32, 115, 117, 109, 109, 97, 114, 121, 32, 116, 97, 98, 108, 101, 32, 116, 101, 109, 112, 108, 97, 116, 101, 32, 116, 101, 120, 116, 97, 114, 101, 97, 32, 116, 105, 116, 108, 101, 32, 116, 114, 97, 99, 107, 32, 117, 108, 32, 119, 98, 114, 32, 120, 109, 112, 32]⟩ : ByteArray), .string (⟨#[32, 97, 112, 112, 108, 101, 116, 32, 109, 97, 114, 113, 117, 101, 101, 32, 111, 98, 106, 101, 99, 116, 32, 116, 97, 98, 108, 101, 32, 116, 101, 109, 112, 108, 97, 116, 101, 32]⟩ : ByteArray), .string (⟨#[32, 98, 111, 100, 121, 32, 99, 97, 112, 116, 105, 111, 110, 32, 99, 111, 108, 32, 99, 111, 108, 103, 114, 111, 117, 112, 32, 102, 114, 97, 109, 101, 32, 102, 114, 97, 109, 101, 115, 101, 116, 32, 104, 101, 97, 100, 32, 104, 116, 109, 108, 32, 116, 98, 111, 100, 121, 32, 116, 100, 32, 116, 102, 111, 111, 116, 32, 116, 104, 32, 116, 104, 101, 97, 100, 32, 116, 114, 32]⟩ : ByteArray), .string (⟨#[32, 100, 100, 32, 100, 116, 32, 108, 105, 32, 111, 112, 116, 103, 114, 111, 117, 112, 32, 111, 112, 116, 105, 111, 110, 32, 112, 32, 114, 98, 32, 114, 112, 32, 114, 116, 32, 114, 116, 99, 32]⟩ : ByteArray), .string (⟨#[32, 97, 112, 112, 108, 101, 116, 32, 109, 97, 114, 113, 117, 101, 101, 32, 111, 98, 106, 101, 99, 116, 32]⟩ : ByteArray), .string (⟨#[32, 97, 32, 97, 98, 98, 114, 32, 97, 100, 100, 114, 101, 115, 115, 32, 97, 114, 116, 105, 99, 108, 101, 32, 97, 115, 105, 100, 101, 32, 98, 32, 98, 100, 105, 32, 98, 100, 111, 32, 98, 105, 103, 32, 98, 108, 111, 99, 107, 113, 117, 111, 116, 101, 32, 98, 114, 32, 99, 101, 110, 116, 101, 114, 32, 99, 105, 116, 101, 32, 99, 111, 100, 101, 32, 100, 100, 32, 100, 101, 108, 32, 100, 102, 110, 32, 100, 105, 114, 32, 100, 105, 118, 32, 100, 108, 32, 100, 116, 32, 101, 109, 32, 102, 105, 103, 99, 97, 112, 116, 105, 111, 110, 32, 102, 105, 103, 117, 114, 101, 32, 102, 111, 110, 116, 32, 102, 111, 111, 116, 101, 114, 32, 104, 49, 32, 104, 50, 32, 104, 51, 32, 104, 52, 32, 104, 53, 32, 104, 54, 32, 104, 101, 97, 100, 101, 114, 32, 104, 114, 32, 105, 32, 105, 109, 103, 32, 105, 110, 115, 32, 107, 98, 100, 32, 108, 105, 32, 109, 97, 105, 110, 32, 109, 97, 114, 107, 32, 110, 97, 118, 32, 111, 108, 32, 112, 32, 112, 114, 101, 32, 113, 32, 115, 32, 115, 97, 109, 112, 32, 115, 101, 99, 116, 105, 111, 110, 32, 115, 109, 97, 108, 108, 32, 115, 112, 97, 110, 32, 115, 116, 114, 105, 107, 101, 32, 115, 116, 114, 111, 110, 103, 32, 115, 117, 98, 32, 115, 117, 112, 32, 116, 105, 109, 101, 32, 116, 116, 32, 117, 32, 117, 108, 32, 118, 97, 114, 32, 119, 98, 114, 32]⟩ : ByteArray)]) (ok := fun _ => True) (okp := fun _ => True) ?hr ?hp (fun _ hk => hk) trivial (Below.refl _ _) (Nat.le_refl _) (by simp) ?_; (case hd => rfl); (case hg => rfl); (case hr => first | (go_simp; done) | (go_simp; rfl)); (case hp => exact (Reps.one (show Kd.M Kd.string _ _ _ (⟨#[32, 97, 114, 101, 97, 32, 98, 97, 115, 101, 32, 98, 97, 115, 101, 102, 111, 110, 116, 32, 98, 103, 115, 111, 117, 110, 100, 32, 98, 114, 32, 101, 109, 98, 101, 100, 32, 104, 114, 32, 105, 109, 103, 32, 105, 110, 112, 117, 116, 32, 107, 101, 121, 103, 101, 110, 32, 108, 105, 110, 107, 32, 109, 101, 116, 97, 32, 112, 97, 114, 97, 109, 32, 115, 111, 117, 114, 99, 101, 32, 116, 114, 97, 99, 107, 32, 119, 98, 114, 32]⟩ : ByteArray) [.string (⟨#[32, 97, 114, 101, 97, 32, 98, 97, 115, 101, 32, 98, 97, 115, 101, 102, 111, 110, 116, 32, 98, 103, 115, 111, 117, 110, 100, 32, 98, 114, 32, 101, 109, 98, 101, 100, 32, 104, 114, 32, 105, 109, 103, 32, 105, 110, 112, 117, 116, 32, 107, 101, 121, 103, 101, 110, 32, 108, 105, 110, 107, 32, 109, 101, 116, 97, 32, 112, 97, 114, 97, 109, 32, 115, 111, 117, 114, 99, 101, 32, 116, 114, 97, 99, 107, 32, 119, 98, 114, 32]⟩ : ByteArray)] from rfl) (Reps.one (show Kd.M Kd.string _ _ _ (⟨#[32, 97, 100, 100, 114, 101, 115, 115, 32, 97, 114, 116, 105, 99, 108, 101, 32, 97, 115, 105, 100, 101, 32, 98, 108, 111, 99, 107, 113, 117, 111, 116, 101, 32, 99, 101, 110, 116, 101, 114, 32, 100, 100, 32, 100, 101, 116, 97, 105, 108, 115, 32, 100, 105, 97, 108, 111, 103, 32, 100, 105, 114, 32, 100, 105, 118, 32, 100, 108, 32, 100, 116, 32, 102, 105, 101, 108, 100, 115, 101, 116, 32, 102, 105, 103, 99, 97, 112, 116, 105, 111, 110, 32, 102, 105, 103, 117, 114, 101, 32, 102, 111, 111, 116, 101, 114, 32, 102, 111, 114, 109, 32, 104, 49, 32, 104, 50, 32, 104, 51, 32, 104, 52, 32, 104, 53, 32, 104, 54, 32, 104, 101, 97, 100, 101, 114, 32, 104, 103, 114, 111, 117, 112, 32, 104, 114, 32, 108, 105, 32, 108, 105, 115, 116, 105, 110, 103, 32, 109, 97, 105, 110, 32, 109, 101, 110, 117, 32, 110, 97, 118, 32, 111, 108, 32, 112, 32, 112, 108, 97, 105, 110, 116, 101, 120, 116, 32, 112, 114, 101, 32, 115, 101, 99, 116, 105, 111, 110, 32, 115, 117, 109, 109, 97, 114, 121, 32, 116, 97, 98, 108, 101, 32, 117, 108, 32, 120, 109, 112, 32]⟩ : ByteArray) [.string (⟨#[32, 97, 100, 100, 114, 101, 115, 115, 32, 97, 114, 116, 105, 99, 108, 101, 32, 97, 115, 105, 100, 101, 32, 98, 108, 111, 99, 107, 113, 117, 111, 116, 101, 32, 99, 101, 110, 116, 101, 114, 32, 100, 100, 32, 100, 101, 116, 97, 105, 108, 115, 32, 100, 105, 97, 108, 111, 103, 32, 100, 105, 114, 32, 100, 105, 118, 32, 100, 108, 32, 100, 116, 32, 102, 105, 101, 108, 100, 115, 101, 116, 32, 102, 105, 103, 99, 97, 112, 116, 105, 111, 110, 32, 102, 105, 103, 117, 114, 101, 32, 102, 111, 111, 116, 101, 114, 32, 102, 111, 114, 109, 32, 104, 49, 32, 104, 50, 32, 104, 51, 32, 104, 52, 32, 104, 53, 32, 104, 54, 32, 104, 101, 97, 100, 101, 114, 32, 104, 103, 114, 111, 117, 112, 32, 104, 114, 32, 108, 105, 32, 108, 105, 115, 116, 105, 110, 103, 32, 109, 97, 105, 110, 32, 109, 101, 110, 117, 32, 110, 97, 118, 32, 111, 108, 32, 112, 32, 112, 108, 97, 105, 110, 116, 101, 120, 116, 32, 112, 114, 101, 32, 115, 101, 99, 116, 105, 111, 110, 32, 115, 117, 109, 109, 97, 114, 121, 32, 116, 97, 98, 108, 101, 32, 117, 108, 32, 120, 109, 112, 32]⟩ : ByteArray)] from rfl) (Reps.one (show Kd.M Kd.string _ _ _ (⟨#[32, 104, 49, 32, 104, 50, 32, 104, 51, 32, 104, 52, 32, 104, 53, 32, 104, 54, 32]⟩ : ByteArray) [.string (⟨#[32, 104, 49, 32, 104, 50, 32, 104, 51, 32, 104, 52, 32, 104, 53, 32, 104, 54, 32]⟩ : ByteArray)] from rfl) (Reps.one (show Kd.M Kd.string _ _ _ (⟨#[32, 97, 32, 98, 32, 98, 105, 103, 32, 99, 111, 100, 101, 32, 101, 109, 32, 102, 111, 110, 116, 32, 105, 32, 110, 111, 98, 114, 32, 115, 32, 115, 109, 97, 108, 108, 32, 115, 116, 114, 105, 107, 101, 32, 115, 116, 114, 111, 110, 103, 32, 116, 116, 32, 117, 32]⟩ : ByteArray) [.string (⟨#[32, 97, 32, 98, 32, 98, 105, 103, 32, 99, 111, 100, 101, 32, 101, 109, 32, 102, 111, 110, 116, 32, 105, 32, 110, 111, 98, 114, 32, 115, 32, 115, 109, 97, 108, 108, 32, 115, 116, 114, 105, 107, 101, 32, 115, 116, 114, 111, 110, 103, 32, 116, 116, 32, 117, 32]⟩ : ByteArray)] from rfl) (Reps.one (show Kd.M Kd.string _ _ _ (⟨#[32, 97, 100, 100, 114, 101, 115, 115, 32, 97, 112, 112, 108, 101, 116, 32, 97, 114, 101, 97, 32, 97, 114, 116, 105, 99, 108, 101, 32, 97, 115, 105, 100, 101, 32, 98, 97, 115, 101, 32, 98, 97, 115, 101, 102, 111, 110, 116, 32, 98, 103, 115, 111, 117, 110, 100, 32, 98, 108, 111, 99, 107, 113, 117, 111, 116, 101, 32, 98, 114, 32, 98, 117, 116, 116, 111, 110, 32, 99, 101, 110, 116, 101, 114, 32, 100, 100, 32, 100, 101, 116, 97, 105, 108, 115, 32, 100, 105, 114, 32, 100, 105, 118, 32, 100, 108, 32, 100, 116, 32, 101, 109, 98, 101, 100, 32, 102, 105, 101, 108, 100, 115, 101, 116, 32, 102, 105, 103, 99, 97, 112, 116, 105, 111, 110, 32, 102, 105, 103, 117, 114, 101, 32, 102, 111, 111, 116, 101, 114, 32, 102, 111, 114, 109, 32, 104, 49, 32, 104, 50, 32, 104, 51, 32, 104, 52, 32, 104, 53, 32, 104, 54, 32, 104, 101, 97, 100, 101, 114, 32, 104, 103, 114, 111, 117, 112, 32, 104, 114, 32, 105, 102, 114, 97, 109, 101, 32, 105, 109, 103, 32, 105, 110, 112, 117, 116, 32, 107, 101, 121, 103, 101, 110, 32, 108, 105, 32, 108, 105, 110, 107, 32, 108, 105, 115, 116, 105, 110, 103, 32, 109, 97, 105, 110, 32, 109, 97, 114, 113, 117, 101, 101, 32, 109, 101, 110, 117, 32, 109, 101, 116, 97, 32, 110, 97, 118, 32, 110, 111, 101, 109, 98, 101, 100, 32, 110, 111, 102, 114, 97, 109, 101, 115, 32, 111, 98, 106, 101, 99, 116, 32, 111, 108, 32, 112, 32, 112, 97, 114, 97, 109, 32, 112, 108, 97, 105, 110, 116, 101, 120, 116, 32, 112, 114, 101, 32, 115, 99, 114, 105, 112, 116, 32, 115, 101, 99, 116, 105, 111, 110, 32, 115, 101, 108, 101, 99, 116, 32, 115, 111, 117, 114, 99, 101, 32, 115, 116, 121, 108, 101, 32, 115, 117, 109, 109, 97, 114, 121, 32, 116, 97, 98, 108, 101, 32, 116, 101, 109, 112, 108, 97, 116, 101, 32, 116, 101, 120, 116, 97, 114, 101, 97, 32, 116, 105, 116, 108, 101, 32, 116, 114, 97, 99, 107, 32, 117, 108, 32, 119, 98, 114, 32, 120, 109, 112, 32]⟩ : ByteArray) [.string (⟨#[32, 97, 100, 100, 114, 101, 115, 115, 32, 97, 112, 112, 108, 101, 116, 32, 97, 114, 101, 97, 32, 97, 114, 116, 105, 99, 108, 101, 32, 97, 115, 105, 100, 101, 32, 98, 97, 115, 101, 32, 98, 97, 115, 101, 102, 111, 110, 116, 32, 98, 103, 115, 111, 117, 110, 100, 32, 98, 108, 111, 99, 107, 113, 117, 111, 116, 101, 32, 98, 114, 32, 98, 117, 116, 116, 111, 110, 32, 99, 101, 110, 116, 101, 114, 32, 100, 100, 32, 100, 101, 116, 97, 105, 108, 115, 32, 100, 105, 114, 32, 100, 105, 118, 32, 100, 108, 32, 100, 116, 32, 101, 109, 98, 101, 100, 32, 102, 105, 101, 108, 100, 115, 101, 116, 32, 102, 105, 103, 99, 97, 112, 116, 105, 111, 110, 32, 102, 105, 103, 117, 114, 101, 32, 102, 111, 111, 116, 101, 114, 32, 102, 111, 114, 109, 32, 104, 49, 32, 104, 50, 32, 104, 51, 32, 104, 52, 32, 104, 53, 32, 104, 54, 32, 104, 101, 97, 100, 101, 114, 32, 104, 103, 114, 111, 117, 112, 32, 104, 114, 32, 105, 102, 114, 97, 109, 101, 32, 105, 109, 103, 32, 105, 110, 112, 117, 116, 32, 107, 101, 121, 103, 101, 110, 32, 108, 105, 32, 108, 105, 110, 107, 32, 108, 105, 115, 116, 105, 110, 103, 32, 109, 97, 105, 110, 32, 109, 97, 114, 113, 117, 101, 101, 32, 109, 101, 110, 117, 32, 109, 101, 116, 97, 32, 110, 97, 118, 32, 110, 111, 101, 109, 98, 101, 100, 32, 110, 111, 102, 114, 97, 109, 101, 115, 32, 111, 98, 106, 101, 99, 116, 32, 111, 108, 32, 112, 32, 112, 97, 114, 97, 109, 32, 112, 108, 97, 105, 110, 116, 101, 120, 116, 32, 112, 114, 101, 32, 115, 99, 114, 105, 112, 116, 32, 115, 101, 99, 116, 105, 111, 110, 32, 115, 101, 108, 101, 99, 116, 32, 115, 111, 117, 114, 99, 101, 32, 115, 116, 121, 108, 101, 32, 115, 117, 109, 109, 97, 114, 121, 32, 116, 97, 98, 108, 101, 32, 116, 101, 109, 112, 108, 97, 116, 101, 32, 116, 101, 120, 116, 97, 114, 101, 97, 32, 116, 105, 116, 108, 101, 32, 116, 114, 97, 99, 107, 32, 117, 108, 32, 119, 98, 114, 32, 120, 109, 112, 32]⟩ : ByteArray)] from rfl) (Reps.one (show Kd.M Kd.string _ _ _ (⟨#[32, 97, 112, 112, 108, 101, 116, 32, 109, 97, 114, 113, 117, 101, 101, 32, 111, 98, 106, 101, 99, 116, 32, 116, 97, 98, 108, 101, 32, 116, 101, 109, 112, 108, 97, 116, 101, 32]⟩ : ByteArray) [.string (⟨#[32, 97, 112, 112, 108, 101, 116, 32, 109, 97, 114, 113, 117, 101, 101, 32, 111, 98, 106, 101, 99, 116, 32, 116, 97, 98, 108, 101, 32, 116, 101, 109, 112, 108, 97, 116, 101, 32]⟩ : ByteArray)] from rfl) (Reps.one (show Kd.M Kd.string _ _ _ (⟨#[32, 98, 111, 100, 121, 32, 99, 97, 112, 116, 105, 111, 110, 32, 99, 111, 108, 32, 99, 111, 108, 103, 114, 111, 117, 112, 32, 102, 114, 97, 109, 101, 32, 102, 114, 97, 109, 101, 115, 101, 116, 32, 104, 101, 97, 100, 32, 104, 116, 109, 108, 32, 116, 98, 111, 100, 121, 32, 116, 100, 32, 116, 102, 111, 111, 116, 32, 116, 104, 32, 116, 104, 101, 97, 100, 32, 116, 114, 32]⟩ : ByteArray) [.string (⟨#[32, 98, 111, 100, 121, 32, 99, 97, 112, 116, 105, 111, 110, 32, 99, 111, 108, 32, 99, 111, 108, 103, 114, 111, 117, 112, 32, 102, 114, 97, 109, 101, 32, 102, 114, 97, 109, 101, 115, 101, 116, 32, 104, 101, 97, 100, 32, 104, 116, 109, 108, 32, 116, 98, 111, 100, 121, 32, 116, 100, 32, 116, 102, 111, 111, 116, 32, 116, 104, 32, 116, 104, 101, 97, 100, 32, 116, 114, 32]⟩ : ByteArray)] from rfl) (Reps.one (show Kd.M Kd.string _ _ _ (⟨#[32, 100, 100, 32, 100, 116, 32, 108, 105, 32, 111, 112, 116, 103, 114, 111, 117, 112, 32, 111, 112, 116, 105, 111, 110, 32, 112, 32, 114, 98, 32, 114, 112, 32, 114, 116, 32, 114, 116, 99, 32]⟩ : ByteArray) [.string (⟨#[32, 100, 100, 32, 100, 116, 32, 108, 105, 32, 111, 112, 116, 103, 114, 111, 117, 112, 32, 111, 112, 116, 105, 111, 110, 32, 112, 32, 114, 98, 32, 114, 112, 32, 114, 116, 32, 114, 116, 99, 32]⟩ : ByteArray)] from rfl) (Reps.one (show Kd.M Kd.string _ _ _ (⟨#[32, 97, 112, 112, 108, 101, 116, 32, 109, 97, 114, 113, 117, 101, 101, 32, 111, 98, 106, 101, 99, 116, 32]⟩ : ByteArray) [.string (⟨#[32, 97, 112, 112, 108, 101, 116, 32, 109, 97, 114, 113, 117, 101, 101, 32, 111, 98, 106, 101, 99, 116, 32]⟩ : ByteArray)] from rfl) (Reps.one (show Kd.M Kd.string _ _ _ (⟨#[32, 97, 32, 97, 98, 98, 114, 32, 97, 100, 100, 114, 101, 115, 115, 32, 97, 114, 116, 105, 99, 108, 101, 32, 97, 115, 105, 100, 101, 32, 98, 32, 98, 100, 105, 32, 98, 100, 111, 32, 98, 105, 103, 32, 98, 108, 111, 99, 107, 113, 117, 111, 116, 101, 32, 98, 114, 32, 99, 101, 110, 116, 101, 114, 32, 99, 105, 116, 101, 32, 99, 111, 100, 101, 32, 100, 100, 32, 100, 101, 108, 32, 100, 102, 110, 32, 100, 105, 114, 32, 100, 105, 118, 32, 100, 108, 32, 100, 116, 32, 101, 109, 32, 102, 105, 103, 99, 97, 112, 116, 105, 111, 110, 32, 102, 105, 103, 117, 114, 101, 32, 102, 111, 110, 116, 32, 102, 111, 111, 116, 101, 114, 32, 104, 49, 32, 104, 50, 32, 104, 51, 32, 104, 52, 32, 104, 53, 32, 104, 54, 32, 104, 101, 97, 100, 101, 114, 32, 104, 114, 32, 105, 32, 105, 109, 103, 32, 105, 110, 115, 32, 107, 98, 100, 32, 108, 105, 32, 109, 97, 105, 110, 32, 109, 97, 114, 107, 32, 110, 97, 118, 32, 111, 108, 32, 112, 32, 112, 114, 101, 32, 113, 32, 115, 32, 115, 97, 109, 112, 32, 115, 101, 99, 116, 105, 111, 110, 32, 115, 109, 97, 108, 108, 32, 115, 112, 97, 110, 32, 115, 116, 114, 105, 107, 101, 32, 115, 116, 114, 111, 110, 103, 32, 115, 117, 98, 32, 115, 117, 112, 32, 116, 105, 109, 101, 32, 116, 116, 32, 117, 32, 117, 108, 32, 118, 97, 114, 32, 119, 98, 114, 32]⟩ : ByteArray) [.string (⟨#[32, 97, 32, 97, 98, 98, 114, 32, 97, 100, 100, 114, 101, 115, 115, 32, 97, 114, 116, 105, 99, 108, 101, 32, 97, 115, 105, 100, 101, 32, 98, 32, 98, 100, 105, 32, 98, 100, 111, 32, 98, 105, 103, 32, 98, 108, 111, 99, 107, 113, 117, 111, 116, 101, 32, 98, 114, 32, 99, 101, 110, 116, 101, 114, 32, 99, 105, 116, 101, 32, 99, 111, 100, 101, 32, 100, 100, 32, 100, 101, 108, 32, 100, 102, 110, 32, 100, 105, 114, 32, 100, 105, 118, 32, 100, 108, 32, 100, 116, 32, 101, 109, 32, 102, 105, 103, 99, 97, 112, 116, 105, 111, 110, 32, 102, 105, 103, 117, 114, 101, 32, 102, 111, 110, 116, 32, 102, 111, 111, 116, 101, 114, 32, 104, 49, 32, 104, 50, 32, 104, 51, 32, 104, 52, 32, 104, 53, 32, 104, 54, 32, 104, 101, 97, 100, 101, 114, 32, 104, 114, 32, 105, 32, 105, 109, 103, 32, 105, 110, 115, 32, 107, 98, 100, 32, 108, 105, 32, 109, 97, 105, 110, 32, 109, 97, 114, 107, 32, 110, 97, 118, 32, 111, 108, 32, 112, 32, 112, 114, 101, 32, 113, 32, 115, 32, 115, 97, 109, 112, 32, 115, 101, 99, 116, 105, 111, 110, 32, 115, 109, 97, 108, 108, 32, 115, 112, 97, 110, 32, 115, 116, 114, 105, 107, 101, 32, 115, 116, 114, 111, 110, 103, 32, 115, 117, 98, 32, 115, 117, 112, 32, 116, 105, 109, 101, 32, 116, 116, 32, 117, 32, 117, 108, 32, 118, 97, 114, 32, 119, 98, 114, 32]⟩ : ByteArray)] from rfl) (Reps.none _ _)))))))))))); intro v105 w1 ho2 hb hg_ hnew_; clear hg_ hnew_; (first | rw [← Ny104.out] at ho2 | (simp only [Int.reduceToNat] at ho2; rw [← Ny104.out] at ho2)); have n0_ := Aside0.mk (Kd.R_lower ho2 (below_size (by repeat (first | (with_reducible first | exact HB.out | apply below_alloc | apply pw_below_drewN | apply below_drew1) | exact HB.out)))); have n1_ := Aside0.mk (below_step (by repeat (first | (with_reducible first | exact HB.out | apply below_alloc | apply pw_below_drewN | apply below_drew1) | exact HB.out)) hb); clear HB; have HO106 := n0_; have HB := n1_; clear n0_ n1_; clear hb ho2))
  go_ret
  exact ⟨_, by first | rfl | (simp [errW_none, errW_some] <;> rfl) | (simp [*, errW_none, errW_some] <;> rfl), by (with_reducible repeat (first | apply Kd.R_alloc | apply Kd.R_drewN | apply Kd.R_drew)); exact HO106.out, by repeat (first | (with_reducible first | exact HB.out | apply below_alloc | apply pw_below_drewN | apply below_drew1) | exact HB.out)⟩

end Go.Proofs.YteahlapoeiikoaaDoor.P


-- Printed by a program of this session (wip/myprint.py over the kit's print).
namespace Go.Proofs.YteahlapoeiikoaaDoor.P
open Go.RowKit Go.Proofs.YteahlapoeiikoaaDoorW.PrintWords Go.Proofs.YteahlapoeiikoaaDoorW.PrintLast Go.Proofs.YteahlapoeiikoaaDoorW.PrintMore
attribute [local go_sem] max2_int min2_int max_two min_two max_three min_three max_four min_four   -- for this text's walks alone
set_option linter.unusedVariables false
set_option linter.unusedSimpArgs false

/-! ### decanterref11_one: function 40 -/
def decanterref11_one.l0 : Nat → ByteArray → Int → Option (Bool)
  | 0, _, _ => none
  | k + 1, x0, x3 => if x3 < (x0.size : Int) then (if 0 ≤ x3 then (if (bt x0 x3) = 32 then (some false) else (decanterref11_one.l0 k x0 (wrap64 (x3 + 1)))) else (none)) else (some (decide ((x0.size : Int) > 0)))
def decanterref11_one.f (k : Nat) (a0 : ByteArray) : Option (Bool) := decanterref11_one.l0 k a0 0
theorem decanterref11_one.mono_l : ∀ k, (∀ y0 y1, LeO (decanterref11_one.l0 k y0 y1) (decanterref11_one.l0 (k + 1) y0 y1))
  | 0 => fun _ _ r h => by simp [decanterref11_one.l0] at h
  | k + 1 => by
    have ih0 := decanterref11_one.mono_l k
    · intro y0 y1
      unfold decanterref11_one.l0
      repeat' first
      | (with_reducible exact ih0 _ _)
      | (with_reducible exact LeO.refl _)
      | (with_reducible exact LeO.none _)
      | (with_reducible refine LeO.ite ?_ ?_)
      | (with_reducible refine LeO.bind ?_ (fun _ => ?_))
      | exact ih0 _ _
      | exact LeO.none _
      | refine LeO.ite ?_ ?_
      | refine LeO.bind ?_ (fun _ => ?_)
theorem decanterref11_one.mono : ∀ a0 k, LeO (decanterref11_one.f k a0) (decanterref11_one.f (k + 1) a0) := by
  intro a0 k
  have ih0 := decanterref11_one.mono_l k
  unfold decanterref11_one.f
  repeat' first
      | (with_reducible exact ih0 _ _)
      | (with_reducible exact LeO.refl _)
      | (with_reducible exact LeO.none _)
      | (with_reducible refine LeO.ite ?_ ?_)
      | (with_reducible refine LeO.bind ?_ (fun _ => ?_))
      | exact ih0 _ _
      | exact LeO.none _
      | refine LeO.ite ?_ ?_
      | refine LeO.bind ?_ (fun _ => ?_)
set_option maxHeartbeats 8000000 in
set_option maxRecDepth 100000 in
theorem decanterref11_one.calls (k : Nat) (a0 : ByteArray) (r : Bool) (w : World) (h : decanterref11_one.f k a0 = some r) :
    Calls Tryd.prog 40 #[.string a0] w fun e w' => e = .returned (.bool r) ∧ Drawn0 w w' := by
  have H : (decanterref11_one.l0 k a0 0) = some r := h
  clear h
  have H' := Aside0.mk H
  clear H
  go_enter Tryd.func40, Tryd.ntmps40
  go_wp2
  go_loopg [3] k (fun kq v3 w' => ∃ (x3_1 : Int), v3 = .int .i64 x3_1 ∧ Aside0 (decanterref11_one.l0 kq a0 x3_1 = some r) ∧ Aside0 (kq ≤ k) ∧ Drawn0 w w')
  case atStart => exact ⟨(0), (by first | rfl | (simp; done) | (simp [*]; done) | (simp; generalize ByteArray.toList _ = l_; cases l_ <;> rfl)), H', ⟨Nat.le_refl _⟩, by repeat (first | exact Drawn0.refl _ | apply Drawn0.step)⟩
  case round =>
    clear H'
    obtain ⟨x3_1, rfl, HA, HK1, ⟨m1, rfl⟩⟩ := hrel
    cases gk with
    | zero => exact absurd HA.out (by simp [decanterref11_one.l0])
    | succ k1 =>
      have H := HA.out
      clear HA
      simp only [decanterref11_one.l0] at H
      by_cases c2 : x3_1 < (a0.size : Int)
      · rw [if_pos c2] at H
        have c2b0 : decide (x3_1 < (a0.size : Int)) = true := decide_eq_true c2
        clear c2
        by_cases c3 : 0 ≤ x3_1
        · rw [if_pos c3] at H
          have c3b0 : decide (0 ≤ x3_1) = true := decide_eq_true c3
          clear c3
          by_cases c5 : (bt a0 x3_1) = 32
          · rw [if_pos c5] at H
            have c5b0 : ((bt a0 x3_1) == 32) = true := beq_iff_eq.mpr c5
            have c5b1 : ((bt a0 x3_1) != 32) = false := bne_eq_false_iff_eq.mpr c5
            clear c5
            obtain rfl := Option.some.inj H
            have p4 : 0 ≤ (x3_1 : Int) := of_decide_eq_true (by first | (with_reducible assumption) | assumption)
            have q4 : x3_1 < (a0.size : Int) := of_decide_eq_true (by first | (with_reducible assumption) | assumption)
            have hx4 := bt_at a0 x3_1
            replace p4 := eq_true p4
            replace q4 := eq_true q4
            go_wp2
            go_ret
            exact ⟨by first | rfl | (simp; done) | (simp [*]; done), by repeat (first | exact Drawn0.refl _ | apply Drawn0.step)⟩
          · rw [if_neg c5] at H
            have c5b0 : ((bt a0 x3_1) == 32) = false := beq_eq_false_iff_ne.mpr c5
            have c5b1 : ((bt a0 x3_1) != 32) = true := bne_iff_ne.mpr c5
            have H' := Aside0.mk H
            clear H
            have p4 : 0 ≤ (x3_1 : Int) := of_decide_eq_true (by first | (with_reducible assumption) | assumption)
            have q4 : x3_1 < (a0.size : Int) := of_decide_eq_true (by first | (with_reducible assumption) | assumption)
            have hx4 := bt_at a0 x3_1
            replace p4 := eq_true p4
            replace q4 := eq_true q4
            go_wp2
            go_roundg k1
            case measure => have := HK1.out; omega
            case rel => exact ⟨(wrap64 (x3_1 + 1)), (by first | rfl | (simp; done) | (simp [*]; done)), H', ⟨by have := HK1.out; omega⟩, by repeat (first | exact Drawn0.refl _ | apply Drawn0.step)⟩
        · rw [if_neg c3] at H
          exact absurd H (by simp)
      · rw [if_neg c2] at H
        have c2b0 : decide (x3_1 < (a0.size : Int)) = false := decide_eq_false c2
        clear c2
        obtain rfl := Option.some.inj H
        go_wp2
        go_ret
        exact ⟨by first | rfl | (simp; done) | (simp [*]; done), by repeat (first | exact Drawn0.refl _ | apply Drawn0.step)⟩

end Go.Proofs.YteahlapoeiikoaaDoor.P


-- Printed by a program of this session (wip/myprint.py over the kit's print).
namespace Go.Proofs.YteahlapoeiikoaaDoor.P
open Go.RowKit Go.Proofs.YteahlapoeiikoaaDoorW.PrintWords Go.Proofs.YteahlapoeiikoaaDoorW.PrintLast Go.Proofs.YteahlapoeiikoaaDoorW.PrintMore
attribute [local go_sem] max2_int min2_int max_two min_two max_three min_three max_four min_four   -- for this text's walks alone
set_option linter.unusedVariables false
set_option linter.unusedSimpArgs false

/-! ### decanterref11_in: function 41 -/
def decanterref11_in.l0 : Nat → ByteArray → ByteArray → Int → Option (Bool)
  | 0, _, _, _ => none
  | k + 1, x0, x1, x5 => if (wrap64 (x5 + (x1.size : Int))) ≤ (x0.size : Int) then (if 0 ≤ x5 then (if x5 ≤ (wrap64 (x5 + (x1.size : Int))) then (if (x0.extract (x5 : Int).toNat ((wrap64 (x5 + (x1.size : Int))) : Int).toNat).toList = x1.toList then (some true) else (decanterref11_in.l0 k x0 x1 (wrap64 (x5 + 1)))) else (none)) else (none)) else (some false)
def decanterref11_in.f (k : Nat) (a0 : ByteArray) (a1 : ByteArray) : Option (Bool) := decanterref11_in.l0 k a0 a1 0
theorem decanterref11_in.mono_l : ∀ k, (∀ y0 y1 y2, LeO (decanterref11_in.l0 k y0 y1 y2) (decanterref11_in.l0 (k + 1) y0 y1 y2))
  | 0 => fun _ _ _ r h => by simp [decanterref11_in.l0] at h
  | k + 1 => by
    have ih0 := decanterref11_in.mono_l k
    · intro y0 y1 y2
      unfold decanterref11_in.l0
      repeat' first
      | (with_reducible exact ih0 _ _ _)
      | (with_reducible exact LeO.refl _)
      | (with_reducible exact LeO.none _)
      | (with_reducible refine LeO.ite ?_ ?_)
      | (with_reducible refine LeO.bind ?_ (fun _ => ?_))
      | exact ih0 _ _ _
      | exact LeO.none _
      | refine LeO.ite ?_ ?_
      | refine LeO.bind ?_ (fun _ => ?_)
theorem decanterref11_in.mono : ∀ a0 a1 k, LeO (decanterref11_in.f k a0 a1) (decanterref11_in.f (k + 1) a0 a1) := by
  intro a0 a1 k
  have ih0 := decanterref11_in.mono_l k
  unfold decanterref11_in.f
  repeat' first
      | (with_reducible exact ih0 _ _ _)
      | (with_reducible exact LeO.refl _)
      | (with_reducible exact LeO.none _)
      | (with_reducible refine LeO.ite ?_ ?_)
      | (with_reducible refine LeO.bind ?_ (fun _ => ?_))
      | exact ih0 _ _ _
      | exact LeO.none _
      | refine LeO.ite ?_ ?_
      | refine LeO.bind ?_ (fun _ => ?_)
set_option maxHeartbeats 8000000 in
set_option maxRecDepth 100000 in
theorem decanterref11_in.calls (k : Nat) (a0 : ByteArray) (a1 : ByteArray) (r : Bool) (w : World) (h : decanterref11_in.f k a0 a1 = some r) :
    Calls Tryd.prog 41 #[.string a0, .string a1] w fun e w' => e = .returned (.bool r) ∧ Drawn0 w w' := by
  have H : (decanterref11_in.l0 k a0 a1 0) = some r := h
  clear h
  have H' := Aside0.mk H
  clear H
  go_enter Tryd.func41, Tryd.ntmps41
  go_wp2
  go_loopg [5] k (fun kq v5 w' => ∃ (x5_1 : Int), v5 = .int .i64 x5_1 ∧ Aside0 (decanterref11_in.l0 kq a0 a1 x5_1 = some r) ∧ Aside0 (kq ≤ k) ∧ Drawn0 w w')
  case atStart => exact ⟨(0), (by first | rfl | (simp; done) | (simp [*]; done) | (simp; generalize ByteArray.toList _ = l_; cases l_ <;> rfl)), H', ⟨Nat.le_refl _⟩, by repeat (first | exact Drawn0.refl _ | apply Drawn0.step)⟩
  case round =>
    clear H'
    try clear p2
    obtain ⟨x5_1, rfl, HA, HK1, ⟨m1, rfl⟩⟩ := hrel
    cases gk with
    | zero => exact absurd HA.out (by simp [decanterref11_in.l0])
    | succ k1 =>
      have H := HA.out
      clear HA
      simp only [decanterref11_in.l0] at H
      by_cases c3 : (wrap64 (x5_1 + (a1.size : Int))) ≤ (a0.size : Int)
      · rw [if_pos c3] at H
        have c3b0 : decide ((wrap64 (x5_1 + (a1.size : Int))) ≤ (a0.size : Int)) = true := decide_eq_true c3
        clear c3
        by_cases c4 : 0 ≤ x5_1
        · rw [if_pos c4] at H
          have c4b0 := eq_true c4
          have c4b1 : decide (0 ≤ x5_1) = true := decide_eq_true c4
          clear c4
          by_cases c5 : x5_1 ≤ (wrap64 (x5_1 + (a1.size : Int)))
          · rw [if_pos c5] at H
            have c5b0 := eq_true c5
            have c5b1 : decide (x5_1 ≤ (wrap64 (x5_1 + (a1.size : Int)))) = true := decide_eq_true c5
            have c6b0 := eq_true (of_decide_eq_true (by first | (with_reducible assumption) | assumption) : (wrap64 (x5_1 + (a1.size : Int))) ≤ (a0.size : Int))
            by_cases c7 : (a0.extract (x5_1 : Int).toNat ((wrap64 (x5_1 + (a1.size : Int))) : Int).toNat).toList = a1.toList
            · rw [if_pos c7] at H
              have c7b0 : ((a0.extract (x5_1 : Int).toNat ((wrap64 (x5_1 + (a1.size : Int))) : Int).toNat).toList == a1.toList) = true := beq_iff_eq.mpr c7
              have c7b1 : ((a0.extract (x5_1 : Int).toNat ((wrap64 (x5_1 + (a1.size : Int))) : Int).toNat).toList != a1.toList) = false := bne_eq_false_iff_eq.mpr c7
              clear c7
              obtain rfl := Option.some.inj H
              go_wp2
              go_ret
              exact ⟨by first | rfl | (simp; done) | (simp [*]; done), by repeat (first | exact Drawn0.refl _ | apply Drawn0.step)⟩
            · rw [if_neg c7] at H
              have c7b0 : ((a0.extract (x5_1 : Int).toNat ((wrap64 (x5_1 + (a1.size : Int))) : Int).toNat).toList == a1.toList) = false := beq_eq_false_iff_ne.mpr c7
              have c7b1 : ((a0.extract (x5_1 : Int).toNat ((wrap64 (x5_1 + (a1.size : Int))) : Int).toNat).toList != a1.toList) = true := bne_iff_ne.mpr c7
              have H' := Aside0.mk H
              clear H
              go_wp2
              go_roundg k1
              case measure => have := HK1.out; omega
              case rel => exact ⟨(wrap64 (x5_1 + 1)), (by first | rfl | (simp; done) | (simp [*]; done)), H', ⟨by have := HK1.out; omega⟩, by repeat (first | exact Drawn0.refl _ | apply Drawn0.step)⟩
          · rw [if_neg c5] at H
            exact absurd H (by simp)
        · rw [if_neg c4] at H
          exact absurd H (by simp)
      · rw [if_neg c3] at H
        have c3b0 : decide ((wrap64 (x5_1 + (a1.size : Int))) ≤ (a0.size : Int)) = false := decide_eq_false c3
        clear c3
        obtain rfl := Option.some.inj H
        go_wp2
        go_ret
        exact ⟨by first | rfl | (simp; done) | (simp [*]; done), by repeat (first | exact Drawn0.refl _ | apply Drawn0.step)⟩

end Go.Proofs.YteahlapoeiikoaaDoor.P


-- Printed by a program of this session (wip/myprint.py over the kit's print).
namespace Go.Proofs.YteahlapoeiikoaaDoor.P
open Go.RowKit Go.Proofs.YteahlapoeiikoaaDoorW.PrintWords Go.Proofs.YteahlapoeiikoaaDoorW.PrintLast Go.Proofs.YteahlapoeiikoaaDoorW.PrintMore
attribute [local go_sem] max2_int min2_int max_two min_two max_three min_three max_four min_four   -- for this text's walks alone
set_option linter.unusedVariables false
set_option linter.unusedSimpArgs false

/-! ### decanterref11_Is: function 20 -/
def decanterref11_Is.f (k : Nat) (a0 : ByteArray) (a1 : Int) : Option (Bool) := (decanterref11_one.f k a0).bind fun t107 => (if t107 = true then ((decanterref11_Lists.f).bind fun t108 => (if 0 ≤ a1 then (if a1 < (t108.length : Int) then (if 1 + a0.size ≤ 9223372036854775807 then (if ((⟨#[32]⟩ : ByteArray) ++ a0).size + 1 ≤ 9223372036854775807 then ((decanterref11_in.f k (rdOf ByteArray.empty t108 a1) (((⟨#[32]⟩ : ByteArray) ++ a0) ++ (⟨#[32]⟩ : ByteArray))).bind fun t112 => (some t112)) else (none)) else (none)) else (none)) else (none))) else (some false))
theorem decanterref11_Is.mono : ∀ a0 a1 k, LeO (decanterref11_Is.f k a0 a1) (decanterref11_Is.f (k + 1) a0 a1) := by
  intro a0 a1 k
  unfold decanterref11_Is.f
  repeat' first
      | (with_reducible exact decanterref11_in.mono _ _ _)
      | (with_reducible exact decanterref11_one.mono _ _)
      | (with_reducible exact LeO.refl _)
      | (with_reducible exact LeO.none _)
      | (with_reducible refine LeO.ite ?_ ?_)
      | (with_reducible refine LeO.bind ?_ (fun _ => ?_))
      | exact decanterref11_in.mono _ _ _
      | exact decanterref11_one.mono _ _
      | exact LeO.none _
      | refine LeO.ite ?_ ?_
      | refine LeO.bind ?_ (fun _ => ?_)
set_option maxHeartbeats 8000000 in
set_option maxRecDepth 100000 in
theorem decanterref11_Is.calls (k : Nat) (a0 : ByteArray) (a1 : Int) (r : Bool) (w : World) (h : decanterref11_Is.f k a0 a1 = some r) :
    Calls Tryd.prog 20 #[.string a0, .int .i64 a1] w fun e w' => e = .returned (.bool r) ∧ Below w.heap.size w w' := by
  have HB := Aside0.mk (Below.refl w.heap.size w)
  have H : ((decanterref11_one.f k a0).bind fun t107 => (if t107 = true then ((decanterref11_Lists.f).bind fun t108 => (if 0 ≤ a1 then (if a1 < (t108.length : Int) then (if 1 + a0.size ≤ 9223372036854775807 then (if ((⟨#[32]⟩ : ByteArray) ++ a0).size + 1 ≤ 9223372036854775807 then ((decanterref11_in.f k (rdOf ByteArray.empty t108 a1) (((⟨#[32]⟩ : ByteArray) ++ a0) ++ (⟨#[32]⟩ : ByteArray))).bind fun t112 => (some t112)) else (none)) else (none)) else (none)) else (none))) else (some false))) = some r := h
  clear h
  replace H := Option.bind_eq_some_iff.mp H
  obtain ⟨t107, A30, H⟩ := H
  replace H : (if t107 = true then ((decanterref11_Lists.f).bind fun t108 => (if 0 ≤ a1 then (if a1 < (t108.length : Int) then (if 1 + a0.size ≤ 9223372036854775807 then (if ((⟨#[32]⟩ : ByteArray) ++ a0).size + 1 ≤ 9223372036854775807 then ((decanterref11_in.f k (rdOf ByteArray.empty t108 a1) (((⟨#[32]⟩ : ByteArray) ++ a0) ++ (⟨#[32]⟩ : ByteArray))).bind fun t112 => (some t112)) else (none)) else (none)) else (none)) else (none))) else (some false)) = some r := H
  have A3 := Aside0.mk A30
  clear A30
  by_cases c4 : t107 = true
  · subst c4
    have H1 : ((decanterref11_Lists.f).bind fun t108 => (if 0 ≤ a1 then (if a1 < (t108.length : Int) then (if 1 + a0.size ≤ 9223372036854775807 then (if ((⟨#[32]⟩ : ByteArray) ++ a0).size + 1 ≤ 9223372036854775807 then ((decanterref11_in.f k (rdOf ByteArray.empty t108 a1) (((⟨#[32]⟩ : ByteArray) ++ a0) ++ (⟨#[32]⟩ : ByteArray))).bind fun t112 => (some t112)) else (none)) else (none)) else (none)) else (none))) = some r := by rw [if_pos rfl] at H; exact H
    clear H
    have H := H1
    clear H1
    replace H := Option.bind_eq_some_iff.mp H
    obtain ⟨t108, A50, H⟩ := H
    replace H : (if 0 ≤ a1 then (if a1 < (t108.length : Int) then (if 1 + a0.size ≤ 9223372036854775807 then (if ((⟨#[32]⟩ : ByteArray) ++ a0).size + 1 ≤ 9223372036854775807 then ((decanterref11_in.f k (rdOf ByteArray.empty t108 a1) (((⟨#[32]⟩ : ByteArray) ++ a0) ++ (⟨#[32]⟩ : ByteArray))).bind fun t112 => (some t112)) else (none)) else (none)) else (none)) else (none)) = some r := H
    have A5 := Aside0.mk A50
    clear A50
    by_cases c6 : 0 ≤ a1
    · rw [if_pos c6] at H
      have c6b0 : decide (0 ≤ a1) = true := decide_eq_true c6
      clear c6
      by_cases c7 : a1 < (t108.length : Int)
      · rw [if_pos c7] at H
        have c7b0 : decide (a1 < (t108.length : Int)) = true := decide_eq_true c7
        clear c7
        by_cases c8 : 1 + a0.size ≤ 9223372036854775807
        · rw [if_pos c8] at H
          have c8b0 := eq_true c8
          have c8b1 : decide (1 + a0.size ≤ 9223372036854775807) = true := decide_eq_true c8
          try have c8b2 : (9223372036854775807 < 1 + a0.size) = False := eq_false (Nat.not_lt.2 c8)
          by_cases c9 : ((⟨#[32]⟩ : ByteArray) ++ a0).size + 1 ≤ 9223372036854775807
          · rw [if_pos c9] at H
            have c9b0 := eq_true c9
            have c9b1 : decide (((⟨#[32]⟩ : ByteArray) ++ a0).size + 1 ≤ 9223372036854775807) = true := decide_eq_true c9
            try have c9b2 : (9223372036854775807 < ((⟨#[32]⟩ : ByteArray) ++ a0).size + 1) = False := eq_false (Nat.not_lt.2 c9)
            (try (have c9s := c9; simp only [ByteArray.size_append, show ((⟨#[32]⟩ : ByteArray)).size = 1 from rfl] at c9s; have c9s0 := eq_true c9s; have c9s2 := eq_false (Nat.not_lt.2 c9s)))
            replace H := Option.bind_eq_some_iff.mp H
            obtain ⟨t112, A100, H⟩ := H
            replace H : (some t112) = some r := H
            have A10 := Aside0.mk A100
            clear A100
            obtain rfl := Option.some.inj H
            go_enter Tryd.func20, Tryd.ntmps20
            go_wp2_with (first | ((with_reducible refine gate_callee (f := 40) rfl ?_); refine goesL_ (some 6) rfl rfl Tryd.func40 (by kernel_rfl) rfl #[.string a0] rfl (by (try simp only [List.map_toArray, List.map_cons, List.map_nil]); first | done | rfl | (simp only [List.length_drop, List.length_take]; rfl)) ?_; (with_reducible refine (decanterref11_one.calls k a0 true _ A3.out).mono ?_); rintro e w' ⟨rfl, ⟨nd, rfl⟩⟩; refine ⟨_, rfl, ?_⟩) | (go_at_call 34; (with_reducible refine (decanterref11_Lists.calls  t108 _ A5.out).mono ?_); rintro e w11 ⟨v109, rfl, ho0, hb⟩; have n0_ := Aside0.mk (Kd.R_lower ho0 (below_size (by repeat (first | (with_reducible first | exact HB.out | apply below_alloc | apply pw_below_drewN | apply below_drew1) | exact HB.out)))); have n1_ := Aside0.mk (below_step (by repeat (first | (with_reducible first | exact HB.out | apply below_alloc | apply pw_below_drewN | apply below_drew1) | exact HB.out)) hb); clear HB; have HO110 := n0_; have HB := n1_; clear n0_ n1_; (try clear hb); (try clear hb2); (try clear hk); (try clear hi); (try clear ho0); obtain ⟨Ao12, co12, eo12⟩ := Kd.R_slice HO110.out; subst eo12; have p111 : 0 ≤ (a1 : Int) := of_decide_eq_true (by first | (with_reducible assumption) | assumption); have q111 : a1 < (t108.length : Int) := of_decide_eq_true (by first | (with_reducible assumption) | assumption); obtain ⟨ad111, e111, hx111_0⟩ := Kd.at_string (Kd.R_reads' HO110.out).2.2 a1 p111 q111; cases e111; replace p111 := eq_true p111; replace q111 := eq_true q111) | (go_at_call 41; (with_reducible refine (decanterref11_in.calls k (rdOf ByteArray.empty t108 a1) (((⟨#[32]⟩ : ByteArray) ++ a0) ++ (⟨#[32]⟩ : ByteArray)) t112 _ A10.out).mono ?_); rintro e w' ⟨rfl, ⟨nd, rfl⟩⟩))
            go_ret
            exact ⟨by first | rfl | (simp [errW_none, errW_some] <;> rfl) | (simp [*, errW_none, errW_some] <;> rfl), by repeat (first | (with_reducible first | exact HB.out | apply below_alloc | apply pw_below_drewN | apply below_drew1) | exact HB.out)⟩
          · rw [if_neg c9] at H
            exact absurd H (by simp)
        · rw [if_neg c8] at H
          exact absurd H (by simp)
      · rw [if_neg c7] at H
        exact absurd H (by simp)
    · rw [if_neg c6] at H
      exact absurd H (by simp)
  · replace c4 := Bool.eq_false_iff.mpr c4
    subst c4
    have H1 : (some false) = some r := by rw [if_neg (show ¬ (false = true) by decide)] at H; exact H
    clear H
    have H := H1
    clear H1
    obtain rfl := Option.some.inj H
    go_enter Tryd.func20, Tryd.ntmps20
    go_wp2_with (first | ((with_reducible refine gate_callee (f := 40) rfl ?_); refine goesL_ (some 6) rfl rfl Tryd.func40 (by kernel_rfl) rfl #[.string a0] rfl (by (try simp only [List.map_toArray, List.map_cons, List.map_nil]); first | done | rfl | (simp only [List.length_drop, List.length_take]; rfl)) ?_; (with_reducible refine (decanterref11_one.calls k a0 false _ A3.out).mono ?_); rintro e w' ⟨rfl, ⟨nd, rfl⟩⟩; refine ⟨_, rfl, ?_⟩))
    go_ret
    exact ⟨by first | rfl | (simp [errW_none, errW_some] <;> rfl) | (simp [*, errW_none, errW_some] <;> rfl), by repeat (first | (with_reducible first | exact HB.out | apply below_alloc | apply pw_below_drewN | apply below_drew1) | exact HB.out)⟩

end Go.Proofs.YteahlapoeiikoaaDoor.P


-- Printed by a program of this session (wip/myprint.py over the kit's print).
namespace Go.Proofs.YteahlapoeiikoaaDoor.P
open Go.RowKit Go.Proofs.YteahlapoeiikoaaDoorW.PrintWords Go.Proofs.YteahlapoeiikoaaDoorW.PrintLast Go.Proofs.YteahlapoeiikoaaDoorW.PrintMore
attribute [local go_sem] max2_int min2_int max_two min_two max_three min_three max_four min_four   -- for this text's walks alone
set_option linter.unusedVariables false
set_option linter.unusedSimpArgs false

/-! ### decanterref11_Of: function 14 -/
def decanterref11_Of.l0 : Nat → ByteArray → Int → Int → List ByteArray → Int → Option (Int)
  | 0, _, _, _, _, _ => none
  | k + 1, x0, x3, x4, x5, x6 => if x6 < (x5.length : Int) then ((decanterref11_Is.f k x0 x6).bind fun t116 => (if t116 = true then (decanterref11_Of.l0 k x0 (wrap64 (x3 + x4)) (wrap64 (x4 * 2)) x5 (wrap64 (x6 + 1))) else (decanterref11_Of.l0 k x0 x3 (wrap64 (x4 * 2)) x5 (wrap64 (x6 + 1))))) else (some x3)
def decanterref11_Of.f (k : Nat) (a0 : ByteArray) : Option (Int) := (decanterref11_Lists.f).bind fun t113 => (decanterref11_Of.l0 k a0 0 1 t113 0)
theorem decanterref11_Of.mono_l : ∀ k, (∀ y0 y1 y2 y3 y4, LeO (decanterref11_Of.l0 k y0 y1 y2 y3 y4) (decanterref11_Of.l0 (k + 1) y0 y1 y2 y3 y4))
  | 0 => fun _ _ _ _ _ r h => by simp [decanterref11_Of.l0] at h
  | k + 1 => by
    have ih0 := decanterref11_Of.mono_l k
    · intro y0 y1 y2 y3 y4
      unfold decanterref11_Of.l0
      repeat' first
      | (with_reducible exact ih0 _ _ _ _ _)
      | (with_reducible exact decanterref11_Is.mono _ _ _)
      | (with_reducible exact LeO.refl _)
      | (with_reducible exact LeO.none _)
      | (with_reducible refine LeO.ite ?_ ?_)
      | (with_reducible refine LeO.bind ?_ (fun _ => ?_))
      | exact ih0 _ _ _ _ _
      | exact decanterref11_Is.mono _ _ _
      | exact LeO.none _
      | refine LeO.ite ?_ ?_
      | refine LeO.bind ?_ (fun _ => ?_)
theorem decanterref11_Of.mono : ∀ a0 k, LeO (decanterref11_Of.f k a0) (decanterref11_Of.f (k + 1) a0) := by
  intro a0 k
  have ih0 := decanterref11_Of.mono_l k
  unfold decanterref11_Of.f
  repeat' first
      | (with_reducible exact ih0 _ _ _ _ _)
      | (with_reducible exact decanterref11_Is.mono _ _ _)
      | (with_reducible exact LeO.refl _)
      | (with_reducible exact LeO.none _)
      | (with_reducible refine LeO.ite ?_ ?_)
      | (with_reducible refine LeO.bind ?_ (fun _ => ?_))
      | exact ih0 _ _ _ _ _
      | exact decanterref11_Is.mono _ _ _
      | exact LeO.none _
      | refine LeO.ite ?_ ?_
      | refine LeO.bind ?_ (fun _ => ?_)
set_option maxHeartbeats 8000000 in
set_option maxRecDepth 100000 in
theorem decanterref11_Of.calls (k : Nat) (a0 : ByteArray) (r : Int) (w : World) (h : decanterref11_Of.f k a0 = some r) :
    Calls Tryd.prog 14 #[.string a0] w fun e w' => e = .returned (.int .i64 r) ∧ Below w.heap.size w w' := by
  have HB := Aside0.mk (Below.refl w.heap.size w)
  have H : ((decanterref11_Lists.f).bind fun t113 => (decanterref11_Of.l0 k a0 0 1 t113 0)) = some r := h
  clear h
  replace H := Option.bind_eq_some_iff.mp H
  obtain ⟨t113, A20, H⟩ := H
  replace H : (decanterref11_Of.l0 k a0 0 1 t113 0) = some r := H
  have A2 := Aside0.mk A20
  clear A20
  have H' := Aside0.mk H
  clear H
  go_enter Tryd.func14, Tryd.ntmps14
  go_wp2_with (first | ((with_reducible refine gate_callee (f := 34) rfl ?_); refine goesL_ (some 7) rfl rfl Tryd.func34 (by kernel_rfl) rfl #[] rfl (by (try simp only [List.map_toArray, List.map_cons, List.map_nil]); first | done | rfl | (simp only [List.length_drop, List.length_take]; rfl)) ?_; (with_reducible refine (decanterref11_Lists.calls  t113 _ A2.out).mono ?_); rintro e w3 ⟨v114, rfl, ho0, hb⟩; refine ⟨_, rfl, ?_⟩; have n0_ := Aside0.mk (Kd.R_lower ho0 (below_size (by repeat (first | (with_reducible first | exact HB.out | apply below_alloc | apply pw_below_drewN | apply below_drew1) | exact HB.out)))); have n1_ := Aside0.mk (below_step (by repeat (first | (with_reducible first | exact HB.out | apply below_alloc | apply pw_below_drewN | apply below_drew1) | exact HB.out)) hb); clear HB; have HO115 := n0_; have HB := n1_; clear n0_ n1_; (try clear hb); (try clear hb2); (try clear hk); (try clear hi); (try clear ho0)))
  go_loopg [3, 4, 6] k (fun kq v3 v4 v6 w' => ∃ (x3_1 : Int) (x4_1 : Int) (x6_1 : Int), v3 = .int .i64 x3_1 ∧ v4 = .int .i64 x4_1 ∧ v6 = .int .i64 x6_1 ∧ Aside0 (decanterref11_Of.l0 kq a0 x3_1 x4_1 t113 x6_1 = some r) ∧ Aside0 (kq ≤ k) ∧ Aside0 (Kd.R Kd.string 9 w' w.heap.size (fun _ => True) v114 t113) ∧ Aside0 (Below w.heap.size w w'))
  case atStart => exact ⟨(0), (1), (0), (by first | rfl | (simp; done) | (simp [*]; done) | (simp; generalize ByteArray.toList _ = l_; cases l_ <;> rfl)), (by first | rfl | (simp; done) | (simp [*]; done) | (simp; generalize ByteArray.toList _ = l_; cases l_ <;> rfl)), (by first | rfl | (simp; done) | (simp [*]; done) | (simp; generalize ByteArray.toList _ = l_; cases l_ <;> rfl)), H', ⟨Nat.le_refl _⟩, ⟨by (with_reducible repeat (first | apply Kd.R_alloc | apply Kd.R_drewN | apply Kd.R_drew)); exact HO115.out⟩, ⟨by repeat (first | (with_reducible first | exact HB.out | apply below_alloc | apply pw_below_drewN | apply below_drew1) | exact HB.out)⟩⟩
  case round =>
    clear H'
    try clear c1
    try clear p2
    try clear c3
    obtain ⟨x3_1, x4_1, x6_1, rfl, rfl, rfl, HA, HK1, HO_5, HB⟩ := hrel
    cases gk with
    | zero => exact absurd HA.out (by simp [decanterref11_Of.l0])
    | succ k1 =>
      have H := HA.out
      clear HA
      simp only [decanterref11_Of.l0] at H
      by_cases c4 : x6_1 < (t113.length : Int)
      · rw [if_pos c4] at H
        have c4b0 : decide (x6_1 < (t113.length : Int)) = true := decide_eq_true c4
        clear c4
        replace H := Option.bind_eq_some_iff.mp H
        obtain ⟨t116, A50, H⟩ := H
        replace H : (if t116 = true then (decanterref11_Of.l0 k1 a0 (wrap64 (x3_1 + x4_1)) (wrap64 (x4_1 * 2)) t113 (wrap64 (x6_1 + 1))) else (decanterref11_Of.l0 k1 a0 x3_1 (wrap64 (x4_1 * 2)) t113 (wrap64 (x6_1 + 1)))) = some r := H
        have A5 := Aside0.mk A50
        clear A50
        by_cases c6 : t116 = true
        · subst c6
          have H1 : (decanterref11_Of.l0 k1 a0 (wrap64 (x3_1 + x4_1)) (wrap64 (x4_1 * 2)) t113 (wrap64 (x6_1 + 1))) = some r := by rw [if_pos rfl] at H; exact H
          clear H
          have H := H1
          clear H1
          have H' := Aside0.mk H
          clear H
          obtain ⟨Ao7, co7, eo7⟩ := Kd.R_slice HO_5.out
          subst eo7
          go_wp2_with (first | ((with_reducible refine gate_callee (f := 20) rfl ?_); refine goesL_ (some 16) rfl rfl Tryd.func20 (by kernel_rfl) rfl #[.string a0, .int .i64 x6_1] rfl (by (try simp only [List.map_toArray, List.map_cons, List.map_nil]); first | done | rfl | (simp only [List.length_drop, List.length_take]; rfl)) ?_; (with_reducible refine (decanterref11_Is.calls k1 a0 x6_1 true _ A5.out).mono ?_); rintro e w8 ⟨rfl, hb⟩; refine ⟨_, rfl, ?_⟩; have n0_ := Aside0.mk (Kd.R_below (by (with_reducible repeat (first | apply Kd.R_alloc | apply Kd.R_drewN | apply Kd.R_drew)); exact HO_5.out) hb); have n1_ := Aside0.mk (below_step (by repeat (first | (with_reducible first | exact HB.out | apply below_alloc | apply pw_below_drewN | apply below_drew1) | exact HB.out)) hb); clear HO_5; clear HB; have HO_5 := n0_; have HB := n1_; clear n0_ n1_; (try clear hb); (try clear hb2); (try clear hk); (try clear hi)))
          go_roundg k1
          case measure => have := HK1.out; omega
          case rel => exact ⟨(wrap64 (x3_1 + x4_1)), (wrap64 (x4_1 * 2)), (wrap64 (x6_1 + 1)), (by first | rfl | (simp; done) | (simp [*]; done)), (by first | rfl | (simp; done) | (simp [*]; done)), (by first | rfl | (simp; done) | (simp [*]; done)), H', ⟨by have := HK1.out; omega⟩, ⟨by (with_reducible repeat (first | apply Kd.R_alloc | apply Kd.R_drewN | apply Kd.R_drew)); exact HO_5.out⟩, ⟨by repeat (first | (with_reducible first | exact HB.out | apply below_alloc | apply pw_below_drewN | apply below_drew1) | exact HB.out)⟩⟩
        · replace c6 := Bool.eq_false_iff.mpr c6
          subst c6
          have H1 : (decanterref11_Of.l0 k1 a0 x3_1 (wrap64 (x4_1 * 2)) t113 (wrap64 (x6_1 + 1))) = some r := by rw [if_neg (show ¬ (false = true) by decide)] at H; exact H
          clear H
          have H := H1
          clear H1
          have H' := Aside0.mk H
          clear H
          obtain ⟨Ao9, co9, eo9⟩ := Kd.R_slice HO_5.out
          subst eo9
          go_wp2_with (first | ((with_reducible refine gate_callee (f := 20) rfl ?_); refine goesL_ (some 16) rfl rfl Tryd.func20 (by kernel_rfl) rfl #[.string a0, .int .i64 x6_1] rfl (by (try simp only [List.map_toArray, List.map_cons, List.map_nil]); first | done | rfl | (simp only [List.length_drop, List.length_take]; rfl)) ?_; (with_reducible refine (decanterref11_Is.calls k1 a0 x6_1 false _ A5.out).mono ?_); rintro e w10 ⟨rfl, hb⟩; refine ⟨_, rfl, ?_⟩; have n0_ := Aside0.mk (Kd.R_below (by (with_reducible repeat (first | apply Kd.R_alloc | apply Kd.R_drewN | apply Kd.R_drew)); exact HO_5.out) hb); have n1_ := Aside0.mk (below_step (by repeat (first | (with_reducible first | exact HB.out | apply below_alloc | apply pw_below_drewN | apply below_drew1) | exact HB.out)) hb); clear HO_5; clear HB; have HO_5 := n0_; have HB := n1_; clear n0_ n1_; (try clear hb); (try clear hb2); (try clear hk); (try clear hi)))
          go_roundg k1
          case measure => have := HK1.out; omega
          case rel => exact ⟨(x3_1), (wrap64 (x4_1 * 2)), (wrap64 (x6_1 + 1)), (by first | rfl | (simp; done) | (simp [*]; done)), (by first | rfl | (simp; done) | (simp [*]; done)), (by first | rfl | (simp; done) | (simp [*]; done)), H', ⟨by have := HK1.out; omega⟩, ⟨by (with_reducible repeat (first | apply Kd.R_alloc | apply Kd.R_drewN | apply Kd.R_drew)); exact HO_5.out⟩, ⟨by repeat (first | (with_reducible first | exact HB.out | apply below_alloc | apply pw_below_drewN | apply below_drew1) | exact HB.out)⟩⟩
      · rw [if_neg c4] at H
        have c4b0 : decide (x6_1 < (t113.length : Int)) = false := decide_eq_false c4
        clear c4
        obtain rfl := Option.some.inj H
        obtain ⟨Ao11, co11, eo11⟩ := Kd.R_slice HO_5.out
        subst eo11
        go_wp2
        go_ret
        exact ⟨by first | rfl | (simp [errW_none, errW_some] <;> rfl) | (simp [*, errW_none, errW_some] <;> rfl), by repeat (first | (with_reducible first | exact HB.out | apply below_alloc | apply pw_below_drewN | apply below_drew1) | exact HB.out)⟩

end Go.Proofs.YteahlapoeiikoaaDoor.P

/-
  The document's answer for chapter 11 (decanterref11), as plain functions of lists. No condition but sizes.
-/

namespace Go.Proofs.YteahlapoeiikoaaDoor.Pure
open Go.RowKit Go.Proofs.YteahlapoeiikoaaDoor.P Go.Proofs.YteahlapoeiikoaaDoorW.PrintWords Go.Proofs.YteahlapoeiikoaaDoorW.PrintLast

theorem wrap_id {i : Int} (h0 : -4611686018427387904 ≤ i) (h : i ≤ 4611686018427387904) : wrap64 i = i := by
  unfold wrap64; omega

theorem bt_get (s : ByteArray) (i : Nat) (h : i < s.size) : bt s (i : Int) = ((s.data.toList[i]'(by rw [← Lib.size_eq]; exact h)).toNat : Int) := by
  unfold bt
  rw [dif_pos (by simpa using h)]
  rfl

theorem data_append (a b : ByteArray) : (a ++ b).data.toList = a.data.toList ++ b.data.toList := by
  rw [ByteArray.data_append]; simp

/-- Is a name one word? -/
def oneB (x : ByteArray) : Bool := decide (0 < x.size) && x.data.toList.all (· != 32)

theorem u8_32 (c : UInt8) : ((c.toNat : Int) = 32) ↔ c = 32 := by
  constructor
  · intro h
    have : c.toNat = (32 : UInt8).toNat := by simpa using (by omega : c.toNat = 32)
    exact UInt8.toNat_inj.1 this
  · rintro rfl; rfl

theorem one_loop (x : ByteArray) (hx : x.size ≤ 4611686018427387903) (d : Nat) : ∀ (k i : Nat), i ≤ x.size → x.size - i = d → d < k →
    decanterref11_one.l0 k x (i : Int) = some (decide (0 < x.size) && (x.data.toList.drop i).all (· != 32)) := by
  induction d with
  | zero =>
    intro k i hi hd hk
    obtain ⟨k, rfl⟩ : ∃ m, k = m + 1 := ⟨k - 1, by omega⟩
    simp only [decanterref11_one.l0]
    rw [if_neg (by omega), List.drop_eq_nil_of_le (by rw [← Lib.size_eq]; omega)]
    have e : decide ((x.size : Int) > 0) = decide (0 < x.size) := by rw [decide_eq_decide]; omega
    rw [e]
    simp
  | succ d ih =>
    intro k i hi hd hk
    obtain ⟨k, rfl⟩ : ∃ m, k = m + 1 := ⟨k - 1, by omega⟩
    have hlt : i < x.size := by omega
    have hl : i < x.data.toList.length := by rw [← Lib.size_eq]; exact hlt
    simp only [decanterref11_one.l0]
    rw [if_pos (by omega), if_pos (by omega), bt_get x i hlt, List.drop_eq_getElem_cons hl, List.all_cons]
    have hih := ih k (i + 1) (by omega) (by omega) (by omega)
    rw [wrap_id (by omega) (by omega)]
    by_cases h : x.data.toList[i] = 32
    · rw [if_pos ((u8_32 _).2 h), h]
      simp
    · rw [if_neg (fun e => h ((u8_32 _).1 e))]
      have hb : (x.data.toList[i] != 32) = true := by simpa using h
      rw [hb, Bool.true_and]
      exact hih

theorem one_tells (x : ByteArray) (hx : x.size ≤ 4611686018427387903) (k : Nat) (hk : x.size < k) : decanterref11_one.f k x = some (oneB x) := by
  have := one_loop x hx x.size k 0 (by omega) (by omega) hk
  simpa [decanterref11_one.f, oneB] using this

/-- Does p stand in s at a place from i on? -/
def StandsFrom (s p : List UInt8) (i : Nat) : Prop := ∃ j, i ≤ j ∧ j + p.length ≤ s.length ∧ (s.drop j).take p.length = p

open Classical in
theorem in_loop (s p : ByteArray) (hs : s.size ≤ 1152921504606846976) (hp : p.size ≤ 1152921504606846976) (d : Nat) : ∀ (k i : Nat), i ≤ s.size + 1 → s.size + 1 - i = d → d < k →
    decanterref11_in.l0 k s p (i : Int) = some (decide (StandsFrom s.data.toList p.data.toList i)) := by
  induction d with
  | zero =>
    intro k i hi hd hk
    obtain ⟨k, rfl⟩ : ∃ m, k = m + 1 := ⟨k - 1, by omega⟩
    simp only [decanterref11_in.l0]
    rw [wrap_id (by omega) (by omega), if_neg (by omega)]
    have : ¬ StandsFrom s.data.toList p.data.toList i := by
      rintro ⟨j, h1, h2, _⟩
      rw [← Lib.size_eq, ← Lib.size_eq] at h2
      omega
    simp [this]
  | succ d ih =>
    intro k i hi hd hk
    obtain ⟨k, rfl⟩ : ∃ m, k = m + 1 := ⟨k - 1, by omega⟩
    have hih := ih k (i + 1) (by omega) (by omega) (by omega)
    simp only [decanterref11_in.l0]
    rw [wrap_id (by omega) (by omega), wrap_id (by omega) (by omega)]
    by_cases h : i + p.size ≤ s.size
    · rw [if_pos (by omega), if_pos (by omega), if_pos (by omega)]
      have e1 : ((i : Int) + (p.size : Int)).toNat = i + p.size := by omega
      have e2 : ((i : Int)).toNat = i := by omega
      rw [e1, e2, Lib.extract_toList, Lib.toList_data]
      have e3 : i + p.size - i = p.data.toList.length := by rw [← Lib.size_eq]; omega
      rw [e3]
      by_cases hc : (s.data.toList.drop i).take p.data.toList.length = p.data.toList
      · rw [if_pos hc]
        have : StandsFrom s.data.toList p.data.toList i := ⟨i, Nat.le_refl _, by rw [← Lib.size_eq, ← Lib.size_eq]; exact h, hc⟩
        simp [this]
      · rw [if_neg hc]
        have e4 : ((i : Int) + 1) = ((i + 1 : Nat) : Int) := by omega
        rw [e4, hih]
        congr 1
        rw [decide_eq_decide]
        constructor
        · rintro ⟨j, h1, h2, h3⟩; exact ⟨j, by omega, h2, h3⟩
        · rintro ⟨j, h1, h2, h3⟩
          refine ⟨j, ?_, h2, h3⟩
          rcases Nat.lt_or_ge i j with h4 | h4
          · omega
          · obtain rfl : j = i := by omega
            exact absurd h3 hc
    · rw [if_neg (by omega)]
      have : ¬ StandsFrom s.data.toList p.data.toList i := by
        rintro ⟨j, h1, h2, _⟩
        rw [← Lib.size_eq, ← Lib.size_eq] at h2
        omega
      simp [this]

theorem stands_infix (s p : List UInt8) : StandsFrom s p 0 ↔ p <:+: s := by
  constructor
  · rintro ⟨j, _, _, h3⟩
    refine ⟨s.take j, (s.drop j).drop p.length, ?_⟩
    have e : (s.drop j) = p ++ (s.drop j).drop p.length := by
      conv => lhs; rw [← List.take_append_drop p.length (s.drop j)]
      rw [h3]
    rw [List.append_assoc, ← e, List.take_append_drop]
  · rintro ⟨a, b, rfl⟩
    refine ⟨a.length, Nat.zero_le _, by simp, ?_⟩
    simp [List.append_assoc]

open Classical in
theorem in_tells (s p : ByteArray) (hs : s.size ≤ 1152921504606846976) (hp : p.size ≤ 1152921504606846976) (k : Nat) (hk : s.size + 1 < k) :
    decanterref11_in.f k s p = some (decide (p.data.toList <:+: s.data.toList)) := by
  have := in_loop s p hs hp (s.size + 1) k 0 (by omega) (by omega) hk
  rw [decanterref11_in.f]
  have e : (0 : Int) = ((0 : Nat) : Int) := rfl
  rw [e, this]
  congr 1
  rw [decide_eq_decide]
  exact stands_infix _ _

/-- Words with a blank behind each. -/
def joined (ws : List (List UInt8)) : List UInt8 := (ws.map (· ++ [32])).flatten
/-- Two words without blanks, each with a blank behind: one begins the other just if they are one. -/
theorem word_prefix {x w t : List UInt8} (hx : 32 ∉ x) (hw : 32 ∉ w) : x ++ [32] <+: w ++ 32 :: t ↔ x = w := by
  constructor
  · intro h
    induction x generalizing w with
    | nil =>
      cases w with
      | nil => rfl
      | cons c w =>
        obtain ⟨r, hr⟩ := h
        simp at hr
        exact absurd (by rw [hr.1]; simp) hw
    | cons c x ih =>
      cases w with
      | nil =>
        obtain ⟨r, hr⟩ := h
        simp at hr
        exact absurd (by rw [hr.1]; simp) hx
      | cons c' w =>
        obtain ⟨r, hr⟩ := h
        simp at hr
        obtain ⟨rfl, hr⟩ := hr
        have e := ih (w := w) (fun hm => hx (by simp [hm])) (fun hm => hw (by simp [hm])) ⟨r, by simpa using hr⟩
        rw [e]
  · rintro rfl
    exact ⟨t, by simp⟩

theorem infix_skip {p w t : List UInt8} (hw : 32 ∉ w) : (32 :: p) <:+: w ++ t ↔ (32 :: p) <:+: t := by
  induction w with
  | nil => rfl
  | cons c w ih =>
    rw [List.cons_append, List.infix_cons_iff, ih (fun h => hw (by simp [h]))]
    constructor
    · rintro (⟨r, hr⟩ | h)
      · simp at hr
        exact absurd (by rw [hr.1]; simp) hw
      · exact h
    · exact .inr

/-- A word with blanks around it stands in words with blanks around them, just if it is one of them. -/
theorem word_in {x : List UInt8} (hx : 32 ∉ x) : ∀ (ws : List (List UInt8)), (∀ w ∈ ws, 32 ∉ w) → ((32 :: (x ++ [32])) <:+: 32 :: joined ws ↔ x ∈ ws)
  | [], _ => by
    constructor
    · rintro ⟨a, b, h⟩
      have := congrArg List.length h
      simp [joined] at this
      omega
    · intro h; cases h
  | w :: ws, hw => by
    have ih := word_in hx ws (fun v hv => hw v (by simp [hv]))
    have e : joined (w :: ws) = w ++ 32 :: joined ws := by simp [joined]
    rw [List.infix_cons_iff, e, infix_skip (hw w (by simp)), ih, List.mem_cons]
    constructor
    · rintro (h | h)
      · exact .inl ((word_prefix hx (hw w (by simp))).1 ((List.prefix_cons_inj 32).1 h))
      · exact .inr h
    · rintro (h | h)
      · exact .inl ((List.prefix_cons_inj 32).2 ((word_prefix hx (hw w (by simp))).2 h))
      · exact .inr h
end Go.Proofs.YteahlapoeiikoaaDoor.Pure
