
import Derived.Test.YteahlapoeiikoaaDoorJoin11
import Derived.Test.YteahlapoeiikoaaDoorJoin19
import Derived.Test.YteahlapoeiikoaaDoorHAttrs
import Derived.Test.YteahlapoeiikoaaDoorHClip
import Derived.Test.YteahlapoeiikoaaDoorHWhole
import Derived.Test.YteahlapoeiikoaaDoorKindsC
-- Printed by a program of this session (wip/myprint.py over the kit's print).
namespace Go.Proofs.YteahlapoeiikoaaDoor.P
open Go.RowKit Go.Proofs.YteahlapoeiikoaaDoorW.PrintWords Go.Proofs.YteahlapoeiikoaaDoorW.PrintLast Go.Proofs.YteahlapoeiikoaaDoorW.PrintMore
attribute [local go_sem] max2_int min2_int max_two min_two max_three min_three max_four min_four   -- for this text's walks alone
set_option linter.unusedVariables false
set_option linter.unusedSimpArgs false

/-! ### fit_sound: function 61 -/
mutual
def fit_sound.l0 : Nat → List (S52) → List ByteArray → List (S52) → Int → Int → Option (Bool)
  | 0, _, _, _, _, _ => none
  | k + 1, x0, x1, x8, x9, x10 => if x10 < x9 then (if 0 ≤ x10 then (if x10 < (x8.length : Int) then (if ((rd_T52 x8 x10).f0).toList = ([] : List UInt8) then (if ((rd_T52 x8 x10).f2).toList = ([] : List UInt8) then (some false) else ((fit_whole.f ((rd_T52 x8 x10).f2)).bind fun t221 => (if t221 = true then (if (wrap64 ((((rd_T52 x8 x10).f1).length : Int) + (((rd_T52 x8 x10).f3).length : Int))) > 0 then (some false) else (if x10 > 0 then (if 0 ≤ (wrap64 (x10 - 1)) then (if (wrap64 (x10 - 1)) < (x0.length : Int) then (if ((rd_T52 x0 (wrap64 (x10 - 1))).f0).toList = ([] : List UInt8) then (some false) else (fit_sound.l0 k x0 x1 x8 x9 (wrap64 (x10 + 1)))) else (none)) else (none)) else (fit_sound.l0 k x0 x1 x8 x9 (wrap64 (x10 + 1))))) else (some false)))) else ((kind_Is.f ((rd_T52 x8 x10).f0) 512).bind fun t223 => (if t223 = true then (if ((rd_T52 x8 x10).f2).toList = ([] : List UInt8) then ((fit_In.f k x1 ((rd_T52 x8 x10).f0)).bind fun t224 => (if t224 = true then ((fit_attrs.f ((rd_T52 x8 x10).f1)).bind fun t225 => (fit_sound.j1 k x0 x1 ((((rd_T52 x8 x10).f3).length : Int) == 0) x8 x9 x10 (!t225) ((rd_T52 x8 x10).f0) ((rd_T52 x8 x10).f1) ((rd_T52 x8 x10).f2) ((rd_T52 x8 x10).f3))) else (fit_sound.j1 k x0 x1 ((((rd_T52 x8 x10).f3).length : Int) == 0) x8 x9 x10 true ((rd_T52 x8 x10).f0) ((rd_T52 x8 x10).f1) ((rd_T52 x8 x10).f2) ((rd_T52 x8 x10).f3)))) else (fit_sound.j1 k x0 x1 ((((rd_T52 x8 x10).f3).length : Int) == 0) x8 x9 x10 true ((rd_T52 x8 x10).f0) ((rd_T52 x8 x10).f1) ((rd_T52 x8 x10).f2) ((rd_T52 x8 x10).f3))) else (fit_sound.j1 k x0 x1 ((((rd_T52 x8 x10).f3).length : Int) == 0) x8 x9 x10 true ((rd_T52 x8 x10).f0) ((rd_T52 x8 x10).f1) ((rd_T52 x8 x10).f2) ((rd_T52 x8 x10).f3))))) else (none)) else (none)) else (some true)
def fit_sound.j1 : Nat → List (S52) → List ByteArray → Bool → List (S52) → Int → Int → Bool → ByteArray → List (S99) → ByteArray → List (S52) → Option (Bool)
  | 0, _, _, _, _, _, _, _, _, _, _, _ => none
  | k + 1, x0, x1, x7, x8, x9, x10, x54, x221000, x221001, x221002, x221003 => if x54 = true then (some false) else ((kind_Is.f x221000 1).bind fun t226 => (if t226 = true then (fit_sound.j2 k x0 x1 x8 x9 x10 (!x7) x221000 x221001 x221002 x221003) else (fit_sound.j2 k x0 x1 x8 x9 x10 false x221000 x221001 x221002 x221003)))
def fit_sound.j2 : Nat → List (S52) → List ByteArray → List (S52) → Int → Int → Bool → ByteArray → List (S99) → ByteArray → List (S52) → Option (Bool)
  | 0, _, _, _, _, _, _, _, _, _, _ => none
  | k + 1, x0, x1, x8, x9, x10, x77, x221000, x221001, x221002, x221003 => if x77 = true then (some false) else ((slices_Clip_string_string.f x1).bind fun t227 => ((some (([x221000] : List ByteArray) : List ByteArray)).bind fun y230 => (if t227.length + y230.length < 8796093022208 then ((fit_sound.f k x221003 (t227 ++ y230)).bind fun t236 => (if t236 = true then (fit_sound.l0 k x0 x1 x8 x9 (wrap64 (x10 + 1))) else (some false))) else (none))))
def fit_sound.f : Nat → List (S52) → List ByteArray → Option (Bool)
  | 0, _, _ => none
  | k + 1, l0, l1 => fit_sound.l0 k l0 l1 l0 (l0.length : Int) 0
end
def fit_sound.T12 : Bool × List (List Nat × List Nat) := (true, [([], []), ([0], [0]), ([], []), ([2], [2]), ([], []), ([4], [4]), ([5], [5]), ([3, 6, 3], [3, 6]), ([1, 7, 7], [1, 7]), ([8], [8]), ([9, 8], [9])])
def fit_sound.B12 : List Nat := [0, 1, 0, 4, 0, 16, 48, 124, 255, 511, 1023]
theorem fit_sound.tab12 : rtab .any (opsOf Tryd.f61 12) = fit_sound.T12 := by kernel_rfl
theorem fit_sound.bits12 : waitsOk fit_sound.T12.2 fit_sound.B12 = true := by kernel_rfl
set_option maxHeartbeats 8000000 in
set_option maxRecDepth 100000 in
theorem fit_sound.calls (k : Nat) : ∀ (A0 : Option Addr) (c0 : Nat) (l0 : List (S52)) (A1 : Option Addr) (c1 : Nat) (l1 : List ByteArray) (r : Bool) (w : World) (hr0 : Kd.C k52 w A0 l0.length l0) (hc0 : l0.length ≤ c0) (hr1 : Kd.C Kd.string w A1 l1.length l1) (hc1 : l1.length ≤ c1) (hG : GW w) (h : fit_sound.f k l0 l1 = some r),
    Calls Tryd.prog 61 #[.slice A0 l0.length c0, .slice A1 l1.length c1] w fun e w' => e = .returned (.bool r) ∧ Below w.heap.size w w' := by
  induction k using Nat.strongRecOn with
  | _ k ih =>
  intro A0 c0 l0 A1 c1 l1 r w hr0 hc0 hr1 hc1 hG h
  cases k with
  | zero => exact absurd h (by simp [fit_sound.f])
  | succ k =>
  simp only [fit_sound.f] at h
  have hu52 := Tryd.underlying52
  have HR0 := Aside0.mk hr0
  have HC0 := Aside0.mk hc0
  clear hr0 hc0
  have HR1 := Aside0.mk hr1
  have HC1 := Aside0.mk hc1
  clear hr1 hc1
  have HG := Aside0.mk hG
  clear hG
  have HB := Aside0.mk (Below.refl w.heap.size w)
  have H : (fit_sound.l0 k l0 l1 l0 (l0.length : Int) 0) = some r := h
  clear h
  have H' := Aside0.mk H
  clear H
  go_enter Tryd.func61, Tryd.ntmps61
  go_wp2
  go_loopg [10] k (fun kq v10 w' => ∃ (x10_1 : Int), v10 = .int .i64 x10_1 ∧ Aside0 (fit_sound.l0 kq l0 l1 l0 (l0.length : Int) x10_1 = some r) ∧ Aside0 (kq ≤ k) ∧ Aside0 (Below w.heap.size w w'))
  case atStart => exact ⟨(0), (by first | rfl | (simp; done) | (simp [*]; done) | (simp; generalize ByteArray.toList _ = l_; cases l_ <;> rfl)), H', ⟨Nat.le_refl _⟩, ⟨by repeat (first | (with_reducible first | exact HB.out | apply below_alloc | apply pw_below_drewN | apply below_drew1) | exact HB.out)⟩⟩
  case round =>
    clear H'
    try clear c1
    try clear p2
    obtain ⟨x10_1, rfl, HA, HK1, HB⟩ := hrel
    cases gk with
    | zero => exact absurd HA.out (by simp [fit_sound.l0])
    | succ k1 =>
      have H := HA.out
      clear HA
      simp only [fit_sound.l0] at H
      by_cases c3 : x10_1 < (l0.length : Int)
      · rw [if_pos c3] at H
        have c3b0 : decide (x10_1 < (l0.length : Int)) = true := decide_eq_true c3
        clear c3
        by_cases c4 : 0 ≤ x10_1
        · rw [if_pos c4] at H
          have c4b0 : decide (0 ≤ x10_1) = true := decide_eq_true c4
          clear c4
          by_cases c5 : x10_1 < (l0.length : Int)
          · rw [if_pos c5] at H
            have c5b0 : decide (x10_1 < (l0.length : Int)) = true := decide_eq_true c5
            clear c5
            by_cases c6 : ((rd_T52 l0 x10_1).f0).toList = ([] : List UInt8)
            · rw [if_pos c6] at H
              have c6b0 : (((rd_T52 l0 x10_1).f0).toList == ([] : List UInt8)) = true := beq_iff_eq.mpr c6
              have c6b1 : (((rd_T52 l0 x10_1).f0).toList != ([] : List UInt8)) = false := bne_eq_false_iff_eq.mpr c6
              clear c6
              by_cases c7 : ((rd_T52 l0 x10_1).f2).toList = ([] : List UInt8)
              · rw [if_pos c7] at H
                have c7b0 : (((rd_T52 l0 x10_1).f2).toList == ([] : List UInt8)) = true := beq_iff_eq.mpr c7
                have c7b1 : (((rd_T52 l0 x10_1).f2).toList != ([] : List UInt8)) = false := bne_eq_false_iff_eq.mpr c7
                clear c7
                obtain rfl := Option.some.inj H
                have p219 : 0 ≤ (x10_1 : Int) := of_decide_eq_true (by first | (with_reducible assumption) | assumption)
                have q219 : x10_1 < (l0.length : Int) := of_decide_eq_true (by first | (with_reducible assumption) | assumption)
                obtain ⟨ad219, A219_1, c219_1, A219_3, c219_3, e219, hx219_0, hx219_1, hx219_2, hx219_3, hl219_1, hi219_1, hl219_3, hi219_3⟩ := at_T52 HR0.out x10_1 p219 q219
                cases e219
                replace hx219_0 := (HB.out.cell (World.block_lt_of_cell? w _ hx219_0)).trans hx219_0
                replace hx219_1 := (HB.out.cell (World.block_lt_of_cell? w _ hx219_1)).trans hx219_1
                replace hx219_2 := (HB.out.cell (World.block_lt_of_cell? w _ hx219_2)).trans hx219_2
                replace hx219_3 := (HB.out.cell (World.block_lt_of_cell? w _ hx219_3)).trans hx219_3
                have HR219_1 := Aside0.mk hi219_1
                have HC219_1 := Aside0.mk hl219_1
                clear hi219_1 hl219_1
                have HR219_3 := Aside0.mk hi219_3
                have HC219_3 := Aside0.mk hl219_3
                clear hi219_3 hl219_3
                replace p219 := eq_true p219
                replace q219 := eq_true q219
                go_wp2_with (first | ((with_reducible refine gate_dst (N := 6) rfl ?_); (try (refine gate_guard (by rfl) ?_; dsimp only)); refine box_event ?hg (N := 6) ?hd (cs := #[.string (⟨#[]⟩ : ByteArray), .slice none 0 0, .string (⟨#[]⟩ : ByteArray), .slice none 0 0]) (t := 52) ?hr ?_; (case hd => rfl); (case hg => rfl); (case hr => first | (go_simp; done) | (go_simp; rfl)); intro gb220 hg w8 hbox hb; have n0_ := Aside0.mk (below_step (by repeat (first | (with_reducible first | exact HB.out | apply below_alloc | apply pw_below_drewN | apply below_drew1) | exact HB.out)) hb); have n1_ := Aside0.mk (hbox); have n2_ := Aside0.mk ((by rw [hg]; exact (below_size (by repeat (first | (with_reducible first | exact HB.out | apply below_alloc | apply pw_below_drewN | apply below_drew1) | exact HB.out))) : w.heap.size ≤ gb220)); have n3_ := Aside0.mk ((by rw [hg]; exact (below_size (by repeat (first | (with_reducible first | exact HB.out | apply below_alloc | apply pw_below_drewN | apply below_drew1) | exact HB.out))) : w.heap.size ≤ gb220)); clear HB; have HB := n0_; have BK220 := n1_; have GW220 := n2_; have GE220 := n3_; clear n0_ n1_ n2_ n3_; clear hb hbox hg; have hcz9_0 : w8.cell? ⟨gb220, 0, none⟩ = some (.string (⟨#[]⟩ : ByteArray)) := (blk_cell BK220.out 0).trans rfl; have hcz9_1 : w8.cell? ⟨gb220, 1, none⟩ = some (.slice none 0 0) := (blk_cell BK220.out 1).trans rfl; have hcz9_2 : w8.cell? ⟨gb220, 2, none⟩ = some (.string (⟨#[]⟩ : ByteArray)) := (blk_cell BK220.out 2).trans rfl; have hcz9_3 : w8.cell? ⟨gb220, 3, none⟩ = some (.slice none 0 0) := (blk_cell BK220.out 3).trans rfl; have hfz9_0 := blk_frozen BK220.out 0; have hfz9_1 := blk_frozen BK220.out 1; have hfz9_2 := blk_frozen BK220.out 2; have hfz9_3 := blk_frozen BK220.out 3))
                go_ret
                exact ⟨by first | rfl | (simp [errW_none, errW_some] <;> rfl) | (simp [*, errW_none, errW_some] <;> rfl), by repeat (first | (with_reducible first | exact HB.out | apply below_alloc | apply pw_below_drewN | apply below_drew1 | refine below_set ?_ GE220.out) | exact HB.out)⟩
              · rw [if_neg c7] at H
                have c7b0 : (((rd_T52 l0 x10_1).f2).toList == ([] : List UInt8)) = false := beq_eq_false_iff_ne.mpr c7
                have c7b1 : (((rd_T52 l0 x10_1).f2).toList != ([] : List UInt8)) = true := bne_iff_ne.mpr c7
                replace H := Option.bind_eq_some_iff.mp H
                obtain ⟨t221, A100, H⟩ := H
                replace H : (if t221 = true then (if (wrap64 ((((rd_T52 l0 x10_1).f1).length : Int) + (((rd_T52 l0 x10_1).f3).length : Int))) > 0 then (some false) else (if x10_1 > 0 then (if 0 ≤ (wrap64 (x10_1 - 1)) then (if (wrap64 (x10_1 - 1)) < (l0.length : Int) then (if ((rd_T52 l0 (wrap64 (x10_1 - 1))).f0).toList = ([] : List UInt8) then (some false) else (fit_sound.l0 k1 l0 l1 l0 (l0.length : Int) (wrap64 (x10_1 + 1)))) else (none)) else (none)) else (fit_sound.l0 k1 l0 l1 l0 (l0.length : Int) (wrap64 (x10_1 + 1))))) else (some false)) = some r := H
                have A10 := Aside0.mk A100
                clear A100
                by_cases c11 : t221 = true
                · subst c11
                  have H1 : (if (wrap64 ((((rd_T52 l0 x10_1).f1).length : Int) + (((rd_T52 l0 x10_1).f3).length : Int))) > 0 then (some false) else (if x10_1 > 0 then (if 0 ≤ (wrap64 (x10_1 - 1)) then (if (wrap64 (x10_1 - 1)) < (l0.length : Int) then (if ((rd_T52 l0 (wrap64 (x10_1 - 1))).f0).toList = ([] : List UInt8) then (some false) else (fit_sound.l0 k1 l0 l1 l0 (l0.length : Int) (wrap64 (x10_1 + 1)))) else (none)) else (none)) else (fit_sound.l0 k1 l0 l1 l0 (l0.length : Int) (wrap64 (x10_1 + 1))))) = some r := by rw [if_pos rfl] at H; exact H
                  clear H
                  have H := H1
                  clear H1
                  by_cases c12 : (wrap64 ((((rd_T52 l0 x10_1).f1).length : Int) + (((rd_T52 l0 x10_1).f3).length : Int))) > 0
                  · rw [if_pos c12] at H
                    have c12b0 : decide (0 < (wrap64 ((((rd_T52 l0 x10_1).f1).length : Int) + (((rd_T52 l0 x10_1).f3).length : Int)))) = true := decide_eq_true c12
                    clear c12
                    obtain rfl := Option.some.inj H
                    have p219 : 0 ≤ (x10_1 : Int) := of_decide_eq_true (by first | (with_reducible assumption) | assumption)
                    have q219 : x10_1 < (l0.length : Int) := of_decide_eq_true (by first | (with_reducible assumption) | assumption)
                    obtain ⟨ad219, A219_1, c219_1, A219_3, c219_3, e219, hx219_0, hx219_1, hx219_2, hx219_3, hl219_1, hi219_1, hl219_3, hi219_3⟩ := at_T52 HR0.out x10_1 p219 q219
                    cases e219
                    replace hx219_0 := (HB.out.cell (World.block_lt_of_cell? w _ hx219_0)).trans hx219_0
                    replace hx219_1 := (HB.out.cell (World.block_lt_of_cell? w _ hx219_1)).trans hx219_1
                    replace hx219_2 := (HB.out.cell (World.block_lt_of_cell? w _ hx219_2)).trans hx219_2
                    replace hx219_3 := (HB.out.cell (World.block_lt_of_cell? w _ hx219_3)).trans hx219_3
                    have HR219_1 := Aside0.mk hi219_1
                    have HC219_1 := Aside0.mk hl219_1
                    clear hi219_1 hl219_1
                    have HR219_3 := Aside0.mk hi219_3
                    have HC219_3 := Aside0.mk hl219_3
                    clear hi219_3 hl219_3
                    replace p219 := eq_true p219
                    replace q219 := eq_true q219
                    go_wp2_with (first | ((with_reducible refine gate_dst (N := 6) rfl ?_); (try (refine gate_guard (by rfl) ?_; dsimp only)); refine box_event ?hg (N := 6) ?hd (cs := #[.string (⟨#[]⟩ : ByteArray), .slice none 0 0, .string (⟨#[]⟩ : ByteArray), .slice none 0 0]) (t := 52) ?hr ?_; (case hd => rfl); (case hg => rfl); (case hr => first | (go_simp; done) | (go_simp; rfl)); intro gb220 hg w13 hbox hb; have n0_ := Aside0.mk (below_step (by repeat (first | (with_reducible first | exact HB.out | apply below_alloc | apply pw_below_drewN | apply below_drew1) | exact HB.out)) hb); have n1_ := Aside0.mk (hbox); have n2_ := Aside0.mk ((by rw [hg]; exact (below_size (by repeat (first | (with_reducible first | exact HB.out | apply below_alloc | apply pw_below_drewN | apply below_drew1) | exact HB.out))) : w.heap.size ≤ gb220)); have n3_ := Aside0.mk ((by rw [hg]; exact (below_size (by repeat (first | (with_reducible first | exact HB.out | apply below_alloc | apply pw_below_drewN | apply below_drew1) | exact HB.out))) : w.heap.size ≤ gb220)); clear HB; have HB := n0_; have BK220 := n1_; have GW220 := n2_; have GE220 := n3_; clear n0_ n1_ n2_ n3_; clear hb hbox hg; have hcz14_0 : w13.cell? ⟨gb220, 0, none⟩ = some (.string (⟨#[]⟩ : ByteArray)) := (blk_cell BK220.out 0).trans rfl; have hcz14_1 : w13.cell? ⟨gb220, 1, none⟩ = some (.slice none 0 0) := (blk_cell BK220.out 1).trans rfl; have hcz14_2 : w13.cell? ⟨gb220, 2, none⟩ = some (.string (⟨#[]⟩ : ByteArray)) := (blk_cell BK220.out 2).trans rfl; have hcz14_3 : w13.cell? ⟨gb220, 3, none⟩ = some (.slice none 0 0) := (blk_cell BK220.out 3).trans rfl; have hfz14_0 := blk_frozen BK220.out 0; have hfz14_1 := blk_frozen BK220.out 1; have hfz14_2 := blk_frozen BK220.out 2; have hfz14_3 := blk_frozen BK220.out 3) | (go_at_call 78; (with_reducible refine (fit_whole.calls ((rd_T52 l0 x10_1).f2) true _ ?side1 A10.out).mono ?_); (case side1 => exact GW.below HG.out (by repeat (first | (with_reducible first | exact HB.out | apply below_alloc | apply pw_below_drewN | apply below_drew1 | refine below_set ?_ GE220.out) | exact HB.out))); rintro e w15 ⟨rfl, hb⟩; have n0_ := Aside0.mk (blk_below (g := gb220) (o := .cells #[.string ((rd_T52 l0 x10_1).f0), .slice A219_1 ((rd_T52 l0 x10_1).f1).length c219_1, .string ((rd_T52 l0 x10_1).f2), .slice A219_3 ((rd_T52 l0 x10_1).f3).length c219_3] 52 (0, 0)) (by (with_reducible repeat (first | refine blk_drewN ?_ _ | refine blk_drew ?_ | refine blk_alloc ?_ _)); refine blk_put (cs := #[.string ((rd_T52 l0 x10_1).f0), .slice A219_1 ((rd_T52 l0 x10_1).f1).length c219_1, .string ((rd_T52 l0 x10_1).f2), .slice none 0 0]) ?_ 3 _ rfl; (with_reducible repeat (first | refine blk_drewN ?_ _ | refine blk_drew ?_ | refine blk_alloc ?_ _)); refine blk_put (cs := #[.string ((rd_T52 l0 x10_1).f0), .slice A219_1 ((rd_T52 l0 x10_1).f1).length c219_1, .string (⟨#[]⟩ : ByteArray), .slice none 0 0]) ?_ 2 _ rfl; (with_reducible repeat (first | refine blk_drewN ?_ _ | refine blk_drew ?_ | refine blk_alloc ?_ _)); refine blk_put (cs := #[.string ((rd_T52 l0 x10_1).f0), .slice none 0 0, .string (⟨#[]⟩ : ByteArray), .slice none 0 0]) ?_ 1 _ rfl; (with_reducible repeat (first | refine blk_drewN ?_ _ | refine blk_drew ?_ | refine blk_alloc ?_ _)); refine blk_put (cs := #[.string (⟨#[]⟩ : ByteArray), .slice none 0 0, .string (⟨#[]⟩ : ByteArray), .slice none 0 0]) ?_ 0 _ rfl; (with_reducible repeat (first | refine blk_drewN ?_ _ | refine blk_drew ?_ | refine blk_alloc ?_ _)); exact BK220.out) hb); have n1_ := Aside0.mk (below_step (by repeat (first | (with_reducible first | exact HB.out | apply below_alloc | apply pw_below_drewN | apply below_drew1 | refine below_set ?_ GE220.out) | exact HB.out)) hb); clear BK220; clear HB; have BK220 := n0_; have HB := n1_; clear n0_ n1_; (try clear hb); (try clear hb2); (try clear hk); (try clear hi); have hcz16_0 : w15.cell? ⟨gb220, 0, none⟩ = some (.string ((rd_T52 l0 x10_1).f0)) := (blk_cell BK220.out 0).trans rfl; have hcz16_1 : w15.cell? ⟨gb220, 1, none⟩ = some (.slice A219_1 ((rd_T52 l0 x10_1).f1).length c219_1) := (blk_cell BK220.out 1).trans rfl; have hcz16_2 : w15.cell? ⟨gb220, 2, none⟩ = some (.string ((rd_T52 l0 x10_1).f2)) := (blk_cell BK220.out 2).trans rfl; have hcz16_3 : w15.cell? ⟨gb220, 3, none⟩ = some (.slice A219_3 ((rd_T52 l0 x10_1).f3).length c219_3) := (blk_cell BK220.out 3).trans rfl; have hfz16_0 := blk_frozen BK220.out 0; have hfz16_1 := blk_frozen BK220.out 1; have hfz16_2 := blk_frozen BK220.out 2; have hfz16_3 := blk_frozen BK220.out 3))
                    go_ret
                    exact ⟨by first | rfl | (simp [errW_none, errW_some] <;> rfl) | (simp [*, errW_none, errW_some] <;> rfl), by repeat (first | (with_reducible first | exact HB.out | apply below_alloc | apply pw_below_drewN | apply below_drew1 | refine below_set ?_ GE220.out) | exact HB.out)⟩
                  · rw [if_neg c12] at H
                    have c12b0 : decide (0 < (wrap64 ((((rd_T52 l0 x10_1).f1).length : Int) + (((rd_T52 l0 x10_1).f3).length : Int)))) = false := decide_eq_false c12
                    clear c12
                    by_cases c17 : x10_1 > 0
                    · rw [if_pos c17] at H
                      have c17b0 : decide (0 < x10_1) = true := decide_eq_true c17
                      clear c17
                      obtain ⟨ji18, hji18⟩ : ∃ j_ : Int, (wrap64 (x10_1 - 1)) = j_ := ⟨_, rfl⟩
                      replace H : (if 0 ≤ (ji18) then (if (ji18) < (l0.length : Int) then (if ((rd_T52 l0 (ji18)).f0).toList = ([] : List UInt8) then (some false) else (fit_sound.l0 k1 l0 l1 l0 (l0.length : Int) (wrap64 (x10_1 + 1)))) else (none)) else (none)) = some r := by first | (rw [hji18] at H; exact H) | (simp only [hji18] at H ⊢; exact H)
                      (try rw [hji18] at A10)
                      have hji18w : (IntKind.i64.wrap (x10_1 - 1)) = ji18 := (i64_w _).trans hji18
                      by_cases c19 : 0 ≤ (ji18)
                      · rw [if_pos c19] at H
                        have c19b0 : decide (0 ≤ (ji18)) = true := decide_eq_true c19
                        clear c19
                        by_cases c20 : (ji18) < (l0.length : Int)
                        · rw [if_pos c20] at H
                          have c20b0 : decide ((ji18) < (l0.length : Int)) = true := decide_eq_true c20
                          clear c20
                          by_cases c21 : ((rd_T52 l0 (ji18)).f0).toList = ([] : List UInt8)
                          · rw [if_pos c21] at H
                            have c21b0 : (((rd_T52 l0 (ji18)).f0).toList == ([] : List UInt8)) = true := beq_iff_eq.mpr c21
                            have c21b1 : (((rd_T52 l0 (ji18)).f0).toList != ([] : List UInt8)) = false := bne_eq_false_iff_eq.mpr c21
                            clear c21
                            obtain rfl := Option.some.inj H
                            have p219 : 0 ≤ (x10_1 : Int) := of_decide_eq_true (by first | (with_reducible assumption) | assumption)
                            have q219 : x10_1 < (l0.length : Int) := of_decide_eq_true (by first | (with_reducible assumption) | assumption)
                            obtain ⟨ad219, A219_1, c219_1, A219_3, c219_3, e219, hx219_0, hx219_1, hx219_2, hx219_3, hl219_1, hi219_1, hl219_3, hi219_3⟩ := at_T52 HR0.out x10_1 p219 q219
                            cases e219
                            replace hx219_0 := (HB.out.cell (World.block_lt_of_cell? w _ hx219_0)).trans hx219_0
                            replace hx219_1 := (HB.out.cell (World.block_lt_of_cell? w _ hx219_1)).trans hx219_1
                            replace hx219_2 := (HB.out.cell (World.block_lt_of_cell? w _ hx219_2)).trans hx219_2
                            replace hx219_3 := (HB.out.cell (World.block_lt_of_cell? w _ hx219_3)).trans hx219_3
                            have HR219_1 := Aside0.mk hi219_1
                            have HC219_1 := Aside0.mk hl219_1
                            clear hi219_1 hl219_1
                            have HR219_3 := Aside0.mk hi219_3
                            have HC219_3 := Aside0.mk hl219_3
                            clear hi219_3 hl219_3
                            replace p219 := eq_true p219
                            replace q219 := eq_true q219
                            go_wp2_with (first | ((with_reducible refine gate_dst (N := 6) rfl ?_); (try (refine gate_guard (by rfl) ?_; dsimp only)); refine box_event ?hg (N := 6) ?hd (cs := #[.string (⟨#[]⟩ : ByteArray), .slice none 0 0, .string (⟨#[]⟩ : ByteArray), .slice none 0 0]) (t := 52) ?hr ?_; (case hd => rfl); (case hg => rfl); (case hr => first | (go_simp; done) | (go_simp; rfl)); intro gb220 hg w22 hbox hb; have n0_ := Aside0.mk (below_step (by repeat (first | (with_reducible first | exact HB.out | apply below_alloc | apply pw_below_drewN | apply below_drew1) | exact HB.out)) hb); have n1_ := Aside0.mk (hbox); have n2_ := Aside0.mk ((by rw [hg]; exact (below_size (by repeat (first | (with_reducible first | exact HB.out | apply below_alloc | apply pw_below_drewN | apply below_drew1) | exact HB.out))) : w.heap.size ≤ gb220)); have n3_ := Aside0.mk ((by rw [hg]; exact (below_size (by repeat (first | (with_reducible first | exact HB.out | apply below_alloc | apply pw_below_drewN | apply below_drew1) | exact HB.out))) : w.heap.size ≤ gb220)); clear HB; have HB := n0_; have BK220 := n1_; have GW220 := n2_; have GE220 := n3_; clear n0_ n1_ n2_ n3_; clear hb hbox hg; have hcz23_0 : w22.cell? ⟨gb220, 0, none⟩ = some (.string (⟨#[]⟩ : ByteArray)) := (blk_cell BK220.out 0).trans rfl; have hcz23_1 : w22.cell? ⟨gb220, 1, none⟩ = some (.slice none 0 0) := (blk_cell BK220.out 1).trans rfl; have hcz23_2 : w22.cell? ⟨gb220, 2, none⟩ = some (.string (⟨#[]⟩ : ByteArray)) := (blk_cell BK220.out 2).trans rfl; have hcz23_3 : w22.cell? ⟨gb220, 3, none⟩ = some (.slice none 0 0) := (blk_cell BK220.out 3).trans rfl; have hfz23_0 := blk_frozen BK220.out 0; have hfz23_1 := blk_frozen BK220.out 1; have hfz23_2 := blk_frozen BK220.out 2; have hfz23_3 := blk_frozen BK220.out 3) | (go_at_call 78; (with_reducible refine (fit_whole.calls ((rd_T52 l0 x10_1).f2) true _ ?side1 A10.out).mono ?_); (case side1 => exact GW.below HG.out (by repeat (first | (with_reducible first | exact HB.out | apply below_alloc | apply pw_below_drewN | apply below_drew1 | refine below_set ?_ GE220.out) | exact HB.out))); rintro e w24 ⟨rfl, hb⟩; have n0_ := Aside0.mk (blk_below (g := gb220) (o := .cells #[.string ((rd_T52 l0 x10_1).f0), .slice A219_1 ((rd_T52 l0 x10_1).f1).length c219_1, .string ((rd_T52 l0 x10_1).f2), .slice A219_3 ((rd_T52 l0 x10_1).f3).length c219_3] 52 (0, 0)) (by (with_reducible repeat (first | refine blk_drewN ?_ _ | refine blk_drew ?_ | refine blk_alloc ?_ _)); refine blk_put (cs := #[.string ((rd_T52 l0 x10_1).f0), .slice A219_1 ((rd_T52 l0 x10_1).f1).length c219_1, .string ((rd_T52 l0 x10_1).f2), .slice none 0 0]) ?_ 3 _ rfl; (with_reducible repeat (first | refine blk_drewN ?_ _ | refine blk_drew ?_ | refine blk_alloc ?_ _)); refine blk_put (cs := #[.string ((rd_T52 l0 x10_1).f0), .slice A219_1 ((rd_T52 l0 x10_1).f1).length c219_1, .string (⟨#[]⟩ : ByteArray), .slice none 0 0]) ?_ 2 _ rfl; (with_reducible repeat (first | refine blk_drewN ?_ _ | refine blk_drew ?_ | refine blk_alloc ?_ _)); refine blk_put (cs := #[.string ((rd_T52 l0 x10_1).f0), .slice none 0 0, .string (⟨#[]⟩ : ByteArray), .slice none 0 0]) ?_ 1 _ rfl; (with_reducible repeat (first | refine blk_drewN ?_ _ | refine blk_drew ?_ | refine blk_alloc ?_ _)); refine blk_put (cs := #[.string (⟨#[]⟩ : ByteArray), .slice none 0 0, .string (⟨#[]⟩ : ByteArray), .slice none 0 0]) ?_ 0 _ rfl; (with_reducible repeat (first | refine blk_drewN ?_ _ | refine blk_drew ?_ | refine blk_alloc ?_ _)); exact BK220.out) hb); have n1_ := Aside0.mk (below_step (by repeat (first | (with_reducible first | exact HB.out | apply below_alloc | apply pw_below_drewN | apply below_drew1 | refine below_set ?_ GE220.out) | exact HB.out)) hb); clear BK220; clear HB; have BK220 := n0_; have HB := n1_; clear n0_ n1_; (try clear hb); (try clear hb2); (try clear hk); (try clear hi); have hcz25_0 : w24.cell? ⟨gb220, 0, none⟩ = some (.string ((rd_T52 l0 x10_1).f0)) := (blk_cell BK220.out 0).trans rfl; have hcz25_1 : w24.cell? ⟨gb220, 1, none⟩ = some (.slice A219_1 ((rd_T52 l0 x10_1).f1).length c219_1) := (blk_cell BK220.out 1).trans rfl; have hcz25_2 : w24.cell? ⟨gb220, 2, none⟩ = some (.string ((rd_T52 l0 x10_1).f2)) := (blk_cell BK220.out 2).trans rfl; have hcz25_3 : w24.cell? ⟨gb220, 3, none⟩ = some (.slice A219_3 ((rd_T52 l0 x10_1).f3).length c219_3) := (blk_cell BK220.out 3).trans rfl; have hfz25_0 := blk_frozen BK220.out 0; have hfz25_1 := blk_frozen BK220.out 1; have hfz25_2 := blk_frozen BK220.out 2; have hfz25_3 := blk_frozen BK220.out 3; have p222 : 0 ≤ ((ji18) : Int) := of_decide_eq_true (by first | (with_reducible assumption) | assumption); have q222 : (ji18) < (l0.length : Int) := of_decide_eq_true (by first | (with_reducible assumption) | assumption); obtain ⟨ad222, A222_1, c222_1, A222_3, c222_3, e222, hx222_0, hx222_1, hx222_2, hx222_3, hl222_1, hi222_1, hl222_3, hi222_3⟩ := at_T52 HR0.out (ji18) p222 q222; obtain rfl : ad219 = ad222 := (by injection e222); replace hx222_0 := (HB.out.cell (World.block_lt_of_cell? w _ hx222_0)).trans hx222_0; replace hx222_1 := (HB.out.cell (World.block_lt_of_cell? w _ hx222_1)).trans hx222_1; replace hx222_2 := (HB.out.cell (World.block_lt_of_cell? w _ hx222_2)).trans hx222_2; replace hx222_3 := (HB.out.cell (World.block_lt_of_cell? w _ hx222_3)).trans hx222_3; have HR222_1 := Aside0.mk hi222_1; have HC222_1 := Aside0.mk hl222_1; clear hi222_1 hl222_1; have HR222_3 := Aside0.mk hi222_3; have HC222_3 := Aside0.mk hl222_3; clear hi222_3 hl222_3; replace p222 := eq_true p222; replace q222 := eq_true q222))
                            go_ret
                            exact ⟨by first | rfl | (simp [errW_none, errW_some] <;> rfl) | (simp only [← hji18]; first | rfl | (simp [errW_none, errW_some] <;> rfl)) | (simp [*, errW_none, errW_some] <;> rfl), by repeat (first | (with_reducible first | exact HB.out | apply below_alloc | apply pw_below_drewN | apply below_drew1 | refine below_set ?_ GE220.out) | exact HB.out)⟩
                          · rw [if_neg c21] at H
                            have c21b0 : (((rd_T52 l0 (ji18)).f0).toList == ([] : List UInt8)) = false := beq_eq_false_iff_ne.mpr c21
                            have c21b1 : (((rd_T52 l0 (ji18)).f0).toList != ([] : List UInt8)) = true := bne_iff_ne.mpr c21
                            have H' := Aside0.mk H
                            clear H
                            have p219 : 0 ≤ (x10_1 : Int) := of_decide_eq_true (by first | (with_reducible assumption) | assumption)
                            have q219 : x10_1 < (l0.length : Int) := of_decide_eq_true (by first | (with_reducible assumption) | assumption)
                            obtain ⟨ad219, A219_1, c219_1, A219_3, c219_3, e219, hx219_0, hx219_1, hx219_2, hx219_3, hl219_1, hi219_1, hl219_3, hi219_3⟩ := at_T52 HR0.out x10_1 p219 q219
                            cases e219
                            replace hx219_0 := (HB.out.cell (World.block_lt_of_cell? w _ hx219_0)).trans hx219_0
                            replace hx219_1 := (HB.out.cell (World.block_lt_of_cell? w _ hx219_1)).trans hx219_1
                            replace hx219_2 := (HB.out.cell (World.block_lt_of_cell? w _ hx219_2)).trans hx219_2
                            replace hx219_3 := (HB.out.cell (World.block_lt_of_cell? w _ hx219_3)).trans hx219_3
                            have HR219_1 := Aside0.mk hi219_1
                            have HC219_1 := Aside0.mk hl219_1
                            clear hi219_1 hl219_1
                            have HR219_3 := Aside0.mk hi219_3
                            have HC219_3 := Aside0.mk hl219_3
                            clear hi219_3 hl219_3
                            replace p219 := eq_true p219
                            replace q219 := eq_true q219
                            go_wp2_with (first | ((with_reducible refine gate_dst (N := 6) rfl ?_); (try (refine gate_guard (by rfl) ?_; dsimp only)); refine box_event ?hg (N := 6) ?hd (cs := #[.string (⟨#[]⟩ : ByteArray), .slice none 0 0, .string (⟨#[]⟩ : ByteArray), .slice none 0 0]) (t := 52) ?hr ?_; (case hd => rfl); (case hg => rfl); (case hr => first | (go_simp; done) | (go_simp; rfl)); intro gb220 hg w26 hbox hb; have n0_ := Aside0.mk (below_step (by repeat (first | (with_reducible first | exact HB.out | apply below_alloc | apply pw_below_drewN | apply below_drew1) | exact HB.out)) hb); have n1_ := Aside0.mk (hbox); have n2_ := Aside0.mk ((by rw [hg]; exact (below_size (by repeat (first | (with_reducible first | exact HB.out | apply below_alloc | apply pw_below_drewN | apply below_drew1) | exact HB.out))) : w.heap.size ≤ gb220)); have n3_ := Aside0.mk ((by rw [hg]; exact (below_size (by repeat (first | (with_reducible first | exact HB.out | apply below_alloc | apply pw_below_drewN | apply below_drew1) | exact HB.out))) : w.heap.size ≤ gb220)); clear HB; have HB := n0_; have BK220 := n1_; have GW220 := n2_; have GE220 := n3_; clear n0_ n1_ n2_ n3_; clear hb hbox hg; have hcz27_0 : w26.cell? ⟨gb220, 0, none⟩ = some (.string (⟨#[]⟩ : ByteArray)) := (blk_cell BK220.out 0).trans rfl; have hcz27_1 : w26.cell? ⟨gb220, 1, none⟩ = some (.slice none 0 0) := (blk_cell BK220.out 1).trans rfl; have hcz27_2 : w26.cell? ⟨gb220, 2, none⟩ = some (.string (⟨#[]⟩ : ByteArray)) := (blk_cell BK220.out 2).trans rfl; have hcz27_3 : w26.cell? ⟨gb220, 3, none⟩ = some (.slice none 0 0) := (blk_cell BK220.out 3).trans rfl; have hfz27_0 := blk_frozen BK220.out 0; have hfz27_1 := blk_frozen BK220.out 1; have hfz27_2 := blk_frozen BK220.out 2; have hfz27_3 := blk_frozen BK220.out 3) | (go_at_call 78; (with_reducible refine (fit_whole.calls ((rd_T52 l0 x10_1).f2) true _ ?side1 A10.out).mono ?_); (case side1 => exact GW.below HG.out (by repeat (first | (with_reducible first | exact HB.out | apply below_alloc | apply pw_below_drewN | apply below_drew1 | refine below_set ?_ GE220.out) | exact HB.out))); rintro e w28 ⟨rfl, hb⟩; have n0_ := Aside0.mk (blk_below (g := gb220) (o := .cells #[.string ((rd_T52 l0 x10_1).f0), .slice A219_1 ((rd_T52 l0 x10_1).f1).length c219_1, .string ((rd_T52 l0 x10_1).f2), .slice A219_3 ((rd_T52 l0 x10_1).f3).length c219_3] 52 (0, 0)) (by (with_reducible repeat (first | refine blk_drewN ?_ _ | refine blk_drew ?_ | refine blk_alloc ?_ _)); refine blk_put (cs := #[.string ((rd_T52 l0 x10_1).f0), .slice A219_1 ((rd_T52 l0 x10_1).f1).length c219_1, .string ((rd_T52 l0 x10_1).f2), .slice none 0 0]) ?_ 3 _ rfl; (with_reducible repeat (first | refine blk_drewN ?_ _ | refine blk_drew ?_ | refine blk_alloc ?_ _)); refine blk_put (cs := #[.string ((rd_T52 l0 x10_1).f0), .slice A219_1 ((rd_T52 l0 x10_1).f1).length c219_1, .string (⟨#[]⟩ : ByteArray), .slice none 0 0]) ?_ 2 _ rfl; (with_reducible repeat (first | refine blk_drewN ?_ _ | refine blk_drew ?_ | refine blk_alloc ?_ _)); refine blk_put (cs := #[.string ((rd_T52 l0 x10_1).f0), .slice none 0 0, .string (⟨#[]⟩ : ByteArray), .slice none 0 0]) ?_ 1 _ rfl; (with_reducible repeat (first | refine blk_drewN ?_ _ | refine blk_drew ?_ | refine blk_alloc ?_ _)); refine blk_put (cs := #[.string (⟨#[]⟩ : ByteArray), .slice none 0 0, .string (⟨#[]⟩ : ByteArray), .slice none 0 0]) ?_ 0 _ rfl; (with_reducible repeat (first | refine blk_drewN ?_ _ | refine blk_drew ?_ | refine blk_alloc ?_ _)); exact BK220.out) hb); have n1_ := Aside0.mk (below_step (by repeat (first | (with_reducible first | exact HB.out | apply below_alloc | apply pw_below_drewN | apply below_drew1 | refine below_set ?_ GE220.out) | exact HB.out)) hb); clear BK220; clear HB; have BK220 := n0_; have HB := n1_; clear n0_ n1_; (try clear hb); (try clear hb2); (try clear hk); (try clear hi); have hcz29_0 : w28.cell? ⟨gb220, 0, none⟩ = some (.string ((rd_T52 l0 x10_1).f0)) := (blk_cell BK220.out 0).trans rfl; have hcz29_1 : w28.cell? ⟨gb220, 1, none⟩ = some (.slice A219_1 ((rd_T52 l0 x10_1).f1).length c219_1) := (blk_cell BK220.out 1).trans rfl; have hcz29_2 : w28.cell? ⟨gb220, 2, none⟩ = some (.string ((rd_T52 l0 x10_1).f2)) := (blk_cell BK220.out 2).trans rfl; have hcz29_3 : w28.cell? ⟨gb220, 3, none⟩ = some (.slice A219_3 ((rd_T52 l0 x10_1).f3).length c219_3) := (blk_cell BK220.out 3).trans rfl; have hfz29_0 := blk_frozen BK220.out 0; have hfz29_1 := blk_frozen BK220.out 1; have hfz29_2 := blk_frozen BK220.out 2; have hfz29_3 := blk_frozen BK220.out 3; have p222 : 0 ≤ ((ji18) : Int) := of_decide_eq_true (by first | (with_reducible assumption) | assumption); have q222 : (ji18) < (l0.length : Int) := of_decide_eq_true (by first | (with_reducible assumption) | assumption); obtain ⟨ad222, A222_1, c222_1, A222_3, c222_3, e222, hx222_0, hx222_1, hx222_2, hx222_3, hl222_1, hi222_1, hl222_3, hi222_3⟩ := at_T52 HR0.out (ji18) p222 q222; obtain rfl : ad219 = ad222 := (by injection e222); replace hx222_0 := (HB.out.cell (World.block_lt_of_cell? w _ hx222_0)).trans hx222_0; replace hx222_1 := (HB.out.cell (World.block_lt_of_cell? w _ hx222_1)).trans hx222_1; replace hx222_2 := (HB.out.cell (World.block_lt_of_cell? w _ hx222_2)).trans hx222_2; replace hx222_3 := (HB.out.cell (World.block_lt_of_cell? w _ hx222_3)).trans hx222_3; have HR222_1 := Aside0.mk hi222_1; have HC222_1 := Aside0.mk hl222_1; clear hi222_1 hl222_1; have HR222_3 := Aside0.mk hi222_3; have HC222_3 := Aside0.mk hl222_3; clear hi222_3 hl222_3; replace p222 := eq_true p222; replace q222 := eq_true q222))
                            go_roundg k1
                            case measure => have := HK1.out; omega
                            case rel => exact ⟨(wrap64 (x10_1 + 1)), (by first | rfl | (simp; done) | (simp [*]; done)), H', ⟨by have := HK1.out; omega⟩, ⟨by repeat (first | (with_reducible first | exact HB.out | apply below_alloc | apply pw_below_drewN | apply below_drew1 | refine below_set ?_ GE220.out) | exact HB.out)⟩⟩
                        · rw [if_neg c20] at H
                          exact absurd H (by simp)
                      · rw [if_neg c19] at H
                        exact absurd H (by simp)
                    · rw [if_neg c17] at H
                      have c17b0 : decide (0 < x10_1) = false := decide_eq_false c17
                      clear c17
                      have H' := Aside0.mk H
                      clear H
                      have p219 : 0 ≤ (x10_1 : Int) := of_decide_eq_true (by first | (with_reducible assumption) | assumption)
                      have q219 : x10_1 < (l0.length : Int) := of_decide_eq_true (by first | (with_reducible assumption) | assumption)
                      obtain ⟨ad219, A219_1, c219_1, A219_3, c219_3, e219, hx219_0, hx219_1, hx219_2, hx219_3, hl219_1, hi219_1, hl219_3, hi219_3⟩ := at_T52 HR0.out x10_1 p219 q219
                      cases e219
                      replace hx219_0 := (HB.out.cell (World.block_lt_of_cell? w _ hx219_0)).trans hx219_0
                      replace hx219_1 := (HB.out.cell (World.block_lt_of_cell? w _ hx219_1)).trans hx219_1
                      replace hx219_2 := (HB.out.cell (World.block_lt_of_cell? w _ hx219_2)).trans hx219_2
                      replace hx219_3 := (HB.out.cell (World.block_lt_of_cell? w _ hx219_3)).trans hx219_3
                      have HR219_1 := Aside0.mk hi219_1
                      have HC219_1 := Aside0.mk hl219_1
                      clear hi219_1 hl219_1
                      have HR219_3 := Aside0.mk hi219_3
                      have HC219_3 := Aside0.mk hl219_3
                      clear hi219_3 hl219_3
                      replace p219 := eq_true p219
                      replace q219 := eq_true q219
                      go_wp2_with (first | ((with_reducible refine gate_dst (N := 6) rfl ?_); (try (refine gate_guard (by rfl) ?_; dsimp only)); refine box_event ?hg (N := 6) ?hd (cs := #[.string (⟨#[]⟩ : ByteArray), .slice none 0 0, .string (⟨#[]⟩ : ByteArray), .slice none 0 0]) (t := 52) ?hr ?_; (case hd => rfl); (case hg => rfl); (case hr => first | (go_simp; done) | (go_simp; rfl)); intro gb220 hg w30 hbox hb; have n0_ := Aside0.mk (below_step (by repeat (first | (with_reducible first | exact HB.out | apply below_alloc | apply pw_below_drewN | apply below_drew1) | exact HB.out)) hb); have n1_ := Aside0.mk (hbox); have n2_ := Aside0.mk ((by rw [hg]; exact (below_size (by repeat (first | (with_reducible first | exact HB.out | apply below_alloc | apply pw_below_drewN | apply below_drew1) | exact HB.out))) : w.heap.size ≤ gb220)); have n3_ := Aside0.mk ((by rw [hg]; exact (below_size (by repeat (first | (with_reducible first | exact HB.out | apply below_alloc | apply pw_below_drewN | apply below_drew1) | exact HB.out))) : w.heap.size ≤ gb220)); clear HB; have HB := n0_; have BK220 := n1_; have GW220 := n2_; have GE220 := n3_; clear n0_ n1_ n2_ n3_; clear hb hbox hg; have hcz31_0 : w30.cell? ⟨gb220, 0, none⟩ = some (.string (⟨#[]⟩ : ByteArray)) := (blk_cell BK220.out 0).trans rfl; have hcz31_1 : w30.cell? ⟨gb220, 1, none⟩ = some (.slice none 0 0) := (blk_cell BK220.out 1).trans rfl; have hcz31_2 : w30.cell? ⟨gb220, 2, none⟩ = some (.string (⟨#[]⟩ : ByteArray)) := (blk_cell BK220.out 2).trans rfl; have hcz31_3 : w30.cell? ⟨gb220, 3, none⟩ = some (.slice none 0 0) := (blk_cell BK220.out 3).trans rfl; have hfz31_0 := blk_frozen BK220.out 0; have hfz31_1 := blk_frozen BK220.out 1; have hfz31_2 := blk_frozen BK220.out 2; have hfz31_3 := blk_frozen BK220.out 3) | (go_at_call 78; (with_reducible refine (fit_whole.calls ((rd_T52 l0 x10_1).f2) true _ ?side1 A10.out).mono ?_); (case side1 => exact GW.below HG.out (by repeat (first | (with_reducible first | exact HB.out | apply below_alloc | apply pw_below_drewN | apply below_drew1 | refine below_set ?_ GE220.out) | exact HB.out))); rintro e w32 ⟨rfl, hb⟩; have n0_ := Aside0.mk (blk_below (g := gb220) (o := .cells #[.string ((rd_T52 l0 x10_1).f0), .slice A219_1 ((rd_T52 l0 x10_1).f1).length c219_1, .string ((rd_T52 l0 x10_1).f2), .slice A219_3 ((rd_T52 l0 x10_1).f3).length c219_3] 52 (0, 0)) (by (with_reducible repeat (first | refine blk_drewN ?_ _ | refine blk_drew ?_ | refine blk_alloc ?_ _)); refine blk_put (cs := #[.string ((rd_T52 l0 x10_1).f0), .slice A219_1 ((rd_T52 l0 x10_1).f1).length c219_1, .string ((rd_T52 l0 x10_1).f2), .slice none 0 0]) ?_ 3 _ rfl; (with_reducible repeat (first | refine blk_drewN ?_ _ | refine blk_drew ?_ | refine blk_alloc ?_ _)); refine blk_put (cs := #[.string ((rd_T52 l0 x10_1).f0), .slice A219_1 ((rd_T52 l0 x10_1).f1).length c219_1, .string (⟨#[]⟩ : ByteArray), .slice none 0 0]) ?_ 2 _ rfl; (with_reducible repeat (first | refine blk_drewN ?_ _ | refine blk_drew ?_ | refine blk_alloc ?_ _)); refine blk_put (cs := #[.string ((rd_T52 l0 x10_1).f0), .slice none 0 0, .string (⟨#[]⟩ : ByteArray), .slice none 0 0]) ?_ 1 _ rfl; (with_reducible repeat (first | refine blk_drewN ?_ _ | refine blk_drew ?_ | refine blk_alloc ?_ _)); refine blk_put (cs := #[.string (⟨#[]⟩ : ByteArray), .slice none 0 0, .string (⟨#[]⟩ : ByteArray), .slice none 0 0]) ?_ 0 _ rfl; (with_reducible repeat (first | refine blk_drewN ?_ _ | refine blk_drew ?_ | refine blk_alloc ?_ _)); exact BK220.out) hb); have n1_ := Aside0.mk (below_step (by repeat (first | (with_reducible first | exact HB.out | apply below_alloc | apply pw_below_drewN | apply below_drew1 | refine below_set ?_ GE220.out) | exact HB.out)) hb); clear BK220; clear HB; have BK220 := n0_; have HB := n1_; clear n0_ n1_; (try clear hb); (try clear hb2); (try clear hk); (try clear hi); have hcz33_0 : w32.cell? ⟨gb220, 0, none⟩ = some (.string ((rd_T52 l0 x10_1).f0)) := (blk_cell BK220.out 0).trans rfl; have hcz33_1 : w32.cell? ⟨gb220, 1, none⟩ = some (.slice A219_1 ((rd_T52 l0 x10_1).f1).length c219_1) := (blk_cell BK220.out 1).trans rfl; have hcz33_2 : w32.cell? ⟨gb220, 2, none⟩ = some (.string ((rd_T52 l0 x10_1).f2)) := (blk_cell BK220.out 2).trans rfl; have hcz33_3 : w32.cell? ⟨gb220, 3, none⟩ = some (.slice A219_3 ((rd_T52 l0 x10_1).f3).length c219_3) := (blk_cell BK220.out 3).trans rfl; have hfz33_0 := blk_frozen BK220.out 0; have hfz33_1 := blk_frozen BK220.out 1; have hfz33_2 := blk_frozen BK220.out 2; have hfz33_3 := blk_frozen BK220.out 3))
                      go_roundg k1
                      case measure => have := HK1.out; omega
                      case rel => exact ⟨(wrap64 (x10_1 + 1)), (by first | rfl | (simp; done) | (simp [*]; done)), H', ⟨by have := HK1.out; omega⟩, ⟨by repeat (first | (with_reducible first | exact HB.out | apply below_alloc | apply pw_below_drewN | apply below_drew1 | refine below_set ?_ GE220.out) | exact HB.out)⟩⟩
                · replace c11 := Bool.eq_false_iff.mpr c11
                  subst c11
                  have H1 : (some false) = some r := by rw [if_neg (show ¬ (false = true) by decide)] at H; exact H
                  clear H
                  have H := H1
                  clear H1
                  obtain rfl := Option.some.inj H
                  have p219 : 0 ≤ (x10_1 : Int) := of_decide_eq_true (by first | (with_reducible assumption) | assumption)
                  have q219 : x10_1 < (l0.length : Int) := of_decide_eq_true (by first | (with_reducible assumption) | assumption)
                  obtain ⟨ad219, A219_1, c219_1, A219_3, c219_3, e219, hx219_0, hx219_1, hx219_2, hx219_3, hl219_1, hi219_1, hl219_3, hi219_3⟩ := at_T52 HR0.out x10_1 p219 q219
                  cases e219
                  replace hx219_0 := (HB.out.cell (World.block_lt_of_cell? w _ hx219_0)).trans hx219_0
                  replace hx219_1 := (HB.out.cell (World.block_lt_of_cell? w _ hx219_1)).trans hx219_1
                  replace hx219_2 := (HB.out.cell (World.block_lt_of_cell? w _ hx219_2)).trans hx219_2
                  replace hx219_3 := (HB.out.cell (World.block_lt_of_cell? w _ hx219_3)).trans hx219_3
                  have HR219_1 := Aside0.mk hi219_1
                  have HC219_1 := Aside0.mk hl219_1
                  clear hi219_1 hl219_1
                  have HR219_3 := Aside0.mk hi219_3
                  have HC219_3 := Aside0.mk hl219_3
                  clear hi219_3 hl219_3
                  replace p219 := eq_true p219
                  replace q219 := eq_true q219
                  go_wp2_with (first | ((with_reducible refine gate_dst (N := 6) rfl ?_); (try (refine gate_guard (by rfl) ?_; dsimp only)); refine box_event ?hg (N := 6) ?hd (cs := #[.string (⟨#[]⟩ : ByteArray), .slice none 0 0, .string (⟨#[]⟩ : ByteArray), .slice none 0 0]) (t := 52) ?hr ?_; (case hd => rfl); (case hg => rfl); (case hr => first | (go_simp; done) | (go_simp; rfl)); intro gb220 hg w34 hbox hb; have n0_ := Aside0.mk (below_step (by repeat (first | (with_reducible first | exact HB.out | apply below_alloc | apply pw_below_drewN | apply below_drew1) | exact HB.out)) hb); have n1_ := Aside0.mk (hbox); have n2_ := Aside0.mk ((by rw [hg]; exact (below_size (by repeat (first | (with_reducible first | exact HB.out | apply below_alloc | apply pw_below_drewN | apply below_drew1) | exact HB.out))) : w.heap.size ≤ gb220)); have n3_ := Aside0.mk ((by rw [hg]; exact (below_size (by repeat (first | (with_reducible first | exact HB.out | apply below_alloc | apply pw_below_drewN | apply below_drew1) | exact HB.out))) : w.heap.size ≤ gb220)); clear HB; have HB := n0_; have BK220 := n1_; have GW220 := n2_; have GE220 := n3_; clear n0_ n1_ n2_ n3_; clear hb hbox hg; have hcz35_0 : w34.cell? ⟨gb220, 0, none⟩ = some (.string (⟨#[]⟩ : ByteArray)) := (blk_cell BK220.out 0).trans rfl; have hcz35_1 : w34.cell? ⟨gb220, 1, none⟩ = some (.slice none 0 0) := (blk_cell BK220.out 1).trans rfl; have hcz35_2 : w34.cell? ⟨gb220, 2, none⟩ = some (.string (⟨#[]⟩ : ByteArray)) := (blk_cell BK220.out 2).trans rfl; have hcz35_3 : w34.cell? ⟨gb220, 3, none⟩ = some (.slice none 0 0) := (blk_cell BK220.out 3).trans rfl; have hfz35_0 := blk_frozen BK220.out 0; have hfz35_1 := blk_frozen BK220.out 1; have hfz35_2 := blk_frozen BK220.out 2; have hfz35_3 := blk_frozen BK220.out 3) | (go_at_call 78; (with_reducible refine (fit_whole.calls ((rd_T52 l0 x10_1).f2) false _ ?side1 A10.out).mono ?_); (case side1 => exact GW.below HG.out (by repeat (first | (with_reducible first | exact HB.out | apply below_alloc | apply pw_below_drewN | apply below_drew1 | refine below_set ?_ GE220.out) | exact HB.out))); rintro e w36 ⟨rfl, hb⟩; have n0_ := Aside0.mk (blk_below (g := gb220) (o := .cells #[.string ((rd_T52 l0 x10_1).f0), .slice A219_1 ((rd_T52 l0 x10_1).f1).length c219_1, .string ((rd_T52 l0 x10_1).f2), .slice A219_3 ((rd_T52 l0 x10_1).f3).length c219_3] 52 (0, 0)) (by (with_reducible repeat (first | refine blk_drewN ?_ _ | refine blk_drew ?_ | refine blk_alloc ?_ _)); refine blk_put (cs := #[.string ((rd_T52 l0 x10_1).f0), .slice A219_1 ((rd_T52 l0 x10_1).f1).length c219_1, .string ((rd_T52 l0 x10_1).f2), .slice none 0 0]) ?_ 3 _ rfl; (with_reducible repeat (first | refine blk_drewN ?_ _ | refine blk_drew ?_ | refine blk_alloc ?_ _)); refine blk_put (cs := #[.string ((rd_T52 l0 x10_1).f0), .slice A219_1 ((rd_T52 l0 x10_1).f1).length c219_1, .string (⟨#[]⟩ : ByteArray), .slice none 0 0]) ?_ 2 _ rfl; (with_reducible repeat (first | refine blk_drewN ?_ _ | refine blk_drew ?_ | refine blk_alloc ?_ _)); refine blk_put (cs := #[.string ((rd_T52 l0 x10_1).f0), .slice none 0 0, .string (⟨#[]⟩ : ByteArray), .slice none 0 0]) ?_ 1 _ rfl; (with_reducible repeat (first | refine blk_drewN ?_ _ | refine blk_drew ?_ | refine blk_alloc ?_ _)); refine blk_put (cs := #[.string (⟨#[]⟩ : ByteArray), .slice none 0 0, .string (⟨#[]⟩ : ByteArray), .slice none 0 0]) ?_ 0 _ rfl; (with_reducible repeat (first | refine blk_drewN ?_ _ | refine blk_drew ?_ | refine blk_alloc ?_ _)); exact BK220.out) hb); have n1_ := Aside0.mk (below_step (by repeat (first | (with_reducible first | exact HB.out | apply below_alloc | apply pw_below_drewN | apply below_drew1 | refine below_set ?_ GE220.out) | exact HB.out)) hb); clear BK220; clear HB; have BK220 := n0_; have HB := n1_; clear n0_ n1_; (try clear hb); (try clear hb2); (try clear hk); (try clear hi)))
                  go_ret
                  exact ⟨by first | rfl | (simp [errW_none, errW_some] <;> rfl) | (simp [*, errW_none, errW_some] <;> rfl), by repeat (first | (with_reducible first | exact HB.out | apply below_alloc | apply pw_below_drewN | apply below_drew1 | refine below_set ?_ GE220.out) | exact HB.out)⟩
            · rw [if_neg c6] at H
              have c6b0 : (((rd_T52 l0 x10_1).f0).toList == ([] : List UInt8)) = false := beq_eq_false_iff_ne.mpr c6
              have c6b1 : (((rd_T52 l0 x10_1).f0).toList != ([] : List UInt8)) = true := bne_iff_ne.mpr c6
              have HC37 := Aside0.mk H
              clear H
              have p219 : 0 ≤ (x10_1 : Int) := of_decide_eq_true (by first | (with_reducible assumption) | assumption)
              have q219 : x10_1 < (l0.length : Int) := of_decide_eq_true (by first | (with_reducible assumption) | assumption)
              obtain ⟨ad219, A219_1, c219_1, A219_3, c219_3, e219, hx219_0, hx219_1, hx219_2, hx219_3, hl219_1, hi219_1, hl219_3, hi219_3⟩ := at_T52 HR0.out x10_1 p219 q219
              cases e219
              replace hx219_0 := (HB.out.cell (World.block_lt_of_cell? w _ hx219_0)).trans hx219_0
              replace hx219_1 := (HB.out.cell (World.block_lt_of_cell? w _ hx219_1)).trans hx219_1
              replace hx219_2 := (HB.out.cell (World.block_lt_of_cell? w _ hx219_2)).trans hx219_2
              replace hx219_3 := (HB.out.cell (World.block_lt_of_cell? w _ hx219_3)).trans hx219_3
              have HR219_1 := Aside0.mk hi219_1
              have HC219_1 := Aside0.mk hl219_1
              clear hi219_1 hl219_1
              have HR219_3 := Aside0.mk hi219_3
              have HC219_3 := Aside0.mk hl219_3
              clear hi219_3 hl219_3
              replace p219 := eq_true p219
              replace q219 := eq_true q219
              go_upto_region 8 with (first | ((with_reducible refine gate_dst (N := 6) rfl ?_); (try (refine gate_guard (by rfl) ?_; dsimp only)); refine box_event ?hg (N := 6) ?hd (cs := #[.string (⟨#[]⟩ : ByteArray), .slice none 0 0, .string (⟨#[]⟩ : ByteArray), .slice none 0 0]) (t := 52) ?hr ?_; (case hd => rfl); (case hg => rfl); (case hr => first | (go_simp; done) | (go_simp; rfl)); intro gb220 hg w38 hbox hb; have n0_ := Aside0.mk (below_step (by repeat (first | (with_reducible first | exact HB.out | apply below_alloc | apply pw_below_drewN | apply below_drew1) | exact HB.out)) hb); have n1_ := Aside0.mk (hbox); have n2_ := Aside0.mk ((by rw [hg]; exact (below_size (by repeat (first | (with_reducible first | exact HB.out | apply below_alloc | apply pw_below_drewN | apply below_drew1) | exact HB.out))) : w.heap.size ≤ gb220)); have n3_ := Aside0.mk ((by rw [hg]; exact (below_size (by repeat (first | (with_reducible first | exact HB.out | apply below_alloc | apply pw_below_drewN | apply below_drew1) | exact HB.out))) : w.heap.size ≤ gb220)); clear HB; have HB := n0_; have BK220 := n1_; have GW220 := n2_; have GE220 := n3_; clear n0_ n1_ n2_ n3_; clear hb hbox hg; have hcz39_0 : w38.cell? ⟨gb220, 0, none⟩ = some (.string (⟨#[]⟩ : ByteArray)) := (blk_cell BK220.out 0).trans rfl; have hcz39_1 : w38.cell? ⟨gb220, 1, none⟩ = some (.slice none 0 0) := (blk_cell BK220.out 1).trans rfl; have hcz39_2 : w38.cell? ⟨gb220, 2, none⟩ = some (.string (⟨#[]⟩ : ByteArray)) := (blk_cell BK220.out 2).trans rfl; have hcz39_3 : w38.cell? ⟨gb220, 3, none⟩ = some (.slice none 0 0) := (blk_cell BK220.out 3).trans rfl; have hfz39_0 := blk_frozen BK220.out 0; have hfz39_1 := blk_frozen BK220.out 1; have hfz39_2 := blk_frozen BK220.out 2; have hfz39_3 := blk_frozen BK220.out 3))
              (try simp only [Act.put, List.setIfInBounds_toArray, List.set_cons_zero, List.set_cons_succ])
              go_cut [54] (fun v54 wc => ∃ (kq : Nat) (x54_36 : Bool), v54 = .bool x54_36 ∧ Aside0 (fit_sound.j1 kq l0 l1 ((((rd_T52 l0 x10_1).f3).length : Int) == 0) l0 (l0.length : Int) x10_1 x54_36 ((rd_T52 l0 x10_1).f0) ((rd_T52 l0 x10_1).f1) ((rd_T52 l0 x10_1).f2) ((rd_T52 l0 x10_1).f3) = some r) ∧ Aside0 (kq ≤ k1) ∧ Aside0 (wc.heap[gb220]? = some (.cells #[.string ((rd_T52 l0 x10_1).f0), (.slice A219_1 ((rd_T52 l0 x10_1).f1).length c219_1), .string ((rd_T52 l0 x10_1).f2), (.slice A219_3 ((rd_T52 l0 x10_1).f3).length c219_3)] 52 (0, 0))) ∧ Aside0 (Below w.heap.size w wc))
              case first =>
                have H := HC37.out
                clear HC37
                replace H := Option.bind_eq_some_iff.mp H
                obtain ⟨t223, A400, H⟩ := H
                replace H : (if t223 = true then (if ((rd_T52 l0 x10_1).f2).toList = ([] : List UInt8) then ((fit_In.f k1 l1 ((rd_T52 l0 x10_1).f0)).bind fun t224 => (if t224 = true then ((fit_attrs.f ((rd_T52 l0 x10_1).f1)).bind fun t225 => (fit_sound.j1 k1 l0 l1 ((((rd_T52 l0 x10_1).f3).length : Int) == 0) l0 (l0.length : Int) x10_1 (!t225) ((rd_T52 l0 x10_1).f0) ((rd_T52 l0 x10_1).f1) ((rd_T52 l0 x10_1).f2) ((rd_T52 l0 x10_1).f3))) else (fit_sound.j1 k1 l0 l1 ((((rd_T52 l0 x10_1).f3).length : Int) == 0) l0 (l0.length : Int) x10_1 true ((rd_T52 l0 x10_1).f0) ((rd_T52 l0 x10_1).f1) ((rd_T52 l0 x10_1).f2) ((rd_T52 l0 x10_1).f3)))) else (fit_sound.j1 k1 l0 l1 ((((rd_T52 l0 x10_1).f3).length : Int) == 0) l0 (l0.length : Int) x10_1 true ((rd_T52 l0 x10_1).f0) ((rd_T52 l0 x10_1).f1) ((rd_T52 l0 x10_1).f2) ((rd_T52 l0 x10_1).f3))) else (fit_sound.j1 k1 l0 l1 ((((rd_T52 l0 x10_1).f3).length : Int) == 0) l0 (l0.length : Int) x10_1 true ((rd_T52 l0 x10_1).f0) ((rd_T52 l0 x10_1).f1) ((rd_T52 l0 x10_1).f2) ((rd_T52 l0 x10_1).f3))) = some r := H
                have A40 := Aside0.mk A400
                clear A400
                by_cases c41 : t223 = true
                · subst c41
                  have H1 : (if ((rd_T52 l0 x10_1).f2).toList = ([] : List UInt8) then ((fit_In.f k1 l1 ((rd_T52 l0 x10_1).f0)).bind fun t224 => (if t224 = true then ((fit_attrs.f ((rd_T52 l0 x10_1).f1)).bind fun t225 => (fit_sound.j1 k1 l0 l1 ((((rd_T52 l0 x10_1).f3).length : Int) == 0) l0 (l0.length : Int) x10_1 (!t225) ((rd_T52 l0 x10_1).f0) ((rd_T52 l0 x10_1).f1) ((rd_T52 l0 x10_1).f2) ((rd_T52 l0 x10_1).f3))) else (fit_sound.j1 k1 l0 l1 ((((rd_T52 l0 x10_1).f3).length : Int) == 0) l0 (l0.length : Int) x10_1 true ((rd_T52 l0 x10_1).f0) ((rd_T52 l0 x10_1).f1) ((rd_T52 l0 x10_1).f2) ((rd_T52 l0 x10_1).f3)))) else (fit_sound.j1 k1 l0 l1 ((((rd_T52 l0 x10_1).f3).length : Int) == 0) l0 (l0.length : Int) x10_1 true ((rd_T52 l0 x10_1).f0) ((rd_T52 l0 x10_1).f1) ((rd_T52 l0 x10_1).f2) ((rd_T52 l0 x10_1).f3))) = some r := by rw [if_pos rfl] at H; exact H
                  clear H
                  have H := H1
                  clear H1
                  by_cases c42 : ((rd_T52 l0 x10_1).f2).toList = ([] : List UInt8)
                  · rw [if_pos c42] at H
                    have c42b0 : (((rd_T52 l0 x10_1).f2).toList == ([] : List UInt8)) = true := beq_iff_eq.mpr c42
                    have c42b1 : (((rd_T52 l0 x10_1).f2).toList != ([] : List UInt8)) = false := bne_eq_false_iff_eq.mpr c42
                    clear c42
                    (first | rw [c42b0] | (simp only [i64_w, i32_w]; rw [c42b0]) | rw [c42b1] | skip)
                    replace H := Option.bind_eq_some_iff.mp H
                    obtain ⟨t224, A430, H⟩ := H
                    replace H : (if t224 = true then ((fit_attrs.f ((rd_T52 l0 x10_1).f1)).bind fun t225 => (fit_sound.j1 k1 l0 l1 ((((rd_T52 l0 x10_1).f3).length : Int) == 0) l0 (l0.length : Int) x10_1 (!t225) ((rd_T52 l0 x10_1).f0) ((rd_T52 l0 x10_1).f1) ((rd_T52 l0 x10_1).f2) ((rd_T52 l0 x10_1).f3))) else (fit_sound.j1 k1 l0 l1 ((((rd_T52 l0 x10_1).f3).length : Int) == 0) l0 (l0.length : Int) x10_1 true ((rd_T52 l0 x10_1).f0) ((rd_T52 l0 x10_1).f1) ((rd_T52 l0 x10_1).f2) ((rd_T52 l0 x10_1).f3))) = some r := H
                    have A43 := Aside0.mk A430
                    clear A430
                    by_cases c44 : t224 = true
                    · subst c44
                      have H1 : ((fit_attrs.f ((rd_T52 l0 x10_1).f1)).bind fun t225 => (fit_sound.j1 k1 l0 l1 ((((rd_T52 l0 x10_1).f3).length : Int) == 0) l0 (l0.length : Int) x10_1 (!t225) ((rd_T52 l0 x10_1).f0) ((rd_T52 l0 x10_1).f1) ((rd_T52 l0 x10_1).f2) ((rd_T52 l0 x10_1).f3))) = some r := by rw [if_pos rfl] at H; exact H
                      clear H
                      have H := H1
                      clear H1
                      replace H := Option.bind_eq_some_iff.mp H
                      obtain ⟨t225, A450, H⟩ := H
                      replace H : (fit_sound.j1 k1 l0 l1 ((((rd_T52 l0 x10_1).f3).length : Int) == 0) l0 (l0.length : Int) x10_1 (!t225) ((rd_T52 l0 x10_1).f0) ((rd_T52 l0 x10_1).f1) ((rd_T52 l0 x10_1).f2) ((rd_T52 l0 x10_1).f3)) = some r := H
                      have A45 := Aside0.mk A450
                      clear A450
                      have H' := Aside0.mk H
                      clear H
                      have hcz46_0 : w38.cell? ⟨gb220, 0, none⟩ = some (.string (⟨#[]⟩ : ByteArray)) := (blk_cell BK220.out 0).trans rfl
                      have hcz46_1 : w38.cell? ⟨gb220, 1, none⟩ = some (.slice none 0 0) := (blk_cell BK220.out 1).trans rfl
                      have hcz46_2 : w38.cell? ⟨gb220, 2, none⟩ = some (.string (⟨#[]⟩ : ByteArray)) := (blk_cell BK220.out 2).trans rfl
                      have hcz46_3 : w38.cell? ⟨gb220, 3, none⟩ = some (.slice none 0 0) := (blk_cell BK220.out 3).trans rfl
                      have hfz46_0 := blk_frozen BK220.out 0
                      have hfz46_1 := blk_frozen BK220.out 1
                      have hfz46_2 := blk_frozen BK220.out 2
                      have hfz46_3 := blk_frozen BK220.out 3
                      go_wp2_with (first | ((with_reducible refine gate_callee (f := 16) rfl ?_); refine goesL_ (some 57) rfl rfl Tryd.func16 (by kernel_rfl) rfl #[.string ((rd_T52 l0 x10_1).f0), .int .i64 512] rfl (by (try simp only [List.map_toArray, List.map_cons, List.map_nil]); first | done | rfl | (simp only [List.length_drop, List.length_take]; rfl)) ?_; (with_reducible refine (kind_Is.calls ((rd_T52 l0 x10_1).f0) 512 true _ ?side1 A40.out).mono ?_); (case side1 => exact GW.below HG.out (by repeat (first | (with_reducible first | exact HB.out | apply below_alloc | apply pw_below_drewN | apply below_drew1 | refine below_set ?_ GE220.out) | exact HB.out))); rintro e w47 ⟨rfl, hb⟩; refine ⟨_, rfl, ?_⟩; have n0_ := Aside0.mk (blk_below (g := gb220) (o := .cells #[.string ((rd_T52 l0 x10_1).f0), .slice A219_1 ((rd_T52 l0 x10_1).f1).length c219_1, .string ((rd_T52 l0 x10_1).f2), .slice A219_3 ((rd_T52 l0 x10_1).f3).length c219_3] 52 (0, 0)) (by (with_reducible repeat (first | refine blk_drewN ?_ _ | refine blk_drew ?_ | refine blk_alloc ?_ _)); refine blk_put (cs := #[.string ((rd_T52 l0 x10_1).f0), .slice A219_1 ((rd_T52 l0 x10_1).f1).length c219_1, .string ((rd_T52 l0 x10_1).f2), .slice none 0 0]) ?_ 3 _ rfl; (with_reducible repeat (first | refine blk_drewN ?_ _ | refine blk_drew ?_ | refine blk_alloc ?_ _)); refine blk_put (cs := #[.string ((rd_T52 l0 x10_1).f0), .slice A219_1 ((rd_T52 l0 x10_1).f1).length c219_1, .string (⟨#[]⟩ : ByteArray), .slice none 0 0]) ?_ 2 _ rfl; (with_reducible repeat (first | refine blk_drewN ?_ _ | refine blk_drew ?_ | refine blk_alloc ?_ _)); refine blk_put (cs := #[.string ((rd_T52 l0 x10_1).f0), .slice none 0 0, .string (⟨#[]⟩ : ByteArray), .slice none 0 0]) ?_ 1 _ rfl; (with_reducible repeat (first | refine blk_drewN ?_ _ | refine blk_drew ?_ | refine blk_alloc ?_ _)); refine blk_put (cs := #[.string (⟨#[]⟩ : ByteArray), .slice none 0 0, .string (⟨#[]⟩ : ByteArray), .slice none 0 0]) ?_ 0 _ rfl; (with_reducible repeat (first | refine blk_drewN ?_ _ | refine blk_drew ?_ | refine blk_alloc ?_ _)); exact BK220.out) hb); have n1_ := Aside0.mk (below_step (by repeat (first | (with_reducible first | exact HB.out | apply below_alloc | apply pw_below_drewN | apply below_drew1 | refine below_set ?_ GE220.out) | exact HB.out)) hb); clear BK220; clear HB; have BK220 := n0_; have HB := n1_; clear n0_ n1_; (try clear hb); (try clear hb2); (try clear hk); (try clear hi); have hcz48_0 : w47.cell? ⟨gb220, 0, none⟩ = some (.string ((rd_T52 l0 x10_1).f0)) := (blk_cell BK220.out 0).trans rfl; have hcz48_1 : w47.cell? ⟨gb220, 1, none⟩ = some (.slice A219_1 ((rd_T52 l0 x10_1).f1).length c219_1) := (blk_cell BK220.out 1).trans rfl; have hcz48_2 : w47.cell? ⟨gb220, 2, none⟩ = some (.string ((rd_T52 l0 x10_1).f2)) := (blk_cell BK220.out 2).trans rfl; have hcz48_3 : w47.cell? ⟨gb220, 3, none⟩ = some (.slice A219_3 ((rd_T52 l0 x10_1).f3).length c219_3) := (blk_cell BK220.out 3).trans rfl; have hfz48_0 := blk_frozen BK220.out 0; have hfz48_1 := blk_frozen BK220.out 1; have hfz48_2 := blk_frozen BK220.out 2; have hfz48_3 := blk_frozen BK220.out 3) | (go_at_call 18; (with_reducible refine (fit_In.calls k1 _ _ l1 ((rd_T52 l0 x10_1).f0) true _ ?side1 ?side2 ?side3 A43.out).mono ?_); (case side1 => repeat (first | exact (Kd.C_below HR1.out HB.out) | (with_reducible refine Kd.C_alloc ?_ _) | (with_reducible refine Kd.C_drewN ?_ _) | (with_reducible refine Kd.C_drew ?_))); (case side2 => exact HC1.out); (case side3 => exact GW.below HG.out (by repeat (first | (with_reducible first | exact HB.out | apply below_alloc | apply pw_below_drewN | apply below_drew1 | refine below_set ?_ GE220.out) | exact HB.out))); rintro e w49 ⟨rfl, hb⟩; have n0_ := Aside0.mk (blk_below (g := gb220) (o := .cells #[.string ((rd_T52 l0 x10_1).f0), .slice A219_1 ((rd_T52 l0 x10_1).f1).length c219_1, .string ((rd_T52 l0 x10_1).f2), .slice A219_3 ((rd_T52 l0 x10_1).f3).length c219_3] 52 (0, 0)) (by (with_reducible repeat (first | refine blk_drewN ?_ _ | refine blk_drew ?_ | refine blk_alloc ?_ _)); exact BK220.out) hb); have n1_ := Aside0.mk (below_step (by repeat (first | (with_reducible first | exact HB.out | apply below_alloc | apply pw_below_drewN | apply below_drew1 | refine below_set ?_ GE220.out) | exact HB.out)) hb); clear BK220; clear HB; have BK220 := n0_; have HB := n1_; clear n0_ n1_; (try clear hb); (try clear hb2); (try clear hk); (try clear hi); have hcz50_0 : w49.cell? ⟨gb220, 0, none⟩ = some (.string ((rd_T52 l0 x10_1).f0)) := (blk_cell BK220.out 0).trans rfl; have hcz50_1 : w49.cell? ⟨gb220, 1, none⟩ = some (.slice A219_1 ((rd_T52 l0 x10_1).f1).length c219_1) := (blk_cell BK220.out 1).trans rfl; have hcz50_2 : w49.cell? ⟨gb220, 2, none⟩ = some (.string ((rd_T52 l0 x10_1).f2)) := (blk_cell BK220.out 2).trans rfl; have hcz50_3 : w49.cell? ⟨gb220, 3, none⟩ = some (.slice A219_3 ((rd_T52 l0 x10_1).f3).length c219_3) := (blk_cell BK220.out 3).trans rfl; have hfz50_0 := blk_frozen BK220.out 0; have hfz50_1 := blk_frozen BK220.out 1; have hfz50_2 := blk_frozen BK220.out 2; have hfz50_3 := blk_frozen BK220.out 3) | (go_at_call 79; (with_reducible refine (fit_attrs.calls _ _ ((rd_T52 l0 x10_1).f1) t225 _ ?side1 ?side2 ?side3 A45.out).mono ?_); (case side1 => repeat (first | exact (Kd.C_below HR219_1.out HB.out) | (with_reducible refine Kd.C_alloc ?_ _) | (with_reducible refine Kd.C_drewN ?_ _) | (with_reducible refine Kd.C_drew ?_))); (case side2 => exact HC219_1.out); (case side3 => exact GW.below HG.out (by repeat (first | (with_reducible first | exact HB.out | apply below_alloc | apply pw_below_drewN | apply below_drew1 | refine below_set ?_ GE220.out) | exact HB.out))); rintro e w51 ⟨rfl, hb⟩; have n0_ := Aside0.mk (blk_below (g := gb220) (o := .cells #[.string ((rd_T52 l0 x10_1).f0), .slice A219_1 ((rd_T52 l0 x10_1).f1).length c219_1, .string ((rd_T52 l0 x10_1).f2), .slice A219_3 ((rd_T52 l0 x10_1).f3).length c219_3] 52 (0, 0)) (by (with_reducible repeat (first | refine blk_drewN ?_ _ | refine blk_drew ?_ | refine blk_alloc ?_ _)); exact BK220.out) hb); have n1_ := Aside0.mk (below_step (by repeat (first | (with_reducible first | exact HB.out | apply below_alloc | apply pw_below_drewN | apply below_drew1 | refine below_set ?_ GE220.out) | exact HB.out)) hb); clear BK220; clear HB; have BK220 := n0_; have HB := n1_; clear n0_ n1_; (try clear hb); (try clear hb2); (try clear hk); (try clear hi)))
                      go_meet
                      case rel => exact ⟨_, (!t225), (by first | rfl | (simp; done) | (simp [*]; done)), H', ⟨by have := HK1.out; first | omega | exact Nat.le_refl _⟩, ⟨by (with_reducible repeat (first | refine blk_drewN ?_ _ | refine blk_drew ?_ | refine blk_alloc ?_ _)); exact BK220.out⟩, ⟨by repeat (first | (with_reducible first | exact HB.out | apply below_alloc | apply pw_below_drewN | apply below_drew1 | refine below_set ?_ GE220.out) | exact HB.out)⟩⟩
                    · replace c44 := Bool.eq_false_iff.mpr c44
                      subst c44
                      have H1 : (fit_sound.j1 k1 l0 l1 ((((rd_T52 l0 x10_1).f3).length : Int) == 0) l0 (l0.length : Int) x10_1 true ((rd_T52 l0 x10_1).f0) ((rd_T52 l0 x10_1).f1) ((rd_T52 l0 x10_1).f2) ((rd_T52 l0 x10_1).f3)) = some r := by rw [if_neg (show ¬ (false = true) by decide)] at H; exact H
                      clear H
                      have H := H1
                      clear H1
                      have H' := Aside0.mk H
                      clear H
                      have hcz52_0 : w38.cell? ⟨gb220, 0, none⟩ = some (.string (⟨#[]⟩ : ByteArray)) := (blk_cell BK220.out 0).trans rfl
                      have hcz52_1 : w38.cell? ⟨gb220, 1, none⟩ = some (.slice none 0 0) := (blk_cell BK220.out 1).trans rfl
                      have hcz52_2 : w38.cell? ⟨gb220, 2, none⟩ = some (.string (⟨#[]⟩ : ByteArray)) := (blk_cell BK220.out 2).trans rfl
                      have hcz52_3 : w38.cell? ⟨gb220, 3, none⟩ = some (.slice none 0 0) := (blk_cell BK220.out 3).trans rfl
                      have hfz52_0 := blk_frozen BK220.out 0
                      have hfz52_1 := blk_frozen BK220.out 1
                      have hfz52_2 := blk_frozen BK220.out 2
                      have hfz52_3 := blk_frozen BK220.out 3
                      go_wp2_with (first | ((with_reducible refine gate_callee (f := 16) rfl ?_); refine goesL_ (some 57) rfl rfl Tryd.func16 (by kernel_rfl) rfl #[.string ((rd_T52 l0 x10_1).f0), .int .i64 512] rfl (by (try simp only [List.map_toArray, List.map_cons, List.map_nil]); first | done | rfl | (simp only [List.length_drop, List.length_take]; rfl)) ?_; (with_reducible refine (kind_Is.calls ((rd_T52 l0 x10_1).f0) 512 true _ ?side1 A40.out).mono ?_); (case side1 => exact GW.below HG.out (by repeat (first | (with_reducible first | exact HB.out | apply below_alloc | apply pw_below_drewN | apply below_drew1 | refine below_set ?_ GE220.out) | exact HB.out))); rintro e w53 ⟨rfl, hb⟩; refine ⟨_, rfl, ?_⟩; have n0_ := Aside0.mk (blk_below (g := gb220) (o := .cells #[.string ((rd_T52 l0 x10_1).f0), .slice A219_1 ((rd_T52 l0 x10_1).f1).length c219_1, .string ((rd_T52 l0 x10_1).f2), .slice A219_3 ((rd_T52 l0 x10_1).f3).length c219_3] 52 (0, 0)) (by (with_reducible repeat (first | refine blk_drewN ?_ _ | refine blk_drew ?_ | refine blk_alloc ?_ _)); refine blk_put (cs := #[.string ((rd_T52 l0 x10_1).f0), .slice A219_1 ((rd_T52 l0 x10_1).f1).length c219_1, .string ((rd_T52 l0 x10_1).f2), .slice none 0 0]) ?_ 3 _ rfl; (with_reducible repeat (first | refine blk_drewN ?_ _ | refine blk_drew ?_ | refine blk_alloc ?_ _)); refine blk_put (cs := #[.string ((rd_T52 l0 x10_1).f0), .slice A219_1 ((rd_T52 l0 x10_1).f1).length c219_1, .string (⟨#[]⟩ : ByteArray), .slice none 0 0]) ?_ 2 _ rfl; (with_reducible repeat (first | refine blk_drewN ?_ _ | refine blk_drew ?_ | refine blk_alloc ?_ _)); refine blk_put (cs := #[.string ((rd_T52 l0 x10_1).f0), .slice none 0 0, .string (⟨#[]⟩ : ByteArray), .slice none 0 0]) ?_ 1 _ rfl; (with_reducible repeat (first | refine blk_drewN ?_ _ | refine blk_drew ?_ | refine blk_alloc ?_ _)); refine blk_put (cs := #[.string (⟨#[]⟩ : ByteArray), .slice none 0 0, .string (⟨#[]⟩ : ByteArray), .slice none 0 0]) ?_ 0 _ rfl; (with_reducible repeat (first | refine blk_drewN ?_ _ | refine blk_drew ?_ | refine blk_alloc ?_ _)); exact BK220.out) hb); have n1_ := Aside0.mk (below_step (by repeat (first | (with_reducible first | exact HB.out | apply below_alloc | apply pw_below_drewN | apply below_drew1 | refine below_set ?_ GE220.out) | exact HB.out)) hb); clear BK220; clear HB; have BK220 := n0_; have HB := n1_; clear n0_ n1_; (try clear hb); (try clear hb2); (try clear hk); (try clear hi); have hcz54_0 : w53.cell? ⟨gb220, 0, none⟩ = some (.string ((rd_T52 l0 x10_1).f0)) := (blk_cell BK220.out 0).trans rfl; have hcz54_1 : w53.cell? ⟨gb220, 1, none⟩ = some (.slice A219_1 ((rd_T52 l0 x10_1).f1).length c219_1) := (blk_cell BK220.out 1).trans rfl; have hcz54_2 : w53.cell? ⟨gb220, 2, none⟩ = some (.string ((rd_T52 l0 x10_1).f2)) := (blk_cell BK220.out 2).trans rfl; have hcz54_3 : w53.cell? ⟨gb220, 3, none⟩ = some (.slice A219_3 ((rd_T52 l0 x10_1).f3).length c219_3) := (blk_cell BK220.out 3).trans rfl; have hfz54_0 := blk_frozen BK220.out 0; have hfz54_1 := blk_frozen BK220.out 1; have hfz54_2 := blk_frozen BK220.out 2; have hfz54_3 := blk_frozen BK220.out 3) | (go_at_call 18; (with_reducible refine (fit_In.calls k1 _ _ l1 ((rd_T52 l0 x10_1).f0) false _ ?side1 ?side2 ?side3 A43.out).mono ?_); (case side1 => repeat (first | exact (Kd.C_below HR1.out HB.out) | (with_reducible refine Kd.C_alloc ?_ _) | (with_reducible refine Kd.C_drewN ?_ _) | (with_reducible refine Kd.C_drew ?_))); (case side2 => exact HC1.out); (case side3 => exact GW.below HG.out (by repeat (first | (with_reducible first | exact HB.out | apply below_alloc | apply pw_below_drewN | apply below_drew1 | refine below_set ?_ GE220.out) | exact HB.out))); rintro e w55 ⟨rfl, hb⟩; have n0_ := Aside0.mk (blk_below (g := gb220) (o := .cells #[.string ((rd_T52 l0 x10_1).f0), .slice A219_1 ((rd_T52 l0 x10_1).f1).length c219_1, .string ((rd_T52 l0 x10_1).f2), .slice A219_3 ((rd_T52 l0 x10_1).f3).length c219_3] 52 (0, 0)) (by (with_reducible repeat (first | refine blk_drewN ?_ _ | refine blk_drew ?_ | refine blk_alloc ?_ _)); exact BK220.out) hb); have n1_ := Aside0.mk (below_step (by repeat (first | (with_reducible first | exact HB.out | apply below_alloc | apply pw_below_drewN | apply below_drew1 | refine below_set ?_ GE220.out) | exact HB.out)) hb); clear BK220; clear HB; have BK220 := n0_; have HB := n1_; clear n0_ n1_; (try clear hb); (try clear hb2); (try clear hk); (try clear hi)))
                      go_meet
                      case rel => exact ⟨_, (true), (by first | rfl | (simp; done) | (simp [*]; done)), H', ⟨by have := HK1.out; first | omega | exact Nat.le_refl _⟩, ⟨by (with_reducible repeat (first | refine blk_drewN ?_ _ | refine blk_drew ?_ | refine blk_alloc ?_ _)); exact BK220.out⟩, ⟨by repeat (first | (with_reducible first | exact HB.out | apply below_alloc | apply pw_below_drewN | apply below_drew1 | refine below_set ?_ GE220.out) | exact HB.out)⟩⟩
                  · rw [if_neg c42] at H
                    have c42b0 : (((rd_T52 l0 x10_1).f2).toList == ([] : List UInt8)) = false := beq_eq_false_iff_ne.mpr c42
                    have c42b1 : (((rd_T52 l0 x10_1).f2).toList != ([] : List UInt8)) = true := bne_iff_ne.mpr c42
                    (first | rw [c42b0] | (simp only [i64_w, i32_w]; rw [c42b0]) | rw [c42b1] | skip)
                    have H' := Aside0.mk H
                    clear H
                    have hcz56_0 : w38.cell? ⟨gb220, 0, none⟩ = some (.string (⟨#[]⟩ : ByteArray)) := (blk_cell BK220.out 0).trans rfl
                    have hcz56_1 : w38.cell? ⟨gb220, 1, none⟩ = some (.slice none 0 0) := (blk_cell BK220.out 1).trans rfl
                    have hcz56_2 : w38.cell? ⟨gb220, 2, none⟩ = some (.string (⟨#[]⟩ : ByteArray)) := (blk_cell BK220.out 2).trans rfl
                    have hcz56_3 : w38.cell? ⟨gb220, 3, none⟩ = some (.slice none 0 0) := (blk_cell BK220.out 3).trans rfl
                    have hfz56_0 := blk_frozen BK220.out 0
                    have hfz56_1 := blk_frozen BK220.out 1
                    have hfz56_2 := blk_frozen BK220.out 2
                    have hfz56_3 := blk_frozen BK220.out 3
                    go_wp2_with (first | ((with_reducible refine gate_callee (f := 16) rfl ?_); refine goesL_ (some 57) rfl rfl Tryd.func16 (by kernel_rfl) rfl #[.string ((rd_T52 l0 x10_1).f0), .int .i64 512] rfl (by (try simp only [List.map_toArray, List.map_cons, List.map_nil]); first | done | rfl | (simp only [List.length_drop, List.length_take]; rfl)) ?_; (with_reducible refine (kind_Is.calls ((rd_T52 l0 x10_1).f0) 512 true _ ?side1 A40.out).mono ?_); (case side1 => exact GW.below HG.out (by repeat (first | (with_reducible first | exact HB.out | apply below_alloc | apply pw_below_drewN | apply below_drew1 | refine below_set ?_ GE220.out) | exact HB.out))); rintro e w57 ⟨rfl, hb⟩; refine ⟨_, rfl, ?_⟩; have n0_ := Aside0.mk (blk_below (g := gb220) (o := .cells #[.string ((rd_T52 l0 x10_1).f0), .slice A219_1 ((rd_T52 l0 x10_1).f1).length c219_1, .string ((rd_T52 l0 x10_1).f2), .slice A219_3 ((rd_T52 l0 x10_1).f3).length c219_3] 52 (0, 0)) (by (with_reducible repeat (first | refine blk_drewN ?_ _ | refine blk_drew ?_ | refine blk_alloc ?_ _)); refine blk_put (cs := #[.string ((rd_T52 l0 x10_1).f0), .slice A219_1 ((rd_T52 l0 x10_1).f1).length c219_1, .string ((rd_T52 l0 x10_1).f2), .slice none 0 0]) ?_ 3 _ rfl; (with_reducible repeat (first | refine blk_drewN ?_ _ | refine blk_drew ?_ | refine blk_alloc ?_ _)); refine blk_put (cs := #[.string ((rd_T52 l0 x10_1).f0), .slice A219_1 ((rd_T52 l0 x10_1).f1).length c219_1, .string (⟨#[]⟩ : ByteArray), .slice none 0 0]) ?_ 2 _ rfl; (with_reducible repeat (first | refine blk_drewN ?_ _ | refine blk_drew ?_ | refine blk_alloc ?_ _)); refine blk_put (cs := #[.string ((rd_T52 l0 x10_1).f0), .slice none 0 0, .string (⟨#[]⟩ : ByteArray), .slice none 0 0]) ?_ 1 _ rfl; (with_reducible repeat (first | refine blk_drewN ?_ _ | refine blk_drew ?_ | refine blk_alloc ?_ _)); refine blk_put (cs := #[.string (⟨#[]⟩ : ByteArray), .slice none 0 0, .string (⟨#[]⟩ : ByteArray), .slice none 0 0]) ?_ 0 _ rfl; (with_reducible repeat (first | refine blk_drewN ?_ _ | refine blk_drew ?_ | refine blk_alloc ?_ _)); exact BK220.out) hb); have n1_ := Aside0.mk (below_step (by repeat (first | (with_reducible first | exact HB.out | apply below_alloc | apply pw_below_drewN | apply below_drew1 | refine below_set ?_ GE220.out) | exact HB.out)) hb); clear BK220; clear HB; have BK220 := n0_; have HB := n1_; clear n0_ n1_; (try clear hb); (try clear hb2); (try clear hk); (try clear hi); have hcz58_0 : w57.cell? ⟨gb220, 0, none⟩ = some (.string ((rd_T52 l0 x10_1).f0)) := (blk_cell BK220.out 0).trans rfl; have hcz58_1 : w57.cell? ⟨gb220, 1, none⟩ = some (.slice A219_1 ((rd_T52 l0 x10_1).f1).length c219_1) := (blk_cell BK220.out 1).trans rfl; have hcz58_2 : w57.cell? ⟨gb220, 2, none⟩ = some (.string ((rd_T52 l0 x10_1).f2)) := (blk_cell BK220.out 2).trans rfl; have hcz58_3 : w57.cell? ⟨gb220, 3, none⟩ = some (.slice A219_3 ((rd_T52 l0 x10_1).f3).length c219_3) := (blk_cell BK220.out 3).trans rfl; have hfz58_0 := blk_frozen BK220.out 0; have hfz58_1 := blk_frozen BK220.out 1; have hfz58_2 := blk_frozen BK220.out 2; have hfz58_3 := blk_frozen BK220.out 3))
                    go_meet
                    case rel => exact ⟨_, (true), (by first | rfl | (simp; done) | (simp [*]; done)), H', ⟨by have := HK1.out; first | omega | exact Nat.le_refl _⟩, ⟨by (with_reducible repeat (first | refine blk_drewN ?_ _ | refine blk_drew ?_ | refine blk_alloc ?_ _)); exact BK220.out⟩, ⟨by repeat (first | (with_reducible first | exact HB.out | apply below_alloc | apply pw_below_drewN | apply below_drew1 | refine below_set ?_ GE220.out) | exact HB.out)⟩⟩
                · replace c41 := Bool.eq_false_iff.mpr c41
                  subst c41
                  have H1 : (fit_sound.j1 k1 l0 l1 ((((rd_T52 l0 x10_1).f3).length : Int) == 0) l0 (l0.length : Int) x10_1 true ((rd_T52 l0 x10_1).f0) ((rd_T52 l0 x10_1).f1) ((rd_T52 l0 x10_1).f2) ((rd_T52 l0 x10_1).f3)) = some r := by rw [if_neg (show ¬ (false = true) by decide)] at H; exact H
                  clear H
                  have H := H1
                  clear H1
                  have H' := Aside0.mk H
                  clear H
                  have hcz59_0 : w38.cell? ⟨gb220, 0, none⟩ = some (.string (⟨#[]⟩ : ByteArray)) := (blk_cell BK220.out 0).trans rfl
                  have hcz59_1 : w38.cell? ⟨gb220, 1, none⟩ = some (.slice none 0 0) := (blk_cell BK220.out 1).trans rfl
                  have hcz59_2 : w38.cell? ⟨gb220, 2, none⟩ = some (.string (⟨#[]⟩ : ByteArray)) := (blk_cell BK220.out 2).trans rfl
                  have hcz59_3 : w38.cell? ⟨gb220, 3, none⟩ = some (.slice none 0 0) := (blk_cell BK220.out 3).trans rfl
                  have hfz59_0 := blk_frozen BK220.out 0
                  have hfz59_1 := blk_frozen BK220.out 1
                  have hfz59_2 := blk_frozen BK220.out 2
                  have hfz59_3 := blk_frozen BK220.out 3
                  go_wp2_with (first | ((with_reducible refine gate_callee (f := 16) rfl ?_); refine goesL_ (some 57) rfl rfl Tryd.func16 (by kernel_rfl) rfl #[.string ((rd_T52 l0 x10_1).f0), .int .i64 512] rfl (by (try simp only [List.map_toArray, List.map_cons, List.map_nil]); first | done | rfl | (simp only [List.length_drop, List.length_take]; rfl)) ?_; (with_reducible refine (kind_Is.calls ((rd_T52 l0 x10_1).f0) 512 false _ ?side1 A40.out).mono ?_); (case side1 => exact GW.below HG.out (by repeat (first | (with_reducible first | exact HB.out | apply below_alloc | apply pw_below_drewN | apply below_drew1 | refine below_set ?_ GE220.out) | exact HB.out))); rintro e w60 ⟨rfl, hb⟩; refine ⟨_, rfl, ?_⟩; have n0_ := Aside0.mk (blk_below (g := gb220) (o := .cells #[.string ((rd_T52 l0 x10_1).f0), .slice A219_1 ((rd_T52 l0 x10_1).f1).length c219_1, .string ((rd_T52 l0 x10_1).f2), .slice A219_3 ((rd_T52 l0 x10_1).f3).length c219_3] 52 (0, 0)) (by (with_reducible repeat (first | refine blk_drewN ?_ _ | refine blk_drew ?_ | refine blk_alloc ?_ _)); refine blk_put (cs := #[.string ((rd_T52 l0 x10_1).f0), .slice A219_1 ((rd_T52 l0 x10_1).f1).length c219_1, .string ((rd_T52 l0 x10_1).f2), .slice none 0 0]) ?_ 3 _ rfl; (with_reducible repeat (first | refine blk_drewN ?_ _ | refine blk_drew ?_ | refine blk_alloc ?_ _)); refine blk_put (cs := #[.string ((rd_T52 l0 x10_1).f0), .slice A219_1 ((rd_T52 l0 x10_1).f1).length c219_1, .string (⟨#[]⟩ : ByteArray), .slice none 0 0]) ?_ 2 _ rfl; (with_reducible repeat (first | refine blk_drewN ?_ _ | refine blk_drew ?_ | refine blk_alloc ?_ _)); refine blk_put (cs := #[.string ((rd_T52 l0 x10_1).f0), .slice none 0 0, .string (⟨#[]⟩ : ByteArray), .slice none 0 0]) ?_ 1 _ rfl; (with_reducible repeat (first | refine blk_drewN ?_ _ | refine blk_drew ?_ | refine blk_alloc ?_ _)); refine blk_put (cs := #[.string (⟨#[]⟩ : ByteArray), .slice none 0 0, .string (⟨#[]⟩ : ByteArray), .slice none 0 0]) ?_ 0 _ rfl; (with_reducible repeat (first | refine blk_drewN ?_ _ | refine blk_drew ?_ | refine blk_alloc ?_ _)); exact BK220.out) hb); have n1_ := Aside0.mk (below_step (by repeat (first | (with_reducible first | exact HB.out | apply below_alloc | apply pw_below_drewN | apply below_drew1 | refine below_set ?_ GE220.out) | exact HB.out)) hb); clear BK220; clear HB; have BK220 := n0_; have HB := n1_; clear n0_ n1_; (try clear hb); (try clear hb2); (try clear hk); (try clear hi)))
                  go_meet
                  case rel => exact ⟨_, (true), (by first | rfl | (simp; done) | (simp [*]; done)), H', ⟨by have := HK1.out; first | omega | exact Nat.le_refl _⟩, ⟨by (with_reducible repeat (first | refine blk_drewN ?_ _ | refine blk_drew ?_ | refine blk_alloc ?_ _)); exact BK220.out⟩, ⟨by repeat (first | (with_reducible first | exact HB.out | apply below_alloc | apply pw_below_drewN | apply below_drew1 | refine below_set ?_ GE220.out) | exact HB.out)⟩⟩
              case rest =>
                clear HC37
                try clear c1
                try clear c2
                try clear p2
                try clear q2
                try clear hx2
                try clear c3
                try clear c3b0
                try clear c4
                try clear c4b0
                try clear c5
                try clear c5b0
                try clear c6
                try clear c6b0
                try clear c6b1
                try clear p6
                try clear c7
                try clear c7b0
                try clear c7b1
                try clear c11
                try clear c12
                try clear c12b0
                try clear c16
                try clear c17
                try clear c17b0
                try clear c19
                try clear c19b0
                try clear c20
                try clear c20b0
                try clear c21
                try clear c21b0
                try clear c21b1
                try clear p21
                try clear q21
                try clear hx21
                try clear c22
                try clear p22
                try clear q22
                try clear hx22
                try clear c41
                try clear c42
                try clear c42b0
                try clear c42b1
                try clear c44
                try clear hcz14_0
                try clear hcz14_1
                try clear hcz14_2
                try clear hcz14_3
                try clear hcz16_0
                try clear hcz16_1
                try clear hcz16_2
                try clear hcz16_3
                try clear hcz23_0
                try clear hcz23_1
                try clear hcz23_2
                try clear hcz23_3
                try clear hcz25_0
                try clear hcz25_1
                try clear hcz25_2
                try clear hcz25_3
                try clear hcz27_0
                try clear hcz27_1
                try clear hcz27_2
                try clear hcz27_3
                try clear hcz29_0
                try clear hcz29_1
                try clear hcz29_2
                try clear hcz29_3
                try clear hcz31_0
                try clear hcz31_1
                try clear hcz31_2
                try clear hcz31_3
                try clear hcz33_0
                try clear hcz33_1
                try clear hcz33_2
                try clear hcz33_3
                try clear hcz35_0
                try clear hcz35_1
                try clear hcz35_2
                try clear hcz35_3
                try clear hcz39_0
                try clear hcz39_1
                try clear hcz39_2
                try clear hcz39_3
                try clear hcz46_0
                try clear hcz46_1
                try clear hcz46_2
                try clear hcz46_3
                try clear hcz48_0
                try clear hcz48_1
                try clear hcz48_2
                try clear hcz48_3
                try clear hcz50_0
                try clear hcz50_1
                try clear hcz50_2
                try clear hcz50_3
                try clear hcz52_0
                try clear hcz52_1
                try clear hcz52_2
                try clear hcz52_3
                try clear hcz54_0
                try clear hcz54_1
                try clear hcz54_2
                try clear hcz54_3
                try clear hcz56_0
                try clear hcz56_1
                try clear hcz56_2
                try clear hcz56_3
                try clear hcz58_0
                try clear hcz58_1
                try clear hcz58_2
                try clear hcz58_3
                try clear hcz59_0
                try clear hcz59_1
                try clear hcz59_2
                try clear hcz59_3
                try clear hcz9_0
                try clear hcz9_1
                try clear hcz9_2
                try clear hcz9_3
                try clear hfz14_0
                try clear hfz14_1
                try clear hfz14_2
                try clear hfz14_3
                try clear hfz16_0
                try clear hfz16_1
                try clear hfz16_2
                try clear hfz16_3
                try clear hfz23_0
                try clear hfz23_1
                try clear hfz23_2
                try clear hfz23_3
                try clear hfz25_0
                try clear hfz25_1
                try clear hfz25_2
                try clear hfz25_3
                try clear hfz27_0
                try clear hfz27_1
                try clear hfz27_2
                try clear hfz27_3
                try clear hfz29_0
                try clear hfz29_1
                try clear hfz29_2
                try clear hfz29_3
                try clear hfz31_0
                try clear hfz31_1
                try clear hfz31_2
                try clear hfz31_3
                try clear hfz33_0
                try clear hfz33_1
                try clear hfz33_2
                try clear hfz33_3
                try clear hfz35_0
                try clear hfz35_1
                try clear hfz35_2
                try clear hfz35_3
                try clear hfz39_0
                try clear hfz39_1
                try clear hfz39_2
                try clear hfz39_3
                try clear hfz46_0
                try clear hfz46_1
                try clear hfz46_2
                try clear hfz46_3
                try clear hfz48_0
                try clear hfz48_1
                try clear hfz48_2
                try clear hfz48_3
                try clear hfz50_0
                try clear hfz50_1
                try clear hfz50_2
                try clear hfz50_3
                try clear hfz52_0
                try clear hfz52_1
                try clear hfz52_2
                try clear hfz52_3
                try clear hfz54_0
                try clear hfz54_1
                try clear hfz54_2
                try clear hfz54_3
                try clear hfz56_0
                try clear hfz56_1
                try clear hfz56_2
                try clear hfz56_3
                try clear hfz58_0
                try clear hfz58_1
                try clear hfz58_2
                try clear hfz58_3
                try clear hfz59_0
                try clear hfz59_1
                try clear hfz59_2
                try clear hfz59_3
                try clear hfz9_0
                try clear hfz9_1
                try clear hfz9_2
                try clear hfz9_3
                try clear hx219_0
                try clear hx219_1
                try clear hx219_2
                try clear hx219_3
                try clear hx222_0
                try clear hx222_1
                try clear hx222_2
                try clear hx222_3
                try clear p2
                try clear p219
                try clear p222
                try clear q219
                try clear q222
                obtain ⟨kq, x54_36, rfl, HA, HJ36, BK220, HB⟩ := hcut
                cases kq with
                | zero => exact absurd HA.out (by simp [fit_sound.j1])
                | succ kj36 =>
                  have H := HA.out
                  clear HA
                  simp only [fit_sound.j1] at H
                  by_cases c61 : x54_36 = true
                  · subst c61
                    have H1 : (some false) = some r := by rw [if_pos rfl] at H; exact H
                    clear H
                    have H := H1
                    clear H1
                    obtain rfl := Option.some.inj H
                    go_wp2
                    go_ret
                    exact ⟨by first | rfl | (simp [errW_none, errW_some] <;> rfl) | (simp [*, errW_none, errW_some] <;> rfl), by repeat (first | (with_reducible first | exact HB.out | apply below_alloc | apply pw_below_drewN | apply below_drew1 | refine below_set ?_ GE220.out) | exact HB.out)⟩
                  · replace c61 := Bool.eq_false_iff.mpr c61
                    subst c61
                    have H1 : ((kind_Is.f ((rd_T52 l0 x10_1).f0) 1).bind fun t226 => (if t226 = true then (fit_sound.j2 kj36 l0 l1 l0 (l0.length : Int) x10_1 (!((((rd_T52 l0 x10_1).f3).length : Int) == 0)) ((rd_T52 l0 x10_1).f0) ((rd_T52 l0 x10_1).f1) ((rd_T52 l0 x10_1).f2) ((rd_T52 l0 x10_1).f3)) else (fit_sound.j2 kj36 l0 l1 l0 (l0.length : Int) x10_1 false ((rd_T52 l0 x10_1).f0) ((rd_T52 l0 x10_1).f1) ((rd_T52 l0 x10_1).f2) ((rd_T52 l0 x10_1).f3)))) = some r := by rw [if_neg (show ¬ (false = true) by decide)] at H; exact H
                    clear H
                    have H := H1
                    clear H1
                    have HC62 := Aside0.mk H
                    clear H
                    go_upto_region 10 with (fail)
                    go_cut [77] (fun v77 wc => ∃ (kq : Nat) (x77_61 : Bool), v77 = .bool x77_61 ∧ Aside0 (fit_sound.j2 kq l0 l1 l0 (l0.length : Int) x10_1 x77_61 ((rd_T52 l0 x10_1).f0) ((rd_T52 l0 x10_1).f1) ((rd_T52 l0 x10_1).f2) ((rd_T52 l0 x10_1).f3) = some r) ∧ Aside0 (kq ≤ kj36) ∧ Aside0 (wc.heap[gb220]? = some (.cells #[.string ((rd_T52 l0 x10_1).f0), (.slice A219_1 ((rd_T52 l0 x10_1).f1).length c219_1), .string ((rd_T52 l0 x10_1).f2), (.slice A219_3 ((rd_T52 l0 x10_1).f3).length c219_3)] 52 (0, 0))) ∧ Aside0 (Below w.heap.size w wc))
                    case first =>
                      have H := HC62.out
                      clear HC62
                      replace H := Option.bind_eq_some_iff.mp H
                      obtain ⟨t226, A630, H⟩ := H
                      replace H : (if t226 = true then (fit_sound.j2 kj36 l0 l1 l0 (l0.length : Int) x10_1 (!((((rd_T52 l0 x10_1).f3).length : Int) == 0)) ((rd_T52 l0 x10_1).f0) ((rd_T52 l0 x10_1).f1) ((rd_T52 l0 x10_1).f2) ((rd_T52 l0 x10_1).f3)) else (fit_sound.j2 kj36 l0 l1 l0 (l0.length : Int) x10_1 false ((rd_T52 l0 x10_1).f0) ((rd_T52 l0 x10_1).f1) ((rd_T52 l0 x10_1).f2) ((rd_T52 l0 x10_1).f3))) = some r := H
                      have A63 := Aside0.mk A630
                      clear A630
                      by_cases c64 : t226 = true
                      · subst c64
                        have H1 : (fit_sound.j2 kj36 l0 l1 l0 (l0.length : Int) x10_1 (!((((rd_T52 l0 x10_1).f3).length : Int) == 0)) ((rd_T52 l0 x10_1).f0) ((rd_T52 l0 x10_1).f1) ((rd_T52 l0 x10_1).f2) ((rd_T52 l0 x10_1).f3)) = some r := by rw [if_pos rfl] at H; exact H
                        clear H
                        have H := H1
                        clear H1
                        have H' := Aside0.mk H
                        clear H
                        have hcz65_0 : wc.cell? ⟨gb220, 0, none⟩ = some (.string ((rd_T52 l0 x10_1).f0)) := (blk_cell BK220.out 0).trans rfl
                        have hcz65_1 : wc.cell? ⟨gb220, 1, none⟩ = some (.slice A219_1 ((rd_T52 l0 x10_1).f1).length c219_1) := (blk_cell BK220.out 1).trans rfl
                        have hcz65_2 : wc.cell? ⟨gb220, 2, none⟩ = some (.string ((rd_T52 l0 x10_1).f2)) := (blk_cell BK220.out 2).trans rfl
                        have hcz65_3 : wc.cell? ⟨gb220, 3, none⟩ = some (.slice A219_3 ((rd_T52 l0 x10_1).f3).length c219_3) := (blk_cell BK220.out 3).trans rfl
                        have hfz65_0 := blk_frozen BK220.out 0
                        have hfz65_1 := blk_frozen BK220.out 1
                        have hfz65_2 := blk_frozen BK220.out 2
                        have hfz65_3 := blk_frozen BK220.out 3
                        go_wp2_with (first | ((with_reducible refine gate_callee (f := 16) rfl ?_); refine goesL_ (some 80) rfl rfl Tryd.func16 (by kernel_rfl) rfl #[.string ((rd_T52 l0 x10_1).f0), .int .i64 1] rfl (by (try simp only [List.map_toArray, List.map_cons, List.map_nil]); first | done | rfl | (simp only [List.length_drop, List.length_take]; rfl)) ?_; (with_reducible refine (kind_Is.calls ((rd_T52 l0 x10_1).f0) 1 true _ ?side1 A63.out).mono ?_); (case side1 => exact GW.below HG.out (by repeat (first | (with_reducible first | exact HB.out | apply below_alloc | apply pw_below_drewN | apply below_drew1 | refine below_set ?_ GE220.out) | exact HB.out))); rintro e w66 ⟨rfl, hb⟩; refine ⟨_, rfl, ?_⟩; have n0_ := Aside0.mk (blk_below (g := gb220) (o := .cells #[.string ((rd_T52 l0 x10_1).f0), .slice A219_1 ((rd_T52 l0 x10_1).f1).length c219_1, .string ((rd_T52 l0 x10_1).f2), .slice A219_3 ((rd_T52 l0 x10_1).f3).length c219_3] 52 (0, 0)) (by (with_reducible repeat (first | refine blk_drewN ?_ _ | refine blk_drew ?_ | refine blk_alloc ?_ _)); exact BK220.out) hb); have n1_ := Aside0.mk (below_step (by repeat (first | (with_reducible first | exact HB.out | apply below_alloc | apply pw_below_drewN | apply below_drew1 | refine below_set ?_ GE220.out) | exact HB.out)) hb); clear BK220; clear HB; have BK220 := n0_; have HB := n1_; clear n0_ n1_; (try clear hb); (try clear hb2); (try clear hk); (try clear hi)))
                        go_meet
                        case rel => exact ⟨_, (!((((rd_T52 l0 x10_1).f3).length : Int) == 0)), (by first | rfl | (simp; done) | (simp [*]; done)), H', ⟨by have := HK1.out; have := HJ36.out; first | omega | exact Nat.le_refl _⟩, ⟨by (with_reducible repeat (first | refine blk_drewN ?_ _ | refine blk_drew ?_ | refine blk_alloc ?_ _)); exact BK220.out⟩, ⟨by repeat (first | (with_reducible first | exact HB.out | apply below_alloc | apply pw_below_drewN | apply below_drew1 | refine below_set ?_ GE220.out) | exact HB.out)⟩⟩
                      · replace c64 := Bool.eq_false_iff.mpr c64
                        subst c64
                        have H1 : (fit_sound.j2 kj36 l0 l1 l0 (l0.length : Int) x10_1 false ((rd_T52 l0 x10_1).f0) ((rd_T52 l0 x10_1).f1) ((rd_T52 l0 x10_1).f2) ((rd_T52 l0 x10_1).f3)) = some r := by rw [if_neg (show ¬ (false = true) by decide)] at H; exact H
                        clear H
                        have H := H1
                        clear H1
                        have H' := Aside0.mk H
                        clear H
                        have hcz67_0 : wc.cell? ⟨gb220, 0, none⟩ = some (.string ((rd_T52 l0 x10_1).f0)) := (blk_cell BK220.out 0).trans rfl
                        have hcz67_1 : wc.cell? ⟨gb220, 1, none⟩ = some (.slice A219_1 ((rd_T52 l0 x10_1).f1).length c219_1) := (blk_cell BK220.out 1).trans rfl
                        have hcz67_2 : wc.cell? ⟨gb220, 2, none⟩ = some (.string ((rd_T52 l0 x10_1).f2)) := (blk_cell BK220.out 2).trans rfl
                        have hcz67_3 : wc.cell? ⟨gb220, 3, none⟩ = some (.slice A219_3 ((rd_T52 l0 x10_1).f3).length c219_3) := (blk_cell BK220.out 3).trans rfl
                        have hfz67_0 := blk_frozen BK220.out 0
                        have hfz67_1 := blk_frozen BK220.out 1
                        have hfz67_2 := blk_frozen BK220.out 2
                        have hfz67_3 := blk_frozen BK220.out 3
                        go_wp2_with (first | ((with_reducible refine gate_callee (f := 16) rfl ?_); refine goesL_ (some 80) rfl rfl Tryd.func16 (by kernel_rfl) rfl #[.string ((rd_T52 l0 x10_1).f0), .int .i64 1] rfl (by (try simp only [List.map_toArray, List.map_cons, List.map_nil]); first | done | rfl | (simp only [List.length_drop, List.length_take]; rfl)) ?_; (with_reducible refine (kind_Is.calls ((rd_T52 l0 x10_1).f0) 1 false _ ?side1 A63.out).mono ?_); (case side1 => exact GW.below HG.out (by repeat (first | (with_reducible first | exact HB.out | apply below_alloc | apply pw_below_drewN | apply below_drew1 | refine below_set ?_ GE220.out) | exact HB.out))); rintro e w68 ⟨rfl, hb⟩; refine ⟨_, rfl, ?_⟩; have n0_ := Aside0.mk (blk_below (g := gb220) (o := .cells #[.string ((rd_T52 l0 x10_1).f0), .slice A219_1 ((rd_T52 l0 x10_1).f1).length c219_1, .string ((rd_T52 l0 x10_1).f2), .slice A219_3 ((rd_T52 l0 x10_1).f3).length c219_3] 52 (0, 0)) (by (with_reducible repeat (first | refine blk_drewN ?_ _ | refine blk_drew ?_ | refine blk_alloc ?_ _)); exact BK220.out) hb); have n1_ := Aside0.mk (below_step (by repeat (first | (with_reducible first | exact HB.out | apply below_alloc | apply pw_below_drewN | apply below_drew1 | refine below_set ?_ GE220.out) | exact HB.out)) hb); clear BK220; clear HB; have BK220 := n0_; have HB := n1_; clear n0_ n1_; (try clear hb); (try clear hb2); (try clear hk); (try clear hi)))
                        go_meet
                        case rel => exact ⟨_, (false), (by first | rfl | (simp; done) | (simp [*]; done)), H', ⟨by have := HK1.out; have := HJ36.out; first | omega | exact Nat.le_refl _⟩, ⟨by (with_reducible repeat (first | refine blk_drewN ?_ _ | refine blk_drew ?_ | refine blk_alloc ?_ _)); exact BK220.out⟩, ⟨by repeat (first | (with_reducible first | exact HB.out | apply below_alloc | apply pw_below_drewN | apply below_drew1 | refine below_set ?_ GE220.out) | exact HB.out)⟩⟩
                    case rest =>
                      clear HC62
                      try clear c1
                      try clear c2
                      try clear p2
                      try clear q2
                      try clear hx2
                      try clear c3
                      try clear c3b0
                      try clear c4
                      try clear c4b0
                      try clear c5
                      try clear c5b0
                      try clear c6
                      try clear c6b0
                      try clear c6b1
                      try clear p6
                      try clear c7
                      try clear c7b0
                      try clear c7b1
                      try clear c11
                      try clear c12
                      try clear c12b0
                      try clear c16
                      try clear c17
                      try clear c17b0
                      try clear c19
                      try clear c19b0
                      try clear c20
                      try clear c20b0
                      try clear c21
                      try clear c21b0
                      try clear c21b1
                      try clear p21
                      try clear q21
                      try clear hx21
                      try clear c22
                      try clear p22
                      try clear q22
                      try clear hx22
                      try clear c41
                      try clear c42
                      try clear c42b0
                      try clear c42b1
                      try clear c44
                      try clear c61
                      try clear c64
                      try clear p64
                      try clear hcz14_0
                      try clear hcz14_1
                      try clear hcz14_2
                      try clear hcz14_3
                      try clear hcz16_0
                      try clear hcz16_1
                      try clear hcz16_2
                      try clear hcz16_3
                      try clear hcz23_0
                      try clear hcz23_1
                      try clear hcz23_2
                      try clear hcz23_3
                      try clear hcz25_0
                      try clear hcz25_1
                      try clear hcz25_2
                      try clear hcz25_3
                      try clear hcz27_0
                      try clear hcz27_1
                      try clear hcz27_2
                      try clear hcz27_3
                      try clear hcz29_0
                      try clear hcz29_1
                      try clear hcz29_2
                      try clear hcz29_3
                      try clear hcz31_0
                      try clear hcz31_1
                      try clear hcz31_2
                      try clear hcz31_3
                      try clear hcz33_0
                      try clear hcz33_1
                      try clear hcz33_2
                      try clear hcz33_3
                      try clear hcz35_0
                      try clear hcz35_1
                      try clear hcz35_2
                      try clear hcz35_3
                      try clear hcz39_0
                      try clear hcz39_1
                      try clear hcz39_2
                      try clear hcz39_3
                      try clear hcz46_0
                      try clear hcz46_1
                      try clear hcz46_2
                      try clear hcz46_3
                      try clear hcz48_0
                      try clear hcz48_1
                      try clear hcz48_2
                      try clear hcz48_3
                      try clear hcz50_0
                      try clear hcz50_1
                      try clear hcz50_2
                      try clear hcz50_3
                      try clear hcz52_0
                      try clear hcz52_1
                      try clear hcz52_2
                      try clear hcz52_3
                      try clear hcz54_0
                      try clear hcz54_1
                      try clear hcz54_2
                      try clear hcz54_3
                      try clear hcz56_0
                      try clear hcz56_1
                      try clear hcz56_2
                      try clear hcz56_3
                      try clear hcz58_0
                      try clear hcz58_1
                      try clear hcz58_2
                      try clear hcz58_3
                      try clear hcz59_0
                      try clear hcz59_1
                      try clear hcz59_2
                      try clear hcz59_3
                      try clear hcz65_0
                      try clear hcz65_1
                      try clear hcz65_2
                      try clear hcz65_3
                      try clear hcz67_0
                      try clear hcz67_1
                      try clear hcz67_2
                      try clear hcz67_3
                      try clear hcz9_0
                      try clear hcz9_1
                      try clear hcz9_2
                      try clear hcz9_3
                      try clear hfz14_0
                      try clear hfz14_1
                      try clear hfz14_2
                      try clear hfz14_3
                      try clear hfz16_0
                      try clear hfz16_1
                      try clear hfz16_2
                      try clear hfz16_3
                      try clear hfz23_0
                      try clear hfz23_1
                      try clear hfz23_2
                      try clear hfz23_3
                      try clear hfz25_0
                      try clear hfz25_1
                      try clear hfz25_2
                      try clear hfz25_3
                      try clear hfz27_0
                      try clear hfz27_1
                      try clear hfz27_2
                      try clear hfz27_3
                      try clear hfz29_0
                      try clear hfz29_1
                      try clear hfz29_2
                      try clear hfz29_3
                      try clear hfz31_0
                      try clear hfz31_1
                      try clear hfz31_2
                      try clear hfz31_3
                      try clear hfz33_0
                      try clear hfz33_1
                      try clear hfz33_2
                      try clear hfz33_3
                      try clear hfz35_0
                      try clear hfz35_1
                      try clear hfz35_2
                      try clear hfz35_3
                      try clear hfz39_0
                      try clear hfz39_1
                      try clear hfz39_2
                      try clear hfz39_3
                      try clear hfz46_0
                      try clear hfz46_1
                      try clear hfz46_2
                      try clear hfz46_3
                      try clear hfz48_0
                      try clear hfz48_1
                      try clear hfz48_2
                      try clear hfz48_3
                      try clear hfz50_0
                      try clear hfz50_1
                      try clear hfz50_2
                      try clear hfz50_3
                      try clear hfz52_0
                      try clear hfz52_1
                      try clear hfz52_2
                      try clear hfz52_3
                      try clear hfz54_0
                      try clear hfz54_1
                      try clear hfz54_2
                      try clear hfz54_3
                      try clear hfz56_0
                      try clear hfz56_1
                      try clear hfz56_2
                      try clear hfz56_3
                      try clear hfz58_0
                      try clear hfz58_1
                      try clear hfz58_2
                      try clear hfz58_3
                      try clear hfz59_0
                      try clear hfz59_1
                      try clear hfz59_2
                      try clear hfz59_3
                      try clear hfz65_0
                      try clear hfz65_1
                      try clear hfz65_2
                      try clear hfz65_3
                      try clear hfz67_0
                      try clear hfz67_1
                      try clear hfz67_2
                      try clear hfz67_3
                      try clear hfz9_0
                      try clear hfz9_1
                      try clear hfz9_2
                      try clear hfz9_3
                      try clear hx219_0
                      try clear hx219_1
                      try clear hx219_2
                      try clear hx219_3
                      try clear hx222_0
                      try clear hx222_1
                      try clear hx222_2
                      try clear hx222_3
                      try clear p2
                      try clear p21
                      try clear p219
                      try clear p22
                      try clear p222
                      try clear p6
                      try clear q2
                      try clear q21
                      try clear q219
                      try clear q22
                      try clear q222
                      obtain ⟨kq, x77_61, rfl, HA, HJ61, BK220, HB⟩ := hcut
                      cases kq with
                      | zero => exact absurd HA.out (by simp [fit_sound.j2])
                      | succ kj61 =>
                        have H := HA.out
                        clear HA
                        simp only [fit_sound.j2] at H
                        by_cases c69 : x77_61 = true
                        · subst c69
                          have H1 : (some false) = some r := by rw [if_pos rfl] at H; exact H
                          clear H
                          have H := H1
                          clear H1
                          obtain rfl := Option.some.inj H
                          go_wp2
                          go_ret
                          exact ⟨by first | rfl | (simp [errW_none, errW_some] <;> rfl) | (simp [*, errW_none, errW_some] <;> rfl), by repeat (first | (with_reducible first | exact HB.out | apply below_alloc | apply pw_below_drewN | apply below_drew1 | refine below_set ?_ GE220.out) | exact HB.out)⟩
                        · replace c69 := Bool.eq_false_iff.mpr c69
                          subst c69
                          have H1 : ((slices_Clip_string_string.f l1).bind fun t227 => ((some (([((rd_T52 l0 x10_1).f0)] : List ByteArray) : List ByteArray)).bind fun y230 => (if t227.length + y230.length < 8796093022208 then ((fit_sound.f kj61 ((rd_T52 l0 x10_1).f3) (t227 ++ y230)).bind fun t236 => (if t236 = true then (fit_sound.l0 kj61 l0 l1 l0 (l0.length : Int) (wrap64 (x10_1 + 1))) else (some false))) else (none)))) = some r := by rw [if_neg (show ¬ (false = true) by decide)] at H; exact H
                          clear H
                          have H := H1
                          clear H1
                          replace H := Option.bind_eq_some_iff.mp H
                          obtain ⟨t227, A700, H⟩ := H
                          replace H : ((some (([((rd_T52 l0 x10_1).f0)] : List ByteArray) : List ByteArray)).bind fun y230 => (if t227.length + y230.length < 8796093022208 then ((fit_sound.f kj61 ((rd_T52 l0 x10_1).f3) (t227 ++ y230)).bind fun t236 => (if t236 = true then (fit_sound.l0 kj61 l0 l1 l0 (l0.length : Int) (wrap64 (x10_1 + 1))) else (some false))) else (none))) = some r := H
                          have A70 := Aside0.mk A700
                          clear A700
                          obtain ⟨y230, hy230⟩ : ∃ y_ : List ByteArray, y_ = (([((rd_T52 l0 x10_1).f0)] : List ByteArray)) := ⟨_, rfl⟩
                          replace H : (if t227.length + y230.length < 8796093022208 then ((fit_sound.f kj61 ((rd_T52 l0 x10_1).f3) (t227 ++ y230)).bind fun t236 => (if t236 = true then (fit_sound.l0 kj61 l0 l1 l0 (l0.length : Int) (wrap64 (x10_1 + 1))) else (some false))) else (none)) = some r := by first | (rw [hy230]; with_reducible exact H) | (have H2_ := (Option.bind_some _ _).symm.trans H; rw [hy230]; with_reducible exact H2_) | (have H2_ := (Option.bind_some _ _).symm.trans H; with_reducible exact H2_) | with_reducible exact H | (rw [hy230]; exact H) | exact H
                          have Ny230 := Aside0.mk hy230
                          clear hy230
                          by_cases c71 : t227.length + y230.length < 8796093022208
                          · rw [if_pos c71] at H
                            have LMc71 := Aside0.mk c71
                            clear c71
                            obtain ⟨y233, hy233⟩ : ∃ y_ : List ByteArray, y_ = (t227 ++ y230) := ⟨_, rfl⟩
                            replace H : ((fit_sound.f kj61 ((rd_T52 l0 x10_1).f3) y233).bind fun t236 => (if t236 = true then (fit_sound.l0 kj61 l0 l1 l0 (l0.length : Int) (wrap64 (x10_1 + 1))) else (some false))) = some r := by first | (rw [hy233]; with_reducible exact H) | (have H2_ := (Option.bind_some _ _).symm.trans H; rw [hy233]; with_reducible exact H2_) | (have H2_ := (Option.bind_some _ _).symm.trans H; with_reducible exact H2_) | with_reducible exact H | (rw [hy233]; exact H) | exact H
                            have Ny233 := Aside0.mk hy233
                            clear hy233
                            replace H := Option.bind_eq_some_iff.mp H
                            obtain ⟨t236, A720, H⟩ := H
                            replace H : (if t236 = true then (fit_sound.l0 kj61 l0 l1 l0 (l0.length : Int) (wrap64 (x10_1 + 1))) else (some false)) = some r := H
                            have A72 := Aside0.mk A720
                            clear A720
                            by_cases c73 : t236 = true
                            · subst c73
                              have H1 : (fit_sound.l0 kj61 l0 l1 l0 (l0.length : Int) (wrap64 (x10_1 + 1))) = some r := by rw [if_pos rfl] at H; exact H
                              clear H
                              have H := H1
                              clear H1
                              have H' := Aside0.mk H
                              clear H
                              try go_wp2
                              have n0_ := Aside0.mk (blk_drew BK220.out)
                              have n1_ := Aside0.mk (below_drew1 HB.out)
                              clear BK220
                              clear HB
                              have BK220 := n0_
                              have HB := n1_
                              clear n0_ n1_
                              refine start_ (n := 11) (S := fun w' => w'.cell? ⟨gb220, 0, none⟩ = some (.string ((rd_T52 l0 x10_1).f0)) ∧ w'.cell? ⟨gb220, 1, none⟩ = some (.slice A219_1 ((rd_T52 l0 x10_1).f1).length c219_1) ∧ w'.cell? ⟨gb220, 2, none⟩ = some (.string ((rd_T52 l0 x10_1).f2)) ∧ w'.cell? ⟨gb220, 3, none⟩ = some (.slice A219_3 ((rd_T52 l0 x10_1).f3).length c219_3)) (ds := []) #[false, false, false, false, false, false, false, false, false, false, false] (by kernel_rfl) rfl rfl ⟨(blk_cell BK220.out 0).trans rfl, (blk_cell BK220.out 1).trans rfl, (blk_cell BK220.out 2).trans rfl, (blk_cell BK220.out 3).trans rfl⟩ (fun hHeld => ?_); refine with_tabW fit_sound.tab12 fit_sound.bits12 (fun HT_ HW_ => ?_)
                              generalize wc.drew = w74 at BK220 HB hHeld ⊢
                              refine pure_ (i := 0) (N := some 86) (v := ?_) (a' := ?_) #[true, false, false, false, false, false, false, false, false, false, false] rfl rfl (any_of HT_.out (by kernel_rfl)) (fun _ _ _ h => h) (Or.inl ⟨by rfl, ?_⟩) ?_ ?_
                              rotate_left
                              · intro w'
                                go_simp
                                with_reducible rfl
                              rotate_left
                              · simp only [Act.put, List.setIfInBounds_toArray, List.set_cons_zero, List.set_cons_succ, i64_w, i32_w]
                                rfl
                              refine pure_ (i := 2) (N := some 88) (v := ?_) (a' := ?_) #[true, false, true, false, false, false, false, false, false, false, false] rfl rfl (any_of HT_.out (by kernel_rfl)) (fun _ _ _ h => h) (Or.inl ⟨by rfl, ?_⟩) ?_ ?_
                              rotate_left
                              · intro w'
                                go_simp
                                with_reducible rfl
                              rotate_left
                              · simp only [Act.put, List.setIfInBounds_toArray, List.set_cons_zero, List.set_cons_succ, i64_w, i32_w]
                                rfl
                              refine pure_ (i := 4) (N := some 90) (v := ?_) (a' := ?_) #[true, false, true, false, true, false, false, false, false, false, false] rfl rfl (any_of HT_.out (by kernel_rfl)) (fun _ _ _ h => h) (Or.inl ⟨by rfl, ?_⟩) ?_ ?_
                              rotate_left
                              · intro w'
                                go_simp
                                with_reducible rfl
                              rotate_left
                              · simp only [Act.put, List.setIfInBounds_toArray, List.set_cons_zero, List.set_cons_succ, i64_w, i32_w]
                                rfl
                              refine take_ (i := 1) (N := some 87) (v := ?_) (a' := ?_) #[true, true, true, false, true, false, false, false, false, false, false] rfl rfl (take_ofW HT_.out HW_.out (by kernel_rfl)) (fun _ _ _ h => h) (Or.inl ⟨by rfl, ?_⟩) hHeld ?_ ?_
                              rotate_left
                              · rintro w' ⟨s0, s1, s2, s3⟩
                                go_simp
                                with_reducible rfl
                              rotate_left
                              · simp only [Act.put, List.setIfInBounds_toArray, List.set_cons_zero, List.set_cons_succ, i64_w, i32_w]
                                rfl
                              refine take_ (i := 5) (N := some 91) (v := ?_) (a' := ?_) #[true, true, true, false, true, true, false, false, false, false, false] rfl rfl (take_ofW HT_.out HW_.out (by kernel_rfl)) (fun _ _ _ h => h) (Or.inl ⟨by rfl, ?_⟩) hHeld ?_ ?_
                              rotate_left
                              · rintro w' ⟨s0, s1, s2, s3⟩
                                go_simp
                                with_reducible rfl
                              rotate_left
                              · simp only [Act.put, List.setIfInBounds_toArray, List.set_cons_zero, List.set_cons_succ, i64_w, i32_w]
                                rfl
                              refine join_ (σ := Value × Value) 4 #[true, true, true, true, true, true, true, false, false, false, false] (fun s_ => [(89, s_.1), (92, s_.2)]) (fun s_ w' => (w'.cell? ⟨gb220, 0, none⟩ = some (.string ((rd_T52 l0 x10_1).f0)) ∧ w'.cell? ⟨gb220, 1, none⟩ = some (.slice A219_1 ((rd_T52 l0 x10_1).f1).length c219_1) ∧ w'.cell? ⟨gb220, 2, none⟩ = some (.string ((rd_T52 l0 x10_1).f2)) ∧ w'.cell? ⟨gb220, 3, none⟩ = some (.slice A219_3 ((rd_T52 l0 x10_1).f3).length c219_3)) ∧ (ClipF w' s_.1 t227) ∧ (Kd.R Kd.string 9 w' w.heap.size (fun _ => True) s_.2 y230) ∧ (w'.heap[gb220]? = some (.cells #[.string ((rd_T52 l0 x10_1).f0), .slice A219_1 ((rd_T52 l0 x10_1).f1).length c219_1, .string ((rd_T52 l0 x10_1).f2), .slice A219_3 ((rd_T52 l0 x10_1).f3).length c219_3] 52 (0, 0))) ∧ (Below w.heap.size w w')) ?_ ?_
                              rotate_left
                              · intro hCont
                                refine two_ (i := 3) (j := 6) (Ni := some 89) (Nj := some 92) #[true, true, true, true, true, true, false, false, false, false, false] #[true, true, true, false, true, true, true, false, false, false, false] rfl rfl rfl rfl (two_of HT_.out (by kernel_rfl)) (by decide) (by decide) (fun K hK => ?_) (fun K hK => ?_)
                                · skip
                                  refine goes_ Tryd.func80 (by kernel_rfl) rfl #[.slice A1 l1.length c1] (by rfl) rfl rfl (by (try simp only [List.map_toArray, List.map_cons, List.map_nil]); first | done | rfl | (simp only [List.length_drop, List.length_take]; rfl)) ?_
                                  with_reducible refine (slices_Clip_string_string.calls _ _ l1 t227 _ ?side1 ?side2 A70.out).mono ?_
                                  (case side1 => repeat (first | exact (Kd.C_below HR1.out HB.out) | (with_reducible refine Kd.C_alloc ?_ _) | (with_reducible refine Kd.C_drewN ?_ _) | (with_reducible refine Kd.C_drew ?_)))
                                  (case side2 => exact HC1.out)
                                  rintro e w75 ⟨v228, rfl, ho0, hb⟩
                                  refine ⟨_, rfl, ?_⟩
                                  have n0_ := Aside0.mk ho0
                                  have n1_ := Aside0.mk (blk_below (g := gb220) (o := .cells #[.string ((rd_T52 l0 x10_1).f0), .slice A219_1 ((rd_T52 l0 x10_1).f1).length c219_1, .string ((rd_T52 l0 x10_1).f2), .slice A219_3 ((rd_T52 l0 x10_1).f3).length c219_3] 52 (0, 0)) (by (with_reducible repeat (first | refine blk_drewN ?_ _ | refine blk_drew ?_ | refine blk_alloc ?_ _)); exact BK220.out) hb)
                                  have n2_ := Aside0.mk (below_step (by repeat (first | (with_reducible first | exact HB.out | apply below_alloc | apply pw_below_drewN | apply below_drew1 | refine below_set ?_ GE220.out) | exact HB.out)) hb)
                                  clear BK220
                                  clear HB
                                  have HO229 := n0_
                                  have BK220 := n1_
                                  have HB := n2_
                                  clear n0_ n1_ n2_
                                  (try clear hb)
                                  (try clear hb2)
                                  (try clear hk)
                                  (try clear hi)
                                  (try clear ho0)
                                  refine hK.out _ _ ⟨(blk_cell BK220.out 0).trans rfl, (blk_cell BK220.out 1).trans rfl, (blk_cell BK220.out 2).trans rfl, (blk_cell BK220.out 3).trans rfl⟩ (fun hHeld => ?_)
                                  clear hK K
                                  refine norm_ (a' := ?_) ?_ ?_
                                  rotate_left
                                  · show Act.put _ (some 89) _ = _
                                    simp only [Act.put, List.setIfInBounds_toArray, List.set_cons_zero, List.set_cons_succ, i64_w, i32_w]
                                    rfl
                                  refine one_ (i := 6) (N := some 92) #[true, true, true, true, true, true, true, false, false, false, false] rfl rfl (one_of HT_.out (by kernel_rfl)) (by decide) (fun K hK => ?_)
                                  refine Kd.R_lit_step Kd.string _ 9 ?hg (N := 92) ?hd (xs := ([((rd_T52 l0 x10_1).f0)] : List ByteArray)) (inner := [.string ((rd_T52 l0 x10_1).f0)]) (ok := fun _ => True) (okp := fun _ => True) ?hr ?hp (fun _ hk => hk) trivial (Below.refl _ _) (Nat.le_refl _) (by simp) ?_; (case hd => rfl); (case hg => rfl); (case hr => first | (go_simp; done) | (go_simp; rfl)); (case hp => exact (Reps.one (show Kd.M Kd.string _ _ _ ((rd_T52 l0 x10_1).f0) [.string ((rd_T52 l0 x10_1).f0)] from rfl) (Reps.none _ _)))
                                  intro v231 w76 ho77 hb hg_ hnew_
                                  clear hg_ hnew_
                                  (first | rw [← Ny230.out] at ho77 | (simp only [Int.reduceToNat] at ho77; rw [← Ny230.out] at ho77))
                                  have n0_ := Aside0.mk (ClipF.below (by repeat (first | exact HO229.out | apply ClipF.alloc | apply ClipF.drewN | apply ClipF.drew)) hb)
                                  have n1_ := Aside0.mk (Kd.R_lower ho77 (below_size (by repeat (first | (with_reducible first | exact HB.out | apply below_alloc | apply pw_below_drewN | apply below_drew1 | refine below_set ?_ GE220.out) | exact HB.out))))
                                  have n2_ := Aside0.mk (blk_below (g := gb220) (o := .cells #[.string ((rd_T52 l0 x10_1).f0), .slice A219_1 ((rd_T52 l0 x10_1).f1).length c219_1, .string ((rd_T52 l0 x10_1).f2), .slice A219_3 ((rd_T52 l0 x10_1).f3).length c219_3] 52 (0, 0)) (by (with_reducible repeat (first | refine blk_drewN ?_ _ | refine blk_drew ?_ | refine blk_alloc ?_ _)); exact BK220.out) hb)
                                  have n3_ := Aside0.mk (below_step (by repeat (first | (with_reducible first | exact HB.out | apply below_alloc | apply pw_below_drewN | apply below_drew1 | refine below_set ?_ GE220.out) | exact HB.out)) hb)
                                  clear HO229
                                  clear BK220
                                  clear HB
                                  have HO229 := n0_
                                  have HO232 := n1_
                                  have BK220 := n2_
                                  have HB := n3_
                                  clear n0_ n1_ n2_ n3_
                                  clear hb ho77
                                  refine hK.out _ _ ⟨(blk_cell BK220.out 0).trans rfl, (blk_cell BK220.out 1).trans rfl, (blk_cell BK220.out 2).trans rfl, (blk_cell BK220.out 3).trans rfl⟩ (fun hHeld => ?_)
                                  clear hK K
                                  refine norm_ (a' := ?_) ?_ ?_
                                  rotate_left
                                  · show Act.put _ (some 92) _ = _
                                    simp only [Act.put, List.setIfInBounds_toArray, List.set_cons_zero, List.set_cons_succ, i64_w, i32_w]
                                    rfl
                                  exact norm_ (by simp only [putAll, Act.put, List.setIfInBounds_toArray, List.set_cons_zero, List.set_cons_succ]) (hCont (v228, v231) _ ⟨hHeld, (by repeat (first | exact HO229.out | apply ClipF.alloc | apply ClipF.drewN | apply ClipF.drew)), (by (with_reducible repeat (first | apply Kd.R_alloc | apply Kd.R_drewN | apply Kd.R_drew)); exact Kd.R_mono HO232.out (fun _ hk => trivial)), (by (with_reducible repeat (first | refine blk_drewN ?_ _ | refine blk_drew ?_ | refine blk_alloc ?_ _)); exact BK220.out), (by repeat (first | (with_reducible first | exact HB.out | apply below_alloc | apply pw_below_drewN | apply below_drew1 | refine below_set ?_ GE220.out) | exact HB.out))⟩)
                                · skip
                                  refine Kd.R_lit_step Kd.string _ 9 ?hg (N := 92) ?hd (xs := ([((rd_T52 l0 x10_1).f0)] : List ByteArray)) (inner := [.string ((rd_T52 l0 x10_1).f0)]) (ok := fun _ => True) (okp := fun _ => True) ?hr ?hp (fun _ hk => hk) trivial (Below.refl _ _) (Nat.le_refl _) (by simp) ?_; (case hd => rfl); (case hg => rfl); (case hr => first | (go_simp; done) | (go_simp; rfl)); (case hp => exact (Reps.one (show Kd.M Kd.string _ _ _ ((rd_T52 l0 x10_1).f0) [.string ((rd_T52 l0 x10_1).f0)] from rfl) (Reps.none _ _)))
                                  intro v231 w75 ho76 hb hg_ hnew_
                                  clear hg_ hnew_
                                  (first | rw [← Ny230.out] at ho76 | (simp only [Int.reduceToNat] at ho76; rw [← Ny230.out] at ho76))
                                  have n0_ := Aside0.mk (Kd.R_lower ho76 (below_size (by repeat (first | (with_reducible first | exact HB.out | apply below_alloc | apply pw_below_drewN | apply below_drew1 | refine below_set ?_ GE220.out) | exact HB.out))))
                                  have n1_ := Aside0.mk (blk_below (g := gb220) (o := .cells #[.string ((rd_T52 l0 x10_1).f0), .slice A219_1 ((rd_T52 l0 x10_1).f1).length c219_1, .string ((rd_T52 l0 x10_1).f2), .slice A219_3 ((rd_T52 l0 x10_1).f3).length c219_3] 52 (0, 0)) (by (with_reducible repeat (first | refine blk_drewN ?_ _ | refine blk_drew ?_ | refine blk_alloc ?_ _)); exact BK220.out) hb)
                                  have n2_ := Aside0.mk (below_step (by repeat (first | (with_reducible first | exact HB.out | apply below_alloc | apply pw_below_drewN | apply below_drew1 | refine below_set ?_ GE220.out) | exact HB.out)) hb)
                                  clear BK220
                                  clear HB
                                  have HO232 := n0_
                                  have BK220 := n1_
                                  have HB := n2_
                                  clear n0_ n1_ n2_
                                  clear hb ho76
                                  refine hK.out _ _ ⟨(blk_cell BK220.out 0).trans rfl, (blk_cell BK220.out 1).trans rfl, (blk_cell BK220.out 2).trans rfl, (blk_cell BK220.out 3).trans rfl⟩ (fun hHeld => ?_)
                                  clear hK K
                                  refine norm_ (a' := ?_) ?_ ?_
                                  rotate_left
                                  · show Act.put _ (some 92) _ = _
                                    simp only [Act.put, List.setIfInBounds_toArray, List.set_cons_zero, List.set_cons_succ, i64_w, i32_w]
                                    rfl
                                  refine one_ (i := 3) (N := some 89) #[true, true, true, true, true, true, true, false, false, false, false] rfl rfl (one_of HT_.out (by kernel_rfl)) (by decide) (fun K hK => ?_)
                                  refine goes_ Tryd.func80 (by kernel_rfl) rfl #[.slice A1 l1.length c1] (by rfl) rfl rfl (by (try simp only [List.map_toArray, List.map_cons, List.map_nil]); first | done | rfl | (simp only [List.length_drop, List.length_take]; rfl)) ?_
                                  with_reducible refine (slices_Clip_string_string.calls _ _ l1 t227 _ ?side1 ?side2 A70.out).mono ?_
                                  (case side1 => repeat (first | exact (Kd.C_below HR1.out HB.out) | (with_reducible refine Kd.C_alloc ?_ _) | (with_reducible refine Kd.C_drewN ?_ _) | (with_reducible refine Kd.C_drew ?_)))
                                  (case side2 => exact HC1.out)
                                  rintro e w77 ⟨v228, rfl, ho0, hb⟩
                                  refine ⟨_, rfl, ?_⟩
                                  have n0_ := Aside0.mk (Kd.R_below (by (with_reducible repeat (first | apply Kd.R_alloc | apply Kd.R_drewN | apply Kd.R_drew)); exact HO232.out) hb)
                                  have n1_ := Aside0.mk ho0
                                  have n2_ := Aside0.mk (blk_below (g := gb220) (o := .cells #[.string ((rd_T52 l0 x10_1).f0), .slice A219_1 ((rd_T52 l0 x10_1).f1).length c219_1, .string ((rd_T52 l0 x10_1).f2), .slice A219_3 ((rd_T52 l0 x10_1).f3).length c219_3] 52 (0, 0)) (by (with_reducible repeat (first | refine blk_drewN ?_ _ | refine blk_drew ?_ | refine blk_alloc ?_ _)); exact BK220.out) hb)
                                  have n3_ := Aside0.mk (below_step (by repeat (first | (with_reducible first | exact HB.out | apply below_alloc | apply pw_below_drewN | apply below_drew1 | refine below_set ?_ GE220.out) | exact HB.out)) hb)
                                  clear HO232
                                  clear BK220
                                  clear HB
                                  have HO232 := n0_
                                  have HO229 := n1_
                                  have BK220 := n2_
                                  have HB := n3_
                                  clear n0_ n1_ n2_ n3_
                                  (try clear hb)
                                  (try clear hb2)
                                  (try clear hk)
                                  (try clear hi)
                                  (try clear ho0)
                                  refine hK.out _ _ ⟨(blk_cell BK220.out 0).trans rfl, (blk_cell BK220.out 1).trans rfl, (blk_cell BK220.out 2).trans rfl, (blk_cell BK220.out 3).trans rfl⟩ (fun hHeld => ?_)
                                  clear hK K
                                  refine norm_ (a' := ?_) ?_ ?_
                                  rotate_left
                                  · show Act.put _ (some 89) _ = _
                                    simp only [Act.put, List.setIfInBounds_toArray, List.set_cons_zero, List.set_cons_succ, i64_w, i32_w]
                                    rfl
                                  exact norm_ (by simp only [putAll, Act.put, List.setIfInBounds_toArray, List.set_cons_zero, List.set_cons_succ]) (hCont (v228, v231) _ ⟨hHeld, (by repeat (first | exact HO229.out | apply ClipF.alloc | apply ClipF.drewN | apply ClipF.drew)), (by (with_reducible repeat (first | apply Kd.R_alloc | apply Kd.R_drewN | apply Kd.R_drew)); exact Kd.R_mono HO232.out (fun _ hk => trivial)), (by (with_reducible repeat (first | refine blk_drewN ?_ _ | refine blk_drew ?_ | refine blk_alloc ?_ _)); exact BK220.out), (by repeat (first | (with_reducible first | exact HB.out | apply below_alloc | apply pw_below_drewN | apply below_drew1 | refine below_set ?_ GE220.out) | exact HB.out))⟩)
                              rintro ⟨v228, v231⟩ w78 ⟨hS_, h0_, h1_, h2_, h3_⟩
                              have n0_ : Aside0 (ClipF w78 v228 t227) := ⟨h0_⟩
                              have n1_ : Aside0 (Kd.R Kd.string 9 w78 w.heap.size (fun _ => True) v231 y230) := ⟨h1_⟩
                              have n2_ : Aside0 (w78.heap[gb220]? = some (.cells #[.string ((rd_T52 l0 x10_1).f0), .slice A219_1 ((rd_T52 l0 x10_1).f1).length c219_1, .string ((rd_T52 l0 x10_1).f2), .slice A219_3 ((rd_T52 l0 x10_1).f3).length c219_3] 52 (0, 0))) := ⟨h2_⟩
                              have n3_ : Aside0 (Below w.heap.size w w78) := ⟨h3_⟩
                              clear BK220
                              clear HB
                              clear h0_ h1_ h2_ h3_
                              have HO229 := n0_
                              have HO232 := n1_
                              have BK220 := n2_
                              have HB := n3_
                              clear n0_ n1_ n2_ n3_
                              have hHeld : w78.cell? ⟨gb220, 0, none⟩ = some (.string ((rd_T52 l0 x10_1).f0)) ∧ w78.cell? ⟨gb220, 1, none⟩ = some (.slice A219_1 ((rd_T52 l0 x10_1).f1).length c219_1) ∧ w78.cell? ⟨gb220, 2, none⟩ = some (.string ((rd_T52 l0 x10_1).f2)) ∧ w78.cell? ⟨gb220, 3, none⟩ = some (.slice A219_3 ((rd_T52 l0 x10_1).f3).length c219_3) := hS_
                              obtain ⟨Ao80, co80, eo80⟩ := Kd.R_slice HO232.out
                              (first | subst eo80 | (injection eo80 with f1_ f2_ f3_; have f4_ := f1_.symm; have f5_ := f3_.symm; clear f1_ f2_ f3_; subst f4_; subst f5_))
                              refine norm_ (a' := ?_) ?_ ?_
                              rotate_left
                              · simp only [putAll, Act.put, List.setIfInBounds_toArray, List.set_cons_zero, List.set_cons_succ]
                                rfl
                              refine one_ (i := 7) (N := some 93) #[true, true, true, true, true, true, true, true, false, false, false] rfl rfl (one_of HT_.out (by kernel_rfl)) (by decide) (fun K hK => ?_)
                              refine clip_append_step (w0 := w) w.heap.size (by rfl) (.tmp 89) (.tmp 92) (by rfl) v228 t227 y230 _ _ _ rfl rfl ?aO ?aR ?aM ?aB ?aS ?aL ?_
                              (case aR => repeat (first | exact (Kd.R_reads' HO232.out).2.2 | (with_reducible refine Kd.C_alloc ?_ _) | (with_reducible refine Kd.C_drewN ?_ _) | (with_reducible refine Kd.C_drew ?_)))
                              (case aB => exact (by repeat (first | (with_reducible first | exact HB.out | apply below_alloc | apply pw_below_drewN | apply below_drew1 | refine below_set ?_ GE220.out) | exact HB.out)))
                              (case aM => rw [Ny230.out]; exact Nat.succ_pos _)
                              (case aO => exact (by repeat (first | exact HO229.out | apply ClipF.alloc | apply ClipF.drewN | apply ClipF.drew)))
                              (case aS => exact (below_size (by repeat (first | (with_reducible first | exact HB.out | apply below_alloc | apply pw_below_drewN | apply below_drew1 | refine below_set ?_ GE220.out) | exact HB.out))))
                              (case aL => have := LMc71.out; omega)
                              intro v234 w79 ho hb hg
                              rw [← Ny233.out] at ho
                              have n0_ := Aside0.mk (blk_grown (g := gb220) (o := .cells #[.string ((rd_T52 l0 x10_1).f0), .slice A219_1 ((rd_T52 l0 x10_1).f1).length c219_1, .string ((rd_T52 l0 x10_1).f2), .slice A219_3 ((rd_T52 l0 x10_1).f3).length c219_3] 52 (0, 0)) (by (with_reducible repeat (first | refine blk_drewN ?_ _ | refine blk_drew ?_ | refine blk_alloc ?_ _)); exact BK220.out) hg (by simp))
                              have n1_ := Aside0.mk (Kd.R_grown (by (with_reducible repeat (first | apply Kd.R_alloc | apply Kd.R_drewN | apply Kd.R_drew)); exact HO232.out) hg (fun _ _ => by simp))
                              have n2_ := Aside0.mk (hb)
                              have n3_ := Aside0.mk (ho)
                              clear BK220
                              clear HO232
                              clear HB
                              clear HO229
                              have BK220 := n0_
                              have HO232 := n1_
                              have HB := n2_
                              have HO235 := n3_
                              clear n0_ n1_ n2_ n3_
                              clear ho hb hg
                              obtain ⟨Ao81, co81, eo81⟩ := Kd.R_slice HO235.out
                              (first | subst eo81 | (injection eo81 with f1_ f2_ f3_; have f4_ := f1_.symm; have f5_ := f3_.symm; clear f1_ f2_ f3_; subst f4_; subst f5_))
                              refine hK.out _ _ ⟨(blk_cell BK220.out 0).trans rfl, (blk_cell BK220.out 1).trans rfl, (blk_cell BK220.out 2).trans rfl, (blk_cell BK220.out 3).trans rfl⟩ (fun hHeld => ?_)
                              clear hK K
                              refine norm_ (a' := ?_) ?_ ?_
                              rotate_left
                              · show Act.put _ (some 93) _ = _
                                simp only [Act.put, List.setIfInBounds_toArray, List.set_cons_zero, List.set_cons_succ, i64_w, i32_w]
                                rfl
                              refine one_ (i := 8) (N := some 94) #[true, true, true, true, true, true, true, true, true, false, false] rfl rfl (one_of HT_.out (by kernel_rfl)) (by decide) (fun K hK => ?_)
                              refine goes_ Tryd.func61 (by kernel_rfl) rfl #[.slice A219_3 ((rd_T52 l0 x10_1).f3).length c219_3, .slice Ao81 y233.length co81] (by rfl) rfl rfl (by (try simp only [List.map_toArray, List.map_cons, List.map_nil]); first | done | rfl | (simp only [List.length_drop, List.length_take]; rfl)) ?_
                              with_reducible refine (ih kj61 (by have := HK1.out; have := HJ36.out; have := HJ61.out; omega) _ _ ((rd_T52 l0 x10_1).f3) _ _ y233 true _ ?side1 ?side2 ?side3 ?side4 ?side5 A72.out).mono ?_
                              (case side1 => repeat (first | exact (Kd.C_below HR219_3.out HB.out) | (with_reducible refine Kd.C_alloc ?_ _) | (with_reducible refine Kd.C_drewN ?_ _) | (with_reducible refine Kd.C_drew ?_)))
                              (case side2 => exact HC219_3.out)
                              (case side3 => repeat (first | exact (Kd.R_reads' HO235.out).2.2 | (with_reducible refine Kd.C_alloc ?_ _) | (with_reducible refine Kd.C_drewN ?_ _) | (with_reducible refine Kd.C_drew ?_)))
                              (case side4 => exact (Kd.R_reads' HO235.out).2.1)
                              (case side5 => exact GW.below HG.out (by repeat (first | (with_reducible first | exact HB.out | apply below_alloc | apply pw_below_drewN | apply below_drew1 | refine below_set ?_ GE220.out) | exact HB.out)))
                              rintro e w82 ⟨rfl, hb⟩
                              refine ⟨_, rfl, ?_⟩
                              have n0_ := Aside0.mk (Kd.R_below (by (with_reducible repeat (first | apply Kd.R_alloc | apply Kd.R_drewN | apply Kd.R_drew)); exact HO232.out) hb)
                              have n1_ := Aside0.mk (Kd.R_below (by (with_reducible repeat (first | apply Kd.R_alloc | apply Kd.R_drewN | apply Kd.R_drew)); exact HO235.out) hb)
                              have n2_ := Aside0.mk (blk_below (g := gb220) (o := .cells #[.string ((rd_T52 l0 x10_1).f0), .slice A219_1 ((rd_T52 l0 x10_1).f1).length c219_1, .string ((rd_T52 l0 x10_1).f2), .slice A219_3 ((rd_T52 l0 x10_1).f3).length c219_3] 52 (0, 0)) (by (with_reducible repeat (first | refine blk_drewN ?_ _ | refine blk_drew ?_ | refine blk_alloc ?_ _)); exact BK220.out) hb)
                              have n3_ := Aside0.mk (below_step (by repeat (first | (with_reducible first | exact HB.out | apply below_alloc | apply pw_below_drewN | apply below_drew1 | refine below_set ?_ GE220.out) | exact HB.out)) hb)
                              clear HO232
                              clear HO235
                              clear BK220
                              clear HB
                              have HO232 := n0_
                              have HO235 := n1_
                              have BK220 := n2_
                              have HB := n3_
                              clear n0_ n1_ n2_ n3_
                              (try clear hb)
                              (try clear hb2)
                              (try clear hk)
                              (try clear hi)
                              refine hK.out _ _ ⟨(blk_cell BK220.out 0).trans rfl, (blk_cell BK220.out 1).trans rfl, (blk_cell BK220.out 2).trans rfl, (blk_cell BK220.out 3).trans rfl⟩ (fun hHeld => ?_)
                              clear hK K
                              refine norm_ (a' := ?_) ?_ ?_
                              rotate_left
                              · show Act.put _ (some 94) _ = _
                                simp only [Act.put, List.setIfInBounds_toArray, List.set_cons_zero, List.set_cons_succ, i64_w, i32_w]
                                rfl
                              refine pure_ (i := 9) (N := some 95) (v := ?_) (a' := ?_) #[true, true, true, true, true, true, true, true, true, true, false] rfl rfl (any_of HT_.out (by kernel_rfl)) (fun _ _ _ h => h) (Or.inl ⟨by rfl, ?_⟩) ?_ ?_
                              rotate_left
                              · intro w'
                                go_simp
                                with_reducible rfl
                              rotate_left
                              · simp only [Act.put, List.setIfInBounds_toArray, List.set_cons_zero, List.set_cons_succ, i64_w, i32_w]
                                rfl
                              refine pure_ (i := 10) (N := some 85) (v := ?_) (a' := ?_) #[true, true, true, true, true, true, true, true, true, true, true] rfl rfl (any_of HT_.out (by kernel_rfl)) (fun _ _ _ h => h) (Or.inl ⟨by rfl, ?_⟩) ?_ ?_
                              rotate_left
                              · intro w'
                                go_simp
                                with_reducible rfl
                              rotate_left
                              · simp only [Act.put, List.setIfInBounds_toArray, List.set_cons_zero, List.set_cons_succ, i64_w, i32_w]
                                rfl
                              refine done_ (done_of HT_.out (by kernel_rfl)) ?_
                              try go_wp2
                              go_roundg kj61
                              case measure => have := HK1.out; have := HJ36.out; have := HJ61.out; omega
                              case rel => exact ⟨(wrap64 (x10_1 + 1)), (by first | rfl | (simp; done) | (simp [*]; done)), H', ⟨by have := HK1.out; have := HJ36.out; have := HJ61.out; omega⟩, ⟨by repeat (first | (with_reducible first | exact HB.out | apply below_alloc | apply pw_below_drewN | apply below_drew1 | refine below_set ?_ GE220.out) | exact HB.out)⟩⟩
                            · replace c73 := Bool.eq_false_iff.mpr c73
                              subst c73
                              have H1 : (some false) = some r := by rw [if_neg (show ¬ (false = true) by decide)] at H; exact H
                              clear H
                              have H := H1
                              clear H1
                              obtain rfl := Option.some.inj H
                              try go_wp2
                              have n0_ := Aside0.mk (blk_drew BK220.out)
                              have n1_ := Aside0.mk (below_drew1 HB.out)
                              clear BK220
                              clear HB
                              have BK220 := n0_
                              have HB := n1_
                              clear n0_ n1_
                              refine start_ (n := 11) (S := fun w' => w'.cell? ⟨gb220, 0, none⟩ = some (.string ((rd_T52 l0 x10_1).f0)) ∧ w'.cell? ⟨gb220, 1, none⟩ = some (.slice A219_1 ((rd_T52 l0 x10_1).f1).length c219_1) ∧ w'.cell? ⟨gb220, 2, none⟩ = some (.string ((rd_T52 l0 x10_1).f2)) ∧ w'.cell? ⟨gb220, 3, none⟩ = some (.slice A219_3 ((rd_T52 l0 x10_1).f3).length c219_3)) (ds := []) #[false, false, false, false, false, false, false, false, false, false, false] (by kernel_rfl) rfl rfl ⟨(blk_cell BK220.out 0).trans rfl, (blk_cell BK220.out 1).trans rfl, (blk_cell BK220.out 2).trans rfl, (blk_cell BK220.out 3).trans rfl⟩ (fun hHeld => ?_); refine with_tabW fit_sound.tab12 fit_sound.bits12 (fun HT_ HW_ => ?_)
                              generalize wc.drew = w83 at BK220 HB hHeld ⊢
                              refine pure_ (i := 0) (N := some 86) (v := ?_) (a' := ?_) #[true, false, false, false, false, false, false, false, false, false, false] rfl rfl (any_of HT_.out (by kernel_rfl)) (fun _ _ _ h => h) (Or.inl ⟨by rfl, ?_⟩) ?_ ?_
                              rotate_left
                              · intro w'
                                go_simp
                                with_reducible rfl
                              rotate_left
                              · simp only [Act.put, List.setIfInBounds_toArray, List.set_cons_zero, List.set_cons_succ, i64_w, i32_w]
                                rfl
                              refine pure_ (i := 2) (N := some 88) (v := ?_) (a' := ?_) #[true, false, true, false, false, false, false, false, false, false, false] rfl rfl (any_of HT_.out (by kernel_rfl)) (fun _ _ _ h => h) (Or.inl ⟨by rfl, ?_⟩) ?_ ?_
                              rotate_left
                              · intro w'
                                go_simp
                                with_reducible rfl
                              rotate_left
                              · simp only [Act.put, List.setIfInBounds_toArray, List.set_cons_zero, List.set_cons_succ, i64_w, i32_w]
                                rfl
                              refine pure_ (i := 4) (N := some 90) (v := ?_) (a' := ?_) #[true, false, true, false, true, false, false, false, false, false, false] rfl rfl (any_of HT_.out (by kernel_rfl)) (fun _ _ _ h => h) (Or.inl ⟨by rfl, ?_⟩) ?_ ?_
                              rotate_left
                              · intro w'
                                go_simp
                                with_reducible rfl
                              rotate_left
                              · simp only [Act.put, List.setIfInBounds_toArray, List.set_cons_zero, List.set_cons_succ, i64_w, i32_w]
                                rfl
                              refine take_ (i := 1) (N := some 87) (v := ?_) (a' := ?_) #[true, true, true, false, true, false, false, false, false, false, false] rfl rfl (take_ofW HT_.out HW_.out (by kernel_rfl)) (fun _ _ _ h => h) (Or.inl ⟨by rfl, ?_⟩) hHeld ?_ ?_
                              rotate_left
                              · rintro w' ⟨s0, s1, s2, s3⟩
                                go_simp
                                with_reducible rfl
                              rotate_left
                              · simp only [Act.put, List.setIfInBounds_toArray, List.set_cons_zero, List.set_cons_succ, i64_w, i32_w]
                                rfl
                              refine take_ (i := 5) (N := some 91) (v := ?_) (a' := ?_) #[true, true, true, false, true, true, false, false, false, false, false] rfl rfl (take_ofW HT_.out HW_.out (by kernel_rfl)) (fun _ _ _ h => h) (Or.inl ⟨by rfl, ?_⟩) hHeld ?_ ?_
                              rotate_left
                              · rintro w' ⟨s0, s1, s2, s3⟩
                                go_simp
                                with_reducible rfl
                              rotate_left
                              · simp only [Act.put, List.setIfInBounds_toArray, List.set_cons_zero, List.set_cons_succ, i64_w, i32_w]
                                rfl
                              refine join_ (σ := Value × Value) 4 #[true, true, true, true, true, true, true, false, false, false, false] (fun s_ => [(89, s_.1), (92, s_.2)]) (fun s_ w' => (w'.cell? ⟨gb220, 0, none⟩ = some (.string ((rd_T52 l0 x10_1).f0)) ∧ w'.cell? ⟨gb220, 1, none⟩ = some (.slice A219_1 ((rd_T52 l0 x10_1).f1).length c219_1) ∧ w'.cell? ⟨gb220, 2, none⟩ = some (.string ((rd_T52 l0 x10_1).f2)) ∧ w'.cell? ⟨gb220, 3, none⟩ = some (.slice A219_3 ((rd_T52 l0 x10_1).f3).length c219_3)) ∧ (ClipF w' s_.1 t227) ∧ (Kd.R Kd.string 9 w' w.heap.size (fun _ => True) s_.2 y230) ∧ (w'.heap[gb220]? = some (.cells #[.string ((rd_T52 l0 x10_1).f0), .slice A219_1 ((rd_T52 l0 x10_1).f1).length c219_1, .string ((rd_T52 l0 x10_1).f2), .slice A219_3 ((rd_T52 l0 x10_1).f3).length c219_3] 52 (0, 0))) ∧ (Below w.heap.size w w')) ?_ ?_
                              rotate_left
                              · intro hCont
                                refine two_ (i := 3) (j := 6) (Ni := some 89) (Nj := some 92) #[true, true, true, true, true, true, false, false, false, false, false] #[true, true, true, false, true, true, true, false, false, false, false] rfl rfl rfl rfl (two_of HT_.out (by kernel_rfl)) (by decide) (by decide) (fun K hK => ?_) (fun K hK => ?_)
                                · skip
                                  refine goes_ Tryd.func80 (by kernel_rfl) rfl #[.slice A1 l1.length c1] (by rfl) rfl rfl (by (try simp only [List.map_toArray, List.map_cons, List.map_nil]); first | done | rfl | (simp only [List.length_drop, List.length_take]; rfl)) ?_
                                  with_reducible refine (slices_Clip_string_string.calls _ _ l1 t227 _ ?side1 ?side2 A70.out).mono ?_
                                  (case side1 => repeat (first | exact (Kd.C_below HR1.out HB.out) | (with_reducible refine Kd.C_alloc ?_ _) | (with_reducible refine Kd.C_drewN ?_ _) | (with_reducible refine Kd.C_drew ?_)))
                                  (case side2 => exact HC1.out)
                                  rintro e w84 ⟨v228, rfl, ho0, hb⟩
                                  refine ⟨_, rfl, ?_⟩
                                  have n0_ := Aside0.mk ho0
                                  have n1_ := Aside0.mk (blk_below (g := gb220) (o := .cells #[.string ((rd_T52 l0 x10_1).f0), .slice A219_1 ((rd_T52 l0 x10_1).f1).length c219_1, .string ((rd_T52 l0 x10_1).f2), .slice A219_3 ((rd_T52 l0 x10_1).f3).length c219_3] 52 (0, 0)) (by (with_reducible repeat (first | refine blk_drewN ?_ _ | refine blk_drew ?_ | refine blk_alloc ?_ _)); exact BK220.out) hb)
                                  have n2_ := Aside0.mk (below_step (by repeat (first | (with_reducible first | exact HB.out | apply below_alloc | apply pw_below_drewN | apply below_drew1 | refine below_set ?_ GE220.out) | exact HB.out)) hb)
                                  clear BK220
                                  clear HB
                                  have HO229 := n0_
                                  have BK220 := n1_
                                  have HB := n2_
                                  clear n0_ n1_ n2_
                                  (try clear hb)
                                  (try clear hb2)
                                  (try clear hk)
                                  (try clear hi)
                                  (try clear ho0)
                                  refine hK.out _ _ ⟨(blk_cell BK220.out 0).trans rfl, (blk_cell BK220.out 1).trans rfl, (blk_cell BK220.out 2).trans rfl, (blk_cell BK220.out 3).trans rfl⟩ (fun hHeld => ?_)
                                  clear hK K
                                  refine norm_ (a' := ?_) ?_ ?_
                                  rotate_left
                                  · show Act.put _ (some 89) _ = _
                                    simp only [Act.put, List.setIfInBounds_toArray, List.set_cons_zero, List.set_cons_succ, i64_w, i32_w]
                                    rfl
                                  refine one_ (i := 6) (N := some 92) #[true, true, true, true, true, true, true, false, false, false, false] rfl rfl (one_of HT_.out (by kernel_rfl)) (by decide) (fun K hK => ?_)
                                  refine Kd.R_lit_step Kd.string _ 9 ?hg (N := 92) ?hd (xs := ([((rd_T52 l0 x10_1).f0)] : List ByteArray)) (inner := [.string ((rd_T52 l0 x10_1).f0)]) (ok := fun _ => True) (okp := fun _ => True) ?hr ?hp (fun _ hk => hk) trivial (Below.refl _ _) (Nat.le_refl _) (by simp) ?_; (case hd => rfl); (case hg => rfl); (case hr => first | (go_simp; done) | (go_simp; rfl)); (case hp => exact (Reps.one (show Kd.M Kd.string _ _ _ ((rd_T52 l0 x10_1).f0) [.string ((rd_T52 l0 x10_1).f0)] from rfl) (Reps.none _ _)))
                                  intro v231 w85 ho86 hb hg_ hnew_
                                  clear hg_ hnew_
                                  (first | rw [← Ny230.out] at ho86 | (simp only [Int.reduceToNat] at ho86; rw [← Ny230.out] at ho86))
                                  have n0_ := Aside0.mk (ClipF.below (by repeat (first | exact HO229.out | apply ClipF.alloc | apply ClipF.drewN | apply ClipF.drew)) hb)
                                  have n1_ := Aside0.mk (Kd.R_lower ho86 (below_size (by repeat (first | (with_reducible first | exact HB.out | apply below_alloc | apply pw_below_drewN | apply below_drew1 | refine below_set ?_ GE220.out) | exact HB.out))))
                                  have n2_ := Aside0.mk (blk_below (g := gb220) (o := .cells #[.string ((rd_T52 l0 x10_1).f0), .slice A219_1 ((rd_T52 l0 x10_1).f1).length c219_1, .string ((rd_T52 l0 x10_1).f2), .slice A219_3 ((rd_T52 l0 x10_1).f3).length c219_3] 52 (0, 0)) (by (with_reducible repeat (first | refine blk_drewN ?_ _ | refine blk_drew ?_ | refine blk_alloc ?_ _)); exact BK220.out) hb)
                                  have n3_ := Aside0.mk (below_step (by repeat (first | (with_reducible first | exact HB.out | apply below_alloc | apply pw_below_drewN | apply below_drew1 | refine below_set ?_ GE220.out) | exact HB.out)) hb)
                                  clear HO229
                                  clear BK220
                                  clear HB
                                  have HO229 := n0_
                                  have HO232 := n1_
                                  have BK220 := n2_
                                  have HB := n3_
                                  clear n0_ n1_ n2_ n3_
                                  clear hb ho86
                                  refine hK.out _ _ ⟨(blk_cell BK220.out 0).trans rfl, (blk_cell BK220.out 1).trans rfl, (blk_cell BK220.out 2).trans rfl, (blk_cell BK220.out 3).trans rfl⟩ (fun hHeld => ?_)
                                  clear hK K
                                  refine norm_ (a' := ?_) ?_ ?_
                                  rotate_left
                                  · show Act.put _ (some 92) _ = _
                                    simp only [Act.put, List.setIfInBounds_toArray, List.set_cons_zero, List.set_cons_succ, i64_w, i32_w]
                                    rfl
                                  exact norm_ (by simp only [putAll, Act.put, List.setIfInBounds_toArray, List.set_cons_zero, List.set_cons_succ]) (hCont (v228, v231) _ ⟨hHeld, (by repeat (first | exact HO229.out | apply ClipF.alloc | apply ClipF.drewN | apply ClipF.drew)), (by (with_reducible repeat (first | apply Kd.R_alloc | apply Kd.R_drewN | apply Kd.R_drew)); exact Kd.R_mono HO232.out (fun _ hk => trivial)), (by (with_reducible repeat (first | refine blk_drewN ?_ _ | refine blk_drew ?_ | refine blk_alloc ?_ _)); exact BK220.out), (by repeat (first | (with_reducible first | exact HB.out | apply below_alloc | apply pw_below_drewN | apply below_drew1 | refine below_set ?_ GE220.out) | exact HB.out))⟩)
                                · skip
                                  refine Kd.R_lit_step Kd.string _ 9 ?hg (N := 92) ?hd (xs := ([((rd_T52 l0 x10_1).f0)] : List ByteArray)) (inner := [.string ((rd_T52 l0 x10_1).f0)]) (ok := fun _ => True) (okp := fun _ => True) ?hr ?hp (fun _ hk => hk) trivial (Below.refl _ _) (Nat.le_refl _) (by simp) ?_; (case hd => rfl); (case hg => rfl); (case hr => first | (go_simp; done) | (go_simp; rfl)); (case hp => exact (Reps.one (show Kd.M Kd.string _ _ _ ((rd_T52 l0 x10_1).f0) [.string ((rd_T52 l0 x10_1).f0)] from rfl) (Reps.none _ _)))
                                  intro v231 w84 ho85 hb hg_ hnew_
                                  clear hg_ hnew_
                                  (first | rw [← Ny230.out] at ho85 | (simp only [Int.reduceToNat] at ho85; rw [← Ny230.out] at ho85))
                                  have n0_ := Aside0.mk (Kd.R_lower ho85 (below_size (by repeat (first | (with_reducible first | exact HB.out | apply below_alloc | apply pw_below_drewN | apply below_drew1 | refine below_set ?_ GE220.out) | exact HB.out))))
                                  have n1_ := Aside0.mk (blk_below (g := gb220) (o := .cells #[.string ((rd_T52 l0 x10_1).f0), .slice A219_1 ((rd_T52 l0 x10_1).f1).length c219_1, .string ((rd_T52 l0 x10_1).f2), .slice A219_3 ((rd_T52 l0 x10_1).f3).length c219_3] 52 (0, 0)) (by (with_reducible repeat (first | refine blk_drewN ?_ _ | refine blk_drew ?_ | refine blk_alloc ?_ _)); exact BK220.out) hb)
                                  have n2_ := Aside0.mk (below_step (by repeat (first | (with_reducible first | exact HB.out | apply below_alloc | apply pw_below_drewN | apply below_drew1 | refine below_set ?_ GE220.out) | exact HB.out)) hb)
                                  clear BK220
                                  clear HB
                                  have HO232 := n0_
                                  have BK220 := n1_
                                  have HB := n2_
                                  clear n0_ n1_ n2_
                                  clear hb ho85
                                  refine hK.out _ _ ⟨(blk_cell BK220.out 0).trans rfl, (blk_cell BK220.out 1).trans rfl, (blk_cell BK220.out 2).trans rfl, (blk_cell BK220.out 3).trans rfl⟩ (fun hHeld => ?_)
                                  clear hK K
                                  refine norm_ (a' := ?_) ?_ ?_
                                  rotate_left
                                  · show Act.put _ (some 92) _ = _
                                    simp only [Act.put, List.setIfInBounds_toArray, List.set_cons_zero, List.set_cons_succ, i64_w, i32_w]
                                    rfl
                                  refine one_ (i := 3) (N := some 89) #[true, true, true, true, true, true, true, false, false, false, false] rfl rfl (one_of HT_.out (by kernel_rfl)) (by decide) (fun K hK => ?_)
                                  refine goes_ Tryd.func80 (by kernel_rfl) rfl #[.slice A1 l1.length c1] (by rfl) rfl rfl (by (try simp only [List.map_toArray, List.map_cons, List.map_nil]); first | done | rfl | (simp only [List.length_drop, List.length_take]; rfl)) ?_
                                  with_reducible refine (slices_Clip_string_string.calls _ _ l1 t227 _ ?side1 ?side2 A70.out).mono ?_
                                  (case side1 => repeat (first | exact (Kd.C_below HR1.out HB.out) | (with_reducible refine Kd.C_alloc ?_ _) | (with_reducible refine Kd.C_drewN ?_ _) | (with_reducible refine Kd.C_drew ?_)))
                                  (case side2 => exact HC1.out)
                                  rintro e w86 ⟨v228, rfl, ho0, hb⟩
                                  refine ⟨_, rfl, ?_⟩
                                  have n0_ := Aside0.mk (Kd.R_below (by (with_reducible repeat (first | apply Kd.R_alloc | apply Kd.R_drewN | apply Kd.R_drew)); exact HO232.out) hb)
                                  have n1_ := Aside0.mk ho0
                                  have n2_ := Aside0.mk (blk_below (g := gb220) (o := .cells #[.string ((rd_T52 l0 x10_1).f0), .slice A219_1 ((rd_T52 l0 x10_1).f1).length c219_1, .string ((rd_T52 l0 x10_1).f2), .slice A219_3 ((rd_T52 l0 x10_1).f3).length c219_3] 52 (0, 0)) (by (with_reducible repeat (first | refine blk_drewN ?_ _ | refine blk_drew ?_ | refine blk_alloc ?_ _)); exact BK220.out) hb)
                                  have n3_ := Aside0.mk (below_step (by repeat (first | (with_reducible first | exact HB.out | apply below_alloc | apply pw_below_drewN | apply below_drew1 | refine below_set ?_ GE220.out) | exact HB.out)) hb)
                                  clear HO232
                                  clear BK220
                                  clear HB
                                  have HO232 := n0_
                                  have HO229 := n1_
                                  have BK220 := n2_
                                  have HB := n3_
                                  clear n0_ n1_ n2_ n3_
                                  (try clear hb)
                                  (try clear hb2)
                                  (try clear hk)
                                  (try clear hi)
                                  (try clear ho0)
                                  refine hK.out _ _ ⟨(blk_cell BK220.out 0).trans rfl, (blk_cell BK220.out 1).trans rfl, (blk_cell BK220.out 2).trans rfl, (blk_cell BK220.out 3).trans rfl⟩ (fun hHeld => ?_)
                                  clear hK K
                                  refine norm_ (a' := ?_) ?_ ?_
                                  rotate_left
                                  · show Act.put _ (some 89) _ = _
                                    simp only [Act.put, List.setIfInBounds_toArray, List.set_cons_zero, List.set_cons_succ, i64_w, i32_w]
                                    rfl
                                  exact norm_ (by simp only [putAll, Act.put, List.setIfInBounds_toArray, List.set_cons_zero, List.set_cons_succ]) (hCont (v228, v231) _ ⟨hHeld, (by repeat (first | exact HO229.out | apply ClipF.alloc | apply ClipF.drewN | apply ClipF.drew)), (by (with_reducible repeat (first | apply Kd.R_alloc | apply Kd.R_drewN | apply Kd.R_drew)); exact Kd.R_mono HO232.out (fun _ hk => trivial)), (by (with_reducible repeat (first | refine blk_drewN ?_ _ | refine blk_drew ?_ | refine blk_alloc ?_ _)); exact BK220.out), (by repeat (first | (with_reducible first | exact HB.out | apply below_alloc | apply pw_below_drewN | apply below_drew1 | refine below_set ?_ GE220.out) | exact HB.out))⟩)
                              rintro ⟨v228, v231⟩ w87 ⟨hS_, h0_, h1_, h2_, h3_⟩
                              have n0_ : Aside0 (ClipF w87 v228 t227) := ⟨h0_⟩
                              have n1_ : Aside0 (Kd.R Kd.string 9 w87 w.heap.size (fun _ => True) v231 y230) := ⟨h1_⟩
                              have n2_ : Aside0 (w87.heap[gb220]? = some (.cells #[.string ((rd_T52 l0 x10_1).f0), .slice A219_1 ((rd_T52 l0 x10_1).f1).length c219_1, .string ((rd_T52 l0 x10_1).f2), .slice A219_3 ((rd_T52 l0 x10_1).f3).length c219_3] 52 (0, 0))) := ⟨h2_⟩
                              have n3_ : Aside0 (Below w.heap.size w w87) := ⟨h3_⟩
                              clear BK220
                              clear HB
                              clear h0_ h1_ h2_ h3_
                              have HO229 := n0_
                              have HO232 := n1_
                              have BK220 := n2_
                              have HB := n3_
                              clear n0_ n1_ n2_ n3_
                              have hHeld : w87.cell? ⟨gb220, 0, none⟩ = some (.string ((rd_T52 l0 x10_1).f0)) ∧ w87.cell? ⟨gb220, 1, none⟩ = some (.slice A219_1 ((rd_T52 l0 x10_1).f1).length c219_1) ∧ w87.cell? ⟨gb220, 2, none⟩ = some (.string ((rd_T52 l0 x10_1).f2)) ∧ w87.cell? ⟨gb220, 3, none⟩ = some (.slice A219_3 ((rd_T52 l0 x10_1).f3).length c219_3) := hS_
                              obtain ⟨Ao89, co89, eo89⟩ := Kd.R_slice HO232.out
                              (first | subst eo89 | (injection eo89 with f1_ f2_ f3_; have f4_ := f1_.symm; have f5_ := f3_.symm; clear f1_ f2_ f3_; subst f4_; subst f5_))
                              refine norm_ (a' := ?_) ?_ ?_
                              rotate_left
                              · simp only [putAll, Act.put, List.setIfInBounds_toArray, List.set_cons_zero, List.set_cons_succ]
                                rfl
                              refine one_ (i := 7) (N := some 93) #[true, true, true, true, true, true, true, true, false, false, false] rfl rfl (one_of HT_.out (by kernel_rfl)) (by decide) (fun K hK => ?_)
                              refine clip_append_step (w0 := w) w.heap.size (by rfl) (.tmp 89) (.tmp 92) (by rfl) v228 t227 y230 _ _ _ rfl rfl ?aO ?aR ?aM ?aB ?aS ?aL ?_
                              (case aR => repeat (first | exact (Kd.R_reads' HO232.out).2.2 | (with_reducible refine Kd.C_alloc ?_ _) | (with_reducible refine Kd.C_drewN ?_ _) | (with_reducible refine Kd.C_drew ?_)))
                              (case aB => exact (by repeat (first | (with_reducible first | exact HB.out | apply below_alloc | apply pw_below_drewN | apply below_drew1 | refine below_set ?_ GE220.out) | exact HB.out)))
                              (case aM => rw [Ny230.out]; exact Nat.succ_pos _)
                              (case aO => exact (by repeat (first | exact HO229.out | apply ClipF.alloc | apply ClipF.drewN | apply ClipF.drew)))
                              (case aS => exact (below_size (by repeat (first | (with_reducible first | exact HB.out | apply below_alloc | apply pw_below_drewN | apply below_drew1 | refine below_set ?_ GE220.out) | exact HB.out))))
                              (case aL => have := LMc71.out; omega)
                              intro v234 w88 ho hb hg
                              rw [← Ny233.out] at ho
                              have n0_ := Aside0.mk (blk_grown (g := gb220) (o := .cells #[.string ((rd_T52 l0 x10_1).f0), .slice A219_1 ((rd_T52 l0 x10_1).f1).length c219_1, .string ((rd_T52 l0 x10_1).f2), .slice A219_3 ((rd_T52 l0 x10_1).f3).length c219_3] 52 (0, 0)) (by (with_reducible repeat (first | refine blk_drewN ?_ _ | refine blk_drew ?_ | refine blk_alloc ?_ _)); exact BK220.out) hg (by simp))
                              have n1_ := Aside0.mk (Kd.R_grown (by (with_reducible repeat (first | apply Kd.R_alloc | apply Kd.R_drewN | apply Kd.R_drew)); exact HO232.out) hg (fun _ _ => by simp))
                              have n2_ := Aside0.mk (hb)
                              have n3_ := Aside0.mk (ho)
                              clear BK220
                              clear HO232
                              clear HB
                              clear HO229
                              have BK220 := n0_
                              have HO232 := n1_
                              have HB := n2_
                              have HO235 := n3_
                              clear n0_ n1_ n2_ n3_
                              clear ho hb hg
                              obtain ⟨Ao90, co90, eo90⟩ := Kd.R_slice HO235.out
                              (first | subst eo90 | (injection eo90 with f1_ f2_ f3_; have f4_ := f1_.symm; have f5_ := f3_.symm; clear f1_ f2_ f3_; subst f4_; subst f5_))
                              refine hK.out _ _ ⟨(blk_cell BK220.out 0).trans rfl, (blk_cell BK220.out 1).trans rfl, (blk_cell BK220.out 2).trans rfl, (blk_cell BK220.out 3).trans rfl⟩ (fun hHeld => ?_)
                              clear hK K
                              refine norm_ (a' := ?_) ?_ ?_
                              rotate_left
                              · show Act.put _ (some 93) _ = _
                                simp only [Act.put, List.setIfInBounds_toArray, List.set_cons_zero, List.set_cons_succ, i64_w, i32_w]
                                rfl
                              refine one_ (i := 8) (N := some 94) #[true, true, true, true, true, true, true, true, true, false, false] rfl rfl (one_of HT_.out (by kernel_rfl)) (by decide) (fun K hK => ?_)
                              refine goes_ Tryd.func61 (by kernel_rfl) rfl #[.slice A219_3 ((rd_T52 l0 x10_1).f3).length c219_3, .slice Ao90 y233.length co90] (by rfl) rfl rfl (by (try simp only [List.map_toArray, List.map_cons, List.map_nil]); first | done | rfl | (simp only [List.length_drop, List.length_take]; rfl)) ?_
                              with_reducible refine (ih kj61 (by have := HK1.out; have := HJ36.out; have := HJ61.out; omega) _ _ ((rd_T52 l0 x10_1).f3) _ _ y233 false _ ?side1 ?side2 ?side3 ?side4 ?side5 A72.out).mono ?_
                              (case side1 => repeat (first | exact (Kd.C_below HR219_3.out HB.out) | (with_reducible refine Kd.C_alloc ?_ _) | (with_reducible refine Kd.C_drewN ?_ _) | (with_reducible refine Kd.C_drew ?_)))
                              (case side2 => exact HC219_3.out)
                              (case side3 => repeat (first | exact (Kd.R_reads' HO235.out).2.2 | (with_reducible refine Kd.C_alloc ?_ _) | (with_reducible refine Kd.C_drewN ?_ _) | (with_reducible refine Kd.C_drew ?_)))
                              (case side4 => exact (Kd.R_reads' HO235.out).2.1)
                              (case side5 => exact GW.below HG.out (by repeat (first | (with_reducible first | exact HB.out | apply below_alloc | apply pw_below_drewN | apply below_drew1 | refine below_set ?_ GE220.out) | exact HB.out)))
                              rintro e w91 ⟨rfl, hb⟩
                              refine ⟨_, rfl, ?_⟩
                              have n0_ := Aside0.mk (Kd.R_below (by (with_reducible repeat (first | apply Kd.R_alloc | apply Kd.R_drewN | apply Kd.R_drew)); exact HO232.out) hb)
                              have n1_ := Aside0.mk (Kd.R_below (by (with_reducible repeat (first | apply Kd.R_alloc | apply Kd.R_drewN | apply Kd.R_drew)); exact HO235.out) hb)
                              have n2_ := Aside0.mk (blk_below (g := gb220) (o := .cells #[.string ((rd_T52 l0 x10_1).f0), .slice A219_1 ((rd_T52 l0 x10_1).f1).length c219_1, .string ((rd_T52 l0 x10_1).f2), .slice A219_3 ((rd_T52 l0 x10_1).f3).length c219_3] 52 (0, 0)) (by (with_reducible repeat (first | refine blk_drewN ?_ _ | refine blk_drew ?_ | refine blk_alloc ?_ _)); exact BK220.out) hb)
                              have n3_ := Aside0.mk (below_step (by repeat (first | (with_reducible first | exact HB.out | apply below_alloc | apply pw_below_drewN | apply below_drew1 | refine below_set ?_ GE220.out) | exact HB.out)) hb)
                              clear HO232
                              clear HO235
                              clear BK220
                              clear HB
                              have HO232 := n0_
                              have HO235 := n1_
                              have BK220 := n2_
                              have HB := n3_
                              clear n0_ n1_ n2_ n3_
                              (try clear hb)
                              (try clear hb2)
                              (try clear hk)
                              (try clear hi)
                              refine hK.out _ _ ⟨(blk_cell BK220.out 0).trans rfl, (blk_cell BK220.out 1).trans rfl, (blk_cell BK220.out 2).trans rfl, (blk_cell BK220.out 3).trans rfl⟩ (fun hHeld => ?_)
                              clear hK K
                              refine norm_ (a' := ?_) ?_ ?_
                              rotate_left
                              · show Act.put _ (some 94) _ = _
                                simp only [Act.put, List.setIfInBounds_toArray, List.set_cons_zero, List.set_cons_succ, i64_w, i32_w]
                                rfl
                              refine pure_ (i := 9) (N := some 95) (v := ?_) (a' := ?_) #[true, true, true, true, true, true, true, true, true, true, false] rfl rfl (any_of HT_.out (by kernel_rfl)) (fun _ _ _ h => h) (Or.inl ⟨by rfl, ?_⟩) ?_ ?_
                              rotate_left
                              · intro w'
                                go_simp
                                with_reducible rfl
                              rotate_left
                              · simp only [Act.put, List.setIfInBounds_toArray, List.set_cons_zero, List.set_cons_succ, i64_w, i32_w]
                                rfl
                              refine pure_ (i := 10) (N := some 85) (v := ?_) (a' := ?_) #[true, true, true, true, true, true, true, true, true, true, true] rfl rfl (any_of HT_.out (by kernel_rfl)) (fun _ _ _ h => h) (Or.inl ⟨by rfl, ?_⟩) ?_ ?_
                              rotate_left
                              · intro w'
                                go_simp
                                with_reducible rfl
                              rotate_left
                              · simp only [Act.put, List.setIfInBounds_toArray, List.set_cons_zero, List.set_cons_succ, i64_w, i32_w]
                                rfl
                              refine done_ (done_of HT_.out (by kernel_rfl)) ?_
                              try go_wp2
                              go_ret
                              exact ⟨by first | rfl | (simp [errW_none, errW_some] <;> rfl) | (simp [*, errW_none, errW_some] <;> rfl), by repeat (first | (with_reducible first | exact HB.out | apply below_alloc | apply pw_below_drewN | apply below_drew1 | refine below_set ?_ GE220.out) | exact HB.out)⟩
                          · rw [if_neg c71] at H
                            exact absurd H (by simp)
          · rw [if_neg c5] at H
            exact absurd H (by simp)
        · rw [if_neg c4] at H
          exact absurd H (by simp)
      · rw [if_neg c3] at H
        have c3b0 : decide (x10_1 < (l0.length : Int)) = false := decide_eq_false c3
        clear c3
        obtain rfl := Option.some.inj H
        go_wp2
        go_ret
        exact ⟨by first | rfl | (simp [errW_none, errW_some] <;> rfl) | (simp [*, errW_none, errW_some] <;> rfl), by repeat (first | (with_reducible first | exact HB.out | apply below_alloc | apply pw_below_drewN | apply below_drew1) | exact HB.out)⟩

end Go.Proofs.YteahlapoeiikoaaDoor.P
