
import Derived.Test.YteahlapoeiikoaaDoorJoin11
import Derived.Test.YteahlapoeiikoaaDoorJoin12
import Derived.Test.YteahlapoeiikoaaDoorJoin19
import Derived.Test.YteahlapoeiikoaaDoorHWhole
-- Printed by a program of this session (wip/myprint.py over the kit's print).
namespace Go.Proofs.YteahlapoeiikoaaDoor.P
open Go.RowKit Go.Proofs.YteahlapoeiikoaaDoorW.PrintWords Go.Proofs.YteahlapoeiikoaaDoorW.PrintLast Go.Proofs.YteahlapoeiikoaaDoorW.PrintMore
attribute [local go_sem] max2_int min2_int max_two min_two max_three min_three max_four min_four   -- for this text's walks alone
set_option linter.unusedVariables false
set_option linter.unusedSimpArgs false

/-! ### decanterref21_Sound: function 32 -/
mutual
def decanterref21_Sound.l0 : Nat → List (S82) → List ByteArray → Int → Option (Bool)
  | 0, _, _, _ => none
  | k + 1, x0, x1, x5 => if x5 < (x0.length : Int) then (if 0 ≤ x5 then (if ((rd_T82 x0 x5).f0).toList = ([] : List UInt8) then (if ((rd_T82 x0 x5).f2).toList = ([] : List UInt8) then (some false) else ((decanterref21_Whole.f k ((rd_T82 x0 x5).f2)).bind fun t271 => (if t271 = true then (if (((rd_T82 x0 x5).f1).length : Int) > 0 then (some false) else (if (((rd_T82 x0 x5).f3).length : Int) > 0 then (some false) else (if x5 > 0 then (if 0 ≤ (wrap64 (x5 - 1)) then (if (wrap64 (x5 - 1)) < (x0.length : Int) then (if ((rd_T82 x0 (wrap64 (x5 - 1))).f0).toList = ([] : List UInt8) then (some false) else (decanterref21_Sound.l0 k x0 x1 (wrap64 (x5 + 1)))) else (none)) else (none)) else (decanterref21_Sound.l0 k x0 x1 (wrap64 (x5 + 1)))))) else (some false)))) else ((decanterref11_Is.f k ((rd_T82 x0 x5).f0) 9).bind fun t273 => (if t273 = true then (if ((rd_T82 x0 x5).f2).toList = ([] : List UInt8) then ((decanterref21_In.f k x1 ((rd_T82 x0 x5).f0)).bind fun t274 => (if t274 = true then ((decanterref21_attrs.f k ((rd_T82 x0 x5).f1)).bind fun t275 => (decanterref21_Sound.j1 k x0 x1 x5 (!t275) ((rd_T82 x0 x5).f0) ((rd_T82 x0 x5).f1) ((rd_T82 x0 x5).f2) ((rd_T82 x0 x5).f3))) else (decanterref21_Sound.j1 k x0 x1 x5 true ((rd_T82 x0 x5).f0) ((rd_T82 x0 x5).f1) ((rd_T82 x0 x5).f2) ((rd_T82 x0 x5).f3)))) else (decanterref21_Sound.j1 k x0 x1 x5 true ((rd_T82 x0 x5).f0) ((rd_T82 x0 x5).f1) ((rd_T82 x0 x5).f2) ((rd_T82 x0 x5).f3))) else (decanterref21_Sound.j1 k x0 x1 x5 true ((rd_T82 x0 x5).f0) ((rd_T82 x0 x5).f1) ((rd_T82 x0 x5).f2) ((rd_T82 x0 x5).f3))))) else (none)) else (some true)
def decanterref21_Sound.j1 : Nat → List (S82) → List ByteArray → Int → Bool → ByteArray → List (S98) → ByteArray → List (S82) → Option (Bool)
  | 0, _, _, _, _, _, _, _, _ => none
  | k + 1, x0, x1, x5, x75, x271000, x271001, x271002, x271003 => if x75 = true then (some false) else ((decanterref11_Is.f k x271000 0).bind fun t276 => (if t276 = true then (decanterref21_Sound.j2 k x0 x1 x5 (decide ((x271003.length : Int) > 0)) x271000 x271001 x271002 x271003) else (decanterref21_Sound.j2 k x0 x1 x5 false x271000 x271001 x271002 x271003)))
def decanterref21_Sound.j2 : Nat → List (S82) → List ByteArray → Int → Bool → ByteArray → List (S98) → ByteArray → List (S82) → Option (Bool)
  | 0, _, _, _, _, _, _, _, _ => none
  | k + 1, x0, x1, x5, x84, x271000, x271001, x271002, x271003 => if x84 = true then (some false) else ((some (([] : List ByteArray) : List ByteArray)).bind fun y277 => (if y277.length + x1.length < 8796093022208 then ((some (y277 ++ x1 : List ByteArray)).bind fun y280 => ((some (([x271000] : List ByteArray) : List ByteArray)).bind fun y283 => (if y280.length + y283.length < 8796093022208 then ((decanterref21_Sound.f k x271003 (y280 ++ y283)).bind fun t289 => (if t289 = true then (decanterref21_Sound.l0 k x0 x1 (wrap64 (x5 + 1))) else (some false))) else (none)))) else (none)))
def decanterref21_Sound.f : Nat → List (S82) → List ByteArray → Option (Bool)
  | 0, _, _ => none
  | k + 1, l0, l1 => decanterref21_Sound.l0 k l0 l1 0
end
def decanterref21_Sound.T12 : Bool × List (List Nat × List Nat) := (true, [([], []), ([0], [0]), ([], []), ([], []), ([2, 3], [2, 3]), ([], []), ([5], [5]), ([6], [6]), ([4, 7, 4], [4, 7]), ([1, 8, 8], [1, 8]), ([9], [9])])
def decanterref21_Sound.B12 : List Nat := [0, 1, 0, 0, 12, 0, 32, 96, 252, 511, 1023]
theorem decanterref21_Sound.tab12 : rtab .any (opsOf Tryd.f32 12) = decanterref21_Sound.T12 := by kernel_rfl
theorem decanterref21_Sound.bits12 : waitsOk decanterref21_Sound.T12.2 decanterref21_Sound.B12 = true := by kernel_rfl
set_option maxHeartbeats 8000000 in
set_option maxRecDepth 100000 in
theorem decanterref21_Sound.calls (k : Nat) : ∀ (A0 : Option Addr) (c0 : Nat) (l0 : List (S82)) (A1 : Option Addr) (c1 : Nat) (l1 : List ByteArray) (r : Bool) (w : World) (hr0 : Kd.C k82 w A0 l0.length l0) (hc0 : l0.length ≤ c0) (hr1 : Kd.C Kd.string w A1 l1.length l1) (hc1 : l1.length ≤ c1) (h : decanterref21_Sound.f k l0 l1 = some r),
    Calls Tryd.prog 32 #[.slice A0 l0.length c0, .slice A1 l1.length c1] w fun e w' => e = .returned (.bool r) ∧ Below w.heap.size w w' := by
  induction k using Nat.strongRecOn with
  | _ k ih =>
  intro A0 c0 l0 A1 c1 l1 r w hr0 hc0 hr1 hc1 h
  cases k with
  | zero => exact absurd h (by simp [decanterref21_Sound.f])
  | succ k =>
  simp only [decanterref21_Sound.f] at h
  have hu82 := Tryd.underlying82
  have HR0 := Aside0.mk hr0
  have HC0 := Aside0.mk hc0
  clear hr0 hc0
  have HR1 := Aside0.mk hr1
  have HC1 := Aside0.mk hc1
  clear hr1 hc1
  have HB := Aside0.mk (Below.refl w.heap.size w)
  have H : (decanterref21_Sound.l0 k l0 l1 0) = some r := h
  clear h
  have H' := Aside0.mk H
  clear H
  go_enter Tryd.func32, Tryd.ntmps32
  go_wp2
  go_loopg [5] k (fun kq v5 w' => ∃ (x5_1 : Int), v5 = .int .i64 x5_1 ∧ Aside0 (decanterref21_Sound.l0 kq l0 l1 x5_1 = some r) ∧ Aside0 (kq ≤ k) ∧ Aside0 (Below w.heap.size w w'))
  case atStart => exact ⟨(0), (by first | rfl | (simp; done) | (simp [*]; done) | (simp; generalize ByteArray.toList _ = l_; cases l_ <;> rfl)), H', ⟨Nat.le_refl _⟩, ⟨by repeat (first | (with_reducible first | exact HB.out | apply below_alloc | apply pw_below_drewN | apply below_drew1) | exact HB.out)⟩⟩
  case round =>
    clear H'
    try clear c1
    try clear p2
    obtain ⟨x5_1, rfl, HA, HK1, HB⟩ := hrel
    cases gk with
    | zero => exact absurd HA.out (by simp [decanterref21_Sound.l0])
    | succ k1 =>
      have H := HA.out
      clear HA
      simp only [decanterref21_Sound.l0] at H
      by_cases c3 : x5_1 < (l0.length : Int)
      · rw [if_pos c3] at H
        have c3b0 : decide (x5_1 < (l0.length : Int)) = true := decide_eq_true c3
        clear c3
        by_cases c4 : 0 ≤ x5_1
        · rw [if_pos c4] at H
          have c4b0 : decide (0 ≤ x5_1) = true := decide_eq_true c4
          clear c4
          by_cases c5 : ((rd_T82 l0 x5_1).f0).toList = ([] : List UInt8)
          · rw [if_pos c5] at H
            have c5b0 : (((rd_T82 l0 x5_1).f0).toList == ([] : List UInt8)) = true := beq_iff_eq.mpr c5
            have c5b1 : (((rd_T82 l0 x5_1).f0).toList != ([] : List UInt8)) = false := bne_eq_false_iff_eq.mpr c5
            clear c5
            by_cases c6 : ((rd_T82 l0 x5_1).f2).toList = ([] : List UInt8)
            · rw [if_pos c6] at H
              have c6b0 : (((rd_T82 l0 x5_1).f2).toList == ([] : List UInt8)) = true := beq_iff_eq.mpr c6
              have c6b1 : (((rd_T82 l0 x5_1).f2).toList != ([] : List UInt8)) = false := bne_eq_false_iff_eq.mpr c6
              clear c6
              obtain rfl := Option.some.inj H
              have p269 : 0 ≤ (x5_1 : Int) := of_decide_eq_true (by first | (with_reducible assumption) | assumption)
              have q269 : x5_1 < (l0.length : Int) := of_decide_eq_true (by first | (with_reducible assumption) | assumption)
              obtain ⟨ad269, A269_1, c269_1, A269_3, c269_3, e269, hx269_0, hx269_1, hx269_2, hx269_3, hl269_1, hi269_1, hl269_3, hi269_3⟩ := at_T82 HR0.out x5_1 p269 q269
              cases e269
              replace hx269_0 := (HB.out.cell (World.block_lt_of_cell? w _ hx269_0)).trans hx269_0
              replace hx269_1 := (HB.out.cell (World.block_lt_of_cell? w _ hx269_1)).trans hx269_1
              replace hx269_2 := (HB.out.cell (World.block_lt_of_cell? w _ hx269_2)).trans hx269_2
              replace hx269_3 := (HB.out.cell (World.block_lt_of_cell? w _ hx269_3)).trans hx269_3
              have HR269_1 := Aside0.mk hi269_1
              have HC269_1 := Aside0.mk hl269_1
              clear hi269_1 hl269_1
              have HR269_3 := Aside0.mk hi269_3
              have HC269_3 := Aside0.mk hl269_3
              clear hi269_3 hl269_3
              replace p269 := eq_true p269
              replace q269 := eq_true q269
              go_wp2_with (first | ((with_reducible refine gate_dst (N := 6) rfl ?_); (try (refine gate_guard (by rfl) ?_; dsimp only)); refine box_event ?hg (N := 6) ?hd (cs := #[.string (⟨#[]⟩ : ByteArray), .slice none 0 0, .string (⟨#[]⟩ : ByteArray), .slice none 0 0]) (t := 82) ?hr ?_; (case hd => rfl); (case hg => rfl); (case hr => first | (go_simp; done) | (go_simp; rfl)); intro gb270 hg w7 hbox hb; have n0_ := Aside0.mk (below_step (by repeat (first | (with_reducible first | exact HB.out | apply below_alloc | apply pw_below_drewN | apply below_drew1) | exact HB.out)) hb); have n1_ := Aside0.mk (hbox); have n2_ := Aside0.mk ((by rw [hg]; exact (below_size (by repeat (first | (with_reducible first | exact HB.out | apply below_alloc | apply pw_below_drewN | apply below_drew1) | exact HB.out))) : w.heap.size ≤ gb270)); have n3_ := Aside0.mk ((by rw [hg]; exact (below_size (by repeat (first | (with_reducible first | exact HB.out | apply below_alloc | apply pw_below_drewN | apply below_drew1) | exact HB.out))) : w.heap.size ≤ gb270)); clear HB; have HB := n0_; have BK270 := n1_; have GW270 := n2_; have GE270 := n3_; clear n0_ n1_ n2_ n3_; clear hb hbox hg; have hcz8_0 : w7.cell? ⟨gb270, 0, none⟩ = some (.string (⟨#[]⟩ : ByteArray)) := (blk_cell BK270.out 0).trans rfl; have hcz8_1 : w7.cell? ⟨gb270, 1, none⟩ = some (.slice none 0 0) := (blk_cell BK270.out 1).trans rfl; have hcz8_2 : w7.cell? ⟨gb270, 2, none⟩ = some (.string (⟨#[]⟩ : ByteArray)) := (blk_cell BK270.out 2).trans rfl; have hcz8_3 : w7.cell? ⟨gb270, 3, none⟩ = some (.slice none 0 0) := (blk_cell BK270.out 3).trans rfl; have hfz8_0 := blk_frozen BK270.out 0; have hfz8_1 := blk_frozen BK270.out 1; have hfz8_2 := blk_frozen BK270.out 2; have hfz8_3 := blk_frozen BK270.out 3))
              go_ret
              exact ⟨by first | rfl | (simp [errW_none, errW_some] <;> rfl) | (simp [*, errW_none, errW_some] <;> rfl), by repeat (first | (with_reducible first | exact HB.out | apply below_alloc | apply pw_below_drewN | apply below_drew1 | refine below_set ?_ GE270.out) | exact HB.out)⟩
            · rw [if_neg c6] at H
              have c6b0 : (((rd_T82 l0 x5_1).f2).toList == ([] : List UInt8)) = false := beq_eq_false_iff_ne.mpr c6
              have c6b1 : (((rd_T82 l0 x5_1).f2).toList != ([] : List UInt8)) = true := bne_iff_ne.mpr c6
              replace H := Option.bind_eq_some_iff.mp H
              obtain ⟨t271, A90, H⟩ := H
              replace H : (if t271 = true then (if (((rd_T82 l0 x5_1).f1).length : Int) > 0 then (some false) else (if (((rd_T82 l0 x5_1).f3).length : Int) > 0 then (some false) else (if x5_1 > 0 then (if 0 ≤ (wrap64 (x5_1 - 1)) then (if (wrap64 (x5_1 - 1)) < (l0.length : Int) then (if ((rd_T82 l0 (wrap64 (x5_1 - 1))).f0).toList = ([] : List UInt8) then (some false) else (decanterref21_Sound.l0 k1 l0 l1 (wrap64 (x5_1 + 1)))) else (none)) else (none)) else (decanterref21_Sound.l0 k1 l0 l1 (wrap64 (x5_1 + 1)))))) else (some false)) = some r := H
              have A9 := Aside0.mk A90
              clear A90
              by_cases c10 : t271 = true
              · subst c10
                have H1 : (if (((rd_T82 l0 x5_1).f1).length : Int) > 0 then (some false) else (if (((rd_T82 l0 x5_1).f3).length : Int) > 0 then (some false) else (if x5_1 > 0 then (if 0 ≤ (wrap64 (x5_1 - 1)) then (if (wrap64 (x5_1 - 1)) < (l0.length : Int) then (if ((rd_T82 l0 (wrap64 (x5_1 - 1))).f0).toList = ([] : List UInt8) then (some false) else (decanterref21_Sound.l0 k1 l0 l1 (wrap64 (x5_1 + 1)))) else (none)) else (none)) else (decanterref21_Sound.l0 k1 l0 l1 (wrap64 (x5_1 + 1)))))) = some r := by rw [if_pos rfl] at H; exact H
                clear H
                have H := H1
                clear H1
                by_cases c11 : (((rd_T82 l0 x5_1).f1).length : Int) > 0
                · rw [if_pos c11] at H
                  have c11b0 : decide (0 < (((rd_T82 l0 x5_1).f1).length : Int)) = true := decide_eq_true c11
                  have c11b1 : decide (0 < ((rd_T82 l0 x5_1).f1).length) = true := decide_eq_true (by omega)
                  clear c11
                  obtain rfl := Option.some.inj H
                  have p269 : 0 ≤ (x5_1 : Int) := of_decide_eq_true (by first | (with_reducible assumption) | assumption)
                  have q269 : x5_1 < (l0.length : Int) := of_decide_eq_true (by first | (with_reducible assumption) | assumption)
                  obtain ⟨ad269, A269_1, c269_1, A269_3, c269_3, e269, hx269_0, hx269_1, hx269_2, hx269_3, hl269_1, hi269_1, hl269_3, hi269_3⟩ := at_T82 HR0.out x5_1 p269 q269
                  cases e269
                  replace hx269_0 := (HB.out.cell (World.block_lt_of_cell? w _ hx269_0)).trans hx269_0
                  replace hx269_1 := (HB.out.cell (World.block_lt_of_cell? w _ hx269_1)).trans hx269_1
                  replace hx269_2 := (HB.out.cell (World.block_lt_of_cell? w _ hx269_2)).trans hx269_2
                  replace hx269_3 := (HB.out.cell (World.block_lt_of_cell? w _ hx269_3)).trans hx269_3
                  have HR269_1 := Aside0.mk hi269_1
                  have HC269_1 := Aside0.mk hl269_1
                  clear hi269_1 hl269_1
                  have HR269_3 := Aside0.mk hi269_3
                  have HC269_3 := Aside0.mk hl269_3
                  clear hi269_3 hl269_3
                  replace p269 := eq_true p269
                  replace q269 := eq_true q269
                  go_wp2_with (first | ((with_reducible refine gate_dst (N := 6) rfl ?_); (try (refine gate_guard (by rfl) ?_; dsimp only)); refine box_event ?hg (N := 6) ?hd (cs := #[.string (⟨#[]⟩ : ByteArray), .slice none 0 0, .string (⟨#[]⟩ : ByteArray), .slice none 0 0]) (t := 82) ?hr ?_; (case hd => rfl); (case hg => rfl); (case hr => first | (go_simp; done) | (go_simp; rfl)); intro gb270 hg w12 hbox hb; have n0_ := Aside0.mk (below_step (by repeat (first | (with_reducible first | exact HB.out | apply below_alloc | apply pw_below_drewN | apply below_drew1) | exact HB.out)) hb); have n1_ := Aside0.mk (hbox); have n2_ := Aside0.mk ((by rw [hg]; exact (below_size (by repeat (first | (with_reducible first | exact HB.out | apply below_alloc | apply pw_below_drewN | apply below_drew1) | exact HB.out))) : w.heap.size ≤ gb270)); have n3_ := Aside0.mk ((by rw [hg]; exact (below_size (by repeat (first | (with_reducible first | exact HB.out | apply below_alloc | apply pw_below_drewN | apply below_drew1) | exact HB.out))) : w.heap.size ≤ gb270)); clear HB; have HB := n0_; have BK270 := n1_; have GW270 := n2_; have GE270 := n3_; clear n0_ n1_ n2_ n3_; clear hb hbox hg; have hcz13_0 : w12.cell? ⟨gb270, 0, none⟩ = some (.string (⟨#[]⟩ : ByteArray)) := (blk_cell BK270.out 0).trans rfl; have hcz13_1 : w12.cell? ⟨gb270, 1, none⟩ = some (.slice none 0 0) := (blk_cell BK270.out 1).trans rfl; have hcz13_2 : w12.cell? ⟨gb270, 2, none⟩ = some (.string (⟨#[]⟩ : ByteArray)) := (blk_cell BK270.out 2).trans rfl; have hcz13_3 : w12.cell? ⟨gb270, 3, none⟩ = some (.slice none 0 0) := (blk_cell BK270.out 3).trans rfl; have hfz13_0 := blk_frozen BK270.out 0; have hfz13_1 := blk_frozen BK270.out 1; have hfz13_2 := blk_frozen BK270.out 2; have hfz13_3 := blk_frozen BK270.out 3) | (go_at_call 63; (with_reducible refine (decanterref21_Whole.calls k1 ((rd_T82 l0 x5_1).f2) true _ A9.out).mono ?_); rintro e w14 ⟨rfl, hb⟩; have n0_ := Aside0.mk (blk_below (g := gb270) (o := .cells #[.string ((rd_T82 l0 x5_1).f0), .slice A269_1 ((rd_T82 l0 x5_1).f1).length c269_1, .string ((rd_T82 l0 x5_1).f2), .slice A269_3 ((rd_T82 l0 x5_1).f3).length c269_3] 82 (0, 0)) (by (with_reducible repeat (first | refine blk_drewN ?_ _ | refine blk_drew ?_ | refine blk_alloc ?_ _)); refine blk_put (cs := #[.string ((rd_T82 l0 x5_1).f0), .slice A269_1 ((rd_T82 l0 x5_1).f1).length c269_1, .string ((rd_T82 l0 x5_1).f2), .slice none 0 0]) ?_ 3 _ rfl; (with_reducible repeat (first | refine blk_drewN ?_ _ | refine blk_drew ?_ | refine blk_alloc ?_ _)); refine blk_put (cs := #[.string ((rd_T82 l0 x5_1).f0), .slice A269_1 ((rd_T82 l0 x5_1).f1).length c269_1, .string (⟨#[]⟩ : ByteArray), .slice none 0 0]) ?_ 2 _ rfl; (with_reducible repeat (first | refine blk_drewN ?_ _ | refine blk_drew ?_ | refine blk_alloc ?_ _)); refine blk_put (cs := #[.string ((rd_T82 l0 x5_1).f0), .slice none 0 0, .string (⟨#[]⟩ : ByteArray), .slice none 0 0]) ?_ 1 _ rfl; (with_reducible repeat (first | refine blk_drewN ?_ _ | refine blk_drew ?_ | refine blk_alloc ?_ _)); refine blk_put (cs := #[.string (⟨#[]⟩ : ByteArray), .slice none 0 0, .string (⟨#[]⟩ : ByteArray), .slice none 0 0]) ?_ 0 _ rfl; (with_reducible repeat (first | refine blk_drewN ?_ _ | refine blk_drew ?_ | refine blk_alloc ?_ _)); exact BK270.out) hb); have n1_ := Aside0.mk (below_step (by repeat (first | (with_reducible first | exact HB.out | apply below_alloc | apply pw_below_drewN | apply below_drew1 | refine below_set ?_ GE270.out) | exact HB.out)) hb); clear BK270; clear HB; have BK270 := n0_; have HB := n1_; clear n0_ n1_; (try clear hb); (try clear hb2); (try clear hk); (try clear hi); have hcz15_0 : w14.cell? ⟨gb270, 0, none⟩ = some (.string ((rd_T82 l0 x5_1).f0)) := (blk_cell BK270.out 0).trans rfl; have hcz15_1 : w14.cell? ⟨gb270, 1, none⟩ = some (.slice A269_1 ((rd_T82 l0 x5_1).f1).length c269_1) := (blk_cell BK270.out 1).trans rfl; have hcz15_2 : w14.cell? ⟨gb270, 2, none⟩ = some (.string ((rd_T82 l0 x5_1).f2)) := (blk_cell BK270.out 2).trans rfl; have hcz15_3 : w14.cell? ⟨gb270, 3, none⟩ = some (.slice A269_3 ((rd_T82 l0 x5_1).f3).length c269_3) := (blk_cell BK270.out 3).trans rfl; have hfz15_0 := blk_frozen BK270.out 0; have hfz15_1 := blk_frozen BK270.out 1; have hfz15_2 := blk_frozen BK270.out 2; have hfz15_3 := blk_frozen BK270.out 3))
                  go_ret
                  exact ⟨by first | rfl | (simp [errW_none, errW_some] <;> rfl) | (simp [*, errW_none, errW_some] <;> rfl), by repeat (first | (with_reducible first | exact HB.out | apply below_alloc | apply pw_below_drewN | apply below_drew1 | refine below_set ?_ GE270.out) | exact HB.out)⟩
                · rw [if_neg c11] at H
                  have c11b0 : decide (0 < (((rd_T82 l0 x5_1).f1).length : Int)) = false := decide_eq_false c11
                  have c11b1 : decide (0 < ((rd_T82 l0 x5_1).f1).length) = false := decide_eq_false (by omega)
                  clear c11
                  by_cases c16 : (((rd_T82 l0 x5_1).f3).length : Int) > 0
                  · rw [if_pos c16] at H
                    have c16b0 : decide (0 < (((rd_T82 l0 x5_1).f3).length : Int)) = true := decide_eq_true c16
                    have c16b1 : decide (0 < ((rd_T82 l0 x5_1).f3).length) = true := decide_eq_true (by omega)
                    clear c16
                    obtain rfl := Option.some.inj H
                    have p269 : 0 ≤ (x5_1 : Int) := of_decide_eq_true (by first | (with_reducible assumption) | assumption)
                    have q269 : x5_1 < (l0.length : Int) := of_decide_eq_true (by first | (with_reducible assumption) | assumption)
                    obtain ⟨ad269, A269_1, c269_1, A269_3, c269_3, e269, hx269_0, hx269_1, hx269_2, hx269_3, hl269_1, hi269_1, hl269_3, hi269_3⟩ := at_T82 HR0.out x5_1 p269 q269
                    cases e269
                    replace hx269_0 := (HB.out.cell (World.block_lt_of_cell? w _ hx269_0)).trans hx269_0
                    replace hx269_1 := (HB.out.cell (World.block_lt_of_cell? w _ hx269_1)).trans hx269_1
                    replace hx269_2 := (HB.out.cell (World.block_lt_of_cell? w _ hx269_2)).trans hx269_2
                    replace hx269_3 := (HB.out.cell (World.block_lt_of_cell? w _ hx269_3)).trans hx269_3
                    have HR269_1 := Aside0.mk hi269_1
                    have HC269_1 := Aside0.mk hl269_1
                    clear hi269_1 hl269_1
                    have HR269_3 := Aside0.mk hi269_3
                    have HC269_3 := Aside0.mk hl269_3
                    clear hi269_3 hl269_3
                    replace p269 := eq_true p269
                    replace q269 := eq_true q269
                    go_wp2_with (first | ((with_reducible refine gate_dst (N := 6) rfl ?_); (try (refine gate_guard (by rfl) ?_; dsimp only)); refine box_event ?hg (N := 6) ?hd (cs := #[.string (⟨#[]⟩ : ByteArray), .slice none 0 0, .string (⟨#[]⟩ : ByteArray), .slice none 0 0]) (t := 82) ?hr ?_; (case hd => rfl); (case hg => rfl); (case hr => first | (go_simp; done) | (go_simp; rfl)); intro gb270 hg w17 hbox hb; have n0_ := Aside0.mk (below_step (by repeat (first | (with_reducible first | exact HB.out | apply below_alloc | apply pw_below_drewN | apply below_drew1) | exact HB.out)) hb); have n1_ := Aside0.mk (hbox); have n2_ := Aside0.mk ((by rw [hg]; exact (below_size (by repeat (first | (with_reducible first | exact HB.out | apply below_alloc | apply pw_below_drewN | apply below_drew1) | exact HB.out))) : w.heap.size ≤ gb270)); have n3_ := Aside0.mk ((by rw [hg]; exact (below_size (by repeat (first | (with_reducible first | exact HB.out | apply below_alloc | apply pw_below_drewN | apply below_drew1) | exact HB.out))) : w.heap.size ≤ gb270)); clear HB; have HB := n0_; have BK270 := n1_; have GW270 := n2_; have GE270 := n3_; clear n0_ n1_ n2_ n3_; clear hb hbox hg; have hcz18_0 : w17.cell? ⟨gb270, 0, none⟩ = some (.string (⟨#[]⟩ : ByteArray)) := (blk_cell BK270.out 0).trans rfl; have hcz18_1 : w17.cell? ⟨gb270, 1, none⟩ = some (.slice none 0 0) := (blk_cell BK270.out 1).trans rfl; have hcz18_2 : w17.cell? ⟨gb270, 2, none⟩ = some (.string (⟨#[]⟩ : ByteArray)) := (blk_cell BK270.out 2).trans rfl; have hcz18_3 : w17.cell? ⟨gb270, 3, none⟩ = some (.slice none 0 0) := (blk_cell BK270.out 3).trans rfl; have hfz18_0 := blk_frozen BK270.out 0; have hfz18_1 := blk_frozen BK270.out 1; have hfz18_2 := blk_frozen BK270.out 2; have hfz18_3 := blk_frozen BK270.out 3) | (go_at_call 63; (with_reducible refine (decanterref21_Whole.calls k1 ((rd_T82 l0 x5_1).f2) true _ A9.out).mono ?_); rintro e w19 ⟨rfl, hb⟩; have n0_ := Aside0.mk (blk_below (g := gb270) (o := .cells #[.string ((rd_T82 l0 x5_1).f0), .slice A269_1 ((rd_T82 l0 x5_1).f1).length c269_1, .string ((rd_T82 l0 x5_1).f2), .slice A269_3 ((rd_T82 l0 x5_1).f3).length c269_3] 82 (0, 0)) (by (with_reducible repeat (first | refine blk_drewN ?_ _ | refine blk_drew ?_ | refine blk_alloc ?_ _)); refine blk_put (cs := #[.string ((rd_T82 l0 x5_1).f0), .slice A269_1 ((rd_T82 l0 x5_1).f1).length c269_1, .string ((rd_T82 l0 x5_1).f2), .slice none 0 0]) ?_ 3 _ rfl; (with_reducible repeat (first | refine blk_drewN ?_ _ | refine blk_drew ?_ | refine blk_alloc ?_ _)); refine blk_put (cs := #[.string ((rd_T82 l0 x5_1).f0), .slice A269_1 ((rd_T82 l0 x5_1).f1).length c269_1, .string (⟨#[]⟩ : ByteArray), .slice none 0 0]) ?_ 2 _ rfl; (with_reducible repeat (first | refine blk_drewN ?_ _ | refine blk_drew ?_ | refine blk_alloc ?_ _)); refine blk_put (cs := #[.string ((rd_T82 l0 x5_1).f0), .slice none 0 0, .string (⟨#[]⟩ : ByteArray), .slice none 0 0]) ?_ 1 _ rfl; (with_reducible repeat (first | refine blk_drewN ?_ _ | refine blk_drew ?_ | refine blk_alloc ?_ _)); refine blk_put (cs := #[.string (⟨#[]⟩ : ByteArray), .slice none 0 0, .string (⟨#[]⟩ : ByteArray), .slice none 0 0]) ?_ 0 _ rfl; (with_reducible repeat (first | refine blk_drewN ?_ _ | refine blk_drew ?_ | refine blk_alloc ?_ _)); exact BK270.out) hb); have n1_ := Aside0.mk (below_step (by repeat (first | (with_reducible first | exact HB.out | apply below_alloc | apply pw_below_drewN | apply below_drew1 | refine below_set ?_ GE270.out) | exact HB.out)) hb); clear BK270; clear HB; have BK270 := n0_; have HB := n1_; clear n0_ n1_; (try clear hb); (try clear hb2); (try clear hk); (try clear hi); have hcz20_0 : w19.cell? ⟨gb270, 0, none⟩ = some (.string ((rd_T82 l0 x5_1).f0)) := (blk_cell BK270.out 0).trans rfl; have hcz20_1 : w19.cell? ⟨gb270, 1, none⟩ = some (.slice A269_1 ((rd_T82 l0 x5_1).f1).length c269_1) := (blk_cell BK270.out 1).trans rfl; have hcz20_2 : w19.cell? ⟨gb270, 2, none⟩ = some (.string ((rd_T82 l0 x5_1).f2)) := (blk_cell BK270.out 2).trans rfl; have hcz20_3 : w19.cell? ⟨gb270, 3, none⟩ = some (.slice A269_3 ((rd_T82 l0 x5_1).f3).length c269_3) := (blk_cell BK270.out 3).trans rfl; have hfz20_0 := blk_frozen BK270.out 0; have hfz20_1 := blk_frozen BK270.out 1; have hfz20_2 := blk_frozen BK270.out 2; have hfz20_3 := blk_frozen BK270.out 3))
                    go_ret
                    exact ⟨by first | rfl | (simp [errW_none, errW_some] <;> rfl) | (simp [*, errW_none, errW_some] <;> rfl), by repeat (first | (with_reducible first | exact HB.out | apply below_alloc | apply pw_below_drewN | apply below_drew1 | refine below_set ?_ GE270.out) | exact HB.out)⟩
                  · rw [if_neg c16] at H
                    have c16b0 : decide (0 < (((rd_T82 l0 x5_1).f3).length : Int)) = false := decide_eq_false c16
                    have c16b1 : decide (0 < ((rd_T82 l0 x5_1).f3).length) = false := decide_eq_false (by omega)
                    clear c16
                    by_cases c21 : x5_1 > 0
                    · rw [if_pos c21] at H
                      have c21b0 : decide (0 < x5_1) = true := decide_eq_true c21
                      clear c21
                      obtain ⟨ji22, hji22⟩ : ∃ j_ : Int, (wrap64 (x5_1 - 1)) = j_ := ⟨_, rfl⟩
                      replace H : (if 0 ≤ (ji22) then (if (ji22) < (l0.length : Int) then (if ((rd_T82 l0 (ji22)).f0).toList = ([] : List UInt8) then (some false) else (decanterref21_Sound.l0 k1 l0 l1 (wrap64 (x5_1 + 1)))) else (none)) else (none)) = some r := by first | (rw [hji22] at H; exact H) | (simp only [hji22] at H ⊢; exact H)
                      (try rw [hji22] at A9)
                      have hji22w : (IntKind.i64.wrap (x5_1 - 1)) = ji22 := (i64_w _).trans hji22
                      by_cases c23 : 0 ≤ (ji22)
                      · rw [if_pos c23] at H
                        have c23b0 : decide (0 ≤ (ji22)) = true := decide_eq_true c23
                        clear c23
                        by_cases c24 : (ji22) < (l0.length : Int)
                        · rw [if_pos c24] at H
                          have c24b0 : decide ((ji22) < (l0.length : Int)) = true := decide_eq_true c24
                          clear c24
                          by_cases c25 : ((rd_T82 l0 (ji22)).f0).toList = ([] : List UInt8)
                          · rw [if_pos c25] at H
                            have c25b0 : (((rd_T82 l0 (ji22)).f0).toList == ([] : List UInt8)) = true := beq_iff_eq.mpr c25
                            have c25b1 : (((rd_T82 l0 (ji22)).f0).toList != ([] : List UInt8)) = false := bne_eq_false_iff_eq.mpr c25
                            clear c25
                            obtain rfl := Option.some.inj H
                            have p269 : 0 ≤ (x5_1 : Int) := of_decide_eq_true (by first | (with_reducible assumption) | assumption)
                            have q269 : x5_1 < (l0.length : Int) := of_decide_eq_true (by first | (with_reducible assumption) | assumption)
                            obtain ⟨ad269, A269_1, c269_1, A269_3, c269_3, e269, hx269_0, hx269_1, hx269_2, hx269_3, hl269_1, hi269_1, hl269_3, hi269_3⟩ := at_T82 HR0.out x5_1 p269 q269
                            cases e269
                            replace hx269_0 := (HB.out.cell (World.block_lt_of_cell? w _ hx269_0)).trans hx269_0
                            replace hx269_1 := (HB.out.cell (World.block_lt_of_cell? w _ hx269_1)).trans hx269_1
                            replace hx269_2 := (HB.out.cell (World.block_lt_of_cell? w _ hx269_2)).trans hx269_2
                            replace hx269_3 := (HB.out.cell (World.block_lt_of_cell? w _ hx269_3)).trans hx269_3
                            have HR269_1 := Aside0.mk hi269_1
                            have HC269_1 := Aside0.mk hl269_1
                            clear hi269_1 hl269_1
                            have HR269_3 := Aside0.mk hi269_3
                            have HC269_3 := Aside0.mk hl269_3
                            clear hi269_3 hl269_3
                            replace p269 := eq_true p269
                            replace q269 := eq_true q269
                            go_wp2_with (first | ((with_reducible refine gate_dst (N := 6) rfl ?_); (try (refine gate_guard (by rfl) ?_; dsimp only)); refine box_event ?hg (N := 6) ?hd (cs := #[.string (⟨#[]⟩ : ByteArray), .slice none 0 0, .string (⟨#[]⟩ : ByteArray), .slice none 0 0]) (t := 82) ?hr ?_; (case hd => rfl); (case hg => rfl); (case hr => first | (go_simp; done) | (go_simp; rfl)); intro gb270 hg w26 hbox hb; have n0_ := Aside0.mk (below_step (by repeat (first | (with_reducible first | exact HB.out | apply below_alloc | apply pw_below_drewN | apply below_drew1) | exact HB.out)) hb); have n1_ := Aside0.mk (hbox); have n2_ := Aside0.mk ((by rw [hg]; exact (below_size (by repeat (first | (with_reducible first | exact HB.out | apply below_alloc | apply pw_below_drewN | apply below_drew1) | exact HB.out))) : w.heap.size ≤ gb270)); have n3_ := Aside0.mk ((by rw [hg]; exact (below_size (by repeat (first | (with_reducible first | exact HB.out | apply below_alloc | apply pw_below_drewN | apply below_drew1) | exact HB.out))) : w.heap.size ≤ gb270)); clear HB; have HB := n0_; have BK270 := n1_; have GW270 := n2_; have GE270 := n3_; clear n0_ n1_ n2_ n3_; clear hb hbox hg; have hcz27_0 : w26.cell? ⟨gb270, 0, none⟩ = some (.string (⟨#[]⟩ : ByteArray)) := (blk_cell BK270.out 0).trans rfl; have hcz27_1 : w26.cell? ⟨gb270, 1, none⟩ = some (.slice none 0 0) := (blk_cell BK270.out 1).trans rfl; have hcz27_2 : w26.cell? ⟨gb270, 2, none⟩ = some (.string (⟨#[]⟩ : ByteArray)) := (blk_cell BK270.out 2).trans rfl; have hcz27_3 : w26.cell? ⟨gb270, 3, none⟩ = some (.slice none 0 0) := (blk_cell BK270.out 3).trans rfl; have hfz27_0 := blk_frozen BK270.out 0; have hfz27_1 := blk_frozen BK270.out 1; have hfz27_2 := blk_frozen BK270.out 2; have hfz27_3 := blk_frozen BK270.out 3) | (go_at_call 63; (with_reducible refine (decanterref21_Whole.calls k1 ((rd_T82 l0 x5_1).f2) true _ A9.out).mono ?_); rintro e w28 ⟨rfl, hb⟩; have n0_ := Aside0.mk (blk_below (g := gb270) (o := .cells #[.string ((rd_T82 l0 x5_1).f0), .slice A269_1 ((rd_T82 l0 x5_1).f1).length c269_1, .string ((rd_T82 l0 x5_1).f2), .slice A269_3 ((rd_T82 l0 x5_1).f3).length c269_3] 82 (0, 0)) (by (with_reducible repeat (first | refine blk_drewN ?_ _ | refine blk_drew ?_ | refine blk_alloc ?_ _)); refine blk_put (cs := #[.string ((rd_T82 l0 x5_1).f0), .slice A269_1 ((rd_T82 l0 x5_1).f1).length c269_1, .string ((rd_T82 l0 x5_1).f2), .slice none 0 0]) ?_ 3 _ rfl; (with_reducible repeat (first | refine blk_drewN ?_ _ | refine blk_drew ?_ | refine blk_alloc ?_ _)); refine blk_put (cs := #[.string ((rd_T82 l0 x5_1).f0), .slice A269_1 ((rd_T82 l0 x5_1).f1).length c269_1, .string (⟨#[]⟩ : ByteArray), .slice none 0 0]) ?_ 2 _ rfl; (with_reducible repeat (first | refine blk_drewN ?_ _ | refine blk_drew ?_ | refine blk_alloc ?_ _)); refine blk_put (cs := #[.string ((rd_T82 l0 x5_1).f0), .slice none 0 0, .string (⟨#[]⟩ : ByteArray), .slice none 0 0]) ?_ 1 _ rfl; (with_reducible repeat (first | refine blk_drewN ?_ _ | refine blk_drew ?_ | refine blk_alloc ?_ _)); refine blk_put (cs := #[.string (⟨#[]⟩ : ByteArray), .slice none 0 0, .string (⟨#[]⟩ : ByteArray), .slice none 0 0]) ?_ 0 _ rfl; (with_reducible repeat (first | refine blk_drewN ?_ _ | refine blk_drew ?_ | refine blk_alloc ?_ _)); exact BK270.out) hb); have n1_ := Aside0.mk (below_step (by repeat (first | (with_reducible first | exact HB.out | apply below_alloc | apply pw_below_drewN | apply below_drew1 | refine below_set ?_ GE270.out) | exact HB.out)) hb); clear BK270; clear HB; have BK270 := n0_; have HB := n1_; clear n0_ n1_; (try clear hb); (try clear hb2); (try clear hk); (try clear hi); have hcz29_0 : w28.cell? ⟨gb270, 0, none⟩ = some (.string ((rd_T82 l0 x5_1).f0)) := (blk_cell BK270.out 0).trans rfl; have hcz29_1 : w28.cell? ⟨gb270, 1, none⟩ = some (.slice A269_1 ((rd_T82 l0 x5_1).f1).length c269_1) := (blk_cell BK270.out 1).trans rfl; have hcz29_2 : w28.cell? ⟨gb270, 2, none⟩ = some (.string ((rd_T82 l0 x5_1).f2)) := (blk_cell BK270.out 2).trans rfl; have hcz29_3 : w28.cell? ⟨gb270, 3, none⟩ = some (.slice A269_3 ((rd_T82 l0 x5_1).f3).length c269_3) := (blk_cell BK270.out 3).trans rfl; have hfz29_0 := blk_frozen BK270.out 0; have hfz29_1 := blk_frozen BK270.out 1; have hfz29_2 := blk_frozen BK270.out 2; have hfz29_3 := blk_frozen BK270.out 3; have p272 : 0 ≤ ((ji22) : Int) := of_decide_eq_true (by first | (with_reducible assumption) | assumption); have q272 : (ji22) < (l0.length : Int) := of_decide_eq_true (by first | (with_reducible assumption) | assumption); obtain ⟨ad272, A272_1, c272_1, A272_3, c272_3, e272, hx272_0, hx272_1, hx272_2, hx272_3, hl272_1, hi272_1, hl272_3, hi272_3⟩ := at_T82 HR0.out (ji22) p272 q272; obtain rfl : ad269 = ad272 := (by injection e272); replace hx272_0 := (HB.out.cell (World.block_lt_of_cell? w _ hx272_0)).trans hx272_0; replace hx272_1 := (HB.out.cell (World.block_lt_of_cell? w _ hx272_1)).trans hx272_1; replace hx272_2 := (HB.out.cell (World.block_lt_of_cell? w _ hx272_2)).trans hx272_2; replace hx272_3 := (HB.out.cell (World.block_lt_of_cell? w _ hx272_3)).trans hx272_3; have HR272_1 := Aside0.mk hi272_1; have HC272_1 := Aside0.mk hl272_1; clear hi272_1 hl272_1; have HR272_3 := Aside0.mk hi272_3; have HC272_3 := Aside0.mk hl272_3; clear hi272_3 hl272_3; replace p272 := eq_true p272; replace q272 := eq_true q272))
                            go_ret
                            exact ⟨by first | rfl | (simp [errW_none, errW_some] <;> rfl) | (simp only [← hji22]; first | rfl | (simp [errW_none, errW_some] <;> rfl)) | (simp [*, errW_none, errW_some] <;> rfl), by repeat (first | (with_reducible first | exact HB.out | apply below_alloc | apply pw_below_drewN | apply below_drew1 | refine below_set ?_ GE270.out) | exact HB.out)⟩
                          · rw [if_neg c25] at H
                            have c25b0 : (((rd_T82 l0 (ji22)).f0).toList == ([] : List UInt8)) = false := beq_eq_false_iff_ne.mpr c25
                            have c25b1 : (((rd_T82 l0 (ji22)).f0).toList != ([] : List UInt8)) = true := bne_iff_ne.mpr c25
                            have H' := Aside0.mk H
                            clear H
                            have p269 : 0 ≤ (x5_1 : Int) := of_decide_eq_true (by first | (with_reducible assumption) | assumption)
                            have q269 : x5_1 < (l0.length : Int) := of_decide_eq_true (by first | (with_reducible assumption) | assumption)
                            obtain ⟨ad269, A269_1, c269_1, A269_3, c269_3, e269, hx269_0, hx269_1, hx269_2, hx269_3, hl269_1, hi269_1, hl269_3, hi269_3⟩ := at_T82 HR0.out x5_1 p269 q269
                            cases e269
                            replace hx269_0 := (HB.out.cell (World.block_lt_of_cell? w _ hx269_0)).trans hx269_0
                            replace hx269_1 := (HB.out.cell (World.block_lt_of_cell? w _ hx269_1)).trans hx269_1
                            replace hx269_2 := (HB.out.cell (World.block_lt_of_cell? w _ hx269_2)).trans hx269_2
                            replace hx269_3 := (HB.out.cell (World.block_lt_of_cell? w _ hx269_3)).trans hx269_3
                            have HR269_1 := Aside0.mk hi269_1
                            have HC269_1 := Aside0.mk hl269_1
                            clear hi269_1 hl269_1
                            have HR269_3 := Aside0.mk hi269_3
                            have HC269_3 := Aside0.mk hl269_3
                            clear hi269_3 hl269_3
                            replace p269 := eq_true p269
                            replace q269 := eq_true q269
                            go_wp2_with (first | ((with_reducible refine gate_dst (N := 6) rfl ?_); (try (refine gate_guard (by rfl) ?_; dsimp only)); refine box_event ?hg (N := 6) ?hd (cs := #[.string (⟨#[]⟩ : ByteArray), .slice none 0 0, .string (⟨#[]⟩ : ByteArray), .slice none 0 0]) (t := 82) ?hr ?_; (case hd => rfl); (case hg => rfl); (case hr => first | (go_simp; done) | (go_simp; rfl)); intro gb270 hg w30 hbox hb; have n0_ := Aside0.mk (below_step (by repeat (first | (with_reducible first | exact HB.out | apply below_alloc | apply pw_below_drewN | apply below_drew1) | exact HB.out)) hb); have n1_ := Aside0.mk (hbox); have n2_ := Aside0.mk ((by rw [hg]; exact (below_size (by repeat (first | (with_reducible first | exact HB.out | apply below_alloc | apply pw_below_drewN | apply below_drew1) | exact HB.out))) : w.heap.size ≤ gb270)); have n3_ := Aside0.mk ((by rw [hg]; exact (below_size (by repeat (first | (with_reducible first | exact HB.out | apply below_alloc | apply pw_below_drewN | apply below_drew1) | exact HB.out))) : w.heap.size ≤ gb270)); clear HB; have HB := n0_; have BK270 := n1_; have GW270 := n2_; have GE270 := n3_; clear n0_ n1_ n2_ n3_; clear hb hbox hg; have hcz31_0 : w30.cell? ⟨gb270, 0, none⟩ = some (.string (⟨#[]⟩ : ByteArray)) := (blk_cell BK270.out 0).trans rfl; have hcz31_1 : w30.cell? ⟨gb270, 1, none⟩ = some (.slice none 0 0) := (blk_cell BK270.out 1).trans rfl; have hcz31_2 : w30.cell? ⟨gb270, 2, none⟩ = some (.string (⟨#[]⟩ : ByteArray)) := (blk_cell BK270.out 2).trans rfl; have hcz31_3 : w30.cell? ⟨gb270, 3, none⟩ = some (.slice none 0 0) := (blk_cell BK270.out 3).trans rfl; have hfz31_0 := blk_frozen BK270.out 0; have hfz31_1 := blk_frozen BK270.out 1; have hfz31_2 := blk_frozen BK270.out 2; have hfz31_3 := blk_frozen BK270.out 3) | (go_at_call 63; (with_reducible refine (decanterref21_Whole.calls k1 ((rd_T82 l0 x5_1).f2) true _ A9.out).mono ?_); rintro e w32 ⟨rfl, hb⟩; have n0_ := Aside0.mk (blk_below (g := gb270) (o := .cells #[.string ((rd_T82 l0 x5_1).f0), .slice A269_1 ((rd_T82 l0 x5_1).f1).length c269_1, .string ((rd_T82 l0 x5_1).f2), .slice A269_3 ((rd_T82 l0 x5_1).f3).length c269_3] 82 (0, 0)) (by (with_reducible repeat (first | refine blk_drewN ?_ _ | refine blk_drew ?_ | refine blk_alloc ?_ _)); refine blk_put (cs := #[.string ((rd_T82 l0 x5_1).f0), .slice A269_1 ((rd_T82 l0 x5_1).f1).length c269_1, .string ((rd_T82 l0 x5_1).f2), .slice none 0 0]) ?_ 3 _ rfl; (with_reducible repeat (first | refine blk_drewN ?_ _ | refine blk_drew ?_ | refine blk_alloc ?_ _)); refine blk_put (cs := #[.string ((rd_T82 l0 x5_1).f0), .slice A269_1 ((rd_T82 l0 x5_1).f1).length c269_1, .string (⟨#[]⟩ : ByteArray), .slice none 0 0]) ?_ 2 _ rfl; (with_reducible repeat (first | refine blk_drewN ?_ _ | refine blk_drew ?_ | refine blk_alloc ?_ _)); refine blk_put (cs := #[.string ((rd_T82 l0 x5_1).f0), .slice none 0 0, .string (⟨#[]⟩ : ByteArray), .slice none 0 0]) ?_ 1 _ rfl; (with_reducible repeat (first | refine blk_drewN ?_ _ | refine blk_drew ?_ | refine blk_alloc ?_ _)); refine blk_put (cs := #[.string (⟨#[]⟩ : ByteArray), .slice none 0 0, .string (⟨#[]⟩ : ByteArray), .slice none 0 0]) ?_ 0 _ rfl; (with_reducible repeat (first | refine blk_drewN ?_ _ | refine blk_drew ?_ | refine blk_alloc ?_ _)); exact BK270.out) hb); have n1_ := Aside0.mk (below_step (by repeat (first | (with_reducible first | exact HB.out | apply below_alloc | apply pw_below_drewN | apply below_drew1 | refine below_set ?_ GE270.out) | exact HB.out)) hb); clear BK270; clear HB; have BK270 := n0_; have HB := n1_; clear n0_ n1_; (try clear hb); (try clear hb2); (try clear hk); (try clear hi); have hcz33_0 : w32.cell? ⟨gb270, 0, none⟩ = some (.string ((rd_T82 l0 x5_1).f0)) := (blk_cell BK270.out 0).trans rfl; have hcz33_1 : w32.cell? ⟨gb270, 1, none⟩ = some (.slice A269_1 ((rd_T82 l0 x5_1).f1).length c269_1) := (blk_cell BK270.out 1).trans rfl; have hcz33_2 : w32.cell? ⟨gb270, 2, none⟩ = some (.string ((rd_T82 l0 x5_1).f2)) := (blk_cell BK270.out 2).trans rfl; have hcz33_3 : w32.cell? ⟨gb270, 3, none⟩ = some (.slice A269_3 ((rd_T82 l0 x5_1).f3).length c269_3) := (blk_cell BK270.out 3).trans rfl; have hfz33_0 := blk_frozen BK270.out 0; have hfz33_1 := blk_frozen BK270.out 1; have hfz33_2 := blk_frozen BK270.out 2; have hfz33_3 := blk_frozen BK270.out 3; have p272 : 0 ≤ ((ji22) : Int) := of_decide_eq_true (by first | (with_reducible assumption) | assumption); have q272 : (ji22) < (l0.length : Int) := of_decide_eq_true (by first | (with_reducible assumption) | assumption); obtain ⟨ad272, A272_1, c272_1, A272_3, c272_3, e272, hx272_0, hx272_1, hx272_2, hx272_3, hl272_1, hi272_1, hl272_3, hi272_3⟩ := at_T82 HR0.out (ji22) p272 q272; obtain rfl : ad269 = ad272 := (by injection e272); replace hx272_0 := (HB.out.cell (World.block_lt_of_cell? w _ hx272_0)).trans hx272_0; replace hx272_1 := (HB.out.cell (World.block_lt_of_cell? w _ hx272_1)).trans hx272_1; replace hx272_2 := (HB.out.cell (World.block_lt_of_cell? w _ hx272_2)).trans hx272_2; replace hx272_3 := (HB.out.cell (World.block_lt_of_cell? w _ hx272_3)).trans hx272_3; have HR272_1 := Aside0.mk hi272_1; have HC272_1 := Aside0.mk hl272_1; clear hi272_1 hl272_1; have HR272_3 := Aside0.mk hi272_3; have HC272_3 := Aside0.mk hl272_3; clear hi272_3 hl272_3; replace p272 := eq_true p272; replace q272 := eq_true q272))
                            go_roundg k1
                            case measure => have := HK1.out; omega
                            case rel => exact ⟨(wrap64 (x5_1 + 1)), (by first | rfl | (simp; done) | (simp [*]; done)), H', ⟨by have := HK1.out; omega⟩, ⟨by repeat (first | (with_reducible first | exact HB.out | apply below_alloc | apply pw_below_drewN | apply below_drew1 | refine below_set ?_ GE270.out) | exact HB.out)⟩⟩
                        · rw [if_neg c24] at H
                          exact absurd H (by simp)
                      · rw [if_neg c23] at H
                        exact absurd H (by simp)
                    · rw [if_neg c21] at H
                      have c21b0 : decide (0 < x5_1) = false := decide_eq_false c21
                      clear c21
                      have H' := Aside0.mk H
                      clear H
                      have p269 : 0 ≤ (x5_1 : Int) := of_decide_eq_true (by first | (with_reducible assumption) | assumption)
                      have q269 : x5_1 < (l0.length : Int) := of_decide_eq_true (by first | (with_reducible assumption) | assumption)
                      obtain ⟨ad269, A269_1, c269_1, A269_3, c269_3, e269, hx269_0, hx269_1, hx269_2, hx269_3, hl269_1, hi269_1, hl269_3, hi269_3⟩ := at_T82 HR0.out x5_1 p269 q269
                      cases e269
                      replace hx269_0 := (HB.out.cell (World.block_lt_of_cell? w _ hx269_0)).trans hx269_0
                      replace hx269_1 := (HB.out.cell (World.block_lt_of_cell? w _ hx269_1)).trans hx269_1
                      replace hx269_2 := (HB.out.cell (World.block_lt_of_cell? w _ hx269_2)).trans hx269_2
                      replace hx269_3 := (HB.out.cell (World.block_lt_of_cell? w _ hx269_3)).trans hx269_3
                      have HR269_1 := Aside0.mk hi269_1
                      have HC269_1 := Aside0.mk hl269_1
                      clear hi269_1 hl269_1
                      have HR269_3 := Aside0.mk hi269_3
                      have HC269_3 := Aside0.mk hl269_3
                      clear hi269_3 hl269_3
                      replace p269 := eq_true p269
                      replace q269 := eq_true q269
                      go_wp2_with (first | ((with_reducible refine gate_dst (N := 6) rfl ?_); (try (refine gate_guard (by rfl) ?_; dsimp only)); refine box_event ?hg (N := 6) ?hd (cs := #[.string (⟨#[]⟩ : ByteArray), .slice none 0 0, .string (⟨#[]⟩ : ByteArray), .slice none 0 0]) (t := 82) ?hr ?_; (case hd => rfl); (case hg => rfl); (case hr => first | (go_simp; done) | (go_simp; rfl)); intro gb270 hg w34 hbox hb; have n0_ := Aside0.mk (below_step (by repeat (first | (with_reducible first | exact HB.out | apply below_alloc | apply pw_below_drewN | apply below_drew1) | exact HB.out)) hb); have n1_ := Aside0.mk (hbox); have n2_ := Aside0.mk ((by rw [hg]; exact (below_size (by repeat (first | (with_reducible first | exact HB.out | apply below_alloc | apply pw_below_drewN | apply below_drew1) | exact HB.out))) : w.heap.size ≤ gb270)); have n3_ := Aside0.mk ((by rw [hg]; exact (below_size (by repeat (first | (with_reducible first | exact HB.out | apply below_alloc | apply pw_below_drewN | apply below_drew1) | exact HB.out))) : w.heap.size ≤ gb270)); clear HB; have HB := n0_; have BK270 := n1_; have GW270 := n2_; have GE270 := n3_; clear n0_ n1_ n2_ n3_; clear hb hbox hg; have hcz35_0 : w34.cell? ⟨gb270, 0, none⟩ = some (.string (⟨#[]⟩ : ByteArray)) := (blk_cell BK270.out 0).trans rfl; have hcz35_1 : w34.cell? ⟨gb270, 1, none⟩ = some (.slice none 0 0) := (blk_cell BK270.out 1).trans rfl; have hcz35_2 : w34.cell? ⟨gb270, 2, none⟩ = some (.string (⟨#[]⟩ : ByteArray)) := (blk_cell BK270.out 2).trans rfl; have hcz35_3 : w34.cell? ⟨gb270, 3, none⟩ = some (.slice none 0 0) := (blk_cell BK270.out 3).trans rfl; have hfz35_0 := blk_frozen BK270.out 0; have hfz35_1 := blk_frozen BK270.out 1; have hfz35_2 := blk_frozen BK270.out 2; have hfz35_3 := blk_frozen BK270.out 3) | (go_at_call 63; (with_reducible refine (decanterref21_Whole.calls k1 ((rd_T82 l0 x5_1).f2) true _ A9.out).mono ?_); rintro e w36 ⟨rfl, hb⟩; have n0_ := Aside0.mk (blk_below (g := gb270) (o := .cells #[.string ((rd_T82 l0 x5_1).f0), .slice A269_1 ((rd_T82 l0 x5_1).f1).length c269_1, .string ((rd_T82 l0 x5_1).f2), .slice A269_3 ((rd_T82 l0 x5_1).f3).length c269_3] 82 (0, 0)) (by (with_reducible repeat (first | refine blk_drewN ?_ _ | refine blk_drew ?_ | refine blk_alloc ?_ _)); refine blk_put (cs := #[.string ((rd_T82 l0 x5_1).f0), .slice A269_1 ((rd_T82 l0 x5_1).f1).length c269_1, .string ((rd_T82 l0 x5_1).f2), .slice none 0 0]) ?_ 3 _ rfl; (with_reducible repeat (first | refine blk_drewN ?_ _ | refine blk_drew ?_ | refine blk_alloc ?_ _)); refine blk_put (cs := #[.string ((rd_T82 l0 x5_1).f0), .slice A269_1 ((rd_T82 l0 x5_1).f1).length c269_1, .string (⟨#[]⟩ : ByteArray), .slice none 0 0]) ?_ 2 _ rfl; (with_reducible repeat (first | refine blk_drewN ?_ _ | refine blk_drew ?_ | refine blk_alloc ?_ _)); refine blk_put (cs := #[.string ((rd_T82 l0 x5_1).f0), .slice none 0 0, .string (⟨#[]⟩ : ByteArray), .slice none 0 0]) ?_ 1 _ rfl; (with_reducible repeat (first | refine blk_drewN ?_ _ | refine blk_drew ?_ | refine blk_alloc ?_ _)); refine blk_put (cs := #[.string (⟨#[]⟩ : ByteArray), .slice none 0 0, .string (⟨#[]⟩ : ByteArray), .slice none 0 0]) ?_ 0 _ rfl; (with_reducible repeat (first | refine blk_drewN ?_ _ | refine blk_drew ?_ | refine blk_alloc ?_ _)); exact BK270.out) hb); have n1_ := Aside0.mk (below_step (by repeat (first | (with_reducible first | exact HB.out | apply below_alloc | apply pw_below_drewN | apply below_drew1 | refine below_set ?_ GE270.out) | exact HB.out)) hb); clear BK270; clear HB; have BK270 := n0_; have HB := n1_; clear n0_ n1_; (try clear hb); (try clear hb2); (try clear hk); (try clear hi); have hcz37_0 : w36.cell? ⟨gb270, 0, none⟩ = some (.string ((rd_T82 l0 x5_1).f0)) := (blk_cell BK270.out 0).trans rfl; have hcz37_1 : w36.cell? ⟨gb270, 1, none⟩ = some (.slice A269_1 ((rd_T82 l0 x5_1).f1).length c269_1) := (blk_cell BK270.out 1).trans rfl; have hcz37_2 : w36.cell? ⟨gb270, 2, none⟩ = some (.string ((rd_T82 l0 x5_1).f2)) := (blk_cell BK270.out 2).trans rfl; have hcz37_3 : w36.cell? ⟨gb270, 3, none⟩ = some (.slice A269_3 ((rd_T82 l0 x5_1).f3).length c269_3) := (blk_cell BK270.out 3).trans rfl; have hfz37_0 := blk_frozen BK270.out 0; have hfz37_1 := blk_frozen BK270.out 1; have hfz37_2 := blk_frozen BK270.out 2; have hfz37_3 := blk_frozen BK270.out 3))
                      go_roundg k1
                      case measure => have := HK1.out; omega
                      case rel => exact ⟨(wrap64 (x5_1 + 1)), (by first | rfl | (simp; done) | (simp [*]; done)), H', ⟨by have := HK1.out; omega⟩, ⟨by repeat (first | (with_reducible first | exact HB.out | apply below_alloc | apply pw_below_drewN | apply below_drew1 | refine below_set ?_ GE270.out) | exact HB.out)⟩⟩
              · replace c10 := Bool.eq_false_iff.mpr c10
                subst c10
                have H1 : (some false) = some r := by rw [if_neg (show ¬ (false = true) by decide)] at H; exact H
                clear H
                have H := H1
                clear H1
                obtain rfl := Option.some.inj H
                have p269 : 0 ≤ (x5_1 : Int) := of_decide_eq_true (by first | (with_reducible assumption) | assumption)
                have q269 : x5_1 < (l0.length : Int) := of_decide_eq_true (by first | (with_reducible assumption) | assumption)
                obtain ⟨ad269, A269_1, c269_1, A269_3, c269_3, e269, hx269_0, hx269_1, hx269_2, hx269_3, hl269_1, hi269_1, hl269_3, hi269_3⟩ := at_T82 HR0.out x5_1 p269 q269
                cases e269
                replace hx269_0 := (HB.out.cell (World.block_lt_of_cell? w _ hx269_0)).trans hx269_0
                replace hx269_1 := (HB.out.cell (World.block_lt_of_cell? w _ hx269_1)).trans hx269_1
                replace hx269_2 := (HB.out.cell (World.block_lt_of_cell? w _ hx269_2)).trans hx269_2
                replace hx269_3 := (HB.out.cell (World.block_lt_of_cell? w _ hx269_3)).trans hx269_3
                have HR269_1 := Aside0.mk hi269_1
                have HC269_1 := Aside0.mk hl269_1
                clear hi269_1 hl269_1
                have HR269_3 := Aside0.mk hi269_3
                have HC269_3 := Aside0.mk hl269_3
                clear hi269_3 hl269_3
                replace p269 := eq_true p269
                replace q269 := eq_true q269
                go_wp2_with (first | ((with_reducible refine gate_dst (N := 6) rfl ?_); (try (refine gate_guard (by rfl) ?_; dsimp only)); refine box_event ?hg (N := 6) ?hd (cs := #[.string (⟨#[]⟩ : ByteArray), .slice none 0 0, .string (⟨#[]⟩ : ByteArray), .slice none 0 0]) (t := 82) ?hr ?_; (case hd => rfl); (case hg => rfl); (case hr => first | (go_simp; done) | (go_simp; rfl)); intro gb270 hg w38 hbox hb; have n0_ := Aside0.mk (below_step (by repeat (first | (with_reducible first | exact HB.out | apply below_alloc | apply pw_below_drewN | apply below_drew1) | exact HB.out)) hb); have n1_ := Aside0.mk (hbox); have n2_ := Aside0.mk ((by rw [hg]; exact (below_size (by repeat (first | (with_reducible first | exact HB.out | apply below_alloc | apply pw_below_drewN | apply below_drew1) | exact HB.out))) : w.heap.size ≤ gb270)); have n3_ := Aside0.mk ((by rw [hg]; exact (below_size (by repeat (first | (with_reducible first | exact HB.out | apply below_alloc | apply pw_below_drewN | apply below_drew1) | exact HB.out))) : w.heap.size ≤ gb270)); clear HB; have HB := n0_; have BK270 := n1_; have GW270 := n2_; have GE270 := n3_; clear n0_ n1_ n2_ n3_; clear hb hbox hg; have hcz39_0 : w38.cell? ⟨gb270, 0, none⟩ = some (.string (⟨#[]⟩ : ByteArray)) := (blk_cell BK270.out 0).trans rfl; have hcz39_1 : w38.cell? ⟨gb270, 1, none⟩ = some (.slice none 0 0) := (blk_cell BK270.out 1).trans rfl; have hcz39_2 : w38.cell? ⟨gb270, 2, none⟩ = some (.string (⟨#[]⟩ : ByteArray)) := (blk_cell BK270.out 2).trans rfl; have hcz39_3 : w38.cell? ⟨gb270, 3, none⟩ = some (.slice none 0 0) := (blk_cell BK270.out 3).trans rfl; have hfz39_0 := blk_frozen BK270.out 0; have hfz39_1 := blk_frozen BK270.out 1; have hfz39_2 := blk_frozen BK270.out 2; have hfz39_3 := blk_frozen BK270.out 3) | (go_at_call 63; (with_reducible refine (decanterref21_Whole.calls k1 ((rd_T82 l0 x5_1).f2) false _ A9.out).mono ?_); rintro e w40 ⟨rfl, hb⟩; have n0_ := Aside0.mk (blk_below (g := gb270) (o := .cells #[.string ((rd_T82 l0 x5_1).f0), .slice A269_1 ((rd_T82 l0 x5_1).f1).length c269_1, .string ((rd_T82 l0 x5_1).f2), .slice A269_3 ((rd_T82 l0 x5_1).f3).length c269_3] 82 (0, 0)) (by (with_reducible repeat (first | refine blk_drewN ?_ _ | refine blk_drew ?_ | refine blk_alloc ?_ _)); refine blk_put (cs := #[.string ((rd_T82 l0 x5_1).f0), .slice A269_1 ((rd_T82 l0 x5_1).f1).length c269_1, .string ((rd_T82 l0 x5_1).f2), .slice none 0 0]) ?_ 3 _ rfl; (with_reducible repeat (first | refine blk_drewN ?_ _ | refine blk_drew ?_ | refine blk_alloc ?_ _)); refine blk_put (cs := #[.string ((rd_T82 l0 x5_1).f0), .slice A269_1 ((rd_T82 l0 x5_1).f1).length c269_1, .string (⟨#[]⟩ : ByteArray), .slice none 0 0]) ?_ 2 _ rfl; (with_reducible repeat (first | refine blk_drewN ?_ _ | refine blk_drew ?_ | refine blk_alloc ?_ _)); refine blk_put (cs := #[.string ((rd_T82 l0 x5_1).f0), .slice none 0 0, .string (⟨#[]⟩ : ByteArray), .slice none 0 0]) ?_ 1 _ rfl; (with_reducible repeat (first | refine blk_drewN ?_ _ | refine blk_drew ?_ | refine blk_alloc ?_ _)); refine blk_put (cs := #[.string (⟨#[]⟩ : ByteArray), .slice none 0 0, .string (⟨#[]⟩ : ByteArray), .slice none 0 0]) ?_ 0 _ rfl; (with_reducible repeat (first | refine blk_drewN ?_ _ | refine blk_drew ?_ | refine blk_alloc ?_ _)); exact BK270.out) hb); have n1_ := Aside0.mk (below_step (by repeat (first | (with_reducible first | exact HB.out | apply below_alloc | apply pw_below_drewN | apply below_drew1 | refine below_set ?_ GE270.out) | exact HB.out)) hb); clear BK270; clear HB; have BK270 := n0_; have HB := n1_; clear n0_ n1_; (try clear hb); (try clear hb2); (try clear hk); (try clear hi)))
                go_ret
                exact ⟨by first | rfl | (simp [errW_none, errW_some] <;> rfl) | (simp [*, errW_none, errW_some] <;> rfl), by repeat (first | (with_reducible first | exact HB.out | apply below_alloc | apply pw_below_drewN | apply below_drew1 | refine below_set ?_ GE270.out) | exact HB.out)⟩
          · rw [if_neg c5] at H
            have c5b0 : (((rd_T82 l0 x5_1).f0).toList == ([] : List UInt8)) = false := beq_eq_false_iff_ne.mpr c5
            have c5b1 : (((rd_T82 l0 x5_1).f0).toList != ([] : List UInt8)) = true := bne_iff_ne.mpr c5
            have HC41 := Aside0.mk H
            clear H
            have p269 : 0 ≤ (x5_1 : Int) := of_decide_eq_true (by first | (with_reducible assumption) | assumption)
            have q269 : x5_1 < (l0.length : Int) := of_decide_eq_true (by first | (with_reducible assumption) | assumption)
            obtain ⟨ad269, A269_1, c269_1, A269_3, c269_3, e269, hx269_0, hx269_1, hx269_2, hx269_3, hl269_1, hi269_1, hl269_3, hi269_3⟩ := at_T82 HR0.out x5_1 p269 q269
            cases e269
            replace hx269_0 := (HB.out.cell (World.block_lt_of_cell? w _ hx269_0)).trans hx269_0
            replace hx269_1 := (HB.out.cell (World.block_lt_of_cell? w _ hx269_1)).trans hx269_1
            replace hx269_2 := (HB.out.cell (World.block_lt_of_cell? w _ hx269_2)).trans hx269_2
            replace hx269_3 := (HB.out.cell (World.block_lt_of_cell? w _ hx269_3)).trans hx269_3
            have HR269_1 := Aside0.mk hi269_1
            have HC269_1 := Aside0.mk hl269_1
            clear hi269_1 hl269_1
            have HR269_3 := Aside0.mk hi269_3
            have HC269_3 := Aside0.mk hl269_3
            clear hi269_3 hl269_3
            replace p269 := eq_true p269
            replace q269 := eq_true q269
            go_upto_region 8 with (first | ((with_reducible refine gate_dst (N := 6) rfl ?_); (try (refine gate_guard (by rfl) ?_; dsimp only)); refine box_event ?hg (N := 6) ?hd (cs := #[.string (⟨#[]⟩ : ByteArray), .slice none 0 0, .string (⟨#[]⟩ : ByteArray), .slice none 0 0]) (t := 82) ?hr ?_; (case hd => rfl); (case hg => rfl); (case hr => first | (go_simp; done) | (go_simp; rfl)); intro gb270 hg w42 hbox hb; have n0_ := Aside0.mk (below_step (by repeat (first | (with_reducible first | exact HB.out | apply below_alloc | apply pw_below_drewN | apply below_drew1) | exact HB.out)) hb); have n1_ := Aside0.mk (hbox); have n2_ := Aside0.mk ((by rw [hg]; exact (below_size (by repeat (first | (with_reducible first | exact HB.out | apply below_alloc | apply pw_below_drewN | apply below_drew1) | exact HB.out))) : w.heap.size ≤ gb270)); have n3_ := Aside0.mk ((by rw [hg]; exact (below_size (by repeat (first | (with_reducible first | exact HB.out | apply below_alloc | apply pw_below_drewN | apply below_drew1) | exact HB.out))) : w.heap.size ≤ gb270)); clear HB; have HB := n0_; have BK270 := n1_; have GW270 := n2_; have GE270 := n3_; clear n0_ n1_ n2_ n3_; clear hb hbox hg; have hcz43_0 : w42.cell? ⟨gb270, 0, none⟩ = some (.string (⟨#[]⟩ : ByteArray)) := (blk_cell BK270.out 0).trans rfl; have hcz43_1 : w42.cell? ⟨gb270, 1, none⟩ = some (.slice none 0 0) := (blk_cell BK270.out 1).trans rfl; have hcz43_2 : w42.cell? ⟨gb270, 2, none⟩ = some (.string (⟨#[]⟩ : ByteArray)) := (blk_cell BK270.out 2).trans rfl; have hcz43_3 : w42.cell? ⟨gb270, 3, none⟩ = some (.slice none 0 0) := (blk_cell BK270.out 3).trans rfl; have hfz43_0 := blk_frozen BK270.out 0; have hfz43_1 := blk_frozen BK270.out 1; have hfz43_2 := blk_frozen BK270.out 2; have hfz43_3 := blk_frozen BK270.out 3))
            (try simp only [Act.put, List.setIfInBounds_toArray, List.set_cons_zero, List.set_cons_succ])
            go_cut [75] (fun v75 wc => ∃ (kq : Nat) (x75_40 : Bool), v75 = .bool x75_40 ∧ Aside0 (decanterref21_Sound.j1 kq l0 l1 x5_1 x75_40 ((rd_T82 l0 x5_1).f0) ((rd_T82 l0 x5_1).f1) ((rd_T82 l0 x5_1).f2) ((rd_T82 l0 x5_1).f3) = some r) ∧ Aside0 (kq ≤ k1) ∧ Aside0 (wc.heap[gb270]? = some (.cells #[.string ((rd_T82 l0 x5_1).f0), (.slice A269_1 ((rd_T82 l0 x5_1).f1).length c269_1), .string ((rd_T82 l0 x5_1).f2), (.slice A269_3 ((rd_T82 l0 x5_1).f3).length c269_3)] 82 (0, 0))) ∧ Aside0 (Below w.heap.size w wc))
            case first =>
              have H := HC41.out
              clear HC41
              replace H := Option.bind_eq_some_iff.mp H
              obtain ⟨t273, A440, H⟩ := H
              replace H : (if t273 = true then (if ((rd_T82 l0 x5_1).f2).toList = ([] : List UInt8) then ((decanterref21_In.f k1 l1 ((rd_T82 l0 x5_1).f0)).bind fun t274 => (if t274 = true then ((decanterref21_attrs.f k1 ((rd_T82 l0 x5_1).f1)).bind fun t275 => (decanterref21_Sound.j1 k1 l0 l1 x5_1 (!t275) ((rd_T82 l0 x5_1).f0) ((rd_T82 l0 x5_1).f1) ((rd_T82 l0 x5_1).f2) ((rd_T82 l0 x5_1).f3))) else (decanterref21_Sound.j1 k1 l0 l1 x5_1 true ((rd_T82 l0 x5_1).f0) ((rd_T82 l0 x5_1).f1) ((rd_T82 l0 x5_1).f2) ((rd_T82 l0 x5_1).f3)))) else (decanterref21_Sound.j1 k1 l0 l1 x5_1 true ((rd_T82 l0 x5_1).f0) ((rd_T82 l0 x5_1).f1) ((rd_T82 l0 x5_1).f2) ((rd_T82 l0 x5_1).f3))) else (decanterref21_Sound.j1 k1 l0 l1 x5_1 true ((rd_T82 l0 x5_1).f0) ((rd_T82 l0 x5_1).f1) ((rd_T82 l0 x5_1).f2) ((rd_T82 l0 x5_1).f3))) = some r := H
              have A44 := Aside0.mk A440
              clear A440
              by_cases c45 : t273 = true
              · subst c45
                have H1 : (if ((rd_T82 l0 x5_1).f2).toList = ([] : List UInt8) then ((decanterref21_In.f k1 l1 ((rd_T82 l0 x5_1).f0)).bind fun t274 => (if t274 = true then ((decanterref21_attrs.f k1 ((rd_T82 l0 x5_1).f1)).bind fun t275 => (decanterref21_Sound.j1 k1 l0 l1 x5_1 (!t275) ((rd_T82 l0 x5_1).f0) ((rd_T82 l0 x5_1).f1) ((rd_T82 l0 x5_1).f2) ((rd_T82 l0 x5_1).f3))) else (decanterref21_Sound.j1 k1 l0 l1 x5_1 true ((rd_T82 l0 x5_1).f0) ((rd_T82 l0 x5_1).f1) ((rd_T82 l0 x5_1).f2) ((rd_T82 l0 x5_1).f3)))) else (decanterref21_Sound.j1 k1 l0 l1 x5_1 true ((rd_T82 l0 x5_1).f0) ((rd_T82 l0 x5_1).f1) ((rd_T82 l0 x5_1).f2) ((rd_T82 l0 x5_1).f3))) = some r := by rw [if_pos rfl] at H; exact H
                clear H
                have H := H1
                clear H1
                by_cases c46 : ((rd_T82 l0 x5_1).f2).toList = ([] : List UInt8)
                · rw [if_pos c46] at H
                  have c46b0 : (((rd_T82 l0 x5_1).f2).toList == ([] : List UInt8)) = true := beq_iff_eq.mpr c46
                  have c46b1 : (((rd_T82 l0 x5_1).f2).toList != ([] : List UInt8)) = false := bne_eq_false_iff_eq.mpr c46
                  clear c46
                  (first | rw [c46b0] | (simp only [i64_w, i32_w]; rw [c46b0]) | rw [c46b1] | skip)
                  replace H := Option.bind_eq_some_iff.mp H
                  obtain ⟨t274, A470, H⟩ := H
                  replace H : (if t274 = true then ((decanterref21_attrs.f k1 ((rd_T82 l0 x5_1).f1)).bind fun t275 => (decanterref21_Sound.j1 k1 l0 l1 x5_1 (!t275) ((rd_T82 l0 x5_1).f0) ((rd_T82 l0 x5_1).f1) ((rd_T82 l0 x5_1).f2) ((rd_T82 l0 x5_1).f3))) else (decanterref21_Sound.j1 k1 l0 l1 x5_1 true ((rd_T82 l0 x5_1).f0) ((rd_T82 l0 x5_1).f1) ((rd_T82 l0 x5_1).f2) ((rd_T82 l0 x5_1).f3))) = some r := H
                  have A47 := Aside0.mk A470
                  clear A470
                  by_cases c48 : t274 = true
                  · subst c48
                    have H1 : ((decanterref21_attrs.f k1 ((rd_T82 l0 x5_1).f1)).bind fun t275 => (decanterref21_Sound.j1 k1 l0 l1 x5_1 (!t275) ((rd_T82 l0 x5_1).f0) ((rd_T82 l0 x5_1).f1) ((rd_T82 l0 x5_1).f2) ((rd_T82 l0 x5_1).f3))) = some r := by rw [if_pos rfl] at H; exact H
                    clear H
                    have H := H1
                    clear H1
                    replace H := Option.bind_eq_some_iff.mp H
                    obtain ⟨t275, A490, H⟩ := H
                    replace H : (decanterref21_Sound.j1 k1 l0 l1 x5_1 (!t275) ((rd_T82 l0 x5_1).f0) ((rd_T82 l0 x5_1).f1) ((rd_T82 l0 x5_1).f2) ((rd_T82 l0 x5_1).f3)) = some r := H
                    have A49 := Aside0.mk A490
                    clear A490
                    have H' := Aside0.mk H
                    clear H
                    have hcz50_0 : w42.cell? ⟨gb270, 0, none⟩ = some (.string (⟨#[]⟩ : ByteArray)) := (blk_cell BK270.out 0).trans rfl
                    have hcz50_1 : w42.cell? ⟨gb270, 1, none⟩ = some (.slice none 0 0) := (blk_cell BK270.out 1).trans rfl
                    have hcz50_2 : w42.cell? ⟨gb270, 2, none⟩ = some (.string (⟨#[]⟩ : ByteArray)) := (blk_cell BK270.out 2).trans rfl
                    have hcz50_3 : w42.cell? ⟨gb270, 3, none⟩ = some (.slice none 0 0) := (blk_cell BK270.out 3).trans rfl
                    have hfz50_0 := blk_frozen BK270.out 0
                    have hfz50_1 := blk_frozen BK270.out 1
                    have hfz50_2 := blk_frozen BK270.out 2
                    have hfz50_3 := blk_frozen BK270.out 3
                    go_wp2_with (first | ((with_reducible refine gate_callee (f := 20) rfl ?_); refine goesL_ (some 56) rfl rfl Tryd.func20 (by kernel_rfl) rfl #[.string ((rd_T82 l0 x5_1).f0), .int .i64 9] rfl (by (try simp only [List.map_toArray, List.map_cons, List.map_nil]); first | done | rfl | (simp only [List.length_drop, List.length_take]; rfl)) ?_; (with_reducible refine (decanterref11_Is.calls k1 ((rd_T82 l0 x5_1).f0) 9 true _ A44.out).mono ?_); rintro e w51 ⟨rfl, hb⟩; refine ⟨_, rfl, ?_⟩; have n0_ := Aside0.mk (blk_below (g := gb270) (o := .cells #[.string ((rd_T82 l0 x5_1).f0), .slice A269_1 ((rd_T82 l0 x5_1).f1).length c269_1, .string ((rd_T82 l0 x5_1).f2), .slice A269_3 ((rd_T82 l0 x5_1).f3).length c269_3] 82 (0, 0)) (by (with_reducible repeat (first | refine blk_drewN ?_ _ | refine blk_drew ?_ | refine blk_alloc ?_ _)); refine blk_put (cs := #[.string ((rd_T82 l0 x5_1).f0), .slice A269_1 ((rd_T82 l0 x5_1).f1).length c269_1, .string ((rd_T82 l0 x5_1).f2), .slice none 0 0]) ?_ 3 _ rfl; (with_reducible repeat (first | refine blk_drewN ?_ _ | refine blk_drew ?_ | refine blk_alloc ?_ _)); refine blk_put (cs := #[.string ((rd_T82 l0 x5_1).f0), .slice A269_1 ((rd_T82 l0 x5_1).f1).length c269_1, .string (⟨#[]⟩ : ByteArray), .slice none 0 0]) ?_ 2 _ rfl; (with_reducible repeat (first | refine blk_drewN ?_ _ | refine blk_drew ?_ | refine blk_alloc ?_ _)); refine blk_put (cs := #[.string ((rd_T82 l0 x5_1).f0), .slice none 0 0, .string (⟨#[]⟩ : ByteArray), .slice none 0 0]) ?_ 1 _ rfl; (with_reducible repeat (first | refine blk_drewN ?_ _ | refine blk_drew ?_ | refine blk_alloc ?_ _)); refine blk_put (cs := #[.string (⟨#[]⟩ : ByteArray), .slice none 0 0, .string (⟨#[]⟩ : ByteArray), .slice none 0 0]) ?_ 0 _ rfl; (with_reducible repeat (first | refine blk_drewN ?_ _ | refine blk_drew ?_ | refine blk_alloc ?_ _)); exact BK270.out) hb); have n1_ := Aside0.mk (below_step (by repeat (first | (with_reducible first | exact HB.out | apply below_alloc | apply pw_below_drewN | apply below_drew1 | refine below_set ?_ GE270.out) | exact HB.out)) hb); clear BK270; clear HB; have BK270 := n0_; have HB := n1_; clear n0_ n1_; (try clear hb); (try clear hb2); (try clear hk); (try clear hi); have hcz52_0 : w51.cell? ⟨gb270, 0, none⟩ = some (.string ((rd_T82 l0 x5_1).f0)) := (blk_cell BK270.out 0).trans rfl; have hcz52_1 : w51.cell? ⟨gb270, 1, none⟩ = some (.slice A269_1 ((rd_T82 l0 x5_1).f1).length c269_1) := (blk_cell BK270.out 1).trans rfl; have hcz52_2 : w51.cell? ⟨gb270, 2, none⟩ = some (.string ((rd_T82 l0 x5_1).f2)) := (blk_cell BK270.out 2).trans rfl; have hcz52_3 : w51.cell? ⟨gb270, 3, none⟩ = some (.slice A269_3 ((rd_T82 l0 x5_1).f3).length c269_3) := (blk_cell BK270.out 3).trans rfl; have hfz52_0 := blk_frozen BK270.out 0; have hfz52_1 := blk_frozen BK270.out 1; have hfz52_2 := blk_frozen BK270.out 2; have hfz52_3 := blk_frozen BK270.out 3) | (go_at_call 19; (with_reducible refine (decanterref21_In.calls k1 _ _ l1 ((rd_T82 l0 x5_1).f0) true _ ?side1 ?side2 A47.out).mono ?_); (case side1 => repeat (first | exact (Kd.C_below HR1.out HB.out) | (with_reducible refine Kd.C_alloc ?_ _) | (with_reducible refine Kd.C_drewN ?_ _) | (with_reducible refine Kd.C_drew ?_))); (case side2 => exact HC1.out); rintro e w53 ⟨rfl, hb⟩; have n0_ := Aside0.mk (blk_below (g := gb270) (o := .cells #[.string ((rd_T82 l0 x5_1).f0), .slice A269_1 ((rd_T82 l0 x5_1).f1).length c269_1, .string ((rd_T82 l0 x5_1).f2), .slice A269_3 ((rd_T82 l0 x5_1).f3).length c269_3] 82 (0, 0)) (by (with_reducible repeat (first | refine blk_drewN ?_ _ | refine blk_drew ?_ | refine blk_alloc ?_ _)); exact BK270.out) hb); have n1_ := Aside0.mk (below_step (by repeat (first | (with_reducible first | exact HB.out | apply below_alloc | apply pw_below_drewN | apply below_drew1 | refine below_set ?_ GE270.out) | exact HB.out)) hb); clear BK270; clear HB; have BK270 := n0_; have HB := n1_; clear n0_ n1_; (try clear hb); (try clear hb2); (try clear hk); (try clear hi); have hcz54_0 : w53.cell? ⟨gb270, 0, none⟩ = some (.string ((rd_T82 l0 x5_1).f0)) := (blk_cell BK270.out 0).trans rfl; have hcz54_1 : w53.cell? ⟨gb270, 1, none⟩ = some (.slice A269_1 ((rd_T82 l0 x5_1).f1).length c269_1) := (blk_cell BK270.out 1).trans rfl; have hcz54_2 : w53.cell? ⟨gb270, 2, none⟩ = some (.string ((rd_T82 l0 x5_1).f2)) := (blk_cell BK270.out 2).trans rfl; have hcz54_3 : w53.cell? ⟨gb270, 3, none⟩ = some (.slice A269_3 ((rd_T82 l0 x5_1).f3).length c269_3) := (blk_cell BK270.out 3).trans rfl; have hfz54_0 := blk_frozen BK270.out 0; have hfz54_1 := blk_frozen BK270.out 1; have hfz54_2 := blk_frozen BK270.out 2; have hfz54_3 := blk_frozen BK270.out 3) | (go_at_call 64; (with_reducible refine (decanterref21_attrs.calls k1 _ _ ((rd_T82 l0 x5_1).f1) t275 _ ?side1 ?side2 A49.out).mono ?_); (case side1 => repeat (first | exact (Kd.C_below HR269_1.out HB.out) | (with_reducible refine Kd.C_alloc ?_ _) | (with_reducible refine Kd.C_drewN ?_ _) | (with_reducible refine Kd.C_drew ?_))); (case side2 => exact HC269_1.out); rintro e w55 ⟨rfl, hb⟩; have n0_ := Aside0.mk (blk_below (g := gb270) (o := .cells #[.string ((rd_T82 l0 x5_1).f0), .slice A269_1 ((rd_T82 l0 x5_1).f1).length c269_1, .string ((rd_T82 l0 x5_1).f2), .slice A269_3 ((rd_T82 l0 x5_1).f3).length c269_3] 82 (0, 0)) (by (with_reducible repeat (first | refine blk_drewN ?_ _ | refine blk_drew ?_ | refine blk_alloc ?_ _)); exact BK270.out) hb); have n1_ := Aside0.mk (below_step (by repeat (first | (with_reducible first | exact HB.out | apply below_alloc | apply pw_below_drewN | apply below_drew1 | refine below_set ?_ GE270.out) | exact HB.out)) hb); clear BK270; clear HB; have BK270 := n0_; have HB := n1_; clear n0_ n1_; (try clear hb); (try clear hb2); (try clear hk); (try clear hi)))
                    go_meet
                    case rel => exact ⟨_, (!t275), (by first | rfl | (simp; done) | (simp [*]; done)), H', ⟨by have := HK1.out; first | omega | exact Nat.le_refl _⟩, ⟨by (with_reducible repeat (first | refine blk_drewN ?_ _ | refine blk_drew ?_ | refine blk_alloc ?_ _)); exact BK270.out⟩, ⟨by repeat (first | (with_reducible first | exact HB.out | apply below_alloc | apply pw_below_drewN | apply below_drew1 | refine below_set ?_ GE270.out) | exact HB.out)⟩⟩
                  · replace c48 := Bool.eq_false_iff.mpr c48
                    subst c48
                    have H1 : (decanterref21_Sound.j1 k1 l0 l1 x5_1 true ((rd_T82 l0 x5_1).f0) ((rd_T82 l0 x5_1).f1) ((rd_T82 l0 x5_1).f2) ((rd_T82 l0 x5_1).f3)) = some r := by rw [if_neg (show ¬ (false = true) by decide)] at H; exact H
                    clear H
                    have H := H1
                    clear H1
                    have H' := Aside0.mk H
                    clear H
                    have hcz56_0 : w42.cell? ⟨gb270, 0, none⟩ = some (.string (⟨#[]⟩ : ByteArray)) := (blk_cell BK270.out 0).trans rfl
                    have hcz56_1 : w42.cell? ⟨gb270, 1, none⟩ = some (.slice none 0 0) := (blk_cell BK270.out 1).trans rfl
                    have hcz56_2 : w42.cell? ⟨gb270, 2, none⟩ = some (.string (⟨#[]⟩ : ByteArray)) := (blk_cell BK270.out 2).trans rfl
                    have hcz56_3 : w42.cell? ⟨gb270, 3, none⟩ = some (.slice none 0 0) := (blk_cell BK270.out 3).trans rfl
                    have hfz56_0 := blk_frozen BK270.out 0
                    have hfz56_1 := blk_frozen BK270.out 1
                    have hfz56_2 := blk_frozen BK270.out 2
                    have hfz56_3 := blk_frozen BK270.out 3
                    go_wp2_with (first | ((with_reducible refine gate_callee (f := 20) rfl ?_); refine goesL_ (some 56) rfl rfl Tryd.func20 (by kernel_rfl) rfl #[.string ((rd_T82 l0 x5_1).f0), .int .i64 9] rfl (by (try simp only [List.map_toArray, List.map_cons, List.map_nil]); first | done | rfl | (simp only [List.length_drop, List.length_take]; rfl)) ?_; (with_reducible refine (decanterref11_Is.calls k1 ((rd_T82 l0 x5_1).f0) 9 true _ A44.out).mono ?_); rintro e w57 ⟨rfl, hb⟩; refine ⟨_, rfl, ?_⟩; have n0_ := Aside0.mk (blk_below (g := gb270) (o := .cells #[.string ((rd_T82 l0 x5_1).f0), .slice A269_1 ((rd_T82 l0 x5_1).f1).length c269_1, .string ((rd_T82 l0 x5_1).f2), .slice A269_3 ((rd_T82 l0 x5_1).f3).length c269_3] 82 (0, 0)) (by (with_reducible repeat (first | refine blk_drewN ?_ _ | refine blk_drew ?_ | refine blk_alloc ?_ _)); refine blk_put (cs := #[.string ((rd_T82 l0 x5_1).f0), .slice A269_1 ((rd_T82 l0 x5_1).f1).length c269_1, .string ((rd_T82 l0 x5_1).f2), .slice none 0 0]) ?_ 3 _ rfl; (with_reducible repeat (first | refine blk_drewN ?_ _ | refine blk_drew ?_ | refine blk_alloc ?_ _)); refine blk_put (cs := #[.string ((rd_T82 l0 x5_1).f0), .slice A269_1 ((rd_T82 l0 x5_1).f1).length c269_1, .string (⟨#[]⟩ : ByteArray), .slice none 0 0]) ?_ 2 _ rfl; (with_reducible repeat (first | refine blk_drewN ?_ _ | refine blk_drew ?_ | refine blk_alloc ?_ _)); refine blk_put (cs := #[.string ((rd_T82 l0 x5_1).f0), .slice none 0 0, .string (⟨#[]⟩ : ByteArray), .slice none 0 0]) ?_ 1 _ rfl; (with_reducible repeat (first | refine blk_drewN ?_ _ | refine blk_drew ?_ | refine blk_alloc ?_ _)); refine blk_put (cs := #[.string (⟨#[]⟩ : ByteArray), .slice none 0 0, .string (⟨#[]⟩ : ByteArray), .slice none 0 0]) ?_ 0 _ rfl; (with_reducible repeat (first | refine blk_drewN ?_ _ | refine blk_drew ?_ | refine blk_alloc ?_ _)); exact BK270.out) hb); have n1_ := Aside0.mk (below_step (by repeat (first | (with_reducible first | exact HB.out | apply below_alloc | apply pw_below_drewN | apply below_drew1 | refine below_set ?_ GE270.out) | exact HB.out)) hb); clear BK270; clear HB; have BK270 := n0_; have HB := n1_; clear n0_ n1_; (try clear hb); (try clear hb2); (try clear hk); (try clear hi); have hcz58_0 : w57.cell? ⟨gb270, 0, none⟩ = some (.string ((rd_T82 l0 x5_1).f0)) := (blk_cell BK270.out 0).trans rfl; have hcz58_1 : w57.cell? ⟨gb270, 1, none⟩ = some (.slice A269_1 ((rd_T82 l0 x5_1).f1).length c269_1) := (blk_cell BK270.out 1).trans rfl; have hcz58_2 : w57.cell? ⟨gb270, 2, none⟩ = some (.string ((rd_T82 l0 x5_1).f2)) := (blk_cell BK270.out 2).trans rfl; have hcz58_3 : w57.cell? ⟨gb270, 3, none⟩ = some (.slice A269_3 ((rd_T82 l0 x5_1).f3).length c269_3) := (blk_cell BK270.out 3).trans rfl; have hfz58_0 := blk_frozen BK270.out 0; have hfz58_1 := blk_frozen BK270.out 1; have hfz58_2 := blk_frozen BK270.out 2; have hfz58_3 := blk_frozen BK270.out 3) | (go_at_call 19; (with_reducible refine (decanterref21_In.calls k1 _ _ l1 ((rd_T82 l0 x5_1).f0) false _ ?side1 ?side2 A47.out).mono ?_); (case side1 => repeat (first | exact (Kd.C_below HR1.out HB.out) | (with_reducible refine Kd.C_alloc ?_ _) | (with_reducible refine Kd.C_drewN ?_ _) | (with_reducible refine Kd.C_drew ?_))); (case side2 => exact HC1.out); rintro e w59 ⟨rfl, hb⟩; have n0_ := Aside0.mk (blk_below (g := gb270) (o := .cells #[.string ((rd_T82 l0 x5_1).f0), .slice A269_1 ((rd_T82 l0 x5_1).f1).length c269_1, .string ((rd_T82 l0 x5_1).f2), .slice A269_3 ((rd_T82 l0 x5_1).f3).length c269_3] 82 (0, 0)) (by (with_reducible repeat (first | refine blk_drewN ?_ _ | refine blk_drew ?_ | refine blk_alloc ?_ _)); exact BK270.out) hb); have n1_ := Aside0.mk (below_step (by repeat (first | (with_reducible first | exact HB.out | apply below_alloc | apply pw_below_drewN | apply below_drew1 | refine below_set ?_ GE270.out) | exact HB.out)) hb); clear BK270; clear HB; have BK270 := n0_; have HB := n1_; clear n0_ n1_; (try clear hb); (try clear hb2); (try clear hk); (try clear hi)))
                    go_meet
                    case rel => exact ⟨_, (true), (by first | rfl | (simp; done) | (simp [*]; done)), H', ⟨by have := HK1.out; first | omega | exact Nat.le_refl _⟩, ⟨by (with_reducible repeat (first | refine blk_drewN ?_ _ | refine blk_drew ?_ | refine blk_alloc ?_ _)); exact BK270.out⟩, ⟨by repeat (first | (with_reducible first | exact HB.out | apply below_alloc | apply pw_below_drewN | apply below_drew1 | refine below_set ?_ GE270.out) | exact HB.out)⟩⟩
                · rw [if_neg c46] at H
                  have c46b0 : (((rd_T82 l0 x5_1).f2).toList == ([] : List UInt8)) = false := beq_eq_false_iff_ne.mpr c46
                  have c46b1 : (((rd_T82 l0 x5_1).f2).toList != ([] : List UInt8)) = true := bne_iff_ne.mpr c46
                  (first | rw [c46b0] | (simp only [i64_w, i32_w]; rw [c46b0]) | rw [c46b1] | skip)
                  have H' := Aside0.mk H
                  clear H
                  have hcz60_0 : w42.cell? ⟨gb270, 0, none⟩ = some (.string (⟨#[]⟩ : ByteArray)) := (blk_cell BK270.out 0).trans rfl
                  have hcz60_1 : w42.cell? ⟨gb270, 1, none⟩ = some (.slice none 0 0) := (blk_cell BK270.out 1).trans rfl
                  have hcz60_2 : w42.cell? ⟨gb270, 2, none⟩ = some (.string (⟨#[]⟩ : ByteArray)) := (blk_cell BK270.out 2).trans rfl
                  have hcz60_3 : w42.cell? ⟨gb270, 3, none⟩ = some (.slice none 0 0) := (blk_cell BK270.out 3).trans rfl
                  have hfz60_0 := blk_frozen BK270.out 0
                  have hfz60_1 := blk_frozen BK270.out 1
                  have hfz60_2 := blk_frozen BK270.out 2
                  have hfz60_3 := blk_frozen BK270.out 3
                  go_wp2_with (first | ((with_reducible refine gate_callee (f := 20) rfl ?_); refine goesL_ (some 56) rfl rfl Tryd.func20 (by kernel_rfl) rfl #[.string ((rd_T82 l0 x5_1).f0), .int .i64 9] rfl (by (try simp only [List.map_toArray, List.map_cons, List.map_nil]); first | done | rfl | (simp only [List.length_drop, List.length_take]; rfl)) ?_; (with_reducible refine (decanterref11_Is.calls k1 ((rd_T82 l0 x5_1).f0) 9 true _ A44.out).mono ?_); rintro e w61 ⟨rfl, hb⟩; refine ⟨_, rfl, ?_⟩; have n0_ := Aside0.mk (blk_below (g := gb270) (o := .cells #[.string ((rd_T82 l0 x5_1).f0), .slice A269_1 ((rd_T82 l0 x5_1).f1).length c269_1, .string ((rd_T82 l0 x5_1).f2), .slice A269_3 ((rd_T82 l0 x5_1).f3).length c269_3] 82 (0, 0)) (by (with_reducible repeat (first | refine blk_drewN ?_ _ | refine blk_drew ?_ | refine blk_alloc ?_ _)); refine blk_put (cs := #[.string ((rd_T82 l0 x5_1).f0), .slice A269_1 ((rd_T82 l0 x5_1).f1).length c269_1, .string ((rd_T82 l0 x5_1).f2), .slice none 0 0]) ?_ 3 _ rfl; (with_reducible repeat (first | refine blk_drewN ?_ _ | refine blk_drew ?_ | refine blk_alloc ?_ _)); refine blk_put (cs := #[.string ((rd_T82 l0 x5_1).f0), .slice A269_1 ((rd_T82 l0 x5_1).f1).length c269_1, .string (⟨#[]⟩ : ByteArray), .slice none 0 0]) ?_ 2 _ rfl; (with_reducible repeat (first | refine blk_drewN ?_ _ | refine blk_drew ?_ | refine blk_alloc ?_ _)); refine blk_put (cs := #[.string ((rd_T82 l0 x5_1).f0), .slice none 0 0, .string (⟨#[]⟩ : ByteArray), .slice none 0 0]) ?_ 1 _ rfl; (with_reducible repeat (first | refine blk_drewN ?_ _ | refine blk_drew ?_ | refine blk_alloc ?_ _)); refine blk_put (cs := #[.string (⟨#[]⟩ : ByteArray), .slice none 0 0, .string (⟨#[]⟩ : ByteArray), .slice none 0 0]) ?_ 0 _ rfl; (with_reducible repeat (first | refine blk_drewN ?_ _ | refine blk_drew ?_ | refine blk_alloc ?_ _)); exact BK270.out) hb); have n1_ := Aside0.mk (below_step (by repeat (first | (with_reducible first | exact HB.out | apply below_alloc | apply pw_below_drewN | apply below_drew1 | refine below_set ?_ GE270.out) | exact HB.out)) hb); clear BK270; clear HB; have BK270 := n0_; have HB := n1_; clear n0_ n1_; (try clear hb); (try clear hb2); (try clear hk); (try clear hi); have hcz62_0 : w61.cell? ⟨gb270, 0, none⟩ = some (.string ((rd_T82 l0 x5_1).f0)) := (blk_cell BK270.out 0).trans rfl; have hcz62_1 : w61.cell? ⟨gb270, 1, none⟩ = some (.slice A269_1 ((rd_T82 l0 x5_1).f1).length c269_1) := (blk_cell BK270.out 1).trans rfl; have hcz62_2 : w61.cell? ⟨gb270, 2, none⟩ = some (.string ((rd_T82 l0 x5_1).f2)) := (blk_cell BK270.out 2).trans rfl; have hcz62_3 : w61.cell? ⟨gb270, 3, none⟩ = some (.slice A269_3 ((rd_T82 l0 x5_1).f3).length c269_3) := (blk_cell BK270.out 3).trans rfl; have hfz62_0 := blk_frozen BK270.out 0; have hfz62_1 := blk_frozen BK270.out 1; have hfz62_2 := blk_frozen BK270.out 2; have hfz62_3 := blk_frozen BK270.out 3))
                  go_meet
                  case rel => exact ⟨_, (true), (by first | rfl | (simp; done) | (simp [*]; done)), H', ⟨by have := HK1.out; first | omega | exact Nat.le_refl _⟩, ⟨by (with_reducible repeat (first | refine blk_drewN ?_ _ | refine blk_drew ?_ | refine blk_alloc ?_ _)); exact BK270.out⟩, ⟨by repeat (first | (with_reducible first | exact HB.out | apply below_alloc | apply pw_below_drewN | apply below_drew1 | refine below_set ?_ GE270.out) | exact HB.out)⟩⟩
              · replace c45 := Bool.eq_false_iff.mpr c45
                subst c45
                have H1 : (decanterref21_Sound.j1 k1 l0 l1 x5_1 true ((rd_T82 l0 x5_1).f0) ((rd_T82 l0 x5_1).f1) ((rd_T82 l0 x5_1).f2) ((rd_T82 l0 x5_1).f3)) = some r := by rw [if_neg (show ¬ (false = true) by decide)] at H; exact H
                clear H
                have H := H1
                clear H1
                have H' := Aside0.mk H
                clear H
                have hcz63_0 : w42.cell? ⟨gb270, 0, none⟩ = some (.string (⟨#[]⟩ : ByteArray)) := (blk_cell BK270.out 0).trans rfl
                have hcz63_1 : w42.cell? ⟨gb270, 1, none⟩ = some (.slice none 0 0) := (blk_cell BK270.out 1).trans rfl
                have hcz63_2 : w42.cell? ⟨gb270, 2, none⟩ = some (.string (⟨#[]⟩ : ByteArray)) := (blk_cell BK270.out 2).trans rfl
                have hcz63_3 : w42.cell? ⟨gb270, 3, none⟩ = some (.slice none 0 0) := (blk_cell BK270.out 3).trans rfl
                have hfz63_0 := blk_frozen BK270.out 0
                have hfz63_1 := blk_frozen BK270.out 1
                have hfz63_2 := blk_frozen BK270.out 2
                have hfz63_3 := blk_frozen BK270.out 3
                go_wp2_with (first | ((with_reducible refine gate_callee (f := 20) rfl ?_); refine goesL_ (some 56) rfl rfl Tryd.func20 (by kernel_rfl) rfl #[.string ((rd_T82 l0 x5_1).f0), .int .i64 9] rfl (by (try simp only [List.map_toArray, List.map_cons, List.map_nil]); first | done | rfl | (simp only [List.length_drop, List.length_take]; rfl)) ?_; (with_reducible refine (decanterref11_Is.calls k1 ((rd_T82 l0 x5_1).f0) 9 false _ A44.out).mono ?_); rintro e w64 ⟨rfl, hb⟩; refine ⟨_, rfl, ?_⟩; have n0_ := Aside0.mk (blk_below (g := gb270) (o := .cells #[.string ((rd_T82 l0 x5_1).f0), .slice A269_1 ((rd_T82 l0 x5_1).f1).length c269_1, .string ((rd_T82 l0 x5_1).f2), .slice A269_3 ((rd_T82 l0 x5_1).f3).length c269_3] 82 (0, 0)) (by (with_reducible repeat (first | refine blk_drewN ?_ _ | refine blk_drew ?_ | refine blk_alloc ?_ _)); refine blk_put (cs := #[.string ((rd_T82 l0 x5_1).f0), .slice A269_1 ((rd_T82 l0 x5_1).f1).length c269_1, .string ((rd_T82 l0 x5_1).f2), .slice none 0 0]) ?_ 3 _ rfl; (with_reducible repeat (first | refine blk_drewN ?_ _ | refine blk_drew ?_ | refine blk_alloc ?_ _)); refine blk_put (cs := #[.string ((rd_T82 l0 x5_1).f0), .slice A269_1 ((rd_T82 l0 x5_1).f1).length c269_1, .string (⟨#[]⟩ : ByteArray), .slice none 0 0]) ?_ 2 _ rfl; (with_reducible repeat (first | refine blk_drewN ?_ _ | refine blk_drew ?_ | refine blk_alloc ?_ _)); refine blk_put (cs := #[.string ((rd_T82 l0 x5_1).f0), .slice none 0 0, .string (⟨#[]⟩ : ByteArray), .slice none 0 0]) ?_ 1 _ rfl; (with_reducible repeat (first | refine blk_drewN ?_ _ | refine blk_drew ?_ | refine blk_alloc ?_ _)); refine blk_put (cs := #[.string (⟨#[]⟩ : ByteArray), .slice none 0 0, .string (⟨#[]⟩ : ByteArray), .slice none 0 0]) ?_ 0 _ rfl; (with_reducible repeat (first | refine blk_drewN ?_ _ | refine blk_drew ?_ | refine blk_alloc ?_ _)); exact BK270.out) hb); have n1_ := Aside0.mk (below_step (by repeat (first | (with_reducible first | exact HB.out | apply below_alloc | apply pw_below_drewN | apply below_drew1 | refine below_set ?_ GE270.out) | exact HB.out)) hb); clear BK270; clear HB; have BK270 := n0_; have HB := n1_; clear n0_ n1_; (try clear hb); (try clear hb2); (try clear hk); (try clear hi)))
                go_meet
                case rel => exact ⟨_, (true), (by first | rfl | (simp; done) | (simp [*]; done)), H', ⟨by have := HK1.out; first | omega | exact Nat.le_refl _⟩, ⟨by (with_reducible repeat (first | refine blk_drewN ?_ _ | refine blk_drew ?_ | refine blk_alloc ?_ _)); exact BK270.out⟩, ⟨by repeat (first | (with_reducible first | exact HB.out | apply below_alloc | apply pw_below_drewN | apply below_drew1 | refine below_set ?_ GE270.out) | exact HB.out)⟩⟩
            case rest =>
              clear HC41
              try clear c1
              try clear c2
              try clear p2
              try clear q2
              try clear hx2
              try clear c3
              try clear c3b0
              try clear c4
              try clear c4b0
              try clear c5
              try clear c5b0
              try clear c5b1
              try clear c6
              try clear c6b0
              try clear c6b1
              try clear p6
              try clear c10
              try clear c11
              try clear c11b0
              try clear c11b1
              try clear c16
              try clear c16b0
              try clear c16b1
              try clear c20
              try clear c21
              try clear c21b0
              try clear c23
              try clear c23b0
              try clear c24
              try clear c24b0
              try clear c25
              try clear c25b0
              try clear c25b1
              try clear c26
              try clear p26
              try clear q26
              try clear hx26
              try clear c27
              try clear p27
              try clear q27
              try clear hx27
              try clear c32
              try clear c45
              try clear c46
              try clear c46b0
              try clear c46b1
              try clear c48
              try clear p64
              try clear hcz13_0
              try clear hcz13_1
              try clear hcz13_2
              try clear hcz13_3
              try clear hcz15_0
              try clear hcz15_1
              try clear hcz15_2
              try clear hcz15_3
              try clear hcz18_0
              try clear hcz18_1
              try clear hcz18_2
              try clear hcz18_3
              try clear hcz20_0
              try clear hcz20_1
              try clear hcz20_2
              try clear hcz20_3
              try clear hcz27_0
              try clear hcz27_1
              try clear hcz27_2
              try clear hcz27_3
              try clear hcz29_0
              try clear hcz29_1
              try clear hcz29_2
              try clear hcz29_3
              try clear hcz31_0
              try clear hcz31_1
              try clear hcz31_2
              try clear hcz31_3
              try clear hcz33_0
              try clear hcz33_1
              try clear hcz33_2
              try clear hcz33_3
              try clear hcz35_0
              try clear hcz35_1
              try clear hcz35_2
              try clear hcz35_3
              try clear hcz37_0
              try clear hcz37_1
              try clear hcz37_2
              try clear hcz37_3
              try clear hcz39_0
              try clear hcz39_1
              try clear hcz39_2
              try clear hcz39_3
              try clear hcz43_0
              try clear hcz43_1
              try clear hcz43_2
              try clear hcz43_3
              try clear hcz50_0
              try clear hcz50_1
              try clear hcz50_2
              try clear hcz50_3
              try clear hcz52_0
              try clear hcz52_1
              try clear hcz52_2
              try clear hcz52_3
              try clear hcz54_0
              try clear hcz54_1
              try clear hcz54_2
              try clear hcz54_3
              try clear hcz56_0
              try clear hcz56_1
              try clear hcz56_2
              try clear hcz56_3
              try clear hcz58_0
              try clear hcz58_1
              try clear hcz58_2
              try clear hcz58_3
              try clear hcz60_0
              try clear hcz60_1
              try clear hcz60_2
              try clear hcz60_3
              try clear hcz62_0
              try clear hcz62_1
              try clear hcz62_2
              try clear hcz62_3
              try clear hcz63_0
              try clear hcz63_1
              try clear hcz63_2
              try clear hcz63_3
              try clear hcz8_0
              try clear hcz8_1
              try clear hcz8_2
              try clear hcz8_3
              try clear hfz13_0
              try clear hfz13_1
              try clear hfz13_2
              try clear hfz13_3
              try clear hfz15_0
              try clear hfz15_1
              try clear hfz15_2
              try clear hfz15_3
              try clear hfz18_0
              try clear hfz18_1
              try clear hfz18_2
              try clear hfz18_3
              try clear hfz20_0
              try clear hfz20_1
              try clear hfz20_2
              try clear hfz20_3
              try clear hfz27_0
              try clear hfz27_1
              try clear hfz27_2
              try clear hfz27_3
              try clear hfz29_0
              try clear hfz29_1
              try clear hfz29_2
              try clear hfz29_3
              try clear hfz31_0
              try clear hfz31_1
              try clear hfz31_2
              try clear hfz31_3
              try clear hfz33_0
              try clear hfz33_1
              try clear hfz33_2
              try clear hfz33_3
              try clear hfz35_0
              try clear hfz35_1
              try clear hfz35_2
              try clear hfz35_3
              try clear hfz37_0
              try clear hfz37_1
              try clear hfz37_2
              try clear hfz37_3
              try clear hfz39_0
              try clear hfz39_1
              try clear hfz39_2
              try clear hfz39_3
              try clear hfz43_0
              try clear hfz43_1
              try clear hfz43_2
              try clear hfz43_3
              try clear hfz50_0
              try clear hfz50_1
              try clear hfz50_2
              try clear hfz50_3
              try clear hfz52_0
              try clear hfz52_1
              try clear hfz52_2
              try clear hfz52_3
              try clear hfz54_0
              try clear hfz54_1
              try clear hfz54_2
              try clear hfz54_3
              try clear hfz56_0
              try clear hfz56_1
              try clear hfz56_2
              try clear hfz56_3
              try clear hfz58_0
              try clear hfz58_1
              try clear hfz58_2
              try clear hfz58_3
              try clear hfz60_0
              try clear hfz60_1
              try clear hfz60_2
              try clear hfz60_3
              try clear hfz62_0
              try clear hfz62_1
              try clear hfz62_2
              try clear hfz62_3
              try clear hfz63_0
              try clear hfz63_1
              try clear hfz63_2
              try clear hfz63_3
              try clear hfz8_0
              try clear hfz8_1
              try clear hfz8_2
              try clear hfz8_3
              try clear hx269_0
              try clear hx269_1
              try clear hx269_2
              try clear hx269_3
              try clear hx272_0
              try clear hx272_1
              try clear hx272_2
              try clear hx272_3
              try clear p2
              try clear p269
              try clear p272
              try clear q269
              try clear q272
              obtain ⟨kq, x75_40, rfl, HA, HJ40, BK270, HB⟩ := hcut
              cases kq with
              | zero => exact absurd HA.out (by simp [decanterref21_Sound.j1])
              | succ kj40 =>
                have H := HA.out
                clear HA
                simp only [decanterref21_Sound.j1] at H
                by_cases c65 : x75_40 = true
                · subst c65
                  have H1 : (some false) = some r := by rw [if_pos rfl] at H; exact H
                  clear H
                  have H := H1
                  clear H1
                  obtain rfl := Option.some.inj H
                  go_wp2
                  go_ret
                  exact ⟨by first | rfl | (simp [errW_none, errW_some] <;> rfl) | (simp [*, errW_none, errW_some] <;> rfl), by repeat (first | (with_reducible first | exact HB.out | apply below_alloc | apply pw_below_drewN | apply below_drew1 | refine below_set ?_ GE270.out) | exact HB.out)⟩
                · replace c65 := Bool.eq_false_iff.mpr c65
                  subst c65
                  have H1 : ((decanterref11_Is.f kj40 ((rd_T82 l0 x5_1).f0) 0).bind fun t276 => (if t276 = true then (decanterref21_Sound.j2 kj40 l0 l1 x5_1 (decide ((((rd_T82 l0 x5_1).f3).length : Int) > 0)) ((rd_T82 l0 x5_1).f0) ((rd_T82 l0 x5_1).f1) ((rd_T82 l0 x5_1).f2) ((rd_T82 l0 x5_1).f3)) else (decanterref21_Sound.j2 kj40 l0 l1 x5_1 false ((rd_T82 l0 x5_1).f0) ((rd_T82 l0 x5_1).f1) ((rd_T82 l0 x5_1).f2) ((rd_T82 l0 x5_1).f3)))) = some r := by rw [if_neg (show ¬ (false = true) by decide)] at H; exact H
                  clear H
                  have H := H1
                  clear H1
                  have HC66 := Aside0.mk H
                  clear H
                  go_upto_region 10 with (fail)
                  go_cut [84] (fun v84 wc => ∃ (kq : Nat) (x84_65 : Bool), v84 = .bool x84_65 ∧ Aside0 (decanterref21_Sound.j2 kq l0 l1 x5_1 x84_65 ((rd_T82 l0 x5_1).f0) ((rd_T82 l0 x5_1).f1) ((rd_T82 l0 x5_1).f2) ((rd_T82 l0 x5_1).f3) = some r) ∧ Aside0 (kq ≤ kj40) ∧ Aside0 (wc.heap[gb270]? = some (.cells #[.string ((rd_T82 l0 x5_1).f0), (.slice A269_1 ((rd_T82 l0 x5_1).f1).length c269_1), .string ((rd_T82 l0 x5_1).f2), (.slice A269_3 ((rd_T82 l0 x5_1).f3).length c269_3)] 82 (0, 0))) ∧ Aside0 (Below w.heap.size w wc))
                  case first =>
                    have H := HC66.out
                    clear HC66
                    replace H := Option.bind_eq_some_iff.mp H
                    obtain ⟨t276, A670, H⟩ := H
                    replace H : (if t276 = true then (decanterref21_Sound.j2 kj40 l0 l1 x5_1 (decide ((((rd_T82 l0 x5_1).f3).length : Int) > 0)) ((rd_T82 l0 x5_1).f0) ((rd_T82 l0 x5_1).f1) ((rd_T82 l0 x5_1).f2) ((rd_T82 l0 x5_1).f3)) else (decanterref21_Sound.j2 kj40 l0 l1 x5_1 false ((rd_T82 l0 x5_1).f0) ((rd_T82 l0 x5_1).f1) ((rd_T82 l0 x5_1).f2) ((rd_T82 l0 x5_1).f3))) = some r := H
                    have A67 := Aside0.mk A670
                    clear A670
                    by_cases c68 : t276 = true
                    · subst c68
                      have H1 : (decanterref21_Sound.j2 kj40 l0 l1 x5_1 (decide ((((rd_T82 l0 x5_1).f3).length : Int) > 0)) ((rd_T82 l0 x5_1).f0) ((rd_T82 l0 x5_1).f1) ((rd_T82 l0 x5_1).f2) ((rd_T82 l0 x5_1).f3)) = some r := by rw [if_pos rfl] at H; exact H
                      clear H
                      have H := H1
                      clear H1
                      have H' := Aside0.mk H
                      clear H
                      have hcz69_0 : wc.cell? ⟨gb270, 0, none⟩ = some (.string ((rd_T82 l0 x5_1).f0)) := (blk_cell BK270.out 0).trans rfl
                      have hcz69_1 : wc.cell? ⟨gb270, 1, none⟩ = some (.slice A269_1 ((rd_T82 l0 x5_1).f1).length c269_1) := (blk_cell BK270.out 1).trans rfl
                      have hcz69_2 : wc.cell? ⟨gb270, 2, none⟩ = some (.string ((rd_T82 l0 x5_1).f2)) := (blk_cell BK270.out 2).trans rfl
                      have hcz69_3 : wc.cell? ⟨gb270, 3, none⟩ = some (.slice A269_3 ((rd_T82 l0 x5_1).f3).length c269_3) := (blk_cell BK270.out 3).trans rfl
                      have hfz69_0 := blk_frozen BK270.out 0
                      have hfz69_1 := blk_frozen BK270.out 1
                      have hfz69_2 := blk_frozen BK270.out 2
                      have hfz69_3 := blk_frozen BK270.out 3
                      go_wp2_with (first | ((with_reducible refine gate_callee (f := 20) rfl ?_); refine goesL_ (some 78) rfl rfl Tryd.func20 (by kernel_rfl) rfl #[.string ((rd_T82 l0 x5_1).f0), .int .i64 0] rfl (by (try simp only [List.map_toArray, List.map_cons, List.map_nil]); first | done | rfl | (simp only [List.length_drop, List.length_take]; rfl)) ?_; (with_reducible refine (decanterref11_Is.calls kj40 ((rd_T82 l0 x5_1).f0) 0 true _ A67.out).mono ?_); rintro e w70 ⟨rfl, hb⟩; refine ⟨_, rfl, ?_⟩; have n0_ := Aside0.mk (blk_below (g := gb270) (o := .cells #[.string ((rd_T82 l0 x5_1).f0), .slice A269_1 ((rd_T82 l0 x5_1).f1).length c269_1, .string ((rd_T82 l0 x5_1).f2), .slice A269_3 ((rd_T82 l0 x5_1).f3).length c269_3] 82 (0, 0)) (by (with_reducible repeat (first | refine blk_drewN ?_ _ | refine blk_drew ?_ | refine blk_alloc ?_ _)); exact BK270.out) hb); have n1_ := Aside0.mk (below_step (by repeat (first | (with_reducible first | exact HB.out | apply below_alloc | apply pw_below_drewN | apply below_drew1 | refine below_set ?_ GE270.out) | exact HB.out)) hb); clear BK270; clear HB; have BK270 := n0_; have HB := n1_; clear n0_ n1_; (try clear hb); (try clear hb2); (try clear hk); (try clear hi); have hcz71_0 : w70.cell? ⟨gb270, 0, none⟩ = some (.string ((rd_T82 l0 x5_1).f0)) := (blk_cell BK270.out 0).trans rfl; have hcz71_1 : w70.cell? ⟨gb270, 1, none⟩ = some (.slice A269_1 ((rd_T82 l0 x5_1).f1).length c269_1) := (blk_cell BK270.out 1).trans rfl; have hcz71_2 : w70.cell? ⟨gb270, 2, none⟩ = some (.string ((rd_T82 l0 x5_1).f2)) := (blk_cell BK270.out 2).trans rfl; have hcz71_3 : w70.cell? ⟨gb270, 3, none⟩ = some (.slice A269_3 ((rd_T82 l0 x5_1).f3).length c269_3) := (blk_cell BK270.out 3).trans rfl; have hfz71_0 := blk_frozen BK270.out 0; have hfz71_1 := blk_frozen BK270.out 1; have hfz71_2 := blk_frozen BK270.out 2; have hfz71_3 := blk_frozen BK270.out 3))
                      go_meet
                      case rel => exact ⟨_, (decide ((((rd_T82 l0 x5_1).f3).length : Int) > 0)), (by first | rfl | (simp; done) | (simp [*]; done)), H', ⟨by have := HK1.out; have := HJ40.out; first | omega | exact Nat.le_refl _⟩, ⟨by (with_reducible repeat (first | refine blk_drewN ?_ _ | refine blk_drew ?_ | refine blk_alloc ?_ _)); exact BK270.out⟩, ⟨by repeat (first | (with_reducible first | exact HB.out | apply below_alloc | apply pw_below_drewN | apply below_drew1 | refine below_set ?_ GE270.out) | exact HB.out)⟩⟩
                    · replace c68 := Bool.eq_false_iff.mpr c68
                      subst c68
                      have H1 : (decanterref21_Sound.j2 kj40 l0 l1 x5_1 false ((rd_T82 l0 x5_1).f0) ((rd_T82 l0 x5_1).f1) ((rd_T82 l0 x5_1).f2) ((rd_T82 l0 x5_1).f3)) = some r := by rw [if_neg (show ¬ (false = true) by decide)] at H; exact H
                      clear H
                      have H := H1
                      clear H1
                      have H' := Aside0.mk H
                      clear H
                      have hcz72_0 : wc.cell? ⟨gb270, 0, none⟩ = some (.string ((rd_T82 l0 x5_1).f0)) := (blk_cell BK270.out 0).trans rfl
                      have hcz72_1 : wc.cell? ⟨gb270, 1, none⟩ = some (.slice A269_1 ((rd_T82 l0 x5_1).f1).length c269_1) := (blk_cell BK270.out 1).trans rfl
                      have hcz72_2 : wc.cell? ⟨gb270, 2, none⟩ = some (.string ((rd_T82 l0 x5_1).f2)) := (blk_cell BK270.out 2).trans rfl
                      have hcz72_3 : wc.cell? ⟨gb270, 3, none⟩ = some (.slice A269_3 ((rd_T82 l0 x5_1).f3).length c269_3) := (blk_cell BK270.out 3).trans rfl
                      have hfz72_0 := blk_frozen BK270.out 0
                      have hfz72_1 := blk_frozen BK270.out 1
                      have hfz72_2 := blk_frozen BK270.out 2
                      have hfz72_3 := blk_frozen BK270.out 3
                      go_wp2_with (first | ((with_reducible refine gate_callee (f := 20) rfl ?_); refine goesL_ (some 78) rfl rfl Tryd.func20 (by kernel_rfl) rfl #[.string ((rd_T82 l0 x5_1).f0), .int .i64 0] rfl (by (try simp only [List.map_toArray, List.map_cons, List.map_nil]); first | done | rfl | (simp only [List.length_drop, List.length_take]; rfl)) ?_; (with_reducible refine (decanterref11_Is.calls kj40 ((rd_T82 l0 x5_1).f0) 0 false _ A67.out).mono ?_); rintro e w73 ⟨rfl, hb⟩; refine ⟨_, rfl, ?_⟩; have n0_ := Aside0.mk (blk_below (g := gb270) (o := .cells #[.string ((rd_T82 l0 x5_1).f0), .slice A269_1 ((rd_T82 l0 x5_1).f1).length c269_1, .string ((rd_T82 l0 x5_1).f2), .slice A269_3 ((rd_T82 l0 x5_1).f3).length c269_3] 82 (0, 0)) (by (with_reducible repeat (first | refine blk_drewN ?_ _ | refine blk_drew ?_ | refine blk_alloc ?_ _)); exact BK270.out) hb); have n1_ := Aside0.mk (below_step (by repeat (first | (with_reducible first | exact HB.out | apply below_alloc | apply pw_below_drewN | apply below_drew1 | refine below_set ?_ GE270.out) | exact HB.out)) hb); clear BK270; clear HB; have BK270 := n0_; have HB := n1_; clear n0_ n1_; (try clear hb); (try clear hb2); (try clear hk); (try clear hi)))
                      go_meet
                      case rel => exact ⟨_, (false), (by first | rfl | (simp; done) | (simp [*]; done)), H', ⟨by have := HK1.out; have := HJ40.out; first | omega | exact Nat.le_refl _⟩, ⟨by (with_reducible repeat (first | refine blk_drewN ?_ _ | refine blk_drew ?_ | refine blk_alloc ?_ _)); exact BK270.out⟩, ⟨by repeat (first | (with_reducible first | exact HB.out | apply below_alloc | apply pw_below_drewN | apply below_drew1 | refine below_set ?_ GE270.out) | exact HB.out)⟩⟩
                  case rest =>
                    clear HC66
                    try clear c1
                    try clear c2
                    try clear p2
                    try clear q2
                    try clear hx2
                    try clear c3
                    try clear c3b0
                    try clear c4
                    try clear c4b0
                    try clear c5
                    try clear c5b0
                    try clear c5b1
                    try clear c6
                    try clear c6b0
                    try clear c6b1
                    try clear p6
                    try clear c10
                    try clear c11
                    try clear c11b0
                    try clear c11b1
                    try clear c16
                    try clear c16b0
                    try clear c16b1
                    try clear c20
                    try clear c21
                    try clear c21b0
                    try clear c23
                    try clear c23b0
                    try clear c24
                    try clear c24b0
                    try clear c25
                    try clear c25b0
                    try clear c25b1
                    try clear c26
                    try clear p26
                    try clear q26
                    try clear hx26
                    try clear c27
                    try clear p27
                    try clear q27
                    try clear hx27
                    try clear c32
                    try clear c45
                    try clear c46
                    try clear c46b0
                    try clear c46b1
                    try clear c48
                    try clear p64
                    try clear c65
                    try clear c68
                    try clear hcz13_0
                    try clear hcz13_1
                    try clear hcz13_2
                    try clear hcz13_3
                    try clear hcz15_0
                    try clear hcz15_1
                    try clear hcz15_2
                    try clear hcz15_3
                    try clear hcz18_0
                    try clear hcz18_1
                    try clear hcz18_2
                    try clear hcz18_3
                    try clear hcz20_0
                    try clear hcz20_1
                    try clear hcz20_2
                    try clear hcz20_3
                    try clear hcz27_0
                    try clear hcz27_1
                    try clear hcz27_2
                    try clear hcz27_3
                    try clear hcz29_0
                    try clear hcz29_1
                    try clear hcz29_2
                    try clear hcz29_3
                    try clear hcz31_0
                    try clear hcz31_1
                    try clear hcz31_2
                    try clear hcz31_3
                    try clear hcz33_0
                    try clear hcz33_1
                    try clear hcz33_2
                    try clear hcz33_3
                    try clear hcz35_0
                    try clear hcz35_1
                    try clear hcz35_2
                    try clear hcz35_3
                    try clear hcz37_0
                    try clear hcz37_1
                    try clear hcz37_2
                    try clear hcz37_3
                    try clear hcz39_0
                    try clear hcz39_1
                    try clear hcz39_2
                    try clear hcz39_3
                    try clear hcz43_0
                    try clear hcz43_1
                    try clear hcz43_2
                    try clear hcz43_3
                    try clear hcz50_0
                    try clear hcz50_1
                    try clear hcz50_2
                    try clear hcz50_3
                    try clear hcz52_0
                    try clear hcz52_1
                    try clear hcz52_2
                    try clear hcz52_3
                    try clear hcz54_0
                    try clear hcz54_1
                    try clear hcz54_2
                    try clear hcz54_3
                    try clear hcz56_0
                    try clear hcz56_1
                    try clear hcz56_2
                    try clear hcz56_3
                    try clear hcz58_0
                    try clear hcz58_1
                    try clear hcz58_2
                    try clear hcz58_3
                    try clear hcz60_0
                    try clear hcz60_1
                    try clear hcz60_2
                    try clear hcz60_3
                    try clear hcz62_0
                    try clear hcz62_1
                    try clear hcz62_2
                    try clear hcz62_3
                    try clear hcz63_0
                    try clear hcz63_1
                    try clear hcz63_2
                    try clear hcz63_3
                    try clear hcz69_0
                    try clear hcz69_1
                    try clear hcz69_2
                    try clear hcz69_3
                    try clear hcz71_0
                    try clear hcz71_1
                    try clear hcz71_2
                    try clear hcz71_3
                    try clear hcz72_0
                    try clear hcz72_1
                    try clear hcz72_2
                    try clear hcz72_3
                    try clear hcz8_0
                    try clear hcz8_1
                    try clear hcz8_2
                    try clear hcz8_3
                    try clear hfz13_0
                    try clear hfz13_1
                    try clear hfz13_2
                    try clear hfz13_3
                    try clear hfz15_0
                    try clear hfz15_1
                    try clear hfz15_2
                    try clear hfz15_3
                    try clear hfz18_0
                    try clear hfz18_1
                    try clear hfz18_2
                    try clear hfz18_3
                    try clear hfz20_0
                    try clear hfz20_1
                    try clear hfz20_2
                    try clear hfz20_3
                    try clear hfz27_0
                    try clear hfz27_1
                    try clear hfz27_2
                    try clear hfz27_3
                    try clear hfz29_0
                    try clear hfz29_1
                    try clear hfz29_2
                    try clear hfz29_3
                    try clear hfz31_0
                    try clear hfz31_1
                    try clear hfz31_2
                    try clear hfz31_3
                    try clear hfz33_0
                    try clear hfz33_1
                    try clear hfz33_2
                    try clear hfz33_3
                    try clear hfz35_0
                    try clear hfz35_1
                    try clear hfz35_2
                    try clear hfz35_3
                    try clear hfz37_0
                    try clear hfz37_1
                    try clear hfz37_2
                    try clear hfz37_3
                    try clear hfz39_0
                    try clear hfz39_1
                    try clear hfz39_2
                    try clear hfz39_3
                    try clear hfz43_0
                    try clear hfz43_1
                    try clear hfz43_2
                    try clear hfz43_3
                    try clear hfz50_0
                    try clear hfz50_1
                    try clear hfz50_2
                    try clear hfz50_3
                    try clear hfz52_0
                    try clear hfz52_1
                    try clear hfz52_2
                    try clear hfz52_3
                    try clear hfz54_0
                    try clear hfz54_1
                    try clear hfz54_2
                    try clear hfz54_3
                    try clear hfz56_0
                    try clear hfz56_1
                    try clear hfz56_2
                    try clear hfz56_3
                    try clear hfz58_0
                    try clear hfz58_1
                    try clear hfz58_2
                    try clear hfz58_3
                    try clear hfz60_0
                    try clear hfz60_1
                    try clear hfz60_2
                    try clear hfz60_3
                    try clear hfz62_0
                    try clear hfz62_1
                    try clear hfz62_2
                    try clear hfz62_3
                    try clear hfz63_0
                    try clear hfz63_1
                    try clear hfz63_2
                    try clear hfz63_3
                    try clear hfz69_0
                    try clear hfz69_1
                    try clear hfz69_2
                    try clear hfz69_3
                    try clear hfz71_0
                    try clear hfz71_1
                    try clear hfz71_2
                    try clear hfz71_3
                    try clear hfz72_0
                    try clear hfz72_1
                    try clear hfz72_2
                    try clear hfz72_3
                    try clear hfz8_0
                    try clear hfz8_1
                    try clear hfz8_2
                    try clear hfz8_3
                    try clear hx269_0
                    try clear hx269_1
                    try clear hx269_2
                    try clear hx269_3
                    try clear hx272_0
                    try clear hx272_1
                    try clear hx272_2
                    try clear hx272_3
                    try clear p2
                    try clear p26
                    try clear p269
                    try clear p27
                    try clear p272
                    try clear p6
                    try clear p64
                    try clear q2
                    try clear q26
                    try clear q269
                    try clear q27
                    try clear q272
                    obtain ⟨kq, x84_65, rfl, HA, HJ65, BK270, HB⟩ := hcut
                    cases kq with
                    | zero => exact absurd HA.out (by simp [decanterref21_Sound.j2])
                    | succ kj65 =>
                      have H := HA.out
                      clear HA
                      simp only [decanterref21_Sound.j2] at H
                      by_cases c74 : x84_65 = true
                      · subst c74
                        have H1 : (some false) = some r := by rw [if_pos rfl] at H; exact H
                        clear H
                        have H := H1
                        clear H1
                        obtain rfl := Option.some.inj H
                        go_wp2
                        go_ret
                        exact ⟨by first | rfl | (simp [errW_none, errW_some] <;> rfl) | (simp [*, errW_none, errW_some] <;> rfl), by repeat (first | (with_reducible first | exact HB.out | apply below_alloc | apply pw_below_drewN | apply below_drew1 | refine below_set ?_ GE270.out) | exact HB.out)⟩
                      · replace c74 := Bool.eq_false_iff.mpr c74
                        subst c74
                        have H1 : ((some (([] : List ByteArray) : List ByteArray)).bind fun y277 => (if y277.length + l1.length < 8796093022208 then ((some (y277 ++ l1 : List ByteArray)).bind fun y280 => ((some (([((rd_T82 l0 x5_1).f0)] : List ByteArray) : List ByteArray)).bind fun y283 => (if y280.length + y283.length < 8796093022208 then ((decanterref21_Sound.f kj65 ((rd_T82 l0 x5_1).f3) (y280 ++ y283)).bind fun t289 => (if t289 = true then (decanterref21_Sound.l0 kj65 l0 l1 (wrap64 (x5_1 + 1))) else (some false))) else (none)))) else (none))) = some r := by rw [if_neg (show ¬ (false = true) by decide)] at H; exact H
                        clear H
                        have H := H1
                        clear H1
                        obtain ⟨y277, hy277⟩ : ∃ y_ : List ByteArray, y_ = (([] : List ByteArray)) := ⟨_, rfl⟩
                        replace H : (if y277.length + l1.length < 8796093022208 then ((some (y277 ++ l1 : List ByteArray)).bind fun y280 => ((some (([((rd_T82 l0 x5_1).f0)] : List ByteArray) : List ByteArray)).bind fun y283 => (if y280.length + y283.length < 8796093022208 then ((decanterref21_Sound.f kj65 ((rd_T82 l0 x5_1).f3) (y280 ++ y283)).bind fun t289 => (if t289 = true then (decanterref21_Sound.l0 kj65 l0 l1 (wrap64 (x5_1 + 1))) else (some false))) else (none)))) else (none)) = some r := by first | (rw [hy277]; with_reducible exact H) | (have H2_ := (Option.bind_some _ _).symm.trans H; rw [hy277]; with_reducible exact H2_) | (have H2_ := (Option.bind_some _ _).symm.trans H; with_reducible exact H2_) | with_reducible exact H | (rw [hy277]; exact H) | exact H
                        have Ny277 := Aside0.mk hy277
                        clear hy277
                        by_cases c75 : y277.length + l1.length < 8796093022208
                        · rw [if_pos c75] at H
                          have LMc75 := Aside0.mk c75
                          clear c75
                          obtain ⟨y280, hy280⟩ : ∃ y_ : List ByteArray, y_ = (y277 ++ l1) := ⟨_, rfl⟩
                          replace H : ((some (([((rd_T82 l0 x5_1).f0)] : List ByteArray) : List ByteArray)).bind fun y283 => (if y280.length + y283.length < 8796093022208 then ((decanterref21_Sound.f kj65 ((rd_T82 l0 x5_1).f3) (y280 ++ y283)).bind fun t289 => (if t289 = true then (decanterref21_Sound.l0 kj65 l0 l1 (wrap64 (x5_1 + 1))) else (some false))) else (none))) = some r := by first | (rw [hy280]; with_reducible exact H) | (have H2_ := (Option.bind_some _ _).symm.trans H; rw [hy280]; with_reducible exact H2_) | (have H2_ := (Option.bind_some _ _).symm.trans H; with_reducible exact H2_) | with_reducible exact H | (rw [hy280]; exact H) | exact H
                          have Ny280 := Aside0.mk hy280
                          clear hy280
                          obtain ⟨y283, hy283⟩ : ∃ y_ : List ByteArray, y_ = (([((rd_T82 l0 x5_1).f0)] : List ByteArray)) := ⟨_, rfl⟩
                          replace H : (if y280.length + y283.length < 8796093022208 then ((decanterref21_Sound.f kj65 ((rd_T82 l0 x5_1).f3) (y280 ++ y283)).bind fun t289 => (if t289 = true then (decanterref21_Sound.l0 kj65 l0 l1 (wrap64 (x5_1 + 1))) else (some false))) else (none)) = some r := by first | (rw [hy283]; with_reducible exact H) | (have H2_ := (Option.bind_some _ _).symm.trans H; rw [hy283]; with_reducible exact H2_) | (have H2_ := (Option.bind_some _ _).symm.trans H; with_reducible exact H2_) | with_reducible exact H | (rw [hy283]; exact H) | exact H
                          have Ny283 := Aside0.mk hy283
                          clear hy283
                          by_cases c76 : y280.length + y283.length < 8796093022208
                          · rw [if_pos c76] at H
                            have LMc76 := Aside0.mk c76
                            clear c76
                            obtain ⟨y286, hy286⟩ : ∃ y_ : List ByteArray, y_ = (y280 ++ y283) := ⟨_, rfl⟩
                            replace H : ((decanterref21_Sound.f kj65 ((rd_T82 l0 x5_1).f3) y286).bind fun t289 => (if t289 = true then (decanterref21_Sound.l0 kj65 l0 l1 (wrap64 (x5_1 + 1))) else (some false))) = some r := by first | (rw [hy286]; with_reducible exact H) | (have H2_ := (Option.bind_some _ _).symm.trans H; rw [hy286]; with_reducible exact H2_) | (have H2_ := (Option.bind_some _ _).symm.trans H; with_reducible exact H2_) | with_reducible exact H | (rw [hy286]; exact H) | exact H
                            have Ny286 := Aside0.mk hy286
                            clear hy286
                            replace H := Option.bind_eq_some_iff.mp H
                            obtain ⟨t289, A770, H⟩ := H
                            replace H : (if t289 = true then (decanterref21_Sound.l0 kj65 l0 l1 (wrap64 (x5_1 + 1))) else (some false)) = some r := H
                            have A77 := Aside0.mk A770
                            clear A770
                            by_cases c78 : t289 = true
                            · subst c78
                              have H1 : (decanterref21_Sound.l0 kj65 l0 l1 (wrap64 (x5_1 + 1))) = some r := by rw [if_pos rfl] at H; exact H
                              clear H
                              have H := H1
                              clear H1
                              have H' := Aside0.mk H
                              clear H
                              try go_wp2
                              have n0_ := Aside0.mk (blk_drew BK270.out)
                              have n1_ := Aside0.mk (below_drew1 HB.out)
                              clear BK270
                              clear HB
                              have BK270 := n0_
                              have HB := n1_
                              clear n0_ n1_
                              refine start_ (n := 11) (S := fun w' => w'.cell? ⟨gb270, 0, none⟩ = some (.string ((rd_T82 l0 x5_1).f0)) ∧ w'.cell? ⟨gb270, 1, none⟩ = some (.slice A269_1 ((rd_T82 l0 x5_1).f1).length c269_1) ∧ w'.cell? ⟨gb270, 2, none⟩ = some (.string ((rd_T82 l0 x5_1).f2)) ∧ w'.cell? ⟨gb270, 3, none⟩ = some (.slice A269_3 ((rd_T82 l0 x5_1).f3).length c269_3)) (ds := []) #[false, false, false, false, false, false, false, false, false, false, false] (by kernel_rfl) rfl rfl ⟨(blk_cell BK270.out 0).trans rfl, (blk_cell BK270.out 1).trans rfl, (blk_cell BK270.out 2).trans rfl, (blk_cell BK270.out 3).trans rfl⟩ (fun hHeld => ?_); refine with_tabW decanterref21_Sound.tab12 decanterref21_Sound.bits12 (fun HT_ HW_ => ?_)
                              generalize wc.drew = w79 at BK270 HB hHeld ⊢
                              refine pure_ (i := 0) (N := some 85) (v := ?_) (a' := ?_) #[true, false, false, false, false, false, false, false, false, false, false] rfl rfl (any_of HT_.out (by kernel_rfl)) (fun _ _ _ h => h) (Or.inl ⟨by rfl, ?_⟩) ?_ ?_
                              rotate_left
                              · intro w'
                                go_simp
                                with_reducible rfl
                              rotate_left
                              · simp only [Act.put, List.setIfInBounds_toArray, List.set_cons_zero, List.set_cons_succ, i64_w, i32_w]
                                rfl
                              refine pure_ (i := 3) (N := some 88) (v := ?_) (a' := ?_) #[true, false, false, true, false, false, false, false, false, false, false] rfl rfl (any_of HT_.out (by kernel_rfl)) (fun _ _ _ h => h) (Or.inl ⟨by rfl, ?_⟩) ?_ ?_
                              rotate_left
                              · intro w'
                                go_simp
                                with_reducible rfl
                              rotate_left
                              · simp only [Act.put, List.setIfInBounds_toArray, List.set_cons_zero, List.set_cons_succ, i64_w, i32_w]
                                rfl
                              refine pure_ (i := 5) (N := some 90) (v := ?_) (a' := ?_) #[true, false, false, true, false, true, false, false, false, false, false] rfl rfl (any_of HT_.out (by kernel_rfl)) (fun _ _ _ h => h) (Or.inl ⟨by rfl, ?_⟩) ?_ ?_
                              rotate_left
                              · intro w'
                                go_simp
                                with_reducible rfl
                              rotate_left
                              · simp only [Act.put, List.setIfInBounds_toArray, List.set_cons_zero, List.set_cons_succ, i64_w, i32_w]
                                rfl
                              refine take_ (i := 1) (N := some 86) (v := ?_) (a' := ?_) #[true, true, false, true, false, true, false, false, false, false, false] rfl rfl (take_ofW HT_.out HW_.out (by kernel_rfl)) (fun _ _ _ h => h) (Or.inl ⟨by rfl, ?_⟩) hHeld ?_ ?_
                              rotate_left
                              · rintro w' ⟨s0, s1, s2, s3⟩
                                go_simp
                                with_reducible rfl
                              rotate_left
                              · simp only [Act.put, List.setIfInBounds_toArray, List.set_cons_zero, List.set_cons_succ, i64_w, i32_w]
                                rfl
                              refine take_ (i := 6) (N := some 91) (v := ?_) (a' := ?_) #[true, true, false, true, false, true, true, false, false, false, false] rfl rfl (take_ofW HT_.out HW_.out (by kernel_rfl)) (fun _ _ _ h => h) (Or.inl ⟨by rfl, ?_⟩) hHeld ?_ ?_
                              rotate_left
                              · rintro w' ⟨s0, s1, s2, s3⟩
                                go_simp
                                with_reducible rfl
                              rotate_left
                              · simp only [Act.put, List.setIfInBounds_toArray, List.set_cons_zero, List.set_cons_succ, i64_w, i32_w]
                                rfl
                              refine join_ (σ := Value × Value × Value) 3 #[true, true, true, true, true, true, true, true, false, false, false] (fun s_ => [(87, s_.1), (89, s_.2.1), (92, s_.2.2)]) (fun s_ w' => (w'.cell? ⟨gb270, 0, none⟩ = some (.string ((rd_T82 l0 x5_1).f0)) ∧ w'.cell? ⟨gb270, 1, none⟩ = some (.slice A269_1 ((rd_T82 l0 x5_1).f1).length c269_1) ∧ w'.cell? ⟨gb270, 2, none⟩ = some (.string ((rd_T82 l0 x5_1).f2)) ∧ w'.cell? ⟨gb270, 3, none⟩ = some (.slice A269_3 ((rd_T82 l0 x5_1).f3).length c269_3)) ∧ (Kd.R Kd.string 9 w' w.heap.size (fun k_ => some k_ ≠ (s_.2.2 : Value).ownBlock) s_.2.1 y280) ∧ (Kd.R Kd.string 9 w' w.heap.size (fun k_ => some k_ ≠ (s_.2.1 : Value).ownBlock) s_.2.2 y283) ∧ (w'.heap[gb270]? = some (.cells #[.string ((rd_T82 l0 x5_1).f0), .slice A269_1 ((rd_T82 l0 x5_1).f1).length c269_1, .string ((rd_T82 l0 x5_1).f2), .slice A269_3 ((rd_T82 l0 x5_1).f3).length c269_3] 82 (0, 0))) ∧ (Below w.heap.size w w')) ?_ ?_
                              rotate_left
                              · intro hCont
                                refine two_ (i := 2) (j := 7) (Ni := some 87) (Nj := some 92) #[true, true, true, true, false, true, true, false, false, false, false] #[true, true, false, true, false, true, true, true, false, false, false] rfl rfl rfl rfl (two_of HT_.out (by kernel_rfl)) (by decide) (by decide) (fun K hK => ?_) (fun K hK => ?_)
                                · skip
                                  refine Kd.R_lit_step Kd.string _ 9 ?hg (N := 87) ?hd (xs := ([] : List ByteArray)) (inner := []) (ok := fun _ => True) (okp := fun _ => True) ?hr ?hp (fun _ hk => hk) trivial (Below.refl _ _) (Nat.le_refl _) (by simp) ?_; (case hd => rfl); (case hg => rfl); (case hr => first | (go_simp; done) | (go_simp; rfl)); (case hp => exact (Reps.none _ _))
                                  intro v278 w80 ho81 hb hg_ hnew_
                                  clear hg_ hnew_
                                  (first | rw [← Ny277.out] at ho81 | (simp only [Int.reduceToNat] at ho81; rw [← Ny277.out] at ho81))
                                  have n0_ := Aside0.mk (Kd.R_lower ho81 (below_size (by repeat (first | (with_reducible first | exact HB.out | apply below_alloc | apply pw_below_drewN | apply below_drew1 | refine below_set ?_ GE270.out) | exact HB.out))))
                                  have n1_ := Aside0.mk (blk_below (g := gb270) (o := .cells #[.string ((rd_T82 l0 x5_1).f0), .slice A269_1 ((rd_T82 l0 x5_1).f1).length c269_1, .string ((rd_T82 l0 x5_1).f2), .slice A269_3 ((rd_T82 l0 x5_1).f3).length c269_3] 82 (0, 0)) (by (with_reducible repeat (first | refine blk_drewN ?_ _ | refine blk_drew ?_ | refine blk_alloc ?_ _)); exact BK270.out) hb)
                                  have n2_ := Aside0.mk (below_step (by repeat (first | (with_reducible first | exact HB.out | apply below_alloc | apply pw_below_drewN | apply below_drew1 | refine below_set ?_ GE270.out) | exact HB.out)) hb)
                                  clear BK270
                                  clear HB
                                  have HO279 := n0_
                                  have BK270 := n1_
                                  have HB := n2_
                                  clear n0_ n1_ n2_
                                  clear hb ho81
                                  refine hK.out _ _ ⟨(blk_cell BK270.out 0).trans rfl, (blk_cell BK270.out 1).trans rfl, (blk_cell BK270.out 2).trans rfl, (blk_cell BK270.out 3).trans rfl⟩ (fun hHeld => ?_)
                                  clear hK K
                                  refine norm_ (a' := ?_) ?_ ?_
                                  rotate_left
                                  · show Act.put _ (some 87) _ = _
                                    simp only [Act.put, List.setIfInBounds_toArray, List.set_cons_zero, List.set_cons_succ, i64_w, i32_w]
                                    rfl
                                  refine two_ (i := 4) (j := 7) (Ni := some 89) (Nj := some 92) #[true, true, true, true, true, true, true, false, false, false, false] #[true, true, true, true, false, true, true, true, false, false, false] rfl rfl rfl rfl (two_of HT_.out (by kernel_rfl)) (by decide) (by decide) (fun K hK => ?_) (fun K hK => ?_)
                                  · skip
                                    refine Kd.R_append_rows_step Kd.string (w0 := w) w.heap.size (by rfl) (.tmp 87) (.tmp 88) 25 9 (.string ⟨#[]⟩) 16 rfl Tryd.underlying25 info9 rfl (by decide) (by omega) v278 y277 l1 _ _ _ (fun _ => True) (fun _ => False) rfl rfl ?aO ?aR (fun _ _ h => h) (fun _ h => h.elim) ?aF ?aB ?aS ?aL ?_
                                    (case aR => repeat (first | exact (Kd.C_below HR1.out HB.out) | (with_reducible refine Kd.C_alloc ?_ _) | (with_reducible refine Kd.C_drewN ?_ _) | (with_reducible refine Kd.C_drew ?_)))
                                    (case aB => exact (by repeat (first | (with_reducible first | exact HB.out | apply below_alloc | apply pw_below_drewN | apply below_drew1 | refine below_set ?_ GE270.out) | exact HB.out)))
                                    (case aF => exact (fun _ _ => trivial))
                                    (case aO => exact (by (with_reducible repeat (first | apply Kd.R_alloc | apply Kd.R_drewN | apply Kd.R_drew)); exact HO279.out))
                                    (case aS => exact (below_size (by repeat (first | (with_reducible first | exact HB.out | apply below_alloc | apply pw_below_drewN | apply below_drew1 | refine below_set ?_ GE270.out) | exact HB.out))))
                                    (case aL => have := LMc75.out; omega)
                                    intro v281 w82 ho hb hg hat
                                    rw [← Ny280.out] at ho
                                    have n0_ := Aside0.mk (blk_grown (g := gb270) (o := .cells #[.string ((rd_T82 l0 x5_1).f0), .slice A269_1 ((rd_T82 l0 x5_1).f1).length c269_1, .string ((rd_T82 l0 x5_1).f2), .slice A269_3 ((rd_T82 l0 x5_1).f3).length c269_3] 82 (0, 0)) (by (with_reducible repeat (first | refine blk_drewN ?_ _ | refine blk_drew ?_ | refine blk_alloc ?_ _)); exact BK270.out) hg (Kd.R_ne HO279.out BK270.out (by decide)))
                                    have n1_ := Aside0.mk (hb)
                                    have n2_ := Aside0.mk (ho)
                                    clear BK270
                                    clear HB
                                    clear HO279
                                    have BK270 := n0_
                                    have HB := n1_
                                    have HO282 := n2_
                                    clear n0_ n1_ n2_
                                    clear ho hb hg hat
                                    refine hK.out _ _ ⟨(blk_cell BK270.out 0).trans rfl, (blk_cell BK270.out 1).trans rfl, (blk_cell BK270.out 2).trans rfl, (blk_cell BK270.out 3).trans rfl⟩ (fun hHeld => ?_)
                                    clear hK K
                                    refine norm_ (a' := ?_) ?_ ?_
                                    rotate_left
                                    · show Act.put _ (some 89) _ = _
                                      simp only [Act.put, List.setIfInBounds_toArray, List.set_cons_zero, List.set_cons_succ, i64_w, i32_w]
                                      rfl
                                    refine one_ (i := 7) (N := some 92) #[true, true, true, true, true, true, true, true, false, false, false] rfl rfl (one_of HT_.out (by kernel_rfl)) (by decide) (fun K hK => ?_)
                                    refine Kd.R_lit_step Kd.string _ 9 ?hg (N := 92) ?hd (xs := ([((rd_T82 l0 x5_1).f0)] : List ByteArray)) (inner := [.string ((rd_T82 l0 x5_1).f0)]) (ok := fun _ => True) (okp := fun _ => True) ?hr ?hp (fun _ hk => hk) trivial (Below.refl _ _) (Nat.le_refl _) (by simp) ?_; (case hd => rfl); (case hg => rfl); (case hr => first | (go_simp; done) | (go_simp; rfl)); (case hp => exact (Reps.one (show Kd.M Kd.string _ _ _ ((rd_T82 l0 x5_1).f0) [.string ((rd_T82 l0 x5_1).f0)] from rfl) (Reps.none _ _)))
                                    intro v284 w83 ho84 hb hg_ hnew_
                                    clear hg_ hnew_
                                    (first | rw [← Ny283.out] at ho84 | (simp only [Int.reduceToNat] at ho84; rw [← Ny283.out] at ho84))
                                    have n0_ := Aside0.mk (Kd.R_elder' (by (with_reducible repeat (first | apply Kd.R_alloc | apply Kd.R_drewN | apply Kd.R_drew)); exact HO282.out) (Kd.R_base ho84) hb)
                                    have n1_ := Aside0.mk (Kd.R_lower (Kd.R_new' ho84 (Kd.R_lt (by (with_reducible repeat (first | apply Kd.R_alloc | apply Kd.R_drewN | apply Kd.R_drew)); exact HO282.out))) (below_size (by repeat (first | (with_reducible first | exact HB.out | apply below_alloc | apply pw_below_drewN | apply below_drew1 | refine below_set ?_ GE270.out) | exact HB.out))))
                                    have n2_ := Aside0.mk (blk_below (g := gb270) (o := .cells #[.string ((rd_T82 l0 x5_1).f0), .slice A269_1 ((rd_T82 l0 x5_1).f1).length c269_1, .string ((rd_T82 l0 x5_1).f2), .slice A269_3 ((rd_T82 l0 x5_1).f3).length c269_3] 82 (0, 0)) (by (with_reducible repeat (first | refine blk_drewN ?_ _ | refine blk_drew ?_ | refine blk_alloc ?_ _)); exact BK270.out) hb)
                                    have n3_ := Aside0.mk (below_step (by repeat (first | (with_reducible first | exact HB.out | apply below_alloc | apply pw_below_drewN | apply below_drew1 | refine below_set ?_ GE270.out) | exact HB.out)) hb)
                                    clear HO282
                                    clear BK270
                                    clear HB
                                    have HO282 := n0_
                                    have HO285 := n1_
                                    have BK270 := n2_
                                    have HB := n3_
                                    clear n0_ n1_ n2_ n3_
                                    clear hb ho84
                                    refine hK.out _ _ ⟨(blk_cell BK270.out 0).trans rfl, (blk_cell BK270.out 1).trans rfl, (blk_cell BK270.out 2).trans rfl, (blk_cell BK270.out 3).trans rfl⟩ (fun hHeld => ?_)
                                    clear hK K
                                    refine norm_ (a' := ?_) ?_ ?_
                                    rotate_left
                                    · show Act.put _ (some 92) _ = _
                                      simp only [Act.put, List.setIfInBounds_toArray, List.set_cons_zero, List.set_cons_succ, i64_w, i32_w]
                                      rfl
                                    exact norm_ (by simp only [putAll, Act.put, List.setIfInBounds_toArray, List.set_cons_zero, List.set_cons_succ]) (hCont (v278, v281, v284) _ ⟨hHeld, (by (with_reducible repeat (first | apply Kd.R_alloc | apply Kd.R_drewN | apply Kd.R_drew)); exact Kd.R_mono HO282.out (fun _ hk => hk.2)), (by (with_reducible repeat (first | apply Kd.R_alloc | apply Kd.R_drewN | apply Kd.R_drew)); exact Kd.R_mono HO285.out (fun _ hk => hk.2)), (by (with_reducible repeat (first | refine blk_drewN ?_ _ | refine blk_drew ?_ | refine blk_alloc ?_ _)); exact BK270.out), (by repeat (first | (with_reducible first | exact HB.out | apply below_alloc | apply pw_below_drewN | apply below_drew1 | refine below_set ?_ GE270.out) | exact HB.out))⟩)
                                  · skip
                                    refine Kd.R_lit_step Kd.string _ 9 ?hg (N := 92) ?hd (xs := ([((rd_T82 l0 x5_1).f0)] : List ByteArray)) (inner := [.string ((rd_T82 l0 x5_1).f0)]) (ok := fun _ => True) (okp := fun _ => True) ?hr ?hp (fun _ hk => hk) trivial (Below.refl _ _) (Nat.le_refl _) (by simp) ?_; (case hd => rfl); (case hg => rfl); (case hr => first | (go_simp; done) | (go_simp; rfl)); (case hp => exact (Reps.one (show Kd.M Kd.string _ _ _ ((rd_T82 l0 x5_1).f0) [.string ((rd_T82 l0 x5_1).f0)] from rfl) (Reps.none _ _)))
                                    intro v284 w82 ho83 hb hg_ hnew_
                                    clear hg_ hnew_
                                    (first | rw [← Ny283.out] at ho83 | (simp only [Int.reduceToNat] at ho83; rw [← Ny283.out] at ho83))
                                    have n0_ := Aside0.mk (Kd.R_elder' (by (with_reducible repeat (first | apply Kd.R_alloc | apply Kd.R_drewN | apply Kd.R_drew)); exact HO279.out) (Kd.R_base ho83) hb)
                                    have n1_ := Aside0.mk (Kd.R_lower (Kd.R_new' ho83 (Kd.R_lt (by (with_reducible repeat (first | apply Kd.R_alloc | apply Kd.R_drewN | apply Kd.R_drew)); exact HO279.out))) (below_size (by repeat (first | (with_reducible first | exact HB.out | apply below_alloc | apply pw_below_drewN | apply below_drew1 | refine below_set ?_ GE270.out) | exact HB.out))))
                                    have n2_ := Aside0.mk (blk_below (g := gb270) (o := .cells #[.string ((rd_T82 l0 x5_1).f0), .slice A269_1 ((rd_T82 l0 x5_1).f1).length c269_1, .string ((rd_T82 l0 x5_1).f2), .slice A269_3 ((rd_T82 l0 x5_1).f3).length c269_3] 82 (0, 0)) (by (with_reducible repeat (first | refine blk_drewN ?_ _ | refine blk_drew ?_ | refine blk_alloc ?_ _)); exact BK270.out) hb)
                                    have n3_ := Aside0.mk (below_step (by repeat (first | (with_reducible first | exact HB.out | apply below_alloc | apply pw_below_drewN | apply below_drew1 | refine below_set ?_ GE270.out) | exact HB.out)) hb)
                                    clear HO279
                                    clear BK270
                                    clear HB
                                    have HO279 := n0_
                                    have HO285 := n1_
                                    have BK270 := n2_
                                    have HB := n3_
                                    clear n0_ n1_ n2_ n3_
                                    clear hb ho83
                                    refine hK.out _ _ ⟨(blk_cell BK270.out 0).trans rfl, (blk_cell BK270.out 1).trans rfl, (blk_cell BK270.out 2).trans rfl, (blk_cell BK270.out 3).trans rfl⟩ (fun hHeld => ?_)
                                    clear hK K
                                    refine norm_ (a' := ?_) ?_ ?_
                                    rotate_left
                                    · show Act.put _ (some 92) _ = _
                                      simp only [Act.put, List.setIfInBounds_toArray, List.set_cons_zero, List.set_cons_succ, i64_w, i32_w]
                                      rfl
                                    refine one_ (i := 4) (N := some 89) #[true, true, true, true, true, true, true, true, false, false, false] rfl rfl (one_of HT_.out (by kernel_rfl)) (by decide) (fun K hK => ?_)
                                    refine Kd.R_append_rows_step Kd.string (w0 := w) w.heap.size (by rfl) (.tmp 87) (.tmp 88) 25 9 (.string ⟨#[]⟩) 16 rfl Tryd.underlying25 info9 rfl (by decide) (by omega) v278 y277 l1 _ _ _ (fun k_ => some k_ ≠ (v284 : Value).ownBlock) (fun _ => False) rfl rfl ?aO ?aR (fun _ _ h => h) (fun _ h => h.elim) ?aF ?aB ?aS ?aL ?_
                                    (case aR => repeat (first | exact (Kd.C_below HR1.out HB.out) | (with_reducible refine Kd.C_alloc ?_ _) | (with_reducible refine Kd.C_drewN ?_ _) | (with_reducible refine Kd.C_drew ?_)))
                                    (case aB => exact (by repeat (first | (with_reducible first | exact HB.out | apply below_alloc | apply pw_below_drewN | apply below_drew1 | refine below_set ?_ GE270.out) | exact HB.out)))
                                    (case aF => exact (fun k_ hk => Kd.fresh' (Kd.R_lt (by (with_reducible repeat (first | apply Kd.R_alloc | apply Kd.R_drewN | apply Kd.R_drew)); exact HO285.out)) k_ hk))
                                    (case aO => exact (by (with_reducible repeat (first | apply Kd.R_alloc | apply Kd.R_drewN | apply Kd.R_drew)); exact Kd.R_mono HO279.out (fun _ hk => hk.2)))
                                    (case aS => exact (below_size (by repeat (first | (with_reducible first | exact HB.out | apply below_alloc | apply pw_below_drewN | apply below_drew1 | refine below_set ?_ GE270.out) | exact HB.out))))
                                    (case aL => have := LMc75.out; omega)
                                    intro v281 w84 ho hb hg hat
                                    rw [← Ny280.out] at ho
                                    have n0_ := Aside0.mk (blk_grown (g := gb270) (o := .cells #[.string ((rd_T82 l0 x5_1).f0), .slice A269_1 ((rd_T82 l0 x5_1).f1).length c269_1, .string ((rd_T82 l0 x5_1).f2), .slice A269_3 ((rd_T82 l0 x5_1).f3).length c269_3] 82 (0, 0)) (by (with_reducible repeat (first | refine blk_drewN ?_ _ | refine blk_drew ?_ | refine blk_alloc ?_ _)); exact BK270.out) hg (Kd.R_ne HO279.out BK270.out (by decide)))
                                    have n1_ := Aside0.mk (Kd.R_after (ok := (fun _ => True)) (by (with_reducible repeat (first | apply Kd.R_alloc | apply Kd.R_drewN | apply Kd.R_drew)); exact HO285.out) hg hat)
                                    have n2_ := Aside0.mk (hb)
                                    have n3_ := Aside0.mk (ho)
                                    clear BK270
                                    clear HO285
                                    clear HB
                                    clear HO279
                                    have BK270 := n0_
                                    have HO285 := n1_
                                    have HB := n2_
                                    have HO282 := n3_
                                    clear n0_ n1_ n2_ n3_
                                    clear ho hb hg hat
                                    refine hK.out _ _ ⟨(blk_cell BK270.out 0).trans rfl, (blk_cell BK270.out 1).trans rfl, (blk_cell BK270.out 2).trans rfl, (blk_cell BK270.out 3).trans rfl⟩ (fun hHeld => ?_)
                                    clear hK K
                                    refine norm_ (a' := ?_) ?_ ?_
                                    rotate_left
                                    · show Act.put _ (some 89) _ = _
                                      simp only [Act.put, List.setIfInBounds_toArray, List.set_cons_zero, List.set_cons_succ, i64_w, i32_w]
                                      rfl
                                    exact norm_ (by simp only [putAll, Act.put, List.setIfInBounds_toArray, List.set_cons_zero, List.set_cons_succ]) (hCont (v278, v281, v284) _ ⟨hHeld, (by (with_reducible repeat (first | apply Kd.R_alloc | apply Kd.R_drewN | apply Kd.R_drew)); exact HO282.out), (by (with_reducible repeat (first | apply Kd.R_alloc | apply Kd.R_drewN | apply Kd.R_drew)); exact Kd.R_mono HO285.out (fun _ hk => hk.2)), (by (with_reducible repeat (first | refine blk_drewN ?_ _ | refine blk_drew ?_ | refine blk_alloc ?_ _)); exact BK270.out), (by repeat (first | (with_reducible first | exact HB.out | apply below_alloc | apply pw_below_drewN | apply below_drew1 | refine below_set ?_ GE270.out) | exact HB.out))⟩)
                                · skip
                                  refine Kd.R_lit_step Kd.string _ 9 ?hg (N := 92) ?hd (xs := ([((rd_T82 l0 x5_1).f0)] : List ByteArray)) (inner := [.string ((rd_T82 l0 x5_1).f0)]) (ok := fun _ => True) (okp := fun _ => True) ?hr ?hp (fun _ hk => hk) trivial (Below.refl _ _) (Nat.le_refl _) (by simp) ?_; (case hd => rfl); (case hg => rfl); (case hr => first | (go_simp; done) | (go_simp; rfl)); (case hp => exact (Reps.one (show Kd.M Kd.string _ _ _ ((rd_T82 l0 x5_1).f0) [.string ((rd_T82 l0 x5_1).f0)] from rfl) (Reps.none _ _)))
                                  intro v284 w80 ho81 hb hg_ hnew_
                                  clear hg_ hnew_
                                  (first | rw [← Ny283.out] at ho81 | (simp only [Int.reduceToNat] at ho81; rw [← Ny283.out] at ho81))
                                  have n0_ := Aside0.mk (Kd.R_lower ho81 (below_size (by repeat (first | (with_reducible first | exact HB.out | apply below_alloc | apply pw_below_drewN | apply below_drew1 | refine below_set ?_ GE270.out) | exact HB.out))))
                                  have n1_ := Aside0.mk (blk_below (g := gb270) (o := .cells #[.string ((rd_T82 l0 x5_1).f0), .slice A269_1 ((rd_T82 l0 x5_1).f1).length c269_1, .string ((rd_T82 l0 x5_1).f2), .slice A269_3 ((rd_T82 l0 x5_1).f3).length c269_3] 82 (0, 0)) (by (with_reducible repeat (first | refine blk_drewN ?_ _ | refine blk_drew ?_ | refine blk_alloc ?_ _)); exact BK270.out) hb)
                                  have n2_ := Aside0.mk (below_step (by repeat (first | (with_reducible first | exact HB.out | apply below_alloc | apply pw_below_drewN | apply below_drew1 | refine below_set ?_ GE270.out) | exact HB.out)) hb)
                                  clear BK270
                                  clear HB
                                  have HO285 := n0_
                                  have BK270 := n1_
                                  have HB := n2_
                                  clear n0_ n1_ n2_
                                  clear hb ho81
                                  refine hK.out _ _ ⟨(blk_cell BK270.out 0).trans rfl, (blk_cell BK270.out 1).trans rfl, (blk_cell BK270.out 2).trans rfl, (blk_cell BK270.out 3).trans rfl⟩ (fun hHeld => ?_)
                                  clear hK K
                                  refine norm_ (a' := ?_) ?_ ?_
                                  rotate_left
                                  · show Act.put _ (some 92) _ = _
                                    simp only [Act.put, List.setIfInBounds_toArray, List.set_cons_zero, List.set_cons_succ, i64_w, i32_w]
                                    rfl
                                  refine one_ (i := 2) (N := some 87) #[true, true, true, true, false, true, true, true, false, false, false] rfl rfl (one_of HT_.out (by kernel_rfl)) (by decide) (fun K hK => ?_)
                                  refine Kd.R_lit_step Kd.string _ 9 ?hg (N := 87) ?hd (xs := ([] : List ByteArray)) (inner := []) (ok := fun _ => True) (okp := fun _ => True) ?hr ?hp (fun _ hk => hk) trivial (Below.refl _ _) (Nat.le_refl _) (by simp) ?_; (case hd => rfl); (case hg => rfl); (case hr => first | (go_simp; done) | (go_simp; rfl)); (case hp => exact (Reps.none _ _))
                                  intro v278 w82 ho83 hb hg_ hnew_
                                  clear hg_ hnew_
                                  (first | rw [← Ny277.out] at ho83 | (simp only [Int.reduceToNat] at ho83; rw [← Ny277.out] at ho83))
                                  have n0_ := Aside0.mk (Kd.R_elder' (by (with_reducible repeat (first | apply Kd.R_alloc | apply Kd.R_drewN | apply Kd.R_drew)); exact HO285.out) (Kd.R_base ho83) hb)
                                  have n1_ := Aside0.mk (Kd.R_lower (Kd.R_new' ho83 (Kd.R_lt (by (with_reducible repeat (first | apply Kd.R_alloc | apply Kd.R_drewN | apply Kd.R_drew)); exact HO285.out))) (below_size (by repeat (first | (with_reducible first | exact HB.out | apply below_alloc | apply pw_below_drewN | apply below_drew1 | refine below_set ?_ GE270.out) | exact HB.out))))
                                  have n2_ := Aside0.mk (blk_below (g := gb270) (o := .cells #[.string ((rd_T82 l0 x5_1).f0), .slice A269_1 ((rd_T82 l0 x5_1).f1).length c269_1, .string ((rd_T82 l0 x5_1).f2), .slice A269_3 ((rd_T82 l0 x5_1).f3).length c269_3] 82 (0, 0)) (by (with_reducible repeat (first | refine blk_drewN ?_ _ | refine blk_drew ?_ | refine blk_alloc ?_ _)); exact BK270.out) hb)
                                  have n3_ := Aside0.mk (below_step (by repeat (first | (with_reducible first | exact HB.out | apply below_alloc | apply pw_below_drewN | apply below_drew1 | refine below_set ?_ GE270.out) | exact HB.out)) hb)
                                  clear HO285
                                  clear BK270
                                  clear HB
                                  have HO285 := n0_
                                  have HO279 := n1_
                                  have BK270 := n2_
                                  have HB := n3_
                                  clear n0_ n1_ n2_ n3_
                                  clear hb ho83
                                  refine hK.out _ _ ⟨(blk_cell BK270.out 0).trans rfl, (blk_cell BK270.out 1).trans rfl, (blk_cell BK270.out 2).trans rfl, (blk_cell BK270.out 3).trans rfl⟩ (fun hHeld => ?_)
                                  clear hK K
                                  refine norm_ (a' := ?_) ?_ ?_
                                  rotate_left
                                  · show Act.put _ (some 87) _ = _
                                    simp only [Act.put, List.setIfInBounds_toArray, List.set_cons_zero, List.set_cons_succ, i64_w, i32_w]
                                    rfl
                                  refine one_ (i := 4) (N := some 89) #[true, true, true, true, true, true, true, true, false, false, false] rfl rfl (one_of HT_.out (by kernel_rfl)) (by decide) (fun K hK => ?_)
                                  refine Kd.R_append_rows_step Kd.string (w0 := w) w.heap.size (by rfl) (.tmp 87) (.tmp 88) 25 9 (.string ⟨#[]⟩) 16 rfl Tryd.underlying25 info9 rfl (by decide) (by omega) v278 y277 l1 _ _ _ (fun k_ => some k_ ≠ (v284 : Value).ownBlock) (fun _ => False) rfl rfl ?aO ?aR (fun _ _ h => h) (fun _ h => h.elim) ?aF ?aB ?aS ?aL ?_
                                  (case aR => repeat (first | exact (Kd.C_below HR1.out HB.out) | (with_reducible refine Kd.C_alloc ?_ _) | (with_reducible refine Kd.C_drewN ?_ _) | (with_reducible refine Kd.C_drew ?_)))
                                  (case aB => exact (by repeat (first | (with_reducible first | exact HB.out | apply below_alloc | apply pw_below_drewN | apply below_drew1 | refine below_set ?_ GE270.out) | exact HB.out)))
                                  (case aF => exact (fun k_ hk => Kd.fresh' (Kd.R_lt (by (with_reducible repeat (first | apply Kd.R_alloc | apply Kd.R_drewN | apply Kd.R_drew)); exact HO285.out)) k_ hk))
                                  (case aO => exact (by (with_reducible repeat (first | apply Kd.R_alloc | apply Kd.R_drewN | apply Kd.R_drew)); exact Kd.R_mono HO279.out (fun _ hk => hk.2)))
                                  (case aS => exact (below_size (by repeat (first | (with_reducible first | exact HB.out | apply below_alloc | apply pw_below_drewN | apply below_drew1 | refine below_set ?_ GE270.out) | exact HB.out))))
                                  (case aL => have := LMc75.out; omega)
                                  intro v281 w84 ho hb hg hat
                                  rw [← Ny280.out] at ho
                                  have n0_ := Aside0.mk (blk_grown (g := gb270) (o := .cells #[.string ((rd_T82 l0 x5_1).f0), .slice A269_1 ((rd_T82 l0 x5_1).f1).length c269_1, .string ((rd_T82 l0 x5_1).f2), .slice A269_3 ((rd_T82 l0 x5_1).f3).length c269_3] 82 (0, 0)) (by (with_reducible repeat (first | refine blk_drewN ?_ _ | refine blk_drew ?_ | refine blk_alloc ?_ _)); exact BK270.out) hg (Kd.R_ne HO279.out BK270.out (by decide)))
                                  have n1_ := Aside0.mk (Kd.R_after (ok := (fun _ => True)) (by (with_reducible repeat (first | apply Kd.R_alloc | apply Kd.R_drewN | apply Kd.R_drew)); exact HO285.out) hg hat)
                                  have n2_ := Aside0.mk (hb)
                                  have n3_ := Aside0.mk (ho)
                                  clear BK270
                                  clear HO285
                                  clear HB
                                  clear HO279
                                  have BK270 := n0_
                                  have HO285 := n1_
                                  have HB := n2_
                                  have HO282 := n3_
                                  clear n0_ n1_ n2_ n3_
                                  clear ho hb hg hat
                                  refine hK.out _ _ ⟨(blk_cell BK270.out 0).trans rfl, (blk_cell BK270.out 1).trans rfl, (blk_cell BK270.out 2).trans rfl, (blk_cell BK270.out 3).trans rfl⟩ (fun hHeld => ?_)
                                  clear hK K
                                  refine norm_ (a' := ?_) ?_ ?_
                                  rotate_left
                                  · show Act.put _ (some 89) _ = _
                                    simp only [Act.put, List.setIfInBounds_toArray, List.set_cons_zero, List.set_cons_succ, i64_w, i32_w]
                                    rfl
                                  exact norm_ (by simp only [putAll, Act.put, List.setIfInBounds_toArray, List.set_cons_zero, List.set_cons_succ]) (hCont (v278, v281, v284) _ ⟨hHeld, (by (with_reducible repeat (first | apply Kd.R_alloc | apply Kd.R_drewN | apply Kd.R_drew)); exact HO282.out), (by (with_reducible repeat (first | apply Kd.R_alloc | apply Kd.R_drewN | apply Kd.R_drew)); exact Kd.R_mono HO285.out (fun _ hk => hk.2)), (by (with_reducible repeat (first | refine blk_drewN ?_ _ | refine blk_drew ?_ | refine blk_alloc ?_ _)); exact BK270.out), (by repeat (first | (with_reducible first | exact HB.out | apply below_alloc | apply pw_below_drewN | apply below_drew1 | refine below_set ?_ GE270.out) | exact HB.out))⟩)
                              rintro ⟨v278, v281, v284⟩ w85 ⟨hS_, h0_, h1_, h2_, h3_⟩
                              have n0_ : Aside0 (Kd.R Kd.string 9 w85 w.heap.size (fun k_ => some k_ ≠ (v284 : Value).ownBlock) v281 y280) := ⟨h0_⟩
                              have n1_ : Aside0 (Kd.R Kd.string 9 w85 w.heap.size (fun k_ => some k_ ≠ (v281 : Value).ownBlock) v284 y283) := ⟨h1_⟩
                              have n2_ : Aside0 (w85.heap[gb270]? = some (.cells #[.string ((rd_T82 l0 x5_1).f0), .slice A269_1 ((rd_T82 l0 x5_1).f1).length c269_1, .string ((rd_T82 l0 x5_1).f2), .slice A269_3 ((rd_T82 l0 x5_1).f3).length c269_3] 82 (0, 0))) := ⟨h2_⟩
                              have n3_ : Aside0 (Below w.heap.size w w85) := ⟨h3_⟩
                              clear BK270
                              clear HB
                              clear h0_ h1_ h2_ h3_
                              have HO282 := n0_
                              have HO285 := n1_
                              have BK270 := n2_
                              have HB := n3_
                              clear n0_ n1_ n2_ n3_
                              have hHeld : w85.cell? ⟨gb270, 0, none⟩ = some (.string ((rd_T82 l0 x5_1).f0)) ∧ w85.cell? ⟨gb270, 1, none⟩ = some (.slice A269_1 ((rd_T82 l0 x5_1).f1).length c269_1) ∧ w85.cell? ⟨gb270, 2, none⟩ = some (.string ((rd_T82 l0 x5_1).f2)) ∧ w85.cell? ⟨gb270, 3, none⟩ = some (.slice A269_3 ((rd_T82 l0 x5_1).f3).length c269_3) := hS_
                              obtain ⟨Ao87, co87, eo87⟩ := Kd.R_slice HO285.out
                              (first | subst eo87 | (injection eo87 with f1_ f2_ f3_; have f4_ := f1_.symm; have f5_ := f3_.symm; clear f1_ f2_ f3_; subst f4_; subst f5_))
                              refine norm_ (a' := ?_) ?_ ?_
                              rotate_left
                              · simp only [putAll, Act.put, List.setIfInBounds_toArray, List.set_cons_zero, List.set_cons_succ]
                                rfl
                              refine one_ (i := 8) (N := some 93) #[true, true, true, true, true, true, true, true, true, false, false] rfl rfl (one_of HT_.out (by kernel_rfl)) (by decide) (fun K hK => ?_)
                              refine Kd.R_append_rows_step Kd.string (w0 := w) w.heap.size (by rfl) (.tmp 89) (.tmp 92) 25 9 (.string ⟨#[]⟩) 16 rfl Tryd.underlying25 info9 rfl (by decide) (by omega) v281 y280 y283 _ _ _ (fun k_ => some k_ ≠ (.slice Ao87 y283.length co87 : Value).ownBlock) (fun _ => False) rfl rfl ?aO ?aR (fun _ _ h => h) (fun _ h => h.elim) ?aF ?aB ?aS ?aL ?_
                              (case aR => repeat (first | exact (Kd.R_reads' HO285.out).2.2 | (with_reducible refine Kd.C_alloc ?_ _) | (with_reducible refine Kd.C_drewN ?_ _) | (with_reducible refine Kd.C_drew ?_)))
                              (case aB => exact (by repeat (first | (with_reducible first | exact HB.out | apply below_alloc | apply pw_below_drewN | apply below_drew1 | refine below_set ?_ GE270.out) | exact HB.out)))
                              (case aF => exact (fun k_ hk => Kd.fresh' (Kd.R_lt (by (with_reducible repeat (first | apply Kd.R_alloc | apply Kd.R_drewN | apply Kd.R_drew)); exact HO285.out)) k_ hk))
                              (case aO => exact (by (with_reducible repeat (first | apply Kd.R_alloc | apply Kd.R_drewN | apply Kd.R_drew)); exact HO282.out))
                              (case aS => exact (below_size (by repeat (first | (with_reducible first | exact HB.out | apply below_alloc | apply pw_below_drewN | apply below_drew1 | refine below_set ?_ GE270.out) | exact HB.out))))
                              (case aL => have := LMc76.out; omega)
                              intro v287 w86 ho hb hg hat
                              rw [← Ny286.out] at ho
                              have n0_ := Aside0.mk (blk_grown (g := gb270) (o := .cells #[.string ((rd_T82 l0 x5_1).f0), .slice A269_1 ((rd_T82 l0 x5_1).f1).length c269_1, .string ((rd_T82 l0 x5_1).f2), .slice A269_3 ((rd_T82 l0 x5_1).f3).length c269_3] 82 (0, 0)) (by (with_reducible repeat (first | refine blk_drewN ?_ _ | refine blk_drew ?_ | refine blk_alloc ?_ _)); exact BK270.out) hg (Kd.R_ne HO282.out BK270.out (by decide)))
                              have n1_ := Aside0.mk (Kd.R_after (ok := (fun _ => True)) (by (with_reducible repeat (first | apply Kd.R_alloc | apply Kd.R_drewN | apply Kd.R_drew)); exact Kd.R_mono HO285.out (fun _ hk => ⟨trivial, hk⟩)) hg hat)
                              have n2_ := Aside0.mk (hb)
                              have n3_ := Aside0.mk (ho)
                              clear BK270
                              clear HO285
                              clear HB
                              clear HO282
                              have BK270 := n0_
                              have HO285 := n1_
                              have HB := n2_
                              have HO288 := n3_
                              clear n0_ n1_ n2_ n3_
                              clear ho hb hg hat
                              obtain ⟨Ao88, co88, eo88⟩ := Kd.R_slice HO288.out
                              (first | subst eo88 | (injection eo88 with f1_ f2_ f3_; have f4_ := f1_.symm; have f5_ := f3_.symm; clear f1_ f2_ f3_; subst f4_; subst f5_))
                              refine hK.out _ _ ⟨(blk_cell BK270.out 0).trans rfl, (blk_cell BK270.out 1).trans rfl, (blk_cell BK270.out 2).trans rfl, (blk_cell BK270.out 3).trans rfl⟩ (fun hHeld => ?_)
                              clear hK K
                              refine norm_ (a' := ?_) ?_ ?_
                              rotate_left
                              · show Act.put _ (some 93) _ = _
                                simp only [Act.put, List.setIfInBounds_toArray, List.set_cons_zero, List.set_cons_succ, i64_w, i32_w]
                                rfl
                              refine one_ (i := 9) (N := some 94) #[true, true, true, true, true, true, true, true, true, true, false] rfl rfl (one_of HT_.out (by kernel_rfl)) (by decide) (fun K hK => ?_)
                              refine goes_ Tryd.func32 (by kernel_rfl) rfl #[.slice A269_3 ((rd_T82 l0 x5_1).f3).length c269_3, .slice Ao88 y286.length co88] (by rfl) rfl rfl (by (try simp only [List.map_toArray, List.map_cons, List.map_nil]); first | done | rfl | (simp only [List.length_drop, List.length_take]; rfl)) ?_
                              with_reducible refine (ih kj65 (by have := HK1.out; have := HJ40.out; have := HJ65.out; omega) _ _ ((rd_T82 l0 x5_1).f3) _ _ y286 true _ ?side1 ?side2 ?side3 ?side4 A77.out).mono ?_
                              (case side1 => repeat (first | exact (Kd.C_below HR269_3.out HB.out) | (with_reducible refine Kd.C_alloc ?_ _) | (with_reducible refine Kd.C_drewN ?_ _) | (with_reducible refine Kd.C_drew ?_)))
                              (case side2 => exact HC269_3.out)
                              (case side3 => repeat (first | exact (Kd.R_reads' HO288.out).2.2 | (with_reducible refine Kd.C_alloc ?_ _) | (with_reducible refine Kd.C_drewN ?_ _) | (with_reducible refine Kd.C_drew ?_)))
                              (case side4 => exact (Kd.R_reads' HO288.out).2.1)
                              rintro e w89 ⟨rfl, hb⟩
                              refine ⟨_, rfl, ?_⟩
                              have n0_ := Aside0.mk (Kd.R_below (by (with_reducible repeat (first | apply Kd.R_alloc | apply Kd.R_drewN | apply Kd.R_drew)); exact HO285.out) hb)
                              have n1_ := Aside0.mk (Kd.R_below (by (with_reducible repeat (first | apply Kd.R_alloc | apply Kd.R_drewN | apply Kd.R_drew)); exact HO288.out) hb)
                              have n2_ := Aside0.mk (blk_below (g := gb270) (o := .cells #[.string ((rd_T82 l0 x5_1).f0), .slice A269_1 ((rd_T82 l0 x5_1).f1).length c269_1, .string ((rd_T82 l0 x5_1).f2), .slice A269_3 ((rd_T82 l0 x5_1).f3).length c269_3] 82 (0, 0)) (by (with_reducible repeat (first | refine blk_drewN ?_ _ | refine blk_drew ?_ | refine blk_alloc ?_ _)); exact BK270.out) hb)
                              have n3_ := Aside0.mk (below_step (by repeat (first | (with_reducible first | exact HB.out | apply below_alloc | apply pw_below_drewN | apply below_drew1 | refine below_set ?_ GE270.out) | exact HB.out)) hb)
                              clear HO285
                              clear HO288
                              clear BK270
                              clear HB
                              have HO285 := n0_
                              have HO288 := n1_
                              have BK270 := n2_
                              have HB := n3_
                              clear n0_ n1_ n2_ n3_
                              (try clear hb)
                              (try clear hb2)
                              (try clear hk)
                              (try clear hi)
                              refine hK.out _ _ ⟨(blk_cell BK270.out 0).trans rfl, (blk_cell BK270.out 1).trans rfl, (blk_cell BK270.out 2).trans rfl, (blk_cell BK270.out 3).trans rfl⟩ (fun hHeld => ?_)
                              clear hK K
                              refine norm_ (a' := ?_) ?_ ?_
                              rotate_left
                              · show Act.put _ (some 94) _ = _
                                simp only [Act.put, List.setIfInBounds_toArray, List.set_cons_zero, List.set_cons_succ, i64_w, i32_w]
                                rfl
                              refine pure_ (i := 10) (N := some 95) (v := ?_) (a' := ?_) #[true, true, true, true, true, true, true, true, true, true, true] rfl rfl (any_of HT_.out (by kernel_rfl)) (fun _ _ _ h => h) (Or.inl ⟨by rfl, ?_⟩) ?_ ?_
                              rotate_left
                              · intro w'
                                go_simp
                                with_reducible rfl
                              rotate_left
                              · simp only [Act.put, List.setIfInBounds_toArray, List.set_cons_zero, List.set_cons_succ, i64_w, i32_w]
                                rfl
                              refine done_ (done_of HT_.out (by kernel_rfl)) ?_
                              try go_wp2
                              go_roundg kj65
                              case measure => have := HK1.out; have := HJ40.out; have := HJ65.out; omega
                              case rel => exact ⟨(wrap64 (x5_1 + 1)), (by first | rfl | (simp; done) | (simp [*]; done)), H', ⟨by have := HK1.out; have := HJ40.out; have := HJ65.out; omega⟩, ⟨by repeat (first | (with_reducible first | exact HB.out | apply below_alloc | apply pw_below_drewN | apply below_drew1 | refine below_set ?_ GE270.out) | exact HB.out)⟩⟩
                            · replace c78 := Bool.eq_false_iff.mpr c78
                              subst c78
                              have H1 : (some false) = some r := by rw [if_neg (show ¬ (false = true) by decide)] at H; exact H
                              clear H
                              have H := H1
                              clear H1
                              obtain rfl := Option.some.inj H
                              try go_wp2
                              have n0_ := Aside0.mk (blk_drew BK270.out)
                              have n1_ := Aside0.mk (below_drew1 HB.out)
                              clear BK270
                              clear HB
                              have BK270 := n0_
                              have HB := n1_
                              clear n0_ n1_
                              refine start_ (n := 11) (S := fun w' => w'.cell? ⟨gb270, 0, none⟩ = some (.string ((rd_T82 l0 x5_1).f0)) ∧ w'.cell? ⟨gb270, 1, none⟩ = some (.slice A269_1 ((rd_T82 l0 x5_1).f1).length c269_1) ∧ w'.cell? ⟨gb270, 2, none⟩ = some (.string ((rd_T82 l0 x5_1).f2)) ∧ w'.cell? ⟨gb270, 3, none⟩ = some (.slice A269_3 ((rd_T82 l0 x5_1).f3).length c269_3)) (ds := []) #[false, false, false, false, false, false, false, false, false, false, false] (by kernel_rfl) rfl rfl ⟨(blk_cell BK270.out 0).trans rfl, (blk_cell BK270.out 1).trans rfl, (blk_cell BK270.out 2).trans rfl, (blk_cell BK270.out 3).trans rfl⟩ (fun hHeld => ?_); refine with_tabW decanterref21_Sound.tab12 decanterref21_Sound.bits12 (fun HT_ HW_ => ?_)
                              generalize wc.drew = w90 at BK270 HB hHeld ⊢
                              refine pure_ (i := 0) (N := some 85) (v := ?_) (a' := ?_) #[true, false, false, false, false, false, false, false, false, false, false] rfl rfl (any_of HT_.out (by kernel_rfl)) (fun _ _ _ h => h) (Or.inl ⟨by rfl, ?_⟩) ?_ ?_
                              rotate_left
                              · intro w'
                                go_simp
                                with_reducible rfl
                              rotate_left
                              · simp only [Act.put, List.setIfInBounds_toArray, List.set_cons_zero, List.set_cons_succ, i64_w, i32_w]
                                rfl
                              refine pure_ (i := 3) (N := some 88) (v := ?_) (a' := ?_) #[true, false, false, true, false, false, false, false, false, false, false] rfl rfl (any_of HT_.out (by kernel_rfl)) (fun _ _ _ h => h) (Or.inl ⟨by rfl, ?_⟩) ?_ ?_
                              rotate_left
                              · intro w'
                                go_simp
                                with_reducible rfl
                              rotate_left
                              · simp only [Act.put, List.setIfInBounds_toArray, List.set_cons_zero, List.set_cons_succ, i64_w, i32_w]
                                rfl
                              refine pure_ (i := 5) (N := some 90) (v := ?_) (a' := ?_) #[true, false, false, true, false, true, false, false, false, false, false] rfl rfl (any_of HT_.out (by kernel_rfl)) (fun _ _ _ h => h) (Or.inl ⟨by rfl, ?_⟩) ?_ ?_
                              rotate_left
                              · intro w'
                                go_simp
                                with_reducible rfl
                              rotate_left
                              · simp only [Act.put, List.setIfInBounds_toArray, List.set_cons_zero, List.set_cons_succ, i64_w, i32_w]
                                rfl
                              refine take_ (i := 1) (N := some 86) (v := ?_) (a' := ?_) #[true, true, false, true, false, true, false, false, false, false, false] rfl rfl (take_ofW HT_.out HW_.out (by kernel_rfl)) (fun _ _ _ h => h) (Or.inl ⟨by rfl, ?_⟩) hHeld ?_ ?_
                              rotate_left
                              · rintro w' ⟨s0, s1, s2, s3⟩
                                go_simp
                                with_reducible rfl
                              rotate_left
                              · simp only [Act.put, List.setIfInBounds_toArray, List.set_cons_zero, List.set_cons_succ, i64_w, i32_w]
                                rfl
                              refine take_ (i := 6) (N := some 91) (v := ?_) (a' := ?_) #[true, true, false, true, false, true, true, false, false, false, false] rfl rfl (take_ofW HT_.out HW_.out (by kernel_rfl)) (fun _ _ _ h => h) (Or.inl ⟨by rfl, ?_⟩) hHeld ?_ ?_
                              rotate_left
                              · rintro w' ⟨s0, s1, s2, s3⟩
                                go_simp
                                with_reducible rfl
                              rotate_left
                              · simp only [Act.put, List.setIfInBounds_toArray, List.set_cons_zero, List.set_cons_succ, i64_w, i32_w]
                                rfl
                              refine join_ (σ := Value × Value × Value) 3 #[true, true, true, true, true, true, true, true, false, false, false] (fun s_ => [(87, s_.1), (89, s_.2.1), (92, s_.2.2)]) (fun s_ w' => (w'.cell? ⟨gb270, 0, none⟩ = some (.string ((rd_T82 l0 x5_1).f0)) ∧ w'.cell? ⟨gb270, 1, none⟩ = some (.slice A269_1 ((rd_T82 l0 x5_1).f1).length c269_1) ∧ w'.cell? ⟨gb270, 2, none⟩ = some (.string ((rd_T82 l0 x5_1).f2)) ∧ w'.cell? ⟨gb270, 3, none⟩ = some (.slice A269_3 ((rd_T82 l0 x5_1).f3).length c269_3)) ∧ (Kd.R Kd.string 9 w' w.heap.size (fun k_ => some k_ ≠ (s_.2.2 : Value).ownBlock) s_.2.1 y280) ∧ (Kd.R Kd.string 9 w' w.heap.size (fun k_ => some k_ ≠ (s_.2.1 : Value).ownBlock) s_.2.2 y283) ∧ (w'.heap[gb270]? = some (.cells #[.string ((rd_T82 l0 x5_1).f0), .slice A269_1 ((rd_T82 l0 x5_1).f1).length c269_1, .string ((rd_T82 l0 x5_1).f2), .slice A269_3 ((rd_T82 l0 x5_1).f3).length c269_3] 82 (0, 0))) ∧ (Below w.heap.size w w')) ?_ ?_
                              rotate_left
                              · intro hCont
                                refine two_ (i := 2) (j := 7) (Ni := some 87) (Nj := some 92) #[true, true, true, true, false, true, true, false, false, false, false] #[true, true, false, true, false, true, true, true, false, false, false] rfl rfl rfl rfl (two_of HT_.out (by kernel_rfl)) (by decide) (by decide) (fun K hK => ?_) (fun K hK => ?_)
                                · skip
                                  refine Kd.R_lit_step Kd.string _ 9 ?hg (N := 87) ?hd (xs := ([] : List ByteArray)) (inner := []) (ok := fun _ => True) (okp := fun _ => True) ?hr ?hp (fun _ hk => hk) trivial (Below.refl _ _) (Nat.le_refl _) (by simp) ?_; (case hd => rfl); (case hg => rfl); (case hr => first | (go_simp; done) | (go_simp; rfl)); (case hp => exact (Reps.none _ _))
                                  intro v278 w91 ho92 hb hg_ hnew_
                                  clear hg_ hnew_
                                  (first | rw [← Ny277.out] at ho92 | (simp only [Int.reduceToNat] at ho92; rw [← Ny277.out] at ho92))
                                  have n0_ := Aside0.mk (Kd.R_lower ho92 (below_size (by repeat (first | (with_reducible first | exact HB.out | apply below_alloc | apply pw_below_drewN | apply below_drew1 | refine below_set ?_ GE270.out) | exact HB.out))))
                                  have n1_ := Aside0.mk (blk_below (g := gb270) (o := .cells #[.string ((rd_T82 l0 x5_1).f0), .slice A269_1 ((rd_T82 l0 x5_1).f1).length c269_1, .string ((rd_T82 l0 x5_1).f2), .slice A269_3 ((rd_T82 l0 x5_1).f3).length c269_3] 82 (0, 0)) (by (with_reducible repeat (first | refine blk_drewN ?_ _ | refine blk_drew ?_ | refine blk_alloc ?_ _)); exact BK270.out) hb)
                                  have n2_ := Aside0.mk (below_step (by repeat (first | (with_reducible first | exact HB.out | apply below_alloc | apply pw_below_drewN | apply below_drew1 | refine below_set ?_ GE270.out) | exact HB.out)) hb)
                                  clear BK270
                                  clear HB
                                  have HO279 := n0_
                                  have BK270 := n1_
                                  have HB := n2_
                                  clear n0_ n1_ n2_
                                  clear hb ho92
                                  refine hK.out _ _ ⟨(blk_cell BK270.out 0).trans rfl, (blk_cell BK270.out 1).trans rfl, (blk_cell BK270.out 2).trans rfl, (blk_cell BK270.out 3).trans rfl⟩ (fun hHeld => ?_)
                                  clear hK K
                                  refine norm_ (a' := ?_) ?_ ?_
                                  rotate_left
                                  · show Act.put _ (some 87) _ = _
                                    simp only [Act.put, List.setIfInBounds_toArray, List.set_cons_zero, List.set_cons_succ, i64_w, i32_w]
                                    rfl
                                  refine two_ (i := 4) (j := 7) (Ni := some 89) (Nj := some 92) #[true, true, true, true, true, true, true, false, false, false, false] #[true, true, true, true, false, true, true, true, false, false, false] rfl rfl rfl rfl (two_of HT_.out (by kernel_rfl)) (by decide) (by decide) (fun K hK => ?_) (fun K hK => ?_)
                                  · skip
                                    refine Kd.R_append_rows_step Kd.string (w0 := w) w.heap.size (by rfl) (.tmp 87) (.tmp 88) 25 9 (.string ⟨#[]⟩) 16 rfl Tryd.underlying25 info9 rfl (by decide) (by omega) v278 y277 l1 _ _ _ (fun _ => True) (fun _ => False) rfl rfl ?aO ?aR (fun _ _ h => h) (fun _ h => h.elim) ?aF ?aB ?aS ?aL ?_
                                    (case aR => repeat (first | exact (Kd.C_below HR1.out HB.out) | (with_reducible refine Kd.C_alloc ?_ _) | (with_reducible refine Kd.C_drewN ?_ _) | (with_reducible refine Kd.C_drew ?_)))
                                    (case aB => exact (by repeat (first | (with_reducible first | exact HB.out | apply below_alloc | apply pw_below_drewN | apply below_drew1 | refine below_set ?_ GE270.out) | exact HB.out)))
                                    (case aF => exact (fun _ _ => trivial))
                                    (case aO => exact (by (with_reducible repeat (first | apply Kd.R_alloc | apply Kd.R_drewN | apply Kd.R_drew)); exact HO279.out))
                                    (case aS => exact (below_size (by repeat (first | (with_reducible first | exact HB.out | apply below_alloc | apply pw_below_drewN | apply below_drew1 | refine below_set ?_ GE270.out) | exact HB.out))))
                                    (case aL => have := LMc75.out; omega)
                                    intro v281 w93 ho hb hg hat
                                    rw [← Ny280.out] at ho
                                    have n0_ := Aside0.mk (blk_grown (g := gb270) (o := .cells #[.string ((rd_T82 l0 x5_1).f0), .slice A269_1 ((rd_T82 l0 x5_1).f1).length c269_1, .string ((rd_T82 l0 x5_1).f2), .slice A269_3 ((rd_T82 l0 x5_1).f3).length c269_3] 82 (0, 0)) (by (with_reducible repeat (first | refine blk_drewN ?_ _ | refine blk_drew ?_ | refine blk_alloc ?_ _)); exact BK270.out) hg (Kd.R_ne HO279.out BK270.out (by decide)))
                                    have n1_ := Aside0.mk (hb)
                                    have n2_ := Aside0.mk (ho)
                                    clear BK270
                                    clear HB
                                    clear HO279
                                    have BK270 := n0_
                                    have HB := n1_
                                    have HO282 := n2_
                                    clear n0_ n1_ n2_
                                    clear ho hb hg hat
                                    refine hK.out _ _ ⟨(blk_cell BK270.out 0).trans rfl, (blk_cell BK270.out 1).trans rfl, (blk_cell BK270.out 2).trans rfl, (blk_cell BK270.out 3).trans rfl⟩ (fun hHeld => ?_)
                                    clear hK K
                                    refine norm_ (a' := ?_) ?_ ?_
                                    rotate_left
                                    · show Act.put _ (some 89) _ = _
                                      simp only [Act.put, List.setIfInBounds_toArray, List.set_cons_zero, List.set_cons_succ, i64_w, i32_w]
                                      rfl
                                    refine one_ (i := 7) (N := some 92) #[true, true, true, true, true, true, true, true, false, false, false] rfl rfl (one_of HT_.out (by kernel_rfl)) (by decide) (fun K hK => ?_)
                                    refine Kd.R_lit_step Kd.string _ 9 ?hg (N := 92) ?hd (xs := ([((rd_T82 l0 x5_1).f0)] : List ByteArray)) (inner := [.string ((rd_T82 l0 x5_1).f0)]) (ok := fun _ => True) (okp := fun _ => True) ?hr ?hp (fun _ hk => hk) trivial (Below.refl _ _) (Nat.le_refl _) (by simp) ?_; (case hd => rfl); (case hg => rfl); (case hr => first | (go_simp; done) | (go_simp; rfl)); (case hp => exact (Reps.one (show Kd.M Kd.string _ _ _ ((rd_T82 l0 x5_1).f0) [.string ((rd_T82 l0 x5_1).f0)] from rfl) (Reps.none _ _)))
                                    intro v284 w94 ho95 hb hg_ hnew_
                                    clear hg_ hnew_
                                    (first | rw [← Ny283.out] at ho95 | (simp only [Int.reduceToNat] at ho95; rw [← Ny283.out] at ho95))
                                    have n0_ := Aside0.mk (Kd.R_elder' (by (with_reducible repeat (first | apply Kd.R_alloc | apply Kd.R_drewN | apply Kd.R_drew)); exact HO282.out) (Kd.R_base ho95) hb)
                                    have n1_ := Aside0.mk (Kd.R_lower (Kd.R_new' ho95 (Kd.R_lt (by (with_reducible repeat (first | apply Kd.R_alloc | apply Kd.R_drewN | apply Kd.R_drew)); exact HO282.out))) (below_size (by repeat (first | (with_reducible first | exact HB.out | apply below_alloc | apply pw_below_drewN | apply below_drew1 | refine below_set ?_ GE270.out) | exact HB.out))))
                                    have n2_ := Aside0.mk (blk_below (g := gb270) (o := .cells #[.string ((rd_T82 l0 x5_1).f0), .slice A269_1 ((rd_T82 l0 x5_1).f1).length c269_1, .string ((rd_T82 l0 x5_1).f2), .slice A269_3 ((rd_T82 l0 x5_1).f3).length c269_3] 82 (0, 0)) (by (with_reducible repeat (first | refine blk_drewN ?_ _ | refine blk_drew ?_ | refine blk_alloc ?_ _)); exact BK270.out) hb)
                                    have n3_ := Aside0.mk (below_step (by repeat (first | (with_reducible first | exact HB.out | apply below_alloc | apply pw_below_drewN | apply below_drew1 | refine below_set ?_ GE270.out) | exact HB.out)) hb)
                                    clear HO282
                                    clear BK270
                                    clear HB
                                    have HO282 := n0_
                                    have HO285 := n1_
                                    have BK270 := n2_
                                    have HB := n3_
                                    clear n0_ n1_ n2_ n3_
                                    clear hb ho95
                                    refine hK.out _ _ ⟨(blk_cell BK270.out 0).trans rfl, (blk_cell BK270.out 1).trans rfl, (blk_cell BK270.out 2).trans rfl, (blk_cell BK270.out 3).trans rfl⟩ (fun hHeld => ?_)
                                    clear hK K
                                    refine norm_ (a' := ?_) ?_ ?_
                                    rotate_left
                                    · show Act.put _ (some 92) _ = _
                                      simp only [Act.put, List.setIfInBounds_toArray, List.set_cons_zero, List.set_cons_succ, i64_w, i32_w]
                                      rfl
                                    exact norm_ (by simp only [putAll, Act.put, List.setIfInBounds_toArray, List.set_cons_zero, List.set_cons_succ]) (hCont (v278, v281, v284) _ ⟨hHeld, (by (with_reducible repeat (first | apply Kd.R_alloc | apply Kd.R_drewN | apply Kd.R_drew)); exact Kd.R_mono HO282.out (fun _ hk => hk.2)), (by (with_reducible repeat (first | apply Kd.R_alloc | apply Kd.R_drewN | apply Kd.R_drew)); exact Kd.R_mono HO285.out (fun _ hk => hk.2)), (by (with_reducible repeat (first | refine blk_drewN ?_ _ | refine blk_drew ?_ | refine blk_alloc ?_ _)); exact BK270.out), (by repeat (first | (with_reducible first | exact HB.out | apply below_alloc | apply pw_below_drewN | apply below_drew1 | refine below_set ?_ GE270.out) | exact HB.out))⟩)
                                  · skip
                                    refine Kd.R_lit_step Kd.string _ 9 ?hg (N := 92) ?hd (xs := ([((rd_T82 l0 x5_1).f0)] : List ByteArray)) (inner := [.string ((rd_T82 l0 x5_1).f0)]) (ok := fun _ => True) (okp := fun _ => True) ?hr ?hp (fun _ hk => hk) trivial (Below.refl _ _) (Nat.le_refl _) (by simp) ?_; (case hd => rfl); (case hg => rfl); (case hr => first | (go_simp; done) | (go_simp; rfl)); (case hp => exact (Reps.one (show Kd.M Kd.string _ _ _ ((rd_T82 l0 x5_1).f0) [.string ((rd_T82 l0 x5_1).f0)] from rfl) (Reps.none _ _)))
                                    intro v284 w93 ho94 hb hg_ hnew_
                                    clear hg_ hnew_
                                    (first | rw [← Ny283.out] at ho94 | (simp only [Int.reduceToNat] at ho94; rw [← Ny283.out] at ho94))
                                    have n0_ := Aside0.mk (Kd.R_elder' (by (with_reducible repeat (first | apply Kd.R_alloc | apply Kd.R_drewN | apply Kd.R_drew)); exact HO279.out) (Kd.R_base ho94) hb)
                                    have n1_ := Aside0.mk (Kd.R_lower (Kd.R_new' ho94 (Kd.R_lt (by (with_reducible repeat (first | apply Kd.R_alloc | apply Kd.R_drewN | apply Kd.R_drew)); exact HO279.out))) (below_size (by repeat (first | (with_reducible first | exact HB.out | apply below_alloc | apply pw_below_drewN | apply below_drew1 | refine below_set ?_ GE270.out) | exact HB.out))))
                                    have n2_ := Aside0.mk (blk_below (g := gb270) (o := .cells #[.string ((rd_T82 l0 x5_1).f0), .slice A269_1 ((rd_T82 l0 x5_1).f1).length c269_1, .string ((rd_T82 l0 x5_1).f2), .slice A269_3 ((rd_T82 l0 x5_1).f3).length c269_3] 82 (0, 0)) (by (with_reducible repeat (first | refine blk_drewN ?_ _ | refine blk_drew ?_ | refine blk_alloc ?_ _)); exact BK270.out) hb)
                                    have n3_ := Aside0.mk (below_step (by repeat (first | (with_reducible first | exact HB.out | apply below_alloc | apply pw_below_drewN | apply below_drew1 | refine below_set ?_ GE270.out) | exact HB.out)) hb)
                                    clear HO279
                                    clear BK270
                                    clear HB
                                    have HO279 := n0_
                                    have HO285 := n1_
                                    have BK270 := n2_
                                    have HB := n3_
                                    clear n0_ n1_ n2_ n3_
                                    clear hb ho94
                                    refine hK.out _ _ ⟨(blk_cell BK270.out 0).trans rfl, (blk_cell BK270.out 1).trans rfl, (blk_cell BK270.out 2).trans rfl, (blk_cell BK270.out 3).trans rfl⟩ (fun hHeld => ?_)
                                    clear hK K
                                    refine norm_ (a' := ?_) ?_ ?_
                                    rotate_left
                                    · show Act.put _ (some 92) _ = _
                                      simp only [Act.put, List.setIfInBounds_toArray, List.set_cons_zero, List.set_cons_succ, i64_w, i32_w]
                                      rfl
                                    refine one_ (i := 4) (N := some 89) #[true, true, true, true, true, true, true, true, false, false, false] rfl rfl (one_of HT_.out (by kernel_rfl)) (by decide) (fun K hK => ?_)
                                    refine Kd.R_append_rows_step Kd.string (w0 := w) w.heap.size (by rfl) (.tmp 87) (.tmp 88) 25 9 (.string ⟨#[]⟩) 16 rfl Tryd.underlying25 info9 rfl (by decide) (by omega) v278 y277 l1 _ _ _ (fun k_ => some k_ ≠ (v284 : Value).ownBlock) (fun _ => False) rfl rfl ?aO ?aR (fun _ _ h => h) (fun _ h => h.elim) ?aF ?aB ?aS ?aL ?_
                                    (case aR => repeat (first | exact (Kd.C_below HR1.out HB.out) | (with_reducible refine Kd.C_alloc ?_ _) | (with_reducible refine Kd.C_drewN ?_ _) | (with_reducible refine Kd.C_drew ?_)))
                                    (case aB => exact (by repeat (first | (with_reducible first | exact HB.out | apply below_alloc | apply pw_below_drewN | apply below_drew1 | refine below_set ?_ GE270.out) | exact HB.out)))
                                    (case aF => exact (fun k_ hk => Kd.fresh' (Kd.R_lt (by (with_reducible repeat (first | apply Kd.R_alloc | apply Kd.R_drewN | apply Kd.R_drew)); exact HO285.out)) k_ hk))
                                    (case aO => exact (by (with_reducible repeat (first | apply Kd.R_alloc | apply Kd.R_drewN | apply Kd.R_drew)); exact Kd.R_mono HO279.out (fun _ hk => hk.2)))
                                    (case aS => exact (below_size (by repeat (first | (with_reducible first | exact HB.out | apply below_alloc | apply pw_below_drewN | apply below_drew1 | refine below_set ?_ GE270.out) | exact HB.out))))
                                    (case aL => have := LMc75.out; omega)
                                    intro v281 w95 ho hb hg hat
                                    rw [← Ny280.out] at ho
                                    have n0_ := Aside0.mk (blk_grown (g := gb270) (o := .cells #[.string ((rd_T82 l0 x5_1).f0), .slice A269_1 ((rd_T82 l0 x5_1).f1).length c269_1, .string ((rd_T82 l0 x5_1).f2), .slice A269_3 ((rd_T82 l0 x5_1).f3).length c269_3] 82 (0, 0)) (by (with_reducible repeat (first | refine blk_drewN ?_ _ | refine blk_drew ?_ | refine blk_alloc ?_ _)); exact BK270.out) hg (Kd.R_ne HO279.out BK270.out (by decide)))
                                    have n1_ := Aside0.mk (Kd.R_after (ok := (fun _ => True)) (by (with_reducible repeat (first | apply Kd.R_alloc | apply Kd.R_drewN | apply Kd.R_drew)); exact HO285.out) hg hat)
                                    have n2_ := Aside0.mk (hb)
                                    have n3_ := Aside0.mk (ho)
                                    clear BK270
                                    clear HO285
                                    clear HB
                                    clear HO279
                                    have BK270 := n0_
                                    have HO285 := n1_
                                    have HB := n2_
                                    have HO282 := n3_
                                    clear n0_ n1_ n2_ n3_
                                    clear ho hb hg hat
                                    refine hK.out _ _ ⟨(blk_cell BK270.out 0).trans rfl, (blk_cell BK270.out 1).trans rfl, (blk_cell BK270.out 2).trans rfl, (blk_cell BK270.out 3).trans rfl⟩ (fun hHeld => ?_)
                                    clear hK K
                                    refine norm_ (a' := ?_) ?_ ?_
                                    rotate_left
                                    · show Act.put _ (some 89) _ = _
                                      simp only [Act.put, List.setIfInBounds_toArray, List.set_cons_zero, List.set_cons_succ, i64_w, i32_w]
                                      rfl
                                    exact norm_ (by simp only [putAll, Act.put, List.setIfInBounds_toArray, List.set_cons_zero, List.set_cons_succ]) (hCont (v278, v281, v284) _ ⟨hHeld, (by (with_reducible repeat (first | apply Kd.R_alloc | apply Kd.R_drewN | apply Kd.R_drew)); exact HO282.out), (by (with_reducible repeat (first | apply Kd.R_alloc | apply Kd.R_drewN | apply Kd.R_drew)); exact Kd.R_mono HO285.out (fun _ hk => hk.2)), (by (with_reducible repeat (first | refine blk_drewN ?_ _ | refine blk_drew ?_ | refine blk_alloc ?_ _)); exact BK270.out), (by repeat (first | (with_reducible first | exact HB.out | apply below_alloc | apply pw_below_drewN | apply below_drew1 | refine below_set ?_ GE270.out) | exact HB.out))⟩)
                                · skip
                                  refine Kd.R_lit_step Kd.string _ 9 ?hg (N := 92) ?hd (xs := ([((rd_T82 l0 x5_1).f0)] : List ByteArray)) (inner := [.string ((rd_T82 l0 x5_1).f0)]) (ok := fun _ => True) (okp := fun _ => True) ?hr ?hp (fun _ hk => hk) trivial (Below.refl _ _) (Nat.le_refl _) (by simp) ?_; (case hd => rfl); (case hg => rfl); (case hr => first | (go_simp; done) | (go_simp; rfl)); (case hp => exact (Reps.one (show Kd.M Kd.string _ _ _ ((rd_T82 l0 x5_1).f0) [.string ((rd_T82 l0 x5_1).f0)] from rfl) (Reps.none _ _)))
                                  intro v284 w91 ho92 hb hg_ hnew_
                                  clear hg_ hnew_
                                  (first | rw [← Ny283.out] at ho92 | (simp only [Int.reduceToNat] at ho92; rw [← Ny283.out] at ho92))
                                  have n0_ := Aside0.mk (Kd.R_lower ho92 (below_size (by repeat (first | (with_reducible first | exact HB.out | apply below_alloc | apply pw_below_drewN | apply below_drew1 | refine below_set ?_ GE270.out) | exact HB.out))))
                                  have n1_ := Aside0.mk (blk_below (g := gb270) (o := .cells #[.string ((rd_T82 l0 x5_1).f0), .slice A269_1 ((rd_T82 l0 x5_1).f1).length c269_1, .string ((rd_T82 l0 x5_1).f2), .slice A269_3 ((rd_T82 l0 x5_1).f3).length c269_3] 82 (0, 0)) (by (with_reducible repeat (first | refine blk_drewN ?_ _ | refine blk_drew ?_ | refine blk_alloc ?_ _)); exact BK270.out) hb)
                                  have n2_ := Aside0.mk (below_step (by repeat (first | (with_reducible first | exact HB.out | apply below_alloc | apply pw_below_drewN | apply below_drew1 | refine below_set ?_ GE270.out) | exact HB.out)) hb)
                                  clear BK270
                                  clear HB
                                  have HO285 := n0_
                                  have BK270 := n1_
                                  have HB := n2_
                                  clear n0_ n1_ n2_
                                  clear hb ho92
                                  refine hK.out _ _ ⟨(blk_cell BK270.out 0).trans rfl, (blk_cell BK270.out 1).trans rfl, (blk_cell BK270.out 2).trans rfl, (blk_cell BK270.out 3).trans rfl⟩ (fun hHeld => ?_)
                                  clear hK K
                                  refine norm_ (a' := ?_) ?_ ?_
                                  rotate_left
                                  · show Act.put _ (some 92) _ = _
                                    simp only [Act.put, List.setIfInBounds_toArray, List.set_cons_zero, List.set_cons_succ, i64_w, i32_w]
                                    rfl
                                  refine one_ (i := 2) (N := some 87) #[true, true, true, true, false, true, true, true, false, false, false] rfl rfl (one_of HT_.out (by kernel_rfl)) (by decide) (fun K hK => ?_)
                                  refine Kd.R_lit_step Kd.string _ 9 ?hg (N := 87) ?hd (xs := ([] : List ByteArray)) (inner := []) (ok := fun _ => True) (okp := fun _ => True) ?hr ?hp (fun _ hk => hk) trivial (Below.refl _ _) (Nat.le_refl _) (by simp) ?_; (case hd => rfl); (case hg => rfl); (case hr => first | (go_simp; done) | (go_simp; rfl)); (case hp => exact (Reps.none _ _))
                                  intro v278 w93 ho94 hb hg_ hnew_
                                  clear hg_ hnew_
                                  (first | rw [← Ny277.out] at ho94 | (simp only [Int.reduceToNat] at ho94; rw [← Ny277.out] at ho94))
                                  have n0_ := Aside0.mk (Kd.R_elder' (by (with_reducible repeat (first | apply Kd.R_alloc | apply Kd.R_drewN | apply Kd.R_drew)); exact HO285.out) (Kd.R_base ho94) hb)
                                  have n1_ := Aside0.mk (Kd.R_lower (Kd.R_new' ho94 (Kd.R_lt (by (with_reducible repeat (first | apply Kd.R_alloc | apply Kd.R_drewN | apply Kd.R_drew)); exact HO285.out))) (below_size (by repeat (first | (with_reducible first | exact HB.out | apply below_alloc | apply pw_below_drewN | apply below_drew1 | refine below_set ?_ GE270.out) | exact HB.out))))
                                  have n2_ := Aside0.mk (blk_below (g := gb270) (o := .cells #[.string ((rd_T82 l0 x5_1).f0), .slice A269_1 ((rd_T82 l0 x5_1).f1).length c269_1, .string ((rd_T82 l0 x5_1).f2), .slice A269_3 ((rd_T82 l0 x5_1).f3).length c269_3] 82 (0, 0)) (by (with_reducible repeat (first | refine blk_drewN ?_ _ | refine blk_drew ?_ | refine blk_alloc ?_ _)); exact BK270.out) hb)
                                  have n3_ := Aside0.mk (below_step (by repeat (first | (with_reducible first | exact HB.out | apply below_alloc | apply pw_below_drewN | apply below_drew1 | refine below_set ?_ GE270.out) | exact HB.out)) hb)
                                  clear HO285
                                  clear BK270
                                  clear HB
                                  have HO285 := n0_
                                  have HO279 := n1_
                                  have BK270 := n2_
                                  have HB := n3_
                                  clear n0_ n1_ n2_ n3_
                                  clear hb ho94
                                  refine hK.out _ _ ⟨(blk_cell BK270.out 0).trans rfl, (blk_cell BK270.out 1).trans rfl, (blk_cell BK270.out 2).trans rfl, (blk_cell BK270.out 3).trans rfl⟩ (fun hHeld => ?_)
                                  clear hK K
                                  refine norm_ (a' := ?_) ?_ ?_
                                  rotate_left
                                  · show Act.put _ (some 87) _ = _
                                    simp only [Act.put, List.setIfInBounds_toArray, List.set_cons_zero, List.set_cons_succ, i64_w, i32_w]
                                    rfl
                                  refine one_ (i := 4) (N := some 89) #[true, true, true, true, true, true, true, true, false, false, false] rfl rfl (one_of HT_.out (by kernel_rfl)) (by decide) (fun K hK => ?_)
                                  refine Kd.R_append_rows_step Kd.string (w0 := w) w.heap.size (by rfl) (.tmp 87) (.tmp 88) 25 9 (.string ⟨#[]⟩) 16 rfl Tryd.underlying25 info9 rfl (by decide) (by omega) v278 y277 l1 _ _ _ (fun k_ => some k_ ≠ (v284 : Value).ownBlock) (fun _ => False) rfl rfl ?aO ?aR (fun _ _ h => h) (fun _ h => h.elim) ?aF ?aB ?aS ?aL ?_
                                  (case aR => repeat (first | exact (Kd.C_below HR1.out HB.out) | (with_reducible refine Kd.C_alloc ?_ _) | (with_reducible refine Kd.C_drewN ?_ _) | (with_reducible refine Kd.C_drew ?_)))
                                  (case aB => exact (by repeat (first | (with_reducible first | exact HB.out | apply below_alloc | apply pw_below_drewN | apply below_drew1 | refine below_set ?_ GE270.out) | exact HB.out)))
                                  (case aF => exact (fun k_ hk => Kd.fresh' (Kd.R_lt (by (with_reducible repeat (first | apply Kd.R_alloc | apply Kd.R_drewN | apply Kd.R_drew)); exact HO285.out)) k_ hk))
                                  (case aO => exact (by (with_reducible repeat (first | apply Kd.R_alloc | apply Kd.R_drewN | apply Kd.R_drew)); exact Kd.R_mono HO279.out (fun _ hk => hk.2)))
                                  (case aS => exact (below_size (by repeat (first | (with_reducible first | exact HB.out | apply below_alloc | apply pw_below_drewN | apply below_drew1 | refine below_set ?_ GE270.out) | exact HB.out))))
                                  (case aL => have := LMc75.out; omega)
                                  intro v281 w95 ho hb hg hat
                                  rw [← Ny280.out] at ho
                                  have n0_ := Aside0.mk (blk_grown (g := gb270) (o := .cells #[.string ((rd_T82 l0 x5_1).f0), .slice A269_1 ((rd_T82 l0 x5_1).f1).length c269_1, .string ((rd_T82 l0 x5_1).f2), .slice A269_3 ((rd_T82 l0 x5_1).f3).length c269_3] 82 (0, 0)) (by (with_reducible repeat (first | refine blk_drewN ?_ _ | refine blk_drew ?_ | refine blk_alloc ?_ _)); exact BK270.out) hg (Kd.R_ne HO279.out BK270.out (by decide)))
                                  have n1_ := Aside0.mk (Kd.R_after (ok := (fun _ => True)) (by (with_reducible repeat (first | apply Kd.R_alloc | apply Kd.R_drewN | apply Kd.R_drew)); exact HO285.out) hg hat)
                                  have n2_ := Aside0.mk (hb)
                                  have n3_ := Aside0.mk (ho)
                                  clear BK270
                                  clear HO285
                                  clear HB
                                  clear HO279
                                  have BK270 := n0_
                                  have HO285 := n1_
                                  have HB := n2_
                                  have HO282 := n3_
                                  clear n0_ n1_ n2_ n3_
                                  clear ho hb hg hat
                                  refine hK.out _ _ ⟨(blk_cell BK270.out 0).trans rfl, (blk_cell BK270.out 1).trans rfl, (blk_cell BK270.out 2).trans rfl, (blk_cell BK270.out 3).trans rfl⟩ (fun hHeld => ?_)
                                  clear hK K
                                  refine norm_ (a' := ?_) ?_ ?_
                                  rotate_left
                                  · show Act.put _ (some 89) _ = _
                                    simp only [Act.put, List.setIfInBounds_toArray, List.set_cons_zero, List.set_cons_succ, i64_w, i32_w]
                                    rfl
                                  exact norm_ (by simp only [putAll, Act.put, List.setIfInBounds_toArray, List.set_cons_zero, List.set_cons_succ]) (hCont (v278, v281, v284) _ ⟨hHeld, (by (with_reducible repeat (first | apply Kd.R_alloc | apply Kd.R_drewN | apply Kd.R_drew)); exact HO282.out), (by (with_reducible repeat (first | apply Kd.R_alloc | apply Kd.R_drewN | apply Kd.R_drew)); exact Kd.R_mono HO285.out (fun _ hk => hk.2)), (by (with_reducible repeat (first | refine blk_drewN ?_ _ | refine blk_drew ?_ | refine blk_alloc ?_ _)); exact BK270.out), (by repeat (first | (with_reducible first | exact HB.out | apply below_alloc | apply pw_below_drewN | apply below_drew1 | refine below_set ?_ GE270.out) | exact HB.out))⟩)
                              rintro ⟨v278, v281, v284⟩ w96 ⟨hS_, h0_, h1_, h2_, h3_⟩
                              have n0_ : Aside0 (Kd.R Kd.string 9 w96 w.heap.size (fun k_ => some k_ ≠ (v284 : Value).ownBlock) v281 y280) := ⟨h0_⟩
                              have n1_ : Aside0 (Kd.R Kd.string 9 w96 w.heap.size (fun k_ => some k_ ≠ (v281 : Value).ownBlock) v284 y283) := ⟨h1_⟩
                              have n2_ : Aside0 (w96.heap[gb270]? = some (.cells #[.string ((rd_T82 l0 x5_1).f0), .slice A269_1 ((rd_T82 l0 x5_1).f1).length c269_1, .string ((rd_T82 l0 x5_1).f2), .slice A269_3 ((rd_T82 l0 x5_1).f3).length c269_3] 82 (0, 0))) := ⟨h2_⟩
                              have n3_ : Aside0 (Below w.heap.size w w96) := ⟨h3_⟩
                              clear BK270
                              clear HB
                              clear h0_ h1_ h2_ h3_
                              have HO282 := n0_
                              have HO285 := n1_
                              have BK270 := n2_
                              have HB := n3_
                              clear n0_ n1_ n2_ n3_
                              have hHeld : w96.cell? ⟨gb270, 0, none⟩ = some (.string ((rd_T82 l0 x5_1).f0)) ∧ w96.cell? ⟨gb270, 1, none⟩ = some (.slice A269_1 ((rd_T82 l0 x5_1).f1).length c269_1) ∧ w96.cell? ⟨gb270, 2, none⟩ = some (.string ((rd_T82 l0 x5_1).f2)) ∧ w96.cell? ⟨gb270, 3, none⟩ = some (.slice A269_3 ((rd_T82 l0 x5_1).f3).length c269_3) := hS_
                              obtain ⟨Ao98, co98, eo98⟩ := Kd.R_slice HO285.out
                              (first | subst eo98 | (injection eo98 with f1_ f2_ f3_; have f4_ := f1_.symm; have f5_ := f3_.symm; clear f1_ f2_ f3_; subst f4_; subst f5_))
                              refine norm_ (a' := ?_) ?_ ?_
                              rotate_left
                              · simp only [putAll, Act.put, List.setIfInBounds_toArray, List.set_cons_zero, List.set_cons_succ]
                                rfl
                              refine one_ (i := 8) (N := some 93) #[true, true, true, true, true, true, true, true, true, false, false] rfl rfl (one_of HT_.out (by kernel_rfl)) (by decide) (fun K hK => ?_)
                              refine Kd.R_append_rows_step Kd.string (w0 := w) w.heap.size (by rfl) (.tmp 89) (.tmp 92) 25 9 (.string ⟨#[]⟩) 16 rfl Tryd.underlying25 info9 rfl (by decide) (by omega) v281 y280 y283 _ _ _ (fun k_ => some k_ ≠ (.slice Ao98 y283.length co98 : Value).ownBlock) (fun _ => False) rfl rfl ?aO ?aR (fun _ _ h => h) (fun _ h => h.elim) ?aF ?aB ?aS ?aL ?_
                              (case aR => repeat (first | exact (Kd.R_reads' HO285.out).2.2 | (with_reducible refine Kd.C_alloc ?_ _) | (with_reducible refine Kd.C_drewN ?_ _) | (with_reducible refine Kd.C_drew ?_)))
                              (case aB => exact (by repeat (first | (with_reducible first | exact HB.out | apply below_alloc | apply pw_below_drewN | apply below_drew1 | refine below_set ?_ GE270.out) | exact HB.out)))
                              (case aF => exact (fun k_ hk => Kd.fresh' (Kd.R_lt (by (with_reducible repeat (first | apply Kd.R_alloc | apply Kd.R_drewN | apply Kd.R_drew)); exact HO285.out)) k_ hk))
                              (case aO => exact (by (with_reducible repeat (first | apply Kd.R_alloc | apply Kd.R_drewN | apply Kd.R_drew)); exact HO282.out))
                              (case aS => exact (below_size (by repeat (first | (with_reducible first | exact HB.out | apply below_alloc | apply pw_below_drewN | apply below_drew1 | refine below_set ?_ GE270.out) | exact HB.out))))
                              (case aL => have := LMc76.out; omega)
                              intro v287 w97 ho hb hg hat
                              rw [← Ny286.out] at ho
                              have n0_ := Aside0.mk (blk_grown (g := gb270) (o := .cells #[.string ((rd_T82 l0 x5_1).f0), .slice A269_1 ((rd_T82 l0 x5_1).f1).length c269_1, .string ((rd_T82 l0 x5_1).f2), .slice A269_3 ((rd_T82 l0 x5_1).f3).length c269_3] 82 (0, 0)) (by (with_reducible repeat (first | refine blk_drewN ?_ _ | refine blk_drew ?_ | refine blk_alloc ?_ _)); exact BK270.out) hg (Kd.R_ne HO282.out BK270.out (by decide)))
                              have n1_ := Aside0.mk (Kd.R_after (ok := (fun _ => True)) (by (with_reducible repeat (first | apply Kd.R_alloc | apply Kd.R_drewN | apply Kd.R_drew)); exact Kd.R_mono HO285.out (fun _ hk => ⟨trivial, hk⟩)) hg hat)
                              have n2_ := Aside0.mk (hb)
                              have n3_ := Aside0.mk (ho)
                              clear BK270
                              clear HO285
                              clear HB
                              clear HO282
                              have BK270 := n0_
                              have HO285 := n1_
                              have HB := n2_
                              have HO288 := n3_
                              clear n0_ n1_ n2_ n3_
                              clear ho hb hg hat
                              obtain ⟨Ao99, co99, eo99⟩ := Kd.R_slice HO288.out
                              (first | subst eo99 | (injection eo99 with f1_ f2_ f3_; have f4_ := f1_.symm; have f5_ := f3_.symm; clear f1_ f2_ f3_; subst f4_; subst f5_))
                              refine hK.out _ _ ⟨(blk_cell BK270.out 0).trans rfl, (blk_cell BK270.out 1).trans rfl, (blk_cell BK270.out 2).trans rfl, (blk_cell BK270.out 3).trans rfl⟩ (fun hHeld => ?_)
                              clear hK K
                              refine norm_ (a' := ?_) ?_ ?_
                              rotate_left
                              · show Act.put _ (some 93) _ = _
                                simp only [Act.put, List.setIfInBounds_toArray, List.set_cons_zero, List.set_cons_succ, i64_w, i32_w]
                                rfl
                              refine one_ (i := 9) (N := some 94) #[true, true, true, true, true, true, true, true, true, true, false] rfl rfl (one_of HT_.out (by kernel_rfl)) (by decide) (fun K hK => ?_)
                              refine goes_ Tryd.func32 (by kernel_rfl) rfl #[.slice A269_3 ((rd_T82 l0 x5_1).f3).length c269_3, .slice Ao99 y286.length co99] (by rfl) rfl rfl (by (try simp only [List.map_toArray, List.map_cons, List.map_nil]); first | done | rfl | (simp only [List.length_drop, List.length_take]; rfl)) ?_
                              with_reducible refine (ih kj65 (by have := HK1.out; have := HJ40.out; have := HJ65.out; omega) _ _ ((rd_T82 l0 x5_1).f3) _ _ y286 false _ ?side1 ?side2 ?side3 ?side4 A77.out).mono ?_
                              (case side1 => repeat (first | exact (Kd.C_below HR269_3.out HB.out) | (with_reducible refine Kd.C_alloc ?_ _) | (with_reducible refine Kd.C_drewN ?_ _) | (with_reducible refine Kd.C_drew ?_)))
                              (case side2 => exact HC269_3.out)
                              (case side3 => repeat (first | exact (Kd.R_reads' HO288.out).2.2 | (with_reducible refine Kd.C_alloc ?_ _) | (with_reducible refine Kd.C_drewN ?_ _) | (with_reducible refine Kd.C_drew ?_)))
                              (case side4 => exact (Kd.R_reads' HO288.out).2.1)
                              rintro e w100 ⟨rfl, hb⟩
                              refine ⟨_, rfl, ?_⟩
                              have n0_ := Aside0.mk (Kd.R_below (by (with_reducible repeat (first | apply Kd.R_alloc | apply Kd.R_drewN | apply Kd.R_drew)); exact HO285.out) hb)
                              have n1_ := Aside0.mk (Kd.R_below (by (with_reducible repeat (first | apply Kd.R_alloc | apply Kd.R_drewN | apply Kd.R_drew)); exact HO288.out) hb)
                              have n2_ := Aside0.mk (blk_below (g := gb270) (o := .cells #[.string ((rd_T82 l0 x5_1).f0), .slice A269_1 ((rd_T82 l0 x5_1).f1).length c269_1, .string ((rd_T82 l0 x5_1).f2), .slice A269_3 ((rd_T82 l0 x5_1).f3).length c269_3] 82 (0, 0)) (by (with_reducible repeat (first | refine blk_drewN ?_ _ | refine blk_drew ?_ | refine blk_alloc ?_ _)); exact BK270.out) hb)
                              have n3_ := Aside0.mk (below_step (by repeat (first | (with_reducible first | exact HB.out | apply below_alloc | apply pw_below_drewN | apply below_drew1 | refine below_set ?_ GE270.out) | exact HB.out)) hb)
                              clear HO285
                              clear HO288
                              clear BK270
                              clear HB
                              have HO285 := n0_
                              have HO288 := n1_
                              have BK270 := n2_
                              have HB := n3_
                              clear n0_ n1_ n2_ n3_
                              (try clear hb)
                              (try clear hb2)
                              (try clear hk)
                              (try clear hi)
                              refine hK.out _ _ ⟨(blk_cell BK270.out 0).trans rfl, (blk_cell BK270.out 1).trans rfl, (blk_cell BK270.out 2).trans rfl, (blk_cell BK270.out 3).trans rfl⟩ (fun hHeld => ?_)
                              clear hK K
                              refine norm_ (a' := ?_) ?_ ?_
                              rotate_left
                              · show Act.put _ (some 94) _ = _
                                simp only [Act.put, List.setIfInBounds_toArray, List.set_cons_zero, List.set_cons_succ, i64_w, i32_w]
                                rfl
                              refine pure_ (i := 10) (N := some 95) (v := ?_) (a' := ?_) #[true, true, true, true, true, true, true, true, true, true, true] rfl rfl (any_of HT_.out (by kernel_rfl)) (fun _ _ _ h => h) (Or.inl ⟨by rfl, ?_⟩) ?_ ?_
                              rotate_left
                              · intro w'
                                go_simp
                                with_reducible rfl
                              rotate_left
                              · simp only [Act.put, List.setIfInBounds_toArray, List.set_cons_zero, List.set_cons_succ, i64_w, i32_w]
                                rfl
                              refine done_ (done_of HT_.out (by kernel_rfl)) ?_
                              try go_wp2
                              go_ret
                              exact ⟨by first | rfl | (simp [errW_none, errW_some] <;> rfl) | (simp [*, errW_none, errW_some] <;> rfl), by repeat (first | (with_reducible first | exact HB.out | apply below_alloc | apply pw_below_drewN | apply below_drew1 | refine below_set ?_ GE270.out) | exact HB.out)⟩
                          · rw [if_neg c76] at H
                            exact absurd H (by simp)
                        · rw [if_neg c75] at H
                          exact absurd H (by simp)
        · rw [if_neg c4] at H
          exact absurd H (by simp)
      · rw [if_neg c3] at H
        have c3b0 : decide (x5_1 < (l0.length : Int)) = false := decide_eq_false c3
        clear c3
        obtain rfl := Option.some.inj H
        go_wp2
        go_ret
        exact ⟨by first | rfl | (simp [errW_none, errW_some] <;> rfl) | (simp [*, errW_none, errW_some] <;> rfl), by repeat (first | (with_reducible first | exact HB.out | apply below_alloc | apply pw_below_drewN | apply below_drew1) | exact HB.out)⟩

end Go.Proofs.YteahlapoeiikoaaDoor.P
