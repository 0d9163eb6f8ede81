/- Several texts, one behind the other. -/
import Derived.Test.YteahlapoeiikoaaDoorJoin11
import Derived.Lib.Strings
import Derived.Test.YteahlapoeiikoaaDoorKindsC
import Derived.KernelRfl


-- Printed by a program of this session (wip/myprint.py over the kit's print).
namespace Go.Proofs.YteahlapoeiikoaaDoor.P
open Go.RowKit Go.Proofs.YteahlapoeiikoaaDoorW.PrintWords Go.Proofs.YteahlapoeiikoaaDoorW.PrintLast Go.Proofs.YteahlapoeiikoaaDoorW.PrintMore
attribute [local go_sem] max2_int min2_int max_two min_two max_three min_three max_four min_four   -- for this text's walks alone
set_option linter.unusedVariables false
set_option linter.unusedSimpArgs false

/-! ### decanterref11_Is: function 20 -/
def decanterref11_Is.f (k : Nat) (a0 : ByteArray) (a1 : Int) : Option (Bool) := (decanterref11_one.f k a0).bind fun t107 => (if t107 = true then ((decanterref11_Lists.f).bind fun t108 => (if 0 ≤ a1 then (if a1 < (t108.length : Int) then (if 1 + a0.size ≤ 9223372036854775807 then (if ((⟨#[32]⟩ : ByteArray) ++ a0).size + 1 ≤ 9223372036854775807 then ((decanterref11_in.f k (rdOf ByteArray.empty t108 a1) (((⟨#[32]⟩ : ByteArray) ++ a0) ++ (⟨#[32]⟩ : ByteArray))).bind fun t112 => (some t112)) else (none)) else (none)) else (none)) else (none))) else (some false))
theorem decanterref11_Is.mono : ∀ a0 a1 k, LeO (decanterref11_Is.f k a0 a1) (decanterref11_Is.f (k + 1) a0 a1) := by
  intro a0 a1 k
  unfold decanterref11_Is.f
  repeat' first
      | (with_reducible exact decanterref11_in.mono _ _ _)
      | (with_reducible exact decanterref11_one.mono _ _)
      | (with_reducible exact LeO.refl _)
      | (with_reducible exact LeO.none _)
      | (with_reducible refine LeO.ite ?_ ?_)
      | (with_reducible refine LeO.bind ?_ (fun _ => ?_))
      | exact decanterref11_in.mono _ _ _
      | exact decanterref11_one.mono _ _
      | exact LeO.none _
      | refine LeO.ite ?_ ?_
      | refine LeO.bind ?_ (fun _ => ?_)
set_option maxHeartbeats 8000000 in
set_option maxRecDepth 100000 in
theorem decanterref11_Is.calls (k : Nat) (a0 : ByteArray) (a1 : Int) (r : Bool) (w : World) (h : decanterref11_Is.f k a0 a1 = some r) :
    Calls Tryd.prog 20 #[.string a0, .int .i64 a1] w fun e w' => e = .returned (.bool r) ∧ Below w.heap.size w w' := by
  have HB := Aside0.mk (Below.refl w.heap.size w)
  have H : ((decanterref11_one.f k a0).bind fun t107 => (if t107 = true then ((decanterref11_Lists.f).bind fun t108 => (if 0 ≤ a1 then (if a1 < (t108.length : Int) then (if 1 + a0.size ≤ 9223372036854775807 then (if ((⟨#[32]⟩ : ByteArray) ++ a0).size + 1 ≤ 9223372036854775807 then ((decanterref11_in.f k (rdOf ByteArray.empty t108 a1) (((⟨#[32]⟩ : ByteArray) ++ a0) ++ (⟨#[32]⟩ : ByteArray))).bind fun t112 => (some t112)) else (none)) else (none)) else (none)) else (none))) else (some false))) = some r := h
  clear h
  replace H := Option.bind_eq_some_iff.mp H
  obtain ⟨t107, A30, H⟩ := H
  replace H : (if t107 = true then ((decanterref11_Lists.f).bind fun t108 => (if 0 ≤ a1 then (if a1 < (t108.length : Int) then (if 1 + a0.size ≤ 9223372036854775807 then (if ((⟨#[32]⟩ : ByteArray) ++ a0).size + 1 ≤ 9223372036854775807 then ((decanterref11_in.f k (rdOf ByteArray.empty t108 a1) (((⟨#[32]⟩ : ByteArray) ++ a0) ++ (⟨#[32]⟩ : ByteArray))).bind fun t112 => (some t112)) else (none)) else (none)) else (none)) else (none))) else (some false)) = some r := H
  have A3 := Aside0.mk A30
  clear A30
  by_cases c4 : t107 = true
  · subst c4
    have H1 : ((decanterref11_Lists.f).bind fun t108 => (if 0 ≤ a1 then (if a1 < (t108.length : Int) then (if 1 + a0.size ≤ 9223372036854775807 then (if ((⟨#[32]⟩ : ByteArray) ++ a0).size + 1 ≤ 9223372036854775807 then ((decanterref11_in.f k (rdOf ByteArray.empty t108 a1) (((⟨#[32]⟩ : ByteArray) ++ a0) ++ (⟨#[32]⟩ : ByteArray))).bind fun t112 => (some t112)) else (none)) else (none)) else (none)) else (none))) = some r := by rw [if_pos rfl] at H; exact H
    clear H
    have H := H1
    clear H1
    replace H := Option.bind_eq_some_iff.mp H
    obtain ⟨t108, A50, H⟩ := H
    replace H : (if 0 ≤ a1 then (if a1 < (t108.length : Int) then (if 1 + a0.size ≤ 9223372036854775807 then (if ((⟨#[32]⟩ : ByteArray) ++ a0).size + 1 ≤ 9223372036854775807 then ((decanterref11_in.f k (rdOf ByteArray.empty t108 a1) (((⟨#[32]⟩ : ByteArray) ++ a0) ++ (⟨#[32]⟩ : ByteArray))).bind fun t112 => (some t112)) else (none)) else (none)) else (none)) else (none)) = some r := H
    have A5 := Aside0.mk A50
    clear A50
    by_cases c6 : 0 ≤ a1
    · rw [if_pos c6] at H
      have c6b0 : decide (0 ≤ a1) = true := decide_eq_true c6
      clear c6
      by_cases c7 : a1 < (t108.length : Int)
      · rw [if_pos c7] at H
        have c7b0 : decide (a1 < (t108.length : Int)) = true := decide_eq_true c7
        clear c7
        by_cases c8 : 1 + a0.size ≤ 9223372036854775807
        · rw [if_pos c8] at H
          have c8b0 := eq_true c8
          have c8b1 : decide (1 + a0.size ≤ 9223372036854775807) = true := decide_eq_true c8
          try have c8b2 : (9223372036854775807 < 1 + a0.size) = False := eq_false (Nat.not_lt.2 c8)
          by_cases c9 : ((⟨#[32]⟩ : ByteArray) ++ a0).size + 1 ≤ 9223372036854775807
          · rw [if_pos c9] at H
            have c9b0 := eq_true c9
            have c9b1 : decide (((⟨#[32]⟩ : ByteArray) ++ a0).size + 1 ≤ 9223372036854775807) = true := decide_eq_true c9
            try have c9b2 : (9223372036854775807 < ((⟨#[32]⟩ : ByteArray) ++ a0).size + 1) = False := eq_false (Nat.not_lt.2 c9)
            (try (have c9s := c9; simp only [ByteArray.size_append, show ((⟨#[32]⟩ : ByteArray)).size = 1 from rfl] at c9s; have c9s0 := eq_true c9s; have c9s2 := eq_false (Nat.not_lt.2 c9s)))
            replace H := Option.bind_eq_some_iff.mp H
            obtain ⟨t112, A100, H⟩ := H
            replace H : (some t112) = some r := H
            have A10 := Aside0.mk A100
            clear A100
            obtain rfl := Option.some.inj H
            go_enter Tryd.func20, Tryd.ntmps20
            go_wp2_with (first | ((with_reducible refine gate_callee (f := 40) rfl ?_); refine goesL_ (some 6) rfl rfl Tryd.func40 (by kernel_rfl) rfl #[.string a0] rfl (by (try simp only [List.map_toArray, List.map_cons, List.map_nil]); first | done | rfl | (simp only [List.length_drop, List.length_take]; rfl)) ?_; (with_reducible refine (decanterref11_one.calls k a0 true _ A3.out).mono ?_); rintro e w' ⟨rfl, ⟨nd, rfl⟩⟩; refine ⟨_, rfl, ?_⟩) | (go_at_call 34; (with_reducible refine (decanterref11_Lists.calls  t108 _ A5.out).mono ?_); rintro e w11 ⟨v109, rfl, ho0, hb⟩; have n0_ := Aside0.mk (Kd.R_lower ho0 (below_size (by repeat (first | (with_reducible first | exact HB.out | apply below_alloc | apply pw_below_drewN | apply below_drew1) | exact HB.out)))); have n1_ := Aside0.mk (below_step (by repeat (first | (with_reducible first | exact HB.out | apply below_alloc | apply pw_below_drewN | apply below_drew1) | exact HB.out)) hb); clear HB; have HO110 := n0_; have HB := n1_; clear n0_ n1_; (try clear hb); (try clear hb2); (try clear hk); (try clear hi); (try clear ho0); obtain ⟨Ao12, co12, eo12⟩ := Kd.R_slice HO110.out; subst eo12; have p111 : 0 ≤ (a1 : Int) := of_decide_eq_true (by first | (with_reducible assumption) | assumption); have q111 : a1 < (t108.length : Int) := of_decide_eq_true (by first | (with_reducible assumption) | assumption); obtain ⟨ad111, e111, hx111_0⟩ := Kd.at_string (Kd.R_reads' HO110.out).2.2 a1 p111 q111; cases e111; replace p111 := eq_true p111; replace q111 := eq_true q111) | (go_at_call 41; (with_reducible refine (decanterref11_in.calls k (rdOf ByteArray.empty t108 a1) (((⟨#[32]⟩ : ByteArray) ++ a0) ++ (⟨#[32]⟩ : ByteArray)) t112 _ A10.out).mono ?_); rintro e w' ⟨rfl, ⟨nd, rfl⟩⟩))
            go_ret
            exact ⟨by first | rfl | (simp [errW_none, errW_some] <;> rfl) | (simp [*, errW_none, errW_some] <;> rfl), by repeat (first | (with_reducible first | exact HB.out | apply below_alloc | apply pw_below_drewN | apply below_drew1) | exact HB.out)⟩
          · rw [if_neg c9] at H
            exact absurd H (by simp)
        · rw [if_neg c8] at H
          exact absurd H (by simp)
      · rw [if_neg c7] at H
        exact absurd H (by simp)
    · rw [if_neg c6] at H
      exact absurd H (by simp)
  · replace c4 := Bool.eq_false_iff.mpr c4
    subst c4
    have H1 : (some false) = some r := by rw [if_neg (show ¬ (false = true) by decide)] at H; exact H
    clear H
    have H := H1
    clear H1
    obtain rfl := Option.some.inj H
    go_enter Tryd.func20, Tryd.ntmps20
    go_wp2_with (first | ((with_reducible refine gate_callee (f := 40) rfl ?_); refine goesL_ (some 6) rfl rfl Tryd.func40 (by kernel_rfl) rfl #[.string a0] rfl (by (try simp only [List.map_toArray, List.map_cons, List.map_nil]); first | done | rfl | (simp only [List.length_drop, List.length_take]; rfl)) ?_; (with_reducible refine (decanterref11_one.calls k a0 false _ A3.out).mono ?_); rintro e w' ⟨rfl, ⟨nd, rfl⟩⟩; refine ⟨_, rfl, ?_⟩))
    go_ret
    exact ⟨by first | rfl | (simp [errW_none, errW_some] <;> rfl) | (simp [*, errW_none, errW_some] <;> rfl), by repeat (first | (with_reducible first | exact HB.out | apply below_alloc | apply pw_below_drewN | apply below_drew1) | exact HB.out)⟩

end Go.Proofs.YteahlapoeiikoaaDoor.P


-- Printed by a program of this session (wip/myprint.py over the kit's print).
namespace Go.Proofs.YteahlapoeiikoaaDoor.P
open Go.RowKit Go.Proofs.YteahlapoeiikoaaDoorW.PrintWords Go.Proofs.YteahlapoeiikoaaDoorW.PrintLast Go.Proofs.YteahlapoeiikoaaDoorW.PrintMore
attribute [local go_sem] max2_int min2_int max_two min_two max_three min_three max_four min_four   -- for this text's walks alone
set_option linter.unusedVariables false
set_option linter.unusedSimpArgs false

/-! ### decanterref11_Of: function 14 -/
def decanterref11_Of.l0 : Nat → ByteArray → Int → Int → List ByteArray → Int → Option (Int)
  | 0, _, _, _, _, _ => none
  | k + 1, x0, x3, x4, x5, x6 => if x6 < (x5.length : Int) then ((decanterref11_Is.f k x0 x6).bind fun t116 => (if t116 = true then (decanterref11_Of.l0 k x0 (wrap64 (x3 + x4)) (wrap64 (x4 * 2)) x5 (wrap64 (x6 + 1))) else (decanterref11_Of.l0 k x0 x3 (wrap64 (x4 * 2)) x5 (wrap64 (x6 + 1))))) else (some x3)
def decanterref11_Of.f (k : Nat) (a0 : ByteArray) : Option (Int) := (decanterref11_Lists.f).bind fun t113 => (decanterref11_Of.l0 k a0 0 1 t113 0)
theorem decanterref11_Of.mono_l : ∀ k, (∀ y0 y1 y2 y3 y4, LeO (decanterref11_Of.l0 k y0 y1 y2 y3 y4) (decanterref11_Of.l0 (k + 1) y0 y1 y2 y3 y4))
  | 0 => fun _ _ _ _ _ r h => by simp [decanterref11_Of.l0] at h
  | k + 1 => by
    have ih0 := decanterref11_Of.mono_l k
    · intro y0 y1 y2 y3 y4
      unfold decanterref11_Of.l0
      repeat' first
      | (with_reducible exact ih0 _ _ _ _ _)
      | (with_reducible exact decanterref11_Is.mono _ _ _)
      | (with_reducible exact LeO.refl _)
      | (with_reducible exact LeO.none _)
      | (with_reducible refine LeO.ite ?_ ?_)
      | (with_reducible refine LeO.bind ?_ (fun _ => ?_))
      | exact ih0 _ _ _ _ _
      | exact decanterref11_Is.mono _ _ _
      | exact LeO.none _
      | refine LeO.ite ?_ ?_
      | refine LeO.bind ?_ (fun _ => ?_)
theorem decanterref11_Of.mono : ∀ a0 k, LeO (decanterref11_Of.f k a0) (decanterref11_Of.f (k + 1) a0) := by
  intro a0 k
  have ih0 := decanterref11_Of.mono_l k
  unfold decanterref11_Of.f
  repeat' first
      | (with_reducible exact ih0 _ _ _ _ _)
      | (with_reducible exact decanterref11_Is.mono _ _ _)
      | (with_reducible exact LeO.refl _)
      | (with_reducible exact LeO.none _)
      | (with_reducible refine LeO.ite ?_ ?_)
      | (with_reducible refine LeO.bind ?_ (fun _ => ?_))
      | exact ih0 _ _ _ _ _
      | exact decanterref11_Is.mono _ _ _
      | exact LeO.none _
      | refine LeO.ite ?_ ?_
      | refine LeO.bind ?_ (fun _ => ?_)
set_option maxHeartbeats 8000000 in
set_option maxRecDepth 100000 in
theorem decanterref11_Of.calls (k : Nat) (a0 : ByteArray) (r : Int) (w : World) (h : decanterref11_Of.f k a0 = some r) :
    Calls Tryd.prog 14 #[.string a0] w fun e w' => e = .returned (.int .i64 r) ∧ Below w.heap.size w w' := by
  have HB := Aside0.mk (Below.refl w.heap.size w)
  have H : ((decanterref11_Lists.f).bind fun t113 => (decanterref11_Of.l0 k a0 0 1 t113 0)) = some r := h
  clear h
  replace H := Option.bind_eq_some_iff.mp H
  obtain ⟨t113, A20, H⟩ := H
  replace H : (decanterref11_Of.l0 k a0 0 1 t113 0) = some r := H
  have A2 := Aside0.mk A20
  clear A20
  have H' := Aside0.mk H
  clear H
  go_enter Tryd.func14, Tryd.ntmps14
  go_wp2_with (first | ((with_reducible refine gate_callee (f := 34) rfl ?_); refine goesL_ (some 7) rfl rfl Tryd.func34 (by kernel_rfl) rfl #[] rfl (by (try simp only [List.map_toArray, List.map_cons, List.map_nil]); first | done | rfl | (simp only [List.length_drop, List.length_take]; rfl)) ?_; (with_reducible refine (decanterref11_Lists.calls  t113 _ A2.out).mono ?_); rintro e w3 ⟨v114, rfl, ho0, hb⟩; refine ⟨_, rfl, ?_⟩; have n0_ := Aside0.mk (Kd.R_lower ho0 (below_size (by repeat (first | (with_reducible first | exact HB.out | apply below_alloc | apply pw_below_drewN | apply below_drew1) | exact HB.out)))); have n1_ := Aside0.mk (below_step (by repeat (first | (with_reducible first | exact HB.out | apply below_alloc | apply pw_below_drewN | apply below_drew1) | exact HB.out)) hb); clear HB; have HO115 := n0_; have HB := n1_; clear n0_ n1_; (try clear hb); (try clear hb2); (try clear hk); (try clear hi); (try clear ho0)))
  go_loopg [3, 4, 6] k (fun kq v3 v4 v6 w' => ∃ (x3_1 : Int) (x4_1 : Int) (x6_1 : Int), v3 = .int .i64 x3_1 ∧ v4 = .int .i64 x4_1 ∧ v6 = .int .i64 x6_1 ∧ Aside0 (decanterref11_Of.l0 kq a0 x3_1 x4_1 t113 x6_1 = some r) ∧ Aside0 (kq ≤ k) ∧ Aside0 (Kd.R Kd.string 9 w' w.heap.size (fun _ => True) v114 t113) ∧ Aside0 (Below w.heap.size w w'))
  case atStart => exact ⟨(0), (1), (0), (by first | rfl | (simp; done) | (simp [*]; done)), (by first | rfl | (simp; done) | (simp [*]; done)), (by first | rfl | (simp; done) | (simp [*]; done)), H', ⟨Nat.le_refl _⟩, ⟨by (with_reducible repeat (first | apply Kd.R_alloc | apply Kd.R_drewN | apply Kd.R_drew)); exact HO115.out⟩, ⟨by repeat (first | (with_reducible first | exact HB.out | apply below_alloc | apply pw_below_drewN | apply below_drew1) | exact HB.out)⟩⟩
  case round =>
    clear H'
    try clear c1
    try clear p2
    try clear c3
    obtain ⟨x3_1, x4_1, x6_1, rfl, rfl, rfl, HA, HK1, HO_5, HB⟩ := hrel
    cases gk with
    | zero => exact absurd HA.out (by simp [decanterref11_Of.l0])
    | succ k1 =>
      have H := HA.out
      clear HA
      simp only [decanterref11_Of.l0] at H
      by_cases c4 : x6_1 < (t113.length : Int)
      · rw [if_pos c4] at H
        have c4b0 : decide (x6_1 < (t113.length : Int)) = true := decide_eq_true c4
        clear c4
        replace H := Option.bind_eq_some_iff.mp H
        obtain ⟨t116, A50, H⟩ := H
        replace H : (if t116 = true then (decanterref11_Of.l0 k1 a0 (wrap64 (x3_1 + x4_1)) (wrap64 (x4_1 * 2)) t113 (wrap64 (x6_1 + 1))) else (decanterref11_Of.l0 k1 a0 x3_1 (wrap64 (x4_1 * 2)) t113 (wrap64 (x6_1 + 1)))) = some r := H
        have A5 := Aside0.mk A50
        clear A50
        by_cases c6 : t116 = true
        · subst c6
          have H1 : (decanterref11_Of.l0 k1 a0 (wrap64 (x3_1 + x4_1)) (wrap64 (x4_1 * 2)) t113 (wrap64 (x6_1 + 1))) = some r := by rw [if_pos rfl] at H; exact H
          clear H
          have H := H1
          clear H1
          have H' := Aside0.mk H
          clear H
          obtain ⟨Ao7, co7, eo7⟩ := Kd.R_slice HO_5.out
          subst eo7
          go_wp2_with (first | ((with_reducible refine gate_callee (f := 20) rfl ?_); refine goesL_ (some 16) rfl rfl Tryd.func20 (by kernel_rfl) rfl #[.string a0, .int .i64 x6_1] rfl (by (try simp only [List.map_toArray, List.map_cons, List.map_nil]); first | done | rfl | (simp only [List.length_drop, List.length_take]; rfl)) ?_; (with_reducible refine (decanterref11_Is.calls k1 a0 x6_1 true _ A5.out).mono ?_); rintro e w8 ⟨rfl, hb⟩; refine ⟨_, rfl, ?_⟩; have n0_ := Aside0.mk (Kd.R_below (by (with_reducible repeat (first | apply Kd.R_alloc | apply Kd.R_drewN | apply Kd.R_drew)); exact HO_5.out) hb); have n1_ := Aside0.mk (below_step (by repeat (first | (with_reducible first | exact HB.out | apply below_alloc | apply pw_below_drewN | apply below_drew1) | exact HB.out)) hb); clear HO_5; clear HB; have HO_5 := n0_; have HB := n1_; clear n0_ n1_; (try clear hb); (try clear hb2); (try clear hk); (try clear hi)))
          go_roundg k1
          case measure => have := HK1.out; omega
          case rel => exact ⟨(wrap64 (x3_1 + x4_1)), (wrap64 (x4_1 * 2)), (wrap64 (x6_1 + 1)), (by first | rfl | (simp; done) | (simp [*]; done)), (by first | rfl | (simp; done) | (simp [*]; done)), (by first | rfl | (simp; done) | (simp [*]; done)), H', ⟨by have := HK1.out; omega⟩, ⟨by (with_reducible repeat (first | apply Kd.R_alloc | apply Kd.R_drewN | apply Kd.R_drew)); exact HO_5.out⟩, ⟨by repeat (first | (with_reducible first | exact HB.out | apply below_alloc | apply pw_below_drewN | apply below_drew1) | exact HB.out)⟩⟩
        · replace c6 := Bool.eq_false_iff.mpr c6
          subst c6
          have H1 : (decanterref11_Of.l0 k1 a0 x3_1 (wrap64 (x4_1 * 2)) t113 (wrap64 (x6_1 + 1))) = some r := by rw [if_neg (show ¬ (false = true) by decide)] at H; exact H
          clear H
          have H := H1
          clear H1
          have H' := Aside0.mk H
          clear H
          obtain ⟨Ao9, co9, eo9⟩ := Kd.R_slice HO_5.out
          subst eo9
          go_wp2_with (first | ((with_reducible refine gate_callee (f := 20) rfl ?_); refine goesL_ (some 16) rfl rfl Tryd.func20 (by kernel_rfl) rfl #[.string a0, .int .i64 x6_1] rfl (by (try simp only [List.map_toArray, List.map_cons, List.map_nil]); first | done | rfl | (simp only [List.length_drop, List.length_take]; rfl)) ?_; (with_reducible refine (decanterref11_Is.calls k1 a0 x6_1 false _ A5.out).mono ?_); rintro e w10 ⟨rfl, hb⟩; refine ⟨_, rfl, ?_⟩; have n0_ := Aside0.mk (Kd.R_below (by (with_reducible repeat (first | apply Kd.R_alloc | apply Kd.R_drewN | apply Kd.R_drew)); exact HO_5.out) hb); have n1_ := Aside0.mk (below_step (by repeat (first | (with_reducible first | exact HB.out | apply below_alloc | apply pw_below_drewN | apply below_drew1) | exact HB.out)) hb); clear HO_5; clear HB; have HO_5 := n0_; have HB := n1_; clear n0_ n1_; (try clear hb); (try clear hb2); (try clear hk); (try clear hi)))
          go_roundg k1
          case measure => have := HK1.out; omega
          case rel => exact ⟨(x3_1), (wrap64 (x4_1 * 2)), (wrap64 (x6_1 + 1)), (by first | rfl | (simp; done) | (simp [*]; done)), (by first | rfl | (simp; done) | (simp [*]; done)), (by first | rfl | (simp; done) | (simp [*]; done)), H', ⟨by have := HK1.out; omega⟩, ⟨by (with_reducible repeat (first | apply Kd.R_alloc | apply Kd.R_drewN | apply Kd.R_drew)); exact HO_5.out⟩, ⟨by repeat (first | (with_reducible first | exact HB.out | apply below_alloc | apply pw_below_drewN | apply below_drew1) | exact HB.out)⟩⟩
      · rw [if_neg c4] at H
        have c4b0 : decide (x6_1 < (t113.length : Int)) = false := decide_eq_false c4
        clear c4
        obtain rfl := Option.some.inj H
        obtain ⟨Ao11, co11, eo11⟩ := Kd.R_slice HO_5.out
        subst eo11
        go_wp2
        go_ret
        exact ⟨by first | rfl | (simp [errW_none, errW_some] <;> rfl) | (simp [*, errW_none, errW_some] <;> rfl), by repeat (first | (with_reducible first | exact HB.out | apply below_alloc | apply pw_below_drewN | apply below_drew1) | exact HB.out)⟩

end Go.Proofs.YteahlapoeiikoaaDoor.P

/-
  The document's answer for chapter 11 (decanterref11), as plain functions of lists. No condition but sizes.
-/

namespace Go.Proofs.YteahlapoeiikoaaDoor.Pure
open Go.RowKit Go.Proofs.YteahlapoeiikoaaDoor.P Go.Proofs.YteahlapoeiikoaaDoorW.PrintWords Go.Proofs.YteahlapoeiikoaaDoorW.PrintLast

theorem wrap_id {i : Int} (h0 : -4611686018427387904 ≤ i) (h : i ≤ 4611686018427387904) : wrap64 i = i := by
  unfold wrap64; omega

theorem bt_get (s : ByteArray) (i : Nat) (h : i < s.size) : bt s (i : Int) = ((s.data.toList[i]'(by rw [← Lib.size_eq]; exact h)).toNat : Int) := by
  unfold bt
  rw [dif_pos (by simpa using h)]
  rfl

theorem data_append (a b : ByteArray) : (a ++ b).data.toList = a.data.toList ++ b.data.toList := by
  rw [ByteArray.data_append]; simp

/-- Is a name one word? -/
def oneB (x : ByteArray) : Bool := decide (0 < x.size) && x.data.toList.all (· != 32)

theorem u8_32 (c : UInt8) : ((c.toNat : Int) = 32) ↔ c = 32 := by
  constructor
  · intro h
    have : c.toNat = (32 : UInt8).toNat := by simpa using (by omega : c.toNat = 32)
    exact UInt8.toNat_inj.1 this
  · rintro rfl; rfl

theorem one_loop (x : ByteArray) (hx : x.size ≤ 4611686018427387903) (d : Nat) : ∀ (k i : Nat), i ≤ x.size → x.size - i = d → d < k →
    decanterref11_one.l0 k x (i : Int) = some (decide (0 < x.size) && (x.data.toList.drop i).all (· != 32)) := by
  induction d with
  | zero =>
    intro k i hi hd hk
    obtain ⟨k, rfl⟩ : ∃ m, k = m + 1 := ⟨k - 1, by omega⟩
    simp only [decanterref11_one.l0]
    rw [if_neg (by omega), List.drop_eq_nil_of_le (by rw [← Lib.size_eq]; omega)]
    have e : decide ((x.size : Int) > 0) = decide (0 < x.size) := by rw [decide_eq_decide]; omega
    rw [e]
    simp
  | succ d ih =>
    intro k i hi hd hk
    obtain ⟨k, rfl⟩ : ∃ m, k = m + 1 := ⟨k - 1, by omega⟩
    have hlt : i < x.size := by omega
    have hl : i < x.data.toList.length := by rw [← Lib.size_eq]; exact hlt
    simp only [decanterref11_one.l0]
    rw [if_pos (by omega), if_pos (by omega), bt_get x i hlt, List.drop_eq_getElem_cons hl, List.all_cons]
    have hih := ih k (i + 1) (by omega) (by omega) (by omega)
    rw [wrap_id (by omega) (by omega)]
    by_cases h : x.data.toList[i] = 32
    · rw [if_pos ((u8_32 _).2 h), h]
      simp
    · rw [if_neg (fun e => h ((u8_32 _).1 e))]
      have hb : (x.data.toList[i] != 32) = true := by simpa using h
      rw [hb, Bool.true_and]
      exact hih

theorem one_tells (x : ByteArray) (hx : x.size ≤ 4611686018427387903) (k : Nat) (hk : x.size < k) : decanterref11_one.f k x = some (oneB x) := by
  have := one_loop x hx x.size k 0 (by omega) (by omega) hk
  simpa [decanterref11_one.f, oneB] using this

/-- Does p stand in s at a place from i on? -/
def StandsFrom (s p : List UInt8) (i : Nat) : Prop := ∃ j, i ≤ j ∧ j + p.length ≤ s.length ∧ (s.drop j).take p.length = p

open Classical in
theorem in_loop (s p : ByteArray) (hs : s.size ≤ 1152921504606846976) (hp : p.size ≤ 1152921504606846976) (d : Nat) : ∀ (k i : Nat), i ≤ s.size + 1 → s.size + 1 - i = d → d < k →
    decanterref11_in.l0 k s p (i : Int) = some (decide (StandsFrom s.data.toList p.data.toList i)) := by
  induction d with
  | zero =>
    intro k i hi hd hk
    obtain ⟨k, rfl⟩ : ∃ m, k = m + 1 := ⟨k - 1, by omega⟩
    simp only [decanterref11_in.l0]
    rw [wrap_id (by omega) (by omega), if_neg (by omega)]
    have : ¬ StandsFrom s.data.toList p.data.toList i := by
      rintro ⟨j, h1, h2, _⟩
      rw [← Lib.size_eq, ← Lib.size_eq] at h2
      omega
    simp [this]
  | succ d ih =>
    intro k i hi hd hk
    obtain ⟨k, rfl⟩ : ∃ m, k = m + 1 := ⟨k - 1, by omega⟩
    have hih := ih k (i + 1) (by omega) (by omega) (by omega)
    simp only [decanterref11_in.l0]
    rw [wrap_id (by omega) (by omega), wrap_id (by omega) (by omega)]
    by_cases h : i + p.size ≤ s.size
    · rw [if_pos (by omega), if_pos (by omega), if_pos (by omega)]
      have e1 : ((i : Int) + (p.size : Int)).toNat = i + p.size := by omega
      have e2 : ((i : Int)).toNat = i := by omega
      rw [e1, e2, Lib.extract_toList, Lib.toList_data]
      have e3 : i + p.size - i = p.data.toList.length := by rw [← Lib.size_eq]; omega
      rw [e3]
      by_cases hc : (s.data.toList.drop i).take p.data.toList.length = p.data.toList
      · rw [if_pos hc]
        have : StandsFrom s.data.toList p.data.toList i := ⟨i, Nat.le_refl _, by rw [← Lib.size_eq, ← Lib.size_eq]; exact h, hc⟩
        simp [this]
      · rw [if_neg hc]
        have e4 : ((i : Int) + 1) = ((i + 1 : Nat) : Int) := by omega
        rw [e4, hih]
        congr 1
        rw [decide_eq_decide]
        constructor
        · rintro ⟨j, h1, h2, h3⟩; exact ⟨j, by omega, h2, h3⟩
        · rintro ⟨j, h1, h2, h3⟩
          refine ⟨j, ?_, h2, h3⟩
          rcases Nat.lt_or_ge i j with h4 | h4
          · omega
          · obtain rfl : j = i := by omega
            exact absurd h3 hc
    · rw [if_neg (by omega)]
      have : ¬ StandsFrom s.data.toList p.data.toList i := by
        rintro ⟨j, h1, h2, _⟩
        rw [← Lib.size_eq, ← Lib.size_eq] at h2
        omega
      simp [this]

theorem stands_infix (s p : List UInt8) : StandsFrom s p 0 ↔ p <:+: s := by
  constructor
  · rintro ⟨j, _, _, h3⟩
    refine ⟨s.take j, (s.drop j).drop p.length, ?_⟩
    have e : (s.drop j) = p ++ (s.drop j).drop p.length := by
      conv => lhs; rw [← List.take_append_drop p.length (s.drop j)]
      rw [h3]
    rw [List.append_assoc, ← e, List.take_append_drop]
  · rintro ⟨a, b, rfl⟩
    refine ⟨a.length, Nat.zero_le _, by simp, ?_⟩
    simp [List.append_assoc]

open Classical in
theorem in_tells (s p : ByteArray) (hs : s.size ≤ 1152921504606846976) (hp : p.size ≤ 1152921504606846976) (k : Nat) (hk : s.size + 1 < k) :
    decanterref11_in.f k s p = some (decide (p.data.toList <:+: s.data.toList)) := by
  have := in_loop s p hs hp (s.size + 1) k 0 (by omega) (by omega) hk
  rw [decanterref11_in.f]
  have e : (0 : Int) = ((0 : Nat) : Int) := rfl
  rw [e, this]
  congr 1
  rw [decide_eq_decide]
  exact stands_infix _ _

/-- Words with a blank behind each. -/
def joined (ws : List (List UInt8)) : List UInt8 := (ws.map (· ++ [32])).flatten
/-- Two words without blanks, each with a blank behind: one begins the other just if they are one. -/
theorem word_prefix {x w t : List UInt8} (hx : 32 ∉ x) (hw : 32 ∉ w) : x ++ [32] <+: w ++ 32 :: t ↔ x = w := by
  constructor
  · intro h
    induction x generalizing w with
    | nil =>
      cases w with
      | nil => rfl
      | cons c w =>
        obtain ⟨r, hr⟩ := h
        simp at hr
        exact absurd (by rw [hr.1]; simp) hw
    | cons c x ih =>
      cases w with
      | nil =>
        obtain ⟨r, hr⟩ := h
        simp at hr
        exact absurd (by rw [hr.1]; simp) hx
      | cons c' w =>
        obtain ⟨r, hr⟩ := h
        simp at hr
        obtain ⟨rfl, hr⟩ := hr
        have e := ih (w := w) (fun hm => hx (by simp [hm])) (fun hm => hw (by simp [hm])) ⟨r, by simpa using hr⟩
        rw [e]
  · rintro rfl
    exact ⟨t, by simp⟩

theorem infix_skip {p w t : List UInt8} (hw : 32 ∉ w) : (32 :: p) <:+: w ++ t ↔ (32 :: p) <:+: t := by
  induction w with
  | nil => rfl
  | cons c w ih =>
    rw [List.cons_append, List.infix_cons_iff, ih (fun h => hw (by simp [h]))]
    constructor
    · rintro (⟨r, hr⟩ | h)
      · simp at hr
        exact absurd (by rw [hr.1]; simp) hw
      · exact h
    · exact .inr

/-- A word with blanks around it stands in words with blanks around them, just if it is one of them. -/
theorem word_in {x : List UInt8} (hx : 32 ∉ x) : ∀ (ws : List (List UInt8)), (∀ w ∈ ws, 32 ∉ w) → ((32 :: (x ++ [32])) <:+: 32 :: joined ws ↔ x ∈ ws)
  | [], _ => by
    constructor
    · rintro ⟨a, b, h⟩
      have := congrArg List.length h
      simp [joined] at this
      omega
    · intro h; cases h
  | w :: ws, hw => by
    have ih := word_in hx ws (fun v hv => hw v (by simp [hv]))
    have e : joined (w :: ws) = w ++ 32 :: joined ws := by simp [joined]
    rw [List.infix_cons_iff, e, infix_skip (hw w (by simp)), ih, List.mem_cons]
    constructor
    · rintro (h | h)
      · exact .inl ((word_prefix hx (hw w (by simp))).1 ((List.prefix_cons_inj 32).1 h))
      · exact .inr h
    · rintro (h | h)
      · exact .inl ((List.prefix_cons_inj 32).2 ((word_prefix hx (hw w (by simp))).2 h))
      · exact .inr h
end Go.Proofs.YteahlapoeiikoaaDoor.Pure

/-
  The document's answer for chapter 11 (decanterref11): Is and Of, by the lists of words; and the program's table beside it. No condition but sizes.
-/

namespace Go.Proofs.YteahlapoeiikoaaDoor.Pure
open Go.RowKit Go.Proofs.YteahlapoeiikoaaDoor.P Go.Proofs.YteahlapoeiikoaaDoorW.PrintWords Go.Proofs.YteahlapoeiikoaaDoorW.PrintLast

/-- The names of the k-th list. -/
def words : Nat → List (List UInt8)
  | 0 => [[97, 114, 101, 97], [98, 97, 115, 101], [98, 97, 115, 101, 102, 111, 110, 116], [98, 103, 115, 111, 117, 110, 100], [98, 114], [101, 109, 98, 101, 100], [104, 114], [105, 109, 103], [105, 110, 112, 117, 116], [107, 101, 121, 103, 101, 110], [108, 105, 110, 107], [109, 101, 116, 97], [112, 97, 114, 97, 109], [115, 111, 117, 114, 99, 101], [116, 114, 97, 99, 107], [119, 98, 114]]
  | 1 => [[97, 100, 100, 114, 101, 115, 115], [97, 114, 116, 105, 99, 108, 101], [97, 115, 105, 100, 101], [98, 108, 111, 99, 107, 113, 117, 111, 116, 101], [99, 101, 110, 116, 101, 114], [100, 100], [100, 101, 116, 97, 105, 108, 115], [100, 105, 97, 108, 111, 103], [100, 105, 114], [100, 105, 118], [100, 108], [100, 116], [102, 105, 101, 108, 100, 115, 101, 116], [102, 105, 103, 99, 97, 112, 116, 105, 111, 110], [102, 105, 103, 117, 114, 101], [102, 111, 111, 116, 101, 114], [102, 111, 114, 109], [104, 49], [104, 50], [104, 51], [104, 52], [104, 53], [104, 54], [104, 101, 97, 100, 101, 114], [104, 103, 114, 111, 117, 112], [104, 114], [108, 105], [108, 105, 115, 116, 105, 110, 103], [109, 97, 105, 110], [109, 101, 110, 117], [110, 97, 118], [111, 108], [112], [112, 108, 97, 105, 110, 116, 101, 120, 116], [112, 114, 101], [115, 101, 99, 116, 105, 111, 110], [115, 117, 109, 109, 97, 114, 121], [116, 97, 98, 108, 101], [117, 108], [120, 109, 112]]
  | 2 => [[104, 49], [104, 50], [104, 51], [104, 52], [104, 53], [104, 54]]
  | 3 => [[97], [98], [98, 105, 103], [99, 111, 100, 101], [101, 109], [102, 111, 110, 116], [105], [110, 111, 98, 114], [115], [115, 109, 97, 108, 108], [115, 116, 114, 105, 107, 101], [115, 116, 114, 111, 110, 103], [116, 116], [117]]
  | 4 => [[97, 100, 100, 114, 101, 115, 115], [97, 112, 112, 108, 101, 116], [97, 114, 101, 97], [97, 114, 116, 105, 99, 108, 101], [97, 115, 105, 100, 101], [98, 97, 115, 101], [98, 97, 115, 101, 102, 111, 110, 116], [98, 103, 115, 111, 117, 110, 100], [98, 108, 111, 99, 107, 113, 117, 111, 116, 101], [98, 114], [98, 117, 116, 116, 111, 110], [99, 101, 110, 116, 101, 114], [100, 100], [100, 101, 116, 97, 105, 108, 115], [100, 105, 114], [100, 105, 118], [100, 108], [100, 116], [101, 109, 98, 101, 100], [102, 105, 101, 108, 100, 115, 101, 116], [102, 105, 103, 99, 97, 112, 116, 105, 111, 110], [102, 105, 103, 117, 114, 101], [102, 111, 111, 116, 101, 114], [102, 111, 114, 109], [104, 49], [104, 50], [104, 51], [104, 52], [104, 53], [104, 54], [104, 101, 97, 100, 101, 114], [104, 103, 114, 111, 117, 112], [104, 114], [105, 102, 114, 97, 109, 101], [105, 109, 103], [105, 110, 112, 117, 116], [107, 101, 121, 103, 101, 110], [108, 105], [108, 105, 110, 107], [108, 105, 115, 116, 105, 110, 103], [109, 97, 105, 110], [109, 97, 114, 113, 117, 101, 101], [109, 101, 110, 117], [109, 101, 116, 97], [110, 97, 118], [110, 111, 101, 109, 98, 101, 100], [110, 111, 102, 114, 97, 109, 101, 115], [111, 98, 106, 101, 99, 116], [111, 108], [112], [112, 97, 114, 97, 109], [112, 108, 97, 105, 110, 116, 101, 120, 116], [112, 114, 101], [115, 99, 114, 105, 112, 116], [115, 101, 99, 116, 105, 111, 110], [115, 101, 108, 101, 99, 116], [115, 111, 117, 114, 99, 101], [115, 116, 121, 108, 101], [115, 117, 109, 109, 97, 114, 121], [116, 97, 98, 108, 101], [116, 101, 109, 112, 108, 97, 116, 101], [116, 101, 120, 116, 97, 114, 101, 97], [116, 105, 116, 108, 101], [116, 114, 97, 99, 107], [117, 108], [119, 98, 114], [120, 109, 112]]
  | 5 => [[97, 112, 112, 108, 101, 116], [109, 97, 114, 113, 117, 101, 101], [111, 98, 106, 101, 99, 116], [116, 97, 98, 108, 101], [116, 101, 109, 112, 108, 97, 116, 101]]
  | 6 => [[98, 111, 100, 121], [99, 97, 112, 116, 105, 111, 110], [99, 111, 108], [99, 111, 108, 103, 114, 111, 117, 112], [102, 114, 97, 109, 101], [102, 114, 97, 109, 101, 115, 101, 116], [104, 101, 97, 100], [104, 116, 109, 108], [116, 98, 111, 100, 121], [116, 100], [116, 102, 111, 111, 116], [116, 104], [116, 104, 101, 97, 100], [116, 114]]
  | 7 => [[100, 100], [100, 116], [108, 105], [111, 112, 116, 103, 114, 111, 117, 112], [111, 112, 116, 105, 111, 110], [112], [114, 98], [114, 112], [114, 116], [114, 116, 99]]
  | 8 => [[97, 112, 112, 108, 101, 116], [109, 97, 114, 113, 117, 101, 101], [111, 98, 106, 101, 99, 116]]
  | 9 => [[97], [97, 98, 98, 114], [97, 100, 100, 114, 101, 115, 115], [97, 114, 116, 105, 99, 108, 101], [97, 115, 105, 100, 101], [98], [98, 100, 105], [98, 100, 111], [98, 105, 103], [98, 108, 111, 99, 107, 113, 117, 111, 116, 101], [98, 114], [99, 101, 110, 116, 101, 114], [99, 105, 116, 101], [99, 111, 100, 101], [100, 100], [100, 101, 108], [100, 102, 110], [100, 105, 114], [100, 105, 118], [100, 108], [100, 116], [101, 109], [102, 105, 103, 99, 97, 112, 116, 105, 111, 110], [102, 105, 103, 117, 114, 101], [102, 111, 110, 116], [102, 111, 111, 116, 101, 114], [104, 49], [104, 50], [104, 51], [104, 52], [104, 53], [104, 54], [104, 101, 97, 100, 101, 114], [104, 114], [105], [105, 109, 103], [105, 110, 115], [107, 98, 100], [108, 105], [109, 97, 105, 110], [109, 97, 114, 107], [110, 97, 118], [111, 108], [112], [112, 114, 101], [113], [115], [115, 97, 109, 112], [115, 101, 99, 116, 105, 111, 110], [115, 109, 97, 108, 108], [115, 112, 97, 110], [115, 116, 114, 105, 107, 101], [115, 116, 114, 111, 110, 103], [115, 117, 98], [115, 117, 112], [116, 105, 109, 101], [116, 116], [117], [117, 108], [118, 97, 114], [119, 98, 114]]
  | _ => []

/-- The document's lists. -/
def refL : List ByteArray := (decanterref11_Lists.f).getD []
theorem lists_eq : decanterref11_Lists.f = some refL := rfl
set_option maxRecDepth 100000 in
theorem refL_len : refL.length = 10 := by decide +kernel
set_option maxRecDepth 100000 in
theorem refL_at : ∀ i : Fin 10, ((refL.getD i.1 ByteArray.empty).data.toList = 32 :: joined (words i.1)) ∧ (refL.getD i.1 ByteArray.empty).size ≤ 600 := by decide +kernel
set_option maxRecDepth 100000 in
theorem words_plain : ∀ i : Fin 10, ∀ w ∈ words i.1, (32 : UInt8) ∉ w ∧ w ≠ [] := by decide +kernel

/-- What lists i, .., i + d - 1 give to a name. -/
def sumF : Nat → Nat → List UInt8 → Int
  | 0, _, _ => 0
  | d + 1, i, l => (if l ∈ words i then 2 ^ i else 0) + sumF d (i + 1) l

set_option maxRecDepth 100000 in
theorem tab_sum : ∀ p ∈ ktab, p.2 = sumF 10 0 p.1 := by decide +kernel
set_option maxRecDepth 100000 in
theorem words_tab : ∀ i : Fin 10, ∀ w ∈ words i.1, ktab.any (fun p => p.1 == w) = true := by decide +kernel

theorem words_ge (i : Nat) (h : 10 ≤ i) : words i = [] := by
  unfold words
  split <;> first | omega | rfl

theorem not_words {l : List UInt8} (h : ktab.find? (fun p => p.1 == l) = none) (i : Nat) : l ∉ words i := by
  intro hm
  by_cases hi : i < 10
  · have h1 := words_tab ⟨i, hi⟩ l hm
    rw [List.any_eq_true] at h1
    obtain ⟨p, hp, he⟩ := h1
    have := List.find?_eq_none.1 h p hp
    exact this he
  · rw [words_ge i (by omega)] at hm
    cases hm

theorem sumF_none {l : List UInt8} (h : ∀ i, l ∉ words i) : ∀ d i, sumF d i l = 0
  | 0, _ => rfl
  | d + 1, i => by rw [sumF, if_neg (h i), sumF_none h d (i + 1)]; rfl

theorem kind_sum (x : ByteArray) : kindOf x = sumF 10 0 x.data.toList := by
  unfold kindOf
  cases h : ktab.find? (fun p => p.1 == x.data.toList) with
  | none => exact (sumF_none (not_words h) 10 0).symm
  | some p =>
    have h1 := List.mem_of_find?_eq_some h
    have h2 := List.find?_some h
    have h3 : p.1 = x.data.toList := by simpa using h2
    rw [← h3]
    exact tab_sum p h1

theorem sumF_range : ∀ d i l, 0 ≤ sumF d i l ∧ sumF d i l ≤ 2 ^ (i + d) - 2 ^ i
  | 0, i, l => by simp [sumF]
  | d + 1, i, l => by
    have ih := sumF_range d (i + 1) l
    have e1 : (2 : Int) ^ (i + 1) = 2 * 2 ^ i := by rw [Int.pow_succ]; omega
    have e2 : i + 1 + d = i + (d + 1) := by omega
    have e3 : (0 : Int) < 2 ^ i := Int.pow_pos (by decide)
    rw [e2] at ih
    rw [sumF]
    split <;> omega

theorem kind_range (x : ByteArray) : 0 ≤ kindOf x ∧ kindOf x ≤ 1023 := by
  rw [kind_sum]
  have := sumF_range 10 0 x.data.toList
  simpa using this

theorem one_word {x : ByteArray} (h : oneB x = true) : 0 < x.size ∧ (32 : UInt8) ∉ x.data.toList := by
  unfold oneB at h
  rw [Bool.and_eq_true, decide_eq_true_eq, List.all_eq_true] at h
  exact ⟨h.1, fun hm => by simpa using h.2 32 hm⟩

theorem refIs (x : ByteArray) (hx : x.size ≤ 1152921504606846000) (i : Nat) (hi : i < 10) (k : Nat) (hk : x.size + 1000 ≤ k) :
    decanterref11_Is.f k x (i : Int) = some (decide (x.data.toList ∈ words i)) := by
  obtain ⟨hL, hS⟩ := refL_at ⟨i, hi⟩
  dsimp only at hL hS
  rw [decanterref11_Is.f, one_tells x (by omega) k (by omega)]
  simp only [Option.bind_some]
  cases h1 : oneB x with
  | false =>
    rw [if_neg (by decide)]
    have : x.data.toList ∉ words i := by
      intro hm
      have h2 := words_plain ⟨i, hi⟩ _ hm
      have h3 : oneB x = true := by
        unfold oneB
        rw [Bool.and_eq_true, decide_eq_true_eq, List.all_eq_true]
        refine ⟨?_, fun c hc => ?_⟩
        · rw [Lib.size_eq]
          exact List.length_pos_iff.2 h2.2
        · have : c ≠ 32 := fun e => h2.1 (e ▸ hc)
          simpa using this
      rw [h1] at h3
      cases h3
    simp [this]
  | true =>
    obtain ⟨h0, h32⟩ := one_word h1
    have e32 : (⟨#[32]⟩ : ByteArray).size = 1 := rfl
    rw [if_pos rfl, lists_eq]
    simp only [Option.bind_some]
    rw [if_pos (by omega), if_pos (by rw [refL_len]; omega), if_pos (by omega), if_pos (by rw [ByteArray.size_append, e32]; omega)]
    have er : rdOf ByteArray.empty refL (i : Int) = refL.getD i ByteArray.empty := by unfold rdOf; rw [Int.toNat_natCast]
    rw [er, in_tells _ _ (by omega) (by rw [ByteArray.size_append, ByteArray.size_append, e32]; omega) k (by omega)]
    simp only [Option.bind_some]
    congr 1
    rw [decide_eq_decide, data_append, data_append, hL]
    exact word_in h32 (words i) (fun w hw => (words_plain ⟨i, hi⟩ w hw).1)

theorem refOf_loop (x : ByteArray) (hx : x.size ≤ 1152921504606846000) (d : Nat) : ∀ (k i : Nat) (n : Int), i + d = 10 → 0 ≤ n → n < 2 ^ i → x.size + 1000 + d < k →
    decanterref11_Of.l0 k x n (2 ^ i) refL (i : Int) = some (n + sumF d i x.data.toList) := by
  induction d with
  | zero =>
    intro k i n hi h0 h1 hk
    obtain ⟨k, rfl⟩ : ∃ m, k = m + 1 := ⟨k - 1, by omega⟩
    simp only [decanterref11_Of.l0]
    rw [if_neg (by rw [refL_len]; omega), sumF, Int.add_zero]
  | succ d ih =>
    intro k i n hi h0 h1 hk
    obtain ⟨k, rfl⟩ : ∃ m, k = m + 1 := ⟨k - 1, by omega⟩
    have hp : (2 : Int) ^ i ≤ 512 := by
      have : i ≤ 9 := by omega
      match i, this with
      | 0, _ | 1, _ | 2, _ | 3, _ | 4, _ | 5, _ | 6, _ | 7, _ | 8, _ | 9, _ => decide
    have hq : (0 : Int) < 2 ^ i := Int.pow_pos (by decide)
    have e1 : (2 : Int) ^ i * 2 = 2 ^ (i + 1) := (Int.pow_succ _ _).symm
    have e2 : ((i : Int) + 1) = ((i + 1 : Nat) : Int) := by omega
    simp only [decanterref11_Of.l0]
    rw [if_pos (by rw [refL_len]; omega), refIs x hx i (by omega) k (by omega)]
    simp only [Option.bind_some]
    rw [wrap_id (by omega) (by omega), wrap_id (by omega) (by omega), wrap_id (by omega) (by omega), e1, e2, sumF]
    by_cases hm : x.data.toList ∈ words i
    · rw [if_pos (by simpa using hm), if_pos hm, ih k (i + 1) (n + 2 ^ i) (by omega) (by omega) (by omega) (by omega)]
      congr 1
      omega
    · rw [if_neg (by simpa using hm), if_neg hm, ih k (i + 1) n (by omega) (by omega) (by omega) (by omega)]
      congr 1
      omega

theorem refOf (x : ByteArray) (hx : x.size ≤ 1152921504606846000) (k : Nat) (hk : x.size + 1020 ≤ k) : decanterref11_Of.f k x = some (kindOf x) := by
  rw [decanterref11_Of.f, lists_eq]
  simp only [Option.bind_some]
  have := refOf_loop x hx 10 k 0 0 (by omega) (by omega) (by decide) (by omega)
  rw [kind_sum]
  simpa using this
end Go.Proofs.YteahlapoeiikoaaDoor.Pure


-- Printed by a program of this session (wip/myprint.py over the kit's print).
namespace Go.Proofs.YteahlapoeiikoaaDoor.P
open Go.RowKit Go.Proofs.YteahlapoeiikoaaDoorW.PrintWords Go.Proofs.YteahlapoeiikoaaDoorW.PrintLast Go.Proofs.YteahlapoeiikoaaDoorW.PrintMore
attribute [local go_sem] max2_int min2_int max_two min_two max_three min_three max_four min_four   -- for this text's walks alone
set_option linter.unusedVariables false
set_option linter.unusedSimpArgs false

/-! ### decanterlaw11_KindTells: function 3 -/
def decanterlaw11_KindTells.j0 : Nat → ByteArray → Int → Bool → Option (Bool)
  | 0, _, _, _ => none
  | k + 1, x0, x1, x12 => if x12 = true then ((decanterlaw11_speaks.f).bind fun t118 => (some t118)) else ((decanterref11_Of.f k x0).bind fun t119 => ((kind_Of.f x0).bind fun t120 => (if t120 = t119 then ((kind_Is.f x0 x1).bind fun t121 => (some (t121 == ((Go.bits .and .i64 t119 x1) != 0)))) else (some false))))
def decanterlaw11_KindTells.f (k : Nat) (a0 : ByteArray) (a1 : Int) : Option (Bool) := (decanterlaw11_speaks.f).bind fun t117 => (if t117 = true then (decanterlaw11_KindTells.j0 k a0 a1 (decide ((a0.size : Int) > 60))) else (decanterlaw11_KindTells.j0 k a0 a1 true))
theorem decanterlaw11_KindTells.mono_l : ∀ k, (∀ y0 y1 y2, LeO (decanterlaw11_KindTells.j0 k y0 y1 y2) (decanterlaw11_KindTells.j0 (k + 1) y0 y1 y2))
  | 0 => fun _ _ _ r h => by simp [decanterlaw11_KindTells.j0] at h
  | k + 1 => by
    have ih0 := decanterlaw11_KindTells.mono_l k
    · intro y0 y1 y2
      unfold decanterlaw11_KindTells.j0
      repeat' first
      | (with_reducible exact ih0 _ _ _)
      | (with_reducible exact decanterref11_Of.mono _ _)
      | (with_reducible exact LeO.refl _)
      | (with_reducible exact LeO.none _)
      | (with_reducible refine LeO.ite ?_ ?_)
      | (with_reducible refine LeO.bind ?_ (fun _ => ?_))
      | exact ih0 _ _ _
      | exact decanterref11_Of.mono _ _
      | exact LeO.none _
      | refine LeO.ite ?_ ?_
      | refine LeO.bind ?_ (fun _ => ?_)
theorem decanterlaw11_KindTells.mono : ∀ a0 a1 k, LeO (decanterlaw11_KindTells.f k a0 a1) (decanterlaw11_KindTells.f (k + 1) a0 a1) := by
  intro a0 a1 k
  have ih0 := decanterlaw11_KindTells.mono_l k
  unfold decanterlaw11_KindTells.f
  repeat' first
      | (with_reducible exact ih0 _ _ _)
      | (with_reducible exact decanterref11_Of.mono _ _)
      | (with_reducible exact LeO.refl _)
      | (with_reducible exact LeO.none _)
      | (with_reducible refine LeO.ite ?_ ?_)
      | (with_reducible refine LeO.bind ?_ (fun _ => ?_))
      | exact ih0 _ _ _
      | exact decanterref11_Of.mono _ _
      | exact LeO.none _
      | refine LeO.ite ?_ ?_
      | refine LeO.bind ?_ (fun _ => ?_)
set_option maxHeartbeats 8000000 in
set_option maxRecDepth 100000 in
theorem decanterlaw11_KindTells.calls (k : Nat) (a0 : ByteArray) (a1 : Int) (r : Bool) (w : World) (hG : GW w) (h : decanterlaw11_KindTells.f k a0 a1 = some r) :
    Calls Tryd.prog 3 #[.string a0, .int .i64 a1] w fun e w' => e = .returned (.bool r) ∧ Below w.heap.size w w' := by
  have HG := Aside0.mk hG
  clear hG
  have HB := Aside0.mk (Below.refl w.heap.size w)
  have H : ((decanterlaw11_speaks.f).bind fun t117 => (if t117 = true then (decanterlaw11_KindTells.j0 k a0 a1 (decide ((a0.size : Int) > 60))) else (decanterlaw11_KindTells.j0 k a0 a1 true))) = some r := h
  clear h
  have HC3 := Aside0.mk H
  clear H
  go_enter Tryd.func3, Tryd.ntmps3
  go_upto_region 1 with (fail)
  go_cut [12] (fun v12 wc => ∃ (kq : Nat) (x12_2 : Bool), v12 = .bool x12_2 ∧ Aside0 (decanterlaw11_KindTells.j0 kq a0 a1 x12_2 = some r) ∧ Aside0 (kq ≤ k) ∧ Aside0 (Below w.heap.size w wc))
  case first =>
    have H := HC3.out
    clear HC3
    replace H := Option.bind_eq_some_iff.mp H
    obtain ⟨t117, A40, H⟩ := H
    replace H : (if t117 = true then (decanterlaw11_KindTells.j0 k a0 a1 (decide ((a0.size : Int) > 60))) else (decanterlaw11_KindTells.j0 k a0 a1 true)) = some r := H
    have A4 := Aside0.mk A40
    clear A40
    by_cases c5 : t117 = true
    · subst c5
      have H1 : (decanterlaw11_KindTells.j0 k a0 a1 (decide ((a0.size : Int) > 60))) = some r := by rw [if_pos rfl] at H; exact H
      clear H
      have H := H1
      clear H1
      have H' := Aside0.mk H
      clear H
      go_wp2_with (first | ((with_reducible refine gate_callee (f := 13) rfl ?_); refine goesL_ (some 6) rfl rfl Tryd.func13 (by kernel_rfl) rfl #[] rfl (by (try simp only [List.map_toArray, List.map_cons, List.map_nil]); first | done | rfl | (simp only [List.length_drop, List.length_take]; rfl)) ?_; (with_reducible refine (decanterlaw11_speaks.calls  true _ ?side1 A4.out).mono ?_); (case side1 => exact GW.below HG.out (by repeat (first | (with_reducible first | exact HB.out | apply below_alloc | apply pw_below_drewN | apply below_drew1) | exact HB.out))); rintro e w6 ⟨rfl, hb⟩; refine ⟨_, rfl, ?_⟩; have n0_ := Aside0.mk (below_step (by repeat (first | (with_reducible first | exact HB.out | apply below_alloc | apply pw_below_drewN | apply below_drew1) | exact HB.out)) hb); clear HB; have HB := n0_; clear n0_; (try clear hb); (try clear hb2); (try clear hk); (try clear hi)))
      go_meet
      case rel => exact ⟨_, (decide ((a0.size : Int) > 60)), (by first | rfl | (simp; done) | (simp [*]; done)), H', ⟨by first | omega | exact Nat.le_refl _⟩, ⟨by repeat (first | (with_reducible first | exact HB.out | apply below_alloc | apply pw_below_drewN | apply below_drew1) | exact HB.out)⟩⟩
    · replace c5 := Bool.eq_false_iff.mpr c5
      subst c5
      have H1 : (decanterlaw11_KindTells.j0 k a0 a1 true) = some r := by rw [if_neg (show ¬ (false = true) by decide)] at H; exact H
      clear H
      have H := H1
      clear H1
      have H' := Aside0.mk H
      clear H
      go_wp2_with (first | ((with_reducible refine gate_callee (f := 13) rfl ?_); refine goesL_ (some 6) rfl rfl Tryd.func13 (by kernel_rfl) rfl #[] rfl (by (try simp only [List.map_toArray, List.map_cons, List.map_nil]); first | done | rfl | (simp only [List.length_drop, List.length_take]; rfl)) ?_; (with_reducible refine (decanterlaw11_speaks.calls  false _ ?side1 A4.out).mono ?_); (case side1 => exact GW.below HG.out (by repeat (first | (with_reducible first | exact HB.out | apply below_alloc | apply pw_below_drewN | apply below_drew1) | exact HB.out))); rintro e w7 ⟨rfl, hb⟩; refine ⟨_, rfl, ?_⟩; have n0_ := Aside0.mk (below_step (by repeat (first | (with_reducible first | exact HB.out | apply below_alloc | apply pw_below_drewN | apply below_drew1) | exact HB.out)) hb); clear HB; have HB := n0_; clear n0_; (try clear hb); (try clear hb2); (try clear hk); (try clear hi)))
      go_meet
      case rel => exact ⟨_, (true), (by first | rfl | (simp; done) | (simp [*]; done)), H', ⟨by first | omega | exact Nat.le_refl _⟩, ⟨by repeat (first | (with_reducible first | exact HB.out | apply below_alloc | apply pw_below_drewN | apply below_drew1) | exact HB.out)⟩⟩
  case rest =>
    clear HC3
    try clear c1
    try clear p2
    try clear c3
    try clear c5
    obtain ⟨kq, x12_2, rfl, HA, HJ2, HB⟩ := hcut
    cases kq with
    | zero => exact absurd HA.out (by simp [decanterlaw11_KindTells.j0])
    | succ kj2 =>
      have H := HA.out
      clear HA
      simp only [decanterlaw11_KindTells.j0] at H
      by_cases c8 : x12_2 = true
      · subst c8
        have H1 : ((decanterlaw11_speaks.f).bind fun t118 => (some t118)) = some r := by rw [if_pos rfl] at H; exact H
        clear H
        have H := H1
        clear H1
        replace H := Option.bind_eq_some_iff.mp H
        obtain ⟨t118, A90, H⟩ := H
        replace H : (some t118) = some r := H
        have A9 := Aside0.mk A90
        clear A90
        obtain rfl := Option.some.inj H
        go_wp2_with (first | ((with_reducible refine gate_callee (f := 13) rfl ?_); refine goesL_ (some 13) rfl rfl Tryd.func13 (by kernel_rfl) rfl #[] rfl (by (try simp only [List.map_toArray, List.map_cons, List.map_nil]); first | done | rfl | (simp only [List.length_drop, List.length_take]; rfl)) ?_; (with_reducible refine (decanterlaw11_speaks.calls  t118 _ ?side1 A9.out).mono ?_); (case side1 => exact GW.below HG.out (by repeat (first | (with_reducible first | exact HB.out | apply below_alloc | apply pw_below_drewN | apply below_drew1) | exact HB.out))); rintro e w10 ⟨rfl, hb⟩; refine ⟨_, rfl, ?_⟩; have n0_ := Aside0.mk (below_step (by repeat (first | (with_reducible first | exact HB.out | apply below_alloc | apply pw_below_drewN | apply below_drew1) | exact HB.out)) hb); clear HB; have HB := n0_; clear n0_; (try clear hb); (try clear hb2); (try clear hk); (try clear hi)))
        go_ret
        exact ⟨by first | rfl | (simp [errW_none, errW_some] <;> rfl) | (simp [*, errW_none, errW_some] <;> rfl), by repeat (first | (with_reducible first | exact HB.out | apply below_alloc | apply pw_below_drewN | apply below_drew1) | exact HB.out)⟩
      · replace c8 := Bool.eq_false_iff.mpr c8
        subst c8
        have H1 : ((decanterref11_Of.f kj2 a0).bind fun t119 => ((kind_Of.f a0).bind fun t120 => (if t120 = t119 then ((kind_Is.f a0 a1).bind fun t121 => (some (t121 == ((Go.bits .and .i64 t119 a1) != 0)))) else (some false)))) = some r := by rw [if_neg (show ¬ (false = true) by decide)] at H; exact H
        clear H
        have H := H1
        clear H1
        replace H := Option.bind_eq_some_iff.mp H
        obtain ⟨t119, A110, H⟩ := H
        replace H : ((kind_Of.f a0).bind fun t120 => (if t120 = t119 then ((kind_Is.f a0 a1).bind fun t121 => (some (t121 == ((Go.bits .and .i64 t119 a1) != 0)))) else (some false))) = some r := H
        have A11 := Aside0.mk A110
        clear A110
        replace H := Option.bind_eq_some_iff.mp H
        obtain ⟨t120, A120, H⟩ := H
        replace H : (if t120 = t119 then ((kind_Is.f a0 a1).bind fun t121 => (some (t121 == ((Go.bits .and .i64 t119 a1) != 0)))) else (some false)) = some r := H
        have A12 := Aside0.mk A120
        clear A120
        by_cases c13 : t120 = t119
        · rw [if_pos c13] at H
          have c13b0 : (t120 == t119) = true := beq_iff_eq.mpr c13
          have c13b1 : (t120 != t119) = false := bne_eq_false_iff_eq.mpr c13
          clear c13
          replace H := Option.bind_eq_some_iff.mp H
          obtain ⟨t121, A140, H⟩ := H
          replace H : (some (t121 == ((Go.bits .and .i64 t119 a1) != 0))) = some r := H
          have A14 := Aside0.mk A140
          clear A140
          obtain rfl := Option.some.inj H
          go_wp2_with (first | ((with_reducible refine gate_callee (f := 14) rfl ?_); refine goesL_ (some 15) rfl rfl Tryd.func14 (by kernel_rfl) rfl #[.string a0] rfl (by (try simp only [List.map_toArray, List.map_cons, List.map_nil]); first | done | rfl | (simp only [List.length_drop, List.length_take]; rfl)) ?_; (with_reducible refine (decanterref11_Of.calls kj2 a0 t119 _ A11.out).mono ?_); rintro e w15 ⟨rfl, hb⟩; refine ⟨_, rfl, ?_⟩; have n0_ := Aside0.mk (below_step (by repeat (first | (with_reducible first | exact HB.out | apply below_alloc | apply pw_below_drewN | apply below_drew1) | exact HB.out)) hb); clear HB; have HB := n0_; clear n0_; (try clear hb); (try clear hb2); (try clear hk); (try clear hi)) | ((with_reducible refine gate_callee (f := 15) rfl ?_); refine goesL_ (some 17) rfl rfl Tryd.func15 (by kernel_rfl) rfl #[.string a0] rfl (by (try simp only [List.map_toArray, List.map_cons, List.map_nil]); first | done | rfl | (simp only [List.length_drop, List.length_take]; rfl)) ?_; (with_reducible refine (kind_Of.calls a0 t120 _ ?side1 A12.out).mono ?_); (case side1 => exact GW.below HG.out (by repeat (first | (with_reducible first | exact HB.out | apply below_alloc | apply pw_below_drewN | apply below_drew1) | exact HB.out))); rintro e w16 ⟨rfl, hb⟩; refine ⟨_, rfl, ?_⟩; have n0_ := Aside0.mk (below_step (by repeat (first | (with_reducible first | exact HB.out | apply below_alloc | apply pw_below_drewN | apply below_drew1) | exact HB.out)) hb); clear HB; have HB := n0_; clear n0_; (try clear hb); (try clear hb2); (try clear hk); (try clear hi)) | (go_at_call 16; (with_reducible refine (kind_Is.calls a0 a1 t121 _ ?side1 A14.out).mono ?_); (case side1 => exact GW.below HG.out (by repeat (first | (with_reducible first | exact HB.out | apply below_alloc | apply pw_below_drewN | apply below_drew1) | exact HB.out))); rintro e w17 ⟨rfl, hb⟩; have n0_ := Aside0.mk (below_step (by repeat (first | (with_reducible first | exact HB.out | apply below_alloc | apply pw_below_drewN | apply below_drew1) | exact HB.out)) hb); clear HB; have HB := n0_; clear n0_; (try clear hb); (try clear hb2); (try clear hk); (try clear hi)))
          go_ret
          exact ⟨by first | rfl | (simp [errW_none, errW_some] <;> rfl) | (simp [*, errW_none, errW_some] <;> rfl), by repeat (first | (with_reducible first | exact HB.out | apply below_alloc | apply pw_below_drewN | apply below_drew1) | exact HB.out)⟩
        · rw [if_neg c13] at H
          have c13b0 : (t120 == t119) = false := beq_eq_false_iff_ne.mpr c13
          have c13b1 : (t120 != t119) = true := bne_iff_ne.mpr c13
          obtain rfl := Option.some.inj H
          go_wp2_with (first | ((with_reducible refine gate_callee (f := 14) rfl ?_); refine goesL_ (some 15) rfl rfl Tryd.func14 (by kernel_rfl) rfl #[.string a0] rfl (by (try simp only [List.map_toArray, List.map_cons, List.map_nil]); first | done | rfl | (simp only [List.length_drop, List.length_take]; rfl)) ?_; (with_reducible refine (decanterref11_Of.calls kj2 a0 t119 _ A11.out).mono ?_); rintro e w18 ⟨rfl, hb⟩; refine ⟨_, rfl, ?_⟩; have n0_ := Aside0.mk (below_step (by repeat (first | (with_reducible first | exact HB.out | apply below_alloc | apply pw_below_drewN | apply below_drew1) | exact HB.out)) hb); clear HB; have HB := n0_; clear n0_; (try clear hb); (try clear hb2); (try clear hk); (try clear hi)) | ((with_reducible refine gate_callee (f := 15) rfl ?_); refine goesL_ (some 17) rfl rfl Tryd.func15 (by kernel_rfl) rfl #[.string a0] rfl (by (try simp only [List.map_toArray, List.map_cons, List.map_nil]); first | done | rfl | (simp only [List.length_drop, List.length_take]; rfl)) ?_; (with_reducible refine (kind_Of.calls a0 t120 _ ?side1 A12.out).mono ?_); (case side1 => exact GW.below HG.out (by repeat (first | (with_reducible first | exact HB.out | apply below_alloc | apply pw_below_drewN | apply below_drew1) | exact HB.out))); rintro e w19 ⟨rfl, hb⟩; refine ⟨_, rfl, ?_⟩; have n0_ := Aside0.mk (below_step (by repeat (first | (with_reducible first | exact HB.out | apply below_alloc | apply pw_below_drewN | apply below_drew1) | exact HB.out)) hb); clear HB; have HB := n0_; clear n0_; (try clear hb); (try clear hb2); (try clear hk); (try clear hi)))
          go_ret
          exact ⟨by first | rfl | (simp [errW_none, errW_some] <;> rfl) | (simp [*, errW_none, errW_some] <;> rfl), by repeat (first | (with_reducible first | exact HB.out | apply below_alloc | apply pw_below_drewN | apply below_drew1) | exact HB.out)⟩

end Go.Proofs.YteahlapoeiikoaaDoor.P

/-
  KindTells, about plain functions: whatever the name and the kinds, the law's function answers true. Condition: the name is no longer than a string can be.
-/

namespace Go.Proofs.YteahlapoeiikoaaDoor.Pure
open Go.RowKit Go.Proofs.YteahlapoeiikoaaDoor.P Go.Proofs.YteahlapoeiikoaaDoorW.PrintWords Go.Proofs.YteahlapoeiikoaaDoorW.PrintLast

theorem and_small (n a : Int) (h0 : 0 ≤ n) (h1 : n ≤ 1023) : Go.bits .and .i64 n a = ((n.toNat &&& (BitVec.ofInt 64 a).toNat : Nat) : Int) := by
  have hn : (BitVec.ofInt 64 n).toNat = n.toNat := by
    rw [BitVec.toNat_ofInt]
    have : n % ((2 : Int) ^ 64) = n := Int.emod_eq_of_lt h0 (by omega)
    rw [show ((2 ^ 64 : Nat) : Int) = (2 : Int) ^ 64 by norm_cast, this]
  have hb : n.toNat &&& (BitVec.ofInt 64 a).toNat ≤ n.toNat := Nat.and_le_left
  have hd : Go.bits .and .i64 n a = IntKind.i64.wrap ((BitVec.ofInt 64 n &&& BitVec.ofInt 64 a).toNat : Int) := rfl
  rw [hd, BitVec.toNat_and, hn]
  have hw : ∀ m : Int, 0 ≤ m → m ≤ 1023 → IntKind.i64.wrap m = m := by
    intro m h2 h3
    rw [i64_w]
    unfold wrap64
    omega
  exact hw _ (by omega) (by omega)

theorem and_1023 (n a : Int) (h0 : 0 ≤ n) (h1 : n ≤ 1023) : Go.bits .and .i64 (Go.bits .and .i64 n a) 1023 = Go.bits .and .i64 n a := by
  rw [and_small n a h0 h1]
  have hb : n.toNat &&& (BitVec.ofInt 64 a).toNat ≤ n.toNat := Nat.and_le_left
  rw [and_small _ 1023 (by omega) (by omega)]
  have e : (BitVec.ofInt 64 1023).toNat = 2 ^ 10 - 1 := by decide
  rw [e, Nat.and_two_pow_sub_one_eq_mod, Int.toNat_natCast]
  congr 1
  exact Nat.mod_eq_of_lt (by omega)

set_option maxRecDepth 100000 in
theorem speaks11 : decanterlaw11_speaks.f = some true := by decide +kernel

theorem kindTells (x : ByteArray) (a : Int) : ∃ k, decanterlaw11_KindTells.f k x a = some true := by
  by_cases h : (x.size : Int) > 60
  · refine ⟨1, ?_⟩
    rw [decanterlaw11_KindTells.f, speaks11]
    simp only [Option.bind_some, if_true]
    rw [decide_eq_true h]
    simp only [decanterlaw11_KindTells.j0, if_true]
    rw [speaks11]
    rfl
  · refine ⟨2001, ?_⟩
    have hs : x.size ≤ maxLen := by unfold maxLen; omega
    rw [decanterlaw11_KindTells.f, speaks11]
    simp only [Option.bind_some, if_true]
    rw [decide_eq_false h]
    simp only [decanterlaw11_KindTells.j0]
    rw [if_neg (by decide), refOf x (by omega) 2000 (by omega)]
    simp only [Option.bind_some]
    rw [kind_Of.f, if_pos hs]
    simp only [Option.bind_some, if_true]
    rw [kind_Is.f, if_pos hs]
    simp only [Option.bind_some]
    rw [and_1023 _ _ (kind_range x).1 (kind_range x).2]
    simp
end Go.Proofs.YteahlapoeiikoaaDoor.Pure

/-
  KindRules: what the printed function computes is true. Conditions: the name is no longer than a string can be.
-/

namespace Go.Proofs.YteahlapoeiikoaaDoor.Pure
open P Go.RowKit Go.Proofs.YteahlapoeiikoaaDoorW.PrintWords
set_option linter.unusedSimpArgs false
set_option linter.unusedVariables false

/-- The rules, of the kinds that a name has. -/
def goodV (v : Int) : Bool := !(isB v 4 && !(isB v 2 && isB v 16)) && (!(isB v 32 && !isB v 16) && (!(isB v 8 && isB v 147) && (!(isB v 512 && isB v 352) && (!isB v 0 && !(isB v (-1) != (v != 0))))))
set_option maxRecDepth 1000000 in
theorem good_all : (ktab.all fun p => goodV p.2) = true := by kernel_rfl
theorem good_zero : goodV 0 = true := by kernel_rfl
theorem find_of (t : List (List UInt8 × Int)) (x : List UInt8) (Q : Int → Prop) (h0 : Q 0) (ht : ∀ p ∈ t, Q p.2) : Q (match t.find? (fun p => p.1 == x) with | some p => p.2 | none => 0) := by
  cases h : t.find? (fun p => p.1 == x) with
  | none => exact h0
  | some p => exact ht p (List.mem_of_find?_eq_some h)
theorem good_kind (x : ByteArray) : goodV (kindOf x) = true := find_of ktab x.data.toList (fun v => goodV v = true) good_zero (fun p hp => List.all_eq_true.1 good_all p hp)

theorem is_eq {x : ByteArray} (hs : x.size ≤ maxLen) (c : Int) : kind_Is.f x c = some (isB (kindOf x) c) := by rw [kind_Is.f, if_pos hs]; rfl
theorem of_eq {x : ByteArray} (hs : x.size ≤ maxLen) : kind_Of.f x = some (kindOf x) := by rw [kind_Of.f, if_pos hs]

theorem rules_step (k : Nat) (xs : List ByteArray) (i : Int) (hs : (rdOf ByteArray.empty xs i).size ≤ maxLen) (h0 : 0 ≤ i) (h1 : i < (xs.length : Int)) :
    decanterlaw11_KindRules.l0 (k + 5) xs (xs.length : Int) i = decanterlaw11_KindRules.l0 k xs (xs.length : Int) (wrap64 (i + 1)) := by
  rw [decanterlaw11_KindRules.l0, if_pos h1, if_pos h0, if_pos h1]
  generalize rdOf ByteArray.empty xs i = x at hs ⊢
  have hI := fun c => is_eq hs c
  have hO := of_eq hs
  have hg := good_kind x
  generalize hv : kindOf x = v at hI hO hg
  clear hv
  simp only [goodV, Bool.and_eq_true, Bool.not_eq_true'] at hg
  obtain ⟨g1, g2, g3, g4, g5, g6⟩ := hg
  have a : ∀ q, ((kind_Is.f x 4).bind fun t293 => (if t293 = true then ((kind_Is.f x 2).bind fun t294 => (if t294 = true then ((kind_Is.f x 16).bind fun t295 => (decanterlaw11_KindRules.j1 q x (!t295) xs (xs.length : Int) i)) else (decanterlaw11_KindRules.j1 q x (!false) xs (xs.length : Int) i))) else (decanterlaw11_KindRules.j1 q x false xs (xs.length : Int) i))) = decanterlaw11_KindRules.j1 q x false xs (xs.length : Int) i := by
    intro q
    simp only [hI, Option.bind_some]
    cases e4 : isB v 4 <;> cases e2 : isB v 2 <;> cases e16 : isB v 16 <;> simp_all
  rw [a]
  rw [decanterlaw11_KindRules.j1]
  have b : ∀ q h, ((kind_Is.f x 32).bind fun t296 => (if t296 = true then ((kind_Is.f x 16).bind fun t297 => (decanterlaw11_KindRules.j2 q x h (!t297) xs (xs.length : Int) i)) else (decanterlaw11_KindRules.j2 q x h false xs (xs.length : Int) i))) = decanterlaw11_KindRules.j2 q x h false xs (xs.length : Int) i := by
    intro q h
    simp only [hI, Option.bind_some]
    cases e4 : isB v 32 <;> cases e16 : isB v 16 <;> simp_all
  rw [b, decanterlaw11_KindRules.j2]
  have c : ∀ q h h', ((kind_Is.f x 8).bind fun t298 => (if t298 = true then ((kind_Is.f x 147).bind fun t299 => (decanterlaw11_KindRules.j3 q x h h' t299 xs (xs.length : Int) i)) else (decanterlaw11_KindRules.j3 q x h h' false xs (xs.length : Int) i))) = decanterlaw11_KindRules.j3 q x h h' false xs (xs.length : Int) i := by
    intro q h h'
    simp only [hI, Option.bind_some]
    cases e4 : isB v 8 <;> cases e16 : isB v 147 <;> simp_all
  rw [c, decanterlaw11_KindRules.j3]
  have d : ∀ q h h' h'', ((kind_Is.f x 512).bind fun t300 => (if t300 = true then ((kind_Is.f x 352).bind fun t301 => (decanterlaw11_KindRules.j4 q x h h' h'' t301 xs (xs.length : Int) i)) else (decanterlaw11_KindRules.j4 q x h h' h'' false xs (xs.length : Int) i))) = decanterlaw11_KindRules.j4 q x h h' h'' false xs (xs.length : Int) i := by
    intro q h h' h''
    simp only [hI, Option.bind_some]
    cases e4 : isB v 512 <;> cases e16 : isB v 352 <;> simp_all
  rw [d, decanterlaw11_KindRules.j4]
  simp only [hI, hO, Option.bind_some, g5, g6, Bool.false_eq_true, if_false]

theorem rules_loop (xs : List ByteArray) (hx : ∀ x ∈ xs, x.size ≤ maxLen) (hl : xs.length ≤ 1000) : ∀ (m i k : Nat), i + m = xs.length → 5 * m + 1 ≤ k → decanterlaw11_KindRules.l0 k xs (xs.length : Int) i = some true
  | 0, i, k, h, hk => by
    obtain ⟨q, rfl⟩ : ∃ q, k = q + 1 := ⟨k - 1, by omega⟩
    rw [decanterlaw11_KindRules.l0, if_neg (by omega)]
  | m + 1, i, k, h, hk => by
    obtain ⟨q, rfl⟩ : ∃ q, k = q + 5 := ⟨k - 5, by omega⟩
    have hi : i < xs.length := by omega
    rw [rules_step q xs i (hx _ (by rw [rdOf]; simp [List.getElem?_eq_getElem hi])) (by omega) (by omega)]
    have e : wrap64 ((i : Int) + 1) = ((i + 1 : Nat) : Int) := by
      unfold wrap64
      omega
    rw [e]
    exact rules_loop xs hx hl m (i + 1) q (by omega) (by omega)

set_option maxRecDepth 1000000 in
theorem ktab_short : (ktab.all fun p => decide (p.1.length ≤ 100)) = true := by kernel_rfl
theorem ktab_len : Nat.ble ktab.length 200 = true := by kernel_rfl
theorem short_of (t : List (List UInt8 × Int)) (k : Int) (h : (t.all fun p => decide (p.1.length ≤ 100)) = true) : ∀ x ∈ ((t.filter fun p => isB p.2 k).map (·.1)), x.length ≤ 100 := by
  intro x hx
  obtain ⟨p, hp, rfl⟩ := List.mem_map.1 hx
  have := List.all_eq_true.1 h p (List.mem_filter.1 hp).1
  simpa using this
theorem few_of (t : List (List UInt8 × Int)) (k : Int) : ((t.filter fun p => isB p.2 k).map (·.1)).length ≤ t.length := by
  rw [List.length_map]; exact List.length_filter_le _ _
theorem all_short (k : Int) : ∀ x ∈ allK k, x.length ≤ 100 := short_of ktab k ktab_short
theorem all_few (k : Int) : (allK k).length ≤ 200 := Nat.le_trans (few_of ktab k) (Nat.le_of_ble_eq_true ktab_len)

theorem rules_f (k : Nat) (a0 : ByteArray) (M : List ByteArray) (h : kind_All.f (-1) = some M) (hl : M.length < 8796093022208) :
    decanterlaw11_KindRules.f k a0 = decanterlaw11_KindRules.l0 k (M ++ [a0]) ((M ++ [a0]).length : Int) 0 := by
  rw [decanterlaw11_KindRules.f, speaks11, Option.bind_some, if_pos rfl, h, Option.bind_some, if_pos hl, Option.bind_some]
/-- The names of some kinds, as texts. -/
def names (L : List (List UInt8)) : List ByteArray := L.map fun l => ⟨l.toArray⟩
theorem names_short (L : List (List UInt8)) (h : ∀ x ∈ L, x.length ≤ 100) : ∀ x ∈ names L, x.size ≤ maxLen := by
  intro x hx
  obtain ⟨l, hl, rfl⟩ := List.mem_map.1 hx
  exact Nat.le_trans (show l.toArray.size ≤ 100 by rw [List.size_toArray]; exact h l hl) (by decide)
theorem names_len (L : List (List UInt8)) : (names L).length = L.length := List.length_map _
theorem all_some (k : Int) : kind_All.f k = some (names (allK k)) := rfl
theorem rules_names (a0 : ByteArray) (hs : a0.size ≤ maxLen) (M : List ByteArray) (hM : kind_All.f (-1) = some M) (h1 : ∀ x ∈ M, x.size ≤ maxLen) (h2 : M.length ≤ 200) : ∃ k, decanterlaw11_KindRules.f k a0 = some true := by
  have hlen : (M ++ [a0]).length = M.length + 1 := by rw [List.length_append]; rfl
  refine ⟨5 * (M.length + 1) + 1, ?_⟩
  rw [rules_f _ a0 M hM (Nat.lt_of_le_of_lt h2 (by decide))]
  exact rules_loop (M ++ [a0]) (fun x hx => by
    rcases List.mem_append.1 hx with hx | hx
    · exact h1 x hx
    · obtain rfl := List.mem_singleton.1 hx
      exact hs) (by rw [hlen]; omega) (M.length + 1) 0 (5 * (M.length + 1) + 1) (by rw [hlen, Nat.zero_add]) (Nat.le_refl _)
theorem kindRulesLaw (a0 : ByteArray) (hs : a0.size ≤ maxLen) : ∃ k, decanterlaw11_KindRules.f k a0 = some true :=
  rules_names a0 hs _ (all_some (-1)) (names_short _ (all_short (-1))) (by rw [names_len]; exact all_few (-1))
#print axioms kindRulesLaw
end Go.Proofs.YteahlapoeiikoaaDoor.Pure
