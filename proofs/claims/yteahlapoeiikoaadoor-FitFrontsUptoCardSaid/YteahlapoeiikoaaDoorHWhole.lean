/-
  fit.whole and the document's Whole, walked: is a text UTF-8 without a byte 0. Conditions: the library's tables hold what they were laid with; the text is no longer than the model's greatest length.
-/
import Derived.Lib.ConvBytes
import Derived.Test.YteahlapoeiikoaaDoorJoin11
import Derived.Test.YteahlapoeiikoaaDoorGW
import Derived.Test.YteahlapoeiikoaaDoorShelf
import Derived.Test.YteahlapoeiikoaaDoorShelfV

namespace Go.Proofs.YteahlapoeiikoaaDoor.P
open Go.RowKit Go.Proofs.YteahlapoeiikoaaDoorW.PrintWords Go.Proofs.YteahlapoeiikoaaDoorW.PrintLast
set_option linter.unusedSimpArgs false
set_option linter.unusedVariables false

def wholeB (s : ByteArray) : Bool := Lib.validD s.data.toList && !decide (0 ≤ Lib.indexByte s.data.toList 0)
def fit_whole.f (a0 : ByteArray) : Option Bool := if a0.size ≤ maxLen then some (wholeB a0) else none

set_option maxRecDepth 100000 in
set_option maxHeartbeats 1000000 in
theorem fit_whole.calls (a0 : ByteArray) (r : Bool) (w : World) (hG : GW w) (h : fit_whole.f a0 = some r) :
    Calls Tryd.prog 78 #[.string a0] w fun e w' => e = .returned (.bool r) ∧ Below w.heap.size w w' := by
  unfold fit_whole.f at h
  split at h
  case isFalse => cases h
  case isTrue hs =>
  obtain rfl := Option.some.inj h
  clear h
  have hs2 : a0.size ≤ 9223372036854775807 := by unfold maxLen at hs; omega
  have hT := hG.2.2
  unfold wholeB
  have cV := Tryd.utf8_ValidString a0 w hs2 hT
  generalize Lib.validD a0.data.toList = V at cV ⊢
  generalize hC : decide (0 ≤ Lib.indexByte a0.data.toList 0) = C
  go_enter Tryd.func78, Tryd.ntmps78
  cases V
  · go_wp2_with (first
      | (go_at_call 91; refine cV.mono ?_; rintro e w1 ⟨rfl, hb⟩)
      | go_in)
    go_ret
    exact ⟨by simp, hb⟩
  · go_wp2_with (first
      | (go_at_call 91; refine cV.mono ?_; rintro e w1 ⟨rfl, hb⟩)
      | (go_at_call 92; refine (Tryd.strings_Contains_one a0 0 _).mono ?_; rintro e w2 ⟨rfl, rfl⟩)
      | go_in)
    go_ret
    subst hC
    exact ⟨by simp, hb⟩

/-! The document's. -/
def decanterref21_Whole.l0 : Nat → List Int → Int → Option Bool
  | 0, _, _ => none
  | k + 1, b, x => if x < (b.length : Int) then (if 0 ≤ x then (decanterref02_Next.f k b x).bind fun t => (if rd b x = 13 then decanterref21_Whole.l0 k b (wrap64 (x + 1)) else (if t.1 = 65533 ∧ t.2 = 1 then some false else decanterref21_Whole.l0 k b (wrap64 (x + t.2)))) else none) else some true
def decanterref21_Whole.f (k : Nat) (a0 : ByteArray) : Option Bool := if a0.size ≤ maxLen then decanterref21_Whole.l0 k (bytesOf a0) 0 else none
theorem bytes_C (w : World) (s : ByteArray) (hs : s.size ≤ maxLen) : Kd.C (Kd.int .u8) (Lib.bytesWorld w 5 s) (some ⟨w.heap.size, 0, none⟩) (bytesOf s).length (bytesOf s) := by
  rw [bytesOf_length]
  exact Kd.C_of_reads (enc := Value.int .u8) (d := (0 : Int)) (h1 := fun _ => rfl) (bytes_reads w 5 s (by unfold maxLen at hs; omega))
set_option maxRecDepth 100000 in
set_option maxHeartbeats 1000000 in
theorem decanterref21_Whole.calls (k : Nat) (a0 : ByteArray) (r : Bool) (w : World) (h : decanterref21_Whole.f k a0 = some r) :
    Calls Tryd.prog 63 #[.string a0] w fun e w' => e = .returned (.bool r) ∧ Below w.heap.size w w' := by
  unfold decanterref21_Whole.f at h
  split at h
  case isFalse => cases h
  case isTrue hs =>
  have hcv : ∀ w, (convert 9 100 (.string a0)).run Tryd.prog w = _ := fun w => Lib.run_convert_string_bytes (P := Tryd.prog) w 9 100 5 a0 Tryd.underlying9 Tryd.underlying100 Tryd.underlying5
  have hC := bytes_C w a0 hs
  have hB := bytes_below (Below.refl w.heap.size w) (Nat.le_refl _) 5 a0
  have hl : (bytesOf a0).length = a0.size := bytesOf_length a0
  go_enter Tryd.func63, Tryd.ntmps63
  go_wp2
  rw [← hl]
  have hcap : (bytesOf a0).length ≤ grownCap w (bytesOf a0).length 0 5 := grownCap_ge w _ 0 5
  clear hcv hl
  generalize grownCap w (bytesOf a0).length 0 5 = cap at hcap ⊢
  generalize Lib.bytesWorld w 5 a0 = w1 at hC hB ⊢
  generalize bytesOf a0 = b at h hC hcap ⊢
  have H' := Aside0.mk h
  clear h
  have HC := Aside0.mk hC
  have HB := Aside0.mk hB
  have HCap := Aside0.mk hcap
  clear hC hB hcap
  go_loopg [4] k (fun kq v wr => ∃ x : Int, v = .int .i64 x ∧ Aside0 (decanterref21_Whole.l0 kq b x = some r) ∧ Aside0 (kq ≤ k) ∧ Drawn0 w1 wr)
  case atStart => exact ⟨0, rfl, H', ⟨Nat.le_refl _⟩, Drawn0.refl _⟩
  case round =>
    clear H'
    obtain ⟨x, rfl, HA, HK, ⟨m, rfl⟩⟩ := hrel
    cases gk with
    | zero => exact absurd HA.out (by simp [decanterref21_Whole.l0])
    | succ k1 =>
      have H := HA.out
      clear HA
      simp only [decanterref21_Whole.l0] at H
      by_cases c2 : x < (b.length : Int)
      · rw [if_pos c2] at H
        by_cases c3 : 0 ≤ x
        · rw [if_pos c3] at H
          obtain ⟨⟨t1, t2⟩, hN0, H⟩ := Option.bind_eq_some_iff.mp H
          have hN := Aside0.mk hN0
          clear hN0
          dsimp only at H
          obtain ⟨ad, had, hcell⟩ := Kd.at_int HC.out x c3 c2
          cases had
          rw [add_plain] at hcell
          have p0 := eq_true c3
          have p1 := eq_true c2
          by_cases c13 : rd b x = 13
          · rw [if_pos c13] at H
            have H' := Aside0.mk H
            clear H
            go_wp2_with (first
              | (go_at_call 81; (with_reducible refine (decanterref02_Next.calls k1 _ cap b x t1 t2 _ ?side1 HCap.out hN.out).mono ?_); (case side1 => repeat (first | exact HC.out | (with_reducible refine Kd.C_drewN ?_ _) | (with_reducible refine Kd.C_drew ?_))); rintro e w8 ⟨rfl, ⟨nd, rfl⟩⟩)
              | go_in)
            go_roundg k1
            case measure => have := HK.out; omega
            case rel => exact ⟨wrap64 (x + 1), by first | rfl | (simp; done), H', ⟨by have := HK.out; omega⟩, by repeat (first | exact Drawn0.refl _ | apply Drawn0.step)⟩
          · rw [if_neg c13] at H
            by_cases c4 : t1 = 65533 ∧ t2 = 1
            · rw [if_pos c4] at H
              obtain ⟨rfl, rfl⟩ := c4
              obtain rfl := Option.some.inj H
              clear H
              go_wp2_with (first
                | (go_at_call 81; (with_reducible refine (decanterref02_Next.calls k1 _ cap b x 65533 1 _ ?side1 HCap.out hN.out).mono ?_); (case side1 => repeat (first | exact HC.out | (with_reducible refine Kd.C_drewN ?_ _) | (with_reducible refine Kd.C_drew ?_))); rintro e w8 ⟨rfl, ⟨nd, rfl⟩⟩)
                | go_in)
              go_ret
              exact ⟨rfl, by repeat (first | exact HB.out | apply pw_below_drewN | apply below_drew1)⟩
            · rw [if_neg c4] at H
              have H' := Aside0.mk H
              clear H
              have c5 : ¬ (t1 = 65533 ∧ t2 = 1) := c4
              by_cases c6 : t1 = 65533
              · have c7 : ¬ t2 = 1 := fun e => c5 ⟨c6, e⟩
                clear c4 c5
                go_wp2_with (first
                  | (go_at_call 81; (with_reducible refine (decanterref02_Next.calls k1 _ cap b x t1 t2 _ ?side1 HCap.out hN.out).mono ?_); (case side1 => repeat (first | exact HC.out | (with_reducible refine Kd.C_drewN ?_ _) | (with_reducible refine Kd.C_drew ?_))); rintro e w8 ⟨rfl, ⟨nd, rfl⟩⟩)
                  | go_in)
                go_roundg k1
                case measure => have := HK.out; omega
                case rel => exact ⟨wrap64 (x + t2), by first | rfl | (simp; done), H', ⟨by have := HK.out; omega⟩, by repeat (first | exact Drawn0.refl _ | apply Drawn0.step)⟩
              · clear c4 c5
                go_wp2_with (first
                  | (go_at_call 81; (with_reducible refine (decanterref02_Next.calls k1 _ cap b x t1 t2 _ ?side1 HCap.out hN.out).mono ?_); (case side1 => repeat (first | exact HC.out | (with_reducible refine Kd.C_drewN ?_ _) | (with_reducible refine Kd.C_drew ?_))); rintro e w8 ⟨rfl, ⟨nd, rfl⟩⟩)
                  | go_in)
                go_roundg k1
                case measure => have := HK.out; omega
                case rel => exact ⟨wrap64 (x + t2), by first | rfl | (simp; done), H', ⟨by have := HK.out; omega⟩, by repeat (first | exact Drawn0.refl _ | apply Drawn0.step)⟩
        · rw [if_neg c3] at H
          cases H
      · rw [if_neg c2] at H
        obtain rfl := Option.some.inj H
        go_wp2
        go_ret
        exact ⟨rfl, by repeat (first | exact HB.out | apply pw_below_drewN | apply below_drew1)⟩
end Go.Proofs.YteahlapoeiikoaaDoor.P
