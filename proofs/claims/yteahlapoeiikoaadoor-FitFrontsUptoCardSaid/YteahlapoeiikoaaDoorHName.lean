/-
  class.Name, walked: is a text a plain name. Condition: the text is no longer than the model's greatest length.
-/
import Derived.Laws.RangeAny
import Derived.Test.YteahlapoeiikoaaDoorJoin11

namespace Go.Proofs.YteahlapoeiikoaaDoor.P
open Go.RowKit Go.Proofs.YteahlapoeiikoaaDoorW.PrintWords Go.Proofs.YteahlapoeiikoaaDoorW.PrintLast
set_option linter.unusedSimpArgs false
set_option linter.unusedVariables false

/-- Is a byte right at its place in a name? -/
def nmOk (s : ByteArray) (i : Nat) : Bool := (decide (97 ≤ bt s i) && decide (bt s i ≤ 122)) || (decide (0 < i) && ((decide (48 ≤ bt s i) && decide (bt s i ≤ 57)) || decide (bt s i = 45)))
def nameB (s : ByteArray) : Bool := decide (0 < s.size) && (List.range s.size).all (nmOk s)
theorem name_no {s : ByteArray} {i : Nat} (hi : i < s.size) (h : nmOk s i = false) : nameB s = false := by
  unfold nameB
  rw [Bool.and_eq_false_iff]
  right
  rw [List.all_eq_false]
  exact ⟨i, List.mem_range.2 hi, by rw [h]; decide⟩
theorem within_is (c a b : Int) : class_within.f c a b = some (decide (a ≤ c) && decide (c ≤ b)) := by
  unfold class_within.f
  by_cases h : a ≤ c
  · rw [if_pos h, decide_eq_true h, Bool.true_and]
  · rw [if_neg h, decide_eq_false h, Bool.false_and]
theorem digit_is (c : Int) : class_Digit.f c = some (decide (48 ≤ c) && decide (c ≤ 57)) := by
  unfold class_Digit.f
  rw [within_is]
  rfl
theorem bt_at (s : ByteArray) (i : Nat) (h : i < s.size) : bt s i = ((s[i]'h).toNat : Int) := by
  unfold bt
  rw [dif_pos (by simpa using h)]
  rfl
/-- What is read at a place. -/
theorem read_at (s : ByteArray) (pos : Nat) (h : pos < s.size) :
    ∃ c n : Nat, Utf8.decode s pos = (c, n) ∧ 1 ≤ n ∧ ((c = (s[pos]'h).toNat ∧ n = 1 ∧ c < 128) ∨ (128 ≤ c ∧ 128 ≤ (s[pos]'h).toNat)) := by
  by_cases ha : (s[pos]'h).toNat < 128
  · exact ⟨_, _, decode_ascii s pos h ha, Nat.le_refl _, .inl ⟨rfl, rfl, ha⟩⟩
  · obtain ⟨h1, h2⟩ := decode_high s pos h (by omega)
    exact ⟨_, _, rfl, h2, .inr ⟨h1, by omega⟩⟩
theorem nm_high {s : ByteArray} {i : Nat} (h : i < s.size) (hb : 128 ≤ (s[i]'h).toNat) : nmOk s i = false := by
  unfold nmOk
  rw [bt_at s i h]
  have h1 : ¬ (((s[i]'h).toNat : Int) ≤ 122) := by omega
  have h2 : ¬ (((s[i]'h).toNat : Int) ≤ 57) := by omega
  have h3 : ¬ (((s[i]'h).toNat : Int) = 45) := by omega
  rw [decide_eq_false h1, decide_eq_false h2, decide_eq_false h3]
  simp
theorem name_yes {s : ByteArray} (h : ∀ j < s.size, nmOk s j = true) : nameB s = !(s.toList == (⟨#[]⟩ : ByteArray).toList) := by
  unfold nameB
  have e : (List.range s.size).all (nmOk s) = true := List.all_eq_true.2 fun j hj => h j (List.mem_range.1 hj)
  rw [e, Bool.and_true, Lib.toList_data, Lib.toList_data, Lib.size_eq]
  cases s.data.toList <;> simp

theorem iter_drew (w : World) (d n : Nat) (s : ByteArray) (pos : Nat) : ((w.drewN d).iter s pos).drewN n = (w.drewN (d + n)).iter s pos := by
  rw [← World.drewN_drewN]
  rfl
theorem iter_below (w : World) (d : Nat) (s : ByteArray) (pos : Nat) : Below w.heap.size w ((w.drewN d).iter s pos) := by
  have h : Below w.heap.size w (w.drewN d) := pw_below_drewN (Below.refl _ _) _
  exact h.alloc (Nat.le_refl _) _
theorem iter_pos (w : World) (d : Nat) (s : ByteArray) (pos : Nat) : ((w.drewN d).iter s pos).iterPos w.heap.size = pos := World.iterPos_iter (w.drewN d) s pos
theorem ok_more {s : ByteArray} {pos : Nat} (h : ∀ j, j < pos → j < s.size → nmOk s j = true) (h1 : nmOk s pos = true) : ∀ j, j < pos + 1 → j < s.size → nmOk s j = true := by
  intro j hj hs
  by_cases e : j = pos
  · rw [e]; exact h1
  · exact h j (by omega) hs
/-- What is right there is a byte of its own. -/
theorem right_is {s : ByteArray} {pos c n : Nat} (h : pos < s.size) (hcn : (c = (s[pos]'h).toNat ∧ n = 1 ∧ c < 128) ∨ (128 ≤ c ∧ 128 ≤ (s[pos]'h).toNat)) (hc : c < 128) : n = 1 ∧ bt s pos = c := by
  rcases hcn with ⟨h1, h2, _⟩ | ⟨h1, _⟩
  · exact ⟨h2, by rw [bt_at s pos h, ← h1]⟩
  · omega
theorem wrong_is {s : ByteArray} {pos c n : Nat} (h : pos < s.size) (hcn : (c = (s[pos]'h).toNat ∧ n = 1 ∧ c < 128) ∨ (128 ≤ c ∧ 128 ≤ (s[pos]'h).toNat))
    (hb : ¬ ((97 ≤ (c : Int)) ∧ (c : Int) ≤ 122)) (h0 : pos = 0 ∨ (¬ ((48 ≤ (c : Int)) ∧ (c : Int) ≤ 57) ∧ ¬ (c : Int) = 45)) : nameB s = false := by
  refine name_no h ?_
  rcases hcn with ⟨h1, h2, h3⟩ | ⟨h1, h2⟩
  · unfold nmOk
    rw [bt_at s pos h, ← h1]
    simp only [Bool.or_eq_false_iff, Bool.and_eq_false_iff, decide_eq_false_iff_not]
    refine ⟨by omega, ?_⟩
    rcases h0 with h0 | h0
    · left; omega
    · right; exact ⟨by omega, by omega⟩
  · exact nm_high h h2
set_option maxRecDepth 100000 in
set_option maxHeartbeats 1000000 in
theorem name_walk (s : ByteArray) (hs : s.size ≤ maxLen) (w : World) :
    Calls Tryd.prog 52 #[.string s] w fun e w' => e = .returned (.bool (nameB s)) ∧ Below w.heap.size w w' := by
  go_enter Tryd.func52, Tryd.ntmps52
  go_wp2
  go_loopw [3] (fun _ wr => ∃ d pos : Nat, wr = (w.drewN d).iter s pos ∧ ∀ j, j < pos → j < s.size → nmOk s j = true)
    (fun _ wr => s.size - wr.iterPos w.heap.size)
  case atStart => exact ⟨0, 0, rfl, fun j hj => absurd hj (Nat.not_lt_zero _)⟩
  case round =>
    obtain ⟨d, pos, rfl, hok⟩ := hrel
    by_cases hp : pos < s.size
    · obtain ⟨c, n, hd, hn, hcn⟩ := read_at s pos hp
      have hnx : ∀ ty, (Instr.next (.pointer (some ⟨w.heap.size, 0, none⟩)) true ty).run Tryd.prog ((w.drewN d).iter s pos) = .ok (.tuple #[.bool true, .int .i64 pos, .int .i32 c]) ((w.drewN d).iter s (pos + n)) := fun ty => by
        have := run_next_any (P := Tryd.prog) (w.drewN d) s pos ty hp
        rw [hd] at this
        exact this
      have hw1 := within_is c 97 122
      have hw2 := digit_is c
      by_cases hb : 97 ≤ (c : Int) ∧ (c : Int) ≤ 122
      · rw [decide_eq_true hb.1, decide_eq_true hb.2] at hw1
        obtain ⟨rfl, hbt⟩ := right_is hp hcn (by omega)
        go_wp2_with (first
          | (go_at_call 71; (with_reducible refine (class_within.calls c 97 122 _ _ hw1).mono ?_); rintro e w8 ⟨rfl, ⟨nd, rfl⟩⟩)
          | (go_at_call 72; (with_reducible refine (class_Digit.calls c _ _ hw2).mono ?_); rintro e w9 ⟨rfl, ⟨nd2, rfl⟩⟩)
          | go_in)
        go_roundw
        case rel => exact ⟨_, pos + 1, by first | rfl | (rw [iter_drew]), ok_more hok (by unfold nmOk; rw [hbt, decide_eq_true hb.1, decide_eq_true hb.2]; rfl)⟩
        case measure =>
          first | rw [iter_pos, iter_pos] | rw [iter_drew, iter_pos, iter_pos]
          omega
      · have hb' : (decide (97 ≤ (c : Int)) && decide ((c : Int) ≤ 122)) = false := by
          rw [Bool.and_eq_false_iff, decide_eq_false_iff_not, decide_eq_false_iff_not]
          omega
        rw [hb'] at hw1
        by_cases hp0 : pos = 0
        · have hno := wrong_is hp hcn hb (.inl hp0)
          subst hp0
          go_wp2_with (first
            | (go_at_call 71; (with_reducible refine (class_within.calls c 97 122 _ _ hw1).mono ?_); rintro e w8 ⟨rfl, ⟨nd, rfl⟩⟩)
            | (go_at_call 72; (with_reducible refine (class_Digit.calls c _ _ hw2).mono ?_); rintro e w9 ⟨rfl, ⟨nd2, rfl⟩⟩)
            | go_in)
          go_ret
          rw [hno]
          rw [iter_drew]
          exact ⟨rfl, iter_below w _ s _⟩
        · have hp1 : (0 : Int) < (pos : Int) := by omega
          by_cases hdg : 48 ≤ (c : Int) ∧ (c : Int) ≤ 57
          · rw [decide_eq_true hdg.1, decide_eq_true hdg.2] at hw2
            obtain ⟨rfl, hbt⟩ := right_is hp hcn (by omega)
            go_wp2_with (first
              | (go_at_call 71; (with_reducible refine (class_within.calls c 97 122 _ _ hw1).mono ?_); rintro e w8 ⟨rfl, ⟨nd, rfl⟩⟩)
              | (go_at_call 72; (with_reducible refine (class_Digit.calls c _ _ hw2).mono ?_); rintro e w9 ⟨rfl, ⟨nd2, rfl⟩⟩)
              | go_in)
            go_roundw
            case rel => exact ⟨_, pos + 1, by first | rfl | (rw [iter_drew]), ok_more hok (by unfold nmOk; rw [hbt, decide_eq_true hdg.1, decide_eq_true hdg.2, decide_eq_true (show 0 < pos by omega)]; simp)⟩
            case measure =>
              first | rw [iter_pos, iter_pos] | rw [iter_drew, iter_pos, iter_pos]
              omega
          · have hdg' : (decide (48 ≤ (c : Int)) && decide ((c : Int) ≤ 57)) = false := by
              rw [Bool.and_eq_false_iff, decide_eq_false_iff_not, decide_eq_false_iff_not]
              omega
            rw [hdg'] at hw2
            by_cases h45 : (c : Int) = 45
            · obtain ⟨rfl, hbt⟩ := right_is hp hcn (by omega)
              go_wp2_with (first
                | (go_at_call 71; (with_reducible refine (class_within.calls c 97 122 _ _ hw1).mono ?_); rintro e w8 ⟨rfl, ⟨nd, rfl⟩⟩)
                | (go_at_call 72; (with_reducible refine (class_Digit.calls c _ _ hw2).mono ?_); rintro e w9 ⟨rfl, ⟨nd2, rfl⟩⟩)
                | go_in)
              go_roundw
              case rel => exact ⟨_, pos + 1, by first | rfl | (rw [iter_drew]), ok_more hok (by unfold nmOk; rw [hbt, decide_eq_true h45, decide_eq_true (show 0 < pos by omega)]; simp)⟩
              case measure =>
                first | rw [iter_pos, iter_pos] | rw [iter_drew, iter_pos, iter_pos]
                omega
            · have hno := wrong_is hp hcn hb (.inr ⟨hdg, h45⟩)
              go_wp2_with (first
                | (go_at_call 71; (with_reducible refine (class_within.calls c 97 122 _ _ hw1).mono ?_); rintro e w8 ⟨rfl, ⟨nd, rfl⟩⟩)
                | (go_at_call 72; (with_reducible refine (class_Digit.calls c _ _ hw2).mono ?_); rintro e w9 ⟨rfl, ⟨nd2, rfl⟩⟩)
                | go_in)
              go_ret
              rw [hno, iter_drew]
              exact ⟨rfl, iter_below w _ s _⟩
    · have hnx : ∀ ty, (Instr.next (.pointer (some ⟨w.heap.size, 0, none⟩)) true ty).run Tryd.prog ((w.drewN d).iter s pos) = .ok (.tuple #[.bool false]) ((w.drewN d).iter s pos) := fun ty => run_next_end (w.drewN d) s pos ty hp
      go_wp2
      go_ret
      rw [name_yes fun j hj => hok j (by omega) hj]
      exact ⟨by first | rfl | simp, iter_below w d s pos⟩
def class_Name.f (a0 : ByteArray) : Option Bool := if a0.size ≤ maxLen then some (nameB a0) else none
theorem class_Name.calls (a0 : ByteArray) (r : Bool) (w : World) (h : class_Name.f a0 = some r) :
    Calls Tryd.prog 52 #[.string a0] w fun e w' => e = .returned (.bool r) ∧ Below w.heap.size w w' := by
  unfold class_Name.f at h
  split at h
  case isFalse => cases h
  case isTrue hs =>
  obtain rfl := Option.some.inj h
  exact name_walk a0 hs w
end Go.Proofs.YteahlapoeiikoaaDoor.P
