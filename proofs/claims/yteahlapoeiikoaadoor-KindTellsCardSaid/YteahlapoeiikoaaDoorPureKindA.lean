/-
  The document's answer for chapter 11 (decanterref11), as plain functions of lists. No condition but sizes.
-/
import Derived.Lib.Strings
import Derived.Test.YteahlapoeiikoaaDoorPdecanterref11Of
import Derived.Test.YteahlapoeiikoaaDoorKindsC
namespace Go.Proofs.YteahlapoeiikoaaDoor.Pure
open Go.RowKit Go.Proofs.YteahlapoeiikoaaDoor.P Go.Proofs.YteahlapoeiikoaaDoorW.PrintWords Go.Proofs.YteahlapoeiikoaaDoorW.PrintLast

theorem wrap_id {i : Int} (h0 : -4611686018427387904 ≤ i) (h : i ≤ 4611686018427387904) : wrap64 i = i := by
  unfold wrap64; omega

theorem bt_get (s : ByteArray) (i : Nat) (h : i < s.size) : bt s (i : Int) = ((s.data.toList[i]'(by rw [← Lib.size_eq]; exact h)).toNat : Int) := by
  unfold bt
  rw [dif_pos (by simpa using h)]
  rfl

theorem data_append (a b : ByteArray) : (a ++ b).data.toList = a.data.toList ++ b.data.toList := by
  rw [ByteArray.data_append]; simp

/-- Is a name one word? -/
def oneB (x : ByteArray) : Bool := decide (0 < x.size) && x.data.toList.all (· != 32)

theorem u8_32 (c : UInt8) : ((c.toNat : Int) = 32) ↔ c = 32 := by
  constructor
  · intro h
    have : c.toNat = (32 : UInt8).toNat := by simpa using (by omega : c.toNat = 32)
    exact UInt8.toNat_inj.1 this
  · rintro rfl; rfl

theorem one_loop (x : ByteArray) (hx : x.size ≤ 4611686018427387903) (d : Nat) : ∀ (k i : Nat), i ≤ x.size → x.size - i = d → d < k →
    decanterref11_one.l0 k x (i : Int) = some (decide (0 < x.size) && (x.data.toList.drop i).all (· != 32)) := by
  induction d with
  | zero =>
    intro k i hi hd hk
    obtain ⟨k, rfl⟩ : ∃ m, k = m + 1 := ⟨k - 1, by omega⟩
    simp only [decanterref11_one.l0]
    rw [if_neg (by omega), List.drop_eq_nil_of_le (by rw [← Lib.size_eq]; omega)]
    have e : decide ((x.size : Int) > 0) = decide (0 < x.size) := by rw [decide_eq_decide]; omega
    rw [e]
    simp
  | succ d ih =>
    intro k i hi hd hk
    obtain ⟨k, rfl⟩ : ∃ m, k = m + 1 := ⟨k - 1, by omega⟩
    have hlt : i < x.size := by omega
    have hl : i < x.data.toList.length := by rw [← Lib.size_eq]; exact hlt
    simp only [decanterref11_one.l0]
    rw [if_pos (by omega), if_pos (by omega), bt_get x i hlt, List.drop_eq_getElem_cons hl, List.all_cons]
    have hih := ih k (i + 1) (by omega) (by omega) (by omega)
    rw [wrap_id (by omega) (by omega)]
    by_cases h : x.data.toList[i] = 32
    · rw [if_pos ((u8_32 _).2 h), h]
      simp
    · rw [if_neg (fun e => h ((u8_32 _).1 e))]
      have hb : (x.data.toList[i] != 32) = true := by simpa using h
      rw [hb, Bool.true_and]
      exact hih

theorem one_tells (x : ByteArray) (hx : x.size ≤ 4611686018427387903) (k : Nat) (hk : x.size < k) : decanterref11_one.f k x = some (oneB x) := by
  have := one_loop x hx x.size k 0 (by omega) (by omega) hk
  simpa [decanterref11_one.f, oneB] using this

/-- Does p stand in s at a place from i on? -/
def StandsFrom (s p : List UInt8) (i : Nat) : Prop := ∃ j, i ≤ j ∧ j + p.length ≤ s.length ∧ (s.drop j).take p.length = p

open Classical in
theorem in_loop (s p : ByteArray) (hs : s.size ≤ 1152921504606846976) (hp : p.size ≤ 1152921504606846976) (d : Nat) : ∀ (k i : Nat), i ≤ s.size + 1 → s.size + 1 - i = d → d < k →
    decanterref11_in.l0 k s p (i : Int) = some (decide (StandsFrom s.data.toList p.data.toList i)) := by
  induction d with
  | zero =>
    intro k i hi hd hk
    obtain ⟨k, rfl⟩ : ∃ m, k = m + 1 := ⟨k - 1, by omega⟩
    simp only [decanterref11_in.l0]
    rw [wrap_id (by omega) (by omega), if_neg (by omega)]
    have : ¬ StandsFrom s.data.toList p.data.toList i := by
      rintro ⟨j, h1, h2, _⟩
      rw [← Lib.size_eq, ← Lib.size_eq] at h2
      omega
    simp [this]
  | succ d ih =>
    intro k i hi hd hk
    obtain ⟨k, rfl⟩ : ∃ m, k = m + 1 := ⟨k - 1, by omega⟩
    have hih := ih k (i + 1) (by omega) (by omega) (by omega)
    simp only [decanterref11_in.l0]
    rw [wrap_id (by omega) (by omega), wrap_id (by omega) (by omega)]
    by_cases h : i + p.size ≤ s.size
    · rw [if_pos (by omega), if_pos (by omega), if_pos (by omega)]
      have e1 : ((i : Int) + (p.size : Int)).toNat = i + p.size := by omega
      have e2 : ((i : Int)).toNat = i := by omega
      rw [e1, e2, Lib.extract_toList, Lib.toList_data]
      have e3 : i + p.size - i = p.data.toList.length := by rw [← Lib.size_eq]; omega
      rw [e3]
      by_cases hc : (s.data.toList.drop i).take p.data.toList.length = p.data.toList
      · rw [if_pos hc]
        have : StandsFrom s.data.toList p.data.toList i := ⟨i, Nat.le_refl _, by rw [← Lib.size_eq, ← Lib.size_eq]; exact h, hc⟩
        simp [this]
      · rw [if_neg hc]
        have e4 : ((i : Int) + 1) = ((i + 1 : Nat) : Int) := by omega
        rw [e4, hih]
        congr 1
        rw [decide_eq_decide]
        constructor
        · rintro ⟨j, h1, h2, h3⟩; exact ⟨j, by omega, h2, h3⟩
        · rintro ⟨j, h1, h2, h3⟩
          refine ⟨j, ?_, h2, h3⟩
          rcases Nat.lt_or_ge i j with h4 | h4
          · omega
          · obtain rfl : j = i := by omega
            exact absurd h3 hc
    · rw [if_neg (by omega)]
      have : ¬ StandsFrom s.data.toList p.data.toList i := by
        rintro ⟨j, h1, h2, _⟩
        rw [← Lib.size_eq, ← Lib.size_eq] at h2
        omega
      simp [this]

theorem stands_infix (s p : List UInt8) : StandsFrom s p 0 ↔ p <:+: s := by
  constructor
  · rintro ⟨j, _, _, h3⟩
    refine ⟨s.take j, (s.drop j).drop p.length, ?_⟩
    have e : (s.drop j) = p ++ (s.drop j).drop p.length := by
      conv => lhs; rw [← List.take_append_drop p.length (s.drop j)]
      rw [h3]
    rw [List.append_assoc, ← e, List.take_append_drop]
  · rintro ⟨a, b, rfl⟩
    refine ⟨a.length, Nat.zero_le _, by simp, ?_⟩
    simp [List.append_assoc]

open Classical in
theorem in_tells (s p : ByteArray) (hs : s.size ≤ 1152921504606846976) (hp : p.size ≤ 1152921504606846976) (k : Nat) (hk : s.size + 1 < k) :
    decanterref11_in.f k s p = some (decide (p.data.toList <:+: s.data.toList)) := by
  have := in_loop s p hs hp (s.size + 1) k 0 (by omega) (by omega) hk
  rw [decanterref11_in.f]
  have e : (0 : Int) = ((0 : Nat) : Int) := rfl
  rw [e, this]
  congr 1
  rw [decide_eq_decide]
  exact stands_infix _ _

/-- Words with a blank behind each. -/
def joined (ws : List (List UInt8)) : List UInt8 := (ws.map (· ++ [32])).flatten
/-- Two words without blanks, each with a blank behind: one begins the other just if they are one. -/
theorem word_prefix {x w t : List UInt8} (hx : 32 ∉ x) (hw : 32 ∉ w) : x ++ [32] <+: w ++ 32 :: t ↔ x = w := by
  constructor
  · intro h
    induction x generalizing w with
    | nil =>
      cases w with
      | nil => rfl
      | cons c w =>
        obtain ⟨r, hr⟩ := h
        simp at hr
        exact absurd (by rw [hr.1]; simp) hw
    | cons c x ih =>
      cases w with
      | nil =>
        obtain ⟨r, hr⟩ := h
        simp at hr
        exact absurd (by rw [hr.1]; simp) hx
      | cons c' w =>
        obtain ⟨r, hr⟩ := h
        simp at hr
        obtain ⟨rfl, hr⟩ := hr
        have e := ih (w := w) (fun hm => hx (by simp [hm])) (fun hm => hw (by simp [hm])) ⟨r, by simpa using hr⟩
        rw [e]
  · rintro rfl
    exact ⟨t, by simp⟩

theorem infix_skip {p w t : List UInt8} (hw : 32 ∉ w) : (32 :: p) <:+: w ++ t ↔ (32 :: p) <:+: t := by
  induction w with
  | nil => rfl
  | cons c w ih =>
    rw [List.cons_append, List.infix_cons_iff, ih (fun h => hw (by simp [h]))]
    constructor
    · rintro (⟨r, hr⟩ | h)
      · simp at hr
        exact absurd (by rw [hr.1]; simp) hw
      · exact h
    · exact .inr

/-- A word with blanks around it stands in words with blanks around them, just if it is one of them. -/
theorem word_in {x : List UInt8} (hx : 32 ∉ x) : ∀ (ws : List (List UInt8)), (∀ w ∈ ws, 32 ∉ w) → ((32 :: (x ++ [32])) <:+: 32 :: joined ws ↔ x ∈ ws)
  | [], _ => by
    constructor
    · rintro ⟨a, b, h⟩
      have := congrArg List.length h
      simp [joined] at this
      omega
    · intro h; cases h
  | w :: ws, hw => by
    have ih := word_in hx ws (fun v hv => hw v (by simp [hv]))
    have e : joined (w :: ws) = w ++ 32 :: joined ws := by simp [joined]
    rw [List.infix_cons_iff, e, infix_skip (hw w (by simp)), ih, List.mem_cons]
    constructor
    · rintro (h | h)
      · exact .inl ((word_prefix hx (hw w (by simp))).1 ((List.prefix_cons_inj 32).1 h))
      · exact .inr h
    · rintro (h | h)
      · exact .inl ((List.prefix_cons_inj 32).2 ((word_prefix hx (hw w (by simp))).2 h))
      · exact .inr h
end Go.Proofs.YteahlapoeiikoaaDoor.Pure
