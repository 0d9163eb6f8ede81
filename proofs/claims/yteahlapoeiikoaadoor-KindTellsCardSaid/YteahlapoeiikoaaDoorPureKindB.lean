/-
  The document's answer for chapter 11 (decanterref11): Is and Of, by the lists of words; and the program's table beside it. No condition but sizes.
-/
import Derived.Test.YteahlapoeiikoaaDoorPureKindA
namespace Go.Proofs.YteahlapoeiikoaaDoor.Pure
open Go.RowKit Go.Proofs.YteahlapoeiikoaaDoor.P Go.Proofs.YteahlapoeiikoaaDoorW.PrintWords Go.Proofs.YteahlapoeiikoaaDoorW.PrintLast

/-- The names of the k-th list. -/
def words : Nat → List (List UInt8)
  | 0 => [[97, 114, 101, 97], [98, 97, 115, 101], [98, 97, 115, 101, 102, 111, 110, 116], [98, 103, 115, 111, 117, 110, 100], [98, 114], [101, 109, 98, 101, 100], [104, 114], [105, 109, 103], [105, 110, 112, 117, 116], [107, 101, 121, 103, 101, 110], [108, 105, 110, 107], [109, 101, 116, 97], [112, 97, 114, 97, 109], [115, 111, 117, 114, 99, 101], [116, 114, 97, 99, 107], [119, 98, 114]]
  | 1 => [[97, 100, 100, 114, 101, 115, 115], [97, 114, 116, 105, 99, 108, 101], [97, 115, 105, 100, 101], [98, 108, 111, 99, 107, 113, 117, 111, 116, 101], [99, 101, 110, 116, 101, 114], [100, 100], [100, 101, 116, 97, 105, 108, 115], [100, 105, 97, 108, 111, 103], [100, 105, 114], [100, 105, 118], [100, 108], [100, 116], [102, 105, 101, 108, 100, 115, 101, 116], [102, 105, 103, 99, 97, 112, 116, 105, 111, 110], [102, 105, 103, 117, 114, 101], [102, 111, 111, 116, 101, 114], [102, 111, 114, 109], [104, 49], [104, 50], [104, 51], [104, 52], [104, 53], [104, 54], [104, 101, 97, 100, 101, 114], [104, 103, 114, 111, 117, 112], [104, 114], [108, 105], [108, 105, 115, 116, 105, 110, 103], [109, 97, 105, 110], [109, 101, 110, 117], [110, 97, 118], [111, 108], [112], [112, 108, 97, 105, 110, 116, 101, 120, 116], [112, 114, 101], [115, 101, 99, 116, 105, 111, 110], [115, 117, 109, 109, 97, 114, 121], [116, 97, 98, 108, 101], [117, 108], [120, 109, 112]]
  | 2 => [[104, 49], [104, 50], [104, 51], [104, 52], [104, 53], [104, 54]]
  | 3 => [[97], [98], [98, 105, 103], [99, 111, 100, 101], [101, 109], [102, 111, 110, 116], [105], [110, 111, 98, 114], [115], [115, 109, 97, 108, 108], [115, 116, 114, 105, 107, 101], [115, 116, 114, 111, 110, 103], [116, 116], [117]]
  | 4 => [[97, 100, 100, 114, 101, 115, 115], [97, 112, 112, 108, 101, 116], [97, 114, 101, 97], [97, 114, 116, 105, 99, 108, 101], [97, 115, 105, 100, 101], [98, 97, 115, 101], [98, 97, 115, 101, 102, 111, 110, 116], [98, 103, 115, 111, 117, 110, 100], [98, 108, 111, 99, 107, 113, 117, 111, 116, 101], [98, 114], [98, 117, 116, 116, 111, 110], [99, 101, 110, 116, 101, 114], [100, 100], [100, 101, 116, 97, 105, 108, 115], [100, 105, 114], [100, 105, 118], [100, 108], [100, 116], [101, 109, 98, 101, 100], [102, 105, 101, 108, 100, 115, 101, 116], [102, 105, 103, 99, 97, 112, 116, 105, 111, 110], [102, 105, 103, 117, 114, 101], [102, 111, 111, 116, 101, 114], [102, 111, 114, 109], [104, 49], [104, 50], [104, 51], [104, 52], [104, 53], [104, 54], [104, 101, 97, 100, 101, 114], [104, 103, 114, 111, 117, 112], [104, 114], [105, 102, 114, 97, 109, 101], [105, 109, 103], [105, 110, 112, 117, 116], [107, 101, 121, 103, 101, 110], [108, 105], [108, 105, 110, 107], [108, 105, 115, 116, 105, 110, 103], [109, 97, 105, 110], [109, 97, 114, 113, 117, 101, 101], [109, 101, 110, 117], [109, 101, 116, 97], [110, 97, 118], [110, 111, 101, 109, 98, 101, 100], [110, 111, 102, 114, 97, 109, 101, 115], [111, 98, 106, 101, 99, 116], [111, 108], [112], [112, 97, 114, 97, 109], [112, 108, 97, 105, 110, 116, 101, 120, 116], [112, 114, 101], [115, 99, 114, 105, 112, 116], [115, 101, 99, 116, 105, 111, 110], [115, 101, 108, 101, 99, 116], [115, 111, 117, 114, 99, 101], [115, 116, 121, 108, 101], [115, 117, 109, 109, 97, 114, 121], [116, 97, 98, 108, 101], [116, 101, 109, 112, 108, 97, 116, 101], [116, 101, 120, 116, 97, 114, 101, 97], [116, 105, 116, 108, 101], [116, 114, 97, 99, 107], [117, 108], [119, 98, 114], [120, 109, 112]]
  | 5 => [[97, 112, 112, 108, 101, 116], [109, 97, 114, 113, 117, 101, 101], [111, 98, 106, 101, 99, 116], [116, 97, 98, 108, 101], [116, 101, 109, 112, 108, 97, 116, 101]]
  | 6 => [[98, 111, 100, 121], [99, 97, 112, 116, 105, 111, 110], [99, 111, 108], [99, 111, 108, 103, 114, 111, 117, 112], [102, 114, 97, 109, 101], [102, 114, 97, 109, 101, 115, 101, 116], [104, 101, 97, 100], [104, 116, 109, 108], [116, 98, 111, 100, 121], [116, 100], [116, 102, 111, 111, 116], [116, 104], [116, 104, 101, 97, 100], [116, 114]]
  | 7 => [[100, 100], [100, 116], [108, 105], [111, 112, 116, 103, 114, 111, 117, 112], [111, 112, 116, 105, 111, 110], [112], [114, 98], [114, 112], [114, 116], [114, 116, 99]]
  | 8 => [[97, 112, 112, 108, 101, 116], [109, 97, 114, 113, 117, 101, 101], [111, 98, 106, 101, 99, 116]]
  | 9 => [[97], [97, 98, 98, 114], [97, 100, 100, 114, 101, 115, 115], [97, 114, 116, 105, 99, 108, 101], [97, 115, 105, 100, 101], [98], [98, 100, 105], [98, 100, 111], [98, 105, 103], [98, 108, 111, 99, 107, 113, 117, 111, 116, 101], [98, 114], [99, 101, 110, 116, 101, 114], [99, 105, 116, 101], [99, 111, 100, 101], [100, 100], [100, 101, 108], [100, 102, 110], [100, 105, 114], [100, 105, 118], [100, 108], [100, 116], [101, 109], [102, 105, 103, 99, 97, 112, 116, 105, 111, 110], [102, 105, 103, 117, 114, 101], [102, 111, 110, 116], [102, 111, 111, 116, 101, 114], [104, 49], [104, 50], [104, 51], [104, 52], [104, 53], [104, 54], [104, 101, 97, 100, 101, 114], [104, 114], [105], [105, 109, 103], [105, 110, 115], [107, 98, 100], [108, 105], [109, 97, 105, 110], [109, 97, 114, 107], [110, 97, 118], [111, 108], [112], [112, 114, 101], [113], [115], [115, 97, 109, 112], [115, 101, 99, 116, 105, 111, 110], [115, 109, 97, 108, 108], [115, 112, 97, 110], [115, 116, 114, 105, 107, 101], [115, 116, 114, 111, 110, 103], [115, 117, 98], [115, 117, 112], [116, 105, 109, 101], [116, 116], [117], [117, 108], [118, 97, 114], [119, 98, 114]]
  | _ => []

/-- The document's lists. -/
def refL : List ByteArray := (decanterref11_Lists.f).getD []
theorem lists_eq : decanterref11_Lists.f = some refL := rfl
set_option maxRecDepth 100000 in
theorem refL_len : refL.length = 10 := by decide +kernel
set_option maxRecDepth 100000 in
theorem refL_at : ∀ i : Fin 10, ((refL.getD i.1 ByteArray.empty).data.toList = 32 :: joined (words i.1)) ∧ (refL.getD i.1 ByteArray.empty).size ≤ 600 := by decide +kernel
set_option maxRecDepth 100000 in
theorem words_plain : ∀ i : Fin 10, ∀ w ∈ words i.1, (32 : UInt8) ∉ w ∧ w ≠ [] := by decide +kernel

/-- What lists i, .., i + d - 1 give to a name. -/
def sumF : Nat → Nat → List UInt8 → Int
  | 0, _, _ => 0
  | d + 1, i, l => (if l ∈ words i then 2 ^ i else 0) + sumF d (i + 1) l

set_option maxRecDepth 100000 in
theorem tab_sum : ∀ p ∈ ktab, p.2 = sumF 10 0 p.1 := by decide +kernel
set_option maxRecDepth 100000 in
theorem words_tab : ∀ i : Fin 10, ∀ w ∈ words i.1, ktab.any (fun p => p.1 == w) = true := by decide +kernel

theorem words_ge (i : Nat) (h : 10 ≤ i) : words i = [] := by
  unfold words
  split <;> first | omega | rfl

theorem not_words {l : List UInt8} (h : ktab.find? (fun p => p.1 == l) = none) (i : Nat) : l ∉ words i := by
  intro hm
  by_cases hi : i < 10
  · have h1 := words_tab ⟨i, hi⟩ l hm
    rw [List.any_eq_true] at h1
    obtain ⟨p, hp, he⟩ := h1
    have := List.find?_eq_none.1 h p hp
    exact this he
  · rw [words_ge i (by omega)] at hm
    cases hm

theorem sumF_none {l : List UInt8} (h : ∀ i, l ∉ words i) : ∀ d i, sumF d i l = 0
  | 0, _ => rfl
  | d + 1, i => by rw [sumF, if_neg (h i), sumF_none h d (i + 1)]; rfl

theorem kind_sum (x : ByteArray) : kindOf x = sumF 10 0 x.data.toList := by
  unfold kindOf
  cases h : ktab.find? (fun p => p.1 == x.data.toList) with
  | none => exact (sumF_none (not_words h) 10 0).symm
  | some p =>
    have h1 := List.mem_of_find?_eq_some h
    have h2 := List.find?_some h
    have h3 : p.1 = x.data.toList := by simpa using h2
    rw [← h3]
    exact tab_sum p h1

theorem sumF_range : ∀ d i l, 0 ≤ sumF d i l ∧ sumF d i l ≤ 2 ^ (i + d) - 2 ^ i
  | 0, i, l => by simp [sumF]
  | d + 1, i, l => by
    have ih := sumF_range d (i + 1) l
    have e1 : (2 : Int) ^ (i + 1) = 2 * 2 ^ i := by rw [Int.pow_succ]; omega
    have e2 : i + 1 + d = i + (d + 1) := by omega
    have e3 : (0 : Int) < 2 ^ i := Int.pow_pos (by decide)
    rw [e2] at ih
    rw [sumF]
    split <;> omega

theorem kind_range (x : ByteArray) : 0 ≤ kindOf x ∧ kindOf x ≤ 1023 := by
  rw [kind_sum]
  have := sumF_range 10 0 x.data.toList
  simpa using this

theorem one_word {x : ByteArray} (h : oneB x = true) : 0 < x.size ∧ (32 : UInt8) ∉ x.data.toList := by
  unfold oneB at h
  rw [Bool.and_eq_true, decide_eq_true_eq, List.all_eq_true] at h
  exact ⟨h.1, fun hm => by simpa using h.2 32 hm⟩

theorem refIs (x : ByteArray) (hx : x.size ≤ 1152921504606846000) (i : Nat) (hi : i < 10) (k : Nat) (hk : x.size + 1000 ≤ k) :
    decanterref11_Is.f k x (i : Int) = some (decide (x.data.toList ∈ words i)) := by
  obtain ⟨hL, hS⟩ := refL_at ⟨i, hi⟩
  dsimp only at hL hS
  rw [decanterref11_Is.f, one_tells x (by omega) k (by omega)]
  simp only [Option.bind_some]
  cases h1 : oneB x with
  | false =>
    rw [if_neg (by decide)]
    have : x.data.toList ∉ words i := by
      intro hm
      have h2 := words_plain ⟨i, hi⟩ _ hm
      have h3 : oneB x = true := by
        unfold oneB
        rw [Bool.and_eq_true, decide_eq_true_eq, List.all_eq_true]
        refine ⟨?_, fun c hc => ?_⟩
        · rw [Lib.size_eq]
          exact List.length_pos_iff.2 h2.2
        · have : c ≠ 32 := fun e => h2.1 (e ▸ hc)
          simpa using this
      rw [h1] at h3
      cases h3
    simp [this]
  | true =>
    obtain ⟨h0, h32⟩ := one_word h1
    have e32 : (⟨#[32]⟩ : ByteArray).size = 1 := rfl
    rw [if_pos rfl, lists_eq]
    simp only [Option.bind_some]
    rw [if_pos (by omega), if_pos (by rw [refL_len]; omega), if_pos (by omega), if_pos (by rw [ByteArray.size_append, e32]; omega)]
    have er : rdOf ByteArray.empty refL (i : Int) = refL.getD i ByteArray.empty := by unfold rdOf; rw [Int.toNat_natCast]
    rw [er, in_tells _ _ (by omega) (by rw [ByteArray.size_append, ByteArray.size_append, e32]; omega) k (by omega)]
    simp only [Option.bind_some]
    congr 1
    rw [decide_eq_decide, data_append, data_append, hL]
    exact word_in h32 (words i) (fun w hw => (words_plain ⟨i, hi⟩ w hw).1)

theorem refOf_loop (x : ByteArray) (hx : x.size ≤ 1152921504606846000) (d : Nat) : ∀ (k i : Nat) (n : Int), i + d = 10 → 0 ≤ n → n < 2 ^ i → x.size + 1000 + d < k →
    decanterref11_Of.l0 k x n (2 ^ i) refL (i : Int) = some (n + sumF d i x.data.toList) := by
  induction d with
  | zero =>
    intro k i n hi h0 h1 hk
    obtain ⟨k, rfl⟩ : ∃ m, k = m + 1 := ⟨k - 1, by omega⟩
    simp only [decanterref11_Of.l0]
    rw [if_neg (by rw [refL_len]; omega), sumF, Int.add_zero]
  | succ d ih =>
    intro k i n hi h0 h1 hk
    obtain ⟨k, rfl⟩ : ∃ m, k = m + 1 := ⟨k - 1, by omega⟩
    have hp : (2 : Int) ^ i ≤ 512 := by
      have : i ≤ 9 := by omega
      match i, this with
      | 0, _ | 1, _ | 2, _ | 3, _ | 4, _ | 5, _ | 6, _ | 7, _ | 8, _ | 9, _ => decide
    have hq : (0 : Int) < 2 ^ i := Int.pow_pos (by decide)
    have e1 : (2 : Int) ^ i * 2 = 2 ^ (i + 1) := (Int.pow_succ _ _).symm
    have e2 : ((i : Int) + 1) = ((i + 1 : Nat) : Int) := by omega
    simp only [decanterref11_Of.l0]
    rw [if_pos (by rw [refL_len]; omega), refIs x hx i (by omega) k (by omega)]
    simp only [Option.bind_some]
    rw [wrap_id (by omega) (by omega), wrap_id (by omega) (by omega), wrap_id (by omega) (by omega), e1, e2, sumF]
    by_cases hm : x.data.toList ∈ words i
    · rw [if_pos (by simpa using hm), if_pos hm, ih k (i + 1) (n + 2 ^ i) (by omega) (by omega) (by omega) (by omega)]
      congr 1
      omega
    · rw [if_neg (by simpa using hm), if_neg hm, ih k (i + 1) n (by omega) (by omega) (by omega) (by omega)]
      congr 1
      omega

theorem refOf (x : ByteArray) (hx : x.size ≤ 1152921504606846000) (k : Nat) (hk : x.size + 1020 ≤ k) : decanterref11_Of.f k x = some (kindOf x) := by
  rw [decanterref11_Of.f, lists_eq]
  simp only [Option.bind_some]
  have := refOf_loop x hx 10 k 0 0 (by omega) (by omega) (by decide) (by omega)
  rw [kind_sum]
  simpa using this
end Go.Proofs.YteahlapoeiikoaaDoor.Pure
