/- Several texts, one behind the other. -/
import Derived.Test.YteahlapoeiikoaaDoorJoin14
import Derived.Test.YteahlapoeiikoaaDoorJoin12
import Derived.Test.YteahlapoeiikoaaDoorKindsC
import Derived.KernelRfl
import Derived.Test.YteahlapoeiikoaaDoorJoin13

/-
  The document's answer for chapter 11 (decanterref11): Is and Of, by the lists of words; and the program's table beside it. No condition but sizes.
-/

namespace Go.Proofs.YteahlapoeiikoaaDoor.Pure
open Go.RowKit Go.Proofs.YteahlapoeiikoaaDoor.P Go.Proofs.YteahlapoeiikoaaDoorW.PrintWords Go.Proofs.YteahlapoeiikoaaDoorW.PrintLast

/-- The names of the k-th list. -/
def words : Nat → List (List UInt8)
  | 0 => [[97, 114, 101, 97], [98, 97, 115, 101], [98, 97, 115, 101, 102, 111, 110, 116], [98, 103, 115, 111, 117, 110, 100], [98, 114], [101, 109, 98, 101, 100], [104, 114], [105, 109, 103], [105, 110, 112, 117, 116], [107, 101, 121, 103, 101, 110], [108, 105, 110, 107], [109, 101, 116, 97], [112, 97, 114, 97, 109], [115, 111, 117, 114, 99, 101], [116, 114, 97, 99, 107], [119, 98, 114]]
  | 1 => [[97, 100, 100, 114, 101, 115, 115], [97, 114, 116, 105, 99, 108, 101], [97, 115, 105, 100, 101], [98, 108, 111, 99, 107, 113, 117, 111, 116, 101], [99, 101, 110, 116, 101, 114], [100, 100], [100, 101, 116, 97, 105, 108, 115], [100, 105, 97, 108, 111, 103], [100, 105, 114], [100, 105, 118], [100, 108], [100, 116], [102, 105, 101, 108, 100, 115, 101, 116], [102, 105, 103, 99, 97, 112, 116, 105, 111, 110], [102, 105, 103, 117, 114, 101], [102, 111, 111, 116, 101, 114], [102, 111, 114, 109], [104, 49], [104, 50], [104, 51], [104, 52], [104, 53], [104, 54], [104, 101, 97, 100, 101, 114], [104, 103, 114, 111, 117, 112], [104, 114], [108, 105], [108, 105, 115, 116, 105, 110, 103], [109, 97, 105, 110], [109, 101, 110, 117], [110, 97, 118], [111, 108], [112], [112, 108, 97, 105, 110, 116, 101, 120, 116], [112, 114, 101], [115, 101, 99, 116, 105, 111, 110], [115, 117, 109, 109, 97, 114, 121], [116, 97, 98, 108, 101], [117, 108], [120, 109, 112]]
  | 2 => [[104, 49], [104, 50], [104, 51], [104, 52], [104, 53], [104, 54]]
  | 3 => [[97], [98], [98, 105, 103], [99, 111, 100, 101], [101, 109], [102, 111, 110, 116], [105], [110, 111, 98, 114], [115], [115, 109, 97, 108, 108], [115, 116, 114, 105, 107, 101], [115, 116, 114, 111, 110, 103], [116, 116], [117]]
  | 4 => [[97, 100, 100, 114, 101, 115, 115], [97, 112, 112, 108, 101, 116], [97, 114, 101, 97], [97, 114, 116, 105, 99, 108, 101], [97, 115, 105, 100, 101], [98, 97, 115, 101], [98, 97, 115, 101, 102, 111, 110, 116], [98, 103, 115, 111, 117, 110, 100], [98, 108, 111, 99, 107, 113, 117, 111, 116, 101], [98, 114], [98, 117, 116, 116, 111, 110], [99, 101, 110, 116, 101, 114], [100, 100], [100, 101, 116, 97, 105, 108, 115], [100, 105, 114], [100, 105, 118], [100, 108], [100, 116], [101, 109, 98, 101, 100], [102, 105, 101, 108, 100, 115, 101, 116], [102, 105, 103, 99, 97, 112, 116, 105, 111, 110], [102, 105, 103, 117, 114, 101], [102, 111, 111, 116, 101, 114], [102, 111, 114, 109], [104, 49], [104, 50], [104, 51], [104, 52], [104, 53], [104, 54], [104, 101, 97, 100, 101, 114], [104, 103, 114, 111, 117, 112], [104, 114], [105, 102, 114, 97, 109, 101], [105, 109, 103], [105, 110, 112, 117, 116], [107, 101, 121, 103, 101, 110], [108, 105], [108, 105, 110, 107], [108, 105, 115, 116, 105, 110, 103], [109, 97, 105, 110], [109, 97, 114, 113, 117, 101, 101], [109, 101, 110, 117], [109, 101, 116, 97], [110, 97, 118], [110, 111, 101, 109, 98, 101, 100], [110, 111, 102, 114, 97, 109, 101, 115], [111, 98, 106, 101, 99, 116], [111, 108], [112], [112, 97, 114, 97, 109], [112, 108, 97, 105, 110, 116, 101, 120, 116], [112, 114, 101], [115, 99, 114, 105, 112, 116], [115, 101, 99, 116, 105, 111, 110], [115, 101, 108, 101, 99, 116], [115, 111, 117, 114, 99, 101], [115, 116, 121, 108, 101], [115, 117, 109, 109, 97, 114, 121], [116, 97, 98, 108, 101], [116, 101, 109, 112, 108, 97, 116, 101], [116, 101, 120, 116, 97, 114, 101, 97], [116, 105, 116, 108, 101], [116, 114, 97, 99, 107], [117, 108], [119, 98, 114], [120, 109, 112]]
  | 5 => [[97, 112, 112, 108, 101, 116], [109, 97, 114, 113, 117, 101, 101], [111, 98, 106, 101, 99, 116], [116, 97, 98, 108, 101], [116, 101, 109, 112, 108, 97, 116, 101]]
  | 6 => [[98, 111, 100, 121], [99, 97, 112, 116, 105, 111, 110], [99, 111, 108], [99, 111, 108, 103, 114, 111, 117, 112], [102, 114, 97, 109, 101], [102, 114, 97, 109, 101, 115, 101, 116], [104, 101, 97, 100], [104, 116, 109, 108], [116, 98, 111, 100, 121], [116, 100], [116, 102, 111, 111, 116], [116, 104], [116, 104, 101, 97, 100], [116, 114]]
  | 7 => [[100, 100], [100, 116], [108, 105], [111, 112, 116, 103, 114, 111, 117, 112], [111, 112, 116, 105, 111, 110], [112], [114, 98], [114, 112], [114, 116], [114, 116, 99]]
  | 8 => [[97, 112, 112, 108, 101, 116], [109, 97, 114, 113, 117, 101, 101], [111, 98, 106, 101, 99, 116]]
  | 9 => [[97], [97, 98, 98, 114], [97, 100, 100, 114, 101, 115, 115], [97, 114, 116, 105, 99, 108, 101], [97, 115, 105, 100, 101], [98], [98, 100, 105], [98, 100, 111], [98, 105, 103], [98, 108, 111, 99, 107, 113, 117, 111, 116, 101], [98, 114], [99, 101, 110, 116, 101, 114], [99, 105, 116, 101], [99, 111, 100, 101], [100, 100], [100, 101, 108], [100, 102, 110], [100, 105, 114], [100, 105, 118], [100, 108], [100, 116], [101, 109], [102, 105, 103, 99, 97, 112, 116, 105, 111, 110], [102, 105, 103, 117, 114, 101], [102, 111, 110, 116], [102, 111, 111, 116, 101, 114], [104, 49], [104, 50], [104, 51], [104, 52], [104, 53], [104, 54], [104, 101, 97, 100, 101, 114], [104, 114], [105], [105, 109, 103], [105, 110, 115], [107, 98, 100], [108, 105], [109, 97, 105, 110], [109, 97, 114, 107], [110, 97, 118], [111, 108], [112], [112, 114, 101], [113], [115], [115, 97, 109, 112], [115, 101, 99, 116, 105, 111, 110], [115, 109, 97, 108, 108], [115, 112, 97, 110], [115, 116, 114, 105, 107, 101], [115, 116, 114, 111, 110, 103], [115, 117, 98], [115, 117, 112], [116, 105, 109, 101], [116, 116], [117], [117, 108], [118, 97, 114], [119, 98, 114]]
  | _ => []

/-- The document's lists. -/
def refL : List ByteArray := (decanterref11_Lists.f).getD []
theorem lists_eq : decanterref11_Lists.f = some refL := rfl
set_option maxRecDepth 100000 in
theorem refL_len : refL.length = 10 := by decide +kernel
set_option maxRecDepth 100000 in
theorem refL_at : ∀ i : Fin 10, ((refL.getD i.1 ByteArray.empty).data.toList = 32 :: joined (words i.1)) ∧ (refL.getD i.1 ByteArray.empty).size ≤ 600 := by decide +kernel
set_option maxRecDepth 100000 in
theorem words_plain : ∀ i : Fin 10, ∀ w ∈ words i.1, (32 : UInt8) ∉ w ∧ w ≠ [] := by decide +kernel

/-- What lists i, .., i + d - 1 give to a name. -/
def sumF : Nat → Nat → List UInt8 → Int
  | 0, _, _ => 0
  | d + 1, i, l => (if l ∈ words i then 2 ^ i else 0) + sumF d (i + 1) l

set_option maxRecDepth 100000 in
theorem tab_sum : ∀ p ∈ ktab, p.2 = sumF 10 0 p.1 := by decide +kernel
set_option maxRecDepth 100000 in
theorem words_tab : ∀ i : Fin 10, ∀ w ∈ words i.1, ktab.any (fun p => p.1 == w) = true := by decide +kernel

theorem words_ge (i : Nat) (h : 10 ≤ i) : words i = [] := by
  unfold words
  split <;> first | omega | rfl

theorem not_words {l : List UInt8} (h : ktab.find? (fun p => p.1 == l) = none) (i : Nat) : l ∉ words i := by
  intro hm
  by_cases hi : i < 10
  · have h1 := words_tab ⟨i, hi⟩ l hm
    rw [List.any_eq_true] at h1
    obtain ⟨p, hp, he⟩ := h1
    have := List.find?_eq_none.1 h p hp
    exact this he
  · rw [words_ge i (by omega)] at hm
    cases hm

theorem sumF_none {l : List UInt8} (h : ∀ i, l ∉ words i) : ∀ d i, sumF d i l = 0
  | 0, _ => rfl
  | d + 1, i => by rw [sumF, if_neg (h i), sumF_none h d (i + 1)]; rfl

theorem kind_sum (x : ByteArray) : kindOf x = sumF 10 0 x.data.toList := by
  unfold kindOf
  cases h : ktab.find? (fun p => p.1 == x.data.toList) with
  | none => exact (sumF_none (not_words h) 10 0).symm
  | some p =>
    have h1 := List.mem_of_find?_eq_some h
    have h2 := List.find?_some h
    have h3 : p.1 = x.data.toList := by simpa using h2
    rw [← h3]
    exact tab_sum p h1

theorem sumF_range : ∀ d i l, 0 ≤ sumF d i l ∧ sumF d i l ≤ 2 ^ (i + d) - 2 ^ i
  | 0, i, l => by simp [sumF]
  | d + 1, i, l => by
    have ih := sumF_range d (i + 1) l
    have e1 : (2 : Int) ^ (i + 1) = 2 * 2 ^ i := by rw [Int.pow_succ]; omega
    have e2 : i + 1 + d = i + (d + 1) := by omega
    have e3 : (0 : Int) < 2 ^ i := Int.pow_pos (by decide)
    rw [e2] at ih
    rw [sumF]
    split <;> omega

theorem kind_range (x : ByteArray) : 0 ≤ kindOf x ∧ kindOf x ≤ 1023 := by
  rw [kind_sum]
  have := sumF_range 10 0 x.data.toList
  simpa using this

theorem one_word {x : ByteArray} (h : oneB x = true) : 0 < x.size ∧ (32 : UInt8) ∉ x.data.toList := by
  unfold oneB at h
  rw [Bool.and_eq_true, decide_eq_true_eq, List.all_eq_true] at h
  exact ⟨h.1, fun hm => by simpa using h.2 32 hm⟩

theorem refIs (x : ByteArray) (hx : x.size ≤ 1152921504606846000) (i : Nat) (hi : i < 10) (k : Nat) (hk : x.size + 1000 ≤ k) :
    decanterref11_Is.f k x (i : Int) = some (decide (x.data.toList ∈ words i)) := by
  obtain ⟨hL, hS⟩ := refL_at ⟨i, hi⟩
  dsimp only at hL hS
  rw [decanterref11_Is.f, one_tells x (by omega) k (by omega)]
  simp only [Option.bind_some]
  cases h1 : oneB x with
  | false =>
    rw [if_neg (by decide)]
    have : x.data.toList ∉ words i := by
      intro hm
      have h2 := words_plain ⟨i, hi⟩ _ hm
      have h3 : oneB x = true := by
        unfold oneB
        rw [Bool.and_eq_true, decide_eq_true_eq, List.all_eq_true]
        refine ⟨?_, fun c hc => ?_⟩
        · rw [Lib.size_eq]
          exact List.length_pos_iff.2 h2.2
        · have : c ≠ 32 := fun e => h2.1 (e ▸ hc)
          simpa using this
      rw [h1] at h3
      cases h3
    simp [this]
  | true =>
    obtain ⟨h0, h32⟩ := one_word h1
    have e32 : (⟨#[32]⟩ : ByteArray).size = 1 := rfl
    rw [if_pos rfl, lists_eq]
    simp only [Option.bind_some]
    rw [if_pos (by omega), if_pos (by rw [refL_len]; omega), if_pos (by omega), if_pos (by rw [ByteArray.size_append, e32]; omega)]
    have er : rdOf ByteArray.empty refL (i : Int) = refL.getD i ByteArray.empty := by unfold rdOf; rw [Int.toNat_natCast]
    rw [er, in_tells _ _ (by omega) (by rw [ByteArray.size_append, ByteArray.size_append, e32]; omega) k (by omega)]
    simp only [Option.bind_some]
    congr 1
    rw [decide_eq_decide, data_append, data_append, hL]
    exact word_in h32 (words i) (fun w hw => (words_plain ⟨i, hi⟩ w hw).1)

theorem refOf_loop (x : ByteArray) (hx : x.size ≤ 1152921504606846000) (d : Nat) : ∀ (k i : Nat) (n : Int), i + d = 10 → 0 ≤ n → n < 2 ^ i → x.size + 1000 + d < k →
    decanterref11_Of.l0 k x n (2 ^ i) refL (i : Int) = some (n + sumF d i x.data.toList) := by
  induction d with
  | zero =>
    intro k i n hi h0 h1 hk
    obtain ⟨k, rfl⟩ : ∃ m, k = m + 1 := ⟨k - 1, by omega⟩
    simp only [decanterref11_Of.l0]
    rw [if_neg (by rw [refL_len]; omega), sumF, Int.add_zero]
  | succ d ih =>
    intro k i n hi h0 h1 hk
    obtain ⟨k, rfl⟩ : ∃ m, k = m + 1 := ⟨k - 1, by omega⟩
    have hp : (2 : Int) ^ i ≤ 512 := by
      have : i ≤ 9 := by omega
      match i, this with
      | 0, _ | 1, _ | 2, _ | 3, _ | 4, _ | 5, _ | 6, _ | 7, _ | 8, _ | 9, _ => decide
    have hq : (0 : Int) < 2 ^ i := Int.pow_pos (by decide)
    have e1 : (2 : Int) ^ i * 2 = 2 ^ (i + 1) := (Int.pow_succ _ _).symm
    have e2 : ((i : Int) + 1) = ((i + 1 : Nat) : Int) := by omega
    simp only [decanterref11_Of.l0]
    rw [if_pos (by rw [refL_len]; omega), refIs x hx i (by omega) k (by omega)]
    simp only [Option.bind_some]
    rw [wrap_id (by omega) (by omega), wrap_id (by omega) (by omega), wrap_id (by omega) (by omega), e1, e2, sumF]
    by_cases hm : x.data.toList ∈ words i
    · rw [if_pos (by simpa using hm), if_pos hm, ih k (i + 1) (n + 2 ^ i) (by omega) (by omega) (by omega) (by omega)]
      congr 1
      omega
    · rw [if_neg (by simpa using hm), if_neg hm, ih k (i + 1) n (by omega) (by omega) (by omega) (by omega)]
      congr 1
      omega

theorem refOf (x : ByteArray) (hx : x.size ≤ 1152921504606846000) (k : Nat) (hk : x.size + 1020 ≤ k) : decanterref11_Of.f k x = some (kindOf x) := by
  rw [decanterref11_Of.f, lists_eq]
  simp only [Option.bind_some]
  have := refOf_loop x hx 10 k 0 0 (by omega) (by omega) (by decide) (by omega)
  rw [kind_sum]
  simpa using this
end Go.Proofs.YteahlapoeiikoaaDoor.Pure


-- Printed by a program of this session (wip/myprint.py over the kit's print).
namespace Go.Proofs.YteahlapoeiikoaaDoor.P
open Go.RowKit Go.Proofs.YteahlapoeiikoaaDoorW.PrintWords Go.Proofs.YteahlapoeiikoaaDoorW.PrintLast Go.Proofs.YteahlapoeiikoaaDoorW.PrintMore
attribute [local go_sem] max2_int min2_int max_two min_two max_three min_three max_four min_four   -- for this text's walks alone
set_option linter.unusedVariables false
set_option linter.unusedSimpArgs false

/-! ### decanterlaw11_KindTells: function 3 -/
def decanterlaw11_KindTells.j0 : Nat → ByteArray → Int → Bool → Option (Bool)
  | 0, _, _, _ => none
  | k + 1, x0, x1, x12 => if x12 = true then ((decanterlaw11_speaks.f).bind fun t118 => (some t118)) else ((decanterref11_Of.f k x0).bind fun t119 => ((kind_Of.f x0).bind fun t120 => (if t120 = t119 then ((kind_Is.f x0 x1).bind fun t121 => (some (t121 == ((Go.bits .and .i64 t119 x1) != 0)))) else (some false))))
def decanterlaw11_KindTells.f (k : Nat) (a0 : ByteArray) (a1 : Int) : Option (Bool) := (decanterlaw11_speaks.f).bind fun t117 => (if t117 = true then (decanterlaw11_KindTells.j0 k a0 a1 (decide ((a0.size : Int) > 60))) else (decanterlaw11_KindTells.j0 k a0 a1 true))
theorem decanterlaw11_KindTells.mono_l : ∀ k, (∀ y0 y1 y2, LeO (decanterlaw11_KindTells.j0 k y0 y1 y2) (decanterlaw11_KindTells.j0 (k + 1) y0 y1 y2))
  | 0 => fun _ _ _ r h => by simp [decanterlaw11_KindTells.j0] at h
  | k + 1 => by
    have ih0 := decanterlaw11_KindTells.mono_l k
    · intro y0 y1 y2
      unfold decanterlaw11_KindTells.j0
      repeat' first
      | (with_reducible exact ih0 _ _ _)
      | (with_reducible exact decanterref11_Of.mono _ _)
      | (with_reducible exact LeO.refl _)
      | (with_reducible exact LeO.none _)
      | (with_reducible refine LeO.ite ?_ ?_)
      | (with_reducible refine LeO.bind ?_ (fun _ => ?_))
      | exact ih0 _ _ _
      | exact decanterref11_Of.mono _ _
      | exact LeO.none _
      | refine LeO.ite ?_ ?_
      | refine LeO.bind ?_ (fun _ => ?_)
theorem decanterlaw11_KindTells.mono : ∀ a0 a1 k, LeO (decanterlaw11_KindTells.f k a0 a1) (decanterlaw11_KindTells.f (k + 1) a0 a1) := by
  intro a0 a1 k
  have ih0 := decanterlaw11_KindTells.mono_l k
  unfold decanterlaw11_KindTells.f
  repeat' first
      | (with_reducible exact ih0 _ _ _)
      | (with_reducible exact decanterref11_Of.mono _ _)
      | (with_reducible exact LeO.refl _)
      | (with_reducible exact LeO.none _)
      | (with_reducible refine LeO.ite ?_ ?_)
      | (with_reducible refine LeO.bind ?_ (fun _ => ?_))
      | exact ih0 _ _ _
      | exact decanterref11_Of.mono _ _
      | exact LeO.none _
      | refine LeO.ite ?_ ?_
      | refine LeO.bind ?_ (fun _ => ?_)
set_option maxHeartbeats 8000000 in
set_option maxRecDepth 100000 in
theorem decanterlaw11_KindTells.calls (k : Nat) (a0 : ByteArray) (a1 : Int) (r : Bool) (w : World) (hG : GW w) (h : decanterlaw11_KindTells.f k a0 a1 = some r) :
    Calls Tryd.prog 3 #[.string a0, .int .i64 a1] w fun e w' => e = .returned (.bool r) ∧ Below w.heap.size w w' := by
  have HG := Aside0.mk hG
  clear hG
  have HB := Aside0.mk (Below.refl w.heap.size w)
  have H : ((decanterlaw11_speaks.f).bind fun t117 => (if t117 = true then (decanterlaw11_KindTells.j0 k a0 a1 (decide ((a0.size : Int) > 60))) else (decanterlaw11_KindTells.j0 k a0 a1 true))) = some r := h
  clear h
  have HC3 := Aside0.mk H
  clear H
  go_enter Tryd.func3, Tryd.ntmps3
  go_upto_region 1 with (fail)
  go_cut [12] (fun v12 wc => ∃ (kq : Nat) (x12_2 : Bool), v12 = .bool x12_2 ∧ Aside0 (decanterlaw11_KindTells.j0 kq a0 a1 x12_2 = some r) ∧ Aside0 (kq ≤ k) ∧ Aside0 (Below w.heap.size w wc))
  case first =>
    have H := HC3.out
    clear HC3
    replace H := Option.bind_eq_some_iff.mp H
    obtain ⟨t117, A40, H⟩ := H
    replace H : (if t117 = true then (decanterlaw11_KindTells.j0 k a0 a1 (decide ((a0.size : Int) > 60))) else (decanterlaw11_KindTells.j0 k a0 a1 true)) = some r := H
    have A4 := Aside0.mk A40
    clear A40
    by_cases c5 : t117 = true
    · subst c5
      have H1 : (decanterlaw11_KindTells.j0 k a0 a1 (decide ((a0.size : Int) > 60))) = some r := by rw [if_pos rfl] at H; exact H
      clear H
      have H := H1
      clear H1
      have H' := Aside0.mk H
      clear H
      go_wp2_with (first | ((with_reducible refine gate_callee (f := 13) rfl ?_); refine goesL_ (some 6) rfl rfl Tryd.func13 (by kernel_rfl) rfl #[] rfl (by (try simp only [List.map_toArray, List.map_cons, List.map_nil]); first | done | rfl | (simp only [List.length_drop, List.length_take]; rfl)) ?_; (with_reducible refine (decanterlaw11_speaks.calls  true _ ?side1 A4.out).mono ?_); (case side1 => exact GW.below HG.out (by repeat (first | (with_reducible first | exact HB.out | apply below_alloc | apply pw_below_drewN | apply below_drew1) | exact HB.out))); rintro e w6 ⟨rfl, hb⟩; refine ⟨_, rfl, ?_⟩; have n0_ := Aside0.mk (below_step (by repeat (first | (with_reducible first | exact HB.out | apply below_alloc | apply pw_below_drewN | apply below_drew1) | exact HB.out)) hb); clear HB; have HB := n0_; clear n0_; (try clear hb); (try clear hb2); (try clear hk); (try clear hi)))
      go_meet
      case rel => exact ⟨_, (decide ((a0.size : Int) > 60)), (by first | rfl | (simp; done) | (simp [*]; done)), H', ⟨by first | omega | exact Nat.le_refl _⟩, ⟨by repeat (first | (with_reducible first | exact HB.out | apply below_alloc | apply pw_below_drewN | apply below_drew1) | exact HB.out)⟩⟩
    · replace c5 := Bool.eq_false_iff.mpr c5
      subst c5
      have H1 : (decanterlaw11_KindTells.j0 k a0 a1 true) = some r := by rw [if_neg (show ¬ (false = true) by decide)] at H; exact H
      clear H
      have H := H1
      clear H1
      have H' := Aside0.mk H
      clear H
      go_wp2_with (first | ((with_reducible refine gate_callee (f := 13) rfl ?_); refine goesL_ (some 6) rfl rfl Tryd.func13 (by kernel_rfl) rfl #[] rfl (by (try simp only [List.map_toArray, List.map_cons, List.map_nil]); first | done | rfl | (simp only [List.length_drop, List.length_take]; rfl)) ?_; (with_reducible refine (decanterlaw11_speaks.calls  false _ ?side1 A4.out).mono ?_); (case side1 => exact GW.below HG.out (by repeat (first | (with_reducible first | exact HB.out | apply below_alloc | apply pw_below_drewN | apply below_drew1) | exact HB.out))); rintro e w7 ⟨rfl, hb⟩; refine ⟨_, rfl, ?_⟩; have n0_ := Aside0.mk (below_step (by repeat (first | (with_reducible first | exact HB.out | apply below_alloc | apply pw_below_drewN | apply below_drew1) | exact HB.out)) hb); clear HB; have HB := n0_; clear n0_; (try clear hb); (try clear hb2); (try clear hk); (try clear hi)))
      go_meet
      case rel => exact ⟨_, (true), (by first | rfl | (simp; done) | (simp [*]; done)), H', ⟨by first | omega | exact Nat.le_refl _⟩, ⟨by repeat (first | (with_reducible first | exact HB.out | apply below_alloc | apply pw_below_drewN | apply below_drew1) | exact HB.out)⟩⟩
  case rest =>
    clear HC3
    try clear c1
    try clear p2
    try clear c3
    try clear c5
    obtain ⟨kq, x12_2, rfl, HA, HJ2, HB⟩ := hcut
    cases kq with
    | zero => exact absurd HA.out (by simp [decanterlaw11_KindTells.j0])
    | succ kj2 =>
      have H := HA.out
      clear HA
      simp only [decanterlaw11_KindTells.j0] at H
      by_cases c8 : x12_2 = true
      · subst c8
        have H1 : ((decanterlaw11_speaks.f).bind fun t118 => (some t118)) = some r := by rw [if_pos rfl] at H; exact H
        clear H
        have H := H1
        clear H1
        replace H := Option.bind_eq_some_iff.mp H
        obtain ⟨t118, A90, H⟩ := H
        replace H : (some t118) = some r := H
        have A9 := Aside0.mk A90
        clear A90
        obtain rfl := Option.some.inj H
        go_wp2_with (first | ((with_reducible refine gate_callee (f := 13) rfl ?_); refine goesL_ (some 13) rfl rfl Tryd.func13 (by kernel_rfl) rfl #[] rfl (by (try simp only [List.map_toArray, List.map_cons, List.map_nil]); first | done | rfl | (simp only [List.length_drop, List.length_take]; rfl)) ?_; (with_reducible refine (decanterlaw11_speaks.calls  t118 _ ?side1 A9.out).mono ?_); (case side1 => exact GW.below HG.out (by repeat (first | (with_reducible first | exact HB.out | apply below_alloc | apply pw_below_drewN | apply below_drew1) | exact HB.out))); rintro e w10 ⟨rfl, hb⟩; refine ⟨_, rfl, ?_⟩; have n0_ := Aside0.mk (below_step (by repeat (first | (with_reducible first | exact HB.out | apply below_alloc | apply pw_below_drewN | apply below_drew1) | exact HB.out)) hb); clear HB; have HB := n0_; clear n0_; (try clear hb); (try clear hb2); (try clear hk); (try clear hi)))
        go_ret
        exact ⟨by first | rfl | (simp [errW_none, errW_some] <;> rfl) | (simp [*, errW_none, errW_some] <;> rfl), by repeat (first | (with_reducible first | exact HB.out | apply below_alloc | apply pw_below_drewN | apply below_drew1) | exact HB.out)⟩
      · replace c8 := Bool.eq_false_iff.mpr c8
        subst c8
        have H1 : ((decanterref11_Of.f kj2 a0).bind fun t119 => ((kind_Of.f a0).bind fun t120 => (if t120 = t119 then ((kind_Is.f a0 a1).bind fun t121 => (some (t121 == ((Go.bits .and .i64 t119 a1) != 0)))) else (some false)))) = some r := by rw [if_neg (show ¬ (false = true) by decide)] at H; exact H
        clear H
        have H := H1
        clear H1
        replace H := Option.bind_eq_some_iff.mp H
        obtain ⟨t119, A110, H⟩ := H
        replace H : ((kind_Of.f a0).bind fun t120 => (if t120 = t119 then ((kind_Is.f a0 a1).bind fun t121 => (some (t121 == ((Go.bits .and .i64 t119 a1) != 0)))) else (some false))) = some r := H
        have A11 := Aside0.mk A110
        clear A110
        replace H := Option.bind_eq_some_iff.mp H
        obtain ⟨t120, A120, H⟩ := H
        replace H : (if t120 = t119 then ((kind_Is.f a0 a1).bind fun t121 => (some (t121 == ((Go.bits .and .i64 t119 a1) != 0)))) else (some false)) = some r := H
        have A12 := Aside0.mk A120
        clear A120
        by_cases c13 : t120 = t119
        · rw [if_pos c13] at H
          have c13b0 : (t120 == t119) = true := beq_iff_eq.mpr c13
          have c13b1 : (t120 != t119) = false := bne_eq_false_iff_eq.mpr c13
          clear c13
          replace H := Option.bind_eq_some_iff.mp H
          obtain ⟨t121, A140, H⟩ := H
          replace H : (some (t121 == ((Go.bits .and .i64 t119 a1) != 0))) = some r := H
          have A14 := Aside0.mk A140
          clear A140
          obtain rfl := Option.some.inj H
          go_wp2_with (first | ((with_reducible refine gate_callee (f := 14) rfl ?_); refine goesL_ (some 15) rfl rfl Tryd.func14 (by kernel_rfl) rfl #[.string a0] rfl (by (try simp only [List.map_toArray, List.map_cons, List.map_nil]); first | done | rfl | (simp only [List.length_drop, List.length_take]; rfl)) ?_; (with_reducible refine (decanterref11_Of.calls kj2 a0 t119 _ A11.out).mono ?_); rintro e w15 ⟨rfl, hb⟩; refine ⟨_, rfl, ?_⟩; have n0_ := Aside0.mk (below_step (by repeat (first | (with_reducible first | exact HB.out | apply below_alloc | apply pw_below_drewN | apply below_drew1) | exact HB.out)) hb); clear HB; have HB := n0_; clear n0_; (try clear hb); (try clear hb2); (try clear hk); (try clear hi)) | ((with_reducible refine gate_callee (f := 15) rfl ?_); refine goesL_ (some 17) rfl rfl Tryd.func15 (by kernel_rfl) rfl #[.string a0] rfl (by (try simp only [List.map_toArray, List.map_cons, List.map_nil]); first | done | rfl | (simp only [List.length_drop, List.length_take]; rfl)) ?_; (with_reducible refine (kind_Of.calls a0 t120 _ ?side1 A12.out).mono ?_); (case side1 => exact GW.below HG.out (by repeat (first | (with_reducible first | exact HB.out | apply below_alloc | apply pw_below_drewN | apply below_drew1) | exact HB.out))); rintro e w16 ⟨rfl, hb⟩; refine ⟨_, rfl, ?_⟩; have n0_ := Aside0.mk (below_step (by repeat (first | (with_reducible first | exact HB.out | apply below_alloc | apply pw_below_drewN | apply below_drew1) | exact HB.out)) hb); clear HB; have HB := n0_; clear n0_; (try clear hb); (try clear hb2); (try clear hk); (try clear hi)) | (go_at_call 16; (with_reducible refine (kind_Is.calls a0 a1 t121 _ ?side1 A14.out).mono ?_); (case side1 => exact GW.below HG.out (by repeat (first | (with_reducible first | exact HB.out | apply below_alloc | apply pw_below_drewN | apply below_drew1) | exact HB.out))); rintro e w17 ⟨rfl, hb⟩; have n0_ := Aside0.mk (below_step (by repeat (first | (with_reducible first | exact HB.out | apply below_alloc | apply pw_below_drewN | apply below_drew1) | exact HB.out)) hb); clear HB; have HB := n0_; clear n0_; (try clear hb); (try clear hb2); (try clear hk); (try clear hi)))
          go_ret
          exact ⟨by first | rfl | (simp [errW_none, errW_some] <;> rfl) | (simp [*, errW_none, errW_some] <;> rfl), by repeat (first | (with_reducible first | exact HB.out | apply below_alloc | apply pw_below_drewN | apply below_drew1) | exact HB.out)⟩
        · rw [if_neg c13] at H
          have c13b0 : (t120 == t119) = false := beq_eq_false_iff_ne.mpr c13
          have c13b1 : (t120 != t119) = true := bne_iff_ne.mpr c13
          obtain rfl := Option.some.inj H
          go_wp2_with (first | ((with_reducible refine gate_callee (f := 14) rfl ?_); refine goesL_ (some 15) rfl rfl Tryd.func14 (by kernel_rfl) rfl #[.string a0] rfl (by (try simp only [List.map_toArray, List.map_cons, List.map_nil]); first | done | rfl | (simp only [List.length_drop, List.length_take]; rfl)) ?_; (with_reducible refine (decanterref11_Of.calls kj2 a0 t119 _ A11.out).mono ?_); rintro e w18 ⟨rfl, hb⟩; refine ⟨_, rfl, ?_⟩; have n0_ := Aside0.mk (below_step (by repeat (first | (with_reducible first | exact HB.out | apply below_alloc | apply pw_below_drewN | apply below_drew1) | exact HB.out)) hb); clear HB; have HB := n0_; clear n0_; (try clear hb); (try clear hb2); (try clear hk); (try clear hi)) | ((with_reducible refine gate_callee (f := 15) rfl ?_); refine goesL_ (some 17) rfl rfl Tryd.func15 (by kernel_rfl) rfl #[.string a0] rfl (by (try simp only [List.map_toArray, List.map_cons, List.map_nil]); first | done | rfl | (simp only [List.length_drop, List.length_take]; rfl)) ?_; (with_reducible refine (kind_Of.calls a0 t120 _ ?side1 A12.out).mono ?_); (case side1 => exact GW.below HG.out (by repeat (first | (with_reducible first | exact HB.out | apply below_alloc | apply pw_below_drewN | apply below_drew1) | exact HB.out))); rintro e w19 ⟨rfl, hb⟩; refine ⟨_, rfl, ?_⟩; have n0_ := Aside0.mk (below_step (by repeat (first | (with_reducible first | exact HB.out | apply below_alloc | apply pw_below_drewN | apply below_drew1) | exact HB.out)) hb); clear HB; have HB := n0_; clear n0_; (try clear hb); (try clear hb2); (try clear hk); (try clear hi)))
          go_ret
          exact ⟨by first | rfl | (simp [errW_none, errW_some] <;> rfl) | (simp [*, errW_none, errW_some] <;> rfl), by repeat (first | (with_reducible first | exact HB.out | apply below_alloc | apply pw_below_drewN | apply below_drew1) | exact HB.out)⟩

end Go.Proofs.YteahlapoeiikoaaDoor.P

/-
  KindTells, about plain functions: whatever the name and the kinds, the law's function answers true. Condition: the name is no longer than a string can be.
-/

namespace Go.Proofs.YteahlapoeiikoaaDoor.Pure
open Go.RowKit Go.Proofs.YteahlapoeiikoaaDoor.P Go.Proofs.YteahlapoeiikoaaDoorW.PrintWords Go.Proofs.YteahlapoeiikoaaDoorW.PrintLast

theorem and_small (n a : Int) (h0 : 0 ≤ n) (h1 : n ≤ 1023) : Go.bits .and .i64 n a = ((n.toNat &&& (BitVec.ofInt 64 a).toNat : Nat) : Int) := by
  have hn : (BitVec.ofInt 64 n).toNat = n.toNat := by
    rw [BitVec.toNat_ofInt]
    have : n % ((2 : Int) ^ 64) = n := Int.emod_eq_of_lt h0 (by omega)
    rw [show ((2 ^ 64 : Nat) : Int) = (2 : Int) ^ 64 by norm_cast, this]
  have hb : n.toNat &&& (BitVec.ofInt 64 a).toNat ≤ n.toNat := Nat.and_le_left
  have hd : Go.bits .and .i64 n a = IntKind.i64.wrap ((BitVec.ofInt 64 n &&& BitVec.ofInt 64 a).toNat : Int) := rfl
  rw [hd, BitVec.toNat_and, hn]
  have hw : ∀ m : Int, 0 ≤ m → m ≤ 1023 → IntKind.i64.wrap m = m := by
    intro m h2 h3
    rw [i64_w]
    unfold wrap64
    omega
  exact hw _ (by omega) (by omega)

theorem and_1023 (n a : Int) (h0 : 0 ≤ n) (h1 : n ≤ 1023) : Go.bits .and .i64 (Go.bits .and .i64 n a) 1023 = Go.bits .and .i64 n a := by
  rw [and_small n a h0 h1]
  have hb : n.toNat &&& (BitVec.ofInt 64 a).toNat ≤ n.toNat := Nat.and_le_left
  rw [and_small _ 1023 (by omega) (by omega)]
  have e : (BitVec.ofInt 64 1023).toNat = 2 ^ 10 - 1 := by decide
  rw [e, Nat.and_two_pow_sub_one_eq_mod, Int.toNat_natCast]
  congr 1
  exact Nat.mod_eq_of_lt (by omega)

set_option maxRecDepth 100000 in
theorem speaks11 : decanterlaw11_speaks.f = some true := by decide +kernel

theorem kindTells (x : ByteArray) (a : Int) : ∃ k, decanterlaw11_KindTells.f k x a = some true := by
  by_cases h : (x.size : Int) > 60
  · refine ⟨1, ?_⟩
    rw [decanterlaw11_KindTells.f, speaks11]
    simp only [Option.bind_some, if_true]
    rw [decide_eq_true h]
    simp only [decanterlaw11_KindTells.j0, if_true]
    rw [speaks11]
    rfl
  · refine ⟨2001, ?_⟩
    have hs : x.size ≤ maxLen := by unfold maxLen; omega
    rw [decanterlaw11_KindTells.f, speaks11]
    simp only [Option.bind_some, if_true]
    rw [decide_eq_false h]
    simp only [decanterlaw11_KindTells.j0]
    rw [if_neg (by decide), refOf x (by omega) 2000 (by omega)]
    simp only [Option.bind_some]
    rw [kind_Of.f, if_pos hs]
    simp only [Option.bind_some, if_true]
    rw [kind_Is.f, if_pos hs]
    simp only [Option.bind_some]
    rw [and_1023 _ _ (kind_range x).1 (kind_range x).2]
    simp
end Go.Proofs.YteahlapoeiikoaaDoor.Pure

/-
  KindRules: what the printed function computes is true. Conditions: the name is no longer than a string can be.
-/

namespace Go.Proofs.YteahlapoeiikoaaDoor.Pure
open P Go.RowKit Go.Proofs.YteahlapoeiikoaaDoorW.PrintWords
set_option linter.unusedSimpArgs false
set_option linter.unusedVariables false

/-- The rules, of the kinds that a name has. -/
def goodV (v : Int) : Bool := !(isB v 4 && !(isB v 2 && isB v 16)) && (!(isB v 32 && !isB v 16) && (!(isB v 8 && isB v 147) && (!(isB v 512 && isB v 352) && (!isB v 0 && !(isB v (-1) != (v != 0))))))
set_option maxRecDepth 1000000 in
theorem good_all : (ktab.all fun p => goodV p.2) = true := by kernel_rfl
theorem good_zero : goodV 0 = true := by kernel_rfl
theorem find_of (t : List (List UInt8 × Int)) (x : List UInt8) (Q : Int → Prop) (h0 : Q 0) (ht : ∀ p ∈ t, Q p.2) : Q (match t.find? (fun p => p.1 == x) with | some p => p.2 | none => 0) := by
  cases h : t.find? (fun p => p.1 == x) with
  | none => exact h0
  | some p => exact ht p (List.mem_of_find?_eq_some h)
theorem good_kind (x : ByteArray) : goodV (kindOf x) = true := find_of ktab x.data.toList (fun v => goodV v = true) good_zero (fun p hp => List.all_eq_true.1 good_all p hp)

theorem is_eq {x : ByteArray} (hs : x.size ≤ maxLen) (c : Int) : kind_Is.f x c = some (isB (kindOf x) c) := by rw [kind_Is.f, if_pos hs]; rfl
theorem of_eq {x : ByteArray} (hs : x.size ≤ maxLen) : kind_Of.f x = some (kindOf x) := by rw [kind_Of.f, if_pos hs]

theorem rules_step (k : Nat) (xs : List ByteArray) (i : Int) (hs : (rdOf ByteArray.empty xs i).size ≤ maxLen) (h0 : 0 ≤ i) (h1 : i < (xs.length : Int)) :
    decanterlaw11_KindRules.l0 (k + 5) xs (xs.length : Int) i = decanterlaw11_KindRules.l0 k xs (xs.length : Int) (wrap64 (i + 1)) := by
  rw [decanterlaw11_KindRules.l0, if_pos h1, if_pos h0, if_pos h1]
  generalize rdOf ByteArray.empty xs i = x at hs ⊢
  have hI := fun c => is_eq hs c
  have hO := of_eq hs
  have hg := good_kind x
  generalize hv : kindOf x = v at hI hO hg
  clear hv
  simp only [goodV, Bool.and_eq_true, Bool.not_eq_true'] at hg
  obtain ⟨g1, g2, g3, g4, g5, g6⟩ := hg
  have a : ∀ q, ((kind_Is.f x 4).bind fun t293 => (if t293 = true then ((kind_Is.f x 2).bind fun t294 => (if t294 = true then ((kind_Is.f x 16).bind fun t295 => (decanterlaw11_KindRules.j1 q x (!t295) xs (xs.length : Int) i)) else (decanterlaw11_KindRules.j1 q x (!false) xs (xs.length : Int) i))) else (decanterlaw11_KindRules.j1 q x false xs (xs.length : Int) i))) = decanterlaw11_KindRules.j1 q x false xs (xs.length : Int) i := by
    intro q
    simp only [hI, Option.bind_some]
    cases e4 : isB v 4 <;> cases e2 : isB v 2 <;> cases e16 : isB v 16 <;> simp_all
  rw [a]
  rw [decanterlaw11_KindRules.j1]
  have b : ∀ q h, ((kind_Is.f x 32).bind fun t296 => (if t296 = true then ((kind_Is.f x 16).bind fun t297 => (decanterlaw11_KindRules.j2 q x h (!t297) xs (xs.length : Int) i)) else (decanterlaw11_KindRules.j2 q x h false xs (xs.length : Int) i))) = decanterlaw11_KindRules.j2 q x h false xs (xs.length : Int) i := by
    intro q h
    simp only [hI, Option.bind_some]
    cases e4 : isB v 32 <;> cases e16 : isB v 16 <;> simp_all
  rw [b, decanterlaw11_KindRules.j2]
  have c : ∀ q h h', ((kind_Is.f x 8).bind fun t298 => (if t298 = true then ((kind_Is.f x 147).bind fun t299 => (decanterlaw11_KindRules.j3 q x h h' t299 xs (xs.length : Int) i)) else (decanterlaw11_KindRules.j3 q x h h' false xs (xs.length : Int) i))) = decanterlaw11_KindRules.j3 q x h h' false xs (xs.length : Int) i := by
    intro q h h'
    simp only [hI, Option.bind_some]
    cases e4 : isB v 8 <;> cases e16 : isB v 147 <;> simp_all
  rw [c, decanterlaw11_KindRules.j3]
  have d : ∀ q h h' h'', ((kind_Is.f x 512).bind fun t300 => (if t300 = true then ((kind_Is.f x 352).bind fun t301 => (decanterlaw11_KindRules.j4 q x h h' h'' t301 xs (xs.length : Int) i)) else (decanterlaw11_KindRules.j4 q x h h' h'' false xs (xs.length : Int) i))) = decanterlaw11_KindRules.j4 q x h h' h'' false xs (xs.length : Int) i := by
    intro q h h' h''
    simp only [hI, Option.bind_some]
    cases e4 : isB v 512 <;> cases e16 : isB v 352 <;> simp_all
  rw [d, decanterlaw11_KindRules.j4]
  simp only [hI, hO, Option.bind_some, g5, g6, Bool.false_eq_true, if_false]

theorem rules_loop (xs : List ByteArray) (hx : ∀ x ∈ xs, x.size ≤ maxLen) (hl : xs.length ≤ 1000) : ∀ (m i k : Nat), i + m = xs.length → 5 * m + 1 ≤ k → decanterlaw11_KindRules.l0 k xs (xs.length : Int) i = some true
  | 0, i, k, h, hk => by
    obtain ⟨q, rfl⟩ : ∃ q, k = q + 1 := ⟨k - 1, by omega⟩
    rw [decanterlaw11_KindRules.l0, if_neg (by omega)]
  | m + 1, i, k, h, hk => by
    obtain ⟨q, rfl⟩ : ∃ q, k = q + 5 := ⟨k - 5, by omega⟩
    have hi : i < xs.length := by omega
    rw [rules_step q xs i (hx _ (by rw [rdOf]; simp [List.getElem?_eq_getElem hi])) (by omega) (by omega)]
    have e : wrap64 ((i : Int) + 1) = ((i + 1 : Nat) : Int) := by
      unfold wrap64
      omega
    rw [e]
    exact rules_loop xs hx hl m (i + 1) q (by omega) (by omega)

set_option maxRecDepth 1000000 in
theorem ktab_short : (ktab.all fun p => decide (p.1.length ≤ 100)) = true := by kernel_rfl
theorem ktab_len : Nat.ble ktab.length 200 = true := by kernel_rfl
theorem short_of (t : List (List UInt8 × Int)) (k : Int) (h : (t.all fun p => decide (p.1.length ≤ 100)) = true) : ∀ x ∈ ((t.filter fun p => isB p.2 k).map (·.1)), x.length ≤ 100 := by
  intro x hx
  obtain ⟨p, hp, rfl⟩ := List.mem_map.1 hx
  have := List.all_eq_true.1 h p (List.mem_filter.1 hp).1
  simpa using this
theorem few_of (t : List (List UInt8 × Int)) (k : Int) : ((t.filter fun p => isB p.2 k).map (·.1)).length ≤ t.length := by
  rw [List.length_map]; exact List.length_filter_le _ _
theorem all_short (k : Int) : ∀ x ∈ allK k, x.length ≤ 100 := short_of ktab k ktab_short
theorem all_few (k : Int) : (allK k).length ≤ 200 := Nat.le_trans (few_of ktab k) (Nat.le_of_ble_eq_true ktab_len)

theorem rules_f (k : Nat) (a0 : ByteArray) (M : List ByteArray) (h : kind_All.f (-1) = some M) (hl : M.length < 8796093022208) :
    decanterlaw11_KindRules.f k a0 = decanterlaw11_KindRules.l0 k (M ++ [a0]) ((M ++ [a0]).length : Int) 0 := by
  rw [decanterlaw11_KindRules.f, speaks11, Option.bind_some, if_pos rfl, h, Option.bind_some, if_pos hl, Option.bind_some]
/-- The names of some kinds, as texts. -/
def names (L : List (List UInt8)) : List ByteArray := L.map fun l => ⟨l.toArray⟩
theorem names_short (L : List (List UInt8)) (h : ∀ x ∈ L, x.length ≤ 100) : ∀ x ∈ names L, x.size ≤ maxLen := by
  intro x hx
  obtain ⟨l, hl, rfl⟩ := List.mem_map.1 hx
  exact Nat.le_trans (show l.toArray.size ≤ 100 by rw [List.size_toArray]; exact h l hl) (by decide)
theorem names_len (L : List (List UInt8)) : (names L).length = L.length := List.length_map _
theorem all_some (k : Int) : kind_All.f k = some (names (allK k)) := rfl
theorem rules_names (a0 : ByteArray) (hs : a0.size ≤ maxLen) (M : List ByteArray) (hM : kind_All.f (-1) = some M) (h1 : ∀ x ∈ M, x.size ≤ maxLen) (h2 : M.length ≤ 200) : ∃ k, decanterlaw11_KindRules.f k a0 = some true := by
  have hlen : (M ++ [a0]).length = M.length + 1 := by rw [List.length_append]; rfl
  refine ⟨5 * (M.length + 1) + 1, ?_⟩
  rw [rules_f _ a0 M hM (Nat.lt_of_le_of_lt h2 (by decide))]
  exact rules_loop (M ++ [a0]) (fun x hx => by
    rcases List.mem_append.1 hx with hx | hx
    · exact h1 x hx
    · obtain rfl := List.mem_singleton.1 hx
      exact hs) (by rw [hlen]; omega) (M.length + 1) 0 (5 * (M.length + 1) + 1) (by rw [hlen, Nat.zero_add]) (Nat.le_refl _)
theorem kindRulesLaw (a0 : ByteArray) (hs : a0.size ≤ maxLen) : ∃ k, decanterlaw11_KindRules.f k a0 = some true :=
  rules_names a0 hs _ (all_some (-1)) (names_short _ (all_short (-1))) (by rw [names_len]; exact all_few (-1))
#print axioms kindRulesLaw
end Go.Proofs.YteahlapoeiikoaaDoor.Pure

/-
  KindPlain: what the printed function computes is true. Conditions: the name is no longer than a string can be; the number is one of 16 bits.
-/

namespace Go.Proofs.YteahlapoeiikoaaDoor.Pure
open P Go.RowKit Go.Proofs.YteahlapoeiikoaaDoorW.PrintWords
set_option linter.unusedSimpArgs false
set_option linter.unusedVariables false

/-- A small letter or a digit. -/
def plainB (b : UInt8) : Bool := (97 ≤ b.toNat && b.toNat ≤ 122) || (48 ≤ b.toNat && b.toNat ≤ 57)
set_option maxRecDepth 1000000 in
theorem ktab_plain : (ktab.all fun p => (p.1 != []) && p.1.all plainB) = true := by kernel_rfl
set_option maxRecDepth 1000000 in
theorem ktab_head : (ktab.all fun p => (97 ≤ (p.1.headD 0).toNat && (p.1.headD 0).toNat ≤ 122) && (p.2 != 0)) = true := by kernel_rfl

theorem plain_of (t : List (List UInt8 × Int)) (ht : (t.all fun p => (p.1 != []) && p.1.all plainB) = true) (x : List UInt8)
    (h : (match t.find? (fun p => p.1 == x) with | some p => p.2 | none => (0 : Int)) ≠ 0) : x ≠ [] ∧ ∀ b ∈ x, plainB b = true := by
  cases hf : t.find? (fun p => p.1 == x) with
  | none => rw [hf] at h; exact absurd rfl h
  | some p =>
    have hm := List.mem_of_find?_eq_some hf
    have he := List.find?_some hf
    simp only [beq_iff_eq] at he
    have := List.all_eq_true.1 ht p hm
    rw [he] at this
    simp only [Bool.and_eq_true, bne_iff_ne, ne_eq, List.all_eq_true] at this
    exact this
theorem kind_plain {x : ByteArray} (h : kindOf x ≠ 0) : x.data.toList ≠ [] ∧ ∀ b ∈ x.data.toList, plainB b = true := plain_of ktab ktab_plain _ h
theorem kind_no {x : ByteArray} {b : UInt8} (hm : b ∈ x.data.toList) (hb : plainB b = false) : kindOf x = 0 := by
  refine Classical.byContradiction fun h => ?_
  rw [(kind_plain h).2 b hm] at hb
  cases hb

/-- What a name of some kind is. -/
theorem name_of (t : List (List UInt8 × Int)) (hh : (t.all fun p => (97 ≤ (p.1.headD 0).toNat && (p.1.headD 0).toNat ≤ 122) && (p.2 != 0)) = true) (hs : (t.all fun p => decide (p.1.length ≤ 100)) = true)
    (hk : (t.all fun p => kindOf ⟨p.1.toArray⟩ == p.2) = true) (k : Int) (l : List UInt8) (hl : l ∈ (t.filter fun p => isB p.2 k).map (·.1)) :
    97 ≤ (l.headD 0).toNat ∧ (l.headD 0).toNat ≤ 122 ∧ kindOf ⟨l.toArray⟩ ≠ 0 ∧ l.length ≤ 100 := by
  obtain ⟨p, hp, rfl⟩ := List.mem_map.1 hl
  have hp := (List.mem_filter.1 hp).1
  have h1 := List.all_eq_true.1 hh p hp
  have h2 := List.all_eq_true.1 hs p hp
  have h3 := List.all_eq_true.1 hk p hp
  simp only [Bool.and_eq_true, decide_eq_true_eq, bne_iff_ne, ne_eq, beq_iff_eq] at h1 h2 h3
  exact ⟨h1.1.1, h1.1.2, by rw [h3]; exact h1.2, h2⟩
theorem name_all (k : Int) (l : List UInt8) (hl : l ∈ allK k) : 97 ≤ (l.headD 0).toNat ∧ (l.headD 0).toNat ≤ 122 ∧ kindOf ⟨l.toArray⟩ ≠ 0 ∧ l.length ≤ 100 :=
  name_of ktab ktab_head ktab_short ktab_kind k l hl
set_option maxRecDepth 1000000 in
theorem all_nonempty : (allK (-1)).isEmpty = false := by kernel_rfl

theorem encode_small (v : Int) (h0 : 0 ≤ v) (h1 : v < 128) : Go.Utf8.encode v = ⟨#[UInt8.ofNat v.toNat]⟩ := by
  have hv : Go.Utf8.valid v = true := by unfold Go.Utf8.valid; simp; omega
  unfold Go.Utf8.encode
  simp only [hv, if_true]
  rw [if_pos (by omega)]

theorem plain_j2 (q : Nat) (x1 : Int) (h0 : 0 ≤ x1) (h1 : x1 ≤ 65535) : decanterlaw11_KindPlain.j2 (q + 1) x1 false = some true := by
  rw [decanterlaw11_KindPlain.j2, if_neg (by decide), all_some, Option.bind_some]
  have hne := all_nonempty
  have hfew := all_few (-1)
  have hnm := name_all (-1)
  generalize allK (-1) = L at hne hfew hnm
  have hlen := names_len L
  have hw : wrap64 x1 = x1 := by unfold wrap64; omega
  rw [hw]
  have hL : 0 < L.length := by cases L with | nil => cases hne | cons => simp
  have hi0 : 0 ≤ Int.tmod x1 ((names L).length : Int) := Int.tmod_nonneg _ h0
  have hi1 : Int.tmod x1 ((names L).length : Int) < ((names L).length : Int) := Int.tmod_lt_of_pos _ (by rw [hlen]; omega)
  rw [if_neg (by rw [hlen]; omega), if_pos hi0, if_pos hi1]
  generalize Int.tmod x1 ((names L).length : Int) = i at hi0 hi1
  obtain ⟨l, hl, hx⟩ : ∃ l ∈ L, rdOf ByteArray.empty (names L) i = ⟨l.toArray⟩ := by
    have hlt : i.toNat < L.length := by rw [hlen] at hi1; omega
    refine ⟨L[i.toNat], List.getElem_mem hlt, ?_⟩
    rw [rdOf]
    simp [names, List.getElem?_eq_getElem hlt]
  rw [hx]
  obtain ⟨c1, c2, c3, c4⟩ := hnm l hl
  obtain ⟨c, r, rfl⟩ : ∃ c r, l = c :: r := by
    cases l with
    | nil => simp at c1
    | cons c r => exact ⟨c, r, rfl⟩
  simp only [List.headD_cons] at c1 c2
  have hsz : (⟨(c :: r).toArray⟩ : ByteArray).size = r.length + 1 := by simp [ByteArray.size]
  have hbt : bt ⟨(c :: r).toArray⟩ 0 = (c.toNat : Int) := by
    rw [bt, dif_pos (by rw [hsz]; simp)]
    rfl
  rw [hbt]
  have henc : Go.Utf8.encode (((c.toNat : Int) - 32) % 256) = ⟨#[UInt8.ofNat (c.toNat - 32)]⟩ := by
    rw [show ((c.toNat : Int) - 32) % 256 = ((c.toNat - 32 : Nat) : Int) by omega, encode_small _ (by omega) (by omega)]
    rfl
  rw [henc]
  have hex : ((⟨(c :: r).toArray⟩ : ByteArray).extract 1 (⟨(c :: r).toArray⟩ : ByteArray).size).size ≤ r.length + 1 := by
    rw [ByteArray.size_extract, hsz]; omega
  generalize hn : (⟨(c :: r).toArray⟩ : ByteArray) = n at c3 hsz hex ⊢
  have hcl : (c :: r).length ≤ 100 := c4
  simp only [List.length_cons] at hcl
  have m63 : (100 : Nat) + 101 ≤ 9223372036854775807 := by decide
  have k1 : kind_Of.f n = some (kindOf n) := of_eq (Nat.le_trans (Nat.le_trans (Nat.le_of_eq hsz) (by omega : r.length + 1 ≤ 100)) (by decide))
  have cat : ∀ a b : ByteArray, a.size + b.size ≤ 201 → (a ++ b).size ≤ maxLen := fun a b h => by rw [ByteArray.size_append]; exact Nat.le_trans h (by decide)
  have dcat : ∀ a b : ByteArray, (a ++ b).data.toList = a.data.toList ++ b.data.toList := fun a b => by rw [ByteArray.data_append, Array.toList_append]
  have e1 : (⟨#[UInt8.ofNat (c.toNat - 32)]⟩ : ByteArray).size = 1 := rfl
  have e2 : (⟨#[32]⟩ : ByteArray).size = 1 := rfl
  have k2 : kind_Of.f ((⟨#[UInt8.ofNat (c.toNat - 32)]⟩ : ByteArray) ++ n.extract 1 n.size) = some 0 := by
    rw [of_eq (cat _ _ (by rw [e1]; omega)), kind_no (b := UInt8.ofNat (c.toNat - 32)) (by rw [dcat]; simp) ?_]
    unfold plainB
    have : (UInt8.ofNat (c.toNat - 32)).toNat = c.toNat - 32 := by rw [UInt8.toNat_ofNat']; omega
    rw [this]
    simp
    omega
  have k3 : kind_Of.f (n ++ (⟨#[32]⟩ : ByteArray)) = some 0 := by
    rw [of_eq (cat _ _ (by rw [e2]; omega)), kind_no (b := 32) (by rw [dcat]; simp) (by decide)]
  have k4 : kind_Of.f ((⟨#[32]⟩ : ByteArray) ++ n) = some 0 := by
    rw [of_eq (cat _ _ (by rw [e2]; omega)), kind_no (b := 32) (by rw [dcat]; simp) (by decide)]
  rw [if_pos (by rw [hsz]; omega), if_pos (by rw [hsz]; omega), if_pos (by rw [e1]; omega), k1, Option.bind_some, if_neg c3, k2, Option.bind_some, if_pos rfl, if_pos (by omega), k3, Option.bind_some, if_pos rfl, if_pos (by omega), k4, Option.bind_some]
  rfl

/-- One byte. -/
theorem plain_byte {α : Type} (L : Bool → Option α) (b : Bool) (c : Int) (v : α) (h : (∀ b', L b' = some v) ∨ (b = true ∧ L true = some v ∧ ((97 ≤ c ∧ c ≤ 122) ∨ (48 ≤ c ∧ c ≤ 57)))) :
    (if b = true then (if c ≥ 97 then (if c ≤ 122 then L true else (if c ≥ 48 then L (decide (c ≤ 57)) else L false)) else (if c ≥ 48 then L (decide (c ≤ 57)) else L false)) else L false) = some v := by
  rcases h with h | ⟨rfl, h, h3⟩
  · split
    · split
      · split
        · exact h _
        · split <;> exact h _
      · split <;> exact h _
    · exact h _
  · rw [if_pos rfl]
    split
    · split
      · exact h
      · omega
    · rw [if_pos (by omega), decide_eq_true (by omega)]
      exact h

theorem plain_loop (x0 : ByteArray) (x1 : Int) (hs : x0.size ≤ 60) (h0 : 0 ≤ x1) (h1 : x1 ≤ 65535) : ∀ (m i k : Nat) (b : Bool), i + m = x0.size → m + 2 ≤ k →
    (kindOf x0 = 0 ∨ (b = true ∧ ∀ j : Nat, j < x0.size → ((97 ≤ bt x0 j ∧ bt x0 j ≤ 122) ∨ (48 ≤ bt x0 j ∧ bt x0 j ≤ 57)))) →
    decanterlaw11_KindPlain.l0 k x0 x1 b (x0.size : Int) i = some true
  | 0, i, k, b, h, hk, hP => by
    obtain ⟨q, rfl⟩ : ∃ q, k = q + 2 := ⟨k - 2, by omega⟩
    have hm : x0.size ≤ maxLen := Nat.le_trans hs (by decide)
    rw [decanterlaw11_KindPlain.l0, if_neg (by omega)]
    have hj := plain_j2 q x1 h0 h1
    rcases hP with hz | ⟨rfl, _⟩
    · split
      · exact hj
      · rw [of_eq hm, Option.bind_some, hz, if_pos rfl, is_eq hm, Option.bind_some, hz]
        exact hj
    · rw [if_pos rfl]
      exact hj
  | m + 1, i, k, b, h, hk, hP => by
    obtain ⟨q, rfl⟩ : ∃ q, k = q + 1 := ⟨k - 1, by omega⟩
    rw [decanterlaw11_KindPlain.l0, if_pos (by omega), if_pos (by omega), if_pos (by omega)]
    have e : wrap64 ((i : Int) + 1) = ((i + 1 : Nat) : Int) := by unfold wrap64; omega
    rw [e]
    refine plain_byte (fun b' => decanterlaw11_KindPlain.l0 q x0 x1 b' (x0.size : Int) ((i + 1 : Nat) : Int)) b (bt x0 i) true ?_
    rcases hP with hz | ⟨rfl, hp⟩
    · exact .inl fun b' => plain_loop x0 x1 hs h0 h1 m (i + 1) q b' (by omega) (by omega) (.inl hz)
    · exact .inr ⟨rfl, plain_loop x0 x1 hs h0 h1 m (i + 1) q true (by omega) (by omega) (.inr ⟨rfl, hp⟩), hp i (by omega)⟩

theorem plain_start (x0 : ByteArray) : kindOf x0 = 0 ∨ ((x0.toList != ([] : List UInt8)) = true ∧ ∀ j : Nat, j < x0.size → ((97 ≤ bt x0 j ∧ bt x0 j ≤ 122) ∨ (48 ≤ bt x0 j ∧ bt x0 j ≤ 57))) := by
  by_cases hz : kindOf x0 = 0
  · exact .inl hz
  · obtain ⟨h1, h2⟩ := kind_plain hz
    refine .inr ⟨by rw [ByteArray.toList_eq]; simpa using h1, fun j hj => ?_⟩
    have hb := h2 (x0[j]'hj) (by exact Array.getElem_mem_toList (xs := x0.data) hj)
    rw [bt, dif_pos (by simpa using hj)]
    simp only [Int.toNat_natCast]
    unfold plainB at hb
    simp only [Bool.or_eq_true, Bool.and_eq_true, decide_eq_true_eq] at hb
    omega

theorem kindPlainLaw (a0 : ByteArray) (a1 : Int) (h0 : 0 ≤ a1) (h1 : a1 ≤ 65535) : ∃ k, decanterlaw11_KindPlain.f k a0 a1 = some true := by
  by_cases h : (a0.size : Int) > 60
  · refine ⟨1, ?_⟩
    rw [decanterlaw11_KindPlain.f, speaks11, Option.bind_some, if_pos rfl, decide_eq_true h, decanterlaw11_KindPlain.j0, if_pos rfl, speaks11, Option.bind_some]
  · refine ⟨a0.size + 3, ?_⟩
    rw [decanterlaw11_KindPlain.f, speaks11, Option.bind_some, if_pos rfl, decide_eq_false h, decanterlaw11_KindPlain.j0, if_neg (by decide)]
    exact plain_loop a0 a1 (by omega) h0 h1 a0.size 0 (a0.size + 2) _ (by omega) (Nat.le_refl _) (plain_start a0)
theorem u16_range {n : Int} (h : (Lit.int .u16 n).wf = true) : 0 ≤ n ∧ n ≤ 65535 := by
  simp only [Lit.wf, Bool.and_eq_true, decide_eq_true_eq] at h
  have e1 : IntKind.u16.min = 0 := rfl
  have e2 : IntKind.u16.max = 65535 := rfl
  omega
#print axioms kindPlainLaw
end Go.Proofs.YteahlapoeiikoaaDoor.Pure

/-
  KindUnions, about plain functions: the names of two kinds together are those of each. No condition.
-/

namespace Go.Proofs.YteahlapoeiikoaaDoor.Pure
open P Go.RowKit Go.Proofs.YteahlapoeiikoaaDoorW.PrintWords Go.Proofs.YteahlapoeiikoaaDoorW.PrintLast
set_option linter.unusedSimpArgs false
set_option linter.unusedVariables false

theorem or_small (x y : Int) (hx : 0 ≤ x ∧ x ≤ 1023) (hy : 0 ≤ y ∧ y ≤ 1023) : Go.bits .or .i64 x y = ((x.toNat ||| y.toNat : Nat) : Int) := by
  have hn : ∀ n : Int, 0 ≤ n ∧ n ≤ 1023 → (BitVec.ofInt 64 n).toNat = n.toNat := by
    intro n hn
    rw [BitVec.toNat_ofInt]
    have : n % ((2 : Int) ^ 64) = n := Int.emod_eq_of_lt hn.1 (by omega)
    rw [show ((2 ^ 64 : Nat) : Int) = (2 : Int) ^ 64 by norm_cast, this]
  have hd : Go.bits .or .i64 x y = IntKind.i64.wrap ((BitVec.ofInt 64 x ||| BitVec.ofInt 64 y).toNat : Int) := rfl
  rw [hd, BitVec.toNat_or, hn x hx, hn y hy]
  have hb : x.toNat ||| y.toNat < 2 ^ 10 := Nat.or_lt_two_pow (by omega) (by omega)
  rw [i64_w]
  unfold wrap64
  omega
theorem isB_nat (v k : Int) (hv : 0 ≤ v ∧ v ≤ 1023) (hk : 0 ≤ k ∧ k ≤ 1023) : isB v k = (v.toNat &&& k.toNat != 0) := by
  unfold isB
  rw [and_1023 _ _ hv.1 hv.2, and_small _ _ hv.1 hv.2]
  have : (BitVec.ofInt 64 k).toNat = k.toNat := by
    rw [BitVec.toNat_ofInt]
    have : k % ((2 : Int) ^ 64) = k := Int.emod_eq_of_lt hk.1 (by omega)
    rw [show ((2 ^ 64 : Nat) : Int) = (2 : Int) ^ 64 by norm_cast, this]
  rw [this]
  rw [Bool.eq_iff_iff, bne_iff_ne, bne_iff_ne]
  norm_cast
theorem or_range (x y : Int) (hx : 0 ≤ x ∧ x ≤ 1023) (hy : 0 ≤ y ∧ y ≤ 1023) : 0 ≤ Go.bits .or .i64 x y ∧ Go.bits .or .i64 x y ≤ 1023 := by
  rw [or_small x y hx hy]
  have hb : x.toNat ||| y.toNat < 2 ^ 10 := Nat.or_lt_two_pow (by omega) (by omega)
  omega
theorem isB_or (v x y : Int) (hv : 0 ≤ v ∧ v ≤ 1023) (hx : 0 ≤ x ∧ x ≤ 1023) (hy : 0 ≤ y ∧ y ≤ 1023) : isB v (Go.bits .or .i64 x y) = (isB v x || isB v y) := by
  rw [isB_nat v _ hv (or_range x y hx hy), isB_nat v x hv hx, isB_nat v y hv hy, or_small x y hx hy, Int.toNat_natCast, Nat.and_or_distrib_left]
  rw [Bool.eq_iff_iff]
  simp only [bne_iff_ne, ne_eq, Bool.or_eq_true, Nat.or_eq_zero_iff]
  omega
theorem mem_allK (k : Int) (x : List UInt8) : x ∈ allK k ↔ x ∈ ktab.map (·.1) ∧ isB (kindOf ⟨x.toArray⟩) k = true := by
  rw [allK_eq]
  exact List.mem_filter
theorem mem_union (X Y : Int) (hx : 0 ≤ X ∧ X ≤ 1023) (hy : 0 ≤ Y ∧ Y ≤ 1023) (x : List UInt8) : x ∈ allK (Go.bits .or .i64 X Y) ↔ x ∈ allK X ∨ x ∈ allK Y := by
  rw [mem_allK, mem_allK, mem_allK, isB_or _ X Y (kind_range _) hx hy, Bool.or_eq_true]
  constructor
  · rintro ⟨h, h1 | h1⟩
    · exact .inl ⟨h, h1⟩
    · exact .inr ⟨h, h1⟩
  · rintro (⟨h, h1⟩ | ⟨h, h1⟩)
    · exact ⟨h, .inl h1⟩
    · exact ⟨h, .inr h1⟩
theorem all_nodup (k : Int) : (allK k).Nodup := (all_sorted k).imp fun {a b} h e => by rw [e] at h; exact List.lt_irrefl _ h
theorem of_and (k : Int) (hk : 0 ≤ k ∧ k ≤ 1023) (x : List UInt8) (h : x ∈ allK k) : Go.bits .and .i64 (kindOf ⟨x.toArray⟩) k ≠ 0 := by
  have h1 := ((mem_allK k x).1 h).2
  unfold isB at h1
  rw [and_1023 _ _ (kind_range _).1 (kind_range _).2] at h1
  simpa using h1
end Go.Proofs.YteahlapoeiikoaaDoor.Pure

/-
  KindNames, about plain functions: the words of the lists, gathered. No condition.
-/

namespace Go.Proofs.YteahlapoeiikoaaDoor.Pure
open P Go.RowKit
set_option linter.unusedSimpArgs false
set_option linter.unusedVariables false

/-- What has come: the word that is read, those that are there, how many. -/
structure Sc where
  w : List UInt8
  S : List (List UInt8)
  m : Nat
/-- One byte. -/
def Sc.step (bit : Bool) (s : Sc) (c : UInt8) : Sc :=
  if c ≠ 32 then ⟨s.w ++ [c], s.S, s.m⟩ else if s.w ≠ [] ∧ s.w ∉ s.S ∧ bit = true then ⟨[], s.w :: s.S, s.m + 1⟩ else ⟨[], s.S, s.m⟩
def Sc.run (bit : Bool) (s : Sc) (l : List UInt8) : Sc := l.foldl (Sc.step bit) s
/-- What a list's words do. -/
def put (bit : Bool) (s : List (List UInt8) × Nat) (w : List UInt8) : List (List UInt8) × Nat := if w ∉ s.1 ∧ bit = true then (w :: s.1, s.2 + 1) else s

theorem run_word (bit : Bool) (w : List UInt8) (hw : (32 : UInt8) ∉ w) : ∀ (u : List UInt8) (S : List (List UInt8)) (m : Nat), Sc.run bit ⟨u, S, m⟩ w = ⟨u ++ w, S, m⟩ := by
  induction w with
  | nil => intro u S m; simp [Sc.run]
  | cons c r ih =>
    intro u S m
    have hc : c ≠ 32 := fun e => hw (by rw [e]; exact List.mem_cons_self)
    have hr : (32 : UInt8) ∉ r := fun h => hw (List.mem_cons_of_mem _ h)
    have := ih hr (u ++ [c]) S m
    simp only [Sc.run, List.foldl_cons, Sc.step, if_pos hc] at this ⊢
    rw [this]
    simp
theorem run_joined (bit : Bool) : ∀ (ws : List (List UInt8)) (_ : ∀ w ∈ ws, (32 : UInt8) ∉ w ∧ w ≠ []) (S : List (List UInt8)) (m : Nat),
    Sc.run bit ⟨[], S, m⟩ (joined ws) = ⟨[], (ws.foldl (put bit) (S, m)).1, (ws.foldl (put bit) (S, m)).2⟩
  | [], _, S, m => rfl
  | w :: ws, h, S, m => by
    have hw := h w (by simp)
    have e : joined (w :: ws) = w ++ (32 :: joined ws) := by simp [joined]
    rw [e, Sc.run, List.foldl_append]
    have h1 := run_word bit w hw.1 [] S m
    rw [Sc.run] at h1
    rw [h1, List.foldl_cons, List.nil_append]
    have h2 : Sc.step bit ⟨w, S, m⟩ 32 = ⟨[], (put bit (S, m) w).1, (put bit (S, m) w).2⟩ := by
      simp only [Sc.step, put, ne_eq, not_true_eq_false, if_false]
      by_cases hc : w ∉ S ∧ bit = true
      · rw [if_pos ⟨hw.2, hc⟩, if_pos hc]
      · rw [if_neg (fun x => hc x.2), if_neg hc]
    rw [h2]
    have := run_joined bit ws (fun x hx => h x (by simp [hx])) (put bit (S, m) w).1 (put bit (S, m) w).2
    rw [Sc.run] at this
    rw [this, List.foldl_cons]
/-- Many, each once, just those. -/
theorem put_all (bit : Bool) : ∀ (ws : List (List UInt8)) (S : List (List UInt8)) (m : Nat), S.Nodup → m = S.length →
    (ws.foldl (put bit) (S, m)).1.Nodup ∧ (ws.foldl (put bit) (S, m)).2 = (ws.foldl (put bit) (S, m)).1.length ∧ ∀ x, x ∈ (ws.foldl (put bit) (S, m)).1 ↔ x ∈ S ∨ (bit = true ∧ x ∈ ws)
  | [], S, m, h1, h2 => ⟨h1, h2, fun x => by simp⟩
  | w :: ws, S, m, h1, h2 => by
    rw [List.foldl_cons]
    by_cases hc : w ∉ S ∧ bit = true
    · have e : put bit (S, m) w = (w :: S, m + 1) := if_pos hc
      rw [e]
      obtain ⟨a, b, c⟩ := put_all bit ws (w :: S) (m + 1) (List.nodup_cons.2 ⟨hc.1, h1⟩) (by simp [h2])
      refine ⟨a, b, fun x => ?_⟩
      rw [c]
      simp only [List.mem_cons, hc.2, true_and]
      constructor
      · rintro ((h | h) | h) <;> simp [h]
      · rintro (h | h | h) <;> simp [h]
    · have e : put bit (S, m) w = (S, m) := if_neg hc
      rw [e]
      obtain ⟨a, b, c⟩ := put_all bit ws S m h1 h2
      refine ⟨a, b, fun x => ?_⟩
      rw [c]
      constructor
      · rintro (h | ⟨h, h'⟩)
        · exact .inl h
        · exact .inr ⟨h, by simp [h']⟩
      · rintro (h | ⟨h, h'⟩)
        · exact .inl h
        · rcases List.mem_cons.1 h' with rfl | h'
          · exact .inl (Classical.byContradiction fun hn => hc ⟨hn, h⟩)
          · exact .inr ⟨h, h'⟩
end Go.Proofs.YteahlapoeiikoaaDoor.Pure

/-
  KindNames, about plain functions: the bits of kinds, and the lists' words that are of them. No condition.
-/

namespace Go.Proofs.YteahlapoeiikoaaDoor.Pure
open P Go.RowKit Go.Proofs.YteahlapoeiikoaaDoorW.PrintWords Go.Proofs.YteahlapoeiikoaaDoorW.PrintLast
set_option linter.unusedSimpArgs false
set_option linter.unusedVariables false

/-- Is bit i of kinds set? -/
def kbit (a : Int) (i : Nat) : Bool := a / 2 ^ i % 2 == 1
theorem and_1 (y : Int) : Go.bits .and .i64 y 1 = y % 2 := by
  have hd : Go.bits .and .i64 y 1 = IntKind.i64.wrap ((BitVec.ofInt 64 y &&& BitVec.ofInt 64 1).toNat : Int) := rfl
  have e1 : (BitVec.ofInt 64 1).toNat = 2 ^ 1 - 1 := by decide
  rw [hd, BitVec.toNat_and, e1, Nat.and_two_pow_sub_one_eq_mod, i64_w, BitVec.toNat_ofInt]
  unfold wrap64
  omega
theorem nat_bit (a : Int) (i : Nat) (hi : i < 10) : (BitVec.ofInt 64 a).toNat.testBit i = kbit a i := by
  rw [BitVec.toNat_ofInt, Nat.testBit_eq_decide_div_mod_eq, kbit, Bool.eq_iff_iff]
  simp only [decide_eq_true_eq, beq_iff_eq]
  rcases i with _ | _ | _ | _ | _ | _ | _ | _ | _ | _ | i
  case succ.succ.succ.succ.succ.succ.succ.succ.succ.succ => omega
  all_goals (simp only [Nat.reducePow, Nat.reduceAdd]; omega)
/-- Which kinds of a table's names are the lists they stand in. -/
theorem tab_bits : (ktab.all fun p => (List.range 10).all fun i => p.2.toNat.testBit i == decide (p.1 ∈ words i)) = true := by kernel_rfl
theorem tab_zero : (ktab.all fun p => kindOf ⟨p.1.toArray⟩ == p.2) = true := ktab_kind
theorem bits_of (t : List (List UInt8 × Int)) (g : List UInt8 → Int) (W : Nat → List (List UInt8)) (h1 : (t.all fun p => (List.range 10).all fun i => p.2.toNat.testBit i == decide (p.1 ∈ W i)) = true)
    (h2 : (t.all fun p => g p.1 == p.2) = true) (x : List UInt8) (hx : x ∈ t.map (·.1)) (i : Nat) (hi : i < 10) : (g x).toNat.testBit i = decide (x ∈ W i) := by
  obtain ⟨p, hp, rfl⟩ := List.mem_map.1 hx
  have a := List.all_eq_true.1 (List.all_eq_true.1 h1 p hp) i (List.mem_range.2 hi)
  have b := List.all_eq_true.1 h2 p hp
  simp only [beq_iff_eq] at a b
  rw [b, a]
theorem kind_bit (x : List UInt8) (hx : x ∈ ktab.map (·.1)) (i : Nat) (hi : i < 10) : (kindOf ⟨x.toArray⟩).toNat.testBit i = decide (x ∈ words i) :=
  bits_of ktab (fun x => kindOf ⟨x.toArray⟩) words tab_bits tab_zero x hx i hi
theorem in_tab (t : List (List UInt8 × Int)) (w : List UInt8) (h : t.any (fun p => p.1 == w) = true) : w ∈ t.map (·.1) := by
  obtain ⟨p, hp, e⟩ := List.any_eq_true.1 h
  exact List.mem_map.2 ⟨p, hp, by simpa using e⟩
theorem word_tab (i : Nat) (hi : i < 10) (w : List UInt8) (h : w ∈ words i) : w ∈ ktab.map (·.1) := in_tab ktab w (words_tab ⟨i, hi⟩ w h)
/-- Who is of some kinds: who stands in a list whose bit is set. -/
theorem mem_bits (a : Int) (x : List UInt8) : x ∈ allK a ↔ ∃ i < 10, kbit a i = true ∧ x ∈ words i := by
  rw [mem_allK]
  have hr := kind_range ⟨x.toArray⟩
  have key : isB (kindOf ⟨x.toArray⟩) a = true ↔ ∃ i < 10, kbit a i = true ∧ (kindOf ⟨x.toArray⟩).toNat.testBit i = true := by
    unfold isB
    rw [and_1023 _ _ hr.1 hr.2, and_small _ _ hr.1 hr.2]
    generalize (kindOf ⟨x.toArray⟩) = v at hr
    have hv : v.toNat < 2 ^ 10 := by omega
    constructor
    · intro h
      have hne : v.toNat &&& (BitVec.ofInt 64 a).toNat ≠ 0 := by
        intro e
        rw [e] at h
        simp at h
      obtain ⟨i, hi⟩ := Nat.exists_testBit_of_ne_zero hne
      rw [Nat.testBit_and, Bool.and_eq_true] at hi
      have hi10 : i < 10 := Classical.byContradiction fun hn => by
        have := Nat.testBit_lt_two_pow (Nat.lt_of_lt_of_le hv (Nat.pow_le_pow_right (by decide) (Nat.le_of_not_lt hn)))
        rw [this] at hi
        exact absurd hi.1 (by decide)
      exact ⟨i, hi10, by rw [← nat_bit a i hi10]; exact hi.2, hi.1⟩
    · rintro ⟨i, hi, h1, h2⟩
      have hb : (v.toNat &&& (BitVec.ofInt 64 a).toNat).testBit i = true := by rw [Nat.testBit_and, h2, nat_bit a i hi, h1]; rfl
      rw [bne_iff_ne]
      intro e
      have e0 : v.toNat &&& (BitVec.ofInt 64 a).toNat = 0 := by exact_mod_cast e
      rw [e0] at hb
      simp at hb
  rw [key]
  constructor
  · rintro ⟨h, i, hi, h1, h2⟩
    rw [kind_bit x h i hi] at h2
    exact ⟨i, hi, h1, by simpa using h2⟩
  · rintro ⟨i, hi, h1, h2⟩
    have h := word_tab i hi x h2
    exact ⟨h, i, hi, h1, by rw [kind_bit x h i hi]; simpa using h2⟩
/-- What the first i lists have put there. -/
def putTo (a : Int) : Nat → List (List UInt8) × Nat
  | 0 => ([], 0)
  | i + 1 => (words i).foldl (put (kbit a i)) (putTo a i)
theorem putTo_facts (a : Int) : ∀ i, (putTo a i).1.Nodup ∧ (putTo a i).2 = (putTo a i).1.length ∧ ∀ x, x ∈ (putTo a i).1 ↔ ∃ j < i, kbit a j = true ∧ x ∈ words j
  | 0 => ⟨List.nodup_nil, rfl, fun x => by simp [putTo]⟩
  | i + 1 => by
    obtain ⟨h1, h2, h3⟩ := putTo_facts a i
    obtain ⟨g1, g2, g3⟩ := put_all (kbit a i) (words i) (putTo a i).1 (putTo a i).2 h1 h2
    refine ⟨g1, g2, fun x => ?_⟩
    rw [show (putTo a (i + 1)).1 = ((words i).foldl (put (kbit a i)) ((putTo a i).1, (putTo a i).2)).1 from rfl, g3, h3]
    constructor
    · rintro (⟨j, hj, h⟩ | h)
      · exact ⟨j, by omega, h⟩
      · exact ⟨i, by omega, h⟩
    · rintro ⟨j, hj, h⟩
      by_cases e : j = i
      · subst e; exact .inr h
      · exact .inl ⟨j, by omega, h⟩
theorem putTo_len (a : Int) : (putTo a 10).2 = (allK a).length := by
  obtain ⟨h1, h2, h3⟩ := putTo_facts a 10
  rw [h2]
  refine ((List.perm_ext_iff_of_nodup h1 (all_nodup a)).2 fun x => ?_).length_eq
  rw [h3, mem_bits]
/-- A list's bytes, all of them. -/
theorem run_list (bit : Bool) (i : Nat) (hi : i < 10) (S : List (List UInt8)) (m : Nat) :
    Sc.run bit ⟨[], S, m⟩ (refL.getD i ByteArray.empty).data.toList = ⟨[], ((words i).foldl (put bit) (S, m)).1, ((words i).foldl (put bit) (S, m)).2⟩ := by
  rw [(refL_at ⟨i, hi⟩).1]
  have h := run_joined bit (words i) (words_plain ⟨i, hi⟩) S m
  rw [Sc.run, List.foldl_cons]
  have e : Sc.step bit ⟨[], S, m⟩ 32 = ⟨[], S, m⟩ := by simp [Sc.step]
  rw [e]
  exact h
end Go.Proofs.YteahlapoeiikoaaDoor.Pure
