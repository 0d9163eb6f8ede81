/-
  kind.kinds and kind.table: the map of all names' kinds. Conditions: strings.asciiSpace holds what it was laid with.
-/
import Derived.Maps.OwnIn
import Derived.RangeFuncBox
import Derived.Outline
import Derived.Test.YteahlapoeiikoaaDoorFields

namespace Go.Proofs.YteahlapoeiikoaaDoor
set_option linter.unusedSimpArgs false
open Go.RowKit Go.Shelf
attribute [local go_sem] Oper.semAt_some
def lst0 : ByteArray := ⟨#[97, 114, 101, 97, 32, 98, 97, 115, 101, 32, 98, 97, 115, 101, 102, 111, 110, 116, 32, 98, 103, 115, 111, 117, 110, 100, 32, 98, 114, 32, 101, 109, 98, 101, 100, 32, 104, 114, 32, 105, 109, 103, 32, 105, 110, 112, 117, 116, 32, 107, 101, 121, 103, 101, 110, 32, 108, 105, 110, 107, 32, 109, 101, 116, 97, 32, 112, 97, 114, 97, 109, 32, 115, 111, 117, 114, 99, 101, 32, 116, 114, 97, 99, 107, 32, 119, 98, 114]⟩
def lst1 : ByteArray := ⟨#[97, 100, 100, 114, 101, 115, 115, 32, 97, 114, 116, 105, 99, 108, 101, 32, 97, 115, 105, 100, 101, 32, 98, 108, 111, 99, 107, 113, 117, 111, 116, 101, 32, 99, 101, 110, 116, 101, 114, 32, 100, 100, 32, 100, 101, 116, 97, 105, 108, 115, 32, 100, 105, 97, 108, 111, 103, 32, 100, 105, 114, 32, 100, 105, 118, 32, 100, 108, 32, 100, 116, 32, 102, 105, 101, 108, 100, 115, 101, 116, 32, 102, 105, 103, 99, 97, 112, 116, 105, 111, 110, 32, 102, 105, 103, 117, 114, 101, 32, 102, 111, 111, 116, 101, 114, 32, 102, 111, 114, 109, 32, 104, 49, 32, 104, 50, 32, 104, 51, 32, 104, 52, 32, 104, 53, 32, 104, 54, 32, 104, 101, 97, 100, 101, 114, 32, 104, 103, 114, 111, 117, 112, 32, 104, 114, 32, 108, 105, 32, 108, 105, 115, 116, 105, 110, 103, 32, 109, 97, 105, 110, 32, 109, 101, 110, 117, 32, 110, 97, 118, 32, 111, 108, 32, 112, 32, 112, 108, 97, 105, 110, 116, 101, 120, 116, 32, 112, 114, 101, 32, 115, 101, 99, 116, 105, 111, 110, 32, 115, 117, 109, 109, 97, 114, 121, 32, 116, 97, 98, 108, 101, 32, 117, 108, 32, 120, 109, 112]⟩
def lst2 : ByteArray := ⟨#[104, 49, 32, 104, 50, 32, 104, 51, 32, 104, 52, 32, 104, 53, 32, 104, 54]⟩
def lst3 : ByteArray := ⟨#[97, 32, 98, 32, 98, 105, 103, 32, 99, 111, 100, 101, 32, 101, 109, 32, 102, 111, 110, 116, 32, 105, 32, 110, 111, 98, 114, 32, 115, 32, 115, 109, 97, 108, 108, 32, 115, 116, 114, 105, 107, 101, 32, 115, 116, 114, 111, 110, 103, 32, 116, 116, 32, 117]⟩
def lst4 : ByteArray := ⟨#[97, 100, 100, 114, 101, 115, 115, 32, 97, 112, 112, 108, 101, 116, 32, 97, 114, 101, 97, 32, 97, 114, 116, 105, 99, 108, 101, 32, 97, 115, 105, 100, 101, 32, 98, 97, 115, 101, 32, 98, 97, 115, 101, 102, 111, 110, 116, 32, 98, 103, 115, 111, 117, 110, 100, 32, 98, 108, 111, 99, 107, 113, 117, 111, 116, 101, 32, 98, 114, 32, 98, 117, 116, 116, 111, 110, 32, 99, 101, 110, 116, 101, 114, 32, 100, 100, 32, 100, 101, 116, 97, 105, 108, 115, 32, 100, 105, 114, 32, 100, 105, 118, 32, 100, 108, 32, 100, 116, 32, 101, 109, 98, 101, 100, 32, 102, 105, 101, 108, 100, 115, 101, 116, 32, 102, 105, 103, 99, 97, 112, 116, 105, 111, 110, 32, 102, 105, 103, 117, 114, 101, 32, 102, 111, 111, 116, 101, 114, 32, 102, 111, 114, 109, 32, 104, 49, 32, 104, 50, 32, 104, 51, 32, 104, 52, 32, 104, 53, 32, 104, 54, 32, 104, 101, 97, 100, 101, 114, 32, 104, 103, 114, 111, 117, 112, 32, 104, 114, 32, 105, 102, 114, 97, 109, 101, 32, 105, 109, 103, 32, 105, 110, 112, 117, 116, 32, 107, 101, 121, 103, 101, 110, 32, 108, 105, 32, 108, 105, 110, 107, 32, 108, 105, 115, 116, 105, 110, 103, 32, 109, 97, 105, 110, 32, 109, 97, 114, 113, 117, 101, 101, 32, 109, 101, 110, 117, 32, 109, 101, 116, 97, 32, 110, 97, 118, 32, 110, 111, 101, 109, 98, 101, 100, 32, 110, 111, 102, 114, 97, 109, 101, 115, 32, 111, 98, 106, 101, 99, 116, 32, 111, 108, 32, 112, 32, 112, 97, 114, 97, 109, 32, 112, 108, 97, 105, 110, 116, 101, 120, 116, 32, 112, 114, 101, 32, 115, 99, 114, 105, 112, 116, 32, 115, 101, 99, 116, 105, 111, 110, 32, 115, 101, 108, 101, 99, 116, 32, 115, 111, 117, 114, 99, 101, 32, 115, 116, 121, 108, 101, 32, 115, 117, 109, 109, 97, 114, 121, 32, 116, 97, 98, 108, 101, 32, 116, 101, 109, 112, 108, 97, 116, 101, 32, 116, 101, 120, 116, 97, 114, 101, 97, 32, 116, 105, 116, 108, 101, 32, 116, 114, 97, 99, 107, 32, 117, 108, 32, 119, 98, 114, 32, 120, 109, 112]⟩
def lst5 : ByteArray := ⟨#[97, 112, 112, 108, 101, 116, 32, 109, 97, 114, 113, 117, 101, 101, 32, 111, 98, 106, 101, 99, 116, 32, 116, 97, 98, 108, 101, 32, 116, 101, 109, 112, 108, 97, 116, 101]⟩
def lst6 : ByteArray := ⟨#[98, 111, 100, 121, 32, 99, 97, 112, 116, 105, 111, 110, 32, 99, 111, 108, 32, 99, 111, 108, 103, 114, 111, 117, 112, 32, 102, 114, 97, 109, 101, 32, 102, 114, 97, 109, 101, 115, 101, 116, 32, 104, 101, 97, 100, 32, 104, 116, 109, 108, 32, 116, 98, 111, 100, 121, 32, 116, 100, 32, 116, 102, 111, 111, 116, 32, 116, 104, 32, 116, 104, 101, 97, 100, 32, 116, 114]⟩
def lst7 : ByteArray := ⟨#[100, 100, 32, 100, 116, 32, 108, 105, 32, 111, 112, 116, 103, 114, 111, 117, 112, 32, 111, 112, 116, 105, 111, 110, 32, 112, 32, 114, 98, 32, 114, 112, 32, 114, 116, 32, 114, 116, 99]⟩
def lst8 : ByteArray := ⟨#[97, 112, 112, 108, 101, 116, 32, 109, 97, 114, 113, 117, 101, 101, 32, 111, 98, 106, 101, 99, 116]⟩
def lst9 : ByteArray := ⟨#[97, 32, 97, 98, 98, 114, 32, 97, 100, 100, 114, 101, 115, 115, 32, 97, 114, 116, 105, 99, 108, 101, 32, 97, 115, 105, 100, 101, 32, 98, 32, 98, 100, 105, 32, 98, 100, 111, 32, 98, 105, 103, 32, 98, 108, 111, 99, 107, 113, 117, 111, 116, 101, 32, 98, 114, 32, 99, 101, 110, 116, 101, 114, 32, 99, 105, 116, 101, 32, 99, 111, 100, 101, 32, 100, 100, 32, 100, 101, 108, 32, 100, 102, 110, 32, 100, 105, 114, 32, 100, 105, 118, 32, 100, 108, 32, 100, 116, 32, 101, 109, 32, 102, 105, 103, 99, 97, 112, 116, 105, 111, 110, 32, 102, 105, 103, 117, 114, 101, 32, 102, 111, 110, 116, 32, 102, 111, 111, 116, 101, 114, 32, 104, 49, 32, 104, 50, 32, 104, 51, 32, 104, 52, 32, 104, 53, 32, 104, 54, 32, 104, 101, 97, 100, 101, 114, 32, 104, 114, 32, 105, 32, 105, 109, 103, 32, 105, 110, 115, 32, 107, 98, 100, 32, 108, 105, 32, 109, 97, 105, 110, 32, 109, 97, 114, 107, 32, 110, 97, 118, 32, 111, 108, 32, 112, 32, 112, 114, 101, 32, 113, 32, 115, 32, 115, 97, 109, 112, 32, 115, 101, 99, 116, 105, 111, 110, 32, 115, 109, 97, 108, 108, 32, 115, 112, 97, 110, 32, 115, 116, 114, 105, 107, 101, 32, 115, 116, 114, 111, 110, 103, 32, 115, 117, 98, 32, 115, 117, 112, 32, 116, 105, 109, 101, 32, 116, 116, 32, 117, 32, 117, 108, 32, 118, 97, 114, 32, 119, 98, 114]⟩
/-- The text of the k-th list. -/
def lst : Nat → ByteArray
  | 0 => lst0
  | 1 => lst1
  | 2 => lst2
  | 3 => lst3
  | 4 => lst4
  | 5 => lst5
  | 6 => lst6
  | 7 => lst7
  | 8 => lst8
  | 9 => lst9
  | _ => ⟨#[]⟩
def listsV : Value := .agg #[.string lst0, .string lst1, .string lst2, .string lst3, .string lst4, .string lst5, .string lst6, .string lst7, .string lst8, .string lst9]

set_option maxRecDepth 100000 in
set_option maxHeartbeats 1000000 in
theorem lists_calls (F : Fence) (n : Nat) (h85 : F.fn 85) (hro : F.round = none) (w : World) :
    CallsIn F n Tryd.prog 85 #[] w fun e w' => e = .returned listsV ∧ Below w.heap.size w w' := by
  refine callsIn_of_wp Tryd.func85 rfl h85 ?_ hro
  simp only [Tryd.ntmps85, List.size_toArray, List.length_cons, List.length_nil, Nat.reduceAdd, Nat.reduceSub, Array.replicate_succ, Array.replicate_zero, List.push_toArray, List.append_toArray, List.nil_append, List.cons_append]
  gi_wp2
  exact bodyPost_ret (v := listsV) (by simp [results, Tryd.results85, go_sem]; rfl) rfl ⟨rfl, (Below.refl _ _).alloc (Nat.le_refl _) _⟩

theorem index_list0 (w : World) : (Instr.index 108 listsV (.int .i64 0)).run Tryd.prog w = .ok (.string lst0) w := by kernel_rfl
theorem index_list1 (w : World) : (Instr.index 108 listsV (.int .i64 1)).run Tryd.prog w = .ok (.string lst1) w := by kernel_rfl
theorem index_list2 (w : World) : (Instr.index 108 listsV (.int .i64 2)).run Tryd.prog w = .ok (.string lst2) w := by kernel_rfl
theorem index_list3 (w : World) : (Instr.index 108 listsV (.int .i64 3)).run Tryd.prog w = .ok (.string lst3) w := by kernel_rfl
theorem index_list4 (w : World) : (Instr.index 108 listsV (.int .i64 4)).run Tryd.prog w = .ok (.string lst4) w := by kernel_rfl
theorem index_list5 (w : World) : (Instr.index 108 listsV (.int .i64 5)).run Tryd.prog w = .ok (.string lst5) w := by kernel_rfl
theorem index_list6 (w : World) : (Instr.index 108 listsV (.int .i64 6)).run Tryd.prog w = .ok (.string lst6) w := by kernel_rfl
theorem index_list7 (w : World) : (Instr.index 108 listsV (.int .i64 7)).run Tryd.prog w = .ok (.string lst7) w := by kernel_rfl
theorem index_list8 (w : World) : (Instr.index 108 listsV (.int .i64 8)).run Tryd.prog w = .ok (.string lst8) w := by kernel_rfl
theorem index_list9 (w : World) : (Instr.index 108 listsV (.int .i64 9)).run Tryd.prog w = .ok (.string lst9) w := by kernel_rfl
theorem index_lists (k : Nat) (hk : k < 10) (w : World) : (Instr.index 108 listsV (.int .i64 (k : Int))).run Tryd.prog w = .ok (.string (lst k)) w := by
  match k, hk with
  | 0, _ => exact index_list0 w
  | 1, _ => exact index_list1 w
  | 2, _ => exact index_list2 w
  | 3, _ => exact index_list3 w
  | 4, _ => exact index_list4 w
  | 5, _ => exact index_list5 w
  | 6, _ => exact index_list6 w
  | 7, _ => exact index_list7 w
  | 8, _ => exact index_list8 w
  | 9, _ => exact index_list9 w
  | k + 10, h => exact absurd h (by omega)

theorem lst_size (k : Nat) : (lst k).size ≤ 394 := by
  unfold lst
  split <;> decide +kernel
theorem lst_ascii (k : Nat) : ∀ j, j < (lst k).size → ((lst k).get! j).toNat < 128 := by
  have h : ∀ i : Fin 11, ∀ j : Fin 394, j.1 < (lst i.1).size → ((lst i.1).get! j.1).toNat < 128 := by decide +kernel
  intro j hj
  have hs := lst_size k
  by_cases hk : k < 10
  · exact h ⟨k, by omega⟩ ⟨j, by omega⟩ hj
  · have e : lst k = lst 10 := by
      unfold lst
      split <;> first | omega | rfl
    have hs2 := lst_size 10
    rw [e] at hj ⊢
    exact h ⟨10, by omega⟩ ⟨j, by omega⟩ hj
end Go.Proofs.YteahlapoeiikoaaDoor
