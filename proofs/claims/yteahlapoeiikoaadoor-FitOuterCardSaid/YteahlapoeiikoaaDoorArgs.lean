/-
  A slice of strings that came in, as the walks want it: its texts, what its cells hold, and how long they are. No condition.
-/
import Derived.SliceStrings
import Derived.Carry
import Derived.ChangeOld
import Derived.SizedLaws
import Derived.ProofKit
import Derived.Test.YteahlapoeiikoaaDoorJoin2

namespace Go.Proofs.YteahlapoeiikoaaDoor.Seat
open Go.ChangeShapes Go.WideShapes Go.ChangeAt Go.RowKit Go.Proofs.YteahlapoeiikoaaDoorW.PrintWords
set_option linter.unusedVariables false

theorem mem_weights_all {H : Type} {P : Program} {e : TypeId} : ∀ {l : List (DataW H)} {d : DataW H}, d ∈ l → ∀ n ∈ d.weights P e, n ∈ DataW.weightsAll P e l
  | [], _, h, _, _ => by cases h
  | x :: l, d, h, n, hn => by
    rw [DataW.weightsAll, List.mem_append]
    rcases List.mem_cons.1 h with rfl | h
    · exact .inl hn
    · exact .inr (mem_weights_all h n hn)

theorem open_strs {H : Type} {enc : TypeId × Value → H} {P : Program} {W : World} {base : Nat} {held : Bool} {spare : Nat → Bool} {t e : TypeId} {v : Value} {d : DataW H} {ps : List MemPlace} {ts : List TypeId} {ds : List (DataW H)} {j : Nat}
    (hsz : (DataW.weightsEach P ts ds).all (· ≤ reachBytes) = true) (ht : ts[j]? = some t) (hd : ds[j]? = some d) (hu : P.underlying t = some (.slice e)) (he : P.underlying e = some .string) (hc : P.cellsOf e = 1)
    (hv : ∃ a len cap, v = .slice a len cap) (h : DataW.Trod enc P W base spare held t v d ps) :
    ∃ (A : Option Addr) (c : Nat) (l : List ByteArray), v = .slice A l.length c ∧ l.length ≤ c ∧ Kd.C Kd.string W A l.length l ∧ ∀ x ∈ l, x.size ≤ 140737488351232 := by
  obtain ⟨a, len, cap, rfl⟩ := hv
  obtain ⟨fuel, hf⟩ := h
  rcases open_strings hu he hc hf with ⟨hcs, _⟩ | ⟨x, l, c, ss, hcs, _, hl, hm, hz, hx, hcell, hss⟩
  · simp [Value.cells] at hcs
    obtain ⟨rfl, rfl, rfl⟩ := hcs
    exact ⟨none, 0, [], rfl, Nat.le_refl _, Kd.C_of_reads (d := ByteArray.empty) (h1 := fun _ => rfl) ⟨rfl, by decide, fun h => absurd h (by decide)⟩, fun x hx => by cases hx⟩
  · simp [Value.cells] at hcs
    obtain ⟨rfl, rfl, rfl⟩ := hcs
    have hls : len ≤ ss.length := by
      rw [hz]
      split
      · exact hl
      · exact Nat.le_refl _
    have htl : (ss.take len).length = len := by simp [hls]
    refine ⟨some x, cap, ss.take len, by rw [htl], by rw [htl]; exact hl, ?_, ?_⟩
    · refine Kd.C_of_reads (d := ByteArray.empty) (h1 := fun _ => rfl) ⟨rfl, ?_, fun _ => ⟨x, rfl, fun j hj => ?_⟩⟩
      · rw [htl]
        have : maxLen = 9223372036854775807 := rfl
        omega
      · rw [htl] at hj
        rw [hcell j (by omega)]
        congr 2
        rw [List.getD_eq_getElem?_getD, List.getD_eq_getElem?_getD, List.getElem?_take, if_pos hj]
    · intro y hy
      obtain ⟨hx, _⟩ := Prod.mk.inj hx
      subst hx
      have hw : y.data.toList.length ∈ (DataW.slice (H := H) (strs (ss.take len)) (strs (ss.drop len))).weights P t := by
        unfold DataW.weights
        simp only [hu]
        refine List.mem_cons_of_mem _ (List.mem_append_left _ ?_)
        refine mem_weights_all (d := .lit (.string y.data.toList)) ?_ _ (by simp [DataW.weights])
        unfold strs
        exact List.mem_map.2 ⟨y, hy, rfl⟩
      have := List.all_eq_true.1 hsz _ (DataW.weights_mem_each ht hd _ hw)
      have h2 : y.data.toList.length ≤ reachBytes := by simpa using this
      have h3 : y.size = y.data.toList.length := by rw [Array.length_toList]; rfl
      rw [h3]
      exact h2
end Go.Proofs.YteahlapoeiikoaaDoor.Seat
