/-
  A map[string]bool as a set of texts. No condition.
-/
import Derived.Sort.KeysCollected
import Derived.Maps.OwnSet
import Derived.WalkKit
import Derived.KernelRfl
import Derived.Test.YteahlapoeiikoaaDoorProg

namespace Go.Proofs.YteahlapoeiikoaaDoor.P
open Go.RowKit Go.Maps
set_option linter.unusedSimpArgs false
set_option linter.unusedVariables false

/-- What a map[string]bool holds: each of S, with true. -/
def Seen (w : World) (b n : Nat) (S : List (List UInt8)) : Prop :=
  ∃ D : DataW Unit, w.ownsMap Tryd.prog 9 (plainElem Tryd.prog 4) b n D ∧ (∀ x, Maps.has D (.string x) = true ↔ x ∈ S) ∧ (∀ x, D.atKey (.string x) (.lit (.bool false)) = .lit (.bool (decide (x ∈ S))))

theorem Seen.kept {w w' : World} {b n : Nat} {S : List (List UInt8)} {row : Option Nat} (h : Seen w b n S) (hg : w.grownBy w' row) (hb : some b ≠ row) : Seen w' b n S := by
  obtain ⟨D, h1, h2, h3⟩ := h
  exact ⟨D, h1.kept hg hb, h2, h3⟩
theorem Seen.alloc {w : World} {b n : Nat} {S : List (List UInt8)} (h : Seen w b n S) (o : Obj) : Seen (w.alloc o) b n S := h.kept (World.grownBy_alloc w o none) (by simp)
theorem Seen.lt {w : World} {b n : Nat} {S : List (List UInt8)} (h : Seen w b n S) : b < w.heap.size := by
  obtain ⟨D, h1, _⟩ := h
  exact h1.lt
theorem Seen.made (w : World) : Seen (w.alloc (.map #[] 0)) w.heap.size 0 [] :=
  ⟨.map [], World.ownsMap_made _ _ _ _, fun x => by simp [Maps.has_eq], fun x => by simp [DataW.atKey]⟩
theorem key_text (x : ByteArray) (hx : x.size ≤ maxLen) : keyOf Tryd.prog 9 (.string x) = some (.string x.data.toList) := by
  unfold keyOf mapKey
  simp only [Tryd.underlying9]
  rw [if_pos hx]
theorem zero4 (w : World) : (zeroValue 4).run Tryd.prog w = .ok (.bool false) w := by kernel_rfl
theorem plain_bool (b : Bool) : plainElem (H := Unit) Tryd.prog 4 (.bool b) = some (.lit (.bool b), []) := by kernel_rfl
theorem bool_inv {P : Program} {e : TypeId} (he : P.underlying e = some .bool) {v : Value} {z : DataW Unit × List MemPlace} (h : plainElem (H := Unit) P e v = some z) : ∃ b, v = .bool b ∧ z = (.lit (.bool b), []) := by
  unfold plainElem at h
  rw [he] at h
  cases v <;> simp at h
  subst h
  exact ⟨_, rfl, rfl⟩
theorem plain_bool_inv {v : Value} {z : DataW Unit × List MemPlace} (h : plainElem (H := Unit) Tryd.prog 4 v = some z) : ∃ b, v = .bool b ∧ z = (.lit (.bool b), []) := bool_inv Tryd.underlying4 h
theorem Seen.put {w : World} {b n : Nat} {S : List (List UInt8)} (h : Seen w b n S) (hn : n < maxLen) (x : ByteArray) (hx : x.size ≤ maxLen) :
    ∃ w', (Instr.mapUpdate 55 (.map (some b)) (.string x) (.bool true)).run Tryd.prog w = .ok () w' ∧ Seen w' b (n + 1) (x.data.toList :: S) ∧ w.grownBy w' (some b) := by
  obtain ⟨D, h1, h2, h3⟩ := h
  obtain ⟨w', r1, r2, r3⟩ := h1.update (Maps.string_keyed Tryd.underlying9) Tryd.underlying55 hn (key_text x hx) (plain_bool true)
  refine ⟨w', r1, ⟨_, r2, fun y => ?_, fun y => ?_⟩, r3⟩
  · by_cases e : y = x.data.toList
    · subst e
      rw [has_put_same h1.isMap (show WideAt.IsKeyLit (.string x.data.toList) from trivial)]
      simp
    · rw [has_put_other (by simpa using e), h2]
      simp [e]
  · by_cases e : y = x.data.toList
    · subst e
      rw [atKey_put_same h1.isMap (show WideAt.IsKeyLit (.string x.data.toList) from trivial)]
      simp
    · rw [atKey_put_other (by simpa using e), h3]
      simp [e]
theorem Seen.look {w : World} {b n : Nat} {S : List (List UInt8)} (h : Seen w b n S) (x : ByteArray) (hx : x.size ≤ maxLen) :
    (Instr.lookup 55 (.map (some b)) (.string x) false).run Tryd.prog w = .ok (.bool (decide (x.data.toList ∈ S))) w := by
  obtain ⟨D, h1, h2, h3⟩ := h
  obtain ⟨v, ps, hrun, hv⟩ := h1.lookup (Maps.string_keyed Tryd.underlying9) Tryd.underlying55 (zero4 _) (plain_bool false) (key_text x hx)
  obtain ⟨c, rfl, hc⟩ := plain_bool_inv hv
  rw [h3] at hc
  have e : decide (x.data.toList ∈ S) = c := by
    simp only [Prod.mk.injEq, DataW.lit.injEq, Lit.bool.injEq] at hc
    exact hc.1
  rw [e]
  exact hrun
theorem Seen.len {w : World} {b n : Nat} {S : List (List UInt8)} (h : Seen w b n S) {T : List (List UInt8)} (hd : T.Nodup) (hT : ∀ x, x ∈ T ↔ x ∈ S) (ty : TypeId) :
    (Builtin.len_ #[55] ty #[.map (some b)]).run Tryd.prog w = .ok (.int .i64 T.length) w := by
  obtain ⟨D, h1, h2, h3⟩ := h
  have hl := h1.len Tryd.underlying55 ty
  obtain ⟨es, hD, hp, _⟩ := h1.entries (Maps.string_keyed Tryd.underlying9)
  obtain ⟨es', hD', hko⟩ := h1.keysOf
  obtain rfl : es = es' := by rw [hD] at hD'; simpa using hD'
  subst hD
  have hper : T.Perm (strKeys (DataW.map es)) := perm_strKeys hp (fun p hp' => by obtain ⟨v, hv⟩ := hko p hp'; obtain ⟨x, _, hx, _⟩ := Maps.keyOf_str Tryd.underlying9 hv; exact ⟨x, hx⟩) hd (fun x => by rw [hT, h2])
  rw [hl]
  have : Maps.size (DataW.map es) = T.length := by
    rw [hper.length_eq, Maps.size_eq]
    simp [strKeys]
  rw [this]
end Go.Proofs.YteahlapoeiikoaaDoor.P
