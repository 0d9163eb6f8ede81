/-
  What the library's tables hold (the rows' 'laid' gives it), and that it stays. No condition.
-/
import Derived.Shelf.Unicode.DecodeSlow
import Derived.Test.YteahlapoeiikoaaDoorFields

namespace Go.Proofs.YteahlapoeiikoaaDoor.P
open Go.RowKit

/-- The tables that strings.FieldsSeq and the decoders of unicode/utf8 read. -/
def GW (w : World) : Prop :=
  5 ≤ w.heap.size ∧ (∀ c : UInt8, c.toNat < 128 → w.cell? ⟨2, c.toNat, none⟩ = some (.int .u8 (spCell c))) ∧ Lib.Utf8Tabs 3 4 w

theorem GW.below {w w' : World} (h : GW w) (hb : Below w.heap.size w w') : GW w' :=
  ⟨Nat.le_trans h.1 hb.size, fun c hc => (hb.cell (p := ⟨2, c.toNat, none⟩) (Nat.lt_of_lt_of_le (by decide : 2 < 5) h.1)).trans (h.2.1 c hc),
    fun c hc => (hb.cell (p := ⟨3, c, none⟩) (Nat.lt_of_lt_of_le (by decide : 3 < 5) h.1)).trans (h.2.2.1 c hc),
    fun i hi => ⟨(hb.cell (p := ⟨4, 2 * i, none⟩) (Nat.lt_of_lt_of_le (by decide : 4 < 5) h.1)).trans (h.2.2.2 i hi).1,
      (hb.cell (p := ⟨4, 2 * i + 1, none⟩) (Nat.lt_of_lt_of_le (by decide : 4 < 5) h.1)).trans (h.2.2.2 i hi).2⟩⟩
theorem GW.drewN {w : World} (h : GW w) (n : Nat) : GW (w.drewN n) := h
theorem GW.drew {w : World} (h : GW w) : GW w.drew := h
theorem GW.alloc {w : World} (h : GW w) (o : Obj) : GW (w.alloc o) := h.below ((Below.refl _ _).alloc (Nat.le_refl _) o)
end Go.Proofs.YteahlapoeiikoaaDoor.P
