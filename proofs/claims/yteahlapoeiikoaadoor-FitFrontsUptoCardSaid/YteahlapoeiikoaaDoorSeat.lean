/-
  What the rows' listed variables give, and a world in which they are laid. No condition.
-/
import Derived.Lib.Space
import Derived.Lib.LaidIn
import Derived.Lib.LaidU8T
import Derived.Lib.LaidTab
import Derived.PinnedBridge
import Derived.Deep.DeepHandedRow
import Derived.Deep.DeepWitnessRowRef
import Derived.ProofKit
import Derived.OpenShut
import Derived.ShutString
import Derived.SizedLaws
import Derived.Test.YteahlapoeiikoaaDoorRows
import Derived.Test.YteahlapoeiikoaaDoorGW

namespace Go.Proofs.YteahlapoeiikoaaDoor.Seat
open Go.ChangeShapes Go.WideShapes Go.ChangeAt Go.RowKit Go.Shelf

theorem own : ownKnob Tryd.prog.godebug = none := by kernel_rfl
theorem laidOut : laidOutB Tryd.prog = true := by kernel_rfl

/-- The four tables that each row lists. -/
def L4 : List (String × DataW Unit) := [("unicode/utf8.acceptRanges", Rows.laid_unicode_utf8_acceptRanges), ("unicode.White_Space", Rows.laid_unicode_White_Space), ("strings.asciiSpace", Rows.laid_strings_asciiSpace), ("unicode/utf8.first", Rows.laid_unicode_utf8_first)]

def ren : Ren := ⟨id, fun | 5 => 5 | 119 => 129 | 138 => 136 | 139 => 137 | t => t, fun | 3 => 3 | 4 => 4 | g => g⟩
theorem u8t : U8Types Tryd.prog ren := ⟨by kernel_rfl, by kernel_rfl, by kernel_rfl, by kernel_rfl⟩
theorem u8x : U8Extra Tryd.prog ren := ⟨by kernel_rfl, by kernel_rfl, by kernel_rfl, by kernel_rfl, by kernel_rfl, by kernel_rfl, by kernel_rfl⟩
theorem first_eq : Rows.laid_unicode_utf8_first = Lib.firstData := Pinned.utf8First_eq
theorem accept_eq : (Rows.laid_unicode_utf8_acceptRanges : DataW Unit) = Lib.acceptData := by kernel_rfl

theorem asc_eq : (Rows.laid_strings_asciiSpace : DataW Unit) = Lib.tabData .u8 Lib.asciiSpaceTab := by kernel_rfl
theorem gAsc : Tryd.prog.globalNamed "strings.asciiSpace" = some 2 := by kernel_rfl
theorem gAscType : (Tryd.prog.globals[2]?).map (·.type) = some 129 := by kernel_rfl
theorem cells5 : Tryd.prog.cellsOf 5 = 1 := by kernel_rfl
theorem cells129 : Tryd.prog.cellsOf 129 = 256 := by kernel_rfl
theorem gw_of_laid {W : World} {l : List (String × DataW Unit)} (hsub : ∀ x ∈ L4, x ∈ l) (hL : laidMet Tryd.prog l W) : P.GW W := by
  have h1 := Lib.laidMet.reads hL (hsub _ (by simp [L4] : ("unicode/utf8.first", Rows.laid_unicode_utf8_first) ∈ L4))
  have h2 := Lib.laidMet.reads hL (hsub _ (by simp [L4] : ("unicode/utf8.acceptRanges", Rows.laid_unicode_utf8_acceptRanges) ∈ L4))
  have h3 := Lib.laidMet.reads hL (hsub _ (by simp [L4] : ("strings.asciiSpace", Rows.laid_strings_asciiSpace) ∈ L4))
  rw [first_eq] at h1
  rw [accept_eq] at h2
  rw [asc_eq] at h3
  have hU := utf8Tabs_of_readsT u8t u8x h1 h2
  refine ⟨World.block_lt_of_cell? _ _ (hU.2 0 (by decide)).1, ?_, hU⟩
  intro c hc
  obtain ⟨g, t, cs, fuel, p, hg, hty, hvar, hd⟩ := h3
  obtain rfl := Option.some.inj (gAsc.symm.trans hg)
  obtain rfl := Option.some.inj (gAscType.symm.trans hty)
  have hcs := Lib.cells_of_tab Tryd.underlying129 Tryd.underlying5 cells5 cells129 hd
  rw [World.var?_cell hg hvar c.toNat, ← Array.getElem?_toList, hcs]
  have h256 : c.toNat < 256 := by omega
  have hsp : ∀ x : UInt8, Lib.isSp x = isSp x := fun _ => rfl
  simp only [Lib.asciiSpaceTab, List.map_map, List.getElem?_map, List.getElem?_range h256, Option.map_some, Function.comp, UInt8.ofNat_toNat, hsp]
  rfl

noncomputable abbrev N0 : Nat := (World.settled Tryd.prog default).heap.size
/-- A world for the witness: the settled one with two blocks more (unicode.White_Space's ranges, its table), the four variables holding what their initialisers lay. -/
noncomputable def laidWorld (os : Os) : World :=
  let N := (World.settled Tryd.prog os).heap.size
  let w0 := World.holding Tryd.prog os ⟨#[
    .cells #[.int .u16 9, .int .u16 13, .int .u16 1, .int .u16 32, .int .u16 133, .int .u16 101, .int .u16 160, .int .u16 5760, .int .u16 5600, .int .u16 8192, .int .u16 8202, .int .u16 1, .int .u16 8232, .int .u16 8233, .int .u16 1, .int .u16 8239, .int .u16 8287, .int .u16 48, .int .u16 12288, .int .u16 12288, .int .u16 1] 157,
    .cells #[.slice (some ⟨N, 0, none⟩) 7 7, .slice none 0 0, .int .i64 2] 155], #[], []⟩
  let put (h : Array Obj) (g : Nat) (cs : Array Value) : Array Obj := h.modify g fun
    | .cells _ t frozen => .cells cs t frozen
    | o => o
  let h1 := put w0.heap 2 (Lib.asciiSpaceTab.map fun z => Value.int .u8 z).toArray
  let h2 := put h1 3 (Lib.firstTab.map fun z => Value.int .u8 z).toArray
  let h3 := put h2 4 ((List.range 16).flatMap fun i => [Value.int .u8 (Lib.accLo i), Value.int .u8 (Lib.accHi i)]).toArray
  let h4 := put h3 5 #[.pointer (some ⟨N + 1, 0, none⟩)]
  { w0 with heap := h4 }

theorem laid_in (os : Os) (args : Array Value) : LaidIn Tryd.prog ((laidWorld os).forCall (fun _ _ => 0) ⟨#[], args, []⟩).memory L4 [4, 5, N0 + 1, N0, 2, 3] :=
  LaidIn.of_run [4, 5, N0 + 1, N0, 2, 3] 8 (by kernel_rfl) (by kernel_rfl) (by kernel_rfl) (by kernel_rfl)
theorem laid_met (os : Os) (args : Array Value) : laidMet Tryd.prog L4 ((laidWorld os).forCall (fun _ _ => 0) ⟨#[], args, []⟩).memory := (laid_in os args).met
end Go.Proofs.YteahlapoeiikoaaDoor.Seat
