/-
  kind.Of and kind.Is: what the lists tell of a name. Conditions: the library's tables hold what they were laid with; the name is no longer than a string can be.
-/
import Derived.Maps.OwnOps
import Derived.Test.YteahlapoeiikoaaDoorKindsB
import Derived.Test.YteahlapoeiikoaaDoorGW

namespace Go.Proofs.YteahlapoeiikoaaDoor.P
open Go.RowKit

/-- All names with their kinds, rising. -/
def ktab : List (List UInt8 × Int) := [
  ([97], 520),
  ([97, 98, 98, 114], 512),
  ([97, 100, 100, 114, 101, 115, 115], 530),
  ([97, 112, 112, 108, 101, 116], 304),
  ([97, 114, 101, 97], 17),
  ([97, 114, 116, 105, 99, 108, 101], 530),
  ([97, 115, 105, 100, 101], 530),
  ([98], 520),
  ([98, 97, 115, 101], 17),
  ([98, 97, 115, 101, 102, 111, 110, 116], 17),
  ([98, 100, 105], 512),
  ([98, 100, 111], 512),
  ([98, 103, 115, 111, 117, 110, 100], 17),
  ([98, 105, 103], 520),
  ([98, 108, 111, 99, 107, 113, 117, 111, 116, 101], 530),
  ([98, 111, 100, 121], 64),
  ([98, 114], 529),
  ([98, 117, 116, 116, 111, 110], 16),
  ([99, 97, 112, 116, 105, 111, 110], 64),
  ([99, 101, 110, 116, 101, 114], 530),
  ([99, 105, 116, 101], 512),
  ([99, 111, 100, 101], 520),
  ([99, 111, 108], 64),
  ([99, 111, 108, 103, 114, 111, 117, 112], 64),
  ([100, 100], 658),
  ([100, 101, 108], 512),
  ([100, 101, 116, 97, 105, 108, 115], 18),
  ([100, 102, 110], 512),
  ([100, 105, 97, 108, 111, 103], 2),
  ([100, 105, 114], 530),
  ([100, 105, 118], 530),
  ([100, 108], 530),
  ([100, 116], 658),
  ([101, 109], 520),
  ([101, 109, 98, 101, 100], 17),
  ([102, 105, 101, 108, 100, 115, 101, 116], 18),
  ([102, 105, 103, 99, 97, 112, 116, 105, 111, 110], 530),
  ([102, 105, 103, 117, 114, 101], 530),
  ([102, 111, 110, 116], 520),
  ([102, 111, 111, 116, 101, 114], 530),
  ([102, 111, 114, 109], 18),
  ([102, 114, 97, 109, 101], 64),
  ([102, 114, 97, 109, 101, 115, 101, 116], 64),
  ([104, 49], 534),
  ([104, 50], 534),
  ([104, 51], 534),
  ([104, 52], 534),
  ([104, 53], 534),
  ([104, 54], 534),
  ([104, 101, 97, 100], 64),
  ([104, 101, 97, 100, 101, 114], 530),
  ([104, 103, 114, 111, 117, 112], 18),
  ([104, 114], 531),
  ([104, 116, 109, 108], 64),
  ([105], 520),
  ([105, 102, 114, 97, 109, 101], 16),
  ([105, 109, 103], 529),
  ([105, 110, 112, 117, 116], 17),
  ([105, 110, 115], 512),
  ([107, 98, 100], 512),
  ([107, 101, 121, 103, 101, 110], 17),
  ([108, 105], 658),
  ([108, 105, 110, 107], 17),
  ([108, 105, 115, 116, 105, 110, 103], 18),
  ([109, 97, 105, 110], 530),
  ([109, 97, 114, 107], 512),
  ([109, 97, 114, 113, 117, 101, 101], 304),
  ([109, 101, 110, 117], 18),
  ([109, 101, 116, 97], 17),
  ([110, 97, 118], 530),
  ([110, 111, 98, 114], 8),
  ([110, 111, 101, 109, 98, 101, 100], 16),
  ([110, 111, 102, 114, 97, 109, 101, 115], 16),
  ([111, 98, 106, 101, 99, 116], 304),
  ([111, 108], 530),
  ([111, 112, 116, 103, 114, 111, 117, 112], 128),
  ([111, 112, 116, 105, 111, 110], 128),
  ([112], 658),
  ([112, 97, 114, 97, 109], 17),
  ([112, 108, 97, 105, 110, 116, 101, 120, 116], 18),
  ([112, 114, 101], 530),
  ([113], 512),
  ([114, 98], 128),
  ([114, 112], 128),
  ([114, 116], 128),
  ([114, 116, 99], 128),
  ([115], 520),
  ([115, 97, 109, 112], 512),
  ([115, 99, 114, 105, 112, 116], 16),
  ([115, 101, 99, 116, 105, 111, 110], 530),
  ([115, 101, 108, 101, 99, 116], 16),
  ([115, 109, 97, 108, 108], 520),
  ([115, 111, 117, 114, 99, 101], 17),
  ([115, 112, 97, 110], 512),
  ([115, 116, 114, 105, 107, 101], 520),
  ([115, 116, 114, 111, 110, 103], 520),
  ([115, 116, 121, 108, 101], 16),
  ([115, 117, 98], 512),
  ([115, 117, 109, 109, 97, 114, 121], 18),
  ([115, 117, 112], 512),
  ([116, 97, 98, 108, 101], 50),
  ([116, 98, 111, 100, 121], 64),
  ([116, 100], 64),
  ([116, 101, 109, 112, 108, 97, 116, 101], 48),
  ([116, 101, 120, 116, 97, 114, 101, 97], 16),
  ([116, 102, 111, 111, 116], 64),
  ([116, 104], 64),
  ([116, 104, 101, 97, 100], 64),
  ([116, 105, 109, 101], 512),
  ([116, 105, 116, 108, 101], 16),
  ([116, 114], 64),
  ([116, 114, 97, 99, 107], 17),
  ([116, 116], 520),
  ([117], 520),
  ([117, 108], 530),
  ([118, 97, 114], 512),
  ([119, 98, 114], 529),
  ([120, 109, 112], 18)]

/-- The table as the map's datum. -/
def tabE {H : Type} : List (Lit × DataW H) := ktab.map fun p => (.string p.1, .lit (.int .i64 p.2))

set_option maxRecDepth 1000000 in
theorem fold_eq {H : Type} : foldK (H := H) 10 = .map tabE := by kernel_rfl

/-- The kinds of a name. -/
def kindOf (x : ByteArray) : Int := match ktab.find? (fun p => p.1 == x.data.toList) with | some p => p.2 | none => 0

theorem find_map {H : Type} (l : List (List UInt8 × Int)) (k : List UInt8) :
    ((l.map fun p => ((.string p.1 : Lit), (.lit (.int .i64 p.2) : DataW H))).find? (fun p => p.1.sameKey (.string k))) = (l.find? (fun p => p.1 == k)).map fun p => (.string p.1, .lit (.int .i64 p.2)) := by
  induction l with
  | nil => rfl
  | cons p l ih =>
    simp only [List.map_cons, List.find?_cons]
    have e : Lit.sameKey (.string p.1) (.string k) = (p.1 == k) := rfl
    rw [e]
    cases h : (p.1 == k) with
    | true => rfl
    | false => exact ih

theorem atKey_tab {H : Type} (x : ByteArray) : (DataW.map (H := H) tabE).atKey (keyL x) (.lit (.int .i64 0)) = .lit (.int .i64 (kindOf x)) := by
  unfold DataW.atKey tabE keyL kindOf
  simp only [find_map]
  cases h : ktab.find? (fun p => p.1 == x.data.toList) with
  | none => rfl
  | some p => rfl

theorem keyStr' (x : ByteArray) (hx : x.size ≤ maxLen) : keyOf Tryd.prog 9 (.string x) = some (keyL x) := by
  unfold keyOf mapKey
  simp only [Tryd.underlying9]
  rw [if_pos hx]
  rfl

/-- kind.table. -/
theorem table_calls {H : Type} (w : World) (hG : GW w) :
    Calls Tryd.prog 35 #[] w fun e W' => e = .returned (.map (some w.heap.size)) ∧ W'.ownsMap Tryd.prog 9 (plainElem (H := H) Tryd.prog 3) w.heap.size 10000 (.map tabE) ∧ Below w.heap.size w W' := by
  have hk := fun (w : World) (hG : GW w) => callsIn_wide.1 (kinds_in (H := H) Fence.wide 3 trivial trivial trivial trivial rfl (Nat.le_refl _) w (Nat.lt_of_lt_of_le (by decide) hG.1) hG.2.1)
  go_enter Tryd.func35, Tryd.ntmps35
  go_wp2_with (go_at_call 66; refine (hk _ hG).mono ?_; rintro e w1 ⟨rfl, ho, hb⟩)
  go_ret
  exact ⟨rfl, by rw [← fold_eq]; exact ho, hb⟩

def kind_Of.f (a0 : ByteArray) : Option Int := if a0.size ≤ maxLen then some (kindOf a0) else none
def kind_Is.f (a0 : ByteArray) (a1 : Int) : Option Bool := if a0.size ≤ maxLen then some (Go.bits .and .i64 (Go.bits .and .i64 (kindOf a0) a1) 1023 != 0) else none

theorem DataW_lit_inj {H : Type} {a b : Int} (h : (DataW.lit (.int .i64 a) : DataW H) = .lit (.int .i64 b)) : a = b := by
  injection h with h
  injection h
theorem look {H : Type} {w1 : World} {b : Nat} {x : ByteArray} (hx : Hid (x.size ≤ maxLen)) (ho : w1.ownsMap Tryd.prog 9 (plainElem (H := H) Tryd.prog 3) b 10000 (.map tabE)) :
    (Instr.lookup 61 (.map (some b)) (.string x) false).run Tryd.prog w1 = .ok (.int .i64 (kindOf x)) w1 := by
  obtain ⟨c, hrun, hat, _⟩ := ho.lookup_int (t := 61) (Maps.string_keyed Tryd.underlying9) Tryd.underlying61 Tryd.underlying3 (zero3 _) (keyStr' x hx.out)
  have e : (DataW.lit (.int .i64 (kindOf x)) : DataW H) = .lit (.int .i64 c) := (atKey_tab x).symm.trans hat
  clear hat ho
  have e1 : kindOf x = c := DataW_lit_inj e
  rw [e1]
  exact hrun

theorem kind_Is.calls (a0 : ByteArray) (a1 : Int) (r : Bool) (w : World) (hG : GW w) (h : kind_Is.f a0 a1 = some r) :
    Calls Tryd.prog 16 #[.string a0, .int .i64 a1] w fun e w' => e = .returned (.bool r) ∧ Below w.heap.size w w' := by
  by_cases hs : a0.size ≤ maxLen
  · rw [kind_Is.f, if_pos hs] at h
    have hs' := Lib.hid hs
    clear hs
    obtain rfl : (Go.bits .and .i64 (Go.bits .and .i64 (kindOf a0) a1) 1023 != 0) = r := by simpa using h
    clear h
    go_enter Tryd.func16, Tryd.ntmps16
    go_wp2_with (go_at_call 35; refine (table_calls (H := Unit) _ hG).mono ?_; rintro e w1 ⟨rfl, ho, hb⟩; have hl := look hs' ho; clear ho)
    go_ret
    exact ⟨rfl, hb⟩
  · rw [kind_Is.f, if_neg hs] at h
    cases h
end Go.Proofs.YteahlapoeiikoaaDoor.P
