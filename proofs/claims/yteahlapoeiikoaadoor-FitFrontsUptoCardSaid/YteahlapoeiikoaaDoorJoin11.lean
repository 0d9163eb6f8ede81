/- Several texts, one behind the other. -/
import Derived.Test.YteahlapoeiikoaaDoorProg
import Derived.Below
import Derived.Deep.Draws
import Derived.Deep.AppendLies
import Derived.Maps.AppendAt
import Derived.OwnWalk
import Derived.Laws.BytesArg
import Derived.Laws.MakeOwn
import Derived.Laws.OwnMore
import Derived.Deep.OwnRows
import Derived.Tactics
import Derived.Lib.ConvBytes
import Derived.Laws.Slices
import Derived.WalkKit
import Derived.KernelRfl
import Derived.RowKit3
import Derived.Deep.LoopGhost
import Derived.Deep.QuietTactic
import Derived.BigQuiet
import Derived.WideLaws
import Derived.Deep.DeepCutAuto
import Derived.Deep.CutBlock
import Derived.Deep.RegionHeld3
import Derived.Laws.Rows
import Derived.Lib.AppendStr
import Derived.ArgAppend
import Derived.Laws.IdiomCopy
import Derived.OrdersHeld
import Derived.Laws.BitsLemmas
import Derived.RowKit
import Derived.Test.YteahlapoeiikoaaDoorGW
import Derived.Test.YteahlapoeiikoaaDoorJoin0
import Derived.Lib.Strings
import Derived.Test.YteahlapoeiikoaaDoorKindsC


-- Printed by a program of this session (wip/myprint.py over the kit's print).
namespace Go.Proofs.YteahlapoeiikoaaDoor.P
open Go.RowKit Go.Proofs.YteahlapoeiikoaaDoorW.PrintWords Go.Proofs.YteahlapoeiikoaaDoorW.PrintLast Go.Proofs.YteahlapoeiikoaaDoorW.PrintMore
attribute [local go_sem] max2_int min2_int max_two min_two max_three min_three max_four min_four   -- for this text's walks alone
set_option linter.unusedVariables false
set_option linter.unusedSimpArgs false



def errW : Option Int → Value
  | none => .nilIface
  | some c => .iface 0 (.int .i64 c)
theorem errW_none : errW none = .nilIface := rfl
theorem errW_some (c : Int) : errW (some c) = .iface 0 (.int .i64 c) := rfl

theorem info9 : (Tryd.prog.info? 9).map (fun i => (i.zero, i.size, i.bytes)) = some (some (.string ⟨#[]⟩), 1, 16) := by kernel_rfl
theorem info52 : (Tryd.prog.info? 52).map (fun i => (i.zero, i.size, i.bytes)) = some (some (.agg #[(.string ⟨#[]⟩), (.slice none 0 0), (.string ⟨#[]⟩), (.slice none 0 0)]), 4, 80) := by kernel_rfl
theorem info98 : (Tryd.prog.info? 98).map (fun i => (i.zero, i.size, i.bytes)) = some (some (.agg #[(.string ⟨#[]⟩), (.string ⟨#[]⟩)]), 2, 32) := by kernel_rfl
theorem info99 : (Tryd.prog.info? 99).map (fun i => (i.zero, i.size, i.bytes)) = some (some (.agg #[(.string ⟨#[]⟩), (.string ⟨#[]⟩)]), 2, 32) := by kernel_rfl
-- the values' own types
/-! #### struct type 98 -/
structure S98 where
  f0 : ByteArray
  f1 : ByteArray
def z98 : S98 := ⟨(⟨#[]⟩ : ByteArray), (⟨#[]⟩ : ByteArray)⟩
def k98 : Kd S98 := Kd.iso (Kd.pair Kd.string Kd.string) (fun x : S98 => (x.f0, x.f1))
theorem k98_open {w : World} {x : S98} {cs : List Value} (h : k98.K w x cs) : cs = [.string x.f0, .string x.f1] := by
  obtain ⟨_, _, rfl, rfl, rfl⟩ := h
  exact rfl
theorem k98_mk (w : World) (x : S98)  : k98.K w x [.string x.f0, .string x.f1] := ⟨[.string x.f0], [.string x.f1], rfl, rfl, rfl⟩
def rd_T98 (xs : List S98) (i : Int) : S98 := xs.getD i.toNat z98
theorem at_T98 {w : World} {A : Option Addr} {n : Nat} {xs : List S98} (h : Kd.C k98 w A n xs) (i : Int) (h0 : 0 ≤ i) (h1 : i < n) : ∃ ad , A = some ad ∧ w.cell? (ad.add (i.toNat * 2)) = some (.string (rd_T98 xs i).f0) ∧ w.cell? ⟨(ad.add (i.toNat * 2)).block, (ad.add (i.toNat * 2)).off + 1, none⟩ = some (.string (rd_T98 xs i).f1) := by
  obtain ⟨ad, c, e, _, hK, hc0⟩ := Kd.C_get h z98 i h0 h1
  have hc : ∀ j u, c[j]? = some u → w.cell? (ad.add (i.toNat * 2 + j)) = some u := hc0
  obtain rfl := k98_open hK
  exact ⟨ad, e, hc 0 _ rfl, by rw [← add_field _ _ 1 (by omega)]; exact hc 1 _ rfl⟩

/-! #### struct type 82, nested in itself -/
structure S82 where
  f0 : ByteArray
  f1 : (List S98)
  f2 : ByteArray
  f3 : (List S82)
def z82 : S82 := ⟨(⟨#[]⟩ : ByteArray), ([] : List S98), (⟨#[]⟩ : ByteArray), ([] : List S82)⟩
def F82 (d : Kd S82) : Kd S82 := Kd.iso (Kd.pair Kd.string (Kd.pair (Kd.slice 98 k98) (Kd.pair Kd.string (Kd.slice 82 d)))) (fun x : S82 => (x.f0, x.f1, x.f2, x.f3))
theorem mono82 : Kd.Mono F82 := Kd.mono_iso _ (Kd.mono_pair (Kd.mono_const _) (Kd.mono_pair (Kd.mono_const _) (Kd.mono_pair (Kd.mono_const _) (Kd.mono_slice 82 Kd.mono_id))))
theorem sub82 : Kd.Sub F82 [82, 98] := Kd.sub_iso _ (Kd.sub_pair (Kd.sub_const _ (by decide)) (Kd.sub_pair (Kd.sub_const _ (by decide)) (Kd.sub_pair (Kd.sub_const _ (by decide)) (Kd.sub_slice 82 (by decide) Kd.sub_id))))
theorem sz82 : ∀ n, (Kd.upto F82 4 [82, 98] n).sz = 4 := Kd.upto_sz (fun _ => rfl)
def k82 : Kd S82 := Kd.fix F82 4 [82, 98] sz82 (Kd.upto_E sub82)
theorem k82_open {w : World} {x : S82} {cs : List Value} (h : k82.K w x cs) : ∃ A1 c1 A3 c3, cs = [.string x.f0, .slice A1 x.f1.length c1, .string x.f2, .slice A3 x.f3.length c3] ∧ x.f1.length ≤ c1 ∧ k98.C w A1 x.f1.length x.f1 ∧ x.f3.length ≤ c3 ∧ k82.C w A3 x.f3.length x.f3 := by
  obtain ⟨n, h⟩ := h
  cases n with
  | zero => exact h.elim
  | succ n =>
    obtain ⟨_, _, rfl, rfl, ⟨_, _, rfl, ⟨A1, c1, rfl, l1, g1⟩, ⟨_, _, rfl, rfl, ⟨A3, c3, rfl, l3, g3⟩⟩⟩⟩ := h
    exact ⟨A1, c1, A3, c3, rfl, l1, g1, l3, Kd.fix_C g3⟩
theorem k82_mk (w : World) (x : S82) {A1 : Option Addr} {c1 : Nat} (l1 : x.f1.length ≤ c1) (g1 : k98.C w A1 x.f1.length x.f1) {A3 : Option Addr} {c3 : Nat} (l3 : x.f3.length ≤ c3) (g3 : k82.C w A3 x.f3.length x.f3) : k82.K w x [.string x.f0, .slice A1 x.f1.length c1, .string x.f2, .slice A3 x.f3.length c3] := by
  obtain ⟨n3, q3⟩ := Kd.fix_C_back mono82 g3
  have r3 := Kd.upto_C_le mono82 sz82 (show n3 ≤ n3 by omega) q3
  exact ⟨n3 + 1, ⟨[.string x.f0], [.slice A1 x.f1.length c1, .string x.f2, .slice A3 x.f3.length c3], rfl, rfl, ⟨[.slice A1 x.f1.length c1], [.string x.f2, .slice A3 x.f3.length c3], rfl, ⟨A1, c1, rfl, l1, g1⟩, ⟨[.string x.f2], [.slice A3 x.f3.length c3], rfl, rfl, ⟨A3, c3, rfl, l3, r3⟩⟩⟩⟩⟩
theorem k82_mkM (w : World) (base : Nat) (ok : Nat → Prop) (x : S82) {v1 : Value} (g1 : k98.R 98 w base ok v1 x.f1) {v3 : Value} (g3 : k82.R 82 w base ok v3 x.f3) : k82.M w base ok x [.string x.f0, v1, .string x.f2, v3] := by
  obtain ⟨n3, q3⟩ := Kd.fix_R_back mono82 g3
  have r3 := Kd.upto_R_le mono82 sz82 (show n3 ≤ n3 by omega) q3
  exact ⟨n3 + 1, ⟨[.string x.f0], [v1, .string x.f2, v3], rfl, rfl, ⟨[v1], [.string x.f2, v3], rfl, ⟨v1, rfl, g1⟩, ⟨[.string x.f2], [v3], rfl, rfl, ⟨v3, rfl, r3⟩⟩⟩⟩⟩
def rd_T82 (xs : List S82) (i : Int) : S82 := xs.getD i.toNat z82
theorem at_T82 {w : World} {A : Option Addr} {n : Nat} {xs : List S82} (h : Kd.C k82 w A n xs) (i : Int) (h0 : 0 ≤ i) (h1 : i < n) : ∃ ad A1 c1 A3 c3, A = some ad ∧ w.cell? (ad.add (i.toNat * 4)) = some (.string (rd_T82 xs i).f0) ∧ w.cell? ⟨(ad.add (i.toNat * 4)).block, (ad.add (i.toNat * 4)).off + 1, none⟩ = some (.slice A1 (rd_T82 xs i).f1.length c1) ∧ w.cell? ⟨(ad.add (i.toNat * 4)).block, (ad.add (i.toNat * 4)).off + 2, none⟩ = some (.string (rd_T82 xs i).f2) ∧ w.cell? ⟨(ad.add (i.toNat * 4)).block, (ad.add (i.toNat * 4)).off + 3, none⟩ = some (.slice A3 (rd_T82 xs i).f3.length c3) ∧ (rd_T82 xs i).f1.length ≤ c1 ∧ k98.C w A1 (rd_T82 xs i).f1.length (rd_T82 xs i).f1 ∧ (rd_T82 xs i).f3.length ≤ c3 ∧ k82.C w A3 (rd_T82 xs i).f3.length (rd_T82 xs i).f3 := by
  obtain ⟨ad, c, e, _, hK, hc0⟩ := Kd.C_get h z82 i h0 h1
  have hc : ∀ j u, c[j]? = some u → w.cell? (ad.add (i.toNat * 4 + j)) = some u := hc0
  obtain ⟨A1, c1, A3, c3, rfl, l1, g1, l3, g3⟩ := k82_open hK
  exact ⟨ad, A1, c1, A3, c3, e, hc 0 _ rfl, by rw [← add_field _ _ 1 (by omega)]; exact hc 1 _ rfl, by rw [← add_field _ _ 2 (by omega)]; exact hc 2 _ rfl, by rw [← add_field _ _ 3 (by omega)]; exact hc 3 _ rfl, l1, g1, l3, g3⟩

/-! #### struct type 99 -/
structure S99 where
  f0 : ByteArray
  f1 : ByteArray
def z99 : S99 := ⟨(⟨#[]⟩ : ByteArray), (⟨#[]⟩ : ByteArray)⟩
def k99 : Kd S99 := Kd.iso (Kd.pair Kd.string Kd.string) (fun x : S99 => (x.f0, x.f1))
theorem k99_open {w : World} {x : S99} {cs : List Value} (h : k99.K w x cs) : cs = [.string x.f0, .string x.f1] := by
  obtain ⟨_, _, rfl, rfl, rfl⟩ := h
  exact rfl
theorem k99_mkM (w : World) (base : Nat) (ok : Nat → Prop) (x : S99)  : k99.M w base ok x [.string x.f0, .string x.f1] := ⟨[.string x.f0], [.string x.f1], rfl, rfl, rfl⟩
def rd_T99 (xs : List S99) (i : Int) : S99 := xs.getD i.toNat z99
theorem at_T99 {w : World} {A : Option Addr} {n : Nat} {xs : List S99} (h : Kd.C k99 w A n xs) (i : Int) (h0 : 0 ≤ i) (h1 : i < n) : ∃ ad , A = some ad ∧ w.cell? (ad.add (i.toNat * 2)) = some (.string (rd_T99 xs i).f0) ∧ w.cell? ⟨(ad.add (i.toNat * 2)).block, (ad.add (i.toNat * 2)).off + 1, none⟩ = some (.string (rd_T99 xs i).f1) := by
  obtain ⟨ad, c, e, _, hK, hc0⟩ := Kd.C_get h z99 i h0 h1
  have hc : ∀ j u, c[j]? = some u → w.cell? (ad.add (i.toNat * 2 + j)) = some u := hc0
  obtain rfl := k99_open hK
  exact ⟨ad, e, hc 0 _ rfl, by rw [← add_field _ _ 1 (by omega)]; exact hc 1 _ rfl⟩

/-! #### struct type 52, nested in itself -/
structure S52 where
  f0 : ByteArray
  f1 : (List S99)
  f2 : ByteArray
  f3 : (List S52)
def z52 : S52 := ⟨(⟨#[]⟩ : ByteArray), ([] : List S99), (⟨#[]⟩ : ByteArray), ([] : List S52)⟩
def F52 (d : Kd S52) : Kd S52 := Kd.iso (Kd.pair Kd.string (Kd.pair (Kd.slice 99 k99) (Kd.pair Kd.string (Kd.slice 52 d)))) (fun x : S52 => (x.f0, x.f1, x.f2, x.f3))
theorem mono52 : Kd.Mono F52 := Kd.mono_iso _ (Kd.mono_pair (Kd.mono_const _) (Kd.mono_pair (Kd.mono_const _) (Kd.mono_pair (Kd.mono_const _) (Kd.mono_slice 52 Kd.mono_id))))
theorem sub52 : Kd.Sub F52 [52, 99] := Kd.sub_iso _ (Kd.sub_pair (Kd.sub_const _ (by decide)) (Kd.sub_pair (Kd.sub_const _ (by decide)) (Kd.sub_pair (Kd.sub_const _ (by decide)) (Kd.sub_slice 52 (by decide) Kd.sub_id))))
theorem sz52 : ∀ n, (Kd.upto F52 4 [52, 99] n).sz = 4 := Kd.upto_sz (fun _ => rfl)
def k52 : Kd S52 := Kd.fix F52 4 [52, 99] sz52 (Kd.upto_E sub52)
theorem k52_open {w : World} {x : S52} {cs : List Value} (h : k52.K w x cs) : ∃ A1 c1 A3 c3, cs = [.string x.f0, .slice A1 x.f1.length c1, .string x.f2, .slice A3 x.f3.length c3] ∧ x.f1.length ≤ c1 ∧ k99.C w A1 x.f1.length x.f1 ∧ x.f3.length ≤ c3 ∧ k52.C w A3 x.f3.length x.f3 := by
  obtain ⟨n, h⟩ := h
  cases n with
  | zero => exact h.elim
  | succ n =>
    obtain ⟨_, _, rfl, rfl, ⟨_, _, rfl, ⟨A1, c1, rfl, l1, g1⟩, ⟨_, _, rfl, rfl, ⟨A3, c3, rfl, l3, g3⟩⟩⟩⟩ := h
    exact ⟨A1, c1, A3, c3, rfl, l1, g1, l3, Kd.fix_C g3⟩
theorem k52_openM {w : World} {base : Nat} {ok : Nat → Prop} {x : S52} {cs : List Value} (h : k52.M w base ok x cs) : ∃ v1 v3, cs = [.string x.f0, v1, .string x.f2, v3] ∧ k99.R 99 w base ok v1 x.f1 ∧ k52.R 52 w base ok v3 x.f3 := by
  obtain ⟨n, h⟩ := h
  cases n with
  | zero => exact h.elim
  | succ n =>
    obtain ⟨_, _, rfl, rfl, ⟨_, _, rfl, ⟨v1, rfl, g1⟩, ⟨_, _, rfl, rfl, ⟨v3, rfl, g3⟩⟩⟩⟩ := h
    exact ⟨v1, v3, rfl, g1, Kd.fix_R g3⟩
theorem k52_mkM (w : World) (base : Nat) (ok : Nat → Prop) (x : S52) {v1 : Value} (g1 : k99.R 99 w base ok v1 x.f1) {v3 : Value} (g3 : k52.R 52 w base ok v3 x.f3) : k52.M w base ok x [.string x.f0, v1, .string x.f2, v3] := by
  obtain ⟨n3, q3⟩ := Kd.fix_R_back mono52 g3
  have r3 := Kd.upto_R_le mono52 sz52 (show n3 ≤ n3 by omega) q3
  exact ⟨n3 + 1, ⟨[.string x.f0], [v1, .string x.f2, v3], rfl, rfl, ⟨[v1], [.string x.f2, v3], rfl, ⟨v1, rfl, g1⟩, ⟨[.string x.f2], [v3], rfl, rfl, ⟨v3, rfl, r3⟩⟩⟩⟩⟩
def rd_T52 (xs : List S52) (i : Int) : S52 := xs.getD i.toNat z52
theorem at_T52 {w : World} {A : Option Addr} {n : Nat} {xs : List S52} (h : Kd.C k52 w A n xs) (i : Int) (h0 : 0 ≤ i) (h1 : i < n) : ∃ ad A1 c1 A3 c3, A = some ad ∧ w.cell? (ad.add (i.toNat * 4)) = some (.string (rd_T52 xs i).f0) ∧ w.cell? ⟨(ad.add (i.toNat * 4)).block, (ad.add (i.toNat * 4)).off + 1, none⟩ = some (.slice A1 (rd_T52 xs i).f1.length c1) ∧ w.cell? ⟨(ad.add (i.toNat * 4)).block, (ad.add (i.toNat * 4)).off + 2, none⟩ = some (.string (rd_T52 xs i).f2) ∧ w.cell? ⟨(ad.add (i.toNat * 4)).block, (ad.add (i.toNat * 4)).off + 3, none⟩ = some (.slice A3 (rd_T52 xs i).f3.length c3) ∧ (rd_T52 xs i).f1.length ≤ c1 ∧ k99.C w A1 (rd_T52 xs i).f1.length (rd_T52 xs i).f1 ∧ (rd_T52 xs i).f3.length ≤ c3 ∧ k52.C w A3 (rd_T52 xs i).f3.length (rd_T52 xs i).f3 := by
  obtain ⟨ad, c, e, _, hK, hc0⟩ := Kd.C_get h z52 i h0 h1
  have hc : ∀ j u, c[j]? = some u → w.cell? (ad.add (i.toNat * 4 + j)) = some u := hc0
  obtain ⟨A1, c1, A3, c3, rfl, l1, g1, l3, g3⟩ := k52_open hK
  exact ⟨ad, A1, c1, A3, c3, e, hc 0 _ rfl, by rw [← add_field _ _ 1 (by omega)]; exact hc 1 _ rfl, by rw [← add_field _ _ 2 (by omega)]; exact hc 2 _ rfl, by rw [← add_field _ _ 3 (by omega)]; exact hc 3 _ rfl, l1, g1, l3, g3⟩

/-! #### struct type 67 -/
/-! #### struct type 68 -/
end Go.Proofs.YteahlapoeiikoaaDoor.P


-- Printed by a program of this session (wip/myprint.py over the kit's print).
namespace Go.Proofs.YteahlapoeiikoaaDoor.P
open Go.RowKit Go.Proofs.YteahlapoeiikoaaDoorW.PrintWords Go.Proofs.YteahlapoeiikoaaDoorW.PrintLast Go.Proofs.YteahlapoeiikoaaDoorW.PrintMore
attribute [local go_sem] max2_int min2_int max_two min_two max_three min_three max_four min_four   -- for this text's walks alone
set_option linter.unusedVariables false
set_option linter.unusedSimpArgs false

/-! ### class_within: function 71 -/
def class_within.f (a0 : Int) (a1 : Int) (a2 : Int) : Option (Bool) := if a0 ≥ a1 then (some (decide (a0 ≤ a2))) else (some false)
set_option maxHeartbeats 8000000 in
set_option maxRecDepth 100000 in
theorem class_within.calls (a0 : Int) (a1 : Int) (a2 : Int) (r : Bool) (w : World) (h : class_within.f a0 a1 a2 = some r) :
    Calls Tryd.prog 71 #[.int .i32 a0, .int .i32 a1, .int .i32 a2] w fun e w' => e = .returned (.bool r) ∧ Drawn0 w w' := by
  have H : (if a0 ≥ a1 then (some (decide (a0 ≤ a2))) else (some false)) = some r := h
  clear h
  by_cases c4 : a0 ≥ a1
  · rw [if_pos c4] at H
    have c4b0 : decide (a1 ≤ a0) = true := decide_eq_true c4
    clear c4
    obtain rfl := Option.some.inj H
    go_enter Tryd.func71, Tryd.ntmps71
    go_wp2
    go_ret
    exact ⟨by first | rfl | (simp; done) | (simp [*]; done), by repeat (first | exact Drawn0.refl _ | apply Drawn0.step)⟩
  · rw [if_neg c4] at H
    have c4b0 : decide (a1 ≤ a0) = false := decide_eq_false c4
    clear c4
    obtain rfl := Option.some.inj H
    go_enter Tryd.func71, Tryd.ntmps71
    go_wp2
    go_ret
    exact ⟨by first | rfl | (simp; done) | (simp [*]; done), by repeat (first | exact Drawn0.refl _ | apply Drawn0.step)⟩

end Go.Proofs.YteahlapoeiikoaaDoor.P


-- Printed by a program of this session (wip/myprint.py over the kit's print).
namespace Go.Proofs.YteahlapoeiikoaaDoor.P
open Go.RowKit Go.Proofs.YteahlapoeiikoaaDoorW.PrintWords Go.Proofs.YteahlapoeiikoaaDoorW.PrintLast Go.Proofs.YteahlapoeiikoaaDoorW.PrintMore
attribute [local go_sem] max2_int min2_int max_two min_two max_three min_three max_four min_four   -- for this text's walks alone
set_option linter.unusedVariables false
set_option linter.unusedSimpArgs false

/-! ### class_Digit: function 72 -/
def class_Digit.f (a0 : Int) : Option (Bool) := (class_within.f a0 48 57).bind fun t228 => (some t228)
set_option maxHeartbeats 8000000 in
set_option maxRecDepth 100000 in
theorem class_Digit.calls (a0 : Int) (r : Bool) (w : World) (h : class_Digit.f a0 = some r) :
    Calls Tryd.prog 72 #[.int .i32 a0] w fun e w' => e = .returned (.bool r) ∧ Drawn0 w w' := by
  have H : ((class_within.f a0 48 57).bind fun t228 => (some t228)) = some r := h
  clear h
  replace H := Option.bind_eq_some_iff.mp H
  obtain ⟨t228, A20, H⟩ := H
  replace H : (some t228) = some r := H
  have A2 := Aside0.mk A20
  clear A20
  obtain rfl := Option.some.inj H
  go_enter Tryd.func72, Tryd.ntmps72
  go_wp2_with (first | ((with_reducible refine gate_callee (f := 71) rfl ?_); refine goesL_ (some 4) rfl rfl Tryd.func71 (by kernel_rfl) rfl #[.int .i32 a0, .int .i32 48, .int .i32 57] rfl (by (try simp only [List.map_toArray, List.map_cons, List.map_nil]); first | done | rfl | (simp only [List.length_drop, List.length_take]; rfl)) ?_; (with_reducible refine (class_within.calls a0 48 57 t228 _ A2.out).mono ?_); rintro e w' ⟨rfl, ⟨nd, rfl⟩⟩; refine ⟨_, rfl, ?_⟩))
  go_ret
  exact ⟨by first | rfl | (simp; done) | (simp [*]; done), by repeat (first | exact Drawn0.refl _ | apply Drawn0.step)⟩

end Go.Proofs.YteahlapoeiikoaaDoor.P


-- Printed by a program of this session (wip/myprint.py over the kit's print).
namespace Go.Proofs.YteahlapoeiikoaaDoor.P
open Go.RowKit Go.Proofs.YteahlapoeiikoaaDoorW.PrintWords Go.Proofs.YteahlapoeiikoaaDoorW.PrintLast Go.Proofs.YteahlapoeiikoaaDoorW.PrintMore
attribute [local go_sem] max2_int min2_int max_two min_two max_three min_three max_four min_four   -- for this text's walks alone
set_option linter.unusedVariables false
set_option linter.unusedSimpArgs false

/-! ### decanterref02_more: function 116 -/
def decanterref02_more.f (l0 : List Int) (a1 : Int) : Option (Bool) := if a1 < (l0.length : Int) then (if 0 ≤ a1 then (if (rd l0 a1) ≥ 128 then (some (decide ((rd l0 a1) < 192))) else (some false)) else (none)) else (some false)
set_option maxHeartbeats 8000000 in
set_option maxRecDepth 100000 in
theorem decanterref02_more.calls (A0 : Option Addr) (c0 : Nat) (l0 : List Int) (a1 : Int) (r : Bool) (w : World) (hr0 : Kd.C (Kd.int .u8) w A0 l0.length l0) (hc0 : l0.length ≤ c0) (h : decanterref02_more.f l0 a1 = some r) :
    Calls Tryd.prog 116 #[.slice A0 l0.length c0, .int .i64 a1] w fun e w' => e = .returned (.bool r) ∧ Drawn0 w w' := by
  have HR0 := Aside0.mk hr0
  have HC0 := Aside0.mk hc0
  clear hr0 hc0
  have H : (if a1 < (l0.length : Int) then (if 0 ≤ a1 then (if (rd l0 a1) ≥ 128 then (some (decide ((rd l0 a1) < 192))) else (some false)) else (none)) else (some false)) = some r := h
  clear h
  by_cases c3 : a1 < (l0.length : Int)
  · rw [if_pos c3] at H
    have c3b0 : decide (a1 < (l0.length : Int)) = true := decide_eq_true c3
    clear c3
    by_cases c4 : 0 ≤ a1
    · rw [if_pos c4] at H
      have c4b0 : decide (0 ≤ a1) = true := decide_eq_true c4
      clear c4
      by_cases c5 : (rd l0 a1) ≥ 128
      · rw [if_pos c5] at H
        have c5b0 : decide (128 ≤ (rd l0 a1)) = true := decide_eq_true c5
        clear c5
        obtain rfl := Option.some.inj H
        have p253 : 0 ≤ (a1 : Int) := of_decide_eq_true (by first | (with_reducible assumption) | assumption)
        have q253 : a1 < (l0.length : Int) := of_decide_eq_true (by first | (with_reducible assumption) | assumption)
        obtain ⟨ad253, e253, hx253_0⟩ := Kd.at_int HR0.out a1 p253 q253
        cases e253
        replace p253 := eq_true p253
        replace q253 := eq_true q253
        have p254 : 0 ≤ (a1 : Int) := of_decide_eq_true (by first | (with_reducible assumption) | assumption)
        have q254 : a1 < (l0.length : Int) := of_decide_eq_true (by first | (with_reducible assumption) | assumption)
        obtain ⟨ad254, e254, hx254_0⟩ := Kd.at_int HR0.out a1 p254 q254
        obtain rfl : ad253 = ad254 := (by injection e254)
        replace p254 := eq_true p254
        replace q254 := eq_true q254
        go_enter Tryd.func116, Tryd.ntmps116
        go_wp2
        go_ret
        exact ⟨by first | rfl | (simp; done) | (simp [*]; done), by repeat (first | exact Drawn0.refl _ | apply Drawn0.step)⟩
      · rw [if_neg c5] at H
        have c5b0 : decide (128 ≤ (rd l0 a1)) = false := decide_eq_false c5
        clear c5
        obtain rfl := Option.some.inj H
        have p253 : 0 ≤ (a1 : Int) := of_decide_eq_true (by first | (with_reducible assumption) | assumption)
        have q253 : a1 < (l0.length : Int) := of_decide_eq_true (by first | (with_reducible assumption) | assumption)
        obtain ⟨ad253, e253, hx253_0⟩ := Kd.at_int HR0.out a1 p253 q253
        cases e253
        replace p253 := eq_true p253
        replace q253 := eq_true q253
        go_enter Tryd.func116, Tryd.ntmps116
        go_wp2
        go_ret
        exact ⟨by first | rfl | (simp; done) | (simp [*]; done), by repeat (first | exact Drawn0.refl _ | apply Drawn0.step)⟩
    · rw [if_neg c4] at H
      exact absurd H (by simp)
  · rw [if_neg c3] at H
    have c3b0 : decide (a1 < (l0.length : Int)) = false := decide_eq_false c3
    clear c3
    obtain rfl := Option.some.inj H
    go_enter Tryd.func116, Tryd.ntmps116
    go_wp2
    go_ret
    exact ⟨by first | rfl | (simp; done) | (simp [*]; done), by repeat (first | exact Drawn0.refl _ | apply Drawn0.step)⟩

end Go.Proofs.YteahlapoeiikoaaDoor.P


-- Printed by a program of this session (wip/myprint.py over the kit's print).
namespace Go.Proofs.YteahlapoeiikoaaDoor.P
open Go.RowKit Go.Proofs.YteahlapoeiikoaaDoorW.PrintWords Go.Proofs.YteahlapoeiikoaaDoorW.PrintLast Go.Proofs.YteahlapoeiikoaaDoorW.PrintMore
attribute [local go_sem] max2_int min2_int max_two min_two max_three min_three max_four min_four   -- for this text's walks alone
set_option linter.unusedVariables false
set_option linter.unusedSimpArgs false

/-! ### decanterref02_utf: function 95 -/
mutual
def decanterref02_utf.j0 : Nat → List Int → Int → Int → Bool → Option (Int × Int)
  | 0, _, _, _, _ => none
  | k + 1, x0, x1, x6, x24 => if x24 = true then (decanterref02_utf.j2 k x0 x1 1 128 (wrap64 (x6 - 192))) else (if x6 ≥ 224 then (decanterref02_utf.j1 k x0 x1 x6 (decide (x6 < 240))) else (decanterref02_utf.j1 k x0 x1 x6 false))
def decanterref02_utf.j2 : Nat → List Int → Int → Int → Int → Int → Option (Int × Int)
  | 0, _, _, _, _, _ => none
  | k + 1, x0, x1, x7, x8, x9 => decanterref02_utf.l0 k x0 x1 x7 x8 x9 1
def decanterref02_utf.l0 : Nat → List Int → Int → Int → Int → Int → Int → Option (Int × Int)
  | 0, _, _, _, _, _, _ => none
  | k + 1, x0, x1, x7, x8, x9, x10 => if x10 ≤ x7 then ((decanterref02_more.f x0 (wrap64 (x1 + x10))).bind fun t256 => (if t256 = true then (if 0 ≤ (wrap64 (x1 + x10)) then (if (wrap64 (x1 + x10)) < (x0.length : Int) then (decanterref02_utf.l0 k x0 x1 x7 x8 (wrap64 ((wrap64 ((wrap64 (x9 * 64)) + (wrap64 (rd x0 (wrap64 (x1 + x10)))))) - 128)) (wrap64 (x10 + 1))) else (none)) else (none)) else (some (0, 0)))) else (if x9 < x8 then (some (0, 0)) else (if x9 > 1114111 then (some (0, 0)) else (if x9 ≥ 55296 then (if x9 < 57344 then (some (0, 0)) else (some (x9, wrap64 (x7 + 1)))) else (some (x9, wrap64 (x7 + 1))))))
def decanterref02_utf.j1 : Nat → List Int → Int → Int → Bool → Option (Int × Int)
  | 0, _, _, _, _ => none
  | k + 1, x0, x1, x6, x32 => if x32 = true then (decanterref02_utf.j2 k x0 x1 2 2048 (wrap64 (x6 - 224))) else (if x6 ≥ 240 then (if x6 < 245 then (decanterref02_utf.j2 k x0 x1 3 65536 (wrap64 (x6 - 240))) else (some (0, 0))) else (some (0, 0)))
end
def decanterref02_utf.f (k : Nat) (l0 : List Int) (a1 : Int) : Option (Int × Int) := if 0 ≤ a1 then (if a1 < (l0.length : Int) then (if (wrap64 (rd l0 a1)) < 128 then (some (wrap64 (rd l0 a1), 1)) else (if (wrap64 (rd l0 a1)) ≥ 194 then (decanterref02_utf.j0 k l0 a1 (wrap64 (rd l0 a1)) (decide ((wrap64 (rd l0 a1)) < 224))) else (decanterref02_utf.j0 k l0 a1 (wrap64 (rd l0 a1)) false))) else (none)) else (none)
set_option maxHeartbeats 8000000 in
set_option maxRecDepth 100000 in
theorem decanterref02_utf.calls (k : Nat) (A0 : Option Addr) (c0 : Nat) (l0 : List Int) (a1 : Int) (r1 : Int) (r2 : Int) (w : World) (hr0 : Kd.C (Kd.int .u8) w A0 l0.length l0) (hc0 : l0.length ≤ c0) (h : decanterref02_utf.f k l0 a1 = some (r1, r2)) :
    Calls Tryd.prog 95 #[.slice A0 l0.length c0, .int .i64 a1] w fun e w' => e = .returned (.tuple #[.int .i64 r1, .int .i64 r2]) ∧ Drawn0 w w' := by
  have HR0 := Aside0.mk hr0
  have HC0 := Aside0.mk hc0
  clear hr0 hc0
  have H : (if 0 ≤ a1 then (if a1 < (l0.length : Int) then (if (wrap64 (rd l0 a1)) < 128 then (some (wrap64 (rd l0 a1), 1)) else (if (wrap64 (rd l0 a1)) ≥ 194 then (decanterref02_utf.j0 k l0 a1 (wrap64 (rd l0 a1)) (decide ((wrap64 (rd l0 a1)) < 224))) else (decanterref02_utf.j0 k l0 a1 (wrap64 (rd l0 a1)) false))) else (none)) else (none)) = some (r1, r2) := h
  clear h
  by_cases c3 : 0 ≤ a1
  · rw [if_pos c3] at H
    have c3b0 : decide (0 ≤ a1) = true := decide_eq_true c3
    clear c3
    by_cases c4 : a1 < (l0.length : Int)
    · rw [if_pos c4] at H
      have c4b0 : decide (a1 < (l0.length : Int)) = true := decide_eq_true c4
      clear c4
      by_cases c5 : (wrap64 (rd l0 a1)) < 128
      · rw [if_pos c5] at H
        have c5b0 : decide ((wrap64 (rd l0 a1)) < 128) = true := decide_eq_true c5
        clear c5
        simp only [Option.some.injEq, Prod.mk.injEq] at H
        obtain ⟨rfl, rfl⟩ := H
        have p255 : 0 ≤ (a1 : Int) := of_decide_eq_true (by first | (with_reducible assumption) | assumption)
        have q255 : a1 < (l0.length : Int) := of_decide_eq_true (by first | (with_reducible assumption) | assumption)
        obtain ⟨ad255, e255, hx255_0⟩ := Kd.at_int HR0.out a1 p255 q255
        cases e255
        replace p255 := eq_true p255
        replace q255 := eq_true q255
        go_enter Tryd.func95, Tryd.ntmps95
        go_wp2
        go_ret2
        exact ⟨by first | rfl | (simp; done) | (simp [*]; done), by repeat (first | exact Drawn0.refl _ | apply Drawn0.step)⟩
      · rw [if_neg c5] at H
        have c5b0 : decide ((wrap64 (rd l0 a1)) < 128) = false := decide_eq_false c5
        clear c5
        have HC6 := Aside0.mk H
        clear H
        have p255 : 0 ≤ (a1 : Int) := of_decide_eq_true (by first | (with_reducible assumption) | assumption)
        have q255 : a1 < (l0.length : Int) := of_decide_eq_true (by first | (with_reducible assumption) | assumption)
        obtain ⟨ad255, e255, hx255_0⟩ := Kd.at_int HR0.out a1 p255 q255
        cases e255
        replace p255 := eq_true p255
        replace q255 := eq_true q255
        go_enter Tryd.func95, Tryd.ntmps95
        go_upto_region 5 with (fail)
        go_cut [24] (fun v24 wc => ∃ (kq : Nat) (x24_5 : Bool), v24 = .bool x24_5 ∧ Aside0 (decanterref02_utf.j0 kq l0 a1 (wrap64 (rd l0 a1)) x24_5 = some (r1, r2)) ∧ Aside0 (kq ≤ k) ∧ Drawn0 w wc)
        case first =>
          have H := HC6.out
          clear HC6
          by_cases c7 : (wrap64 (rd l0 a1)) ≥ 194
          · rw [if_pos c7] at H
            have c7b0 : decide (194 ≤ (wrap64 (rd l0 a1))) = true := decide_eq_true c7
            clear c7
            (first | rw [c7b0] | (simp only [i64_w, i32_w]; rw [c7b0]) | rw [c7b1] | skip)
            have H' := Aside0.mk H
            clear H
            go_wp2
            go_meet
            case rel => exact ⟨_, (decide ((wrap64 (rd l0 a1)) < 224)), (by first | rfl | (simp; done) | (simp [*]; done)), H', ⟨by first | omega | exact Nat.le_refl _⟩, by repeat (first | exact Drawn0.refl _ | apply Drawn0.step)⟩
          · rw [if_neg c7] at H
            have c7b0 : decide (194 ≤ (wrap64 (rd l0 a1))) = false := decide_eq_false c7
            clear c7
            (first | rw [c7b0] | (simp only [i64_w, i32_w]; rw [c7b0]) | rw [c7b1] | skip)
            have H' := Aside0.mk H
            clear H
            go_wp2
            go_meet
            case rel => exact ⟨_, (false), (by first | rfl | (simp; done) | (simp [*]; done)), H', ⟨by first | omega | exact Nat.le_refl _⟩, by repeat (first | exact Drawn0.refl _ | apply Drawn0.step)⟩
        case rest =>
          clear HC6
          try clear p2
          try clear q2
          try clear hx2
          try clear c3
          try clear c3b0
          try clear c4
          try clear c4b0
          try clear c5
          try clear c5b0
          try clear p6
          try clear c7
          try clear c7b0
          try clear c7b1
          try clear hx255_0
          try clear p255
          try clear q255
          obtain ⟨kq, x24_5, rfl, HA, HJ5, ⟨mc5, rfl⟩⟩ := hcut
          cases kq with
          | zero => exact absurd HA.out (by simp [decanterref02_utf.j0])
          | succ kj5 =>
            have H := HA.out
            clear HA
            simp only [decanterref02_utf.j0] at H
            have HC8 := Aside0.mk H
            clear H
            go_upto_if 24 with (fail)
            go_cut [7, 8, 9] (fun v7 v8 v9 wc => ∃ (kq : Nat) (x7_7 : Int) (x8_7 : Int) (x9_7 : Int), v7 = .int .i64 x7_7 ∧ v8 = .int .i64 x8_7 ∧ v9 = .int .i64 x9_7 ∧ Aside0 (decanterref02_utf.j2 kq l0 a1 x7_7 x8_7 x9_7 = some (r1, r2)) ∧ Aside0 (kq ≤ kj5) ∧ Drawn0 w wc)
            case first =>
              have H := HC8.out
              clear HC8
              by_cases c9 : x24_5 = true
              · subst c9
                have H1 : (decanterref02_utf.j2 kj5 l0 a1 1 128 (wrap64 ((wrap64 (rd l0 a1)) - 192))) = some (r1, r2) := by rw [if_pos rfl] at H; exact H
                clear H
                have H := H1
                clear H1
                have H' := Aside0.mk H
                clear H
                go_wp2
                go_meet
                case rel => exact ⟨_, (1), (128), (wrap64 ((wrap64 (rd l0 a1)) - 192)), (by first | rfl | (simp; done) | (simp [*]; done)), (by first | rfl | (simp; done) | (simp [*]; done)), (by first | rfl | (simp; done) | (simp [*]; done)), H', ⟨by have := HJ5.out; first | omega | exact Nat.le_refl _⟩, by repeat (first | exact Drawn0.refl _ | apply Drawn0.step)⟩
              · replace c9 := Bool.eq_false_iff.mpr c9
                subst c9
                have H1 : (if (wrap64 (rd l0 a1)) ≥ 224 then (decanterref02_utf.j1 kj5 l0 a1 (wrap64 (rd l0 a1)) (decide ((wrap64 (rd l0 a1)) < 240))) else (decanterref02_utf.j1 kj5 l0 a1 (wrap64 (rd l0 a1)) false)) = some (r1, r2) := by rw [if_neg (show ¬ (false = true) by decide)] at H; exact H
                clear H
                have H := H1
                clear H1
                have HC10 := Aside0.mk H
                clear H
                go_upto_region 9 with (fail)
                go_cut [32] (fun v32 wc => ∃ (kq : Nat) (x32_9 : Bool), v32 = .bool x32_9 ∧ Aside0 (decanterref02_utf.j1 kq l0 a1 (wrap64 (rd l0 a1)) x32_9 = some (r1, r2)) ∧ Aside0 (kq ≤ kj5) ∧ Drawn0 w wc)
                case first =>
                  have H := HC10.out
                  clear HC10
                  by_cases c11 : (wrap64 (rd l0 a1)) ≥ 224
                  · rw [if_pos c11] at H
                    have c11b0 : decide (224 ≤ (wrap64 (rd l0 a1))) = true := decide_eq_true c11
                    clear c11
                    (first | rw [c11b0] | (simp only [i64_w, i32_w]; rw [c11b0]) | rw [c11b1] | skip)
                    have H' := Aside0.mk H
                    clear H
                    go_wp2
                    go_meet
                    case rel => exact ⟨_, (decide ((wrap64 (rd l0 a1)) < 240)), (by first | rfl | (simp; done) | (simp [*]; done)), H', ⟨by have := HJ5.out; first | omega | exact Nat.le_refl _⟩, by repeat (first | exact Drawn0.refl _ | apply Drawn0.step)⟩
                  · rw [if_neg c11] at H
                    have c11b0 : decide (224 ≤ (wrap64 (rd l0 a1))) = false := decide_eq_false c11
                    clear c11
                    (first | rw [c11b0] | (simp only [i64_w, i32_w]; rw [c11b0]) | rw [c11b1] | skip)
                    have H' := Aside0.mk H
                    clear H
                    go_wp2
                    go_meet
                    case rel => exact ⟨_, (false), (by first | rfl | (simp; done) | (simp [*]; done)), H', ⟨by have := HJ5.out; first | omega | exact Nat.le_refl _⟩, by repeat (first | exact Drawn0.refl _ | apply Drawn0.step)⟩
                case rest =>
                  clear HC10
                  try clear c1
                  try clear p2
                  try clear q2
                  try clear hx2
                  try clear c3
                  try clear c3b0
                  try clear c4
                  try clear c4b0
                  try clear c5
                  try clear c5b0
                  try clear p6
                  try clear c7
                  try clear c7b0
                  try clear c7b1
                  try clear c9
                  try clear c11
                  try clear c11b0
                  try clear c11b1
                  try clear hx255_0
                  try clear p2
                  try clear p255
                  try clear p6
                  try clear q2
                  try clear q255
                  obtain ⟨kq, x32_9, rfl, HA, HJ9, ⟨mc9, rfl⟩⟩ := hcut
                  cases kq with
                  | zero => exact absurd HA.out (by simp [decanterref02_utf.j1])
                  | succ kj9 =>
                    have H := HA.out
                    clear HA
                    simp only [decanterref02_utf.j1] at H
                    by_cases c12 : x32_9 = true
                    · subst c12
                      have H1 : (decanterref02_utf.j2 kj9 l0 a1 2 2048 (wrap64 ((wrap64 (rd l0 a1)) - 224))) = some (r1, r2) := by rw [if_pos rfl] at H; exact H
                      clear H
                      have H := H1
                      clear H1
                      have H' := Aside0.mk H
                      clear H
                      go_wp2
                      go_meet
                      case rel => exact ⟨_, (2), (2048), (wrap64 ((wrap64 (rd l0 a1)) - 224)), (by first | rfl | (simp; done) | (simp [*]; done)), (by first | rfl | (simp; done) | (simp [*]; done)), (by first | rfl | (simp; done) | (simp [*]; done)), H', ⟨by have := HJ5.out; have := HJ9.out; first | omega | exact Nat.le_refl _⟩, by repeat (first | exact Drawn0.refl _ | apply Drawn0.step)⟩
                    · replace c12 := Bool.eq_false_iff.mpr c12
                      subst c12
                      have H1 : (if (wrap64 (rd l0 a1)) ≥ 240 then (if (wrap64 (rd l0 a1)) < 245 then (decanterref02_utf.j2 kj9 l0 a1 3 65536 (wrap64 ((wrap64 (rd l0 a1)) - 240))) else (some (0, 0))) else (some (0, 0))) = some (r1, r2) := by rw [if_neg (show ¬ (false = true) by decide)] at H; exact H
                      clear H
                      have H := H1
                      clear H1
                      by_cases c13 : (wrap64 (rd l0 a1)) ≥ 240
                      · rw [if_pos c13] at H
                        have c13b0 : decide (240 ≤ (wrap64 (rd l0 a1))) = true := decide_eq_true c13
                        clear c13
                        by_cases c14 : (wrap64 (rd l0 a1)) < 245
                        · rw [if_pos c14] at H
                          have c14b0 : decide ((wrap64 (rd l0 a1)) < 245) = true := decide_eq_true c14
                          clear c14
                          have H' := Aside0.mk H
                          clear H
                          go_wp2
                          go_meet
                          case rel => exact ⟨_, (3), (65536), (wrap64 ((wrap64 (rd l0 a1)) - 240)), (by first | rfl | (simp; done) | (simp [*]; done)), (by first | rfl | (simp; done) | (simp [*]; done)), (by first | rfl | (simp; done) | (simp [*]; done)), H', ⟨by have := HJ5.out; have := HJ9.out; first | omega | exact Nat.le_refl _⟩, by repeat (first | exact Drawn0.refl _ | apply Drawn0.step)⟩
                        · rw [if_neg c14] at H
                          have c14b0 : decide ((wrap64 (rd l0 a1)) < 245) = false := decide_eq_false c14
                          clear c14
                          simp only [Option.some.injEq, Prod.mk.injEq] at H
                          obtain ⟨rfl, rfl⟩ := H
                          go_wp2
                          go_ret2
                          exact ⟨by first | rfl | (simp; done) | (simp [*]; done), by repeat (first | exact Drawn0.refl _ | apply Drawn0.step)⟩
                      · rw [if_neg c13] at H
                        have c13b0 : decide (240 ≤ (wrap64 (rd l0 a1))) = false := decide_eq_false c13
                        clear c13
                        simp only [Option.some.injEq, Prod.mk.injEq] at H
                        obtain ⟨rfl, rfl⟩ := H
                        go_wp2
                        go_ret2
                        exact ⟨by first | rfl | (simp; done) | (simp [*]; done), by repeat (first | exact Drawn0.refl _ | apply Drawn0.step)⟩
            case rest =>
              clear HC8
              try clear c1
              try clear p2
              try clear q2
              try clear hx2
              try clear c3
              try clear c3b0
              try clear c4
              try clear c4b0
              try clear c5
              try clear c5b0
              try clear p6
              try clear c7
              try clear c7b0
              try clear c7b1
              try clear c9
              try clear c11
              try clear c11b0
              try clear c11b1
              try clear c12
              try clear c13
              try clear c13b0
              try clear c14
              try clear c14b0
              try clear hx255_0
              try clear p2
              try clear p255
              try clear p6
              try clear q2
              try clear q255
              obtain ⟨kq, x7_7, x8_7, x9_7, rfl, rfl, rfl, HA, HJ7, ⟨mc7, rfl⟩⟩ := hcut
              cases kq with
              | zero => exact absurd HA.out (by simp [decanterref02_utf.j2])
              | succ kj7 =>
                have H := HA.out
                clear HA
                simp only [decanterref02_utf.j2] at H
                have H' := Aside0.mk H
                clear H
                go_wp2
                go_loopg [9, 10] kj7 (fun kq v9 v10 w' => ∃ (x9_3 : Int) (x10_3 : Int), v9 = .int .i64 x9_3 ∧ v10 = .int .i64 x10_3 ∧ Aside0 (decanterref02_utf.l0 kq l0 a1 x7_7 x8_7 x9_3 x10_3 = some (r1, r2)) ∧ Aside0 (kq ≤ kj7) ∧ Drawn0 w w')
                case atStart => exact ⟨(x9_7), (1), (by first | rfl | (simp; done) | (simp [*]; done) | (simp; generalize ByteArray.toList _ = l_; cases l_ <;> rfl)), (by first | rfl | (simp; done) | (simp [*]; done) | (simp; generalize ByteArray.toList _ = l_; cases l_ <;> rfl)), H', ⟨Nat.le_refl _⟩, by repeat (first | exact Drawn0.refl _ | apply Drawn0.step)⟩
                case round =>
                  clear H'
                  try clear c1
                  try clear p2
                  try clear q2
                  try clear hx2
                  try clear c3
                  try clear c3b0
                  try clear c4
                  try clear c4b0
                  try clear c5
                  try clear c5b0
                  try clear p6
                  try clear c7
                  try clear c7b0
                  try clear c7b1
                  try clear c9
                  try clear c11
                  try clear c11b0
                  try clear c11b1
                  try clear c12
                  try clear c13
                  try clear c13b0
                  try clear c14
                  try clear c14b0
                  try clear hx255_0
                  try clear p2
                  try clear p255
                  try clear p6
                  try clear q2
                  try clear q255
                  obtain ⟨x9_3, x10_3, rfl, rfl, HA, HK3, ⟨m3, rfl⟩⟩ := hrel
                  cases gk with
                  | zero => exact absurd HA.out (by simp [decanterref02_utf.l0])
                  | succ k3 =>
                    have H := HA.out
                    clear HA
                    simp only [decanterref02_utf.l0] at H
                    by_cases c15 : x10_3 ≤ x7_7
                    · rw [if_pos c15] at H
                      have c15b0 : decide (x10_3 ≤ x7_7) = true := decide_eq_true c15
                      clear c15
                      replace H := Option.bind_eq_some_iff.mp H
                      obtain ⟨t256, A160, H⟩ := H
                      replace H : (if t256 = true then (if 0 ≤ (wrap64 (a1 + x10_3)) then (if (wrap64 (a1 + x10_3)) < (l0.length : Int) then (decanterref02_utf.l0 k3 l0 a1 x7_7 x8_7 (wrap64 ((wrap64 ((wrap64 (x9_3 * 64)) + (wrap64 (rd l0 (wrap64 (a1 + x10_3)))))) - 128)) (wrap64 (x10_3 + 1))) else (none)) else (none)) else (some (0, 0))) = some (r1, r2) := H
                      have A16 := Aside0.mk A160
                      clear A160
                      by_cases c17 : t256 = true
                      · subst c17
                        have H1 : (if 0 ≤ (wrap64 (a1 + x10_3)) then (if (wrap64 (a1 + x10_3)) < (l0.length : Int) then (decanterref02_utf.l0 k3 l0 a1 x7_7 x8_7 (wrap64 ((wrap64 ((wrap64 (x9_3 * 64)) + (wrap64 (rd l0 (wrap64 (a1 + x10_3)))))) - 128)) (wrap64 (x10_3 + 1))) else (none)) else (none)) = some (r1, r2) := by rw [if_pos rfl] at H; exact H
                        clear H
                        have H := H1
                        clear H1
                        obtain ⟨ji18, hji18⟩ : ∃ j_ : Int, (wrap64 (a1 + x10_3)) = j_ := ⟨_, rfl⟩
                        replace H : (if 0 ≤ (ji18) then (if (ji18) < (l0.length : Int) then (decanterref02_utf.l0 k3 l0 a1 x7_7 x8_7 (wrap64 ((wrap64 ((wrap64 (x9_3 * 64)) + (wrap64 (rd l0 (ji18))))) - 128)) (wrap64 (x10_3 + 1))) else (none)) else (none)) = some (r1, r2) := by first | (rw [hji18] at H; exact H) | (simp only [hji18] at H ⊢; exact H)
                        (try rw [hji18] at A16)
                        have hji18w : (IntKind.i64.wrap (a1 + x10_3)) = ji18 := (i64_w _).trans hji18
                        by_cases c19 : 0 ≤ (ji18)
                        · rw [if_pos c19] at H
                          have c19b0 : decide (0 ≤ (ji18)) = true := decide_eq_true c19
                          clear c19
                          by_cases c20 : (ji18) < (l0.length : Int)
                          · rw [if_pos c20] at H
                            have c20b0 : decide ((ji18) < (l0.length : Int)) = true := decide_eq_true c20
                            clear c20
                            have H' := Aside0.mk H
                            clear H
                            go_wp2_with (first | ((with_reducible refine gate_callee (f := 116) rfl ?_); refine goesL_ (some 52) rfl rfl Tryd.func116 (by kernel_rfl) rfl #[.slice (some ad255) l0.length c0, .int .i64 ji18] rfl (by (try simp only [List.map_toArray, List.map_cons, List.map_nil]); first | done | (simp only [hji18]; rfl) | rfl | (simp only [List.length_drop, List.length_take]; rfl)) ?_; (with_reducible refine (decanterref02_more.calls _ _ l0 ji18 true _ ?side1 ?side2 A16.out).mono ?_); (case side1 => repeat (first | exact HR0.out | (with_reducible refine Kd.C_alloc ?_ _) | (with_reducible refine Kd.C_drewN ?_ _) | (with_reducible refine Kd.C_drew ?_))); (case side2 => exact HC0.out); rintro e w' ⟨rfl, ⟨nd, rfl⟩⟩; refine ⟨_, rfl, ?_⟩; have p257 : 0 ≤ ((ji18) : Int) := of_decide_eq_true (by first | (with_reducible assumption) | assumption); have q257 : (ji18) < (l0.length : Int) := of_decide_eq_true (by first | (with_reducible assumption) | assumption); obtain ⟨ad257, e257, hx257_0⟩ := Kd.at_int HR0.out (ji18) p257 q257; obtain rfl : ad255 = ad257 := (by injection e257); replace p257 := eq_true p257; replace q257 := eq_true q257))
                            go_roundg k3
                            case measure => have := HJ5.out; have := HJ7.out; have := HK3.out; omega
                            case rel => exact ⟨(wrap64 ((wrap64 ((wrap64 (x9_3 * 64)) + (wrap64 (rd l0 (ji18))))) - 128)), (wrap64 (x10_3 + 1)), (by first | rfl | (simp; done) | (simp only [← hji18] <;> (first | rfl | simp)) | (simp [*]; done)), (by first | rfl | (simp; done) | (simp [*]; done)), H', ⟨by have := HJ5.out; have := HJ7.out; have := HK3.out; omega⟩, by repeat (first | exact Drawn0.refl _ | apply Drawn0.step)⟩
                          · rw [if_neg c20] at H
                            exact absurd H (by simp)
                        · rw [if_neg c19] at H
                          exact absurd H (by simp)
                      · replace c17 := Bool.eq_false_iff.mpr c17
                        subst c17
                        have H1 : (some (0, 0)) = some (r1, r2) := by rw [if_neg (show ¬ (false = true) by decide)] at H; exact H
                        clear H
                        have H := H1
                        clear H1
                        simp only [Option.some.injEq, Prod.mk.injEq] at H
                        obtain ⟨rfl, rfl⟩ := H
                        go_wp2_with (first | ((with_reducible refine gate_callee (f := 116) rfl ?_); refine goesL_ (some 52) rfl rfl Tryd.func116 (by kernel_rfl) rfl #[.slice (some ad255) l0.length c0, .int .i64 (wrap64 (a1 + x10_3))] rfl (by (try simp only [List.map_toArray, List.map_cons, List.map_nil]); first | done | rfl | (simp only [List.length_drop, List.length_take]; rfl)) ?_; (with_reducible refine (decanterref02_more.calls _ _ l0 (wrap64 (a1 + x10_3)) false _ ?side1 ?side2 A16.out).mono ?_); (case side1 => repeat (first | exact HR0.out | (with_reducible refine Kd.C_alloc ?_ _) | (with_reducible refine Kd.C_drewN ?_ _) | (with_reducible refine Kd.C_drew ?_))); (case side2 => exact HC0.out); rintro e w' ⟨rfl, ⟨nd, rfl⟩⟩; refine ⟨_, rfl, ?_⟩))
                        go_ret2
                        exact ⟨by first | rfl | (simp; done) | (simp [*]; done), by repeat (first | exact Drawn0.refl _ | apply Drawn0.step)⟩
                    · rw [if_neg c15] at H
                      have c15b0 : decide (x10_3 ≤ x7_7) = false := decide_eq_false c15
                      clear c15
                      by_cases c21 : x9_3 < x8_7
                      · rw [if_pos c21] at H
                        have c21b0 : decide (x9_3 < x8_7) = true := decide_eq_true c21
                        clear c21
                        simp only [Option.some.injEq, Prod.mk.injEq] at H
                        obtain ⟨rfl, rfl⟩ := H
                        go_wp2
                        go_ret2
                        exact ⟨by first | rfl | (simp; done) | (simp [*]; done), by repeat (first | exact Drawn0.refl _ | apply Drawn0.step)⟩
                      · rw [if_neg c21] at H
                        have c21b0 : decide (x9_3 < x8_7) = false := decide_eq_false c21
                        clear c21
                        by_cases c22 : x9_3 > 1114111
                        · rw [if_pos c22] at H
                          have c22b0 : decide (1114111 < x9_3) = true := decide_eq_true c22
                          clear c22
                          simp only [Option.some.injEq, Prod.mk.injEq] at H
                          obtain ⟨rfl, rfl⟩ := H
                          go_wp2
                          go_ret2
                          exact ⟨by first | rfl | (simp; done) | (simp [*]; done), by repeat (first | exact Drawn0.refl _ | apply Drawn0.step)⟩
                        · rw [if_neg c22] at H
                          have c22b0 : decide (1114111 < x9_3) = false := decide_eq_false c22
                          clear c22
                          by_cases c23 : x9_3 ≥ 55296
                          · rw [if_pos c23] at H
                            have c23b0 : decide (55296 ≤ x9_3) = true := decide_eq_true c23
                            clear c23
                            by_cases c24 : x9_3 < 57344
                            · rw [if_pos c24] at H
                              have c24b0 : decide (x9_3 < 57344) = true := decide_eq_true c24
                              clear c24
                              simp only [Option.some.injEq, Prod.mk.injEq] at H
                              obtain ⟨rfl, rfl⟩ := H
                              go_wp2
                              go_ret2
                              exact ⟨by first | rfl | (simp; done) | (simp [*]; done), by repeat (first | exact Drawn0.refl _ | apply Drawn0.step)⟩
                            · rw [if_neg c24] at H
                              have c24b0 : decide (x9_3 < 57344) = false := decide_eq_false c24
                              clear c24
                              simp only [Option.some.injEq, Prod.mk.injEq] at H
                              obtain ⟨rfl, rfl⟩ := H
                              go_wp2
                              go_ret2
                              exact ⟨by first | rfl | (simp; done) | (simp [*]; done), by repeat (first | exact Drawn0.refl _ | apply Drawn0.step)⟩
                          · rw [if_neg c23] at H
                            have c23b0 : decide (55296 ≤ x9_3) = false := decide_eq_false c23
                            clear c23
                            simp only [Option.some.injEq, Prod.mk.injEq] at H
                            obtain ⟨rfl, rfl⟩ := H
                            go_wp2
                            go_ret2
                            exact ⟨by first | rfl | (simp; done) | (simp [*]; done), by repeat (first | exact Drawn0.refl _ | apply Drawn0.step)⟩
    · rw [if_neg c4] at H
      exact absurd H (by simp)
  · rw [if_neg c3] at H
    exact absurd H (by simp)

end Go.Proofs.YteahlapoeiikoaaDoor.P


-- Printed by a program of this session (wip/myprint.py over the kit's print).
namespace Go.Proofs.YteahlapoeiikoaaDoor.P
open Go.RowKit Go.Proofs.YteahlapoeiikoaaDoorW.PrintWords Go.Proofs.YteahlapoeiikoaaDoorW.PrintLast Go.Proofs.YteahlapoeiikoaaDoorW.PrintMore
attribute [local go_sem] max2_int min2_int max_two min_two max_three min_three max_four min_four   -- for this text's walks alone
set_option linter.unusedVariables false
set_option linter.unusedSimpArgs false

/-! ### decanterref02_Next: function 81 -/
mutual
def decanterref02_Next.j0 : Nat → List Int → Int → Bool → Option (Int × Int)
  | 0, _, _, _ => none
  | k + 1, x0, x1, x15 => if x15 = true then (some (0, 0)) else (if 0 ≤ x1 then (if x1 < (x0.length : Int) then (if (rd x0 x1) = 13 then (if (wrap64 (x1 + 1)) < (x0.length : Int) then (if 0 ≤ (wrap64 (x1 + 1)) then (decanterref02_Next.j1 k ((rd x0 (wrap64 (x1 + 1))) == 10)) else (none)) else (decanterref02_Next.j1 k false)) else ((decanterref02_utf.f k x0 x1).bind fun bt260 => (if bt260.2 = 0 then (some (65533, 1)) else (if bt260.1 = 0 then (some (65533, 1)) else (some (bt260.1, bt260.2)))))) else (none)) else (none))
def decanterref02_Next.j1 : Nat → Bool → Option (Int × Int)
  | 0, _ => none
  | k + 1, x33 => if x33 = true then (some (10, 2)) else (some (10, 1))
end
def decanterref02_Next.f (k : Nat) (l0 : List Int) (a1 : Int) : Option (Int × Int) := if a1 < 0 then (decanterref02_Next.j0 k l0 a1 true) else (decanterref02_Next.j0 k l0 a1 (decide (a1 ≥ (l0.length : Int))))
set_option maxHeartbeats 8000000 in
set_option maxRecDepth 100000 in
theorem decanterref02_Next.calls (k : Nat) (A0 : Option Addr) (c0 : Nat) (l0 : List Int) (a1 : Int) (r1 : Int) (r2 : Int) (w : World) (hr0 : Kd.C (Kd.int .u8) w A0 l0.length l0) (hc0 : l0.length ≤ c0) (h : decanterref02_Next.f k l0 a1 = some (r1, r2)) :
    Calls Tryd.prog 81 #[.slice A0 l0.length c0, .int .i64 a1] w fun e w' => e = .returned (.tuple #[.int .i64 r1, .int .i64 r2]) ∧ Drawn0 w w' := by
  have HR0 := Aside0.mk hr0
  have HC0 := Aside0.mk hc0
  clear hr0 hc0
  have H : (if a1 < 0 then (decanterref02_Next.j0 k l0 a1 true) else (decanterref02_Next.j0 k l0 a1 (decide (a1 ≥ (l0.length : Int))))) = some (r1, r2) := h
  clear h
  have HC3 := Aside0.mk H
  clear H
  go_enter Tryd.func81, Tryd.ntmps81
  go_upto_region 1 with (fail)
  go_cut [15] (fun v15 wc => ∃ (kq : Nat) (x15_2 : Bool), v15 = .bool x15_2 ∧ Aside0 (decanterref02_Next.j0 kq l0 a1 x15_2 = some (r1, r2)) ∧ Aside0 (kq ≤ k) ∧ Drawn0 w wc)
  case first =>
    have H := HC3.out
    clear HC3
    by_cases c4 : a1 < 0
    · rw [if_pos c4] at H
      have c4b0 : decide (a1 < 0) = true := decide_eq_true c4
      clear c4
      (first | rw [c4b0] | (simp only [i64_w, i32_w]; rw [c4b0]) | rw [c4b1] | skip)
      have H' := Aside0.mk H
      clear H
      go_wp2
      go_meet
      case rel => exact ⟨_, (true), (by first | rfl | (simp; done) | (simp [*]; done)), H', ⟨by first | omega | exact Nat.le_refl _⟩, by repeat (first | exact Drawn0.refl _ | apply Drawn0.step)⟩
    · rw [if_neg c4] at H
      have c4b0 : decide (a1 < 0) = false := decide_eq_false c4
      clear c4
      (first | rw [c4b0] | (simp only [i64_w, i32_w]; rw [c4b0]) | rw [c4b1] | skip)
      have H' := Aside0.mk H
      clear H
      go_wp2
      go_meet
      case rel => exact ⟨_, (decide (a1 ≥ (l0.length : Int))), (by first | rfl | (simp; done) | (simp [*]; done)), H', ⟨by first | omega | exact Nat.le_refl _⟩, by repeat (first | exact Drawn0.refl _ | apply Drawn0.step)⟩
  case rest =>
    clear HC3
    try clear p2
    try clear c4
    try clear c4b0
    try clear c4b1
    obtain ⟨kq, x15_2, rfl, HA, HJ2, ⟨mc2, rfl⟩⟩ := hcut
    cases kq with
    | zero => exact absurd HA.out (by simp [decanterref02_Next.j0])
    | succ kj2 =>
      have H := HA.out
      clear HA
      simp only [decanterref02_Next.j0] at H
      by_cases c5 : x15_2 = true
      · subst c5
        have H1 : (some (0, 0)) = some (r1, r2) := by rw [if_pos rfl] at H; exact H
        clear H
        have H := H1
        clear H1
        simp only [Option.some.injEq, Prod.mk.injEq] at H
        obtain ⟨rfl, rfl⟩ := H
        go_wp2
        go_ret2
        exact ⟨by first | rfl | (simp; done) | (simp [*]; done), by repeat (first | exact Drawn0.refl _ | apply Drawn0.step)⟩
      · replace c5 := Bool.eq_false_iff.mpr c5
        subst c5
        have H1 : (if 0 ≤ a1 then (if a1 < (l0.length : Int) then (if (rd l0 a1) = 13 then (if (wrap64 (a1 + 1)) < (l0.length : Int) then (if 0 ≤ (wrap64 (a1 + 1)) then (decanterref02_Next.j1 kj2 ((rd l0 (wrap64 (a1 + 1))) == 10)) else (none)) else (decanterref02_Next.j1 kj2 false)) else ((decanterref02_utf.f kj2 l0 a1).bind fun bt260 => (if bt260.2 = 0 then (some (65533, 1)) else (if bt260.1 = 0 then (some (65533, 1)) else (some (bt260.1, bt260.2)))))) else (none)) else (none)) = some (r1, r2) := by rw [if_neg (show ¬ (false = true) by decide)] at H; exact H
        clear H
        have H := H1
        clear H1
        by_cases c6 : 0 ≤ a1
        · rw [if_pos c6] at H
          have c6b0 : decide (0 ≤ a1) = true := decide_eq_true c6
          clear c6
          by_cases c7 : a1 < (l0.length : Int)
          · rw [if_pos c7] at H
            have c7b0 : decide (a1 < (l0.length : Int)) = true := decide_eq_true c7
            clear c7
            by_cases c8 : (rd l0 a1) = 13
            · rw [if_pos c8] at H
              have c8b0 : ((rd l0 a1) == 13) = true := beq_iff_eq.mpr c8
              have c8b1 : ((rd l0 a1) != 13) = false := bne_eq_false_iff_eq.mpr c8
              clear c8
              have HC9 := Aside0.mk H
              clear H
              have p258 : 0 ≤ (a1 : Int) := of_decide_eq_true (by first | (with_reducible assumption) | assumption)
              have q258 : a1 < (l0.length : Int) := of_decide_eq_true (by first | (with_reducible assumption) | assumption)
              obtain ⟨ad258, e258, hx258_0⟩ := Kd.at_int HR0.out a1 p258 q258
              cases e258
              replace p258 := eq_true p258
              replace q258 := eq_true q258
              go_upto_region 4 with (fail)
              go_cut [33] (fun v33 wc => ∃ (kq : Nat) (x33_8 : Bool), v33 = .bool x33_8 ∧ Aside0 (decanterref02_Next.j1 kq x33_8 = some (r1, r2)) ∧ Aside0 (kq ≤ kj2) ∧ Drawn0 w wc)
              case first =>
                have H := HC9.out
                clear HC9
                by_cases c10 : (wrap64 (a1 + 1)) < (l0.length : Int)
                · rw [if_pos c10] at H
                  have c10b0 : decide ((wrap64 (a1 + 1)) < (l0.length : Int)) = true := decide_eq_true c10
                  clear c10
                  (first | rw [c10b0] | (simp only [i64_w, i32_w]; rw [c10b0]) | rw [c10b1] | skip)
                  obtain ⟨ji11, hji11⟩ : ∃ j_ : Int, (wrap64 (a1 + 1)) = j_ := ⟨_, rfl⟩
                  replace H : (if 0 ≤ (ji11) then (decanterref02_Next.j1 kj2 ((rd l0 (ji11)) == 10)) else (none)) = some (r1, r2) := by first | (rw [hji11] at H; exact H) | (simp only [hji11] at H ⊢; exact H)
                  (try rw [hji11] at c10b0)
                  have hji11w : (IntKind.i64.wrap (a1 + 1)) = ji11 := (i64_w _).trans hji11
                  by_cases c12 : 0 ≤ (ji11)
                  · rw [if_pos c12] at H
                    have c12b0 : decide (0 ≤ (ji11)) = true := decide_eq_true c12
                    clear c12
                    have H' := Aside0.mk H
                    clear H
                    have p259 : 0 ≤ ((ji11) : Int) := of_decide_eq_true (by first | (with_reducible assumption) | assumption)
                    have q259 : (ji11) < (l0.length : Int) := of_decide_eq_true (by first | (with_reducible assumption) | assumption)
                    obtain ⟨ad259, e259, hx259_0⟩ := Kd.at_int HR0.out (ji11) p259 q259
                    obtain rfl : ad258 = ad259 := (by injection e259)
                    replace p259 := eq_true p259
                    replace q259 := eq_true q259
                    go_wp2
                    go_meet
                    case rel => exact ⟨_, (((rd l0 (ji11)) == 10)), (by first | rfl | (simp; done) | (simp only [← hji11] <;> (first | rfl | simp)) | (simp [*]; done)), H', ⟨by have := HJ2.out; first | omega | exact Nat.le_refl _⟩, by repeat (first | exact Drawn0.refl _ | apply Drawn0.step)⟩
                  · rw [if_neg c12] at H
                    exact absurd H (by simp)
                · rw [if_neg c10] at H
                  have c10b0 : decide ((wrap64 (a1 + 1)) < (l0.length : Int)) = false := decide_eq_false c10
                  clear c10
                  (first | rw [c10b0] | (simp only [i64_w, i32_w]; rw [c10b0]) | rw [c10b1] | skip)
                  have H' := Aside0.mk H
                  clear H
                  go_wp2
                  go_meet
                  case rel => exact ⟨_, (false), (by first | rfl | (simp; done) | (simp [*]; done)), H', ⟨by have := HJ2.out; first | omega | exact Nat.le_refl _⟩, by repeat (first | exact Drawn0.refl _ | apply Drawn0.step)⟩
              case rest =>
                clear HC9
                try clear c1
                try clear c2
                try clear p2
                try clear q2
                try clear hx2
                try clear c4
                try clear c4b0
                try clear c4b1
                try clear c5
                try clear c6
                try clear c6b0
                try clear p6
                try clear c7
                try clear c7b0
                try clear c8
                try clear c8b0
                try clear c8b1
                try clear c10
                try clear c10b0
                try clear c10b1
                try clear c12
                try clear c12b0
                try clear hx258_0
                try clear hx259_0
                try clear p2
                try clear p258
                try clear p259
                try clear q258
                try clear q259
                obtain ⟨kq, x33_8, rfl, HA, HJ8, ⟨mc8, rfl⟩⟩ := hcut
                cases kq with
                | zero => exact absurd HA.out (by simp [decanterref02_Next.j1])
                | succ kj8 =>
                  have H := HA.out
                  clear HA
                  simp only [decanterref02_Next.j1] at H
                  by_cases c13 : x33_8 = true
                  · subst c13
                    have H1 : (some (10, 2)) = some (r1, r2) := by rw [if_pos rfl] at H; exact H
                    clear H
                    have H := H1
                    clear H1
                    simp only [Option.some.injEq, Prod.mk.injEq] at H
                    obtain ⟨rfl, rfl⟩ := H
                    go_wp2
                    go_ret2
                    exact ⟨by first | rfl | (simp; done) | (simp [*]; done), by repeat (first | exact Drawn0.refl _ | apply Drawn0.step)⟩
                  · replace c13 := Bool.eq_false_iff.mpr c13
                    subst c13
                    have H1 : (some (10, 1)) = some (r1, r2) := by rw [if_neg (show ¬ (false = true) by decide)] at H; exact H
                    clear H
                    have H := H1
                    clear H1
                    simp only [Option.some.injEq, Prod.mk.injEq] at H
                    obtain ⟨rfl, rfl⟩ := H
                    go_wp2
                    go_ret2
                    exact ⟨by first | rfl | (simp; done) | (simp [*]; done), by repeat (first | exact Drawn0.refl _ | apply Drawn0.step)⟩
            · rw [if_neg c8] at H
              have c8b0 : ((rd l0 a1) == 13) = false := beq_eq_false_iff_ne.mpr c8
              have c8b1 : ((rd l0 a1) != 13) = true := bne_iff_ne.mpr c8
              replace H := Option.bind_eq_some_iff.mp H
              obtain ⟨⟨t260, t261⟩, A140, H⟩ := H
              replace H : (if t261 = 0 then (some (65533, 1)) else (if t260 = 0 then (some (65533, 1)) else (some (t260, t261)))) = some (r1, r2) := H
              have A14 := Aside0.mk A140
              clear A140
              by_cases c15 : t261 = 0
              · rw [if_pos c15] at H
                have c15b0 : (t261 == 0) = true := beq_iff_eq.mpr c15
                have c15b1 : (t261 != 0) = false := bne_eq_false_iff_eq.mpr c15
                clear c15
                simp only [Option.some.injEq, Prod.mk.injEq] at H
                obtain ⟨rfl, rfl⟩ := H
                have p258 : 0 ≤ (a1 : Int) := of_decide_eq_true (by first | (with_reducible assumption) | assumption)
                have q258 : a1 < (l0.length : Int) := of_decide_eq_true (by first | (with_reducible assumption) | assumption)
                obtain ⟨ad258, e258, hx258_0⟩ := Kd.at_int HR0.out a1 p258 q258
                cases e258
                replace p258 := eq_true p258
                replace q258 := eq_true q258
                go_wp2_with (first | ((with_reducible refine gate_callee (f := 95) rfl ?_); refine goesL_ (some 37) rfl rfl Tryd.func95 (by kernel_rfl) rfl #[.slice (some ad258) l0.length c0, .int .i64 a1] rfl (by (try simp only [List.map_toArray, List.map_cons, List.map_nil]); first | done | rfl | (simp only [List.length_drop, List.length_take]; rfl)) ?_; (with_reducible refine (decanterref02_utf.calls kj2 _ _ l0 a1 t260 t261 _ ?side1 ?side2 A14.out).mono ?_); (case side1 => repeat (first | exact HR0.out | (with_reducible refine Kd.C_alloc ?_ _) | (with_reducible refine Kd.C_drewN ?_ _) | (with_reducible refine Kd.C_drew ?_))); (case side2 => exact HC0.out); rintro e w' ⟨rfl, ⟨nd, rfl⟩⟩; refine ⟨_, rfl, ?_⟩))
                go_ret2
                exact ⟨by first | rfl | (simp; done) | (simp [*]; done), by repeat (first | exact Drawn0.refl _ | apply Drawn0.step)⟩
              · rw [if_neg c15] at H
                have c15b0 : (t261 == 0) = false := beq_eq_false_iff_ne.mpr c15
                have c15b1 : (t261 != 0) = true := bne_iff_ne.mpr c15
                by_cases c16 : t260 = 0
                · rw [if_pos c16] at H
                  have c16b0 : (t260 == 0) = true := beq_iff_eq.mpr c16
                  have c16b1 : (t260 != 0) = false := bne_eq_false_iff_eq.mpr c16
                  clear c16
                  simp only [Option.some.injEq, Prod.mk.injEq] at H
                  obtain ⟨rfl, rfl⟩ := H
                  have p258 : 0 ≤ (a1 : Int) := of_decide_eq_true (by first | (with_reducible assumption) | assumption)
                  have q258 : a1 < (l0.length : Int) := of_decide_eq_true (by first | (with_reducible assumption) | assumption)
                  obtain ⟨ad258, e258, hx258_0⟩ := Kd.at_int HR0.out a1 p258 q258
                  cases e258
                  replace p258 := eq_true p258
                  replace q258 := eq_true q258
                  go_wp2_with (first | ((with_reducible refine gate_callee (f := 95) rfl ?_); refine goesL_ (some 37) rfl rfl Tryd.func95 (by kernel_rfl) rfl #[.slice (some ad258) l0.length c0, .int .i64 a1] rfl (by (try simp only [List.map_toArray, List.map_cons, List.map_nil]); first | done | rfl | (simp only [List.length_drop, List.length_take]; rfl)) ?_; (with_reducible refine (decanterref02_utf.calls kj2 _ _ l0 a1 t260 t261 _ ?side1 ?side2 A14.out).mono ?_); (case side1 => repeat (first | exact HR0.out | (with_reducible refine Kd.C_alloc ?_ _) | (with_reducible refine Kd.C_drewN ?_ _) | (with_reducible refine Kd.C_drew ?_))); (case side2 => exact HC0.out); rintro e w' ⟨rfl, ⟨nd, rfl⟩⟩; refine ⟨_, rfl, ?_⟩))
                  go_ret2
                  exact ⟨by first | rfl | (simp; done) | (simp [*]; done), by repeat (first | exact Drawn0.refl _ | apply Drawn0.step)⟩
                · rw [if_neg c16] at H
                  have c16b0 : (t260 == 0) = false := beq_eq_false_iff_ne.mpr c16
                  have c16b1 : (t260 != 0) = true := bne_iff_ne.mpr c16
                  simp only [Option.some.injEq, Prod.mk.injEq] at H
                  obtain ⟨rfl, rfl⟩ := H
                  have p258 : 0 ≤ (a1 : Int) := of_decide_eq_true (by first | (with_reducible assumption) | assumption)
                  have q258 : a1 < (l0.length : Int) := of_decide_eq_true (by first | (with_reducible assumption) | assumption)
                  obtain ⟨ad258, e258, hx258_0⟩ := Kd.at_int HR0.out a1 p258 q258
                  cases e258
                  replace p258 := eq_true p258
                  replace q258 := eq_true q258
                  go_wp2_with (first | ((with_reducible refine gate_callee (f := 95) rfl ?_); refine goesL_ (some 37) rfl rfl Tryd.func95 (by kernel_rfl) rfl #[.slice (some ad258) l0.length c0, .int .i64 a1] rfl (by (try simp only [List.map_toArray, List.map_cons, List.map_nil]); first | done | rfl | (simp only [List.length_drop, List.length_take]; rfl)) ?_; (with_reducible refine (decanterref02_utf.calls kj2 _ _ l0 a1 t260 t261 _ ?side1 ?side2 A14.out).mono ?_); (case side1 => repeat (first | exact HR0.out | (with_reducible refine Kd.C_alloc ?_ _) | (with_reducible refine Kd.C_drewN ?_ _) | (with_reducible refine Kd.C_drew ?_))); (case side2 => exact HC0.out); rintro e w' ⟨rfl, ⟨nd, rfl⟩⟩; refine ⟨_, rfl, ?_⟩))
                  go_ret2
                  exact ⟨by first | rfl | (simp; done) | (simp [*]; done), by repeat (first | exact Drawn0.refl _ | apply Drawn0.step)⟩
          · rw [if_neg c7] at H
            exact absurd H (by simp)
        · rw [if_neg c6] at H
          exact absurd H (by simp)

end Go.Proofs.YteahlapoeiikoaaDoor.P


-- Printed by a program of this session (wip/myprint.py over the kit's print).
namespace Go.Proofs.YteahlapoeiikoaaDoor.P
open Go.RowKit Go.Proofs.YteahlapoeiikoaaDoorW.PrintWords Go.Proofs.YteahlapoeiikoaaDoorW.PrintLast Go.Proofs.YteahlapoeiikoaaDoorW.PrintMore
attribute [local go_sem] max2_int min2_int max_two min_two max_three min_three max_four min_four   -- for this text's walks alone
set_option linter.unusedVariables false
set_option linter.unusedSimpArgs false

/-! ### decanterref11_Lists: function 34 -/
def decanterref11_Lists.f  : Option (List ByteArray) := some (([(⟨#[32, 97, 114, 101, 97, 32, 98, 97, 115, 101, 32, 98, 97, 115, 101, 102, 111, 110, 116, 32, 98, 103, 115, 111, 117, 110, 100, 32, 98, 114, 32, 101, 109, 98, 101, 100, 32, 104, 114, 32, 105, 109, 103, 32, 105, 110, 112, 117, 116, 32, 107, 101, 121, 103, 101, 110, 32, 108, 105, 110, 107, 32, 109, 101, 116, 97, 32, 112, 97, 114, 97, 109, 32, 115, 111, 117, 114, 99, 101, 32, 116, 114, 97, 99, 107, 32, 119, 98, 114, 32]⟩ : ByteArray), (⟨#[32, 97, 100, 100, 114, 101, 115, 115, 32, 97, 114, 116, 105, 99, 108, 101, 32, 97, 115, 105, 100, 101, 32, 98, 108, 111, 99, 107, 113, 117, 111, 116, 101, 32, 99, 101, 110, 116, 101, 114, 32, 100, 100, 32, 100, 101, 116, 97, 105, 108, 115, 32, 100, 105, 97, 108, 111, 103, 32, 100, 105, 114, 32, 100, 105, 118, 32, 100, 108, 32, 100, 116, 32, 102, 105, 101, 108, 100, 115, 101, 116, 32, 102, 105, 103, 99, 97, 112, 116, 105, 111, 110, 32, 102, 105, 103, 117, 114, 101, 32, 102, 111, 111, 116, 101, 114, 32, 102, 111, 114, 109, 32, 104, 49, 32, 104, 50, 32, 104, 51, 32, 104, 52, 32, 104, 53, 32, 104, 54, 32, 104, 101, 97, 100, 101, 114, 32, 104, 103, 114, 111, 117, 112, 32, 104, 114, 32, 108, 105, 32, 108, 105, 115, 116, 105, 110, 103, 32, 109, 97, 105, 110, 32, 109, 101, 110, 117, 32, 110, 97, 118, 32, 111, 108, 32, 112, 32, 112, 108, 97, 105, 110, 116, 101, 120, 116, 32, 112, 114, 101, 32, 115, 101, 99, 116, 105, 111, 110, 32, 115, 117, 109, 109, 97, 114, 121, 32, 116, 97, 98, 108, 101, 32, 117, 108, 32, 120, 109, 112, 32]⟩ : ByteArray), (⟨#[32, 104, 49, 32, 104, 50, 32, 104, 51, 32, 104, 52, 32, 104, 53, 32, 104, 54, 32]⟩ : ByteArray), (⟨#[32, 97, 32, 98, 32, 98, 105, 103, 32, 99, 111, 100, 101, 32, 101, 109, 32, 102, 111, 110, 116, 32, 105, 32, 110, 111, 98, 114, 32, 115, 32, 115, 109, 97, 108, 108, 32, 115, 116, 114, 105, 107, 101, 32, 115, 116, 114, 111, 110, 103, 32, 116, 116, 32, 117, 32]⟩ : ByteArray), (⟨#[32, 97, 100, 100, 114, 101, 115, 115, 32, 97, 112, 112, 108, 101, 116, 32, 97, 114, 101, 97, 32, 97, 114, 116, 105, 99, 108, 101, 32, 97, 115, 105, 100, 101, 32, 98, 97, 115, 101, 32, 98, 97, 115, 101, 102, 111, 110, 116, 32, 98, 103, 115, 111, 117, 110, 100, 32, 98, 108, 111, 99, 107, 113, 117, 111, 116, 101, 32, 98, 114, 32, 98, 117, 116, 116, 111, 110, 32, 99, 101, 110, 116, 101, 114, 32, 100, 100, 32, 100, 101, 116, 97, 105, 108, 115, 32, 100, 105, 114, 32, 100, 105, 118, 32, 100, 108, 32, 100, 116, 32, 101, 109, 98, 101, 100, 32, 102, 105, 101, 108, 100, 115, 101, 116, 32, 102, 105, 103, 99, 97, 112, 116, 105, 111, 110, 32, 102, 105, 103, 117, 114, 101, 32, 102, 111, 111, 116, 101, 114, 32, 102, 111, 114, 109, 32, 104, 49, 32, 104, 50, 32, 104, 51, 32, 104, 52, 32, 104, 53, 32, 104, 54, 32, 104, 101, 97, 100, 101, 114, 32, 104, 103, 114, 111, 117, 112, 32, 104, 114, 32, 105, 102, 114, 97, 109, 101, 32, 105, 109, 103, 32, 105, 110, 112, 117, 116, 32, 107, 101, 121, 103, 101, 110, 32, 108, 105, 32, 108, 105, 110, 107, 32, 108, 105, 115, 116, 105, 110, 103, 32, 109, 97, 105, 110, 32, 109, 97, 114, 113, 117, 101, 101, 32, 109, 101, 110, 117, 32, 109, 101, 116, 97, 32, 110, 97, 118, 32, 110, 111, 101, 109, 98, 101, 100, 32, 110, 111, 102, 114, 97, 109, 101, 115, 32, 111, 98, 106, 101, 99, 116, 32, 111, 108, 32, 112, 32, 112, 97, 114, 97, 109, 32, 112, 108, 97, 105, 110, 116, 101, 120, 116, 32, 112, 114, 101, 32, 115, 99, 114, 105, 112, 116, 32, 115, 101, 99, 116, 105, 111, 110, 32, 115, 101, 108, 101, 99, 116, 32, 115, 111, 117, 114, 99, 101, 32, 115, 116, 121, 108, 101, 32, 115, 117, 109, 109, 97, 114, 121, 32, 116, 97, 98, 108, 101, 32, 116, 101, 109, 112, 108, 97, 116, 101, 32, 116, 101, 120, 116, 97, 114, 101, 97, 32, 116, 105, 116, 108, 101, 32, 116, 114, 97, 99, 107, 32, 117, 108, 32, 119, 98, 114, 32, 120, 109, 112, 32]⟩ : ByteArray), (⟨#[32, 97, 112, 112, 108, 101, 116, 32, 109, 97, 114, 113, 117, 101, 101, 32, 111, 98, 106, 101, 99, 116, 32, 116, 97, 98, 108, 101, 32, 116, 101, 109, 112, 108, 97, 116, 101, 32]⟩ : ByteArray), (⟨#[32, 98, 111, 100, 121, 32, 99, 97, 112, 116, 105, 111, 110, 32, 99, 111, 108, 32, 99, 111, 108, 103, 114, 111, 117, 112, 32, 102, 114, 97, 109, 101, 32, 102, 114, 97, 109, 101, 115, 101, 116, 32, 104, 101, 97, 100, 32, 104, 116, 109, 108, 32, 116, 98, 111, 100, 121, 32, 116, 100, 32, 116, 102, 111, 111, 116, 32, 116, 104, 32, 116, 104, 101, 97, 100, 32, 116, 114, 32]⟩ : ByteArray), (⟨#[32, 100, 100, 32, 100, 116, 32, 108, 105, 32, 111, 112, 116, 103, 114, 111, 117, 112, 32, 111, 112, 116, 105, 111, 110, 32, 112, 32, 114, 98, 32, 114, 112, 32, 114, 116, 32, 114, 116, 99, 32]⟩ : ByteArray), (⟨#[32, 97, 112, 112, 108, 101, 116, 32, 109, 97, 114, 113, 117, 101, 101, 32, 111, 98, 106, 101, 99, 116, 32]⟩ : ByteArray), (⟨#[32, 97, 32, 97, 98, 98, 114, 32, 97, 100, 100, 114, 101, 115, 115, 32, 97, 114, 116, 105, 99, 108, 101, 32, 97, 115, 105, 100, 101, 32, 98, 32, 98, 100, 105, 32, 98, 100, 111, 32, 98, 105, 103, 32, 98, 108, 111, 99, 107, 113, 117, 111, 116, 101, 32, 98, 114, 32, 99, 101, 110, 116, 101, 114, 32, 99, 105, 116, 101, 32, 99, 111, 100, 101, 32, 100, 100, 32, 100, 101, 108, 32, 100, 102, 110, 32, 100, 105, 114, 32, 100, 105, 118, 32, 100, 108, 32, 100, 116, 32, 101, 109, 32, 102, 105, 103, 99, 97, 112, 116, 105, 111, 110, 32, 102, 105, 103, 117, 114, 101, 32, 102, 111, 110, 116, 32, 102, 111, 111, 116, 101, 114, 32, 104, 49, 32, 104, 50, 32, 104, 51, 32, 104, 52, 32, 104, 53, 32, 104, 54, 32, 104, 101, 97, 100, 101, 114, 32, 104, 114, 32, 105, 32, 105, 109, 103, 32, 105, 110, 115, 32, 107, 98, 100, 32, 108, 105, 32, 109, 97, 105, 110, 32, 109, 97, 114, 107, 32, 110, 97, 118, 32, 111, 108, 32, 112, 32, 112, 114, 101, 32, 113, 32, 115, 32, 115, 97, 109, 112, 32, 115, 101, 99, 116, 105, 111, 110, 32, 115, 109, 97, 108, 108, 32, 115, 112, 97, 110, 32, 115, 116, 114, 105, 107, 101, 32, 115, 116, 114, 111, 110, 103, 32, 115, 117, 98, 32, 115, 117, 112, 32, 116, 105, 109, 101, 32, 116, 116, 32, 117, 32, 117, 108, 32, 118, 97, 114, 32, 119, 98, 114, 32]⟩ : ByteArray)] : List ByteArray))
set_option maxHeartbeats 8000000 in
set_option maxRecDepth 100000 in
theorem decanterref11_Lists.calls  (r : List ByteArray) (w : World) (h : decanterref11_Lists.f  = some r) :
    Calls Tryd.prog 34 #[] w fun e w' => ∃ v0_ : Value, e = .returned (v0_) ∧ Kd.R Kd.string 9 w' w.heap.size (fun _ => True) v0_ r ∧ Below w.heap.size w w' := by
  have HB := Aside0.mk (Below.refl w.heap.size w)
  have H : (some (([(⟨#[32, 97, 114, 101, 97, 32, 98, 97, 115, 101, 32, 98, 97, 115, 101, 102, 111, 110, 116, 32, 98, 103, 115, 111, 117, 110, 100, 32, 98, 114, 32, 101, 109, 98, 101, 100, 32, 104, 114, 32, 105, 109, 103, 32, 105, 110, 112, 117, 116, 32, 107, 101, 121, 103, 101, 110, 32, 108, 105, 110, 107, 32, 109, 101, 116, 97, 32, 112, 97, 114, 97, 109, 32, 115, 111, 117, 114, 99, 101, 32, 116, 114, 97, 99, 107, 32, 119, 98, 114, 32]⟩ : ByteArray), (⟨#[32, 97, 100, 100, 114, 101, 115, 115, 32, 97, 114, 116, 105, 99, 108, 101, 32, 97, 115, 105, 100, 101, 32, 98, 108, 111, 99, 107, 113, 117, 111, 116, 101, 32, 99, 101, 110, 116, 101, 114, 32, 100, 100, 32, 100, 101, 116, 97, 105, 108, 115, 32, 100, 105, 97, 108, 111, 103, 32, 100, 105, 114, 32, 100, 105, 118, 32, 100, 108, 32, 100, 116, 32, 102, 105, 101, 108, 100, 115, 101, 116, 32, 102, 105, 103, 99, 97, 112, 116, 105, 111, 110, 32, 102, 105, 103, 117, 114, 101, 32, 102, 111, 111, 116, 101, 114, 32, 102, 111, 114, 109, 32, 104, 49, 32, 104, 50, 32, 104, 51, 32, 104, 52, 32, 104, 53, 32, 104, 54, 32, 104, 101, 97, 100, 101, 114, 32, 104, 103, 114, 111, 117, 112, 32, 104, 114, 32, 108, 105, 32, 108, 105, 115, 116, 105, 110, 103, 32, 109, 97, 105, 110, 32, 109, 101, 110, 117, 32, 110, 97, 118, 32, 111, 108, 32, 112, 32, 112, 108, 97, 105, 110, 116, 101, 120, 116, 32, 112, 114, 101, 32, 115, 101, 99, 116, 105, 111, 110, 32, 115, 117, 109, 109, 97, 114, 121, 32, 116, 97, 98, 108, 101, 32, 117, 108, 32, 120, 109, 112, 32]⟩ : ByteArray), (⟨#[32, 104, 49, 32, 104, 50, 32, 104, 51, 32, 104, 52, 32, 104, 53, 32, 104, 54, 32]⟩ : ByteArray), (⟨#[32, 97, 32, 98, 32, 98, 105, 103, 32, 99, 111, 100, 101, 32, 101, 109, 32, 102, 111, 110, 116, 32, 105, 32, 110, 111, 98, 114, 32, 115, 32, 115, 109, 97, 108, 108, 32, 115, 116, 114, 105, 107, 101, 32, 115, 116, 114, 111, 110, 103, 32, 116, 116, 32, 117, 32]⟩ : ByteArray), (⟨#[32, 97, 100, 100, 114, 101, 115, 115, 32, 97, 112, 112, 108, 101, 116, 32, 97, 114, 101, 97, 32, 97, 114, 116, 105, 99, 108, 101, 32, 97, 115, 105, 100, 101, 32, 98, 97, 115, 101, 32, 98, 97, 115, 101, 102, 111, 110, 116, 32, 98, 103, 115, 111, 117, 110, 100, 32, 98, 108, 111, 99, 107, 113, 117, 111, 116, 101, 32, 98, 114, 32, 98, 117, 116, 116, 111, 110, 32, 99, 101, 110, 116, 101, 114, 32, 100, 100, 32, 100, 101, 116, 97, 105, 108, 115, 32, 100, 105, 114, 32, 100, 105, 118, 32, 100, 108, 32, 100, 116, 32, 101, 109, 98, 101, 100, 32, 102, 105, 101, 108, 100, 115, 101, 116, 32, 102, 105, 103, 99, 97, 112, 116, 105, 111, 110, 32, 102, 105, 103, 117, 114, 101, 32, 102, 111, 111, 116, 101, 114, 32, 102, 111, 114, 109, 32, 104, 49, 32, 104, 50, 32, 104, 51, 32, 104, 52, 32, 104, 53, 32, 104, 54, 32, 104, 101, 97, 100, 101, 114, 32, 104, 103, 114, 111, 117, 112, 32, 104, 114, 32, 105, 102, 114, 97, 109, 101, 32, 105, 109, 103, 32, 105, 110, 112, 117, 116, 32, 107, 101, 121, 103, 101, 110, 32, 108, 105, 32, 108, 105, 110, 107, 32, 108, 105, 115, 116, 105, 110, 103, 32, 109, 97, 105, 110, 32, 109, 97, 114, 113, 117, 101, 101, 32, 109, 101, 110, 117, 32, 109, 101, 116, 97, 32, 110, 97, 118, 32, 110, 111, 101, 109, 98, 101, 100, 32, 110, 111, 102, 114, 97, 109, 101, 115, 32, 111, 98, 106, 101, 99, 116, 32, 111, 108, 32, 112, 32, 112, 97, 114, 97, 109, 32, 112, 108, 97, 105, 110, 116, 101, 120, 116, 32, 112, 114, 101, 32, 115, 99, 114, 105, 112, 116, 32, 115, 101, 99, 116, 105, 111, 110, 32, 115, 101, 108, 101, 99, 116, 32, 115, 111, 117, 114, 99, 101, 32, 115, 116, 121, 108, 101, 32, 115, 117, 109, 109, 97, 114, 121, 32, 116, 97, 98, 108, 101, 32, 116, 101, 109, 112, 108, 97, 116, 101, 32, 116, 101, 120, 116, 97, 114, 101, 97, 32, 116, 105, 116, 108, 101, 32, 116, 114, 97, 99, 107, 32, 117, 108, 32, 119, 98, 114, 32, 120, 109, 112, 32]⟩ : ByteArray), (⟨#[32, 97, 112, 112, 108, 101, 116, 32, 109, 97, 114, 113, 117, 101, 101, 32, 111, 98, 106, 101, 99, 116, 32, 116, 97, 98, 108, 101, 32, 116, 101, 109, 112, 108, 97, 116, 101, 32]⟩ : ByteArray), (⟨#[32, 98, 111, 100, 121, 32, 99, 97, 112, 116, 105, 111, 110, 32, 99, 111, 108, 32, 99, 111, 108, 103, 114, 111, 117, 112, 32, 102, 114, 97, 109, 101, 32, 102, 114, 97, 109, 101, 115, 101, 116, 32, 104, 101, 97, 100, 32, 104, 116, 109, 108, 32, 116, 98, 111, 100, 121, 32, 116, 100, 32, 116, 102, 111, 111, 116, 32, 116, 104, 32, 116, 104, 101, 97, 100, 32, 116, 114, 32]⟩ : ByteArray), (⟨#[32, 100, 100, 32, 100, 116, 32, 108, 105, 32, 111, 112, 116, 103, 114, 111, 117, 112, 32, 111, 112, 116, 105, 111, 110, 32, 112, 32, 114, 98, 32, 114, 112, 32, 114, 116, 32, 114, 116, 99, 32]⟩ : ByteArray), (⟨#[32, 97, 112, 112, 108, 101, 116, 32, 109, 97, 114, 113, 117, 101, 101, 32, 111, 98, 106, 101, 99, 116, 32]⟩ : ByteArray), (⟨#[32, 97, 32, 97, 98, 98, 114, 32, 97, 100, 100, 114, 101, 115, 115, 32, 97, 114, 116, 105, 99, 108, 101, 32, 97, 115, 105, 100, 101, 32, 98, 32, 98, 100, 105, 32, 98, 100, 111, 32, 98, 105, 103, 32, 98, 108, 111, 99, 107, 113, 117, 111, 116, 101, 32, 98, 114, 32, 99, 101, 110, 116, 101, 114, 32, 99, 105, 116, 101, 32, 99, 111, 100, 101, 32, 100, 100, 32, 100, 101, 108, 32, 100, 102, 110, 32, 100, 105, 114, 32, 100, 105, 118, 32, 100, 108, 32, 100, 116, 32, 101, 109, 32, 102, 105, 103, 99, 97, 112, 116, 105, 111, 110, 32, 102, 105, 103, 117, 114, 101, 32, 102, 111, 110, 116, 32, 102, 111, 111, 116, 101, 114, 32, 104, 49, 32, 104, 50, 32, 104, 51, 32, 104, 52, 32, 104, 53, 32, 104, 54, 32, 104, 101, 97, 100, 101, 114, 32, 104, 114, 32, 105, 32, 105, 109, 103, 32, 105, 110, 115, 32, 107, 98, 100, 32, 108, 105, 32, 109, 97, 105, 110, 32, 109, 97, 114, 107, 32, 110, 97, 118, 32, 111, 108, 32, 112, 32, 112, 114, 101, 32, 113, 32, 115, 32, 115, 97, 109, 112, 32, 115, 101, 99, 116, 105, 111, 110, 32, 115, 109, 97, 108, 108, 32, 115, 112, 97, 110, 32, 115, 116, 114, 105, 107, 101, 32, 115, 116, 114, 111, 110, 103, 32, 115, 117, 98, 32, 115, 117, 112, 32, 116, 105, 109, 101, 32, 116, 116, 32, 117, 32, 117, 108, 32, 118, 97, 114, 32, 119, 98, 114, 32]⟩ : ByteArray)] : List ByteArray))) = some r := h
  clear h
  obtain ⟨y104, hy104⟩ : ∃ y_ : List ByteArray, y_ = (([(⟨#[32, 97, 114, 101, 97, 32, 98, 97, 115, 101, 32, 98, 97, 115, 101, 102, 111, 110, 116, 32, 98, 103, 115, 111, 117, 110, 100, 32, 98, 114, 32, 101, 109, 98, 101, 100, 32, 104, 114, 32, 105, 109, 103, 32, 105, 110, 112, 117, 116, 32, 107, 101, 121, 103, 101, 110, 32, 108, 105, 110, 107, 32, 109, 101, 116, 97, 32, 112, 97, 114, 97, 109, 32, 115, 111, 117, 114, 99, 101, 32, 116, 114, 97, 99, 107, 32, 119, 98, 114, 32]⟩ : ByteArray), (⟨#[32, 97, 100, 100, 114, 101, 115, 115, 32, 97, 114, 116, 105, 99, 108, 101, 32, 97, 115, 105, 100, 101, 32, 98, 108, 111, 99, 107, 113, 117, 111, 116, 101, 32, 99, 101, 110, 116, 101, 114, 32, 100, 100, 32, 100, 101, 116, 97, 105, 108, 115, 32, 100, 105, 97, 108, 111, 103, 32, 100, 105, 114, 32, 100, 105, 118, 32, 100, 108, 32, 100, 116, 32, 102, 105, 101, 108, 100, 115, 101, 116, 32, 102, 105, 103, 99, 97, 112, 116, 105, 111, 110, 32, 102, 105, 103, 117, 114, 101, 32, 102, 111, 111, 116, 101, 114, 32, 102, 111, 114, 109, 32, 104, 49, 32, 104, 50, 32, 104, 51, 32, 104, 52, 32, 104, 53, 32, 104, 54, 32, 104, 101, 97, 100, 101, 114, 32, 104, 103, 114, 111, 117, 112, 32, 104, 114, 32, 108, 105, 32, 108, 105, 115, 116, 105, 110, 103, 32, 109, 97, 105, 110, 32, 109, 101, 110, 117, 32, 110, 97, 118, 32, 111, 108, 32, 112, 32, 112, 108, 97, 105, 110, 116, 101, 120, 116, 32, 112, 114, 101, 32, 115, 101, 99, 116, 105, 111, 110, 32, 115, 117, 109, 109, 97, 114, 121, 32, 116, 97, 98, 108, 101, 32, 117, 108, 32, 120, 109, 112, 32]⟩ : ByteArray), (⟨#[32, 104, 49, 32, 104, 50, 32, 104, 51, 32, 104, 52, 32, 104, 53, 32, 104, 54, 32]⟩ : ByteArray), (⟨#[32, 97, 32, 98, 32, 98, 105, 103, 32, 99, 111, 100, 101, 32, 101, 109, 32, 102, 111, 110, 116, 32, 105, 32, 110, 111, 98, 114, 32, 115, 32, 115, 109, 97, 108, 108, 32, 115, 116, 114, 105, 107, 101, 32, 115, 116, 114, 111, 110, 103, 32, 116, 116, 32, 117, 32]⟩ : ByteArray), (⟨#[32, 97, 100, 100, 114, 101, 115, 115, 32, 97, 112, 112, 108, 101, 116, 32, 97, 114, 101, 97, 32, 97, 114, 116, 105, 99, 108, 101, 32, 97, 115, 105, 100, 101, 32, 98, 97, 115, 101, 32, 98, 97, 115, 101, 102, 111, 110, 116, 32, 98, 103, 115, 111, 117, 110, 100, 32, 98, 108, 111, 99, 107, 113, 117, 111, 116, 101, 32, 98, 114, 32, 98, 117, 116, 116, 111, 110, 32, 99, 101, 110, 116, 101, 114, 32, 100, 100, 32, 100, 101, 116, 97, 105, 108, 115, 32, 100, 105, 114, 32, 100, 105, 118, 32, 100, 108, 32, 100, 116, 32, 101, 109, 98, 101, 100, 32, 102, 105, 101, 108, 100, 115, 101, 116, 32, 102, 105, 103, 99, 97, 112, 116, 105, 111, 110, 32, 102, 105, 103, 117, 114, 101, 32, 102, 111, 111, 116, 101, 114, 32, 102, 111, 114, 109, 32, 104, 49, 32, 104, 50, 32, 104, 51, 32, 104, 52, 32, 104, 53, 32, 104, 54, 32, 104, 101, 97, 100, 101, 114, 32, 104, 103, 114, 111, 117, 112, 32, 104, 114, 32, 105, 102, 114, 97, 109, 101, 32, 105, 109, 103, 32, 105, 110, 112, 117, 116, 32, 107, 101, 121, 103, 101, 110, 32, 108, 105, 32, 108, 105, 110, 107, 32, 108, 105, 115, 116, 105, 110, 103, 32, 109, 97, 105, 110, 32, 109, 97, 114, 113, 117, 101, 101, 32, 109, 101, 110, 117, 32, 109, 101, 116, 97, 32, 110, 97, 118, 32, 110, 111, 101, 109, 98, 101, 100, 32, 110, 111, 102, 114, 97, 109, 101, 115, 32, 111, 98, 106, 101, 99, 116, 32, 111, 108, 32, 112, 32, 112, 97, 114, 97, 109, 32, 112, 108, 97, 105, 110, 116, 101, 120, 116, 32, 112, 114, 101, 32, 115, 99, 114, 105, 112, 116, 32, 115, 101, 99, 116, 105, 111, 110, 32, 115, 101, 108, 101, 99, 116, 32, 115, 111, 117, 114, 99, 101, 32, 115, 116, 121, 108, 101, 32, 115, 117, 109, 109, 97, 114, 121, 32, 116, 97, 98, 108, 101, 32, 116, 101, 109, 112, 108, 97, 116, 101, 32, 116, 101, 120, 116, 97, 114, 101, 97, 32, 116, 105, 116, 108, 101, 32, 116, 114, 97, 99, 107, 32, 117, 108, 32, 119, 98, 114, 32, 120, 109, 112, 32]⟩ : ByteArray), (⟨#[32, 97, 112, 112, 108, 101, 116, 32, 109, 97, 114, 113, 117, 101, 101, 32, 111, 98, 106, 101, 99, 116, 32, 116, 97, 98, 108, 101, 32, 116, 101, 109, 112, 108, 97, 116, 101, 32]⟩ : ByteArray), (⟨#[32, 98, 111, 100, 121, 32, 99, 97, 112, 116, 105, 111, 110, 32, 99, 111, 108, 32, 99, 111, 108, 103, 114, 111, 117, 112, 32, 102, 114, 97, 109, 101, 32, 102, 114, 97, 109, 101, 115, 101, 116, 32, 104, 101, 97, 100, 32, 104, 116, 109, 108, 32, 116, 98, 111, 100, 121, 32, 116, 100, 32, 116, 102, 111, 111, 116, 32, 116, 104, 32, 116, 104, 101, 97, 100, 32, 116, 114, 32]⟩ : ByteArray), (⟨#[32, 100, 100, 32, 100, 116, 32, 108, 105, 32, 111, 112, 116, 103, 114, 111, 117, 112, 32, 111, 112, 116, 105, 111, 110, 32, 112, 32, 114, 98, 32, 114, 112, 32, 114, 116, 32, 114, 116, 99, 32]⟩ : ByteArray), (⟨#[32, 97, 112, 112, 108, 101, 116, 32, 109, 97, 114, 113, 117, 101, 101, 32, 111, 98, 106, 101, 99, 116, 32]⟩ : ByteArray), (⟨#[32, 97, 32, 97, 98, 98, 114, 32, 97, 100, 100, 114, 101, 115, 115, 32, 97, 114, 116, 105, 99, 108, 101, 32, 97, 115, 105, 100, 101, 32, 98, 32, 98, 100, 105, 32, 98, 100, 111, 32, 98, 105, 103, 32, 98, 108, 111, 99, 107, 113, 117, 111, 116, 101, 32, 98, 114, 32, 99, 101, 110, 116, 101, 114, 32, 99, 105, 116, 101, 32, 99, 111, 100, 101, 32, 100, 100, 32, 100, 101, 108, 32, 100, 102, 110, 32, 100, 105, 114, 32, 100, 105, 118, 32, 100, 108, 32, 100, 116, 32, 101, 109, 32, 102, 105, 103, 99, 97, 112, 116, 105, 111, 110, 32, 102, 105, 103, 117, 114, 101, 32, 102, 111, 110, 116, 32, 102, 111, 111, 116, 101, 114, 32, 104, 49, 32, 104, 50, 32, 104, 51, 32, 104, 52, 32, 104, 53, 32, 104, 54, 32, 104, 101, 97, 100, 101, 114, 32, 104, 114, 32, 105, 32, 105, 109, 103, 32, 105, 110, 115, 32, 107, 98, 100, 32, 108, 105, 32, 109, 97, 105, 110, 32, 109, 97, 114, 107, 32, 110, 97, 118, 32, 111, 108, 32, 112, 32, 112, 114, 101, 32, 113, 32, 115, 32, 115, 97, 109, 112, 32, 115, 101, 99, 116, 105, 111, 110, 32, 115, 109, 97, 108, 108, 32, 115, 112, 97, 110, 32, 115, 116, 114, 105, 107, 101, 32, 115, 116, 114, 111, 110, 103, 32, 115, 117, 98, 32, 115, 117, 112, 32, 116, 105, 109, 101, 32, 116, 116, 32, 117, 32, 117, 108, 32, 118, 97, 114, 32, 119, 98, 114, 32]⟩ : ByteArray)] : List ByteArray)) := ⟨_, rfl⟩
  replace H : (some y104) = some r := by first | (rw [hy104]; with_reducible exact H) | (have H2_ := (Option.bind_some _ _).symm.trans H; rw [hy104]; with_reducible exact H2_) | (have H2_ := (Option.bind_some _ _).symm.trans H; with_reducible exact H2_) | with_reducible exact H | (rw [hy104]; exact H) | exact H
  have Ny104 := Aside0.mk hy104
  clear hy104
  obtain rfl := Option.some.inj H
  go_enter Tryd.func34, Tryd.ntmps34
  go_wp2_with (first | ((with_reducible refine gate_dst (N := 1) rfl ?_); refine Kd.R_lit Kd.string _ 9 ?hg (N := 1) ?hd (xs := ([(⟨#[32, 97, 114, 101, 97, 32, 98, 97, 115, 101, 32, 98, 97, 115, 101, 102, 111, 110, 116, 32, 98, 103, 115, 111, 117, 110, 100, 32, 98, 114, 32, 101, 109, 98, 101, 100, 32, 104, 114, 32, 105, 109, 103, 32, 105, 110, 112, 117, 116, 32, 107, 101, 121, 103, 101, 110, 32, 108, 105, 110, 107, 32, 109, 101, 116, 97, 32, 112, 97, 114, 97, 109, 32, 115, 111, 117, 114, 99, 101, 32, 116, 114, 97, 99, 107, 32, 119, 98, 114, 32]⟩ : ByteArray), (⟨#[32, 97, 100, 100, 114, 101, 115, 115, 32, 97, 114, 116, 105, 99, 108, 101, 32, 97, 115, 105, 100, 101, 32, 98, 108, 111, 99, 107, 113, 117, 111, 116, 101, 32, 99, 101, 110, 116, 101, 114, 32, 100, 100, 32, 100, 101, 116, 97, 105, 108, 115, 32, 100, 105, 97, 108, 111, 103, 32, 100, 105, 114, 32, 100, 105, 118, 32, 100, 108, 32, 100, 116, 32, 102, 105, 101, 108, 100, 115, 101, 116, 32, 102, 105, 103, 99, 97, 112, 116, 105, 111, 110, 32, 102, 105, 103, 117, 114, 101, 32, 102, 111, 111, 116, 101, 114, 32, 102, 111, 114, 109, 32, 104, 49, 32, 104, 50, 32, 104, 51, 32, 104, 52, 32, 104, 53, 32, 104, 54, 32, 104, 101, 97, 100, 101, 114, 32, 104, 103, 114, 111, 117, 112, 32, 104, 114, 32, 108, 105, 32, 108, 105, 115, 116, 105, 110, 103, 32, 109, 97, 105, 110, 32, 109, 101, 110, 117, 32, 110, 97, 118, 32, 111, 108, 32, 112, 32, 112, 108, 97, 105, 110, 116, 101, 120, 116, 32, 112, 114, 101, 32, 115, 101, 99, 116, 105, 111, 110, 32, 115, 117, 109, 109, 97, 114, 121, 32, 116, 97, 98, 108, 101, 32, 117, 108, 32, 120, 109, 112, 32]⟩ : ByteArray), (⟨#[32, 104, 49, 32, 104, 50, 32, 104, 51, 32, 104, 52, 32, 104, 53, 32, 104, 54, 32]⟩ : ByteArray), (⟨#[32, 97, 32, 98, 32, 98, 105, 103, 32, 99, 111, 100, 101, 32, 101, 109, 32, 102, 111, 110, 116, 32, 105, 32, 110, 111, 98, 114, 32, 115, 32, 115, 109, 97, 108, 108, 32, 115, 116, 114, 105, 107, 101, 32, 115, 116, 114, 111, 110, 103, 32, 116, 116, 32, 117, 32]⟩ : ByteArray), (⟨#[32, 97, 100, 100, 114, 101, 115, 115, 32, 97, 112, 112, 108, 101, 116, 32, 97, 114, 101, 97, 32, 97, 114, 116, 105, 99, 108, 101, 32, 97, 115, 105, 100, 101, 32, 98, 97, 115, 101, 32, 98, 97, 115, 101, 102, 111, 110, 116, 32, 98, 103, 115, 111, 117, 110, 100, 32, 98, 108, 111, 99, 107, 113, 117, 111, 116, 101, 32, 98, 114, 32, 98, 117, 116, 116, 111, 110, 32, 99, 101, 110, 116, 101, 114, 32, 100, 100, 32, 100, 101, 116, 97, 105, 108, 115, 32, 100, 105, 114, 32, 100, 105, 118, 32, 100, 108, 32, 100, 116, 32, 101, 109, 98, 101, 100, 32, 102, 105, 101, 108, 100, 115, 101, 116, 32, 102, 105, 103, 99, 97, 112, 116, 105, 111, 110, 32, 102, 105, 103, 117, 114, 101, 32, 102, 111, 111, 116, 101, 114, 32, 102, 111, 114, 109, 32, 104, 49, 32, 104, 50, 32, 104, 51, 32, 104, 52, 32, 104, 53, 32, 104, 54, 32, 104, 101, 97, 100, 101, 114, 32, 104, 103, 114, 111, 117, 112, 32, 104, 114, 32, 105, 102, 114, 97, 109, 101, 32, 105, 109, 103, 32, 105, 110, 112, 117, 116, 32, 107, 101, 121, 103, 101, 110, 32, 108, 105, 32, 108, 105, 110, 107, 32, 108, 105, 115, 116, 105, 110, 103, 32, 109, 97, 105, 110, 32, 109, 97, 114, 113, 117, 101, 101, 32, 109, 101, 110, 117, 32, 109, 101, 116, 97, 32, 110, 97, 118, 32, 110, 111, 101, 109, 98, 101, 100, 32, 110, 111, 102, 114, 97, 109, 101, 115, 32, 111, 98, 106, 101, 99, 116, 32, 111, 108, 32, 112, 32, 112, 97, 114, 97, 109, 32, 112, 108, 97, 105, 110, 116, 101, 120, 116, 32, 112, 114, 101, 32, 115, 99, 114, 105, 112, 116, 32, 115, 101, 99, 116, 105, 111, 110, 32, 115, 101, 108, 101, 99, 116, 32, 115, 111, 117, 114, 99, 101, 32, 115, 116, 121, 108, 101, 32, 115, 117, 109, 109, 97, 114, 121, 32, 116, 97, 98, 108, 101, 32, 116, 101, 109, 112, 108, 97, 116, 101, 32, 116, 101, 120, 116, 97, 114, 101, 97, 32, 116, 105, 116, 108, 101, 32, 116, 114, 97, 99, 107, 32, 117, 108, 32, 119, 98, 114, 32, 120, 109, 112, 32]⟩ : ByteArray), (⟨#[32, 97, 112, 112, 108, 101, 116, 32, 109, 97, 114, 113, 117, 101, 101, 32, 111, 98, 106, 101, 99, 116, 32, 116, 97, 98, 108, 101, 32, 116, 101, 109, 112, 108, 97, 116, 101, 32]⟩ : ByteArray), (⟨#[32, 98, 111, 100, 121, 32, 99, 97, 112, 116, 105, 111, 110, 32, 99, 111, 108, 32, 99, 111, 108, 103, 114, 111, 117, 112, 32, 102, 114, 97, 109, 101, 32, 102, 114, 97, 109, 101, 115, 101, 116, 32, 104, 101, 97, 100, 32, 104, 116, 109, 108, 32, 116, 98, 111, 100, 121, 32, 116, 100, 32, 116, 102, 111, 111, 116, 32, 116, 104, 32, 116, 104, 101, 97, 100, 32, 116, 114, 32]⟩ : ByteArray), (⟨#[32, 100, 100, 32, 100, 116, 32, 108, 105, 32, 111, 112, 116, 103, 114, 111, 117, 112, 32, 111, 112, 116, 105, 111, 110, 32, 112, 32, 114, 98, 32, 114, 112, 32, 114, 116, 32, 114, 116, 99, 32]⟩ : ByteArray), (⟨#[32, 97, 112, 112, 108, 101, 116, 32, 109, 97, 114, 113, 117, 101, 101, 32, 111, 98, 106, 101, 99, 116, 32]⟩ : ByteArray), (⟨#[32, 97, 32, 97, 98, 98, 114, 32, 97, 100, 100, 114, 101, 115, 115, 32, 97, 114, 116, 105, 99, 108, 101, 32, 97, 115, 105, 100, 101, 32, 98, 32, 98, 100, 105, 32, 98, 100, 111, 32, 98, 105, 103, 32, 98, 108, 111, 99, 107, 113, 117, 111, 116, 101, 32, 98, 114, 32, 99, 101, 110, 116, 101, 114, 32, 99, 105, 116, 101, 32, 99, 111, 100, 101, 32, 100, 100, 32, 100, 101, 108, 32, 100, 102, 110, 32, 100, 105, 114, 32, 100, 105, 118, 32, 100, 108, 32, 100, 116, 32, 101, 109, 32, 102, 105, 103, 99, 97, 112, 116, 105, 111, 110, 32, 102, 105, 103, 117, 114, 101, 32, 102, 111, 110, 116, 32, 102, 111, 111, 116, 101, 114, 32, 104, 49, 32, 104, 50, 32, 104, 51, 32, 104, 52, 32, 104, 53, 32, 104, 54, 32, 104, 101, 97, 100, 101, 114, 32, 104, 114, 32, 105, 32, 105, 109, 103, 32, 105, 110, 115, 32, 107, 98, 100, 32, 108, 105, 32, 109, 97, 105, 110, 32, 109, 97, 114, 107, 32, 110, 97, 118, 32, 111, 108, 32, 112, 32, 112, 114, 101, 32, 113, 32, 115, 32, 115, 97, 109, 112, 32, 115, 101, 99, 116, 105, 111, 110, 32, 115, 109, 97, 108, 108, 32, 115, 112, 97, 110, 32, 115, 116, 114, 105, 107, 101, 32, 115, 116, 114, 111, 110, 103, 32, 115, 117, 98, 32, 115, 117, 112, 32, 116, 105, 109, 101, 32, 116, 116, 32, 117, 32, 117, 108, 32, 118, 97, 114, 32, 119, 98, 114, 32]⟩ : ByteArray)] : List ByteArray)) (inner := [.string (⟨#[32, 97, 114, 101, 97, 32, 98, 97, 115, 101, 32, 98, 97, 115, 101, 102, 111, 110, 116, 32, 98, 103, 115, 111, 117, 110, 100, 32, 98, 114, 32, 101, 109, 98, 101, 100, 32, 104, 114, 32, 105, 109, 103, 32, 105, 110, 112, 117, 116, 32, 107, 101, 121, 103, 101, 110, 32, 108, 105, 110, 107, 32, 109, 101, 116, 97, 32, 112, 97, 114, 97, 109, 32, 115, 111, 117, 114, 99, 101, 32, 116, 114, 97, 99, 107, 32, 119, 98, 114, 32]⟩ : ByteArray), .string (⟨#[32, 97, 100, 100, 114, 101, 115, 115, 32, 97, 114, 116, 105, 99, 108, 101, 32, 97, 115, 105, 100, 101, 32, 98, 108, 111, 99, 107, 113, 117, 111, 116, 101, 32, 99, 101, 110, 116, 101, 114, 32, 100, 100, 32, 100, 101, 116, 97, 105, 108, 115, 32, 100, 105, 97, 108, 111, 103, 32, 100, 105, 114, 32, 100, 105, 118, 32, 100, 108, 32, 100, 116, 32, 102, 105, 101, 108, 100, 115, 101, 116, 32, 102, 105, 103, 99, 97, 112, 116, 105, 111, 110, 32, 102, 105, 103, 117, 114, 101, 32, 102, 111, 111, 116, 101, 114, 32, 102, 111, 114, 109, 32, 104, 49, 32, 104, 50, 32, 104, 51, 32, 104, 52, 32, 104, 53, 32, 104, 54, 32, 104, 101, 97, 100, 101, 114, 32, 104, 103, 114, 111, 117, 112, 32, 104, 114, 32, 108, 105, 32, 108, 105, 115, 116, 105, 110, 103, 32, 109, 97, 105, 110, 32, 109, 101, 110, 117, 32, 110, 97, 118, 32, 111, 108, 32, 112, 32, 112, 108, 97, 105, 110, 116, 101, 120, 116, 32, 112, 114, 101, 32, 115, 101, 99, 116, 105, 111, 110, 32, 115, 117, 109, 109, 97, 114, 121, 32, 116, 97, 98, 108, 101, 32, 117, 108, 32, 120, 109, 112, 32]⟩ : ByteArray), .string (⟨#[32, 104, 49, 32, 104, 50, 32, 104, 51, 32, 104, 52, 32, 104, 53, 32, 104, 54, 32]⟩ : ByteArray), .string (⟨#[32, 97, 32, 98, 32, 98, 105, 103, 32, 99, 111, 100, 101, 32, 101, 109, 32, 102, 111, 110, 116, 32, 105, 32, 110, 111, 98, 114, 32, 115, 32, 115, 109, 97, 108, 108, 32, 115, 116, 114, 105, 107, 101, 32, 115, 116, 114, 111, 110, 103, 32, 116, 116, 32, 117, 32]⟩ : ByteArray), .string (⟨#[32, 97, 100, 100, 114, 101, 115, 115, 32, 97, 112, 112, 108, 101, 116, 32, 97, 114, 101, 97, 32, 97, 114, 116, 105, 99, 108, 101, 32, 97, 115, 105, 100, 101, 32, 98, 97, 115, 101, 32, 98, 97, 115, 101, 102, 111, 110, 116, 32, 98, 103, 115, 111, 117, 110, 100, 32, 98, 108, 111, 99, 107, 113, 117, 111, 116, 101, 32, 98, 114, 32, 98, 117, 116, 116, 111, 110, 32, 99, 101, 110, 116, 101, 114, 32, 100, 100, 32, 100, 101, 116, 97, 105, 108, 115, 32, 100, 105, 114, 32, 100, 105, 118, 32, 100, 108, 32, 100, 116, 32, 101, 109, 98, 101, 100, 32, 102, 105, 101, 108, 100, 115, 101, 116, 32, 102, 105, 103, 99, 97, 112, 116, 105, 111, 110, 32, 102, 105, 103, 117, 114, 101, 32, 102, 111, 111, 116, 101, 114, 32, 102, 111, 114, 109, 32, 104, 49, 32, 104, 50, 32, 104, 51, 32, 104, 52, 32, 104, 53, 32, 104, 54, 32, 104, 101, 97, 100, 101, 114, 32, 104, 103, 114, 111, 117, 112, 32, 104, 114, 32, 105, 102, 114, 97, 109, 101, 32, 105, 109, 103, 32, 105, 110, 112, 117, 116, 32, 107, 101, 121, 103, 101, 110, 32, 108, 105, 32, 108, 105, 110, 107, 32, 108, 105, 115, 116, 105, 110, 103, 32, 109, 97, 105, 110, 32, 109, 97, 114, 113, 117, 101, 101, 32, 109, 101, 110, 117, 32, 109, 101, 116, 97, 32, 110, 97, 118, 32, 110, 111, 101, 109, 98, 101, 100, 32, 110, 111, 102, 114, 97, 109, 101, 115, 32, 111, 98, 106, 101, 99, 116, 32, 111, 108, 32, 112, 32, 112, 97, 114, 97, 109, 32, 112, 108, 97, 105, 110, 116, 101, 120, 116, 32, 112, 114, 101, 32, 115, 99, 114, 105, 112, 116, 32, 115, 101, 99, 116, 105, 111, 110, 32, 115, 101, 108, 101, 99, 116, 32, 115, 111, 117, 114, 99, 101, 32, 115, 116, 121, 108, 101, 32, 115, 117, 109, 109, 97, 114, 121, 32, 116, 97, 98, 108, 101, 32, 116, 101, 109, 112, 108, 97, 116, 101, 32, 116, 101, 120, 116, 97, 114, 101, 97, 32, 116, 105, 116, 108, 101, 32, 116, 114, 97, 99, 107, 32, 117, 108, 32, 119, 98, 114, 32, 120, 109, 112, 32]⟩ : ByteArray), .string (⟨#[32, 97, 112, 112, 108, 101, 116, 32, 109, 97, 114, 113, 117, 101, 101, 32, 111, 98, 106, 101, 99, 116, 32, 116, 97, 98, 108, 101, 32, 116, 101, 109, 112, 108, 97, 116, 101, 32]⟩ : ByteArray), .string (⟨#[32, 98, 111, 100, 121, 32, 99, 97, 112, 116, 105, 111, 110, 32, 99, 111, 108, 32, 99, 111, 108, 103, 114, 111, 117, 112, 32, 102, 114, 97, 109, 101, 32, 102, 114, 97, 109, 101, 115, 101, 116, 32, 104, 101, 97, 100, 32, 104, 116, 109, 108, 32, 116, 98, 111, 100, 121, 32, 116, 100, 32, 116, 102, 111, 111, 116, 32, 116, 104, 32, 116, 104, 101, 97, 100, 32, 116, 114, 32]⟩ : ByteArray), .string (⟨#[32, 100, 100, 32, 100, 116, 32, 108, 105, 32, 111, 112, 116, 103, 114, 111, 117, 112, 32, 111, 112, 116, 105, 111, 110, 32, 112, 32, 114, 98, 32, 114, 112, 32, 114, 116, 32, 114, 116, 99, 32]⟩ : ByteArray), .string (⟨#[32, 97, 112, 112, 108, 101, 116, 32, 109, 97, 114, 113, 117, 101, 101, 32, 111, 98, 106, 101, 99, 116, 32]⟩ : ByteArray), .string (⟨#[32, 97, 32, 97, 98, 98, 114, 32, 97, 100, 100, 114, 101, 115, 115, 32, 97, 114, 116, 105, 99, 108, 101, 32, 97, 115, 105, 100, 101, 32, 98, 32, 98, 100, 105, 32, 98, 100, 111, 32, 98, 105, 103, 32, 98, 108, 111, 99, 107, 113, 117, 111, 116, 101, 32, 98, 114, 32, 99, 101, 110, 116, 101, 114, 32, 99, 105, 116, 101, 32, 99, 111, 100, 101, 32, 100, 100, 32, 100, 101, 108, 32, 100, 102, 110, 32, 100, 105, 114, 32, 100, 105, 118, 32, 100, 108, 32, 100, 116, 32, 101, 109, 32, 102, 105, 103, 99, 97, 112, 116, 105, 111, 110, 32, 102, 105, 103, 117, 114, 101, 32, 102, 111, 110, 116, 32, 102, 111, 111, 116, 101, 114, 32, 104, 49, 32, 104, 50, 32, 104, 51, 32, 104, 52, 32, 104, 53, 32, 104, 54, 32, 104, 101, 97, 100, 101, 114, 32, 104, 114, 32, 105, 32, 105, 109, 103, 32, 105, 110, 115, 32, 107, 98, 100, 32, 108, 105, 32, 109, 97, 105, 110, 32, 109, 97, 114, 107, 32, 110, 97, 118, 32, 111, 108, 32, 112, 32, 112, 114, 101, 32, 113, 32, 115, 32, 115, 97, 109, 112, 32, 115, 101, 99, 116, 105, 111, 110, 32, 115, 109, 97, 108, 108, 32, 115, 112, 97, 110, 32, 115, 116, 114, 105, 107, 101, 32, 115, 116, 114, 111, 110, 103, 32, 115, 117, 98, 32, 115, 117, 112, 32, 116, 105, 109, 101, 32, 116, 116, 32, 117, 32, 117, 108, 32, 118, 97, 114, 32, 119, 98, 114, 32]⟩ : ByteArray)]) (ok := fun _ => True) (okp := fun _ => True) ?hr ?hp (fun _ hk => hk) trivial (Below.refl _ _) (Nat.le_refl _) (by simp) ?_; (case hd => rfl); (case hg => rfl); (case hr => first | (go_simp; done) | (go_simp; rfl)); (case hp => exact (Reps.one (show Kd.M Kd.string _ _ _ (⟨#[32, 97, 114, 101, 97, 32, 98, 97, 115, 101, 32, 98, 97, 115, 101, 102, 111, 110, 116, 32, 98, 103, 115, 111, 117, 110, 100, 32, 98, 114, 32, 101, 109, 98, 101, 100, 32, 104, 114, 32, 105, 109, 103, 32, 105, 110, 112, 117, 116, 32, 107, 101, 121, 103, 101, 110, 32, 108, 105, 110, 107, 32, 109, 101, 116, 97, 32, 112, 97, 114, 97, 109, 32, 115, 111, 117, 114, 99, 101, 32, 116, 114, 97, 99, 107, 32, 119, 98, 114, 32]⟩ : ByteArray) [.string (⟨#[32, 97, 114, 101, 97, 32, 98, 97, 115, 101, 32, 98, 97, 115, 101, 102, 111, 110, 116, 32, 98, 103, 115, 111, 117, 110, 100, 32, 98, 114, 32, 101, 109, 98, 101, 100, 32, 104, 114, 32, 105, 109, 103, 32, 105, 110, 112, 117, 116, 32, 107, 101, 121, 103, 101, 110, 32, 108, 105, 110, 107, 32, 109, 101, 116, 97, 32, 112, 97, 114, 97, 109, 32, 115, 111, 117, 114, 99, 101, 32, 116, 114, 97, 99, 107, 32, 119, 98, 114, 32]⟩ : ByteArray)] from rfl) (Reps.one (show Kd.M Kd.string _ _ _ (⟨#[32, 97, 100, 100, 114, 101, 115, 115, 32, 97, 114, 116, 105, 99, 108, 101, 32, 97, 115, 105, 100, 101, 32, 98, 108, 111, 99, 107, 113, 117, 111, 116, 101, 32, 99, 101, 110, 116, 101, 114, 32, 100, 100, 32, 100, 101, 116, 97, 105, 108, 115, 32, 100, 105, 97, 108, 111, 103, 32, 100, 105, 114, 32, 100, 105, 118, 32, 100, 108, 32, 100, 116, 32, 102, 105, 101, 108, 100, 115, 101, 116, 32, 102, 105, 103, 99, 97, 112, 116, 105, 111, 110, 32, 102, 105, 103, 117, 114, 101, 32, 102, 111, 111, 116, 101, 114, 32, 102, 111, 114, 109, 32, 104, 49, 32, 104, 50, 32, 104, 51, 32, 104, 52, 32, 104, 53, 32, 104, 54, 32, 104, 101, 97, 100, 101, 114, 32, 104, 103, 114, 111, 117, 112, 32, 104, 114, 32, 108, 105, 32, 108, 105, 115, 116, 105, 110, 103, 32, 109, 97, 105, 110, 32, 109, 101, 110, 117, 32, 110, 97, 118, 32, 111, 108, 32, 112, 32, 112, 108, 97, 105, 110, 116, 101, 120, 116, 32, 112, 114, 101, 32, 115, 101, 99, 116, 105, 111, 110, 32, 115, 117, 109, 109, 97, 114, 121, 32, 116, 97, 98, 108, 101, 32, 117, 108, 32, 120, 109, 112, 32]⟩ : ByteArray) [.string (⟨#[32, 97, 100, 100, 114, 101, 115, 115, 32, 97, 114, 116, 105, 99, 108, 101, 32, 97, 115, 105, 100, 101, 32, 98, 108, 111, 99, 107, 113, 117, 111, 116, 101, 32, 99, 101, 110, 116, 101, 114, 32, 100, 100, 32, 100, 101, 116, 97, 105, 108, 115, 32, 100, 105, 97, 108, 111, 103, 32, 100, 105, 114, 32, 100, 105, 118, 32, 100, 108, 32, 100, 116, 32, 102, 105, 101, 108, 100, 115, 101, 116, 32, 102, 105, 103, 99, 97, 112, 116, 105, 111, 110, 32, 102, 105, 103, 117, 114, 101, 32, 102, 111, 111, 116, 101, 114, 32, 102, 111, 114, 109, 32, 104, 49, 32, 104, 50, 32, 104, 51, 32, 104, 52, 32, 104, 53, 32, 104, 54, 32, 104, 101, 97, 100, 101, 114, 32, 104, 103, 114, 111, 117, 112, 32, 104, 114, 32, 108, 105, 32, 108, 105, 115, 116, 105, 110, 103, 32, 109, 97, 105, 110, 32, 109, 101, 110, 117, 32, 110, 97, 118, 32, 111, 108, 32, 112, 32, 112, 108, 97, 105, 110, 116, 101, 120, 116, 32, 112, 114, 101, 32, 115, 101, 99, 116, 105, 111, 110, 32, 115, 117, 109, 109, 97, 114, 121, 32, 116, 97, 98, 108, 101, 32, 117, 108, 32, 120, 109, 112, 32]⟩ : ByteArray)] from rfl) (Reps.one (show Kd.M Kd.string _ _ _ (⟨#[32, 104, 49, 32, 104, 50, 32, 104, 51, 32, 104, 52, 32, 104, 53, 32, 104, 54, 32]⟩ : ByteArray) [.string (⟨#[32, 104, 49, 32, 104, 50, 32, 104, 51, 32, 104, 52, 32, 104, 53, 32, 104, 54, 32]⟩ : ByteArray)] from rfl) (Reps.one (show Kd.M Kd.string _ _ _ (⟨#[32, 97, 32, 98, 32, 98, 105, 103, 32, 99, 111, 100, 101, 32, 101, 109, 32, 102, 111, 110, 116, 32, 105, 32, 110, 111, 98, 114, 32, 115, 32, 115, 109, 97, 108, 108, 32, 115, 116, 114, 105, 107, 101, 32, 115, 116, 114, 111, 110, 103, 32, 116, 116, 32, 117, 32]⟩ : ByteArray) [.string (⟨#[32, 97, 32, 98, 32, 98, 105, 103, 32, 99, 111, 100, 101, 32, 101, 109, 32, 102, 111, 110, 116, 32, 105, 32, 110, 111, 98, 114, 32, 115, 32, 115, 109, 97, 108, 108, 32, 115, 116, 114, 105, 107, 101, 32, 115, 116, 114, 111, 110, 103, 32, 116, 116, 32, 117, 32]⟩ : ByteArray)] from rfl) (Reps.one (show Kd.M Kd.string _ _ _ (⟨#[32, 97, 100, 100, 114, 101, 115, 115, 32, 97, 112, 112, 108, 101, 116, 32, 97, 114, 101, 97, 32, 97, 114, 116, 105, 99, 108, 101, 32, 97, 115, 105, 100, 101, 32, 98, 97, 115, 101, 32, 98, 97, 115, 101, 102, 111, 110, 116, 32, 98, 103, 115, 111, 117, 110, 100, 32, 98, 108, 111, 99, 107, 113, 117, 111, 116, 101, 32, 98, 114, 32, 98, 117, 116, 116, 111, 110, 32, 99, 101, 110, 116, 101, 114, 32, 100, 100, 32, 100, 101, 116, 97, 105, 108, 115, 32, 100, 105, 114, 32, 100, 105, 118, 32, 100, 108, 32, 100, 116, 32, 101, 109, 98, 101, 100, 32, 102, 105, 101, 108, 100, 115, 101, 116, 32, 102, 105, 103, 99, 97, 112, 116, 105, 111, 110, 32, 102, 105, 103, 117, 114, 101, 32, 102, 111, 111, 116, 101, 114, 32, 102, 111, 114, 109, 32, 104, 49, 32, 104, 50, 32, 104, 51, 32, 104, 52, 32, 104, 53, 32, 104, 54, 32, 104, 101, 97, 100, 101, 114, 32, 104, 103, 114, 111, 117, 112, 32, 104, 114, 32, 105, 102, 114, 97, 109, 101, 32, 105, 109, 103, 32, 105, 110, 112, 117, 116, 32, 107, 101, 121, 103, 101, 110, 32, 108, 105, 32, 108, 105, 110, 107, 32, 108, 105, 115, 116, 105, 110, 103, 32, 109, 97, 105, 110, 32, 109, 97, 114, 113, 117, 101, 101, 32, 109, 101, 110, 117, 32, 109, 101, 116, 97, 32, 110, 97, 118, 32, 110, 111, 101, 109, 98, 101, 100, 32, 110, 111, 102, 114, 97, 109, 101, 115, 32, 111, 98, 106, 101, 99, 116, 32, 111, 108, 32, 112, 32, 112, 97, 114, 97, 109, 32, 112, 108, 97, 105, 110, 116, 101, 120, 116, 32, 112, 114, 101, 32, 115, 99, 114, 105, 112, 116, 32, 115, 101, 99, 116, 105, 111, 110, 32, 115, 101, 108, 101, 99, 116, 32, 115, 111, 117, 114, 99, 101, 32, 115, 116, 121, 108, 101, 32, 115, 117, 109, 109, 97, 114, 121, 32, 116, 97, 98, 108, 101, 32, 116, 101, 109, 112, 108, 97, 116, 101, 32, 116, 101, 120, 116, 97, 114, 101, 97, 32, 116, 105, 116, 108, 101, 32, 116, 114, 97, 99, 107, 32, 117, 108, 32, 119, 98, 114, 32, 120, 109, 112, 32]⟩ : ByteArray) [.string (⟨#[32, 97, 100, 100, 114, 101, 115, 115, 32, 97, 112, 112, 108, 101, 116, 32, 97, 114, 101, 97, 32, 97, 114, 116, 105, 99, 108, 101, 32, 97, 115, 105, 100, 101, 32, 98, 97, 115, 101, 32, 98, 97, 115, 101, 102, 111, 110, 116, 32, 98, 103, 115, 111, 117, 110, 100, 32, 98, 108, 111, 99, 107, 113, 117, 111, 116, 101, 32, 98, 114, 32, 98, 117, 116, 116, 111, 110, 32, 99, 101, 110, 116, 101, 114, 32, 100, 100, 32, 100, 101, 116, 97, 105, 108, 115, 32, 100, 105, 114, 32, 100, 105, 118, 32, 100, 108, 32, 100, 116, 32, 101, 109, 98, 101, 100, 32, 102, 105, 101, 108, 100, 115, 101, 116, 32, 102, 105, 103, 99, 97, 112, 116, 105, 111, 110, 32, 102, 105, 103, 117, 114, 101, 32, 102, 111, 111, 116, 101, 114, 32, 102, 111, 114, 109, 32, 104, 49, 32, 104, 50, 32, 104, 51, 32, 104, 52, 32, 104, 53, 32, 104, 54, 32, 104, 101, 97, 100, 101, 114, 32, 104, 103, 114, 111, 117, 112, 32, 104, 114, 32, 105, 102, 114, 97, 109, 101, 32, 105, 109, 103, 32, 105, 110, 112, 117, 116, 32, 107, 101, 121, 103, 101, 110, 32, 108, 105, 32, 108, 105, 110, 107, 32, 108, 105, 115, 116, 105, 110, 103, 32, 109, 97, 105, 110, 32, 109, 97, 114, 113, 117, 101, 101, 32, 109, 101, 110, 117, 32, 109, 101, 116, 97, 32, 110, 97, 118, 32, 110, 111, 101, 109, 98, 101, 100, 32, 110, 111, 102, 114, 97, 109, 101, 115, 32, 111, 98, 106, 101, 99, 116, 32, 111, 108, 32, 112, 32, 112, 97, 114, 97, 109, 32, 112, 108, 97, 105, 110, 116, 101, 120, 116, 32, 112, 114, 101, 32, 115, 99, 114, 105, 112, 116, 32, 115, 101, 99, 116, 105, 111, 110, 32, 115, 101, 108, 101, 99, 116, 32, 115, 111, 117, 114, 99, 101, 32, 115, 116, 121, 108, 101, 32, 115, 117, 109, 109, 97, 114, 121, 32, 116, 97, 98, 108, 101, 32, 116, 101, 109, 112, 108, 97, 116, 101, 32, 116, 101, 120, 116, 97, 114, 101, 97, 32, 116, 105, 116, 108, 101, 32, 116, 114, 97, 99, 107, 32, 117, 108, 32, 119, 98, 114, 32, 120, 109, 112, 32]⟩ : ByteArray)] from rfl) (Reps.one (show Kd.M Kd.string _ _ _ (⟨#[32, 97, 112, 112, 108, 101, 116, 32, 109, 97, 114, 113, 117, 101, 101, 32, 111, 98, 106, 101, 99, 116, 32, 116, 97, 98, 108, 101, 32, 116, 101, 109, 112, 108, 97, 116, 101, 32]⟩ : ByteArray) [.string (⟨#[32, 97, 112, 112, 108, 101, 116, 32, 109, 97, 114, 113, 117, 101, 101, 32, 111, 98, 106, 101, 99, 116, 32, 116, 97, 98, 108, 101, 32, 116, 101, 109, 112, 108, 97, 116, 101, 32]⟩ : ByteArray)] from rfl) (Reps.one (show Kd.M Kd.string _ _ _ (⟨#[32, 98, 111, 100, 121, 32, 99, 97, 112, 116, 105, 111, 110, 32, 99, 111, 108, 32, 99, 111, 108, 103, 114, 111, 117, 112, 32, 102, 114, 97, 109, 101, 32, 102, 114, 97, 109, 101, 115, 101, 116, 32, 104, 101, 97, 100, 32, 104, 116, 109, 108, 32, 116, 98, 111, 100, 121, 32, 116, 100, 32, 116, 102, 111, 111, 116, 32, 116, 104, 32, 116, 104, 101, 97, 100, 32, 116, 114, 32]⟩ : ByteArray) [.string (⟨#[32, 98, 111, 100, 121, 32, 99, 97, 112, 116, 105, 111, 110, 32, 99, 111, 108, 32, 99, 111, 108, 103, 114, 111, 117, 112, 32, 102, 114, 97, 109, 101, 32, 102, 114, 97, 109, 101, 115, 101, 116, 32, 104, 101, 97, 100, 32, 104, 116, 109, 108, 32, 116, 98, 111, 100, 121, 32, 116, 100, 32, 116, 102, 111, 111, 116, 32, 116, 104, 32, 116, 104, 101, 97, 100, 32, 116, 114, 32]⟩ : ByteArray)] from rfl) (Reps.one (show Kd.M Kd.string _ _ _ (⟨#[32, 100, 100, 32, 100, 116, 32, 108, 105, 32, 111, 112, 116, 103, 114, 111, 117, 112, 32, 111, 112, 116, 105, 111, 110, 32, 112, 32, 114, 98, 32, 114, 112, 32, 114, 116, 32, 114, 116, 99, 32]⟩ : ByteArray) [.string (⟨#[32, 100, 100, 32, 100, 116, 32, 108, 105, 32, 111, 112, 116, 103, 114, 111, 117, 112, 32, 111, 112, 116, 105, 111, 110, 32, 112, 32, 114, 98, 32, 114, 112, 32, 114, 116, 32, 114, 116, 99, 32]⟩ : ByteArray)] from rfl) (Reps.one (show Kd.M Kd.string _ _ _ (⟨#[32, 97, 112, 112, 108, 101, 116, 32, 109, 97, 114, 113, 117, 101, 101, 32, 111, 98, 106, 101, 99, 116, 32]⟩ : ByteArray) [.string (⟨#[32, 97, 112, 112, 108, 101, 116, 32, 109, 97, 114, 113, 117, 101, 101, 32, 111, 98, 106, 101, 99, 116, 32]⟩ : ByteArray)] from rfl) (Reps.one (show Kd.M Kd.string _ _ _ (⟨#[32, 97, 32, 97, 98, 98, 114, 32, 97, 100, 100, 114, 101, 115, 115, 32, 97, 114, 116, 105, 99, 108, 101, 32, 97, 115, 105, 100, 101, 32, 98, 32, 98, 100, 105, 32, 98, 100, 111, 32, 98, 105, 103, 32, 98, 108, 111, 99, 107, 113, 117, 111, 116, 101, 32, 98, 114, 32, 99, 101, 110, 116, 101, 114, 32, 99, 105, 116, 101, 32, 99, 111, 100, 101, 32, 100, 100, 32, 100, 101, 108, 32, 100, 102, 110, 32, 100, 105, 114, 32, 100, 105, 118, 32, 100, 108, 32, 100, 116, 32, 101, 109, 32, 102, 105, 103, 99, 97, 112, 116, 105, 111, 110, 32, 102, 105, 103, 117, 114, 101, 32, 102, 111, 110, 116, 32, 102, 111, 111, 116, 101, 114, 32, 104, 49, 32, 104, 50, 32, 104, 51, 32, 104, 52, 32, 104, 53, 32, 104, 54, 32, 104, 101, 97, 100, 101, 114, 32, 104, 114, 32, 105, 32, 105, 109, 103, 32, 105, 110, 115, 32, 107, 98, 100, 32, 108, 105, 32, 109, 97, 105, 110, 32, 109, 97, 114, 107, 32, 110, 97, 118, 32, 111, 108, 32, 112, 32, 112, 114, 101, 32, 113, 32, 115, 32, 115, 97, 109, 112, 32, 115, 101, 99, 116, 105, 111, 110, 32, 115, 109, 97, 108, 108, 32, 115, 112, 97, 110, 32, 115, 116, 114, 105, 107, 101, 32, 115, 116, 114, 111, 110, 103, 32, 115, 117, 98, 32, 115, 117, 112, 32, 116, 105, 109, 101, 32, 116, 116, 32, 117, 32, 117, 108, 32, 118, 97, 114, 32, 119, 98, 114, 32]⟩ : ByteArray) [.string (⟨#[32, 97, 32, 97, 98, 98, 114, 32, 97, 100, 100, 114, 101, 115, 115, 32, 97, 114, 116, 105, 99, 108, 101, 32, 97, 115, 105, 100, 101, 32, 98, 32, 98, 100, 105, 32, 98, 100, 111, 32, 98, 105, 103, 32, 98, 108, 111, 99, 107, 113, 117, 111, 116, 101, 32, 98, 114, 32, 99, 101, 110, 116, 101, 114, 32, 99, 105, 116, 101, 32, 99, 111, 100, 101, 32, 100, 100, 32, 100, 101, 108, 32, 100, 102, 110, 32, 100, 105, 114, 32, 100, 105, 118, 32, 100, 108, 32, 100, 116, 32, 101, 109, 32, 102, 105, 103, 99, 97, 112, 116, 105, 111, 110, 32, 102, 105, 103, 117, 114, 101, 32, 102, 111, 110, 116, 32, 102, 111, 111, 116, 101, 114, 32, 104, 49, 32, 104, 50, 32, 104, 51, 32, 104, 52, 32, 104, 53, 32, 104, 54, 32, 104, 101, 97, 100, 101, 114, 32, 104, 114, 32, 105, 32, 105, 109, 103, 32, 105, 110, 115, 32, 107, 98, 100, 32, 108, 105, 32, 109, 97, 105, 110, 32, 109, 97, 114, 107, 32, 110, 97, 118, 32, 111, 108, 32, 112, 32, 112, 114, 101, 32, 113, 32, 115, 32, 115, 97, 109, 112, 32, 115, 101, 99, 116, 105, 111, 110, 32, 115, 109, 97, 108, 108, 32, 115, 112, 97, 110, 32, 115, 116, 114, 105, 107, 101, 32, 115, 116, 114, 111, 110, 103, 32, 115, 117, 98, 32, 115, 117, 112, 32, 116, 105, 109, 101, 32, 116, 116, 32, 117, 32, 117, 108, 32, 118, 97, 114, 32, 119, 98, 114, 32]⟩ : ByteArray)] from rfl) (Reps.none _ _)))))))))))); intro v105 w1 ho2 hb hg_ hnew_; clear hg_ hnew_; (first | rw [← Ny104.out] at ho2 | (simp only [Int.reduceToNat] at ho2; rw [← Ny104.out] at ho2)); have n0_ := Aside0.mk (Kd.R_lower ho2 (below_size (by repeat (first | (with_reducible first | exact HB.out | apply below_alloc | apply pw_below_drewN | apply below_drew1) | exact HB.out)))); have n1_ := Aside0.mk (below_step (by repeat (first | (with_reducible first | exact HB.out | apply below_alloc | apply pw_below_drewN | apply below_drew1) | exact HB.out)) hb); clear HB; have HO106 := n0_; have HB := n1_; clear n0_ n1_; clear hb ho2))
  go_ret
  exact ⟨_, by first | rfl | (simp [errW_none, errW_some] <;> rfl) | (simp [*, errW_none, errW_some] <;> rfl), by (with_reducible repeat (first | apply Kd.R_alloc | apply Kd.R_drewN | apply Kd.R_drew)); exact HO106.out, by repeat (first | (with_reducible first | exact HB.out | apply below_alloc | apply pw_below_drewN | apply below_drew1) | exact HB.out)⟩

end Go.Proofs.YteahlapoeiikoaaDoor.P


-- Printed by a program of this session (wip/myprint.py over the kit's print).
namespace Go.Proofs.YteahlapoeiikoaaDoor.P
open Go.RowKit Go.Proofs.YteahlapoeiikoaaDoorW.PrintWords Go.Proofs.YteahlapoeiikoaaDoorW.PrintLast Go.Proofs.YteahlapoeiikoaaDoorW.PrintMore
attribute [local go_sem] max2_int min2_int max_two min_two max_three min_three max_four min_four   -- for this text's walks alone
set_option linter.unusedVariables false
set_option linter.unusedSimpArgs false

/-! ### decanterref11_one: function 40 -/
def decanterref11_one.l0 : Nat → ByteArray → Int → Option (Bool)
  | 0, _, _ => none
  | k + 1, x0, x3 => if x3 < (x0.size : Int) then (if 0 ≤ x3 then (if (bt x0 x3) = 32 then (some false) else (decanterref11_one.l0 k x0 (wrap64 (x3 + 1)))) else (none)) else (some (decide ((x0.size : Int) > 0)))
def decanterref11_one.f (k : Nat) (a0 : ByteArray) : Option (Bool) := decanterref11_one.l0 k a0 0
set_option maxHeartbeats 8000000 in
set_option maxRecDepth 100000 in
theorem decanterref11_one.calls (k : Nat) (a0 : ByteArray) (r : Bool) (w : World) (h : decanterref11_one.f k a0 = some r) :
    Calls Tryd.prog 40 #[.string a0] w fun e w' => e = .returned (.bool r) ∧ Drawn0 w w' := by
  have H : (decanterref11_one.l0 k a0 0) = some r := h
  clear h
  have H' := Aside0.mk H
  clear H
  go_enter Tryd.func40, Tryd.ntmps40
  go_wp2
  go_loopg [3] k (fun kq v3 w' => ∃ (x3_1 : Int), v3 = .int .i64 x3_1 ∧ Aside0 (decanterref11_one.l0 kq a0 x3_1 = some r) ∧ Aside0 (kq ≤ k) ∧ Drawn0 w w')
  case atStart => exact ⟨(0), (by first | rfl | (simp; done) | (simp [*]; done) | (simp; generalize ByteArray.toList _ = l_; cases l_ <;> rfl)), H', ⟨Nat.le_refl _⟩, by repeat (first | exact Drawn0.refl _ | apply Drawn0.step)⟩
  case round =>
    clear H'
    obtain ⟨x3_1, rfl, HA, HK1, ⟨m1, rfl⟩⟩ := hrel
    cases gk with
    | zero => exact absurd HA.out (by simp [decanterref11_one.l0])
    | succ k1 =>
      have H := HA.out
      clear HA
      simp only [decanterref11_one.l0] at H
      by_cases c2 : x3_1 < (a0.size : Int)
      · rw [if_pos c2] at H
        have c2b0 : decide (x3_1 < (a0.size : Int)) = true := decide_eq_true c2
        clear c2
        by_cases c3 : 0 ≤ x3_1
        · rw [if_pos c3] at H
          have c3b0 : decide (0 ≤ x3_1) = true := decide_eq_true c3
          clear c3
          by_cases c5 : (bt a0 x3_1) = 32
          · rw [if_pos c5] at H
            have c5b0 : ((bt a0 x3_1) == 32) = true := beq_iff_eq.mpr c5
            have c5b1 : ((bt a0 x3_1) != 32) = false := bne_eq_false_iff_eq.mpr c5
            clear c5
            obtain rfl := Option.some.inj H
            have p4 : 0 ≤ (x3_1 : Int) := of_decide_eq_true (by first | (with_reducible assumption) | assumption)
            have q4 : x3_1 < (a0.size : Int) := of_decide_eq_true (by first | (with_reducible assumption) | assumption)
            have hx4 := bt_at a0 x3_1
            replace p4 := eq_true p4
            replace q4 := eq_true q4
            go_wp2
            go_ret
            exact ⟨by first | rfl | (simp; done) | (simp [*]; done), by repeat (first | exact Drawn0.refl _ | apply Drawn0.step)⟩
          · rw [if_neg c5] at H
            have c5b0 : ((bt a0 x3_1) == 32) = false := beq_eq_false_iff_ne.mpr c5
            have c5b1 : ((bt a0 x3_1) != 32) = true := bne_iff_ne.mpr c5
            have H' := Aside0.mk H
            clear H
            have p4 : 0 ≤ (x3_1 : Int) := of_decide_eq_true (by first | (with_reducible assumption) | assumption)
            have q4 : x3_1 < (a0.size : Int) := of_decide_eq_true (by first | (with_reducible assumption) | assumption)
            have hx4 := bt_at a0 x3_1
            replace p4 := eq_true p4
            replace q4 := eq_true q4
            go_wp2
            go_roundg k1
            case measure => have := HK1.out; omega
            case rel => exact ⟨(wrap64 (x3_1 + 1)), (by first | rfl | (simp; done) | (simp [*]; done)), H', ⟨by have := HK1.out; omega⟩, by repeat (first | exact Drawn0.refl _ | apply Drawn0.step)⟩
        · rw [if_neg c3] at H
          exact absurd H (by simp)
      · rw [if_neg c2] at H
        have c2b0 : decide (x3_1 < (a0.size : Int)) = false := decide_eq_false c2
        clear c2
        obtain rfl := Option.some.inj H
        go_wp2
        go_ret
        exact ⟨by first | rfl | (simp; done) | (simp [*]; done), by repeat (first | exact Drawn0.refl _ | apply Drawn0.step)⟩

end Go.Proofs.YteahlapoeiikoaaDoor.P


-- Printed by a program of this session (wip/myprint.py over the kit's print).
namespace Go.Proofs.YteahlapoeiikoaaDoor.P
open Go.RowKit Go.Proofs.YteahlapoeiikoaaDoorW.PrintWords Go.Proofs.YteahlapoeiikoaaDoorW.PrintLast Go.Proofs.YteahlapoeiikoaaDoorW.PrintMore
attribute [local go_sem] max2_int min2_int max_two min_two max_three min_three max_four min_four   -- for this text's walks alone
set_option linter.unusedVariables false
set_option linter.unusedSimpArgs false

/-! ### decanterref11_in: function 41 -/
def decanterref11_in.l0 : Nat → ByteArray → ByteArray → Int → Option (Bool)
  | 0, _, _, _ => none
  | k + 1, x0, x1, x5 => if (wrap64 (x5 + (x1.size : Int))) ≤ (x0.size : Int) then (if 0 ≤ x5 then (if x5 ≤ (wrap64 (x5 + (x1.size : Int))) then (if (x0.extract (x5 : Int).toNat ((wrap64 (x5 + (x1.size : Int))) : Int).toNat).toList = x1.toList then (some true) else (decanterref11_in.l0 k x0 x1 (wrap64 (x5 + 1)))) else (none)) else (none)) else (some false)
def decanterref11_in.f (k : Nat) (a0 : ByteArray) (a1 : ByteArray) : Option (Bool) := decanterref11_in.l0 k a0 a1 0
set_option maxHeartbeats 8000000 in
set_option maxRecDepth 100000 in
theorem decanterref11_in.calls (k : Nat) (a0 : ByteArray) (a1 : ByteArray) (r : Bool) (w : World) (h : decanterref11_in.f k a0 a1 = some r) :
    Calls Tryd.prog 41 #[.string a0, .string a1] w fun e w' => e = .returned (.bool r) ∧ Drawn0 w w' := by
  have H : (decanterref11_in.l0 k a0 a1 0) = some r := h
  clear h
  have H' := Aside0.mk H
  clear H
  go_enter Tryd.func41, Tryd.ntmps41
  go_wp2
  go_loopg [5] k (fun kq v5 w' => ∃ (x5_1 : Int), v5 = .int .i64 x5_1 ∧ Aside0 (decanterref11_in.l0 kq a0 a1 x5_1 = some r) ∧ Aside0 (kq ≤ k) ∧ Drawn0 w w')
  case atStart => exact ⟨(0), (by first | rfl | (simp; done) | (simp [*]; done) | (simp; generalize ByteArray.toList _ = l_; cases l_ <;> rfl)), H', ⟨Nat.le_refl _⟩, by repeat (first | exact Drawn0.refl _ | apply Drawn0.step)⟩
  case round =>
    clear H'
    try clear p2
    obtain ⟨x5_1, rfl, HA, HK1, ⟨m1, rfl⟩⟩ := hrel
    cases gk with
    | zero => exact absurd HA.out (by simp [decanterref11_in.l0])
    | succ k1 =>
      have H := HA.out
      clear HA
      simp only [decanterref11_in.l0] at H
      by_cases c3 : (wrap64 (x5_1 + (a1.size : Int))) ≤ (a0.size : Int)
      · rw [if_pos c3] at H
        have c3b0 : decide ((wrap64 (x5_1 + (a1.size : Int))) ≤ (a0.size : Int)) = true := decide_eq_true c3
        clear c3
        by_cases c4 : 0 ≤ x5_1
        · rw [if_pos c4] at H
          have c4b0 := eq_true c4
          have c4b1 : decide (0 ≤ x5_1) = true := decide_eq_true c4
          clear c4
          by_cases c5 : x5_1 ≤ (wrap64 (x5_1 + (a1.size : Int)))
          · rw [if_pos c5] at H
            have c5b0 := eq_true c5
            have c5b1 : decide (x5_1 ≤ (wrap64 (x5_1 + (a1.size : Int)))) = true := decide_eq_true c5
            have c6b0 := eq_true (of_decide_eq_true (by first | (with_reducible assumption) | assumption) : (wrap64 (x5_1 + (a1.size : Int))) ≤ (a0.size : Int))
            by_cases c7 : (a0.extract (x5_1 : Int).toNat ((wrap64 (x5_1 + (a1.size : Int))) : Int).toNat).toList = a1.toList
            · rw [if_pos c7] at H
              have c7b0 : ((a0.extract (x5_1 : Int).toNat ((wrap64 (x5_1 + (a1.size : Int))) : Int).toNat).toList == a1.toList) = true := beq_iff_eq.mpr c7
              have c7b1 : ((a0.extract (x5_1 : Int).toNat ((wrap64 (x5_1 + (a1.size : Int))) : Int).toNat).toList != a1.toList) = false := bne_eq_false_iff_eq.mpr c7
              clear c7
              obtain rfl := Option.some.inj H
              go_wp2
              go_ret
              exact ⟨by first | rfl | (simp; done) | (simp [*]; done), by repeat (first | exact Drawn0.refl _ | apply Drawn0.step)⟩
            · rw [if_neg c7] at H
              have c7b0 : ((a0.extract (x5_1 : Int).toNat ((wrap64 (x5_1 + (a1.size : Int))) : Int).toNat).toList == a1.toList) = false := beq_eq_false_iff_ne.mpr c7
              have c7b1 : ((a0.extract (x5_1 : Int).toNat ((wrap64 (x5_1 + (a1.size : Int))) : Int).toNat).toList != a1.toList) = true := bne_iff_ne.mpr c7
              have H' := Aside0.mk H
              clear H
              go_wp2
              go_roundg k1
              case measure => have := HK1.out; omega
              case rel => exact ⟨(wrap64 (x5_1 + 1)), (by first | rfl | (simp; done) | (simp [*]; done)), H', ⟨by have := HK1.out; omega⟩, by repeat (first | exact Drawn0.refl _ | apply Drawn0.step)⟩
          · rw [if_neg c5] at H
            exact absurd H (by simp)
        · rw [if_neg c4] at H
          exact absurd H (by simp)
      · rw [if_neg c3] at H
        have c3b0 : decide ((wrap64 (x5_1 + (a1.size : Int))) ≤ (a0.size : Int)) = false := decide_eq_false c3
        clear c3
        obtain rfl := Option.some.inj H
        go_wp2
        go_ret
        exact ⟨by first | rfl | (simp; done) | (simp [*]; done), by repeat (first | exact Drawn0.refl _ | apply Drawn0.step)⟩

end Go.Proofs.YteahlapoeiikoaaDoor.P


-- Printed by a program of this session (wip/myprint.py over the kit's print).
namespace Go.Proofs.YteahlapoeiikoaaDoor.P
open Go.RowKit Go.Proofs.YteahlapoeiikoaaDoorW.PrintWords Go.Proofs.YteahlapoeiikoaaDoorW.PrintLast Go.Proofs.YteahlapoeiikoaaDoorW.PrintMore
attribute [local go_sem] max2_int min2_int max_two min_two max_three min_three max_four min_four   -- for this text's walks alone
set_option linter.unusedVariables false
set_option linter.unusedSimpArgs false

/-! ### decanterref11_Is: function 20 -/
def decanterref11_Is.f (k : Nat) (a0 : ByteArray) (a1 : Int) : Option (Bool) := (decanterref11_one.f k a0).bind fun t107 => (if t107 = true then ((decanterref11_Lists.f).bind fun t108 => (if 0 ≤ a1 then (if a1 < (t108.length : Int) then (if 1 + a0.size ≤ 9223372036854775807 then (if ((⟨#[32]⟩ : ByteArray) ++ a0).size + 1 ≤ 9223372036854775807 then ((decanterref11_in.f k (rdOf ByteArray.empty t108 a1) (((⟨#[32]⟩ : ByteArray) ++ a0) ++ (⟨#[32]⟩ : ByteArray))).bind fun t112 => (some t112)) else (none)) else (none)) else (none)) else (none))) else (some false))
set_option maxHeartbeats 8000000 in
set_option maxRecDepth 100000 in
theorem decanterref11_Is.calls (k : Nat) (a0 : ByteArray) (a1 : Int) (r : Bool) (w : World) (h : decanterref11_Is.f k a0 a1 = some r) :
    Calls Tryd.prog 20 #[.string a0, .int .i64 a1] w fun e w' => e = .returned (.bool r) ∧ Below w.heap.size w w' := by
  have HB := Aside0.mk (Below.refl w.heap.size w)
  have H : ((decanterref11_one.f k a0).bind fun t107 => (if t107 = true then ((decanterref11_Lists.f).bind fun t108 => (if 0 ≤ a1 then (if a1 < (t108.length : Int) then (if 1 + a0.size ≤ 9223372036854775807 then (if ((⟨#[32]⟩ : ByteArray) ++ a0).size + 1 ≤ 9223372036854775807 then ((decanterref11_in.f k (rdOf ByteArray.empty t108 a1) (((⟨#[32]⟩ : ByteArray) ++ a0) ++ (⟨#[32]⟩ : ByteArray))).bind fun t112 => (some t112)) else (none)) else (none)) else (none)) else (none))) else (some false))) = some r := h
  clear h
  replace H := Option.bind_eq_some_iff.mp H
  obtain ⟨t107, A30, H⟩ := H
  replace H : (if t107 = true then ((decanterref11_Lists.f).bind fun t108 => (if 0 ≤ a1 then (if a1 < (t108.length : Int) then (if 1 + a0.size ≤ 9223372036854775807 then (if ((⟨#[32]⟩ : ByteArray) ++ a0).size + 1 ≤ 9223372036854775807 then ((decanterref11_in.f k (rdOf ByteArray.empty t108 a1) (((⟨#[32]⟩ : ByteArray) ++ a0) ++ (⟨#[32]⟩ : ByteArray))).bind fun t112 => (some t112)) else (none)) else (none)) else (none)) else (none))) else (some false)) = some r := H
  have A3 := Aside0.mk A30
  clear A30
  by_cases c4 : t107 = true
  · subst c4
    have H1 : ((decanterref11_Lists.f).bind fun t108 => (if 0 ≤ a1 then (if a1 < (t108.length : Int) then (if 1 + a0.size ≤ 9223372036854775807 then (if ((⟨#[32]⟩ : ByteArray) ++ a0).size + 1 ≤ 9223372036854775807 then ((decanterref11_in.f k (rdOf ByteArray.empty t108 a1) (((⟨#[32]⟩ : ByteArray) ++ a0) ++ (⟨#[32]⟩ : ByteArray))).bind fun t112 => (some t112)) else (none)) else (none)) else (none)) else (none))) = some r := by rw [if_pos rfl] at H; exact H
    clear H
    have H := H1
    clear H1
    replace H := Option.bind_eq_some_iff.mp H
    obtain ⟨t108, A50, H⟩ := H
    replace H : (if 0 ≤ a1 then (if a1 < (t108.length : Int) then (if 1 + a0.size ≤ 9223372036854775807 then (if ((⟨#[32]⟩ : ByteArray) ++ a0).size + 1 ≤ 9223372036854775807 then ((decanterref11_in.f k (rdOf ByteArray.empty t108 a1) (((⟨#[32]⟩ : ByteArray) ++ a0) ++ (⟨#[32]⟩ : ByteArray))).bind fun t112 => (some t112)) else (none)) else (none)) else (none)) else (none)) = some r := H
    have A5 := Aside0.mk A50
    clear A50
    by_cases c6 : 0 ≤ a1
    · rw [if_pos c6] at H
      have c6b0 : decide (0 ≤ a1) = true := decide_eq_true c6
      clear c6
      by_cases c7 : a1 < (t108.length : Int)
      · rw [if_pos c7] at H
        have c7b0 : decide (a1 < (t108.length : Int)) = true := decide_eq_true c7
        clear c7
        by_cases c8 : 1 + a0.size ≤ 9223372036854775807
        · rw [if_pos c8] at H
          have c8b0 := eq_true c8
          have c8b1 : decide (1 + a0.size ≤ 9223372036854775807) = true := decide_eq_true c8
          try have c8b2 : (9223372036854775807 < 1 + a0.size) = False := eq_false (Nat.not_lt.2 c8)
          by_cases c9 : ((⟨#[32]⟩ : ByteArray) ++ a0).size + 1 ≤ 9223372036854775807
          · rw [if_pos c9] at H
            have c9b0 := eq_true c9
            have c9b1 : decide (((⟨#[32]⟩ : ByteArray) ++ a0).size + 1 ≤ 9223372036854775807) = true := decide_eq_true c9
            try have c9b2 : (9223372036854775807 < ((⟨#[32]⟩ : ByteArray) ++ a0).size + 1) = False := eq_false (Nat.not_lt.2 c9)
            (try (have c9s := c9; simp only [ByteArray.size_append, show ((⟨#[32]⟩ : ByteArray)).size = 1 from rfl] at c9s; have c9s0 := eq_true c9s; have c9s2 := eq_false (Nat.not_lt.2 c9s)))
            replace H := Option.bind_eq_some_iff.mp H
            obtain ⟨t112, A100, H⟩ := H
            replace H : (some t112) = some r := H
            have A10 := Aside0.mk A100
            clear A100
            obtain rfl := Option.some.inj H
            go_enter Tryd.func20, Tryd.ntmps20
            go_wp2_with (first | ((with_reducible refine gate_callee (f := 40) rfl ?_); refine goesL_ (some 6) rfl rfl Tryd.func40 (by kernel_rfl) rfl #[.string a0] rfl (by (try simp only [List.map_toArray, List.map_cons, List.map_nil]); first | done | rfl | (simp only [List.length_drop, List.length_take]; rfl)) ?_; (with_reducible refine (decanterref11_one.calls k a0 true _ A3.out).mono ?_); rintro e w' ⟨rfl, ⟨nd, rfl⟩⟩; refine ⟨_, rfl, ?_⟩) | (go_at_call 34; (with_reducible refine (decanterref11_Lists.calls  t108 _ A5.out).mono ?_); rintro e w11 ⟨v109, rfl, ho0, hb⟩; have n0_ := Aside0.mk (Kd.R_lower ho0 (below_size (by repeat (first | (with_reducible first | exact HB.out | apply below_alloc | apply pw_below_drewN | apply below_drew1) | exact HB.out)))); have n1_ := Aside0.mk (below_step (by repeat (first | (with_reducible first | exact HB.out | apply below_alloc | apply pw_below_drewN | apply below_drew1) | exact HB.out)) hb); clear HB; have HO110 := n0_; have HB := n1_; clear n0_ n1_; (try clear hb); (try clear hb2); (try clear hk); (try clear hi); (try clear ho0); obtain ⟨Ao12, co12, eo12⟩ := Kd.R_slice HO110.out; subst eo12; have p111 : 0 ≤ (a1 : Int) := of_decide_eq_true (by first | (with_reducible assumption) | assumption); have q111 : a1 < (t108.length : Int) := of_decide_eq_true (by first | (with_reducible assumption) | assumption); obtain ⟨ad111, e111, hx111_0⟩ := Kd.at_string (Kd.R_reads' HO110.out).2.2 a1 p111 q111; cases e111; replace p111 := eq_true p111; replace q111 := eq_true q111) | (go_at_call 41; (with_reducible refine (decanterref11_in.calls k (rdOf ByteArray.empty t108 a1) (((⟨#[32]⟩ : ByteArray) ++ a0) ++ (⟨#[32]⟩ : ByteArray)) t112 _ A10.out).mono ?_); rintro e w' ⟨rfl, ⟨nd, rfl⟩⟩))
            go_ret
            exact ⟨by first | rfl | (simp [errW_none, errW_some] <;> rfl) | (simp [*, errW_none, errW_some] <;> rfl), by repeat (first | (with_reducible first | exact HB.out | apply below_alloc | apply pw_below_drewN | apply below_drew1) | exact HB.out)⟩
          · rw [if_neg c9] at H
            exact absurd H (by simp)
        · rw [if_neg c8] at H
          exact absurd H (by simp)
      · rw [if_neg c7] at H
        exact absurd H (by simp)
    · rw [if_neg c6] at H
      exact absurd H (by simp)
  · replace c4 := Bool.eq_false_iff.mpr c4
    subst c4
    have H1 : (some false) = some r := by rw [if_neg (show ¬ (false = true) by decide)] at H; exact H
    clear H
    have H := H1
    clear H1
    obtain rfl := Option.some.inj H
    go_enter Tryd.func20, Tryd.ntmps20
    go_wp2_with (first | ((with_reducible refine gate_callee (f := 40) rfl ?_); refine goesL_ (some 6) rfl rfl Tryd.func40 (by kernel_rfl) rfl #[.string a0] rfl (by (try simp only [List.map_toArray, List.map_cons, List.map_nil]); first | done | rfl | (simp only [List.length_drop, List.length_take]; rfl)) ?_; (with_reducible refine (decanterref11_one.calls k a0 false _ A3.out).mono ?_); rintro e w' ⟨rfl, ⟨nd, rfl⟩⟩; refine ⟨_, rfl, ?_⟩))
    go_ret
    exact ⟨by first | rfl | (simp [errW_none, errW_some] <;> rfl) | (simp [*, errW_none, errW_some] <;> rfl), by repeat (first | (with_reducible first | exact HB.out | apply below_alloc | apply pw_below_drewN | apply below_drew1) | exact HB.out)⟩

end Go.Proofs.YteahlapoeiikoaaDoor.P


-- Printed by a program of this session (wip/myprint.py over the kit's print).
namespace Go.Proofs.YteahlapoeiikoaaDoor.P
open Go.RowKit Go.Proofs.YteahlapoeiikoaaDoorW.PrintWords Go.Proofs.YteahlapoeiikoaaDoorW.PrintLast Go.Proofs.YteahlapoeiikoaaDoorW.PrintMore
attribute [local go_sem] max2_int min2_int max_two min_two max_three min_three max_four min_four   -- for this text's walks alone
set_option linter.unusedVariables false
set_option linter.unusedSimpArgs false

/-! ### decanterref11_Of: function 14 -/
def decanterref11_Of.l0 : Nat → ByteArray → Int → Int → List ByteArray → Int → Option (Int)
  | 0, _, _, _, _, _ => none
  | k + 1, x0, x3, x4, x5, x6 => if x6 < (x5.length : Int) then ((decanterref11_Is.f k x0 x6).bind fun t116 => (if t116 = true then (decanterref11_Of.l0 k x0 (wrap64 (x3 + x4)) (wrap64 (x4 * 2)) x5 (wrap64 (x6 + 1))) else (decanterref11_Of.l0 k x0 x3 (wrap64 (x4 * 2)) x5 (wrap64 (x6 + 1))))) else (some x3)
def decanterref11_Of.f (k : Nat) (a0 : ByteArray) : Option (Int) := (decanterref11_Lists.f).bind fun t113 => (decanterref11_Of.l0 k a0 0 1 t113 0)
end Go.Proofs.YteahlapoeiikoaaDoor.P

/-
  The document's answer for chapter 11 (decanterref11), as plain functions of lists. No condition but sizes.
-/

namespace Go.Proofs.YteahlapoeiikoaaDoor.Pure
open Go.RowKit Go.Proofs.YteahlapoeiikoaaDoor.P Go.Proofs.YteahlapoeiikoaaDoorW.PrintWords Go.Proofs.YteahlapoeiikoaaDoorW.PrintLast

theorem wrap_id {i : Int} (h0 : -4611686018427387904 ≤ i) (h : i ≤ 4611686018427387904) : wrap64 i = i := by
  unfold wrap64; omega

theorem bt_get (s : ByteArray) (i : Nat) (h : i < s.size) : bt s (i : Int) = ((s.data.toList[i]'(by rw [← Lib.size_eq]; exact h)).toNat : Int) := by
  unfold bt
  rw [dif_pos (by simpa using h)]
  rfl

theorem data_append (a b : ByteArray) : (a ++ b).data.toList = a.data.toList ++ b.data.toList := by
  rw [ByteArray.data_append]; simp

/-- Is a name one word? -/
def oneB (x : ByteArray) : Bool := decide (0 < x.size) && x.data.toList.all (· != 32)

theorem u8_32 (c : UInt8) : ((c.toNat : Int) = 32) ↔ c = 32 := by
  constructor
  · intro h
    have : c.toNat = (32 : UInt8).toNat := by simpa using (by omega : c.toNat = 32)
    exact UInt8.toNat_inj.1 this
  · rintro rfl; rfl

theorem one_loop (x : ByteArray) (hx : x.size ≤ 4611686018427387903) (d : Nat) : ∀ (k i : Nat), i ≤ x.size → x.size - i = d → d < k →
    decanterref11_one.l0 k x (i : Int) = some (decide (0 < x.size) && (x.data.toList.drop i).all (· != 32)) := by
  induction d with
  | zero =>
    intro k i hi hd hk
    obtain ⟨k, rfl⟩ : ∃ m, k = m + 1 := ⟨k - 1, by omega⟩
    simp only [decanterref11_one.l0]
    rw [if_neg (by omega), List.drop_eq_nil_of_le (by rw [← Lib.size_eq]; omega)]
    have e : decide ((x.size : Int) > 0) = decide (0 < x.size) := by rw [decide_eq_decide]; omega
    rw [e]
    simp
  | succ d ih =>
    intro k i hi hd hk
    obtain ⟨k, rfl⟩ : ∃ m, k = m + 1 := ⟨k - 1, by omega⟩
    have hlt : i < x.size := by omega
    have hl : i < x.data.toList.length := by rw [← Lib.size_eq]; exact hlt
    simp only [decanterref11_one.l0]
    rw [if_pos (by omega), if_pos (by omega), bt_get x i hlt, List.drop_eq_getElem_cons hl, List.all_cons]
    have hih := ih k (i + 1) (by omega) (by omega) (by omega)
    rw [wrap_id (by omega) (by omega)]
    by_cases h : x.data.toList[i] = 32
    · rw [if_pos ((u8_32 _).2 h), h]
      simp
    · rw [if_neg (fun e => h ((u8_32 _).1 e))]
      have hb : (x.data.toList[i] != 32) = true := by simpa using h
      rw [hb, Bool.true_and]
      exact hih

theorem one_tells (x : ByteArray) (hx : x.size ≤ 4611686018427387903) (k : Nat) (hk : x.size < k) : decanterref11_one.f k x = some (oneB x) := by
  have := one_loop x hx x.size k 0 (by omega) (by omega) hk
  simpa [decanterref11_one.f, oneB] using this

/-- Does p stand in s at a place from i on? -/
def StandsFrom (s p : List UInt8) (i : Nat) : Prop := ∃ j, i ≤ j ∧ j + p.length ≤ s.length ∧ (s.drop j).take p.length = p

open Classical in
theorem in_loop (s p : ByteArray) (hs : s.size ≤ 1152921504606846976) (hp : p.size ≤ 1152921504606846976) (d : Nat) : ∀ (k i : Nat), i ≤ s.size + 1 → s.size + 1 - i = d → d < k →
    decanterref11_in.l0 k s p (i : Int) = some (decide (StandsFrom s.data.toList p.data.toList i)) := by
  induction d with
  | zero =>
    intro k i hi hd hk
    obtain ⟨k, rfl⟩ : ∃ m, k = m + 1 := ⟨k - 1, by omega⟩
    simp only [decanterref11_in.l0]
    rw [wrap_id (by omega) (by omega), if_neg (by omega)]
    have : ¬ StandsFrom s.data.toList p.data.toList i := by
      rintro ⟨j, h1, h2, _⟩
      rw [← Lib.size_eq, ← Lib.size_eq] at h2
      omega
    simp [this]
  | succ d ih =>
    intro k i hi hd hk
    obtain ⟨k, rfl⟩ : ∃ m, k = m + 1 := ⟨k - 1, by omega⟩
    have hih := ih k (i + 1) (by omega) (by omega) (by omega)
    simp only [decanterref11_in.l0]
    rw [wrap_id (by omega) (by omega), wrap_id (by omega) (by omega)]
    by_cases h : i + p.size ≤ s.size
    · rw [if_pos (by omega), if_pos (by omega), if_pos (by omega)]
      have e1 : ((i : Int) + (p.size : Int)).toNat = i + p.size := by omega
      have e2 : ((i : Int)).toNat = i := by omega
      rw [e1, e2, Lib.extract_toList, Lib.toList_data]
      have e3 : i + p.size - i = p.data.toList.length := by rw [← Lib.size_eq]; omega
      rw [e3]
      by_cases hc : (s.data.toList.drop i).take p.data.toList.length = p.data.toList
      · rw [if_pos hc]
        have : StandsFrom s.data.toList p.data.toList i := ⟨i, Nat.le_refl _, by rw [← Lib.size_eq, ← Lib.size_eq]; exact h, hc⟩
        simp [this]
      · rw [if_neg hc]
        have e4 : ((i : Int) + 1) = ((i + 1 : Nat) : Int) := by omega
        rw [e4, hih]
        congr 1
        rw [decide_eq_decide]
        constructor
        · rintro ⟨j, h1, h2, h3⟩; exact ⟨j, by omega, h2, h3⟩
        · rintro ⟨j, h1, h2, h3⟩
          refine ⟨j, ?_, h2, h3⟩
          rcases Nat.lt_or_ge i j with h4 | h4
          · omega
          · obtain rfl : j = i := by omega
            exact absurd h3 hc
    · rw [if_neg (by omega)]
      have : ¬ StandsFrom s.data.toList p.data.toList i := by
        rintro ⟨j, h1, h2, _⟩
        rw [← Lib.size_eq, ← Lib.size_eq] at h2
        omega
      simp [this]

theorem stands_infix (s p : List UInt8) : StandsFrom s p 0 ↔ p <:+: s := by
  constructor
  · rintro ⟨j, _, _, h3⟩
    refine ⟨s.take j, (s.drop j).drop p.length, ?_⟩
    have e : (s.drop j) = p ++ (s.drop j).drop p.length := by
      conv => lhs; rw [← List.take_append_drop p.length (s.drop j)]
      rw [h3]
    rw [List.append_assoc, ← e, List.take_append_drop]
  · rintro ⟨a, b, rfl⟩
    refine ⟨a.length, Nat.zero_le _, by simp, ?_⟩
    simp [List.append_assoc]

open Classical in
theorem in_tells (s p : ByteArray) (hs : s.size ≤ 1152921504606846976) (hp : p.size ≤ 1152921504606846976) (k : Nat) (hk : s.size + 1 < k) :
    decanterref11_in.f k s p = some (decide (p.data.toList <:+: s.data.toList)) := by
  have := in_loop s p hs hp (s.size + 1) k 0 (by omega) (by omega) hk
  rw [decanterref11_in.f]
  have e : (0 : Int) = ((0 : Nat) : Int) := rfl
  rw [e, this]
  congr 1
  rw [decide_eq_decide]
  exact stands_infix _ _

/-- Words with a blank behind each. -/
def joined (ws : List (List UInt8)) : List UInt8 := (ws.map (· ++ [32])).flatten
/-- Two words without blanks, each with a blank behind: one begins the other just if they are one. -/
theorem word_prefix {x w t : List UInt8} (hx : 32 ∉ x) (hw : 32 ∉ w) : x ++ [32] <+: w ++ 32 :: t ↔ x = w := by
  constructor
  · intro h
    induction x generalizing w with
    | nil =>
      cases w with
      | nil => rfl
      | cons c w =>
        obtain ⟨r, hr⟩ := h
        simp at hr
        exact absurd (by rw [hr.1]; simp) hw
    | cons c x ih =>
      cases w with
      | nil =>
        obtain ⟨r, hr⟩ := h
        simp at hr
        exact absurd (by rw [hr.1]; simp) hx
      | cons c' w =>
        obtain ⟨r, hr⟩ := h
        simp at hr
        obtain ⟨rfl, hr⟩ := hr
        have e := ih (w := w) (fun hm => hx (by simp [hm])) (fun hm => hw (by simp [hm])) ⟨r, by simpa using hr⟩
        rw [e]
  · rintro rfl
    exact ⟨t, by simp⟩

theorem infix_skip {p w t : List UInt8} (hw : 32 ∉ w) : (32 :: p) <:+: w ++ t ↔ (32 :: p) <:+: t := by
  induction w with
  | nil => rfl
  | cons c w ih =>
    rw [List.cons_append, List.infix_cons_iff, ih (fun h => hw (by simp [h]))]
    constructor
    · rintro (⟨r, hr⟩ | h)
      · simp at hr
        exact absurd (by rw [hr.1]; simp) hw
      · exact h
    · exact .inr

/-- A word with blanks around it stands in words with blanks around them, just if it is one of them. -/
theorem word_in {x : List UInt8} (hx : 32 ∉ x) : ∀ (ws : List (List UInt8)), (∀ w ∈ ws, 32 ∉ w) → ((32 :: (x ++ [32])) <:+: 32 :: joined ws ↔ x ∈ ws)
  | [], _ => by
    constructor
    · rintro ⟨a, b, h⟩
      have := congrArg List.length h
      simp [joined] at this
      omega
    · intro h; cases h
  | w :: ws, hw => by
    have ih := word_in hx ws (fun v hv => hw v (by simp [hv]))
    have e : joined (w :: ws) = w ++ 32 :: joined ws := by simp [joined]
    rw [List.infix_cons_iff, e, infix_skip (hw w (by simp)), ih, List.mem_cons]
    constructor
    · rintro (h | h)
      · exact .inl ((word_prefix hx (hw w (by simp))).1 ((List.prefix_cons_inj 32).1 h))
      · exact .inr h
    · rintro (h | h)
      · exact .inl ((List.prefix_cons_inj 32).2 ((word_prefix hx (hw w (by simp))).2 h))
      · exact .inr h
end Go.Proofs.YteahlapoeiikoaaDoor.Pure


-- Printed by a program of this session (wip/myprint.py over the kit's print).
namespace Go.Proofs.YteahlapoeiikoaaDoor.P
open Go.RowKit Go.Proofs.YteahlapoeiikoaaDoorW.PrintWords Go.Proofs.YteahlapoeiikoaaDoorW.PrintLast Go.Proofs.YteahlapoeiikoaaDoorW.PrintMore
attribute [local go_sem] max2_int min2_int max_two min_two max_three min_three max_four min_four   -- for this text's walks alone
set_option linter.unusedVariables false
set_option linter.unusedSimpArgs false

/-! ### decanterref03_Digit: function 74 -/
def decanterref03_Digit.f (a0 : Int) : Option (Bool) := if a0 ≥ 48 then (some (decide (a0 ≤ 57))) else (some false)
set_option maxHeartbeats 8000000 in
set_option maxRecDepth 100000 in
theorem decanterref03_Digit.calls (a0 : Int) (r : Bool) (w : World) (h : decanterref03_Digit.f a0 = some r) :
    Calls Tryd.prog 74 #[.int .i64 a0] w fun e w' => e = .returned (.bool r) ∧ Drawn0 w w' := by
  have H : (if a0 ≥ 48 then (some (decide (a0 ≤ 57))) else (some false)) = some r := h
  clear h
  by_cases c2 : a0 ≥ 48
  · rw [if_pos c2] at H
    have c2b0 : decide (48 ≤ a0) = true := decide_eq_true c2
    clear c2
    obtain rfl := Option.some.inj H
    go_enter Tryd.func74, Tryd.ntmps74
    go_wp2
    go_ret
    exact ⟨by first | rfl | (simp; done) | (simp [*]; done), by repeat (first | exact Drawn0.refl _ | apply Drawn0.step)⟩
  · rw [if_neg c2] at H
    have c2b0 : decide (48 ≤ a0) = false := decide_eq_false c2
    clear c2
    obtain rfl := Option.some.inj H
    go_enter Tryd.func74, Tryd.ntmps74
    go_wp2
    go_ret
    exact ⟨by first | rfl | (simp; done) | (simp [*]; done), by repeat (first | exact Drawn0.refl _ | apply Drawn0.step)⟩

end Go.Proofs.YteahlapoeiikoaaDoor.P


-- Printed by a program of this session (wip/myprint.py over the kit's print).
namespace Go.Proofs.YteahlapoeiikoaaDoor.P
open Go.RowKit Go.Proofs.YteahlapoeiikoaaDoorW.PrintWords Go.Proofs.YteahlapoeiikoaaDoorW.PrintLast Go.Proofs.YteahlapoeiikoaaDoorW.PrintMore
attribute [local go_sem] max2_int min2_int max_two min_two max_three min_three max_four min_four   -- for this text's walks alone
set_option linter.unusedVariables false
set_option linter.unusedSimpArgs false

/-! ### decanterref03_Name: function 56 -/
def decanterref03_Name.l0 : Nat → ByteArray → Int → Option (Bool)
  | 0, _, _ => none
  | k + 1, x0, x3 => if x3 < (x0.size : Int) then (if 0 ≤ x3 then (if (wrap64 (bt x0 x3)) ≥ 97 then (if ((wrap64 (bt x0 x3)) ≤ 122) then (decanterref03_Name.l0 k x0 (wrap64 (x3 + 1))) else (if x3 = 0 then (some false) else ((decanterref03_Digit.f (wrap64 (bt x0 x3))).bind fun t254 => (if t254 = true then (decanterref03_Name.l0 k x0 (wrap64 (x3 + 1))) else (if (wrap64 (bt x0 x3)) = 45 then (decanterref03_Name.l0 k x0 (wrap64 (x3 + 1))) else (some false)))))) else (if x3 = 0 then (some false) else ((decanterref03_Digit.f (wrap64 (bt x0 x3))).bind fun t255 => (if t255 = true then (decanterref03_Name.l0 k x0 (wrap64 (x3 + 1))) else (if (wrap64 (bt x0 x3)) = 45 then (decanterref03_Name.l0 k x0 (wrap64 (x3 + 1))) else (some false)))))) else (none)) else (some true)
def decanterref03_Name.f (k : Nat) (a0 : ByteArray) : Option (Bool) := if (a0.size : Int) = 0 then (some false) else (decanterref03_Name.l0 k a0 0)
set_option maxHeartbeats 8000000 in
set_option maxRecDepth 100000 in
theorem decanterref03_Name.calls (k : Nat) (a0 : ByteArray) (r : Bool) (w : World) (h : decanterref03_Name.f k a0 = some r) :
    Calls Tryd.prog 56 #[.string a0] w fun e w' => e = .returned (.bool r) ∧ Drawn0 w w' := by
  have H : (if (a0.size : Int) = 0 then (some false) else (decanterref03_Name.l0 k a0 0)) = some r := h
  clear h
  by_cases c2 : (a0.size : Int) = 0
  · rw [if_pos c2] at H
    have c2b0 : ((a0.size : Int) == 0) = true := beq_iff_eq.mpr c2
    have c2b1 : ((a0.size : Int) != 0) = false := bne_eq_false_iff_eq.mpr c2
    clear c2
    obtain rfl := Option.some.inj H
    go_enter Tryd.func56, Tryd.ntmps56
    go_wp2
    go_ret
    exact ⟨by first | rfl | (simp; done) | (simp [*]; done), by repeat (first | exact Drawn0.refl _ | apply Drawn0.step)⟩
  · rw [if_neg c2] at H
    have c2b0 : ((a0.size : Int) == 0) = false := beq_eq_false_iff_ne.mpr c2
    have c2b1 : ((a0.size : Int) != 0) = true := bne_iff_ne.mpr c2
    have H' := Aside0.mk H
    clear H
    go_enter Tryd.func56, Tryd.ntmps56
    go_wp2
    go_loopg [3] k (fun kq v3 w' => ∃ (x3_1 : Int), v3 = .int .i64 x3_1 ∧ Aside0 (decanterref03_Name.l0 kq a0 x3_1 = some r) ∧ Aside0 (kq ≤ k) ∧ Drawn0 w w')
    case atStart => exact ⟨(0), (by first | rfl | (simp; done) | (simp [*]; done) | (simp; generalize ByteArray.toList _ = l_; cases l_ <;> rfl)), H', ⟨Nat.le_refl _⟩, by repeat (first | exact Drawn0.refl _ | apply Drawn0.step)⟩
    case round =>
      clear H'
      try clear c2
      try clear c2b0
      try clear c2b1
      try clear p2
      obtain ⟨x3_1, rfl, HA, HK1, ⟨m1, rfl⟩⟩ := hrel
      cases gk with
      | zero => exact absurd HA.out (by simp [decanterref03_Name.l0])
      | succ k1 =>
        have H := HA.out
        clear HA
        simp only [decanterref03_Name.l0] at H
        by_cases c3 : x3_1 < (a0.size : Int)
        · rw [if_pos c3] at H
          have c3b0 : decide (x3_1 < (a0.size : Int)) = true := decide_eq_true c3
          clear c3
          by_cases c4 : 0 ≤ x3_1
          · rw [if_pos c4] at H
            have c4b0 : decide (0 ≤ x3_1) = true := decide_eq_true c4
            clear c4
            by_cases c6 : (wrap64 (bt a0 x3_1)) ≥ 97
            · rw [if_pos c6] at H
              have c6b0 : decide (97 ≤ (wrap64 (bt a0 x3_1))) = true := decide_eq_true c6
              clear c6
              by_cases c7 : ((wrap64 (bt a0 x3_1)) ≤ 122)
              · rw [if_pos c7] at H
                have c7b0 : decide ((wrap64 (bt a0 x3_1)) ≤ 122) = true := decide_eq_true c7
                clear c7
                have H' := Aside0.mk H
                clear H
                have p5 : 0 ≤ (x3_1 : Int) := of_decide_eq_true (by first | (with_reducible assumption) | assumption)
                have q5 : x3_1 < (a0.size : Int) := of_decide_eq_true (by first | (with_reducible assumption) | assumption)
                have hx5 := bt_at a0 x3_1
                replace p5 := eq_true p5
                replace q5 := eq_true q5
                go_wp2
                go_roundg k1
                case measure => have := HK1.out; omega
                case rel => exact ⟨(wrap64 (x3_1 + 1)), (by first | rfl | (simp; done) | (simp [*]; done)), H', ⟨by have := HK1.out; omega⟩, by repeat (first | exact Drawn0.refl _ | apply Drawn0.step)⟩
              · rw [if_neg c7] at H
                have c7b0 : decide ((wrap64 (bt a0 x3_1)) ≤ 122) = false := decide_eq_false c7
                clear c7
                by_cases c8 : x3_1 = 0
                · rw [if_pos c8] at H
                  have c8b0 : (x3_1 == 0) = true := beq_iff_eq.mpr c8
                  have c8b1 : (x3_1 != 0) = false := bne_eq_false_iff_eq.mpr c8
                  clear c8
                  obtain rfl := Option.some.inj H
                  have p5 : 0 ≤ (x3_1 : Int) := of_decide_eq_true (by first | (with_reducible assumption) | assumption)
                  have q5 : x3_1 < (a0.size : Int) := of_decide_eq_true (by first | (with_reducible assumption) | assumption)
                  have hx5 := bt_at a0 x3_1
                  replace p5 := eq_true p5
                  replace q5 := eq_true q5
                  go_wp2
                  go_ret
                  exact ⟨by first | rfl | (simp; done) | (simp [*]; done), by repeat (first | exact Drawn0.refl _ | apply Drawn0.step)⟩
                · rw [if_neg c8] at H
                  have c8b0 : (x3_1 == 0) = false := beq_eq_false_iff_ne.mpr c8
                  have c8b1 : (x3_1 != 0) = true := bne_iff_ne.mpr c8
                  replace H := Option.bind_eq_some_iff.mp H
                  obtain ⟨t254, A90, H⟩ := H
                  replace H : (if t254 = true then (decanterref03_Name.l0 k1 a0 (wrap64 (x3_1 + 1))) else (if (wrap64 (bt a0 x3_1)) = 45 then (decanterref03_Name.l0 k1 a0 (wrap64 (x3_1 + 1))) else (some false))) = some r := H
                  have A9 := Aside0.mk A90
                  clear A90
                  by_cases c10 : t254 = true
                  · subst c10
                    have H1 : (decanterref03_Name.l0 k1 a0 (wrap64 (x3_1 + 1))) = some r := by rw [if_pos rfl] at H; exact H
                    clear H
                    have H := H1
                    clear H1
                    have H' := Aside0.mk H
                    clear H
                    have p5 : 0 ≤ (x3_1 : Int) := of_decide_eq_true (by first | (with_reducible assumption) | assumption)
                    have q5 : x3_1 < (a0.size : Int) := of_decide_eq_true (by first | (with_reducible assumption) | assumption)
                    have hx5 := bt_at a0 x3_1
                    replace p5 := eq_true p5
                    replace q5 := eq_true q5
                    go_wp2_with (first | (go_at_call 74; (with_reducible refine (decanterref03_Digit.calls (wrap64 (bt a0 x3_1)) true _ A9.out).mono ?_); rintro e w' ⟨rfl, ⟨nd, rfl⟩⟩))
                    go_roundg k1
                    case measure => have := HK1.out; omega
                    case rel => exact ⟨(wrap64 (x3_1 + 1)), (by first | rfl | (simp; done) | (simp [*]; done)), H', ⟨by have := HK1.out; omega⟩, by repeat (first | exact Drawn0.refl _ | apply Drawn0.step)⟩
                  · replace c10 := Bool.eq_false_iff.mpr c10
                    subst c10
                    have H1 : (if (wrap64 (bt a0 x3_1)) = 45 then (decanterref03_Name.l0 k1 a0 (wrap64 (x3_1 + 1))) else (some false)) = some r := by rw [if_neg (show ¬ (false = true) by decide)] at H; exact H
                    clear H
                    have H := H1
                    clear H1
                    by_cases c11 : (wrap64 (bt a0 x3_1)) = 45
                    · rw [if_pos c11] at H
                      have c11b0 : ((wrap64 (bt a0 x3_1)) == 45) = true := beq_iff_eq.mpr c11
                      have c11b1 : ((wrap64 (bt a0 x3_1)) != 45) = false := bne_eq_false_iff_eq.mpr c11
                      clear c11
                      have H' := Aside0.mk H
                      clear H
                      have p5 : 0 ≤ (x3_1 : Int) := of_decide_eq_true (by first | (with_reducible assumption) | assumption)
                      have q5 : x3_1 < (a0.size : Int) := of_decide_eq_true (by first | (with_reducible assumption) | assumption)
                      have hx5 := bt_at a0 x3_1
                      replace p5 := eq_true p5
                      replace q5 := eq_true q5
                      go_wp2_with (first | (go_at_call 74; (with_reducible refine (decanterref03_Digit.calls (wrap64 (bt a0 x3_1)) false _ A9.out).mono ?_); rintro e w' ⟨rfl, ⟨nd, rfl⟩⟩))
                      go_roundg k1
                      case measure => have := HK1.out; omega
                      case rel => exact ⟨(wrap64 (x3_1 + 1)), (by first | rfl | (simp; done) | (simp [*]; done)), H', ⟨by have := HK1.out; omega⟩, by repeat (first | exact Drawn0.refl _ | apply Drawn0.step)⟩
                    · rw [if_neg c11] at H
                      have c11b0 : ((wrap64 (bt a0 x3_1)) == 45) = false := beq_eq_false_iff_ne.mpr c11
                      have c11b1 : ((wrap64 (bt a0 x3_1)) != 45) = true := bne_iff_ne.mpr c11
                      obtain rfl := Option.some.inj H
                      have p5 : 0 ≤ (x3_1 : Int) := of_decide_eq_true (by first | (with_reducible assumption) | assumption)
                      have q5 : x3_1 < (a0.size : Int) := of_decide_eq_true (by first | (with_reducible assumption) | assumption)
                      have hx5 := bt_at a0 x3_1
                      replace p5 := eq_true p5
                      replace q5 := eq_true q5
                      go_wp2_with (first | (go_at_call 74; (with_reducible refine (decanterref03_Digit.calls (wrap64 (bt a0 x3_1)) false _ A9.out).mono ?_); rintro e w' ⟨rfl, ⟨nd, rfl⟩⟩))
                      go_ret
                      exact ⟨by first | rfl | (simp; done) | (simp [*]; done), by repeat (first | exact Drawn0.refl _ | apply Drawn0.step)⟩
            · rw [if_neg c6] at H
              have c6b0 : decide (97 ≤ (wrap64 (bt a0 x3_1))) = false := decide_eq_false c6
              clear c6
              by_cases c12 : x3_1 = 0
              · rw [if_pos c12] at H
                have c12b0 : (x3_1 == 0) = true := beq_iff_eq.mpr c12
                have c12b1 : (x3_1 != 0) = false := bne_eq_false_iff_eq.mpr c12
                clear c12
                obtain rfl := Option.some.inj H
                have p5 : 0 ≤ (x3_1 : Int) := of_decide_eq_true (by first | (with_reducible assumption) | assumption)
                have q5 : x3_1 < (a0.size : Int) := of_decide_eq_true (by first | (with_reducible assumption) | assumption)
                have hx5 := bt_at a0 x3_1
                replace p5 := eq_true p5
                replace q5 := eq_true q5
                go_wp2
                go_ret
                exact ⟨by first | rfl | (simp; done) | (simp [*]; done), by repeat (first | exact Drawn0.refl _ | apply Drawn0.step)⟩
              · rw [if_neg c12] at H
                have c12b0 : (x3_1 == 0) = false := beq_eq_false_iff_ne.mpr c12
                have c12b1 : (x3_1 != 0) = true := bne_iff_ne.mpr c12
                replace H := Option.bind_eq_some_iff.mp H
                obtain ⟨t255, A130, H⟩ := H
                replace H : (if t255 = true then (decanterref03_Name.l0 k1 a0 (wrap64 (x3_1 + 1))) else (if (wrap64 (bt a0 x3_1)) = 45 then (decanterref03_Name.l0 k1 a0 (wrap64 (x3_1 + 1))) else (some false))) = some r := H
                have A13 := Aside0.mk A130
                clear A130
                by_cases c14 : t255 = true
                · subst c14
                  have H1 : (decanterref03_Name.l0 k1 a0 (wrap64 (x3_1 + 1))) = some r := by rw [if_pos rfl] at H; exact H
                  clear H
                  have H := H1
                  clear H1
                  have H' := Aside0.mk H
                  clear H
                  have p5 : 0 ≤ (x3_1 : Int) := of_decide_eq_true (by first | (with_reducible assumption) | assumption)
                  have q5 : x3_1 < (a0.size : Int) := of_decide_eq_true (by first | (with_reducible assumption) | assumption)
                  have hx5 := bt_at a0 x3_1
                  replace p5 := eq_true p5
                  replace q5 := eq_true q5
                  go_wp2_with (first | (go_at_call 74; (with_reducible refine (decanterref03_Digit.calls (wrap64 (bt a0 x3_1)) true _ A13.out).mono ?_); rintro e w' ⟨rfl, ⟨nd, rfl⟩⟩))
                  go_roundg k1
                  case measure => have := HK1.out; omega
                  case rel => exact ⟨(wrap64 (x3_1 + 1)), (by first | rfl | (simp; done) | (simp [*]; done)), H', ⟨by have := HK1.out; omega⟩, by repeat (first | exact Drawn0.refl _ | apply Drawn0.step)⟩
                · replace c14 := Bool.eq_false_iff.mpr c14
                  subst c14
                  have H1 : (if (wrap64 (bt a0 x3_1)) = 45 then (decanterref03_Name.l0 k1 a0 (wrap64 (x3_1 + 1))) else (some false)) = some r := by rw [if_neg (show ¬ (false = true) by decide)] at H; exact H
                  clear H
                  have H := H1
                  clear H1
                  by_cases c15 : (wrap64 (bt a0 x3_1)) = 45
                  · rw [if_pos c15] at H
                    have c15b0 : ((wrap64 (bt a0 x3_1)) == 45) = true := beq_iff_eq.mpr c15
                    have c15b1 : ((wrap64 (bt a0 x3_1)) != 45) = false := bne_eq_false_iff_eq.mpr c15
                    clear c15
                    have H' := Aside0.mk H
                    clear H
                    have p5 : 0 ≤ (x3_1 : Int) := of_decide_eq_true (by first | (with_reducible assumption) | assumption)
                    have q5 : x3_1 < (a0.size : Int) := of_decide_eq_true (by first | (with_reducible assumption) | assumption)
                    have hx5 := bt_at a0 x3_1
                    replace p5 := eq_true p5
                    replace q5 := eq_true q5
                    go_wp2_with (first | (go_at_call 74; (with_reducible refine (decanterref03_Digit.calls (wrap64 (bt a0 x3_1)) false _ A13.out).mono ?_); rintro e w' ⟨rfl, ⟨nd, rfl⟩⟩))
                    go_roundg k1
                    case measure => have := HK1.out; omega
                    case rel => exact ⟨(wrap64 (x3_1 + 1)), (by first | rfl | (simp; done) | (simp [*]; done)), H', ⟨by have := HK1.out; omega⟩, by repeat (first | exact Drawn0.refl _ | apply Drawn0.step)⟩
                  · rw [if_neg c15] at H
                    have c15b0 : ((wrap64 (bt a0 x3_1)) == 45) = false := beq_eq_false_iff_ne.mpr c15
                    have c15b1 : ((wrap64 (bt a0 x3_1)) != 45) = true := bne_iff_ne.mpr c15
                    obtain rfl := Option.some.inj H
                    have p5 : 0 ≤ (x3_1 : Int) := of_decide_eq_true (by first | (with_reducible assumption) | assumption)
                    have q5 : x3_1 < (a0.size : Int) := of_decide_eq_true (by first | (with_reducible assumption) | assumption)
                    have hx5 := bt_at a0 x3_1
                    replace p5 := eq_true p5
                    replace q5 := eq_true q5
                    go_wp2_with (first | (go_at_call 74; (with_reducible refine (decanterref03_Digit.calls (wrap64 (bt a0 x3_1)) false _ A13.out).mono ?_); rintro e w' ⟨rfl, ⟨nd, rfl⟩⟩))
                    go_ret
                    exact ⟨by first | rfl | (simp; done) | (simp [*]; done), by repeat (first | exact Drawn0.refl _ | apply Drawn0.step)⟩
          · rw [if_neg c4] at H
            exact absurd H (by simp)
        · rw [if_neg c3] at H
          have c3b0 : decide (x3_1 < (a0.size : Int)) = false := decide_eq_false c3
          clear c3
          obtain rfl := Option.some.inj H
          go_wp2
          go_ret
          exact ⟨by first | rfl | (simp; done) | (simp [*]; done), by repeat (first | exact Drawn0.refl _ | apply Drawn0.step)⟩

end Go.Proofs.YteahlapoeiikoaaDoor.P


-- Printed by a program of this session (wip/myprint.py over the kit's print).
namespace Go.Proofs.YteahlapoeiikoaaDoor.P
open Go.RowKit Go.Proofs.YteahlapoeiikoaaDoorW.PrintWords Go.Proofs.YteahlapoeiikoaaDoorW.PrintLast Go.Proofs.YteahlapoeiikoaaDoorW.PrintMore
attribute [local go_sem] max2_int min2_int max_two min_two max_three min_three max_four min_four   -- for this text's walks alone
set_option linter.unusedVariables false
set_option linter.unusedSimpArgs false

/-! ### decanterref06_Get: function 82 -/
def decanterref06_Get.l0 : Nat → List (S98) → ByteArray → Int → Option (ByteArray × Bool)
  | 0, _, _, _ => none
  | k + 1, x0, x1, x6 => if x6 < (x0.length : Int) then (if 0 ≤ x6 then (if ((rd_T98 x0 x6).f0).toList = x1.toList then (some ((rd_T98 x0 x6).f1, true)) else (decanterref06_Get.l0 k x0 x1 (wrap64 (x6 + 1)))) else (none)) else (some ((⟨#[]⟩ : ByteArray), false))
def decanterref06_Get.f (k : Nat) (l0 : List (S98)) (a1 : ByteArray) : Option (ByteArray × Bool) := decanterref06_Get.l0 k l0 a1 0
set_option maxHeartbeats 8000000 in
set_option maxRecDepth 100000 in
theorem decanterref06_Get.calls (k : Nat) (A0 : Option Addr) (c0 : Nat) (l0 : List (S98)) (a1 : ByteArray) (r1 : ByteArray) (r2 : Bool) (w : World) (hr0 : Kd.C k98 w A0 l0.length l0) (hc0 : l0.length ≤ c0) (h : decanterref06_Get.f k l0 a1 = some (r1, r2)) :
    Calls Tryd.prog 82 #[.slice A0 l0.length c0, .string a1] w fun e w' => e = .returned (.tuple #[.string r1, .bool r2]) ∧ Drawn0 w w' := by
  have HR0 := Aside0.mk hr0
  have HC0 := Aside0.mk hc0
  clear hr0 hc0
  have H : (decanterref06_Get.l0 k l0 a1 0) = some (r1, r2) := h
  clear h
  have H' := Aside0.mk H
  clear H
  go_enter Tryd.func82, Tryd.ntmps82
  go_wp2
  go_loopg [6] k (fun kq v6 w' => ∃ (x6_1 : Int), v6 = .int .i64 x6_1 ∧ Aside0 (decanterref06_Get.l0 kq l0 a1 x6_1 = some (r1, r2)) ∧ Aside0 (kq ≤ k) ∧ Drawn0 w w')
  case atStart => exact ⟨(0), (by first | rfl | (simp; done) | (simp [*]; done) | (simp; generalize ByteArray.toList _ = l_; cases l_ <;> rfl)), H', ⟨Nat.le_refl _⟩, by repeat (first | exact Drawn0.refl _ | apply Drawn0.step)⟩
  case round =>
    clear H'
    try clear p2
    obtain ⟨x6_1, rfl, HA, HK1, ⟨m1, rfl⟩⟩ := hrel
    cases gk with
    | zero => exact absurd HA.out (by simp [decanterref06_Get.l0])
    | succ k1 =>
      have H := HA.out
      clear HA
      simp only [decanterref06_Get.l0] at H
      by_cases c3 : x6_1 < (l0.length : Int)
      · rw [if_pos c3] at H
        have c3b0 : decide (x6_1 < (l0.length : Int)) = true := decide_eq_true c3
        clear c3
        by_cases c4 : 0 ≤ x6_1
        · rw [if_pos c4] at H
          have c4b0 : decide (0 ≤ x6_1) = true := decide_eq_true c4
          clear c4
          by_cases c5 : ((rd_T98 l0 x6_1).f0).toList = a1.toList
          · rw [if_pos c5] at H
            have c5b0 : (((rd_T98 l0 x6_1).f0).toList == a1.toList) = true := beq_iff_eq.mpr c5
            have c5b1 : (((rd_T98 l0 x6_1).f0).toList != a1.toList) = false := bne_eq_false_iff_eq.mpr c5
            clear c5
            simp only [Option.some.injEq, Prod.mk.injEq] at H
            obtain ⟨rfl, rfl⟩ := H
            have p256 : 0 ≤ (x6_1 : Int) := of_decide_eq_true (by first | (with_reducible assumption) | assumption)
            have q256 : x6_1 < (l0.length : Int) := of_decide_eq_true (by first | (with_reducible assumption) | assumption)
            obtain ⟨ad256, e256, hx256_0, hx256_1⟩ := at_T98 HR0.out x6_1 p256 q256
            cases e256
            replace p256 := eq_true p256
            replace q256 := eq_true q256
            have p257 : 0 ≤ (x6_1 : Int) := of_decide_eq_true (by first | (with_reducible assumption) | assumption)
            have q257 : x6_1 < (l0.length : Int) := of_decide_eq_true (by first | (with_reducible assumption) | assumption)
            obtain ⟨ad257, e257, hx257_0, hx257_1⟩ := at_T98 HR0.out x6_1 p257 q257
            obtain rfl : ad256 = ad257 := (by injection e257)
            replace p257 := eq_true p257
            replace q257 := eq_true q257
            go_wp2
            go_ret2
            exact ⟨by first | rfl | (simp; done) | (simp [*]; done), by repeat (first | exact Drawn0.refl _ | apply Drawn0.step)⟩
          · rw [if_neg c5] at H
            have c5b0 : (((rd_T98 l0 x6_1).f0).toList == a1.toList) = false := beq_eq_false_iff_ne.mpr c5
            have c5b1 : (((rd_T98 l0 x6_1).f0).toList != a1.toList) = true := bne_iff_ne.mpr c5
            have H' := Aside0.mk H
            clear H
            have p256 : 0 ≤ (x6_1 : Int) := of_decide_eq_true (by first | (with_reducible assumption) | assumption)
            have q256 : x6_1 < (l0.length : Int) := of_decide_eq_true (by first | (with_reducible assumption) | assumption)
            obtain ⟨ad256, e256, hx256_0, hx256_1⟩ := at_T98 HR0.out x6_1 p256 q256
            cases e256
            replace p256 := eq_true p256
            replace q256 := eq_true q256
            go_wp2
            go_roundg k1
            case measure => have := HK1.out; omega
            case rel => exact ⟨(wrap64 (x6_1 + 1)), (by first | rfl | (simp; done) | (simp [*]; done)), H', ⟨by have := HK1.out; omega⟩, by repeat (first | exact Drawn0.refl _ | apply Drawn0.step)⟩
        · rw [if_neg c4] at H
          exact absurd H (by simp)
      · rw [if_neg c3] at H
        have c3b0 : decide (x6_1 < (l0.length : Int)) = false := decide_eq_false c3
        clear c3
        simp only [Option.some.injEq, Prod.mk.injEq] at H
        obtain ⟨rfl, rfl⟩ := H
        go_wp2
        go_ret2
        exact ⟨by first | rfl | (simp; done) | (simp [*]; done), by repeat (first | exact Drawn0.refl _ | apply Drawn0.step)⟩

end Go.Proofs.YteahlapoeiikoaaDoor.P
