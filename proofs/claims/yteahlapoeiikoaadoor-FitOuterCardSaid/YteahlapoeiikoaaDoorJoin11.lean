/- Several texts, one behind the other. -/
import Derived.Test.YteahlapoeiikoaaDoorProg
import Derived.Below
import Derived.Deep.Draws
import Derived.Deep.AppendLies
import Derived.Maps.AppendAt
import Derived.OwnWalk
import Derived.Laws.BytesArg
import Derived.Laws.MakeOwn
import Derived.Laws.OwnMore
import Derived.Deep.OwnRows
import Derived.Tactics
import Derived.Lib.ConvBytes
import Derived.Laws.Slices
import Derived.WalkKit
import Derived.KernelRfl
import Derived.RowKit3
import Derived.Deep.LoopGhost
import Derived.Deep.QuietTactic
import Derived.BigQuiet
import Derived.WideLaws
import Derived.Deep.DeepCutAuto
import Derived.Deep.CutBlock
import Derived.Deep.RegionHeld3
import Derived.Laws.Rows
import Derived.Lib.AppendStr
import Derived.ArgAppend
import Derived.Laws.IdiomCopy
import Derived.OrdersHeld
import Derived.Laws.BitsLemmas
import Derived.RowKit
import Derived.Test.YteahlapoeiikoaaDoorGW
import Derived.Test.YteahlapoeiikoaaDoorWWords
import Derived.Test.YteahlapoeiikoaaDoorJoin1
import Derived.Test.YteahlapoeiikoaaDoorJoin2
import Derived.Lib.Strings
import Derived.Test.YteahlapoeiikoaaDoorKindsC


-- Printed by a program of this session (wip/myprint.py over the kit's print).
namespace Go.Proofs.YteahlapoeiikoaaDoor.P
open Go.RowKit Go.Proofs.YteahlapoeiikoaaDoorW.PrintWords Go.Proofs.YteahlapoeiikoaaDoorW.PrintLast Go.Proofs.YteahlapoeiikoaaDoorW.PrintMore
attribute [local go_sem] max2_int min2_int max_two min_two max_three min_three max_four min_four   -- for this text's walks alone
set_option linter.unusedVariables false
set_option linter.unusedSimpArgs false



def errW : Option Int → Value
  | none => .nilIface
  | some c => .iface 0 (.int .i64 c)
theorem errW_none : errW none = .nilIface := rfl
theorem errW_some (c : Int) : errW (some c) = .iface 0 (.int .i64 c) := rfl

theorem info9 : (Tryd.prog.info? 9).map (fun i => (i.zero, i.size, i.bytes)) = some (some (.string ⟨#[]⟩), 1, 16) := by kernel_rfl
theorem info52 : (Tryd.prog.info? 52).map (fun i => (i.zero, i.size, i.bytes)) = some (some (.agg #[(.string ⟨#[]⟩), (.slice none 0 0), (.string ⟨#[]⟩), (.slice none 0 0)]), 4, 80) := by kernel_rfl
theorem info67 : (Tryd.prog.info? 67).map (fun i => (i.zero, i.size, i.bytes)) = some (some (.agg #[(.string ⟨#[]⟩), (.slice none 0 0)]), 2, 40) := by kernel_rfl
theorem info99 : (Tryd.prog.info? 99).map (fun i => (i.zero, i.size, i.bytes)) = some (some (.agg #[(.string ⟨#[]⟩), (.string ⟨#[]⟩)]), 2, 32) := by kernel_rfl
-- the values' own types
def rd_L3 (xs : List (List ByteArray)) (i : Int) : (List ByteArray) := xs.getD i.toNat ([] : List ByteArray)
theorem at_L3 {w : World} {A : Option Addr} {n : Nat} {xs : List (List ByteArray)} (h : Kd.C (Kd.slice 9 Kd.string) w A n xs) (i : Int) (h0 : 0 ≤ i) (h1 : i < n) : ∃ ad A0 c0, A = some ad ∧ w.cell? (ad.add i.toNat) = some (.slice A0 (rd_L3 xs i).length c0) ∧ (rd_L3 xs i).length ≤ c0 ∧ Kd.string.C w A0 (rd_L3 xs i).length (rd_L3 xs i) := by
  obtain ⟨ad, c, e, _, hK, hc0⟩ := Kd.C_get h ([] : List ByteArray) i h0 h1
  have hc : ∀ j u, c[j]? = some u → w.cell? (ad.add (i.toNat * 1 + j)) = some u := hc0
  obtain ⟨A0, c0, rfl, l0, g0⟩ := hK
  exact ⟨ad, A0, c0, e, by have hq := hc 0 _ rfl; rwa [Nat.mul_one, Nat.add_zero] at hq, l0, g0⟩

/-! #### struct type 98 -/
structure S98 where
  f0 : ByteArray
  f1 : ByteArray
def z98 : S98 := ⟨(⟨#[]⟩ : ByteArray), (⟨#[]⟩ : ByteArray)⟩
def k98 : Kd S98 := Kd.iso (Kd.pair Kd.string Kd.string) (fun x : S98 => (x.f0, x.f1))
theorem k98_open {w : World} {x : S98} {cs : List Value} (h : k98.K w x cs) : cs = [.string x.f0, .string x.f1] := by
  obtain ⟨_, _, rfl, rfl, rfl⟩ := h
  exact rfl
theorem k98_openM {w : World} {base : Nat} {ok : Nat → Prop} {x : S98} {cs : List Value} (h : k98.M w base ok x cs) : cs = [.string x.f0, .string x.f1] := by
  obtain ⟨_, _, rfl, rfl, rfl⟩ := h
  exact rfl
theorem k98_mk (w : World) (x : S98)  : k98.K w x [.string x.f0, .string x.f1] := ⟨[.string x.f0], [.string x.f1], rfl, rfl, rfl⟩
theorem k98_mkM (w : World) (base : Nat) (ok : Nat → Prop) (x : S98)  : k98.M w base ok x [.string x.f0, .string x.f1] := ⟨[.string x.f0], [.string x.f1], rfl, rfl, rfl⟩
theorem k98_mkF (W : World) (ok : Nat → Prop) (x : S98) : Kd.FK k98 W ok x [.string x.f0, .string x.f1] := fun W2 _ => k98_mk W2 x
def rd_T98 (xs : List S98) (i : Int) : S98 := xs.getD i.toNat z98
theorem at_T98 {w : World} {A : Option Addr} {n : Nat} {xs : List S98} (h : Kd.C k98 w A n xs) (i : Int) (h0 : 0 ≤ i) (h1 : i < n) : ∃ ad , A = some ad ∧ w.cell? (ad.add (i.toNat * 2)) = some (.string (rd_T98 xs i).f0) ∧ w.cell? ⟨(ad.add (i.toNat * 2)).block, (ad.add (i.toNat * 2)).off + 1, none⟩ = some (.string (rd_T98 xs i).f1) := by
  obtain ⟨ad, c, e, _, hK, hc0⟩ := Kd.C_get h z98 i h0 h1
  have hc : ∀ j u, c[j]? = some u → w.cell? (ad.add (i.toNat * 2 + j)) = some u := hc0
  obtain rfl := k98_open hK
  exact ⟨ad, e, hc 0 _ rfl, by rw [← add_field _ _ 1 (by omega)]; exact hc 1 _ rfl⟩

def rd_L5 (xs : List (List S98)) (i : Int) : (List S98) := xs.getD i.toNat ([] : List S98)
theorem at_L5 {w : World} {A : Option Addr} {n : Nat} {xs : List (List S98)} (h : Kd.C (Kd.slice 98 k98) w A n xs) (i : Int) (h0 : 0 ≤ i) (h1 : i < n) : ∃ ad A0 c0, A = some ad ∧ w.cell? (ad.add i.toNat) = some (.slice A0 (rd_L5 xs i).length c0) ∧ (rd_L5 xs i).length ≤ c0 ∧ k98.C w A0 (rd_L5 xs i).length (rd_L5 xs i) := by
  obtain ⟨ad, c, e, _, hK, hc0⟩ := Kd.C_get h ([] : List S98) i h0 h1
  have hc : ∀ j u, c[j]? = some u → w.cell? (ad.add (i.toNat * 1 + j)) = some u := hc0
  obtain ⟨A0, c0, rfl, l0, g0⟩ := hK
  exact ⟨ad, A0, c0, e, by have hq := hc 0 _ rfl; rwa [Nat.mul_one, Nat.add_zero] at hq, l0, g0⟩

/-! #### struct type 82, nested in itself -/
structure S82 where
  f0 : ByteArray
  f1 : (List S98)
  f2 : ByteArray
  f3 : (List S82)
def z82 : S82 := ⟨(⟨#[]⟩ : ByteArray), ([] : List S98), (⟨#[]⟩ : ByteArray), ([] : List S82)⟩
def F82 (d : Kd S82) : Kd S82 := Kd.iso (Kd.pair Kd.string (Kd.pair (Kd.slice 98 k98) (Kd.pair Kd.string (Kd.slice 82 d)))) (fun x : S82 => (x.f0, x.f1, x.f2, x.f3))
theorem mono82 : Kd.Mono F82 := Kd.mono_iso _ (Kd.mono_pair (Kd.mono_const _) (Kd.mono_pair (Kd.mono_const _) (Kd.mono_pair (Kd.mono_const _) (Kd.mono_slice 82 Kd.mono_id))))
theorem sub82 : Kd.Sub F82 [82, 98] := Kd.sub_iso _ (Kd.sub_pair (Kd.sub_const _ (by decide)) (Kd.sub_pair (Kd.sub_const _ (by decide)) (Kd.sub_pair (Kd.sub_const _ (by decide)) (Kd.sub_slice 82 (by decide) Kd.sub_id))))
theorem sz82 : ∀ n, (Kd.upto F82 4 [82, 98] n).sz = 4 := Kd.upto_sz (fun _ => rfl)
def k82 : Kd S82 := Kd.fix F82 4 [82, 98] sz82 (Kd.upto_E sub82)
theorem k82_open {w : World} {x : S82} {cs : List Value} (h : k82.K w x cs) : ∃ A1 c1 A3 c3, cs = [.string x.f0, .slice A1 x.f1.length c1, .string x.f2, .slice A3 x.f3.length c3] ∧ x.f1.length ≤ c1 ∧ k98.C w A1 x.f1.length x.f1 ∧ x.f3.length ≤ c3 ∧ k82.C w A3 x.f3.length x.f3 := by
  obtain ⟨n, h⟩ := h
  cases n with
  | zero => exact h.elim
  | succ n =>
    obtain ⟨_, _, rfl, rfl, ⟨_, _, rfl, ⟨A1, c1, rfl, l1, g1⟩, ⟨_, _, rfl, rfl, ⟨A3, c3, rfl, l3, g3⟩⟩⟩⟩ := h
    exact ⟨A1, c1, A3, c3, rfl, l1, g1, l3, Kd.fix_C g3⟩
theorem k82_openM {w : World} {base : Nat} {ok : Nat → Prop} {x : S82} {cs : List Value} (h : k82.M w base ok x cs) : ∃ v1 v3, cs = [.string x.f0, v1, .string x.f2, v3] ∧ k98.R 98 w base ok v1 x.f1 ∧ k82.R 82 w base ok v3 x.f3 := by
  obtain ⟨n, h⟩ := h
  cases n with
  | zero => exact h.elim
  | succ n =>
    obtain ⟨_, _, rfl, rfl, ⟨_, _, rfl, ⟨v1, rfl, g1⟩, ⟨_, _, rfl, rfl, ⟨v3, rfl, g3⟩⟩⟩⟩ := h
    exact ⟨v1, v3, rfl, g1, Kd.fix_R g3⟩
theorem k82_mk (w : World) (x : S82) {A1 : Option Addr} {c1 : Nat} (l1 : x.f1.length ≤ c1) (g1 : k98.C w A1 x.f1.length x.f1) {A3 : Option Addr} {c3 : Nat} (l3 : x.f3.length ≤ c3) (g3 : k82.C w A3 x.f3.length x.f3) : k82.K w x [.string x.f0, .slice A1 x.f1.length c1, .string x.f2, .slice A3 x.f3.length c3] := by
  obtain ⟨n3, q3⟩ := Kd.fix_C_back mono82 g3
  have r3 := Kd.upto_C_le mono82 sz82 (show n3 ≤ n3 by omega) q3
  exact ⟨n3 + 1, ⟨[.string x.f0], [.slice A1 x.f1.length c1, .string x.f2, .slice A3 x.f3.length c3], rfl, rfl, ⟨[.slice A1 x.f1.length c1], [.string x.f2, .slice A3 x.f3.length c3], rfl, ⟨A1, c1, rfl, l1, g1⟩, ⟨[.string x.f2], [.slice A3 x.f3.length c3], rfl, rfl, ⟨A3, c3, rfl, l3, r3⟩⟩⟩⟩⟩
theorem k82_mkM (w : World) (base : Nat) (ok : Nat → Prop) (x : S82) {v1 : Value} (g1 : k98.R 98 w base ok v1 x.f1) {v3 : Value} (g3 : k82.R 82 w base ok v3 x.f3) : k82.M w base ok x [.string x.f0, v1, .string x.f2, v3] := by
  obtain ⟨n3, q3⟩ := Kd.fix_R_back mono82 g3
  have r3 := Kd.upto_R_le mono82 sz82 (show n3 ≤ n3 by omega) q3
  exact ⟨n3 + 1, ⟨[.string x.f0], [v1, .string x.f2, v3], rfl, rfl, ⟨[v1], [.string x.f2, v3], rfl, ⟨v1, rfl, g1⟩, ⟨[.string x.f2], [v3], rfl, rfl, ⟨v3, rfl, r3⟩⟩⟩⟩⟩
theorem k82_openF {W : World} {ok : Nat → Prop} {x : S82} {cs : List Value} (h : Kd.FK k82 W ok x cs) : ∃ A1 c1 A3 c3, cs = [.string x.f0, .slice A1 x.f1.length c1, .string x.f2, .slice A3 x.f3.length c3] ∧ x.f1.length ≤ c1 ∧ Kd.F k98 W ok A1 x.f1.length x.f1 ∧ x.f3.length ≤ c3 ∧ Kd.F k82 W ok A3 x.f3.length x.f3 := by
  obtain ⟨A1, c1, A3, c3, rfl, l1, _, l3, _⟩ := k82_open (Kd.FK_now h)
  exact ⟨A1, c1, A3, c3, rfl, l1, (fun W' hW => by obtain ⟨A1_, c1_, A3_, c3_, he, l1_, g1_, l3_, g3_⟩ := k82_open (h W' hW); injection (Option.some.inj (show some (Value.slice A1 x.f1.length c1) = some (Value.slice A1_ x.f1.length c1_) from congrArg (fun l => l[1]?) he)) with ha_ _ _; rw [ha_]; exact g1_), l3, (fun W' hW => by obtain ⟨A1_, c1_, A3_, c3_, he, l1_, g1_, l3_, g3_⟩ := k82_open (h W' hW); injection (Option.some.inj (show some (Value.slice A3 x.f3.length c3) = some (Value.slice A3_ x.f3.length c3_) from congrArg (fun l => l[3]?) he)) with ha_ _ _; rw [ha_]; exact g3_)⟩
theorem k82_mkF (W : World) (ok : Nat → Prop) (x : S82) {A1 : Option Addr} {c1 : Nat} (l1 : x.f1.length ≤ c1) (g1 : Kd.F k98 W ok A1 x.f1.length x.f1) {A3 : Option Addr} {c3 : Nat} (l3 : x.f3.length ≤ c3) (g3 : Kd.F k82 W ok A3 x.f3.length x.f3) : Kd.FK k82 W ok x [.string x.f0, .slice A1 x.f1.length c1, .string x.f2, .slice A3 x.f3.length c3] := fun W2 hW => k82_mk W2 x l1 (g1 W2 hW) l3 (g3 W2 hW)
def rd_T82 (xs : List S82) (i : Int) : S82 := xs.getD i.toNat z82
theorem at_T82 {w : World} {A : Option Addr} {n : Nat} {xs : List S82} (h : Kd.C k82 w A n xs) (i : Int) (h0 : 0 ≤ i) (h1 : i < n) : ∃ ad A1 c1 A3 c3, A = some ad ∧ w.cell? (ad.add (i.toNat * 4)) = some (.string (rd_T82 xs i).f0) ∧ w.cell? ⟨(ad.add (i.toNat * 4)).block, (ad.add (i.toNat * 4)).off + 1, none⟩ = some (.slice A1 (rd_T82 xs i).f1.length c1) ∧ w.cell? ⟨(ad.add (i.toNat * 4)).block, (ad.add (i.toNat * 4)).off + 2, none⟩ = some (.string (rd_T82 xs i).f2) ∧ w.cell? ⟨(ad.add (i.toNat * 4)).block, (ad.add (i.toNat * 4)).off + 3, none⟩ = some (.slice A3 (rd_T82 xs i).f3.length c3) ∧ (rd_T82 xs i).f1.length ≤ c1 ∧ k98.C w A1 (rd_T82 xs i).f1.length (rd_T82 xs i).f1 ∧ (rd_T82 xs i).f3.length ≤ c3 ∧ k82.C w A3 (rd_T82 xs i).f3.length (rd_T82 xs i).f3 := by
  obtain ⟨ad, c, e, _, hK, hc0⟩ := Kd.C_get h z82 i h0 h1
  have hc : ∀ j u, c[j]? = some u → w.cell? (ad.add (i.toNat * 4 + j)) = some u := hc0
  obtain ⟨A1, c1, A3, c3, rfl, l1, g1, l3, g3⟩ := k82_open hK
  exact ⟨ad, A1, c1, A3, c3, e, hc 0 _ rfl, by rw [← add_field _ _ 1 (by omega)]; exact hc 1 _ rfl, by rw [← add_field _ _ 2 (by omega)]; exact hc 2 _ rfl, by rw [← add_field _ _ 3 (by omega)]; exact hc 3 _ rfl, l1, g1, l3, g3⟩

/-! #### struct type 99 -/
structure S99 where
  f0 : ByteArray
  f1 : ByteArray
def z99 : S99 := ⟨(⟨#[]⟩ : ByteArray), (⟨#[]⟩ : ByteArray)⟩
def k99 : Kd S99 := Kd.iso (Kd.pair Kd.string Kd.string) (fun x : S99 => (x.f0, x.f1))
theorem k99_open {w : World} {x : S99} {cs : List Value} (h : k99.K w x cs) : cs = [.string x.f0, .string x.f1] := by
  obtain ⟨_, _, rfl, rfl, rfl⟩ := h
  exact rfl
theorem k99_openM {w : World} {base : Nat} {ok : Nat → Prop} {x : S99} {cs : List Value} (h : k99.M w base ok x cs) : cs = [.string x.f0, .string x.f1] := by
  obtain ⟨_, _, rfl, rfl, rfl⟩ := h
  exact rfl
theorem k99_mk (w : World) (x : S99)  : k99.K w x [.string x.f0, .string x.f1] := ⟨[.string x.f0], [.string x.f1], rfl, rfl, rfl⟩
theorem k99_mkM (w : World) (base : Nat) (ok : Nat → Prop) (x : S99)  : k99.M w base ok x [.string x.f0, .string x.f1] := ⟨[.string x.f0], [.string x.f1], rfl, rfl, rfl⟩
theorem k99_mkF (W : World) (ok : Nat → Prop) (x : S99) : Kd.FK k99 W ok x [.string x.f0, .string x.f1] := fun W2 _ => k99_mk W2 x
def rd_T99 (xs : List S99) (i : Int) : S99 := xs.getD i.toNat z99
theorem at_T99 {w : World} {A : Option Addr} {n : Nat} {xs : List S99} (h : Kd.C k99 w A n xs) (i : Int) (h0 : 0 ≤ i) (h1 : i < n) : ∃ ad , A = some ad ∧ w.cell? (ad.add (i.toNat * 2)) = some (.string (rd_T99 xs i).f0) ∧ w.cell? ⟨(ad.add (i.toNat * 2)).block, (ad.add (i.toNat * 2)).off + 1, none⟩ = some (.string (rd_T99 xs i).f1) := by
  obtain ⟨ad, c, e, _, hK, hc0⟩ := Kd.C_get h z99 i h0 h1
  have hc : ∀ j u, c[j]? = some u → w.cell? (ad.add (i.toNat * 2 + j)) = some u := hc0
  obtain rfl := k99_open hK
  exact ⟨ad, e, hc 0 _ rfl, by rw [← add_field _ _ 1 (by omega)]; exact hc 1 _ rfl⟩

def rd_L8 (xs : List (List S99)) (i : Int) : (List S99) := xs.getD i.toNat ([] : List S99)
theorem at_L8 {w : World} {A : Option Addr} {n : Nat} {xs : List (List S99)} (h : Kd.C (Kd.slice 99 k99) w A n xs) (i : Int) (h0 : 0 ≤ i) (h1 : i < n) : ∃ ad A0 c0, A = some ad ∧ w.cell? (ad.add i.toNat) = some (.slice A0 (rd_L8 xs i).length c0) ∧ (rd_L8 xs i).length ≤ c0 ∧ k99.C w A0 (rd_L8 xs i).length (rd_L8 xs i) := by
  obtain ⟨ad, c, e, _, hK, hc0⟩ := Kd.C_get h ([] : List S99) i h0 h1
  have hc : ∀ j u, c[j]? = some u → w.cell? (ad.add (i.toNat * 1 + j)) = some u := hc0
  obtain ⟨A0, c0, rfl, l0, g0⟩ := hK
  exact ⟨ad, A0, c0, e, by have hq := hc 0 _ rfl; rwa [Nat.mul_one, Nat.add_zero] at hq, l0, g0⟩

/-! #### struct type 52, nested in itself -/
structure S52 where
  f0 : ByteArray
  f1 : (List S99)
  f2 : ByteArray
  f3 : (List S52)
def z52 : S52 := ⟨(⟨#[]⟩ : ByteArray), ([] : List S99), (⟨#[]⟩ : ByteArray), ([] : List S52)⟩
def F52 (d : Kd S52) : Kd S52 := Kd.iso (Kd.pair Kd.string (Kd.pair (Kd.slice 99 k99) (Kd.pair Kd.string (Kd.slice 52 d)))) (fun x : S52 => (x.f0, x.f1, x.f2, x.f3))
theorem mono52 : Kd.Mono F52 := Kd.mono_iso _ (Kd.mono_pair (Kd.mono_const _) (Kd.mono_pair (Kd.mono_const _) (Kd.mono_pair (Kd.mono_const _) (Kd.mono_slice 52 Kd.mono_id))))
theorem sub52 : Kd.Sub F52 [52, 99] := Kd.sub_iso _ (Kd.sub_pair (Kd.sub_const _ (by decide)) (Kd.sub_pair (Kd.sub_const _ (by decide)) (Kd.sub_pair (Kd.sub_const _ (by decide)) (Kd.sub_slice 52 (by decide) Kd.sub_id))))
theorem sz52 : ∀ n, (Kd.upto F52 4 [52, 99] n).sz = 4 := Kd.upto_sz (fun _ => rfl)
def k52 : Kd S52 := Kd.fix F52 4 [52, 99] sz52 (Kd.upto_E sub52)
theorem k52_open {w : World} {x : S52} {cs : List Value} (h : k52.K w x cs) : ∃ A1 c1 A3 c3, cs = [.string x.f0, .slice A1 x.f1.length c1, .string x.f2, .slice A3 x.f3.length c3] ∧ x.f1.length ≤ c1 ∧ k99.C w A1 x.f1.length x.f1 ∧ x.f3.length ≤ c3 ∧ k52.C w A3 x.f3.length x.f3 := by
  obtain ⟨n, h⟩ := h
  cases n with
  | zero => exact h.elim
  | succ n =>
    obtain ⟨_, _, rfl, rfl, ⟨_, _, rfl, ⟨A1, c1, rfl, l1, g1⟩, ⟨_, _, rfl, rfl, ⟨A3, c3, rfl, l3, g3⟩⟩⟩⟩ := h
    exact ⟨A1, c1, A3, c3, rfl, l1, g1, l3, Kd.fix_C g3⟩
theorem k52_openM {w : World} {base : Nat} {ok : Nat → Prop} {x : S52} {cs : List Value} (h : k52.M w base ok x cs) : ∃ v1 v3, cs = [.string x.f0, v1, .string x.f2, v3] ∧ k99.R 99 w base ok v1 x.f1 ∧ k52.R 52 w base ok v3 x.f3 := by
  obtain ⟨n, h⟩ := h
  cases n with
  | zero => exact h.elim
  | succ n =>
    obtain ⟨_, _, rfl, rfl, ⟨_, _, rfl, ⟨v1, rfl, g1⟩, ⟨_, _, rfl, rfl, ⟨v3, rfl, g3⟩⟩⟩⟩ := h
    exact ⟨v1, v3, rfl, g1, Kd.fix_R g3⟩
theorem k52_mk (w : World) (x : S52) {A1 : Option Addr} {c1 : Nat} (l1 : x.f1.length ≤ c1) (g1 : k99.C w A1 x.f1.length x.f1) {A3 : Option Addr} {c3 : Nat} (l3 : x.f3.length ≤ c3) (g3 : k52.C w A3 x.f3.length x.f3) : k52.K w x [.string x.f0, .slice A1 x.f1.length c1, .string x.f2, .slice A3 x.f3.length c3] := by
  obtain ⟨n3, q3⟩ := Kd.fix_C_back mono52 g3
  have r3 := Kd.upto_C_le mono52 sz52 (show n3 ≤ n3 by omega) q3
  exact ⟨n3 + 1, ⟨[.string x.f0], [.slice A1 x.f1.length c1, .string x.f2, .slice A3 x.f3.length c3], rfl, rfl, ⟨[.slice A1 x.f1.length c1], [.string x.f2, .slice A3 x.f3.length c3], rfl, ⟨A1, c1, rfl, l1, g1⟩, ⟨[.string x.f2], [.slice A3 x.f3.length c3], rfl, rfl, ⟨A3, c3, rfl, l3, r3⟩⟩⟩⟩⟩
theorem k52_mkM (w : World) (base : Nat) (ok : Nat → Prop) (x : S52) {v1 : Value} (g1 : k99.R 99 w base ok v1 x.f1) {v3 : Value} (g3 : k52.R 52 w base ok v3 x.f3) : k52.M w base ok x [.string x.f0, v1, .string x.f2, v3] := by
  obtain ⟨n3, q3⟩ := Kd.fix_R_back mono52 g3
  have r3 := Kd.upto_R_le mono52 sz52 (show n3 ≤ n3 by omega) q3
  exact ⟨n3 + 1, ⟨[.string x.f0], [v1, .string x.f2, v3], rfl, rfl, ⟨[v1], [.string x.f2, v3], rfl, ⟨v1, rfl, g1⟩, ⟨[.string x.f2], [v3], rfl, rfl, ⟨v3, rfl, r3⟩⟩⟩⟩⟩
theorem k52_openF {W : World} {ok : Nat → Prop} {x : S52} {cs : List Value} (h : Kd.FK k52 W ok x cs) : ∃ A1 c1 A3 c3, cs = [.string x.f0, .slice A1 x.f1.length c1, .string x.f2, .slice A3 x.f3.length c3] ∧ x.f1.length ≤ c1 ∧ Kd.F k99 W ok A1 x.f1.length x.f1 ∧ x.f3.length ≤ c3 ∧ Kd.F k52 W ok A3 x.f3.length x.f3 := by
  obtain ⟨A1, c1, A3, c3, rfl, l1, _, l3, _⟩ := k52_open (Kd.FK_now h)
  exact ⟨A1, c1, A3, c3, rfl, l1, (fun W' hW => by obtain ⟨A1_, c1_, A3_, c3_, he, l1_, g1_, l3_, g3_⟩ := k52_open (h W' hW); injection (Option.some.inj (show some (Value.slice A1 x.f1.length c1) = some (Value.slice A1_ x.f1.length c1_) from congrArg (fun l => l[1]?) he)) with ha_ _ _; rw [ha_]; exact g1_), l3, (fun W' hW => by obtain ⟨A1_, c1_, A3_, c3_, he, l1_, g1_, l3_, g3_⟩ := k52_open (h W' hW); injection (Option.some.inj (show some (Value.slice A3 x.f3.length c3) = some (Value.slice A3_ x.f3.length c3_) from congrArg (fun l => l[3]?) he)) with ha_ _ _; rw [ha_]; exact g3_)⟩
theorem k52_mkF (W : World) (ok : Nat → Prop) (x : S52) {A1 : Option Addr} {c1 : Nat} (l1 : x.f1.length ≤ c1) (g1 : Kd.F k99 W ok A1 x.f1.length x.f1) {A3 : Option Addr} {c3 : Nat} (l3 : x.f3.length ≤ c3) (g3 : Kd.F k52 W ok A3 x.f3.length x.f3) : Kd.FK k52 W ok x [.string x.f0, .slice A1 x.f1.length c1, .string x.f2, .slice A3 x.f3.length c3] := fun W2 hW => k52_mk W2 x l1 (g1 W2 hW) l3 (g3 W2 hW)
def rd_T52 (xs : List S52) (i : Int) : S52 := xs.getD i.toNat z52
theorem at_T52 {w : World} {A : Option Addr} {n : Nat} {xs : List S52} (h : Kd.C k52 w A n xs) (i : Int) (h0 : 0 ≤ i) (h1 : i < n) : ∃ ad A1 c1 A3 c3, A = some ad ∧ w.cell? (ad.add (i.toNat * 4)) = some (.string (rd_T52 xs i).f0) ∧ w.cell? ⟨(ad.add (i.toNat * 4)).block, (ad.add (i.toNat * 4)).off + 1, none⟩ = some (.slice A1 (rd_T52 xs i).f1.length c1) ∧ w.cell? ⟨(ad.add (i.toNat * 4)).block, (ad.add (i.toNat * 4)).off + 2, none⟩ = some (.string (rd_T52 xs i).f2) ∧ w.cell? ⟨(ad.add (i.toNat * 4)).block, (ad.add (i.toNat * 4)).off + 3, none⟩ = some (.slice A3 (rd_T52 xs i).f3.length c3) ∧ (rd_T52 xs i).f1.length ≤ c1 ∧ k99.C w A1 (rd_T52 xs i).f1.length (rd_T52 xs i).f1 ∧ (rd_T52 xs i).f3.length ≤ c3 ∧ k52.C w A3 (rd_T52 xs i).f3.length (rd_T52 xs i).f3 := by
  obtain ⟨ad, c, e, _, hK, hc0⟩ := Kd.C_get h z52 i h0 h1
  have hc : ∀ j u, c[j]? = some u → w.cell? (ad.add (i.toNat * 4 + j)) = some u := hc0
  obtain ⟨A1, c1, A3, c3, rfl, l1, g1, l3, g3⟩ := k52_open hK
  exact ⟨ad, A1, c1, A3, c3, e, hc 0 _ rfl, by rw [← add_field _ _ 1 (by omega)]; exact hc 1 _ rfl, by rw [← add_field _ _ 2 (by omega)]; exact hc 2 _ rfl, by rw [← add_field _ _ 3 (by omega)]; exact hc 3 _ rfl, l1, g1, l3, g3⟩

/-! #### struct type 67 -/
structure S67 where
  f0 : ByteArray
  f1 : (List ByteArray)
def z67 : S67 := ⟨(⟨#[]⟩ : ByteArray), ([] : List ByteArray)⟩
def k67 : Kd S67 := Kd.iso (Kd.pair Kd.string (Kd.slice 9 Kd.string)) (fun x : S67 => (x.f0, x.f1))
theorem k67_open {w : World} {x : S67} {cs : List Value} (h : k67.K w x cs) : ∃ A1 c1, cs = [.string x.f0, .slice A1 x.f1.length c1] ∧ x.f1.length ≤ c1 ∧ Kd.string.C w A1 x.f1.length x.f1 := by
  obtain ⟨_, _, rfl, rfl, ⟨A1, c1, rfl, l1, g1⟩⟩ := h
  exact ⟨A1, c1, rfl, l1, g1⟩
theorem k67_openM {w : World} {base : Nat} {ok : Nat → Prop} {x : S67} {cs : List Value} (h : k67.M w base ok x cs) : ∃ v1, cs = [.string x.f0, v1] ∧ Kd.string.R 9 w base ok v1 x.f1 := by
  obtain ⟨_, _, rfl, rfl, ⟨v1, rfl, g1⟩⟩ := h
  exact ⟨v1, rfl, g1⟩
theorem k67_mk (w : World) (x : S67) {A1 : Option Addr} {c1 : Nat} (l1 : x.f1.length ≤ c1) (g1 : Kd.string.C w A1 x.f1.length x.f1) : k67.K w x [.string x.f0, .slice A1 x.f1.length c1] := ⟨[.string x.f0], [.slice A1 x.f1.length c1], rfl, rfl, ⟨A1, c1, rfl, l1, g1⟩⟩
theorem k67_mkM (w : World) (base : Nat) (ok : Nat → Prop) (x : S67) {v1 : Value} (g1 : Kd.string.R 9 w base ok v1 x.f1) : k67.M w base ok x [.string x.f0, v1] := ⟨[.string x.f0], [v1], rfl, rfl, ⟨v1, rfl, g1⟩⟩
theorem k67_openF {W : World} {ok : Nat → Prop} {x : S67} {cs : List Value} (h : Kd.FK k67 W ok x cs) : ∃ A1 c1, cs = [.string x.f0, .slice A1 x.f1.length c1] ∧ x.f1.length ≤ c1 ∧ Kd.F Kd.string W ok A1 x.f1.length x.f1 := by
  obtain ⟨A1, c1, rfl, l1, _⟩ := k67_open (Kd.FK_now h)
  exact ⟨A1, c1, rfl, l1, (fun W' hW => by obtain ⟨A1_, c1_, he, l1_, g1_⟩ := k67_open (h W' hW); injection (Option.some.inj (show some (Value.slice A1 x.f1.length c1) = some (Value.slice A1_ x.f1.length c1_) from congrArg (fun l => l[1]?) he)) with ha_ _ _; rw [ha_]; exact g1_)⟩
theorem k67_mkF (W : World) (ok : Nat → Prop) (x : S67) {A1 : Option Addr} {c1 : Nat} (l1 : x.f1.length ≤ c1) (g1 : Kd.F Kd.string W ok A1 x.f1.length x.f1) : Kd.FK k67 W ok x [.string x.f0, .slice A1 x.f1.length c1] := fun W2 hW => k67_mk W2 x l1 (g1 W2 hW)
def rd_T67 (xs : List S67) (i : Int) : S67 := xs.getD i.toNat z67
theorem at_T67 {w : World} {A : Option Addr} {n : Nat} {xs : List S67} (h : Kd.C k67 w A n xs) (i : Int) (h0 : 0 ≤ i) (h1 : i < n) : ∃ ad A1 c1, A = some ad ∧ w.cell? (ad.add (i.toNat * 2)) = some (.string (rd_T67 xs i).f0) ∧ w.cell? ⟨(ad.add (i.toNat * 2)).block, (ad.add (i.toNat * 2)).off + 1, none⟩ = some (.slice A1 (rd_T67 xs i).f1.length c1) ∧ (rd_T67 xs i).f1.length ≤ c1 ∧ Kd.string.C w A1 (rd_T67 xs i).f1.length (rd_T67 xs i).f1 := by
  obtain ⟨ad, c, e, _, hK, hc0⟩ := Kd.C_get h z67 i h0 h1
  have hc : ∀ j u, c[j]? = some u → w.cell? (ad.add (i.toNat * 2 + j)) = some u := hc0
  obtain ⟨A1, c1, rfl, l1, g1⟩ := k67_open hK
  exact ⟨ad, A1, c1, e, hc 0 _ rfl, by rw [← add_field _ _ 1 (by omega)]; exact hc 1 _ rfl, l1, g1⟩

/-! #### struct type 68 -/
structure S68 where
  f0 : ByteArray
  f1 : (List ByteArray)
def z68 : S68 := ⟨(⟨#[]⟩ : ByteArray), ([] : List ByteArray)⟩
def k68 : Kd S68 := Kd.iso (Kd.pair Kd.string (Kd.slice 9 Kd.string)) (fun x : S68 => (x.f0, x.f1))
theorem k68_open {w : World} {x : S68} {cs : List Value} (h : k68.K w x cs) : ∃ A1 c1, cs = [.string x.f0, .slice A1 x.f1.length c1] ∧ x.f1.length ≤ c1 ∧ Kd.string.C w A1 x.f1.length x.f1 := by
  obtain ⟨_, _, rfl, rfl, ⟨A1, c1, rfl, l1, g1⟩⟩ := h
  exact ⟨A1, c1, rfl, l1, g1⟩
theorem k68_openM {w : World} {base : Nat} {ok : Nat → Prop} {x : S68} {cs : List Value} (h : k68.M w base ok x cs) : ∃ v1, cs = [.string x.f0, v1] ∧ Kd.string.R 9 w base ok v1 x.f1 := by
  obtain ⟨_, _, rfl, rfl, ⟨v1, rfl, g1⟩⟩ := h
  exact ⟨v1, rfl, g1⟩
theorem k68_mk (w : World) (x : S68) {A1 : Option Addr} {c1 : Nat} (l1 : x.f1.length ≤ c1) (g1 : Kd.string.C w A1 x.f1.length x.f1) : k68.K w x [.string x.f0, .slice A1 x.f1.length c1] := ⟨[.string x.f0], [.slice A1 x.f1.length c1], rfl, rfl, ⟨A1, c1, rfl, l1, g1⟩⟩
theorem k68_mkM (w : World) (base : Nat) (ok : Nat → Prop) (x : S68) {v1 : Value} (g1 : Kd.string.R 9 w base ok v1 x.f1) : k68.M w base ok x [.string x.f0, v1] := ⟨[.string x.f0], [v1], rfl, rfl, ⟨v1, rfl, g1⟩⟩
theorem k68_openF {W : World} {ok : Nat → Prop} {x : S68} {cs : List Value} (h : Kd.FK k68 W ok x cs) : ∃ A1 c1, cs = [.string x.f0, .slice A1 x.f1.length c1] ∧ x.f1.length ≤ c1 ∧ Kd.F Kd.string W ok A1 x.f1.length x.f1 := by
  obtain ⟨A1, c1, rfl, l1, _⟩ := k68_open (Kd.FK_now h)
  exact ⟨A1, c1, rfl, l1, (fun W' hW => by obtain ⟨A1_, c1_, he, l1_, g1_⟩ := k68_open (h W' hW); injection (Option.some.inj (show some (Value.slice A1 x.f1.length c1) = some (Value.slice A1_ x.f1.length c1_) from congrArg (fun l => l[1]?) he)) with ha_ _ _; rw [ha_]; exact g1_)⟩
theorem k68_mkF (W : World) (ok : Nat → Prop) (x : S68) {A1 : Option Addr} {c1 : Nat} (l1 : x.f1.length ≤ c1) (g1 : Kd.F Kd.string W ok A1 x.f1.length x.f1) : Kd.FK k68 W ok x [.string x.f0, .slice A1 x.f1.length c1] := fun W2 hW => k68_mk W2 x l1 (g1 W2 hW)
def rd_T68 (xs : List S68) (i : Int) : S68 := xs.getD i.toNat z68
theorem at_T68 {w : World} {A : Option Addr} {n : Nat} {xs : List S68} (h : Kd.C k68 w A n xs) (i : Int) (h0 : 0 ≤ i) (h1 : i < n) : ∃ ad A1 c1, A = some ad ∧ w.cell? (ad.add (i.toNat * 2)) = some (.string (rd_T68 xs i).f0) ∧ w.cell? ⟨(ad.add (i.toNat * 2)).block, (ad.add (i.toNat * 2)).off + 1, none⟩ = some (.slice A1 (rd_T68 xs i).f1.length c1) ∧ (rd_T68 xs i).f1.length ≤ c1 ∧ Kd.string.C w A1 (rd_T68 xs i).f1.length (rd_T68 xs i).f1 := by
  obtain ⟨ad, c, e, _, hK, hc0⟩ := Kd.C_get h z68 i h0 h1
  have hc : ∀ j u, c[j]? = some u → w.cell? (ad.add (i.toNat * 2 + j)) = some u := hc0
  obtain ⟨A1, c1, rfl, l1, g1⟩ := k68_open hK
  exact ⟨ad, A1, c1, e, hc 0 _ rfl, by rw [← add_field _ _ 1 (by omega)]; exact hc 1 _ rfl, l1, g1⟩

end Go.Proofs.YteahlapoeiikoaaDoor.P


-- Printed by a program of this session (wip/myprint.py over the kit's print).
namespace Go.Proofs.YteahlapoeiikoaaDoor.P
open Go.RowKit Go.Proofs.YteahlapoeiikoaaDoorW.PrintWords Go.Proofs.YteahlapoeiikoaaDoorW.PrintLast Go.Proofs.YteahlapoeiikoaaDoorW.PrintMore
attribute [local go_sem] max2_int min2_int max_two min_two max_three min_three max_four min_four   -- for this text's walks alone
set_option linter.unusedVariables false
set_option linter.unusedSimpArgs false

/-! ### decanterref11_Lists: function 34 -/
def decanterref11_Lists.f  : Option (List ByteArray) := some (([(⟨#[32, 97, 114, 101, 97, 32, 98, 97, 115, 101, 32, 98, 97, 115, 101, 102, 111, 110, 116, 32, 98, 103, 115, 111, 117, 110, 100, 32, 98, 114, 32, 101, 109, 98, 101, 100, 32, 104, 114, 32, 105, 109, 103, 32, 105, 110, 112, 117, 116, 32, 107, 101, 121, 103, 101, 110, 32, 108, 105, 110, 107, 32, 109, 101, 116, 97, 32, 112, 97, 114, 97, 109, 32, 115, 111, 117, 114, 99, 101, 32, 116, 114, 97, 99, 107, 32, 119, 98, 114, 32]⟩ : ByteArray), (⟨#[32, 97, 100, 100, 114, 101, 115, 115, 32, 97, 114, 116, 105, 99, 108, 101, 32, 97, 115, 105, 100, 101, 32, 98, 108, 111, 99, 107, 113, 117, 111, 116, 101, 32, 99, 101, 110, 116, 101, 114, 32, 100, 100, 32, 100, 101, 116, 97, 105, 108, 115, 32, 100, 105, 97, 108, 111, 103, 32, 100, 105, 114, 32, 100, 105, 118, 32, 100, 108, 32, 100, 116, 32, 102, 105, 101, 108, 100, 115, 101, 116, 32, 102, 105, 103, 99, 97, 112, 116, 105, 111, 110, 32, 102, 105, 103, 117, 114, 101, 32, 102, 111, 111, 116, 101, 114, 32, 102, 111, 114, 109, 32, 104, 49, 32, 104, 50, 32, 104, 51, 32, 104, 52, 32, 104, 53, 32, 104, 54, 32, 104, 101, 97, 100, 101, 114, 32, 104, 103, 114, 111, 117, 112, 32, 104, 114, 32, 108, 105, 32, 108, 105, 115, 116, 105, 110, 103, 32, 109, 97, 105, 110, 32, 109, 101, 110, 117, 32, 110, 97, 118, 32, 111, 108, 32, 112, 32, 112, 108, 97, 105, 110, 116, 101, 120, 116, 32, 112, 114, 101, 32, 115, 101, 99, 116, 105, 111, 110, 32, 115, 117, 109, 109, 97, 114, 121, 32, 116, 97, 98, 108, 101, 32, 117, 108, 32, 120, 109, 112, 32]⟩ : ByteArray), (⟨#[32, 104, 49, 32, 104, 50, 32, 104, 51, 32, 104, 52, 32, 104, 53, 32, 104, 54, 32]⟩ : ByteArray), (⟨#[32, 97, 32, 98, 32, 98, 105, 103, 32, 99, 111, 100, 101, 32, 101, 109, 32, 102, 111, 110, 116, 32, 105, 32, 110, 111, 98, 114, 32, 115, 32, 115, 109, 97, 108, 108, 32, 115, 116, 114, 105, 107, 101, 32, 115, 116, 114, 111, 110, 103, 32, 116, 116, 32, 117, 32]⟩ : ByteArray), (⟨#[32, 97, 100, 100, 114, 101, 115, 115, 32, 97, 112, 112, 108, 101, 116, 32, 97, 114, 101, 97, 32, 97, 114, 116, 105, 99, 108, 101, 32, 97, 115, 105, 100, 101, 32, 98, 97, 115, 101, 32, 98, 97, 115, 101, 102, 111, 110, 116, 32, 98, 103, 115, 111, 117, 110, 100, 32, 98, 108, 111, 99, 107, 113, 117, 111, 116, 101, 32, 98, 114, 32, 98, 117, 116, 116, 111, 110, 32, 99, 101, 110, 116, 101, 114, 32, 100, 100, 32, 100, 101, 116, 97, 105, 108, 115, 32, 100, 105, 114, 32, 100, 105, 118, 32, 100, 108, 32, 100, 116, 32, 101, 109, 98, 101, 100, 32, 102, 105, 101, 108, 100, 115, 101, 116, 32, 102, 105, 103, 99, 97, 112, 116, 105, 111, 110, 32, 102, 105, 103, 117, 114, 101, 32, 102, 111, 111, 116, 101, 114, 32, 102, 111, 114, 109, 32, 104, 49, 32, 104, 50, 32, 104, 51, 32, 104, 52, 32, 104, 53, 32, 104, 54, 32, 104, 101, 97, 100, 101, 114, 32, 104, 103, 114, 111, 117, 112, 32, 104, 114, 32, 105, 102, 114, 97, 109, 101, 32, 105, 109, 103, 32, 105, 110, 112, 117, 116, 32, 107, 101, 121, 103, 101, 110, 32, 108, 105, 32, 108, 105, 110, 107, 32, 108, 105, 115, 116, 105, 110, 103, 32, 109, 97, 105, 110, 32, 109, 97, 114, 113, 117, 101, 101, 32, 109, 101, 110, 117, 32, 109, 101, 116, 97, 32, 110, 97, 118, 32, 110, 111, 101, 109, 98, 101, 100, 32, 110, 111, 102, 114, 97, 109, 101, 115, 32, 111, 98, 106, 101, 99, 116, 32, 111, 108, 32, 112, 32, 112, 97, 114, 97, 109, 32, 112, 108, 97, 105, 110, 116, 101, 120, 116, 32, 112, 114, 101, 32, 115, 99, 114, 105, 112, 116, 32, 115, 101, 99, 116, 105, 111, 110, 32, 115, 101, 108, 101, 99, 116, 32, 115, 111, 117, 114, 99, 101, 32, 115, 116, 121, 108, 101, 32, 115, 117, 109, 109, 97, 114, 121, 32, 116, 97, 98, 108, 101, 32, 116, 101, 109, 112, 108, 97, 116, 101, 32, 116, 101, 120, 116, 97, 114, 101, 97, 32, 116, 105, 116, 108, 101, 32, 116, 114, 97, 99, 107, 32, 117, 108, 32, 119, 98, 114, 32, 120, 109, 112, 32]⟩ : ByteArray), (⟨#[32, 97, 112, 112, 108, 101, 116, 32, 109, 97, 114, 113, 117, 101, 101, 32, 111, 98, 106, 101, 99, 116, 32, 116, 97, 98, 108, 101, 32, 116, 101, 109, 112, 108, 97, 116, 101, 32]⟩ : ByteArray), (⟨#[32, 98, 111, 100, 121, 32, 99, 97, 112, 116, 105, 111, 110, 32, 99, 111, 108, 32, 99, 111, 108, 103, 114, 111, 117, 112, 32, 102, 114, 97, 109, 101, 32, 102, 114, 97, 109, 101, 115, 101, 116, 32, 104, 101, 97, 100, 32, 104, 116, 109, 108, 32, 116, 98, 111, 100, 121, 32, 116, 100, 32, 116, 102, 111, 111, 116, 32, 116, 104, 32, 116, 104, 101, 97, 100, 32, 116, 114, 32]⟩ : ByteArray), (⟨#[32, 100, 100, 32, 100, 116, 32, 108, 105, 32, 111, 112, 116, 103, 114, 111, 117, 112, 32, 111, 112, 116, 105, 111, 110, 32, 112, 32, 114, 98, 32, 114, 112, 32, 114, 116, 32, 114, 116, 99, 32]⟩ : ByteArray), (⟨#[32, 97, 112, 112, 108, 101, 116, 32, 109, 97, 114, 113, 117, 101, 101, 32, 111, 98, 106, 101, 99, 116, 32]⟩ : ByteArray), (⟨#[32, 97, 32, 97, 98, 98, 114, 32, 97, 100, 100, 114, 101, 115, 115, 32, 97, 114, 116, 105, 99, 108, 101, 32, 97, 115, 105, 100, 101, 32, 98, 32, 98, 100, 105, 32, 98, 100, 111, 32, 98, 105, 103, 32, 98, 108, 111, 99, 107, 113, 117, 111, 116, 101, 32, 98, 114, 32, 99, 101, 110, 116, 101, 114, 32, 99, 105, 116, 101, 32, 99, 111, 100, 101, 32, 100, 100, 32, 100, 101, 108, 32, 100, 102, 110, 32, 100, 105, 114, 32, 100, 105, 118, 32, 100, 108, 32, 100, 116, 32, 101, 109, 32, 102, 105, 103, 99, 97, 112, 116, 105, 111, 110, 32, 102, 105, 103, 117, 114, 101, 32, 102, 111, 110, 116, 32, 102, 111, 111, 116, 101, 114, 32, 104, 49, 32, 104, 50, 32, 104, 51, 32, 104, 52, 32, 104, 53, 32, 104, 54, 32, 104, 101, 97, 100, 101, 114, 32, 104, 114, 32, 105, 32, 105, 109, 103, 32, 105, 110, 115, 32, 107, 98, 100, 32, 108, 105, 32, 109, 97, 105, 110, 32, 109, 97, 114, 107, 32, 110, 97, 118, 32, 111, 108, 32, 112, 32, 112, 114, 101, 32, 113, 32, 115, 32, 115, 97, 109, 112, 32, 115, 101, 99, 116, 105, 111, 110, 32, 115, 109, 97, 108, 108, 32, 115, 112, 97, 110, 32, 115, 116, 114, 105, 107, 101, 32, 115, 116, 114, 111, 110, 103, 32, 115, 117, 98, 32, 115, 117, 112, 32, 116, 105, 109, 101, 32, 116, 116, 32, 117, 32, 117, 108, 32, 118, 97, 114, 32, 119, 98, 114, 32]⟩ : ByteArray)] : List ByteArray))
set_option maxHeartbeats 8000000 in
set_option maxRecDepth 100000 in
theorem decanterref11_Lists.calls  (r : List ByteArray) (w : World) (h : decanterref11_Lists.f  = some r) :
    Calls Tryd.prog 34 #[] w fun e w' => ∃ v0_ : Value, e = .returned (v0_) ∧ Kd.R Kd.string 9 w' w.heap.size (fun _ => True) v0_ r ∧ Below w.heap.size w w' := by
  have HB := Aside0.mk (Below.refl w.heap.size w)
  have H : (some (([(⟨#[32, 97, 114, 101, 97, 32, 98, 97, 115, 101, 32, 98, 97, 115, 101, 102, 111, 110, 116, 32, 98, 103, 115, 111, 117, 110, 100, 32, 98, 114, 32, 101, 109, 98, 101, 100, 32, 104, 114, 32, 105, 109, 103, 32, 105, 110, 112, 117, 116, 32, 107, 101, 121, 103, 101, 110, 32, 108, 105, 110, 107, 32, 109, 101, 116, 97, 32, 112, 97, 114, 97, 109, 32, 115, 111, 117, 114, 99, 101, 32, 116, 114, 97, 99, 107, 32, 119, 98, 114, 32]⟩ : ByteArray), (⟨#[32, 97, 100, 100, 114, 101, 115, 115, 32, 97, 114, 116, 105, 99, 108, 101, 32, 97, 115, 105, 100, 101, 32, 98, 108, 111, 99, 107, 113, 117, 111, 116, 101, 32, 99, 101, 110, 116, 101, 114, 32, 100, 100, 32, 100, 101, 116, 97, 105, 108, 115, 32, 100, 105, 97, 108, 111, 103, 32, 100, 105, 114, 32, 100, 105, 118, 32, 100, 108, 32, 100, 116, 32, 102, 105, 101, 108, 100, 115, 101, 116, 32, 102, 105, 103, 99, 97, 112, 116, 105, 111, 110, 32, 102, 105, 103, 117, 114, 101, 32, 102, 111, 111, 116, 101, 114, 32, 102, 111, 114, 109, 32, 104, 49, 32, 104, 50, 32, 104, 51, 32, 104, 52, 32, 104, 53, 32, 104, 54, 32, 104, 101, 97, 100, 101, 114, 32, 104, 103, 114, 111, 117, 112, 32, 104, 114, 32, 108, 105, 32, 108, 105, 115, 116, 105, 110, 103, 32, 109, 97, 105, 110, 32, 109, 101, 110, 117, 32, 110, 97, 118, 32, 111, 108, 32, 112, 32, 112, 108, 97, 105, 110, 116, 101, 120, 116, 32, 112, 114, 101, 32, 115, 101, 99, 116, 105, 111, 110, 32, 115, 117, 109, 109, 97, 114, 121, 32, 116, 97, 98, 108, 101, 32, 117, 108, 32, 120, 109, 112, 32]⟩ : ByteArray), (⟨#[32, 104, 49, 32, 104, 50, 32, 104, 51, 32, 104, 52, 32, 104, 53, 32, 104, 54, 32]⟩ : ByteArray), (⟨#[32, 97, 32, 98, 32, 98, 105, 103, 32, 99, 111, 100, 101, 32, 101, 109, 32, 102, 111, 110, 116, 32, 105, 32, 110, 111, 98, 114, 32, 115, 32, 115, 109, 97, 108, 108, 32, 115, 116, 114, 105, 107, 101, 32, 115, 116, 114, 111, 110, 103, 32, 116, 116, 32, 117, 32]⟩ : ByteArray), (⟨#[32, 97, 100, 100, 114, 101, 115, 115, 32, 97, 112, 112, 108, 101, 116, 32, 97, 114, 101, 97, 32, 97, 114, 116, 105, 99, 108, 101, 32, 97, 115, 105, 100, 101, 32, 98, 97, 115, 101, 32, 98, 97, 115, 101, 102, 111, 110, 116, 32, 98, 103, 115, 111, 117, 110, 100, 32, 98, 108, 111, 99, 107, 113, 117, 111, 116, 101, 32, 98, 114, 32, 98, 117, 116, 116, 111, 110, 32, 99, 101, 110, 116, 101, 114, 32, 100, 100, 32, 100, 101, 116, 97, 105, 108, 115, 32, 100, 105, 114, 32, 100, 105, 118, 32, 100, 108, 32, 100, 116, 32, 101, 109, 98, 101, 100, 32, 102, 105, 101, 108, 100, 115, 101, 116, 32, 102, 105, 103, 99, 97, 112, 116, 105, 111, 110, 32, 102, 105, 103, 117, 114, 101, 32, 102, 111, 111, 116, 101, 114, 32, 102, 111, 114, 109, 32, 104, 49, 32, 104, 50, 32, 104, 51, 32, 104, 52, 32, 104, 53, 32, 104, 54, 32, 104, 101, 97, 100, 101, 114, 32, 104, 103, 114, 111, 117, 112, 32, 104, 114, 32, 105, 102, 114, 97, 109, 101, 32, 105, 109, 103, 32, 105, 110, 112, 117, 116, 32, 107, 101, 121, 103, 101, 110, 32, 108, 105, 32, 108, 105, 110, 107, 32, 108, 105, 115, 116, 105, 110, 103, 32, 109, 97, 105, 110, 32, 109, 97, 114, 113, 117, 101, 101, 32, 109, 101, 110, 117, 32, 109, 101, 116, 97, 32, 110, 97, 118, 32, 110, 111, 101, 109, 98, 101, 100, 32, 110, 111, 102, 114, 97, 109, 101, 115, 32, 111, 98, 106, 101, 99, 116, 32, 111, 108, 32, 112, 32, 112, 97, 114, 97, 109, 32, 112, 108, 97, 105, 110, 116, 101, 120, 116, 32, 112, 114, 101, 32, 115, 99, 114, 105, 112, 116, 32, 115, 101, 99, 116, 105, 111, 110, 32, 115, 101, 108, 101, 99, 116, 32, 115, 111, 117, 114, 99, 101, 32, 115, 116, 121, 108, 101, 32, 115, 117, 109, 109, 97, 114, 121, 32, 116, 97, 98, 108, 101, 32, 116, 101, 109, 112, 108, 97, 116, 101, 32, 116, 101, 120, 116, 97, 114, 101, 97, 32, 116, 105, 116, 108, 101, 32, 116, 114, 97, 99, 107, 32, 117, 108, 32, 119, 98, 114, 32, 120, 109, 112, 32]⟩ : ByteArray), (⟨#[32, 97, 112, 112, 108, 101, 116, 32, 109, 97, 114, 113, 117, 101, 101, 32, 111, 98, 106, 101, 99, 116, 32, 116, 97, 98, 108, 101, 32, 116, 101, 109, 112, 108, 97, 116, 101, 32]⟩ : ByteArray), (⟨#[32, 98, 111, 100, 121, 32, 99, 97, 112, 116, 105, 111, 110, 32, 99, 111, 108, 32, 99, 111, 108, 103, 114, 111, 117, 112, 32, 102, 114, 97, 109, 101, 32, 102, 114, 97, 109, 101, 115, 101, 116, 32, 104, 101, 97, 100, 32, 104, 116, 109, 108, 32, 116, 98, 111, 100, 121, 32, 116, 100, 32, 116, 102, 111, 111, 116, 32, 116, 104, 32, 116, 104, 101, 97, 100, 32, 116, 114, 32]⟩ : ByteArray), (⟨#[32, 100, 100, 32, 100, 116, 32, 108, 105, 32, 111, 112, 116, 103, 114, 111, 117, 112, 32, 111, 112, 116, 105, 111, 110, 32, 112, 32, 114, 98, 32, 114, 112, 32, 114, 116, 32, 114, 116, 99, 32]⟩ : ByteArray), (⟨#[32, 97, 112, 112, 108, 101, 116, 32, 109, 97, 114, 113, 117, 101, 101, 32, 111, 98, 106, 101, 99, 116, 32]⟩ : ByteArray), (⟨#[32, 97, 32, 97, 98, 98, 114, 32, 97, 100, 100, 114, 101, 115, 115, 32, 97, 114, 116, 105, 99, 108, 101, 32, 97, 115, 105, 100, 101, 32, 98, 32, 98, 100, 105, 32, 98, 100, 111, 32, 98, 105, 103, 32, 98, 108, 111, 99, 107, 113, 117, 111, 116, 101, 32, 98, 114, 32, 99, 101, 110, 116, 101, 114, 32, 99, 105, 116, 101, 32, 99, 111, 100, 101, 32, 100, 100, 32, 100, 101, 108, 32, 100, 102, 110, 32, 100, 105, 114, 32, 100, 105, 118, 32, 100, 108, 32, 100, 116, 32, 101, 109, 32, 102, 105, 103, 99, 97, 112, 116, 105, 111, 110, 32, 102, 105, 103, 117, 114, 101, 32, 102, 111, 110, 116, 32, 102, 111, 111, 116, 101, 114, 32, 104, 49, 32, 104, 50, 32, 104, 51, 32, 104, 52, 32, 104, 53, 32, 104, 54, 32, 104, 101, 97, 100, 101, 114, 32, 104, 114, 32, 105, 32, 105, 109, 103, 32, 105, 110, 115, 32, 107, 98, 100, 32, 108, 105, 32, 109, 97, 105, 110, 32, 109, 97, 114, 107, 32, 110, 97, 118, 32, 111, 108, 32, 112, 32, 112, 114, 101, 32, 113, 32, 115, 32, 115, 97, 109, 112, 32, 115, 101, 99, 116, 105, 111, 110, 32, 115, 109, 97, 108, 108, 32, 115, 112, 97, 110, 32, 115, 116, 114, 105, 107, 101, 32, 115, 116, 114, 111, 110, 103, 32, 115, 117, 98, 32, 115, 117, 112, 32, 116, 105, 109, 101, 32, 116, 116, 32, 117, 32, 117, 108, 32, 118, 97, 114, 32, 119, 98, 114, 32]⟩ : ByteArray)] : List ByteArray))) = some r := h
  clear h
  obtain ⟨y104, hy104⟩ : ∃ y_ : List ByteArray, y_ = (([(⟨#[32, 97, 114, 101, 97, 32, 98, 97, 115, 101, 32, 98, 97, 115, 101, 102, 111, 110, 116, 32, 98, 103, 115, 111, 117, 110, 100, 32, 98, 114, 32, 101, 109, 98, 101, 100, 32, 104, 114, 32, 105, 109, 103, 32, 105, 110, 112, 117, 116, 32, 107, 101, 121, 103, 101, 110, 32, 108, 105, 110, 107, 32, 109, 101, 116, 97, 32, 112, 97, 114, 97, 109, 32, 115, 111, 117, 114, 99, 101, 32, 116, 114, 97, 99, 107, 32, 119, 98, 114, 32]⟩ : ByteArray), (⟨#[32, 97, 100, 100, 114, 101, 115, 115, 32, 97, 114, 116, 105, 99, 108, 101, 32, 97, 115, 105, 100, 101, 32, 98, 108, 111, 99, 107, 113, 117, 111, 116, 101, 32, 99, 101, 110, 116, 101, 114, 32, 100, 100, 32, 100, 101, 116, 97, 105, 108, 115, 32, 100, 105, 97, 108, 111, 103, 32, 100, 105, 114, 32, 100, 105, 118, 32, 100, 108, 32, 100, 116, 32, 102, 105, 101, 108, 100, 115, 101, 116, 32, 102, 105, 103, 99, 97, 112, 116, 105, 111, 110, 32, 102, 105, 103, 117, 114, 101, 32, 102, 111, 111, 116, 101, 114, 32, 102, 111, 114, 109, 32, 104, 49, 32, 104, 50, 32, 104, 51, 32, 104, 52, 32, 104, 53, 32, 104, 54, 32, 104, 101, 97, 100, 101, 114, 32, 104, 103, 114, 111, 117, 112, 32, 104, 114, 32, 108, 105, 32, 108, 105, 115, 116, 105, 110, 103, 32, 109, 97, 105, 110, 32, 109, 101, 110, 117, 32, 110, 97, 118, 32, 111, 108, 32, 112, 32, 112, 108, 97, 105, 110, 116, 101, 120, 116, 32, 112, 114, 101, 32, 115, 101, 99, 116, 105, 111, 110, 32, 115, 117, 109, 109, 97, 114, 121, 32, 116, 97, 98, 108, 101, 32, 117, 108, 32, 120, 109, 112, 32]⟩ : ByteArray), (⟨#[32, 104, 49, 32, 104, 50, 32, 104, 51, 32, 104, 52, 32, 104, 53, 32, 104, 54, 32]⟩ : ByteArray), (⟨#[32, 97, 32, 98, 32, 98, 105, 103, 32, 99, 111, 100, 101, 32, 101, 109, 32, 102, 111, 110, 116, 32, 105, 32, 110, 111, 98, 114, 32, 115, 32, 115, 109, 97, 108, 108, 32, 115, 116, 114, 105, 107, 101, 32, 115, 116, 114, 111, 110, 103, 32, 116, 116, 32, 117, 32]⟩ : ByteArray), (⟨#[32, 97, 100, 100, 114, 101, 115, 115, 32, 97, 112, 112, 108, 101, 116, 32, 97, 114, 101, 97, 32, 97, 114, 116, 105, 99, 108, 101, 32, 97, 115, 105, 100, 101, 32, 98, 97, 115, 101, 32, 98, 97, 115, 101, 102, 111, 110, 116, 32, 98, 103, 115, 111, 117, 110, 100, 32, 98, 108, 111, 99, 107, 113, 117, 111, 116, 101, 32, 98, 114, 32, 98, 117, 116, 116, 111, 110, 32, 99, 101, 110, 116, 101, 114, 32, 100, 100, 32, 100, 101, 116, 97, 105, 108, 115, 32, 100, 105, 114, 32, 100, 105, 118, 32, 100, 108, 32, 100, 116, 32, 101, 109, 98, 101, 100, 32, 102, 105, 101, 108, 100, 115, 101, 116, 32, 102, 105, 103, 99, 97, 112, 116, 105, 111, 110, 32, 102, 105, 103, 117, 114, 101, 32, 102, 111, 111, 116, 101, 114, 32, 102, 111, 114, 109, 32, 104, 49, 32, 104, 50, 32, 104, 51, 32, 104, 52, 32, 104, 53, 32, 104, 54, 32, 104, 101, 97, 100, 101, 114, 32, 104, 103, 114, 111, 117, 112, 32, 104, 114, 32, 105, 102, 114, 97, 109, 101, 32, 105, 109, 103, 32, 105, 110, 112, 117, 116, 32, 107, 101, 121, 103, 101, 110, 32, 108, 105, 32, 108, 105, 110, 107, 32, 108, 105, 115, 116, 105, 110, 103, 32, 109, 97, 105, 110, 32, 109, 97, 114, 113, 117, 101, 101, 32, 109, 101, 110, 117, 32, 109, 101, 116, 97, 32, 110, 97, 118, 32, 110, 111, 101, 109, 98, 101, 100, 32, 110, 111, 102, 114, 97, 109, 101, 115, 32, 111, 98, 106, 101, 99, 116, 32, 111, 108, 32, 112, 32, 112, 97, 114, 97, 109, 32, 112, 108, 97, 105, 110, 116, 101, 120, 116, 32, 112, 114, 101, 32, 115, 99, 114, 105, 112, 116, 32, 115, 101, 99, 116, 105, 111, 110, 32, 115, 101, 108, 101, 99, 116, 32, 115, 111, 117, 114, 99, 101, 32, 115, 116, 121, 108, 101, 32, 115, 117, 109, 109, 97, 114, 121, 32, 116, 97, 98, 108, 101, 32, 116, 101, 109, 112, 108, 97, 116, 101, 32, 116, 101, 120, 116, 97, 114, 101, 97, 32, 116, 105, 116, 108, 101, 32, 116, 114, 97, 99, 107, 32, 117, 108, 32, 119, 98, 114, 32, 120, 109, 112, 32]⟩ : ByteArray), (⟨#[32, 97, 112, 112, 108, 101, 116, 32, 109, 97, 114, 113, 117, 101, 101, 32, 111, 98, 106, 101, 99, 116, 32, 116, 97, 98, 108, 101, 32, 116, 101, 109, 112, 108, 97, 116, 101, 32]⟩ : ByteArray), (⟨#[32, 98, 111, 100, 121, 32, 99, 97, 112, 116, 105, 111, 110, 32, 99, 111, 108, 32, 99, 111, 108, 103, 114, 111, 117, 112, 32, 102, 114, 97, 109, 101, 32, 102, 114, 97, 109, 101, 115, 101, 116, 32, 104, 101, 97, 100, 32, 104, 116, 109, 108, 32, 116, 98, 111, 100, 121, 32, 116, 100, 32, 116, 102, 111, 111, 116, 32, 116, 104, 32, 116, 104, 101, 97, 100, 32, 116, 114, 32]⟩ : ByteArray), (⟨#[32, 100, 100, 32, 100, 116, 32, 108, 105, 32, 111, 112, 116, 103, 114, 111, 117, 112, 32, 111, 112, 116, 105, 111, 110, 32, 112, 32, 114, 98, 32, 114, 112, 32, 114, 116, 32, 114, 116, 99, 32]⟩ : ByteArray), (⟨#[32, 97, 112, 112, 108, 101, 116, 32, 109, 97, 114, 113, 117, 101, 101, 32, 111, 98, 106, 101, 99, 116, 32]⟩ : ByteArray), (⟨#[32, 97, 32, 97, 98, 98, 114, 32, 97, 100, 100, 114, 101, 115, 115, 32, 97, 114, 116, 105, 99, 108, 101, 32, 97, 115, 105, 100, 101, 32, 98, 32, 98, 100, 105, 32, 98, 100, 111, 32, 98, 105, 103, 32, 98, 108, 111, 99, 107, 113, 117, 111, 116, 101, 32, 98, 114, 32, 99, 101, 110, 116, 101, 114, 32, 99, 105, 116, 101, 32, 99, 111, 100, 101, 32, 100, 100, 32, 100, 101, 108, 32, 100, 102, 110, 32, 100, 105, 114, 32, 100, 105, 118, 32, 100, 108, 32, 100, 116, 32, 101, 109, 32, 102, 105, 103, 99, 97, 112, 116, 105, 111, 110, 32, 102, 105, 103, 117, 114, 101, 32, 102, 111, 110, 116, 32, 102, 111, 111, 116, 101, 114, 32, 104, 49, 32, 104, 50, 32, 104, 51, 32, 104, 52, 32, 104, 53, 32, 104, 54, 32, 104, 101, 97, 100, 101, 114, 32, 104, 114, 32, 105, 32, 105, 109, 103, 32, 105, 110, 115, 32, 107, 98, 100, 32, 108, 105, 32, 109, 97, 105, 110, 32, 109, 97, 114, 107, 32, 110, 97, 118, 32, 111, 108, 32, 112, 32, 112, 114, 101, 32, 113, 32, 115, 32, 115, 97, 109, 112, 32, 115, 101, 99, 116, 105, 111, 110, 32, 115, 109, 97, 108, 108, 32, 115, 112, 97, 110, 32, 115, 116, 114, 105, 107, 101, 32, 115, 116, 114, 111, 110, 103, 32, 115, 117, 98, 32, 115, 117, 112, 32, 116, 105, 109, 101, 32, 116, 116, 32, 117, 32, 117, 108, 32, 118, 97, 114, 32, 119, 98, 114, 32]⟩ : ByteArray)] : List ByteArray)) := ⟨_, rfl⟩
  replace H : (some y104) = some r := by first | (rw [hy104]; with_reducible exact H) | (have H2_ := (Option.bind_some _ _).symm.trans H; rw [hy104]; with_reducible exact H2_) | (have H2_ := (Option.bind_some _ _).symm.trans H; with_reducible exact H2_) | with_reducible exact H | (rw [hy104]; exact H) | exact H
  have Ny104 := Aside0.mk hy104
  clear hy104
  obtain rfl := Option.some.inj H
  go_enter Tryd.func34, Tryd.ntmps34
  go_wp2_with (first | ((with_reducible refine gate_dst (N := 1) rfl ?_); refine Kd.R_lit Kd.string _ 9 ?hg (N := 1) ?hd (xs := ([(⟨#[32, 97, 114, 101, 97, 32, 98, 97, 115, 101, 32, 98, 97, 115, 101, 102, 111, 110, 116, 32, 98, 103, 115, 111, 117, 110, 100, 32, 98, 114, 32, 101, 109, 98, 101, 100, 32, 104, 114, 32, 105, 109, 103, 32, 105, 110, 112, 117, 116, 32, 107, 101, 121, 103, 101, 110, 32, 108, 105, 110, 107, 32, 109, 101, 116, 97, 32, 112, 97, 114, 97, 109, 32, 115, 111, 117, 114, 99, 101, 32, 116, 114, 97, 99, 107, 32, 119, 98, 114, 32]⟩ : ByteArray), (⟨#[32, 97, 100, 100, 114, 101, 115, 115, 32, 97, 114, 116, 105, 99, 108, 101, 32, 97, 115, 105, 100, 101, 32, 98, 108, 111, 99, 107, 113, 117, 111, 116, 101, 32, 99, 101, 110, 116, 101, 114, 32, 100, 100, 32, 100, 101, 116, 97, 105, 108, 115, 32, 100, 105, 97, 108, 111, 103, 32, 100, 105, 114, 32, 100, 105, 118, 32, 100, 108, 32, 100, 116, 32, 102, 105, 101, 108, 100, 115, 101, 116, 32, 102, 105, 103, 99, 97, 112, 116, 105, 111, 110, 32, 102, 105, 103, 117, 114, 101, 32, 102, 111, 111, 116, 101, 114, 32, 102, 111, 114, 109, 32, 104, 49, 32, 104, 50, 32, 104, 51, 32, 104, 52, 32, 104, 53, 32, 104, 54, 32, 104, 101, 97, 100, 101, 114, 32, 104, 103, 114, 111, 117, 112, 32, 104, 114, 32, 108, 105, 32, 108, 105, 115, 116, 105, 110, 103, 32, 109, 97, 105, 110, 32, 109, 101, 110, 117, 32, 110, 97, 118, 32, 111, 108, 32, 112, 32, 112, 108, 97, 105, 110, 116, 101, 120, 116, 32, 112, 114, 101, 32, 115, 101, 99, 116, 105, 111, 110, 32, 115, 117, 109, 109, 97, 114, 121, 32, 116, 97, 98, 108, 101, 32, 117, 108, 32, 120, 109, 112, 32]⟩ : ByteArray), (⟨#[32, 104, 49, 32, 104, 50, 32, 104, 51, 32, 104, 52, 32, 104, 53, 32, 104, 54, 32]⟩ : ByteArray), (⟨#[32, 97, 32, 98, 32, 98, 105, 103, 32, 99, 111, 100, 101, 32, 101, 109, 32, 102, 111, 110, 116, 32, 105, 32, 110, 111, 98, 114, 32, 115, 32, 115, 109, 97, 108, 108, 32, 115, 116, 114, 105, 107, 101, 32, 115, 116, 114, 111, 110, 103, 32, 116, 116, 32, 117, 32]⟩ : ByteArray), (⟨#[32, 97, 100, 100, 114, 101, 115, 115, 32, 97, 112, 112, 108, 101, 116, 32, 97, 114, 101, 97, 32, 97, 114, 116, 105, 99, 108, 101, 32, 97, 115, 105, 100, 101, 32, 98, 97, 115, 101, 32, 98, 97, 115, 101, 102, 111, 110, 116, 32, 98, 103, 115, 111, 117, 110, 100, 32, 98, 108, 111, 99, 107, 113, 117, 111, 116, 101, 32, 98, 114, 32, 98, 117, 116, 116, 111, 110, 32, 99, 101, 110, 116, 101, 114, 32, 100, 100, 32, 100, 101, 116, 97, 105, 108, 115, 32, 100, 105, 114, 32, 100, 105, 118, 32, 100, 108, 32, 100, 116, 32, 101, 109, 98, 101, 100, 32, 102, 105, 101, 108, 100, 115, 101, 116, 32, 102, 105, 103, 99, 97, 112, 116, 105, 111, 110, 32, 102, 105, 103, 117, 114, 101, 32, 102, 111, 111, 116, 101, 114, 32, 102, 111, 114, 109, 32, 104, 49, 32, 104, 50, 32, 104, 51, 32, 104, 52, 32, 104, 53, 32, 104, 54, 32, 104, 101, 97, 100, 101, 114, 32, 104, 103, 114, 111, 117, 112, 32, 104, 114, 32, 105, 102, 114, 97, 109, 101, 32, 105, 109, 103, 32, 105, 110, 112, 117, 116, 32, 107, 101, 121, 103, 101, 110, 32, 108, 105, 32, 108, 105, 110, 107, 32, 108, 105, 115, 116, 105, 110, 103, 32, 109, 97, 105, 110, 32, 109, 97, 114, 113, 117, 101, 101, 32, 109, 101, 110, 117, 32, 109, 101, 116, 97, 32, 110, 97, 118, 32, 110, 111, 101, 109, 98, 101, 100, 32, 110, 111, 102, 114, 97, 109, 101, 115, 32, 111, 98, 106, 101, 99, 116, 32, 111, 108, 32, 112, 32, 112, 97, 114, 97, 109, 32, 112, 108, 97, 105, 110, 116, 101, 120, 116, 32, 112, 114, 101, 32, 115, 99, 114, 105, 112, 116, 32, 115, 101, 99, 116, 105, 111, 110, 32, 115, 101, 108, 101, 99, 116, 32, 115, 111, 117, 114, 99, 101, 32, 115, 116, 121, 108, 101, 32, 115, 117, 109, 109, 97, 114, 121, 32, 116, 97, 98, 108, 101, 32, 116, 101, 109, 112, 108, 97, 116, 101, 32, 116, 101, 120, 116, 97, 114, 101, 97, 32, 116, 105, 116, 108, 101, 32, 116, 114, 97, 99, 107, 32, 117, 108, 32, 119, 98, 114, 32, 120, 109, 112, 32]⟩ : ByteArray), (⟨#[32, 97, 112, 112, 108, 101, 116, 32, 109, 97, 114, 113, 117, 101, 101, 32, 111, 98, 106, 101, 99, 116, 32, 116, 97, 98, 108, 101, 32, 116, 101, 109, 112, 108, 97, 116, 101, 32]⟩ : ByteArray), (⟨#[32, 98, 111, 100, 121, 32, 99, 97, 112, 116, 105, 111, 110, 32, 99, 111, 108, 32, 99, 111, 108, 103, 114, 111, 117, 112, 32, 102, 114, 97, 109, 101, 32, 102, 114, 97, 109, 101, 115, 101, 116, 32, 104, 101, 97, 100, 32, 104, 116, 109, 108, 32, 116, 98, 111, 100, 121, 32, 116, 100, 32, 116, 102, 111, 111, 116, 32, 116, 104, 32, 116, 104, 101, 97, 100, 32, 116, 114, 32]⟩ : ByteArray), (⟨#[32, 100, 100, 32, 100, 116, 32, 108, 105, 32, 111, 112, 116, 103, 114, 111, 117, 112, 32, 111, 112, 116, 105, 111, 110, 32, 112, 32, 114, 98, 32, 114, 112, 32, 114, 116, 32, 114, 116, 99, 32]⟩ : ByteArray), (⟨#[32, 97, 112, 112, 108, 101, 116, 32, 109, 97, 114, 113, 117, 101, 101, 32, 111, 98, 106, 101, 99, 116, 32]⟩ : ByteArray), (⟨#[32, 97, 32, 97, 98, 98, 114, 32, 97, 100, 100, 114, 101, 115, 115, 32, 97, 114, 116, 105, 99, 108, 101, 32, 97, 115, 105, 100, 101, 32, 98, 32, 98, 100, 105, 32, 98, 100, 111, 32, 98, 105, 103, 32, 98, 108, 111, 99, 107, 113, 117, 111, 116, 101, 32, 98, 114, 32, 99, 101, 110, 116, 101, 114, 32, 99, 105, 116, 101, 32, 99, 111, 100, 101, 32, 100, 100, 32, 100, 101, 108, 32, 100, 102, 110, 32, 100, 105, 114, 32, 100, 105, 118, 32, 100, 108, 32, 100, 116, 32, 101, 109, 32, 102, 105, 103, 99, 97, 112, 116, 105, 111, 110, 32, 102, 105, 103, 117, 114, 101, 32, 102, 111, 110, 116, 32, 102, 111, 111, 116, 101, 114, 32, 104, 49, 32, 104, 50, 32, 104, 51, 32, 104, 52, 32, 104, 53, 32, 104, 54, 32, 104, 101, 97, 100, 101, 114, 32, 104, 114, 32, 105, 32, 105, 109, 103, 32, 105, 110, 115, 32, 107, 98, 100, 32, 108, 105, 32, 109, 97, 105, 110, 32, 109, 97, 114, 107, 32, 110, 97, 118, 32, 111, 108, 32, 112, 32, 112, 114, 101, 32, 113, 32, 115, 32, 115, 97, 109, 112, 32, 115, 101, 99, 116, 105, 111, 110, 32, 115, 109, 97, 108, 108, 32, 115, 112, 97, 110, 32, 115, 116, 114, 105, 107, 101, 32, 115, 116, 114, 111, 110, 103, 32, 115, 117, 98, 32, 115, 117, 112, 32, 116, 105, 109, 101, 32, 116, 116, 32, 117, 32, 117, 108, 32, 118, 97, 114, 32, 119, 98, 114, 32]⟩ : ByteArray)] : List ByteArray)) (inner := [.string (⟨#[32, 97, 114, 101, 97, 32, 98, 97, 115, 101, 32, 98, 97, 115, 101, 102, 111, 110, 116, 32, 98, 103, 115, 111, 117, 110, 100, 32, 98, 114, 32, 101, 109, 98, 101, 100, 32, 104, 114, 32, 105, 109, 103, 32, 105, 110, 112, 117, 116, 32, 107, 101, 121, 103, 101, 110, 32, 108, 105, 110, 107, 32, 109, 101, 116, 97, 32, 112, 97, 114, 97, 109, 32, 115, 111, 117, 114, 99, 101, 32, 116, 114, 97, 99, 107, 32, 119, 98, 114, 32]⟩ : ByteArray), .string (⟨#[32, 97, 100, 100, 114, 101, 115, 115, 32, 97, 114, 116, 105, 99, 108, 101, 32, 97, 115, 105, 100, 101, 32, 98, 108, 111, 99, 107, 113, 117, 111, 116, 101, 32, 99, 101, 110, 116, 101, 114, 32, 100, 100, 32, 100, 101, 116, 97, 105, 108, 115, 32, 100, 105, 97, 108, 111, 103, 32, 100, 105, 114, 32, 100, 105, 118, 32, 100, 108, 32, 100, 116, 32, 102, 105, 101, 108, 100, 115, 101, 116, 32, 102, 105, 103, 99, 97, 112, 116, 105, 111, 110, 32, 102, 105, 103, 117, 114, 101, 32, 102, 111, 111, 116, 101, 114, 32, 102, 111, 114, 109, 32, 104, 49, 32, 104, 50, 32, 104, 51, 32, 104, 52, 32, 104, 53, 32, 104, 54, 32, 104, 101, 97, 100, 101, 114, 32, 104, 103, 114, 111, 117, 112, 32, 104, 114, 32, 108, 105, 32, 108, 105, 115, 116, 105, 110, 103, 32, 109, 97, 105, 110, 32, 109, 101, 110, 117, 32, 110, 97, 118, 32, 111, 108, 32, 112, 32, 112, 108, 97, 105, 110, 116, 101, 120, 116, 32, 112, 114, 101, 32, 115, 101, 99, 116, 105, 111, 110, 32, 115, 117, 109, 109, 97, 114, 121, 32, 116, 97, 98, 108, 101, 32, 117, 108, 32, 120, 109, 112, 32]⟩ : ByteArray), .string (⟨#[32, 104, 49, 32, 104, 50, 32, 104, 51, 32, 104, 52, 32, 104, 53, 32, 104, 54, 32]⟩ : ByteArray), .string (⟨#[32, 97, 32, 98, 32, 98, 105, 103, 32, 99, 111, 100, 101, 32, 101, 109, 32, 102, 111, 110, 116, 32, 105, 32, 110, 111, 98, 114, 32, 115, 32, 115, 109, 97, 108, 108, 32, 115, 116, 114, 105, 107, 101, 32, 115, 116, 114, 111, 110, 103, 32, 116, 116, 32, 117, 32]⟩ : ByteArray), .string (⟨#[32, 97, 100, 100, 114, 101, 115, 115, 32, 97, 112, 112, 108, 101, 116, 32, 97, 114, 101, 97, 32, 97, 114, 116, 105, 99, 108, 101, 32, 97, 115, 105, 100, 101, 32, 98, 97, 115, 101, 32, 98, 97, 115, 101, 102, 111, 110, 116, 32, 98, 103, 115, 111, 117, 110, 100, 32, 98, 108, 111, 99, 107, 113, 117, 111, 116, 101, 32, 98, 114, 32, 98, 117, 116, 116, 111, 110, 32, 99, 101, 110, 116, 101, 114, 32, 100, 100, 32, 100, 101, 116, 97, 105, 108, 115, 32, 100, 105, 114, 32, 100, 105, 118, 32, 100, 108, 32, 100, 116, 32, 101, 109, 98, 101, 100, 32, 102, 105, 101, 108, 100, 115, 101, 116, 32, 102, 105, 103, 99, 97, 112, 116, 105, 111, 110, 32, 102, 105, 103, 117, 114, 101, 32, 102, 111, 111, 116, 101, 114, 32, 102, 111, 114, 109, 32, 104, 49, 32, 104, 50, 32, 104, 51, 32, 104, 52, 32, 104, 53, 32, 104, 54, 32, 104, 101, 97, 100, 101, 114, 32, 104, 103, 114, 111, 117, 112, 32, 104, 114, 32, 105, 102, 114, 97, 109, 101, 32, 105, 109, 103, 32, 105, 110, 112, 117, 116, 32, 107, 101, 121, 103, 101, 110, 32, 108, 105, 32, 108, 105, 110, 107, 32, 108, 105, 115, 116, 105, 110, 103, 32, 109, 97, 105, 110, 32, 109, 97, 114, 113, 117, 101, 101, 32, 109, 101, 110, 117, 32, 109, 101, 116, 97, 32, 110, 97, 118, 32, 110, 111, 101, 109, 98, 101, 100, 32, 110, 111, 102, 114, 97, 109, 101, 115, 32, 111, 98, 106, 101, 99, 116, 32, 111, 108, 32, 112, 32, 112, 97, 114, 97, 109, 32, 112, 108, 97, 105, 110, 116, 101, 120, 116, 32, 112, 114, 101, 32, 115, 99, 114, 105, 112, 116, 32, 115, 101, 99, 116, 105, 111, 110, 32, 115, 101, 108, 101, 99, 116, 32, 115, 111, 117, 114, 99, 101, 32, 115, 116, 121, 108, 101, 32, 115, 117, 109, 109, 97, 114, 121, 32, 116, 97, 98, 108, 101, 32, 116, 101, 109, 112, 108, 97, 116, 101, 32, 116, 101, 120, 116, 97, 114, 101, 97, 32, 116, 105, 116, 108, 101, 32, 116, 114, 97, 99, 107, 32, 117, 108, 32, 119, 98, 114, 32, 120, 109, 112, 32]⟩ : ByteArray), .string (⟨#[32, 97, 112, 112, 108, 101, 116, 32, 109, 97, 114, 113, 117, 101, 101, 32, 111, 98, 106, 101, 99, 116, 32, 116, 97, 98, 108, 101, 32, 116, 101, 109, 112, 108, 97, 116, 101, 32]⟩ : ByteArray), .string (⟨#[32, 98, 111, 100, 121, 32, 99, 97, 112, 116, 105, 111, 110, 32, 99, 111, 108, 32, 99, 111, 108, 103, 114, 111, 117, 112, 32, 102, 114, 97, 109, 101, 32, 102, 114, 97, 109, 101, 115, 101, 116, 32, 104, 101, 97, 100, 32, 104, 116, 109, 108, 32, 116, 98, 111, 100, 121, 32, 116, 100, 32, 116, 102, 111, 111, 116, 32, 116, 104, 32, 116, 104, 101, 97, 100, 32, 116, 114, 32]⟩ : ByteArray), .string (⟨#[32, 100, 100, 32, 100, 116, 32, 108, 105, 32, 111, 112, 116, 103, 114, 111, 117, 112, 32, 111, 112, 116, 105, 111, 110, 32, 112, 32, 114, 98, 32, 114, 112, 32, 114, 116, 32, 114, 116, 99, 32]⟩ : ByteArray), .string (⟨#[32, 97, 112, 112, 108, 101, 116, 32, 109, 97, 114, 113, 117, 101, 101, 32, 111, 98, 106, 101, 99, 116, 32]⟩ : ByteArray), .string (⟨#[32, 97, 32, 97, 98, 98, 114, 32, 97, 100, 100, 114, 101, 115, 115, 32, 97, 114, 116, 105, 99, 108, 101, 32, 97, 115, 105, 100, 101, 32, 98, 32, 98, 100, 105, 32, 98, 100, 111, 32, 98, 105, 103, 32, 98, 108, 111, 99, 107, 113, 117, 111, 116, 101, 32, 98, 114, 32, 99, 101, 110, 116, 101, 114, 32, 99, 105, 116, 101, 32, 99, 111, 100, 101, 32, 100, 100, 32, 100, 101, 108, 32, 100, 102, 110, 32, 100, 105, 114, 32, 100, 105, 118, 32, 100, 108, 32, 100, 116, 32, 101, 109, 32, 102, 105, 103, 99, 97, 112, 116, 105, 111, 110, 32, 102, 105, 103, 117, 114, 101, 32, 102, 111, 110, 116, 32, 102, 111, 111, 116, 101, 114, 32, 104, 49, 32, 104, 50, 32, 104, 51, 32, 104, 52, 32, 104, 53, 32, 104, 54, 32, 104, 101, 97, 100, 101, 114, 32, 104, 114, 32, 105, 32, 105, 109, 103, 32, 105, 110, 115, 32, 107, 98, 100, 32, 108, 105, 32, 109, 97, 105, 110, 32, 109, 97, 114, 107, 32, 110, 97, 118, 32, 111, 108, 32, 112, 32, 112, 114, 101, 32, 113, 32, 115, 32, 115, 97, 109, 112, 32, 115, 101, 99, 116, 105, 111, 110, 32, 115, 109, 97, 108, 108, 32, 115, 112, 97, 110, 32, 115, 116, 114, 105, 107, 101, 32, 115, 116, 114, 111, 110, 103, 32, 115, 117, 98, 32, 115, 117, 112, 32, 116, 105, 109, 101, 32, 116, 116, 32, 117, 32, 117, 108, 32, 118, 97, 114, 32, 119, 98, 114, 32]⟩ : ByteArray)]) (ok := fun _ => True) (okp := fun _ => True) ?hr ?hp (fun _ hk => hk) trivial (Below.refl _ _) (Nat.le_refl _) (by simp) ?_; (case hd => rfl); (case hg => rfl); (case hr => first | (go_simp; done) | (go_simp; rfl)); (case hp => exact (Reps.one (show Kd.M Kd.string _ _ _ (⟨#[32, 97, 114, 101, 97, 32, 98, 97, 115, 101, 32, 98, 97, 115, 101, 102, 111, 110, 116, 32, 98, 103, 115, 111, 117, 110, 100, 32, 98, 114, 32, 101, 109, 98, 101, 100, 32, 104, 114, 32, 105, 109, 103, 32, 105, 110, 112, 117, 116, 32, 107, 101, 121, 103, 101, 110, 32, 108, 105, 110, 107, 32, 109, 101, 116, 97, 32, 112, 97, 114, 97, 109, 32, 115, 111, 117, 114, 99, 101, 32, 116, 114, 97, 99, 107, 32, 119, 98, 114, 32]⟩ : ByteArray) [.string (⟨#[32, 97, 114, 101, 97, 32, 98, 97, 115, 101, 32, 98, 97, 115, 101, 102, 111, 110, 116, 32, 98, 103, 115, 111, 117, 110, 100, 32, 98, 114, 32, 101, 109, 98, 101, 100, 32, 104, 114, 32, 105, 109, 103, 32, 105, 110, 112, 117, 116, 32, 107, 101, 121, 103, 101, 110, 32, 108, 105, 110, 107, 32, 109, 101, 116, 97, 32, 112, 97, 114, 97, 109, 32, 115, 111, 117, 114, 99, 101, 32, 116, 114, 97, 99, 107, 32, 119, 98, 114, 32]⟩ : ByteArray)] from rfl) (Reps.one (show Kd.M Kd.string _ _ _ (⟨#[32, 97, 100, 100, 114, 101, 115, 115, 32, 97, 114, 116, 105, 99, 108, 101, 32, 97, 115, 105, 100, 101, 32, 98, 108, 111, 99, 107, 113, 117, 111, 116, 101, 32, 99, 101, 110, 116, 101, 114, 32, 100, 100, 32, 100, 101, 116, 97, 105, 108, 115, 32, 100, 105, 97, 108, 111, 103, 32, 100, 105, 114, 32, 100, 105, 118, 32, 100, 108, 32, 100, 116, 32, 102, 105, 101, 108, 100, 115, 101, 116, 32, 102, 105, 103, 99, 97, 112, 116, 105, 111, 110, 32, 102, 105, 103, 117, 114, 101, 32, 102, 111, 111, 116, 101, 114, 32, 102, 111, 114, 109, 32, 104, 49, 32, 104, 50, 32, 104, 51, 32, 104, 52, 32, 104, 53, 32, 104, 54, 32, 104, 101, 97, 100, 101, 114, 32, 104, 103, 114, 111, 117, 112, 32, 104, 114, 32, 108, 105, 32, 108, 105, 115, 116, 105, 110, 103, 32, 109, 97, 105, 110, 32, 109, 101, 110, 117, 32, 110, 97, 118, 32, 111, 108, 32, 112, 32, 112, 108, 97, 105, 110, 116, 101, 120, 116, 32, 112, 114, 101, 32, 115, 101, 99, 116, 105, 111, 110, 32, 115, 117, 109, 109, 97, 114, 121, 32, 116, 97, 98, 108, 101, 32, 117, 108, 32, 120, 109, 112, 32]⟩ : ByteArray) [.string (⟨#[32, 97, 100, 100, 114, 101, 115, 115, 32, 97, 114, 116, 105, 99, 108, 101, 32, 97, 115, 105, 100, 101, 32, 98, 108, 111, 99, 107, 113, 117, 111, 116, 101, 32, 99, 101, 110, 116, 101, 114, 32, 100, 100, 32, 100, 101, 116, 97, 105, 108, 115, 32, 100, 105, 97, 108, 111, 103, 32, 100, 105, 114, 32, 100, 105, 118, 32, 100, 108, 32, 100, 116, 32, 102, 105, 101, 108, 100, 115, 101, 116, 32, 102, 105, 103, 99, 97, 112, 116, 105, 111, 110, 32, 102, 105, 103, 117, 114, 101, 32, 102, 111, 111, 116, 101, 114, 32, 102, 111, 114, 109, 32, 104, 49, 32, 104, 50, 32, 104, 51, 32, 104, 52, 32, 104, 53, 32, 104, 54, 32, 104, 101, 97, 100, 101, 114, 32, 104, 103, 114, 111, 117, 112, 32, 104, 114, 32, 108, 105, 32, 108, 105, 115, 116, 105, 110, 103, 32, 109, 97, 105, 110, 32, 109, 101, 110, 117, 32, 110, 97, 118, 32, 111, 108, 32, 112, 32, 112, 108, 97, 105, 110, 116, 101, 120, 116, 32, 112, 114, 101, 32, 115, 101, 99, 116, 105, 111, 110, 32, 115, 117, 109, 109, 97, 114, 121, 32, 116, 97, 98, 108, 101, 32, 117, 108, 32, 120, 109, 112, 32]⟩ : ByteArray)] from rfl) (Reps.one (show Kd.M Kd.string _ _ _ (⟨#[32, 104, 49, 32, 104, 50, 32, 104, 51, 32, 104, 52, 32, 104, 53, 32, 104, 54, 32]⟩ : ByteArray) [.string (⟨#[32, 104, 49, 32, 104, 50, 32, 104, 51, 32, 104, 52, 32, 104, 53, 32, 104, 54, 32]⟩ : ByteArray)] from rfl) (Reps.one (show Kd.M Kd.string _ _ _ (⟨#[32, 97, 32, 98, 32, 98, 105, 103, 32, 99, 111, 100, 101, 32, 101, 109, 32, 102, 111, 110, 116, 32, 105, 32, 110, 111, 98, 114, 32, 115, 32, 115, 109, 97, 108, 108, 32, 115, 116, 114, 105, 107, 101, 32, 115, 116, 114, 111, 110, 103, 32, 116, 116, 32, 117, 32]⟩ : ByteArray) [.string (⟨#[32, 97, 32, 98, 32, 98, 105, 103, 32, 99, 111, 100, 101, 32, 101, 109, 32, 102, 111, 110, 116, 32, 105, 32, 110, 111, 98, 114, 32, 115, 32, 115, 109, 97, 108, 108, 32, 115, 116, 114, 105, 107, 101, 32, 115, 116, 114, 111, 110, 103, 32, 116, 116, 32, 117, 32]⟩ : ByteArray)] from rfl) (Reps.one (show Kd.M Kd.string _ _ _ (⟨#[32, 97, 100, 100, 114, 101, 115, 115, 32, 97, 112, 112, 108, 101, 116, 32, 97, 114, 101, 97, 32, 97, 114, 116, 105, 99, 108, 101, 32, 97, 115, 105, 100, 101, 32, 98, 97, 115, 101, 32, 98, 97, 115, 101, 102, 111, 110, 116, 32, 98, 103, 115, 111, 117, 110, 100, 32, 98, 108, 111, 99, 107, 113, 117, 111, 116, 101, 32, 98, 114, 32, 98, 117, 116, 116, 111, 110, 32, 99, 101, 110, 116, 101, 114, 32, 100, 100, 32, 100, 101, 116, 97, 105, 108, 115, 32, 100, 105, 114, 32, 100, 105, 118, 32, 100, 108, 32, 100, 116, 32, 101, 109, 98, 101, 100, 32, 102, 105, 101, 108, 100, 115, 101, 116, 32, 102, 105, 103, 99, 97, 112, 116, 105, 111, 110, 32, 102, 105, 103, 117, 114, 101, 32, 102, 111, 111, 116, 101, 114, 32, 102, 111, 114, 109, 32, 104, 49, 32, 104, 50, 32, 104, 51, 32, 104, 52, 32, 104, 53, 32, 104, 54, 32, 104, 101, 97, 100, 101, 114, 32, 104, 103, 114, 111, 117, 112, 32, 104, 114, 32, 105, 102, 114, 97, 109, 101, 32, 105, 109, 103, 32, 105, 110, 112, 117, 116, 32, 107, 101, 121, 103, 101, 110, 32, 108, 105, 32, 108, 105, 110, 107, 32, 108, 105, 115, 116, 105, 110, 103, 32, 109, 97, 105, 110, 32, 109, 97, 114, 113, 117, 101, 101, 32, 109, 101, 110, 117, 32, 109, 101, 116, 97, 32, 110, 97, 118, 32, 110, 111, 101, 109, 98, 101, 100, 32, 110, 111, 102, 114, 97, 109, 101, 115, 32, 111, 98, 106, 101, 99, 116, 32, 111, 108, 32, 112, 32, 112, 97, 114, 97, 109, 32, 112, 108, 97, 105, 110, 116, 101, 120, 116, 32, 112, 114, 101, 32, 115, 99, 114, 105, 112, 116, 32, 115, 101, 99, 116, 105, 111, 110, 32, 115, 101, 108, 101, 99, 116, 32, 115, 111, 117, 114, 99, 101, 32, 115, 116, 121, 108, 101, 32, 115, 117, 109, 109, 97, 114, 121, 32, 116, 97, 98, 108, 101, 32, 116, 101, 109, 112, 108, 97, 116, 101, 32, 116, 101, 120, 116, 97, 114, 101, 97, 32, 116, 105, 116, 108, 101, 32, 116, 114, 97, 99, 107, 32, 117, 108, 32, 119, 98, 114, 32, 120, 109, 112, 32]⟩ : ByteArray) [.string (⟨#[32, 97, 100, 100, 114, 101, 115, 115, 32, 97, 112, 112, 108, 101, 116, 32, 97, 114, 101, 97, 32, 97, 114, 116, 105, 99, 108, 101, 32, 97, 115, 105, 100, 101, 32, 98, 97, 115, 101, 32, 98, 97, 115, 101, 102, 111, 110, 116, 32, 98, 103, 115, 111, 117, 110, 100, 32, 98, 108, 111, 99, 107, 113, 117, 111, 116, 101, 32, 98, 114, 32, 98, 117, 116, 116, 111, 110, 32, 99, 101, 110, 116, 101, 114, 32, 100, 100, 32, 100, 101, 116, 97, 105, 108, 115, 32, 100, 105, 114, 32, 100, 105, 118, 32, 100, 108, 32, 100, 116, 32, 101, 109, 98, 101, 100, 32, 102, 105, 101, 108, 100, 115, 101, 116, 32, 102, 105, 103, 99, 97, 112, 116, 105, 111, 110, 32, 102, 105, 103, 117, 114, 101, 32, 102, 111, 111, 116, 101, 114, 32, 102, 111, 114, 109, 32, 104, 49, 32, 104, 50, 32, 104, 51, 32, 104, 52, 32, 104, 53, 32, 104, 54, 32, 104, 101, 97, 100, 101, 114, 32, 104, 103, 114, 111, 117, 112, 32, 104, 114, 32, 105, 102, 114, 97, 109, 101, 32, 105, 109, 103, 32, 105, 110, 112, 117, 116, 32, 107, 101, 121, 103, 101, 110, 32, 108, 105, 32, 108, 105, 110, 107, 32, 108, 105, 115, 116, 105, 110, 103, 32, 109, 97, 105, 110, 32, 109, 97, 114, 113, 117, 101, 101, 32, 109, 101, 110, 117, 32, 109, 101, 116, 97, 32, 110, 97, 118, 32, 110, 111, 101, 109, 98, 101, 100, 32, 110, 111, 102, 114, 97, 109, 101, 115, 32, 111, 98, 106, 101, 99, 116, 32, 111, 108, 32, 112, 32, 112, 97, 114, 97, 109, 32, 112, 108, 97, 105, 110, 116, 101, 120, 116, 32, 112, 114, 101, 32, 115, 99, 114, 105, 112, 116, 32, 115, 101, 99, 116, 105, 111, 110, 32, 115, 101, 108, 101, 99, 116, 32, 115, 111, 117, 114, 99, 101, 32, 115, 116, 121, 108, 101, 32, 115, 117, 109, 109, 97, 114, 121, 32, 116, 97, 98, 108, 101, 32, 116, 101, 109, 112, 108, 97, 116, 101, 32, 116, 101, 120, 116, 97, 114, 101, 97, 32, 116, 105, 116, 108, 101, 32, 116, 114, 97, 99, 107, 32, 117, 108, 32, 119, 98, 114, 32, 120, 109, 112, 32]⟩ : ByteArray)] from rfl) (Reps.one (show Kd.M Kd.string _ _ _ (⟨#[32, 97, 112, 112, 108, 101, 116, 32, 109, 97, 114, 113, 117, 101, 101, 32, 111, 98, 106, 101, 99, 116, 32, 116, 97, 98, 108, 101, 32, 116, 101, 109, 112, 108, 97, 116, 101, 32]⟩ : ByteArray) [.string (⟨#[32, 97, 112, 112, 108, 101, 116, 32, 109, 97, 114, 113, 117, 101, 101, 32, 111, 98, 106, 101, 99, 116, 32, 116, 97, 98, 108, 101, 32, 116, 101, 109, 112, 108, 97, 116, 101, 32]⟩ : ByteArray)] from rfl) (Reps.one (show Kd.M Kd.string _ _ _ (⟨#[32, 98, 111, 100, 121, 32, 99, 97, 112, 116, 105, 111, 110, 32, 99, 111, 108, 32, 99, 111, 108, 103, 114, 111, 117, 112, 32, 102, 114, 97, 109, 101, 32, 102, 114, 97, 109, 101, 115, 101, 116, 32, 104, 101, 97, 100, 32, 104, 116, 109, 108, 32, 116, 98, 111, 100, 121, 32, 116, 100, 32, 116, 102, 111, 111, 116, 32, 116, 104, 32, 116, 104, 101, 97, 100, 32, 116, 114, 32]⟩ : ByteArray) [.string (⟨#[32, 98, 111, 100, 121, 32, 99, 97, 112, 116, 105, 111, 110, 32, 99, 111, 108, 32, 99, 111, 108, 103, 114, 111, 117, 112, 32, 102, 114, 97, 109, 101, 32, 102, 114, 97, 109, 101, 115, 101, 116, 32, 104, 101, 97, 100, 32, 104, 116, 109, 108, 32, 116, 98, 111, 100, 121, 32, 116, 100, 32, 116, 102, 111, 111, 116, 32, 116, 104, 32, 116, 104, 101, 97, 100, 32, 116, 114, 32]⟩ : ByteArray)] from rfl) (Reps.one (show Kd.M Kd.string _ _ _ (⟨#[32, 100, 100, 32, 100, 116, 32, 108, 105, 32, 111, 112, 116, 103, 114, 111, 117, 112, 32, 111, 112, 116, 105, 111, 110, 32, 112, 32, 114, 98, 32, 114, 112, 32, 114, 116, 32, 114, 116, 99, 32]⟩ : ByteArray) [.string (⟨#[32, 100, 100, 32, 100, 116, 32, 108, 105, 32, 111, 112, 116, 103, 114, 111, 117, 112, 32, 111, 112, 116, 105, 111, 110, 32, 112, 32, 114, 98, 32, 114, 112, 32, 114, 116, 32, 114, 116, 99, 32]⟩ : ByteArray)] from rfl) (Reps.one (show Kd.M Kd.string _ _ _ (⟨#[32, 97, 112, 112, 108, 101, 116, 32, 109, 97, 114, 113, 117, 101, 101, 32, 111, 98, 106, 101, 99, 116, 32]⟩ : ByteArray) [.string (⟨#[32, 97, 112, 112, 108, 101, 116, 32, 109, 97, 114, 113, 117, 101, 101, 32, 111, 98, 106, 101, 99, 116, 32]⟩ : ByteArray)] from rfl) (Reps.one (show Kd.M Kd.string _ _ _ (⟨#[32, 97, 32, 97, 98, 98, 114, 32, 97, 100, 100, 114, 101, 115, 115, 32, 97, 114, 116, 105, 99, 108, 101, 32, 97, 115, 105, 100, 101, 32, 98, 32, 98, 100, 105, 32, 98, 100, 111, 32, 98, 105, 103, 32, 98, 108, 111, 99, 107, 113, 117, 111, 116, 101, 32, 98, 114, 32, 99, 101, 110, 116, 101, 114, 32, 99, 105, 116, 101, 32, 99, 111, 100, 101, 32, 100, 100, 32, 100, 101, 108, 32, 100, 102, 110, 32, 100, 105, 114, 32, 100, 105, 118, 32, 100, 108, 32, 100, 116, 32, 101, 109, 32, 102, 105, 103, 99, 97, 112, 116, 105, 111, 110, 32, 102, 105, 103, 117, 114, 101, 32, 102, 111, 110, 116, 32, 102, 111, 111, 116, 101, 114, 32, 104, 49, 32, 104, 50, 32, 104, 51, 32, 104, 52, 32, 104, 53, 32, 104, 54, 32, 104, 101, 97, 100, 101, 114, 32, 104, 114, 32, 105, 32, 105, 109, 103, 32, 105, 110, 115, 32, 107, 98, 100, 32, 108, 105, 32, 109, 97, 105, 110, 32, 109, 97, 114, 107, 32, 110, 97, 118, 32, 111, 108, 32, 112, 32, 112, 114, 101, 32, 113, 32, 115, 32, 115, 97, 109, 112, 32, 115, 101, 99, 116, 105, 111, 110, 32, 115, 109, 97, 108, 108, 32, 115, 112, 97, 110, 32, 115, 116, 114, 105, 107, 101, 32, 115, 116, 114, 111, 110, 103, 32, 115, 117, 98, 32, 115, 117, 112, 32, 116, 105, 109, 101, 32, 116, 116, 32, 117, 32, 117, 108, 32, 118, 97, 114, 32, 119, 98, 114, 32]⟩ : ByteArray) [.string (⟨#[32, 97, 32, 97, 98, 98, 114, 32, 97, 100, 100, 114, 101, 115, 115, 32, 97, 114, 116, 105, 99, 108, 101, 32, 97, 115, 105, 100, 101, 32, 98, 32, 98, 100, 105, 32, 98, 100, 111, 32, 98, 105, 103, 32, 98, 108, 111, 99, 107, 113, 117, 111, 116, 101, 32, 98, 114, 32, 99, 101, 110, 116, 101, 114, 32, 99, 105, 116, 101, 32, 99, 111, 100, 101, 32, 100, 100, 32, 100, 101, 108, 32, 100, 102, 110, 32, 100, 105, 114, 32, 100, 105, 118, 32, 100, 108, 32, 100, 116, 32, 101, 109, 32, 102, 105, 103, 99, 97, 112, 116, 105, 111, 110, 32, 102, 105, 103, 117, 114, 101, 32, 102, 111, 110, 116, 32, 102, 111, 111, 116, 101, 114, 32, 104, 49, 32, 104, 50, 32, 104, 51, 32, 104, 52, 32, 104, 53, 32, 104, 54, 32, 104, 101, 97, 100, 101, 114, 32, 104, 114, 32, 105, 32, 105, 109, 103, 32, 105, 110, 115, 32, 107, 98, 100, 32, 108, 105, 32, 109, 97, 105, 110, 32, 109, 97, 114, 107, 32, 110, 97, 118, 32, 111, 108, 32, 112, 32, 112, 114, 101, 32, 113, 32, 115, 32, 115, 97, 109, 112, 32, 115, 101, 99, 116, 105, 111, 110, 32, 115, 109, 97, 108, 108, 32, 115, 112, 97, 110, 32, 115, 116, 114, 105, 107, 101, 32, 115, 116, 114, 111, 110, 103, 32, 115, 117, 98, 32, 115, 117, 112, 32, 116, 105, 109, 101, 32, 116, 116, 32, 117, 32, 117, 108, 32, 118, 97, 114, 32, 119, 98, 114, 32]⟩ : ByteArray)] from rfl) (Reps.none _ _)))))))))))); intro v105 w1 ho2 hb hg_ hnew_; clear hg_ hnew_; (first | rw [← Ny104.out] at ho2 | (simp only [Int.reduceToNat] at ho2; rw [← Ny104.out] at ho2)); have n0_ := Aside0.mk (Kd.R_lower ho2 (below_size (by repeat (first | (with_reducible first | exact HB.out | apply below_alloc | apply pw_below_drewN | apply below_drew1) | exact HB.out)))); have n1_ := Aside0.mk (below_step (by repeat (first | (with_reducible first | exact HB.out | apply below_alloc | apply pw_below_drewN | apply below_drew1) | exact HB.out)) hb); clear HB; have HO106 := n0_; have HB := n1_; clear n0_ n1_; clear hb ho2))
  go_ret
  exact ⟨_, by first | rfl | (simp [errW_none, errW_some] <;> rfl) | (simp [*, errW_none, errW_some] <;> rfl), by (with_reducible repeat (first | apply Kd.R_alloc | apply Kd.R_drewN | apply Kd.R_drew)); exact HO106.out, by repeat (first | (with_reducible first | exact HB.out | apply below_alloc | apply pw_below_drewN | apply below_drew1) | exact HB.out)⟩

end Go.Proofs.YteahlapoeiikoaaDoor.P


-- Printed by a program of this session (wip/myprint.py over the kit's print).
namespace Go.Proofs.YteahlapoeiikoaaDoor.P
open Go.RowKit Go.Proofs.YteahlapoeiikoaaDoorW.PrintWords Go.Proofs.YteahlapoeiikoaaDoorW.PrintLast Go.Proofs.YteahlapoeiikoaaDoorW.PrintMore
attribute [local go_sem] max2_int min2_int max_two min_two max_three min_three max_four min_four   -- for this text's walks alone
set_option linter.unusedVariables false
set_option linter.unusedSimpArgs false

/-! ### decanterref11_one: function 40 -/
def decanterref11_one.l0 : Nat → ByteArray → Int → Option (Bool)
  | 0, _, _ => none
  | k + 1, x0, x3 => if x3 < (x0.size : Int) then (if 0 ≤ x3 then (if (bt x0 x3) = 32 then (some false) else (decanterref11_one.l0 k x0 (wrap64 (x3 + 1)))) else (none)) else (some (decide ((x0.size : Int) > 0)))
def decanterref11_one.f (k : Nat) (a0 : ByteArray) : Option (Bool) := decanterref11_one.l0 k a0 0
theorem decanterref11_one.mono_l : ∀ k, (∀ y0 y1, LeO (decanterref11_one.l0 k y0 y1) (decanterref11_one.l0 (k + 1) y0 y1))
  | 0 => fun _ _ r h => by simp [decanterref11_one.l0] at h
  | k + 1 => by
    have ih0 := decanterref11_one.mono_l k
    · intro y0 y1
      unfold decanterref11_one.l0
      repeat' first
      | (with_reducible exact ih0 _ _)
      | (with_reducible exact LeO.refl _)
      | (with_reducible exact LeO.none _)
      | (with_reducible refine LeO.ite ?_ ?_)
      | (with_reducible refine LeO.bind ?_ (fun _ => ?_))
      | exact ih0 _ _
      | exact LeO.none _
      | refine LeO.ite ?_ ?_
      | refine LeO.bind ?_ (fun _ => ?_)
theorem decanterref11_one.mono : ∀ a0 k, LeO (decanterref11_one.f k a0) (decanterref11_one.f (k + 1) a0) := by
  intro a0 k
  have ih0 := decanterref11_one.mono_l k
  unfold decanterref11_one.f
  repeat' first
      | (with_reducible exact ih0 _ _)
      | (with_reducible exact LeO.refl _)
      | (with_reducible exact LeO.none _)
      | (with_reducible refine LeO.ite ?_ ?_)
      | (with_reducible refine LeO.bind ?_ (fun _ => ?_))
      | exact ih0 _ _
      | exact LeO.none _
      | refine LeO.ite ?_ ?_
      | refine LeO.bind ?_ (fun _ => ?_)
set_option maxHeartbeats 8000000 in
set_option maxRecDepth 100000 in
theorem decanterref11_one.calls (k : Nat) (a0 : ByteArray) (r : Bool) (w : World) (h : decanterref11_one.f k a0 = some r) :
    Calls Tryd.prog 40 #[.string a0] w fun e w' => e = .returned (.bool r) ∧ Drawn0 w w' := by
  have H : (decanterref11_one.l0 k a0 0) = some r := h
  clear h
  have H' := Aside0.mk H
  clear H
  go_enter Tryd.func40, Tryd.ntmps40
  go_wp2
  go_loopg [3] k (fun kq v3 w' => ∃ (x3_1 : Int), v3 = .int .i64 x3_1 ∧ Aside0 (decanterref11_one.l0 kq a0 x3_1 = some r) ∧ Aside0 (kq ≤ k) ∧ Drawn0 w w')
  case atStart => exact ⟨(0), (by first | rfl | (simp; done) | (simp [*]; done)), H', ⟨Nat.le_refl _⟩, by repeat (first | exact Drawn0.refl _ | apply Drawn0.step)⟩
  case round =>
    clear H'
    obtain ⟨x3_1, rfl, HA, HK1, ⟨m1, rfl⟩⟩ := hrel
    cases gk with
    | zero => exact absurd HA.out (by simp [decanterref11_one.l0])
    | succ k1 =>
      have H := HA.out
      clear HA
      simp only [decanterref11_one.l0] at H
      by_cases c2 : x3_1 < (a0.size : Int)
      · rw [if_pos c2] at H
        have c2b0 : decide (x3_1 < (a0.size : Int)) = true := decide_eq_true c2
        clear c2
        by_cases c3 : 0 ≤ x3_1
        · rw [if_pos c3] at H
          have c3b0 : decide (0 ≤ x3_1) = true := decide_eq_true c3
          clear c3
          by_cases c5 : (bt a0 x3_1) = 32
          · rw [if_pos c5] at H
            have c5b0 : ((bt a0 x3_1) == 32) = true := beq_iff_eq.mpr c5
            have c5b1 : ((bt a0 x3_1) != 32) = false := bne_eq_false_iff_eq.mpr c5
            clear c5
            obtain rfl := Option.some.inj H
            have p4 : 0 ≤ (x3_1 : Int) := of_decide_eq_true (by first | (with_reducible assumption) | assumption)
            have q4 : x3_1 < (a0.size : Int) := of_decide_eq_true (by first | (with_reducible assumption) | assumption)
            have hx4 := bt_at a0 x3_1
            replace p4 := eq_true p4
            replace q4 := eq_true q4
            go_wp2
            go_ret
            exact ⟨by first | rfl | (simp; done) | (simp [*]; done), by repeat (first | exact Drawn0.refl _ | apply Drawn0.step)⟩
          · rw [if_neg c5] at H
            have c5b0 : ((bt a0 x3_1) == 32) = false := beq_eq_false_iff_ne.mpr c5
            have c5b1 : ((bt a0 x3_1) != 32) = true := bne_iff_ne.mpr c5
            have H' := Aside0.mk H
            clear H
            have p4 : 0 ≤ (x3_1 : Int) := of_decide_eq_true (by first | (with_reducible assumption) | assumption)
            have q4 : x3_1 < (a0.size : Int) := of_decide_eq_true (by first | (with_reducible assumption) | assumption)
            have hx4 := bt_at a0 x3_1
            replace p4 := eq_true p4
            replace q4 := eq_true q4
            go_wp2
            go_roundg k1
            case measure => have := HK1.out; omega
            case rel => exact ⟨(wrap64 (x3_1 + 1)), (by first | rfl | (simp; done) | (simp [*]; done)), H', ⟨by have := HK1.out; omega⟩, by repeat (first | exact Drawn0.refl _ | apply Drawn0.step)⟩
        · rw [if_neg c3] at H
          exact absurd H (by simp)
      · rw [if_neg c2] at H
        have c2b0 : decide (x3_1 < (a0.size : Int)) = false := decide_eq_false c2
        clear c2
        obtain rfl := Option.some.inj H
        go_wp2
        go_ret
        exact ⟨by first | rfl | (simp; done) | (simp [*]; done), by repeat (first | exact Drawn0.refl _ | apply Drawn0.step)⟩

end Go.Proofs.YteahlapoeiikoaaDoor.P


-- Printed by a program of this session (wip/myprint.py over the kit's print).
namespace Go.Proofs.YteahlapoeiikoaaDoor.P
open Go.RowKit Go.Proofs.YteahlapoeiikoaaDoorW.PrintWords Go.Proofs.YteahlapoeiikoaaDoorW.PrintLast Go.Proofs.YteahlapoeiikoaaDoorW.PrintMore
attribute [local go_sem] max2_int min2_int max_two min_two max_three min_three max_four min_four   -- for this text's walks alone
set_option linter.unusedVariables false
set_option linter.unusedSimpArgs false

/-! ### decanterref11_in: function 41 -/
def decanterref11_in.l0 : Nat → ByteArray → ByteArray → Int → Option (Bool)
  | 0, _, _, _ => none
  | k + 1, x0, x1, x5 => if (wrap64 (x5 + (x1.size : Int))) ≤ (x0.size : Int) then (if 0 ≤ x5 then (if x5 ≤ (wrap64 (x5 + (x1.size : Int))) then (if (x0.extract (x5 : Int).toNat ((wrap64 (x5 + (x1.size : Int))) : Int).toNat).toList = x1.toList then (some true) else (decanterref11_in.l0 k x0 x1 (wrap64 (x5 + 1)))) else (none)) else (none)) else (some false)
def decanterref11_in.f (k : Nat) (a0 : ByteArray) (a1 : ByteArray) : Option (Bool) := decanterref11_in.l0 k a0 a1 0
theorem decanterref11_in.mono_l : ∀ k, (∀ y0 y1 y2, LeO (decanterref11_in.l0 k y0 y1 y2) (decanterref11_in.l0 (k + 1) y0 y1 y2))
  | 0 => fun _ _ _ r h => by simp [decanterref11_in.l0] at h
  | k + 1 => by
    have ih0 := decanterref11_in.mono_l k
    · intro y0 y1 y2
      unfold decanterref11_in.l0
      repeat' first
      | (with_reducible exact ih0 _ _ _)
      | (with_reducible exact LeO.refl _)
      | (with_reducible exact LeO.none _)
      | (with_reducible refine LeO.ite ?_ ?_)
      | (with_reducible refine LeO.bind ?_ (fun _ => ?_))
      | exact ih0 _ _ _
      | exact LeO.none _
      | refine LeO.ite ?_ ?_
      | refine LeO.bind ?_ (fun _ => ?_)
theorem decanterref11_in.mono : ∀ a0 a1 k, LeO (decanterref11_in.f k a0 a1) (decanterref11_in.f (k + 1) a0 a1) := by
  intro a0 a1 k
  have ih0 := decanterref11_in.mono_l k
  unfold decanterref11_in.f
  repeat' first
      | (with_reducible exact ih0 _ _ _)
      | (with_reducible exact LeO.refl _)
      | (with_reducible exact LeO.none _)
      | (with_reducible refine LeO.ite ?_ ?_)
      | (with_reducible refine LeO.bind ?_ (fun _ => ?_))
      | exact ih0 _ _ _
      | exact LeO.none _
      | refine LeO.ite ?_ ?_
      | refine LeO.bind ?_ (fun _ => ?_)
set_option maxHeartbeats 8000000 in
set_option maxRecDepth 100000 in
theorem decanterref11_in.calls (k : Nat) (a0 : ByteArray) (a1 : ByteArray) (r : Bool) (w : World) (h : decanterref11_in.f k a0 a1 = some r) :
    Calls Tryd.prog 41 #[.string a0, .string a1] w fun e w' => e = .returned (.bool r) ∧ Drawn0 w w' := by
  have H : (decanterref11_in.l0 k a0 a1 0) = some r := h
  clear h
  have H' := Aside0.mk H
  clear H
  go_enter Tryd.func41, Tryd.ntmps41
  go_wp2
  go_loopg [5] k (fun kq v5 w' => ∃ (x5_1 : Int), v5 = .int .i64 x5_1 ∧ Aside0 (decanterref11_in.l0 kq a0 a1 x5_1 = some r) ∧ Aside0 (kq ≤ k) ∧ Drawn0 w w')
  case atStart => exact ⟨(0), (by first | rfl | (simp; done) | (simp [*]; done)), H', ⟨Nat.le_refl _⟩, by repeat (first | exact Drawn0.refl _ | apply Drawn0.step)⟩
  case round =>
    clear H'
    try clear p2
    obtain ⟨x5_1, rfl, HA, HK1, ⟨m1, rfl⟩⟩ := hrel
    cases gk with
    | zero => exact absurd HA.out (by simp [decanterref11_in.l0])
    | succ k1 =>
      have H := HA.out
      clear HA
      simp only [decanterref11_in.l0] at H
      by_cases c3 : (wrap64 (x5_1 + (a1.size : Int))) ≤ (a0.size : Int)
      · rw [if_pos c3] at H
        have c3b0 : decide ((wrap64 (x5_1 + (a1.size : Int))) ≤ (a0.size : Int)) = true := decide_eq_true c3
        clear c3
        by_cases c4 : 0 ≤ x5_1
        · rw [if_pos c4] at H
          have c4b0 := eq_true c4
          have c4b1 : decide (0 ≤ x5_1) = true := decide_eq_true c4
          clear c4
          by_cases c5 : x5_1 ≤ (wrap64 (x5_1 + (a1.size : Int)))
          · rw [if_pos c5] at H
            have c5b0 := eq_true c5
            have c5b1 : decide (x5_1 ≤ (wrap64 (x5_1 + (a1.size : Int)))) = true := decide_eq_true c5
            have c6b0 := eq_true (of_decide_eq_true (by first | (with_reducible assumption) | assumption) : (wrap64 (x5_1 + (a1.size : Int))) ≤ (a0.size : Int))
            by_cases c7 : (a0.extract (x5_1 : Int).toNat ((wrap64 (x5_1 + (a1.size : Int))) : Int).toNat).toList = a1.toList
            · rw [if_pos c7] at H
              have c7b0 : ((a0.extract (x5_1 : Int).toNat ((wrap64 (x5_1 + (a1.size : Int))) : Int).toNat).toList == a1.toList) = true := beq_iff_eq.mpr c7
              have c7b1 : ((a0.extract (x5_1 : Int).toNat ((wrap64 (x5_1 + (a1.size : Int))) : Int).toNat).toList != a1.toList) = false := bne_eq_false_iff_eq.mpr c7
              clear c7
              obtain rfl := Option.some.inj H
              go_wp2
              go_ret
              exact ⟨by first | rfl | (simp; done) | (simp [*]; done), by repeat (first | exact Drawn0.refl _ | apply Drawn0.step)⟩
            · rw [if_neg c7] at H
              have c7b0 : ((a0.extract (x5_1 : Int).toNat ((wrap64 (x5_1 + (a1.size : Int))) : Int).toNat).toList == a1.toList) = false := beq_eq_false_iff_ne.mpr c7
              have c7b1 : ((a0.extract (x5_1 : Int).toNat ((wrap64 (x5_1 + (a1.size : Int))) : Int).toNat).toList != a1.toList) = true := bne_iff_ne.mpr c7
              have H' := Aside0.mk H
              clear H
              go_wp2
              go_roundg k1
              case measure => have := HK1.out; omega
              case rel => exact ⟨(wrap64 (x5_1 + 1)), (by first | rfl | (simp; done) | (simp [*]; done)), H', ⟨by have := HK1.out; omega⟩, by repeat (first | exact Drawn0.refl _ | apply Drawn0.step)⟩
          · rw [if_neg c5] at H
            exact absurd H (by simp)
        · rw [if_neg c4] at H
          exact absurd H (by simp)
      · rw [if_neg c3] at H
        have c3b0 : decide ((wrap64 (x5_1 + (a1.size : Int))) ≤ (a0.size : Int)) = false := decide_eq_false c3
        clear c3
        obtain rfl := Option.some.inj H
        go_wp2
        go_ret
        exact ⟨by first | rfl | (simp; done) | (simp [*]; done), by repeat (first | exact Drawn0.refl _ | apply Drawn0.step)⟩

end Go.Proofs.YteahlapoeiikoaaDoor.P


-- Printed by a program of this session (wip/myprint.py over the kit's print).
namespace Go.Proofs.YteahlapoeiikoaaDoor.P
open Go.RowKit Go.Proofs.YteahlapoeiikoaaDoorW.PrintWords Go.Proofs.YteahlapoeiikoaaDoorW.PrintLast Go.Proofs.YteahlapoeiikoaaDoorW.PrintMore
attribute [local go_sem] max2_int min2_int max_two min_two max_three min_three max_four min_four   -- for this text's walks alone
set_option linter.unusedVariables false
set_option linter.unusedSimpArgs false

/-! ### decanterref11_Is: function 20 -/
def decanterref11_Is.f (k : Nat) (a0 : ByteArray) (a1 : Int) : Option (Bool) := (decanterref11_one.f k a0).bind fun t107 => (if t107 = true then ((decanterref11_Lists.f).bind fun t108 => (if 0 ≤ a1 then (if a1 < (t108.length : Int) then (if 1 + a0.size ≤ 9223372036854775807 then (if ((⟨#[32]⟩ : ByteArray) ++ a0).size + 1 ≤ 9223372036854775807 then ((decanterref11_in.f k (rdOf ByteArray.empty t108 a1) (((⟨#[32]⟩ : ByteArray) ++ a0) ++ (⟨#[32]⟩ : ByteArray))).bind fun t112 => (some t112)) else (none)) else (none)) else (none)) else (none))) else (some false))
theorem decanterref11_Is.mono : ∀ a0 a1 k, LeO (decanterref11_Is.f k a0 a1) (decanterref11_Is.f (k + 1) a0 a1) := by
  intro a0 a1 k
  unfold decanterref11_Is.f
  repeat' first
      | (with_reducible exact decanterref11_in.mono _ _ _)
      | (with_reducible exact decanterref11_one.mono _ _)
      | (with_reducible exact LeO.refl _)
      | (with_reducible exact LeO.none _)
      | (with_reducible refine LeO.ite ?_ ?_)
      | (with_reducible refine LeO.bind ?_ (fun _ => ?_))
      | exact decanterref11_in.mono _ _ _
      | exact decanterref11_one.mono _ _
      | exact LeO.none _
      | refine LeO.ite ?_ ?_
      | refine LeO.bind ?_ (fun _ => ?_)
set_option maxHeartbeats 8000000 in
set_option maxRecDepth 100000 in
theorem decanterref11_Is.calls (k : Nat) (a0 : ByteArray) (a1 : Int) (r : Bool) (w : World) (h : decanterref11_Is.f k a0 a1 = some r) :
    Calls Tryd.prog 20 #[.string a0, .int .i64 a1] w fun e w' => e = .returned (.bool r) ∧ Below w.heap.size w w' := by
  have HB := Aside0.mk (Below.refl w.heap.size w)
  have H : ((decanterref11_one.f k a0).bind fun t107 => (if t107 = true then ((decanterref11_Lists.f).bind fun t108 => (if 0 ≤ a1 then (if a1 < (t108.length : Int) then (if 1 + a0.size ≤ 9223372036854775807 then (if ((⟨#[32]⟩ : ByteArray) ++ a0).size + 1 ≤ 9223372036854775807 then ((decanterref11_in.f k (rdOf ByteArray.empty t108 a1) (((⟨#[32]⟩ : ByteArray) ++ a0) ++ (⟨#[32]⟩ : ByteArray))).bind fun t112 => (some t112)) else (none)) else (none)) else (none)) else (none))) else (some false))) = some r := h
  clear h
  replace H := Option.bind_eq_some_iff.mp H
  obtain ⟨t107, A30, H⟩ := H
  replace H : (if t107 = true then ((decanterref11_Lists.f).bind fun t108 => (if 0 ≤ a1 then (if a1 < (t108.length : Int) then (if 1 + a0.size ≤ 9223372036854775807 then (if ((⟨#[32]⟩ : ByteArray) ++ a0).size + 1 ≤ 9223372036854775807 then ((decanterref11_in.f k (rdOf ByteArray.empty t108 a1) (((⟨#[32]⟩ : ByteArray) ++ a0) ++ (⟨#[32]⟩ : ByteArray))).bind fun t112 => (some t112)) else (none)) else (none)) else (none)) else (none))) else (some false)) = some r := H
  have A3 := Aside0.mk A30
  clear A30
  by_cases c4 : t107 = true
  · subst c4
    have H1 : ((decanterref11_Lists.f).bind fun t108 => (if 0 ≤ a1 then (if a1 < (t108.length : Int) then (if 1 + a0.size ≤ 9223372036854775807 then (if ((⟨#[32]⟩ : ByteArray) ++ a0).size + 1 ≤ 9223372036854775807 then ((decanterref11_in.f k (rdOf ByteArray.empty t108 a1) (((⟨#[32]⟩ : ByteArray) ++ a0) ++ (⟨#[32]⟩ : ByteArray))).bind fun t112 => (some t112)) else (none)) else (none)) else (none)) else (none))) = some r := by rw [if_pos rfl] at H; exact H
    clear H
    have H := H1
    clear H1
    replace H := Option.bind_eq_some_iff.mp H
    obtain ⟨t108, A50, H⟩ := H
    replace H : (if 0 ≤ a1 then (if a1 < (t108.length : Int) then (if 1 + a0.size ≤ 9223372036854775807 then (if ((⟨#[32]⟩ : ByteArray) ++ a0).size + 1 ≤ 9223372036854775807 then ((decanterref11_in.f k (rdOf ByteArray.empty t108 a1) (((⟨#[32]⟩ : ByteArray) ++ a0) ++ (⟨#[32]⟩ : ByteArray))).bind fun t112 => (some t112)) else (none)) else (none)) else (none)) else (none)) = some r := H
    have A5 := Aside0.mk A50
    clear A50
    by_cases c6 : 0 ≤ a1
    · rw [if_pos c6] at H
      have c6b0 : decide (0 ≤ a1) = true := decide_eq_true c6
      clear c6
      by_cases c7 : a1 < (t108.length : Int)
      · rw [if_pos c7] at H
        have c7b0 : decide (a1 < (t108.length : Int)) = true := decide_eq_true c7
        clear c7
        by_cases c8 : 1 + a0.size ≤ 9223372036854775807
        · rw [if_pos c8] at H
          have c8b0 := eq_true c8
          have c8b1 : decide (1 + a0.size ≤ 9223372036854775807) = true := decide_eq_true c8
          try have c8b2 : (9223372036854775807 < 1 + a0.size) = False := eq_false (Nat.not_lt.2 c8)
          by_cases c9 : ((⟨#[32]⟩ : ByteArray) ++ a0).size + 1 ≤ 9223372036854775807
          · rw [if_pos c9] at H
            have c9b0 := eq_true c9
            have c9b1 : decide (((⟨#[32]⟩ : ByteArray) ++ a0).size + 1 ≤ 9223372036854775807) = true := decide_eq_true c9
            try have c9b2 : (9223372036854775807 < ((⟨#[32]⟩ : ByteArray) ++ a0).size + 1) = False := eq_false (Nat.not_lt.2 c9)
            (try (have c9s := c9; simp only [ByteArray.size_append, show ((⟨#[32]⟩ : ByteArray)).size = 1 from rfl] at c9s; have c9s0 := eq_true c9s; have c9s2 := eq_false (Nat.not_lt.2 c9s)))
            replace H := Option.bind_eq_some_iff.mp H
            obtain ⟨t112, A100, H⟩ := H
            replace H : (some t112) = some r := H
            have A10 := Aside0.mk A100
            clear A100
            obtain rfl := Option.some.inj H
            go_enter Tryd.func20, Tryd.ntmps20
            go_wp2_with (first | ((with_reducible refine gate_callee (f := 40) rfl ?_); refine goesL_ (some 6) rfl rfl Tryd.func40 (by kernel_rfl) rfl #[.string a0] rfl (by (try simp only [List.map_toArray, List.map_cons, List.map_nil]); first | done | rfl | (simp only [List.length_drop, List.length_take]; rfl)) ?_; (with_reducible refine (decanterref11_one.calls k a0 true _ A3.out).mono ?_); rintro e w' ⟨rfl, ⟨nd, rfl⟩⟩; refine ⟨_, rfl, ?_⟩) | (go_at_call 34; (with_reducible refine (decanterref11_Lists.calls  t108 _ A5.out).mono ?_); rintro e w11 ⟨v109, rfl, ho0, hb⟩; have n0_ := Aside0.mk (Kd.R_lower ho0 (below_size (by repeat (first | (with_reducible first | exact HB.out | apply below_alloc | apply pw_below_drewN | apply below_drew1) | exact HB.out)))); have n1_ := Aside0.mk (below_step (by repeat (first | (with_reducible first | exact HB.out | apply below_alloc | apply pw_below_drewN | apply below_drew1) | exact HB.out)) hb); clear HB; have HO110 := n0_; have HB := n1_; clear n0_ n1_; (try clear hb); (try clear hb2); (try clear hk); (try clear hi); (try clear ho0); obtain ⟨Ao12, co12, eo12⟩ := Kd.R_slice HO110.out; subst eo12; have p111 : 0 ≤ (a1 : Int) := of_decide_eq_true (by first | (with_reducible assumption) | assumption); have q111 : a1 < (t108.length : Int) := of_decide_eq_true (by first | (with_reducible assumption) | assumption); obtain ⟨ad111, e111, hx111_0⟩ := Kd.at_string (Kd.R_reads' HO110.out).2.2 a1 p111 q111; cases e111; replace p111 := eq_true p111; replace q111 := eq_true q111) | (go_at_call 41; (with_reducible refine (decanterref11_in.calls k (rdOf ByteArray.empty t108 a1) (((⟨#[32]⟩ : ByteArray) ++ a0) ++ (⟨#[32]⟩ : ByteArray)) t112 _ A10.out).mono ?_); rintro e w' ⟨rfl, ⟨nd, rfl⟩⟩))
            go_ret
            exact ⟨by first | rfl | (simp [errW_none, errW_some] <;> rfl) | (simp [*, errW_none, errW_some] <;> rfl), by repeat (first | (with_reducible first | exact HB.out | apply below_alloc | apply pw_below_drewN | apply below_drew1) | exact HB.out)⟩
          · rw [if_neg c9] at H
            exact absurd H (by simp)
        · rw [if_neg c8] at H
          exact absurd H (by simp)
      · rw [if_neg c7] at H
        exact absurd H (by simp)
    · rw [if_neg c6] at H
      exact absurd H (by simp)
  · replace c4 := Bool.eq_false_iff.mpr c4
    subst c4
    have H1 : (some false) = some r := by rw [if_neg (show ¬ (false = true) by decide)] at H; exact H
    clear H
    have H := H1
    clear H1
    obtain rfl := Option.some.inj H
    go_enter Tryd.func20, Tryd.ntmps20
    go_wp2_with (first | ((with_reducible refine gate_callee (f := 40) rfl ?_); refine goesL_ (some 6) rfl rfl Tryd.func40 (by kernel_rfl) rfl #[.string a0] rfl (by (try simp only [List.map_toArray, List.map_cons, List.map_nil]); first | done | rfl | (simp only [List.length_drop, List.length_take]; rfl)) ?_; (with_reducible refine (decanterref11_one.calls k a0 false _ A3.out).mono ?_); rintro e w' ⟨rfl, ⟨nd, rfl⟩⟩; refine ⟨_, rfl, ?_⟩))
    go_ret
    exact ⟨by first | rfl | (simp [errW_none, errW_some] <;> rfl) | (simp [*, errW_none, errW_some] <;> rfl), by repeat (first | (with_reducible first | exact HB.out | apply below_alloc | apply pw_below_drewN | apply below_drew1) | exact HB.out)⟩

end Go.Proofs.YteahlapoeiikoaaDoor.P


-- Printed by a program of this session (wip/myprint.py over the kit's print).
namespace Go.Proofs.YteahlapoeiikoaaDoor.P
open Go.RowKit Go.Proofs.YteahlapoeiikoaaDoorW.PrintWords Go.Proofs.YteahlapoeiikoaaDoorW.PrintLast Go.Proofs.YteahlapoeiikoaaDoorW.PrintMore
attribute [local go_sem] max2_int min2_int max_two min_two max_three min_three max_four min_four   -- for this text's walks alone
set_option linter.unusedVariables false
set_option linter.unusedSimpArgs false

/-! ### decanterref11_Of: function 14 -/
def decanterref11_Of.l0 : Nat → ByteArray → Int → Int → List ByteArray → Int → Option (Int)
  | 0, _, _, _, _, _ => none
  | k + 1, x0, x3, x4, x5, x6 => if x6 < (x5.length : Int) then ((decanterref11_Is.f k x0 x6).bind fun t116 => (if t116 = true then (decanterref11_Of.l0 k x0 (wrap64 (x3 + x4)) (wrap64 (x4 * 2)) x5 (wrap64 (x6 + 1))) else (decanterref11_Of.l0 k x0 x3 (wrap64 (x4 * 2)) x5 (wrap64 (x6 + 1))))) else (some x3)
def decanterref11_Of.f (k : Nat) (a0 : ByteArray) : Option (Int) := (decanterref11_Lists.f).bind fun t113 => (decanterref11_Of.l0 k a0 0 1 t113 0)
theorem decanterref11_Of.mono_l : ∀ k, (∀ y0 y1 y2 y3 y4, LeO (decanterref11_Of.l0 k y0 y1 y2 y3 y4) (decanterref11_Of.l0 (k + 1) y0 y1 y2 y3 y4))
  | 0 => fun _ _ _ _ _ r h => by simp [decanterref11_Of.l0] at h
  | k + 1 => by
    have ih0 := decanterref11_Of.mono_l k
    · intro y0 y1 y2 y3 y4
      unfold decanterref11_Of.l0
      repeat' first
      | (with_reducible exact ih0 _ _ _ _ _)
      | (with_reducible exact decanterref11_Is.mono _ _ _)
      | (with_reducible exact LeO.refl _)
      | (with_reducible exact LeO.none _)
      | (with_reducible refine LeO.ite ?_ ?_)
      | (with_reducible refine LeO.bind ?_ (fun _ => ?_))
      | exact ih0 _ _ _ _ _
      | exact decanterref11_Is.mono _ _ _
      | exact LeO.none _
      | refine LeO.ite ?_ ?_
      | refine LeO.bind ?_ (fun _ => ?_)
theorem decanterref11_Of.mono : ∀ a0 k, LeO (decanterref11_Of.f k a0) (decanterref11_Of.f (k + 1) a0) := by
  intro a0 k
  have ih0 := decanterref11_Of.mono_l k
  unfold decanterref11_Of.f
  repeat' first
      | (with_reducible exact ih0 _ _ _ _ _)
      | (with_reducible exact decanterref11_Is.mono _ _ _)
      | (with_reducible exact LeO.refl _)
      | (with_reducible exact LeO.none _)
      | (with_reducible refine LeO.ite ?_ ?_)
      | (with_reducible refine LeO.bind ?_ (fun _ => ?_))
      | exact ih0 _ _ _ _ _
      | exact decanterref11_Is.mono _ _ _
      | exact LeO.none _
      | refine LeO.ite ?_ ?_
      | refine LeO.bind ?_ (fun _ => ?_)
set_option maxHeartbeats 8000000 in
set_option maxRecDepth 100000 in
theorem decanterref11_Of.calls (k : Nat) (a0 : ByteArray) (r : Int) (w : World) (h : decanterref11_Of.f k a0 = some r) :
    Calls Tryd.prog 14 #[.string a0] w fun e w' => e = .returned (.int .i64 r) ∧ Below w.heap.size w w' := by
  have HB := Aside0.mk (Below.refl w.heap.size w)
  have H : ((decanterref11_Lists.f).bind fun t113 => (decanterref11_Of.l0 k a0 0 1 t113 0)) = some r := h
  clear h
  replace H := Option.bind_eq_some_iff.mp H
  obtain ⟨t113, A20, H⟩ := H
  replace H : (decanterref11_Of.l0 k a0 0 1 t113 0) = some r := H
  have A2 := Aside0.mk A20
  clear A20
  have H' := Aside0.mk H
  clear H
  go_enter Tryd.func14, Tryd.ntmps14
  go_wp2_with (first | ((with_reducible refine gate_callee (f := 34) rfl ?_); refine goesL_ (some 7) rfl rfl Tryd.func34 (by kernel_rfl) rfl #[] rfl (by (try simp only [List.map_toArray, List.map_cons, List.map_nil]); first | done | rfl | (simp only [List.length_drop, List.length_take]; rfl)) ?_; (with_reducible refine (decanterref11_Lists.calls  t113 _ A2.out).mono ?_); rintro e w3 ⟨v114, rfl, ho0, hb⟩; refine ⟨_, rfl, ?_⟩; have n0_ := Aside0.mk (Kd.R_lower ho0 (below_size (by repeat (first | (with_reducible first | exact HB.out | apply below_alloc | apply pw_below_drewN | apply below_drew1) | exact HB.out)))); have n1_ := Aside0.mk (below_step (by repeat (first | (with_reducible first | exact HB.out | apply below_alloc | apply pw_below_drewN | apply below_drew1) | exact HB.out)) hb); clear HB; have HO115 := n0_; have HB := n1_; clear n0_ n1_; (try clear hb); (try clear hb2); (try clear hk); (try clear hi); (try clear ho0)))
  go_loopg [3, 4, 6] k (fun kq v3 v4 v6 w' => ∃ (x3_1 : Int) (x4_1 : Int) (x6_1 : Int), v3 = .int .i64 x3_1 ∧ v4 = .int .i64 x4_1 ∧ v6 = .int .i64 x6_1 ∧ Aside0 (decanterref11_Of.l0 kq a0 x3_1 x4_1 t113 x6_1 = some r) ∧ Aside0 (kq ≤ k) ∧ Aside0 (Kd.R Kd.string 9 w' w.heap.size (fun _ => True) v114 t113) ∧ Aside0 (Below w.heap.size w w'))
  case atStart => exact ⟨(0), (1), (0), (by first | rfl | (simp; done) | (simp [*]; done)), (by first | rfl | (simp; done) | (simp [*]; done)), (by first | rfl | (simp; done) | (simp [*]; done)), H', ⟨Nat.le_refl _⟩, ⟨by (with_reducible repeat (first | apply Kd.R_alloc | apply Kd.R_drewN | apply Kd.R_drew)); exact HO115.out⟩, ⟨by repeat (first | (with_reducible first | exact HB.out | apply below_alloc | apply pw_below_drewN | apply below_drew1) | exact HB.out)⟩⟩
  case round =>
    clear H'
    try clear c1
    try clear p2
    try clear c3
    obtain ⟨x3_1, x4_1, x6_1, rfl, rfl, rfl, HA, HK1, HO_5, HB⟩ := hrel
    cases gk with
    | zero => exact absurd HA.out (by simp [decanterref11_Of.l0])
    | succ k1 =>
      have H := HA.out
      clear HA
      simp only [decanterref11_Of.l0] at H
      by_cases c4 : x6_1 < (t113.length : Int)
      · rw [if_pos c4] at H
        have c4b0 : decide (x6_1 < (t113.length : Int)) = true := decide_eq_true c4
        clear c4
        replace H := Option.bind_eq_some_iff.mp H
        obtain ⟨t116, A50, H⟩ := H
        replace H : (if t116 = true then (decanterref11_Of.l0 k1 a0 (wrap64 (x3_1 + x4_1)) (wrap64 (x4_1 * 2)) t113 (wrap64 (x6_1 + 1))) else (decanterref11_Of.l0 k1 a0 x3_1 (wrap64 (x4_1 * 2)) t113 (wrap64 (x6_1 + 1)))) = some r := H
        have A5 := Aside0.mk A50
        clear A50
        by_cases c6 : t116 = true
        · subst c6
          have H1 : (decanterref11_Of.l0 k1 a0 (wrap64 (x3_1 + x4_1)) (wrap64 (x4_1 * 2)) t113 (wrap64 (x6_1 + 1))) = some r := by rw [if_pos rfl] at H; exact H
          clear H
          have H := H1
          clear H1
          have H' := Aside0.mk H
          clear H
          obtain ⟨Ao7, co7, eo7⟩ := Kd.R_slice HO_5.out
          subst eo7
          go_wp2_with (first | ((with_reducible refine gate_callee (f := 20) rfl ?_); refine goesL_ (some 16) rfl rfl Tryd.func20 (by kernel_rfl) rfl #[.string a0, .int .i64 x6_1] rfl (by (try simp only [List.map_toArray, List.map_cons, List.map_nil]); first | done | rfl | (simp only [List.length_drop, List.length_take]; rfl)) ?_; (with_reducible refine (decanterref11_Is.calls k1 a0 x6_1 true _ A5.out).mono ?_); rintro e w8 ⟨rfl, hb⟩; refine ⟨_, rfl, ?_⟩; have n0_ := Aside0.mk (Kd.R_below (by (with_reducible repeat (first | apply Kd.R_alloc | apply Kd.R_drewN | apply Kd.R_drew)); exact HO_5.out) hb); have n1_ := Aside0.mk (below_step (by repeat (first | (with_reducible first | exact HB.out | apply below_alloc | apply pw_below_drewN | apply below_drew1) | exact HB.out)) hb); clear HO_5; clear HB; have HO_5 := n0_; have HB := n1_; clear n0_ n1_; (try clear hb); (try clear hb2); (try clear hk); (try clear hi)))
          go_roundg k1
          case measure => have := HK1.out; omega
          case rel => exact ⟨(wrap64 (x3_1 + x4_1)), (wrap64 (x4_1 * 2)), (wrap64 (x6_1 + 1)), (by first | rfl | (simp; done) | (simp [*]; done)), (by first | rfl | (simp; done) | (simp [*]; done)), (by first | rfl | (simp; done) | (simp [*]; done)), H', ⟨by have := HK1.out; omega⟩, ⟨by (with_reducible repeat (first | apply Kd.R_alloc | apply Kd.R_drewN | apply Kd.R_drew)); exact HO_5.out⟩, ⟨by repeat (first | (with_reducible first | exact HB.out | apply below_alloc | apply pw_below_drewN | apply below_drew1) | exact HB.out)⟩⟩
        · replace c6 := Bool.eq_false_iff.mpr c6
          subst c6
          have H1 : (decanterref11_Of.l0 k1 a0 x3_1 (wrap64 (x4_1 * 2)) t113 (wrap64 (x6_1 + 1))) = some r := by rw [if_neg (show ¬ (false = true) by decide)] at H; exact H
          clear H
          have H := H1
          clear H1
          have H' := Aside0.mk H
          clear H
          obtain ⟨Ao9, co9, eo9⟩ := Kd.R_slice HO_5.out
          subst eo9
          go_wp2_with (first | ((with_reducible refine gate_callee (f := 20) rfl ?_); refine goesL_ (some 16) rfl rfl Tryd.func20 (by kernel_rfl) rfl #[.string a0, .int .i64 x6_1] rfl (by (try simp only [List.map_toArray, List.map_cons, List.map_nil]); first | done | rfl | (simp only [List.length_drop, List.length_take]; rfl)) ?_; (with_reducible refine (decanterref11_Is.calls k1 a0 x6_1 false _ A5.out).mono ?_); rintro e w10 ⟨rfl, hb⟩; refine ⟨_, rfl, ?_⟩; have n0_ := Aside0.mk (Kd.R_below (by (with_reducible repeat (first | apply Kd.R_alloc | apply Kd.R_drewN | apply Kd.R_drew)); exact HO_5.out) hb); have n1_ := Aside0.mk (below_step (by repeat (first | (with_reducible first | exact HB.out | apply below_alloc | apply pw_below_drewN | apply below_drew1) | exact HB.out)) hb); clear HO_5; clear HB; have HO_5 := n0_; have HB := n1_; clear n0_ n1_; (try clear hb); (try clear hb2); (try clear hk); (try clear hi)))
          go_roundg k1
          case measure => have := HK1.out; omega
          case rel => exact ⟨(x3_1), (wrap64 (x4_1 * 2)), (wrap64 (x6_1 + 1)), (by first | rfl | (simp; done) | (simp [*]; done)), (by first | rfl | (simp; done) | (simp [*]; done)), (by first | rfl | (simp; done) | (simp [*]; done)), H', ⟨by have := HK1.out; omega⟩, ⟨by (with_reducible repeat (first | apply Kd.R_alloc | apply Kd.R_drewN | apply Kd.R_drew)); exact HO_5.out⟩, ⟨by repeat (first | (with_reducible first | exact HB.out | apply below_alloc | apply pw_below_drewN | apply below_drew1) | exact HB.out)⟩⟩
      · rw [if_neg c4] at H
        have c4b0 : decide (x6_1 < (t113.length : Int)) = false := decide_eq_false c4
        clear c4
        obtain rfl := Option.some.inj H
        obtain ⟨Ao11, co11, eo11⟩ := Kd.R_slice HO_5.out
        subst eo11
        go_wp2
        go_ret
        exact ⟨by first | rfl | (simp [errW_none, errW_some] <;> rfl) | (simp [*, errW_none, errW_some] <;> rfl), by repeat (first | (with_reducible first | exact HB.out | apply below_alloc | apply pw_below_drewN | apply below_drew1) | exact HB.out)⟩

end Go.Proofs.YteahlapoeiikoaaDoor.P

/-
  The document's answer for chapter 11 (decanterref11), as plain functions of lists. No condition but sizes.
-/

namespace Go.Proofs.YteahlapoeiikoaaDoor.Pure
open Go.RowKit Go.Proofs.YteahlapoeiikoaaDoor.P Go.Proofs.YteahlapoeiikoaaDoorW.PrintWords Go.Proofs.YteahlapoeiikoaaDoorW.PrintLast

theorem wrap_id {i : Int} (h0 : -4611686018427387904 ≤ i) (h : i ≤ 4611686018427387904) : wrap64 i = i := by
  unfold wrap64; omega

theorem bt_get (s : ByteArray) (i : Nat) (h : i < s.size) : bt s (i : Int) = ((s.data.toList[i]'(by rw [← Lib.size_eq]; exact h)).toNat : Int) := by
  unfold bt
  rw [dif_pos (by simpa using h)]
  rfl

theorem data_append (a b : ByteArray) : (a ++ b).data.toList = a.data.toList ++ b.data.toList := by
  rw [ByteArray.data_append]; simp

/-- Is a name one word? -/
def oneB (x : ByteArray) : Bool := decide (0 < x.size) && x.data.toList.all (· != 32)

theorem u8_32 (c : UInt8) : ((c.toNat : Int) = 32) ↔ c = 32 := by
  constructor
  · intro h
    have : c.toNat = (32 : UInt8).toNat := by simpa using (by omega : c.toNat = 32)
    exact UInt8.toNat_inj.1 this
  · rintro rfl; rfl

theorem one_loop (x : ByteArray) (hx : x.size ≤ 4611686018427387903) (d : Nat) : ∀ (k i : Nat), i ≤ x.size → x.size - i = d → d < k →
    decanterref11_one.l0 k x (i : Int) = some (decide (0 < x.size) && (x.data.toList.drop i).all (· != 32)) := by
  induction d with
  | zero =>
    intro k i hi hd hk
    obtain ⟨k, rfl⟩ : ∃ m, k = m + 1 := ⟨k - 1, by omega⟩
    simp only [decanterref11_one.l0]
    rw [if_neg (by omega), List.drop_eq_nil_of_le (by rw [← Lib.size_eq]; omega)]
    have e : decide ((x.size : Int) > 0) = decide (0 < x.size) := by rw [decide_eq_decide]; omega
    rw [e]
    simp
  | succ d ih =>
    intro k i hi hd hk
    obtain ⟨k, rfl⟩ : ∃ m, k = m + 1 := ⟨k - 1, by omega⟩
    have hlt : i < x.size := by omega
    have hl : i < x.data.toList.length := by rw [← Lib.size_eq]; exact hlt
    simp only [decanterref11_one.l0]
    rw [if_pos (by omega), if_pos (by omega), bt_get x i hlt, List.drop_eq_getElem_cons hl, List.all_cons]
    have hih := ih k (i + 1) (by omega) (by omega) (by omega)
    rw [wrap_id (by omega) (by omega)]
    by_cases h : x.data.toList[i] = 32
    · rw [if_pos ((u8_32 _).2 h), h]
      simp
    · rw [if_neg (fun e => h ((u8_32 _).1 e))]
      have hb : (x.data.toList[i] != 32) = true := by simpa using h
      rw [hb, Bool.true_and]
      exact hih

theorem one_tells (x : ByteArray) (hx : x.size ≤ 4611686018427387903) (k : Nat) (hk : x.size < k) : decanterref11_one.f k x = some (oneB x) := by
  have := one_loop x hx x.size k 0 (by omega) (by omega) hk
  simpa [decanterref11_one.f, oneB] using this

/-- Does p stand in s at a place from i on? -/
def StandsFrom (s p : List UInt8) (i : Nat) : Prop := ∃ j, i ≤ j ∧ j + p.length ≤ s.length ∧ (s.drop j).take p.length = p

open Classical in
theorem in_loop (s p : ByteArray) (hs : s.size ≤ 1152921504606846976) (hp : p.size ≤ 1152921504606846976) (d : Nat) : ∀ (k i : Nat), i ≤ s.size + 1 → s.size + 1 - i = d → d < k →
    decanterref11_in.l0 k s p (i : Int) = some (decide (StandsFrom s.data.toList p.data.toList i)) := by
  induction d with
  | zero =>
    intro k i hi hd hk
    obtain ⟨k, rfl⟩ : ∃ m, k = m + 1 := ⟨k - 1, by omega⟩
    simp only [decanterref11_in.l0]
    rw [wrap_id (by omega) (by omega), if_neg (by omega)]
    have : ¬ StandsFrom s.data.toList p.data.toList i := by
      rintro ⟨j, h1, h2, _⟩
      rw [← Lib.size_eq, ← Lib.size_eq] at h2
      omega
    simp [this]
  | succ d ih =>
    intro k i hi hd hk
    obtain ⟨k, rfl⟩ : ∃ m, k = m + 1 := ⟨k - 1, by omega⟩
    have hih := ih k (i + 1) (by omega) (by omega) (by omega)
    simp only [decanterref11_in.l0]
    rw [wrap_id (by omega) (by omega), wrap_id (by omega) (by omega)]
    by_cases h : i + p.size ≤ s.size
    · rw [if_pos (by omega), if_pos (by omega), if_pos (by omega)]
      have e1 : ((i : Int) + (p.size : Int)).toNat = i + p.size := by omega
      have e2 : ((i : Int)).toNat = i := by omega
      rw [e1, e2, Lib.extract_toList, Lib.toList_data]
      have e3 : i + p.size - i = p.data.toList.length := by rw [← Lib.size_eq]; omega
      rw [e3]
      by_cases hc : (s.data.toList.drop i).take p.data.toList.length = p.data.toList
      · rw [if_pos hc]
        have : StandsFrom s.data.toList p.data.toList i := ⟨i, Nat.le_refl _, by rw [← Lib.size_eq, ← Lib.size_eq]; exact h, hc⟩
        simp [this]
      · rw [if_neg hc]
        have e4 : ((i : Int) + 1) = ((i + 1 : Nat) : Int) := by omega
        rw [e4, hih]
        congr 1
        rw [decide_eq_decide]
        constructor
        · rintro ⟨j, h1, h2, h3⟩; exact ⟨j, by omega, h2, h3⟩
        · rintro ⟨j, h1, h2, h3⟩
          refine ⟨j, ?_, h2, h3⟩
          rcases Nat.lt_or_ge i j with h4 | h4
          · omega
          · obtain rfl : j = i := by omega
            exact absurd h3 hc
    · rw [if_neg (by omega)]
      have : ¬ StandsFrom s.data.toList p.data.toList i := by
        rintro ⟨j, h1, h2, _⟩
        rw [← Lib.size_eq, ← Lib.size_eq] at h2
        omega
      simp [this]

theorem stands_infix (s p : List UInt8) : StandsFrom s p 0 ↔ p <:+: s := by
  constructor
  · rintro ⟨j, _, _, h3⟩
    refine ⟨s.take j, (s.drop j).drop p.length, ?_⟩
    have e : (s.drop j) = p ++ (s.drop j).drop p.length := by
      conv => lhs; rw [← List.take_append_drop p.length (s.drop j)]
      rw [h3]
    rw [List.append_assoc, ← e, List.take_append_drop]
  · rintro ⟨a, b, rfl⟩
    refine ⟨a.length, Nat.zero_le _, by simp, ?_⟩
    simp [List.append_assoc]

open Classical in
theorem in_tells (s p : ByteArray) (hs : s.size ≤ 1152921504606846976) (hp : p.size ≤ 1152921504606846976) (k : Nat) (hk : s.size + 1 < k) :
    decanterref11_in.f k s p = some (decide (p.data.toList <:+: s.data.toList)) := by
  have := in_loop s p hs hp (s.size + 1) k 0 (by omega) (by omega) hk
  rw [decanterref11_in.f]
  have e : (0 : Int) = ((0 : Nat) : Int) := rfl
  rw [e, this]
  congr 1
  rw [decide_eq_decide]
  exact stands_infix _ _

/-- Words with a blank behind each. -/
def joined (ws : List (List UInt8)) : List UInt8 := (ws.map (· ++ [32])).flatten
/-- Two words without blanks, each with a blank behind: one begins the other just if they are one. -/
theorem word_prefix {x w t : List UInt8} (hx : 32 ∉ x) (hw : 32 ∉ w) : x ++ [32] <+: w ++ 32 :: t ↔ x = w := by
  constructor
  · intro h
    induction x generalizing w with
    | nil =>
      cases w with
      | nil => rfl
      | cons c w =>
        obtain ⟨r, hr⟩ := h
        simp at hr
        exact absurd (by rw [hr.1]; simp) hw
    | cons c x ih =>
      cases w with
      | nil =>
        obtain ⟨r, hr⟩ := h
        simp at hr
        exact absurd (by rw [hr.1]; simp) hx
      | cons c' w =>
        obtain ⟨r, hr⟩ := h
        simp at hr
        obtain ⟨rfl, hr⟩ := hr
        have e := ih (w := w) (fun hm => hx (by simp [hm])) (fun hm => hw (by simp [hm])) ⟨r, by simpa using hr⟩
        rw [e]
  · rintro rfl
    exact ⟨t, by simp⟩

theorem infix_skip {p w t : List UInt8} (hw : 32 ∉ w) : (32 :: p) <:+: w ++ t ↔ (32 :: p) <:+: t := by
  induction w with
  | nil => rfl
  | cons c w ih =>
    rw [List.cons_append, List.infix_cons_iff, ih (fun h => hw (by simp [h]))]
    constructor
    · rintro (⟨r, hr⟩ | h)
      · simp at hr
        exact absurd (by rw [hr.1]; simp) hw
      · exact h
    · exact .inr

/-- A word with blanks around it stands in words with blanks around them, just if it is one of them. -/
theorem word_in {x : List UInt8} (hx : 32 ∉ x) : ∀ (ws : List (List UInt8)), (∀ w ∈ ws, 32 ∉ w) → ((32 :: (x ++ [32])) <:+: 32 :: joined ws ↔ x ∈ ws)
  | [], _ => by
    constructor
    · rintro ⟨a, b, h⟩
      have := congrArg List.length h
      simp [joined] at this
      omega
    · intro h; cases h
  | w :: ws, hw => by
    have ih := word_in hx ws (fun v hv => hw v (by simp [hv]))
    have e : joined (w :: ws) = w ++ 32 :: joined ws := by simp [joined]
    rw [List.infix_cons_iff, e, infix_skip (hw w (by simp)), ih, List.mem_cons]
    constructor
    · rintro (h | h)
      · exact .inl ((word_prefix hx (hw w (by simp))).1 ((List.prefix_cons_inj 32).1 h))
      · exact .inr h
    · rintro (h | h)
      · exact .inl ((List.prefix_cons_inj 32).2 ((word_prefix hx (hw w (by simp))).2 h))
      · exact .inr h
end Go.Proofs.YteahlapoeiikoaaDoor.Pure

/-
  The document's answer for chapter 11 (decanterref11): Is and Of, by the lists of words; and the program's table beside it. No condition but sizes.
-/

namespace Go.Proofs.YteahlapoeiikoaaDoor.Pure
open Go.RowKit Go.Proofs.YteahlapoeiikoaaDoor.P Go.Proofs.YteahlapoeiikoaaDoorW.PrintWords Go.Proofs.YteahlapoeiikoaaDoorW.PrintLast

/-- The names of the k-th list. -/
def words : Nat → List (List UInt8)
  | 0 => [[97, 114, 101, 97], [98, 97, 115, 101], [98, 97, 115, 101, 102, 111, 110, 116], [98, 103, 115, 111, 117, 110, 100], [98, 114], [101, 109, 98, 101, 100], [104, 114], [105, 109, 103], [105, 110, 112, 117, 116], [107, 101, 121, 103, 101, 110], [108, 105, 110, 107], [109, 101, 116, 97], [112, 97, 114, 97, 109], [115, 111, 117, 114, 99, 101], [116, 114, 97, 99, 107], [119, 98, 114]]
  | 1 => [[97, 100, 100, 114, 101, 115, 115], [97, 114, 116, 105, 99, 108, 101], [97, 115, 105, 100, 101], [98, 108, 111, 99, 107, 113, 117, 111, 116, 101], [99, 101, 110, 116, 101, 114], [100, 100], [100, 101, 116, 97, 105, 108, 115], [100, 105, 97, 108, 111, 103], [100, 105, 114], [100, 105, 118], [100, 108], [100, 116], [102, 105, 101, 108, 100, 115, 101, 116], [102, 105, 103, 99, 97, 112, 116, 105, 111, 110], [102, 105, 103, 117, 114, 101], [102, 111, 111, 116, 101, 114], [102, 111, 114, 109], [104, 49], [104, 50], [104, 51], [104, 52], [104, 53], [104, 54], [104, 101, 97, 100, 101, 114], [104, 103, 114, 111, 117, 112], [104, 114], [108, 105], [108, 105, 115, 116, 105, 110, 103], [109, 97, 105, 110], [109, 101, 110, 117], [110, 97, 118], [111, 108], [112], [112, 108, 97, 105, 110, 116, 101, 120, 116], [112, 114, 101], [115, 101, 99, 116, 105, 111, 110], [115, 117, 109, 109, 97, 114, 121], [116, 97, 98, 108, 101], [117, 108], [120, 109, 112]]
  | 2 => [[104, 49], [104, 50], [104, 51], [104, 52], [104, 53], [104, 54]]
  | 3 => [[97], [98], [98, 105, 103], [99, 111, 100, 101], [101, 109], [102, 111, 110, 116], [105], [110, 111, 98, 114], [115], [115, 109, 97, 108, 108], [115, 116, 114, 105, 107, 101], [115, 116, 114, 111, 110, 103], [116, 116], [117]]
  | 4 => [[97, 100, 100, 114, 101, 115, 115], [97, 112, 112, 108, 101, 116], [97, 114, 101, 97], [97, 114, 116, 105, 99, 108, 101], [97, 115, 105, 100, 101], [98, 97, 115, 101], [98, 97, 115, 101, 102, 111, 110, 116], [98, 103, 115, 111, 117, 110, 100], [98, 108, 111, 99, 107, 113, 117, 111, 116, 101], [98, 114], [98, 117, 116, 116, 111, 110], [99, 101, 110, 116, 101, 114], [100, 100], [100, 101, 116, 97, 105, 108, 115], [100, 105, 114], [100, 105, 118], [100, 108], [100, 116], [101, 109, 98, 101, 100], [102, 105, 101, 108, 100, 115, 101, 116], [102, 105, 103, 99, 97, 112, 116, 105, 111, 110], [102, 105, 103, 117, 114, 101], [102, 111, 111, 116, 101, 114], [102, 111, 114, 109], [104, 49], [104, 50], [104, 51], [104, 52], [104, 53], [104, 54], [104, 101, 97, 100, 101, 114], [104, 103, 114, 111, 117, 112], [104, 114], [105, 102, 114, 97, 109, 101], [105, 109, 103], [105, 110, 112, 117, 116], [107, 101, 121, 103, 101, 110], [108, 105], [108, 105, 110, 107], [108, 105, 115, 116, 105, 110, 103], [109, 97, 105, 110], [109, 97, 114, 113, 117, 101, 101], [109, 101, 110, 117], [109, 101, 116, 97], [110, 97, 118], [110, 111, 101, 109, 98, 101, 100], [110, 111, 102, 114, 97, 109, 101, 115], [111, 98, 106, 101, 99, 116], [111, 108], [112], [112, 97, 114, 97, 109], [112, 108, 97, 105, 110, 116, 101, 120, 116], [112, 114, 101], [115, 99, 114, 105, 112, 116], [115, 101, 99, 116, 105, 111, 110], [115, 101, 108, 101, 99, 116], [115, 111, 117, 114, 99, 101], [115, 116, 121, 108, 101], [115, 117, 109, 109, 97, 114, 121], [116, 97, 98, 108, 101], [116, 101, 109, 112, 108, 97, 116, 101], [116, 101, 120, 116, 97, 114, 101, 97], [116, 105, 116, 108, 101], [116, 114, 97, 99, 107], [117, 108], [119, 98, 114], [120, 109, 112]]
  | 5 => [[97, 112, 112, 108, 101, 116], [109, 97, 114, 113, 117, 101, 101], [111, 98, 106, 101, 99, 116], [116, 97, 98, 108, 101], [116, 101, 109, 112, 108, 97, 116, 101]]
  | 6 => [[98, 111, 100, 121], [99, 97, 112, 116, 105, 111, 110], [99, 111, 108], [99, 111, 108, 103, 114, 111, 117, 112], [102, 114, 97, 109, 101], [102, 114, 97, 109, 101, 115, 101, 116], [104, 101, 97, 100], [104, 116, 109, 108], [116, 98, 111, 100, 121], [116, 100], [116, 102, 111, 111, 116], [116, 104], [116, 104, 101, 97, 100], [116, 114]]
  | 7 => [[100, 100], [100, 116], [108, 105], [111, 112, 116, 103, 114, 111, 117, 112], [111, 112, 116, 105, 111, 110], [112], [114, 98], [114, 112], [114, 116], [114, 116, 99]]
  | 8 => [[97, 112, 112, 108, 101, 116], [109, 97, 114, 113, 117, 101, 101], [111, 98, 106, 101, 99, 116]]
  | 9 => [[97], [97, 98, 98, 114], [97, 100, 100, 114, 101, 115, 115], [97, 114, 116, 105, 99, 108, 101], [97, 115, 105, 100, 101], [98], [98, 100, 105], [98, 100, 111], [98, 105, 103], [98, 108, 111, 99, 107, 113, 117, 111, 116, 101], [98, 114], [99, 101, 110, 116, 101, 114], [99, 105, 116, 101], [99, 111, 100, 101], [100, 100], [100, 101, 108], [100, 102, 110], [100, 105, 114], [100, 105, 118], [100, 108], [100, 116], [101, 109], [102, 105, 103, 99, 97, 112, 116, 105, 111, 110], [102, 105, 103, 117, 114, 101], [102, 111, 110, 116], [102, 111, 111, 116, 101, 114], [104, 49], [104, 50], [104, 51], [104, 52], [104, 53], [104, 54], [104, 101, 97, 100, 101, 114], [104, 114], [105], [105, 109, 103], [105, 110, 115], [107, 98, 100], [108, 105], [109, 97, 105, 110], [109, 97, 114, 107], [110, 97, 118], [111, 108], [112], [112, 114, 101], [113], [115], [115, 97, 109, 112], [115, 101, 99, 116, 105, 111, 110], [115, 109, 97, 108, 108], [115, 112, 97, 110], [115, 116, 114, 105, 107, 101], [115, 116, 114, 111, 110, 103], [115, 117, 98], [115, 117, 112], [116, 105, 109, 101], [116, 116], [117], [117, 108], [118, 97, 114], [119, 98, 114]]
  | _ => []

/-- The document's lists. -/
def refL : List ByteArray := (decanterref11_Lists.f).getD []
theorem lists_eq : decanterref11_Lists.f = some refL := rfl
set_option maxRecDepth 100000 in
theorem refL_len : refL.length = 10 := by decide +kernel
set_option maxRecDepth 100000 in
theorem refL_at : ∀ i : Fin 10, ((refL.getD i.1 ByteArray.empty).data.toList = 32 :: joined (words i.1)) ∧ (refL.getD i.1 ByteArray.empty).size ≤ 600 := by decide +kernel
set_option maxRecDepth 100000 in
theorem words_plain : ∀ i : Fin 10, ∀ w ∈ words i.1, (32 : UInt8) ∉ w ∧ w ≠ [] := by decide +kernel

/-- What lists i, .., i + d - 1 give to a name. -/
def sumF : Nat → Nat → List UInt8 → Int
  | 0, _, _ => 0
  | d + 1, i, l => (if l ∈ words i then 2 ^ i else 0) + sumF d (i + 1) l

set_option maxRecDepth 100000 in
theorem tab_sum : ∀ p ∈ ktab, p.2 = sumF 10 0 p.1 := by decide +kernel
set_option maxRecDepth 100000 in
theorem words_tab : ∀ i : Fin 10, ∀ w ∈ words i.1, ktab.any (fun p => p.1 == w) = true := by decide +kernel

theorem words_ge (i : Nat) (h : 10 ≤ i) : words i = [] := by
  unfold words
  split <;> first | omega | rfl

theorem not_words {l : List UInt8} (h : ktab.find? (fun p => p.1 == l) = none) (i : Nat) : l ∉ words i := by
  intro hm
  by_cases hi : i < 10
  · have h1 := words_tab ⟨i, hi⟩ l hm
    rw [List.any_eq_true] at h1
    obtain ⟨p, hp, he⟩ := h1
    have := List.find?_eq_none.1 h p hp
    exact this he
  · rw [words_ge i (by omega)] at hm
    cases hm

theorem sumF_none {l : List UInt8} (h : ∀ i, l ∉ words i) : ∀ d i, sumF d i l = 0
  | 0, _ => rfl
  | d + 1, i => by rw [sumF, if_neg (h i), sumF_none h d (i + 1)]; rfl

theorem kind_sum (x : ByteArray) : kindOf x = sumF 10 0 x.data.toList := by
  unfold kindOf
  cases h : ktab.find? (fun p => p.1 == x.data.toList) with
  | none => exact (sumF_none (not_words h) 10 0).symm
  | some p =>
    have h1 := List.mem_of_find?_eq_some h
    have h2 := List.find?_some h
    have h3 : p.1 = x.data.toList := by simpa using h2
    rw [← h3]
    exact tab_sum p h1

theorem sumF_range : ∀ d i l, 0 ≤ sumF d i l ∧ sumF d i l ≤ 2 ^ (i + d) - 2 ^ i
  | 0, i, l => by simp [sumF]
  | d + 1, i, l => by
    have ih := sumF_range d (i + 1) l
    have e1 : (2 : Int) ^ (i + 1) = 2 * 2 ^ i := by rw [Int.pow_succ]; omega
    have e2 : i + 1 + d = i + (d + 1) := by omega
    have e3 : (0 : Int) < 2 ^ i := Int.pow_pos (by decide)
    rw [e2] at ih
    rw [sumF]
    split <;> omega

theorem kind_range (x : ByteArray) : 0 ≤ kindOf x ∧ kindOf x ≤ 1023 := by
  rw [kind_sum]
  have := sumF_range 10 0 x.data.toList
  simpa using this

theorem one_word {x : ByteArray} (h : oneB x = true) : 0 < x.size ∧ (32 : UInt8) ∉ x.data.toList := by
  unfold oneB at h
  rw [Bool.and_eq_true, decide_eq_true_eq, List.all_eq_true] at h
  exact ⟨h.1, fun hm => by simpa using h.2 32 hm⟩

theorem refIs (x : ByteArray) (hx : x.size ≤ 1152921504606846000) (i : Nat) (hi : i < 10) (k : Nat) (hk : x.size + 1000 ≤ k) :
    decanterref11_Is.f k x (i : Int) = some (decide (x.data.toList ∈ words i)) := by
  obtain ⟨hL, hS⟩ := refL_at ⟨i, hi⟩
  dsimp only at hL hS
  rw [decanterref11_Is.f, one_tells x (by omega) k (by omega)]
  simp only [Option.bind_some]
  cases h1 : oneB x with
  | false =>
    rw [if_neg (by decide)]
    have : x.data.toList ∉ words i := by
      intro hm
      have h2 := words_plain ⟨i, hi⟩ _ hm
      have h3 : oneB x = true := by
        unfold oneB
        rw [Bool.and_eq_true, decide_eq_true_eq, List.all_eq_true]
        refine ⟨?_, fun c hc => ?_⟩
        · rw [Lib.size_eq]
          exact List.length_pos_iff.2 h2.2
        · have : c ≠ 32 := fun e => h2.1 (e ▸ hc)
          simpa using this
      rw [h1] at h3
      cases h3
    simp [this]
  | true =>
    obtain ⟨h0, h32⟩ := one_word h1
    have e32 : (⟨#[32]⟩ : ByteArray).size = 1 := rfl
    rw [if_pos rfl, lists_eq]
    simp only [Option.bind_some]
    rw [if_pos (by omega), if_pos (by rw [refL_len]; omega), if_pos (by omega), if_pos (by rw [ByteArray.size_append, e32]; omega)]
    have er : rdOf ByteArray.empty refL (i : Int) = refL.getD i ByteArray.empty := by unfold rdOf; rw [Int.toNat_natCast]
    rw [er, in_tells _ _ (by omega) (by rw [ByteArray.size_append, ByteArray.size_append, e32]; omega) k (by omega)]
    simp only [Option.bind_some]
    congr 1
    rw [decide_eq_decide, data_append, data_append, hL]
    exact word_in h32 (words i) (fun w hw => (words_plain ⟨i, hi⟩ w hw).1)

theorem refOf_loop (x : ByteArray) (hx : x.size ≤ 1152921504606846000) (d : Nat) : ∀ (k i : Nat) (n : Int), i + d = 10 → 0 ≤ n → n < 2 ^ i → x.size + 1000 + d < k →
    decanterref11_Of.l0 k x n (2 ^ i) refL (i : Int) = some (n + sumF d i x.data.toList) := by
  induction d with
  | zero =>
    intro k i n hi h0 h1 hk
    obtain ⟨k, rfl⟩ : ∃ m, k = m + 1 := ⟨k - 1, by omega⟩
    simp only [decanterref11_Of.l0]
    rw [if_neg (by rw [refL_len]; omega), sumF, Int.add_zero]
  | succ d ih =>
    intro k i n hi h0 h1 hk
    obtain ⟨k, rfl⟩ : ∃ m, k = m + 1 := ⟨k - 1, by omega⟩
    have hp : (2 : Int) ^ i ≤ 512 := by
      have : i ≤ 9 := by omega
      match i, this with
      | 0, _ | 1, _ | 2, _ | 3, _ | 4, _ | 5, _ | 6, _ | 7, _ | 8, _ | 9, _ => decide
    have hq : (0 : Int) < 2 ^ i := Int.pow_pos (by decide)
    have e1 : (2 : Int) ^ i * 2 = 2 ^ (i + 1) := (Int.pow_succ _ _).symm
    have e2 : ((i : Int) + 1) = ((i + 1 : Nat) : Int) := by omega
    simp only [decanterref11_Of.l0]
    rw [if_pos (by rw [refL_len]; omega), refIs x hx i (by omega) k (by omega)]
    simp only [Option.bind_some]
    rw [wrap_id (by omega) (by omega), wrap_id (by omega) (by omega), wrap_id (by omega) (by omega), e1, e2, sumF]
    by_cases hm : x.data.toList ∈ words i
    · rw [if_pos (by simpa using hm), if_pos hm, ih k (i + 1) (n + 2 ^ i) (by omega) (by omega) (by omega) (by omega)]
      congr 1
      omega
    · rw [if_neg (by simpa using hm), if_neg hm, ih k (i + 1) n (by omega) (by omega) (by omega) (by omega)]
      congr 1
      omega

theorem refOf (x : ByteArray) (hx : x.size ≤ 1152921504606846000) (k : Nat) (hk : x.size + 1020 ≤ k) : decanterref11_Of.f k x = some (kindOf x) := by
  rw [decanterref11_Of.f, lists_eq]
  simp only [Option.bind_some]
  have := refOf_loop x hx 10 k 0 0 (by omega) (by omega) (by decide) (by omega)
  rw [kind_sum]
  simpa using this
end Go.Proofs.YteahlapoeiikoaaDoor.Pure


-- Printed by a program of this session (wip/myprint.py over the kit's print).
namespace Go.Proofs.YteahlapoeiikoaaDoor.P
open Go.RowKit Go.Proofs.YteahlapoeiikoaaDoorW.PrintWords Go.Proofs.YteahlapoeiikoaaDoorW.PrintLast Go.Proofs.YteahlapoeiikoaaDoorW.PrintMore
attribute [local go_sem] max2_int min2_int max_two min_two max_three min_three max_four min_four   -- for this text's walks alone
set_option linter.unusedVariables false
set_option linter.unusedSimpArgs false

/-! ### decanterlaw11_speaks: function 13 -/
def decanterlaw11_speaks.f  : Option (Bool) := (kind_Of.f (⟨#[112]⟩ : ByteArray)).bind fun t101 => (if t101 = 658 then ((kind_Is.f (⟨#[112]⟩ : ByteArray) 512).bind fun t102 => (if t102 = true then ((kind_Is.f (⟨#[112]⟩ : ByteArray) 1).bind fun t103 => (some (!t103))) else (some false))) else (some false))
set_option maxHeartbeats 8000000 in
set_option maxRecDepth 100000 in
theorem decanterlaw11_speaks.calls  (r : Bool) (w : World) (hG : GW w) (h : decanterlaw11_speaks.f  = some r) :
    Calls Tryd.prog 13 #[] w fun e w' => e = .returned (.bool r) ∧ Below w.heap.size w w' := by
  have HG := Aside0.mk hG
  clear hG
  have HB := Aside0.mk (Below.refl w.heap.size w)
  have H : ((kind_Of.f (⟨#[112]⟩ : ByteArray)).bind fun t101 => (if t101 = 658 then ((kind_Is.f (⟨#[112]⟩ : ByteArray) 512).bind fun t102 => (if t102 = true then ((kind_Is.f (⟨#[112]⟩ : ByteArray) 1).bind fun t103 => (some (!t103))) else (some false))) else (some false))) = some r := h
  clear h
  replace H := Option.bind_eq_some_iff.mp H
  obtain ⟨t101, A10, H⟩ := H
  replace H : (if t101 = 658 then ((kind_Is.f (⟨#[112]⟩ : ByteArray) 512).bind fun t102 => (if t102 = true then ((kind_Is.f (⟨#[112]⟩ : ByteArray) 1).bind fun t103 => (some (!t103))) else (some false))) else (some false)) = some r := H
  have A1 := Aside0.mk A10
  clear A10
  by_cases c2 : t101 = 658
  · rw [if_pos c2] at H
    have c2b0 : (t101 == 658) = true := beq_iff_eq.mpr c2
    have c2b1 : (t101 != 658) = false := bne_eq_false_iff_eq.mpr c2
    clear c2
    replace H := Option.bind_eq_some_iff.mp H
    obtain ⟨t102, A30, H⟩ := H
    replace H : (if t102 = true then ((kind_Is.f (⟨#[112]⟩ : ByteArray) 1).bind fun t103 => (some (!t103))) else (some false)) = some r := H
    have A3 := Aside0.mk A30
    clear A30
    by_cases c4 : t102 = true
    · subst c4
      have H1 : ((kind_Is.f (⟨#[112]⟩ : ByteArray) 1).bind fun t103 => (some (!t103))) = some r := by rw [if_pos rfl] at H; exact H
      clear H
      have H := H1
      clear H1
      replace H := Option.bind_eq_some_iff.mp H
      obtain ⟨t103, A50, H⟩ := H
      replace H : (some (!t103)) = some r := H
      have A5 := Aside0.mk A50
      clear A50
      obtain rfl := Option.some.inj H
      go_enter Tryd.func13, Tryd.ntmps13
      go_wp2_with (first | ((with_reducible refine gate_callee (f := 15) rfl ?_); refine goesL_ (some 1) rfl rfl Tryd.func15 (by kernel_rfl) rfl #[.string (⟨#[112]⟩ : ByteArray)] rfl (by (try simp only [List.map_toArray, List.map_cons, List.map_nil]); first | done | rfl | (simp only [List.length_drop, List.length_take]; rfl)) ?_; (with_reducible refine (kind_Of.calls (⟨#[112]⟩ : ByteArray) t101 _ ?side1 A1.out).mono ?_); (case side1 => exact GW.below HG.out (by repeat (first | (with_reducible first | exact HB.out | apply below_alloc | apply pw_below_drewN | apply below_drew1) | exact HB.out))); rintro e w6 ⟨rfl, hb⟩; refine ⟨_, rfl, ?_⟩; have n0_ := Aside0.mk (below_step (by repeat (first | (with_reducible first | exact HB.out | apply below_alloc | apply pw_below_drewN | apply below_drew1) | exact HB.out)) hb); clear HB; have HB := n0_; clear n0_; (try clear hb); (try clear hb2); (try clear hk); (try clear hi)) | (go_at_call 16; (with_reducible refine (kind_Is.calls (⟨#[112]⟩ : ByteArray) 512 true _ ?side1 A3.out).mono ?_); (case side1 => exact GW.below HG.out (by repeat (first | (with_reducible first | exact HB.out | apply below_alloc | apply pw_below_drewN | apply below_drew1) | exact HB.out))); rintro e w7 ⟨rfl, hb⟩; have n0_ := Aside0.mk (below_step (by repeat (first | (with_reducible first | exact HB.out | apply below_alloc | apply pw_below_drewN | apply below_drew1) | exact HB.out)) hb); clear HB; have HB := n0_; clear n0_; (try clear hb); (try clear hb2); (try clear hk); (try clear hi)) | (go_at_call 16; (with_reducible refine (kind_Is.calls (⟨#[112]⟩ : ByteArray) 1 t103 _ ?side1 A5.out).mono ?_); (case side1 => exact GW.below HG.out (by repeat (first | (with_reducible first | exact HB.out | apply below_alloc | apply pw_below_drewN | apply below_drew1) | exact HB.out))); rintro e w8 ⟨rfl, hb⟩; have n0_ := Aside0.mk (below_step (by repeat (first | (with_reducible first | exact HB.out | apply below_alloc | apply pw_below_drewN | apply below_drew1) | exact HB.out)) hb); clear HB; have HB := n0_; clear n0_; (try clear hb); (try clear hb2); (try clear hk); (try clear hi)))
      go_ret
      exact ⟨by first | rfl | (simp [errW_none, errW_some] <;> rfl) | (simp [*, errW_none, errW_some] <;> rfl), by repeat (first | (with_reducible first | exact HB.out | apply below_alloc | apply pw_below_drewN | apply below_drew1) | exact HB.out)⟩
    · replace c4 := Bool.eq_false_iff.mpr c4
      subst c4
      have H1 : (some false) = some r := by rw [if_neg (show ¬ (false = true) by decide)] at H; exact H
      clear H
      have H := H1
      clear H1
      obtain rfl := Option.some.inj H
      go_enter Tryd.func13, Tryd.ntmps13
      go_wp2_with (first | ((with_reducible refine gate_callee (f := 15) rfl ?_); refine goesL_ (some 1) rfl rfl Tryd.func15 (by kernel_rfl) rfl #[.string (⟨#[112]⟩ : ByteArray)] rfl (by (try simp only [List.map_toArray, List.map_cons, List.map_nil]); first | done | rfl | (simp only [List.length_drop, List.length_take]; rfl)) ?_; (with_reducible refine (kind_Of.calls (⟨#[112]⟩ : ByteArray) t101 _ ?side1 A1.out).mono ?_); (case side1 => exact GW.below HG.out (by repeat (first | (with_reducible first | exact HB.out | apply below_alloc | apply pw_below_drewN | apply below_drew1) | exact HB.out))); rintro e w9 ⟨rfl, hb⟩; refine ⟨_, rfl, ?_⟩; have n0_ := Aside0.mk (below_step (by repeat (first | (with_reducible first | exact HB.out | apply below_alloc | apply pw_below_drewN | apply below_drew1) | exact HB.out)) hb); clear HB; have HB := n0_; clear n0_; (try clear hb); (try clear hb2); (try clear hk); (try clear hi)) | (go_at_call 16; (with_reducible refine (kind_Is.calls (⟨#[112]⟩ : ByteArray) 512 false _ ?side1 A3.out).mono ?_); (case side1 => exact GW.below HG.out (by repeat (first | (with_reducible first | exact HB.out | apply below_alloc | apply pw_below_drewN | apply below_drew1) | exact HB.out))); rintro e w10 ⟨rfl, hb⟩; have n0_ := Aside0.mk (below_step (by repeat (first | (with_reducible first | exact HB.out | apply below_alloc | apply pw_below_drewN | apply below_drew1) | exact HB.out)) hb); clear HB; have HB := n0_; clear n0_; (try clear hb); (try clear hb2); (try clear hk); (try clear hi)))
      go_ret
      exact ⟨by first | rfl | (simp [errW_none, errW_some] <;> rfl) | (simp [*, errW_none, errW_some] <;> rfl), by repeat (first | (with_reducible first | exact HB.out | apply below_alloc | apply pw_below_drewN | apply below_drew1) | exact HB.out)⟩
  · rw [if_neg c2] at H
    have c2b0 : (t101 == 658) = false := beq_eq_false_iff_ne.mpr c2
    have c2b1 : (t101 != 658) = true := bne_iff_ne.mpr c2
    obtain rfl := Option.some.inj H
    go_enter Tryd.func13, Tryd.ntmps13
    go_wp2_with (first | ((with_reducible refine gate_callee (f := 15) rfl ?_); refine goesL_ (some 1) rfl rfl Tryd.func15 (by kernel_rfl) rfl #[.string (⟨#[112]⟩ : ByteArray)] rfl (by (try simp only [List.map_toArray, List.map_cons, List.map_nil]); first | done | rfl | (simp only [List.length_drop, List.length_take]; rfl)) ?_; (with_reducible refine (kind_Of.calls (⟨#[112]⟩ : ByteArray) t101 _ ?side1 A1.out).mono ?_); (case side1 => exact GW.below HG.out (by repeat (first | (with_reducible first | exact HB.out | apply below_alloc | apply pw_below_drewN | apply below_drew1) | exact HB.out))); rintro e w11 ⟨rfl, hb⟩; refine ⟨_, rfl, ?_⟩; have n0_ := Aside0.mk (below_step (by repeat (first | (with_reducible first | exact HB.out | apply below_alloc | apply pw_below_drewN | apply below_drew1) | exact HB.out)) hb); clear HB; have HB := n0_; clear n0_; (try clear hb); (try clear hb2); (try clear hk); (try clear hi)))
    go_ret
    exact ⟨by first | rfl | (simp [errW_none, errW_some] <;> rfl) | (simp [*, errW_none, errW_some] <;> rfl), by repeat (first | (with_reducible first | exact HB.out | apply below_alloc | apply pw_below_drewN | apply below_drew1) | exact HB.out)⟩

end Go.Proofs.YteahlapoeiikoaaDoor.P


-- Printed by a program of this session (wip/myprint.py over the kit's print).
namespace Go.Proofs.YteahlapoeiikoaaDoor.P
open Go.RowKit Go.Proofs.YteahlapoeiikoaaDoorW.PrintWords Go.Proofs.YteahlapoeiikoaaDoorW.PrintLast Go.Proofs.YteahlapoeiikoaaDoorW.PrintMore
attribute [local go_sem] max2_int min2_int max_two min_two max_three min_three max_four min_four   -- for this text's walks alone
set_option linter.unusedVariables false
set_option linter.unusedSimpArgs false

/-! ### decanterlaw11_KindTells: function 3 -/
def decanterlaw11_KindTells.j0 : Nat → ByteArray → Int → Bool → Option (Bool)
  | 0, _, _, _ => none
  | k + 1, x0, x1, x12 => if x12 = true then ((decanterlaw11_speaks.f).bind fun t118 => (some t118)) else ((decanterref11_Of.f k x0).bind fun t119 => ((kind_Of.f x0).bind fun t120 => (if t120 = t119 then ((kind_Is.f x0 x1).bind fun t121 => (some (t121 == ((Go.bits .and .i64 t119 x1) != 0)))) else (some false))))
def decanterlaw11_KindTells.f (k : Nat) (a0 : ByteArray) (a1 : Int) : Option (Bool) := (decanterlaw11_speaks.f).bind fun t117 => (if t117 = true then (decanterlaw11_KindTells.j0 k a0 a1 (decide ((a0.size : Int) > 60))) else (decanterlaw11_KindTells.j0 k a0 a1 true))
theorem decanterlaw11_KindTells.mono_l : ∀ k, (∀ y0 y1 y2, LeO (decanterlaw11_KindTells.j0 k y0 y1 y2) (decanterlaw11_KindTells.j0 (k + 1) y0 y1 y2))
  | 0 => fun _ _ _ r h => by simp [decanterlaw11_KindTells.j0] at h
  | k + 1 => by
    have ih0 := decanterlaw11_KindTells.mono_l k
    · intro y0 y1 y2
      unfold decanterlaw11_KindTells.j0
      repeat' first
      | (with_reducible exact ih0 _ _ _)
      | (with_reducible exact decanterref11_Of.mono _ _)
      | (with_reducible exact LeO.refl _)
      | (with_reducible exact LeO.none _)
      | (with_reducible refine LeO.ite ?_ ?_)
      | (with_reducible refine LeO.bind ?_ (fun _ => ?_))
      | exact ih0 _ _ _
      | exact decanterref11_Of.mono _ _
      | exact LeO.none _
      | refine LeO.ite ?_ ?_
      | refine LeO.bind ?_ (fun _ => ?_)
theorem decanterlaw11_KindTells.mono : ∀ a0 a1 k, LeO (decanterlaw11_KindTells.f k a0 a1) (decanterlaw11_KindTells.f (k + 1) a0 a1) := by
  intro a0 a1 k
  have ih0 := decanterlaw11_KindTells.mono_l k
  unfold decanterlaw11_KindTells.f
  repeat' first
      | (with_reducible exact ih0 _ _ _)
      | (with_reducible exact decanterref11_Of.mono _ _)
      | (with_reducible exact LeO.refl _)
      | (with_reducible exact LeO.none _)
      | (with_reducible refine LeO.ite ?_ ?_)
      | (with_reducible refine LeO.bind ?_ (fun _ => ?_))
      | exact ih0 _ _ _
      | exact decanterref11_Of.mono _ _
      | exact LeO.none _
      | refine LeO.ite ?_ ?_
      | refine LeO.bind ?_ (fun _ => ?_)
set_option maxHeartbeats 8000000 in
set_option maxRecDepth 100000 in
theorem decanterlaw11_KindTells.calls (k : Nat) (a0 : ByteArray) (a1 : Int) (r : Bool) (w : World) (hG : GW w) (h : decanterlaw11_KindTells.f k a0 a1 = some r) :
    Calls Tryd.prog 3 #[.string a0, .int .i64 a1] w fun e w' => e = .returned (.bool r) ∧ Below w.heap.size w w' := by
  have HG := Aside0.mk hG
  clear hG
  have HB := Aside0.mk (Below.refl w.heap.size w)
  have H : ((decanterlaw11_speaks.f).bind fun t117 => (if t117 = true then (decanterlaw11_KindTells.j0 k a0 a1 (decide ((a0.size : Int) > 60))) else (decanterlaw11_KindTells.j0 k a0 a1 true))) = some r := h
  clear h
  have HC3 := Aside0.mk H
  clear H
  go_enter Tryd.func3, Tryd.ntmps3
  go_upto_region 1 with (fail)
  go_cut [12] (fun v12 wc => ∃ (kq : Nat) (x12_2 : Bool), v12 = .bool x12_2 ∧ Aside0 (decanterlaw11_KindTells.j0 kq a0 a1 x12_2 = some r) ∧ Aside0 (kq ≤ k) ∧ Aside0 (Below w.heap.size w wc))
  case first =>
    have H := HC3.out
    clear HC3
    replace H := Option.bind_eq_some_iff.mp H
    obtain ⟨t117, A40, H⟩ := H
    replace H : (if t117 = true then (decanterlaw11_KindTells.j0 k a0 a1 (decide ((a0.size : Int) > 60))) else (decanterlaw11_KindTells.j0 k a0 a1 true)) = some r := H
    have A4 := Aside0.mk A40
    clear A40
    by_cases c5 : t117 = true
    · subst c5
      have H1 : (decanterlaw11_KindTells.j0 k a0 a1 (decide ((a0.size : Int) > 60))) = some r := by rw [if_pos rfl] at H; exact H
      clear H
      have H := H1
      clear H1
      have H' := Aside0.mk H
      clear H
      go_wp2_with (first | ((with_reducible refine gate_callee (f := 13) rfl ?_); refine goesL_ (some 6) rfl rfl Tryd.func13 (by kernel_rfl) rfl #[] rfl (by (try simp only [List.map_toArray, List.map_cons, List.map_nil]); first | done | rfl | (simp only [List.length_drop, List.length_take]; rfl)) ?_; (with_reducible refine (decanterlaw11_speaks.calls  true _ ?side1 A4.out).mono ?_); (case side1 => exact GW.below HG.out (by repeat (first | (with_reducible first | exact HB.out | apply below_alloc | apply pw_below_drewN | apply below_drew1) | exact HB.out))); rintro e w6 ⟨rfl, hb⟩; refine ⟨_, rfl, ?_⟩; have n0_ := Aside0.mk (below_step (by repeat (first | (with_reducible first | exact HB.out | apply below_alloc | apply pw_below_drewN | apply below_drew1) | exact HB.out)) hb); clear HB; have HB := n0_; clear n0_; (try clear hb); (try clear hb2); (try clear hk); (try clear hi)))
      go_meet
      case rel => exact ⟨_, (decide ((a0.size : Int) > 60)), (by first | rfl | (simp; done) | (simp [*]; done)), H', ⟨by first | omega | exact Nat.le_refl _⟩, ⟨by repeat (first | (with_reducible first | exact HB.out | apply below_alloc | apply pw_below_drewN | apply below_drew1) | exact HB.out)⟩⟩
    · replace c5 := Bool.eq_false_iff.mpr c5
      subst c5
      have H1 : (decanterlaw11_KindTells.j0 k a0 a1 true) = some r := by rw [if_neg (show ¬ (false = true) by decide)] at H; exact H
      clear H
      have H := H1
      clear H1
      have H' := Aside0.mk H
      clear H
      go_wp2_with (first | ((with_reducible refine gate_callee (f := 13) rfl ?_); refine goesL_ (some 6) rfl rfl Tryd.func13 (by kernel_rfl) rfl #[] rfl (by (try simp only [List.map_toArray, List.map_cons, List.map_nil]); first | done | rfl | (simp only [List.length_drop, List.length_take]; rfl)) ?_; (with_reducible refine (decanterlaw11_speaks.calls  false _ ?side1 A4.out).mono ?_); (case side1 => exact GW.below HG.out (by repeat (first | (with_reducible first | exact HB.out | apply below_alloc | apply pw_below_drewN | apply below_drew1) | exact HB.out))); rintro e w7 ⟨rfl, hb⟩; refine ⟨_, rfl, ?_⟩; have n0_ := Aside0.mk (below_step (by repeat (first | (with_reducible first | exact HB.out | apply below_alloc | apply pw_below_drewN | apply below_drew1) | exact HB.out)) hb); clear HB; have HB := n0_; clear n0_; (try clear hb); (try clear hb2); (try clear hk); (try clear hi)))
      go_meet
      case rel => exact ⟨_, (true), (by first | rfl | (simp; done) | (simp [*]; done)), H', ⟨by first | omega | exact Nat.le_refl _⟩, ⟨by repeat (first | (with_reducible first | exact HB.out | apply below_alloc | apply pw_below_drewN | apply below_drew1) | exact HB.out)⟩⟩
  case rest =>
    clear HC3
    try clear c1
    try clear p2
    try clear c3
    try clear c5
    obtain ⟨kq, x12_2, rfl, HA, HJ2, HB⟩ := hcut
    cases kq with
    | zero => exact absurd HA.out (by simp [decanterlaw11_KindTells.j0])
    | succ kj2 =>
      have H := HA.out
      clear HA
      simp only [decanterlaw11_KindTells.j0] at H
      by_cases c8 : x12_2 = true
      · subst c8
        have H1 : ((decanterlaw11_speaks.f).bind fun t118 => (some t118)) = some r := by rw [if_pos rfl] at H; exact H
        clear H
        have H := H1
        clear H1
        replace H := Option.bind_eq_some_iff.mp H
        obtain ⟨t118, A90, H⟩ := H
        replace H : (some t118) = some r := H
        have A9 := Aside0.mk A90
        clear A90
        obtain rfl := Option.some.inj H
        go_wp2_with (first | ((with_reducible refine gate_callee (f := 13) rfl ?_); refine goesL_ (some 13) rfl rfl Tryd.func13 (by kernel_rfl) rfl #[] rfl (by (try simp only [List.map_toArray, List.map_cons, List.map_nil]); first | done | rfl | (simp only [List.length_drop, List.length_take]; rfl)) ?_; (with_reducible refine (decanterlaw11_speaks.calls  t118 _ ?side1 A9.out).mono ?_); (case side1 => exact GW.below HG.out (by repeat (first | (with_reducible first | exact HB.out | apply below_alloc | apply pw_below_drewN | apply below_drew1) | exact HB.out))); rintro e w10 ⟨rfl, hb⟩; refine ⟨_, rfl, ?_⟩; have n0_ := Aside0.mk (below_step (by repeat (first | (with_reducible first | exact HB.out | apply below_alloc | apply pw_below_drewN | apply below_drew1) | exact HB.out)) hb); clear HB; have HB := n0_; clear n0_; (try clear hb); (try clear hb2); (try clear hk); (try clear hi)))
        go_ret
        exact ⟨by first | rfl | (simp [errW_none, errW_some] <;> rfl) | (simp [*, errW_none, errW_some] <;> rfl), by repeat (first | (with_reducible first | exact HB.out | apply below_alloc | apply pw_below_drewN | apply below_drew1) | exact HB.out)⟩
      · replace c8 := Bool.eq_false_iff.mpr c8
        subst c8
        have H1 : ((decanterref11_Of.f kj2 a0).bind fun t119 => ((kind_Of.f a0).bind fun t120 => (if t120 = t119 then ((kind_Is.f a0 a1).bind fun t121 => (some (t121 == ((Go.bits .and .i64 t119 a1) != 0)))) else (some false)))) = some r := by rw [if_neg (show ¬ (false = true) by decide)] at H; exact H
        clear H
        have H := H1
        clear H1
        replace H := Option.bind_eq_some_iff.mp H
        obtain ⟨t119, A110, H⟩ := H
        replace H : ((kind_Of.f a0).bind fun t120 => (if t120 = t119 then ((kind_Is.f a0 a1).bind fun t121 => (some (t121 == ((Go.bits .and .i64 t119 a1) != 0)))) else (some false))) = some r := H
        have A11 := Aside0.mk A110
        clear A110
        replace H := Option.bind_eq_some_iff.mp H
        obtain ⟨t120, A120, H⟩ := H
        replace H : (if t120 = t119 then ((kind_Is.f a0 a1).bind fun t121 => (some (t121 == ((Go.bits .and .i64 t119 a1) != 0)))) else (some false)) = some r := H
        have A12 := Aside0.mk A120
        clear A120
        by_cases c13 : t120 = t119
        · rw [if_pos c13] at H
          have c13b0 : (t120 == t119) = true := beq_iff_eq.mpr c13
          have c13b1 : (t120 != t119) = false := bne_eq_false_iff_eq.mpr c13
          clear c13
          replace H := Option.bind_eq_some_iff.mp H
          obtain ⟨t121, A140, H⟩ := H
          replace H : (some (t121 == ((Go.bits .and .i64 t119 a1) != 0))) = some r := H
          have A14 := Aside0.mk A140
          clear A140
          obtain rfl := Option.some.inj H
          go_wp2_with (first | ((with_reducible refine gate_callee (f := 14) rfl ?_); refine goesL_ (some 15) rfl rfl Tryd.func14 (by kernel_rfl) rfl #[.string a0] rfl (by (try simp only [List.map_toArray, List.map_cons, List.map_nil]); first | done | rfl | (simp only [List.length_drop, List.length_take]; rfl)) ?_; (with_reducible refine (decanterref11_Of.calls kj2 a0 t119 _ A11.out).mono ?_); rintro e w15 ⟨rfl, hb⟩; refine ⟨_, rfl, ?_⟩; have n0_ := Aside0.mk (below_step (by repeat (first | (with_reducible first | exact HB.out | apply below_alloc | apply pw_below_drewN | apply below_drew1) | exact HB.out)) hb); clear HB; have HB := n0_; clear n0_; (try clear hb); (try clear hb2); (try clear hk); (try clear hi)) | ((with_reducible refine gate_callee (f := 15) rfl ?_); refine goesL_ (some 17) rfl rfl Tryd.func15 (by kernel_rfl) rfl #[.string a0] rfl (by (try simp only [List.map_toArray, List.map_cons, List.map_nil]); first | done | rfl | (simp only [List.length_drop, List.length_take]; rfl)) ?_; (with_reducible refine (kind_Of.calls a0 t120 _ ?side1 A12.out).mono ?_); (case side1 => exact GW.below HG.out (by repeat (first | (with_reducible first | exact HB.out | apply below_alloc | apply pw_below_drewN | apply below_drew1) | exact HB.out))); rintro e w16 ⟨rfl, hb⟩; refine ⟨_, rfl, ?_⟩; have n0_ := Aside0.mk (below_step (by repeat (first | (with_reducible first | exact HB.out | apply below_alloc | apply pw_below_drewN | apply below_drew1) | exact HB.out)) hb); clear HB; have HB := n0_; clear n0_; (try clear hb); (try clear hb2); (try clear hk); (try clear hi)) | (go_at_call 16; (with_reducible refine (kind_Is.calls a0 a1 t121 _ ?side1 A14.out).mono ?_); (case side1 => exact GW.below HG.out (by repeat (first | (with_reducible first | exact HB.out | apply below_alloc | apply pw_below_drewN | apply below_drew1) | exact HB.out))); rintro e w17 ⟨rfl, hb⟩; have n0_ := Aside0.mk (below_step (by repeat (first | (with_reducible first | exact HB.out | apply below_alloc | apply pw_below_drewN | apply below_drew1) | exact HB.out)) hb); clear HB; have HB := n0_; clear n0_; (try clear hb); (try clear hb2); (try clear hk); (try clear hi)))
          go_ret
          exact ⟨by first | rfl | (simp [errW_none, errW_some] <;> rfl) | (simp [*, errW_none, errW_some] <;> rfl), by repeat (first | (with_reducible first | exact HB.out | apply below_alloc | apply pw_below_drewN | apply below_drew1) | exact HB.out)⟩
        · rw [if_neg c13] at H
          have c13b0 : (t120 == t119) = false := beq_eq_false_iff_ne.mpr c13
          have c13b1 : (t120 != t119) = true := bne_iff_ne.mpr c13
          obtain rfl := Option.some.inj H
          go_wp2_with (first | ((with_reducible refine gate_callee (f := 14) rfl ?_); refine goesL_ (some 15) rfl rfl Tryd.func14 (by kernel_rfl) rfl #[.string a0] rfl (by (try simp only [List.map_toArray, List.map_cons, List.map_nil]); first | done | rfl | (simp only [List.length_drop, List.length_take]; rfl)) ?_; (with_reducible refine (decanterref11_Of.calls kj2 a0 t119 _ A11.out).mono ?_); rintro e w18 ⟨rfl, hb⟩; refine ⟨_, rfl, ?_⟩; have n0_ := Aside0.mk (below_step (by repeat (first | (with_reducible first | exact HB.out | apply below_alloc | apply pw_below_drewN | apply below_drew1) | exact HB.out)) hb); clear HB; have HB := n0_; clear n0_; (try clear hb); (try clear hb2); (try clear hk); (try clear hi)) | ((with_reducible refine gate_callee (f := 15) rfl ?_); refine goesL_ (some 17) rfl rfl Tryd.func15 (by kernel_rfl) rfl #[.string a0] rfl (by (try simp only [List.map_toArray, List.map_cons, List.map_nil]); first | done | rfl | (simp only [List.length_drop, List.length_take]; rfl)) ?_; (with_reducible refine (kind_Of.calls a0 t120 _ ?side1 A12.out).mono ?_); (case side1 => exact GW.below HG.out (by repeat (first | (with_reducible first | exact HB.out | apply below_alloc | apply pw_below_drewN | apply below_drew1) | exact HB.out))); rintro e w19 ⟨rfl, hb⟩; refine ⟨_, rfl, ?_⟩; have n0_ := Aside0.mk (below_step (by repeat (first | (with_reducible first | exact HB.out | apply below_alloc | apply pw_below_drewN | apply below_drew1) | exact HB.out)) hb); clear HB; have HB := n0_; clear n0_; (try clear hb); (try clear hb2); (try clear hk); (try clear hi)))
          go_ret
          exact ⟨by first | rfl | (simp [errW_none, errW_some] <;> rfl) | (simp [*, errW_none, errW_some] <;> rfl), by repeat (first | (with_reducible first | exact HB.out | apply below_alloc | apply pw_below_drewN | apply below_drew1) | exact HB.out)⟩

end Go.Proofs.YteahlapoeiikoaaDoor.P

/-
  KindTells, about plain functions: whatever the name and the kinds, the law's function answers true. Condition: the name is no longer than a string can be.
-/

namespace Go.Proofs.YteahlapoeiikoaaDoor.Pure
open Go.RowKit Go.Proofs.YteahlapoeiikoaaDoor.P Go.Proofs.YteahlapoeiikoaaDoorW.PrintWords Go.Proofs.YteahlapoeiikoaaDoorW.PrintLast

theorem and_small (n a : Int) (h0 : 0 ≤ n) (h1 : n ≤ 1023) : Go.bits .and .i64 n a = ((n.toNat &&& (BitVec.ofInt 64 a).toNat : Nat) : Int) := by
  have hn : (BitVec.ofInt 64 n).toNat = n.toNat := by
    rw [BitVec.toNat_ofInt]
    have : n % ((2 : Int) ^ 64) = n := Int.emod_eq_of_lt h0 (by omega)
    rw [show ((2 ^ 64 : Nat) : Int) = (2 : Int) ^ 64 by norm_cast, this]
  have hb : n.toNat &&& (BitVec.ofInt 64 a).toNat ≤ n.toNat := Nat.and_le_left
  have hd : Go.bits .and .i64 n a = IntKind.i64.wrap ((BitVec.ofInt 64 n &&& BitVec.ofInt 64 a).toNat : Int) := rfl
  rw [hd, BitVec.toNat_and, hn]
  have hw : ∀ m : Int, 0 ≤ m → m ≤ 1023 → IntKind.i64.wrap m = m := by
    intro m h2 h3
    rw [i64_w]
    unfold wrap64
    omega
  exact hw _ (by omega) (by omega)

theorem and_1023 (n a : Int) (h0 : 0 ≤ n) (h1 : n ≤ 1023) : Go.bits .and .i64 (Go.bits .and .i64 n a) 1023 = Go.bits .and .i64 n a := by
  rw [and_small n a h0 h1]
  have hb : n.toNat &&& (BitVec.ofInt 64 a).toNat ≤ n.toNat := Nat.and_le_left
  rw [and_small _ 1023 (by omega) (by omega)]
  have e : (BitVec.ofInt 64 1023).toNat = 2 ^ 10 - 1 := by decide
  rw [e, Nat.and_two_pow_sub_one_eq_mod, Int.toNat_natCast]
  congr 1
  exact Nat.mod_eq_of_lt (by omega)

set_option maxRecDepth 100000 in
theorem speaks11 : decanterlaw11_speaks.f = some true := by decide +kernel

theorem kindTells (x : ByteArray) (a : Int) : ∃ k, decanterlaw11_KindTells.f k x a = some true := by
  by_cases h : (x.size : Int) > 60
  · refine ⟨1, ?_⟩
    rw [decanterlaw11_KindTells.f, speaks11]
    simp only [Option.bind_some, if_true]
    rw [decide_eq_true h]
    simp only [decanterlaw11_KindTells.j0, if_true]
    rw [speaks11]
    rfl
  · refine ⟨2001, ?_⟩
    have hs : x.size ≤ maxLen := by unfold maxLen; omega
    rw [decanterlaw11_KindTells.f, speaks11]
    simp only [Option.bind_some, if_true]
    rw [decide_eq_false h]
    simp only [decanterlaw11_KindTells.j0]
    rw [if_neg (by decide), refOf x (by omega) 2000 (by omega)]
    simp only [Option.bind_some]
    rw [kind_Of.f, if_pos hs]
    simp only [Option.bind_some, if_true]
    rw [kind_Is.f, if_pos hs]
    simp only [Option.bind_some]
    rw [and_1023 _ _ (kind_range x).1 (kind_range x).2]
    simp
end Go.Proofs.YteahlapoeiikoaaDoor.Pure


-- Printed by a program of this session (wip/myprint.py over the kit's print).
namespace Go.Proofs.YteahlapoeiikoaaDoor.P
open Go.RowKit Go.Proofs.YteahlapoeiikoaaDoorW.PrintWords Go.Proofs.YteahlapoeiikoaaDoorW.PrintLast Go.Proofs.YteahlapoeiikoaaDoorW.PrintMore
attribute [local go_sem] max2_int min2_int max_two min_two max_three min_three max_four min_four   -- for this text's walks alone
set_option linter.unusedVariables false
set_option linter.unusedSimpArgs false

/-! ### fit_items: function 68 -/
def fit_items.f (a0 : ByteArray) : Option (List ByteArray) := if a0.toList = ([108, 105] : List UInt8) then (some (([(⟨#[108, 105]⟩ : ByteArray)] : List ByteArray))) else (if a0.toList = ([100, 100] : List UInt8) then (some (([(⟨#[100, 100]⟩ : ByteArray), (⟨#[100, 116]⟩ : ByteArray)] : List ByteArray))) else (if a0.toList = ([100, 116] : List UInt8) then (some (([(⟨#[100, 100]⟩ : ByteArray), (⟨#[100, 116]⟩ : ByteArray)] : List ByteArray))) else (some ([] : List ByteArray))))
set_option maxHeartbeats 8000000 in
set_option maxRecDepth 100000 in
theorem fit_items.calls (a0 : ByteArray) (r : List ByteArray) (w : World) (h : fit_items.f a0 = some r) :
    Calls Tryd.prog 68 #[.string a0] w fun e w' => ∃ v0_ : Value, e = .returned (v0_) ∧ Kd.R Kd.string 9 w' w.heap.size (fun _ => True) v0_ r ∧ Below w.heap.size w w' := by
  have HB := Aside0.mk (Below.refl w.heap.size w)
  have H : (if a0.toList = ([108, 105] : List UInt8) then (some (([(⟨#[108, 105]⟩ : ByteArray)] : List ByteArray))) else (if a0.toList = ([100, 100] : List UInt8) then (some (([(⟨#[100, 100]⟩ : ByteArray), (⟨#[100, 116]⟩ : ByteArray)] : List ByteArray))) else (if a0.toList = ([100, 116] : List UInt8) then (some (([(⟨#[100, 100]⟩ : ByteArray), (⟨#[100, 116]⟩ : ByteArray)] : List ByteArray))) else (some ([] : List ByteArray))))) = some r := h
  clear h
  by_cases c2 : a0.toList = ([108, 105] : List UInt8)
  · rw [if_pos c2] at H
    have c2b0 : (a0.toList == ([108, 105] : List UInt8)) = true := beq_iff_eq.mpr c2
    have c2b1 : (a0.toList != ([108, 105] : List UInt8)) = false := bne_eq_false_iff_eq.mpr c2
    clear c2
    obtain ⟨y124, hy124⟩ : ∃ y_ : List ByteArray, y_ = (([(⟨#[108, 105]⟩ : ByteArray)] : List ByteArray)) := ⟨_, rfl⟩
    replace H : (some y124) = some r := by first | (rw [hy124]; with_reducible exact H) | (have H2_ := (Option.bind_some _ _).symm.trans H; rw [hy124]; with_reducible exact H2_) | (have H2_ := (Option.bind_some _ _).symm.trans H; with_reducible exact H2_) | with_reducible exact H | (rw [hy124]; exact H) | exact H
    have Ny124 := Aside0.mk hy124
    clear hy124
    obtain rfl := Option.some.inj H
    go_enter Tryd.func68, Tryd.ntmps68
    go_wp2_with (first | ((with_reducible refine gate_dst (N := 6) rfl ?_); refine Kd.R_lit Kd.string _ 9 ?hg (N := 6) ?hd (xs := ([(⟨#[108, 105]⟩ : ByteArray)] : List ByteArray)) (inner := [.string (⟨#[108, 105]⟩ : ByteArray)]) (ok := fun _ => True) (okp := fun _ => True) ?hr ?hp (fun _ hk => hk) trivial (Below.refl _ _) (Nat.le_refl _) (by simp) ?_; (case hd => rfl); (case hg => rfl); (case hr => first | (go_simp; done) | (go_simp; rfl)); (case hp => exact (Reps.one (show Kd.M Kd.string _ _ _ (⟨#[108, 105]⟩ : ByteArray) [.string (⟨#[108, 105]⟩ : ByteArray)] from rfl) (Reps.none _ _))); intro v125 w3 ho4 hb hg_ hnew_; clear hg_ hnew_; (first | rw [← Ny124.out] at ho4 | (simp only [Int.reduceToNat] at ho4; rw [← Ny124.out] at ho4)); have n0_ := Aside0.mk (Kd.R_lower ho4 (below_size (by repeat (first | (with_reducible first | exact HB.out | apply below_alloc | apply pw_below_drewN | apply below_drew1) | exact HB.out)))); have n1_ := Aside0.mk (below_step (by repeat (first | (with_reducible first | exact HB.out | apply below_alloc | apply pw_below_drewN | apply below_drew1) | exact HB.out)) hb); clear HB; have HO126 := n0_; have HB := n1_; clear n0_ n1_; clear hb ho4))
    go_ret
    exact ⟨_, by first | rfl | (simp [errW_none, errW_some] <;> rfl) | (simp [*, errW_none, errW_some] <;> rfl), by (with_reducible repeat (first | apply Kd.R_alloc | apply Kd.R_drewN | apply Kd.R_drew)); exact HO126.out, by repeat (first | (with_reducible first | exact HB.out | apply below_alloc | apply pw_below_drewN | apply below_drew1) | exact HB.out)⟩
  · rw [if_neg c2] at H
    have c2b0 : (a0.toList == ([108, 105] : List UInt8)) = false := beq_eq_false_iff_ne.mpr c2
    have c2b1 : (a0.toList != ([108, 105] : List UInt8)) = true := bne_iff_ne.mpr c2
    by_cases c5 : a0.toList = ([100, 100] : List UInt8)
    · rw [if_pos c5] at H
      have c5b0 : (a0.toList == ([100, 100] : List UInt8)) = true := beq_iff_eq.mpr c5
      have c5b1 : (a0.toList != ([100, 100] : List UInt8)) = false := bne_eq_false_iff_eq.mpr c5
      clear c5
      obtain ⟨y127, hy127⟩ : ∃ y_ : List ByteArray, y_ = (([(⟨#[100, 100]⟩ : ByteArray), (⟨#[100, 116]⟩ : ByteArray)] : List ByteArray)) := ⟨_, rfl⟩
      replace H : (some y127) = some r := by first | (rw [hy127]; with_reducible exact H) | (have H2_ := (Option.bind_some _ _).symm.trans H; rw [hy127]; with_reducible exact H2_) | (have H2_ := (Option.bind_some _ _).symm.trans H; with_reducible exact H2_) | with_reducible exact H | (rw [hy127]; exact H) | exact H
      have Ny127 := Aside0.mk hy127
      clear hy127
      obtain rfl := Option.some.inj H
      go_enter Tryd.func68, Tryd.ntmps68
      go_wp2_with (first | ((with_reducible refine gate_dst (N := 10) rfl ?_); refine Kd.R_lit Kd.string _ 9 ?hg (N := 10) ?hd (xs := ([(⟨#[100, 100]⟩ : ByteArray), (⟨#[100, 116]⟩ : ByteArray)] : List ByteArray)) (inner := [.string (⟨#[100, 100]⟩ : ByteArray), .string (⟨#[100, 116]⟩ : ByteArray)]) (ok := fun _ => True) (okp := fun _ => True) ?hr ?hp (fun _ hk => hk) trivial (Below.refl _ _) (Nat.le_refl _) (by simp) ?_; (case hd => rfl); (case hg => rfl); (case hr => first | (go_simp; done) | (go_simp; rfl)); (case hp => exact (Reps.one (show Kd.M Kd.string _ _ _ (⟨#[100, 100]⟩ : ByteArray) [.string (⟨#[100, 100]⟩ : ByteArray)] from rfl) (Reps.one (show Kd.M Kd.string _ _ _ (⟨#[100, 116]⟩ : ByteArray) [.string (⟨#[100, 116]⟩ : ByteArray)] from rfl) (Reps.none _ _)))); intro v128 w6 ho7 hb hg_ hnew_; clear hg_ hnew_; (first | rw [← Ny127.out] at ho7 | (simp only [Int.reduceToNat] at ho7; rw [← Ny127.out] at ho7)); have n0_ := Aside0.mk (Kd.R_lower ho7 (below_size (by repeat (first | (with_reducible first | exact HB.out | apply below_alloc | apply pw_below_drewN | apply below_drew1) | exact HB.out)))); have n1_ := Aside0.mk (below_step (by repeat (first | (with_reducible first | exact HB.out | apply below_alloc | apply pw_below_drewN | apply below_drew1) | exact HB.out)) hb); clear HB; have HO129 := n0_; have HB := n1_; clear n0_ n1_; clear hb ho7))
      go_ret
      exact ⟨_, by first | rfl | (simp [errW_none, errW_some] <;> rfl) | (simp [*, errW_none, errW_some] <;> rfl), by (with_reducible repeat (first | apply Kd.R_alloc | apply Kd.R_drewN | apply Kd.R_drew)); exact HO129.out, by repeat (first | (with_reducible first | exact HB.out | apply below_alloc | apply pw_below_drewN | apply below_drew1) | exact HB.out)⟩
    · rw [if_neg c5] at H
      have c5b0 : (a0.toList == ([100, 100] : List UInt8)) = false := beq_eq_false_iff_ne.mpr c5
      have c5b1 : (a0.toList != ([100, 100] : List UInt8)) = true := bne_iff_ne.mpr c5
      by_cases c8 : a0.toList = ([100, 116] : List UInt8)
      · rw [if_pos c8] at H
        have c8b0 : (a0.toList == ([100, 116] : List UInt8)) = true := beq_iff_eq.mpr c8
        have c8b1 : (a0.toList != ([100, 116] : List UInt8)) = false := bne_eq_false_iff_eq.mpr c8
        clear c8
        obtain ⟨y130, hy130⟩ : ∃ y_ : List ByteArray, y_ = (([(⟨#[100, 100]⟩ : ByteArray), (⟨#[100, 116]⟩ : ByteArray)] : List ByteArray)) := ⟨_, rfl⟩
        replace H : (some y130) = some r := by first | (rw [hy130]; with_reducible exact H) | (have H2_ := (Option.bind_some _ _).symm.trans H; rw [hy130]; with_reducible exact H2_) | (have H2_ := (Option.bind_some _ _).symm.trans H; with_reducible exact H2_) | with_reducible exact H | (rw [hy130]; exact H) | exact H
        have Ny130 := Aside0.mk hy130
        clear hy130
        obtain rfl := Option.some.inj H
        go_enter Tryd.func68, Tryd.ntmps68
        go_wp2_with (first | ((with_reducible refine gate_dst (N := 10) rfl ?_); refine Kd.R_lit Kd.string _ 9 ?hg (N := 10) ?hd (xs := ([(⟨#[100, 100]⟩ : ByteArray), (⟨#[100, 116]⟩ : ByteArray)] : List ByteArray)) (inner := [.string (⟨#[100, 100]⟩ : ByteArray), .string (⟨#[100, 116]⟩ : ByteArray)]) (ok := fun _ => True) (okp := fun _ => True) ?hr ?hp (fun _ hk => hk) trivial (Below.refl _ _) (Nat.le_refl _) (by simp) ?_; (case hd => rfl); (case hg => rfl); (case hr => first | (go_simp; done) | (go_simp; rfl)); (case hp => exact (Reps.one (show Kd.M Kd.string _ _ _ (⟨#[100, 100]⟩ : ByteArray) [.string (⟨#[100, 100]⟩ : ByteArray)] from rfl) (Reps.one (show Kd.M Kd.string _ _ _ (⟨#[100, 116]⟩ : ByteArray) [.string (⟨#[100, 116]⟩ : ByteArray)] from rfl) (Reps.none _ _)))); intro v131 w9 ho10 hb hg_ hnew_; clear hg_ hnew_; (first | rw [← Ny130.out] at ho10 | (simp only [Int.reduceToNat] at ho10; rw [← Ny130.out] at ho10)); have n0_ := Aside0.mk (Kd.R_lower ho10 (below_size (by repeat (first | (with_reducible first | exact HB.out | apply below_alloc | apply pw_below_drewN | apply below_drew1) | exact HB.out)))); have n1_ := Aside0.mk (below_step (by repeat (first | (with_reducible first | exact HB.out | apply below_alloc | apply pw_below_drewN | apply below_drew1) | exact HB.out)) hb); clear HB; have HO132 := n0_; have HB := n1_; clear n0_ n1_; clear hb ho10))
        go_ret
        exact ⟨_, by first | rfl | (simp [errW_none, errW_some] <;> rfl) | (simp [*, errW_none, errW_some] <;> rfl), by (with_reducible repeat (first | apply Kd.R_alloc | apply Kd.R_drewN | apply Kd.R_drew)); exact HO132.out, by repeat (first | (with_reducible first | exact HB.out | apply below_alloc | apply pw_below_drewN | apply below_drew1) | exact HB.out)⟩
      · rw [if_neg c8] at H
        have c8b0 : (a0.toList == ([100, 116] : List UInt8)) = false := beq_eq_false_iff_ne.mpr c8
        have c8b1 : (a0.toList != ([100, 116] : List UInt8)) = true := bne_iff_ne.mpr c8
        obtain rfl := Option.some.inj H
        go_enter Tryd.func68, Tryd.ntmps68
        go_wp2
        go_ret
        exact ⟨_, by first | rfl | (simp [errW_none, errW_some] <;> rfl) | (simp [*, errW_none, errW_some] <;> rfl), by first | exact Kd.R_nil _ _ _ _ _ | exact Kd.N_nil _ _ _ _ _ | exact Kd.V_nil _ _ _ _ _ | exact Kd.Q_nil _ _ _ _ _ | exact Kd.S_nil _ _ _ _ _, by repeat (first | (with_reducible first | exact HB.out | apply below_alloc | apply pw_below_drewN | apply below_drew1) | exact HB.out)⟩

end Go.Proofs.YteahlapoeiikoaaDoor.P
