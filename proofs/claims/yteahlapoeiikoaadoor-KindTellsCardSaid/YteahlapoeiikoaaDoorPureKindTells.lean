/-
  KindTells, about plain functions: whatever the name and the kinds, the law's function answers true. Condition: the name is no longer than a string can be.
-/
import Derived.Test.YteahlapoeiikoaaDoorPureKindB
import Derived.Test.YteahlapoeiikoaaDoorPdecanterlaw11KindTells
namespace Go.Proofs.YteahlapoeiikoaaDoor.Pure
open Go.RowKit Go.Proofs.YteahlapoeiikoaaDoor.P Go.Proofs.YteahlapoeiikoaaDoorW.PrintWords Go.Proofs.YteahlapoeiikoaaDoorW.PrintLast

theorem and_small (n a : Int) (h0 : 0 ≤ n) (h1 : n ≤ 1023) : Go.bits .and .i64 n a = ((n.toNat &&& (BitVec.ofInt 64 a).toNat : Nat) : Int) := by
  have hn : (BitVec.ofInt 64 n).toNat = n.toNat := by
    rw [BitVec.toNat_ofInt]
    have : n % ((2 : Int) ^ 64) = n := Int.emod_eq_of_lt h0 (by omega)
    rw [show ((2 ^ 64 : Nat) : Int) = (2 : Int) ^ 64 by norm_cast, this]
  have hb : n.toNat &&& (BitVec.ofInt 64 a).toNat ≤ n.toNat := Nat.and_le_left
  have hd : Go.bits .and .i64 n a = IntKind.i64.wrap ((BitVec.ofInt 64 n &&& BitVec.ofInt 64 a).toNat : Int) := rfl
  rw [hd, BitVec.toNat_and, hn]
  have hw : ∀ m : Int, 0 ≤ m → m ≤ 1023 → IntKind.i64.wrap m = m := by
    intro m h2 h3
    rw [i64_w]
    unfold wrap64
    omega
  exact hw _ (by omega) (by omega)

theorem and_1023 (n a : Int) (h0 : 0 ≤ n) (h1 : n ≤ 1023) : Go.bits .and .i64 (Go.bits .and .i64 n a) 1023 = Go.bits .and .i64 n a := by
  rw [and_small n a h0 h1]
  have hb : n.toNat &&& (BitVec.ofInt 64 a).toNat ≤ n.toNat := Nat.and_le_left
  rw [and_small _ 1023 (by omega) (by omega)]
  have e : (BitVec.ofInt 64 1023).toNat = 2 ^ 10 - 1 := by decide
  rw [e, Nat.and_two_pow_sub_one_eq_mod, Int.toNat_natCast]
  congr 1
  exact Nat.mod_eq_of_lt (by omega)

set_option maxRecDepth 100000 in
theorem speaks11 : decanterlaw11_speaks.f = some true := by decide +kernel

theorem kindTells (x : ByteArray) (a : Int) : ∃ k, decanterlaw11_KindTells.f k x a = some true := by
  by_cases h : (x.size : Int) > 60
  · refine ⟨1, ?_⟩
    rw [decanterlaw11_KindTells.f, speaks11]
    simp only [Option.bind_some, if_true]
    rw [decide_eq_true h]
    simp only [decanterlaw11_KindTells.j0, if_true]
    rw [speaks11]
    rfl
  · refine ⟨2001, ?_⟩
    have hs : x.size ≤ maxLen := by unfold maxLen; omega
    rw [decanterlaw11_KindTells.f, speaks11]
    simp only [Option.bind_some, if_true]
    rw [decide_eq_false h]
    simp only [decanterlaw11_KindTells.j0]
    rw [if_neg (by decide), refOf x (by omega) 2000 (by omega)]
    simp only [Option.bind_some]
    rw [kind_Of.f, if_pos hs]
    simp only [Option.bind_some, if_true]
    rw [kind_Is.f, if_pos hs]
    simp only [Option.bind_some]
    rw [and_1023 _ _ (kind_range x).1 (kind_range x).2]
    simp
end Go.Proofs.YteahlapoeiikoaaDoor.Pure
