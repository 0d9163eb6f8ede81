/-
  slices.Backward over a slice of strings hands (index, text) to the loop's body, the last one first. Condition: no text is longer than a string can be.
-/
import Derived.Test.YteahlapoeiikoaaDoorJoin0
import Derived.Test.YteahlapoeiikoaaDoorFields

namespace Go.Proofs.YteahlapoeiikoaaDoor
open Go.RowKit Go.Shelf Go.Proofs.YteahlapoeiikoaaDoorW.PrintWords Go.Proofs.YteahlapoeiikoaaDoorW.PrintLast
set_option linter.unusedSimpArgs false
attribute [local go_sem] Oper.semAt_some

/-- An index, and a text that is no longer than a string can be. -/
abbrev Ix := { x : Nat × ByteArray // x.2.size ≤ maxLen }

/-- What has come when k rounds are over, as pairs. -/
def backTo (l : List ByteArray) (k : Nat) : List (Nat × ByteArray) := (List.range k).map fun j => (l.length - 1 - j, l.getD (l.length - 1 - j) ByteArray.empty)
theorem backTo_succ (l : List ByteArray) (k : Nat) : backTo l (k + 1) = backTo l k ++ [(l.length - 1 - k, l.getD (l.length - 1 - k) ByteArray.empty)] := by
  simp [backTo, List.range_succ]

set_option maxRecDepth 100000 in
set_option maxHeartbeats 2000000 in
theorem back1_in (F : Fence) (n : Nat) (h87 : F.fn 87) (hro : F.round = none) (hn : 1 ≤ n) (l Bs n₀ : Nat) (A : Option Addr) (c : Nat) (xs : List ByteArray) (hx : ∀ x ∈ xs, x.size ≤ maxLen) (J Jx : List Ix → World → Prop)
    (hY : ∀ pre x W, J pre W → pre.length < xs.length → YieldAt F (n - 1) Tryd.prog l #[.int .i64 (x.1.1 : Int), .string x.1.2] W fun e W' =>
      (e = .returned (.bool true) ∧ J (pre ++ [x]) W' ∧ KpB n₀ Bs W W') ∨ (e = .returned (.bool false) ∧ Jx (pre ++ [x]) W'))
    (W W0 : World) (hn0 : n₀ = W0.heap.size) (hWW : Below n₀ W0 W) (hBs : W.cell? ⟨Bs, 0, none⟩ = some (.slice A xs.length c)) (hr : Kd.C Kd.string W0 A xs.length xs) (hlen : xs.length ≤ 9223372036854775807) (h0 : J [] W) :
    CallsIn F n Tryd.prog 87 #[.func (.yield l) #[] #[], .pointer (some ⟨Bs, 0, none⟩)] W fun e W' => (∃ v, e = .returned v) ∧
      ((∃ ys : List Ix, ys.map (·.1) = backTo xs xs.length ∧ J ys W') ∨ (∃ pre : List Ix, (∃ k, k ≤ xs.length ∧ pre.map (·.1) = backTo xs k) ∧ Jx pre W')) := by
  refine callsIn_of_wp Tryd.func87 rfl h87 ?_ hro
  simp only [Tryd.ntmps87, List.size_toArray, List.length_cons, List.length_nil, Nat.reduceAdd, Nat.reduceSub, Array.replicate_succ, Array.replicate_zero, List.push_toArray, List.append_toArray, List.nil_append, List.cons_append]
  gi_wp2
  gi_loopw [3] (fun i wr => ∃ (k : Nat) (pre : List Ix), k ≤ xs.length ∧ i = .int .i64 ((xs.length : Int) - 1 - k) ∧ Hid (pre.map (·.1) = backTo xs k) ∧ Hid (pre.length = k) ∧ J pre wr ∧ KpB n₀ Bs W wr)
    (fun i _ => (intOf i + 1).toNat)
  case atStart => exact ⟨0, [], Nat.zero_le _, by go_num, Lib.hid rfl, Lib.hid rfl, h0, KpB.refl _ _ _⟩
  case round =>
    obtain ⟨k, pre, hk, rfl, hpre, hpl, hJs, hnx⟩ := hrel
    have hcx : wr.cell? ⟨Bs, 0, none⟩ = some (.slice A xs.length c) := (cell_of_heap hnx.2).trans hBs
    by_cases hlt : k < xs.length
    · obtain ⟨ad, rfl, hc⟩ := Kd.at_string hr ((xs.length : Int) - 1 - k) (by omega) (by omega)
      have hlen' : (xs.length : Int) ≤ 9223372036854775807 := by omega
      have hne : (ad.add ((xs.length : Int) - 1 - k).toNat).block < W0.heap.size := World.block_lt_of_cell? _ _ hc
      have hne2 : (ad.add ((xs.length : Int) - 1 - k).toNat).block < n₀ := by rw [hn0]; exact hne
      have hcc := (hnx.1.cell hne2).trans ((hWW.cell hne2).trans hc)
      have hsz : (rdOf ByteArray.empty xs ((xs.length : Int) - 1 - k)).size ≤ maxLen := by
        unfold rdOf
        rw [List.getD_eq_getElem?_getD]
        cases h : xs[((xs.length : Int) - 1 - k).toNat]? with
        | none => simp
        | some x => exact hx x (List.mem_of_getElem? h)
      have hnext := backTo_succ xs k
      have ei : ((xs.length : Int) - 1 - k) = ((xs.length - 1 - k : Nat) : Int) := by omega
      have er : rdOf ByteArray.empty xs ((xs.length : Int) - 1 - k) = xs.getD (xs.length - 1 - k) ByteArray.empty := by unfold rdOf; rw [ei, Int.toNat_natCast]
      obtain ⟨X, hX⟩ : ∃ X : Ix, X.1 = (xs.length - 1 - k, rdOf ByteArray.empty xs ((xs.length : Int) - 1 - k)) := ⟨⟨_, hsz⟩, rfl⟩
      obtain ⟨fn, tmps, assign, body, hy, hR⟩ := hY pre X wr hJs (by have := hpl.out; omega)
      rw [hX] at hy
      dsimp only at hy
      rw [← ei] at hy
      have HX := Lib.hid hX
      have q1 : (0 : Int) ≤ (xs.length : Int) - 1 - k := by omega
      have q2 : (xs.length : Int) - 1 - k < (xs.length : Int) := by omega
      have q3 : (k : Int) ≤ (xs.length : Int) - 1 := by omega
      have et : ((xs.length : Int) - 1 - k).toNat = xs.length - 1 - k := by omega
      rw [et] at hcc
      clear et
      have Hn := Lib.hid hnext
      have He := Lib.hid er
      clear hnext er ei hY hx hX hsz hc hr hne hne2
      gi_wp2
      refine hR.mono ?_
      rintro e W3 (⟨rfl, hJ3, hk3⟩ | ⟨rfl, hJx3⟩)
      · gi_wp2
        go_roundw
        case rel => exact ⟨k + 1, _, by omega, by congr 1; omega, Lib.hid (by rw [List.map_append, hpre.out, Hn.out, ← He.out, ← HX.out]; rfl), Lib.hid (by simp [hpl.out]), hJ3, hnx.trans hk3⟩
        case measure => simp [intOf]; omega
      · gi_wp2
        refine bodyPost_ret (results_none rfl _ _ _) rfl ?_
        exact ⟨⟨_, rfl⟩, .inr ⟨_, ⟨k + 1, by omega, by rw [List.map_append, hpre.out, Hn.out, ← He.out, ← HX.out]; rfl⟩, hJx3⟩⟩
    · obtain rfl : k = xs.length := by omega
      have e0 : (xs.length : Int) - 1 - xs.length = -1 := by omega
      rw [e0]
      clear hY hx hr e0
      gi_wp2
      go_end0
      exact ⟨⟨_, rfl⟩, .inl ⟨pre, hpre.out, hJs⟩⟩

set_option maxHeartbeats 1000000 in
theorem backward_in (F : Fence) (n : Nat) (h69 : F.fn 69) (hro : F.round = none) (A : Option Addr) (m c : Nat) (w : World) :
    CallsIn F n Tryd.prog 69 #[.slice A m c] w fun e w' => e = .returned (.func (.func 87) #[] #[.pointer (some ⟨w.heap.size, 0, none⟩)]) ∧ w' = w.alloc (.cells #[.slice A m c] 25) := by
  refine callsIn_of_wp Tryd.func69 rfl h69 ?_ hro
  simp only [Tryd.ntmps69, List.size_toArray, List.length_cons, List.length_nil, Nat.reduceAdd, Nat.reduceSub, Array.replicate_succ, Array.replicate_zero, List.push_toArray, List.append_toArray, List.nil_append, List.cons_append]
  gi_wp2
  go_ret
  exact ⟨rfl, rfl⟩

theorem back_stops (F : Fence) (n : Nat) (h87 : F.fn 87) (hro : F.round = none) (hn : 1 ≤ n) (Bs : Nat) (A : Option Addr) (c : Nat) (xs : List ByteArray) (hx : ∀ x ∈ xs, x.size ≤ maxLen) (W0 w : World) (hWW : Below W0.heap.size W0 w) (hBs : Bs < w.heap.size)
    (hc : w.cell? ⟨Bs, 0, none⟩ = some (.slice A xs.length c)) (hr : Kd.C Kd.string W0 A xs.length xs) (hlen : xs.length ≤ 9223372036854775807) :
    SeqStopsK F n Tryd.prog 87 #[.pointer (some ⟨Bs, 0, none⟩)] (fun x : Ix => #[Value.int .i64 (x.1.1 : Int), Value.string x.1.2]) (KpB W0.heap.size Bs) (fun ys => ys.map (·.1) = backTo xs xs.length) (fun pre => ∃ k, k ≤ xs.length ∧ pre.map (·.1) = backTo xs k) xs.length w := fun l J Jx W hW _ _ hY h0 =>
  back1_in F n h87 hro hn l Bs W0.heap.size A c xs hx J Jx hY W W0 rfl (hWW.trans (hW.mono hWW.size)) ((hW.cell (p := ⟨Bs, 0, none⟩) hBs).trans hc) hr hlen h0
end Go.Proofs.YteahlapoeiikoaaDoor
