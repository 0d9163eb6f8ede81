/-
  strings.FieldsSeq over a string of ASCII bytes hands its fields to the loop's body, in order. Conditions: every byte below 128; strings.asciiSpace holds what it was laid with.
-/
import Derived.RangeFuncNested
import Derived.RangeFuncBound
import Derived.RangeFuncCalls
import Derived.RangeFuncLeaves
import Derived.Shelf.Abstract
import Derived.Shelf.RegionOpen
import Derived.WalkKit
import Derived.OwnWalkIn
import Derived.TacticsInMore
import Derived.LoopNIn
import Derived.LoopIn
import Derived.Lib.Hide
import Derived.Test.YteahlapoeiikoaaDoorProg

namespace Go.Proofs.YteahlapoeiikoaaDoor
open Go.RowKit Go.Shelf
attribute [local go_sem] Oper.semAt_some

/-- Is a byte a blank, as strings.asciiSpace has it. -/
def isSp (c : UInt8) : Bool := c == 9 || c == 10 || c == 11 || c == 12 || c == 13 || c == 32

/-- What has been found when i bytes are read: the begin of the field that is open, and the fields that are closed. -/
def fsp (s : ByteArray) : Nat → Option Nat × List ByteArray
  | 0 => (none, [])
  | i + 1 =>
    if isSp (s.get! i) then
      match (fsp s i).1 with
      | none => (none, (fsp s i).2)
      | some a => (none, (fsp s i).2 ++ [s.extract a i])
    else
      match (fsp s i).1 with
      | none => (some i, (fsp s i).2)
      | some a => (some a, (fsp s i).2)

/-- All fields. -/
def fieldsOf (s : ByteArray) : List ByteArray :=
  match (fsp s s.size).1 with
  | none => (fsp s s.size).2
  | some a => (fsp s s.size).2 ++ [s.extract a s.size]

/-- The begin as Go keeps it. -/
def begOf : Option Nat → Int
  | none => -1
  | some a => a

theorem fsp_len (s : ByteArray) (i : Nat) : (fsp s i).2.length ≤ i := by
  induction i with
  | zero => simp [fsp]
  | succ i ih =>
    simp only [fsp]
    split <;> split <;> simp <;> omega

theorem fsp_lt (s : ByteArray) (i a : Nat) (h : (fsp s i).1 = some a) : a < i := by
  induction i with
  | zero => simp [fsp] at h
  | succ i ih =>
    simp only [fsp] at h
    split at h
    · split at h <;> simp at h
    · split at h
      · simp at h; omega
      · rename_i b hb
        simp at h
        have := ih (by rw [hb, h])
        omega

theorem fsp_sp_none {s : ByteArray} {i : Nat} (hs : isSp (s.get! i) = true) (h : (fsp s i).1 = none) : fsp s (i + 1) = (none, (fsp s i).2) := by
  simp only [fsp, hs, h, if_true]
theorem fsp_sp_some {s : ByteArray} {i a : Nat} (hs : isSp (s.get! i) = true) (h : (fsp s i).1 = some a) : fsp s (i + 1) = (none, (fsp s i).2 ++ [s.extract a i]) := by
  simp only [fsp, hs, h, if_true]
theorem fsp_no_none {s : ByteArray} {i : Nat} (hs : isSp (s.get! i) = false) (h : (fsp s i).1 = none) : fsp s (i + 1) = (some i, (fsp s i).2) := by
  simp [fsp, hs, h]
theorem fsp_no_some {s : ByteArray} {i a : Nat} (hs : isSp (s.get! i) = false) (h : (fsp s i).1 = some a) : fsp s (i + 1) = (some a, (fsp s i).2) := by
  simp [fsp, hs, h]

/-- strings.asciiSpace's cell at a byte below 128. -/
def spCell (c : UInt8) : Int := if isSp c then 1 else 0

/-- A text that is no longer than a list can be. -/
abbrev Sm := { x : ByteArray // x.size ≤ 100000 }
theorem sm_extract (s : ByteArray) (hs : s.size ≤ 100000) (a b : Nat) : (s.extract a b).size ≤ 100000 := by
  rw [ByteArray.size_extract]; omega

theorem get_lt (s : ByteArray) (k : Nat) (h : k < s.size) : s.get! k = s[k]'h := by
  simp only [ByteArray.get!, ByteArray.getElem_eq_getElem_data]
  exact getElem!_pos s.data k h

/-- What a round must keep: all that lay below n₀, and the box of the string. -/
def KpB (n₀ Bs : Nat) (W W' : World) : Prop := Below n₀ W W' ∧ W'.heap[Bs]? = W.heap[Bs]?
theorem KpB.trans {n₀ Bs : Nat} {A B C : World} (h : KpB n₀ Bs A B) (k : KpB n₀ Bs B C) : KpB n₀ Bs A C := ⟨h.1.trans k.1, k.2.trans h.2⟩
theorem KpB.refl (n₀ Bs : Nat) (W : World) : KpB n₀ Bs W W := ⟨Below.refl _ _, rfl⟩
theorem cell_of_heap {W W' : World} {b o : Nat} (h : W'.heap[b]? = W.heap[b]?) : W'.cell? ⟨b, o, none⟩ = W.cell? ⟨b, o, none⟩ := by
  simp only [World.cell?, h]
theorem kpB_b {n₀ Bs : Nat} {w : World} (hn : n₀ ≤ w.heap.size) (hb : Bs < w.heap.size) (W : World) (l : Nat) (o o' : Obj) (hl : w.heap.size ≤ l) (h : W.heap[l]? = some o) (h1 : o.isCells = false) (h2 : o.isWalk = false) : KpB n₀ Bs W (W.putObj l o') :=
  ⟨belowK_b hn W l o o' hl h h1 h2, World.putObj_heap_other (by omega)⟩

set_option maxRecDepth 100000 in
set_option maxHeartbeats 2000000 in
/-- The iterator's closure. -/
theorem fields1_in (F : Fence) (n : Nat) (h107 : F.fn 107) (hro : F.round = none) (hn : 1 ≤ n) (l Bs n₀ : Nat) (s : ByteArray) (hsz : s.size ≤ 100000) (hascii : ∀ j, j < s.size → (s.get! j).toNat < 128)
    (h2 : 2 < n₀) (J Jx : List Sm → World → Prop)
    (hY : ∀ pre x W, J pre W → pre.length < s.size + 1 → YieldAt F (n - 1) Tryd.prog l #[.string x.1] W fun e W' =>
      (e = .returned (.bool true) ∧ J (pre ++ [x]) W' ∧ KpB n₀ Bs W W') ∨ (e = .returned (.bool false) ∧ Jx (pre ++ [x]) W'))
    (W : World) (hBs : W.cell? ⟨Bs, 0, none⟩ = some (.string s)) (htab : ∀ c : UInt8, c.toNat < 128 → W.cell? ⟨2, c.toNat, none⟩ = some (.int .u8 (spCell c))) (h0 : J [] W) :
    CallsIn F n Tryd.prog 107 #[.func (.yield l) #[] #[], .pointer (some ⟨Bs, 0, none⟩)] W fun e W' => (∃ v, e = .returned v) ∧
      ((∃ ys : List Sm, ys.map (·.1) = fieldsOf s ∧ J ys W') ∨ (∃ pre, True ∧ Jx pre W')) := by
  refine callsIn_of_wp Tryd.func107 rfl h107 ?_ hro
  simp only [Tryd.ntmps107, List.size_toArray, List.length_cons, List.length_nil, Nat.reduceAdd, Nat.reduceSub, Array.replicate_succ, Array.replicate_zero, List.push_toArray, List.append_toArray, List.nil_append, List.cons_append]
  gi_wp2
  gi_loopw [3, 4] (fun st i wr => ∃ k : Nat, k ≤ s.size ∧ i = .int .i64 k ∧ st = .int .i64 (begOf (fsp s k).1) ∧ (∃ pre : List Sm, Hid (pre.map (·.1) = (fsp s k).2) ∧ J pre wr) ∧ KpB n₀ Bs W wr)
    (fun _ i _ => s.size - (intOf i).toNat)
  case atStart => exact ⟨0, Nat.zero_le _, rfl, rfl, ⟨[], Lib.hid rfl, h0⟩, KpB.refl _ _ _⟩
  case round =>
    obtain ⟨k, hk, rfl, rfl, ⟨pre, hpre, hJs⟩, hnx⟩ := hrel
    have hpl : pre.length ≤ k := by have e := congrArg List.length hpre.out; rw [List.length_map] at e; rw [e]; exact fsp_len s k
    have hcx : wr.cell? ⟨Bs, 0, none⟩ = some (.string s) := (cell_of_heap hnx.2).trans hBs
    by_cases hlt : k < s.size
    · have h128 := hascii k hlt
      have htc := (hnx.1.cell (p := ⟨2, (s.get! k).toNat, none⟩) h2).trans (htab _ h128)
      by_cases hsp : isSp (s.get! k) = true
      · have hv : spCell (s.get! k) = 1 := by simp [spCell, hsp]
        rw [hv, get_lt s k hlt] at htc
        rw [get_lt s k hlt] at h128
        have h128' : ((s[k].toNat : Nat) : Int) < 128 := by omega
        cases hst : (fsp s k).1 with
        | none =>
          have hnext := Lib.hid (fsp_sp_none hsp hst)
          clear hst hsp hv hascii htab hY
          simp only [begOf]
          gi_wp2
          go_roundw
          case rel => exact ⟨k + 1, by omega, by go_num, by rw [hnext.out], ⟨pre, Lib.hid (by rw [hnext.out]; exact hpre.out), hJs⟩, hnx⟩
          case measure => simp [intOf]; omega
        | some a =>
          have hnext := Lib.hid (fsp_sp_some hsp hst)
          have hak := fsp_lt s k a hst
          obtain ⟨fn, tmps, assign, body, hy, hR⟩ := hY _ ⟨s.extract a k, sm_extract s hsz a k⟩ wr hJs (by omega)
          dsimp only at hy
          have q1 : (0 : Int) ≤ (a : Int) := by omega
          have q2 : (a : Int) ≤ (k : Int) := by omega
          have q3 : (k : Int) ≤ (s.size : Int) := by omega
          clear hst hsp hv hascii htab hY
          simp only [begOf]
          gi_wp2
          refine hR.mono ?_
          rintro e W3 (⟨rfl, hJ3, hk3⟩ | ⟨rfl, hJx3⟩)
          · gi_wp2
            go_roundw
            case rel => exact ⟨k + 1, by omega, by go_num, by rw [hnext.out]; first | done | rfl, ⟨_, Lib.hid (by rw [hnext.out, List.map_append, hpre.out]; rfl), hJ3⟩, hnx.trans hk3⟩
            case measure => simp [intOf]; omega
          · gi_wp2
            refine bodyPost_ret (results_none rfl _ _ _) rfl ?_
            exact ⟨⟨_, rfl⟩, .inr ⟨_, trivial, hJx3⟩⟩
      · have hsp' : isSp (s.get! k) = false := by simpa using hsp
        have hv : spCell (s.get! k) = 0 := by simp [spCell, hsp']
        rw [hv, get_lt s k hlt] at htc
        rw [get_lt s k hlt] at h128
        have h128' : ((s[k].toNat : Nat) : Int) < 128 := by omega
        cases hst : (fsp s k).1 with
        | none =>
          have hnext := Lib.hid (fsp_no_none hsp' hst)
          clear hst hsp hsp' hv hascii htab hY
          simp only [begOf]
          gi_wp2
          go_roundw
          case rel => exact ⟨k + 1, by omega, by go_num, by rw [hnext.out]; first | done | rfl, ⟨pre, Lib.hid (by rw [hnext.out]; exact hpre.out), hJs⟩, hnx⟩
          case measure => simp [intOf]; omega
        | some a =>
          have hnext := Lib.hid (fsp_no_some hsp' hst)
          clear hst hsp hsp' hv hascii htab hY
          simp only [begOf]
          gi_wp2
          go_roundw
          case rel => exact ⟨k + 1, by omega, by go_num, by rw [hnext.out]; first | done | rfl, ⟨pre, Lib.hid (by rw [hnext.out]; exact hpre.out), hJs⟩, hnx⟩
          case measure => simp [intOf]; omega
    · obtain rfl : k = s.size := by omega
      cases hst : (fsp s s.size).1 with
      | none =>
        have hall := Lib.hid (show fieldsOf s = (fsp s s.size).2 by simp [fieldsOf, hst])
        clear hst hascii htab hY
        simp only [begOf]
        gi_wp2
        go_end0
        exact ⟨⟨_, rfl⟩, .inl ⟨_, by rw [hall.out]; exact hpre.out, hJs⟩⟩
      | some a =>
        have hall := Lib.hid (show fieldsOf s = (fsp s s.size).2 ++ [s.extract a s.size] by simp [fieldsOf, hst])
        have hak := fsp_lt s _ a hst
        obtain ⟨fn, tmps, assign, body, hy, hR⟩ := hY _ ⟨s.extract a s.size, sm_extract s hsz a s.size⟩ wr hJs (by omega)
        dsimp only at hy
        clear hst hascii htab hY
        simp only [begOf]
        gi_wp2
        refine hR.mono ?_
        rintro e W3 (⟨rfl, hJ3, hk3⟩ | ⟨rfl, hJx3⟩)
        · gi_wp2
          go_end0
          exact ⟨⟨_, rfl⟩, .inl ⟨_, by rw [hall.out, List.map_append, hpre.out]; rfl, hJ3⟩⟩
        · gi_wp2
          go_end0
          exact ⟨⟨_, rfl⟩, .inr ⟨_, trivial, hJx3⟩⟩

set_option maxHeartbeats 1000000 in
/-- strings.FieldsSeq: the string is boxed; the function value captures the box. -/
theorem fieldsSeq_in (F : Fence) (n : Nat) (h86 : F.fn 86) (hro : F.round = none) (s : ByteArray) (w : World) :
    CallsIn F n Tryd.prog 86 #[.string s] w fun e w' => e = .returned (.func (.func 107) #[] #[.pointer (some ⟨w.heap.size, 0, none⟩)]) ∧ w' = w.alloc (.cells #[.string s] 9) := by
  refine callsIn_of_wp Tryd.func86 rfl h86 ?_ hro
  simp only [Tryd.ntmps86, List.size_toArray, List.length_cons, List.length_nil, Nat.reduceAdd, Nat.reduceSub, Array.replicate_succ, Array.replicate_zero, List.push_toArray, List.append_toArray, List.nil_append, List.cons_append]
  gi_wp2
  go_ret
  exact ⟨rfl, rfl⟩

theorem fields_stops (F : Fence) (n : Nat) (h107 : F.fn 107) (hro : F.round = none) (hn : 1 ≤ n) (Bs n₀ : Nat) (s : ByteArray) (hsz : s.size ≤ 100000) (hascii : ∀ j, j < s.size → (s.get! j).toNat < 128) (w : World) (hBs : Bs < w.heap.size) (hn₀ : n₀ ≤ w.heap.size) (h2 : 2 < n₀)
    (hc : w.cell? ⟨Bs, 0, none⟩ = some (.string s)) (htab : ∀ c : UInt8, c.toNat < 128 → w.cell? ⟨2, c.toNat, none⟩ = some (.int .u8 (spCell c))) :
    SeqStopsK F n Tryd.prog 107 #[.pointer (some ⟨Bs, 0, none⟩)] (fun x : Sm => #[Value.string x.1]) (KpB n₀ Bs) (fun ys => ys.map (·.1) = fieldsOf s) (fun _ => True) (s.size + 1) w := fun l J Jx W hW _ _ hY h0 =>
  fields1_in F n h107 hro hn l Bs n₀ s hsz hascii h2 J Jx hY W ((hW.cell (p := ⟨Bs, 0, none⟩) hBs).trans hc) (fun c hc' => (hW.cell (p := ⟨2, c.toNat, none⟩) (Nat.lt_of_lt_of_le h2 hn₀)).trans (htab c hc')) h0
end Go.Proofs.YteahlapoeiikoaaDoor
