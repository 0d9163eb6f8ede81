/-
  kind.All: the names of any kinds, rising. Conditions: the library's tables hold what they were laid with.
-/
import Derived.Sort.KeysCollected
import Derived.Sort.OwnSorted
import Derived.Maps.RangeWalk
import Derived.Maps.AppendAt
import Derived.WalkKit
import Derived.KernelRfl
import Derived.Test.YteahlapoeiikoaaDoorShelf
import Derived.Test.YteahlapoeiikoaaDoorKindsC
import Derived.Test.YteahlapoeiikoaaDoorJoin0


namespace Go.Proofs.YteahlapoeiikoaaDoor.P
open Go.RowKit Go.Maps Go.Sort Go.Proofs.YteahlapoeiikoaaDoorW.PrintWords
set_option linter.unusedSimpArgs false
set_option linter.unusedVariables false

/-- Is a name of one of some kinds? -/
def isB (v k : Int) : Bool := Go.bits .and .i64 (Go.bits .and .i64 v k) 1023 != 0
/-- The names of some kinds. -/
def allK (k : Int) : List (List UInt8) := (ktab.filter fun p => isB p.2 k).map (·.1)
def kind_All.f (a0 : Int) : Option (List ByteArray) := some ((allK a0).map fun l => ⟨l.toArray⟩)
/-- Is a name (its bytes) of some kinds? -/
def wants (k : Int) (l : List UInt8) : Bool := isB (kindOf ⟨l.toArray⟩) k

set_option maxRecDepth 1000000 in
theorem ktab_kind : (ktab.all fun p => kindOf ⟨p.1.toArray⟩ == p.2) = true := by kernel_rfl
set_option maxRecDepth 1000000 in
theorem ktab_rising : ((ktab.map (·.1)).zip ((ktab.map (·.1)).drop 1)).all (fun p => decide (p.1 < p.2)) = true := by kernel_rfl

theorem pairwise_of_zip : ∀ (l : List (List UInt8)), (l.zip (l.drop 1)).all (fun p => decide (p.1 < p.2)) = true → l.Pairwise (fun a b => a < b)
  | [], _ => List.Pairwise.nil
  | [a], _ => by simp
  | a :: b :: l, h => by
    simp only [List.drop_succ_cons, List.drop_zero, List.zip_cons_cons, List.all_cons, Bool.and_eq_true, decide_eq_true_eq] at h
    have ih := pairwise_of_zip (b :: l) (by simpa using h.2)
    refine List.pairwise_cons.2 ⟨fun x hx => ?_, ih⟩
    rcases List.mem_cons.1 hx with rfl | hx
    · exact h.1
    · exact List.lt_trans h.1 ((List.pairwise_cons.1 ih).1 x hx)

theorem keys_sorted : (ktab.map (·.1)).Pairwise (fun a b => a < b) := pairwise_of_zip _ ktab_rising
theorem sorted_of (t : List (List UInt8 × Int)) (h : (t.map (·.1)).Pairwise (fun a b => a < b)) (k : Int) : ((t.filter fun p => isB p.2 k).map (·.1)).Pairwise (fun a b => a < b) :=
  h.sublist (List.Sublist.map _ List.filter_sublist)
theorem all_sorted (k : Int) : (allK k).Pairwise (fun a b => a < b) := sorted_of ktab keys_sorted k
theorem of_kinds (t : List (List UInt8 × Int)) (ht : (t.all fun p => kindOf ⟨p.1.toArray⟩ == p.2) = true) (k : Int) : (t.filter fun p => isB p.2 k).map (·.1) = (t.map (·.1)).filter (wants k) := by
  rw [List.filter_map]
  refine congrArg _ (List.filter_congr fun p hp => ?_)
  have h := List.all_eq_true.1 ht p hp
  simp only [beq_iff_eq] at h
  simp only [Function.comp, wants, h]
theorem allK_eq (k : Int) : allK k = (ktab.map (·.1)).filter (wants k) := of_kinds ktab ktab_kind k
theorem keys_of (t : List (List UInt8 × Int)) {H : Type} : strKeys (DataW.map (H := H) (t.map fun p => (.string p.1, .lit (.int .i64 p.2)))) = t.map (·.1) := by
  simp only [strKeys, List.map_map]
  rfl
theorem strKeys_tab {H : Type} : strKeys (DataW.map (H := H) tabE) = ktab.map (·.1) := keys_of ktab
/-- What was gathered, sorted. -/
theorem gathered (k : Int) {H : Type} {ss : List (List UInt8)} (h : ss.Perm (strKeys (DataW.map (H := H) tabE))) : (ss.filter (wants k)).mergeSort (fun x y => decide (x ≤ y)) = allK k := by
  have hp : (ss.filter (wants k)).Perm (allK k) := by rw [allK_eq, ← strKeys_tab (H := H)]; exact h.filter _
  have e := mergeSort_of_perm hp
  rw [show (fun x y : List UInt8 => decide (x ≤ y)) = leB from rfl, e]
  refine List.mergeSort_of_pairwise ((all_sorted k).imp fun {a b} hab => ?_)
  simp only [decide_eq_true_eq]
  exact List.le_of_lt hab

theorem R_of_own {w : World} {base : Nat} {v : Value} {ss : List (List UInt8)} {n : Nat} (hn : ss.length = n) (h : w.ownsRow base 9 1 v n (ss.map encStr)) : Kd.R Kd.string 9 w base (fun _ => True) v (ss.map fun l => ⟨l.toArray⟩) := by
  subst hn
  refine ⟨fun _ _ => trivial, ss.map encStr, by rw [List.length_map]; exact h, by simp [Kd.string, Kd.scalar], fun j p hp => ?_⟩
  show _ = [Value.string p]
  rw [List.getElem?_map] at hp
  obtain ⟨l, hl, rfl⟩ := Option.map_eq_some_iff.1 hp
  have hj := (List.getElem?_eq_some_iff.1 hl).1
  have e : (List.drop j (ss.map encStr)).take 1 = [encStr l] := by
    rw [List.drop_eq_getElem_cons (by simpa using hj)]
    simp [(List.getElem?_eq_some_iff.1 hl).2]
  show List.take 1 (List.drop (j * 1) _) = _
  rw [Nat.mul_one, e]

theorem infoStr9 : (Tryd.prog.info? 9).map (fun i => (i.zero, i.size, i.bytes)) = some (some (.string ⟨#[]⟩), 1, 16) := by kernel_rfl
theorem tab_size : Nat.ble (Maps.size (DataW.map (H := Unit) tabE)) 200 = true := by kernel_rfl
theorem grown_of_below {w w' : World} (h : Below w.heap.size w w') : w.grownBy w' none := ⟨h.os, h.tape, h.output, h.size, fun i hi _ => h.block i hi⟩

theorem row_ne_map {H : Type} {P : Program} {k : TypeId} {R : Value → Option (DataW H × List MemPlace)} {w : World} {b n : Nat} {D : DataW H} {base : Nat} {e : TypeId} {size : Nat} {v : Value} {m : Nat} {xs : List Value}
    (h : w.ownsRow base e size v m xs) (ho : w.ownsMap P k R b n D) : some b ≠ v.ownBlock := by
  obtain ⟨es, clock, hm, _⟩ := ho
  rcases h.2 with ⟨rfl, _⟩ | ⟨g, cap, cur, rfl, _, hb, _⟩
  · simp [Value.ownBlock]
  · intro e1
    have : b = g := by simpa [Value.ownBlock] using e1
    subst this
    rw [hm] at hb
    cases hb
theorem is_at (x : List UInt8) (a0 : Int) (hx : x.length ≤ maxLen) : kind_Is.f ⟨x.toArray⟩ a0 = some (wants a0 x) := by
  unfold kind_Is.f
  rw [if_pos (by simpa [ByteArray.size] using hx)]
  rfl

set_option maxRecDepth 100000 in
set_option maxHeartbeats 2000000 in
theorem kind_All.calls (a0 : Int) (r : List ByteArray) (w : World) (hG : GW w) (h : kind_All.f a0 = some r) :
    Calls Tryd.prog 33 #[.int .i64 a0] w fun e w' => ∃ v0_ : Value, e = .returned (v0_) ∧ Kd.R Kd.string 9 w' w.heap.size (fun _ => True) v0_ r ∧ Below w.heap.size w w' := by
  obtain rfl : (allK a0).map (fun l => (⟨l.toArray⟩ : ByteArray)) = r := Option.some.inj h
  clear h
  have hgath := fun (ss : List (List UInt8)) h => gathered a0 (H := Unit) (ss := ss) h
  generalize allK a0 = L at hgath ⊢
  obtain ⟨i0, hi, hz0, hz1, hz2⟩ := info_parts infoStr9
  go_enter Tryd.func33, Tryd.ntmps33
  go_wp2_with (first
    | (go_at_call 35; refine (table_calls (H := Unit) _ hG).mono ?_; rintro e w1 ⟨rfl, ho, hb1⟩)
    | (at_range; refine wpList_range_own _ rfl _ 61 rfl 9 3 (Maps.string_keyed Tryd.underlying9) Tryd.underlying61 _ w.heap.size 10000 _ rfl ho ?_; intro w0 hrg0 hg0 hs0)
    | go_in)
  go_frame
  have hn0 : Maps.size (DataW.map (H := Unit) tabE) ≤ 200 := Nat.le_of_ble_eq_true tab_size
  have hbr : w.heap.size < w1.heap.size := ho.lt
  have hB0 : Below w.heap.size w w0 := hb1.grown hg0 hb1.size (fun j hj => by cases hj)
  clear hs0
  generalize hNm : Maps.size (DataW.map (H := Unit) tabE) = N at hrg0 hn0
  go_loopw [3] (fun v wr => ∃ (left : Lit → Bool) (cnt : Nat) (ss : List (List UInt8)), wr.ranges Tryd.prog 9 (plainElem (H := Unit) Tryd.prog 3) w.heap.size w1.heap.size 10000 (DataW.map tabE) left cnt ∧ ss.length + cnt ≤ 200 ∧
      wr.ownsRow w.heap.size 9 1 v (ss.filter (wants a0)).length ((ss.filter (wants a0)).map encStr) ∧ Collected (DataW.map (H := Unit) tabE) left ss ∧ Below w.heap.size w wr)
    (fun _ wr => wr.rangeLeft w.heap.size w1.heap.size)
  case atStart =>
    exact ⟨_, _, [], hrg0, by simpa using hn0, World.ownsRow_nil _ _ _ _, Collected.start _, hB0⟩
  case round =>
    obtain ⟨left, cnt, ss, hrg, hcs, hrow, hC, hnx⟩ := hrel
    go_wp2_with (first
      | (at_next; refine wpList_next_ranges _ rfl _ rfl 9 (Maps.string_keyed Tryd.underlying9) (plainElem (H := Unit) Tryd.prog 3) encStr (Value.int .i64) (fun key kl hk => by obtain ⟨x, hx, _⟩ := Maps.keyOf_str Tryd.underlying9 hk; exact ⟨x, hx⟩) (fun v y hv => by obtain ⟨c, rfl, _⟩ := plainElem_int_inv Tryd.underlying3 hv; exact ⟨c, rfl⟩) w.heap.size w1.heap.size 10000 _ _ _ rfl hrg ?_ ?_)
      | go_in)
    · intro hc0 hl0
      have hperm := hC.perm hrg.owns (Maps.string_keyed Tryd.underlying9) Tryd.underlying9 hl0
      have hsorted := hgath ss hperm
      have hlen : L.length = (ss.filter (wants a0)).length := by rw [← hsorted, List.length_mergeSort]
      have hfl : (ss.filter (wants a0)).length ≤ 200 := Nat.le_trans (List.length_filter_le _ _) (by omega)
      rcases hrow.2 with ⟨rfl, hnil⟩ | ⟨g, cap, cur, rfl, hbase, hb, h1, h2, h3, h4⟩
      · have hall : L = [] := by
          rw [← List.length_eq_zero_iff, hlen]
          simpa using hnil
        go_wp2_with (go_at_call 65; refine (Tryd.slices_Sort_string_none none 0 wr).mono ?_; rintro e w' ⟨rfl, rfl⟩)
        go_ret
        refine ⟨_, rfl, ?_, hnx⟩
        rw [hall]
        exact Kd.R_nil _ _ _ _ _
      · have hH : Holds encStr wr g 0 (ss.filter (wants a0)).toArray := holds_of_block hb (by simpa using h4)
        have hgl : g < wr.heap.size := (Array.getElem?_eq_some_iff.1 hb).1
        have hc := Tryd.slices_Sort_string g 0 cap (ss.filter (wants a0)) wr hH hgl (by omega)
        rw [hsorted] at hc
        have hown' := fun n os => ownsRow_sorted (w := wr) (n := n) (os := os) hlen hbase hb h1 h2 h3
        have hR := fun n os => R_of_own hlen (hown' n os)
        clear hown' hsorted hgath
        go_wp2_with (go_at_call 65; refine hc.mono ?_; rintro e w' ⟨rfl, nn, os, rfl⟩)
        go_ret
        exact ⟨_, rfl, hR nn os, hnx.grown (grownBy_sorted _) hnx.size (fun j hj => by cases hj; exact hbase)⟩
    · intro x c kl yd yp w2 cnt2 hkey hlk hv hat hrg2 hlt hg2 hs2 hen
      obtain ⟨x', ex, rfl, hxl⟩ := Maps.keyOf_str Tryd.underlying9 hkey
      obtain rfl : x = x' := encStr_inj ex
      have hrow2 := hrow.kept hg2 (Or.inr (row_ne_iter hrow hrg).symm)
      have hnx2 : Below w.heap.size w w2 := hnx.grown hg2 hnx.size (fun j hj => by cases hj; omega)
      have hG2 : GW w2 := hG.below hnx2
      have hfl : (ss.filter (wants a0)).length ≤ 200 := Nat.le_trans (List.length_filter_le _ _) (by omega)
      clear hs2 hgath
      cases hwt : wants a0 x with
      | false =>
        have hf : (ss ++ [x]).filter (wants a0) = ss.filter (wants a0) := by simp [hwt]
        go_wp2_with (go_at_call 16; refine (kind_Is.calls ⟨x.toArray⟩ a0 (wants a0 x) _ hG2 (is_at x a0 hxl)).mono ?_; rintro e w3 ⟨rfl, hb3⟩; rw [hwt])
        have hg3 := grown_of_below hb3
        have hrg3 := hrg2.kept hg3 (by simp) (by simp)
        go_roundw
        case rel =>
          have hob : u3.ownBlock = none ∨ u3.ownBlock ≠ none := by
            cases u3.ownBlock with
            | none => exact .inl rfl
            | some k => exact .inr (by simp)
          exact ⟨_, cnt2, ss ++ [x], hrg3, by simp; omega, by rw [hf]; exact hrow2.kept hg3 hob, hC.step hlk hat, hnx2.trans (hb3.mono hnx2.size)⟩
        case measure => rw [hrg3.left_eq, hrg.left_eq]; exact hlt
      | true =>
        have hf : (ss ++ [x]).filter (wants a0) = ss.filter (wants a0) ++ [x] := by simp [hwt]
        have hrow3 : ∀ w3, Below w2.heap.size w2 w3 → w3.ownsRow w.heap.size 9 1 u3 (ss.filter (wants a0)).length ((ss.filter (wants a0)).map encStr) := by
          intro w3 hb3
          refine hrow2.kept (grown_of_below hb3) ?_
          cases u3.ownBlock with
          | none => exact .inl rfl
          | some k => exact .inr (by simp)
        go_wp2_with (first
          | (go_at_call 16; refine (kind_Is.calls ⟨x.toArray⟩ a0 (wants a0 x) _ hG2 (is_at x a0 hxl)).mono ?_; rintro e w3 ⟨rfl, hb3⟩; rw [hwt])
          | (at_builtin; refine wpList_append_own _ rfl _ _ 25 rfl w.heap.size 9 i0 (.string ⟨#[]⟩) 1 16 Tryd.underlying25 hi hz0 hz1 hz2 rfl (by decide) _ _ _ rfl ((hrow3 _ hb3).alloc _) ⟨w3.heap.size, 0, none⟩ 1 1 [encStr x] rfl rfl (cell_one_new _ _ _) (by simp [Value.oneCell', encStr]) (by unfold maxLen; omega) (by omega) (by have := hnx2.size; have := hb3.size; simp; omega) ?_; intro v' w4 hown' hg4 hnil4; go_frame)
          | go_in)
        have hb3' : Below w.heap.size w w3 := hnx2.trans (hb3.mono hnx2.size)
        have hrow3' := (hrow3 w3 hb3)
        have hrg3 := ((hrg2.kept (grown_of_below hb3) (by simp) (by simp)).alloc _).kept hg4 (row_ne_map hrow3' (hrg2.kept (grown_of_below hb3) (by simp) (by simp)).owns) (row_ne_iter hrow3' (hrg2.kept (grown_of_below hb3) (by simp) (by simp)))
        go_roundw
        case rel =>
          refine ⟨_, cnt2, ss ++ [x], hrg3, by simp; omega, by rw [hf]; simpa using hown', hC.step hlk hat, ?_⟩
          exact (hb3'.alloc hb3'.size _).grown hg4 (by have := hb3'.size; simp; omega) (fun j hj => (hrow3'.lt j hj).1)
        case measure => rw [hrg3.left_eq, hrg.left_eq]; exact hlt
#print axioms kind_All.calls
end Go.Proofs.YteahlapoeiikoaaDoor.P
