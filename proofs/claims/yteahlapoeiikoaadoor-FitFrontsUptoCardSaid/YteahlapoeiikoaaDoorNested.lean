/-
  fit.nested: would an item end one in which it stands. Conditions: the library's tables hold what they were laid with; no name is longer than a string can be.
-/
import Derived.WalkSpells
import Derived.Maps.AppendAt
import Derived.RangeFuncBox
import Derived.Test.YteahlapoeiikoaaDoorBack
import Derived.Test.YteahlapoeiikoaaDoorKindsC
import Derived.Test.YteahlapoeiikoaaDoorJoin12

namespace Go.Proofs.YteahlapoeiikoaaDoor.P
open Go.RowKit Go.Shelf Go.Proofs.YteahlapoeiikoaaDoorW.PrintWords Go.Proofs.YteahlapoeiikoaaDoorW.PrintLast
set_option linter.unusedSimpArgs false
set_option linter.unusedVariables false
attribute [local go_sem] Oper.semAt_some

/-- An item's like. -/
def likes (name : ByteArray) : List ByteArray := (fit_items.f name).getD []
theorem items_eq (name : ByteArray) : fit_items.f name = some (likes name) := by
  unfold likes fit_items.f
  split
  · rfl
  · split
    · rfl
    · split <;> rfl
/-- Does an element end how far one looks. -/
def stopB (n : ByteArray) : Bool :=
  (Go.bits .and .i64 (Go.bits .and .i64 (kindOf n) 16) 1023 != 0) && (!(n.toList == [97, 100, 100, 114, 101, 115, 115]) && (!(n.toList == [100, 105, 118]) && !(n.toList == [112])))
/-- Is a text among some? -/
def memB (x : ByteArray) (l : List ByteArray) : Bool := l.any fun y => x.toList == y.toList
/-- From the innermost one outwards. -/
def nestScan (like : List ByteArray) : List ByteArray → Bool
  | [] => false
  | n :: r => if memB n like then true else if stopB n then false else nestScan like r
def nestedB (outer : List ByteArray) (name : ByteArray) : Bool := nestScan (likes name) outer.reverse
def fit_nested.f (outer : List ByteArray) (name : ByteArray) : Option Bool :=
  if outer.all (fun x => decide (x.size ≤ maxLen)) then some (nestedB outer name) else none

theorem nestScan_pass {like : List ByteArray} : ∀ (p r : List ByteArray), (∀ x ∈ p, memB x like = false ∧ stopB x = false) → nestScan like (p ++ r) = nestScan like r
  | [], _, _ => rfl
  | x :: p, r, h => by
    obtain ⟨h1, h2⟩ := h x (by simp)
    rw [List.cons_append, nestScan, if_neg (by simp [h1]), if_neg (by simp [h2]), nestScan_pass p r (fun y hy => h y (by simp [hy]))]

theorem likes_two (name : ByteArray) : likes name = [] ∨ (likes name).length = 1 ∨ (likes name).length = 2 := by
  unfold likes fit_items.f
  split
  · exact .inr (.inl rfl)
  · split
    · exact .inr (.inr rfl)
    · split
      · exact .inr (.inr rfl)
      · exact .inl rfl

/-- slices.Contains, at few. -/
theorem contains_few (l : List ByteArray) (x : ByteArray) (hl : l.length ≤ 2) : slices_Contains_string_string.f 5 l x = some (memB x l) := by
  match l, hl with
  | [], _ => simp [slices_Contains_string_string.f, slices_Index_string_string.f, slices_Index_string_string.l0, memB]
  | [a], _ =>
    by_cases h : x.toList = a.toList
    · simp [slices_Contains_string_string.f, slices_Index_string_string.f, slices_Index_string_string.l0, rdOf, h, memB]
    · simp [slices_Contains_string_string.f, slices_Index_string_string.f, slices_Index_string_string.l0, rdOf, h, wrap64, memB]
  | [a, b], _ =>
    by_cases h : x.toList = a.toList
    · simp [slices_Contains_string_string.f, slices_Index_string_string.f, slices_Index_string_string.l0, rdOf, h, memB]
    · by_cases h' : x.toList = b.toList
      · have h'' : ¬ b.toList = a.toList := fun e => h (h'.trans e)
        simp [slices_Contains_string_string.f, slices_Index_string_string.f, slices_Index_string_string.l0, rdOf, h', h'', wrap64, memB]
      · simp [slices_Contains_string_string.f, slices_Index_string_string.f, slices_Index_string_string.l0, rdOf, h, h', wrap64, memB]

theorem items_nil (a0 : ByteArray) (w : World) (h1 : (a0.toList == [108, 105]) = false) (h2 : (a0.toList == [100, 100]) = false) (h3 : (a0.toList == [100, 116]) = false) :
    Calls Tryd.prog 68 #[.string a0] w fun e w' => e = .returned (.slice none 0 0) ∧ w = w' := by
  go_enter Tryd.func68, Tryd.ntmps68
  go_wp2
  go_ret
  exact ⟨rfl, rfl⟩

set_option maxRecDepth 100000 in
set_option maxHeartbeats 2000000 in
theorem nested_nil (A0 : Option Addr) (c0 n0 : Nat) (a1 : ByteArray) (w : World) (h1 : (a1.toList == [108, 105]) = false) (h2 : (a1.toList == [100, 100]) = false) (h3 : (a1.toList == [100, 116]) = false) :
    Calls Tryd.prog 37 #[.slice A0 n0 c0, .string a1] w fun e w' => e = .returned (.bool false) ∧ Below w.heap.size w w' := by
  have hb := Lib.hid h1
  have hn := @Lib.run_eql_slice_nil Tryd.prog
  go_enter Tryd.func37, Tryd.ntmps37
  go_wp2_with (go_at_call 68; refine (items_nil a1 _ h1 h2 h3).mono ?_; rintro e w' ⟨rfl, rfl⟩)
  exact bodyPost_ret (v := .bool false) (by simp [results, Tryd.results37, go_sem]) rfl ⟨rfl, ((Below.refl _ _).alloc (Nat.le_refl _) _).alloc (by simp) _⟩

theorem scan_some {like : List ByteArray} {n : ByteArray} (p r : List ByteArray) (hp : ∀ x ∈ p, memB x like = false ∧ stopB x = false) (h : memB n like = true) : nestScan like (p ++ n :: r) = true := by
  rw [nestScan_pass p _ hp, nestScan, if_pos h]
theorem scan_stop {like : List ByteArray} {n : ByteArray} (p r : List ByteArray) (hp : ∀ x ∈ p, memB x like = false ∧ stopB x = false) (h : memB n like = false) (hs : stopB n = true) : nestScan like (p ++ n :: r) = false := by
  rw [nestScan_pass p _ hp, nestScan, if_neg (by simp [h]), if_pos hs]

/-- What the walk has come by is a front of the texts from behind. -/
theorem backTo_rev (l : List ByteArray) (k : Nat) (hk : k ≤ l.length) : (backTo l k).map (·.2) = l.reverse.take k := by
  apply List.ext_getElem
  · simp [backTo]; omega
  · intro i h1 h2
    simp only [backTo, List.map_map, List.length_map, List.length_range] at h1
    simp only [backTo, List.getElem_map, List.getElem_range, List.getElem_take, List.getElem_reverse, Function.comp]
    rw [List.getD_eq_getElem?_getD, List.getElem?_eq_getElem (by omega)]
    rfl

/-- What only makes memory keeps all. -/
theorem keeps_below {W W' : World} (h : Below W.heap.size W W') (B : Nat) : KeepsFrom B W W' :=
  ⟨h.size, fun k o _ hk _ => (h.block k (Array.getElem?_eq_some_iff.1 hk).1).trans hk⟩
theorem kpB_below {n₀ Bs : Nat} {W W' : World} (h : Below W.heap.size W W') (hn : n₀ ≤ W.heap.size) (hb : Bs < W.heap.size) : KpB n₀ Bs W W' := ⟨h.mono hn, h.block _ hb⟩
/-- None of these ends the search. -/
def Pass (L : List ByteArray) (pre : List Ix) : Prop := ∀ y ∈ pre.map (·.1.2), memB y L = false ∧ stopB y = false
theorem Pass.snoc {L : List ByteArray} {pre : List Ix} {x : Ix} (h : Pass L pre) (h1 : memB x.1.2 L = false) (h2 : stopB x.1.2 = false) : Pass L (pre ++ [x]) := by
  intro y hy
  rw [List.map_append, List.mem_append] at hy
  rcases hy with hy | hy
  · exact h y hy
  · simp at hy
    subst hy
    exact ⟨h1, h2⟩
/-- What the search comes to, when some have come. -/
theorem scan_front {L : List ByteArray} {l0 : List ByteArray} {pre : List Ix} {k : Nat} (hk : k ≤ l0.length) (hp : pre.map (·.1) = backTo l0 k) : ∃ r, l0.reverse = pre.map (·.1.2) ++ r := by
  refine ⟨l0.reverse.drop k, ?_⟩
  have e : pre.map (·.1.2) = l0.reverse.take k := by
    rw [← backTo_rev l0 k hk, ← hp, List.map_map]
    rfl
  rw [e, List.take_append_drop]
def Found (L : List ByteArray) (pre : List Ix) : Prop := ∃ p y, pre = p ++ [y] ∧ Pass L p ∧ memB y.1.2 L = true
def Stopped (L : List ByteArray) (pre : List Ix) : Prop := ∃ p y, pre = p ++ [y] ∧ Pass L p ∧ memB y.1.2 L = false ∧ stopB y.1.2 = true
theorem found_scan {L l0 : List ByteArray} {pre : List Ix} {k : Nat} (hk : k ≤ l0.length) (hp : pre.map (·.1) = backTo l0 k) (h : Found L pre) : nestScan L l0.reverse = true := by
  obtain ⟨r, hr⟩ := scan_front (L := L) hk hp
  obtain ⟨p, y, rfl, h1, h2⟩ := h
  rw [hr, List.map_append, List.append_assoc]
  exact scan_some _ _ h1 h2
theorem stopped_scan {L l0 : List ByteArray} {pre : List Ix} {k : Nat} (hk : k ≤ l0.length) (hp : pre.map (·.1) = backTo l0 k) (h : Stopped L pre) : nestScan L l0.reverse = false := by
  obtain ⟨r, hr⟩ := scan_front (L := L) hk hp
  obtain ⟨p, y, rfl, h1, h2, h3⟩ := h
  rw [hr, List.map_append, List.append_assoc]
  exact scan_stop _ _ h1 h2 h3
theorem pass_scan {L l0 : List ByteArray} {pre : List Ix} (hp : pre.map (·.1) = backTo l0 l0.length) (h : Pass L pre) : nestScan L l0.reverse = false := by
  have e : pre.map (·.1.2) = l0.reverse := by
    have := backTo_rev l0 l0.length (Nat.le_refl _)
    rw [← hp, List.map_map] at this
    rw [show (pre.map (·.1.2)) = pre.map ((·.2) ∘ (·.1)) from rfl, this, List.take_of_length_le (by simp)]
  rw [← e, ← List.append_nil (pre.map _), nestScan_pass _ _ h]
  rfl

theorem end_cell {w X : World} {D : Nat} {bv : Bool} {tmps : Array Value} (h4 : tmps[4]? = some (.pointer (some ⟨w.heap.size, 0, none⟩))) (hcell : X.cell? ⟨w.heap.size, 0, none⟩ = some (.bool bv)) (hK : X.heap[D]? = some (.deferred (some []))) (hB : Below w.heap.size w X) (hD : w.heap.size ≤ D) :
    bodyPostM Fence.wide 6 Tryd.prog Tryd.f37 (fun e w' => e = .returned (.bool bv) ∧ Below w.heap.size w w') .ret { tmps := tmps, defers := [{ target := .collected D, args := #[] }] } X := by
  have hc := cell_kept hcell (grownBy_putObj' X D (.deferred none)) (fun r e => by cases e; exact ⟨_, hK, rfl⟩)
  refine ⟨by simp, .inl ⟨D, _, rfl, run_takeDeferred hK, ⟨.bool bv, ?_, rfl, hB.trans (belowK_b (w := w) (Nat.le_refl _) X D _ _ hD hK rfl rfl)⟩⟩⟩
  simp [results, Tryd.results37, go_sem, h4, hc]

set_option maxRecDepth 100000 in
set_option maxHeartbeats 4000000 in
theorem nested_some (A0 : Option Addr) (c0 : Nat) (l0 : List ByteArray) (a1 : ByteArray) (w : World) (hG : GW w) (hr0 : Kd.C Kd.string w A0 l0.length l0) (hc0 : l0.length ≤ c0) (hlen : l0.length ≤ 9223372036854775807) (hx : ∀ x ∈ l0, x.size ≤ maxLen) (hne : likes a1 ≠ []) :
    CallsIn Fence.wide 6 Tryd.prog 37 #[.slice A0 l0.length c0, .string a1] w fun e w' => e = .returned (.bool (nestedB l0 a1)) ∧ Below w.heap.size w w' := by
  have hl2 : (likes a1).length ≤ 2 := by rcases likes_two a1 with h | h | h <;> simp [h]
  have hit := fit_items.calls a1 (likes a1)
  have hiq := items_eq a1
  have hn := @Lib.run_eql_slice_nil Tryd.prog
  obtain ⟨L, hL⟩ : ∃ L, likes a1 = L := ⟨_, rfl⟩
  rw [hL] at hl2 hne hit hiq
  have HL := Lib.hid hL
  have HI := Lib.hid hiq
  have HT := Lib.hid hit
  have HC := Lib.hid hc0
  have HX := Lib.hid hx
  have HLen := Lib.hid hlen
  clear hL hiq hit hc0 hx hlen
  refine callsIn_of_wp_marks Tryd.func37 rfl trivial ?_ rfl
  simp only [Tryd.ntmps37, List.size_toArray, List.length_cons, List.length_nil, Nat.reduceAdd, Nat.reduceSub, Array.replicate_succ, Array.replicate_zero, List.push_toArray, List.append_toArray, List.nil_append, List.cons_append]
  gi_wp2_with (first
    | (refine ⟨trivial, ?_⟩; gi_at_call 68; refine (callsIn_wide.2 (HT.out _ HI.out)).mono ?_; rintro e w2 ⟨v2, rfl, ho, hb⟩; obtain ⟨A2, c2, rfl, hcl, hcr⟩ := Kd.R_reads ho; clear ho; obtain ⟨ad2, rfl⟩ : ∃ ad, A2 = some ad := by
        obtain ⟨ad, h, _⟩ := Kd.at_string hcr 0 (Int.le_refl _) (by have := List.length_pos_iff.2 hne; omega)
        exact ⟨ad, h⟩)
    | (refine ⟨trivial, ?_⟩; gi_at_call 69; refine (backward_in Fence.wide 5 trivial rfl _ _ _ _).mono ?_; rintro e w' ⟨rfl, rfl⟩))
  have hb1 : Below w.heap.size w (w.alloc (.cells #[.bool false] 4)) := (Below.refl _ _).alloc (Nat.le_refl _) _
  have hz1 : w.heap.size + 1 ≤ w2.heap.size := by have := hb.size; simpa using this
  have hb2 : Below w.heap.size w w2 := hb1.trans (hb.mono (by simp))
  have hc1 : w2.cell? ⟨w.heap.size, 0, none⟩ = some (.bool false) := (hb.cell (p := ⟨w.heap.size, 0, none⟩) (by simp)).trans (Boxed.new w 4 (.bool false)).cell
  have hf1 : w2.frozen? ⟨w.heap.size, 0, none⟩ = false := (hb.frozen (p := ⟨w.heap.size, 0, none⟩) (by simp)).trans (Boxed.new w 4 (.bool false)).frozen
  have bL := (Boxed.new w2 25 (.slice (some ad2) L.length c2)).alloc (.cells #[.slice A0 l0.length c0] 25)
  have bN := Boxed.new (w2.alloc (.cells #[.slice (some ad2) L.length c2] 25)) 25 (.slice A0 l0.length c0)
  rw [World.size_alloc] at bN
  have hb3 : Below w2.heap.size w2 ((w2.alloc (.cells #[.slice (some ad2) L.length c2] 25)).alloc (.cells #[.slice A0 l0.length c0] 25)) := ((Below.refl _ _).alloc (Nat.le_refl _) _).alloc (by simp) _
  obtain ⟨W2, hW2⟩ : ∃ W2, ((w2.alloc (.cells #[.slice (some ad2) L.length c2] 25)).alloc (.cells #[.slice A0 l0.length c0] 25)) = W2 := ⟨_, rfl⟩
  have hz2 : W2.heap.size = w2.heap.size + 2 := by rw [← hW2]; simp
  rw [hW2] at bL bN hb3 ⊢
  clear hW2
  have hBW : Below w.heap.size w W2 := hb2.trans (hb3.mono hb2.size)
  have hcr2 := Kd.C_below hcr hb3
  have hc2 : W2.cell? ⟨w.heap.size, 0, none⟩ = some (.bool false) := (hb3.cell (p := ⟨w.heap.size, 0, none⟩) (by show w.heap.size < _; omega)).trans hc1
  have hf2 : W2.frozen? ⟨w.heap.size, 0, none⟩ = false := (hb3.frozen (p := ⟨w.heap.size, 0, none⟩) (by show w.heap.size < _; omega)).trans hf1
  have hG2 := hG.below hBW
  have HHn := Lib.hid hn
  clear hcr hc1 hf1 hb hb1 hn
  refine wpIn_rangeFunc_ownG (F := Fence.wide) rfl (by decide) (gf := 87) (lb := #[.pointer (some ⟨w2.heap.size + 1, 0, none⟩)]) rfl trivial (enters_of Tryd.func87 (by kernel_rfl) rfl)
    (back_stops Fence.wide 5 trivial rfl (by decide) (w2.heap.size + 1) A0 c0 l0 HX.out w W2 hBW (by omega) bN.cell hr0 HLen.out) (fun h k => h.trans k) (kpB_b (by omega) (by omega)) (Below.refl _ _) (fun _ => rfl)
    (fun pre X => Below W2.heap.size W2 X ∧ Pass L pre)
    (fun c pre X => (c = .ret ∧ Found L pre ∧ X.cell? ⟨w.heap.size, 0, none⟩ = some (.bool true) ∧ Below w.heap.size w X) ∨ (c = .exit 0 ∧ Stopped L pre ∧ Below W2.heap.size W2 X))
    (OwnFrom.and (ownFrom_below (Nat.le_refl _) (Nat.le_refl _)) (ownFrom_pure _ _))
    (fun c s A B row hs hg hr => by
      rcases hs with ⟨h1, h2, h3, h4⟩ | ⟨h1, h2, h3⟩
      · exact .inl ⟨h1, h2, cell_kept h3 hg (fun r e => (hr r e).2), h4.grown hg h4.size (fun r e => by have := (hr r e).1; omega)⟩
      · exact .inr ⟨h1, h2, h3.grown hg h3.size (fun r e => (hr r e).1)⟩)
    ⟨Below.refl _ _, fun y hy => by cases hy⟩
    (fun x : Ix => { tmps := #[.slice A0 l0.length c0, .string a1, undef, undef, .pointer (some ⟨w.heap.size, 0, none⟩), .pointer (some ⟨w2.heap.size, 0, none⟩), undef, .string x.1.2, .string a1, .slice (some ad2) L.length c2, .slice (some ad2) L.length c2, .bool false, .slice A0 l0.length c0, .func (.func 87) #[] #[.pointer (some ⟨w2.heap.size + 1, 0, none⟩)], .int .i64 (x.1.1 : Int), .string x.1.2, undef, undef, undef, undef, undef, undef, undef, undef, undef, undef, undef, undef, undef, undef, undef, undef, undef], defers := [] }) ?assign ?body ?done ?stop
  case assign =>
    intro l x X K hK
    gi_wp2
    exact hK
  case body =>
    rintro l pre x X ⟨hBx, hpass⟩ hlen
    have hcx : X.cell? ⟨w.heap.size, 0, none⟩ = some (.bool false) := (hBx.cell (p := ⟨w.heap.size, 0, none⟩) (by show w.heap.size < _; omega)).trans hc2
    have hfx : X.frozen? ⟨w.heap.size, 0, none⟩ = false := (hBx.frozen (p := ⟨w.heap.size, 0, none⟩) (by show w.heap.size < _; omega)).trans hf2
    have hlx : X.cell? ⟨w2.heap.size, 0, none⟩ = some (.slice (some ad2) L.length c2) := (hBx.cell (p := ⟨w2.heap.size, 0, none⟩) (by show w2.heap.size < _; omega)).trans bL.cell
    have hrx := Lib.hid (Kd.C_below hcr2 hBx)
    have hGx := Lib.hid (hG2.below hBx)
    have hzx := hBx.size
    have hcon := contains_few L x.1.2 hl2
    have hxs := Lib.hid x.2
    have hBw : Below w.heap.size w X := hBW.trans (hBx.mono (by omega))
    cases hm : memB x.1.2 L with
    | true =>
      rw [hm] at hcon
      have HM := Lib.hid hm
      have HCon := Lib.hid hcon
      clear hm hcon
      gi_wp2_with (refine ⟨trivial, ?_⟩; gi_at_call 36; refine (CallsIn.inRound l (callsIn_wide.2 (slices_Contains_string_string.calls 5 _ _ L x.1.2 true _ hrx.out hcl HCon.out))).mono ?_; rintro e w' ⟨rfl, ⟨nd, rfl⟩⟩)
      exact ⟨(keeps_below (pw_below_drewN (Below.refl _ X) nd) _).trans ((KeepsOthers.setCell _ _ _).from _), .inl ⟨rfl, ⟨pre, x, rfl, hpass, HM.out⟩, World.cell?_setCell_same' _ _ _ (by show (X.cell? _).isSome = true; rw [hcx]; rfl), (pw_below_drewN hBw nd).setCell (p := ⟨w.heap.size, 0, none⟩) (Nat.le_refl _) _⟩⟩
    | false =>
      rw [hm] at hcon
      have HM := Lib.hid hm
      have HCon := Lib.hid hcon
      clear hm hcon
      have hIs : kind_Is.f x.1.2 16 = some (Go.bits .and .i64 (Go.bits .and .i64 (kindOf x.1.2) 16) 1023 != 0) := by rw [kind_Is.f, if_pos hxs.out]
      have fin : ∀ X' : World, Below X.heap.size X X' → stopB x.1.2 = false → KeepsFrom W2.heap.size X X' ∧ KpB w.heap.size (w2.heap.size + 1) X X' ∧ Below W2.heap.size W2 X' ∧ Pass L (pre ++ [x]) :=
        fun X' h hs => ⟨keeps_below h _, kpB_below h (by omega) (by omega), hBx.trans (h.mono hzx), hpass.snoc HM.out hs⟩
      have FIN := Lib.hid fin
      clear fin
      cases hb : (Go.bits .and .i64 (Go.bits .and .i64 (kindOf x.1.2) 16) 1023 != 0) with
      | false =>
        rw [hb] at hIs
        have hst := Lib.hid (show stopB x.1.2 = false by unfold stopB; rw [hb]; rfl)
        have HIs := Lib.hid hIs
        clear hIs hb
        gi_wp2_with (first
          | (refine ⟨trivial, ?_⟩; gi_at_call 36; refine (CallsIn.inRound l (callsIn_wide.2 (slices_Contains_string_string.calls 5 _ _ L x.1.2 false _ hrx.out hcl HCon.out))).mono ?_; rintro e w' ⟨rfl, ⟨nd, rfl⟩⟩)
          | (refine ⟨trivial, ?_⟩; gi_at_call 16; refine (CallsIn.inRound l (callsIn_wide.2 (kind_Is.calls x.1.2 16 false _ (hGx.out.drewN _) HIs.out))).mono ?_; rintro e w' ⟨rfl, hb3⟩))
        exact FIN.out _ (by have h0 := pw_below_drewN (Below.refl X.heap.size X) ‹Nat›; exact h0.trans (hb3.mono h0.size)) hst.out
      | true =>
        rw [hb] at hIs
        have HIs := Lib.hid hIs
        have HB := Lib.hid hb
        clear hIs hb
        cases e1 : (x.1.2.toList == [97, 100, 100, 114, 101, 115, 115]) with
        | true =>
          have hst := Lib.hid (show stopB x.1.2 = false by unfold stopB; rw [HB.out, e1]; rfl)
          gi_wp2_with (first
          | (refine ⟨trivial, ?_⟩; gi_at_call 36; refine (CallsIn.inRound l (callsIn_wide.2 (slices_Contains_string_string.calls 5 _ _ L x.1.2 false _ hrx.out hcl HCon.out))).mono ?_; rintro e w' ⟨rfl, ⟨nd, rfl⟩⟩)
          | (refine ⟨trivial, ?_⟩; gi_at_call 16; refine (CallsIn.inRound l (callsIn_wide.2 (kind_Is.calls x.1.2 16 true _ (hGx.out.drewN _) HIs.out))).mono ?_; rintro e w' ⟨rfl, hb3⟩))
          exact FIN.out _ (by have h0 := pw_below_drewN (Below.refl X.heap.size X) ‹Nat›; exact h0.trans (hb3.mono h0.size)) hst.out
        | false =>
          have E1 := Lib.hid e1
          cases e2 : (x.1.2.toList == [100, 105, 118]) with
          | true =>
            have hst := Lib.hid (show stopB x.1.2 = false by unfold stopB; rw [HB.out, E1.out, e2]; rfl)
            gi_wp2_with (first
          | (refine ⟨trivial, ?_⟩; gi_at_call 36; refine (CallsIn.inRound l (callsIn_wide.2 (slices_Contains_string_string.calls 5 _ _ L x.1.2 false _ hrx.out hcl HCon.out))).mono ?_; rintro e w' ⟨rfl, ⟨nd, rfl⟩⟩)
          | (refine ⟨trivial, ?_⟩; gi_at_call 16; refine (CallsIn.inRound l (callsIn_wide.2 (kind_Is.calls x.1.2 16 true _ (hGx.out.drewN _) HIs.out))).mono ?_; rintro e w' ⟨rfl, hb3⟩))
            exact FIN.out _ (by have h0 := pw_below_drewN (Below.refl X.heap.size X) ‹Nat›; exact h0.trans (hb3.mono h0.size)) hst.out
          | false =>
            have E2 := Lib.hid e2
            cases e3 : (x.1.2.toList == [112]) with
            | true =>
              have hst := Lib.hid (show stopB x.1.2 = false by unfold stopB; rw [HB.out, E1.out, E2.out, e3]; rfl)
              gi_wp2_with (first
          | (refine ⟨trivial, ?_⟩; gi_at_call 36; refine (CallsIn.inRound l (callsIn_wide.2 (slices_Contains_string_string.calls 5 _ _ L x.1.2 false _ hrx.out hcl HCon.out))).mono ?_; rintro e w' ⟨rfl, ⟨nd, rfl⟩⟩)
          | (refine ⟨trivial, ?_⟩; gi_at_call 16; refine (CallsIn.inRound l (callsIn_wide.2 (kind_Is.calls x.1.2 16 true _ (hGx.out.drewN _) HIs.out))).mono ?_; rintro e w' ⟨rfl, hb3⟩))
              exact FIN.out _ (by have h0 := pw_below_drewN (Below.refl X.heap.size X) ‹Nat›; exact h0.trans (hb3.mono h0.size)) hst.out
            | false =>
              have hst := Lib.hid (show stopB x.1.2 = true by unfold stopB; rw [HB.out, E1.out, E2.out, e3]; rfl)
              gi_wp2_with (first
          | (refine ⟨trivial, ?_⟩; gi_at_call 36; refine (CallsIn.inRound l (callsIn_wide.2 (slices_Contains_string_string.calls 5 _ _ L x.1.2 false _ hrx.out hcl HCon.out))).mono ?_; rintro e w' ⟨rfl, ⟨nd, rfl⟩⟩)
          | (refine ⟨trivial, ?_⟩; gi_at_call 16; refine (CallsIn.inRound l (callsIn_wide.2 (kind_Is.calls x.1.2 16 true _ (hGx.out.drewN _) HIs.out))).mono ?_; rintro e w' ⟨rfl, hb3⟩))
              refine ⟨keeps_below (by have h0 := pw_below_drewN (Below.refl X.heap.size X) ‹Nat›; exact h0.trans (hb3.mono h0.size)) _, .inr ⟨rfl, ⟨pre, x, rfl, hpass, HM.out, hst.out⟩, ?_⟩⟩
              have h0 := pw_below_drewN (Below.refl X.heap.size X) ‹Nat›
              exact hBx.trans ((h0.trans (hb3.mono h0.size)).mono hzx)
  case done =>
    rintro D ys X hD hys ⟨hBx, hpass⟩ hK
    have hcx : X.cell? ⟨w.heap.size, 0, none⟩ = some (.bool false) := (hBx.cell (p := ⟨w.heap.size, 0, none⟩) (by show w.heap.size < _; omega)).trans hc2
    have hfx : X.frozen? ⟨w.heap.size, 0, none⟩ = false := (hBx.frozen (p := ⟨w.heap.size, 0, none⟩) (by show w.heap.size < _; omega)).trans hf2
    have hres := Lib.hid (show nestedB l0 a1 = false by unfold nestedB; rw [HL.out]; exact pass_scan hys hpass)
    have hBw : Below w.heap.size w X := hBW.trans (hBx.mono (by omega))
    gi_wp2
    rw [hres.out]
    exact end_cell rfl (World.cell?_setCell_same' _ _ _ (by rw [hcx]; rfl)) ((Below.heap_setCell _ _ _ _ (by show D ≠ w.heap.size; omega)).trans hK) (hBw.setCell (p := ⟨w.heap.size, 0, none⟩) (Nat.le_refl _) _) (by omega)
  case stop =>
    rintro D c pre X hD ⟨k, hk, hpre⟩ h hK
    rcases h with ⟨rfl, hfo, hc, hB⟩ | ⟨rfl, hst, hB⟩
    · have hres := Lib.hid (show nestedB l0 a1 = true by unfold nestedB; rw [HL.out]; exact found_scan hk hpre hfo)
      gi_wp2
      rw [hres.out]
      exact end_cell rfl hc hK hB (by omega)
    · have hres := Lib.hid (show nestedB l0 a1 = false by unfold nestedB; rw [HL.out]; exact stopped_scan hk hpre hst)
      have hcx : X.cell? ⟨w.heap.size, 0, none⟩ = some (.bool false) := (hB.cell (p := ⟨w.heap.size, 0, none⟩) (by show w.heap.size < _; omega)).trans hc2
      have hfx : X.frozen? ⟨w.heap.size, 0, none⟩ = false := (hB.frozen (p := ⟨w.heap.size, 0, none⟩) (by show w.heap.size < _; omega)).trans hf2
      have hBw : Below w.heap.size w X := hBW.trans (hB.mono (by omega))
      gi_wp2
      rw [hres.out]
      exact end_cell rfl (World.cell?_setCell_same' _ _ _ (by rw [hcx]; rfl)) ((Below.heap_setCell _ _ _ _ (by show D ≠ w.heap.size; omega)).trans hK) (hBw.setCell (p := ⟨w.heap.size, 0, none⟩) (Nat.le_refl _) _) (by omega)

theorem fit_nested.calls (A0 : Option Addr) (c0 : Nat) (l0 : List ByteArray) (a1 : ByteArray) (r : Bool) (w : World) (hr0 : Kd.C Kd.string w A0 l0.length l0) (hc0 : l0.length ≤ c0) (hG : GW w) (h : fit_nested.f l0 a1 = some r) :
    Calls Tryd.prog 37 #[.slice A0 l0.length c0, .string a1] w fun e w' => e = .returned (.bool r) ∧ Below w.heap.size w w' := by
  by_cases hx : l0.all (fun x => decide (x.size ≤ maxLen)) = true
  · rw [fit_nested.f, if_pos hx] at h
    obtain rfl : nestedB l0 a1 = r := by simpa using h
    have hx' : ∀ x ∈ l0, x.size ≤ maxLen := fun x hm => by simpa using List.all_eq_true.1 hx x hm
    by_cases hne : likes a1 = []
    · have e : nestedB l0 a1 = false := by
        unfold nestedB
        rw [hne]
        have : ∀ l : List ByteArray, nestScan [] l = false := by
          intro l
          induction l with
          | nil => rfl
          | cons y l ih => simp [nestScan, memB, ih]
        exact this _
      rw [e]
      have hz := items_eq a1
      rw [hne] at hz
      unfold fit_items.f at hz
      by_cases h1 : a1.toList = [108, 105]
      · rw [if_pos h1] at hz; simp at hz
      · rw [if_neg h1] at hz
        by_cases h2 : a1.toList = [100, 100]
        · rw [if_pos h2] at hz; simp at hz
        · rw [if_neg h2] at hz
          by_cases h3 : a1.toList = [100, 116]
          · rw [if_pos h3] at hz; simp at hz
          · exact nested_nil A0 c0 l0.length a1 w (by simpa using h1) (by simpa using h2) (by simpa using h3)
    · exact callsIn_wide.1 (nested_some A0 c0 l0 a1 w hG hr0 hc0 hr0.2.1 hx' hne)
  · rw [fit_nested.f, if_neg hx] at h
    cases h
end Go.Proofs.YteahlapoeiikoaaDoor.P
