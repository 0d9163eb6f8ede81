/-
  kind.kinds: a new map, which reads as the fold of all lists' names. Conditions: strings.asciiSpace holds what it was laid with.
-/
import Derived.OpenShut
import Derived.Test.YteahlapoeiikoaaDoorKindsA

namespace Go.Proofs.YteahlapoeiikoaaDoor
set_option linter.unusedSimpArgs false
open Go.RowKit Go.Shelf
attribute [local go_sem] Oper.semAt_some

def numD {H : Type} : DataW H → Int
  | .lit (.int _ c) => c
  | _ => 0
def keyL (x : ByteArray) : Lit := .string x.data.toList
/-- One round: list k's bit is added at x. -/
def bumpK {H : Type} (k : Nat) (D : DataW H) (x : ByteArray) : DataW H := D.put (keyL x) (.lit (.int .i64 (bits .or .i64 (numD (D.atKey (keyL x) (.lit (.int .i64 0)))) (IntKind.i64.wrap (2 ^ k)))))
def foldK {H : Type} : Nat → DataW H
  | 0 => .map []
  | k + 1 => (fieldsOf (lst k)).foldl (bumpK k) (foldK k)

/-- The deferred calls that the loops have left: each collects a block that holds none. -/
def Pend (B : Nat) (ds : List Deferred) (Ds : List Nat) (W : World) : Prop :=
  ds = Ds.map (fun D => { target := .collected D, args := #[] }) ∧ Ds.Nodup ∧ ∀ D ∈ Ds, B < D ∧ W.heap[D]? = some (.deferred (some []))

theorem Pend.grown {B : Nat} {ds : List Deferred} {Ds : List Nat} {W W' : World} {row : Option Nat} (h : Pend B ds Ds W) (hg : W.grownBy W' row) (hr : ∀ D ∈ Ds, some D ≠ row) : Pend B ds Ds W' :=
  ⟨h.1, h.2.1, fun D hD => ⟨(h.2.2 D hD).1, (hg.block D (Array.getElem?_eq_some_iff.1 (h.2.2 D hD).2).1 (hr D hD)).trans (h.2.2 D hD).2⟩⟩
theorem Pend.below {B : Nat} {ds : List Deferred} {Ds : List Nat} {W W' : World} (h : Pend B ds Ds W) (hg : Below W.heap.size W W') : Pend B ds Ds W' :=
  ⟨h.1, h.2.1, fun D hD => ⟨(h.2.2 D hD).1, (hg.block D (Array.getElem?_eq_some_iff.1 (h.2.2 D hD).2).1).trans (h.2.2 D hD).2⟩⟩

/-- At the return: the deferred calls are taken up, one behind the other. -/
theorem leaves_pend {F : Fence} {n : Nat} {P : Program} {fn : Func} {tmps : Array Value} {R : Ending → World → Prop} {B : Nat} (Z : World → Prop)
    (hZ : ∀ W D, Z W → B < D → W.heap[D]? = some (.deferred (some [])) → Z (W.putObj D (.deferred none)))
    (hend : ∀ W, Z W → LeavesIn F n P fn tmps R [] .returning W) :
    ∀ (Ds : List Nat) (W : World), Ds.Nodup → (∀ D ∈ Ds, B < D ∧ W.heap[D]? = some (.deferred (some []))) → Z W →
      LeavesInM F n P fn tmps R (Ds.map (fun D => { target := .collected D, args := #[] })) .returning W
  | [], W, _, _, hz => hend W hz
  | D :: Ds, W, hn, hh, hz => by
    have hD := hh D (by simp)
    refine ⟨by simp, .inl ⟨D, _, rfl, run_takeDeferred hD.2, ?_⟩⟩
    refine leaves_pend Z hZ hend Ds _ (List.nodup_cons.1 hn).2 (fun D' hD' => ⟨(hh D' (by simp [hD'])).1, ?_⟩) (hZ _ _ hz hD.1 hD.2)
    have hne : D' ≠ D := fun e => (List.nodup_cons.1 hn).1 (e ▸ hD')
    exact (World.putObj_heap_other hne).trans (hh D' (by simp [hD'])).2

theorem fieldsOf_len (s : ByteArray) : (fieldsOf s).length ≤ s.size + 1 := by
  have := fsp_len s s.size
  unfold fieldsOf
  split <;> simp <;> omega
theorem keyStr (x : Sm) : keyOf Tryd.prog 9 (.string x.1) = some (keyL x.1) := by
  have hx := x.2
  unfold keyOf mapKey
  simp only [Tryd.underlying9]
  rw [if_pos (by unfold maxLen; omega)]
  rfl
theorem zero3 (w : World) : (zeroValue 3).run Tryd.prog w = .ok (.int .i64 0) w := by kernel_rfl
def KindsInv {H : Type} (w : World) (a : Act) (W : World) : Prop :=
  ∃ (k : Nat) (ds : List Deferred) (Ds : List Nat) (u2 u3 u4 u8 u9 u10 u11 u12 u13 u14 u15 u16 u17 u18 u19 u20 u21 : Value), k ≤ 10 ∧
    a = { tmps := #[.map none, .pointer (some ⟨w.heap.size + 1, 0, none⟩), u2, u3, u4, .map (some w.heap.size), listsV, .int .i64 k, u8, u9, u10, u11, u12, u13, u14, u15, u16, u17, u18, u19, u20, u21], defers := ds } ∧
    Pend (w.heap.size + 1) ds Ds W ∧ W.cell? ⟨w.heap.size + 1, 0, none⟩ = some (.map (some w.heap.size)) ∧ W.ownsMap Tryd.prog 9 (plainElem (H := H) Tryd.prog 3) w.heap.size (1000 * k) (foldK k) ∧ Below w.heap.size w W

set_option maxRecDepth 100000 in
set_option maxHeartbeats 2000000 in
theorem kinds_in {H : Type} (F : Fence) (n : Nat) (h66 : F.fn 66) (h85 : F.fn 85) (h86 : F.fn 86) (h107 : F.fn 107) (hro : F.round = none) (hn : 3 ≤ n) (w : World) (h2 : 2 < w.heap.size)
    (htab : ∀ c : UInt8, c.toNat < 128 → w.cell? ⟨2, c.toNat, none⟩ = some (.int .u8 (spCell c))) :
    CallsIn F n Tryd.prog 66 #[] w fun e W' => e = .returned (.map (some w.heap.size)) ∧ W'.ownsMap Tryd.prog 9 (plainElem (H := H) Tryd.prog 3) w.heap.size 10000 (foldK 10) ∧ Below w.heap.size w W' := by
  have h1 : 1 ≤ n := by omega
  have hmm := @run_makeMap Tryd.prog
  refine callsIn_of_wp_marks Tryd.func66 rfl h66 ?_ hro
  simp only [Tryd.ntmps66, List.size_toArray, List.length_cons, List.length_nil, Nat.reduceAdd, Nat.reduceSub, Array.replicate_succ, Array.replicate_zero, List.push_toArray, List.append_toArray, List.nil_append, List.cons_append]
  gi_wp2_with (gi_at_call 85; refine (lists_calls F (n - 1) h85 hro _).mono ?_; rintro e w1 ⟨rfl, hb1⟩)
  refine wpIn_loop (KindsInv (H := H) w) (fun a _ => 10 - (intOf (a.tmps.getD 7 undef)).toNat) ?start ?round
  case start =>
    have hm0 := (World.ownsMap_made w Tryd.prog 9 (plainElem (H := H) Tryd.prog 3)).alloc (.cells #[.map (some w.heap.size)] 61)
    have bS := Boxed.new (w.alloc (.map #[] 0)) 61 (.map (some w.heap.size))
    rw [World.size_alloc] at bS
    have hB0 : Below w.heap.size w ((w.alloc (.map #[] 0)).alloc (.cells #[.map (some w.heap.size)] 61)) := ((Below.refl _ w).alloc (Nat.le_refl _) _).alloc (by simp) _
    have hlt := hm0.lt
    refine ⟨0, [], [], _, _, _, _, _, _, _, _, _, _, _, _, _, _, _, _, _, by omega, rfl, ⟨rfl, List.nodup_nil, by simp⟩, (hb1.cell (p := ⟨w.heap.size + 1, 0, none⟩) (by simp)).trans bS.cell, ?_, hB0.trans (hb1.mono (by simp; omega))⟩
    exact hm0.kept (row := none) ⟨hb1.os, hb1.tape, hb1.output, hb1.size, fun i hi _ => hb1.block i hi⟩ (by simp)
  case round =>
    rintro a W ⟨k, ds, Ds, u2, u3, u4, u8, u9, u10, u11, u12, u13, u14, u15, u16, u17, u18, u19, u20, u21, hk, rfl, hP, hc, hown, hB⟩
    by_cases hlt : k < 10
    · have hidx := index_lists k hlt
      gi_wp2_with (gi_at_call 86; refine (fieldsSeq_in F (n - 1) h86 hro _ _).mono ?_; rintro e w' ⟨rfl, rfl⟩)
      have hs := lst_size k
      have hBW : Below W.heap.size W ((W.alloc (.cells #[.int .i64 (k : Int)] 3)).alloc (.cells #[.string (lst k)] 9)) := ((Below.refl _ W).alloc (Nat.le_refl _) _).alloc (by simp) _
      have bI := (Boxed.new W 3 (.int .i64 (k : Int))).alloc (.cells #[.string (lst k)] 9)
      have bN := Boxed.new (W.alloc (.cells #[.int .i64 (k : Int)] 3)) 9 (.string (lst k))
      rw [World.size_alloc] at bN
      have hle := hB.size
      have hltm := hown.lt
      have hB2 : Below w.heap.size w ((W.alloc (.cells #[.int .i64 (k : Int)] 3)).alloc (.cells #[.string (lst k)] 9)) := (hB.alloc hB.size _).alloc (by simp; omega) _
      obtain ⟨W2, hW2⟩ : ∃ W2, ((W.alloc (.cells #[.int .i64 (k : Int)] 3)).alloc (.cells #[.string (lst k)] 9)) = W2 := ⟨_, rfl⟩
      have hz : W2.heap.size = W.heap.size + 2 := by rw [← hW2]; simp
      have hc2 : W2.cell? ⟨w.heap.size + 1, 0, none⟩ = some (.map (some w.heap.size)) := by rw [← hW2]; exact (hBW.cell (p := ⟨w.heap.size + 1, 0, none⟩) (by have := (Array.getElem?_eq_some_iff.1 (Classical.choose_spec (cells_of_cell hc)).1).1; exact this)).trans hc
      have hown2 : W2.ownsMap Tryd.prog 9 (plainElem (H := H) Tryd.prog 3) w.heap.size (1000 * k) (foldK k) := by rw [← hW2]; exact (hown.alloc _).alloc _
      have hP2 : Pend (w.heap.size + 1) ds Ds W2 := by rw [← hW2]; exact hP.below hBW
      rw [hW2] at bI bN hB2 ⊢
      have htab2 : ∀ c : UInt8, c.toNat < 128 → W2.cell? ⟨2, c.toNat, none⟩ = some (.int .u8 (spCell c)) := fun c h => (hB2.cell (p := ⟨2, c.toNat, none⟩) h2).trans (htab c h)
      clear hW2 hBW
      refine wpIn_rangeFunc_ownG hro h1 (gf := 107) (lb := #[.pointer (some ⟨W.heap.size + 1, 0, none⟩)]) rfl h107 (enters_of Tryd.func107 (by kernel_rfl) rfl)
        (fields_stops F (n - 1) h107 hro (by omega) (W.heap.size + 1) w.heap.size (lst k) (by omega) (lst_ascii k) W2 (by omega) (by omega) h2 bN.cell htab2) (fun h k => h.trans k) (kpB_b (by omega) (by omega)) (Below.refl _ _) (fun _ => rfl)
        (fun pre X => (X.cell? ⟨w.heap.size + 1, 0, none⟩ = some (.map (some w.heap.size)) ∧ X.cell? ⟨W.heap.size, 0, none⟩ = some (.int .i64 (k : Int)) ∧ X.ownsMap Tryd.prog 9 (plainElem (H := H) Tryd.prog 3) w.heap.size (1000 * k + pre.length) ((pre.map (·.1)).foldl (bumpK k) (foldK k)) ∧ Pend (w.heap.size + 1) ds Ds X ∧ (∀ D ∈ Ds, D < W2.heap.size)) ∧ (Below w.heap.size w X ∧ W2.heap.size ≤ X.heap.size))
        (fun _ _ _ => False)
        (OwnFrom.and (fun s A B row hs hg hr => ⟨cell_kept hs.1 hg (fun r e => (hr r e).2), cell_kept hs.2.1 hg (fun r e => (hr r e).2), hs.2.2.1.kept hg (fun e => by have := (hr _ e.symm).1; omega), hs.2.2.2.1.grown hg (fun D hD e => by have := (hr _ e.symm).1; have := hs.2.2.2.2 D hD; omega), hs.2.2.2.2⟩) (OwnFrom.and (ownFrom_below (Nat.le_refl _) (by omega)) (fun _ _ _ _ hs hg _ => Nat.le_trans hs hg.size)))
        (fun _ _ _ _ _ hs _ _ => hs)
        ⟨⟨hc2, bI.cell, hown2, hP2, fun D hD => (Array.getElem?_eq_some_iff.1 (hP2.2.2 D hD).2).1⟩, hB2, Nat.le_refl _⟩
        (fun x : Sm => { tmps := #[.map none, .pointer (some ⟨w.heap.size + 1, 0, none⟩), .pointer (some ⟨W.heap.size, 0, none⟩), .string (lst k), .string x.1, .map (some w.heap.size), listsV, .int .i64 k, .bool true, .int .i64 k, .string (lst k), .string (lst k), .func (.func 107) #[] #[.pointer (some ⟨W.heap.size + 1, 0, none⟩)], .string x.1, u14, u15, u16, u17, u18, u19, u20, u21], defers := [] }) ?assign ?body ?done ?stop
      case assign =>
        intro l x X K hK
        gi_wp2
        exact hK
      case body =>
        rintro l pre x X ⟨⟨hcx, hix, hox, hPx, hDx⟩, hBx, hXX⟩ hlen
        have hWX : W.heap.size + 1 < X.heap.size := by omega
        have hkey := keyStr x
        obtain ⟨c, hrun, hat, hwc⟩ := hox.drew.lookup_int (t := 61) (Maps.string_keyed Tryd.underlying9) Tryd.underlying61 Tryd.underlying3 (zero3 _) hkey
        obtain ⟨X', hrunU, hown1, hgrow1⟩ := hox.drew.update (t := 61) (Maps.string_keyed Tryd.underlying9) Tryd.underlying61 (by unfold maxLen; omega) hkey (plainElem_int (H := H) Tryd.underlying3 (Go.wf_bits _ _ _ _))
        have hg : X.grownBy X' (some w.heap.size) := ⟨hgrow1.os, hgrow1.tape, hgrow1.output, hgrow1.size, hgrow1.block⟩
        have hfin : KeepsFrom W2.heap.size X X' ∧ KpB w.heap.size (W.heap.size + 1) X X' ∧ (X'.cell? ⟨w.heap.size + 1, 0, none⟩ = some (.map (some w.heap.size)) ∧ X'.cell? ⟨W.heap.size, 0, none⟩ = some (.int .i64 (k : Int)) ∧ X'.ownsMap Tryd.prog 9 (plainElem (H := H) Tryd.prog 3) w.heap.size (1000 * k + (pre ++ [x]).length) (((pre ++ [x]).map (·.1)).foldl (bumpK k) (foldK k)) ∧ Pend (w.heap.size + 1) ds Ds X' ∧ (∀ D ∈ Ds, D < W2.heap.size)) ∧ (Below w.heap.size w X' ∧ W2.heap.size ≤ X'.heap.size) := by
          obtain ⟨es, ck, hh, _⟩ := hox
          have hcm : ∀ r, (some w.heap.size : Option Nat) = some r → ∃ o : Obj, X.heap[r]? = some o ∧ o.isCells = false := fun r e => by cases e; exact ⟨_, hh, rfl⟩
          refine ⟨KeepsFrom.of_grownBy hg (fun j e => by cases e; omega), ⟨(Below.refl _ X).grown hg hBx.size (fun r e => by cases e; exact Nat.le_refl _), hg.block _ hWX (fun e => by injection e; omega)⟩, ⟨cell_kept hcx hg hcm, cell_kept hix hg hcm, ?_, ?_, hDx⟩, hBx.grown hg hBx.size (fun r e => by cases e; exact Nat.le_refl _), Nat.le_trans hXX hg.size⟩
          · have e1 : ((pre ++ [x]).map (·.1)).foldl (bumpK k) (foldK (H := H) k) = ((pre.map (·.1)).foldl (bumpK k) (foldK k)).put (keyL x.1) (.lit (.int .i64 (bits .or .i64 c (IntKind.i64.wrap (2 ^ k))))) := by
              simp only [List.map_append, List.foldl_append, List.map_cons, List.map_nil, List.foldl_cons, List.foldl_nil]
              rw [bumpK, hat]
              rfl
            rw [e1, List.length_append]
            exact hown1
          · exact hPx.grown hg (fun D hD e => by
              cases e
              have := (hPx.2.2 _ hD).1
              omega)
        clear hg hgrow1 hown1
        gi_wp2
        gi_region
        all_goals (gi_wp2; exact hfin)
      case done =>
        rintro D ys X hD hys ⟨⟨hcx, hix, hox, hPx, hDx⟩, hBx, hXX⟩ hK
        gi_wp2
        have hDn : ∀ D' ∈ Ds, D' ≠ D := fun D' h e => by have := hDx D' h; omega
        refine ⟨⟨k + 1, _, D :: Ds, _, _, _, _, _, _, _, _, _, _, _, _, _, _, _, _, _, by omega, rfl, ⟨by rw [hPx.1]; rfl, List.nodup_cons.2 ⟨fun h => hDn D h rfl, hPx.2.1⟩, ?_⟩, hcx, ?_, hBx⟩, by simp [intOf]; omega⟩
        · intro D' h
          rcases List.mem_cons.1 h with rfl | h
          · exact ⟨by omega, hK⟩
          · exact hPx.2.2 D' h
        · have e2 : foldK (H := H) (k + 1) = (ys.map (·.1)).foldl (bumpK k) (foldK k) := by rw [hys]; rfl
          rw [e2]
          refine hox.mono ?_
          have e3 : ys.length = (fieldsOf (lst k)).length := by rw [← hys, List.length_map]
          have e4 := fieldsOf_len (lst k)
          omega
      case stop =>
        rintro D c pre X _ _ h _
        exact h.elim
    · obtain rfl : k = 10 := by omega
      clear hlt hk
      gi_wp2
      obtain ⟨rfl, hnd, hall⟩ := hP
      refine leaves_pend (B := w.heap.size + 1) (fun X => X.ownsMap Tryd.prog 9 (plainElem (H := H) Tryd.prog 3) w.heap.size 10000 (foldK 10) ∧ Below w.heap.size w X) (fun X D hz hD hd => ⟨hz.1.kept (grownBy_putObj' _ D _) (fun e => by cases e; omega), hz.2.trans (belowK_b (w := w) (Nat.le_refl _) X D _ _ (by omega) hd rfl rfl)⟩)
        (fun X hz => ⟨_, results_tmp rfl _ _ _, rfl, hz.1, hz.2⟩) Ds W hnd hall ⟨hown, hB⟩
end Go.Proofs.YteahlapoeiikoaaDoor
