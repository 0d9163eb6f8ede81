/-
  A tree of the document's nodes that came in, as the walks want it. Condition: its bulk is at most 2^20.
-/
import Derived.Deep.SlicePairs
import Derived.Test.YteahlapoeiikoaaDoorRows
import Derived.Test.YteahlapoeiikoaaDoorJoin23

namespace Go.Proofs.YteahlapoeiikoaaDoor.Seat
open Go.ChangeShapes Go.WideShapes Go.RowKit Go.Deep Go.Proofs.YteahlapoeiikoaaDoorW.PrintWords Go.Proofs.YteahlapoeiikoaaDoorW.PrintLast P Go.Proofs.YteahlapoeiikoaaDoor.Pure
set_option linter.unusedVariables false
set_option linter.unusedSimpArgs false

theorem bulk_one {H : Type} (d : DataW H) : 1 ≤ Rows.uptoBulk d := by
  cases d with
  | lit l => cases l <;> simp [Rows.uptoBulk]
  | nil => simp [Rows.uptoBulk]
  | ptr d => simp [Rows.uptoBulk]
  | slice elems spare => simp [Rows.uptoBulk]
  | agg parts => simp [Rows.uptoBulk]
  | iface t d => simp [Rows.uptoBulk]
  | map entries => simp [Rows.uptoBulk]
  | held h => simp [Rows.uptoBulk]
theorem bulk_part {H : Type} {d : DataW H} {l : List (DataW H)} (h : d ∈ l) : Rows.uptoBulk d ≤ Rows.uptoBulkAll l := by
  induction l with
  | nil => cases h
  | cons x r ih =>
    simp only [Rows.uptoBulkAll]
    rcases List.mem_cons.1 h with e | e
    · subst e; omega
    · have := ih e; omega
theorem bulk_length {H : Type} (l : List (DataW H)) : l.length ≤ Rows.uptoBulkAll l := by
  induction l with
  | nil => simp [Rows.uptoBulkAll]
  | cons x r ih => have := bulk_one x; simp only [Rows.uptoBulkAll, List.length_cons]; omega
theorem bulk_elem {H : Type} {n : Nat} {D : Nat → DataW H} {sp : List (DataW H)} {B : Nat} (hb : Rows.uptoBulk (.slice ((List.range n).map D) sp) ≤ B) : n + 1 ≤ B ∧ ∀ i, i < n → Rows.uptoBulk (D i) + 1 ≤ B := by
  simp only [Rows.uptoBulk] at hb
  have h1 := bulk_length ((List.range n).map D)
  rw [List.length_map, List.length_range] at h1
  refine ⟨by omega, fun i hi => ?_⟩
  have := bulk_part (d := D i) (l := (List.range n).map D) (List.mem_map.2 ⟨i, List.mem_range.2 hi, rfl⟩)
  omega
theorem bulk_str {H : Type} (bytes : List UInt8) : Rows.uptoBulk (DataW.lit (H := H) (.string bytes)) = bytes.length + 1 := by simp [Rows.uptoBulk]
theorem cells9 : Tryd.prog.cellsOf 9 = 1 := by kernel_rfl
theorem cells98 : Tryd.prog.cellsOf 98 = 2 := by kernel_rfl
theorem cells82 : Tryd.prog.cellsOf 82 = 4 := by kernel_rfl
theorem cells80 : Tryd.prog.cellsOf 80 = 1 := by kernel_rfl
theorem cells44 : Tryd.prog.cellsOf 44 = 1 := by kernel_rfl
theorem len_max {n c : Nat} (h : n ≤ c) (hc : c ≤ maxLen) : n ≤ 9223372036854775807 := by
  have hm : maxLen = 9223372036854775807 := rfl
  omega
section
variable {H : Type} {enc : TypeId × Value → H} {w : World} {base : Nat} {spare : Nat → Bool} {held : Bool}
theorem nil_C {α : Type} {k : Kd α} : k.C w none ([] : List α).length [] := ⟨rfl, Nat.zero_le _, fun h => absurd h (Nat.lt_irrefl 0)⟩
theorem range_at {α : Type} {n j : Nat} {S : Nat → α} {p : α} (h : ((List.range n).map S)[j]? = some p) : j < n ∧ p = S j := by
  have hj : j < n := by
    have := (List.getElem?_eq_some_iff.1 h).1
    simpa using this
  refine ⟨hj, ?_⟩
  rw [List.getElem?_map, List.getElem?_range hj] at h
  simpa using h.symm
set_option maxRecDepth 100000 in
theorem open_attrs {fuel : Nat} {cs : List Value} {x : DataW H × List MemPlace} {B : Nat} (h : DataW.trod enc Tryd.prog w base spare held fuel 80 cs = some x) (hb : Rows.uptoBulk x.1 ≤ B) (hB : B ≤ 1048576) :
    ∃ (A : Option Addr) (c : Nat) (l : List S98), cs = [.slice A l.length c] ∧ l.length ≤ c ∧ Kd.C k98 w A l.length l ∧ SmA l := by
  rcases open_slice_pairs Tryd.underlying80 Tryd.underlying98 cells98 rfl rfl cells9 cells9 h with ⟨rfl, _⟩ | ⟨a, len, cap, m, n, V0, V1, D0, D1, P0, P1, rfl, _, hl, hm, hmm, rfl, hx⟩
  · exact ⟨none, 0, [], rfl, Nat.le_refl _, nil_C, Nat.zero_le _, fun y hy => by cases hy⟩
  · have hlm : len ≤ m := by rw [hmm]; split <;> omega
    obtain ⟨hn, hel⟩ := bulk_elem hb
    have each : ∀ i, i < len → ∃ y : S98, w.cell? (a.add (i * 2)) = some (.string y.f0) ∧ w.cell? (a.add (i * 2 + 1)) = some (.string y.f1) ∧ y.f0.size ≤ 1048576 ∧ y.f1.size ≤ 1048576 := by
      intro i hi
      obtain ⟨e0, e1, t0, t1⟩ := hx i (by omega)
      obtain ⟨s0, v0, d0, _⟩ := DataW.trod_string Tryd.underlying9 t0
      obtain ⟨s1, v1, d1, _⟩ := DataW.trod_string Tryd.underlying9 t1
      have hbi := hel i hi
      simp only [Prod.mk.injEq] at d0 d1
      rw [d0.1, d1.1] at hbi
      simp only [Rows.uptoBulk, Rows.uptoBulkAll] at hbi
      simp only [List.cons.injEq, and_true] at v0 v1
      rw [v0] at e0
      rw [v1] at e1
      exact ⟨⟨s0, s1⟩, e0, e1, by show s0.size ≤ _; rw [Lib.size_eq]; omega, by show s1.size ≤ _; rw [Lib.size_eq]; omega⟩
    haveI : Inhabited S98 := ⟨z98⟩
    obtain ⟨S, hS⟩ := choose_lt each
    have hlen : ((List.range len).map S).length = len := by rw [List.length_map, List.length_range]
    refine ⟨some a, cap, (List.range len).map S, by rw [hlen], by rw [hlen]; exact hl, ?_, by rw [hlen]; omega, fun y hy => ?_⟩
    · refine ⟨rfl, by rw [hlen]; exact len_max hl hm, fun _ => ⟨a, rfl, fun j p hp => ?_⟩⟩
      obtain ⟨hj, rfl⟩ := range_at hp
      obtain ⟨e0, e1, _, _⟩ := hS j hj
      refine ⟨[.string (S j).f0, .string (S j).f1], rfl, k98_mk w (S j), fun i u hu => ?_⟩
      show w.cell? (a.add (j * 2 + i)) = some u
      match i, hu with
      | 0, hu => rw [← Option.some.inj hu]; exact e0
      | 1, hu => rw [← Option.some.inj hu]; exact e1
    · obtain ⟨i, hi, rfl⟩ := List.mem_map.1 hy
      exact ⟨(hS i (List.mem_range.1 hi)).2.2.1, (hS i (List.mem_range.1 hi)).2.2.2⟩
set_option maxRecDepth 100000 in
theorem open_nodes : ∀ (B : Nat) {fuel : Nat} {cs : List Value} {x : DataW H × List MemPlace} (_ : DataW.trod enc Tryd.prog w base spare held fuel 44 cs = some x) (_ : Rows.uptoBulk x.1 ≤ B) (_ : B ≤ 1048576),
    ∃ (A : Option Addr) (c : Nat) (l : List S82), cs = [.slice A l.length c] ∧ l.length ≤ c ∧ Kd.C k82 w A l.length l ∧ Go.Proofs.YteahlapoeiikoaaDoor.Pure.Sm B l
  | 0, _, _, x, _, hb, _ => by have := bulk_one x.1; omega
  | B + 1, fuel, cs, x, h, hb, hB => by
    rcases open_slice Tryd.underlying44 h with ⟨rfl, _⟩ | ⟨a, len, cap, m, n, D, Pl, rfl, _, hl, hm, hmm, rfl, hx⟩
    · exact ⟨none, 0, [], rfl, Nat.le_refl _, nil_C, Nat.zero_le _, fun y hy => by cases hy⟩
    · have hlm : len ≤ m := by rw [hmm]; split <;> omega
      obtain ⟨hn, hel⟩ := bulk_elem hb
      have each : ∀ i, i < len → ∃ y : S82, (∃ A1 c1 A3 c3, w.cell? (a.add (i * 4 + 0)) = some (.string y.f0) ∧ w.cell? (a.add (i * 4 + 1)) = some (.slice A1 y.f1.length c1) ∧ w.cell? (a.add (i * 4 + 2)) = some (.string y.f2) ∧ w.cell? (a.add (i * 4 + 3)) = some (.slice A3 y.f3.length c3) ∧
          y.f1.length ≤ c1 ∧ Kd.C k98 w A1 y.f1.length y.f1 ∧ y.f3.length ≤ c3 ∧ Kd.C k82 w A3 y.f3.length y.f3) ∧ y.f0.size ≤ 1048576 ∧ y.f2.size ≤ 1048576 ∧ SmA y.f1 ∧ Go.Proofs.YteahlapoeiikoaaDoor.Pure.Sm B y.f3 := by
        intro i hi
        obtain ⟨cs', h1, h2⟩ := hx i (by omega)
        rw [cells82] at h1
        obtain ⟨_, hlen, hcell⟩ := World.cells?_some h1
        obtain ⟨xs, k, hk, hxy, _, hxl, hf⟩ := DataW.trod_struct Tryd.underlying82 h2
        have hbi := hel i hi
        match xs, hxl, cs', hlen with
        | [y0, y1, y2, y3], _, [v0, v1, v2, v3], _ =>
          have g0 := hf 0 _ rfl
          have g1 := hf 1 _ rfl
          have g2 := hf 2 _ rfl
          have g3 := hf 3 _ rfl
          simp only [cells9, cells80, cells44, List.drop_zero, List.drop_succ_cons, List.take_succ_cons, List.take_zero, List.getElem?_cons_zero, List.getElem?_cons_succ] at g0 g1 g2 g3
          have e0 := hcell 0 (by omega)
          have e1 := hcell 1 (by omega)
          have e2 := hcell 2 (by omega)
          have e3 := hcell 3 (by omega)
          rw [Go.Deep.add_add] at e0 e1 e2 e3
          simp only [List.getElem?_cons_zero, List.getElem?_cons_succ] at e0 e1 e2 e3
          simp only [Prod.mk.injEq] at hxy
          rw [hxy.1] at hbi
          simp only [List.map_cons, List.map_nil, Rows.uptoBulk, Rows.uptoBulkAll] at hbi
          obtain ⟨s0, rv0, d0, _⟩ := DataW.trod_string Tryd.underlying9 g0
          obtain ⟨s2, rv2, d2, _⟩ := DataW.trod_string Tryd.underlying9 g2
          obtain ⟨A1, c1, l1, rv1, hc1, hC1, hS1⟩ := open_attrs (B := 1048576) g1 (by omega) (Nat.le_refl _)
          obtain ⟨A3, c3, l3, rv3, hc3, hC3, hS3⟩ := open_nodes B g3 (by omega) (by omega)
          obtain rfl := (List.cons.inj rv0).1
          obtain rfl := (List.cons.inj rv1).1
          obtain rfl := (List.cons.inj rv2).1
          obtain rfl := (List.cons.inj rv3).1
          rw [d0, d2] at hbi
          dsimp only at hbi
          rw [bulk_str, bulk_str] at hbi
          exact ⟨⟨s0, l1, s2, l3⟩, ⟨A1, c1, A3, c3, e0, e1, e2, e3, hc1, hC1, hc3, hC3⟩, by show s0.size ≤ _; rw [Lib.size_eq]; omega, by show s2.size ≤ _; rw [Lib.size_eq]; omega, hS1, hS3⟩
      haveI : Inhabited S82 := ⟨z82⟩
      obtain ⟨S, hS⟩ := choose_lt each
      have hlen : ((List.range len).map S).length = len := by rw [List.length_map, List.length_range]
      refine ⟨some a, cap, (List.range len).map S, by rw [hlen], by rw [hlen]; exact hl, ?_, by rw [hlen]; omega, fun y hy => ?_⟩
      · refine ⟨rfl, by rw [hlen]; exact len_max hl hm, fun _ => ⟨a, rfl, fun j p hp => ?_⟩⟩
        obtain ⟨hj, rfl⟩ := range_at hp
        obtain ⟨⟨A1, c1, A3, c3, e0, e1, e2, e3, hc1, hC1, hc3, hC3⟩, _⟩ := hS j hj
        refine ⟨_, rfl, k82_mk w (S j) hc1 hC1 hc3 hC3, fun i u hu => ?_⟩
        show w.cell? (a.add (j * 4 + i)) = some u
        match i, hu with
        | 0, hu => rw [← Option.some.inj hu]; exact e0
        | 1, hu => rw [← Option.some.inj hu]; exact e1
        | 2, hu => rw [← Option.some.inj hu]; exact e2
        | 3, hu => rw [← Option.some.inj hu]; exact e3
      · obtain ⟨i, hi, rfl⟩ := List.mem_map.1 hy
        exact (hS i (List.mem_range.1 hi)).2
end
end Go.Proofs.YteahlapoeiikoaaDoor.Seat
