/-
  fit.attrs, walked: may attributes be. Conditions: the library's tables hold what they were laid with; each text is no longer than the model's greatest length.
-/
import Derived.Test.YteahlapoeiikoaaDoorHName
import Derived.Test.YteahlapoeiikoaaDoorHWhole

namespace Go.Proofs.YteahlapoeiikoaaDoor.P
open Go.RowKit Go.Proofs.YteahlapoeiikoaaDoorW.PrintWords Go.Proofs.YteahlapoeiikoaaDoorW.PrintLast
set_option linter.unusedSimpArgs false
set_option linter.unusedVariables false

set_option maxRecDepth 100000 in
set_option maxHeartbeats 1000000 in
theorem index_walk (A : Option Addr) (c : Nat) (l : List S99) (nm : ByteArray) (g : Nat) (w : World) (hC : Kd.C k99 w A l.length l) (hg : w.cell? ⟨g, 0, none⟩ = some (.string nm)) :
    Calls Tryd.prog 115 #[.slice A l.length c, .func (.func 94) #[] #[.pointer (some ⟨g, 0, none⟩)]] w fun e w' =>
      ∃ i : Int, e = .returned (.int .i64 i) ∧ (0 ≤ i ↔ l.any (fun x => x.f0.toList == nm.toList) = true) ∧ Below w.heap.size w w' := by
  have hl8 : l.length ≤ 9223372036854775807 := hC.2.1
  go_enter Tryd.func115, Tryd.ntmps115
  go_wp2
  go_loopw [8] (fun i wr => ∃ k : Nat, i = .int .i64 k ∧ k ≤ l.length ∧ Below w.heap.size w wr ∧ (l.take k).any (fun x => x.f0.toList == nm.toList) = false) (fun i _ => l.length - (intOf i).toNat)
  case atStart => exact ⟨0, rfl, Nat.zero_le _, Below.refl _ _, rfl⟩
  case round =>
    obtain ⟨k, rfl, hk, hB, hno⟩ := hrel
    by_cases hlt : k < l.length
    · obtain ⟨ad, rfl, hc0, hc1⟩ := at_T99 hC (k : Int) (by omega) (by omega)
      rw [Int.toNat_natCast] at hc0 hc1
      have hd0 := (hB.cell (World.block_lt_of_cell? w _ hc0)).trans hc0
      have hd1 := (hB.cell (World.block_lt_of_cell? w _ hc1)).trans hc1
      have hg1 := (hB.cell (World.block_lt_of_cell? w _ hg)).trans hg
      have htk : l.take (k + 1) = l.take k ++ [rd_T99 l (k : Int)] := by
        rw [List.take_add_one, rd_T99, Int.toNat_natCast, List.getD_eq_getElem?_getD, List.getElem?_eq_getElem hlt]
        rfl
      have hmem : rd_T99 l (k : Int) ∈ l := by
        rw [rd_T99, Int.toNat_natCast, List.getD_eq_getElem?_getD, List.getElem?_eq_getElem hlt]
        exact List.getElem_mem hlt
      have hgl := World.block_lt_of_cell? wr _ hg1
      generalize rd_T99 l (k : Int) = x at hd0 hd1 htk hmem
      have hgA : (wr.alloc (.cells #[.string x.f0, .string x.f1] 99)).cell? ⟨g, 0, none⟩ = some (.string nm) := (World.cell?_alloc_past _ _ _ hgl).trans hg1
      have hBA : Below w.heap.size w (wr.alloc (.cells #[.string x.f0, .string x.f1] 99)) := hB.alloc hB.size _
      have hnext := fun h0 : (x.f0.toList == nm.toList) = false => show (l.take (k + 1)).any (fun x => x.f0.toList == nm.toList) = false by
        rw [htk, List.any_append, hno, List.any_cons, h0]
        rfl
      have hyes := fun h0 : (x.f0.toList == nm.toList) = true => show l.any (fun x => x.f0.toList == nm.toList) = true from List.any_eq_true.2 ⟨x, hmem, h0⟩
      clear hc0 hc1 htk hmem hno
      by_cases he : (x.f0.toList == nm.toList) = true
      · have hy := Aside0.mk (hyes he)
        clear hnext hyes
        go_wp2
        go_ret
        exact ⟨_, rfl, ⟨fun _ => by simpa using hy.out, fun _ => by omega⟩, hBA⟩
      · have he' : (x.f0.toList == nm.toList) = false := by simpa using he
        have hn := Aside0.mk (hnext he')
        clear hnext hyes he
        go_wp2
        go_roundw
        case rel => exact ⟨k + 1, by go_num, hlt, hBA, hn.out⟩
        case measure =>
          simp only [intOf]
          omega
    · have hkl : k = l.length := by omega
      subst hkl
      rw [List.take_length] at hno
      go_wp2
      go_ret
      exact ⟨_, rfl, by rw [hno]; simp, hB⟩

set_option maxRecDepth 100000 in
set_option maxHeartbeats 1000000 in
theorem contains_walk (A : Option Addr) (c : Nat) (l : List S99) (nm : ByteArray) (g : Nat) (w : World) (hC : Kd.C k99 w A l.length l) (hg : w.cell? ⟨g, 0, none⟩ = some (.string nm)) :
    Calls Tryd.prog 93 #[.slice A l.length c, .func (.func 94) #[] #[.pointer (some ⟨g, 0, none⟩)]] w fun e w' =>
      e = .returned (.bool (l.any (fun x => x.f0.toList == nm.toList))) ∧ Below w.heap.size w w' := by
  go_enter Tryd.func93, Tryd.ntmps93
  go_wp2_with (first
    | (go_at_call 115; (with_reducible refine (index_walk A c l nm g _ hC hg).mono ?_); rintro e w8 ⟨i, rfl, hi, hb⟩)
    | go_in)
  go_ret
  refine ⟨?_, hb⟩
  simp only [hi]
  simp
  rw [Bool.eq_iff_iff]
  simp

def attrsB (l : List S99) : Bool := (List.range l.length).all fun i => (!(l.take i).any fun x => x.f0.toList == (rd_T99 l i).f0.toList) && (nameB (rd_T99 l i).f0 && wholeB (rd_T99 l i).f1)
def okAttrs (l : List S99) : Bool := l.all fun x => decide (x.f0.size ≤ maxLen) && decide (x.f1.size ≤ maxLen)
def fit_attrs.f (l0 : List S99) : Option Bool := if okAttrs l0 then some (attrsB l0) else none
set_option maxRecDepth 100000 in
set_option maxHeartbeats 1000000 in
theorem fit_attrs.calls (A0 : Option Addr) (c0 : Nat) (l0 : List S99) (r : Bool) (w : World) (hr0 : Kd.C k99 w A0 l0.length l0) (hc0 : l0.length ≤ c0) (hG : GW w) (h : fit_attrs.f l0 = some r) :
    Calls Tryd.prog 79 #[.slice A0 l0.length c0] w fun e w' => e = .returned (.bool r) ∧ Below w.heap.size w w' := by
  have hmf : ∀ (fn : Fn) (first cap : Array Value) (w : World), (Instr.makeFunc fn first cap).run Tryd.prog w = .ok (.func fn first cap) w := fun _ _ _ _ => rfl
  unfold fit_attrs.f at h
  split at h
  case isFalse => cases h
  case isTrue hok =>
  obtain rfl := Option.some.inj h
  clear h
  have hl8 : l0.length ≤ 9223372036854775807 := hr0.2.1
  go_enter Tryd.func79, Tryd.ntmps79
  go_wp2
  go_loopw [8] (fun i wr => ∃ k : Nat, i = .int .i64 k ∧ k ≤ l0.length ∧ Below w.heap.size w wr ∧ (List.range k).all (fun i => (!(l0.take i).any fun x => x.f0.toList == (rd_T99 l0 i).f0.toList) && (nameB (rd_T99 l0 i).f0 && wholeB (rd_T99 l0 i).f1)) = true) (fun i _ => l0.length - (intOf i).toNat)
  case atStart => exact ⟨0, rfl, Nat.zero_le _, Below.refl _ _, rfl⟩
  case round =>
    obtain ⟨k, rfl, hk, hB, hyes⟩ := hrel
    by_cases hlt : k < l0.length
    · obtain ⟨ad, rfl, hc0, hc1⟩ := at_T99 hr0 (k : Int) (by omega) (by omega)
      rw [Int.toNat_natCast] at hc0 hc1
      have hd0 := (hB.cell (World.block_lt_of_cell? w _ hc0)).trans hc0
      have hd1 := (hB.cell (World.block_lt_of_cell? w _ hc1)).trans hc1
      have hlk : (l0.take k).length = k := by rw [List.length_take]; omega
      have hCk : Kd.C k99 wr (some ad) k (l0.take k) := by
        have := Kd.C_take (Kd.C_below hr0 hB) (Nat.le_of_lt hlt)
        rw [hlk] at this
        exact this
      have hmem : rd_T99 l0 (k : Int) ∈ l0 := by
        rw [rd_T99, Int.toNat_natCast, List.getD_eq_getElem?_getD, List.getElem?_eq_getElem hlt]
        exact List.getElem_mem hlt
      have hsz := List.all_eq_true.1 hok _ hmem
      rw [Bool.and_eq_true, decide_eq_true_eq, decide_eq_true_eq] at hsz
      have hnext := fun (h0 : ((!(l0.take k).any fun x => x.f0.toList == (rd_T99 l0 (k : Int)).f0.toList) && (nameB (rd_T99 l0 (k : Int)).f0 && wholeB (rd_T99 l0 (k : Int)).f1)) = true) =>
        show (List.range (k + 1)).all (fun i => (!(l0.take i).any fun x => x.f0.toList == (rd_T99 l0 i).f0.toList) && (nameB (rd_T99 l0 i).f0 && wholeB (rd_T99 l0 i).f1)) = true by
          rw [List.range_succ, List.all_append, hyes, List.all_cons, h0]
          rfl
      have hfail := fun (h0 : ((!(l0.take k).any fun x => x.f0.toList == (rd_T99 l0 (k : Int)).f0.toList) && (nameB (rd_T99 l0 (k : Int)).f0 && wholeB (rd_T99 l0 (k : Int)).f1)) = false) =>
        show attrsB l0 = false from List.all_eq_false.2 ⟨k, List.mem_range.2 hlt, by rw [h0]; decide⟩
      generalize rd_T99 l0 (k : Int) = x at hd0 hd1 hsz hnext hfail
      clear hc0 hc1 hmem hyes hr0 hok
      have hgA : (wr.alloc (.cells #[.string x.f0, .string x.f1] 99)).cell? ⟨wr.heap.size, 0, none⟩ = some (.string x.f0) := by
        rw [World.cell?_alloc_at _ _ _ _ rfl]; rfl
      have hCA : Kd.C k99 (wr.alloc (.cells #[.string x.f0, .string x.f1] 99)) (some ad) (l0.take k).length (l0.take k) := by
        rw [hlk]
        exact Kd.C_alloc hCk _
      have hBA : Below w.heap.size w (wr.alloc (.cells #[.string x.f0, .string x.f1] 99)) := hB.alloc hB.size _
      have hcon := contains_walk (some ad) c0 (l0.take k) x.f0 wr.heap.size _ hCA hgA
      rw [hlk] at hcon
      have hnm : class_Name.f x.f0 = some (nameB x.f0) := if_pos hsz.1
      have hwh : fit_whole.f x.f1 = some (wholeB x.f1) := if_pos hsz.2
      generalize (l0.take k).any (fun y => y.f0.toList == x.f0.toList) = b1 at hcon hnext hfail
      generalize nameB x.f0 = b2 at hnm hnext hfail
      generalize wholeB x.f1 = b3 at hwh hnext hfail
      have hgB : (wr.alloc (.cells #[.string x.f0, .string x.f1] 99)).cell? ⟨wr.heap.size, 1, none⟩ = some (.string x.f1) := by
        rw [World.cell?_alloc_at _ _ _ _ rfl]; rfl
      have HBA := Aside0.mk hBA
      clear hBA hCA hCk
      cases b1
      · cases b2
        · have hf := Aside0.mk (hfail rfl)
          clear hnext hfail
          go_wp2_with (first
            | (go_at_call 93; refine hcon.mono ?_; rintro e w8 ⟨rfl, hb8⟩; have h80 := (hb8.cell (by simp)).trans hgA; have h81 := (hb8.cell (by simp)).trans hgB)
            | (go_at_call 52; (with_reducible refine (class_Name.calls x.f0 _ _ hnm).mono ?_); rintro e w9 ⟨rfl, hb9⟩; have h91 := (hb9.cell (World.block_lt_of_cell? w8 _ h81)).trans h81)
            | (go_at_call 78; (with_reducible refine (fit_whole.calls x.f1 _ _ (hG.below (HBA.out.trans ((hb8.mono HBA.out.size).trans (hb9.mono (Nat.le_trans HBA.out.size hb8.size))))) hwh).mono ?_); rintro e w10 ⟨rfl, hb10⟩)
            | go_in)
          go_ret
          rw [hf.out]
          exact ⟨rfl, HBA.out.trans ((hb8.mono HBA.out.size).trans (hb9.mono (Nat.le_trans HBA.out.size hb8.size)))⟩
        · cases b3
          · have hf := Aside0.mk (hfail rfl)
            clear hnext hfail
            go_wp2_with (first
              | (go_at_call 93; refine hcon.mono ?_; rintro e w8 ⟨rfl, hb8⟩; have h80 := (hb8.cell (by simp)).trans hgA; have h81 := (hb8.cell (by simp)).trans hgB)
              | (go_at_call 52; (with_reducible refine (class_Name.calls x.f0 _ _ hnm).mono ?_); rintro e w9 ⟨rfl, hb9⟩; have h91 := (hb9.cell (World.block_lt_of_cell? w8 _ h81)).trans h81)
              | (go_at_call 78; (with_reducible refine (fit_whole.calls x.f1 _ _ (hG.below (HBA.out.trans ((hb8.mono HBA.out.size).trans (hb9.mono (Nat.le_trans HBA.out.size hb8.size))))) hwh).mono ?_); rintro e w10 ⟨rfl, hb10⟩)
              | go_in)
            go_ret
            rw [hf.out]
            exact ⟨rfl, HBA.out.trans ((hb8.mono HBA.out.size).trans ((hb9.mono (Nat.le_trans HBA.out.size hb8.size)).trans (hb10.mono (Nat.le_trans HBA.out.size (Nat.le_trans hb8.size hb9.size)))))⟩
          · have hn := Aside0.mk (hnext rfl)
            clear hnext hfail
            go_wp2_with (first
              | (go_at_call 93; refine hcon.mono ?_; rintro e w8 ⟨rfl, hb8⟩; have h80 := (hb8.cell (by simp)).trans hgA; have h81 := (hb8.cell (by simp)).trans hgB)
              | (go_at_call 52; (with_reducible refine (class_Name.calls x.f0 _ _ hnm).mono ?_); rintro e w9 ⟨rfl, hb9⟩; have h91 := (hb9.cell (World.block_lt_of_cell? w8 _ h81)).trans h81)
              | (go_at_call 78; (with_reducible refine (fit_whole.calls x.f1 _ _ (hG.below (HBA.out.trans ((hb8.mono HBA.out.size).trans (hb9.mono (Nat.le_trans HBA.out.size hb8.size))))) hwh).mono ?_); rintro e w10 ⟨rfl, hb10⟩)
              | go_in)
            go_roundw
            case rel => exact ⟨k + 1, by go_num, hlt, HBA.out.trans ((hb8.mono HBA.out.size).trans ((hb9.mono (Nat.le_trans HBA.out.size hb8.size)).trans (hb10.mono (Nat.le_trans HBA.out.size (Nat.le_trans hb8.size hb9.size))))), hn.out⟩
            case measure =>
              simp only [intOf]
              omega
      · have hf := Aside0.mk (hfail rfl)
        clear hnext hfail
        go_wp2_with (first
          | (go_at_call 93; refine hcon.mono ?_; rintro e w8 ⟨rfl, hb8⟩; have h80 := (hb8.cell (by simp)).trans hgA; have h81 := (hb8.cell (by simp)).trans hgB)
          | (go_at_call 52; (with_reducible refine (class_Name.calls x.f0 _ _ hnm).mono ?_); rintro e w9 ⟨rfl, hb9⟩; have h91 := (hb9.cell (World.block_lt_of_cell? w8 _ h81)).trans h81)
          | (go_at_call 78; (with_reducible refine (fit_whole.calls x.f1 _ _ (hG.below (HBA.out.trans ((hb8.mono HBA.out.size).trans (hb9.mono (Nat.le_trans HBA.out.size hb8.size))))) hwh).mono ?_); rintro e w10 ⟨rfl, hb10⟩)
          | go_in)
        go_ret
        rw [hf.out]
        exact ⟨rfl, HBA.out.trans (hb8.mono HBA.out.size)⟩
    · have hkl : k = l0.length := by omega
      subst hkl
      go_wp2
      go_ret
      refine ⟨?_, hB⟩
      unfold attrsB
      rw [hyes]
      simp
end Go.Proofs.YteahlapoeiikoaaDoor.P
