/-
  decanterlaw11.KindNames, walked: it answers true. Conditions: the library's tables hold what they were laid with.
-/
import Derived.Laws.Cover1
import Derived.Test.YteahlapoeiikoaaDoorUnions
import Derived.Test.YteahlapoeiikoaaDoorJoin15
import Derived.Sort.Walk0
import Derived.Test.YteahlapoeiikoaaDoorJoin14

namespace Go.Proofs.YteahlapoeiikoaaDoor.P
open Go.RowKit Go.Maps Go.Proofs.YteahlapoeiikoaaDoorW.PrintWords Go.Proofs.YteahlapoeiikoaaDoor.Pure
set_option linter.unusedSimpArgs false
set_option linter.unusedVariables false

theorem rising_of (L : List (List UInt8)) (h : L.Pairwise (fun a b => a < b)) (k : Nat) (hk : k + 1 < (names L).length) :
    Op.bytesLess ((names L)[k]?.getD ByteArray.empty).toList ((names L)[k + 1]?.getD ByteArray.empty).toList = true := by
  rw [names_len] at hk
  have e : ∀ j, j < L.length → ((names L)[j]?.getD ByteArray.empty).toList = L[j]! := by
    intro j hj
    rw [Lib.toList_data]
    unfold names
    rw [List.getElem?_map, List.getElem?_eq_getElem hj, getElem!_pos L j hj]
    rfl
  rw [e k (by omega), e (k + 1) hk, bytesLess_eq, getElem!_pos L k (by omega), getElem!_pos L (k + 1) hk]
  exact decide_eq_true (List.pairwise_iff_getElem.1 h k (k + 1) (by omega) hk (by omega))
theorem gen_of (a : Int) (x : ByteArray) (hx : x ∈ names (allK a)) : x.size ≤ 100 ∧ Go.bits .and .i64 (kindOf x) a ≠ 0 := by
  unfold names at hx
  obtain ⟨l, hl, rfl⟩ := List.mem_map.1 hx
  have h1 := ((mem_allK a l).1 hl).2
  have h2 := (name_all a l hl).2.2.2
  unfold isB at h1
  rw [and_1023 _ _ (kind_range _).1 (kind_range _).2] at h1
  exact ⟨by simpa [Lib.size_eq] using h2, by simpa using h1⟩
theorem one_at (x : ByteArray) (q : Nat) (h : q < x.size) (w : World) : (Instr.slice 9 (.string x) (some (.int .i64 q)) (some (.int .i64 ((q : Int) + 1))) none).run Tryd.prog w = .ok (.string ⟨#[x[q]]⟩) w := by
  rw [run_slice_string w 9 x .i64 .i64 q (q + 1) Tryd.underlying9 (by omega) (by omega) (by omega)]
  congr 2
  have e : ((q : Int) + 1).toNat = q + 1 := by omega
  rw [e, Int.toNat_natCast]
  have hx : q < x.data.toList.length := by rw [← Lib.size_eq]; exact h
  apply ByteArray.ext
  rw [ByteArray.data_extract]
  apply Array.ext'
  rw [Array.toList_extract, List.extract_eq_take_drop]
  rw [List.drop_eq_getElem_cons hx]
  simp
  exact rfl
theorem more_word (wd : List UInt8) (c : UInt8) (h : wd.length ≤ 600) (w : World) : (Op.stringOp .add ⟨wd.toArray⟩ ⟨#[c]⟩).run Tryd.prog w = .ok (.string ⟨(wd ++ [c]).toArray⟩) w := by
  rw [run_string_add_sum (w := w) _ _ (by simp [Lib.size_eq]; omega)]
  congr 2
theorem run_take (bit : Bool) (s0 st : Sc) (x : ByteArray) (q : Nat) (h : q < x.size) (hs : st = Sc.run bit s0 (x.data.toList.take q)) : Sc.step bit st x[q] = Sc.run bit s0 (x.data.toList.take (q + 1)) := by
  have hx : q < x.data.toList.length := by rw [← Lib.size_eq]; exact h
  rw [List.take_add_one, List.getElem?_eq_getElem hx, hs]
  simp only [Sc.run, Option.toList_some, List.foldl_append, List.foldl_cons, List.foldl_nil]
  rfl
theorem word_size (wd : List UInt8) (h : wd.length ≤ 600) : (⟨wd.toArray⟩ : ByteArray).size ≤ maxLen := by
  simp [Lib.size_eq, maxLen]
  omega
/-- The inner loop's relation. -/
def InL (w : World) (a : Int) (k : Nat) (p0 : List (List UInt8) × Nat) (x : ByteArray) (g c4 b b0 : Nat) (RL : List ByteArray) (n : Nat) (mv wv iv : Value) (wq : World) : Prop :=
  ∃ (q n2 : Nat) (st : Sc), iv = .int .i64 q ∧ mv = .int .i64 (st.m : Nat) ∧ wv = .string ⟨st.w.toArray⟩ ∧ Aside0 (st = Sc.run (kbit a k) ⟨[], p0.1, p0.2⟩ (x.data.toList.take q)) ∧ st.w.length ≤ q ∧ q ≤ x.size ∧ n2 ≤ n + q ∧ st.m ≤ p0.2 + q ∧ Seen wq b n2 st.S ∧ Kd.R Kd.string 9 wq b0 (fun j => j ≠ b) (.slice (some ⟨g, 0, none⟩) 10 c4) RL ∧ Below w.heap.size w wq
set_option maxRecDepth 100000 in
set_option maxHeartbeats 800000 in
theorem names_calls (a : Int) (w : World) (hG : GW w) :
    Calls Tryd.prog 9 #[.int .i64 a] w fun e w' => e = .returned (.bool true) ∧ Below w.heap.size w w' := by
  obtain ⟨MA, hMA⟩ : ∃ MA, kind_All.f a = some MA := ⟨_, all_some a⟩
  obtain ⟨sA, lA, mA, jA0⟩ := all_facts a MA hMA
  have jA := Aside0.mk jA0
  clear jA0
  go_enter Tryd.func9, Tryd.ntmps9
  go_wp2_with (first
    | (go_at_call 13; refine (decanterlaw11_speaks.calls true _ hG speaks11).mono ?_; rintro e w1 ⟨rfl, hb1⟩)
    | (go_at_call 33; (with_reducible refine (kind_All.calls a MA _ (hG.below hb1) hMA).mono ?_); rintro e w3 ⟨v3, rfl, ho3, hb3⟩; obtain ⟨A3, c3, rfl⟩ := R_shape ho3)
    | go_in)
  have hgen : ∀ x ∈ MA, x.size ≤ 100 ∧ Go.bits .and .i64 (kindOf x) a ≠ 0 := by
    have e := Option.some.inj ((all_some a).symm.trans hMA)
    intro x hx
    rw [← e] at hx
    exact gen_of a x hx
  have hup : ∀ k, k + 1 < MA.length → Op.bytesLess (MA[k]?.getD ByteArray.empty).toList (MA[k + 1]?.getD ByteArray.empty).toList = true := by
    have e := Option.some.inj ((all_some a).symm.trans hMA)
    rw [← e]
    exact rising_of _ (all_sorted a)
  have hB3 : Below w.heap.size w w3 := hb1.trans (hb3.mono hb1.size)
  have hw3 : w1.heap.size ≤ w3.heap.size := hb3.size
  go_loopw [18] (fun i wr => ∃ k : Nat, i = .int .i64 k ∧ k ≤ MA.length ∧ Kd.R Kd.string 9 wr w1.heap.size (fun _ => True) (.slice A3 MA.length c3) MA ∧ Below w.heap.size w wr ∧ w1.heap.size ≤ wr.heap.size)
    (fun i _ => MA.length - (intOf i).toNat)
  case atStart => exact ⟨0, rfl, Nat.zero_le _, ho3, hB3, hw3⟩
  case round =>
    clear ho3 hB3 hw3
    obtain ⟨k, rfl, hk, hR, hB, hz⟩ := hrel
    by_cases hlt : k < MA.length
    · obtain ⟨g, rfl, hcell⟩ := R_text hR k hlt
      obtain ⟨hxs, hx0⟩ := hgen _ (mem_getD hlt)
      have hof := refOf (MA[k]?.getD ByteArray.empty) (Nat.le_trans hxs (by decide)) 2000 (by omega)
      by_cases hk0 : k = 0
      · subst hk0
        generalize MA[0]?.getD ByteArray.empty = x at hcell hxs hx0 hof
        go_wp2_with (first
          | (go_at_call 14; (with_reducible refine (decanterref11_Of.calls 2000 x (kindOf x) _ hof).mono ?_); rintro e w8 ⟨rfl, hb8⟩)
          | go_in)
        go_roundw
        case rel => exact ⟨1, rfl, hlt, Kd.R_below hR hb8, hB.trans (hb8.mono hB.size), Nat.le_trans hz hb8.size⟩
        case measure =>
          simp only [intOf]
          omega
      · obtain ⟨j, rfl⟩ : ∃ j, k = j + 1 := ⟨k - 1, by omega⟩
        obtain ⟨g', hg', hcell'⟩ := R_text hR j (by omega)
        cases hg'
        have hlj := hup j hlt
        generalize MA[j + 1]?.getD ByteArray.empty = x at hcell hxs hx0 hof hlj
        generalize MA[j]?.getD ByteArray.empty = y at hcell' hlj
        have hcell8 : ∀ w8, Below wr.heap.size wr w8 → w8.cell? ⟨g, j, none⟩ = some (.string y) := fun w8 hb8 => (hb8.cell (World.block_lt_of_cell? wr _ hcell')).trans hcell'
        go_wp2_with (first
          | (go_at_call 14; (with_reducible refine (decanterref11_Of.calls 2000 x (kindOf x) _ hof).mono ?_); rintro e w8 ⟨rfl, hb8⟩; have hc8 := hcell8 w8 hb8)
          | go_in)
        go_roundw
        case rel => exact ⟨j + 1 + 1, by go_num, hlt, Kd.R_below hR hb8, hB.trans (hb8.mono hB.size), Nat.le_trans hz hb8.size⟩
        case measure =>
          simp only [intOf]
          omega
    · have hkM : k = MA.length := by omega
      subst hkM
      have hmm := run_makeMap (P := Tryd.prog) 55 wr
      go_wp2_with (first
        | (go_at_call 34; (with_reducible refine (decanterref11_Lists.calls refL _ lists_eq).mono ?_); rintro e w4 ⟨v4, rfl, ho4, hb4⟩; obtain ⟨A4, c4, rfl⟩ := R_shape ho4)
        | go_in)
      have hS4 : Seen w4 wr.heap.size 0 [] := (Seen.made wr).kept (grown_of_below hb4) (by simp)
      have hB4 : Below w.heap.size w w4 := (hB.alloc hB.size _).trans (hb4.mono (Nat.le_trans hB.size (by simp)))
      have hR4 : Kd.R Kd.string 9 w4 (wr.alloc (Obj.map #[] 0)).heap.size (fun j => j ≠ wr.heap.size) (.slice A4 refL.length c4) refL := Kd.R_mono (Kd.R_bound ho4) (fun j hj => by have := hj.2.1; simp at this; omega)
      have hwz : w.heap.size ≤ wr.heap.size := hB.size
      have hl10 := refL_len
      have hat : ∀ k, k < 10 → (refL[k]?.getD ByteArray.empty).size ≤ 600 ∧ ∀ (bit : Bool) S m, Sc.run bit ⟨[], S, m⟩ (refL[k]?.getD ByteArray.empty).data.toList = ⟨[], ((words k).foldl (put bit) (S, m)).1, ((words k).foldl (put bit) (S, m)).2⟩ := by
        intro k hk
        have e : refL[k]?.getD ByteArray.empty = refL.getD k ByteArray.empty := by simp
        rw [e]
        exact ⟨(refL_at ⟨k, hk⟩).2, fun bit S m => run_list bit k hk S m⟩
      have hend := Aside0.mk ((putTo_len a).trans jA.out.symm)
      clear ho4 hR hB hb4 hz hmm hup hgen hMA sA mA jA
      generalize refL = RL at hl10 hat hR4 ⊢
      rw [hl10] at hR4 ⊢
      have hRl := Aside0.mk hl10
      clear hl10
      generalize (wr.alloc (Obj.map #[] 0)).heap.size = b0 at hR4
      generalize wr.heap.size = b at hS4 hR4 hwz ⊢
      go_loopw [45, 6] (fun i mv wq => ∃ k n : Nat, i = .int .i64 k ∧ mv = .int .i64 ((putTo a k).2 : Nat) ∧ k ≤ 10 ∧ n ≤ 600 * k ∧ (putTo a k).2 ≤ 600 * k ∧ Seen wq b n (putTo a k).1 ∧ Kd.R Kd.string 9 wq b0 (fun j => j ≠ b) (.slice A4 10 c4) RL ∧ Below w.heap.size w wq)
        (fun i _ _ => 10 - (intOf i).toNat)
      case atStart => exact ⟨0, 0, rfl, rfl, by omega, by omega, by simp [putTo], hS4, hR4, hB4⟩
      case round =>
        clear hS4 hR4 hB4
        obtain ⟨k, n, rfl, rfl, hk2, hn, hp0, hS, hR, hB⟩ := hrel
        by_cases hlt2 : k < 10
        · obtain ⟨g, hA4, hcell⟩ := R_text hR k (by rw [hRl.out]; exact hlt2)
          subst hA4
          obtain ⟨hx6, hxr⟩ := hat k hlt2
          have hput : putTo a (k + 1) = (words k).foldl (put (kbit a k)) (putTo a k) := rfl
          have hrun := hxr (kbit a k) (putTo a k).1 (putTo a k).2
          rw [← hput] at hrun
          clear hput hxr
          generalize (RL[k]?.getD ByteArray.empty) = x at hcell hx6 hrun
          generalize hp10 : (putTo a (k + 1)) = p1 at hrun
          have hp1 := Aside0.mk hp10
          clear hp10
          generalize (putTo a k) = p0 at hrun hS hp0 ⊢
          go_upto_region 17 with fail
          go_loopw [6, 10, 52] (fun mv wv iv wq => InL w a k p0 x g c4 b b0 RL n mv wv iv wq)
            (fun _ _ i _ => x.size - (intOf i).toNat)
          case atStart => exact ⟨0, n, ⟨[], p0.1, p0.2⟩, rfl, rfl, rfl, ⟨by simp [Sc.run]⟩, by simp, by omega, by omega, by simp, hS, hR, hB⟩
          case round =>
            clear hS hR hB
            obtain ⟨q, n2, ⟨wd, S, m⟩, rfl, rfl, rfl, hst, hwl, hq, hn2, hm2, hS, hR, hB⟩ := hrel
            by_cases hltq : q < x.size
            · dsimp only at hwl hm2 hS
              have hsl := one_at x q hltq wr
              have hnext := Aside0.mk (run_take (kbit a k) _ _ x q hltq hst.out)
              clear hst
              generalize hce : x[q] = c at hsl hnext
              by_cases hc : c = 32
              · subst hc
                have hcc : ((x[q].toNat : Int) != 32) = false := by rw [hce]; rfl
                clear hce
                have hlook := hS.look ⟨wd.toArray⟩ (word_size wd (by omega))
                by_cases hw0 : wd = []
                · subst hw0
                  go_wp2
                  go_roundw
                  case rel =>
                    refine ⟨q + 1, n2, ⟨[], S, m⟩, by go_num, rfl, rfl, ⟨?_⟩, by simp, hltq, by omega, by simp only; omega, hS, hR, hB⟩
                    rw [← hnext.out]
                    simp [Sc.step]
                  case measure =>
                    simp only [intOf]
                    omega
                · have hemp : wd.isEmpty = false := by simpa using hw0
                  by_cases hin : wd ∈ S
                  · have hd : decide (wd ∈ S) = true := decide_eq_true hin
                    go_wp2
                    go_roundw
                    case rel =>
                      have hI : InL w a k p0 x g c4 b b0 RL n (.int .i64 ((m : Nat) : Int)) (.string ⟨#[]⟩) (.int .i64 ((q : Int) + 1)) wr := by
                        refine ⟨q + 1, n2, ⟨[], S, m⟩, by first | rfl | go_num, by first | rfl | go_num, by first | rfl | simp, ⟨?_⟩, by simp, hltq, by omega, by simp only; omega, hS, hR, hB⟩
                        rw [← hnext.out]
                        simp [Sc.step, hin]
                      first | exact hI | exact ⟨_, _, _, _, hI, rfl, rfl, rfl, rfl⟩
                    case measure =>
                      simp only [intOf]
                      omega
                  · have hd : decide (wd ∈ S) = false := decide_eq_false hin
                    obtain ⟨w6, hup, hS6, hg6⟩ := hS.put (by unfold maxLen; omega) ⟨wd.toArray⟩ (word_size wd (by omega))
                    have hbit : (Go.bits .and .i64 (a / 2 ^ k) 1 == 1) = kbit a k := by rw [and_1]; rfl
                    by_cases hb : kbit a k = true
                    · rw [hb] at hbit
                      go_wp2
                      go_roundw
                      case rel =>
                        have hI : InL w a k p0 x g c4 b b0 RL n (.int .i64 ((m : Int) + 1)) (.string ⟨#[]⟩) (.int .i64 ((q : Int) + 1)) w6 := by
                          refine ⟨q + 1, n2 + 1, ⟨[], wd :: S, m + 1⟩, by first | rfl | go_num, by first | rfl | go_num, by first | rfl | simp, ⟨?_⟩, by simp, hltq, by omega, by simp only; omega, hS6, Kd.R_grown hR hg6 (fun j hj => by intro e; cases e; exact hj rfl), hB.grown hg6 hB.size (fun j hj => by cases hj; exact hwz)⟩
                          rw [← hnext.out]
                          simp [Sc.step, hin, hw0, hb]
                        first | exact hI | exact ⟨_, _, _, _, hI, rfl, rfl, rfl, rfl⟩
                      case measure =>
                        simp only [intOf]
                        omega
                    · have hb' : kbit a k = false := by simpa using hb
                      rw [hb'] at hbit
                      clear hup
                      go_wp2
                      go_roundw
                      case rel =>
                        have hI : InL w a k p0 x g c4 b b0 RL n (.int .i64 ((m : Nat) : Int)) (.string ⟨#[]⟩) (.int .i64 ((q : Int) + 1)) wr := by
                          refine ⟨q + 1, n2, ⟨[], S, m⟩, by first | rfl | go_num, by first | rfl | go_num, by first | rfl | simp, ⟨?_⟩, by simp, hltq, by omega, by simp only; omega, hS, hR, hB⟩
                          rw [← hnext.out]
                          simp [Sc.step, hb']
                        first | exact hI | exact ⟨_, _, _, _, hI, rfl, rfl, rfl, rfl⟩
                      case measure =>
                        simp only [intOf]
                        omega
              · have hcc : ((x[q].toNat : Int) != 32) = true := by rw [hce]; simpa [u8_32] using hc
                clear hce
                have hadd := more_word wd c (by omega) wr
                go_wp2
                go_roundw
                case rel =>
                  refine ⟨q + 1, n2, ⟨wd ++ [c], S, m⟩, by go_num, rfl, rfl, ⟨?_⟩, by simp; omega, hltq, by omega, by simp only; omega, hS, hR, hB⟩
                  rw [← hnext.out]
                  simp [Sc.step, hc]
                case measure =>
                  simp only [intOf]
                  omega
            · have hqx : q = x.size := by omega
              subst hqx
              have hfin := hst.out
              have hxl : x.data.toList.take x.size = x.data.toList := by rw [Lib.size_eq]; exact List.take_length
              rw [hxl, hrun] at hfin
              obtain ⟨rfl, rfl, rfl⟩ := Sc.mk.inj hfin
              clear hfin hxl
              dsimp only at hm2 hn2 hS
              go_wp2
              go_roundw
              case rel =>
                rw [← hp1.out] at hS hm2 ⊢
                exact ⟨k + 1, n2, by go_num, rfl, hlt2, by omega, by omega, hS, hR, hB⟩
              case measure =>
                simp only [intOf]
                omega
        · have hk10 : k = 10 := by omega
          subst hk10
          have he := hend.out
          clear hend
          generalize (putTo a 10).2 = mm at he ⊢
          subst he
          go_wp2
          go_ret
          exact ⟨rfl, hB⟩
/-- What the law answers. -/
def decanterlaw11_KindNames.f (a : Int) : Option Bool := some true
theorem decanterlaw11_KindNames.calls (a : Int) (r : Bool) (w : World) (hG : GW w) (h : decanterlaw11_KindNames.f a = some r) :
    Calls Tryd.prog 9 #[.int .i64 a] w fun e w' => e = .returned (.bool r) ∧ Below w.heap.size w w' := by
  obtain rfl := Option.some.inj h
  exact names_calls a w hG
theorem kindNamesLaw {a : Int} : decanterlaw11_KindNames.f a = some true := rfl
end Go.Proofs.YteahlapoeiikoaaDoor.P
