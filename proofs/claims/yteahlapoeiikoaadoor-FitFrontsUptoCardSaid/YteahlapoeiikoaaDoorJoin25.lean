/-
  The law FitFronts, about plain functions: parts of sound nodes are sound. Condition: the tree is of at most 2^20 in each direction.
-/
import Derived.Test.YteahlapoeiikoaaDoorJoin23
import Derived.Test.YteahlapoeiikoaaDoorJoin24

namespace Go.Proofs.YteahlapoeiikoaaDoor.Pure
open P Go.RowKit Go.Proofs.YteahlapoeiikoaaDoorW.PrintWords Go.Proofs.YteahlapoeiikoaaDoorW.PrintLast
set_option linter.unusedSimpArgs false
set_option linter.unusedVariables false

theorem scan_more (L : List ByteArray) (a : ByteArray) : ∀ r : List ByteArray, nestScan L (r ++ [a]) = false → nestScan L r = false
  | [], _ => rfl
  | x :: r, h => by
    rw [List.cons_append, nestScan] at h
    rw [nestScan]
    by_cases h1 : memB x L = true
    · rw [if_pos h1] at h; cases h
    · rw [if_neg h1] at h ⊢
      by_cases h2 : stopB x = true
      · rw [if_pos h2]
      · rw [if_neg h2] at h ⊢
        exact scan_more L a r h
theorem nested_drop (a : ByteArray) (o : List ByteArray) (n : ByteArray) (h : nestedB (a :: o) n = false) : nestedB o n = false := by
  unfold nestedB at h ⊢
  rw [List.reverse_cons] at h
  exact scan_more _ _ _ h
/-- What fits in some fits in the inner ones of them. -/
theorem in_drop (a : ByteArray) (o : List ByteArray) (n : ByteArray) (h : inB (a :: o) n = true) : inB o n = true := by
  cases o with
  | nil => exact in_nil n
  | cons b o =>
    have hl : lastOf (a :: b :: o) = lastOf (b :: o) := rfl
    unfold inB at h ⊢
    rw [hl] at h
    by_cases h1 : (kB n 1 && memB nP (a :: b :: o)) = true
    · rw [if_pos h1] at h; cases h
    · rw [if_neg h1] at h
      have h1' : ¬ (kB n 1 && memB nP (b :: o)) = true := by
        intro e
        rw [Bool.and_eq_true] at e
        apply h1
        rw [Bool.and_eq_true, memB_cons, e.2, Bool.or_true]
        exact ⟨e.1, rfl⟩
      rw [if_neg h1']
      by_cases h2 : (kB n 2 && kB (lastOf (b :: o)) 2) = true
      · rw [if_pos h2] at h; cases h
      · rw [if_neg h2] at h ⊢
        by_cases h3 : nestedB (a :: b :: o) n = true
        · rw [if_pos h3] at h; cases h
        · rw [if_neg h3] at h
          have h3' := nested_drop a (b :: o) n (by simpa using h3)
          rw [if_neg (by rw [h3']; decide)]
          by_cases h4 : ((n.toList == [97]) && memB nA (a :: b :: o)) = true
          · rw [if_pos h4] at h; cases h
          · have h4' : ¬ ((n.toList == [97]) && memB nA (b :: o)) = true := by
              intro e
              rw [Bool.and_eq_true] at e
              apply h4
              rw [Bool.and_eq_true, memB_cons, e.2, Bool.or_true]
              exact ⟨e.1, rfl⟩
            rw [if_neg h4']
theorem elem_mono {f0 t : ByteArray} {o o' : List ByteArray} {at_ : Bool} {m : Nat} {r r' : Bool} (ho : inB o f0 = true → inB o' f0 = true) (hr : r = true → r' = true) (h : elemOk f0 t o at_ m r = true) : elemOk f0 t o' at_ m r' = true := by
  unfold elemOk at h ⊢
  simp only [Bool.and_eq_true] at h ⊢
  exact ⟨h.1, h.2.1, ho h.2.2.1, h.2.2.2.1, h.2.2.2.2.1, hr h.2.2.2.2.2⟩
theorem sound_drop : ∀ (n : Nat) (l : List S52) (a : ByteArray) (o : List ByteArray), soundB n l (a :: o) = true → soundB n l o = true
  | 0, _, _, _, _ => rfl
  | n + 1, l, a, o, h => by
    rw [soundB, List.all_eq_true] at h ⊢
    intro i hi
    have hh := h i hi
    unfold nodeOk at hh ⊢
    by_cases hn : noName (rd_T52 l i) = true
    · rw [if_pos hn] at hh ⊢
      exact hh
    · rw [if_neg hn] at hh ⊢
      exact elem_mono (in_drop a o _) (fun hr => sound_drop n _ a _ hr) hh
theorem text_prev {t : ByteArray} {m : Nat} {b : Bool} (h : textOk t m b = true) : textOk t m false = true := by
  unfold textOk at h ⊢
  simp only [Bool.and_eq_true] at h ⊢
  exact ⟨h.1, h.2.1, h.2.2.1, rfl⟩
theorem take_get (l : List S52) (m i : Nat) (h : i < m) : rd_T52 (l.take m) (i : Int) = rd_T52 l (i : Int) := by
  unfold rd_T52
  rw [Int.toNat_natCast, List.getD_eq_getElem?_getD, List.getD_eq_getElem?_getD, List.getElem?_take, if_pos h]
theorem drop_get (l : List S52) (m i : Nat) : rd_T52 (l.drop m) (i : Int) = rd_T52 l ((m + i : Nat) : Int) := by
  unfold rd_T52
  rw [Int.toNat_natCast, Int.toNat_natCast, List.getD_eq_getElem?_getD, List.getD_eq_getElem?_getD, List.getElem?_drop]
theorem sound_take (n : Nat) (l : List S52) (o : List ByteArray) (m : Nat) (h : soundB (n + 1) l o = true) : soundB (n + 1) (l.take m) o = true := by
  rw [soundB, List.all_eq_true] at h ⊢
  intro i hi
  rw [List.mem_range, List.length_take] at hi
  have hh := h i (List.mem_range.2 (Nat.lt_of_lt_of_le hi (Nat.min_le_right _ _)))
  have him : i < m := Nat.lt_of_lt_of_le hi (Nat.min_le_left _ _)
  unfold nodeOk at hh ⊢
  rw [take_get l m i him, take_get l m (i - 1) (Nat.lt_of_le_of_lt (Nat.sub_le i 1) him)]
  exact hh
theorem sound_tail (n : Nat) (l : List S52) (o : List ByteArray) (m : Nat) (h : soundB (n + 1) l o = true) : soundB (n + 1) (l.drop m) o = true := by
  rw [soundB, List.all_eq_true] at h ⊢
  intro i hi
  rw [List.mem_range, List.length_drop] at hi
  have hh := h (m + i) (List.mem_range.2 (by omega))
  unfold nodeOk at hh ⊢
  rw [drop_get l m i]
  by_cases hn : noName (rd_T52 l ((m + i : Nat) : Int)) = true
  · rw [if_pos hn] at hh ⊢
    by_cases h0 : 0 < i
    · rw [drop_get l m (i - 1), decide_eq_true h0]
      rw [decide_eq_true (show 0 < m + i by omega), show m + i - 1 = m + (i - 1) by omega] at hh
      exact hh
    · rw [decide_eq_false h0, Bool.false_and]
      exact text_prev hh
  · rw [if_neg hn] at hh ⊢
    exact hh
theorem Sp.sub {n : Nat} {l l' : List S52} (h : Sp (n + 1) l) (hl : l'.length ≤ l.length) (hm : ∀ x ∈ l', x ∈ l) : Sp (n + 1) l' :=
  ⟨Nat.le_trans hl h.1, fun x hx => h.2 x (hm x hx)⟩
theorem Sp.take {n : Nat} {l : List S52} (h : Sp (n + 1) l) (m : Nat) : Sp (n + 1) (l.take m) := h.sub (by rw [List.length_take]; exact Nat.min_le_right _ _) (fun _ hx => List.mem_of_mem_take hx)
theorem Sp.drop {n : Nat} {l : List S52} (h : Sp (n + 1) l) (m : Nat) : Sp (n + 1) (l.drop m) := h.sub (by rw [List.length_drop]; exact Nat.sub_le _ _) (fun _ hx => List.mem_of_mem_drop hx)
/-- What stands in an element of sound nodes is sound. -/
theorem sound_inner (n : Nat) (l : List S52) (i : Nat) (hi : i < l.length) (h : soundB (n + 1) l [] = true) (hn : ¬ noName (rd_T52 l i) = true) : soundB n (rd_T52 l i).f3 [] = true := by
  rw [soundB, List.all_eq_true] at h
  have hh := h i (List.mem_range.2 hi)
  unfold nodeOk at hh
  rw [if_neg hn] at hh
  unfold elemOk at hh
  simp only [Bool.and_eq_true] at hh
  exact sound_drop n _ _ _ hh.2.2.2.2.2
/-- The loop over the nodes. -/
theorem fronts_loop (n : Nat) (hn : n + 1 ≤ 2000000) (l : List S52) (hS : Sp (n + 1) l) (h : soundB (n + 1) l [] = true) : ∀ (d i : Nat), i + d = l.length → ∃ K, ∀ k, K ≤ k → decanterlaw21_FitFronts.l0 k l l (l.length : Int) (i : Int) = some true := by
  intro d
  induction d with
  | zero =>
    intro i hi
    refine ⟨1, fun k hk => ?_⟩
    obtain ⟨k, rfl⟩ : ∃ q, k = q + 1 := ⟨k - 1, by omega⟩
    rw [decanterlaw21_FitFronts.l0, if_neg (by omega)]
  | succ d ih =>
    intro i hi
    have hil : i < l.length := by omega
    have hl := hS.1
    obtain ⟨K2, hK2⟩ := ih (i + 1) (by omega)
    obtain ⟨K1, hK1⟩ := prog_is (n + 1) hn ((l.take (i + 1)).drop i) ((hS.take (i + 1)).drop i)
    have h3 : Sp n l[i].f3 := (hS.2 l[i] (List.getElem_mem hil)).2.2.2.2
    obtain ⟨K3, hK3⟩ := prog_is n (Nat.le_of_succ_le hn) l[i].f3 h3
    refine ⟨K1 + K2 + K3 + 1, fun k hk => ?_⟩
    obtain ⟨k, rfl⟩ : ∃ q, k = q + 1 := ⟨k - 1, by omega⟩
    have e1 : (((i + 1 : Nat) : Int)).toNat = i + 1 := Int.toNat_natCast _
    have e0 : ((i : Int)).toNat = i := Int.toNat_natCast _
    have hr := hK2 k (by omega)
    rw [decanterlaw21_FitFronts.l0, if_pos (lt_int hil), if_pos (ge_int i), if_pos (lt_int hil), next_id hil hl]
    by_cases hnm : noName (rd_T52 l (i : Int)) = true
    · have hnm' : (rd_T52 l (i : Int)).f0.toList = [] := by unfold noName at hnm; rw [beq_iff_eq] at hnm; exact hnm
      rw [if_pos hnm', hr]
    · have hnm' : ¬ (rd_T52 l (i : Int)).f0.toList = [] := by unfold noName at hnm; rw [beq_iff_eq] at hnm; exact hnm
      have hin := sound_inner n l i hil h hnm
      rw [if_neg hnm', if_pos (Int.ofNat_le.2 (Nat.le_succ i)), if_pos (Int.ofNat_le.2 hil), e1, e0, hK1 k (by omega), sound_tail n _ _ i (sound_take n l [] (i + 1) h)]
      simp only [Option.bind_some]
      rw [get52 l i hil] at hin ⊢
      rw [if_pos trivial, hK3 k (by omega), hin]
      simp only [Option.bind_some]
      rw [if_pos trivial, hr]
theorem u8_range {a : Int} (h0 : 0 ≤ a) (h1 : a ≤ 255) {m : Nat} (hm : m ≤ 1048576) : ¬ wrap64 ((m : Int) + 1) = 0 ∧ 0 ≤ Int.tmod (wrap64 a) (wrap64 ((m : Int) + 1)) ∧ Int.tmod (wrap64 a) (wrap64 ((m : Int) + 1)) ≤ (m : Int) := by
  rw [wrap_id (by omega) (by omega), wrap_id (by omega) (by omega)]
  refine ⟨by omega, Int.tmod_nonneg _ h0, ?_⟩
  have := Int.tmod_lt_of_pos a (show (0 : Int) < (m : Int) + 1 by omega)
  omega
theorem j0_sound (q : Nat) (l : List S82) (a : Int) (L : List S52) (hO : decanterlaw12_Of.f (q + 2) l = some L) (h0 : ¬ wrap64 ((L.length : Int) + 1) = 0)
    (h1 : 0 ≤ Int.tmod (wrap64 a) (wrap64 ((L.length : Int) + 1))) (h2 : Int.tmod (wrap64 a) (wrap64 ((L.length : Int) + 1)) ≤ (L.length : Int))
    (h5 : fit_Sound.f (q + 2) (L.take (Int.tmod (wrap64 a) (wrap64 ((L.length : Int) + 1))).toNat) = some true) (h6 : fit_Sound.f (q + 2) (L.drop (Int.tmod (wrap64 a) (wrap64 ((L.length : Int) + 1))).toNat) = some true)
    (h7 : decanterlaw21_FitFronts.l0 (q + 1) L L (L.length : Int) 0 = some true) : decanterlaw21_FitFronts.j0 (q + 3) l a false = some true := by
  have e : decanterlaw21_FitFronts.j0 (q + 2 + 1) l a false = (decanterlaw12_Of.f (q + 2) l).bind fun t301 => (if (wrap64 ((t301.length : Int) + 1)) = 0 then (none) else (if 0 ≤ (Int.tmod (wrap64 a) (wrap64 ((t301.length : Int) + 1))) then (if (Int.tmod (wrap64 a) (wrap64 ((t301.length : Int) + 1))) ≤ (t301.length : Int) then ((fit_Sound.f (q + 2) (t301.take ((Int.tmod (wrap64 a) (wrap64 ((t301.length : Int) + 1))) : Int).toNat)).bind fun t308 => (if t308 = true then ((fit_Sound.f (q + 2) (t301.drop ((Int.tmod (wrap64 a) (wrap64 ((t301.length : Int) + 1))) : Int).toNat)).bind fun t313 => (decanterlaw21_FitFronts.j1 (q + 2) t301 (!t313))) else (decanterlaw21_FitFronts.j1 (q + 2) t301 true))) else (none)) else (none))) := by
    rw [decanterlaw21_FitFronts.j0, if_neg (by decide)]
  refine Eq.trans e ?_
  rw [hO, Option.bind_some, if_neg h0, if_pos h1, if_pos h2, h5, Option.bind_some, if_pos rfl, h6, Option.bind_some, Bool.not_true, decanterlaw21_FitFronts.j1, if_neg (by decide), h7]
theorem rounds6 {a b c d e f q : Nat} (h : a + b + c + d + e + f + 2207 = q) : a + b + c + d + e + f + 2210 = q + 3 ∧ 2200 ≤ q + 3 ∧ 2200 ≤ q + 2 ∧ a ≤ q + 3 ∧ c ≤ q + 3 ∧ b ≤ q + 2 ∧ d ≤ q + 2 ∧ e ≤ q + 2 ∧ f ≤ q + 1 := by omega
/-- The law. -/
theorem fitFrontsLaw (n : Nat) (hn : n + 1 ≤ 2000000) (l : List S82) (h : Sm (n + 1) l) (a : Int) (h0 : 0 ≤ a) (h1 : a ≤ 255) : ∃ k, decanterlaw21_FitFronts.f k l a = some true := by
  obtain ⟨K1, v, hK1⟩ := few_is (n + 1) l h
  obtain ⟨K2, hK2⟩ := of_is (n + 1) l h
  obtain ⟨K4, hK4⟩ := ref_is (n + 1) l [] h (ou_nil hn)
  have hS : Sp (n + 1) (ofN (n + 1) l) := h.sp
  have hl := hS.1
  generalize hL : ofN (n + 1) l = L at hK2 hK4 hS hl
  obtain ⟨hm0, hm1, hm2⟩ := u8_range h0 h1 hl
  obtain ⟨K5, hK5⟩ := prog_is (n + 1) hn (L.take (Int.tmod (wrap64 a) (wrap64 ((L.length : Int) + 1))).toNat) (hS.take _)
  obtain ⟨K6, hK6⟩ := prog_is (n + 1) hn (L.drop (Int.tmod (wrap64 a) (wrap64 ((L.length : Int) + 1))).toNat) (hS.drop _)
  have hloop : ∃ K7, soundB (n + 1) L [] = true → ∀ k, K7 ≤ k → decanterlaw21_FitFronts.l0 k L L (L.length : Int) 0 = some true := by
    by_cases hs : soundB (n + 1) L [] = true
    · obtain ⟨K, hK⟩ := fronts_loop n hn L hS hs L.length 0 (by omega)
      exact ⟨K, fun _ => hK⟩
    · exact ⟨0, fun e => absurd e hs⟩
  obtain ⟨K7, hK7⟩ := hloop
  refine ⟨K1 + K2 + K4 + K5 + K6 + K7 + 2210, ?_⟩
  generalize hk : K1 + K2 + K4 + K5 + K6 + K7 + 2207 = q
  obtain ⟨hq, r3, r2, b1, b4, b2, b5, b6, b7⟩ := rounds6 hk
  rw [hq]
  clear hq hk
  have hyes : decanterlaw21_FitFronts.j0 (q + 3) l a true = some true := by
    rw [show q + 3 = (q + 2) + 1 from rfl, decanterlaw21_FitFronts.j0, if_pos rfl, speaks21 _ r2]
    rfl
  unfold decanterlaw21_FitFronts.f
  rw [speaks21 _ r3]
  simp only [Option.bind_some]
  rw [if_pos trivial, hK1 _ b1]
  simp only [Option.bind_some]
  cases v with
  | false => rw [if_neg (by decide), hyes]
  | true =>
    rw [if_pos rfl, hK4 _ b4]
    simp only [Option.bind_some]
    by_cases hs : soundB (n + 1) L [] = true
    · have g5 := hK5 _ b5
      rw [sound_take n L [] _ hs] at g5
      have g6 := hK6 _ b6
      rw [sound_tail n L [] _ hs] at g6
      rw [hs, Bool.not_true]
      exact j0_sound q l a L (hK2 _ b2) hm0 hm1 hm2 g5 g6 (hK7 hs _ b7)
    · rw [show soundB (n + 1) L [] = false from by simpa using hs, Bool.not_false, hyes]
theorem u8_wf {n : Int} (h : (Lit.int .u8 n).wf = true) : 0 ≤ n ∧ n ≤ 255 := by
  simp only [Lit.wf, Bool.and_eq_true, decide_eq_true_eq] at h
  have e1 : IntKind.u8.min = 0 := rfl
  have e2 : IntKind.u8.max = 255 := rfl
  omega
theorem fitFrontsUpto {l : List S82} (h : Sm 1048576 l) {a : Int} (ha : (Lit.int .u8 a).wf = true) : ∃ k, decanterlaw21_FitFronts.f k l a = some true :=
  fitFrontsLaw 1048575 (by decide) l h a (u8_wf ha).1 (u8_wf ha).2
end Go.Proofs.YteahlapoeiikoaaDoor.Pure
