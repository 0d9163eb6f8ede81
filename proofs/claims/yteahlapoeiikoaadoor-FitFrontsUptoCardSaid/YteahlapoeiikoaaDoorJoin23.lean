/- Several texts, one behind the other. -/
import Derived.Test.YteahlapoeiikoaaDoorJoin11
import Derived.Test.YteahlapoeiikoaaDoorJoin19
import Derived.Test.YteahlapoeiikoaaDoorJoin13
import Derived.Test.YteahlapoeiikoaaDoorJoin21
import Derived.Test.YteahlapoeiikoaaDoorJoin12
import Derived.Test.YteahlapoeiikoaaDoorJoin22
import Derived.Test.YteahlapoeiikoaaDoorJoin20


-- Printed by a program of this session (wip/myprint.py over the kit's print).
namespace Go.Proofs.YteahlapoeiikoaaDoor.P
open Go.RowKit Go.Proofs.YteahlapoeiikoaaDoorW.PrintWords Go.Proofs.YteahlapoeiikoaaDoorW.PrintLast Go.Proofs.YteahlapoeiikoaaDoorW.PrintMore
attribute [local go_sem] max2_int min2_int max_two min_two max_three min_three max_four min_four   -- for this text's walks alone
set_option linter.unusedVariables false
set_option linter.unusedSimpArgs false

/-! ### decanterlaw21_FitSound: function 7 -/
def decanterlaw21_FitSound.f (k : Nat) (l0 : List (S82)) : Option (Bool) := (decanterlaw21_speaks.f k).bind fun t290 => (if t290 = true then ((decanterlaw21_few.f k l0).bind fun t291 => (if t291 = true then ((decanterlaw12_Of.f k l0).bind fun t292 => ((fit_Sound.f k t292).bind fun t295 => ((decanterref21_Sound.f k l0 ([] : List ByteArray)).bind fun t296 => (some (t295 == t296))))) else (some true))) else (some false))
end Go.Proofs.YteahlapoeiikoaaDoor.P

/-
  fit.sound and the document's Sound tell the same, about plain functions. Condition: the tree is of at most 2^20 in each direction.
-/

namespace Go.Proofs.YteahlapoeiikoaaDoor.Pure
open P Go.RowKit Go.Proofs.YteahlapoeiikoaaDoorW.PrintWords Go.Proofs.YteahlapoeiikoaaDoorW.PrintLast
set_option linter.unusedSimpArgs false
set_option linter.unusedVariables false

theorem get52 (l : List S52) (i : Nat) (h : i < l.length) : rd_T52 l (i : Int) = l[i] := by
  unfold rd_T52
  rw [Int.toNat_natCast, List.getD_eq_getElem?_getD, List.getElem?_eq_getElem h]
  rfl
theorem get82 (l : List S82) (i : Nat) (h : i < l.length) : rd_T82 l (i : Int) = l[i] := by
  unfold rd_T82
  rw [Int.toNat_natCast, List.getD_eq_getElem?_getD, List.getElem?_eq_getElem h]
  rfl
def textOk (t : ByteArray) (m : Nat) (prev : Bool) : Bool := !(t.toList == []) && (wholeB t && (decide (m = 0) && !prev))
def elemOk (f0 t : ByteArray) (o : List ByteArray) (at_ : Bool) (m : Nat) (rest : Bool) : Bool :=
  kB f0 9 && (t.toList == [] && (inB o f0 && (at_ && (!(kB f0 0 && !(m == 0)) && rest))))
def noName (x : S52) : Bool := x.f0.toList == []
/-- Is a node right at its place; s: what stands in it. -/
def nodeOk (s : List S52 → List ByteArray → Bool) (l : List S52) (o : List ByteArray) (i : Nat) : Bool :=
  if noName (rd_T52 l i) = true then textOk (rd_T52 l i).f2 ((rd_T52 l i).f1.length + (rd_T52 l i).f3.length) (decide (0 < i) && noName (rd_T52 l ((i - 1 : Nat) : Int)))
  else elemOk (rd_T52 l i).f0 (rd_T52 l i).f2 o (attrsB (rd_T52 l i).f1) (rd_T52 l i).f3.length (s (rd_T52 l i).f3 (o ++ [(rd_T52 l i).f0]))
def soundB : Nat → List S52 → List ByteArray → Bool
  | 0, _, _ => true
  | n + 1, l, o => (List.range l.length).all (nodeOk (soundB n) l o)
/-- A tree of the program's, few deep. -/
def Sp : Nat → List S52 → Prop
  | 0, l => l = []
  | n + 1, l => l.length ≤ 1048576 ∧ ∀ x ∈ l, x.f0.size ≤ 1048576 ∧ x.f2.size ≤ 1048576 ∧ x.f1.length ≤ 1048576 ∧ fit_attrs.f x.f1 = some (attrsB x.f1) ∧ Sp n x.f3
structure Ou (o : List ByteArray) (n : Nat) : Prop where
  all : ∀ x ∈ o, x.size ≤ 1048576
  len : o.length + n ≤ 2097152
theorem Ou.snoc {o : List ByteArray} {n : Nat} (h : Ou o (n + 1)) {x : ByteArray} (hx : x.size ≤ 1048576) : Ou (o ++ [x]) n :=
  ⟨fun y hy => by
    rcases List.mem_append.1 hy with hy | hy
    · exact h.all y hy
    · rw [List.mem_singleton.1 hy]; exact hx,
   by have := h.len; rw [List.length_append, List.length_singleton]; omega⟩
theorem room_ok {o : List ByteArray} {n : Nat} (h : Ou o n) {x : ByteArray} : o.length + ([x] : List ByteArray).length < 8796093022208 := by
  have := h.len
  show o.length + 1 < _
  omega
theorem fits_ou {o : List ByteArray} {n : Nat} (h : Ou o n) {x : ByteArray} (hx : x.size ≤ 1048576) (k : Nat) (hk : 4000000 ≤ k) : Fits o x 1048576 k :=
  ⟨h.all, hx, by decide, by have := h.len; omega, by have := h.len; omega⟩

theorem sum_no {a b : Nat} (h : a + b = 0) : ¬ ((a : Int) + (b : Int) > 0) := by omega
theorem sum_yes {a b : Nat} (h : ¬ a + b = 0) : (a : Int) + (b : Int) > 0 := by omega
theorem sum_id {a b : Nat} (h1 : a ≤ 1048576) (h2 : b ≤ 1048576) : wrap64 ((a : Int) + (b : Int)) = (a : Int) + (b : Int) := wrap_id (by omega) (by omega)
theorem next_id {i n : Nat} (h : i < n) (hn : n ≤ 1048576) : wrap64 ((i : Int) + 1) = ((i + 1 : Nat) : Int) := by rw [wrap_id (by omega) (by omega)]; omega
theorem prev_id {i n : Nat} (h : i < n) (hn : n ≤ 1048576) : wrap64 ((i : Int) - 1) = (i : Int) - 1 := wrap_id (by omega) (by omega)
theorem lt_int {i n : Nat} (h : i < n) : (i : Int) < (n : Int) := by omega
theorem ge_int (i : Nat) : 0 ≤ (i : Int) := by omega
theorem pos_int {i : Nat} (h : 0 < i) : (i : Int) > 0 := by omega
theorem npos_int {i : Nat} (h : ¬ 0 < i) : ¬ (i : Int) > 0 := by omega
theorem pred_int {i : Nat} (h : 0 < i) : (i : Int) - 1 = ((i - 1 : Nat) : Int) := by omega
theorem pred_ge {i : Nat} (h : 0 < i) : 0 ≤ (i : Int) - 1 := by omega
theorem pred_lt {i n : Nat} (h : i < n) : (i : Int) - 1 < (n : Int) := by omega
theorem size_ok {a : Nat} (h : a ≤ 1048576) : a ≤ maxLen := by
  have hm : maxLen = 9223372036854775807 := rfl
  omega
/-- One node of the program's. -/
theorem sound_step (q : Nat) (l : List S52) (o : List ByteArray) (n i : Nat) (hi : i < l.length) (hl : l.length ≤ 1048576) (ho : Ou o (n + 1)) (hq : 4000000 ≤ q)
    (h0 : l[i].f0.size ≤ 1048576) (h2 : l[i].f2.size ≤ 1048576) (h1 : l[i].f1.length ≤ 1048576) (h3 : l[i].f3.length ≤ 1048576) (hA : fit_attrs.f l[i].f1 = some (attrsB l[i].f1))
    (s : List S52 → List ByteArray → Bool) (hs : fit_sound.f (q + 1) l[i].f3 (o ++ [l[i].f0]) = some (s l[i].f3 (o ++ [l[i].f0]))) (R : Bool)
    (hR : ∀ k, q + 1 ≤ k → fit_sound.l0 k l o l (l.length : Int) ((i + 1 : Nat) : Int) = some R) :
    fit_sound.l0 (q + 4) l o l (l.length : Int) (i : Int) = some (nodeOk s l o i && R) := by
  have hw1 := next_id hi hl
  have hprev := prev_id hi hl
  rw [show q + 4 = (q + 3) + 1 from rfl, fit_sound.l0, if_pos (lt_int hi), if_pos (ge_int i), if_pos (lt_int hi), hw1, hprev]
  unfold nodeOk
  rw [get52 l i hi]
  generalize hx : l[i] = x at h0 h1 h2 h3 hA hs
  by_cases hn : x.f0.toList = []
  · have hnn : noName x = true := by unfold noName; rw [hn]; rfl
    rw [if_pos hn, if_pos hnn]
    unfold textOk
    by_cases ht : x.f2.toList = []
    · rw [if_pos ht, show (x.f2.toList == ([] : List UInt8)) = true from by rw [beq_iff_eq]; exact ht]
      rfl
    · rw [if_neg ht, show (x.f2.toList == ([] : List UInt8)) = false from by rw [beq_eq_false_iff_ne]; exact ht]
      rw [show fit_whole.f x.f2 = some (wholeB x.f2) from if_pos (size_ok h2)]
      simp only [Option.bind_some]
      cases wholeB x.f2 with
      | false => rfl
      | true =>
        rw [if_pos rfl]
        have hsum := sum_id h1 h3
        rw [hsum]
        by_cases hc : x.f1.length + x.f3.length = 0
        · rw [if_neg (sum_no hc), decide_eq_true hc]
          by_cases hi0 : 0 < i
          · rw [if_pos (pos_int hi0), if_pos (pred_ge hi0), if_pos (pred_lt hi), decide_eq_true hi0]
            have he := pred_int hi0
            rw [he]
            by_cases hp : (rd_T52 l ((i - 1 : Nat) : Int)).f0.toList = []
            · rw [if_pos hp, show noName (rd_T52 l ((i - 1 : Nat) : Int)) = true from by unfold noName; rw [hp]; rfl]
              rfl
            · rw [if_neg hp, show noName (rd_T52 l ((i - 1 : Nat) : Int)) = false from by unfold noName; rw [beq_eq_false_iff_ne]; exact hp, hR _ (Nat.add_le_add_left (by decide) q)]
              rfl
          · rw [if_neg (npos_int hi0), decide_eq_false hi0, hR _ (Nat.add_le_add_left (by decide) q)]
            rfl
        · rw [if_pos (sum_yes hc), decide_eq_false hc]
          rfl
  · have hnn : ¬ noName x = true := by unfold noName; rw [beq_iff_eq]; exact hn
    rw [if_neg hn, if_neg hnn]
    unfold elemOk
    have hI9 : kind_Is.f x.f0 512 = some (kB x.f0 9) := is_bit x.f0 (size_ok h0) 9 (by decide)
    have hI0 : kind_Is.f x.f0 1 = some (kB x.f0 0) := is_bit x.f0 (size_ok h0) 0 (by decide)
    have hIn : fit_In.f (q + 3) o x.f0 = some (inB o x.f0) := fitIn o x.f0 1048576 q (fits_ou ho h0 q hq)
    have hbad : ∀ b, fit_sound.j1 (q + 3) l o b l (l.length : Int) (i : Int) true x.f0 x.f1 x.f2 x.f3 = some false := by
      intro b
      rw [fit_sound.j1, if_pos rfl]
    rw [hI9]
    simp only [Option.bind_some]
    cases kB x.f0 9 with
    | false =>
      rw [if_neg (by decide), hbad]
      rfl
    | true =>
      rw [if_pos rfl]
      by_cases ht : x.f2.toList = []
      · rw [if_pos ht, show (x.f2.toList == ([] : List UInt8)) = true from by rw [beq_iff_eq]; exact ht, hIn]
        simp only [Option.bind_some]
        cases inB o x.f0 with
        | false =>
          rw [if_neg (by decide), hbad]
          rfl
        | true =>
          rw [if_pos rfl, hA]
          simp only [Option.bind_some]
          cases attrsB x.f1 with
          | false =>
            rw [Bool.not_false, hbad]
            rfl
          | true =>
            rw [Bool.not_true, fit_sound.j1, if_neg (by decide), hI0]
            simp only [Option.bind_some]
            have e3 : ((x.f3.length : Int) == 0) = (x.f3.length == 0) := by rw [Bool.eq_iff_iff, beq_iff_eq, beq_iff_eq]; omega
            have hgo : fit_sound.j2 (q + 2) l o l (l.length : Int) (i : Int) false x.f0 x.f1 x.f2 x.f3 = some (s x.f3 (o ++ [x.f0]) && R) := by
              have hroom : o.length + ([x.f0] : List ByteArray).length < 8796093022208 := room_ok ho
              rw [fit_sound.j2, if_neg (by decide)]
              simp only [slices_Clip_string_string.f, Option.bind_some]
              rw [if_pos hroom, hs]
              simp only [Option.bind_some]
              cases s x.f3 (o ++ [x.f0]) with
              | false => rfl
              | true => rw [if_pos rfl, hw1, hR _ (Nat.le_refl _)]; rfl
            have hno : fit_sound.j2 (q + 2) l o l (l.length : Int) (i : Int) true x.f0 x.f1 x.f2 x.f3 = some false := by
              rw [fit_sound.j2, if_pos rfl]
            cases kB x.f0 0 with
            | false =>
              rw [if_neg (by decide), hgo]
              simp
            | true =>
              rw [if_pos rfl, e3]
              cases x.f3.length == 0 with
              | false => rw [Bool.not_false, hno]; simp
              | true => rw [Bool.not_true, hgo]; simp
      · rw [if_neg ht, hbad, show (x.f2.toList == ([] : List UInt8)) = false from by rw [beq_eq_false_iff_ne]; exact ht]
        rfl
theorem Sp.inner {n : Nat} {l : List S52} (h : Sp n l) : l.length ≤ 1048576 := by
  cases n with
  | zero => rw [show l = [] from h]; exact Nat.zero_le _
  | succ n => exact h.1
/-- fit.sound tells soundB. -/
theorem sound_is : ∀ (n : Nat) (l : List S52) (o : List ByteArray), Sp n l → Ou o n → ∃ K, ∀ k, K ≤ k → fit_sound.f k l o = some (soundB n l o)
  | 0, l, o, h, _ => ⟨10, fun k hk => by
      obtain ⟨k, rfl⟩ : ∃ q, k = q + 2 := ⟨k - 2, by omega⟩
      rw [show l = [] from h, show k + 2 = (k + 1) + 1 from rfl, fit_sound.f, fit_sound.l0, if_neg (by simp)]
      rfl⟩
  | n + 1, l, o, h, ho => by
    have loop : ∀ (d i : Nat), i + d = l.length → ∃ K, ∀ k, K ≤ k → fit_sound.l0 k l o l (l.length : Int) (i : Int) = some ((List.range' i d).all (nodeOk (soundB n) l o)) := by
      intro d
      induction d with
      | zero =>
        intro i hi
        refine ⟨1, fun k hk => ?_⟩
        obtain ⟨k, rfl⟩ : ∃ q, k = q + 1 := ⟨k - 1, by omega⟩
        rw [fit_sound.l0, if_neg (by omega)]
        rfl
      | succ d ih =>
        intro i hi
        have hil : i < l.length := by omega
        obtain ⟨K2, hK2⟩ := ih (i + 1) (by omega)
        obtain ⟨h0, h2, h1, hA, h3⟩ := h.2 l[i] (List.getElem_mem hil)
        obtain ⟨K1, hK1⟩ := sound_is n l[i].f3 (o ++ [l[i].f0]) h3 (ho.snoc h0)
        refine ⟨K1 + K2 + 4000000 + 4, fun k hk => ?_⟩
        obtain ⟨q, rfl⟩ : ∃ q, k = q + 4 := ⟨k - 4, by omega⟩
        rw [List.range'_succ, List.all_cons]
        exact sound_step q l o n i hil h.1 ho (by omega) h0 h2 h1 h3.inner hA (soundB n) (hK1 _ (by omega)) _ (fun k hk => hK2 k (by omega))
    obtain ⟨K, hK⟩ := loop l.length 0 (by omega)
    refine ⟨K + 1, fun k hk => ?_⟩
    obtain ⟨k, rfl⟩ : ∃ q, k = q + 1 := ⟨k - 1, by omega⟩
    rw [fit_sound.f, soundB, List.range_eq_range']
    exact hK k (by omega)
end Go.Proofs.YteahlapoeiikoaaDoor.Pure

/-
  The document's Sound tells what fit.sound tells; the law FitSound, about plain functions. Condition: the tree is of at most 2^20 in each direction.
-/

namespace Go.Proofs.YteahlapoeiikoaaDoor.Pure
open P Go.RowKit Go.Proofs.YteahlapoeiikoaaDoorW.PrintWords Go.Proofs.YteahlapoeiikoaaDoorW.PrintLast
set_option linter.unusedSimpArgs false
set_option linter.unusedVariables false

/-- The document's nodes as the program's, so many deep. -/
def ofN : Nat → List S82 → List S52
  | 0, _ => []
  | n + 1, l => l.map fun x => ⟨x.f0, x.f1.map ofA, x.f2, ofN n x.f3⟩
/-- A tree of the document's, few deep. -/
def Sm : Nat → List S82 → Prop
  | 0, l => l = []
  | n + 1, l => l.length ≤ 1048576 ∧ ∀ x ∈ l, x.f0.size ≤ 1048576 ∧ x.f2.size ≤ 1048576 ∧ SmA x.f1 ∧ Sm n x.f3
theorem Sm.len {n : Nat} {l : List S82} (h : Sm n l) : l.length ≤ 1048576 := by
  cases n with
  | zero => rw [show l = [] from h]; exact Nat.zero_le _
  | succ n => exact h.1
theorem ofN_len {n : Nat} {l : List S82} (h : Sm n l) : (ofN n l).length = l.length := by
  cases n with
  | zero => rw [show l = [] from h]; rfl
  | succ n => rw [ofN, List.length_map]
theorem Sm.sp : ∀ {n : Nat} {l : List S82}, Sm n l → Sp n (ofN n l)
  | 0, l, h => rfl
  | n + 1, l, h => by
    refine ⟨by rw [ofN, List.length_map]; exact h.1, fun y hy => ?_⟩
    rw [ofN] at hy
    obtain ⟨x, hx, rfl⟩ := List.mem_map.1 hy
    obtain ⟨h0, h2, hA, h3⟩ := h.2 x hx
    exact ⟨h0, h2, by rw [List.length_map]; exact hA.1, attrs_prog x.f1 hA, h3.sp⟩
theorem ofN_get {n : Nat} {l : List S82} {i : Nat} (h : i < l.length) : rd_T52 (ofN (n + 1) l) (i : Int) = ⟨l[i].f0, l[i].f1.map ofA, l[i].f2, ofN n l[i].f3⟩ := by
  rw [get52 _ i (by rw [ofN, List.length_map]; exact h)]
  simp only [ofN, List.getElem_map]
theorem len_pos {a : Nat} (h : ¬ a = 0) : (a : Int) > 0 := by omega
theorem len_no {a : Nat} (h : a = 0) : ¬ (a : Int) > 0 := by omega
theorem len_dec (a : Nat) : decide ((a : Int) > 0) = !(a == 0) := by
  rw [Bool.eq_iff_iff, decide_eq_true_eq, Bool.not_eq_true', beq_eq_false_iff_ne]
  omega
theorem rounds_ok {a q : Nat} (h : a ≤ 1048576) (hq : 4000000 ≤ q) : a + 1000 ≤ q := by omega
theorem rounds_ok2 {a q : Nat} (h : a ≤ 1048576) (hq : 4000000 ≤ q) : a + 30 ≤ q := by omega
theorem le_low {a : Nat} (h : a ≤ 1048576) : a ≤ 1152921504606846000 := by omega

/-- One node of the document's. -/
theorem ref_step (q : Nat) (l : List S82) (o : List ByteArray) (n i : Nat) (hi : i < l.length) (hl : l.length ≤ 1048576) (ho : Ou o (n + 1)) (hq : 4000000 ≤ q)
    (h0 : l[i].f0.size ≤ 1048576) (h2 : l[i].f2.size ≤ 1048576) (hA : SmA l[i].f1) (h3 : Sm n l[i].f3)
    (s : List S52 → List ByteArray → Bool) (hs : decanterref21_Sound.f (q + 1) l[i].f3 (o ++ [l[i].f0]) = some (s (ofN n l[i].f3) (o ++ [l[i].f0]))) (R : Bool)
    (hR : ∀ k, q + 1 ≤ k → decanterref21_Sound.l0 k l o ((i + 1 : Nat) : Int) = some R) :
    decanterref21_Sound.l0 (q + 4) l o (i : Int) = some (nodeOk s (ofN (n + 1) l) o i && R) := by
  have hw1 := next_id hi hl
  have hprev := prev_id hi hl
  rw [show q + 4 = (q + 3) + 1 from rfl, decanterref21_Sound.l0, if_pos (lt_int hi), if_pos (ge_int i), hw1, hprev]
  unfold nodeOk
  rw [ofN_get hi, get82 l i hi]
  dsimp only
  rw [List.length_map, ofN_len h3]
  generalize hx : l[i] = x at h0 h2 hA h3 hs
  by_cases hn : x.f0.toList = []
  · have hnn : noName ⟨x.f0, x.f1.map ofA, x.f2, ofN n x.f3⟩ = true := by unfold noName; rw [beq_iff_eq]; exact hn
    rw [if_pos hn, if_pos hnn]
    unfold textOk
    by_cases ht : x.f2.toList = []
    · rw [if_pos ht, show (x.f2.toList == ([] : List UInt8)) = true from by rw [beq_iff_eq]; exact ht]
      rfl
    · rw [if_neg ht, show (x.f2.toList == ([] : List UInt8)) = false from by rw [beq_eq_false_iff_ne]; exact ht, whole_ref x.f2 h2 (q + 3) (Nat.le_trans (rounds_ok2 h2 hq) (Nat.le_add_right q 3))]
      simp only [Option.bind_some]
      cases wholeB x.f2 with
      | false => rfl
      | true =>
        rw [if_pos rfl]
        by_cases hc1 : x.f1.length = 0
        · rw [if_neg (len_no hc1), hc1, Nat.zero_add]
          by_cases hc3 : x.f3.length = 0
          · rw [if_neg (len_no hc3), decide_eq_true hc3]
            by_cases hi0 : 0 < i
            · rw [if_pos (pos_int hi0), if_pos (pred_ge hi0), if_pos (pred_lt hi), decide_eq_true hi0, pred_int hi0, ofN_get (Nat.lt_of_le_of_lt (Nat.sub_le i 1) hi), get82 l (i - 1) (Nat.lt_of_le_of_lt (Nat.sub_le i 1) hi)]
              generalize l[i - 1] = y
              by_cases hp : y.f0.toList = []
              · rw [if_pos hp, show noName ⟨y.f0, y.f1.map ofA, y.f2, ofN n y.f3⟩ = true from by unfold noName; rw [beq_iff_eq]; exact hp]
                rfl
              · rw [if_neg hp, show noName ⟨y.f0, y.f1.map ofA, y.f2, ofN n y.f3⟩ = false from by unfold noName; rw [beq_eq_false_iff_ne]; exact hp, hR _ (Nat.add_le_add_left (by decide) q)]
                rfl
            · rw [if_neg (npos_int hi0), decide_eq_false hi0, hR _ (Nat.add_le_add_left (by decide) q)]
              rfl
          · rw [if_pos (len_pos hc3), decide_eq_false hc3]
            rfl
        · rw [if_pos (len_pos hc1), decide_eq_false (show ¬ x.f1.length + x.f3.length = 0 from fun e => hc1 (Nat.eq_zero_of_add_eq_zero_right e))]
          rfl
  · have hnn : ¬ noName ⟨x.f0, x.f1.map ofA, x.f2, ofN n x.f3⟩ = true := by unfold noName; rw [beq_iff_eq]; exact hn
    rw [if_neg hn, if_neg hnn]
    unfold elemOk
    have hI9 : decanterref11_Is.f (q + 3) x.f0 9 = some (kB x.f0 9) := refIs_k x.f0 (le_low h0) 9 (by decide) (q + 3) (Nat.le_trans (rounds_ok h0 hq) (Nat.le_add_right q 3))
    have hI0 : decanterref11_Is.f (q + 2) x.f0 0 = some (kB x.f0 0) := refIs_k x.f0 (le_low h0) 0 (by decide) (q + 2) (Nat.le_trans (rounds_ok h0 hq) (Nat.le_add_right q 2))
    have hIn : decanterref21_In.f (q + 3) o x.f0 = some (inB o x.f0) := refIn o x.f0 1048576 q (fits_ou ho h0 q hq)
    have hAt : decanterref21_attrs.f (q + 3) x.f1 = some (attrsB (x.f1.map ofA)) := attrs_ref x.f1 hA (q + 3) (Nat.lt_of_lt_of_le (by decide) (Nat.le_trans hq (Nat.le_add_right q 3)))
    have hbad : decanterref21_Sound.j1 (q + 3) l o (i : Int) true x.f0 x.f1 x.f2 x.f3 = some false := by
      rw [decanterref21_Sound.j1, if_pos rfl]
    rw [hI9]
    simp only [Option.bind_some]
    cases kB x.f0 9 with
    | false =>
      rw [if_neg (by decide), hbad]
      rfl
    | true =>
      rw [if_pos rfl]
      by_cases ht : x.f2.toList = []
      · rw [if_pos ht, show (x.f2.toList == ([] : List UInt8)) = true from by rw [beq_iff_eq]; exact ht, hIn]
        simp only [Option.bind_some]
        cases inB o x.f0 with
        | false =>
          rw [if_neg (by decide), hbad]
          rfl
        | true =>
          rw [if_pos rfl, hAt]
          simp only [Option.bind_some]
          cases attrsB (x.f1.map ofA) with
          | false =>
            rw [Bool.not_false, hbad]
            rfl
          | true =>
            rw [Bool.not_true, decanterref21_Sound.j1, if_neg (by decide), hI0]
            simp only [Option.bind_some]
            have hgo : decanterref21_Sound.j2 (q + 2) l o (i : Int) false x.f0 x.f1 x.f2 x.f3 = some (s (ofN n x.f3) (o ++ [x.f0]) && R) := by
              have hroom : o.length + ([x.f0] : List ByteArray).length < 8796093022208 := room_ok ho
              have hroom0 : ([] : List ByteArray).length + o.length < 8796093022208 := by
                rw [List.length_nil, Nat.zero_add]
                exact Nat.lt_of_le_of_lt (Nat.le_add_right _ _) hroom
              rw [decanterref21_Sound.j2, if_neg (by decide)]
              simp only [Option.bind_some]
              rw [if_pos hroom0, List.nil_append, if_pos hroom, hs]
              simp only [Option.bind_some]
              cases s (ofN n x.f3) (o ++ [x.f0]) with
              | false => rfl
              | true => rw [if_pos rfl, hw1, hR _ (Nat.le_refl _)]; rfl
            have hno : decanterref21_Sound.j2 (q + 2) l o (i : Int) true x.f0 x.f1 x.f2 x.f3 = some false := by
              rw [decanterref21_Sound.j2, if_pos rfl]
            cases kB x.f0 0 with
            | false =>
              rw [if_neg (by decide), hgo]
              simp
            | true =>
              rw [if_pos rfl, len_dec]
              cases x.f3.length == 0 with
              | false => rw [Bool.not_false, hno]; simp
              | true => rw [Bool.not_true, hgo]; simp
      · rw [if_neg ht, hbad, show (x.f2.toList == ([] : List UInt8)) = false from by rw [beq_eq_false_iff_ne]; exact ht]
        rfl
/-- The document's Sound tells soundB. -/
theorem ref_is : ∀ (n : Nat) (l : List S82) (o : List ByteArray), Sm n l → Ou o n → ∃ K, ∀ k, K ≤ k → decanterref21_Sound.f k l o = some (soundB n (ofN n l) o)
  | 0, l, o, h, _ => ⟨10, fun k hk => by
      obtain ⟨k, rfl⟩ : ∃ q, k = q + 2 := ⟨k - 2, by omega⟩
      rw [show l = [] from h, show k + 2 = (k + 1) + 1 from rfl, decanterref21_Sound.f, decanterref21_Sound.l0, if_neg (by simp)]
      rfl⟩
  | n + 1, l, o, h, ho => by
    have loop : ∀ (d i : Nat), i + d = l.length → ∃ K, ∀ k, K ≤ k → decanterref21_Sound.l0 k l o (i : Int) = some ((List.range' i d).all (nodeOk (soundB n) (ofN (n + 1) l) o)) := by
      intro d
      induction d with
      | zero =>
        intro i hi
        refine ⟨1, fun k hk => ?_⟩
        obtain ⟨k, rfl⟩ : ∃ q, k = q + 1 := ⟨k - 1, by omega⟩
        rw [decanterref21_Sound.l0, if_neg (by omega)]
        rfl
      | succ d ih =>
        intro i hi
        have hil : i < l.length := by omega
        obtain ⟨K2, hK2⟩ := ih (i + 1) (by omega)
        obtain ⟨h0, h2, hA, h3⟩ := h.2 l[i] (List.getElem_mem hil)
        obtain ⟨K1, hK1⟩ := ref_is n l[i].f3 (o ++ [l[i].f0]) h3 (ho.snoc h0)
        refine ⟨K1 + K2 + 4000000 + 4, fun k hk => ?_⟩
        obtain ⟨q, rfl⟩ : ∃ q, k = q + 4 := ⟨k - 4, by omega⟩
        rw [List.range'_succ, List.all_cons]
        exact ref_step q l o n i hil h.1 ho (by omega) h0 h2 hA h3 (soundB n) (hK1 _ (by omega)) _ (fun k hk => hK2 k (by omega))
    obtain ⟨K, hK⟩ := loop l.length 0 (by omega)
    refine ⟨K + 1, fun k hk => ?_⟩
    obtain ⟨k, rfl⟩ : ∃ q, k = q + 1 := ⟨k - 1, by omega⟩
    rw [decanterref21_Sound.f, soundB, ofN, List.length_map, List.range_eq_range']
    exact hK k (by omega)
/-- The tree, turned. -/
theorem of_is : ∀ (n : Nat) (l : List S82), Sm n l → ∃ K, ∀ k, K ≤ k → decanterlaw12_Of.f k l = some (ofN n l)
  | 0, l, h => ⟨10, fun k hk => by
      obtain ⟨k, rfl⟩ : ∃ q, k = q + 2 := ⟨k - 2, by omega⟩
      rw [show l = [] from h, show k + 2 = (k + 1) + 1 from rfl, decanterlaw12_Of.f, decanterlaw12_Of.l0, if_neg (by simp)]
      rfl⟩
  | n + 1, l, h => by
    have hl := h.1
    have loop : ∀ (d i : Nat), i + d = l.length → ∃ K, ∀ k, K ≤ k → decanterlaw12_Of.l0 k (ofN (n + 1) (l.take i)) l (l.length : Int) (i : Int) = some (ofN (n + 1) l) := by
      intro d
      induction d with
      | zero =>
        intro i hi
        refine ⟨1, fun k hk => ?_⟩
        obtain ⟨k, rfl⟩ : ∃ q, k = q + 1 := ⟨k - 1, by omega⟩
        rw [decanterlaw12_Of.l0, if_neg (by omega), List.take_of_length_le (by omega)]
      | succ d ih =>
        intro i hi
        have hil : i < l.length := by omega
        obtain ⟨K2, hK2⟩ := ih (i + 1) (by omega)
        obtain ⟨h0, h2, hA, h3⟩ := h.2 l[i] (List.getElem_mem hil)
        obtain ⟨K1, hK1⟩ := of_is n l[i].f3 h3
        refine ⟨K1 + K2 + 2000000, fun k hk => ?_⟩
        obtain ⟨k, rfl⟩ : ∃ q, k = q + 1 := ⟨k - 1, by omega⟩
        have e : ofN (n + 1) (l.take i) ++ [(⟨l[i].f0, l[i].f1.map ofA, l[i].f2, ofN n l[i].f3⟩ : S52)] = ofN (n + 1) (l.take (i + 1)) := by
          rw [List.take_add_one, List.getElem?_eq_getElem hil, ofN, ofN, List.map_append]
          rfl
        have hlen : (ofN (n + 1) (l.take i)).length < 1759218604441 := by
          rw [ofN, List.length_map, List.length_take]
          omega
        have hA1 := hA.1
        rw [decanterlaw12_Of.l0, if_pos (lt_int hil), if_pos (ge_int i), if_pos (lt_int hil), get82 l i hil, of06 l[i].f1 hA1 k (by omega)]
        simp only [Option.bind_some]
        rw [hK1 k (by omega)]
        simp only [Option.bind_some]
        rw [if_pos hlen, e, next_id hil hl]
        exact hK2 k (by omega)
    obtain ⟨K, hK⟩ := loop l.length 0 (by omega)
    refine ⟨K + 1, fun k hk => ?_⟩
    obtain ⟨k, rfl⟩ : ∃ q, k = q + 1 := ⟨k - 1, by omega⟩
    rw [decanterlaw12_Of.f]
    exact hK k (by omega)
/-- How many, how deep: it is told. -/
theorem many_is : ∀ (n : Nat) (l : List S82), Sm n l → ∃ K v, ∀ k, K ≤ k → decanterref12_Many.f k l = some v
  | 0, l, h => ⟨10, 0, fun k hk => by
      obtain ⟨k, rfl⟩ : ∃ q, k = q + 2 := ⟨k - 2, by omega⟩
      rw [show l = [] from h, show k + 2 = (k + 1) + 1 from rfl, decanterref12_Many.f, decanterref12_Many.l0, if_neg (by simp)]
      rfl⟩
  | n + 1, l, h => by
    have hl := h.1
    have loop : ∀ (d i : Nat) (x : Int), i + d = l.length → ∃ K v, ∀ k, K ≤ k → decanterref12_Many.l0 k l x (i : Int) = some v := by
      intro d
      induction d with
      | zero =>
        intro i x hi
        refine ⟨1, x, fun k hk => ?_⟩
        obtain ⟨k, rfl⟩ : ∃ q, k = q + 1 := ⟨k - 1, by omega⟩
        rw [decanterref12_Many.l0, if_neg (by omega)]
      | succ d ih =>
        intro i x hi
        have hil : i < l.length := by omega
        obtain ⟨_, _, _, h3⟩ := h.2 l[i] (List.getElem_mem hil)
        obtain ⟨K1, v1, hK1⟩ := many_is n l[i].f3 h3
        obtain ⟨K2, v2, hK2⟩ := ih (i + 1) (wrap64 (x + v1)) (by omega)
        refine ⟨K1 + K2 + 1, v2, fun k hk => ?_⟩
        obtain ⟨k, rfl⟩ : ∃ q, k = q + 1 := ⟨k - 1, by omega⟩
        rw [decanterref12_Many.l0, if_pos (lt_int hil), if_pos (ge_int i), get82 l i hil, hK1 k (by omega)]
        simp only [Option.bind_some]
        rw [next_id hil hl]
        exact hK2 k (by omega)
    obtain ⟨K, v, hK⟩ := loop l.length 0 (l.length : Int) (by omega)
    refine ⟨K + 1, v, fun k hk => ?_⟩
    obtain ⟨k, rfl⟩ : ∃ q, k = q + 1 := ⟨k - 1, by omega⟩
    rw [decanterref12_Many.f]
    exact hK k (by omega)
theorem deep_is : ∀ (n : Nat) (l : List S82), Sm n l → ∃ K v, ∀ k, K ≤ k → decanterref12_Deep.f k l = some v
  | 0, l, h => ⟨10, 0, fun k hk => by
      obtain ⟨k, rfl⟩ : ∃ q, k = q + 2 := ⟨k - 2, by omega⟩
      rw [show l = [] from h, show k + 2 = (k + 1) + 1 from rfl, decanterref12_Deep.f, decanterref12_Deep.l0, if_neg (by simp)]⟩
  | n + 1, l, h => by
    have hl := h.1
    have loop : ∀ (d i : Nat) (x : Int), i + d = l.length → ∃ K v, ∀ k, K ≤ k → decanterref12_Deep.l0 k l x (i : Int) = some v := by
      intro d
      induction d with
      | zero =>
        intro i x hi
        refine ⟨1, x, fun k hk => ?_⟩
        obtain ⟨k, rfl⟩ : ∃ q, k = q + 1 := ⟨k - 1, by omega⟩
        rw [decanterref12_Deep.l0, if_neg (by omega)]
      | succ d ih =>
        intro i x hi
        have hil : i < l.length := by omega
        obtain ⟨_, _, _, h3⟩ := h.2 l[i] (List.getElem_mem hil)
        obtain ⟨K1, v1, hK1⟩ := deep_is n l[i].f3 h3
        obtain ⟨K2, v2, hK2⟩ := ih (i + 1) (if wrap64 (v1 + 1) > x then wrap64 (v1 + 1) else x) (by omega)
        refine ⟨K1 + K2 + 1, v2, fun k hk => ?_⟩
        obtain ⟨k, rfl⟩ : ∃ q, k = q + 1 := ⟨k - 1, by omega⟩
        rw [decanterref12_Deep.l0, if_pos (lt_int hil), if_pos (ge_int i), get82 l i hil, hK1 k (by omega)]
        simp only [Option.bind_some]
        rw [next_id hil hl]
        have := hK2 k (by omega)
        by_cases hc : wrap64 (v1 + 1) > x
        · rw [if_pos hc] at this ⊢
          exact this
        · rw [if_neg hc] at this ⊢
          exact this
    obtain ⟨K, v, hK⟩ := loop l.length 0 0 (by omega)
    refine ⟨K + 1, v, fun k hk => ?_⟩
    obtain ⟨k, rfl⟩ : ∃ q, k = q + 1 := ⟨k - 1, by omega⟩
    rw [decanterref12_Deep.f]
    exact hK k (by omega)
theorem few_is (n : Nat) (l : List S82) (h : Sm n l) : ∃ K v, ∀ k, K ≤ k → decanterlaw21_few.f k l = some v := by
  obtain ⟨K1, v1, h1⟩ := many_is n l h
  obtain ⟨K2, v2, h2⟩ := deep_is n l h
  refine ⟨K1 + K2, if v1 ≤ 80 then decide (v2 ≤ 30) else false, fun k hk => ?_⟩
  unfold decanterlaw21_few.f
  rw [h1 k (by omega)]
  simp only [Option.bind_some]
  by_cases hc : v1 ≤ 80
  · rw [if_pos hc, if_pos hc, h2 k (by omega)]
    rfl
  · rw [if_neg hc, if_neg hc]
theorem ou_nil {n : Nat} (hn : n ≤ 2000000) : Ou [] n := ⟨(fun _ h => by cases h), (by rw [List.length_nil]; omega)⟩
theorem prog_is (n : Nat) (hn : n ≤ 2000000) (l : List S52) (h : Sp n l) : ∃ K, ∀ k, K ≤ k → fit_Sound.f k l = some (soundB n l []) := by
  obtain ⟨K, hK⟩ := sound_is n l [] h (ou_nil hn)
  refine ⟨K, fun k hk => ?_⟩
  unfold fit_Sound.f
  rw [hK k hk]
  rfl
end Go.Proofs.YteahlapoeiikoaaDoor.Pure
