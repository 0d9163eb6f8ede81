/- Several texts, one behind the other. -/
import Derived.Test.YteahlapoeiikoaaDoorHWhole
import Derived.Test.YteahlapoeiikoaaDoorJoin11
import Derived.Test.YteahlapoeiikoaaDoorHAttrs
import Derived.Test.YteahlapoeiikoaaDoorJoin12
import Derived.Test.YteahlapoeiikoaaDoorKindsC
import Derived.Test.YteahlapoeiikoaaDoorNested

/-
  The document's Whole is fit.whole, about plain functions. No condition but the text's length.
-/

namespace Go.Proofs.YteahlapoeiikoaaDoor.Pure
open P Go.RowKit Go.Proofs.YteahlapoeiikoaaDoorW.PrintWords Go.Proofs.YteahlapoeiikoaaDoorW.PrintLast
set_option linter.unusedSimpArgs false
set_option linter.unusedVariables false

/-- Does a byte go on? -/
def contB (b : List Int) (y : Int) : Bool := decide (y < (b.length : Int)) && (decide (128 ≤ rd b y) && decide (rd b y < 192))
theorem more_is (b : List Int) (y : Int) (h0 : 0 ≤ y) : decanterref02_more.f b y = some (contB b y) := by
  unfold decanterref02_more.f contB
  by_cases h1 : y < (b.length : Int)
  · rw [if_pos h1, if_pos h0, decide_eq_true h1, Bool.true_and]
    by_cases h2 : rd b y ≥ 128
    · rw [if_pos h2, decide_eq_true (show 128 ≤ rd b y from h2), Bool.true_and]
    · rw [if_neg h2, decide_eq_false (show ¬ 128 ≤ rd b y from h2), Bool.false_and]
  · rw [if_neg h1, decide_eq_false h1, Bool.false_and]
/-- What is told at the end of the bytes. -/
def utfEnd (many least n : Int) : Int × Int := if n < least ∨ n > 1114111 ∨ (n ≥ 55296 ∧ n < 57344) then (0, 0) else (n, many + 1)
theorem l0_stop (k : Nat) (b : List Int) (x many least n i : Int) (h : ¬ i ≤ many) (hm : 0 ≤ many ∧ many ≤ 10) : decanterref02_utf.l0 (k + 1) b x many least n i = some (utfEnd many least n) := by
  simp only [decanterref02_utf.l0]
  rw [if_neg h]
  unfold utfEnd
  have hw : wrap64 (many + 1) = many + 1 := wrap_id (by omega) (by omega)
  rw [hw]
  by_cases h1 : n < least
  · rw [if_pos h1, if_pos (.inl h1)]
  · rw [if_neg h1]
    by_cases h2 : n > 1114111
    · rw [if_pos h2, if_pos (.inr (.inl h2))]
    · rw [if_neg h2]
      by_cases h3 : n ≥ 55296
      · rw [if_pos h3]
        by_cases h4 : n < 57344
        · rw [if_pos h4, if_pos (.inr (.inr ⟨h3, h4⟩))]
        · rw [if_neg h4, if_neg (by omega)]
      · rw [if_neg h3, if_neg (by omega)]
theorem l0_go (k : Nat) (b : List Int) (x many least n i : Int) (h : i ≤ many) (hx : 0 ≤ x ∧ x ≤ 4611686018427387000) (hi : 0 ≤ i ∧ i ≤ 10) (hn : 0 ≤ n ∧ n ≤ 10000000) :
    decanterref02_utf.l0 (k + 1) b x many least n i = if contB b (x + i) = true then decanterref02_utf.l0 k b x many least (n * 64 + rd b (x + i) - 128) (i + 1) else some (0, 0) := by
  simp only [decanterref02_utf.l0]
  have hw : wrap64 (x + i) = x + i := wrap_id (by omega) (by omega)
  rw [if_pos h, hw, more_is b _ (by omega)]
  simp only [Option.bind_some]
  by_cases hc : contB b (x + i) = true
  · rw [if_pos hc, if_pos hc, if_pos (by omega)]
    unfold contB at hc
    simp only [Bool.and_eq_true, decide_eq_true_eq] at hc
    rw [if_pos hc.1]
    have e1 : wrap64 (rd b (x + i)) = rd b (x + i) := wrap_id (by omega) (by omega)
    have e2 : wrap64 (n * 64) = n * 64 := wrap_id (by omega) (by omega)
    have e3 : wrap64 (n * 64 + rd b (x + i)) = n * 64 + rd b (x + i) := wrap_id (by omega) (by omega)
    have e4 : wrap64 (n * 64 + rd b (x + i) - 128) = n * 64 + rd b (x + i) - 128 := wrap_id (by omega) (by omega)
    have e5 : wrap64 (i + 1) = i + 1 := wrap_id (by omega) (by omega)
    rw [e1, e2, e3, e4, e5]
  · rw [if_neg hc, if_neg hc]
/-- The character at a byte, of its bytes. -/
def utfB (b : List Int) (x : Int) : Int × Int :=
  let c := rd b x
  if c < 128 then (c, 1)
  else if 194 ≤ c ∧ c < 224 then (if contB b (x + 1) = true then utfEnd 1 128 ((c - 192) * 64 + rd b (x + 1) - 128) else (0, 0))
  else if 224 ≤ c ∧ c < 240 then (if contB b (x + 1) = true then (if contB b (x + 2) = true then utfEnd 2 2048 (((c - 224) * 64 + rd b (x + 1) - 128) * 64 + rd b (x + 2) - 128) else (0, 0)) else (0, 0))
  else if 240 ≤ c ∧ c < 245 then (if contB b (x + 1) = true then (if contB b (x + 2) = true then (if contB b (x + 3) = true then utfEnd 3 65536 ((((c - 240) * 64 + rd b (x + 1) - 128) * 64 + rd b (x + 2) - 128) * 64 + rd b (x + 3) - 128) else (0, 0)) else (0, 0)) else (0, 0))
  else (0, 0)
theorem cont_val {b : List Int} {y : Int} (h : contB b y = true) : 128 ≤ rd b y ∧ rd b y < 192 := by
  unfold contB at h
  simp only [Bool.and_eq_true, decide_eq_true_eq] at h
  exact h.2
theorem utf_is (b : List Int) (x : Int) (h0 : 0 ≤ x) (h1 : x < (b.length : Int)) (hx : x ≤ 4611686018427387000) (hb : 0 ≤ rd b x ∧ rd b x ≤ 255) (k : Nat) : decanterref02_utf.f (k + 20) b x = some (utfB b x) := by
  unfold decanterref02_utf.f utfB
  have ew : wrap64 (rd b x) = rd b x := wrap_id (by omega) (by omega)
  rw [if_pos h0, if_pos h1, ew]
  dsimp only
  generalize hc : rd b x = c at hb
  by_cases c1 : c < 128
  · rw [if_pos c1, if_pos c1]
  · rw [if_neg c1, if_neg c1]
    by_cases c2 : 194 ≤ c ∧ c < 224
    · rw [if_pos (show c ≥ 194 from c2.1), if_pos c2, decide_eq_true c2.2]
      simp only [decanterref02_utf.j0, decanterref02_utf.j2, if_true]
      have e : wrap64 (c - 192) = c - 192 := wrap_id (by omega) (by omega)
      rw [e, l0_go _ b x 1 128 _ 1 (by decide) ⟨h0, hx⟩ (by decide) (by omega)]
      by_cases d1 : contB b (x + 1) = true
      · have v1 := cont_val d1
        rw [if_pos d1, if_pos d1, l0_stop _ b x 1 128 _ _ (by decide) (by decide)]
      · rw [if_neg d1, if_neg d1]
    · have ej : (if c ≥ 194 then decanterref02_utf.j0 (k + 20) b x c (decide (c < 224)) else decanterref02_utf.j0 (k + 20) b x c false) = decanterref02_utf.j0 (k + 20) b x c false := by
        by_cases c3 : c ≥ 194
        · rw [if_pos c3, decide_eq_false (by omega)]
        · rw [if_neg c3]
      rw [ej, if_neg c2]
      simp only [decanterref02_utf.j0, Bool.false_eq_true, if_false]
      by_cases c3 : 224 ≤ c ∧ c < 240
      · rw [if_pos (show c ≥ 224 from c3.1), if_pos c3, decide_eq_true c3.2]
        simp only [decanterref02_utf.j1, decanterref02_utf.j2, if_true]
        have e : wrap64 (c - 224) = c - 224 := wrap_id (by omega) (by omega)
        rw [e, l0_go _ b x 2 2048 _ 1 (by decide) ⟨h0, hx⟩ (by decide) (by omega)]
        by_cases d1 : contB b (x + 1) = true
        · have v1 := cont_val d1
          rw [if_pos d1, if_pos d1, l0_go _ b x 2 2048 _ _ (by decide) ⟨h0, hx⟩ (by decide) (by omega)]
          show (if contB b (x + 2) = true then _ else _) = _
          by_cases d2 : contB b (x + 2) = true
          · have v2 := cont_val d2
            rw [if_pos d2, if_pos d2, l0_stop _ b x 2 2048 _ _ (by decide) (by decide)]
            rfl
          · rw [if_neg d2, if_neg d2]
        · rw [if_neg d1, if_neg d1]
      · have ej2 : (if c ≥ 224 then decanterref02_utf.j1 (k + 19) b x c (decide (c < 240)) else decanterref02_utf.j1 (k + 19) b x c false) = decanterref02_utf.j1 (k + 19) b x c false := by
          by_cases c4 : c ≥ 224
          · rw [if_pos c4, decide_eq_false (by omega)]
          · rw [if_neg c4]
        rw [ej2, if_neg c3]
        simp only [decanterref02_utf.j1, Bool.false_eq_true, if_false]
        by_cases c4 : 240 ≤ c ∧ c < 245
        · rw [if_pos (show c ≥ 240 from c4.1), if_pos c4.2, if_pos c4]
          simp only [decanterref02_utf.j2]
          have e : wrap64 (c - 240) = c - 240 := wrap_id (by omega) (by omega)
          rw [e, l0_go _ b x 3 65536 _ 1 (by decide) ⟨h0, hx⟩ (by decide) (by omega)]
          by_cases d1 : contB b (x + 1) = true
          · have v1 := cont_val d1
            rw [if_pos d1, if_pos d1, l0_go _ b x 3 65536 _ _ (by decide) ⟨h0, hx⟩ (by decide) (by omega)]
            show (if contB b (x + 2) = true then _ else _) = _
            by_cases d2 : contB b (x + 2) = true
            · have v2 := cont_val d2
              rw [if_pos d2, if_pos d2]
              show decanterref02_utf.l0 _ b x 3 65536 (((c - 240) * 64 + rd b (x + 1) - 128) * 64 + rd b (x + 2) - 128) 3 = _
              rw [l0_go _ b x 3 65536 _ _ (by decide) ⟨h0, hx⟩ (by decide) (by omega)]
              by_cases d3 : contB b (x + 3) = true
              · rw [if_pos d3, if_pos d3, l0_stop _ b x 3 65536 _ _ (by decide) (by decide)]
              · rw [if_neg d3, if_neg d3]
            · rw [if_neg d2, if_neg d2]
          · rw [if_neg d1, if_neg d1]
        · rw [if_neg c4]
          by_cases c5 : c ≥ 240
          · rw [if_pos c5, if_neg (by omega)]
          · rw [if_neg c5]
/-- The bytes from a place on, as the model's decoder reads them. -/
def tailB (s : ByteArray) (i : Nat) : ByteArray := ⟨(s.data.toList.drop i).toArray⟩
theorem tail_size (s : ByteArray) (i : Nat) : (tailB s i).size = s.size - i := by
  unfold tailB
  rw [Lib.size_eq, Lib.size_eq]
  simp
theorem tail_get (s : ByteArray) (i k : Nat) (h : i + k < s.size) : (((tailB s i).get! (0 + k)).toNat : Int) = rd (bytesOf s) ((i : Int) + (k : Int)) := by
  have hl : i + k < s.data.toList.length := by rw [← Lib.size_eq]; exact h
  have hd : (s.data.toList.drop i)[k]? = some s.data.toList[i + k] := by
    rw [List.getElem?_drop, List.getElem?_eq_getElem hl]
  have e1 : (tailB s i).get! (0 + k) = s.data.toList[i + k] := by
    rw [Nat.zero_add]
    show (s.data.toList.drop i).toArray[k]! = _
    rw [getElem!_def, List.getElem?_toArray, hd]
  rw [e1]
  unfold rd bytesOf
  have e2 : ((i : Int) + (k : Int)).toNat = i + k := by omega
  rw [e2, List.getD_eq_getElem?_getD, List.getElem?_map, List.getElem?_eq_getElem hl]
  rfl
theorem cont_is (s : ByteArray) (i k : Nat) : contB (bytesOf s) ((i : Int) + (k : Int)) = (decide (0 + k < (tailB s i).size) && (((tailB s i).get! (0 + k)).toNat / 64 == 2)) := by
  unfold contB
  rw [bytesOf_length, tail_size]
  by_cases h : i + k < s.size
  · rw [← tail_get s i k h, decide_eq_true (show (i : Int) + (k : Int) < (s.size : Int) by omega), decide_eq_true (show 0 + k < s.size - i by omega), Bool.true_and, Bool.true_and]
    generalize ((tailB s i).get! (0 + k)).toNat = v
    rw [Bool.eq_iff_iff]
    simp only [Bool.and_eq_true, decide_eq_true_eq, beq_iff_eq]
    omega
  · rw [decide_eq_false (show ¬ ((i : Int) + (k : Int) < (s.size : Int)) by omega), decide_eq_false (show ¬ (0 + k < s.size - i) by omega), Bool.false_and, Bool.false_and]
/-- The model's decoder, by the document's. -/
def decB (b : List Int) (x : Int) : Int × Int := if rd b x < 128 then (rd b x, 1) else if (utfB b x).2 = 0 then (65533, 1) else utfB b x
/-- A number that is a character. -/
def okU (n : Nat) : Bool := Utf8.valid (n : Int)
theorem okU_iff (n : Nat) : okU n = true ↔ ¬ (n > 1114111 ∨ (n ≥ 55296 ∧ n < 57344)) := by
  unfold okU Utf8.valid
  simp only [Bool.or_eq_true, Bool.and_eq_true, decide_eq_true_eq]
  omega
/-- The model's decoder, of numbers. -/
def decV (v0 v1 v2 v3 : Nat) (C1 C2 C3 : Bool) : Nat × Nat :=
  if v0 < 128 then (v0, 1)
  else if v0 / 32 == 6 && C1 then (if v0 % 32 * 64 + v1 % 64 ≥ 128 then (v0 % 32 * 64 + v1 % 64, 2) else (65533, 1))
  else if v0 / 16 == 14 && C1 && C2 then (if v0 % 16 * 4096 + v1 % 64 * 64 + v2 % 64 ≥ 2048 && okU (v0 % 16 * 4096 + v1 % 64 * 64 + v2 % 64) then (v0 % 16 * 4096 + v1 % 64 * 64 + v2 % 64, 3) else (65533, 1))
  else if v0 / 8 == 30 && C1 && C2 && C3 then (if v0 % 8 * 262144 + v1 % 64 * 4096 + v2 % 64 * 64 + v3 % 64 ≥ 65536 && okU (v0 % 8 * 262144 + v1 % 64 * 4096 + v2 % 64 * 64 + v3 % 64) then (v0 % 8 * 262144 + v1 % 64 * 4096 + v2 % 64 * 64 + v3 % 64, 4) else (65533, 1))
  else (65533, 1)
theorem dec_form (T : ByteArray) (v : Nat → Nat) (hv : ∀ k, (T.get! (0 + k)).toNat = v k) (C : Nat → Bool) (hC : ∀ k, (decide (0 + k < T.size) && (v k / 64 == 2)) = C k) :
    Utf8.decode T 0 = decV (v 0) (v 1) (v 2) (v 3) (C 1) (C 2) (C 3) := by
  simp only [Utf8.decode, hv, hC, Utf8.runeError, decV, okU]
  rfl
/-- The document's, of numbers. -/
def decR (c r1 r2 r3 : Int) (C1 C2 C3 : Bool) : Int × Int :=
  if c < 128 then (c, 1)
  else if 194 ≤ c ∧ c < 224 then (if C1 = true then utfEnd 1 128 ((c - 192) * 64 + r1 - 128) else (0, 0))
  else if 224 ≤ c ∧ c < 240 then (if C1 = true then (if C2 = true then utfEnd 2 2048 (((c - 224) * 64 + r1 - 128) * 64 + r2 - 128) else (0, 0)) else (0, 0))
  else if 240 ≤ c ∧ c < 245 then (if C1 = true then (if C2 = true then (if C3 = true then utfEnd 3 65536 ((((c - 240) * 64 + r1 - 128) * 64 + r2 - 128) * 64 + r3 - 128) else (0, 0)) else (0, 0)) else (0, 0))
  else (0, 0)
theorem dec_core (v0 v1 v2 v3 : Nat) (r1 r2 r3 : Int) (C1 C2 C3 : Bool) (hv : v0 < 256) (h1 : C1 = true → r1 = v1 ∧ 128 ≤ v1 ∧ v1 < 192) (h2 : C2 = true → r2 = v2 ∧ 128 ≤ v2 ∧ v2 < 192) (h3 : C3 = true → r3 = v3 ∧ 128 ≤ v3 ∧ v3 < 192) :
    (if (v0 : Int) < 128 then ((v0 : Int), (1 : Int)) else if (decR v0 r1 r2 r3 C1 C2 C3).2 = 0 then (65533, 1) else decR v0 r1 r2 r3 C1 C2 C3) = (((decV v0 v1 v2 v3 C1 C2 C3).1 : Int), ((decV v0 v1 v2 v3 C1 C2 C3).2 : Int)) := by
  by_cases a0 : v0 < 128
  · rw [if_pos (by omega)]
    unfold decV
    rw [if_pos a0]
    rfl
  · rw [if_neg (by omega)]
    unfold decV decR
    rw [if_neg (show ¬ (v0 : Int) < 128 by omega), if_neg a0]
    by_cases a1 : 194 ≤ v0 ∧ v0 < 224
    · rw [if_pos (show 194 ≤ (v0 : Int) ∧ (v0 : Int) < 224 by omega)]
      have e6 : (v0 / 32 == 6) = true := by rw [beq_iff_eq]; omega
      cases hC1 : C1 with
      | false =>
        have e14 : (v0 / 16 == 14) = false := by rw [beq_eq_false_iff_ne]; omega
        have e30 : (v0 / 8 == 30) = false := by rw [beq_eq_false_iff_ne]; omega
        simp [e6, e14, e30]
      | true =>
        obtain ⟨rfl, l1, u1⟩ := h1 hC1
        have en : ((v0 : Int) - 192) * 64 + v1 - 128 = ((v0 % 32 * 64 + v1 % 64 : Nat) : Int) := by omega
        rw [e6, en]
        simp only [Bool.true_and, if_true]
        have hge : v0 % 32 * 64 + v1 % 64 ≥ 128 := by omega
        have hle : v0 % 32 * 64 + v1 % 64 < 2048 := by omega
        generalize v0 % 32 * 64 + v1 % 64 = n at hge hle
        have hE : utfEnd 1 128 (n : Int) = ((n : Int), 2) := by
          unfold utfEnd
          rw [if_neg (by omega)]
          rfl
        rw [hE, if_pos hge, if_neg (by simp)]
        rfl
    · rw [if_neg (show ¬ (194 ≤ (v0 : Int) ∧ (v0 : Int) < 224) by omega)]
      by_cases a2 : 224 ≤ v0 ∧ v0 < 240
      · rw [if_pos (show 224 ≤ (v0 : Int) ∧ (v0 : Int) < 240 by omega)]
        have e6 : (v0 / 32 == 6) = false := by rw [beq_eq_false_iff_ne]; omega
        have e14 : (v0 / 16 == 14) = true := by rw [beq_iff_eq]; omega
        have e30 : (v0 / 8 == 30) = false := by rw [beq_eq_false_iff_ne]; omega
        cases hC1 : C1 with
        | false => simp [e6, e14, e30]
        | true =>
        cases hC2 : C2 with
        | false => simp [e6, e14, e30]
        | true =>
          obtain ⟨rfl, l1, u1⟩ := h1 hC1
          obtain ⟨rfl, l2, u2⟩ := h2 hC2
          have en : (((v0 : Int) - 224) * 64 + v1 - 128) * 64 + v2 - 128 = ((v0 % 16 * 4096 + v1 % 64 * 64 + v2 % 64 : Nat) : Int) := by omega
          rw [e6, e14, en]
          simp only [Bool.true_and, Bool.false_and, if_true, Bool.false_eq_true, if_false]
          generalize v0 % 16 * 4096 + v1 % 64 * 64 + v2 % 64 = n
          by_cases hk : n ≥ 2048 ∧ okU n = true
          · have hk2 := (okU_iff n).1 hk.2
            have hE : utfEnd 2 2048 (n : Int) = ((n : Int), 3) := by
              unfold utfEnd
              rw [if_neg (by omega)]
              rfl
            rw [hE, if_neg (by simp), hk.2, decide_eq_true hk.1]
            rfl
          · have hE : utfEnd 2 2048 (n : Int) = (0, 0) := by
              unfold utfEnd
              rw [if_pos]
              rw [okU_iff] at hk
              omega
            have hk' : (decide (n ≥ 2048) && okU n) = false := by
              rw [Bool.and_eq_false_iff, decide_eq_false_iff_not]
              by_cases hx : n ≥ 2048
              · right; simpa using fun e => hk ⟨hx, e⟩
              · exact .inl hx
            rw [hE, hk', if_pos rfl]
            rfl
      · rw [if_neg (show ¬ (224 ≤ (v0 : Int) ∧ (v0 : Int) < 240) by omega)]
        have e14 : (v0 / 16 == 14) = false := by rw [beq_eq_false_iff_ne]; omega
        by_cases a3 : 240 ≤ v0 ∧ v0 < 245
        · rw [if_pos (show 240 ≤ (v0 : Int) ∧ (v0 : Int) < 245 by omega)]
          have e6 : (v0 / 32 == 6) = false := by rw [beq_eq_false_iff_ne]; omega
          have e30 : (v0 / 8 == 30) = true := by rw [beq_iff_eq]; omega
          cases hC1 : C1 with
          | false => simp [e6, e14, e30]
          | true =>
          cases hC2 : C2 with
          | false => simp [e6, e14, e30]
          | true =>
          cases hC3 : C3 with
          | false => simp [e6, e14, e30]
          | true =>
            obtain ⟨rfl, l1, u1⟩ := h1 hC1
            obtain ⟨rfl, l2, u2⟩ := h2 hC2
            obtain ⟨rfl, l3, u3⟩ := h3 hC3
            have en : ((((v0 : Int) - 240) * 64 + v1 - 128) * 64 + v2 - 128) * 64 + v3 - 128 = ((v0 % 8 * 262144 + v1 % 64 * 4096 + v2 % 64 * 64 + v3 % 64 : Nat) : Int) := by omega
            rw [e6, e14, e30, en]
            simp only [Bool.true_and, Bool.false_and, if_true, Bool.false_eq_true, if_false]
            generalize v0 % 8 * 262144 + v1 % 64 * 4096 + v2 % 64 * 64 + v3 % 64 = n
            by_cases hk : n ≥ 65536 ∧ okU n = true
            · have hk2 := (okU_iff n).1 hk.2
              have hE : utfEnd 3 65536 (n : Int) = ((n : Int), 4) := by
                unfold utfEnd
                rw [if_neg (by omega)]
                rfl
              rw [hE, if_neg (by simp), hk.2, decide_eq_true hk.1]
              rfl
            · have hE : utfEnd 3 65536 (n : Int) = (0, 0) := by
                unfold utfEnd
                rw [if_pos]
                rw [okU_iff] at hk
                omega
              have hk' : (decide (n ≥ 65536) && okU n) = false := by
                rw [Bool.and_eq_false_iff, decide_eq_false_iff_not]
                by_cases hx : n ≥ 65536
                · right; simpa using fun e => hk ⟨hx, e⟩
                · exact .inl hx
              rw [hE, hk', if_pos rfl]
              rfl
        · rw [if_neg (show ¬ (240 ≤ (v0 : Int) ∧ (v0 : Int) < 245) by omega), if_pos rfl]
          by_cases b6 : v0 / 32 = 6 ∧ C1 = true
          · obtain ⟨_, l1, u1⟩ := h1 b6.2
            rw [b6.2, show (v0 / 32 == 6) = true from by rw [beq_iff_eq]; exact b6.1]
            simp only [Bool.true_and, if_true]
            rw [if_neg (by omega)]
            rfl
          · have e6 : (v0 / 32 == 6 && C1) = false := by
              rw [Bool.and_eq_false_iff, beq_eq_false_iff_ne]
              by_cases hx : v0 / 32 = 6
              · right; simpa using fun e => b6 ⟨hx, e⟩
              · exact .inl hx
            rw [e6, e14]
            simp only [Bool.false_and, Bool.false_eq_true, if_false]
            by_cases b30 : (v0 / 8 == 30 && C1 && C2 && C3) = true
            · rw [if_pos b30]
              simp only [Bool.and_eq_true, beq_iff_eq] at b30
              have hno : okU (v0 % 8 * 262144 + v1 % 64 * 4096 + v2 % 64 * 64 + v3 % 64) = false := by
                rw [← Bool.not_eq_true, okU_iff]
                omega
              rw [hno, Bool.and_false]
              rfl
            · rw [if_neg b30]
              rfl
theorem dec_is (s : ByteArray) (i : Nat) (hi : i < s.size) : decB (bytesOf s) i = (((Lib.decodeL (s.data.toList.drop i)).1 : Int), ((Lib.decodeL (s.data.toList.drop i)).2 : Int)) := by
  have hD : Lib.decodeL (s.data.toList.drop i) = Utf8.decode (tailB s i) 0 := rfl
  rw [hD, dec_form (tailB s i) (fun k => ((tailB s i).get! (0 + k)).toNat) (fun _ => rfl) (fun k => contB (bytesOf s) ((i : Int) + (k : Int))) (fun k => (cont_is s i k).symm)]
  have hb : (((tailB s i).get! (0 + 0)).toNat : Int) = rd (bytesOf s) i := by
    have := tail_get s i 0 (by omega)
    simpa using this
  have hc : ∀ k : Nat, contB (bytesOf s) ((i : Int) + (k : Int)) = true → rd (bytesOf s) ((i : Int) + (k : Int)) = (((tailB s i).get! (0 + k)).toNat : Int) ∧ 128 ≤ ((tailB s i).get! (0 + k)).toNat ∧ ((tailB s i).get! (0 + k)).toNat < 192 := by
    intro k hk
    have hk2 := hk
    rw [cont_is, Bool.and_eq_true, decide_eq_true_eq, tail_size, beq_iff_eq] at hk2
    exact ⟨(tail_get s i k (by omega)).symm, by omega, by omega⟩
  have := dec_core (((tailB s i).get! (0 + 0)).toNat) (((tailB s i).get! (0 + 1)).toNat) (((tailB s i).get! (0 + 2)).toNat) (((tailB s i).get! (0 + 3)).toNat)
    (rd (bytesOf s) ((i : Int) + 1)) (rd (bytesOf s) ((i : Int) + 2)) (rd (bytesOf s) ((i : Int) + 3)) (contB (bytesOf s) ((i : Int) + 1)) (contB (bytesOf s) ((i : Int) + 2)) (contB (bytesOf s) ((i : Int) + 3)) (UInt8.toNat_lt _) (hc 1) (hc 2) (hc 3)
  rw [hb] at this
  exact this

/-! Whole. -/
theorem rd_range (s : ByteArray) (x : Int) : 0 ≤ rd (bytesOf s) x ∧ rd (bytesOf s) x ≤ 255 := by
  rw [rd_bytesOf]
  exact bt_range s x
theorem rd_head (s : ByteArray) (i : Nat) (hi : i < s.size) : ∃ c r, s.data.toList.drop i = c :: r ∧ rd (bytesOf s) (i : Int) = (c.toNat : Int) := by
  have hl : i < s.data.toList.length := by rw [← Lib.size_eq]; exact hi
  refine ⟨s.data.toList[i], s.data.toList.drop (i + 1), List.drop_eq_getElem_cons hl, ?_⟩
  rw [rd_bytesOf, bt_get s i hi]
theorem utfEnd_two (many least n : Int) (hm : 0 ≤ many) : (utfEnd many least n).2 = 0 ∨ (utfEnd many least n = (n, many + 1) ∧ least ≤ n) := by
  unfold utfEnd
  by_cases h : n < least ∨ n > 1114111 ∨ (n ≥ 55296 ∧ n < 57344)
  · rw [if_pos h]; exact .inl rfl
  · rw [if_neg h]; exact .inr ⟨rfl, by omega⟩
/-- A character of more bytes than one: it is none, or its bytes go on, and it isn't nought. -/
theorem utfB_high (b : List Int) (x : Int) (h : ¬ rd b x < 128) : (utfB b x).2 = 0 ∨ ∃ m : Nat, (utfB b x).2 = (m : Int) ∧ 2 ≤ m ∧ m ≤ 4 ∧ 128 ≤ (utfB b x).1 ∧ ∀ j : Nat, 1 ≤ j → j < m → contB b (x + (j : Int)) = true := by
  unfold utfB
  dsimp only
  rw [if_neg h]
  by_cases a1 : 194 ≤ rd b x ∧ rd b x < 224
  · rw [if_pos a1]
    by_cases d1 : contB b (x + 1) = true
    · rw [if_pos d1]
      rcases utfEnd_two 1 128 ((rd b x - 192) * 64 + rd b (x + 1) - 128) (by decide) with e | ⟨e, hl⟩
      · exact .inl e
      · rw [e]
        exact .inr ⟨2, rfl, by decide, by decide, hl, fun j h1 h2 => by obtain rfl : j = 1 := by omega
                                                                        exact d1⟩
    · rw [if_neg d1]; exact .inl rfl
  · rw [if_neg a1]
    by_cases a2 : 224 ≤ rd b x ∧ rd b x < 240
    · rw [if_pos a2]
      by_cases d1 : contB b (x + 1) = true
      · rw [if_pos d1]
        by_cases d2 : contB b (x + 2) = true
        · rw [if_pos d2]
          rcases utfEnd_two 2 2048 (((rd b x - 224) * 64 + rd b (x + 1) - 128) * 64 + rd b (x + 2) - 128) (by decide) with e | ⟨e, hl⟩
          · exact .inl e
          · rw [e]
            refine .inr ⟨3, rfl, by decide, by decide, by show (128 : Int) ≤ _; omega, fun j h1 h2 => ?_⟩
            obtain rfl | rfl : j = 1 ∨ j = 2 := by omega
            · exact d1
            · exact d2
        · rw [if_neg d2]; exact .inl rfl
      · rw [if_neg d1]; exact .inl rfl
    · rw [if_neg a2]
      by_cases a3 : 240 ≤ rd b x ∧ rd b x < 245
      · rw [if_pos a3]
        by_cases d1 : contB b (x + 1) = true
        · rw [if_pos d1]
          by_cases d2 : contB b (x + 2) = true
          · rw [if_pos d2]
            by_cases d3 : contB b (x + 3) = true
            · rw [if_pos d3]
              rcases utfEnd_two 3 65536 ((((rd b x - 240) * 64 + rd b (x + 1) - 128) * 64 + rd b (x + 2) - 128) * 64 + rd b (x + 3) - 128) (by decide) with e | ⟨e, hl⟩
              · exact .inl e
              · rw [e]
                refine .inr ⟨4, rfl, by decide, by decide, by show (128 : Int) ≤ _; omega, fun j h1 h2 => ?_⟩
                obtain rfl | rfl | rfl : j = 1 ∨ j = 2 ∨ j = 3 := by omega
                · exact d1
                · exact d2
                · exact d3
            · rw [if_neg d3]; exact .inl rfl
          · rw [if_neg d2]; exact .inl rfl
        · rw [if_neg d1]; exact .inl rfl
      · rw [if_neg a3]; exact .inl rfl
/-- The document's character at a byte that is no 13. -/
theorem next_is (b : List Int) (x : Int) (h0 : 0 ≤ x) (h1 : x < (b.length : Int)) (hx : x ≤ 4611686018427387000) (hb : 0 ≤ rd b x ∧ rd b x ≤ 255) (h13 : ¬ rd b x = 13) (k : Nat) :
    decanterref02_Next.f (k + 21) b x = some (if (utfB b x).2 = 0 ∨ (utfB b x).1 = 0 then (65533, 1) else utfB b x) := by
  unfold decanterref02_Next.f
  rw [if_neg (by omega), decide_eq_false (by omega)]
  simp only [decanterref02_Next.j0, Bool.false_eq_true, if_false]
  rw [if_pos h0, if_pos h1, if_neg h13, utf_is b x h0 h1 hx hb]
  simp only [Option.bind_some]
  by_cases e : (utfB b x).2 = 0
  · rw [if_pos e, if_pos (.inl e)]
  · rw [if_neg e]
    by_cases e2 : (utfB b x).1 = 0
    · rw [if_pos e2, if_pos (.inr e2)]
    · rw [if_neg e2, if_neg (by simp [e, e2])]
theorem next_13 (b : List Int) (x : Int) (h0 : 0 ≤ x) (h1 : x < (b.length : Int)) (hx : x ≤ 4611686018427387000) (h13 : rd b x = 13) (k : Nat) : ∃ t, decanterref02_Next.f (k + 21) b x = some t := by
  unfold decanterref02_Next.f
  rw [if_neg (by omega), decide_eq_false (by omega)]
  simp only [decanterref02_Next.j0, Bool.false_eq_true, if_false]
  rw [if_pos h0, if_pos h1, if_pos h13]
  have hw : wrap64 (x + 1) = x + 1 := wrap_id (by omega) (by omega)
  rw [hw]
  have hj : ∀ c : Bool, ∃ t, decanterref02_Next.j1 (k + 20) c = some t := by
    intro c
    simp only [decanterref02_Next.j1]
    cases c
    · exact ⟨_, rfl⟩
    · exact ⟨_, rfl⟩
  by_cases e : x + 1 < (b.length : Int)
  · rw [if_pos e, if_pos (by omega)]
    exact hj _
  · rw [if_neg e]
    exact hj _
theorem zero_step (l : List UInt8) : ∀ (m : Nat) (_ : m ≤ l.length) (_ : ∀ j (hj : j < m), ∃ c, l[j]? = some c ∧ c ≠ 0), ((0 : UInt8) ∈ l ↔ (0 : UInt8) ∈ l.drop m) := by
  induction l with
  | nil => intro m hm _; simp
  | cons c r ih =>
    intro m hm h
    cases m with
    | zero => rfl
    | succ m =>
      obtain ⟨c', e, hc⟩ := h 0 (by omega)
      obtain rfl : c = c' := by simpa using e
      rw [List.drop_succ_cons, List.mem_cons, ← ih m (by simpa using hm) (fun j hj => by
        obtain ⟨c2, e2, h2⟩ := h (j + 1) (by omega)
        exact ⟨c2, by simpa using e2, h2⟩)]
      constructor
      · rintro (h0 | h0)
        · exact absurd h0.symm hc
        · exact h0
      · exact fun h0 => .inr h0
theorem wrap_in {i : Int} (h0 : 0 ≤ i) (h : i ≤ 4611686018427387904) : wrap64 i = i := wrap_id (by omega) h
theorem whole_loop (s : ByteArray) (hs : s.size ≤ 4611686018427380000) : ∀ (d k i : Nat), i ≤ s.size → s.size - i = d → d + 30 ≤ k →
    decanterref21_Whole.l0 k (bytesOf s) (i : Int) = some (Lib.validGoD d (s.data.toList.drop i) && !decide ((0 : UInt8) ∈ s.data.toList.drop i)) := by
  intro d
  induction d using Nat.strongRecOn with
  | _ d ih =>
  intro k i hi hd hk
  obtain ⟨k, rfl⟩ : ∃ q, k = q + 22 := ⟨k - 22, by omega⟩
  rw [show k + 22 = (k + 21) + 1 from rfl]
  rw [decanterref21_Whole.l0]
  rw [bytesOf_length]
  by_cases hlt : i < s.size
  · obtain ⟨q, rfl⟩ : ∃ q, d = q + 1 := ⟨d - 1, by omega⟩
    obtain ⟨c, r, hcr, hrd⟩ := rd_head s i hlt
    have hrr := rd_range s (i : Int)
    have hdec := dec_is s i hlt
    have hval : Lib.validGoD (q + 1) (s.data.toList.drop i) = if (Lib.decodeL (s.data.toList.drop i)).1 = 65533 ∧ (Lib.decodeL (s.data.toList.drop i)).2 = 1 then false else Lib.validGoD q ((s.data.toList.drop i).drop (Lib.decodeL (s.data.toList.drop i)).2) := by
      rw [Lib.validGoD, if_neg (by rw [hcr]; simp)]
    have hbl : ((bytesOf s).length : Int) = s.size := by rw [bytesOf_length]
    have hr1 : s.data.toList.drop (i + 1) = r := by
      have : s.data.toList.drop (i + 1) = (s.data.toList.drop i).drop 1 := by rw [List.drop_drop]
      rw [this, hcr]
      rfl
    -- a byte of its own
    have one : rd (bytesOf s) i < 128 → c ≠ 0 → decanterref21_Whole.l0 (k + 21) (bytesOf s) (wrap64 ((i : Int) + 1)) = some (Lib.validGoD (q + 1) (s.data.toList.drop i) && !decide ((0 : UInt8) ∈ s.data.toList.drop i)) := by
      intro hc hc0
      rw [wrap_in (by omega) (by omega), show (i : Int) + 1 = ((i + 1 : Nat) : Int) by omega, ih q (by omega) (k + 21) (i + 1) (by omega) (by omega) (by omega)]
      have hD : decB (bytesOf s) i = (rd (bytesOf s) i, 1) := by unfold decB; rw [if_pos hc]
      rw [hD] at hdec
      have hD2 : (Lib.decodeL (s.data.toList.drop i)).2 = 1 := by have := congrArg Prod.snd hdec; simp only at this; omega
      have hD1 : ¬ (Lib.decodeL (s.data.toList.drop i)).1 = 65533 := by have := congrArg Prod.fst hdec; simp only at this; omega
      rw [hval, if_neg (fun h => hD1 h.1), hD2, hr1, hcr, List.drop_succ_cons, List.drop_zero]
      have e : decide ((0 : UInt8) ∈ c :: r) = decide ((0 : UInt8) ∈ r) := by
        congr 1
        rw [List.mem_cons]
        exact propext ⟨fun h => h.resolve_left (fun e => hc0 e.symm), .inr⟩
      rw [e]
    rw [if_pos (by omega), if_pos (by omega)]
    by_cases h13 : rd (bytesOf s) (i : Int) = 13
    · obtain ⟨t, ht⟩ := next_13 (bytesOf s) i (by omega) (by omega) (by omega) h13 k
      rw [ht]
      simp only [Option.bind_some]
      rw [if_pos h13]
      exact one (by omega) (by rintro rfl; rw [h13] at hrd; exact absurd hrd (by decide))
    · rw [next_is (bytesOf s) i (by omega) (by omega) (by omega) hrr h13 k]
      simp only [Option.bind_some]
      rw [if_neg h13]
      by_cases hc : rd (bytesOf s) (i : Int) < 128
      · have hu : utfB (bytesOf s) i = (rd (bytesOf s) i, 1) := by unfold utfB; dsimp only; rw [if_pos hc]
        by_cases h0 : rd (bytesOf s) (i : Int) = 0
        · have hc0 : c = 0 := by
            apply UInt8.toNat_inj.1
            rw [h0] at hrd
            have : c.toNat = 0 := by omega
            rw [this]
            rfl
          have hT : (if (utfB (bytesOf s) i).2 = 0 ∨ (utfB (bytesOf s) i).1 = 0 then ((65533 : Int), (1 : Int)) else utfB (bytesOf s) i) = (65533, 1) := by rw [hu]; exact if_pos (.inr h0)
          rw [hT, if_pos ⟨rfl, rfl⟩, hcr, hc0]
          simp
        · have hT : (if (utfB (bytesOf s) i).2 = 0 ∨ (utfB (bytesOf s) i).1 = 0 then ((65533 : Int), (1 : Int)) else utfB (bytesOf s) i) = (rd (bytesOf s) i, 1) := by rw [hu]; exact if_neg (by simp [h0])
          rw [hT, if_neg (by simp only; omega)]
          exact one hc (by rintro rfl; exact h0 (by rw [hrd]; rfl))
      · rcases utfB_high (bytesOf s) i hc with e | ⟨m, em, hm2, hm4, h128, hcont⟩
        · have hD : decB (bytesOf s) i = (65533, 1) := by unfold decB; rw [if_neg hc, if_pos e]
          rw [hD] at hdec
          have hD2 : (Lib.decodeL (s.data.toList.drop i)).2 = 1 := by have := congrArg Prod.snd hdec; simp only at this; omega
          have hD1 : (Lib.decodeL (s.data.toList.drop i)).1 = 65533 := by have := congrArg Prod.fst hdec; simp only at this; omega
          have hT : (if (utfB (bytesOf s) i).2 = 0 ∨ (utfB (bytesOf s) i).1 = 0 then ((65533 : Int), (1 : Int)) else utfB (bytesOf s) i) = (65533, 1) := if_pos (.inl e)
          rw [hT, if_pos ⟨rfl, rfl⟩, hval, if_pos ⟨hD1, hD2⟩]
          rfl
        · have hne : ¬ ((utfB (bytesOf s) i).2 = 0 ∨ (utfB (bytesOf s) i).1 = 0) := by omega
          have hT : (if (utfB (bytesOf s) i).2 = 0 ∨ (utfB (bytesOf s) i).1 = 0 then ((65533 : Int), (1 : Int)) else utfB (bytesOf s) i) = utfB (bytesOf s) i := if_neg hne
          rw [hT, if_neg (by omega), em]
          have hD : decB (bytesOf s) i = utfB (bytesOf s) i := by unfold decB; rw [if_neg hc, if_neg (by omega)]
          rw [hD] at hdec
          have hD2 : (Lib.decodeL (s.data.toList.drop i)).2 = m := by have := congrArg Prod.snd hdec; simp only at this; omega
          have hlast := hcont (m - 1) (by omega) (by omega)
          have him : i + m ≤ s.size := by
            have : contB (bytesOf s) ((i : Int) + ((m - 1 : Nat) : Int)) = true := hlast
            unfold contB at this
            simp only [Bool.and_eq_true, decide_eq_true_eq] at this
            have := this.1
            omega
          rw [wrap_in (by omega) (by omega), show (i : Int) + (m : Int) = ((i + m : Nat) : Int) by omega, ih (q + 1 - m) (by omega) (k + 21) (i + m) him (by omega) (by omega)]
          rw [hval, if_neg (by omega), hD2, List.drop_drop]
          have hlen : (s.data.toList.drop (i + m)).length = q + 1 - m := by rw [List.length_drop, ← Lib.size_eq]; omega
          rw [Lib.validGoD_fuel (q + 1 - m) q _ (by omega) (by omega)]
          have hz : decide ((0 : UInt8) ∈ s.data.toList.drop i) = decide ((0 : UInt8) ∈ s.data.toList.drop (i + m)) := by
            congr 1
            have := zero_step (s.data.toList.drop i) m (by rw [List.length_drop, ← Lib.size_eq]; omega) (fun j hj => by
              have hjl : i + j < s.data.toList.length := by rw [← Lib.size_eq]; omega
              refine ⟨s.data.toList[i + j], by rw [List.getElem?_drop, List.getElem?_eq_getElem hjl], fun e0 => ?_⟩
              have hv : rd (bytesOf s) ((i : Int) + (j : Int)) = 0 := by
                rw [show (i : Int) + (j : Int) = ((i + j : Nat) : Int) by omega, rd_bytesOf, bt_get s (i + j) (by omega), e0]
                rfl
              by_cases hj0 : j = 0
              · subst hj0
                have : rd (bytesOf s) (i : Int) = 0 := by simpa using hv
                omega
              · have := cont_val (hcont j (by omega) hj)
                omega)
            rw [List.drop_drop] at this
            exact propext this
          rw [hz]
  · rw [if_neg (by omega)]
    have hds : d = 0 := by omega
    have hnil : s.data.toList.drop i = [] := List.drop_eq_nil_of_le (by rw [← Lib.size_eq]; omega)
    rw [hds, hnil]
    rfl
theorem index_mem (c : UInt8) : ∀ l : List UInt8, decide (0 ≤ Lib.indexByte l c) = decide (c ∈ l)
  | [] => by simp [Lib.indexByte]
  | b :: l => by
    have ih := index_mem c l
    have hge := Lib.indexByte_ge l c
    rw [Lib.indexByte]
    by_cases e : b = c
    · subst e; simp
    · rw [if_neg (by simpa using e)]
      by_cases h : Lib.indexByte l c = -1
      · rw [if_pos (by simpa using h)]
        rw [h] at ih
        have : c ∉ l := by simpa using ih
        simp [this, Ne.symm e]
      · rw [if_neg (by simpa using h)]
        have h1 : 0 ≤ Lib.indexByte l c := by omega
        rw [decide_eq_true h1] at ih
        have : c ∈ l := by simpa using ih.symm
        rw [decide_eq_true (by omega), decide_eq_true (List.mem_cons_of_mem _ this)]
theorem wholeB_is (s : ByteArray) : wholeB s = (Lib.validGoD s.size s.data.toList && !decide ((0 : UInt8) ∈ s.data.toList)) := by
  unfold wholeB Lib.validD
  rw [index_mem, ← Lib.size_eq]
/-- The document's Whole is fit.whole. -/
theorem whole_ref (s : ByteArray) (hs : s.size ≤ 1048576) (k : Nat) (hk : s.size + 30 ≤ k) : decanterref21_Whole.f k s = some (wholeB s) := by
  unfold decanterref21_Whole.f
  rw [if_pos (by unfold maxLen; omega), wholeB_is]
  have := whole_loop s (by omega) s.size k 0 (by omega) (by omega) hk
  simpa using this
end Go.Proofs.YteahlapoeiikoaaDoor.Pure


-- Printed by a program of this session (wip/myprint.py over the kit's print).
namespace Go.Proofs.YteahlapoeiikoaaDoor.P
open Go.RowKit Go.Proofs.YteahlapoeiikoaaDoorW.PrintWords Go.Proofs.YteahlapoeiikoaaDoorW.PrintLast Go.Proofs.YteahlapoeiikoaaDoorW.PrintMore
attribute [local go_sem] max2_int min2_int max_two min_two max_three min_three max_four min_four   -- for this text's walks alone
set_option linter.unusedVariables false
set_option linter.unusedSimpArgs false

/-! ### decanterref21_attrs: function 64 -/
def decanterref21_attrs.l0 : Nat → List (S98) → Int → Option (Bool)
  | 0, _, _ => none
  | k + 1, x0, x3 => if x3 < (x0.length : Int) then (if 0 ≤ x3 then (if x3 ≤ (x0.length : Int) then ((decanterref06_Get.f k (x0.take (x3 : Int).toNat) ((rd_T98 x0 x3).f0)).bind fun bt263 => (if bt263.2 = true then (some false) else ((decanterref03_Name.f k ((rd_T98 x0 x3).f0)).bind fun t266 => (if t266 = true then ((decanterref21_Whole.f k ((rd_T98 x0 x3).f1)).bind fun t268 => (if t268 = true then (decanterref21_attrs.l0 k x0 (wrap64 (x3 + 1))) else (some false))) else (some false))))) else (none)) else (none)) else (some true)
def decanterref21_attrs.f (k : Nat) (l0 : List (S98)) : Option (Bool) := decanterref21_attrs.l0 k l0 0
set_option maxHeartbeats 8000000 in
set_option maxRecDepth 100000 in
theorem decanterref21_attrs.calls (k : Nat) (A0 : Option Addr) (c0 : Nat) (l0 : List (S98)) (r : Bool) (w : World) (hr0 : Kd.C k98 w A0 l0.length l0) (hc0 : l0.length ≤ c0) (h : decanterref21_attrs.f k l0 = some r) :
    Calls Tryd.prog 64 #[.slice A0 l0.length c0] w fun e w' => e = .returned (.bool r) ∧ Below w.heap.size w w' := by
  have HR0 := Aside0.mk hr0
  have HC0 := Aside0.mk hc0
  clear hr0 hc0
  have HB := Aside0.mk (Below.refl w.heap.size w)
  have H : (decanterref21_attrs.l0 k l0 0) = some r := h
  clear h
  have H' := Aside0.mk H
  clear H
  go_enter Tryd.func64, Tryd.ntmps64
  go_wp2
  repeat (go_quiet (fail); try go_wp2)
  go_loopg [3] k (fun kq v3 w' => ∃ (x3_1 : Int), v3 = .int .i64 x3_1 ∧ Aside0 (decanterref21_attrs.l0 kq l0 x3_1 = some r) ∧ Aside0 (kq ≤ k) ∧ Aside0 (Below w.heap.size w w'))
  case atStart => exact ⟨(0), (by first | rfl | (simp; done) | (simp [*]; done) | (simp; generalize ByteArray.toList _ = l_; cases l_ <;> rfl)), H', ⟨Nat.le_refl _⟩, ⟨by repeat (first | (with_reducible first | exact HB.out | apply below_alloc | apply pw_below_drewN | apply below_drew1) | exact HB.out)⟩⟩
  case round =>
    clear H'
    obtain ⟨x3_1, rfl, HA, HK1, HB⟩ := hrel
    cases gk with
    | zero => exact absurd HA.out (by simp [decanterref21_attrs.l0])
    | succ k1 =>
      have H := HA.out
      clear HA
      simp only [decanterref21_attrs.l0] at H
      by_cases c2 : x3_1 < (l0.length : Int)
      · rw [if_pos c2] at H
        have c2b0 : decide (x3_1 < (l0.length : Int)) = true := decide_eq_true c2
        clear c2
        by_cases c3 : 0 ≤ x3_1
        · rw [if_pos c3] at H
          have c3b0 := eq_true c3
          have c3b1 : decide (0 ≤ x3_1) = true := decide_eq_true c3
          clear c3
          by_cases c4 : x3_1 ≤ (l0.length : Int)
          · rw [if_pos c4] at H
            have c4b0 := eq_true c4
            have c4b1 : decide (x3_1 ≤ (l0.length : Int)) = true := decide_eq_true c4
            clear c4
            obtain ⟨y258, hy258⟩ : ∃ y_ : List (S98), y_ = (l0.take (x3_1 : Int).toNat) := ⟨_, rfl⟩
            replace H : ((decanterref06_Get.f k1 y258 ((rd_T98 l0 x3_1).f0)).bind fun bt263 => (if bt263.2 = true then (some false) else ((decanterref03_Name.f k1 ((rd_T98 l0 x3_1).f0)).bind fun t266 => (if t266 = true then ((decanterref21_Whole.f k1 ((rd_T98 l0 x3_1).f1)).bind fun t268 => (if t268 = true then (decanterref21_attrs.l0 k1 l0 (wrap64 (x3_1 + 1))) else (some false))) else (some false))))) = some r := by first | (rw [hy258]; with_reducible exact H) | (have H2_ := (Option.bind_some _ _).symm.trans H; rw [hy258]; with_reducible exact H2_) | (have H2_ := (Option.bind_some _ _).symm.trans H; with_reducible exact H2_) | with_reducible exact H | (rw [hy258]; exact H) | exact H
            have Ny258 := Aside0.mk hy258
            clear hy258
            replace H := Option.bind_eq_some_iff.mp H
            obtain ⟨⟨t263, t264⟩, A50, H⟩ := H
            replace H : (if t264 = true then (some false) else ((decanterref03_Name.f k1 ((rd_T98 l0 x3_1).f0)).bind fun t266 => (if t266 = true then ((decanterref21_Whole.f k1 ((rd_T98 l0 x3_1).f1)).bind fun t268 => (if t268 = true then (decanterref21_attrs.l0 k1 l0 (wrap64 (x3_1 + 1))) else (some false))) else (some false)))) = some r := H
            have A5 := Aside0.mk A50
            clear A50
            by_cases c6 : t264 = true
            · subst c6
              have H1 : (some false) = some r := by rw [if_pos rfl] at H; exact H
              clear H
              have H := H1
              clear H1
              obtain rfl := Option.some.inj H
              have q7 : (x3_1 : Int) ≤ ((l0.length : Int) : Int) := of_decide_eq_true (by first | (with_reducible assumption) | assumption)
              obtain ⟨i07, hi07, _, hsz7, _⟩ := info_parts info98
              have hroom7 : l0.length ≤ c0 := HC0.out
              have hC7 : Kd.C k98 _ A0 l0.length l0 := HR0.out
              have hcut7 := cut_to (P := Tryd.prog) 80 98 .i64 Tryd.underlying80 hi07 A0 l0.length c0 x3_1 (of_decide_eq_true (by first | (with_reducible assumption) | assumption)) q7 hroom7
              have hr7 := Kd.C_take (m := (x3_1 : Int).toNat) hC7 (by omega)
              have hy7 : y258.length = (x3_1 : Int).toNat := (by rw [Ny258.out, List.length_take]; omega)
              rw [← Ny258.out] at hr7
              rw [← hy7] at hcut7
              have HR261 := Aside0.mk hr7
              have HC261 := Aside0.mk (show y258.length ≤ c0 from by omega)
              clear hr7 hC7 hroom7 hi07 hsz7
              have KY7 := Aside0.mk hy7
              clear hy7
              replace q7 := eq_true q7
              have p262 : 0 ≤ (x3_1 : Int) := of_decide_eq_true (by first | (with_reducible assumption) | assumption)
              have q262 : x3_1 < (l0.length : Int) := of_decide_eq_true (by first | (with_reducible assumption) | assumption)
              obtain ⟨ad262, e262, hx262_0, hx262_1⟩ := at_T98 HR0.out x3_1 p262 q262
              cases e262
              replace hx262_0 := (HB.out.cell (World.block_lt_of_cell? w _ hx262_0)).trans hx262_0
              replace hx262_1 := (HB.out.cell (World.block_lt_of_cell? w _ hx262_1)).trans hx262_1
              replace p262 := eq_true p262
              replace q262 := eq_true q262
              go_wp2_with (first | (go_at_call 82; (with_reducible refine (decanterref06_Get.calls k1 _ _ y258 ((rd_T98 l0 x3_1).f0) t263 true _ ?side1 ?side2 A5.out).mono ?_); (case side1 => repeat (first | exact (Kd.C_below HR261.out HB.out) | (with_reducible refine Kd.C_alloc ?_ _) | (with_reducible refine Kd.C_drewN ?_ _) | (with_reducible refine Kd.C_drew ?_))); (case side2 => exact HC261.out); rintro e w' ⟨rfl, ⟨nd, rfl⟩⟩; (try first | exact ⟨rfl, _, World.drewN_drewN _ _ _⟩ | exact ⟨rfl, _, Eq.trans (World.drewN_drewN _ _ _) (congrArg (World.drewN _) (Nat.add_assoc _ _ _))⟩)))
              repeat (go_quiet (first | (go_at_call 82; (with_reducible refine (decanterref06_Get.calls k1 _ _ y258 ((rd_T98 l0 x3_1).f0) t263 true _ ?side1 ?side2 A5.out).mono ?_); (case side1 => repeat (first | exact (Kd.C_below HR261.out HB.out) | (with_reducible refine Kd.C_alloc ?_ _) | (with_reducible refine Kd.C_drewN ?_ _) | (with_reducible refine Kd.C_drew ?_))); (case side2 => exact HC261.out); rintro e w' ⟨rfl, ⟨nd, rfl⟩⟩; (try first | exact ⟨rfl, _, World.drewN_drewN _ _ _⟩ | exact ⟨rfl, _, Eq.trans (World.drewN_drewN _ _ _) (congrArg (World.drewN _) (Nat.add_assoc _ _ _))⟩))); try go_wp2_with (first | (go_at_call 82; (with_reducible refine (decanterref06_Get.calls k1 _ _ y258 ((rd_T98 l0 x3_1).f0) t263 true _ ?side1 ?side2 A5.out).mono ?_); (case side1 => repeat (first | exact (Kd.C_below HR261.out HB.out) | (with_reducible refine Kd.C_alloc ?_ _) | (with_reducible refine Kd.C_drewN ?_ _) | (with_reducible refine Kd.C_drew ?_))); (case side2 => exact HC261.out); rintro e w' ⟨rfl, ⟨nd, rfl⟩⟩; (try first | exact ⟨rfl, _, World.drewN_drewN _ _ _⟩ | exact ⟨rfl, _, Eq.trans (World.drewN_drewN _ _ _) (congrArg (World.drewN _) (Nat.add_assoc _ _ _))⟩))))
              go_ret
              exact ⟨by first | rfl | (simp [errW_none, errW_some] <;> rfl) | (simp [*, errW_none, errW_some] <;> rfl), by repeat (first | (with_reducible first | exact HB.out | apply below_alloc | apply pw_below_drewN | apply below_drew1) | exact HB.out)⟩
            · replace c6 := Bool.eq_false_iff.mpr c6
              subst c6
              have H1 : ((decanterref03_Name.f k1 ((rd_T98 l0 x3_1).f0)).bind fun t266 => (if t266 = true then ((decanterref21_Whole.f k1 ((rd_T98 l0 x3_1).f1)).bind fun t268 => (if t268 = true then (decanterref21_attrs.l0 k1 l0 (wrap64 (x3_1 + 1))) else (some false))) else (some false))) = some r := by rw [if_neg (show ¬ (false = true) by decide)] at H; exact H
              clear H
              have H := H1
              clear H1
              replace H := Option.bind_eq_some_iff.mp H
              obtain ⟨t266, A80, H⟩ := H
              replace H : (if t266 = true then ((decanterref21_Whole.f k1 ((rd_T98 l0 x3_1).f1)).bind fun t268 => (if t268 = true then (decanterref21_attrs.l0 k1 l0 (wrap64 (x3_1 + 1))) else (some false))) else (some false)) = some r := H
              have A8 := Aside0.mk A80
              clear A80
              by_cases c9 : t266 = true
              · subst c9
                have H1 : ((decanterref21_Whole.f k1 ((rd_T98 l0 x3_1).f1)).bind fun t268 => (if t268 = true then (decanterref21_attrs.l0 k1 l0 (wrap64 (x3_1 + 1))) else (some false))) = some r := by rw [if_pos rfl] at H; exact H
                clear H
                have H := H1
                clear H1
                replace H := Option.bind_eq_some_iff.mp H
                obtain ⟨t268, A100, H⟩ := H
                replace H : (if t268 = true then (decanterref21_attrs.l0 k1 l0 (wrap64 (x3_1 + 1))) else (some false)) = some r := H
                have A10 := Aside0.mk A100
                clear A100
                by_cases c11 : t268 = true
                · subst c11
                  have H1 : (decanterref21_attrs.l0 k1 l0 (wrap64 (x3_1 + 1))) = some r := by rw [if_pos rfl] at H; exact H
                  clear H
                  have H := H1
                  clear H1
                  have H' := Aside0.mk H
                  clear H
                  have q12 : (x3_1 : Int) ≤ ((l0.length : Int) : Int) := of_decide_eq_true (by first | (with_reducible assumption) | assumption)
                  obtain ⟨i012, hi012, _, hsz12, _⟩ := info_parts info98
                  have hroom12 : l0.length ≤ c0 := HC0.out
                  have hC12 : Kd.C k98 _ A0 l0.length l0 := HR0.out
                  have hcut12 := cut_to (P := Tryd.prog) 80 98 .i64 Tryd.underlying80 hi012 A0 l0.length c0 x3_1 (of_decide_eq_true (by first | (with_reducible assumption) | assumption)) q12 hroom12
                  have hr12 := Kd.C_take (m := (x3_1 : Int).toNat) hC12 (by omega)
                  have hy12 : y258.length = (x3_1 : Int).toNat := (by rw [Ny258.out, List.length_take]; omega)
                  rw [← Ny258.out] at hr12
                  rw [← hy12] at hcut12
                  have HR261 := Aside0.mk hr12
                  have HC261 := Aside0.mk (show y258.length ≤ c0 from by omega)
                  clear hr12 hC12 hroom12 hi012 hsz12
                  have KY12 := Aside0.mk hy12
                  clear hy12
                  replace q12 := eq_true q12
                  have p262 : 0 ≤ (x3_1 : Int) := of_decide_eq_true (by first | (with_reducible assumption) | assumption)
                  have q262 : x3_1 < (l0.length : Int) := of_decide_eq_true (by first | (with_reducible assumption) | assumption)
                  obtain ⟨ad262, e262, hx262_0, hx262_1⟩ := at_T98 HR0.out x3_1 p262 q262
                  cases e262
                  replace hx262_0 := (HB.out.cell (World.block_lt_of_cell? w _ hx262_0)).trans hx262_0
                  replace hx262_1 := (HB.out.cell (World.block_lt_of_cell? w _ hx262_1)).trans hx262_1
                  replace p262 := eq_true p262
                  replace q262 := eq_true q262
                  go_wp2_with (first | (go_at_call 82; (with_reducible refine (decanterref06_Get.calls k1 _ _ y258 ((rd_T98 l0 x3_1).f0) t263 false _ ?side1 ?side2 A5.out).mono ?_); (case side1 => repeat (first | exact (Kd.C_below HR261.out HB.out) | (with_reducible refine Kd.C_alloc ?_ _) | (with_reducible refine Kd.C_drewN ?_ _) | (with_reducible refine Kd.C_drew ?_))); (case side2 => exact HC261.out); rintro e w' ⟨rfl, ⟨nd, rfl⟩⟩; (try first | exact ⟨rfl, _, World.drewN_drewN _ _ _⟩ | exact ⟨rfl, _, Eq.trans (World.drewN_drewN _ _ _) (congrArg (World.drewN _) (Nat.add_assoc _ _ _))⟩); have p265 : 0 ≤ (x3_1 : Int) := of_decide_eq_true (by first | (with_reducible assumption) | assumption); have q265 : x3_1 < (l0.length : Int) := of_decide_eq_true (by first | (with_reducible assumption) | assumption); obtain ⟨ad265, e265, hx265_0, hx265_1⟩ := at_T98 HR0.out x3_1 p265 q265; obtain rfl : ad262 = ad265 := (by injection e265); replace hx265_0 := (HB.out.cell (World.block_lt_of_cell? w _ hx265_0)).trans hx265_0; replace hx265_1 := (HB.out.cell (World.block_lt_of_cell? w _ hx265_1)).trans hx265_1; replace p265 := eq_true p265; replace q265 := eq_true q265) | (go_at_call 56; (with_reducible refine (decanterref03_Name.calls k1 ((rd_T98 l0 x3_1).f0) true _ A8.out).mono ?_); rintro e w' ⟨rfl, ⟨nd, rfl⟩⟩; (try first | exact ⟨rfl, _, World.drewN_drewN _ _ _⟩ | exact ⟨rfl, _, Eq.trans (World.drewN_drewN _ _ _) (congrArg (World.drewN _) (Nat.add_assoc _ _ _))⟩); have p267 : 0 ≤ (x3_1 : Int) := of_decide_eq_true (by first | (with_reducible assumption) | assumption); have q267 : x3_1 < (l0.length : Int) := of_decide_eq_true (by first | (with_reducible assumption) | assumption); obtain ⟨ad267, e267, hx267_0, hx267_1⟩ := at_T98 HR0.out x3_1 p267 q267; obtain rfl : ad262 = ad267 := (by injection e267); replace hx267_0 := (HB.out.cell (World.block_lt_of_cell? w _ hx267_0)).trans hx267_0; replace hx267_1 := (HB.out.cell (World.block_lt_of_cell? w _ hx267_1)).trans hx267_1; replace p267 := eq_true p267; replace q267 := eq_true q267) | (go_at_call 63; (with_reducible refine (decanterref21_Whole.calls k1 ((rd_T98 l0 x3_1).f1) true _ A10.out).mono ?_); rintro e w13 ⟨rfl, hb⟩; have n0_ := Aside0.mk (below_step (by repeat (first | (with_reducible first | exact HB.out | apply below_alloc | apply pw_below_drewN | apply below_drew1) | exact HB.out)) hb); clear HB; have HB := n0_; clear n0_; (try clear hb); (try clear hb2); (try clear hk); (try clear hi)))
                  repeat (go_quiet (first | (go_at_call 82; (with_reducible refine (decanterref06_Get.calls k1 _ _ y258 ((rd_T98 l0 x3_1).f0) t263 false _ ?side1 ?side2 A5.out).mono ?_); (case side1 => repeat (first | exact (Kd.C_below HR261.out HB.out) | (with_reducible refine Kd.C_alloc ?_ _) | (with_reducible refine Kd.C_drewN ?_ _) | (with_reducible refine Kd.C_drew ?_))); (case side2 => exact HC261.out); rintro e w' ⟨rfl, ⟨nd, rfl⟩⟩; (try first | exact ⟨rfl, _, World.drewN_drewN _ _ _⟩ | exact ⟨rfl, _, Eq.trans (World.drewN_drewN _ _ _) (congrArg (World.drewN _) (Nat.add_assoc _ _ _))⟩); have p265 : 0 ≤ (x3_1 : Int) := of_decide_eq_true (by first | (with_reducible assumption) | assumption); have q265 : x3_1 < (l0.length : Int) := of_decide_eq_true (by first | (with_reducible assumption) | assumption); obtain ⟨ad265, e265, hx265_0, hx265_1⟩ := at_T98 HR0.out x3_1 p265 q265; obtain rfl : ad262 = ad265 := (by injection e265); replace hx265_0 := (HB.out.cell (World.block_lt_of_cell? w _ hx265_0)).trans hx265_0; replace hx265_1 := (HB.out.cell (World.block_lt_of_cell? w _ hx265_1)).trans hx265_1; replace p265 := eq_true p265; replace q265 := eq_true q265) | (go_at_call 56; (with_reducible refine (decanterref03_Name.calls k1 ((rd_T98 l0 x3_1).f0) true _ A8.out).mono ?_); rintro e w' ⟨rfl, ⟨nd, rfl⟩⟩; (try first | exact ⟨rfl, _, World.drewN_drewN _ _ _⟩ | exact ⟨rfl, _, Eq.trans (World.drewN_drewN _ _ _) (congrArg (World.drewN _) (Nat.add_assoc _ _ _))⟩); have p267 : 0 ≤ (x3_1 : Int) := of_decide_eq_true (by first | (with_reducible assumption) | assumption); have q267 : x3_1 < (l0.length : Int) := of_decide_eq_true (by first | (with_reducible assumption) | assumption); obtain ⟨ad267, e267, hx267_0, hx267_1⟩ := at_T98 HR0.out x3_1 p267 q267; obtain rfl : ad262 = ad267 := (by injection e267); replace hx267_0 := (HB.out.cell (World.block_lt_of_cell? w _ hx267_0)).trans hx267_0; replace hx267_1 := (HB.out.cell (World.block_lt_of_cell? w _ hx267_1)).trans hx267_1; replace p267 := eq_true p267; replace q267 := eq_true q267) | (go_at_call 63; (with_reducible refine (decanterref21_Whole.calls k1 ((rd_T98 l0 x3_1).f1) true _ A10.out).mono ?_); rintro e w13 ⟨rfl, hb⟩; have n0_ := Aside0.mk (below_step (by repeat (first | (with_reducible first | exact HB.out | apply below_alloc | apply pw_below_drewN | apply below_drew1) | exact HB.out)) hb); clear HB; have HB := n0_; clear n0_; (try clear hb); (try clear hb2); (try clear hk); (try clear hi))); try go_wp2_with (first | (go_at_call 82; (with_reducible refine (decanterref06_Get.calls k1 _ _ y258 ((rd_T98 l0 x3_1).f0) t263 false _ ?side1 ?side2 A5.out).mono ?_); (case side1 => repeat (first | exact (Kd.C_below HR261.out HB.out) | (with_reducible refine Kd.C_alloc ?_ _) | (with_reducible refine Kd.C_drewN ?_ _) | (with_reducible refine Kd.C_drew ?_))); (case side2 => exact HC261.out); rintro e w' ⟨rfl, ⟨nd, rfl⟩⟩; (try first | exact ⟨rfl, _, World.drewN_drewN _ _ _⟩ | exact ⟨rfl, _, Eq.trans (World.drewN_drewN _ _ _) (congrArg (World.drewN _) (Nat.add_assoc _ _ _))⟩); have p265 : 0 ≤ (x3_1 : Int) := of_decide_eq_true (by first | (with_reducible assumption) | assumption); have q265 : x3_1 < (l0.length : Int) := of_decide_eq_true (by first | (with_reducible assumption) | assumption); obtain ⟨ad265, e265, hx265_0, hx265_1⟩ := at_T98 HR0.out x3_1 p265 q265; obtain rfl : ad262 = ad265 := (by injection e265); replace hx265_0 := (HB.out.cell (World.block_lt_of_cell? w _ hx265_0)).trans hx265_0; replace hx265_1 := (HB.out.cell (World.block_lt_of_cell? w _ hx265_1)).trans hx265_1; replace p265 := eq_true p265; replace q265 := eq_true q265) | (go_at_call 56; (with_reducible refine (decanterref03_Name.calls k1 ((rd_T98 l0 x3_1).f0) true _ A8.out).mono ?_); rintro e w' ⟨rfl, ⟨nd, rfl⟩⟩; (try first | exact ⟨rfl, _, World.drewN_drewN _ _ _⟩ | exact ⟨rfl, _, Eq.trans (World.drewN_drewN _ _ _) (congrArg (World.drewN _) (Nat.add_assoc _ _ _))⟩); have p267 : 0 ≤ (x3_1 : Int) := of_decide_eq_true (by first | (with_reducible assumption) | assumption); have q267 : x3_1 < (l0.length : Int) := of_decide_eq_true (by first | (with_reducible assumption) | assumption); obtain ⟨ad267, e267, hx267_0, hx267_1⟩ := at_T98 HR0.out x3_1 p267 q267; obtain rfl : ad262 = ad267 := (by injection e267); replace hx267_0 := (HB.out.cell (World.block_lt_of_cell? w _ hx267_0)).trans hx267_0; replace hx267_1 := (HB.out.cell (World.block_lt_of_cell? w _ hx267_1)).trans hx267_1; replace p267 := eq_true p267; replace q267 := eq_true q267) | (go_at_call 63; (with_reducible refine (decanterref21_Whole.calls k1 ((rd_T98 l0 x3_1).f1) true _ A10.out).mono ?_); rintro e w13 ⟨rfl, hb⟩; have n0_ := Aside0.mk (below_step (by repeat (first | (with_reducible first | exact HB.out | apply below_alloc | apply pw_below_drewN | apply below_drew1) | exact HB.out)) hb); clear HB; have HB := n0_; clear n0_; (try clear hb); (try clear hb2); (try clear hk); (try clear hi))))
                  go_roundg k1
                  case measure => have := HK1.out; omega
                  case rel => exact ⟨(wrap64 (x3_1 + 1)), (by first | rfl | (simp; done) | (simp [*]; done)), H', ⟨by have := HK1.out; omega⟩, ⟨by repeat (first | (with_reducible first | exact HB.out | apply below_alloc | apply pw_below_drewN | apply below_drew1) | exact HB.out)⟩⟩
                · replace c11 := Bool.eq_false_iff.mpr c11
                  subst c11
                  have H1 : (some false) = some r := by rw [if_neg (show ¬ (false = true) by decide)] at H; exact H
                  clear H
                  have H := H1
                  clear H1
                  obtain rfl := Option.some.inj H
                  have q14 : (x3_1 : Int) ≤ ((l0.length : Int) : Int) := of_decide_eq_true (by first | (with_reducible assumption) | assumption)
                  obtain ⟨i014, hi014, _, hsz14, _⟩ := info_parts info98
                  have hroom14 : l0.length ≤ c0 := HC0.out
                  have hC14 : Kd.C k98 _ A0 l0.length l0 := HR0.out
                  have hcut14 := cut_to (P := Tryd.prog) 80 98 .i64 Tryd.underlying80 hi014 A0 l0.length c0 x3_1 (of_decide_eq_true (by first | (with_reducible assumption) | assumption)) q14 hroom14
                  have hr14 := Kd.C_take (m := (x3_1 : Int).toNat) hC14 (by omega)
                  have hy14 : y258.length = (x3_1 : Int).toNat := (by rw [Ny258.out, List.length_take]; omega)
                  rw [← Ny258.out] at hr14
                  rw [← hy14] at hcut14
                  have HR261 := Aside0.mk hr14
                  have HC261 := Aside0.mk (show y258.length ≤ c0 from by omega)
                  clear hr14 hC14 hroom14 hi014 hsz14
                  have KY14 := Aside0.mk hy14
                  clear hy14
                  replace q14 := eq_true q14
                  have p262 : 0 ≤ (x3_1 : Int) := of_decide_eq_true (by first | (with_reducible assumption) | assumption)
                  have q262 : x3_1 < (l0.length : Int) := of_decide_eq_true (by first | (with_reducible assumption) | assumption)
                  obtain ⟨ad262, e262, hx262_0, hx262_1⟩ := at_T98 HR0.out x3_1 p262 q262
                  cases e262
                  replace hx262_0 := (HB.out.cell (World.block_lt_of_cell? w _ hx262_0)).trans hx262_0
                  replace hx262_1 := (HB.out.cell (World.block_lt_of_cell? w _ hx262_1)).trans hx262_1
                  replace p262 := eq_true p262
                  replace q262 := eq_true q262
                  go_wp2_with (first | (go_at_call 82; (with_reducible refine (decanterref06_Get.calls k1 _ _ y258 ((rd_T98 l0 x3_1).f0) t263 false _ ?side1 ?side2 A5.out).mono ?_); (case side1 => repeat (first | exact (Kd.C_below HR261.out HB.out) | (with_reducible refine Kd.C_alloc ?_ _) | (with_reducible refine Kd.C_drewN ?_ _) | (with_reducible refine Kd.C_drew ?_))); (case side2 => exact HC261.out); rintro e w' ⟨rfl, ⟨nd, rfl⟩⟩; (try first | exact ⟨rfl, _, World.drewN_drewN _ _ _⟩ | exact ⟨rfl, _, Eq.trans (World.drewN_drewN _ _ _) (congrArg (World.drewN _) (Nat.add_assoc _ _ _))⟩); have p265 : 0 ≤ (x3_1 : Int) := of_decide_eq_true (by first | (with_reducible assumption) | assumption); have q265 : x3_1 < (l0.length : Int) := of_decide_eq_true (by first | (with_reducible assumption) | assumption); obtain ⟨ad265, e265, hx265_0, hx265_1⟩ := at_T98 HR0.out x3_1 p265 q265; obtain rfl : ad262 = ad265 := (by injection e265); replace hx265_0 := (HB.out.cell (World.block_lt_of_cell? w _ hx265_0)).trans hx265_0; replace hx265_1 := (HB.out.cell (World.block_lt_of_cell? w _ hx265_1)).trans hx265_1; replace p265 := eq_true p265; replace q265 := eq_true q265) | (go_at_call 56; (with_reducible refine (decanterref03_Name.calls k1 ((rd_T98 l0 x3_1).f0) true _ A8.out).mono ?_); rintro e w' ⟨rfl, ⟨nd, rfl⟩⟩; (try first | exact ⟨rfl, _, World.drewN_drewN _ _ _⟩ | exact ⟨rfl, _, Eq.trans (World.drewN_drewN _ _ _) (congrArg (World.drewN _) (Nat.add_assoc _ _ _))⟩); have p267 : 0 ≤ (x3_1 : Int) := of_decide_eq_true (by first | (with_reducible assumption) | assumption); have q267 : x3_1 < (l0.length : Int) := of_decide_eq_true (by first | (with_reducible assumption) | assumption); obtain ⟨ad267, e267, hx267_0, hx267_1⟩ := at_T98 HR0.out x3_1 p267 q267; obtain rfl : ad262 = ad267 := (by injection e267); replace hx267_0 := (HB.out.cell (World.block_lt_of_cell? w _ hx267_0)).trans hx267_0; replace hx267_1 := (HB.out.cell (World.block_lt_of_cell? w _ hx267_1)).trans hx267_1; replace p267 := eq_true p267; replace q267 := eq_true q267) | (go_at_call 63; (with_reducible refine (decanterref21_Whole.calls k1 ((rd_T98 l0 x3_1).f1) false _ A10.out).mono ?_); rintro e w15 ⟨rfl, hb⟩; have n0_ := Aside0.mk (below_step (by repeat (first | (with_reducible first | exact HB.out | apply below_alloc | apply pw_below_drewN | apply below_drew1) | exact HB.out)) hb); clear HB; have HB := n0_; clear n0_; (try clear hb); (try clear hb2); (try clear hk); (try clear hi)))
                  repeat (go_quiet (first | (go_at_call 82; (with_reducible refine (decanterref06_Get.calls k1 _ _ y258 ((rd_T98 l0 x3_1).f0) t263 false _ ?side1 ?side2 A5.out).mono ?_); (case side1 => repeat (first | exact (Kd.C_below HR261.out HB.out) | (with_reducible refine Kd.C_alloc ?_ _) | (with_reducible refine Kd.C_drewN ?_ _) | (with_reducible refine Kd.C_drew ?_))); (case side2 => exact HC261.out); rintro e w' ⟨rfl, ⟨nd, rfl⟩⟩; (try first | exact ⟨rfl, _, World.drewN_drewN _ _ _⟩ | exact ⟨rfl, _, Eq.trans (World.drewN_drewN _ _ _) (congrArg (World.drewN _) (Nat.add_assoc _ _ _))⟩); have p265 : 0 ≤ (x3_1 : Int) := of_decide_eq_true (by first | (with_reducible assumption) | assumption); have q265 : x3_1 < (l0.length : Int) := of_decide_eq_true (by first | (with_reducible assumption) | assumption); obtain ⟨ad265, e265, hx265_0, hx265_1⟩ := at_T98 HR0.out x3_1 p265 q265; obtain rfl : ad262 = ad265 := (by injection e265); replace hx265_0 := (HB.out.cell (World.block_lt_of_cell? w _ hx265_0)).trans hx265_0; replace hx265_1 := (HB.out.cell (World.block_lt_of_cell? w _ hx265_1)).trans hx265_1; replace p265 := eq_true p265; replace q265 := eq_true q265) | (go_at_call 56; (with_reducible refine (decanterref03_Name.calls k1 ((rd_T98 l0 x3_1).f0) true _ A8.out).mono ?_); rintro e w' ⟨rfl, ⟨nd, rfl⟩⟩; (try first | exact ⟨rfl, _, World.drewN_drewN _ _ _⟩ | exact ⟨rfl, _, Eq.trans (World.drewN_drewN _ _ _) (congrArg (World.drewN _) (Nat.add_assoc _ _ _))⟩); have p267 : 0 ≤ (x3_1 : Int) := of_decide_eq_true (by first | (with_reducible assumption) | assumption); have q267 : x3_1 < (l0.length : Int) := of_decide_eq_true (by first | (with_reducible assumption) | assumption); obtain ⟨ad267, e267, hx267_0, hx267_1⟩ := at_T98 HR0.out x3_1 p267 q267; obtain rfl : ad262 = ad267 := (by injection e267); replace hx267_0 := (HB.out.cell (World.block_lt_of_cell? w _ hx267_0)).trans hx267_0; replace hx267_1 := (HB.out.cell (World.block_lt_of_cell? w _ hx267_1)).trans hx267_1; replace p267 := eq_true p267; replace q267 := eq_true q267) | (go_at_call 63; (with_reducible refine (decanterref21_Whole.calls k1 ((rd_T98 l0 x3_1).f1) false _ A10.out).mono ?_); rintro e w15 ⟨rfl, hb⟩; have n0_ := Aside0.mk (below_step (by repeat (first | (with_reducible first | exact HB.out | apply below_alloc | apply pw_below_drewN | apply below_drew1) | exact HB.out)) hb); clear HB; have HB := n0_; clear n0_; (try clear hb); (try clear hb2); (try clear hk); (try clear hi))); try go_wp2_with (first | (go_at_call 82; (with_reducible refine (decanterref06_Get.calls k1 _ _ y258 ((rd_T98 l0 x3_1).f0) t263 false _ ?side1 ?side2 A5.out).mono ?_); (case side1 => repeat (first | exact (Kd.C_below HR261.out HB.out) | (with_reducible refine Kd.C_alloc ?_ _) | (with_reducible refine Kd.C_drewN ?_ _) | (with_reducible refine Kd.C_drew ?_))); (case side2 => exact HC261.out); rintro e w' ⟨rfl, ⟨nd, rfl⟩⟩; (try first | exact ⟨rfl, _, World.drewN_drewN _ _ _⟩ | exact ⟨rfl, _, Eq.trans (World.drewN_drewN _ _ _) (congrArg (World.drewN _) (Nat.add_assoc _ _ _))⟩); have p265 : 0 ≤ (x3_1 : Int) := of_decide_eq_true (by first | (with_reducible assumption) | assumption); have q265 : x3_1 < (l0.length : Int) := of_decide_eq_true (by first | (with_reducible assumption) | assumption); obtain ⟨ad265, e265, hx265_0, hx265_1⟩ := at_T98 HR0.out x3_1 p265 q265; obtain rfl : ad262 = ad265 := (by injection e265); replace hx265_0 := (HB.out.cell (World.block_lt_of_cell? w _ hx265_0)).trans hx265_0; replace hx265_1 := (HB.out.cell (World.block_lt_of_cell? w _ hx265_1)).trans hx265_1; replace p265 := eq_true p265; replace q265 := eq_true q265) | (go_at_call 56; (with_reducible refine (decanterref03_Name.calls k1 ((rd_T98 l0 x3_1).f0) true _ A8.out).mono ?_); rintro e w' ⟨rfl, ⟨nd, rfl⟩⟩; (try first | exact ⟨rfl, _, World.drewN_drewN _ _ _⟩ | exact ⟨rfl, _, Eq.trans (World.drewN_drewN _ _ _) (congrArg (World.drewN _) (Nat.add_assoc _ _ _))⟩); have p267 : 0 ≤ (x3_1 : Int) := of_decide_eq_true (by first | (with_reducible assumption) | assumption); have q267 : x3_1 < (l0.length : Int) := of_decide_eq_true (by first | (with_reducible assumption) | assumption); obtain ⟨ad267, e267, hx267_0, hx267_1⟩ := at_T98 HR0.out x3_1 p267 q267; obtain rfl : ad262 = ad267 := (by injection e267); replace hx267_0 := (HB.out.cell (World.block_lt_of_cell? w _ hx267_0)).trans hx267_0; replace hx267_1 := (HB.out.cell (World.block_lt_of_cell? w _ hx267_1)).trans hx267_1; replace p267 := eq_true p267; replace q267 := eq_true q267) | (go_at_call 63; (with_reducible refine (decanterref21_Whole.calls k1 ((rd_T98 l0 x3_1).f1) false _ A10.out).mono ?_); rintro e w15 ⟨rfl, hb⟩; have n0_ := Aside0.mk (below_step (by repeat (first | (with_reducible first | exact HB.out | apply below_alloc | apply pw_below_drewN | apply below_drew1) | exact HB.out)) hb); clear HB; have HB := n0_; clear n0_; (try clear hb); (try clear hb2); (try clear hk); (try clear hi))))
                  go_ret
                  exact ⟨by first | rfl | (simp [errW_none, errW_some] <;> rfl) | (simp [*, errW_none, errW_some] <;> rfl), by repeat (first | (with_reducible first | exact HB.out | apply below_alloc | apply pw_below_drewN | apply below_drew1) | exact HB.out)⟩
              · replace c9 := Bool.eq_false_iff.mpr c9
                subst c9
                have H1 : (some false) = some r := by rw [if_neg (show ¬ (false = true) by decide)] at H; exact H
                clear H
                have H := H1
                clear H1
                obtain rfl := Option.some.inj H
                have q16 : (x3_1 : Int) ≤ ((l0.length : Int) : Int) := of_decide_eq_true (by first | (with_reducible assumption) | assumption)
                obtain ⟨i016, hi016, _, hsz16, _⟩ := info_parts info98
                have hroom16 : l0.length ≤ c0 := HC0.out
                have hC16 : Kd.C k98 _ A0 l0.length l0 := HR0.out
                have hcut16 := cut_to (P := Tryd.prog) 80 98 .i64 Tryd.underlying80 hi016 A0 l0.length c0 x3_1 (of_decide_eq_true (by first | (with_reducible assumption) | assumption)) q16 hroom16
                have hr16 := Kd.C_take (m := (x3_1 : Int).toNat) hC16 (by omega)
                have hy16 : y258.length = (x3_1 : Int).toNat := (by rw [Ny258.out, List.length_take]; omega)
                rw [← Ny258.out] at hr16
                rw [← hy16] at hcut16
                have HR261 := Aside0.mk hr16
                have HC261 := Aside0.mk (show y258.length ≤ c0 from by omega)
                clear hr16 hC16 hroom16 hi016 hsz16
                have KY16 := Aside0.mk hy16
                clear hy16
                replace q16 := eq_true q16
                have p262 : 0 ≤ (x3_1 : Int) := of_decide_eq_true (by first | (with_reducible assumption) | assumption)
                have q262 : x3_1 < (l0.length : Int) := of_decide_eq_true (by first | (with_reducible assumption) | assumption)
                obtain ⟨ad262, e262, hx262_0, hx262_1⟩ := at_T98 HR0.out x3_1 p262 q262
                cases e262
                replace hx262_0 := (HB.out.cell (World.block_lt_of_cell? w _ hx262_0)).trans hx262_0
                replace hx262_1 := (HB.out.cell (World.block_lt_of_cell? w _ hx262_1)).trans hx262_1
                replace p262 := eq_true p262
                replace q262 := eq_true q262
                go_wp2_with (first | (go_at_call 82; (with_reducible refine (decanterref06_Get.calls k1 _ _ y258 ((rd_T98 l0 x3_1).f0) t263 false _ ?side1 ?side2 A5.out).mono ?_); (case side1 => repeat (first | exact (Kd.C_below HR261.out HB.out) | (with_reducible refine Kd.C_alloc ?_ _) | (with_reducible refine Kd.C_drewN ?_ _) | (with_reducible refine Kd.C_drew ?_))); (case side2 => exact HC261.out); rintro e w' ⟨rfl, ⟨nd, rfl⟩⟩; (try first | exact ⟨rfl, _, World.drewN_drewN _ _ _⟩ | exact ⟨rfl, _, Eq.trans (World.drewN_drewN _ _ _) (congrArg (World.drewN _) (Nat.add_assoc _ _ _))⟩); have p265 : 0 ≤ (x3_1 : Int) := of_decide_eq_true (by first | (with_reducible assumption) | assumption); have q265 : x3_1 < (l0.length : Int) := of_decide_eq_true (by first | (with_reducible assumption) | assumption); obtain ⟨ad265, e265, hx265_0, hx265_1⟩ := at_T98 HR0.out x3_1 p265 q265; obtain rfl : ad262 = ad265 := (by injection e265); replace hx265_0 := (HB.out.cell (World.block_lt_of_cell? w _ hx265_0)).trans hx265_0; replace hx265_1 := (HB.out.cell (World.block_lt_of_cell? w _ hx265_1)).trans hx265_1; replace p265 := eq_true p265; replace q265 := eq_true q265) | (go_at_call 56; (with_reducible refine (decanterref03_Name.calls k1 ((rd_T98 l0 x3_1).f0) false _ A8.out).mono ?_); rintro e w' ⟨rfl, ⟨nd, rfl⟩⟩; (try first | exact ⟨rfl, _, World.drewN_drewN _ _ _⟩ | exact ⟨rfl, _, Eq.trans (World.drewN_drewN _ _ _) (congrArg (World.drewN _) (Nat.add_assoc _ _ _))⟩)))
                repeat (go_quiet (first | (go_at_call 82; (with_reducible refine (decanterref06_Get.calls k1 _ _ y258 ((rd_T98 l0 x3_1).f0) t263 false _ ?side1 ?side2 A5.out).mono ?_); (case side1 => repeat (first | exact (Kd.C_below HR261.out HB.out) | (with_reducible refine Kd.C_alloc ?_ _) | (with_reducible refine Kd.C_drewN ?_ _) | (with_reducible refine Kd.C_drew ?_))); (case side2 => exact HC261.out); rintro e w' ⟨rfl, ⟨nd, rfl⟩⟩; (try first | exact ⟨rfl, _, World.drewN_drewN _ _ _⟩ | exact ⟨rfl, _, Eq.trans (World.drewN_drewN _ _ _) (congrArg (World.drewN _) (Nat.add_assoc _ _ _))⟩); have p265 : 0 ≤ (x3_1 : Int) := of_decide_eq_true (by first | (with_reducible assumption) | assumption); have q265 : x3_1 < (l0.length : Int) := of_decide_eq_true (by first | (with_reducible assumption) | assumption); obtain ⟨ad265, e265, hx265_0, hx265_1⟩ := at_T98 HR0.out x3_1 p265 q265; obtain rfl : ad262 = ad265 := (by injection e265); replace hx265_0 := (HB.out.cell (World.block_lt_of_cell? w _ hx265_0)).trans hx265_0; replace hx265_1 := (HB.out.cell (World.block_lt_of_cell? w _ hx265_1)).trans hx265_1; replace p265 := eq_true p265; replace q265 := eq_true q265) | (go_at_call 56; (with_reducible refine (decanterref03_Name.calls k1 ((rd_T98 l0 x3_1).f0) false _ A8.out).mono ?_); rintro e w' ⟨rfl, ⟨nd, rfl⟩⟩; (try first | exact ⟨rfl, _, World.drewN_drewN _ _ _⟩ | exact ⟨rfl, _, Eq.trans (World.drewN_drewN _ _ _) (congrArg (World.drewN _) (Nat.add_assoc _ _ _))⟩))); try go_wp2_with (first | (go_at_call 82; (with_reducible refine (decanterref06_Get.calls k1 _ _ y258 ((rd_T98 l0 x3_1).f0) t263 false _ ?side1 ?side2 A5.out).mono ?_); (case side1 => repeat (first | exact (Kd.C_below HR261.out HB.out) | (with_reducible refine Kd.C_alloc ?_ _) | (with_reducible refine Kd.C_drewN ?_ _) | (with_reducible refine Kd.C_drew ?_))); (case side2 => exact HC261.out); rintro e w' ⟨rfl, ⟨nd, rfl⟩⟩; (try first | exact ⟨rfl, _, World.drewN_drewN _ _ _⟩ | exact ⟨rfl, _, Eq.trans (World.drewN_drewN _ _ _) (congrArg (World.drewN _) (Nat.add_assoc _ _ _))⟩); have p265 : 0 ≤ (x3_1 : Int) := of_decide_eq_true (by first | (with_reducible assumption) | assumption); have q265 : x3_1 < (l0.length : Int) := of_decide_eq_true (by first | (with_reducible assumption) | assumption); obtain ⟨ad265, e265, hx265_0, hx265_1⟩ := at_T98 HR0.out x3_1 p265 q265; obtain rfl : ad262 = ad265 := (by injection e265); replace hx265_0 := (HB.out.cell (World.block_lt_of_cell? w _ hx265_0)).trans hx265_0; replace hx265_1 := (HB.out.cell (World.block_lt_of_cell? w _ hx265_1)).trans hx265_1; replace p265 := eq_true p265; replace q265 := eq_true q265) | (go_at_call 56; (with_reducible refine (decanterref03_Name.calls k1 ((rd_T98 l0 x3_1).f0) false _ A8.out).mono ?_); rintro e w' ⟨rfl, ⟨nd, rfl⟩⟩; (try first | exact ⟨rfl, _, World.drewN_drewN _ _ _⟩ | exact ⟨rfl, _, Eq.trans (World.drewN_drewN _ _ _) (congrArg (World.drewN _) (Nat.add_assoc _ _ _))⟩))))
                go_ret
                exact ⟨by first | rfl | (simp [errW_none, errW_some] <;> rfl) | (simp [*, errW_none, errW_some] <;> rfl), by repeat (first | (with_reducible first | exact HB.out | apply below_alloc | apply pw_below_drewN | apply below_drew1) | exact HB.out)⟩
          · rw [if_neg c4] at H
            exact absurd H (by simp)
        · rw [if_neg c3] at H
          exact absurd H (by simp)
      · rw [if_neg c2] at H
        have c2b0 : decide (x3_1 < (l0.length : Int)) = false := decide_eq_false c2
        clear c2
        obtain rfl := Option.some.inj H
        go_wp2
        repeat (go_quiet (fail); try go_wp2)
        go_ret
        exact ⟨by first | rfl | (simp [errW_none, errW_some] <;> rfl) | (simp [*, errW_none, errW_some] <;> rfl), by repeat (first | (with_reducible first | exact HB.out | apply below_alloc | apply pw_below_drewN | apply below_drew1) | exact HB.out)⟩

end Go.Proofs.YteahlapoeiikoaaDoor.P

/-
  The document's attributes are the program's, about plain functions. Condition: each text and each list is of at most 2^20.
-/

namespace Go.Proofs.YteahlapoeiikoaaDoor.Pure
open P Go.RowKit Go.Proofs.YteahlapoeiikoaaDoorW.PrintWords Go.Proofs.YteahlapoeiikoaaDoorW.PrintLast
set_option linter.unusedSimpArgs false
set_option linter.unusedVariables false

/-! Names. -/
theorem digit_ref (c : Int) : decanterref03_Digit.f c = some (decide (48 ≤ c) && decide (c ≤ 57)) := by
  unfold decanterref03_Digit.f
  by_cases h : c ≥ 48
  · rw [if_pos h, decide_eq_true (show 48 ≤ c from h), Bool.true_and]
  · rw [if_neg h, decide_eq_false (show ¬ 48 ≤ c from h), Bool.false_and]
theorem name_loop (s : ByteArray) (hs : s.size ≤ 4611686018427380000) (d : Nat) : ∀ (k i : Nat), i + d = s.size → d < k → decanterref03_Name.l0 k s (i : Int) = some ((List.range' i d).all (nmOk s)) := by
  induction d with
  | zero =>
    intro k i hi hk
    obtain ⟨k, rfl⟩ : ∃ q, k = q + 1 := ⟨k - 1, by omega⟩
    rw [decanterref03_Name.l0, if_neg (by omega)]
    rfl
  | succ d ih =>
    intro k i hi hk
    obtain ⟨k, rfl⟩ : ∃ q, k = q + 1 := ⟨k - 1, by omega⟩
    rw [decanterref03_Name.l0, if_pos (by omega), if_pos (by omega)]
    have hr := bt_range s (i : Int)
    have hw : wrap64 (bt s (i : Int)) = bt s (i : Int) := wrap_id (by omega) (by omega)
    have hw1 : wrap64 ((i : Int) + 1) = ((i + 1 : Nat) : Int) := by rw [wrap_id (by omega) (by omega)]; omega
    rw [hw, hw1, ih k (i + 1) (by omega) (by omega), List.range'_succ, List.all_cons, digit_ref]
    simp only [Option.bind_some]
    unfold nmOk
    generalize bt s (i : Int) = c
    generalize (List.range' (i + 1) d).all _ = R
    have key : (if (i : Int) = 0 then some false else (if (decide (48 ≤ c) && decide (c ≤ 57)) = true then some R else if c = 45 then some R else some false)) = some ((decide (0 < i) && ((decide (48 ≤ c) && decide (c ≤ 57)) || decide (c = 45))) && R) := by
      by_cases h0 : (i : Int) = 0
      · rw [if_pos h0, decide_eq_false (show ¬ 0 < i by omega)]
        rfl
      · rw [if_neg h0, decide_eq_true (show 0 < i by omega)]
        cases decide (48 ≤ c) && decide (c ≤ 57) with
        | true => simp
        | false =>
          by_cases h45 : c = 45
          · simp [h45]
          · simp [h45]
    by_cases h1 : c ≥ 97
    · rw [if_pos h1]
      by_cases h2 : c ≤ 122
      · rw [if_pos h2, decide_eq_true (show 97 ≤ c from h1), decide_eq_true h2]
        rfl
      · rw [if_neg h2, key, decide_eq_false h2, Bool.and_false, Bool.false_or]
    · rw [if_neg h1, key, decide_eq_false (show ¬ 97 ≤ c from h1), Bool.false_and, Bool.false_or]
theorem name_ref (s : ByteArray) (hs : s.size ≤ 1048576) (k : Nat) (hk : s.size < k) : decanterref03_Name.f k s = some (nameB s) := by
  unfold decanterref03_Name.f nameB
  by_cases h : s.size = 0
  · rw [if_pos (by omega), decide_eq_false (by omega)]
    rfl
  · rw [if_neg (by omega), decide_eq_true (by omega), Bool.true_and]
    have := name_loop s (by omega) s.size k 0 (by omega) hk
    rw [List.range_eq_range']
    exact this

/-! Attributes. -/
def ofA (x : S98) : S99 := ⟨x.f0, x.f1⟩
theorem get98 (l : List S98) (i : Nat) (h : i < l.length) : rd_T98 l (i : Int) = l[i] := by
  unfold rd_T98
  rw [Int.toNat_natCast, List.getD_eq_getElem?_getD, List.getElem?_eq_getElem h]
  rfl
theorem get99 (l : List S99) (i : Nat) (h : i < l.length) : rd_T99 l (i : Int) = l[i] := by
  unfold rd_T99
  rw [Int.toNat_natCast, List.getD_eq_getElem?_getD, List.getElem?_eq_getElem h]
  rfl
theorem get_loop (l : List S98) (nm : ByteArray) (hl : l.length ≤ 4611686018427380000) (d : Nat) : ∀ (k i : Nat), i + d = l.length → d < k →
    ∃ v, decanterref06_Get.l0 k l nm (i : Int) = some (v, (l.drop i).any fun x => x.f0.toList == nm.toList) := by
  induction d with
  | zero =>
    intro k i hi hk
    obtain ⟨k, rfl⟩ : ∃ q, k = q + 1 := ⟨k - 1, by omega⟩
    rw [decanterref06_Get.l0, if_neg (by omega), List.drop_eq_nil_of_le (by omega)]
    exact ⟨_, rfl⟩
  | succ d ih =>
    intro k i hi hk
    obtain ⟨k, rfl⟩ : ∃ q, k = q + 1 := ⟨k - 1, by omega⟩
    have hw1 : wrap64 ((i : Int) + 1) = ((i + 1 : Nat) : Int) := by rw [wrap_id (by omega) (by omega)]; omega
    rw [decanterref06_Get.l0, if_pos (by omega), if_pos (by omega), get98 l i (by omega), hw1, List.drop_eq_getElem_cons (by omega), List.any_cons]
    by_cases h : l[i].f0.toList = nm.toList
    · rw [if_pos h]
      exact ⟨_, by rw [show (l[i].f0.toList == nm.toList) = true from by rw [beq_iff_eq]; exact h]; rfl⟩
    · rw [if_neg h]
      obtain ⟨v, hv⟩ := ih k (i + 1) (by omega) (by omega)
      exact ⟨v, by rw [hv, show (l[i].f0.toList == nm.toList) = false from by rw [beq_eq_false_iff_ne]; exact h]; rfl⟩
theorem get_is (l : List S98) (nm : ByteArray) (hl : l.length ≤ 1048576) (k : Nat) (hk : l.length < k) : ∃ v, decanterref06_Get.f k l nm = some (v, l.any fun x => x.f0.toList == nm.toList) := by
  obtain ⟨v, h⟩ := get_loop l nm (by omega) l.length k 0 (by omega) hk
  exact ⟨v, by simpa [decanterref06_Get.f] using h⟩
theorem of06_loop (l : List S98) (hl : l.length ≤ 1048576) (d : Nat) : ∀ (k i : Nat), i + d = l.length → d < k → decanterlaw06_Of.l0 k ((l.take i).map ofA) l (l.length : Int) (i : Int) = some (l.map ofA) := by
  induction d with
  | zero =>
    intro k i hi hk
    obtain ⟨k, rfl⟩ : ∃ q, k = q + 1 := ⟨k - 1, by omega⟩
    rw [decanterlaw06_Of.l0, if_neg (by omega), List.take_of_length_le (by omega)]
  | succ d ih =>
    intro k i hi hk
    obtain ⟨k, rfl⟩ : ∃ q, k = q + 1 := ⟨k - 1, by omega⟩
    have hw1 : wrap64 ((i : Int) + 1) = ((i + 1 : Nat) : Int) := by rw [wrap_id (by omega) (by omega)]; omega
    rw [decanterlaw06_Of.l0, if_pos (by omega), if_pos (by omega), if_pos (by omega), if_pos (by rw [List.length_map, List.length_take]; omega), get98 l i (by omega), hw1]
    have e : (l.take i).map ofA ++ [(⟨l[i].f0, l[i].f1⟩ : S99)] = (l.take (i + 1)).map ofA := by
      rw [List.take_add_one, List.getElem?_eq_getElem (by omega), List.map_append]
      rfl
    rw [e]
    exact ih k (i + 1) (by omega) (by omega)
theorem of06 (l : List S98) (hl : l.length ≤ 1048576) (k : Nat) (hk : l.length < k) : decanterlaw06_Of.f k l = some (l.map ofA) := by
  have := of06_loop l hl l.length k 0 (by omega) hk
  simpa [decanterlaw06_Of.f] using this
/-- Attributes of few bytes. -/
def SmA (l : List S98) : Prop := l.length ≤ 1048576 ∧ ∀ x ∈ l, x.f0.size ≤ 1048576 ∧ x.f1.size ≤ 1048576
def attrAt (l : List S99) (i : Nat) : Bool := (!(l.take i).any fun x => x.f0.toList == (rd_T99 l i).f0.toList) && (nameB (rd_T99 l i).f0 && wholeB (rd_T99 l i).f1)
theorem attrsB_is (l : List S99) : attrsB l = (List.range l.length).all (attrAt l) := rfl
theorem attrs_loop (l : List S98) (h : SmA l) (d : Nat) : ∀ (k i : Nat), i + d = l.length → d + 2100000 < k → decanterref21_attrs.l0 k l (i : Int) = some ((List.range' i d).all (attrAt (l.map ofA))) := by
  induction d with
  | zero =>
    intro k i hi hk
    obtain ⟨k, rfl⟩ : ∃ q, k = q + 1 := ⟨k - 1, by omega⟩
    rw [decanterref21_attrs.l0, if_neg (by omega)]
    rfl
  | succ d ih =>
    intro k i hi hk
    obtain ⟨k, rfl⟩ : ∃ q, k = q + 1 := ⟨k - 1, by omega⟩
    have hl := h.1
    have hx := h.2 l[i] (List.getElem_mem (by omega))
    have hw1 : wrap64 ((i : Int) + 1) = ((i + 1 : Nat) : Int) := by rw [wrap_id (by omega) (by omega)]; omega
    have ht : ((i : Int)).toNat = i := Int.toNat_natCast i
    obtain ⟨v, hv⟩ := get_is (l.take i) l[i].f0 (by rw [List.length_take]; omega) k (by rw [List.length_take]; omega)
    rw [decanterref21_attrs.l0, if_pos (by omega), if_pos (by omega), if_pos (by omega), get98 l i (by omega), ht, hv]
    simp only [Option.bind_some]
    rw [name_ref _ hx.1 k (by omega), hw1]
    simp only [Option.bind_some]
    rw [whole_ref _ hx.2 k (by omega)]
    simp only [Option.bind_some]
    rw [ih k (i + 1) (by omega) (by omega), List.range'_succ, List.all_cons]
    have e99 : rd_T99 (l.map ofA) (i : Int) = ofA l[i] := by rw [get99 _ i (by rw [List.length_map]; omega), List.getElem_map]
    have hany : ((l.map ofA).take i).any (fun x => x.f0.toList == (ofA l[i]).f0.toList) = (l.take i).any (fun x => x.f0.toList == l[i].f0.toList) := by
      rw [← List.map_take, List.any_map]
      rfl
    unfold attrAt
    rw [e99, hany]
    show _ = some ((_ && (nameB l[i].f0 && wholeB l[i].f1)) && _)
    generalize (l.take i).any _ = b1
    generalize nameB l[i].f0 = b2
    generalize wholeB l[i].f1 = b3
    cases b1 <;> cases b2 <;> cases b3 <;> simp
theorem attrs_ref (l : List S98) (h : SmA l) (k : Nat) (hk : 3200000 < k) : decanterref21_attrs.f k l = some (attrsB (l.map ofA)) := by
  have hl := h.1
  have := attrs_loop l h l.length k 0 (by omega) (by omega)
  unfold decanterref21_attrs.f
  rw [attrsB_is, List.range_eq_range', List.length_map]
  exact this
theorem attrs_prog (l : List S98) (h : SmA l) : fit_attrs.f (l.map ofA) = some (attrsB (l.map ofA)) := by
  unfold fit_attrs.f
  rw [if_pos]
  unfold okAttrs
  rw [List.all_map, List.all_eq_true]
  intro x hx
  have := h.2 x hx
  have hm : maxLen = 9223372036854775807 := rfl
  simp only [Function.comp_apply, Bool.and_eq_true, decide_eq_true_eq]
  exact ⟨by show x.f0.size ≤ maxLen; omega, by show x.f1.size ≤ maxLen; omega⟩
end Go.Proofs.YteahlapoeiikoaaDoor.Pure


-- Printed by a program of this session (wip/myprint.py over the kit's print).
namespace Go.Proofs.YteahlapoeiikoaaDoor.P
open Go.RowKit Go.Proofs.YteahlapoeiikoaaDoorW.PrintWords Go.Proofs.YteahlapoeiikoaaDoorW.PrintLast Go.Proofs.YteahlapoeiikoaaDoorW.PrintMore
attribute [local go_sem] max2_int min2_int max_two min_two max_three min_three max_four min_four   -- for this text's walks alone
set_option linter.unusedVariables false
set_option linter.unusedSimpArgs false

/-! ### fit_In: function 18 -/
mutual
def fit_In.j0 : Nat → List ByteArray → ByteArray → ByteArray → Option (Bool)
  | 0, _, _, _ => none
  | k + 1, x0, x1, x5 => (kind_Is.f x1 2).bind fun t125 => (if t125 = true then ((slices_Contains_string_string.f k x0 (⟨#[112]⟩ : ByteArray)).bind fun t126 => (fit_In.j1 k x0 x1 x5 t126)) else (fit_In.j1 k x0 x1 x5 false))
def fit_In.j1 : Nat → List ByteArray → ByteArray → ByteArray → Bool → Option (Bool)
  | 0, _, _, _, _ => none
  | k + 1, x0, x1, x5, x15 => if x15 = true then (some false) else ((kind_Is.f x1 4).bind fun t127 => (if t127 = true then ((kind_Is.f x5 4).bind fun t128 => (fit_In.j2 k x0 x1 t128)) else (fit_In.j2 k x0 x1 false)))
def fit_In.j2 : Nat → List ByteArray → ByteArray → Bool → Option (Bool)
  | 0, _, _, _ => none
  | k + 1, x0, x1, x22 => if x22 = true then (some false) else ((fit_nested.f x0 x1).bind fun t129 => (if t129 = true then (some false) else (if x1.toList = ([97] : List UInt8) then ((slices_Contains_string_string.f k x0 (⟨#[97]⟩ : ByteArray)).bind fun t130 => (if t130 = true then (some false) else (some true))) else (some true))))
end
def fit_In.f (k : Nat) (l0 : List ByteArray) (a1 : ByteArray) : Option (Bool) := if (l0.length : Int) > 0 then (if 0 ≤ (wrap64 ((l0.length : Int) - 1)) then (if (wrap64 ((l0.length : Int) - 1)) < (l0.length : Int) then (fit_In.j0 k l0 a1 (rdOf ByteArray.empty l0 (wrap64 ((l0.length : Int) - 1)))) else (none)) else (none)) else (fit_In.j0 k l0 a1 (⟨#[]⟩ : ByteArray))
set_option maxHeartbeats 8000000 in
set_option maxRecDepth 100000 in
theorem fit_In.calls (k : Nat) (A0 : Option Addr) (c0 : Nat) (l0 : List ByteArray) (a1 : ByteArray) (r : Bool) (w : World) (hr0 : Kd.C Kd.string w A0 l0.length l0) (hc0 : l0.length ≤ c0) (hG : GW w) (h : fit_In.f k l0 a1 = some r) :
    Calls Tryd.prog 18 #[.slice A0 l0.length c0, .string a1] w fun e w' => e = .returned (.bool r) ∧ Below w.heap.size w w' := by
  have HR0 := Aside0.mk hr0
  have HC0 := Aside0.mk hc0
  clear hr0 hc0
  have HG := Aside0.mk hG
  clear hG
  have HB := Aside0.mk (Below.refl w.heap.size w)
  have H : (if (l0.length : Int) > 0 then (if 0 ≤ (wrap64 ((l0.length : Int) - 1)) then (if (wrap64 ((l0.length : Int) - 1)) < (l0.length : Int) then (fit_In.j0 k l0 a1 (rdOf ByteArray.empty l0 (wrap64 ((l0.length : Int) - 1)))) else (none)) else (none)) else (fit_In.j0 k l0 a1 (⟨#[]⟩ : ByteArray))) = some r := h
  clear h
  have HC3 := Aside0.mk H
  clear H
  go_enter Tryd.func18, Tryd.ntmps18
  go_upto_if 8 with (fail)
  go_cut [5] (fun v5 wc => ∃ (kq : Nat) (x5_2 : ByteArray), v5 = .string x5_2 ∧ Aside0 (fit_In.j0 kq l0 a1 x5_2 = some r) ∧ Aside0 (kq ≤ k) ∧ Aside0 (Below w.heap.size w wc))
  case first =>
    have H := HC3.out
    clear HC3
    by_cases c4 : (l0.length : Int) > 0
    · rw [if_pos c4] at H
      have c4b0 : decide (0 < (l0.length : Int)) = true := decide_eq_true c4
      have c4b1 : decide (0 < l0.length) = true := decide_eq_true (by omega)
      clear c4
      (first | rw [c4b0] | (simp only [i64_w, i32_w]; rw [c4b0]) | rw [c4b1] | skip)
      obtain ⟨ji5, hji5⟩ : ∃ j_ : Int, (wrap64 ((l0.length : Int) - 1)) = j_ := ⟨_, rfl⟩
      replace H : (if 0 ≤ (ji5) then (if (ji5) < (l0.length : Int) then (fit_In.j0 k l0 a1 (rdOf ByteArray.empty l0 (ji5))) else (none)) else (none)) = some r := by first | (rw [hji5] at H; exact H) | (simp only [hji5] at H ⊢; exact H)
      have hji5w : (IntKind.i64.wrap ((l0.length : Int) - 1)) = ji5 := (i64_w _).trans hji5
      by_cases c6 : 0 ≤ (ji5)
      · rw [if_pos c6] at H
        have c6b0 : decide (0 ≤ (ji5)) = true := decide_eq_true c6
        clear c6
        by_cases c7 : (ji5) < (l0.length : Int)
        · rw [if_pos c7] at H
          have c7b0 : decide ((ji5) < (l0.length : Int)) = true := decide_eq_true c7
          clear c7
          have H' := Aside0.mk H
          clear H
          have p124 : 0 ≤ ((ji5) : Int) := of_decide_eq_true (by first | (with_reducible assumption) | assumption)
          have q124 : (ji5) < (l0.length : Int) := of_decide_eq_true (by first | (with_reducible assumption) | assumption)
          obtain ⟨ad124, e124, hx124_0⟩ := Kd.at_string HR0.out (ji5) p124 q124
          cases e124
          replace hx124_0 := (HB.out.cell (World.block_lt_of_cell? w _ hx124_0)).trans hx124_0
          replace p124 := eq_true p124
          replace q124 := eq_true q124
          go_wp2
          go_meet
          case rel => exact ⟨_, (rdOf ByteArray.empty l0 (ji5)), (by first | rfl | (simp; done) | (simp only [← hji5] <;> (first | rfl | simp)) | (simp [*]; done)), H', ⟨by first | omega | exact Nat.le_refl _⟩, ⟨by repeat (first | (with_reducible first | exact HB.out | apply below_alloc | apply pw_below_drewN | apply below_drew1) | exact HB.out)⟩⟩
        · rw [if_neg c7] at H
          exact absurd H (by simp)
      · rw [if_neg c6] at H
        exact absurd H (by simp)
    · rw [if_neg c4] at H
      have c4b0 : decide (0 < (l0.length : Int)) = false := decide_eq_false c4
      have c4b1 : decide (0 < l0.length) = false := decide_eq_false (by omega)
      clear c4
      (first | rw [c4b0] | (simp only [i64_w, i32_w]; rw [c4b0]) | rw [c4b1] | skip)
      have H' := Aside0.mk H
      clear H
      go_wp2
      go_meet
      case rel => exact ⟨_, ((⟨#[]⟩ : ByteArray)), (by first | rfl | (simp; done) | (simp [*]; done)), H', ⟨by first | omega | exact Nat.le_refl _⟩, ⟨by repeat (first | (with_reducible first | exact HB.out | apply below_alloc | apply pw_below_drewN | apply below_drew1) | exact HB.out)⟩⟩
  case rest =>
    clear HC3
    try clear c1
    try clear p1
    try clear q1
    try clear hx1
    try clear p2
    try clear c4
    try clear c4b0
    try clear c4b1
    try clear c6
    try clear c6b0
    try clear p6
    try clear c7
    try clear c7b0
    try clear hx124_0
    try clear p124
    try clear q124
    obtain ⟨kq, x5_2, rfl, HA, HJ2, HB⟩ := hcut
    cases kq with
    | zero => exact absurd HA.out (by simp [fit_In.j0])
    | succ kj2 =>
      have H := HA.out
      clear HA
      simp only [fit_In.j0] at H
      have HC8 := Aside0.mk H
      clear H
      go_upto_region 5 with (fail)
      go_cut [15] (fun v15 wc => ∃ (kq : Nat) (x15_7 : Bool), v15 = .bool x15_7 ∧ Aside0 (fit_In.j1 kq l0 a1 x5_2 x15_7 = some r) ∧ Aside0 (kq ≤ kj2) ∧ Aside0 (Below w.heap.size w wc))
      case first =>
        have H := HC8.out
        clear HC8
        replace H := Option.bind_eq_some_iff.mp H
        obtain ⟨t125, A90, H⟩ := H
        replace H : (if t125 = true then ((slices_Contains_string_string.f kj2 l0 (⟨#[112]⟩ : ByteArray)).bind fun t126 => (fit_In.j1 kj2 l0 a1 x5_2 t126)) else (fit_In.j1 kj2 l0 a1 x5_2 false)) = some r := H
        have A9 := Aside0.mk A90
        clear A90
        by_cases c10 : t125 = true
        · subst c10
          have H1 : ((slices_Contains_string_string.f kj2 l0 (⟨#[112]⟩ : ByteArray)).bind fun t126 => (fit_In.j1 kj2 l0 a1 x5_2 t126)) = some r := by rw [if_pos rfl] at H; exact H
          clear H
          have H := H1
          clear H1
          replace H := Option.bind_eq_some_iff.mp H
          obtain ⟨t126, A110, H⟩ := H
          replace H : (fit_In.j1 kj2 l0 a1 x5_2 t126) = some r := H
          have A11 := Aside0.mk A110
          clear A110
          have H' := Aside0.mk H
          clear H
          go_wp2_with (first | ((with_reducible refine gate_callee (f := 16) rfl ?_); refine goesL_ (some 17) rfl rfl Tryd.func16 (by kernel_rfl) rfl #[.string a1, .int .i64 2] rfl (by (try simp only [List.map_toArray, List.map_cons, List.map_nil]); first | done | rfl | (simp only [List.length_drop, List.length_take]; rfl)) ?_; (with_reducible refine (kind_Is.calls a1 2 true _ ?side1 A9.out).mono ?_); (case side1 => exact GW.below HG.out (by repeat (first | (with_reducible first | exact HB.out | apply below_alloc | apply pw_below_drewN | apply below_drew1) | exact HB.out))); rintro e w12 ⟨rfl, hb⟩; refine ⟨_, rfl, ?_⟩; have n0_ := Aside0.mk (below_step (by repeat (first | (with_reducible first | exact HB.out | apply below_alloc | apply pw_below_drewN | apply below_drew1) | exact HB.out)) hb); clear HB; have HB := n0_; clear n0_; (try clear hb); (try clear hb2); (try clear hk); (try clear hi)) | (go_at_call 36; (with_reducible refine (slices_Contains_string_string.calls kj2 _ _ l0 (⟨#[112]⟩ : ByteArray) t126 _ ?side1 ?side2 A11.out).mono ?_); (case side1 => repeat (first | exact (Kd.C_below HR0.out HB.out) | (with_reducible refine Kd.C_alloc ?_ _) | (with_reducible refine Kd.C_drewN ?_ _) | (with_reducible refine Kd.C_drew ?_))); (case side2 => exact HC0.out); rintro e w' ⟨rfl, ⟨nd, rfl⟩⟩))
          go_meet
          case rel => exact ⟨_, (t126), (by first | rfl | (simp; done) | (simp [*]; done)), H', ⟨by have := HJ2.out; first | omega | exact Nat.le_refl _⟩, ⟨by repeat (first | (with_reducible first | exact HB.out | apply below_alloc | apply pw_below_drewN | apply below_drew1) | exact HB.out)⟩⟩
        · replace c10 := Bool.eq_false_iff.mpr c10
          subst c10
          have H1 : (fit_In.j1 kj2 l0 a1 x5_2 false) = some r := by rw [if_neg (show ¬ (false = true) by decide)] at H; exact H
          clear H
          have H := H1
          clear H1
          have H' := Aside0.mk H
          clear H
          go_wp2_with (first | ((with_reducible refine gate_callee (f := 16) rfl ?_); refine goesL_ (some 17) rfl rfl Tryd.func16 (by kernel_rfl) rfl #[.string a1, .int .i64 2] rfl (by (try simp only [List.map_toArray, List.map_cons, List.map_nil]); first | done | rfl | (simp only [List.length_drop, List.length_take]; rfl)) ?_; (with_reducible refine (kind_Is.calls a1 2 false _ ?side1 A9.out).mono ?_); (case side1 => exact GW.below HG.out (by repeat (first | (with_reducible first | exact HB.out | apply below_alloc | apply pw_below_drewN | apply below_drew1) | exact HB.out))); rintro e w13 ⟨rfl, hb⟩; refine ⟨_, rfl, ?_⟩; have n0_ := Aside0.mk (below_step (by repeat (first | (with_reducible first | exact HB.out | apply below_alloc | apply pw_below_drewN | apply below_drew1) | exact HB.out)) hb); clear HB; have HB := n0_; clear n0_; (try clear hb); (try clear hb2); (try clear hk); (try clear hi)))
          go_meet
          case rel => exact ⟨_, (false), (by first | rfl | (simp; done) | (simp [*]; done)), H', ⟨by have := HJ2.out; first | omega | exact Nat.le_refl _⟩, ⟨by repeat (first | (with_reducible first | exact HB.out | apply below_alloc | apply pw_below_drewN | apply below_drew1) | exact HB.out)⟩⟩
      case rest =>
        clear HC8
        try clear c1
        try clear p1
        try clear q1
        try clear hx1
        try clear p2
        try clear c4
        try clear c4b0
        try clear c4b1
        try clear c6
        try clear c6b0
        try clear p6
        try clear c7
        try clear c7b0
        try clear c10
        try clear p12
        try clear q12
        try clear hx12
        try clear hx124_0
        try clear p1
        try clear p124
        try clear p2
        try clear p6
        try clear q1
        try clear q124
        obtain ⟨kq, x15_7, rfl, HA, HJ7, HB⟩ := hcut
        cases kq with
        | zero => exact absurd HA.out (by simp [fit_In.j1])
        | succ kj7 =>
          have H := HA.out
          clear HA
          simp only [fit_In.j1] at H
          by_cases c14 : x15_7 = true
          · subst c14
            have H1 : (some false) = some r := by rw [if_pos rfl] at H; exact H
            clear H
            have H := H1
            clear H1
            obtain rfl := Option.some.inj H
            go_wp2
            go_ret
            exact ⟨by first | rfl | (simp [errW_none, errW_some] <;> rfl) | (simp [*, errW_none, errW_some] <;> rfl), by repeat (first | (with_reducible first | exact HB.out | apply below_alloc | apply pw_below_drewN | apply below_drew1) | exact HB.out)⟩
          · replace c14 := Bool.eq_false_iff.mpr c14
            subst c14
            have H1 : ((kind_Is.f a1 4).bind fun t127 => (if t127 = true then ((kind_Is.f x5_2 4).bind fun t128 => (fit_In.j2 kj7 l0 a1 t128)) else (fit_In.j2 kj7 l0 a1 false))) = some r := by rw [if_neg (show ¬ (false = true) by decide)] at H; exact H
            clear H
            have H := H1
            clear H1
            have HC15 := Aside0.mk H
            clear H
            go_upto_region 6 with (fail)
            go_cut [22] (fun v22 wc => ∃ (kq : Nat) (x22_14 : Bool), v22 = .bool x22_14 ∧ Aside0 (fit_In.j2 kq l0 a1 x22_14 = some r) ∧ Aside0 (kq ≤ kj7) ∧ Aside0 (Below w.heap.size w wc))
            case first =>
              have H := HC15.out
              clear HC15
              replace H := Option.bind_eq_some_iff.mp H
              obtain ⟨t127, A160, H⟩ := H
              replace H : (if t127 = true then ((kind_Is.f x5_2 4).bind fun t128 => (fit_In.j2 kj7 l0 a1 t128)) else (fit_In.j2 kj7 l0 a1 false)) = some r := H
              have A16 := Aside0.mk A160
              clear A160
              by_cases c17 : t127 = true
              · subst c17
                have H1 : ((kind_Is.f x5_2 4).bind fun t128 => (fit_In.j2 kj7 l0 a1 t128)) = some r := by rw [if_pos rfl] at H; exact H
                clear H
                have H := H1
                clear H1
                replace H := Option.bind_eq_some_iff.mp H
                obtain ⟨t128, A180, H⟩ := H
                replace H : (fit_In.j2 kj7 l0 a1 t128) = some r := H
                have A18 := Aside0.mk A180
                clear A180
                have H' := Aside0.mk H
                clear H
                go_wp2_with (first | ((with_reducible refine gate_callee (f := 16) rfl ?_); refine goesL_ (some 24) rfl rfl Tryd.func16 (by kernel_rfl) rfl #[.string a1, .int .i64 4] rfl (by (try simp only [List.map_toArray, List.map_cons, List.map_nil]); first | done | rfl | (simp only [List.length_drop, List.length_take]; rfl)) ?_; (with_reducible refine (kind_Is.calls a1 4 true _ ?side1 A16.out).mono ?_); (case side1 => exact GW.below HG.out (by repeat (first | (with_reducible first | exact HB.out | apply below_alloc | apply pw_below_drewN | apply below_drew1) | exact HB.out))); rintro e w19 ⟨rfl, hb⟩; refine ⟨_, rfl, ?_⟩; have n0_ := Aside0.mk (below_step (by repeat (first | (with_reducible first | exact HB.out | apply below_alloc | apply pw_below_drewN | apply below_drew1) | exact HB.out)) hb); clear HB; have HB := n0_; clear n0_; (try clear hb); (try clear hb2); (try clear hk); (try clear hi)) | (go_at_call 16; (with_reducible refine (kind_Is.calls x5_2 4 t128 _ ?side1 A18.out).mono ?_); (case side1 => exact GW.below HG.out (by repeat (first | (with_reducible first | exact HB.out | apply below_alloc | apply pw_below_drewN | apply below_drew1) | exact HB.out))); rintro e w20 ⟨rfl, hb⟩; have n0_ := Aside0.mk (below_step (by repeat (first | (with_reducible first | exact HB.out | apply below_alloc | apply pw_below_drewN | apply below_drew1) | exact HB.out)) hb); clear HB; have HB := n0_; clear n0_; (try clear hb); (try clear hb2); (try clear hk); (try clear hi)))
                go_meet
                case rel => exact ⟨_, (t128), (by first | rfl | (simp; done) | (simp [*]; done)), H', ⟨by have := HJ2.out; have := HJ7.out; first | omega | exact Nat.le_refl _⟩, ⟨by repeat (first | (with_reducible first | exact HB.out | apply below_alloc | apply pw_below_drewN | apply below_drew1) | exact HB.out)⟩⟩
              · replace c17 := Bool.eq_false_iff.mpr c17
                subst c17
                have H1 : (fit_In.j2 kj7 l0 a1 false) = some r := by rw [if_neg (show ¬ (false = true) by decide)] at H; exact H
                clear H
                have H := H1
                clear H1
                have H' := Aside0.mk H
                clear H
                go_wp2_with (first | ((with_reducible refine gate_callee (f := 16) rfl ?_); refine goesL_ (some 24) rfl rfl Tryd.func16 (by kernel_rfl) rfl #[.string a1, .int .i64 4] rfl (by (try simp only [List.map_toArray, List.map_cons, List.map_nil]); first | done | rfl | (simp only [List.length_drop, List.length_take]; rfl)) ?_; (with_reducible refine (kind_Is.calls a1 4 false _ ?side1 A16.out).mono ?_); (case side1 => exact GW.below HG.out (by repeat (first | (with_reducible first | exact HB.out | apply below_alloc | apply pw_below_drewN | apply below_drew1) | exact HB.out))); rintro e w21 ⟨rfl, hb⟩; refine ⟨_, rfl, ?_⟩; have n0_ := Aside0.mk (below_step (by repeat (first | (with_reducible first | exact HB.out | apply below_alloc | apply pw_below_drewN | apply below_drew1) | exact HB.out)) hb); clear HB; have HB := n0_; clear n0_; (try clear hb); (try clear hb2); (try clear hk); (try clear hi)))
                go_meet
                case rel => exact ⟨_, (false), (by first | rfl | (simp; done) | (simp [*]; done)), H', ⟨by have := HJ2.out; have := HJ7.out; first | omega | exact Nat.le_refl _⟩, ⟨by repeat (first | (with_reducible first | exact HB.out | apply below_alloc | apply pw_below_drewN | apply below_drew1) | exact HB.out)⟩⟩
            case rest =>
              clear HC15
              try clear c1
              try clear p1
              try clear q1
              try clear hx1
              try clear p2
              try clear c4
              try clear c4b0
              try clear c4b1
              try clear c6
              try clear c6b0
              try clear p6
              try clear c7
              try clear c7b0
              try clear c10
              try clear p12
              try clear q12
              try clear hx12
              try clear c14
              try clear c16
              try clear c17
              try clear c18
              try clear hx124_0
              try clear p1
              try clear p12
              try clear p124
              try clear p2
              try clear p6
              try clear q1
              try clear q12
              try clear q124
              obtain ⟨kq, x22_14, rfl, HA, HJ14, HB⟩ := hcut
              cases kq with
              | zero => exact absurd HA.out (by simp [fit_In.j2])
              | succ kj14 =>
                have H := HA.out
                clear HA
                simp only [fit_In.j2] at H
                by_cases c22 : x22_14 = true
                · subst c22
                  have H1 : (some false) = some r := by rw [if_pos rfl] at H; exact H
                  clear H
                  have H := H1
                  clear H1
                  obtain rfl := Option.some.inj H
                  go_wp2
                  go_ret
                  exact ⟨by first | rfl | (simp [errW_none, errW_some] <;> rfl) | (simp [*, errW_none, errW_some] <;> rfl), by repeat (first | (with_reducible first | exact HB.out | apply below_alloc | apply pw_below_drewN | apply below_drew1) | exact HB.out)⟩
                · replace c22 := Bool.eq_false_iff.mpr c22
                  subst c22
                  have H1 : ((fit_nested.f l0 a1).bind fun t129 => (if t129 = true then (some false) else (if a1.toList = ([97] : List UInt8) then ((slices_Contains_string_string.f kj14 l0 (⟨#[97]⟩ : ByteArray)).bind fun t130 => (if t130 = true then (some false) else (some true))) else (some true)))) = some r := by rw [if_neg (show ¬ (false = true) by decide)] at H; exact H
                  clear H
                  have H := H1
                  clear H1
                  replace H := Option.bind_eq_some_iff.mp H
                  obtain ⟨t129, A230, H⟩ := H
                  replace H : (if t129 = true then (some false) else (if a1.toList = ([97] : List UInt8) then ((slices_Contains_string_string.f kj14 l0 (⟨#[97]⟩ : ByteArray)).bind fun t130 => (if t130 = true then (some false) else (some true))) else (some true))) = some r := H
                  have A23 := Aside0.mk A230
                  clear A230
                  by_cases c24 : t129 = true
                  · subst c24
                    have H1 : (some false) = some r := by rw [if_pos rfl] at H; exact H
                    clear H
                    have H := H1
                    clear H1
                    obtain rfl := Option.some.inj H
                    go_wp2_with (first | ((with_reducible refine gate_callee (f := 37) rfl ?_); refine goesL_ (some 32) rfl rfl Tryd.func37 (by kernel_rfl) rfl #[.slice A0 l0.length c0, .string a1] rfl (by (try simp only [List.map_toArray, List.map_cons, List.map_nil]); first | done | rfl | (simp only [List.length_drop, List.length_take]; rfl)) ?_; (with_reducible refine (fit_nested.calls _ _ l0 a1 true _ ?side1 ?side2 ?side3 A23.out).mono ?_); (case side1 => repeat (first | exact (Kd.C_below HR0.out HB.out) | (with_reducible refine Kd.C_alloc ?_ _) | (with_reducible refine Kd.C_drewN ?_ _) | (with_reducible refine Kd.C_drew ?_))); (case side2 => exact HC0.out); (case side3 => exact GW.below HG.out (by repeat (first | (with_reducible first | exact HB.out | apply below_alloc | apply pw_below_drewN | apply below_drew1) | exact HB.out))); rintro e w25 ⟨rfl, hb⟩; refine ⟨_, rfl, ?_⟩; have n0_ := Aside0.mk (below_step (by repeat (first | (with_reducible first | exact HB.out | apply below_alloc | apply pw_below_drewN | apply below_drew1) | exact HB.out)) hb); clear HB; have HB := n0_; clear n0_; (try clear hb); (try clear hb2); (try clear hk); (try clear hi)))
                    go_ret
                    exact ⟨by first | rfl | (simp [errW_none, errW_some] <;> rfl) | (simp [*, errW_none, errW_some] <;> rfl), by repeat (first | (with_reducible first | exact HB.out | apply below_alloc | apply pw_below_drewN | apply below_drew1) | exact HB.out)⟩
                  · replace c24 := Bool.eq_false_iff.mpr c24
                    subst c24
                    have H1 : (if a1.toList = ([97] : List UInt8) then ((slices_Contains_string_string.f kj14 l0 (⟨#[97]⟩ : ByteArray)).bind fun t130 => (if t130 = true then (some false) else (some true))) else (some true)) = some r := by rw [if_neg (show ¬ (false = true) by decide)] at H; exact H
                    clear H
                    have H := H1
                    clear H1
                    by_cases c26 : a1.toList = ([97] : List UInt8)
                    · rw [if_pos c26] at H
                      have c26b0 : (a1.toList == ([97] : List UInt8)) = true := beq_iff_eq.mpr c26
                      have c26b1 : (a1.toList != ([97] : List UInt8)) = false := bne_eq_false_iff_eq.mpr c26
                      clear c26
                      replace H := Option.bind_eq_some_iff.mp H
                      obtain ⟨t130, A270, H⟩ := H
                      replace H : (if t130 = true then (some false) else (some true)) = some r := H
                      have A27 := Aside0.mk A270
                      clear A270
                      by_cases c28 : t130 = true
                      · subst c28
                        have H1 : (some false) = some r := by rw [if_pos rfl] at H; exact H
                        clear H
                        have H := H1
                        clear H1
                        obtain rfl := Option.some.inj H
                        go_wp2_with (first | ((with_reducible refine gate_callee (f := 37) rfl ?_); refine goesL_ (some 32) rfl rfl Tryd.func37 (by kernel_rfl) rfl #[.slice A0 l0.length c0, .string a1] rfl (by (try simp only [List.map_toArray, List.map_cons, List.map_nil]); first | done | rfl | (simp only [List.length_drop, List.length_take]; rfl)) ?_; (with_reducible refine (fit_nested.calls _ _ l0 a1 false _ ?side1 ?side2 ?side3 A23.out).mono ?_); (case side1 => repeat (first | exact (Kd.C_below HR0.out HB.out) | (with_reducible refine Kd.C_alloc ?_ _) | (with_reducible refine Kd.C_drewN ?_ _) | (with_reducible refine Kd.C_drew ?_))); (case side2 => exact HC0.out); (case side3 => exact GW.below HG.out (by repeat (first | (with_reducible first | exact HB.out | apply below_alloc | apply pw_below_drewN | apply below_drew1) | exact HB.out))); rintro e w29 ⟨rfl, hb⟩; refine ⟨_, rfl, ?_⟩; have n0_ := Aside0.mk (below_step (by repeat (first | (with_reducible first | exact HB.out | apply below_alloc | apply pw_below_drewN | apply below_drew1) | exact HB.out)) hb); clear HB; have HB := n0_; clear n0_; (try clear hb); (try clear hb2); (try clear hk); (try clear hi)) | (go_at_call 36; (with_reducible refine (slices_Contains_string_string.calls kj14 _ _ l0 (⟨#[97]⟩ : ByteArray) true _ ?side1 ?side2 A27.out).mono ?_); (case side1 => repeat (first | exact (Kd.C_below HR0.out HB.out) | (with_reducible refine Kd.C_alloc ?_ _) | (with_reducible refine Kd.C_drewN ?_ _) | (with_reducible refine Kd.C_drew ?_))); (case side2 => exact HC0.out); rintro e w' ⟨rfl, ⟨nd, rfl⟩⟩))
                        go_ret
                        exact ⟨by first | rfl | (simp [errW_none, errW_some] <;> rfl) | (simp [*, errW_none, errW_some] <;> rfl), by repeat (first | (with_reducible first | exact HB.out | apply below_alloc | apply pw_below_drewN | apply below_drew1) | exact HB.out)⟩
                      · replace c28 := Bool.eq_false_iff.mpr c28
                        subst c28
                        have H1 : (some true) = some r := by rw [if_neg (show ¬ (false = true) by decide)] at H; exact H
                        clear H
                        have H := H1
                        clear H1
                        obtain rfl := Option.some.inj H
                        go_wp2_with (first | ((with_reducible refine gate_callee (f := 37) rfl ?_); refine goesL_ (some 32) rfl rfl Tryd.func37 (by kernel_rfl) rfl #[.slice A0 l0.length c0, .string a1] rfl (by (try simp only [List.map_toArray, List.map_cons, List.map_nil]); first | done | rfl | (simp only [List.length_drop, List.length_take]; rfl)) ?_; (with_reducible refine (fit_nested.calls _ _ l0 a1 false _ ?side1 ?side2 ?side3 A23.out).mono ?_); (case side1 => repeat (first | exact (Kd.C_below HR0.out HB.out) | (with_reducible refine Kd.C_alloc ?_ _) | (with_reducible refine Kd.C_drewN ?_ _) | (with_reducible refine Kd.C_drew ?_))); (case side2 => exact HC0.out); (case side3 => exact GW.below HG.out (by repeat (first | (with_reducible first | exact HB.out | apply below_alloc | apply pw_below_drewN | apply below_drew1) | exact HB.out))); rintro e w30 ⟨rfl, hb⟩; refine ⟨_, rfl, ?_⟩; have n0_ := Aside0.mk (below_step (by repeat (first | (with_reducible first | exact HB.out | apply below_alloc | apply pw_below_drewN | apply below_drew1) | exact HB.out)) hb); clear HB; have HB := n0_; clear n0_; (try clear hb); (try clear hb2); (try clear hk); (try clear hi)) | (go_at_call 36; (with_reducible refine (slices_Contains_string_string.calls kj14 _ _ l0 (⟨#[97]⟩ : ByteArray) false _ ?side1 ?side2 A27.out).mono ?_); (case side1 => repeat (first | exact (Kd.C_below HR0.out HB.out) | (with_reducible refine Kd.C_alloc ?_ _) | (with_reducible refine Kd.C_drewN ?_ _) | (with_reducible refine Kd.C_drew ?_))); (case side2 => exact HC0.out); rintro e w' ⟨rfl, ⟨nd, rfl⟩⟩))
                        go_ret
                        exact ⟨by first | rfl | (simp [errW_none, errW_some] <;> rfl) | (simp [*, errW_none, errW_some] <;> rfl), by repeat (first | (with_reducible first | exact HB.out | apply below_alloc | apply pw_below_drewN | apply below_drew1) | exact HB.out)⟩
                    · rw [if_neg c26] at H
                      have c26b0 : (a1.toList == ([97] : List UInt8)) = false := beq_eq_false_iff_ne.mpr c26
                      have c26b1 : (a1.toList != ([97] : List UInt8)) = true := bne_iff_ne.mpr c26
                      obtain rfl := Option.some.inj H
                      go_wp2_with (first | ((with_reducible refine gate_callee (f := 37) rfl ?_); refine goesL_ (some 32) rfl rfl Tryd.func37 (by kernel_rfl) rfl #[.slice A0 l0.length c0, .string a1] rfl (by (try simp only [List.map_toArray, List.map_cons, List.map_nil]); first | done | rfl | (simp only [List.length_drop, List.length_take]; rfl)) ?_; (with_reducible refine (fit_nested.calls _ _ l0 a1 false _ ?side1 ?side2 ?side3 A23.out).mono ?_); (case side1 => repeat (first | exact (Kd.C_below HR0.out HB.out) | (with_reducible refine Kd.C_alloc ?_ _) | (with_reducible refine Kd.C_drewN ?_ _) | (with_reducible refine Kd.C_drew ?_))); (case side2 => exact HC0.out); (case side3 => exact GW.below HG.out (by repeat (first | (with_reducible first | exact HB.out | apply below_alloc | apply pw_below_drewN | apply below_drew1) | exact HB.out))); rintro e w31 ⟨rfl, hb⟩; refine ⟨_, rfl, ?_⟩; have n0_ := Aside0.mk (below_step (by repeat (first | (with_reducible first | exact HB.out | apply below_alloc | apply pw_below_drewN | apply below_drew1) | exact HB.out)) hb); clear HB; have HB := n0_; clear n0_; (try clear hb); (try clear hb2); (try clear hk); (try clear hi)))
                      go_ret
                      exact ⟨by first | rfl | (simp [errW_none, errW_some] <;> rfl) | (simp [*, errW_none, errW_some] <;> rfl), by repeat (first | (with_reducible first | exact HB.out | apply below_alloc | apply pw_below_drewN | apply below_drew1) | exact HB.out)⟩

end Go.Proofs.YteahlapoeiikoaaDoor.P

/-
  fit.In and the document's In, as plain functions of lists. Conditions: sizes alone.
-/

namespace Go.Proofs.YteahlapoeiikoaaDoor.Pure
open Go.RowKit Go.Proofs.YteahlapoeiikoaaDoor.P Go.Proofs.YteahlapoeiikoaaDoorW.PrintWords Go.Proofs.YteahlapoeiikoaaDoorW.PrintLast

/-- Is a name of the i-th kind? -/
def kB (x : ByteArray) (i : Nat) : Bool := decide (x.data.toList ∈ words i)

theorem sum_bits (l : List UInt8) : ∃ b : Nat → Nat, (∀ i, b i = if l ∈ words i then 1 else 0) ∧
    sumF 10 0 l = b 0 + 2 * b 1 + 4 * b 2 + 8 * b 3 + 16 * b 4 + 32 * b 5 + 64 * b 6 + 128 * b 7 + 256 * b 8 + 512 * b 9 := by
  refine ⟨fun i => if l ∈ words i then 1 else 0, fun _ => rfl, ?_⟩
  have e : ∀ (i : Nat) (c : Int), (if l ∈ words i then c else 0) = c * ((if l ∈ words i then 1 else 0 : Nat) : Int) := by
    intro i c
    split <;> simp
  simp only [sumF, e, Nat.zero_add, Nat.reduceAdd, Int.reducePow]
  generalize (if l ∈ words 0 then 1 else 0 : Nat) = b0
  generalize (if l ∈ words 1 then 1 else 0 : Nat) = b1
  generalize (if l ∈ words 2 then 1 else 0 : Nat) = b2
  generalize (if l ∈ words 3 then 1 else 0 : Nat) = b3
  generalize (if l ∈ words 4 then 1 else 0 : Nat) = b4
  generalize (if l ∈ words 5 then 1 else 0 : Nat) = b5
  generalize (if l ∈ words 6 then 1 else 0 : Nat) = b6
  generalize (if l ∈ words 7 then 1 else 0 : Nat) = b7
  generalize (if l ∈ words 8 then 1 else 0 : Nat) = b8
  generalize (if l ∈ words 9 then 1 else 0 : Nat) = b9
  omega

theorem and_pow (n i : Nat) : (n &&& 2 ^ i != 0) = n.testBit i := by
  rw [Bool.eq_iff_iff, bne_iff_ne]
  constructor
  · intro h
    rcases hb : n.testBit i with _ | _
    · exfalso
      refine h (Nat.eq_of_testBit_eq fun j => ?_)
      rw [Nat.testBit_and, Nat.testBit_two_pow, Nat.zero_testBit]
      by_cases hj : i = j
      · subst hj; simp [hb]
      · simp [hj]
    · rfl
  · intro h e
    have h1 : (n &&& 2 ^ i).testBit i = true := by
      rw [Nat.testBit_and, Nat.testBit_two_pow, h]
      simp
    rw [e, Nat.zero_testBit] at h1
    cases h1

theorem is_bit (x : ByteArray) (hx : x.size ≤ maxLen) (i : Nat) (hi : i < 10) : kind_Is.f x (2 ^ i) = some (kB x i) := by
  rw [kind_Is.f, if_pos hx, and_1023 _ _ (kind_range x).1 (kind_range x).2]
  congr 1
  have hr := kind_range x
  rw [and_small _ _ hr.1 hr.2]
  have h2 : (BitVec.ofInt 64 ((2 : Int) ^ i)).toNat = 2 ^ i := by
    have : ∀ j : Fin 10, (BitVec.ofInt 64 ((2 : Int) ^ j.1)).toNat = 2 ^ j.1 := by decide
    exact this ⟨i, hi⟩
  rw [h2]
  have hc : ∀ m : Nat, ((m : Int) != 0) = (m != 0) := by
    intro m
    rw [Bool.eq_iff_iff, bne_iff_ne, bne_iff_ne]
    omega
  rw [hc, and_pow, Nat.testBit_eq_decide_div_mod_eq]
  obtain ⟨b, hb, hs⟩ := sum_bits x.data.toList
  rw [← kind_sum] at hs
  have hbi : ∀ j : Nat, b j ≤ 1 := fun j => by rw [hb j]; split <;> omega
  have key : (kindOf x).toNat / 2 ^ i % 2 = b i := by
    have h0 := hbi 0; have h1 := hbi 1; have h2 := hbi 2; have h3 := hbi 3; have h4 := hbi 4
    have h5 := hbi 5; have h6 := hbi 6; have h7 := hbi 7; have h8 := hbi 8; have h9 := hbi 9
    clear hc hb hr hbi
    match i, hi with
    | 0, _ => show _ = b 0; omega
    | 1, _ => show _ = b 1; omega
    | 2, _ => show _ = b 2; omega
    | 3, _ => show _ = b 3; omega
    | 4, _ => show _ = b 4; omega
    | 5, _ => show _ = b 5; omega
    | 6, _ => show _ = b 6; omega
    | 7, _ => show _ = b 7; omega
    | 8, _ => show _ = b 8; omega
    | 9, _ => show _ = b 9; omega
  rw [key, hb]
  unfold kB
  by_cases h : x.data.toList ∈ words i
  · simp [h]
  · simp [h]

theorem refIs_k (x : ByteArray) (hx : x.size ≤ 1152921504606846000) (i : Nat) (hi : i < 10) (k : Nat) (hk : x.size + 1000 ≤ k) :
    decanterref11_Is.f k x (i : Int) = some (kB x i) := refIs x hx i hi k hk

theorem rd_get (l : List ByteArray) (i : Nat) (h : i < l.length) : rdOf ByteArray.empty l (i : Int) = l[i] := by
  unfold rdOf
  rw [Int.toNat_natCast, List.getD_eq_getElem?_getD, List.getElem?_eq_getElem h]
  rfl

theorem memB_cons (x y : ByteArray) (r : List ByteArray) : memB x (y :: r) = (x.toList == y.toList || memB x r) := rfl
theorem among_loop (x : ByteArray) (l : List ByteArray) (hl : l.length ≤ 4611686018427387903) (d : Nat) : ∀ (k i : Nat), i ≤ l.length → l.length - i = d → d < k →
    decanterref13_Among.l0 k x l (i : Int) = some (memB x (l.drop i)) := by
  induction d with
  | zero =>
    intro k i hi hd hk
    obtain ⟨k, rfl⟩ : ∃ m, k = m + 1 := ⟨k - 1, by omega⟩
    simp only [decanterref13_Among.l0]
    rw [if_neg (by omega), List.drop_eq_nil_of_le (by omega)]
    rfl
  | succ d ih =>
    intro k i hi hd hk
    obtain ⟨k, rfl⟩ : ∃ m, k = m + 1 := ⟨k - 1, by omega⟩
    have hlt : i < l.length := by omega
    simp only [decanterref13_Among.l0]
    rw [if_pos (by omega), if_pos (by omega), rd_get l i hlt, List.drop_eq_getElem_cons hlt]
    have e : ((i : Int) + 1) = ((i + 1 : Nat) : Int) := by omega
    rw [wrap_id (by omega) (by omega), e, ih k (i + 1) (by omega) (by omega) (by omega)]
    by_cases h : (l[i]).toList = x.toList
    · rw [if_pos h, memB_cons, beq_iff_eq.2 h.symm, Bool.true_or]
    · have h' : (x.toList == (l[i]).toList) = false := beq_eq_false_iff_ne.2 (fun e => h e.symm)
      rw [if_neg h, memB_cons, h', Bool.false_or]

theorem among (x : ByteArray) (l : List ByteArray) (hl : l.length ≤ 4611686018427387903) (k : Nat) (hk : l.length < k) : decanterref13_Among.f k x l = some (memB x l) := by
  have := among_loop x l hl l.length k 0 (by omega) (by omega) hk
  simpa [decanterref13_Among.f] using this

theorem index_loop (x : ByteArray) (l : List ByteArray) (hl : l.length ≤ 4611686018427387903) (d : Nat) : ∀ (k i : Nat), i ≤ l.length → l.length - i = d → d < k →
    ∃ r, slices_Index_string_string.l0 k l x (l.length : Int) (i : Int) = some r ∧ decide (r ≥ 0) = memB x (l.drop i) := by
  induction d with
  | zero =>
    intro k i hi hd hk
    obtain ⟨k, rfl⟩ : ∃ m, k = m + 1 := ⟨k - 1, by omega⟩
    simp only [slices_Index_string_string.l0]
    rw [if_neg (by omega), List.drop_eq_nil_of_le (by omega)]
    exact ⟨-1, rfl, rfl⟩
  | succ d ih =>
    intro k i hi hd hk
    obtain ⟨k, rfl⟩ : ∃ m, k = m + 1 := ⟨k - 1, by omega⟩
    have hlt : i < l.length := by omega
    obtain ⟨r, hr, hr2⟩ := ih k (i + 1) (by omega) (by omega) (by omega)
    simp only [slices_Index_string_string.l0]
    rw [if_pos (by omega), if_pos (by omega), if_pos (by omega), rd_get l i hlt, List.drop_eq_getElem_cons hlt]
    have e : ((i : Int) + 1) = ((i + 1 : Nat) : Int) := by omega
    rw [wrap_id (by omega) (by omega), e]
    by_cases h : x.toList = (l[i]).toList
    · rw [if_pos h]
      refine ⟨_, rfl, ?_⟩
      have : (i : Int) ≥ 0 := by omega
      rw [memB_cons, beq_iff_eq.2 h, Bool.true_or, decide_eq_true this]
    · rw [if_neg h]
      refine ⟨r, hr, ?_⟩
      have h' : (x.toList == (l[i]).toList) = false := beq_eq_false_iff_ne.2 h
      rw [hr2, memB_cons, h', Bool.false_or]

theorem contains (x : ByteArray) (l : List ByteArray) (hl : l.length ≤ 4611686018427387903) (k : Nat) (hk : l.length < k) : slices_Contains_string_string.f k l x = some (memB x l) := by
  obtain ⟨r, hr, h⟩ := index_loop x l hl l.length k 0 (by omega) (by omega) hk
  rw [slices_Contains_string_string.f, slices_Index_string_string.f]
  have e : (0 : Int) = ((0 : Nat) : Int) := rfl
  rw [e, hr]
  simp only [Option.bind_some]
  rw [← e, h]
  rfl

/-- The names that end no search. -/
def three : List ByteArray := [⟨#[97, 100, 100, 114, 101, 115, 115]⟩, ⟨#[100, 105, 118]⟩, ⟨#[112]⟩]
theorem lit_toList (l : List UInt8) : (⟨l.toArray⟩ : ByteArray).toList = l := by rw [ByteArray.toList_eq]

theorem stop_eq (n : ByteArray) (hn : n.size ≤ maxLen) : stopB n = (kB n 4 && !memB n three) := by
  have h := is_bit n hn 4 (by decide)
  rw [kind_Is.f, if_pos hn] at h
  have h' := Option.some.inj h
  have e16 : ((2 : Int) ^ 4) = 16 := by decide
  rw [e16] at h'
  unfold stopB
  rw [h']
  unfold memB three
  rw [show (⟨#[97, 100, 100, 114, 101, 115, 115]⟩ : ByteArray) = ⟨[97, 100, 100, 114, 101, 115, 115].toArray⟩ from rfl, show (⟨#[100, 105, 118]⟩ : ByteArray) = ⟨[100, 105, 118].toArray⟩ from rfl, show (⟨#[112]⟩ : ByteArray) = ⟨[112].toArray⟩ from rfl]
  simp only [List.any_cons, List.any_nil, lit_toList, Bool.or_false]
  cases kB n 4 <;> cases (n.toList == [97, 100, 100, 114, 101, 115, 115]) <;> cases (n.toList == [100, 105, 118]) <;> cases (n.toList == [112]) <;> rfl

theorem comes_loop (o L : List ByteArray) (M : Nat) (hM : ∀ x ∈ o, x.size ≤ M) (hM2 : M ≤ 1152921504606846000) (ho : o.length ≤ 4611686018427387900) (hL : L.length ≤ 100) (d : Nat) : ∀ (k : Nat), d ≤ o.length → d + M + 1000 < k →
    decanterref21_comes.l0 k o L ((d : Int) - 1) = some (nestScan L (o.take d).reverse) := by
  induction d with
  | zero =>
    intro k hd hk
    obtain ⟨k, rfl⟩ : ∃ m, k = m + 1 := ⟨k - 1, by omega⟩
    simp only [decanterref21_comes.l0]
    rw [if_neg (by omega)]
    rfl
  | succ d ih =>
    intro k hd hk
    obtain ⟨k, rfl⟩ : ∃ m, k = m + 1 := ⟨k - 1, by omega⟩
    have hlt : d < o.length := by omega
    have e : ((d + 1 : Nat) : Int) - 1 = (d : Int) := by omega
    have hx : (o[d]).size ≤ M := hM _ (List.getElem_mem hlt)
    have hmx : (o[d]).size ≤ maxLen := by unfold maxLen; omega
    have hih := ih k (by omega) (by omega)
    simp only [decanterref21_comes.l0]
    rw [e, if_pos (by omega), if_pos (by omega), if_pos (by omega), rd_get o d hlt, among _ _ (by omega) k (by omega)]
    simp only [Option.bind_some]
    rw [List.take_succ_eq_append_getElem hlt, List.reverse_append, List.reverse_singleton, List.singleton_append, nestScan]
    cases hm : memB o[d] L with
    | true => simp
    | false =>
      rw [if_neg (by decide), if_neg (by decide)]
      rw [show (4 : Int) = ((4 : Nat) : Int) from rfl, refIs_k _ (by omega) 4 (by decide) k (by omega)]
      simp only [Option.bind_some]
      rw [stop_eq _ hmx, wrap_id (by omega) (by omega), hih]
      cases hk4 : kB o[d] 4 with
      | false => simp
      | true =>
        rw [if_pos rfl]
        have ha := among o[d] three (by decide) k (by simp [three]; omega)
        unfold three at ha
        rw [ha]
        simp only [Option.bind_some]
        show (if memB o[d] three = true then _ else _) = _
        cases memB o[d] three <;> simp

theorem comes (o L : List ByteArray) (M : Nat) (hM : ∀ x ∈ o, x.size ≤ M) (hM2 : M ≤ 1152921504606846000) (ho : o.length ≤ 4611686018427387900) (hL : L.length ≤ 100) (k : Nat) (hk : o.length + M + 1000 < k) :
    decanterref21_comes.f k o L = some (nestScan L o.reverse) := by
  have := comes_loop o L M hM hM2 ho hL o.length k (Nat.le_refl _) hk
  rw [decanterref21_comes.f, wrap_id (by omega) (by omega), this, List.take_of_length_le (Nat.le_refl _)]
end Go.Proofs.YteahlapoeiikoaaDoor.Pure

/-
  fit.In is the document's In. Conditions: sizes alone.
-/

namespace Go.Proofs.YteahlapoeiikoaaDoor.Pure
open Go.RowKit Go.Proofs.YteahlapoeiikoaaDoor.P Go.Proofs.YteahlapoeiikoaaDoorW.PrintWords Go.Proofs.YteahlapoeiikoaaDoorW.PrintLast

abbrev nP : ByteArray := ⟨#[112]⟩
abbrev nA : ByteArray := ⟨#[97]⟩
def lastOf (o : List ByteArray) : ByteArray := o.getLastD ⟨#[]⟩

/-- Does an element fit in others? -/
def inB (o : List ByteArray) (n : ByteArray) : Bool :=
  if kB n 1 && memB nP o then false
  else if kB n 2 && kB (lastOf o) 2 then false
  else if nestedB o n then false
  else if (n.toList == [97]) && memB nA o then false else true

theorem last_get (o : List ByteArray) (h : 0 < o.length) : rdOf ByteArray.empty o ((o.length : Int) - 1) = lastOf o := by
  have e : ((o.length : Int) - 1) = ((o.length - 1 : Nat) : Int) := by omega
  rw [e, rd_get o _ (by omega)]
  unfold lastOf
  rw [List.getLastD_eq_getLast?, List.getLast?_eq_getElem?, List.getElem?_eq_getElem (by omega)]
  rfl

structure Fits (o : List ByteArray) (n : ByteArray) (M k : Nat) : Prop where
  all : ∀ x ∈ o, x.size ≤ M
  one : n.size ≤ M
  low : M ≤ 1152921504606846000
  len : o.length ≤ 4611686018427387900
  rounds : o.length + M + 1100 < k

theorem last_size {o : List ByteArray} {n : ByteArray} {M k : Nat} (h : Fits o n M k) : (lastOf o).size ≤ M := by
  unfold lastOf
  rw [List.getLastD_eq_getLast?]
  cases e : o.getLast? with
  | none => exact Nat.zero_le _
  | some x => exact h.all x (List.mem_of_getLast? e)

theorem fit_j0 (o : List ByteArray) (n : ByteArray) (M k : Nat) (h : Fits o n M k) : fit_In.j0 (k + 3) o n (lastOf o) = some (inB o n) := by
  have hl := last_size h
  obtain ⟨ha, h1, h2, h3, h4⟩ := h
  have m1 : n.size ≤ maxLen := by unfold maxLen; omega
  have m2 : (lastOf o).size ≤ maxLen := by unfold maxLen; omega
  have i1 := is_bit n m1 1 (by decide)
  have i2 := is_bit n m1 2 (by decide)
  have i3 := is_bit (lastOf o) m2 2 (by decide)
  rw [show ((2 : Int) ^ 1) = 2 from rfl] at i1
  rw [show ((2 : Int) ^ 2) = 4 from rfl] at i2 i3
  have hN : fit_nested.f o n = some (nestedB o n) := by
    unfold fit_nested.f
    rw [if_pos (List.all_eq_true.2 fun x hx => by simpa using (show x.size ≤ maxLen by have := ha x hx; unfold maxLen; omega))]
  have c1 := contains nP o (by omega) (k + 2) (by omega)
  have c2 := contains nA o (by omega) k (by omega)
  have e2 : ∀ b, b = (kB n 2 && kB (lastOf o) 2) → fit_In.j2 (k + 1) o n b = some (if b then false else if nestedB o n then false else if (n.toList == [97]) && memB nA o then false else true) := by
    intro b _
    simp only [fit_In.j2]
    cases b with
    | true => rfl
    | false =>
      simp only [Bool.false_eq_true, if_false]
      rw [hN]
      simp only [Option.bind_some]
      cases nestedB o n with
      | true => rfl
      | false =>
        simp only [Bool.false_eq_true, if_false]
        by_cases hn : n.toList = [97]
        · rw [if_pos hn, c2, beq_iff_eq.2 hn]
          simp only [Option.bind_some, Bool.true_and]
          cases memB nA o <;> rfl
        · rw [if_neg hn, beq_eq_false_iff_ne.2 hn]
          rfl
  have e1 : ∀ b, fit_In.j1 (k + 2) o n (lastOf o) b = some (if b then false else if kB n 2 && kB (lastOf o) 2 then false else if nestedB o n then false else if (n.toList == [97]) && memB nA o then false else true) := by
    intro b
    simp only [fit_In.j1]
    cases b with
    | true => rfl
    | false =>
      simp only [Bool.false_eq_true, if_false]
      rw [i2]
      simp only [Option.bind_some]
      cases hk : kB n 2 with
      | true =>
        simp only [if_true]
        rw [i3]
        simp only [Option.bind_some]
        rw [e2 (kB (lastOf o) 2) (by rw [hk]; rfl), Bool.true_and]
      | false =>
        simp only [Bool.false_eq_true, if_false]
        rw [e2 false (by rw [hk]; rfl), Bool.false_and]
  simp only [fit_In.j0]
  rw [i1]
  simp only [Option.bind_some]
  unfold inB
  cases kB n 1 with
  | true =>
    simp only [if_true, Bool.true_and]
    rw [c1]
    simp only [Option.bind_some]
    exact e1 _
  | false =>
    simp only [Bool.false_eq_true, if_false, Bool.false_and]
    rw [e1 false]
    rfl

theorem fitIn (o : List ByteArray) (n : ByteArray) (M k : Nat) (h : Fits o n M k) : fit_In.f (k + 3) o n = some (inB o n) := by
  rw [fit_In.f]
  by_cases hp : (o.length : Int) > 0
  · have hl := h.len
    rw [if_pos hp, wrap_id (by omega) (by omega), if_pos (by omega), if_pos (by omega), last_get o (by omega)]
    exact fit_j0 o n M k h
  · rw [if_neg hp]
    have e : lastOf o = ⟨#[]⟩ := by
      have : o = [] := List.eq_nil_of_length_eq_zero (by omega)
      rw [this]; rfl
    rw [← e]
    exact fit_j0 o n M k h

theorem nested_li {o : List ByteArray} {n : ByteArray} (h : n.toList = [108, 105]) : nestedB o n = nestScan [⟨#[108, 105]⟩] o.reverse := by
  unfold nestedB likes fit_items.f
  rw [if_pos h]
  rfl
theorem nested_dd {o : List ByteArray} {n : ByteArray} (h0 : ¬ n.toList = [108, 105]) (h : n.toList = [100, 100] ∨ n.toList = [100, 116]) : nestedB o n = nestScan [⟨#[100, 100]⟩, ⟨#[100, 116]⟩] o.reverse := by
  unfold nestedB likes fit_items.f
  rw [if_neg h0]
  by_cases h1 : n.toList = [100, 100]
  · rw [if_pos h1]; rfl
  · rw [if_neg h1, if_pos (h.resolve_left h1)]; rfl
theorem scan_nil (l : List ByteArray) : nestScan [] l = false := by
  induction l with
  | nil => rfl
  | cons y l ih => simp [nestScan, memB, ih]
theorem nested_no {o : List ByteArray} {n : ByteArray} (h0 : ¬ n.toList = [108, 105]) (h1 : ¬ n.toList = [100, 100]) (h2 : ¬ n.toList = [100, 116]) : nestedB o n = false := by
  unfold nestedB likes fit_items.f
  rw [if_neg h0, if_neg h1, if_neg h2]
  exact scan_nil _

theorem refIn (o : List ByteArray) (n : ByteArray) (M k : Nat) (h : Fits o n M k) : decanterref21_In.f (k + 3) o n = some (inB o n) := by
  have hl := last_size h
  obtain ⟨ha, h1, h2, h3, h4⟩ := h
  have i1 := refIs_k n (by omega) 1 (by decide) (k + 3) (by omega)
  have i2 := refIs_k n (by omega) 2 (by decide) (k + 2) (by omega)
  have i3 := refIs_k (lastOf o) (by omega) 2 (by decide) (k + 2) (by omega)
  have a1 := among nP o (by omega) (k + 3) (by omega)
  have a2 := among nA o (by omega) k (by omega)
  have c1 := comes o [⟨#[108, 105]⟩] M ha h2 h3 (by decide) (k + 1) (by omega)
  have c2 := comes o [⟨#[100, 100]⟩, ⟨#[100, 116]⟩] M ha h2 h3 (by decide) k (by omega)
  have tail : (if n.toList = ([97] : List UInt8) then ((decanterref13_Among.f k (⟨#[97]⟩ : ByteArray) o).bind fun t => (some (!t))) else (some true)) = some (if (n.toList == [97]) && memB nA o then false else true) := by
    by_cases hn : n.toList = [97]
    · rw [if_pos hn, a2, beq_iff_eq.2 hn]
      simp only [Option.bind_some, Bool.true_and]
      cases memB nA o <;> rfl
    · rw [if_neg hn, beq_eq_false_iff_ne.2 hn]
      rfl
  have e1 : ∀ b, decanterref21_In.j1 (k + 2) o n b = some (if b then false else if nestedB o n then false else if (n.toList == [97]) && memB nA o then false else true) := by
    intro b
    simp only [decanterref21_In.j1]
    cases b with
    | true => rfl
    | false =>
      simp only [Bool.false_eq_true, if_false]
      by_cases hli : n.toList = [108, 105]
      · rw [if_pos hli, c1]
        simp only [Option.bind_some]
        rw [nested_li hli]
        simp only [decanterref21_In.j2]
        have n1 : ¬ n.toList = [100, 100] := by rw [hli]; decide
        have n2 : ¬ n.toList = [100, 116] := by rw [hli]; decide
        cases nestScan [⟨#[108, 105]⟩] o.reverse with
        | true => rfl
        | false =>
          simp only [Bool.false_eq_true, if_false]
          rw [if_neg n1, if_neg n2]
          exact tail
      · rw [if_neg hli]
        simp only [decanterref21_In.j2, Bool.false_eq_true, if_false]
        by_cases hdd : n.toList = [100, 100]
        · rw [if_pos hdd, c2, nested_dd hli (.inl hdd)]
          simp only [Option.bind_some]
          cases nestScan [⟨#[100, 100]⟩, ⟨#[100, 116]⟩] o.reverse with
          | true => rfl
          | false =>
            simp only [Bool.false_eq_true, if_false]
            exact tail
        · rw [if_neg hdd]
          by_cases hdt : n.toList = [100, 116]
          · rw [if_pos hdt, c2, nested_dd hli (.inr hdt)]
            simp only [Option.bind_some]
            cases nestScan [⟨#[100, 100]⟩, ⟨#[100, 116]⟩] o.reverse with
            | true => rfl
            | false =>
              simp only [Bool.false_eq_true, if_false]
              exact tail
          · rw [if_neg hdt, nested_no hli hdd hdt]
            simp only [Bool.false_eq_true, if_false]
            exact tail
  have e0 : ∀ b, decanterref21_In.j0 (k + 3) o n b = some (if b then false else if kB n 2 && kB (lastOf o) 2 then false else if nestedB o n then false else if (n.toList == [97]) && memB nA o then false else true) := by
    intro b
    simp only [decanterref21_In.j0]
    cases b with
    | true => rfl
    | false =>
      simp only [Bool.false_eq_true, if_false]
      rw [show (2 : Int) = ((2 : Nat) : Int) from rfl, i2]
      simp only [Option.bind_some]
      cases kB n 2 with
      | false =>
        simp only [Bool.false_eq_true, if_false, Bool.false_and]
        rw [e1 false]
        rfl
      | true =>
        simp only [if_true, Bool.true_and]
        by_cases hp : (o.length : Int) > 0
        · rw [if_pos hp, wrap_id (by omega) (by omega), if_pos (by omega), if_pos (by omega), last_get o (by omega), i3]
          simp only [Option.bind_some]
          exact e1 _
        · rw [if_neg hp]
          have e : kB (lastOf o) 2 = false := by
            have : o = [] := List.eq_nil_of_length_eq_zero (by omega)
            rw [this]
            decide +kernel
          rw [e, e1 false]
  rw [decanterref21_In.f, show (1 : Int) = ((1 : Nat) : Int) from rfl, i1]
  simp only [Option.bind_some]
  unfold inB
  cases kB n 1 with
  | false =>
    simp only [Bool.false_eq_true, if_false, Bool.false_and]
    rw [e0 false]
    rfl
  | true =>
    simp only [if_true, Bool.true_and]
    rw [a1]
    simp only [Option.bind_some]
    exact e0 _
end Go.Proofs.YteahlapoeiikoaaDoor.Pure


-- Printed by a program of this session (wip/myprint.py over the kit's print).
namespace Go.Proofs.YteahlapoeiikoaaDoor.P
open Go.RowKit Go.Proofs.YteahlapoeiikoaaDoorW.PrintWords Go.Proofs.YteahlapoeiikoaaDoorW.PrintLast Go.Proofs.YteahlapoeiikoaaDoorW.PrintMore
attribute [local go_sem] max2_int min2_int max_two min_two max_three min_three max_four min_four   -- for this text's walks alone
set_option linter.unusedVariables false
set_option linter.unusedSimpArgs false

/-! ### decanterlaw21_speaks: function 17 -/
def decanterlaw21_speaks.f (k : Nat)  : Option (Bool) := (fit_In.f k (([(⟨#[98]⟩ : ByteArray)] : List ByteArray)) (⟨#[100, 105, 118]⟩ : ByteArray)).bind fun t134 => (if t134 = true then ((fit_In.f k (([(⟨#[112]⟩ : ByteArray)] : List ByteArray)) (⟨#[100, 105, 118]⟩ : ByteArray)).bind fun t138 => (if t138 = true then (some false) else ((fit_In.f k (([(⟨#[112]⟩ : ByteArray), (⟨#[98]⟩ : ByteArray)] : List ByteArray)) (⟨#[100, 105, 118]⟩ : ByteArray)).bind fun t142 => (some (!t142))))) else (some false))
set_option maxHeartbeats 8000000 in
set_option maxRecDepth 100000 in
theorem decanterlaw21_speaks.calls (k : Nat)  (r : Bool) (w : World) (hG : GW w) (h : decanterlaw21_speaks.f k  = some r) :
    Calls Tryd.prog 17 #[] w fun e w' => e = .returned (.bool r) ∧ Below w.heap.size w w' := by
  have HG := Aside0.mk hG
  clear hG
  have HB := Aside0.mk (Below.refl w.heap.size w)
  have H : ((fit_In.f k (([(⟨#[98]⟩ : ByteArray)] : List ByteArray)) (⟨#[100, 105, 118]⟩ : ByteArray)).bind fun t134 => (if t134 = true then ((fit_In.f k (([(⟨#[112]⟩ : ByteArray)] : List ByteArray)) (⟨#[100, 105, 118]⟩ : ByteArray)).bind fun t138 => (if t138 = true then (some false) else ((fit_In.f k (([(⟨#[112]⟩ : ByteArray), (⟨#[98]⟩ : ByteArray)] : List ByteArray)) (⟨#[100, 105, 118]⟩ : ByteArray)).bind fun t142 => (some (!t142))))) else (some false))) = some r := h
  clear h
  obtain ⟨y131, hy131⟩ : ∃ y_ : List ByteArray, y_ = (([(⟨#[98]⟩ : ByteArray)] : List ByteArray)) := ⟨_, rfl⟩
  replace H : ((fit_In.f k y131 (⟨#[100, 105, 118]⟩ : ByteArray)).bind fun t134 => (if t134 = true then ((fit_In.f k (([(⟨#[112]⟩ : ByteArray)] : List ByteArray)) (⟨#[100, 105, 118]⟩ : ByteArray)).bind fun t138 => (if t138 = true then (some false) else ((fit_In.f k (([(⟨#[112]⟩ : ByteArray), (⟨#[98]⟩ : ByteArray)] : List ByteArray)) (⟨#[100, 105, 118]⟩ : ByteArray)).bind fun t142 => (some (!t142))))) else (some false))) = some r := by first | (rw [hy131]; with_reducible exact H) | (have H2_ := (Option.bind_some _ _).symm.trans H; rw [hy131]; with_reducible exact H2_) | (have H2_ := (Option.bind_some _ _).symm.trans H; with_reducible exact H2_) | with_reducible exact H | (rw [hy131]; exact H) | exact H
  have Ny131 := Aside0.mk hy131
  clear hy131
  replace H := Option.bind_eq_some_iff.mp H
  obtain ⟨t134, A10, H⟩ := H
  replace H : (if t134 = true then ((fit_In.f k (([(⟨#[112]⟩ : ByteArray)] : List ByteArray)) (⟨#[100, 105, 118]⟩ : ByteArray)).bind fun t138 => (if t138 = true then (some false) else ((fit_In.f k (([(⟨#[112]⟩ : ByteArray), (⟨#[98]⟩ : ByteArray)] : List ByteArray)) (⟨#[100, 105, 118]⟩ : ByteArray)).bind fun t142 => (some (!t142))))) else (some false)) = some r := H
  have A1 := Aside0.mk A10
  clear A10
  by_cases c2 : t134 = true
  · subst c2
    have H1 : ((fit_In.f k (([(⟨#[112]⟩ : ByteArray)] : List ByteArray)) (⟨#[100, 105, 118]⟩ : ByteArray)).bind fun t138 => (if t138 = true then (some false) else ((fit_In.f k (([(⟨#[112]⟩ : ByteArray), (⟨#[98]⟩ : ByteArray)] : List ByteArray)) (⟨#[100, 105, 118]⟩ : ByteArray)).bind fun t142 => (some (!t142))))) = some r := by rw [if_pos rfl] at H; exact H
    clear H
    have H := H1
    clear H1
    obtain ⟨y135, hy135⟩ : ∃ y_ : List ByteArray, y_ = (([(⟨#[112]⟩ : ByteArray)] : List ByteArray)) := ⟨_, rfl⟩
    replace H : ((fit_In.f k y135 (⟨#[100, 105, 118]⟩ : ByteArray)).bind fun t138 => (if t138 = true then (some false) else ((fit_In.f k (([(⟨#[112]⟩ : ByteArray), (⟨#[98]⟩ : ByteArray)] : List ByteArray)) (⟨#[100, 105, 118]⟩ : ByteArray)).bind fun t142 => (some (!t142))))) = some r := by first | (rw [hy135]; with_reducible exact H) | (have H2_ := (Option.bind_some _ _).symm.trans H; rw [hy135]; with_reducible exact H2_) | (have H2_ := (Option.bind_some _ _).symm.trans H; with_reducible exact H2_) | with_reducible exact H | (rw [hy135]; exact H) | exact H
    have Ny135 := Aside0.mk hy135
    clear hy135
    replace H := Option.bind_eq_some_iff.mp H
    obtain ⟨t138, A30, H⟩ := H
    replace H : (if t138 = true then (some false) else ((fit_In.f k (([(⟨#[112]⟩ : ByteArray), (⟨#[98]⟩ : ByteArray)] : List ByteArray)) (⟨#[100, 105, 118]⟩ : ByteArray)).bind fun t142 => (some (!t142)))) = some r := H
    have A3 := Aside0.mk A30
    clear A30
    by_cases c4 : t138 = true
    · subst c4
      have H1 : (some false) = some r := by rw [if_pos rfl] at H; exact H
      clear H
      have H := H1
      clear H1
      obtain rfl := Option.some.inj H
      go_enter Tryd.func17, Tryd.ntmps17
      go_wp2_with (first | ((with_reducible refine gate_dst (N := 1) rfl ?_); (try (refine gate_guard (by rfl) ?_; dsimp only)); refine Kd.R_lit Kd.string _ 9 ?hg (N := 1) ?hd (xs := ([(⟨#[98]⟩ : ByteArray)] : List ByteArray)) (inner := [.string (⟨#[98]⟩ : ByteArray)]) (ok := fun _ => True) (okp := fun _ => True) ?hr ?hp (fun _ hk => hk) trivial (Below.refl _ _) (Nat.le_refl _) (by simp) ?_; (case hd => rfl); (case hg => rfl); (case hr => first | (go_simp; done) | (go_simp; rfl)); (case hp => exact (Reps.one (show Kd.M Kd.string _ _ _ (⟨#[98]⟩ : ByteArray) [.string (⟨#[98]⟩ : ByteArray)] from rfl) (Reps.none _ _))); intro v132 w5 ho6 hb hg_ hnew_; clear hg_ hnew_; (first | rw [← Ny131.out] at ho6 | (simp only [Int.reduceToNat] at ho6; rw [← Ny131.out] at ho6)); have n0_ := Aside0.mk (Kd.R_lower ho6 (below_size (by repeat (first | (with_reducible first | exact HB.out | apply below_alloc | apply pw_below_drewN | apply below_drew1) | exact HB.out)))); have n1_ := Aside0.mk (below_step (by repeat (first | (with_reducible first | exact HB.out | apply below_alloc | apply pw_below_drewN | apply below_drew1) | exact HB.out)) hb); clear HB; have HO133 := n0_; have HB := n1_; clear n0_ n1_; clear hb ho6; obtain ⟨Ao7, co7, eo7⟩ := Kd.R_slice HO133.out; subst eo7) | ((with_reducible refine gate_callee (f := 18) rfl ?_); refine goesL_ (some 2) rfl rfl Tryd.func18 (by kernel_rfl) rfl #[.slice Ao7 y131.length co7, .string (⟨#[100, 105, 118]⟩ : ByteArray)] rfl (by (try simp only [List.map_toArray, List.map_cons, List.map_nil]); first | done | rfl | (simp only [List.length_drop, List.length_take]; rfl)) ?_; (with_reducible refine (fit_In.calls k _ _ y131 (⟨#[100, 105, 118]⟩ : ByteArray) true _ ?side1 ?side2 ?side3 A1.out).mono ?_); (case side1 => repeat (first | exact (Kd.R_reads' HO133.out).2.2 | (with_reducible refine Kd.C_alloc ?_ _) | (with_reducible refine Kd.C_drewN ?_ _) | (with_reducible refine Kd.C_drew ?_))); (case side2 => exact (Kd.R_reads' HO133.out).2.1); (case side3 => exact GW.below HG.out (by repeat (first | (with_reducible first | exact HB.out | apply below_alloc | apply pw_below_drewN | apply below_drew1) | exact HB.out))); rintro e w8 ⟨rfl, hb⟩; refine ⟨_, rfl, ?_⟩; have n0_ := Aside0.mk (Kd.R_below (by (with_reducible repeat (first | apply Kd.R_alloc | apply Kd.R_drewN | apply Kd.R_drew)); exact HO133.out) hb); have n1_ := Aside0.mk (below_step (by repeat (first | (with_reducible first | exact HB.out | apply below_alloc | apply pw_below_drewN | apply below_drew1) | exact HB.out)) hb); clear HO133; clear HB; have HO133 := n0_; have HB := n1_; clear n0_ n1_; (try clear hb); (try clear hb2); (try clear hk); (try clear hi)) | ((with_reducible refine gate_dst (N := 4) rfl ?_); (try (refine gate_guard (by rfl) ?_; dsimp only)); refine Kd.R_lit Kd.string _ 9 ?hg (N := 4) ?hd (xs := ([(⟨#[112]⟩ : ByteArray)] : List ByteArray)) (inner := [.string (⟨#[112]⟩ : ByteArray)]) (ok := fun _ => True) (okp := fun _ => True) ?hr ?hp (fun _ hk => hk) trivial (Below.refl _ _) (Nat.le_refl _) (by simp) ?_; (case hd => rfl); (case hg => rfl); (case hr => first | (go_simp; done) | (go_simp; rfl)); (case hp => exact (Reps.one (show Kd.M Kd.string _ _ _ (⟨#[112]⟩ : ByteArray) [.string (⟨#[112]⟩ : ByteArray)] from rfl) (Reps.none _ _))); intro v136 w9 ho10 hb hg_ hnew_; clear hg_ hnew_; (first | rw [← Ny135.out] at ho10 | (simp only [Int.reduceToNat] at ho10; rw [← Ny135.out] at ho10)); have n0_ := Aside0.mk (Kd.R_elder' (by (with_reducible repeat (first | apply Kd.R_alloc | apply Kd.R_drewN | apply Kd.R_drew)); exact HO133.out) (Kd.R_base ho10) hb); have n1_ := Aside0.mk (Kd.R_lower (Kd.R_new' ho10 (Kd.R_lt (by (with_reducible repeat (first | apply Kd.R_alloc | apply Kd.R_drewN | apply Kd.R_drew)); exact HO133.out))) (below_size (by repeat (first | (with_reducible first | exact HB.out | apply below_alloc | apply pw_below_drewN | apply below_drew1) | exact HB.out)))); have n2_ := Aside0.mk (below_step (by repeat (first | (with_reducible first | exact HB.out | apply below_alloc | apply pw_below_drewN | apply below_drew1) | exact HB.out)) hb); clear HO133; clear HB; have HO133 := n0_; have HO137 := n1_; have HB := n2_; clear n0_ n1_ n2_; clear hb ho10; obtain ⟨Ao11, co11, eo11⟩ := Kd.R_slice HO137.out; subst eo11) | (go_at_call 18; (with_reducible refine (fit_In.calls k _ _ y135 (⟨#[100, 105, 118]⟩ : ByteArray) true _ ?side1 ?side2 ?side3 A3.out).mono ?_); (case side1 => repeat (first | exact (Kd.R_reads' HO137.out).2.2 | (with_reducible refine Kd.C_alloc ?_ _) | (with_reducible refine Kd.C_drewN ?_ _) | (with_reducible refine Kd.C_drew ?_))); (case side2 => exact (Kd.R_reads' HO137.out).2.1); (case side3 => exact GW.below HG.out (by repeat (first | (with_reducible first | exact HB.out | apply below_alloc | apply pw_below_drewN | apply below_drew1) | exact HB.out))); rintro e w12 ⟨rfl, hb⟩; have n0_ := Aside0.mk (Kd.R_below (by (with_reducible repeat (first | apply Kd.R_alloc | apply Kd.R_drewN | apply Kd.R_drew)); exact HO133.out) hb); have n1_ := Aside0.mk (Kd.R_below (by (with_reducible repeat (first | apply Kd.R_alloc | apply Kd.R_drewN | apply Kd.R_drew)); exact HO137.out) hb); have n2_ := Aside0.mk (below_step (by repeat (first | (with_reducible first | exact HB.out | apply below_alloc | apply pw_below_drewN | apply below_drew1) | exact HB.out)) hb); clear HO133; clear HO137; clear HB; have HO133 := n0_; have HO137 := n1_; have HB := n2_; clear n0_ n1_ n2_; (try clear hb); (try clear hb2); (try clear hk); (try clear hi)))
      go_ret
      exact ⟨by first | rfl | (simp [errW_none, errW_some] <;> rfl) | (simp [*, errW_none, errW_some] <;> rfl), by repeat (first | (with_reducible first | exact HB.out | apply below_alloc | apply pw_below_drewN | apply below_drew1) | exact HB.out)⟩
    · replace c4 := Bool.eq_false_iff.mpr c4
      subst c4
      have H1 : ((fit_In.f k (([(⟨#[112]⟩ : ByteArray), (⟨#[98]⟩ : ByteArray)] : List ByteArray)) (⟨#[100, 105, 118]⟩ : ByteArray)).bind fun t142 => (some (!t142))) = some r := by rw [if_neg (show ¬ (false = true) by decide)] at H; exact H
      clear H
      have H := H1
      clear H1
      obtain ⟨y139, hy139⟩ : ∃ y_ : List ByteArray, y_ = (([(⟨#[112]⟩ : ByteArray), (⟨#[98]⟩ : ByteArray)] : List ByteArray)) := ⟨_, rfl⟩
      replace H : ((fit_In.f k y139 (⟨#[100, 105, 118]⟩ : ByteArray)).bind fun t142 => (some (!t142))) = some r := by first | (rw [hy139]; with_reducible exact H) | (have H2_ := (Option.bind_some _ _).symm.trans H; rw [hy139]; with_reducible exact H2_) | (have H2_ := (Option.bind_some _ _).symm.trans H; with_reducible exact H2_) | with_reducible exact H | (rw [hy139]; exact H) | exact H
      have Ny139 := Aside0.mk hy139
      clear hy139
      replace H := Option.bind_eq_some_iff.mp H
      obtain ⟨t142, A130, H⟩ := H
      replace H : (some (!t142)) = some r := H
      have A13 := Aside0.mk A130
      clear A130
      obtain rfl := Option.some.inj H
      go_enter Tryd.func17, Tryd.ntmps17
      go_wp2_with (first | ((with_reducible refine gate_dst (N := 1) rfl ?_); (try (refine gate_guard (by rfl) ?_; dsimp only)); refine Kd.R_lit Kd.string _ 9 ?hg (N := 1) ?hd (xs := ([(⟨#[98]⟩ : ByteArray)] : List ByteArray)) (inner := [.string (⟨#[98]⟩ : ByteArray)]) (ok := fun _ => True) (okp := fun _ => True) ?hr ?hp (fun _ hk => hk) trivial (Below.refl _ _) (Nat.le_refl _) (by simp) ?_; (case hd => rfl); (case hg => rfl); (case hr => first | (go_simp; done) | (go_simp; rfl)); (case hp => exact (Reps.one (show Kd.M Kd.string _ _ _ (⟨#[98]⟩ : ByteArray) [.string (⟨#[98]⟩ : ByteArray)] from rfl) (Reps.none _ _))); intro v132 w14 ho15 hb hg_ hnew_; clear hg_ hnew_; (first | rw [← Ny131.out] at ho15 | (simp only [Int.reduceToNat] at ho15; rw [← Ny131.out] at ho15)); have n0_ := Aside0.mk (Kd.R_lower ho15 (below_size (by repeat (first | (with_reducible first | exact HB.out | apply below_alloc | apply pw_below_drewN | apply below_drew1) | exact HB.out)))); have n1_ := Aside0.mk (below_step (by repeat (first | (with_reducible first | exact HB.out | apply below_alloc | apply pw_below_drewN | apply below_drew1) | exact HB.out)) hb); clear HB; have HO133 := n0_; have HB := n1_; clear n0_ n1_; clear hb ho15; obtain ⟨Ao16, co16, eo16⟩ := Kd.R_slice HO133.out; subst eo16) | ((with_reducible refine gate_callee (f := 18) rfl ?_); refine goesL_ (some 2) rfl rfl Tryd.func18 (by kernel_rfl) rfl #[.slice Ao16 y131.length co16, .string (⟨#[100, 105, 118]⟩ : ByteArray)] rfl (by (try simp only [List.map_toArray, List.map_cons, List.map_nil]); first | done | rfl | (simp only [List.length_drop, List.length_take]; rfl)) ?_; (with_reducible refine (fit_In.calls k _ _ y131 (⟨#[100, 105, 118]⟩ : ByteArray) true _ ?side1 ?side2 ?side3 A1.out).mono ?_); (case side1 => repeat (first | exact (Kd.R_reads' HO133.out).2.2 | (with_reducible refine Kd.C_alloc ?_ _) | (with_reducible refine Kd.C_drewN ?_ _) | (with_reducible refine Kd.C_drew ?_))); (case side2 => exact (Kd.R_reads' HO133.out).2.1); (case side3 => exact GW.below HG.out (by repeat (first | (with_reducible first | exact HB.out | apply below_alloc | apply pw_below_drewN | apply below_drew1) | exact HB.out))); rintro e w17 ⟨rfl, hb⟩; refine ⟨_, rfl, ?_⟩; have n0_ := Aside0.mk (Kd.R_below (by (with_reducible repeat (first | apply Kd.R_alloc | apply Kd.R_drewN | apply Kd.R_drew)); exact HO133.out) hb); have n1_ := Aside0.mk (below_step (by repeat (first | (with_reducible first | exact HB.out | apply below_alloc | apply pw_below_drewN | apply below_drew1) | exact HB.out)) hb); clear HO133; clear HB; have HO133 := n0_; have HB := n1_; clear n0_ n1_; (try clear hb); (try clear hb2); (try clear hk); (try clear hi)) | ((with_reducible refine gate_dst (N := 4) rfl ?_); (try (refine gate_guard (by rfl) ?_; dsimp only)); refine Kd.R_lit Kd.string _ 9 ?hg (N := 4) ?hd (xs := ([(⟨#[112]⟩ : ByteArray)] : List ByteArray)) (inner := [.string (⟨#[112]⟩ : ByteArray)]) (ok := fun _ => True) (okp := fun _ => True) ?hr ?hp (fun _ hk => hk) trivial (Below.refl _ _) (Nat.le_refl _) (by simp) ?_; (case hd => rfl); (case hg => rfl); (case hr => first | (go_simp; done) | (go_simp; rfl)); (case hp => exact (Reps.one (show Kd.M Kd.string _ _ _ (⟨#[112]⟩ : ByteArray) [.string (⟨#[112]⟩ : ByteArray)] from rfl) (Reps.none _ _))); intro v136 w18 ho19 hb hg_ hnew_; clear hg_ hnew_; (first | rw [← Ny135.out] at ho19 | (simp only [Int.reduceToNat] at ho19; rw [← Ny135.out] at ho19)); have n0_ := Aside0.mk (Kd.R_elder' (by (with_reducible repeat (first | apply Kd.R_alloc | apply Kd.R_drewN | apply Kd.R_drew)); exact HO133.out) (Kd.R_base ho19) hb); have n1_ := Aside0.mk (Kd.R_lower (Kd.R_new' ho19 (Kd.R_lt (by (with_reducible repeat (first | apply Kd.R_alloc | apply Kd.R_drewN | apply Kd.R_drew)); exact HO133.out))) (below_size (by repeat (first | (with_reducible first | exact HB.out | apply below_alloc | apply pw_below_drewN | apply below_drew1) | exact HB.out)))); have n2_ := Aside0.mk (below_step (by repeat (first | (with_reducible first | exact HB.out | apply below_alloc | apply pw_below_drewN | apply below_drew1) | exact HB.out)) hb); clear HO133; clear HB; have HO133 := n0_; have HO137 := n1_; have HB := n2_; clear n0_ n1_ n2_; clear hb ho19; obtain ⟨Ao20, co20, eo20⟩ := Kd.R_slice HO137.out; subst eo20) | (go_at_call 18; (with_reducible refine (fit_In.calls k _ _ y135 (⟨#[100, 105, 118]⟩ : ByteArray) false _ ?side1 ?side2 ?side3 A3.out).mono ?_); (case side1 => repeat (first | exact (Kd.R_reads' HO137.out).2.2 | (with_reducible refine Kd.C_alloc ?_ _) | (with_reducible refine Kd.C_drewN ?_ _) | (with_reducible refine Kd.C_drew ?_))); (case side2 => exact (Kd.R_reads' HO137.out).2.1); (case side3 => exact GW.below HG.out (by repeat (first | (with_reducible first | exact HB.out | apply below_alloc | apply pw_below_drewN | apply below_drew1) | exact HB.out))); rintro e w21 ⟨rfl, hb⟩; have n0_ := Aside0.mk (Kd.R_below (by (with_reducible repeat (first | apply Kd.R_alloc | apply Kd.R_drewN | apply Kd.R_drew)); exact HO133.out) hb); have n1_ := Aside0.mk (Kd.R_below (by (with_reducible repeat (first | apply Kd.R_alloc | apply Kd.R_drewN | apply Kd.R_drew)); exact HO137.out) hb); have n2_ := Aside0.mk (below_step (by repeat (first | (with_reducible first | exact HB.out | apply below_alloc | apply pw_below_drewN | apply below_drew1) | exact HB.out)) hb); clear HO133; clear HO137; clear HB; have HO133 := n0_; have HO137 := n1_; have HB := n2_; clear n0_ n1_ n2_; (try clear hb); (try clear hb2); (try clear hk); (try clear hi)) | ((with_reducible refine gate_dst (N := 9) rfl ?_); (try (refine gate_guard (by rfl) ?_; dsimp only)); refine Kd.R_lit Kd.string _ 9 ?hg (N := 9) ?hd (xs := ([(⟨#[112]⟩ : ByteArray), (⟨#[98]⟩ : ByteArray)] : List ByteArray)) (inner := [.string (⟨#[112]⟩ : ByteArray), .string (⟨#[98]⟩ : ByteArray)]) (ok := fun _ => True) (okp := fun _ => True) ?hr ?hp (fun _ hk => hk) trivial (Below.refl _ _) (Nat.le_refl _) (by simp) ?_; (case hd => rfl); (case hg => rfl); (case hr => first | (go_simp; done) | (go_simp; rfl)); (case hp => exact (Reps.one (show Kd.M Kd.string _ _ _ (⟨#[112]⟩ : ByteArray) [.string (⟨#[112]⟩ : ByteArray)] from rfl) (Reps.one (show Kd.M Kd.string _ _ _ (⟨#[98]⟩ : ByteArray) [.string (⟨#[98]⟩ : ByteArray)] from rfl) (Reps.none _ _)))); intro v140 w22 ho23 hb hg_ hnew_; clear hg_ hnew_; (first | rw [← Ny139.out] at ho23 | (simp only [Int.reduceToNat] at ho23; rw [← Ny139.out] at ho23)); have n0_ := Aside0.mk (Kd.R_elder' (by (with_reducible repeat (first | apply Kd.R_alloc | apply Kd.R_drewN | apply Kd.R_drew)); exact HO133.out) (Kd.R_base ho23) hb); have n1_ := Aside0.mk (Kd.R_elder' (by (with_reducible repeat (first | apply Kd.R_alloc | apply Kd.R_drewN | apply Kd.R_drew)); exact HO137.out) (Kd.R_base ho23) hb); have n2_ := Aside0.mk (Kd.R_lower (Kd.R_new' (Kd.R_new' ho23 (Kd.R_lt (by (with_reducible repeat (first | apply Kd.R_alloc | apply Kd.R_drewN | apply Kd.R_drew)); exact HO133.out))) (Kd.R_lt (by (with_reducible repeat (first | apply Kd.R_alloc | apply Kd.R_drewN | apply Kd.R_drew)); exact HO137.out))) (below_size (by repeat (first | (with_reducible first | exact HB.out | apply below_alloc | apply pw_below_drewN | apply below_drew1) | exact HB.out)))); have n3_ := Aside0.mk (below_step (by repeat (first | (with_reducible first | exact HB.out | apply below_alloc | apply pw_below_drewN | apply below_drew1) | exact HB.out)) hb); clear HO133; clear HO137; clear HB; have HO133 := n0_; have HO137 := n1_; have HO141 := n2_; have HB := n3_; clear n0_ n1_ n2_ n3_; clear hb ho23; obtain ⟨Ao24, co24, eo24⟩ := Kd.R_slice HO141.out; subst eo24) | (go_at_call 18; (with_reducible refine (fit_In.calls k _ _ y139 (⟨#[100, 105, 118]⟩ : ByteArray) t142 _ ?side1 ?side2 ?side3 A13.out).mono ?_); (case side1 => repeat (first | exact (Kd.R_reads' HO141.out).2.2 | (with_reducible refine Kd.C_alloc ?_ _) | (with_reducible refine Kd.C_drewN ?_ _) | (with_reducible refine Kd.C_drew ?_))); (case side2 => exact (Kd.R_reads' HO141.out).2.1); (case side3 => exact GW.below HG.out (by repeat (first | (with_reducible first | exact HB.out | apply below_alloc | apply pw_below_drewN | apply below_drew1) | exact HB.out))); rintro e w25 ⟨rfl, hb⟩; have n0_ := Aside0.mk (Kd.R_below (by (with_reducible repeat (first | apply Kd.R_alloc | apply Kd.R_drewN | apply Kd.R_drew)); exact HO133.out) hb); have n1_ := Aside0.mk (Kd.R_below (by (with_reducible repeat (first | apply Kd.R_alloc | apply Kd.R_drewN | apply Kd.R_drew)); exact HO137.out) hb); have n2_ := Aside0.mk (Kd.R_below (by (with_reducible repeat (first | apply Kd.R_alloc | apply Kd.R_drewN | apply Kd.R_drew)); exact HO141.out) hb); have n3_ := Aside0.mk (below_step (by repeat (first | (with_reducible first | exact HB.out | apply below_alloc | apply pw_below_drewN | apply below_drew1) | exact HB.out)) hb); clear HO133; clear HO137; clear HO141; clear HB; have HO133 := n0_; have HO137 := n1_; have HO141 := n2_; have HB := n3_; clear n0_ n1_ n2_ n3_; (try clear hb); (try clear hb2); (try clear hk); (try clear hi)))
      go_ret
      exact ⟨by first | rfl | (simp [errW_none, errW_some] <;> rfl) | (simp [*, errW_none, errW_some] <;> rfl), by repeat (first | (with_reducible first | exact HB.out | apply below_alloc | apply pw_below_drewN | apply below_drew1) | exact HB.out)⟩
  · replace c2 := Bool.eq_false_iff.mpr c2
    subst c2
    have H1 : (some false) = some r := by rw [if_neg (show ¬ (false = true) by decide)] at H; exact H
    clear H
    have H := H1
    clear H1
    obtain rfl := Option.some.inj H
    go_enter Tryd.func17, Tryd.ntmps17
    go_wp2_with (first | ((with_reducible refine gate_dst (N := 1) rfl ?_); (try (refine gate_guard (by rfl) ?_; dsimp only)); refine Kd.R_lit Kd.string _ 9 ?hg (N := 1) ?hd (xs := ([(⟨#[98]⟩ : ByteArray)] : List ByteArray)) (inner := [.string (⟨#[98]⟩ : ByteArray)]) (ok := fun _ => True) (okp := fun _ => True) ?hr ?hp (fun _ hk => hk) trivial (Below.refl _ _) (Nat.le_refl _) (by simp) ?_; (case hd => rfl); (case hg => rfl); (case hr => first | (go_simp; done) | (go_simp; rfl)); (case hp => exact (Reps.one (show Kd.M Kd.string _ _ _ (⟨#[98]⟩ : ByteArray) [.string (⟨#[98]⟩ : ByteArray)] from rfl) (Reps.none _ _))); intro v132 w26 ho27 hb hg_ hnew_; clear hg_ hnew_; (first | rw [← Ny131.out] at ho27 | (simp only [Int.reduceToNat] at ho27; rw [← Ny131.out] at ho27)); have n0_ := Aside0.mk (Kd.R_lower ho27 (below_size (by repeat (first | (with_reducible first | exact HB.out | apply below_alloc | apply pw_below_drewN | apply below_drew1) | exact HB.out)))); have n1_ := Aside0.mk (below_step (by repeat (first | (with_reducible first | exact HB.out | apply below_alloc | apply pw_below_drewN | apply below_drew1) | exact HB.out)) hb); clear HB; have HO133 := n0_; have HB := n1_; clear n0_ n1_; clear hb ho27; obtain ⟨Ao28, co28, eo28⟩ := Kd.R_slice HO133.out; subst eo28) | ((with_reducible refine gate_callee (f := 18) rfl ?_); refine goesL_ (some 2) rfl rfl Tryd.func18 (by kernel_rfl) rfl #[.slice Ao28 y131.length co28, .string (⟨#[100, 105, 118]⟩ : ByteArray)] rfl (by (try simp only [List.map_toArray, List.map_cons, List.map_nil]); first | done | rfl | (simp only [List.length_drop, List.length_take]; rfl)) ?_; (with_reducible refine (fit_In.calls k _ _ y131 (⟨#[100, 105, 118]⟩ : ByteArray) false _ ?side1 ?side2 ?side3 A1.out).mono ?_); (case side1 => repeat (first | exact (Kd.R_reads' HO133.out).2.2 | (with_reducible refine Kd.C_alloc ?_ _) | (with_reducible refine Kd.C_drewN ?_ _) | (with_reducible refine Kd.C_drew ?_))); (case side2 => exact (Kd.R_reads' HO133.out).2.1); (case side3 => exact GW.below HG.out (by repeat (first | (with_reducible first | exact HB.out | apply below_alloc | apply pw_below_drewN | apply below_drew1) | exact HB.out))); rintro e w29 ⟨rfl, hb⟩; refine ⟨_, rfl, ?_⟩; have n0_ := Aside0.mk (Kd.R_below (by (with_reducible repeat (first | apply Kd.R_alloc | apply Kd.R_drewN | apply Kd.R_drew)); exact HO133.out) hb); have n1_ := Aside0.mk (below_step (by repeat (first | (with_reducible first | exact HB.out | apply below_alloc | apply pw_below_drewN | apply below_drew1) | exact HB.out)) hb); clear HO133; clear HB; have HO133 := n0_; have HB := n1_; clear n0_ n1_; (try clear hb); (try clear hb2); (try clear hk); (try clear hi)))
    go_ret
    exact ⟨by first | rfl | (simp [errW_none, errW_some] <;> rfl) | (simp [*, errW_none, errW_some] <;> rfl), by repeat (first | (with_reducible first | exact HB.out | apply below_alloc | apply pw_below_drewN | apply below_drew1) | exact HB.out)⟩

end Go.Proofs.YteahlapoeiikoaaDoor.P


-- Printed by a program of this session (wip/myprint.py over the kit's print).
namespace Go.Proofs.YteahlapoeiikoaaDoor.P
open Go.RowKit Go.Proofs.YteahlapoeiikoaaDoorW.PrintWords Go.Proofs.YteahlapoeiikoaaDoorW.PrintLast Go.Proofs.YteahlapoeiikoaaDoorW.PrintMore
attribute [local go_sem] max2_int min2_int max_two min_two max_three min_three max_four min_four   -- for this text's walks alone
set_option linter.unusedVariables false
set_option linter.unusedSimpArgs false

/-! ### decanterlaw21_FitIn: function 4 -/
mutual
def decanterlaw21_FitIn.j0 : Nat → List ByteArray → ByteArray → Bool → Option (Bool)
  | 0, _, _, _ => none
  | k + 1, x0, x1, x18 => if x18 = true then ((decanterlaw21_speaks.f k).bind fun t174 => (some t174)) else ((some (([x1, (⟨#[112]⟩ : ByteArray), (⟨#[108, 105]⟩ : ByteArray), (⟨#[100, 100]⟩ : ByteArray), (⟨#[100, 116]⟩ : ByteArray), (⟨#[97]⟩ : ByteArray), (⟨#[104, 50]⟩ : ByteArray), (⟨#[100, 105, 118]⟩ : ByteArray), (⟨#[98]⟩ : ByteArray), (⟨#[104, 114]⟩ : ByteArray)] : List ByteArray) : List ByteArray)).bind fun y175 => (decanterlaw21_FitIn.l0 k x0 y175 (y175.length : Int) 0))
def decanterlaw21_FitIn.l0 : Nat → List ByteArray → List ByteArray → Int → Int → Option (Bool)
  | 0, _, _, _, _ => none
  | k + 1, x0, x21, x22, x23 => if x23 < x22 then (if 0 ≤ x23 then (if x23 < (x21.length : Int) then ((fit_In.f k x0 (rdOf ByteArray.empty x21 x23)).bind fun t179 => ((decanterref21_In.f k x0 (rdOf ByteArray.empty x21 x23)).bind fun t180 => (if (t179 != t180) = true then (some false) else (decanterlaw21_FitIn.l0 k x0 x21 x22 (wrap64 (x23 + 1)))))) else (none)) else (none)) else (some true)
end
def decanterlaw21_FitIn.f (k : Nat) (l0 : List ByteArray) (a1 : ByteArray) : Option (Bool) := (decanterlaw21_speaks.f k).bind fun t173 => (if t173 = true then (if (l0.length : Int) > 40 then (decanterlaw21_FitIn.j0 k l0 a1 true) else (decanterlaw21_FitIn.j0 k l0 a1 (decide ((a1.size : Int) > 60)))) else (decanterlaw21_FitIn.j0 k l0 a1 true))
end Go.Proofs.YteahlapoeiikoaaDoor.P


-- Printed by a program of this session (wip/myprint.py over the kit's print).
namespace Go.Proofs.YteahlapoeiikoaaDoor.P
open Go.RowKit Go.Proofs.YteahlapoeiikoaaDoorW.PrintWords Go.Proofs.YteahlapoeiikoaaDoorW.PrintLast Go.Proofs.YteahlapoeiikoaaDoorW.PrintMore
attribute [local go_sem] max2_int min2_int max_two min_two max_three min_three max_four min_four   -- for this text's walks alone
set_option linter.unusedVariables false
set_option linter.unusedSimpArgs false

/-! ### decanterlaw21_FitOuter: function 5 -/
mutual
def decanterlaw21_FitOuter.j0 : Nat → List ByteArray → List ByteArray → ByteArray → Bool → Option (Bool)
  | 0, _, _, _, _ => none
  | k + 1, x0, x1, x2, x24 => if x24 = true then ((decanterlaw21_speaks.f k).bind fun t182 => (some t182)) else ((some (([] : List ByteArray) : List ByteArray)).bind fun y183 => (if y183.length + x0.length < 8796093022208 then ((some (y183 ++ x0 : List ByteArray)).bind fun y186 => (if y186.length < 8796093022208 then ((some (y186 ++ [(⟨#[112]⟩ : ByteArray)] : List ByteArray)).bind fun y189 => (if y189.length + x1.length < 8796093022208 then ((some (y189 ++ x1 : List ByteArray)).bind fun y192 => ((decanterref11_Is.f k x2 1).bind fun t195 => (if t195 = true then ((fit_In.f k y192 x2).bind fun t196 => (decanterlaw21_FitOuter.j1 k x0 x1 x2 y192 t196)) else (decanterlaw21_FitOuter.j1 k x0 x1 x2 y192 false)))) else (none))) else (none))) else (none)))
def decanterlaw21_FitOuter.j1 : Nat → List ByteArray → List ByteArray → ByteArray → List ByteArray → Bool → Option (Bool)
  | 0, _, _, _, _, _ => none
  | k + 1, x0, x1, x2, x7, x39 => if x39 = true then (some false) else ((decanterref11_Is.f k x2 1).bind fun t197 => (if t197 = true then (decanterlaw21_FitOuter.j2 k x0 x1 x2 false) else (if x2.toList = ([97] : List UInt8) then (decanterlaw21_FitOuter.j2 k x0 x1 x2 false) else ((fit_In.f k x7 x2).bind fun t198 => (decanterlaw21_FitOuter.j2 k x0 x1 x2 (!t198))))))
def decanterlaw21_FitOuter.j2 : Nat → List ByteArray → List ByteArray → ByteArray → Bool → Option (Bool)
  | 0, _, _, _, _ => none
  | k + 1, x0, x1, x2, x52 => if x52 = true then (some false) else ((some (([] : List ByteArray) : List ByteArray)).bind fun y199 => (if y199.length + x0.length < 8796093022208 then ((some (y199 ++ x0 : List ByteArray)).bind fun y202 => (if y202.length < 8796093022208 then ((some (y202 ++ [(⟨#[97]⟩ : ByteArray)] : List ByteArray)).bind fun y205 => (if y205.length + x1.length < 8796093022208 then ((fit_In.f k (y205 ++ x1) (⟨#[97]⟩ : ByteArray)).bind fun t211 => (if t211 = true then (some false) else ((fit_In.f k ([] : List ByteArray) x2).bind fun t212 => (some t212)))) else (none))) else (none))) else (none)))
end
def decanterlaw21_FitOuter.f (k : Nat) (l0 : List ByteArray) (l1 : List ByteArray) (a2 : ByteArray) : Option (Bool) := (decanterlaw21_speaks.f k).bind fun t181 => (if t181 = true then (if (l0.length : Int) > 20 then (decanterlaw21_FitOuter.j0 k l0 l1 a2 true) else (if (l1.length : Int) > 20 then (decanterlaw21_FitOuter.j0 k l0 l1 a2 true) else (decanterlaw21_FitOuter.j0 k l0 l1 a2 (decide ((a2.size : Int) > 60))))) else (decanterlaw21_FitOuter.j0 k l0 l1 a2 true))
end Go.Proofs.YteahlapoeiikoaaDoor.P

/-
  FitIn and FitOuter, about plain functions. Condition: no text is longer than 2^59 bytes.
-/

namespace Go.Proofs.YteahlapoeiikoaaDoor.Pure
open Go.RowKit Go.Proofs.YteahlapoeiikoaaDoor.P Go.Proofs.YteahlapoeiikoaaDoorW.PrintWords Go.Proofs.YteahlapoeiikoaaDoorW.PrintLast

theorem fits_of {o : List ByteArray} {n : ByteArray} {M k : Nat} (h1 : ∀ x ∈ o, x.size ≤ M) (h2 : n.size ≤ M) (h3 : M ≤ 1152921504606846000) (h4 : o.length ≤ 1000) (h5 : M + 2110 ≤ k) : Fits o n M k := ⟨h1, h2, h3, by omega, by omega⟩

set_option maxRecDepth 100000 in
theorem speaks21 (k : Nat) (hk : 2200 ≤ k) : decanterlaw21_speaks.f k = some true := by
  obtain ⟨k, rfl⟩ : ∃ m, k = m + 3 := ⟨k - 3, by omega⟩
  have f := fun (o : List ByteArray) (n : ByteArray) (h1 : ∀ x ∈ o, x.size ≤ 10) (h2 : n.size ≤ 10) (h4 : o.length ≤ 1000) => fitIn o n 10 k (fits_of h1 h2 (by decide) h4 (by omega))
  rw [decanterlaw21_speaks.f, f _ _ (by decide) (by decide) (by decide), f _ _ (by decide) (by decide) (by decide), f _ _ (by decide) (by decide) (by decide)]
  have e1 : inB [⟨#[98]⟩] ⟨#[100, 105, 118]⟩ = true := by decide +kernel
  have e2 : inB [⟨#[112]⟩] ⟨#[100, 105, 118]⟩ = false := by decide +kernel
  have e3 : inB [⟨#[112]⟩, ⟨#[98]⟩] ⟨#[100, 105, 118]⟩ = false := by decide +kernel
  rw [e1, e2, e3]
  rfl

/-- All fits in nothing. -/
theorem in_nil (n : ByteArray) : inB [] n = true := by
  have e : kB (lastOf []) 2 = false := by decide +kernel
  have e2 : nestedB [] n = false := by unfold nestedB; rfl
  unfold inB
  rw [e, e2]
  simp [memB]

end Go.Proofs.YteahlapoeiikoaaDoor.Pure
