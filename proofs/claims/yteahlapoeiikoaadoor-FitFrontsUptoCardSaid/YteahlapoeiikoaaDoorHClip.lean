/-
  slices.Clip at []string, and an append behind it. No condition but that the row is not too long.
-/
import Derived.ArgAppend
import Derived.Test.YteahlapoeiikoaaDoorJoin11

namespace Go.Proofs.YteahlapoeiikoaaDoor.P
open Go.RowKit Go.Proofs.YteahlapoeiikoaaDoorW.PrintWords Go.Proofs.YteahlapoeiikoaaDoorW.PrintLast
set_option linter.unusedSimpArgs false
set_option linter.unusedVariables false

/-- A row of texts without room behind it. -/
def ClipF (w : World) (v : Value) (l : List ByteArray) : Prop := ∃ A : Option Addr, v = .slice A l.length l.length ∧ Kd.C Kd.string w A l.length l
theorem ClipF.below {w w' : World} {v : Value} {l : List ByteArray} (h : ClipF w v l) (hb : Below w.heap.size w w') : ClipF w' v l := by
  obtain ⟨A, e, hC⟩ := h
  exact ⟨A, e, Kd.C_below hC hb⟩
theorem ClipF.alloc {w : World} {v : Value} {l : List ByteArray} (h : ClipF w v l) (o : Obj) : ClipF (w.alloc o) v l := h.below ((Below.refl _ _).alloc (Nat.le_refl _) o)
theorem ClipF.drewN {w : World} {v : Value} {l : List ByteArray} (h : ClipF w v l) (n : Nat) : ClipF (w.drewN n) v l := h.below (pw_below_drewN (Below.refl _ _) n)
theorem ClipF.drew {w : World} {v : Value} {l : List ByteArray} (h : ClipF w v l) : ClipF w.drew v l := h.below (below_drew1 (Below.refl _ _))
def slices_Clip_string_string.f (l0 : List ByteArray) : Option (List ByteArray) := some l0
set_option maxRecDepth 100000 in
set_option maxHeartbeats 1000000 in
theorem slices_Clip_string_string.calls (A0 : Option Addr) (c0 : Nat) (l0 : List ByteArray) (r : List ByteArray) (w : World) (hr0 : Kd.C Kd.string w A0 l0.length l0) (hc0 : l0.length ≤ c0) (h : slices_Clip_string_string.f l0 = some r) :
    Calls Tryd.prog 80 #[.slice A0 l0.length c0] w fun e w' => ∃ v0_ : Value, e = .returned (v0_) ∧ ClipF w' v0_ r ∧ Below w.heap.size w w' := by
  obtain rfl := Option.some.inj h
  go_enter Tryd.func80, Tryd.ntmps80
  go_wp2
  go_ret
  exact ⟨_, rfl, ⟨A0, rfl, hr0⟩, Below.refl _ _⟩
theorem R_own_strs {w : World} {base : Nat} {v : Value} {xs : List ByteArray} (h : w.ownsRow base 9 1 v xs.length (xs.map Value.string)) : Kd.R Kd.string 9 w base (fun _ => True) v xs := by
  refine ⟨fun _ _ => trivial, xs.map Value.string, h, by simp [Kd.string, Kd.scalar], fun j p hp => ?_⟩
  show _ = [Value.string p]
  have hj := (List.getElem?_eq_some_iff.1 hp).1
  have e : (List.drop j (xs.map Value.string)).take 1 = [Value.string p] := by
    rw [List.drop_eq_getElem_cons (by simpa using hj)]
    simp [(List.getElem?_eq_some_iff.1 hp).2]
  show List.take 1 (List.drop (j * 1) _) = _
  rw [Nat.mul_one, e]
theorem clip_info9 : (Tryd.prog.info? 9).map (fun i => (i.zero, i.size, i.bytes)) = some (some (.string ⟨#[]⟩), 1, 16) := by kernel_rfl
theorem str_cells {w : World} {A : Addr} {n : Nat} {xs : List ByteArray} (h : Kd.C Kd.string w (some A) n xs) : ∀ j u, (xs.map Value.string)[j]? = some u → w.cell? (A.add j) = some u := by
  intro j u hj
  rw [List.getElem?_map] at hj
  obtain ⟨x, hx, rfl⟩ := Option.map_eq_some_iff.1 hj
  have hl := (List.getElem?_eq_some_iff.1 hx).1
  obtain ⟨ad, e, hc⟩ := Kd.at_string h (j : Int) (by omega) (by have := h.1; omega)
  cases e
  rw [Int.toNat_natCast] at hc
  rw [hc]
  congr 2
  simp [rdOf, List.getD_eq_getElem?_getD, hx]
theorem clip_append_step {ops : Array Oper} {o : Oper} {a : Act} {Q : Exit → Act → World → Prop} {Kc : Act → World → Prop} {w0 W : World} (base : Nat) (hw : Region.wanted o (yielded ops a.tmps) = true) (s x : Operand)
    (ho : o.op = .call { callee := .builtin .append, args := #[s, x], argTypes := #[25, 25] })
    (v : Value) (xs ys : List ByteArray) (A : Option Addr) (m c : Nat) (hs : a.eval s = v) (hx : a.eval x = .slice A m c)
    (HO : ClipF W v xs) (HR : Kd.C Kd.string W A m ys) (hm0 : 0 < m) (HB : Below base w0 W) (hbase : base ≤ W.heap.size) (hl : (xs.length + m) * 16 ≤ 140737488355328)
    (h : ∀ v1 w1, Kd.R Kd.string 9 w1 base (fun _ => True) v1 (xs ++ ys) → Below base w0 w1 → W.grownBy w1 none → Kc (a.put o.dst v1) w1) :
    if Region.wanted o (yielded ops a.tmps) = true then Oper.wp Tryd.prog o a W Kc Q else Kc (a.put o.dst undef) W := by
  obtain ⟨Av, rfl, hC⟩ := HO
  obtain ⟨i0, hi, hzz⟩ := Option.map_eq_some_iff.1 clip_info9
  simp only [Prod.mk.injEq] at hzz
  obtain ⟨hz0, hz1, hz2⟩ := hzz
  have hm : ys.length = m := HR.1
  obtain ⟨ad, rfl, _⟩ := HR.2.2 hm0
  cases Av with
  | none =>
    have h0 : xs = [] := by
      rcases Nat.eq_zero_or_pos xs.length with h0 | h0
      · exact List.eq_nil_of_length_eq_zero h0
      · obtain ⟨_, e, _⟩ := hC.2.2 h0
        cases e
    subst h0
    exact Kd.R_append_rows_step Kd.string (w0 := w0) base hw s x 25 9 (.string ⟨#[]⟩) 16 ho Tryd.underlying25 clip_info9 rfl (by decide) (by omega) (.slice none 0 0) [] ys _ m c (fun _ => True) (fun _ => False) hs hx
      (Kd.R_nil _ _ _ _ _) HR (fun _ _ h => h) (fun _ h => h.elim) (fun _ _ => trivial) HB hbase (by simpa using hl) (fun v1 w1 h1 h2 h3 _ => h v1 w1 h1 h2 h3)
  | some av =>
    obtain ⟨v1, w1, hr1, h1, hg⟩ := run_append_arg_grows (P := Tryd.prog) W 25 o.type 9 i0 (.string ⟨#[]⟩) 1 16 Tryd.underlying25 hi hz0 hz1 hz2 rfl (by decide) av xs.length xs.length (xs.map Value.string) (by simp) (str_cells hC)
      ad m c (ys.map Value.string) (by simp [hm]) (str_cells HR) (by omega) (by simp only [maxLen]; omega) hl
    rw [if_pos hw]
    unfold Oper.wp execOp
    simp only [ho, resolve, invoke, builtin, Sem.run_bind, Sem.run_pure, Result.andThen_ok, List.map_toArray, List.map_cons, List.map_nil, hs, hx, hr1]
    refine h v1 w1 ?_ (HB.grown hg hbase (fun j hj => by cases hj)) hg
    rw [← List.map_append] at h1
    rw [← hm, ← List.length_append] at h1
    exact Kd.R_lower (R_own_strs h1) hbase
end Go.Proofs.YteahlapoeiikoaaDoor.P
