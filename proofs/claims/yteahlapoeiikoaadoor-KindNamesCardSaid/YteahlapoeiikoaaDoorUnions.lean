/-
  decanterlaw11.KindUnions, walked: it answers true. Conditions: the library's tables hold what they were laid with; the numbers are of 16 bits.
-/
import Derived.Test.YteahlapoeiikoaaDoorSeen
import Derived.Test.YteahlapoeiikoaaDoorKindAll
import Derived.Test.YteahlapoeiikoaaDoorJoin12
import Derived.Test.YteahlapoeiikoaaDoorJoin15

namespace Go.Proofs.YteahlapoeiikoaaDoor.P
open Go.RowKit Go.Maps Go.Proofs.YteahlapoeiikoaaDoorW.PrintWords Go.Proofs.YteahlapoeiikoaaDoor.Pure
set_option linter.unusedSimpArgs false
set_option linter.unusedVariables false

section
variable {w : World} {base : Nat} {ok : Nat → Prop} {xs : List ByteArray}
theorem R_shape {v : Value} (h : Kd.R Kd.string 9 w base ok v xs) : ∃ A c, v = .slice A xs.length c := by
  obtain ⟨_, inner, hown, _⟩ := h
  rcases hown.2 with ⟨rfl, hn⟩ | ⟨g, cap, cur, rfl, _⟩
  · exact ⟨none, 0, by rw [hn]⟩
  · exact ⟨_, cap, rfl⟩
theorem R_text {A : Option Addr} {n c : Nat} (h : Kd.R Kd.string 9 w base ok (.slice A n c) xs) (i : Nat) (hi : i < xs.length) :
    ∃ g, A = some ⟨g, 0, none⟩ ∧ w.cell? ⟨g, i, none⟩ = some (.string (xs[i]?.getD ByteArray.empty)) := by
  obtain ⟨_, inner, hown, hr⟩ := h
  rcases hown.2 with ⟨hv, hn⟩ | ⟨g, cap, cur, hv, _⟩
  · exact absurd hn (by omega)
  · cases hv
    refine ⟨g, rfl, ?_⟩
    have hc := hown.cellAt i (by show i < xs.length * 1; omega)
    rw [hc]
    have hl : inner.length = xs.length * 1 := hr.1
    have hx := hr.2 i xs[i] (List.getElem?_eq_getElem hi)
    have hx' : (inner.drop (i * 1)).take 1 = [Value.string xs[i]] := hx
    rw [Nat.mul_one] at hx'
    have : inner[i]? = some (Value.string xs[i]) := by
      have h2 : ((inner.drop i).take 1)[0]? = some (Value.string xs[i]) := by rw [hx']; rfl
      rw [List.getElem?_take, if_pos (by decide), List.getElem?_drop] at h2
      simpa using h2
    rw [this]
    simp [List.getElem?_eq_getElem hi]
end
/-- What kind.All's answer is. -/
theorem all_facts (k : Int) (M : List ByteArray) (h : kind_All.f k = some M) : (∀ m ∈ M, m.size ≤ maxLen) ∧ M.length ≤ 200 ∧ (∀ l, l ∈ M.map (·.data.toList) ↔ l ∈ allK k) ∧ M.length = (allK k).length := by
  rw [all_some] at h
  obtain rfl := Option.some.inj h
  refine ⟨names_short _ (all_short k), by rw [names_len]; exact all_few k, fun l => ?_, names_len _⟩
  have e : (names (allK k)).map (·.data.toList) = allK k := by
    generalize allK k = L
    unfold names
    rw [List.map_map]
    exact (List.map_congr_left (fun _ _ => rfl)).trans (List.map_id _)
  rw [e]

theorem mem_getD {M : List ByteArray} {k : Nat} (hk : k < M.length) : M[k]?.getD ByteArray.empty ∈ M := by
  rw [List.getElem?_eq_getElem hk]
  exact List.getElem_mem hk
theorem take_more {M : List ByteArray} {k : Nat} (hk : k < M.length) (l : List UInt8) : l ∈ (M.take (k + 1)).map (·.data.toList) ↔ l ∈ (M[k]?.getD ByteArray.empty).data.toList :: (M.take k).map (·.data.toList) := by
  rw [List.take_add_one, List.getElem?_eq_getElem hk]
  simp only [Option.toList_some, List.map_append, List.mem_append, List.map_cons, List.map_nil, List.mem_singleton, List.mem_cons, Option.getD_some]
  simp only [List.not_mem_nil, or_false]
  exact or_comm
theorem R_ge {w : World} {base : Nat} {ok : Nat → Prop} {xs : List ByteArray} {g n c : Nat} (h : Kd.R Kd.string 9 w base ok (.slice (some ⟨g, 0, none⟩) n c) xs) : base ≤ g := by
  obtain ⟨_, inner, hown, _⟩ := h
  exact (hown.lt g rfl).1

set_option maxRecDepth 1000000 in
theorem pow_all : ((List.range 10).all fun k => !(allK (wrap64 (2 ^ k))).isEmpty) = true := by kernel_rfl
theorem pow_some (k : Nat) (hk : k < 10) : ∃ M, kind_All.f (wrap64 (2 ^ k)) = some M ∧ ¬ (M.length : Int) = 0 := by
  have h := List.all_eq_true.1 pow_all k (List.mem_range.2 hk)
  refine ⟨_, all_some _, ?_⟩
  generalize allK (wrap64 (2 ^ k)) = L at h
  cases L with
  | nil => simp at h
  | cons x l => rw [names_len]; simp only [List.length_cons]; omega

set_option maxRecDepth 100000 in
set_option maxHeartbeats 800000 in
theorem unions_calls (a b : Int) (w : World) (hG : GW w) (ha : 0 ≤ a ∧ a ≤ 65535) (hb : 0 ≤ b ∧ b ≤ 65535) :
    Calls Tryd.prog 11 #[.int .u16 a, .int .u16 b] w fun e w' => e = .returned (.bool true) ∧ Below w.heap.size w w' := by
  have hmm := @run_makeMap Tryd.prog
  go_enter Tryd.func11, Tryd.ntmps11
  go_upto_region 4 with (go_at_call 13; refine (decanterlaw11_speaks.calls true _ hG speaks11).mono ?_; rintro e w1 ⟨rfl, hb1⟩)
  generalize hXe : a % 1024 = X
  generalize hYe : b % 1024 = Y
  have hX : 0 ≤ X ∧ X ≤ 1023 := by omega
  have hY : 0 ≤ Y ∧ Y ≤ 1023 := by omega
  have hG1 : GW (w1.alloc (.map #[] 0)) := (hG.below hb1).alloc _
  obtain ⟨MX, hMX⟩ : ∃ MX, kind_All.f X = some MX := ⟨_, all_some X⟩
  obtain ⟨MY, hMY⟩ : ∃ MY, kind_All.f Y = some MY := ⟨_, all_some Y⟩
  obtain ⟨sX, lX, mX, jX⟩ := all_facts X MX hMX
  obtain ⟨sY, lY, mY, jY⟩ := all_facts Y MY hMY
  clear jX jY
  have hF : (∀ m ∈ MX ++ MY, m.size ≤ maxLen) ∧ (MX ++ MY).length ≤ 400 ∧ (∀ l, l ∈ (MX ++ MY).map (·.data.toList) ↔ l ∈ allK X ∨ l ∈ allK Y) := by
    refine ⟨fun m hm => ?_, by rw [List.length_append]; omega, fun l => by rw [List.map_append, List.mem_append, mX, mY]⟩
    rcases List.mem_append.1 hm with h | h
    · exact sX m h
    · exact sY m h
  have hS0 := Seen.made w1
  have hBd0 : Below w.heap.size w (w1.alloc (.map #[] 0)) := hb1.alloc hb1.size _
  have hsz1 : w1.heap.size < (w1.alloc (.map #[] 0)).heap.size := by simp
  have hsz2 : w.heap.size ≤ w1.heap.size := hb1.size
  clear hmm
  have hmm := run_makeMap (P := Tryd.prog) 55 w1
  go_upto_region 5 with (first | go_in)
  go_wp2_with (first
    | (go_at_call 33; (with_reducible refine (kind_All.calls X MX _ hG1 hMX).mono ?_); rintro e w3 ⟨v1, rfl, ho1, hb3⟩)
    | (go_at_call 33; (with_reducible refine (kind_All.calls Y MY _ (hG1.below hb3) hMY).mono ?_); rintro e w4 ⟨v2, rfl, ho2, hb4⟩; obtain ⟨A2, c2, rfl, _, hC2⟩ := Kd.R_reads ho2)
    | ((with_reducible refine gate_builtin (b := .append) (xs := #[.tmp 24, .tmp 26]) rfl ?_); at_builtin; refine Kd.R_append_rows Kd.string (w0 := w4) (w1.alloc (.map #[] 0)).heap.size rfl (.tmp 24) (.tmp 26) 25 9 (.string ⟨#[]⟩) 16 rfl Tryd.underlying25 info9 rfl (by decide) (by omega) v1 MX MY A2 _ c2 (fun _ => True) (fun _ => False) rfl rfl (Kd.R_below ho1 hb4) hC2 (fun _ _ h => h) (fun _ h => h.elim) (fun _ _ => trivial) (Below.refl _ _) (Nat.le_trans hb3.size hb4.size) (by omega) ?_; intro v5 w5 ho5 hb5 hg5 hat5; generalize hM : MX ++ MY = M at ho5 hF; clear hM; obtain ⟨A5, c5, rfl⟩ := R_shape ho5)
    | go_in)
  obtain ⟨hsM, hlM, hmM⟩ := hF
  have hv1 : some w1.heap.size ≠ v1.ownBlock := by
    intro e
    obtain ⟨_, inner, hown, _⟩ := ho1
    have := (hown.lt _ e.symm).1
    omega
  have hS5 : Seen w5 w1.heap.size 0 [] := ((hS0.kept (grown_of_below hb3) (by simp)).kept (grown_of_below hb4) (by simp)).kept hg5 hv1
  have hB5 : Below w.heap.size w w5 := (((hBd0.trans (hb3.mono hBd0.size)).trans (hb4.mono (Nat.le_trans hBd0.size hb3.size)))).grown hg5 (Nat.le_trans hBd0.size (Nat.le_trans hb3.size hb4.size)) (fun j hj => by
    obtain ⟨_, inner, hown, _⟩ := ho1
    have := (hown.lt j hj).1
    omega)
  have hw5 : (w1.alloc (.map #[] 0)).heap.size ≤ w5.heap.size := Nat.le_trans hb3.size (Nat.le_trans hb4.size hg5.size)
  clear mX mY sX sY lX lY hC2 hat5 hb5 hv1 hg5 ho1 ho2
  go_loopw [29] (fun i wr => ∃ (k n : Nat) (S : List (List UInt8)), i = .int .i64 k ∧ k ≤ M.length ∧ n ≤ k ∧ Seen wr w1.heap.size n S ∧ (∀ l, l ∈ S ↔ l ∈ (M.take k).map (·.data.toList)) ∧
      Kd.R Kd.string 9 wr (w1.alloc (.map #[] 0)).heap.size (fun j => j ≠ w1.heap.size) (.slice A5 M.length c5) M ∧ Below w.heap.size w wr ∧ (w1.alloc (.map #[] 0)).heap.size ≤ wr.heap.size)
    (fun i _ => M.length - (intOf i).toNat)
  case atStart => exact ⟨0, 0, [], rfl, Nat.zero_le _, Nat.le_refl _, hS5, fun l => by simp, Kd.R_mono (Kd.R_bound ho5) (fun j hj => by have := hj.2.1; omega), hB5, hw5⟩
  case round =>
    obtain ⟨k, n, S, rfl, hk, hn, hS, hm, hR, hB, hz⟩ := hrel
    by_cases hlt : k < M.length
    · obtain ⟨g, rfl, hcell⟩ := R_text hR k hlt
      have hgb := R_ge hR
      have hxm := hsM _ (mem_getD hlt)
      have htk := take_more hlt
      generalize hx : M[k]?.getD ByteArray.empty = x at hcell hxm htk
      clear hx
      obtain ⟨w6, hrun, hS6, hg6⟩ := hS.put (by unfold maxLen; omega) x hxm
      go_wp2
      go_roundw
      case rel =>
        refine ⟨k + 1, n + 1, x.data.toList :: S, by go_num, hlt, by omega, hS6, fun l => ?_, Kd.R_grown hR hg6 (fun j hj => by intro e; cases e; exact hj rfl), hB.grown hg6 hB.size (fun j hj => by cases hj; exact hsz2), Nat.le_trans hz hg6.size⟩
        rw [htk, List.mem_cons, List.mem_cons, hm]
      case measure =>
        simp only [intOf]
        omega
    · have hkM : k = M.length := by omega
      subst hkM
      have hmS : ∀ l, l ∈ S ↔ l ∈ allK (Go.bits .or .i64 X Y) := by
        intro l
        rw [hm, List.take_length, hmM, mem_union X Y hX hY]
      clear hm
      have hU := or_range X Y hX hY
      obtain ⟨MU, hMU⟩ : ∃ MU, kind_All.f (Go.bits .or .i64 X Y) = some MU := ⟨_, all_some _⟩
      obtain ⟨sU, lU, mU, jU0⟩ := all_facts _ MU hMU
      have jU := Aside0.mk jU0
      clear jU0
      have hGr : GW wr := hG.below hB
      have hgen : ∀ x ∈ MU, x.size ≤ maxLen ∧ x.data.toList ∈ S ∧ Go.bits .and .i64 (kindOf x) (Go.bits .or .i64 X Y) ≠ 0 := by
        intro x hx
        have h1 := (mU x.data.toList).1 (List.mem_map.2 ⟨x, hx, rfl⟩)
        have h2 := of_and _ hU _ h1
        have e : (⟨x.data.toList.toArray⟩ : ByteArray) = x := by simp
        rw [e] at h2
        exact ⟨sU x hx, (hmS _).2 h1, h2⟩
      clear mU sU
      generalize hUe : Go.bits .or .i64 X Y = U at hMU hU hgen hmS jU
      go_wp2_with (first
        | (go_at_call 33; (with_reducible refine (kind_All.calls U MU _ hGr hMU).mono ?_); rintro e w7 ⟨v7, rfl, ho7, hb7⟩; obtain ⟨A7, c7, rfl⟩ := R_shape ho7)
        | go_in)
      have hS7 : Seen w7 w1.heap.size n S := hS.kept (grown_of_below hb7) (by simp)
      have hB7 : Below w.heap.size w w7 := hB.trans (hb7.mono hB.size)
      clear hS hR hB5 hB hb7 hS5
      go_loopw [42] (fun i wq => ∃ k : Nat, i = .int .i64 k ∧ k ≤ MU.length ∧ Seen wq w1.heap.size n S ∧ Kd.R Kd.string 9 wq wr.heap.size (fun _ => True) (.slice A7 MU.length c7) MU ∧ Below w.heap.size w wq)
        (fun i _ => MU.length - (intOf i).toNat)
      case atStart => exact ⟨0, rfl, Nat.zero_le _, hS7, ho7, hB7⟩
      case round =>
        clear hS7 ho7 hB7
        obtain ⟨k, rfl, hk2, hS, hR, hB⟩ := hrel
        by_cases hlt2 : k < MU.length
        · obtain ⟨g, rfl, hcell⟩ := R_text hR k hlt2
          obtain ⟨hxm, hxS, hx0⟩ := hgen _ (mem_getD hlt2)
          generalize MU[k]?.getD ByteArray.empty = x at hcell hxm hxS hx0
          have hlook := hS.look x hxm
          rw [decide_eq_true hxS] at hlook
          have hof := of_eq hxm
          have hGq : GW _ := hG.below hB
          go_wp2_with (first
            | (go_at_call 15; (with_reducible refine (kind_Of.calls x (kindOf x) _ hGq hof).mono ?_); rintro e w8 ⟨rfl, hb8⟩)
            | go_in)
          go_roundw
          case rel =>
            exact ⟨k + 1, by go_num, hlt2, hS.kept (grown_of_below hb8) (by simp), Kd.R_below hR hb8, hB.trans (hb8.mono hB.size)⟩
          case measure =>
            simp only [intOf]
            omega
        · have hk3 : k = MU.length := by omega
          subst hk3
          clear hR
          go_wp2
          go_loopw [60] (fun i wq => ∃ k : Nat, i = .int .i64 k ∧ k ≤ 10 ∧ Seen wq w1.heap.size n S ∧ Below w.heap.size w wq)
            (fun i _ => 10 - (intOf i).toNat)
          case atStart => exact ⟨0, rfl, by omega, hS, hB⟩
          case round =>
            clear hS hB
            obtain ⟨k, rfl, hk4, hS, hB⟩ := hrel
            by_cases hlt3 : k < 10
            · have hGq : GW _ := hG.below hB
              obtain ⟨MJ, hMJ, hJ⟩ := pow_some k hlt3
              go_wp2_with (first
                | (go_at_call 33; (with_reducible refine (kind_All.calls (wrap64 (2 ^ k)) MJ _ hGq hMJ).mono ?_); rintro e w9 ⟨v9, rfl, ho9, hb9⟩; obtain ⟨A9, c9, rfl⟩ := R_shape ho9)
                | go_in)
              go_roundw
              case rel => exact ⟨k + 1, by go_num, hlt3, hS.kept (grown_of_below hb9) (by simp), hB.trans (hb9.mono hB.size)⟩
              case measure =>
                simp only [intOf]
                omega
            · have hlen := fun ty => hS.len (all_nodup U) (fun x => (hmS x).symm) ty
              rw [← jU.out] at hlen
              go_wp2
              go_ret
              exact ⟨rfl, hB⟩
/-- What the law answers. -/
def decanterlaw11_KindUnions.f (a b : Int) : Option Bool := if (0 ≤ a ∧ a ≤ 65535) ∧ 0 ≤ b ∧ b ≤ 65535 then some true else none
theorem decanterlaw11_KindUnions.calls (a b : Int) (r : Bool) (w : World) (hG : GW w) (h : decanterlaw11_KindUnions.f a b = some r) :
    Calls Tryd.prog 11 #[.int .u16 a, .int .u16 b] w fun e w' => e = .returned (.bool r) ∧ Below w.heap.size w w' := by
  unfold decanterlaw11_KindUnions.f at h
  split at h
  · rename_i hab
    obtain rfl := Option.some.inj h
    exact unions_calls a b w hG hab.1 hab.2
  · cases h
theorem kindUnionsLaw {a b : Int} (ha : (Lit.int .u16 a).wf = true) (hb : (Lit.int .u16 b).wf = true) : decanterlaw11_KindUnions.f a b = some true :=
  if_pos ⟨u16_range ha, u16_range hb⟩
#print axioms unions_calls
end Go.Proofs.YteahlapoeiikoaaDoor.P
