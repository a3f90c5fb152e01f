/- The plain part of the two SmallCoarse, and walks of the class of a place. -/
import Derived.Test.YtkhpcclddkddmaaDoorWkHE
import Derived.Test.YtkhpcclddkddmaaDoorPFnExactSmallCoarsex2
namespace Go.Proofs.YtkhpcclddkddmaaDoor.Wk
open Go.RowKit Go.Proofs.YtkhpcclddkddmaaDoorW.PrintWords Go.Proofs.YtkhpcclddkddmaaDoorW.PrintLast Go.Proofs.YtkhpcclddkddmaaDoorW.PrintMore Go.Proofs.YtkhpcclddkddmaaDoor.My
open Go.Proofs.YtkhpcclddkddmaaDoor.PFnExactSmallCoarse
set_option linter.unusedVariables false
set_option linter.unusedSimpArgs false
attribute [local congr] bind_left ite_left
theorem zrange_eq (k : Nat) (l : List Int) (lo hi most : Int) (hl : l.length ≤ 1048576) (hk : l.length < k) : impl_zrange.f k l lo hi most = some (decide ((l.length : Int) ≤ most) && inB lo hi l) := by
  unfold impl_zrange.f
  by_cases h : (l.length : Int) > most
  · rw [if_pos h, decide_eq_false (by omega), Bool.false_and]
  rw [if_neg h, decide_eq_true (by omega), Bool.true_and, ← Bool.and_true (inB lo hi l)]
  refine range_loop (F := fun k i => impl_zrange.l0 k lo hi l (l.length : Int) i) (c := 0) (fun k i hi => ?_) (fun k => ?_) k (by omega)
  · simp only [impl_zrange.l0, rd_nat]
    rw [wrap64_nat (by omega)]
    simp (disch := omega) only [if_pos, if_neg, decide_eq_true, decide_eq_false, if_true, Bool.false_eq_true, if_false, wrap64_id, u64_id, Option.bind_some]
  · simp only [impl_zrange.l0]
    rw [if_neg (by omega)]
theorem zcopy_eq (l : List Int) (hl : l.length ≤ 1048576) : impl_zcopy.f l = some l := by
  unfold impl_zcopy.f
  rw [Option.bind_some, if_pos (by simp; omega)]
  rfl
def zmT : List Int := [13107, 5243, 8066, 11916, 4660, 7490, 10082, 4194, 6554, 9362, 3647, 5825, 8192, 3355, 5243, 7282, 2893, 4559]
def zmTRows : List (List Int) := [[13107, 5243, 8066], [11916, 4660, 7490], [10082, 4194, 6554], [9362, 3647, 5825], [8192, 3355, 5243], [7282, 2893, 4559]]
/-- The table lies in the memory of the program's variable. -/
def MT (w : World) : Prop := ∀ i, i < 18 → w.cell? ⟨2, i, none⟩ = some (.int .i64 (zmT.getD i 0))
theorem MT.stay {w w' : World} (h : MT w) (hb : Below w.heap.size w w') : MT w' := fun i hi => cell_stay hb (h i hi)
def cls (i : Nat) : Int := ([0, 2, 0, 2, 2, 1, 2, 1, 0, 2, 0, 2, 2, 1, 2, 1] : List Int).getD i 0
theorem cls_b (i : Nat) : 0 ≤ cls i ∧ cls i ≤ 2 := by
  by_cases h : i < 16
  · have : ∀ j : Fin 16, 0 ≤ cls j.val ∧ cls j.val ≤ 2 := by decide
    exact this ⟨i, h⟩
  · unfold cls
    simp [List.getD, List.getElem?_eq_none (show ([0, 2, 0, 2, 2, 1, 2, 1, 0, 2, 0, 2, 2, 1, 2, 1] : List Int).length ≤ i by simp; omega)]
theorem zmT_b (i : Nat) : 0 ≤ zmT.getD i 0 ∧ zmT.getD i 0 ≤ 13107 := by
  by_cases h : i < 18
  · have : ∀ j : Fin 18, 0 ≤ zmT.getD j.val 0 ∧ zmT.getD j.val 0 ≤ 13107 := by decide
    exact this ⟨i, h⟩
  · simp [List.getD, List.getElem?_eq_none (show zmT.length ≤ i by show 18 ≤ i; omega)]
theorem case16 {p : Nat → Prop} (h : ∀ j : Fin 16, p j.val) (i : Nat) (hi : i < 16) : p i := h ⟨i, hi⟩
theorem class_eq (k i : Nat) (hi : i < 16) : spec_l13Class.f (k + 1) (i : Int) = some (cls i) := by
  obtain rfl | rfl | rfl | rfl | rfl | rfl | rfl | rfl | rfl | rfl | rfl | rfl | rfl | rfl | rfl | rfl : i = 0 ∨ i = 1 ∨ i = 2 ∨ i = 3 ∨ i = 4 ∨ i = 5 ∨ i = 6 ∨ i = 7 ∨ i = 8 ∨ i = 9 ∨ i = 10 ∨ i = 11 ∨ i = 12 ∨ i = 13 ∨ i = 14 ∨ i = 15 := by omega
  all_goals (simp only [spec_l13Class.f, spec_l13Class.j0]; decide +kernel)
set_option maxHeartbeats 40000000 in
theorem zclass_calls (i : Nat) (hi : i < 16) (w : World) : Calls Tryd.prog 27 #[.int .i64 (i : Int)] w fun e w' => e = .returned (.int .i64 (cls i)) ∧ w' = w := by
  obtain rfl | rfl | rfl | rfl | rfl | rfl | rfl | rfl | rfl | rfl | rfl | rfl | rfl | rfl | rfl | rfl : i = 0 ∨ i = 1 ∨ i = 2 ∨ i = 3 ∨ i = 4 ∨ i = 5 ∨ i = 6 ∨ i = 7 ∨ i = 8 ∨ i = 9 ∨ i = 10 ∨ i = 11 ∨ i = 12 ∨ i = 13 ∨ i = 14 ∨ i = 15 := by omega
  all_goals
    go_enter Tryd.func27, Tryd.ntmps27
    go_wp2_with fail
    try simp only [and_i64_one]
    go_wp2
    go_ret
    exact ⟨rfl, rfl⟩
def iabs (n : Int) : Int := if n < 0 then -n else n
def okSm (l : List Int) : Prop := inB (-65536) 65535 l = true ∧ l.length = 16
theorem okSm.at {l : List Int} (h : okSm l) {n : Nat} (hn : n < 16) : -65536 ≤ rd l (n : Int) ∧ rd l (n : Int) ≤ 65535 := by
  have := inB_iff.1 h.1 n (by rw [h.2]; exact hn)
  rw [rd_nat]
  exact this
def scX (l : List Int) (s : Int) (i : Nat) : Int := shr .i64 (wrap64 (wrap64 (iabs (rd l (i : Int)) * rd zmT (3 * (s % 6) + cls i)) + shl .i64 1 (14 + s / 6))) (15 + s / 6)
def scV (l : List Int) (s : Int) (i : Nat) : Int := if rd l (i : Int) < 0 then wrap64 (-(scX l s i)) else scX l s i
open Classical in
noncomputable def scL (l : List Int) (s : Int) : List Int := if okSm l ∧ 0 ≤ s ∧ s ≤ 40 then tab 16 (scV l s) else []
theorem scL_length (l : List Int) (s : Int) : (scL l s).length ≤ 1048576 := by
  unfold scL
  split
  · rw [tab_length]; omega
  · simp
theorem small_eq (k : Nat) (l : List Int) (hl : l.length ≤ 1048576) (hk : l.length < k) : spec_l13Small.f k l = some (inB (-65536) 65535 l && ((l.length : Int) == 16)) := by
  unfold spec_l13Small.f
  refine range_loop (F := fun k i => spec_l13Small.l0 k l l (l.length : Int) i) (c := 0) (fun k i hi => ?_) (fun k => ?_) k (by omega)
  · simp only [spec_l13Small.l0, rd_nat]
    rw [wrap64_nat (by omega)]
    simp (disch := omega) only [if_pos, if_neg, decide_eq_true, decide_eq_false, if_true, Bool.false_eq_true, if_false, wrap64_id, u64_id, Option.bind_some]
  · simp only [spec_l13Small.l0]
    rw [if_neg (by omega)]
theorem beq16 (n : Nat) : ((n : Int) == 16) = decide (n = 16) := by rw [Bool.eq_iff_iff]; simp; omega
theorem zsmall_eq (k : Nat) (l : List Int) (hl : l.length ≤ 1048576) (hk : l.length < k) : impl_zsmall.f k l = some (inB (-65536) 65535 l && decide (l.length = 16)) := by
  unfold impl_zsmall.f
  by_cases h : l.length = 16
  · rw [if_pos (by omega), zrange_eq _ _ _ _ _ hl hk, Option.bind_some, decide_eq_true (by omega), decide_eq_true h, Bool.true_and, Bool.and_true]
  · rw [if_neg (by omega), decide_eq_false h, Bool.and_false]
theorem abs_eq (n : Int) (h : -65536 ≤ n ∧ n ≤ 65535) : spec_l4Abs.f n = some (iabs n) := by
  unfold spec_l4Abs.f iabs
  by_cases h : n < 0
  · simp (disch := omega) only [if_pos, if_neg, decide_eq_true, decide_eq_false, if_true, Bool.false_eq_true, if_false, wrap64_id, u64_id, Option.bind_some]
  · simp (disch := omega) only [if_pos, if_neg, decide_eq_true, decide_eq_false, if_true, Bool.false_eq_true, if_false, wrap64_id, u64_id, Option.bind_some]
theorem coarse_eq (l : List Int) (s : Int) (h : okSm l) (s0 : 0 ≤ s) (s1 : s ≤ 40) (k : Nat) (hk : 100 < k) : spec_l13Coarse.f k l s = some (tab 16 (scV l s)) := by
  obtain ⟨k, rfl⟩ : ∃ m, k = m + 1 := ⟨k - 1, by omega⟩
  have et : Int.tmod s 6 = s % 6 := Int.tmod_eq_emod_of_nonneg s0
  have ed : Int.tdiv s 6 = s / 6 := Int.tdiv_eq_ediv_of_nonneg s0
  have hl := h.2
  unfold spec_l13Coarse.f
  rw [if_pos (by omega), ed, wrap64_id (n := s / 6) (by omega) (by omega), u64_id (n := s / 6) (by omega) (by omega)]
  refine fill_loop (F := fun k (out : List Int) i => spec_l13Coarse.l0 (k + 1) s zmT (s / 6) out l (l.length : Int) i) (n := 16) (c := 0) (f := scV l s) (g := fun x => x) (fun k out i ho hi => ?_) (fun k out ho => ?_) k (by omega) _ (by simp)
  · have b := h.at hi
    have cb := cls_b i
    simp only [spec_l13Coarse.l0]
    rw [abs_eq _ b, class_eq k i hi, et, wrap64_nat (by omega)]
    have ew : wrap64 (wrap64 (3 * (s % 6)) + cls i) = 3 * (s % 6) + cls i := by
      rw [wrap64_id (n := 3 * (s % 6)) (by omega) (by omega)]
      exact wrap64_id (n := 3 * (s % 6) + cls i) (by omega) (by omega)
    have e14 : IntKind.u64.wrap (14 + s / 6) = 14 + s / 6 := u64_id (n := 14 + s / 6) (by omega) (by omega)
    have e15 : IntKind.u64.wrap (15 + s / 6) = 15 + s / 6 := u64_id (n := 15 + s / 6) (by omega) (by omega)
    have hz : (zmT.length : Int) = 18 := rfl
    rw [if_pos (by omega), if_pos (by omega), if_pos (by omega), Option.bind_some, Option.bind_some, ew, e14, e15, if_pos (by omega), if_pos (by rw [hz]; omega), if_pos (by omega), if_pos (by omega), Int.toNat_natCast]
    unfold scV
    by_cases hn : rd l (i : Int) < 0
    · rw [if_pos hn, if_pos hn, if_pos (by omega)]
      rfl
    · rw [if_neg hn, if_neg hn, if_pos (by omega)]
      rfl
  · simp only [spec_l13Coarse.l0]
    rw [if_neg (by omega)]
theorem sc_eq (l : List Int) (s : Int) (hl : l.length ≤ 1048576) (k : Nat) (hk : 1048700 < k) : spec_SmallCoarse.f k l s = some (scL l s) := by
  unfold spec_SmallCoarse.f scL
  rw [small_eq k l hl (by omega), Option.bind_some]
  by_cases h : okSm l
  · rw [h.1, h.2, Bool.true_and, if_pos (by decide)]
    by_cases h0 : s < 0
    · rw [if_pos h0, if_neg (by omega)]
    · by_cases h1 : s > 40
      · rw [if_neg h0, if_pos h1, if_neg (by omega)]
      · rw [if_neg h0, if_neg h1, coarse_eq l s h (by omega) (by omega) k (by omega), Option.bind_some, if_pos ⟨h, by omega, by omega⟩]
  · have hb : ¬ ((inB (-65536) 65535 l && ((l.length : Int) == 16)) = true) := fun g => by
      rw [Bool.and_eq_true, beq16, decide_eq_true_eq] at g
      exact h g
    rw [if_neg hb, if_neg (fun g => h g.1)]
end Go.Proofs.YtkhpcclddkddmaaDoor.Wk
