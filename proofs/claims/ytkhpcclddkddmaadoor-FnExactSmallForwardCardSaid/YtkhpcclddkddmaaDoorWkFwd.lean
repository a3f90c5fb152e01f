/- The plain part of the two SmallForward. -/
import Derived.Test.YtkhpcclddkddmaaDoorWkHE
import Derived.Test.YtkhpcclddkddmaaDoorPFnExactSmallForwardx3
namespace Go.Proofs.YtkhpcclddkddmaaDoor.Wk
open Go.RowKit Go.Proofs.YtkhpcclddkddmaaDoorW.PrintWords Go.Proofs.YtkhpcclddkddmaaDoorW.PrintLast Go.Proofs.YtkhpcclddkddmaaDoorW.PrintMore Go.Proofs.YtkhpcclddkddmaaDoor.My
open Go.Proofs.YtkhpcclddkddmaaDoor.PFnExactSmallForward
set_option linter.unusedVariables false
set_option linter.unusedSimpArgs false
attribute [local congr] bind_left ite_left
theorem zrange_eq (k : Nat) (l : List Int) (lo hi most : Int) (hl : l.length ≤ 1048576) (hk : l.length < k) : impl_zrange.f k l lo hi most = some (decide ((l.length : Int) ≤ most) && inB lo hi l) := by
  unfold impl_zrange.f
  by_cases h : (l.length : Int) > most
  · rw [if_pos h, decide_eq_false (by omega), Bool.false_and]
  rw [if_neg h, decide_eq_true (by omega), Bool.true_and, ← Bool.and_true (inB lo hi l)]
  refine range_loop (F := fun k i => impl_zrange.l0 k lo hi l (l.length : Int) i) (c := 0) (fun k i hi => ?_) (fun k => ?_) k (by omega)
  · simp only [impl_zrange.l0, rd_nat]
    rw [wrap64_nat (by omega)]
    simp (disch := omega) only [if_pos, if_neg, decide_eq_true, decide_eq_false, if_true, Bool.false_eq_true, if_false, wrap64_id, u64_id, Option.bind_some]
  · simp only [impl_zrange.l0]
    rw [if_neg (by omega)]
theorem zcopy_eq (l : List Int) (hl : l.length ≤ 1048576) : impl_zcopy.f l = some l := by
  unfold impl_zcopy.f
  rw [Option.bind_some, if_pos (by simp; omega)]
  rfl
def zrT : List Int := [1, 1, 1, 1, 2, 1, -1, -2, 1, -1, -1, 1, 1, -2, 2, -1]
def zrTRows : List (List Int) := [[1, 1, 1, 1], [2, 1, -1, -2], [1, -1, -1, 1], [1, -2, 2, -1]]
/-- The table lies in the memory of the program's variable. -/
def RT (w : World) : Prop := ∀ i, i < 16 → w.cell? ⟨0, i, none⟩ = some (.int .i64 (zrT.getD i 0))
theorem RT.stay {w w' : World} (h : RT w) (hb : Below w.heap.size w w') : RT w' := fun i hi => cell_stay hb (h i hi)
/-- One step of a sum: place p of t grows by a product. -/
def bump (t : List Int) (p : Nat) (v : Int) : List Int := t.set p (wrap64 (t.getD p 0 + v))
def M1 (l : List Int) : Nat → List Int
  | 0 => List.replicate 16 0
  | m + 1 => bump (M1 l m) (4 * (m / 16) + m / 4 % 4) (wrap64 (zrT.getD (4 * (m / 4 % 4) + m % 4) 0 * l.getD (4 * (m / 16) + m % 4) 0))
def M2 (t : List Int) : Nat → List Int
  | 0 => List.replicate 16 0
  | m + 1 => bump (M2 t m) (4 * (m / 4 % 4) + m / 16) (wrap64 (zrT.getD (4 * (m / 4 % 4) + m % 4) 0 * t.getD (4 * (m % 4) + m / 16) 0))
theorem M1_length (l : List Int) (m : Nat) : (M1 l m).length = 16 := by
  induction m with
  | zero => rfl
  | succ m ih => simp [M1, bump, ih]
theorem M2_length (t : List Int) (m : Nat) : (M2 t m).length = 16 := by
  induction m with
  | zero => rfl
  | succ m ih => simp [M2, bump, ih]
theorem M1_step (l : List Int) {y k x : Nat} (hk : k < 4) (hx : x < 4) : M1 l (16 * y + 4 * k + x + 1) = bump (M1 l (16 * y + 4 * k + x)) (4 * y + k) (wrap64 (zrT.getD (4 * k + x) 0 * l.getD (4 * y + x) 0)) := by
  rw [M1, show (16 * y + 4 * k + x) / 16 = y by omega, show (16 * y + 4 * k + x) / 4 % 4 = k by omega, show (16 * y + 4 * k + x) % 4 = x by omega]
theorem M2_step (t : List Int) {y k x : Nat} (hk : k < 4) (hx : x < 4) : M2 t (16 * y + 4 * k + x + 1) = bump (M2 t (16 * y + 4 * k + x)) (4 * k + y) (wrap64 (zrT.getD (4 * k + x) 0 * t.getD (4 * x + y) 0)) := by
  rw [M2, show (16 * y + 4 * k + x) / 16 = y by omega, show (16 * y + 4 * k + x) / 4 % 4 = k by omega, show (16 * y + 4 * k + x) % 4 = x by omega]
def okSm (l : List Int) : Prop := inB (-65536) 65535 l = true ∧ l.length = 16
open Classical in
noncomputable def fwL (l : List Int) : List Int := if okSm l then M2 (M1 l 64) 64 else []
theorem fwL_length (l : List Int) : (fwL l).length ≤ 1048576 := by
  unfold fwL
  split
  · rw [M2_length]; omega
  · simp
theorem T_eq {u x : Nat} (hu : u < 4) (hx : x < 4) : spec_l13T.f (u : Int) (x : Int) = some (zrT.getD (4 * u + x) 0) := by
  unfold spec_l13T.f
  have e : wrap64 (wrap64 (4 * (u : Int)) + (x : Int)) = ((4 * u + x : Nat) : Int) := by
    rw [wrap64_id (n := 4 * (u : Int)) (by omega) (by omega), wrap64_id (n := 4 * (u : Int) + (x : Int)) (by omega) (by omega)]
    omega
  rw [Option.bind_some, e, if_pos (by omega), if_pos (by show _ < (16 : Int); omega), rd_nat]
  rfl
theorem ix_eq {a b : Nat} (ha : a < 100) (hb : b < 100) : wrap64 (wrap64 (4 * (a : Int)) + (b : Int)) = ((4 * a + b : Nat) : Int) := by
  rw [wrap64_id (n := 4 * (a : Int)) (by omega) (by omega), wrap64_id (n := 4 * (a : Int) + (b : Int)) (by omega) (by omega)]
  omega
theorem l2_step (l t z : List Int) (hl : l.length = 16) (ht : t.length = 16) {y u x : Nat} (hy : y < 4) (hu : u < 4) (hx : x < 4) (k : Nat) :
    spec_l13Forward.l2 (k + 1) l t z y u x = spec_l13Forward.l2 k l (bump t (4 * y + u) (wrap64 (zrT.getD (4 * u + x) 0 * l.getD (4 * y + x) 0))) z y u ((x + 1 : Nat) : Int) := by
  simp only [spec_l13Forward.l2]
  rw [if_pos (by omega), ix_eq (by omega) (by omega), ix_eq (by omega) (by omega), T_eq hu hx, if_pos (by omega), if_pos (by omega), Option.bind_some, if_pos (by omega), if_pos (by omega), Int.toNat_natCast, rd_nat, rd_nat, wrap64_nat (by omega)]
  rfl
theorem l5_step (t z : List Int) (ht : t.length = 16) (hz : z.length = 16) {y u x : Nat} (hy : y < 4) (hu : u < 4) (hx : x < 4) (k : Nat) :
    spec_l13Forward.l5 (k + 1) t z y u x = spec_l13Forward.l5 k t (bump z (4 * u + y) (wrap64 (zrT.getD (4 * u + x) 0 * t.getD (4 * x + y) 0))) y u ((x + 1 : Nat) : Int) := by
  simp only [spec_l13Forward.l5]
  rw [if_pos (by omega), ix_eq (by omega) (by omega), ix_eq (by omega) (by omega), T_eq hu hx, if_pos (by omega), if_pos (by omega), Option.bind_some, if_pos (by omega), if_pos (by omega), Int.toNat_natCast, rd_nat, rd_nat, wrap64_nat (by omega)]
  rfl
theorem l2_all (l z : List Int) (hl : l.length = 16) {y u : Nat} (hy : y < 4) (hu : u < 4) (k : Nat) :
    spec_l13Forward.l2 (k + 5) l (M1 l (16 * y + 4 * u)) z y u 0 = spec_l13Forward.l1 k l (M1 l (16 * y + 4 * (u + 1))) z y ((u + 1 : Nat) : Int) := by
  have s0 := l2_step l (M1 l (16 * y + 4 * u + 0)) z hl (M1_length _ _) hy hu (x := 0) (by omega) (k + 4)
  have s1 := l2_step l (M1 l (16 * y + 4 * u + 1)) z hl (M1_length _ _) hy hu (x := 1) (by omega) (k + 3)
  have s2 := l2_step l (M1 l (16 * y + 4 * u + 2)) z hl (M1_length _ _) hy hu (x := 2) (by omega) (k + 2)
  have s3 := l2_step l (M1 l (16 * y + 4 * u + 3)) z hl (M1_length _ _) hy hu (x := 3) (by omega) (k + 1)
  rw [← M1_step l hu (by omega)] at s0 s1 s2 s3
  refine s0.trans (s1.trans (s2.trans (s3.trans ?_)))
  simp only [spec_l13Forward.l2]
  rw [if_neg (by omega), wrap64_nat (by omega)]
  rfl
theorem l5_all (t : List Int) (ht : t.length = 16) {y u : Nat} (hy : y < 4) (hu : u < 4) (k : Nat) :
    spec_l13Forward.l5 (k + 5) t (M2 t (16 * y + 4 * u)) y u 0 = spec_l13Forward.l4 k t (M2 t (16 * y + 4 * (u + 1))) y ((u + 1 : Nat) : Int) := by
  have s0 := l5_step t (M2 t (16 * y + 4 * u + 0)) ht (M2_length _ _) hy hu (x := 0) (by omega) (k + 4)
  have s1 := l5_step t (M2 t (16 * y + 4 * u + 1)) ht (M2_length _ _) hy hu (x := 1) (by omega) (k + 3)
  have s2 := l5_step t (M2 t (16 * y + 4 * u + 2)) ht (M2_length _ _) hy hu (x := 2) (by omega) (k + 2)
  have s3 := l5_step t (M2 t (16 * y + 4 * u + 3)) ht (M2_length _ _) hy hu (x := 3) (by omega) (k + 1)
  rw [← M2_step t hu (by omega)] at s0 s1 s2 s3
  refine s0.trans (s1.trans (s2.trans (s3.trans ?_)))
  simp only [spec_l13Forward.l5]
  rw [if_neg (by omega), wrap64_nat (by omega)]
  rfl
theorem l1_one (l z : List Int) (hl : l.length = 16) {y u : Nat} (hy : y < 4) (hu : u < 4) (k : Nat) :
    spec_l13Forward.l1 (k + 6) l (M1 l (16 * y + 4 * u)) z y u = spec_l13Forward.l1 k l (M1 l (16 * y + 4 * (u + 1))) z y ((u + 1 : Nat) : Int) := by
  simp only [spec_l13Forward.l1]
  rw [if_pos (by omega)]
  exact l2_all l z hl hy hu k
theorem l4_one (t : List Int) (ht : t.length = 16) {y u : Nat} (hy : y < 4) (hu : u < 4) (k : Nat) :
    spec_l13Forward.l4 (k + 6) t (M2 t (16 * y + 4 * u)) y u = spec_l13Forward.l4 k t (M2 t (16 * y + 4 * (u + 1))) y ((u + 1 : Nat) : Int) := by
  simp only [spec_l13Forward.l4]
  rw [if_pos (by omega)]
  exact l5_all t ht hy hu k
theorem l0_one (l z : List Int) (hl : l.length = 16) {y : Nat} (hy : y < 4) (k : Nat) :
    spec_l13Forward.l0 (k + 26) l (M1 l (16 * y)) z y = spec_l13Forward.l0 k l (M1 l (16 * (y + 1))) z ((y + 1 : Nat) : Int) := by
  have e : spec_l13Forward.l0 (k + 26) l (M1 l (16 * y)) z y = spec_l13Forward.l1 (k + 25) l (M1 l (16 * y + 4 * 0)) z y ((0 : Nat) : Int) := by
    simp only [spec_l13Forward.l0]
    rw [if_pos (by omega)]
    rfl
  refine e.trans ((l1_one l z hl hy (u := 0) (by omega) (k + 19)).trans ((l1_one l z hl hy (u := 1) (by omega) (k + 13)).trans ((l1_one l z hl hy (u := 2) (by omega) (k + 7)).trans ((l1_one l z hl hy (u := 3) (by omega) (k + 1)).trans ?_))))
  simp only [spec_l13Forward.l1]
  rw [if_neg (by omega), wrap64_nat (by omega)]
  rfl
theorem l3_one (t : List Int) (ht : t.length = 16) {y : Nat} (hy : y < 4) (k : Nat) :
    spec_l13Forward.l3 (k + 26) t (M2 t (16 * y)) y = spec_l13Forward.l3 k t (M2 t (16 * (y + 1))) ((y + 1 : Nat) : Int) := by
  have e : spec_l13Forward.l3 (k + 26) t (M2 t (16 * y)) y = spec_l13Forward.l4 (k + 25) t (M2 t (16 * y + 4 * 0)) y ((0 : Nat) : Int) := by
    simp only [spec_l13Forward.l3]
    rw [if_pos (by omega)]
    rfl
  refine e.trans ((l4_one t ht hy (u := 0) (by omega) (k + 19)).trans ((l4_one t ht hy (u := 1) (by omega) (k + 13)).trans ((l4_one t ht hy (u := 2) (by omega) (k + 7)).trans ((l4_one t ht hy (u := 3) (by omega) (k + 1)).trans ?_))))
  simp only [spec_l13Forward.l4]
  rw [if_neg (by omega), wrap64_nat (by omega)]
  rfl
theorem forward_eq (l : List Int) (hl : l.length = 16) (k : Nat) : spec_l13Forward.f (k + 300) l = some (M2 (M1 l 64) 64) := by
  unfold spec_l13Forward.f
  rw [if_pos (by omega)]
  refine (l0_one l _ hl (y := 0) (by omega) (k + 274)).trans ((l0_one l _ hl (y := 1) (by omega) (k + 248)).trans ((l0_one l _ hl (y := 2) (by omega) (k + 222)).trans ((l0_one l _ hl (y := 3) (by omega) (k + 196)).trans ?_)))
  have e : spec_l13Forward.l0 (k + 196) l (M1 l (16 * (3 + 1))) (List.replicate 16 0) ((3 + 1 : Nat) : Int) = spec_l13Forward.l3 (k + 195) (M1 l 64) (M2 (M1 l 64) (16 * 0)) ((0 : Nat) : Int) := by
    simp only [spec_l13Forward.l0]
    rw [if_neg (by omega)]
    rfl
  have ht := M1_length l 64
  refine e.trans ((l3_one _ ht (y := 0) (by omega) (k + 169)).trans ((l3_one _ ht (y := 1) (by omega) (k + 143)).trans ((l3_one _ ht (y := 2) (by omega) (k + 117)).trans ((l3_one _ ht (y := 3) (by omega) (k + 91)).trans ?_))))
  simp only [spec_l13Forward.l3]
  rw [if_neg (by omega)]
theorem small_eq (k : Nat) (l : List Int) (hl : l.length ≤ 1048576) (hk : l.length < k) : spec_l13Small.f k l = some (inB (-65536) 65535 l && ((l.length : Int) == 16)) := by
  unfold spec_l13Small.f
  refine range_loop (F := fun k i => spec_l13Small.l0 k l l (l.length : Int) i) (c := 0) (fun k i hi => ?_) (fun k => ?_) k (by omega)
  · simp only [spec_l13Small.l0, rd_nat]
    rw [wrap64_nat (by omega)]
    simp (disch := omega) only [if_pos, if_neg, decide_eq_true, decide_eq_false, if_true, Bool.false_eq_true, if_false, wrap64_id, u64_id, Option.bind_some]
  · simp only [spec_l13Small.l0]
    rw [if_neg (by omega)]
theorem beq16 (n : Nat) : ((n : Int) == 16) = decide (n = 16) := by rw [Bool.eq_iff_iff]; simp; omega
theorem zsmall_eq (k : Nat) (l : List Int) (hl : l.length ≤ 1048576) (hk : l.length < k) : impl_zsmall.f k l = some (inB (-65536) 65535 l && decide (l.length = 16)) := by
  unfold impl_zsmall.f
  by_cases h : l.length = 16
  · rw [if_pos (by omega), zrange_eq _ _ _ _ _ hl hk, Option.bind_some, decide_eq_true (by omega), decide_eq_true h, Bool.true_and, Bool.and_true]
  · rw [if_neg (by omega), decide_eq_false h, Bool.and_false]
theorem fw_eq (l : List Int) (hl : l.length ≤ 1048576) (k : Nat) (hk : 1048700 < k) : spec_SmallForward.f k l = some (fwL l) := by
  unfold spec_SmallForward.f fwL
  rw [small_eq k l hl (by omega), Option.bind_some]
  by_cases h : okSm l
  · obtain ⟨m, rfl⟩ : ∃ m, k = m + 300 := ⟨k - 300, by omega⟩
    rw [h.1, h.2, Bool.true_and, if_pos (by decide), forward_eq l h.2 m, Option.bind_some, if_pos h]
  · have hb : ¬ ((inB (-65536) 65535 l && ((l.length : Int) == 16)) = true) := fun g => by
      rw [Bool.and_eq_true, beq16, decide_eq_true_eq] at g
      exact h g
    rw [if_neg hb, if_neg h]
end Go.Proofs.YtkhpcclddkddmaaDoor.Wk
