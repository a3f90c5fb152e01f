-- PRINTED BY print.sh 35421559b90ae4d0a3588c463048766b98c2df88dd9212a6774a882060cdf62d: not written by this session
import Derived.Test.YtkhpcclddkddmaaDoorPFnExactSmallCoarsex0
import Derived.Test.YtkhpcclddkddmaaDoorPFnExactSmallCoarsex1
namespace Go.Proofs.YtkhpcclddkddmaaDoor.PFnExactSmallCoarse
open Go.RowKit Go.Proofs.YtkhpcclddkddmaaDoorW.PrintWords Go.Proofs.YtkhpcclddkddmaaDoorW.PrintLast Go.Proofs.YtkhpcclddkddmaaDoorW.PrintMore
attribute [local go_sem] max2_int min2_int max_two min_two max_three min_three max_four min_four   -- for this text's walks alone
set_option linter.unusedVariables false
set_option linter.unusedSimpArgs false

/-! ### spec_l13Coarse: function 28 -/
def spec_l13Coarse.l0 : Nat → Int → List Int → Int → List Int → List Int → Int → Int → Option (List Int)
  | 0, _, _, _, _, _, _, _ => none
  | k + 1, x1, x5, x6, x7, x16, x17, x18 => if x18 < x17 then (if 0 ≤ x18 then (if x18 < (x16.length : Int) then ((spec_l4Abs.f (rd x16 x18)).bind fun t118 => ((spec_l13Class.f k x18).bind fun t119 => (if 0 ≤ (wrap64 ((wrap64 (3 * (Int.tmod x1 6))) + t119)) then (if (wrap64 ((wrap64 (3 * (Int.tmod x1 6))) + t119)) < (x5.length : Int) then (if 0 ≤ (IntKind.u64.wrap (14 + x6)) then (if 0 ≤ (IntKind.u64.wrap (15 + x6)) then (if (rd x16 x18) < 0 then (if x18 < (x7.length : Int) then (spec_l13Coarse.l0 k x1 x5 x6 (x7.set (x18 : Int).toNat (wrap64 (-(shr .i64 (wrap64 ((wrap64 (t118 * (rd x5 (wrap64 ((wrap64 (3 * (Int.tmod x1 6))) + t119))))) + (shl .i64 1 (IntKind.u64.wrap (14 + x6))))) (IntKind.u64.wrap (15 + x6)))))) x16 x17 (wrap64 (x18 + 1))) else (none)) else (if x18 < (x7.length : Int) then (spec_l13Coarse.l0 k x1 x5 x6 (x7.set (x18 : Int).toNat (shr .i64 (wrap64 ((wrap64 (t118 * (rd x5 (wrap64 ((wrap64 (3 * (Int.tmod x1 6))) + t119))))) + (shl .i64 1 (IntKind.u64.wrap (14 + x6))))) (IntKind.u64.wrap (15 + x6)))) x16 x17 (wrap64 (x18 + 1))) else (none))) else (none)) else (none)) else (none)) else (none)))) else (none)) else (none)) else (some x7)
def spec_l13Coarse.f (k : Nat) (l0 : List Int) (a1 : Int) : Option (List Int) := if 16 ≤ 35184372088832 then (spec_l13Coarse.l0 k a1 (([13107, 5243, 8066, 11916, 4660, 7490, 10082, 4194, 6554, 9362, 3647, 5825, 8192, 3355, 5243, 7282, 2893, 4559] : List Int)) (IntKind.u64.wrap (wrap64 (Int.tdiv a1 6))) (List.replicate 16 0) l0 (l0.length : Int) 0) else (none)
theorem spec_l13Coarse.mono_l : ∀ k, (∀ y0 y1 y2 y3 y4 y5 y6, LeO (spec_l13Coarse.l0 k y0 y1 y2 y3 y4 y5 y6) (spec_l13Coarse.l0 (k + 1) y0 y1 y2 y3 y4 y5 y6))
  | 0 => fun _ _ _ _ _ _ _ r h => by simp [spec_l13Coarse.l0] at h
  | k + 1 => by
    have ih0 := spec_l13Coarse.mono_l k
    · intro y0 y1 y2 y3 y4 y5 y6
      unfold spec_l13Coarse.l0
      repeat' first
      | (with_reducible exact ih0 _ _ _ _ _ _ _)
      | (with_reducible exact spec_l13Class.mono _ _)
      | (with_reducible exact LeO.refl _)
      | (with_reducible exact LeO.none _)
      | (with_reducible refine LeO.ite ?_ ?_)
      | (with_reducible refine LeO.bind ?_ (fun _ => ?_))
      | exact ih0 _ _ _ _ _ _ _
      | exact spec_l13Class.mono _ _
      | exact LeO.none _
      | refine LeO.ite ?_ ?_
      | refine LeO.bind ?_ (fun _ => ?_)
theorem spec_l13Coarse.mono : ∀ a0 a1 k, LeO (spec_l13Coarse.f k a0 a1) (spec_l13Coarse.f (k + 1) a0 a1) := by
  intro a0 a1 k
  have ih0 := spec_l13Coarse.mono_l k
  unfold spec_l13Coarse.f
  repeat' first
      | (with_reducible exact ih0 _ _ _ _ _ _ _)
      | (with_reducible exact spec_l13Class.mono _ _)
      | (with_reducible exact LeO.refl _)
      | (with_reducible exact LeO.none _)
      | (with_reducible refine LeO.ite ?_ ?_)
      | (with_reducible refine LeO.bind ?_ (fun _ => ?_))
      | exact ih0 _ _ _ _ _ _ _
      | exact spec_l13Class.mono _ _
      | exact LeO.none _
      | refine LeO.ite ?_ ?_
      | refine LeO.bind ?_ (fun _ => ?_)
set_option maxHeartbeats 8000000 in
set_option maxRecDepth 100000 in
theorem spec_l13Coarse.calls (k : Nat) (A0 : Option Addr) (c0 : Nat) (l0 : List Int) (a1 : Int) (r : List Int) (w : World) (hr0 : Kd.C (Kd.int .i64) w A0 l0.length l0) (hc0 : l0.length ≤ c0) (h : spec_l13Coarse.f k l0 a1 = some r) :
    Calls Tryd.prog 28 #[.slice A0 l0.length c0, .int .i64 a1] w fun e w' => ∃ v0_ : Value, e = .returned (v0_) ∧ Kd.R (Kd.int .i64) 3 w' w.heap.size (fun _ => True) v0_ r ∧ Below w.heap.size w w' := by
  have HR0 := Aside0.mk hr0
  have HC0 := Aside0.mk hc0
  clear hr0 hc0
  have HB := Aside0.mk (Below.refl w.heap.size w)
  have H : (if 16 ≤ 35184372088832 then (spec_l13Coarse.l0 k a1 (([13107, 5243, 8066, 11916, 4660, 7490, 10082, 4194, 6554, 9362, 3647, 5825, 8192, 3355, 5243, 7282, 2893, 4559] : List Int)) (IntKind.u64.wrap (wrap64 (Int.tdiv a1 6))) (List.replicate 16 0) l0 (l0.length : Int) 0) else (none)) = some r := h
  clear h
  obtain ⟨y111, hy111⟩ : ∃ y_ : List Int, y_ = (([13107, 5243, 8066, 11916, 4660, 7490, 10082, 4194, 6554, 9362, 3647, 5825, 8192, 3355, 5243, 7282, 2893, 4559] : List Int)) := ⟨_, rfl⟩
  replace H : (if 16 ≤ 35184372088832 then (spec_l13Coarse.l0 k a1 y111 (IntKind.u64.wrap (wrap64 (Int.tdiv a1 6))) (List.replicate 16 0) l0 (l0.length : Int) 0) else (none)) = some r := by first | (rw [hy111]; with_reducible exact H) | (have H2_ := (Option.bind_some _ _).symm.trans H; rw [hy111]; with_reducible exact H2_) | (have H2_ := (Option.bind_some _ _).symm.trans H; with_reducible exact H2_) | with_reducible exact H | (rw [hy111]; exact H) | exact H
  have Ny111 := Aside0.mk hy111
  clear hy111
  by_cases c3 : 16 ≤ 35184372088832
  · rw [if_pos c3] at H
    have c3b0 := eq_true c3
    have c3b1 : decide (16 ≤ 35184372088832) = true := decide_eq_true c3
    clear c3
    obtain ⟨y114, hy114⟩ : ∃ y_ : List Int, y_ = (List.replicate 16 0) := ⟨_, rfl⟩
    replace H : (spec_l13Coarse.l0 k a1 y111 (IntKind.u64.wrap (wrap64 (Int.tdiv a1 6))) y114 l0 (l0.length : Int) 0) = some r := by first | (rw [hy114]; with_reducible exact H) | (have H2_ := (Option.bind_some _ _).symm.trans H; rw [hy114]; with_reducible exact H2_) | (have H2_ := (Option.bind_some _ _).symm.trans H; with_reducible exact H2_) | with_reducible exact H | (rw [hy114]; exact H) | exact H
    have Ny114 := Aside0.mk hy114
    clear hy114
    have H' := Aside0.mk H
    clear H
    go_enter Tryd.func28, Tryd.ntmps28
    go_wp2_with (first | ((with_reducible refine gate_dst (N := 11) rfl ?_); refine Kd.R_lit (Kd.int .i64) _ 3 ?hg (N := 11) ?hd (xs := ([13107, 5243, 8066, 11916, 4660, 7490, 10082, 4194, 6554, 9362, 3647, 5825, 8192, 3355, 5243, 7282, 2893, 4559] : List Int)) (inner := [.int .i64 13107, .int .i64 5243, .int .i64 8066, .int .i64 11916, .int .i64 4660, .int .i64 7490, .int .i64 10082, .int .i64 4194, .int .i64 6554, .int .i64 9362, .int .i64 3647, .int .i64 5825, .int .i64 8192, .int .i64 3355, .int .i64 5243, .int .i64 7282, .int .i64 2893, .int .i64 4559]) (ok := fun _ => True) (okp := fun _ => True) ?hr ?hp (fun _ hk => hk) trivial (Below.refl _ _) (Nat.le_refl _) (by simp) ?_; (case hd => rfl); (case hg => rfl); (case hr => first | (go_simp; done) | (go_simp; rfl)); (case hp => exact (Reps.one (show Kd.M (Kd.int .i64) _ _ _ 13107 [.int .i64 13107] from rfl) (Reps.one (show Kd.M (Kd.int .i64) _ _ _ 5243 [.int .i64 5243] from rfl) (Reps.one (show Kd.M (Kd.int .i64) _ _ _ 8066 [.int .i64 8066] from rfl) (Reps.one (show Kd.M (Kd.int .i64) _ _ _ 11916 [.int .i64 11916] from rfl) (Reps.one (show Kd.M (Kd.int .i64) _ _ _ 4660 [.int .i64 4660] from rfl) (Reps.one (show Kd.M (Kd.int .i64) _ _ _ 7490 [.int .i64 7490] from rfl) (Reps.one (show Kd.M (Kd.int .i64) _ _ _ 10082 [.int .i64 10082] from rfl) (Reps.one (show Kd.M (Kd.int .i64) _ _ _ 4194 [.int .i64 4194] from rfl) (Reps.one (show Kd.M (Kd.int .i64) _ _ _ 6554 [.int .i64 6554] from rfl) (Reps.one (show Kd.M (Kd.int .i64) _ _ _ 9362 [.int .i64 9362] from rfl) (Reps.one (show Kd.M (Kd.int .i64) _ _ _ 3647 [.int .i64 3647] from rfl) (Reps.one (show Kd.M (Kd.int .i64) _ _ _ 5825 [.int .i64 5825] from rfl) (Reps.one (show Kd.M (Kd.int .i64) _ _ _ 8192 [.int .i64 8192] from rfl) (Reps.one (show Kd.M (Kd.int .i64) _ _ _ 3355 [.int .i64 3355] from rfl) (Reps.one (show Kd.M (Kd.int .i64) _ _ _ 5243 [.int .i64 5243] from rfl) (Reps.one (show Kd.M (Kd.int .i64) _ _ _ 7282 [.int .i64 7282] from rfl) (Reps.one (show Kd.M (Kd.int .i64) _ _ _ 2893 [.int .i64 2893] from rfl) (Reps.one (show Kd.M (Kd.int .i64) _ _ _ 4559 [.int .i64 4559] from rfl) (Reps.none _ _)))))))))))))))))))); intro v112 w4 ho5 hb hg_ hnew_; clear hg_ hnew_; (first | rw [← Ny111.out] at ho5 | (simp only [Int.reduceToNat] at ho5; rw [← Ny111.out] at ho5)); have n0_ := Aside0.mk (Kd.R_lower ho5 (below_size (by repeat (first | (with_reducible first | exact HB.out | apply below_alloc | apply pw_below_drewN | apply below_drew1) | exact HB.out)))); have n1_ := Aside0.mk (below_step (by repeat (first | (with_reducible first | exact HB.out | apply below_alloc | apply pw_below_drewN | apply below_drew1) | exact HB.out)) hb); clear HB; have HO113 := n0_; have HB := n1_; clear n0_ n1_; clear hb ho5) | ((with_reducible refine gate_dst (N := 15) rfl ?_); refine Kd.R_make (Kd.int .i64) _ 3 rfl (N := 15) rfl 22 _ _ rfl 16 rfl rfl Tryd.underlying22 (.int .i64 0) 8 info3 rfl (by decide) (by omega) 0 (ok := fun _ => True) (okp := fun _ => True) rfl (fun _ hk => hk) trivial (by omega) (by omega) (Below.refl _ _) (Nat.le_refl _) ?_; intro v115 w6 ho7 hb hg_ hnew_; clear hg_ hnew_; (first | rw [← Ny114.out] at ho7 | (simp only [Int.reduceToNat] at ho7; rw [← Ny114.out] at ho7)); have n0_ := Aside0.mk (Kd.R_elder' (by (with_reducible repeat (first | apply Kd.R_alloc | apply Kd.R_drewN | apply Kd.R_drew)); exact HO113.out) (Kd.R_base ho7) hb); have n1_ := Aside0.mk (Kd.R_lower (Kd.R_new' ho7 (Kd.R_lt (by (with_reducible repeat (first | apply Kd.R_alloc | apply Kd.R_drewN | apply Kd.R_drew)); exact HO113.out))) (below_size (by repeat (first | (with_reducible first | exact HB.out | apply below_alloc | apply pw_below_drewN | apply below_drew1) | exact HB.out)))); have n2_ := Aside0.mk (below_step (by repeat (first | (with_reducible first | exact HB.out | apply below_alloc | apply pw_below_drewN | apply below_drew1) | exact HB.out)) hb); clear HO113; clear HB; have HO113 := n0_; have HO116 := n1_; have HB := n2_; clear n0_ n1_ n2_; clear hb ho7))
    go_loopg [18] k (fun kq v18 w' => ∃ (x7_1 : List Int) (x18_1 : Int), v18 = .int .i64 x18_1 ∧ Aside0 (spec_l13Coarse.l0 kq a1 y111 (IntKind.u64.wrap (wrap64 (Int.tdiv a1 6))) x7_1 l0 (l0.length : Int) x18_1 = some r) ∧ Aside0 (kq ≤ k) ∧ Aside0 (Kd.R (Kd.int .i64) 3 w' w.heap.size (fun k_ => some k_ ≠ (v115 : Value).ownBlock) v112 y111) ∧ Aside0 (Kd.R (Kd.int .i64) 3 w' w.heap.size (fun k_ => some k_ ≠ (v112 : Value).ownBlock) v115 x7_1) ∧ Aside0 (Below w.heap.size w w'))
    case atStart => exact ⟨(y114), (0), (by first | rfl | (simp; done) | (simp [*]; done)), H', ⟨Nat.le_refl _⟩, ⟨by (with_reducible repeat (first | apply Kd.R_alloc | apply Kd.R_drewN | apply Kd.R_drew)); exact Kd.R_mono HO113.out (fun _ hk => hk.2)⟩, ⟨by (with_reducible repeat (first | apply Kd.R_alloc | apply Kd.R_drewN | apply Kd.R_drew)); exact Kd.R_mono HO116.out (fun _ hk => hk.2)⟩, ⟨by repeat (first | (with_reducible first | exact HB.out | apply below_alloc | apply pw_below_drewN | apply below_drew1) | exact HB.out)⟩⟩
    case round =>
      clear H'
      try clear c2
      try clear p2
      try clear c3
      try clear c3b0
      try clear c3b1
      try clear p6
      obtain ⟨x7_1, x18_1, rfl, HA, HK1, HO_5, HO_7, HB⟩ := hrel
      cases gk with
      | zero => exact absurd HA.out (by simp [spec_l13Coarse.l0])
      | succ k1 =>
        have H := HA.out
        clear HA
        simp only [spec_l13Coarse.l0] at H
        by_cases c8 : x18_1 < (l0.length : Int)
        · rw [if_pos c8] at H
          have c8b0 : decide (x18_1 < (l0.length : Int)) = true := decide_eq_true c8
          clear c8
          by_cases c9 : 0 ≤ x18_1
          · rw [if_pos c9] at H
            have c9b0 : decide (0 ≤ x18_1) = true := decide_eq_true c9
            clear c9
            by_cases c10 : x18_1 < (l0.length : Int)
            · rw [if_pos c10] at H
              have c10b0 : decide (x18_1 < (l0.length : Int)) = true := decide_eq_true c10
              clear c10
              replace H := Option.bind_eq_some_iff.mp H
              obtain ⟨t118, A110, H⟩ := H
              replace H : ((spec_l13Class.f k1 x18_1).bind fun t119 => (if 0 ≤ (wrap64 ((wrap64 (3 * (Int.tmod a1 6))) + t119)) then (if (wrap64 ((wrap64 (3 * (Int.tmod a1 6))) + t119)) < (y111.length : Int) then (if 0 ≤ (IntKind.u64.wrap (14 + (IntKind.u64.wrap (wrap64 (Int.tdiv a1 6))))) then (if 0 ≤ (IntKind.u64.wrap (15 + (IntKind.u64.wrap (wrap64 (Int.tdiv a1 6))))) then (if (rd l0 x18_1) < 0 then (if x18_1 < (x7_1.length : Int) then (spec_l13Coarse.l0 k1 a1 y111 (IntKind.u64.wrap (wrap64 (Int.tdiv a1 6))) (x7_1.set (x18_1 : Int).toNat (wrap64 (-(shr .i64 (wrap64 ((wrap64 (t118 * (rd y111 (wrap64 ((wrap64 (3 * (Int.tmod a1 6))) + t119))))) + (shl .i64 1 (IntKind.u64.wrap (14 + (IntKind.u64.wrap (wrap64 (Int.tdiv a1 6)))))))) (IntKind.u64.wrap (15 + (IntKind.u64.wrap (wrap64 (Int.tdiv a1 6))))))))) l0 (l0.length : Int) (wrap64 (x18_1 + 1))) else (none)) else (if x18_1 < (x7_1.length : Int) then (spec_l13Coarse.l0 k1 a1 y111 (IntKind.u64.wrap (wrap64 (Int.tdiv a1 6))) (x7_1.set (x18_1 : Int).toNat (shr .i64 (wrap64 ((wrap64 (t118 * (rd y111 (wrap64 ((wrap64 (3 * (Int.tmod a1 6))) + t119))))) + (shl .i64 1 (IntKind.u64.wrap (14 + (IntKind.u64.wrap (wrap64 (Int.tdiv a1 6)))))))) (IntKind.u64.wrap (15 + (IntKind.u64.wrap (wrap64 (Int.tdiv a1 6))))))) l0 (l0.length : Int) (wrap64 (x18_1 + 1))) else (none))) else (none)) else (none)) else (none)) else (none))) = some r := H
              have A11 := Aside0.mk A110
              clear A110
              replace H := Option.bind_eq_some_iff.mp H
              obtain ⟨t119, A120, H⟩ := H
              replace H : (if 0 ≤ (wrap64 ((wrap64 (3 * (Int.tmod a1 6))) + t119)) then (if (wrap64 ((wrap64 (3 * (Int.tmod a1 6))) + t119)) < (y111.length : Int) then (if 0 ≤ (IntKind.u64.wrap (14 + (IntKind.u64.wrap (wrap64 (Int.tdiv a1 6))))) then (if 0 ≤ (IntKind.u64.wrap (15 + (IntKind.u64.wrap (wrap64 (Int.tdiv a1 6))))) then (if (rd l0 x18_1) < 0 then (if x18_1 < (x7_1.length : Int) then (spec_l13Coarse.l0 k1 a1 y111 (IntKind.u64.wrap (wrap64 (Int.tdiv a1 6))) (x7_1.set (x18_1 : Int).toNat (wrap64 (-(shr .i64 (wrap64 ((wrap64 (t118 * (rd y111 (wrap64 ((wrap64 (3 * (Int.tmod a1 6))) + t119))))) + (shl .i64 1 (IntKind.u64.wrap (14 + (IntKind.u64.wrap (wrap64 (Int.tdiv a1 6)))))))) (IntKind.u64.wrap (15 + (IntKind.u64.wrap (wrap64 (Int.tdiv a1 6))))))))) l0 (l0.length : Int) (wrap64 (x18_1 + 1))) else (none)) else (if x18_1 < (x7_1.length : Int) then (spec_l13Coarse.l0 k1 a1 y111 (IntKind.u64.wrap (wrap64 (Int.tdiv a1 6))) (x7_1.set (x18_1 : Int).toNat (shr .i64 (wrap64 ((wrap64 (t118 * (rd y111 (wrap64 ((wrap64 (3 * (Int.tmod a1 6))) + t119))))) + (shl .i64 1 (IntKind.u64.wrap (14 + (IntKind.u64.wrap (wrap64 (Int.tdiv a1 6)))))))) (IntKind.u64.wrap (15 + (IntKind.u64.wrap (wrap64 (Int.tdiv a1 6))))))) l0 (l0.length : Int) (wrap64 (x18_1 + 1))) else (none))) else (none)) else (none)) else (none)) else (none)) = some r := H
              have A12 := Aside0.mk A120
              clear A120
              obtain ⟨ji13, hji13⟩ : ∃ j_ : Int, (wrap64 ((wrap64 (3 * (Int.tmod a1 6))) + t119)) = j_ := ⟨_, rfl⟩
              replace H : (if 0 ≤ (ji13) then (if (ji13) < (y111.length : Int) then (if 0 ≤ (IntKind.u64.wrap (14 + (IntKind.u64.wrap (wrap64 (Int.tdiv a1 6))))) then (if 0 ≤ (IntKind.u64.wrap (15 + (IntKind.u64.wrap (wrap64 (Int.tdiv a1 6))))) then (if (rd l0 x18_1) < 0 then (if x18_1 < (x7_1.length : Int) then (spec_l13Coarse.l0 k1 a1 y111 (IntKind.u64.wrap (wrap64 (Int.tdiv a1 6))) (x7_1.set (x18_1 : Int).toNat (wrap64 (-(shr .i64 (wrap64 ((wrap64 (t118 * (rd y111 (ji13)))) + (shl .i64 1 (IntKind.u64.wrap (14 + (IntKind.u64.wrap (wrap64 (Int.tdiv a1 6)))))))) (IntKind.u64.wrap (15 + (IntKind.u64.wrap (wrap64 (Int.tdiv a1 6))))))))) l0 (l0.length : Int) (wrap64 (x18_1 + 1))) else (none)) else (if x18_1 < (x7_1.length : Int) then (spec_l13Coarse.l0 k1 a1 y111 (IntKind.u64.wrap (wrap64 (Int.tdiv a1 6))) (x7_1.set (x18_1 : Int).toNat (shr .i64 (wrap64 ((wrap64 (t118 * (rd y111 (ji13)))) + (shl .i64 1 (IntKind.u64.wrap (14 + (IntKind.u64.wrap (wrap64 (Int.tdiv a1 6)))))))) (IntKind.u64.wrap (15 + (IntKind.u64.wrap (wrap64 (Int.tdiv a1 6))))))) l0 (l0.length : Int) (wrap64 (x18_1 + 1))) else (none))) else (none)) else (none)) else (none)) else (none)) = some r := by first | (rw [hji13] at H; exact H) | (simp only [hji13] at H ⊢; exact H)
              (try rw [hji13] at A11)
              (try rw [hji13] at A12)
              have hji13w : (IntKind.i64.wrap ((wrap64 (3 * (Int.tmod a1 6))) + t119)) = ji13 := (i64_w _).trans hji13
              by_cases c14 : 0 ≤ (ji13)
              · rw [if_pos c14] at H
                have c14b0 : decide (0 ≤ (ji13)) = true := decide_eq_true c14
                clear c14
                by_cases c15 : (ji13) < (y111.length : Int)
                · rw [if_pos c15] at H
                  have c15b0 : decide ((ji13) < (y111.length : Int)) = true := decide_eq_true c15
                  clear c15
                  obtain ⟨ji16, hji16⟩ : ∃ j_ : Int, (IntKind.u64.wrap (14 + (IntKind.u64.wrap (wrap64 (Int.tdiv a1 6))))) = j_ := ⟨_, rfl⟩
                  replace H : (if 0 ≤ (ji16) then (if 0 ≤ (IntKind.u64.wrap (15 + (IntKind.u64.wrap (wrap64 (Int.tdiv a1 6))))) then (if (rd l0 x18_1) < 0 then (if x18_1 < (x7_1.length : Int) then (spec_l13Coarse.l0 k1 a1 y111 (IntKind.u64.wrap (wrap64 (Int.tdiv a1 6))) (x7_1.set (x18_1 : Int).toNat (wrap64 (-(shr .i64 (wrap64 ((wrap64 (t118 * (rd y111 (ji13)))) + (shl .i64 1 (ji16)))) (IntKind.u64.wrap (15 + (IntKind.u64.wrap (wrap64 (Int.tdiv a1 6))))))))) l0 (l0.length : Int) (wrap64 (x18_1 + 1))) else (none)) else (if x18_1 < (x7_1.length : Int) then (spec_l13Coarse.l0 k1 a1 y111 (IntKind.u64.wrap (wrap64 (Int.tdiv a1 6))) (x7_1.set (x18_1 : Int).toNat (shr .i64 (wrap64 ((wrap64 (t118 * (rd y111 (ji13)))) + (shl .i64 1 (ji16)))) (IntKind.u64.wrap (15 + (IntKind.u64.wrap (wrap64 (Int.tdiv a1 6))))))) l0 (l0.length : Int) (wrap64 (x18_1 + 1))) else (none))) else (none)) else (none)) = some r := by first | (rw [hji16] at H; exact H) | (simp only [hji16] at H ⊢; exact H)
                  (try rw [hji16] at A11)
                  (try rw [hji16] at A12)
                  by_cases c17 : 0 ≤ (ji16)
                  · rw [if_pos c17] at H
                    have c17b0 := eq_true c17
                    have c17b1 : decide (0 ≤ (ji16)) = true := decide_eq_true c17
                    clear c17
                    obtain ⟨ji18, hji18⟩ : ∃ j_ : Int, (shl .i64 1 (ji16)) = j_ := ⟨_, rfl⟩
                    replace H : (if 0 ≤ (IntKind.u64.wrap (15 + (IntKind.u64.wrap (wrap64 (Int.tdiv a1 6))))) then (if (rd l0 x18_1) < 0 then (if x18_1 < (x7_1.length : Int) then (spec_l13Coarse.l0 k1 a1 y111 (IntKind.u64.wrap (wrap64 (Int.tdiv a1 6))) (x7_1.set (x18_1 : Int).toNat (wrap64 (-(shr .i64 (wrap64 ((wrap64 (t118 * (rd y111 (ji13)))) + (ji18))) (IntKind.u64.wrap (15 + (IntKind.u64.wrap (wrap64 (Int.tdiv a1 6))))))))) l0 (l0.length : Int) (wrap64 (x18_1 + 1))) else (none)) else (if x18_1 < (x7_1.length : Int) then (spec_l13Coarse.l0 k1 a1 y111 (IntKind.u64.wrap (wrap64 (Int.tdiv a1 6))) (x7_1.set (x18_1 : Int).toNat (shr .i64 (wrap64 ((wrap64 (t118 * (rd y111 (ji13)))) + (ji18))) (IntKind.u64.wrap (15 + (IntKind.u64.wrap (wrap64 (Int.tdiv a1 6))))))) l0 (l0.length : Int) (wrap64 (x18_1 + 1))) else (none))) else (none)) = some r := by first | (rw [hji18] at H; exact H) | (simp only [hji18] at H ⊢; exact H)
                    (try rw [hji18] at A11)
                    (try rw [hji18] at A12)
                    have hji18_ : (IntKind.i64.wrap (1 * 2 ^ min (ji16).toNat 64)) = ji18 := hji18
                    have hji18z : (ji16) ≤ 64 → (IntKind.i64.wrap (1 * 2 ^ (ji16).toNat)) = ji18 := shl_small hji18
                    have hji18u : (IntKind.i64.wrap (2 ^ min (ji16).toNat 64)) = ji18 := by have h_ := hji18_; rw [Int.one_mul] at h_; exact h_
                    have hji18v : (ji16) ≤ 64 → (IntKind.i64.wrap (2 ^ (ji16).toNat)) = ji18 := fun hle_ => by have h_ := hji18z hle_; rw [Int.one_mul] at h_; exact h_
                    have hji18y : (wrap64 (1 * 2 ^ min (ji16).toNat 64)) = ji18 := (i64_w _).symm.trans hji18_
                    have hji18x : (ji16) ≤ 64 → (wrap64 (1 * 2 ^ (ji16).toNat)) = ji18 := fun h_ => (i64_w _).symm.trans (hji18z h_)
                    obtain ⟨ji19, hji19⟩ : ∃ j_ : Int, (IntKind.u64.wrap (15 + (IntKind.u64.wrap (wrap64 (Int.tdiv a1 6))))) = j_ := ⟨_, rfl⟩
                    replace H : (if 0 ≤ (ji19) then (if (rd l0 x18_1) < 0 then (if x18_1 < (x7_1.length : Int) then (spec_l13Coarse.l0 k1 a1 y111 (IntKind.u64.wrap (wrap64 (Int.tdiv a1 6))) (x7_1.set (x18_1 : Int).toNat (wrap64 (-(shr .i64 (wrap64 ((wrap64 (t118 * (rd y111 (ji13)))) + (ji18))) (ji19))))) l0 (l0.length : Int) (wrap64 (x18_1 + 1))) else (none)) else (if x18_1 < (x7_1.length : Int) then (spec_l13Coarse.l0 k1 a1 y111 (IntKind.u64.wrap (wrap64 (Int.tdiv a1 6))) (x7_1.set (x18_1 : Int).toNat (shr .i64 (wrap64 ((wrap64 (t118 * (rd y111 (ji13)))) + (ji18))) (ji19))) l0 (l0.length : Int) (wrap64 (x18_1 + 1))) else (none))) else (none)) = some r := by first | (rw [hji19] at H; exact H) | (simp only [hji19] at H ⊢; exact H)
                    (try rw [hji19] at A11)
                    (try rw [hji19] at A12)
                    by_cases c20 : 0 ≤ (ji19)
                    · rw [if_pos c20] at H
                      have c20b0 := eq_true c20
                      have c20b1 : decide (0 ≤ (ji19)) = true := decide_eq_true c20
                      clear c20
                      obtain ⟨ji21, hji21⟩ : ∃ j_ : Int, (shr .i64 (wrap64 ((wrap64 (t118 * (rd y111 (ji13)))) + (ji18))) (ji19)) = j_ := ⟨_, rfl⟩
                      replace H : (if (rd l0 x18_1) < 0 then (if x18_1 < (x7_1.length : Int) then (spec_l13Coarse.l0 k1 a1 y111 (IntKind.u64.wrap (wrap64 (Int.tdiv a1 6))) (x7_1.set (x18_1 : Int).toNat (wrap64 (-(ji21)))) l0 (l0.length : Int) (wrap64 (x18_1 + 1))) else (none)) else (if x18_1 < (x7_1.length : Int) then (spec_l13Coarse.l0 k1 a1 y111 (IntKind.u64.wrap (wrap64 (Int.tdiv a1 6))) (x7_1.set (x18_1 : Int).toNat (ji21)) l0 (l0.length : Int) (wrap64 (x18_1 + 1))) else (none))) = some r := by first | (rw [hji21] at H; exact H) | (simp only [hji21] at H ⊢; exact H)
                      (try rw [hji21] at A11)
                      (try rw [hji21] at A12)
                      have hji21_ : ((wrap64 ((wrap64 (t118 * (rd y111 (ji13)))) + (ji18))) / 2 ^ min (ji19).toNat 64) = ji21 := hji21
                      have hji21z : (ji19) ≤ 64 → ((wrap64 ((wrap64 (t118 * (rd y111 (ji13)))) + (ji18))) / 2 ^ (ji19).toNat) = ji21 := shr_small hji21
                      by_cases c22 : (rd l0 x18_1) < 0
                      · rw [if_pos c22] at H
                        have c22b0 : decide ((rd l0 x18_1) < 0) = true := decide_eq_true c22
                        clear c22
                        by_cases c23 : x18_1 < (x7_1.length : Int)
                        · rw [if_pos c23] at H
                          have c23b0 : decide (x18_1 < (x7_1.length : Int)) = true := decide_eq_true c23
                          clear c23
                          obtain ⟨y121, hy121⟩ : ∃ y_ : List Int, y_ = (x7_1.set (x18_1 : Int).toNat (wrap64 (-(ji21)))) := ⟨_, rfl⟩
                          replace H : (spec_l13Coarse.l0 k1 a1 y111 (IntKind.u64.wrap (wrap64 (Int.tdiv a1 6))) y121 l0 (l0.length : Int) (wrap64 (x18_1 + 1))) = some r := by first | (rw [hy121]; with_reducible exact H) | (have H2_ := (Option.bind_some _ _).symm.trans H; rw [hy121]; with_reducible exact H2_) | (have H2_ := (Option.bind_some _ _).symm.trans H; with_reducible exact H2_) | with_reducible exact H | (rw [hy121]; exact H) | exact H
                          have Ny121 := Aside0.mk hy121
                          clear hy121
                          have H' := Aside0.mk H
                          clear H
                          have p117 : 0 ≤ (x18_1 : Int) := of_decide_eq_true (by first | (with_reducible assumption) | assumption)
                          have q117 : x18_1 < (l0.length : Int) := of_decide_eq_true (by first | (with_reducible assumption) | assumption)
                          obtain ⟨ad117, e117, hx117_0⟩ := Kd.at_int HR0.out x18_1 p117 q117
                          cases e117
                          replace hx117_0 := (HB.out.cell (World.block_lt_of_cell? w _ hx117_0)).trans hx117_0
                          replace p117 := eq_true p117
                          replace q117 := eq_true q117
                          go_wp2_with (first | ((with_reducible refine gate_callee (f := 37) rfl ?_); refine goesL_ (some 24) rfl rfl Tryd.func37 (by kernel_rfl) rfl #[.int .i64 (rd l0 x18_1)] rfl (by (try simp only [List.map_toArray, List.map_cons, List.map_nil]); first | done | rfl | (simp only [List.length_drop, List.length_take]; rfl)) ?_; (with_reducible refine (spec_l4Abs.calls (rd l0 x18_1) t118 _ A11.out).mono ?_); rintro e w' ⟨rfl, ⟨nd, rfl⟩⟩; refine ⟨_, rfl, ?_⟩; (try (rw [drewN_self wr]; generalize hq_ : World.drewN wr _ = wr; have n0_ : Aside0 (Kd.R (Kd.int .i64) 3 wr w.heap.size (fun k_ => some k_ ≠ (v115 : Value).ownBlock) v112 y111) := ⟨by rw [← hq_]; exact (by (with_reducible repeat (first | apply Kd.R_alloc | apply Kd.R_drewN | apply Kd.R_drew)); exact HO_5.out)⟩; have n1_ : Aside0 (Kd.R (Kd.int .i64) 3 wr w.heap.size (fun k_ => some k_ ≠ (v112 : Value).ownBlock) v115 x7_1) := ⟨by rw [← hq_]; exact (by (with_reducible repeat (first | apply Kd.R_alloc | apply Kd.R_drewN | apply Kd.R_drew)); exact HO_7.out)⟩; have n2_ : Aside0 (Below w.heap.size w wr) := ⟨by rw [← hq_]; exact (by repeat (first | (with_reducible first | exact HB.out | apply below_alloc | apply pw_below_drewN | apply below_drew1) | exact HB.out))⟩; clear HO_5 HO_7 HB hq_; have HO_5 := n0_; have HO_7 := n1_; have HB := n2_; clear n0_ n1_ n2_))) | ((with_reducible refine gate_callee (f := 36) rfl ?_); refine goesL_ (some 30) rfl rfl Tryd.func36 (by kernel_rfl) rfl #[.int .i64 x18_1] rfl (by (try simp only [List.map_toArray, List.map_cons, List.map_nil]); first | done | rfl | (simp only [List.length_drop, List.length_take]; rfl)) ?_; (with_reducible refine (spec_l13Class.calls k1 x18_1 t119 _ A12.out).mono ?_); rintro e w' ⟨rfl, ⟨nd, rfl⟩⟩; refine ⟨_, rfl, ?_⟩; (try (rw [drewN_self wr]; generalize hq_ : World.drewN wr _ = wr; have n0_ : Aside0 (Kd.R (Kd.int .i64) 3 wr w.heap.size (fun k_ => some k_ ≠ (v115 : Value).ownBlock) v112 y111) := ⟨by rw [← hq_]; exact (by (with_reducible repeat (first | apply Kd.R_alloc | apply Kd.R_drewN | apply Kd.R_drew)); exact HO_5.out)⟩; have n1_ : Aside0 (Kd.R (Kd.int .i64) 3 wr w.heap.size (fun k_ => some k_ ≠ (v112 : Value).ownBlock) v115 x7_1) := ⟨by rw [← hq_]; exact (by (with_reducible repeat (first | apply Kd.R_alloc | apply Kd.R_drewN | apply Kd.R_drew)); exact HO_7.out)⟩; have n2_ : Aside0 (Below w.heap.size w wr) := ⟨by rw [← hq_]; exact (by repeat (first | (with_reducible first | exact HB.out | apply below_alloc | apply pw_below_drewN | apply below_drew1) | exact HB.out))⟩; clear HO_5 HO_7 HB hq_; have HO_5 := n0_; have HO_7 := n1_; have HB := n2_; clear n0_ n1_ n2_)); obtain ⟨Ao25, co25, eo25⟩ := Kd.R_slice HO_5.out; subst eo25; have p120 : 0 ≤ ((ji13) : Int) := of_decide_eq_true (by first | (with_reducible assumption) | assumption); have q120 : (ji13) < (y111.length : Int) := of_decide_eq_true (by first | (with_reducible assumption) | assumption); obtain ⟨ad120, e120, hx120_0⟩ := Kd.at_int (Kd.R_reads' HO_5.out).2.2 (ji13) p120 q120; cases e120; replace p120 := eq_true p120; replace q120 := eq_true q120; have p24 : 0 ≤ (x18_1 : Int) := of_decide_eq_true (by first | (with_reducible assumption) | assumption); have q24 : (x18_1 : Int) < ((x7_1.length : Int) : Int) := of_decide_eq_true (by first | (with_reducible assumption) | assumption); obtain ⟨go24, co24, eo24, gb24, gl24, cl24, HG24⟩ := Kd.R_form HO_7.out (by omega); (first | cases eo24 | (injection eo24 with ea_ en_ ec_; (first | subst ea_ | (injection ea_ with ea_; subst ea_)); subst ec_; clear en_)); have GB24 := Aside0.mk gb24; have GG24 := Aside0.mk HG24; clear gb24 gl24 HG24; obtain ⟨hx24_0, hf24_0⟩ := Kd.R_celln 0 HO_7.out (x18_1 : Int) p24 q24; replace p24 := eq_true p24; replace q24 := eq_true q24; obtain ⟨hy26_, hz26_⟩ := Kd.R_celln 0 HO_7.out (x18_1 : Int) (of_decide_eq_true (by first | (with_reducible assumption) | assumption)) (of_decide_eq_true (by first | (with_reducible assumption) | assumption)); have HP26 := Kd.R_putg HO_7.out (x18_1 : Int) (wrap64 (-(ji21)))) | ((with_reducible refine gate_store (t := 3) (p := 49) rfl ?_); refine store_event (t := 3) (p := 49) (v := ?vo_w27) (w1 := (wr.setCell ⟨go24, (x18_1 : Int).toNat, none⟩ (.int .i64 (wrap64 (-(ji21)))))) ?hg ?ho ?hn ?hr ?_; (case ho => rfl); (case hg => rfl); (case hn => rfl); (case hr => first | (go_simp; done) | (go_simp; rfl)); intro w27 hw; have hg : wr.grownBy w27 (some go24) := (by rw [hw]; exact HP26.2); have hp_ : Kd.R (Kd.int .i64) 3 w27 w.heap.size (fun k_ => some k_ ≠ (.slice (some ad120) y111.length co25 : Value).ownBlock) (.slice (some ⟨go24, 0, none⟩) x7_1.length co24) y121 := (by rw [hw, Ny121.out]; exact HP26.1); clear HP26; have n0_ := Aside0.mk (Kd.R_after (v := (.slice (some ⟨go24, 0, none⟩) x7_1.length co24)) (v1 := (.slice (some ⟨go24, 0, none⟩) x7_1.length co24)) (ok := (fun _ => True)) (by (with_reducible repeat (first | apply Kd.R_alloc | apply Kd.R_drewN | apply Kd.R_drew)); exact Kd.R_mono HO_5.out (fun _ hk => ⟨trivial, hk⟩)) hg (.inl rfl)); have n1_ := Aside0.mk (hp_); have n2_ := Aside0.mk ((by rw [hw]; exact below_set (HB.out) GB24.out : Below w.heap.size w w27)); clear HO_5; clear HO_7; clear HB; have HO_5 := n0_; have HO_7 := n1_; have HB := n2_; clear n0_ n1_ n2_; clear hg hw hp_))
                          go_roundg k1
                          case measure => have := HK1.out; omega
                          case rel => exact ⟨(y121), (wrap64 (x18_1 + 1)), (by first | rfl | (simp; done) | (simp [*]; done)), H', ⟨by have := HK1.out; omega⟩, ⟨by (with_reducible repeat (first | apply Kd.R_alloc | apply Kd.R_drewN | apply Kd.R_drew)); exact Kd.R_mono HO_5.out (fun _ hk => hk.2)⟩, ⟨by (with_reducible repeat (first | apply Kd.R_alloc | apply Kd.R_drewN | apply Kd.R_drew)); exact HO_7.out⟩, ⟨by repeat (first | (with_reducible first | exact HB.out | apply below_alloc | apply pw_below_drewN | apply below_drew1) | exact HB.out)⟩⟩
                        · rw [if_neg c23] at H
                          exact absurd H (by simp)
                      · rw [if_neg c22] at H
                        have c22b0 : decide ((rd l0 x18_1) < 0) = false := decide_eq_false c22
                        clear c22
                        by_cases c28 : x18_1 < (x7_1.length : Int)
                        · rw [if_pos c28] at H
                          have c28b0 : decide (x18_1 < (x7_1.length : Int)) = true := decide_eq_true c28
                          clear c28
                          obtain ⟨y122, hy122⟩ : ∃ y_ : List Int, y_ = (x7_1.set (x18_1 : Int).toNat (ji21)) := ⟨_, rfl⟩
                          replace H : (spec_l13Coarse.l0 k1 a1 y111 (IntKind.u64.wrap (wrap64 (Int.tdiv a1 6))) y122 l0 (l0.length : Int) (wrap64 (x18_1 + 1))) = some r := by first | (rw [hy122]; with_reducible exact H) | (have H2_ := (Option.bind_some _ _).symm.trans H; rw [hy122]; with_reducible exact H2_) | (have H2_ := (Option.bind_some _ _).symm.trans H; with_reducible exact H2_) | with_reducible exact H | (rw [hy122]; exact H) | exact H
                          have Ny122 := Aside0.mk hy122
                          clear hy122
                          have H' := Aside0.mk H
                          clear H
                          have p117 : 0 ≤ (x18_1 : Int) := of_decide_eq_true (by first | (with_reducible assumption) | assumption)
                          have q117 : x18_1 < (l0.length : Int) := of_decide_eq_true (by first | (with_reducible assumption) | assumption)
                          obtain ⟨ad117, e117, hx117_0⟩ := Kd.at_int HR0.out x18_1 p117 q117
                          cases e117
                          replace hx117_0 := (HB.out.cell (World.block_lt_of_cell? w _ hx117_0)).trans hx117_0
                          replace p117 := eq_true p117
                          replace q117 := eq_true q117
                          go_wp2_with (first | ((with_reducible refine gate_callee (f := 37) rfl ?_); refine goesL_ (some 24) rfl rfl Tryd.func37 (by kernel_rfl) rfl #[.int .i64 (rd l0 x18_1)] rfl (by (try simp only [List.map_toArray, List.map_cons, List.map_nil]); first | done | rfl | (simp only [List.length_drop, List.length_take]; rfl)) ?_; (with_reducible refine (spec_l4Abs.calls (rd l0 x18_1) t118 _ A11.out).mono ?_); rintro e w' ⟨rfl, ⟨nd, rfl⟩⟩; refine ⟨_, rfl, ?_⟩; (try (rw [drewN_self wr]; generalize hq_ : World.drewN wr _ = wr; have n0_ : Aside0 (Kd.R (Kd.int .i64) 3 wr w.heap.size (fun k_ => some k_ ≠ (v115 : Value).ownBlock) v112 y111) := ⟨by rw [← hq_]; exact (by (with_reducible repeat (first | apply Kd.R_alloc | apply Kd.R_drewN | apply Kd.R_drew)); exact HO_5.out)⟩; have n1_ : Aside0 (Kd.R (Kd.int .i64) 3 wr w.heap.size (fun k_ => some k_ ≠ (v112 : Value).ownBlock) v115 x7_1) := ⟨by rw [← hq_]; exact (by (with_reducible repeat (first | apply Kd.R_alloc | apply Kd.R_drewN | apply Kd.R_drew)); exact HO_7.out)⟩; have n2_ : Aside0 (Below w.heap.size w wr) := ⟨by rw [← hq_]; exact (by repeat (first | (with_reducible first | exact HB.out | apply below_alloc | apply pw_below_drewN | apply below_drew1) | exact HB.out))⟩; clear HO_5 HO_7 HB hq_; have HO_5 := n0_; have HO_7 := n1_; have HB := n2_; clear n0_ n1_ n2_))) | ((with_reducible refine gate_callee (f := 36) rfl ?_); refine goesL_ (some 30) rfl rfl Tryd.func36 (by kernel_rfl) rfl #[.int .i64 x18_1] rfl (by (try simp only [List.map_toArray, List.map_cons, List.map_nil]); first | done | rfl | (simp only [List.length_drop, List.length_take]; rfl)) ?_; (with_reducible refine (spec_l13Class.calls k1 x18_1 t119 _ A12.out).mono ?_); rintro e w' ⟨rfl, ⟨nd, rfl⟩⟩; refine ⟨_, rfl, ?_⟩; (try (rw [drewN_self wr]; generalize hq_ : World.drewN wr _ = wr; have n0_ : Aside0 (Kd.R (Kd.int .i64) 3 wr w.heap.size (fun k_ => some k_ ≠ (v115 : Value).ownBlock) v112 y111) := ⟨by rw [← hq_]; exact (by (with_reducible repeat (first | apply Kd.R_alloc | apply Kd.R_drewN | apply Kd.R_drew)); exact HO_5.out)⟩; have n1_ : Aside0 (Kd.R (Kd.int .i64) 3 wr w.heap.size (fun k_ => some k_ ≠ (v112 : Value).ownBlock) v115 x7_1) := ⟨by rw [← hq_]; exact (by (with_reducible repeat (first | apply Kd.R_alloc | apply Kd.R_drewN | apply Kd.R_drew)); exact HO_7.out)⟩; have n2_ : Aside0 (Below w.heap.size w wr) := ⟨by rw [← hq_]; exact (by repeat (first | (with_reducible first | exact HB.out | apply below_alloc | apply pw_below_drewN | apply below_drew1) | exact HB.out))⟩; clear HO_5 HO_7 HB hq_; have HO_5 := n0_; have HO_7 := n1_; have HB := n2_; clear n0_ n1_ n2_)); obtain ⟨Ao30, co30, eo30⟩ := Kd.R_slice HO_5.out; subst eo30; have p120 : 0 ≤ ((ji13) : Int) := of_decide_eq_true (by first | (with_reducible assumption) | assumption); have q120 : (ji13) < (y111.length : Int) := of_decide_eq_true (by first | (with_reducible assumption) | assumption); obtain ⟨ad120, e120, hx120_0⟩ := Kd.at_int (Kd.R_reads' HO_5.out).2.2 (ji13) p120 q120; cases e120; replace p120 := eq_true p120; replace q120 := eq_true q120; have p29 : 0 ≤ (x18_1 : Int) := of_decide_eq_true (by first | (with_reducible assumption) | assumption); have q29 : (x18_1 : Int) < ((x7_1.length : Int) : Int) := of_decide_eq_true (by first | (with_reducible assumption) | assumption); obtain ⟨go29, co29, eo29, gb29, gl29, cl29, HG29⟩ := Kd.R_form HO_7.out (by omega); (first | cases eo29 | (injection eo29 with ea_ en_ ec_; (first | subst ea_ | (injection ea_ with ea_; subst ea_)); subst ec_; clear en_)); have GB29 := Aside0.mk gb29; have GG29 := Aside0.mk HG29; clear gb29 gl29 HG29; obtain ⟨hx29_0, hf29_0⟩ := Kd.R_celln 0 HO_7.out (x18_1 : Int) p29 q29; replace p29 := eq_true p29; replace q29 := eq_true q29; obtain ⟨hy31_, hz31_⟩ := Kd.R_celln 0 HO_7.out (x18_1 : Int) (of_decide_eq_true (by first | (with_reducible assumption) | assumption)) (of_decide_eq_true (by first | (with_reducible assumption) | assumption)); have HP31 := Kd.R_putg HO_7.out (x18_1 : Int) ji21) | ((with_reducible refine gate_store (t := 3) (p := 49) rfl ?_); refine store_event (t := 3) (p := 49) (v := ?vo_w32) (w1 := (wr.setCell ⟨go29, (x18_1 : Int).toNat, none⟩ (.int .i64 ji21))) ?hg ?ho ?hn ?hr ?_; (case ho => rfl); (case hg => rfl); (case hn => rfl); (case hr => first | (go_simp; done) | (go_simp; rfl)); intro w32 hw; have hg : wr.grownBy w32 (some go29) := (by rw [hw]; exact HP31.2); have hp_ : Kd.R (Kd.int .i64) 3 w32 w.heap.size (fun k_ => some k_ ≠ (.slice (some ad120) y111.length co30 : Value).ownBlock) (.slice (some ⟨go29, 0, none⟩) x7_1.length co29) y122 := (by rw [hw, Ny122.out]; exact HP31.1); clear HP31; have n0_ := Aside0.mk (Kd.R_after (v := (.slice (some ⟨go29, 0, none⟩) x7_1.length co29)) (v1 := (.slice (some ⟨go29, 0, none⟩) x7_1.length co29)) (ok := (fun _ => True)) (by (with_reducible repeat (first | apply Kd.R_alloc | apply Kd.R_drewN | apply Kd.R_drew)); exact Kd.R_mono HO_5.out (fun _ hk => ⟨trivial, hk⟩)) hg (.inl rfl)); have n1_ := Aside0.mk (hp_); have n2_ := Aside0.mk ((by rw [hw]; exact below_set (HB.out) GB29.out : Below w.heap.size w w32)); clear HO_5; clear HO_7; clear HB; have HO_5 := n0_; have HO_7 := n1_; have HB := n2_; clear n0_ n1_ n2_; clear hg hw hp_))
                          go_roundg k1
                          case measure => have := HK1.out; omega
                          case rel => exact ⟨(y122), (wrap64 (x18_1 + 1)), (by first | rfl | (simp; done) | (simp [*]; done)), H', ⟨by have := HK1.out; omega⟩, ⟨by (with_reducible repeat (first | apply Kd.R_alloc | apply Kd.R_drewN | apply Kd.R_drew)); exact Kd.R_mono HO_5.out (fun _ hk => hk.2)⟩, ⟨by (with_reducible repeat (first | apply Kd.R_alloc | apply Kd.R_drewN | apply Kd.R_drew)); exact HO_7.out⟩, ⟨by repeat (first | (with_reducible first | exact HB.out | apply below_alloc | apply pw_below_drewN | apply below_drew1) | exact HB.out)⟩⟩
                        · rw [if_neg c28] at H
                          exact absurd H (by simp)
                    · rw [if_neg c20] at H
                      exact absurd H (by simp)
                  · rw [if_neg c17] at H
                    exact absurd H (by simp)
                · rw [if_neg c15] at H
                  exact absurd H (by simp)
              · rw [if_neg c14] at H
                exact absurd H (by simp)
            · rw [if_neg c10] at H
              exact absurd H (by simp)
          · rw [if_neg c9] at H
            exact absurd H (by simp)
        · rw [if_neg c8] at H
          have c8b0 : decide (x18_1 < (l0.length : Int)) = false := decide_eq_false c8
          clear c8
          obtain rfl := Option.some.inj H
          go_wp2
          go_ret
          exact ⟨_, by first | rfl | (simp [errW_none, errW_some] <;> rfl) | (simp [*, errW_none, errW_some] <;> rfl), by (with_reducible repeat (first | apply Kd.R_alloc | apply Kd.R_drewN | apply Kd.R_drew)); exact Kd.R_mono HO_7.out (fun _ hk => trivial), by repeat (first | (with_reducible first | exact HB.out | apply below_alloc | apply pw_below_drewN | apply below_drew1) | exact HB.out)⟩
  · rw [if_neg c3] at H
    exact absurd H (by simp)

/-! ### spec_SmallCoarse: function 16 -/
def spec_SmallCoarse.f (k : Nat) (l0 : List Int) (a1 : Int) : Option (List Int) := (spec_l13Small.f k l0).bind fun t123 => (if t123 = true then (if a1 < 0 then (some ([] : List Int)) else (if a1 > 40 then (some ([] : List Int)) else ((spec_l13Coarse.f k l0 a1).bind fun t124 => (some t124)))) else (some ([] : List Int)))
theorem spec_SmallCoarse.mono : ∀ a0 a1 k, LeO (spec_SmallCoarse.f k a0 a1) (spec_SmallCoarse.f (k + 1) a0 a1) := by
  intro a0 a1 k
  unfold spec_SmallCoarse.f
  repeat' first
      | (with_reducible exact spec_l13Coarse.mono _ _ _)
      | (with_reducible exact spec_l13Small.mono _ _)
      | (with_reducible exact LeO.refl _)
      | (with_reducible exact LeO.none _)
      | (with_reducible refine LeO.ite ?_ ?_)
      | (with_reducible refine LeO.bind ?_ (fun _ => ?_))
      | exact spec_l13Coarse.mono _ _ _
      | exact spec_l13Small.mono _ _
      | exact LeO.none _
      | refine LeO.ite ?_ ?_
      | refine LeO.bind ?_ (fun _ => ?_)
set_option maxHeartbeats 8000000 in
set_option maxRecDepth 100000 in
theorem spec_SmallCoarse.calls (k : Nat) (A0 : Option Addr) (c0 : Nat) (l0 : List Int) (a1 : Int) (r : List Int) (w : World) (hr0 : Kd.C (Kd.int .i64) w A0 l0.length l0) (hc0 : l0.length ≤ c0) (h : spec_SmallCoarse.f k l0 a1 = some r) :
    Calls Tryd.prog 16 #[.slice A0 l0.length c0, .int .i64 a1] w fun e w' => ∃ v0_ : Value, e = .returned (v0_) ∧ Kd.R (Kd.int .i64) 3 w' w.heap.size (fun _ => True) v0_ r ∧ Below w.heap.size w w' := by
  have HR0 := Aside0.mk hr0
  have HC0 := Aside0.mk hc0
  clear hr0 hc0
  have HB := Aside0.mk (Below.refl w.heap.size w)
  have H : ((spec_l13Small.f k l0).bind fun t123 => (if t123 = true then (if a1 < 0 then (some ([] : List Int)) else (if a1 > 40 then (some ([] : List Int)) else ((spec_l13Coarse.f k l0 a1).bind fun t124 => (some t124)))) else (some ([] : List Int)))) = some r := h
  clear h
  replace H := Option.bind_eq_some_iff.mp H
  obtain ⟨t123, A30, H⟩ := H
  replace H : (if t123 = true then (if a1 < 0 then (some ([] : List Int)) else (if a1 > 40 then (some ([] : List Int)) else ((spec_l13Coarse.f k l0 a1).bind fun t124 => (some t124)))) else (some ([] : List Int))) = some r := H
  have A3 := Aside0.mk A30
  clear A30
  by_cases c4 : t123 = true
  · subst c4
    have H1 : (if a1 < 0 then (some ([] : List Int)) else (if a1 > 40 then (some ([] : List Int)) else ((spec_l13Coarse.f k l0 a1).bind fun t124 => (some t124)))) = some r := by rw [if_pos rfl] at H; exact H
    clear H
    have H := H1
    clear H1
    by_cases c5 : a1 < 0
    · rw [if_pos c5] at H
      have c5b0 : decide (a1 < 0) = true := decide_eq_true c5
      clear c5
      obtain rfl := Option.some.inj H
      go_enter Tryd.func16, Tryd.ntmps16
      go_wp2_with (first | ((with_reducible refine gate_callee (f := 22) rfl ?_); refine goesL_ (some 6) rfl rfl Tryd.func22 (by kernel_rfl) rfl #[.slice A0 l0.length c0] rfl (by (try simp only [List.map_toArray, List.map_cons, List.map_nil]); first | done | rfl | (simp only [List.length_drop, List.length_take]; rfl)) ?_; (with_reducible refine (spec_l13Small.calls k _ _ l0 true _ ?side1 ?side2 A3.out).mono ?_); (case side1 => repeat (first | exact HR0.out | (with_reducible refine Kd.C_alloc ?_ _) | (with_reducible refine Kd.C_drewN ?_ _) | (with_reducible refine Kd.C_drew ?_))); (case side2 => exact HC0.out); rintro e w' ⟨rfl, ⟨nd, rfl⟩⟩; refine ⟨_, rfl, ?_⟩))
      go_ret
      exact ⟨_, by first | rfl | (simp [errW_none, errW_some] <;> rfl) | (simp [*, errW_none, errW_some] <;> rfl), by first | exact Kd.R_nil _ _ _ _ _ | exact Kd.N_nil _ _ _ _ _ | exact Kd.V_nil _ _ _ _ _ | exact Kd.Q_nil _ _ _ _ _ | exact Kd.S_nil _ _ _ _ _, by repeat (first | (with_reducible first | exact HB.out | apply below_alloc | apply pw_below_drewN | apply below_drew1) | exact HB.out)⟩
    · rw [if_neg c5] at H
      have c5b0 : decide (a1 < 0) = false := decide_eq_false c5
      clear c5
      by_cases c6 : a1 > 40
      · rw [if_pos c6] at H
        have c6b0 : decide (40 < a1) = true := decide_eq_true c6
        clear c6
        obtain rfl := Option.some.inj H
        go_enter Tryd.func16, Tryd.ntmps16
        go_wp2_with (first | ((with_reducible refine gate_callee (f := 22) rfl ?_); refine goesL_ (some 6) rfl rfl Tryd.func22 (by kernel_rfl) rfl #[.slice A0 l0.length c0] rfl (by (try simp only [List.map_toArray, List.map_cons, List.map_nil]); first | done | rfl | (simp only [List.length_drop, List.length_take]; rfl)) ?_; (with_reducible refine (spec_l13Small.calls k _ _ l0 true _ ?side1 ?side2 A3.out).mono ?_); (case side1 => repeat (first | exact HR0.out | (with_reducible refine Kd.C_alloc ?_ _) | (with_reducible refine Kd.C_drewN ?_ _) | (with_reducible refine Kd.C_drew ?_))); (case side2 => exact HC0.out); rintro e w' ⟨rfl, ⟨nd, rfl⟩⟩; refine ⟨_, rfl, ?_⟩))
        go_ret
        exact ⟨_, by first | rfl | (simp [errW_none, errW_some] <;> rfl) | (simp [*, errW_none, errW_some] <;> rfl), by first | exact Kd.R_nil _ _ _ _ _ | exact Kd.N_nil _ _ _ _ _ | exact Kd.V_nil _ _ _ _ _ | exact Kd.Q_nil _ _ _ _ _ | exact Kd.S_nil _ _ _ _ _, by repeat (first | (with_reducible first | exact HB.out | apply below_alloc | apply pw_below_drewN | apply below_drew1) | exact HB.out)⟩
      · rw [if_neg c6] at H
        have c6b0 : decide (40 < a1) = false := decide_eq_false c6
        clear c6
        replace H := Option.bind_eq_some_iff.mp H
        obtain ⟨t124, A70, H⟩ := H
        replace H : (some t124) = some r := H
        have A7 := Aside0.mk A70
        clear A70
        obtain rfl := Option.some.inj H
        go_enter Tryd.func16, Tryd.ntmps16
        go_wp2_with (first | ((with_reducible refine gate_callee (f := 22) rfl ?_); refine goesL_ (some 6) rfl rfl Tryd.func22 (by kernel_rfl) rfl #[.slice A0 l0.length c0] rfl (by (try simp only [List.map_toArray, List.map_cons, List.map_nil]); first | done | rfl | (simp only [List.length_drop, List.length_take]; rfl)) ?_; (with_reducible refine (spec_l13Small.calls k _ _ l0 true _ ?side1 ?side2 A3.out).mono ?_); (case side1 => repeat (first | exact HR0.out | (with_reducible refine Kd.C_alloc ?_ _) | (with_reducible refine Kd.C_drewN ?_ _) | (with_reducible refine Kd.C_drew ?_))); (case side2 => exact HC0.out); rintro e w' ⟨rfl, ⟨nd, rfl⟩⟩; refine ⟨_, rfl, ?_⟩) | ((with_reducible refine gate_callee (f := 28) rfl ?_); refine goesL_ (some 18) rfl rfl Tryd.func28 (by kernel_rfl) rfl #[.slice A0 l0.length c0, .int .i64 a1] rfl (by (try simp only [List.map_toArray, List.map_cons, List.map_nil]); first | done | rfl | (simp only [List.length_drop, List.length_take]; rfl)) ?_; (with_reducible refine (spec_l13Coarse.calls k _ _ l0 a1 t124 _ ?side1 ?side2 A7.out).mono ?_); (case side1 => repeat (first | exact HR0.out | (with_reducible refine Kd.C_alloc ?_ _) | (with_reducible refine Kd.C_drewN ?_ _) | (with_reducible refine Kd.C_drew ?_))); (case side2 => exact HC0.out); rintro e w8 ⟨v125, rfl, ho0, hb⟩; refine ⟨_, rfl, ?_⟩; have n0_ := Aside0.mk (Kd.R_lower ho0 (below_size (by repeat (first | (with_reducible first | exact HB.out | apply below_alloc | apply pw_below_drewN | apply below_drew1) | exact HB.out)))); have n1_ := Aside0.mk (below_step (by repeat (first | (with_reducible first | exact HB.out | apply below_alloc | apply pw_below_drewN | apply below_drew1) | exact HB.out)) hb); clear HB; have HO126 := n0_; have HB := n1_; clear n0_ n1_; (try clear hb); (try clear hb2); (try clear hk); (try clear hi); (try clear ho0)))
        go_ret
        exact ⟨_, by first | rfl | (simp [errW_none, errW_some] <;> rfl) | (simp [*, errW_none, errW_some] <;> rfl), by (with_reducible repeat (first | apply Kd.R_alloc | apply Kd.R_drewN | apply Kd.R_drew)); exact HO126.out, by repeat (first | (with_reducible first | exact HB.out | apply below_alloc | apply pw_below_drewN | apply below_drew1) | exact HB.out)⟩
  · replace c4 := Bool.eq_false_iff.mpr c4
    subst c4
    have H1 : (some ([] : List Int)) = some r := by rw [if_neg (show ¬ (false = true) by decide)] at H; exact H
    clear H
    have H := H1
    clear H1
    obtain rfl := Option.some.inj H
    go_enter Tryd.func16, Tryd.ntmps16
    go_wp2_with (first | ((with_reducible refine gate_callee (f := 22) rfl ?_); refine goesL_ (some 6) rfl rfl Tryd.func22 (by kernel_rfl) rfl #[.slice A0 l0.length c0] rfl (by (try simp only [List.map_toArray, List.map_cons, List.map_nil]); first | done | rfl | (simp only [List.length_drop, List.length_take]; rfl)) ?_; (with_reducible refine (spec_l13Small.calls k _ _ l0 false _ ?side1 ?side2 A3.out).mono ?_); (case side1 => repeat (first | exact HR0.out | (with_reducible refine Kd.C_alloc ?_ _) | (with_reducible refine Kd.C_drewN ?_ _) | (with_reducible refine Kd.C_drew ?_))); (case side2 => exact HC0.out); rintro e w' ⟨rfl, ⟨nd, rfl⟩⟩; refine ⟨_, rfl, ?_⟩))
    go_ret
    exact ⟨_, by first | rfl | (simp [errW_none, errW_some] <;> rfl) | (simp [*, errW_none, errW_some] <;> rfl), by first | exact Kd.R_nil _ _ _ _ _ | exact Kd.N_nil _ _ _ _ _ | exact Kd.V_nil _ _ _ _ _ | exact Kd.Q_nil _ _ _ _ _ | exact Kd.S_nil _ _ _ _ _, by repeat (first | (with_reducible first | exact HB.out | apply below_alloc | apply pw_below_drewN | apply below_drew1) | exact HB.out)⟩

/-! ### impl_zrange: function 33 -/
def impl_zrange.l0 : Nat → Int → Int → List Int → Int → Int → Option (Bool)
  | 0, _, _, _, _, _ => none
  | k + 1, x1, x2, x15, x16, x17 => if x17 < x16 then (if 0 ≤ x17 then (if x17 < (x15.length : Int) then (if (rd x15 x17) < x1 then (some false) else (if (rd x15 x17) > x2 then (some false) else (impl_zrange.l0 k x1 x2 x15 x16 (wrap64 (x17 + 1))))) else (none)) else (none)) else (some true)
def impl_zrange.f (k : Nat) (l0 : List Int) (a1 : Int) (a2 : Int) (a3 : Int) : Option (Bool) := if (l0.length : Int) > a3 then (some false) else (impl_zrange.l0 k a1 a2 l0 (l0.length : Int) 0)
theorem impl_zrange.mono_l : ∀ k, (∀ y0 y1 y2 y3 y4, LeO (impl_zrange.l0 k y0 y1 y2 y3 y4) (impl_zrange.l0 (k + 1) y0 y1 y2 y3 y4))
  | 0 => fun _ _ _ _ _ r h => by simp [impl_zrange.l0] at h
  | k + 1 => by
    have ih0 := impl_zrange.mono_l k
    · intro y0 y1 y2 y3 y4
      unfold impl_zrange.l0
      repeat' first
      | (with_reducible exact ih0 _ _ _ _ _)
      | (with_reducible exact LeO.refl _)
      | (with_reducible exact LeO.none _)
      | (with_reducible refine LeO.ite ?_ ?_)
      | (with_reducible refine LeO.bind ?_ (fun _ => ?_))
      | exact ih0 _ _ _ _ _
      | exact LeO.none _
      | refine LeO.ite ?_ ?_
      | refine LeO.bind ?_ (fun _ => ?_)
theorem impl_zrange.mono : ∀ a0 a1 a2 a3 k, LeO (impl_zrange.f k a0 a1 a2 a3) (impl_zrange.f (k + 1) a0 a1 a2 a3) := by
  intro a0 a1 a2 a3 k
  have ih0 := impl_zrange.mono_l k
  unfold impl_zrange.f
  repeat' first
      | (with_reducible exact ih0 _ _ _ _ _)
      | (with_reducible exact LeO.refl _)
      | (with_reducible exact LeO.none _)
      | (with_reducible refine LeO.ite ?_ ?_)
      | (with_reducible refine LeO.bind ?_ (fun _ => ?_))
      | exact ih0 _ _ _ _ _
      | exact LeO.none _
      | refine LeO.ite ?_ ?_
      | refine LeO.bind ?_ (fun _ => ?_)
set_option maxHeartbeats 8000000 in
set_option maxRecDepth 100000 in
theorem impl_zrange.calls (k : Nat) (A0 : Option Addr) (c0 : Nat) (l0 : List Int) (a1 : Int) (a2 : Int) (a3 : Int) (r : Bool) (w : World) (hr0 : Kd.C (Kd.int .i64) w A0 l0.length l0) (hc0 : l0.length ≤ c0) (h : impl_zrange.f k l0 a1 a2 a3 = some r) :
    Calls Tryd.prog 33 #[.slice A0 l0.length c0, .int .i64 a1, .int .i64 a2, .int .i64 a3] w fun e w' => e = .returned (.bool r) ∧ Drawn0 w w' := by
  have HR0 := Aside0.mk hr0
  have HC0 := Aside0.mk hc0
  clear hr0 hc0
  have H : (if (l0.length : Int) > a3 then (some false) else (impl_zrange.l0 k a1 a2 l0 (l0.length : Int) 0)) = some r := h
  clear h
  by_cases c5 : (l0.length : Int) > a3
  · rw [if_pos c5] at H
    have c5b0 : decide (a3 < (l0.length : Int)) = true := decide_eq_true c5
    clear c5
    obtain rfl := Option.some.inj H
    go_enter Tryd.func33, Tryd.ntmps33
    go_wp2
    go_ret
    exact ⟨by first | rfl | (simp; done) | (simp [*]; done), by repeat (first | exact Drawn0.refl _ | apply Drawn0.step)⟩
  · rw [if_neg c5] at H
    have c5b0 : decide (a3 < (l0.length : Int)) = false := decide_eq_false c5
    clear c5
    have H' := Aside0.mk H
    clear H
    go_enter Tryd.func33, Tryd.ntmps33
    go_wp2
    go_loopg [17] k (fun kq v17 w' => ∃ (x17_1 : Int), v17 = .int .i64 x17_1 ∧ Aside0 (impl_zrange.l0 kq a1 a2 l0 (l0.length : Int) x17_1 = some r) ∧ Aside0 (kq ≤ k) ∧ Drawn0 w w')
    case atStart => exact ⟨(0), (by first | rfl | (simp; done) | (simp [*]; done)), H', ⟨Nat.le_refl _⟩, by repeat (first | exact Drawn0.refl _ | apply Drawn0.step)⟩
    case round =>
      clear H'
      try clear p2
      try clear c3
      try clear c5
      try clear c5b0
      obtain ⟨x17_1, rfl, HA, HK1, ⟨m1, rfl⟩⟩ := hrel
      cases gk with
      | zero => exact absurd HA.out (by simp [impl_zrange.l0])
      | succ k1 =>
        have H := HA.out
        clear HA
        simp only [impl_zrange.l0] at H
        by_cases c6 : x17_1 < (l0.length : Int)
        · rw [if_pos c6] at H
          have c6b0 : decide (x17_1 < (l0.length : Int)) = true := decide_eq_true c6
          clear c6
          by_cases c7 : 0 ≤ x17_1
          · rw [if_pos c7] at H
            have c7b0 : decide (0 ≤ x17_1) = true := decide_eq_true c7
            clear c7
            by_cases c8 : x17_1 < (l0.length : Int)
            · rw [if_pos c8] at H
              have c8b0 : decide (x17_1 < (l0.length : Int)) = true := decide_eq_true c8
              clear c8
              by_cases c9 : (rd l0 x17_1) < a1
              · rw [if_pos c9] at H
                have c9b0 : decide ((rd l0 x17_1) < a1) = true := decide_eq_true c9
                clear c9
                obtain rfl := Option.some.inj H
                have p127 : 0 ≤ (x17_1 : Int) := of_decide_eq_true (by first | (with_reducible assumption) | assumption)
                have q127 : x17_1 < (l0.length : Int) := of_decide_eq_true (by first | (with_reducible assumption) | assumption)
                obtain ⟨ad127, e127, hx127_0⟩ := Kd.at_int HR0.out x17_1 p127 q127
                cases e127
                replace p127 := eq_true p127
                replace q127 := eq_true q127
                go_wp2
                go_ret
                exact ⟨by first | rfl | (simp; done) | (simp [*]; done), by repeat (first | exact Drawn0.refl _ | apply Drawn0.step)⟩
              · rw [if_neg c9] at H
                have c9b0 : decide ((rd l0 x17_1) < a1) = false := decide_eq_false c9
                clear c9
                by_cases c10 : (rd l0 x17_1) > a2
                · rw [if_pos c10] at H
                  have c10b0 : decide (a2 < (rd l0 x17_1)) = true := decide_eq_true c10
                  clear c10
                  obtain rfl := Option.some.inj H
                  have p127 : 0 ≤ (x17_1 : Int) := of_decide_eq_true (by first | (with_reducible assumption) | assumption)
                  have q127 : x17_1 < (l0.length : Int) := of_decide_eq_true (by first | (with_reducible assumption) | assumption)
                  obtain ⟨ad127, e127, hx127_0⟩ := Kd.at_int HR0.out x17_1 p127 q127
                  cases e127
                  replace p127 := eq_true p127
                  replace q127 := eq_true q127
                  go_wp2
                  go_ret
                  exact ⟨by first | rfl | (simp; done) | (simp [*]; done), by repeat (first | exact Drawn0.refl _ | apply Drawn0.step)⟩
                · rw [if_neg c10] at H
                  have c10b0 : decide (a2 < (rd l0 x17_1)) = false := decide_eq_false c10
                  clear c10
                  have H' := Aside0.mk H
                  clear H
                  have p127 : 0 ≤ (x17_1 : Int) := of_decide_eq_true (by first | (with_reducible assumption) | assumption)
                  have q127 : x17_1 < (l0.length : Int) := of_decide_eq_true (by first | (with_reducible assumption) | assumption)
                  obtain ⟨ad127, e127, hx127_0⟩ := Kd.at_int HR0.out x17_1 p127 q127
                  cases e127
                  replace p127 := eq_true p127
                  replace q127 := eq_true q127
                  go_wp2
                  go_roundg k1
                  case measure => have := HK1.out; omega
                  case rel => exact ⟨(wrap64 (x17_1 + 1)), (by first | rfl | (simp; done) | (simp [*]; done)), H', ⟨by have := HK1.out; omega⟩, by repeat (first | exact Drawn0.refl _ | apply Drawn0.step)⟩
            · rw [if_neg c8] at H
              exact absurd H (by simp)
          · rw [if_neg c7] at H
            exact absurd H (by simp)
        · rw [if_neg c6] at H
          have c6b0 : decide (x17_1 < (l0.length : Int)) = false := decide_eq_false c6
          clear c6
          obtain rfl := Option.some.inj H
          go_wp2
          go_ret
          exact ⟨by first | rfl | (simp; done) | (simp [*]; done), by repeat (first | exact Drawn0.refl _ | apply Drawn0.step)⟩

/-! ### impl_zsmall: function 24 -/
def impl_zsmall.f (k : Nat) (l0 : List Int) : Option (Bool) := if (l0.length : Int) = 16 then ((impl_zrange.f k l0 (-65536) 65535 16).bind fun t128 => (some t128)) else (some false)
theorem impl_zsmall.mono : ∀ a0 k, LeO (impl_zsmall.f k a0) (impl_zsmall.f (k + 1) a0) := by
  intro a0 k
  unfold impl_zsmall.f
  repeat' first
      | (with_reducible exact impl_zrange.mono _ _ _ _ _)
      | (with_reducible exact LeO.refl _)
      | (with_reducible exact LeO.none _)
      | (with_reducible refine LeO.ite ?_ ?_)
      | (with_reducible refine LeO.bind ?_ (fun _ => ?_))
      | exact impl_zrange.mono _ _ _ _ _
      | exact LeO.none _
      | refine LeO.ite ?_ ?_
      | refine LeO.bind ?_ (fun _ => ?_)
set_option maxHeartbeats 8000000 in
set_option maxRecDepth 100000 in
theorem impl_zsmall.calls (k : Nat) (A0 : Option Addr) (c0 : Nat) (l0 : List Int) (r : Bool) (w : World) (hr0 : Kd.C (Kd.int .i64) w A0 l0.length l0) (hc0 : l0.length ≤ c0) (h : impl_zsmall.f k l0 = some r) :
    Calls Tryd.prog 24 #[.slice A0 l0.length c0] w fun e w' => e = .returned (.bool r) ∧ Drawn0 w w' := by
  have HR0 := Aside0.mk hr0
  have HC0 := Aside0.mk hc0
  clear hr0 hc0
  have H : (if (l0.length : Int) = 16 then ((impl_zrange.f k l0 (-65536) 65535 16).bind fun t128 => (some t128)) else (some false)) = some r := h
  clear h
  by_cases c2 : (l0.length : Int) = 16
  · rw [if_pos c2] at H
    have c2b0 : ((l0.length : Int) == 16) = true := beq_iff_eq.mpr c2
    have c2b1 : ((l0.length : Int) != 16) = false := bne_eq_false_iff_eq.mpr c2
    clear c2
    replace H := Option.bind_eq_some_iff.mp H
    obtain ⟨t128, A30, H⟩ := H
    replace H : (some t128) = some r := H
    have A3 := Aside0.mk A30
    clear A30
    obtain rfl := Option.some.inj H
    go_enter Tryd.func24, Tryd.ntmps24
    go_wp2_with (first | (go_at_call 33; (with_reducible refine (impl_zrange.calls k _ _ l0 (-65536) 65535 16 t128 _ ?side1 ?side2 A3.out).mono ?_); (case side1 => repeat (first | exact HR0.out | (with_reducible refine Kd.C_alloc ?_ _) | (with_reducible refine Kd.C_drewN ?_ _) | (with_reducible refine Kd.C_drew ?_))); (case side2 => exact HC0.out); rintro e w' ⟨rfl, ⟨nd, rfl⟩⟩))
    go_ret
    exact ⟨by first | rfl | (simp; done) | (simp [*]; done), by repeat (first | exact Drawn0.refl _ | apply Drawn0.step)⟩
  · rw [if_neg c2] at H
    have c2b0 : ((l0.length : Int) == 16) = false := beq_eq_false_iff_ne.mpr c2
    have c2b1 : ((l0.length : Int) != 16) = true := bne_iff_ne.mpr c2
    obtain rfl := Option.some.inj H
    go_enter Tryd.func24, Tryd.ntmps24
    go_wp2
    go_ret
    exact ⟨by first | rfl | (simp; done) | (simp [*]; done), by repeat (first | exact Drawn0.refl _ | apply Drawn0.step)⟩

/-! ### impl_zcopy: function 25 -/
def impl_zcopy.f (l0 : List Int) : Option (List Int) := (some (([] : List Int) : List Int)).bind fun y129 => (if y129.length + l0.length < 17592186044416 then (some (y129 ++ l0)) else (none))
set_option maxHeartbeats 8000000 in
set_option maxRecDepth 100000 in
theorem impl_zcopy.calls (A0 : Option Addr) (c0 : Nat) (l0 : List Int) (r : List Int) (w : World) (hr0 : Kd.C (Kd.int .i64) w A0 l0.length l0) (hc0 : l0.length ≤ c0) (h : impl_zcopy.f l0 = some r) :
    Calls Tryd.prog 25 #[.slice A0 l0.length c0] w fun e w' => ∃ v0_ : Value, e = .returned (v0_) ∧ Kd.R (Kd.int .i64) 3 w' w.heap.size (fun _ => True) v0_ r ∧ Below w.heap.size w w' := by
  have HR0 := Aside0.mk hr0
  have HC0 := Aside0.mk hc0
  clear hr0 hc0
  have HB := Aside0.mk (Below.refl w.heap.size w)
  have H : ((some (([] : List Int) : List Int)).bind fun y129 => (if y129.length + l0.length < 17592186044416 then (some (y129 ++ l0)) else (none))) = some r := h
  clear h
  obtain ⟨y129, hy129⟩ : ∃ y_ : List Int, y_ = (([] : List Int)) := ⟨_, rfl⟩
  replace H : (if y129.length + l0.length < 17592186044416 then (some (y129 ++ l0)) else (none)) = some r := by first | (rw [hy129]; with_reducible exact H) | (have H2_ := (Option.bind_some _ _).symm.trans H; rw [hy129]; with_reducible exact H2_) | (have H2_ := (Option.bind_some _ _).symm.trans H; with_reducible exact H2_) | with_reducible exact H | (rw [hy129]; exact H) | exact H
  have Ny129 := Aside0.mk hy129
  clear hy129
  by_cases c2 : y129.length + l0.length < 17592186044416
  · rw [if_pos c2] at H
    have LMc2 := Aside0.mk c2
    clear c2
    obtain ⟨y132, hy132⟩ : ∃ y_ : List Int, y_ = (y129 ++ l0) := ⟨_, rfl⟩
    replace H : (some y132) = some r := by first | (rw [hy132]; with_reducible exact H) | (have H2_ := (Option.bind_some _ _).symm.trans H; rw [hy132]; with_reducible exact H2_) | (have H2_ := (Option.bind_some _ _).symm.trans H; with_reducible exact H2_) | with_reducible exact H | (rw [hy132]; exact H) | exact H
    have Ny132 := Aside0.mk hy132
    clear hy132
    obtain rfl := Option.some.inj H
    go_enter Tryd.func25, Tryd.ntmps25
    go_wp2_with (first | ((with_reducible refine gate_dst (N := 3) rfl ?_); refine Kd.R_lit (Kd.int .i64) _ 3 ?hg (N := 3) ?hd (xs := ([] : List Int)) (inner := []) (ok := fun _ => True) (okp := fun _ => True) ?hr ?hp (fun _ hk => hk) trivial (Below.refl _ _) (Nat.le_refl _) (by simp) ?_; (case hd => rfl); (case hg => rfl); (case hr => first | (go_simp; done) | (go_simp; rfl)); (case hp => exact (Reps.none _ _)); intro v130 w3 ho4 hb hg_ hnew_; clear hg_ hnew_; (first | rw [← Ny129.out] at ho4 | (simp only [Int.reduceToNat] at ho4; rw [← Ny129.out] at ho4)); have n0_ := Aside0.mk (Kd.R_lower ho4 (below_size (by repeat (first | (with_reducible first | exact HB.out | apply below_alloc | apply pw_below_drewN | apply below_drew1) | exact HB.out)))); have n1_ := Aside0.mk (below_step (by repeat (first | (with_reducible first | exact HB.out | apply below_alloc | apply pw_below_drewN | apply below_drew1) | exact HB.out)) hb); clear HB; have HO131 := n0_; have HB := n1_; clear n0_ n1_; clear hb ho4) | ((with_reducible refine gate_builtin (b := .append) (xs := #[.tmp 3, .tmp 4]) rfl ?_); at_builtin; refine Kd.R_append_rows (Kd.int .i64) (w0 := w) w.heap.size rfl (.tmp 3) (.tmp 4) 22 3 (.int .i64 0) 8 rfl Tryd.underlying22 info3 rfl (by decide) (by omega) v130 y129 l0 _ _ _ (fun _ => True) (fun _ => False) rfl rfl ?aO ?aR (fun _ _ h => h) (fun _ h => h.elim) ?aF ?aB ?aS ?aL ?_; (case aR => repeat (first | exact (Kd.C_below HR0.out HB.out) | (with_reducible refine Kd.C_alloc ?_ _) | (with_reducible refine Kd.C_drewN ?_ _) | (with_reducible refine Kd.C_drew ?_))); (case aB => exact (by repeat (first | (with_reducible first | exact HB.out | apply below_alloc | apply pw_below_drewN | apply below_drew1) | exact HB.out))); (case aF => exact (fun _ _ => trivial)); (case aO => exact (by (with_reducible repeat (first | apply Kd.R_alloc | apply Kd.R_drewN | apply Kd.R_drew)); exact HO131.out)); (case aS => exact (below_size (by repeat (first | (with_reducible first | exact HB.out | apply below_alloc | apply pw_below_drewN | apply below_drew1) | exact HB.out)))); (case aL => have := LMc2.out; omega); intro v133 w5 ho hb hg hat; rw [← Ny132.out] at ho; have n0_ := Aside0.mk (hb); have n1_ := Aside0.mk (ho); clear HB; clear HO131; have HB := n0_; have HO134 := n1_; clear n0_ n1_; clear ho hb hg hat))
    go_ret
    exact ⟨_, by first | rfl | (simp [errW_none, errW_some] <;> rfl) | (simp [*, errW_none, errW_some] <;> rfl), by (with_reducible repeat (first | apply Kd.R_alloc | apply Kd.R_drewN | apply Kd.R_drew)); exact HO134.out, by repeat (first | (with_reducible first | exact HB.out | apply below_alloc | apply pw_below_drewN | apply below_drew1) | exact HB.out)⟩
  · rw [if_neg c2] at H
    exact absurd H (by simp)

/-! ### impl_zclass: function 27 -/
def impl_zclass.j0 : Nat → Int → Int → Bool → Option (Int)
  | 0, _, _, _ => none
  | k + 1, x3, x4, x10 => if x10 = true then (some 0) else (if x3 = 1 then (if x4 = 1 then (some 1) else (some 2)) else (some 2))
def impl_zclass.f (k : Nat) (a0 : Int) : Option (Int) := if (Go.bits .and .i64 a0 1) = 0 then (impl_zclass.j0 k (Go.bits .and .i64 a0 1) (Go.bits .and .i64 (a0 / 4) 1) ((Go.bits .and .i64 (a0 / 4) 1) == 0)) else (impl_zclass.j0 k (Go.bits .and .i64 a0 1) (Go.bits .and .i64 (a0 / 4) 1) false)
theorem impl_zclass.mono_l : ∀ k, (∀ y0 y1 y2, LeO (impl_zclass.j0 k y0 y1 y2) (impl_zclass.j0 (k + 1) y0 y1 y2))
  | 0 => fun _ _ _ r h => by simp [impl_zclass.j0] at h
  | k + 1 => by
    have ih0 := impl_zclass.mono_l k
    · intro y0 y1 y2
      unfold impl_zclass.j0
      repeat' first
      | (with_reducible exact ih0 _ _ _)
      | (with_reducible exact LeO.refl _)
      | (with_reducible exact LeO.none _)
      | (with_reducible refine LeO.ite ?_ ?_)
      | (with_reducible refine LeO.bind ?_ (fun _ => ?_))
      | exact ih0 _ _ _
      | exact LeO.none _
      | refine LeO.ite ?_ ?_
      | refine LeO.bind ?_ (fun _ => ?_)
theorem impl_zclass.mono : ∀ a0 k, LeO (impl_zclass.f k a0) (impl_zclass.f (k + 1) a0) := by
  intro a0 k
  have ih0 := impl_zclass.mono_l k
  unfold impl_zclass.f
  repeat' first
      | (with_reducible exact ih0 _ _ _)
      | (with_reducible exact LeO.refl _)
      | (with_reducible exact LeO.none _)
      | (with_reducible refine LeO.ite ?_ ?_)
      | (with_reducible refine LeO.bind ?_ (fun _ => ?_))
      | exact ih0 _ _ _
      | exact LeO.none _
      | refine LeO.ite ?_ ?_
      | refine LeO.bind ?_ (fun _ => ?_)
set_option maxHeartbeats 8000000 in
set_option maxRecDepth 100000 in
theorem impl_zclass.calls (k : Nat) (a0 : Int) (r : Int) (w : World) (h : impl_zclass.f k a0 = some r) :
    Calls Tryd.prog 27 #[.int .i64 a0] w fun e w' => e = .returned (.int .i64 r) ∧ Drawn0 w w' := by
  have H : (if (Go.bits .and .i64 a0 1) = 0 then (impl_zclass.j0 k (Go.bits .and .i64 a0 1) (Go.bits .and .i64 (a0 / 4) 1) ((Go.bits .and .i64 (a0 / 4) 1) == 0)) else (impl_zclass.j0 k (Go.bits .and .i64 a0 1) (Go.bits .and .i64 (a0 / 4) 1) false)) = some r := h
  clear h
  have HC2 := Aside0.mk H
  clear H
  go_enter Tryd.func27, Tryd.ntmps27
  go_upto_region 2 with (fail)
  go_cut [10] (fun v10 wc => ∃ (kq : Nat) (x10_1 : Bool), v10 = .bool x10_1 ∧ Aside0 (impl_zclass.j0 kq (Go.bits .and .i64 a0 1) (Go.bits .and .i64 (a0 / 4) 1) x10_1 = some r) ∧ Aside0 (kq ≤ k) ∧ Drawn0 w wc)
  case first =>
    have H := HC2.out
    clear HC2
    by_cases c3 : (Go.bits .and .i64 a0 1) = 0
    · rw [if_pos c3] at H
      have c3b0 : ((Go.bits .and .i64 a0 1) == 0) = true := beq_iff_eq.mpr c3
      have c3b1 : ((Go.bits .and .i64 a0 1) != 0) = false := bne_eq_false_iff_eq.mpr c3
      clear c3
      (first | rw [c3b0] | (simp only [i64_w, i32_w]; rw [c3b0]) | skip)
      have H' := Aside0.mk H
      clear H
      go_wp2
      go_meet
      case rel => exact ⟨_, (((Go.bits .and .i64 (a0 / 4) 1) == 0)), (by first | rfl | (simp; done) | (simp [*]; done)), H', ⟨by first | omega | exact Nat.le_refl _⟩, by repeat (first | exact Drawn0.refl _ | apply Drawn0.step)⟩
    · rw [if_neg c3] at H
      have c3b0 : ((Go.bits .and .i64 a0 1) == 0) = false := beq_eq_false_iff_ne.mpr c3
      have c3b1 : ((Go.bits .and .i64 a0 1) != 0) = true := bne_iff_ne.mpr c3
      (first | rw [c3b0] | (simp only [i64_w, i32_w]; rw [c3b0]) | skip)
      have H' := Aside0.mk H
      clear H
      go_wp2
      go_meet
      case rel => exact ⟨_, (false), (by first | rfl | (simp; done) | (simp [*]; done)), H', ⟨by first | omega | exact Nat.le_refl _⟩, by repeat (first | exact Drawn0.refl _ | apply Drawn0.step)⟩
  case rest =>
    clear HC2
    try clear c2
    try clear p2
    try clear c3
    try clear c3b0
    try clear c3b1
    obtain ⟨kq, x10_1, rfl, HA, HJ1, ⟨mc1, rfl⟩⟩ := hcut
    cases kq with
    | zero => exact absurd HA.out (by simp [impl_zclass.j0])
    | succ kj1 =>
      have H := HA.out
      clear HA
      simp only [impl_zclass.j0] at H
      by_cases c4 : x10_1 = true
      · subst c4
        have H1 : (some 0) = some r := by rw [if_pos rfl] at H; exact H
        clear H
        have H := H1
        clear H1
        obtain rfl := Option.some.inj H
        go_wp2
        go_ret
        exact ⟨by first | rfl | (simp; done) | (simp [*]; done), by repeat (first | exact Drawn0.refl _ | apply Drawn0.step)⟩
      · replace c4 := Bool.eq_false_iff.mpr c4
        subst c4
        have H1 : (if (Go.bits .and .i64 a0 1) = 1 then (if (Go.bits .and .i64 (a0 / 4) 1) = 1 then (some 1) else (some 2)) else (some 2)) = some r := by rw [if_neg (show ¬ (false = true) by decide)] at H; exact H
        clear H
        have H := H1
        clear H1
        by_cases c5 : (Go.bits .and .i64 a0 1) = 1
        · rw [if_pos c5] at H
          have c5b0 : ((Go.bits .and .i64 a0 1) == 1) = true := beq_iff_eq.mpr c5
          have c5b1 : ((Go.bits .and .i64 a0 1) != 1) = false := bne_eq_false_iff_eq.mpr c5
          clear c5
          by_cases c6 : (Go.bits .and .i64 (a0 / 4) 1) = 1
          · rw [if_pos c6] at H
            have c6b0 : ((Go.bits .and .i64 (a0 / 4) 1) == 1) = true := beq_iff_eq.mpr c6
            have c6b1 : ((Go.bits .and .i64 (a0 / 4) 1) != 1) = false := bne_eq_false_iff_eq.mpr c6
            clear c6
            obtain rfl := Option.some.inj H
            go_wp2
            go_ret
            exact ⟨by first | rfl | (simp; done) | (simp [*]; done), by repeat (first | exact Drawn0.refl _ | apply Drawn0.step)⟩
          · rw [if_neg c6] at H
            have c6b0 : ((Go.bits .and .i64 (a0 / 4) 1) == 1) = false := beq_eq_false_iff_ne.mpr c6
            have c6b1 : ((Go.bits .and .i64 (a0 / 4) 1) != 1) = true := bne_iff_ne.mpr c6
            obtain rfl := Option.some.inj H
            go_wp2
            go_ret
            exact ⟨by first | rfl | (simp; done) | (simp [*]; done), by repeat (first | exact Drawn0.refl _ | apply Drawn0.step)⟩
        · rw [if_neg c5] at H
          have c5b0 : ((Go.bits .and .i64 a0 1) == 1) = false := beq_eq_false_iff_ne.mpr c5
          have c5b1 : ((Go.bits .and .i64 a0 1) != 1) = true := bne_iff_ne.mpr c5
          obtain rfl := Option.some.inj H
          go_wp2
          go_ret
          exact ⟨by first | rfl | (simp; done) | (simp [*]; done), by repeat (first | exact Drawn0.refl _ | apply Drawn0.step)⟩

-- NOT PRINTED: function 17 (impl_SmallCoarse)

-- NOT PRINTED: function 5 (laws_FnExactSmallCoarse)

end Go.Proofs.YtkhpcclddkddmaaDoor.PFnExactSmallCoarse
