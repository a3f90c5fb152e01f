/- The walk of spec.l4Passes: the printed definitions of what it computes, and an own walk that it computes it. -/
import Derived.Test.YtkhpcclddkddmaaPFnExactPassesx0
import Derived.Test.YtkhpcclddkddmaaPFnExactPassesx1
namespace Go.Proofs.Ytkhpcclddkddmaa.PFnExactPasses
open Go.RowKit Go.Proofs.YtkhpcclddkddmaaW.PrintWords Go.Proofs.YtkhpcclddkddmaaW.PrintLast Go.Proofs.YtkhpcclddkddmaaW.PrintMore
attribute [local go_sem] max2_int min2_int max_two min_two max_three min_three max_four min_four   -- for this text's walks alone
set_option linter.unusedVariables false
set_option linter.unusedSimpArgs false

/-! The walk of spec.l4Passes (function 44): the printed definitions, an own walk of its loop. -/
theorem abs_w_ {S : World → Prop} {K : World → Prop} {w1 : World} (h : S w1) (k : ∀ w2, S w2 → K w2) : K w1 := k w1 h

def spec_l4Passes.l0 : Nat → Int → Int → List Int → List (S58) → Int → Option ((List (S58)))
  | 0, _, _, _, _, _ => none
  | k + 1, x0, x1, x5, x6, x7 => if x7 < (x5.length : Int) then (if 0 ≤ x7 then (if 0 ≤ (wrap64 (x7 + 1)) then (if (wrap64 (x7 + 1)) < (x5.length : Int) then (if 0 ≤ (wrap64 (x7 + 2)) then (if (wrap64 (x7 + 2)) < (x5.length : Int) then (if 0 ≤ (wrap64 (x7 + 3)) then (if (wrap64 (x7 + 3)) < (x5.length : Int) then ((spec_l4Count.f x0 (rd x5 x7) (rd x5 (wrap64 (x7 + 2)))).bind fun t109 => ((spec_l4Count.f x1 (rd x5 (wrap64 (x7 + 1))) (rd x5 (wrap64 (x7 + 3)))).bind fun t110 => (if t109 > 0 then (if t110 > 0 then (if x6.length < 2932031007402 then (spec_l4Passes.l0 k x0 x1 x5 (x6 ++ [(⟨rd x5 x7, rd x5 (wrap64 (x7 + 1)), rd x5 (wrap64 (x7 + 2)), rd x5 (wrap64 (x7 + 3)), t109, t110⟩ : S58)]) (wrap64 (x7 + 4))) else (none)) else (spec_l4Passes.l0 k x0 x1 x5 x6 (wrap64 (x7 + 4)))) else (spec_l4Passes.l0 k x0 x1 x5 x6 (wrap64 (x7 + 4)))))) else (none)) else (none)) else (none)) else (none)) else (none)) else (none)) else (none)) else (some x6)
def spec_l4Passes.f (k : Nat) (a0 : Int) (a1 : Int) : Option ((List (S58))) := spec_l4Passes.l0 k a0 a1 (([0, 0, 8, 8, 4, 0, 8, 8, 0, 4, 4, 8, 2, 0, 4, 4, 0, 2, 2, 4, 1, 0, 2, 2, 0, 1, 1, 2] : List Int)) ([] : List (S58)) 0
theorem spec_l4Passes.mono_l : ∀ k, (∀ y0 y1 y2 y3 y4, LeO (spec_l4Passes.l0 k y0 y1 y2 y3 y4) (spec_l4Passes.l0 (k + 1) y0 y1 y2 y3 y4))
  | 0 => fun _ _ _ _ _ r h => by simp [spec_l4Passes.l0] at h
  | k + 1 => by
    have ih0 := spec_l4Passes.mono_l k
    · intro y0 y1 y2 y3 y4
      unfold spec_l4Passes.l0
      repeat' first
      | (with_reducible exact ih0 _ _ _ _ _)
      | (with_reducible exact LeO.refl _)
      | (with_reducible exact LeO.none _)
      | (with_reducible refine LeO.ite ?_ ?_)
      | (with_reducible refine LeO.bind ?_ (fun _ => ?_))
      | exact ih0 _ _ _ _ _
      | exact LeO.none _
      | refine LeO.ite ?_ ?_
      | refine LeO.bind ?_ (fun _ => ?_)
theorem spec_l4Passes.mono : ∀ a0 a1 k, LeO (spec_l4Passes.f k a0 a1) (spec_l4Passes.f (k + 1) a0 a1) := by
  intro a0 a1 k
  have ih0 := spec_l4Passes.mono_l k
  unfold spec_l4Passes.f
  repeat' first
      | (with_reducible exact ih0 _ _ _ _ _)
      | (with_reducible exact LeO.refl _)
      | (with_reducible exact LeO.none _)
      | (with_reducible refine LeO.ite ?_ ?_)
      | (with_reducible refine LeO.bind ?_ (fun _ => ?_))
      | exact ih0 _ _ _ _ _
      | exact LeO.none _
      | refine LeO.ite ?_ ?_
      | refine LeO.bind ?_ (fun _ => ?_)
def spec_l4Passes.T6 : Bool × List (List Nat × List Nat) := (true, [([], []), ([], []), ([0, 1], [0, 1]), ([2], [2]), ([], []), ([], []), ([5], [5]), ([4, 6], [4, 6]), ([7], [7]), ([], []), ([], []), ([10], [10]), ([9, 11], [9, 11]), ([12], [12]), ([], []), ([], []), ([15], [15]), ([14, 16], [14, 16]), ([17], [17]), ([3, 8, 13, 18], [3, 8, 13, 18]), ([], []), ([20, 19, 0, 1, 2, 3, 4, 5, 6, 7, 8, 9, 10, 11, 12, 13, 14, 15, 16, 17, 18, 19, 20], [19, 20])])
def spec_l4Passes.B6 : List Nat := [0, 0, 3, 7, 0, 0, 32, 112, 240, 0, 0, 1024, 3584, 7680, 0, 0, 32768, 114688, 245760, 524287, 0, 2097151]
theorem spec_l4Passes.tab6 : rtab .any (opsOf Try.f44 6) = spec_l4Passes.T6 := by kernel_rfl
theorem spec_l4Passes.bits6 : waitsOk spec_l4Passes.T6.2 spec_l4Passes.B6 = true := by kernel_rfl
set_option maxHeartbeats 8000000 in
set_option maxRecDepth 100000 in
theorem spec_l4Passes.calls (k : Nat) (a0 : Int) (a1 : Int) (r : List (S58)) (w : World) (h : spec_l4Passes.f k a0 a1 = some r) :
    Calls Try.prog 44 #[.int .i64 a0, .int .i64 a1] w fun e w' => ∃ v0_ : Value, e = .returned (v0_) ∧ Kd.R k58 58 w' w.heap.size (fun _ => True) v0_ r ∧ Below w.heap.size w w' := by
  have hu58 := Try.underlying58
  have HB := Aside0.mk (Below.refl w.heap.size w)
  have H : (spec_l4Passes.l0 k a0 a1 (([0, 0, 8, 8, 4, 0, 8, 8, 0, 4, 4, 8, 2, 0, 4, 4, 0, 2, 2, 4, 1, 0, 2, 2, 0, 1, 1, 2] : List Int)) ([] : List (S58)) 0) = some r := h
  clear h
  obtain ⟨y101, hy101⟩ : ∃ y_ : List Int, y_ = (([0, 0, 8, 8, 4, 0, 8, 8, 0, 4, 4, 8, 2, 0, 4, 4, 0, 2, 2, 4, 1, 0, 2, 2, 0, 1, 1, 2] : List Int)) := ⟨_, rfl⟩
  replace H : (spec_l4Passes.l0 k a0 a1 y101 ([] : List (S58)) 0) = some r := by first | (rw [hy101]; with_reducible exact H) | (have H2_ := (Option.bind_some _ _).symm.trans H; rw [hy101]; with_reducible exact H2_) | (have H2_ := (Option.bind_some _ _).symm.trans H; with_reducible exact H2_) | with_reducible exact H | (rw [hy101]; exact H) | exact H
  have Ny101 := Aside0.mk hy101
  clear hy101
  have H' := Aside0.mk H
  clear H
  go_enter Try.func44, Try.ntmps44
  go_wp2_with (first | ((with_reducible refine gate_dst (N := 9) rfl ?_); refine Kd.R_lit (Kd.int .i64) _ 3 ?hg (N := 9) ?hd (xs := ([0, 0, 8, 8, 4, 0, 8, 8, 0, 4, 4, 8, 2, 0, 4, 4, 0, 2, 2, 4, 1, 0, 2, 2, 0, 1, 1, 2] : List Int)) (inner := [.int .i64 0, .int .i64 0, .int .i64 8, .int .i64 8, .int .i64 4, .int .i64 0, .int .i64 8, .int .i64 8, .int .i64 0, .int .i64 4, .int .i64 4, .int .i64 8, .int .i64 2, .int .i64 0, .int .i64 4, .int .i64 4, .int .i64 0, .int .i64 2, .int .i64 2, .int .i64 4, .int .i64 1, .int .i64 0, .int .i64 2, .int .i64 2, .int .i64 0, .int .i64 1, .int .i64 1, .int .i64 2]) (ok := fun _ => True) (okp := fun _ => True) ?hr ?hp (fun _ hk => hk) trivial (Below.refl _ _) (Nat.le_refl _) (by simp) ?_; (case hd => rfl); (case hg => rfl); (case hr => first | (go_simp; done) | (go_simp; rfl)); (case hp => exact (Reps.one (show Kd.M (Kd.int .i64) _ _ _ 0 [.int .i64 0] from rfl) (Reps.one (show Kd.M (Kd.int .i64) _ _ _ 0 [.int .i64 0] from rfl) (Reps.one (show Kd.M (Kd.int .i64) _ _ _ 8 [.int .i64 8] from rfl) (Reps.one (show Kd.M (Kd.int .i64) _ _ _ 8 [.int .i64 8] from rfl) (Reps.one (show Kd.M (Kd.int .i64) _ _ _ 4 [.int .i64 4] from rfl) (Reps.one (show Kd.M (Kd.int .i64) _ _ _ 0 [.int .i64 0] from rfl) (Reps.one (show Kd.M (Kd.int .i64) _ _ _ 8 [.int .i64 8] from rfl) (Reps.one (show Kd.M (Kd.int .i64) _ _ _ 8 [.int .i64 8] from rfl) (Reps.one (show Kd.M (Kd.int .i64) _ _ _ 0 [.int .i64 0] from rfl) (Reps.one (show Kd.M (Kd.int .i64) _ _ _ 4 [.int .i64 4] from rfl) (Reps.one (show Kd.M (Kd.int .i64) _ _ _ 4 [.int .i64 4] from rfl) (Reps.one (show Kd.M (Kd.int .i64) _ _ _ 8 [.int .i64 8] from rfl) (Reps.one (show Kd.M (Kd.int .i64) _ _ _ 2 [.int .i64 2] from rfl) (Reps.one (show Kd.M (Kd.int .i64) _ _ _ 0 [.int .i64 0] from rfl) (Reps.one (show Kd.M (Kd.int .i64) _ _ _ 4 [.int .i64 4] from rfl) (Reps.one (show Kd.M (Kd.int .i64) _ _ _ 4 [.int .i64 4] from rfl) (Reps.one (show Kd.M (Kd.int .i64) _ _ _ 0 [.int .i64 0] from rfl) (Reps.one (show Kd.M (Kd.int .i64) _ _ _ 2 [.int .i64 2] from rfl) (Reps.one (show Kd.M (Kd.int .i64) _ _ _ 2 [.int .i64 2] from rfl) (Reps.one (show Kd.M (Kd.int .i64) _ _ _ 4 [.int .i64 4] from rfl) (Reps.one (show Kd.M (Kd.int .i64) _ _ _ 1 [.int .i64 1] from rfl) (Reps.one (show Kd.M (Kd.int .i64) _ _ _ 0 [.int .i64 0] from rfl) (Reps.one (show Kd.M (Kd.int .i64) _ _ _ 2 [.int .i64 2] from rfl) (Reps.one (show Kd.M (Kd.int .i64) _ _ _ 2 [.int .i64 2] from rfl) (Reps.one (show Kd.M (Kd.int .i64) _ _ _ 0 [.int .i64 0] from rfl) (Reps.one (show Kd.M (Kd.int .i64) _ _ _ 1 [.int .i64 1] from rfl) (Reps.one (show Kd.M (Kd.int .i64) _ _ _ 1 [.int .i64 1] from rfl) (Reps.one (show Kd.M (Kd.int .i64) _ _ _ 2 [.int .i64 2] from rfl) (Reps.none _ _)))))))))))))))))))))))))))))); intro v102 w3 ho4 hb hg_ hnew_; clear hg_ hnew_; (first | rw [← Ny101.out] at ho4 | (simp only [Int.reduceToNat] at ho4; rw [← Ny101.out] at ho4)); have n0_ := Aside0.mk (Kd.R_lower ho4 (below_size (by repeat (first | (with_reducible first | exact HB.out | apply below_alloc | apply pw_below_drewN | apply below_drew1) | exact HB.out)))); have n1_ := Aside0.mk (below_step (by repeat (first | (with_reducible first | exact HB.out | apply below_alloc | apply pw_below_drewN | apply below_drew1) | exact HB.out)) hb); clear HB; have HO103 := n0_; have HB := n1_; clear n0_ n1_; clear hb ho4))
  go_loopg [6, 7] k (fun kq v6 v7 w' => ∃ (x6_1 : List (S58)) (x7_1 : Int), v7 = .int .i64 x7_1 ∧ Aside0 (spec_l4Passes.l0 kq a0 a1 y101 x6_1 x7_1 = some r) ∧ Aside0 (kq ≤ k) ∧ Aside0 (Kd.R (Kd.int .i64) 3 w' w.heap.size (fun _ => True) v102 y101) ∧ Aside0 (Kd.R k58 58 w' w.heap.size (fun _ => True) v6 x6_1) ∧ Aside0 (Below w.heap.size w w'))
  case atStart => exact ⟨(([] : List (S58))), (0), (by first | rfl | (simp; done) | (simp [*]; done)), H', ⟨Nat.le_refl _⟩, ⟨by (with_reducible repeat (first | apply Kd.R_alloc | apply Kd.R_drewN | apply Kd.R_drew)); exact HO103.out⟩, ⟨by first | exact Kd.R_nil _ _ _ _ _ | exact Kd.N_nil _ _ _ _ _ | exact Kd.V_nil _ _ _ _ _ | exact Kd.Q_nil _ _ _ _ _ | exact Kd.S_nil _ _ _ _ _⟩, ⟨by repeat (first | (with_reducible first | exact HB.out | apply below_alloc | apply pw_below_drewN | apply below_drew1) | exact HB.out)⟩⟩
  case round =>
    clear H'
    try clear p2
    try clear c4
    obtain ⟨x6_1, x7_1, rfl, HA, HK1, HO_5, HO_6, HB⟩ := hrel
    cases gk with
    | zero => exact absurd HA.out (by simp [spec_l4Passes.l0])
    | succ k1 =>
      have H := HA.out
      clear HA
      simp only [spec_l4Passes.l0] at H
      by_cases c5 : x7_1 < (y101.length : Int)
      · rw [if_pos c5] at H
        have c5b0 : decide (x7_1 < (y101.length : Int)) = true := decide_eq_true c5
        clear c5
        by_cases c6 : 0 ≤ x7_1
        · rw [if_pos c6] at H
          have c6b0 : decide (0 ≤ x7_1) = true := decide_eq_true c6
          clear c6
          obtain ⟨ji7, hji7⟩ : ∃ j_ : Int, (wrap64 (x7_1 + 1)) = j_ := ⟨_, rfl⟩
          replace H : (if 0 ≤ (ji7) then (if (ji7) < (y101.length : Int) then (if 0 ≤ (wrap64 (x7_1 + 2)) then (if (wrap64 (x7_1 + 2)) < (y101.length : Int) then (if 0 ≤ (wrap64 (x7_1 + 3)) then (if (wrap64 (x7_1 + 3)) < (y101.length : Int) then ((spec_l4Count.f a0 (rd y101 x7_1) (rd y101 (wrap64 (x7_1 + 2)))).bind fun t109 => ((spec_l4Count.f a1 (rd y101 (ji7)) (rd y101 (wrap64 (x7_1 + 3)))).bind fun t110 => (if t109 > 0 then (if t110 > 0 then (if x6_1.length < 2932031007402 then (spec_l4Passes.l0 k1 a0 a1 y101 (x6_1 ++ [(⟨rd y101 x7_1, rd y101 (ji7), rd y101 (wrap64 (x7_1 + 2)), rd y101 (wrap64 (x7_1 + 3)), t109, t110⟩ : S58)]) (wrap64 (x7_1 + 4))) else (none)) else (spec_l4Passes.l0 k1 a0 a1 y101 x6_1 (wrap64 (x7_1 + 4)))) else (spec_l4Passes.l0 k1 a0 a1 y101 x6_1 (wrap64 (x7_1 + 4)))))) else (none)) else (none)) else (none)) else (none)) else (none)) else (none)) = some r := by first | (rw [hji7] at H; exact H) | (simp only [hji7] at H ⊢; exact H)
          have hji7w : (IntKind.i64.wrap (x7_1 + 1)) = ji7 := (i64_w _).trans hji7
          by_cases c8 : 0 ≤ (ji7)
          · rw [if_pos c8] at H
            have c8b0 : decide (0 ≤ (ji7)) = true := decide_eq_true c8
            clear c8
            by_cases c9 : (ji7) < (y101.length : Int)
            · rw [if_pos c9] at H
              have c9b0 : decide ((ji7) < (y101.length : Int)) = true := decide_eq_true c9
              clear c9
              obtain ⟨ji10, hji10⟩ : ∃ j_ : Int, (wrap64 (x7_1 + 2)) = j_ := ⟨_, rfl⟩
              replace H : (if 0 ≤ (ji10) then (if (ji10) < (y101.length : Int) then (if 0 ≤ (wrap64 (x7_1 + 3)) then (if (wrap64 (x7_1 + 3)) < (y101.length : Int) then ((spec_l4Count.f a0 (rd y101 x7_1) (rd y101 (ji10))).bind fun t109 => ((spec_l4Count.f a1 (rd y101 (ji7)) (rd y101 (wrap64 (x7_1 + 3)))).bind fun t110 => (if t109 > 0 then (if t110 > 0 then (if x6_1.length < 2932031007402 then (spec_l4Passes.l0 k1 a0 a1 y101 (x6_1 ++ [(⟨rd y101 x7_1, rd y101 (ji7), rd y101 (ji10), rd y101 (wrap64 (x7_1 + 3)), t109, t110⟩ : S58)]) (wrap64 (x7_1 + 4))) else (none)) else (spec_l4Passes.l0 k1 a0 a1 y101 x6_1 (wrap64 (x7_1 + 4)))) else (spec_l4Passes.l0 k1 a0 a1 y101 x6_1 (wrap64 (x7_1 + 4)))))) else (none)) else (none)) else (none)) else (none)) = some r := by first | (rw [hji10] at H; exact H) | (simp only [hji10] at H ⊢; exact H)
              have hji10w : (IntKind.i64.wrap (x7_1 + 2)) = ji10 := (i64_w _).trans hji10
              by_cases c11 : 0 ≤ (ji10)
              · rw [if_pos c11] at H
                have c11b0 : decide (0 ≤ (ji10)) = true := decide_eq_true c11
                clear c11
                by_cases c12 : (ji10) < (y101.length : Int)
                · rw [if_pos c12] at H
                  have c12b0 : decide ((ji10) < (y101.length : Int)) = true := decide_eq_true c12
                  clear c12
                  obtain ⟨ji13, hji13⟩ : ∃ j_ : Int, (wrap64 (x7_1 + 3)) = j_ := ⟨_, rfl⟩
                  replace H : (if 0 ≤ (ji13) then (if (ji13) < (y101.length : Int) then ((spec_l4Count.f a0 (rd y101 x7_1) (rd y101 (ji10))).bind fun t109 => ((spec_l4Count.f a1 (rd y101 (ji7)) (rd y101 (ji13))).bind fun t110 => (if t109 > 0 then (if t110 > 0 then (if x6_1.length < 2932031007402 then (spec_l4Passes.l0 k1 a0 a1 y101 (x6_1 ++ [(⟨rd y101 x7_1, rd y101 (ji7), rd y101 (ji10), rd y101 (ji13), t109, t110⟩ : S58)]) (wrap64 (x7_1 + 4))) else (none)) else (spec_l4Passes.l0 k1 a0 a1 y101 x6_1 (wrap64 (x7_1 + 4)))) else (spec_l4Passes.l0 k1 a0 a1 y101 x6_1 (wrap64 (x7_1 + 4)))))) else (none)) else (none)) = some r := by first | (rw [hji13] at H; exact H) | (simp only [hji13] at H ⊢; exact H)
                  have hji13w : (IntKind.i64.wrap (x7_1 + 3)) = ji13 := (i64_w _).trans hji13
                  by_cases c14 : 0 ≤ (ji13)
                  · rw [if_pos c14] at H
                    have c14b0 : decide (0 ≤ (ji13)) = true := decide_eq_true c14
                    clear c14
                    by_cases c15 : (ji13) < (y101.length : Int)
                    · rw [if_pos c15] at H
                      have c15b0 : decide ((ji13) < (y101.length : Int)) = true := decide_eq_true c15
                      clear c15
                      replace H := Option.bind_eq_some_iff.mp H
                      obtain ⟨t109, A160, H⟩ := H
                      replace H : ((spec_l4Count.f a1 (rd y101 (ji7)) (rd y101 (ji13))).bind fun t110 => (if t109 > 0 then (if t110 > 0 then (if x6_1.length < 2932031007402 then (spec_l4Passes.l0 k1 a0 a1 y101 (x6_1 ++ [(⟨rd y101 x7_1, rd y101 (ji7), rd y101 (ji10), rd y101 (ji13), t109, t110⟩ : S58)]) (wrap64 (x7_1 + 4))) else (none)) else (spec_l4Passes.l0 k1 a0 a1 y101 x6_1 (wrap64 (x7_1 + 4)))) else (spec_l4Passes.l0 k1 a0 a1 y101 x6_1 (wrap64 (x7_1 + 4))))) = some r := H
                      have A16 := Aside0.mk A160
                      clear A160
                      replace H := Option.bind_eq_some_iff.mp H
                      obtain ⟨t110, A170, H⟩ := H
                      replace H : (if t109 > 0 then (if t110 > 0 then (if x6_1.length < 2932031007402 then (spec_l4Passes.l0 k1 a0 a1 y101 (x6_1 ++ [(⟨rd y101 x7_1, rd y101 (ji7), rd y101 (ji10), rd y101 (ji13), t109, t110⟩ : S58)]) (wrap64 (x7_1 + 4))) else (none)) else (spec_l4Passes.l0 k1 a0 a1 y101 x6_1 (wrap64 (x7_1 + 4)))) else (spec_l4Passes.l0 k1 a0 a1 y101 x6_1 (wrap64 (x7_1 + 4)))) = some r := H
                      have A17 := Aside0.mk A170
                      clear A170
                      have HH := Aside0.mk H
                      clear H
                      obtain ⟨Ao21, co21, eo21⟩ := Kd.R_slice HO_5.out
                      subst eo21
                      try go_wp2
                      have n0_ := Aside0.mk (Kd.R_drew HO_5.out)
                      have n1_ := Aside0.mk (Kd.R_drew HO_6.out)
                      have n2_ := Aside0.mk (below_drew1 HB.out)
                      clear HO_5
                      clear HO_6
                      clear HB
                      have HO_5 := n0_
                      have HO_6 := n1_
                      have HB := n2_
                      clear n0_ n1_ n2_
                      have p104 : 0 ≤ (x7_1 : Int) := of_decide_eq_true (by first | (with_reducible assumption) | assumption)
                      have q104 : x7_1 < (y101.length : Int) := of_decide_eq_true (by first | (with_reducible assumption) | assumption)
                      obtain ⟨ad104, e104, hx104_0⟩ := Kd.at_int (Kd.R_reads' HO_5.out).2.2 x7_1 p104 q104
                      cases e104
                      replace p104 := eq_true p104
                      replace q104 := eq_true q104
                      have p105 : 0 ≤ ((ji7) : Int) := of_decide_eq_true (by first | (with_reducible assumption) | assumption)
                      have q105 : (ji7) < (y101.length : Int) := of_decide_eq_true (by first | (with_reducible assumption) | assumption)
                      obtain ⟨ad105, e105, hx105_0⟩ := Kd.at_int (Kd.R_reads' HO_5.out).2.2 (ji7) p105 q105
                      obtain rfl : ad104 = ad105 := (by injection e105)
                      replace p105 := eq_true p105
                      replace q105 := eq_true q105
                      have p106 : 0 ≤ ((ji10) : Int) := of_decide_eq_true (by first | (with_reducible assumption) | assumption)
                      have q106 : (ji10) < (y101.length : Int) := of_decide_eq_true (by first | (with_reducible assumption) | assumption)
                      obtain ⟨ad106, e106, hx106_0⟩ := Kd.at_int (Kd.R_reads' HO_5.out).2.2 (ji10) p106 q106
                      obtain rfl : ad104 = ad106 := (by injection e106)
                      replace p106 := eq_true p106
                      replace q106 := eq_true q106
                      have p107 : 0 ≤ ((ji13) : Int) := of_decide_eq_true (by first | (with_reducible assumption) | assumption)
                      have q107 : (ji13) < (y101.length : Int) := of_decide_eq_true (by first | (with_reducible assumption) | assumption)
                      obtain ⟨ad107, e107, hx107_0⟩ := Kd.at_int (Kd.R_reads' HO_5.out).2.2 (ji13) p107 q107
                      obtain rfl : ad104 = ad107 := (by injection e107)
                      replace p107 := eq_true p107
                      replace q107 := eq_true q107
                      refine start_ (n := 22) (S := fun w' => w'.cell? (ad104.add (x7_1).toNat) = some (.int .i64 (rd y101 x7_1)) ∧ w'.cell? (ad104.add ((ji7)).toNat) = some (.int .i64 (rd y101 (ji7))) ∧ w'.cell? (ad104.add ((ji10)).toNat) = some (.int .i64 (rd y101 (ji10))) ∧ w'.cell? (ad104.add ((ji13)).toNat) = some (.int .i64 (rd y101 (ji13)))) (ds := []) #[false, false, false, false, false, false, false, false, false, false, false, false, false, false, false, false, false, false, false, false, false, false] (by kernel_rfl) rfl rfl ⟨hx104_0, hx105_0, hx106_0, hx107_0⟩ (fun hHeld => ?_); refine with_tabW spec_l4Passes.tab6 spec_l4Passes.bits6 (fun HT_ HW_ => ?_)
                      generalize wr.drew = w22 at HO_5 HO_6 HB hx104_0 hx105_0 hx106_0 hx107_0 hHeld ⊢
                      refine pure_ (i := 0) (N := some 16) (v := ?_) (a' := ?_) #[true, false, false, false, false, false, false, false, false, false, false, false, false, false, false, false, false, false, false, false, false, false] rfl rfl (any_of HT_.out (by kernel_rfl)) (fun _ _ _ h => h) (Or.inl ⟨by rfl, ?_⟩) ?_ ?_
                      rotate_left
                      · intro w'
                        go_simp
                        with_reducible rfl
                      rotate_left
                      · simp only [Act.put, List.setIfInBounds_toArray, List.set_cons_zero, List.set_cons_succ, i64_w, i32_w]
                        rfl
                      refine pure_ (i := 1) (N := some 17) (v := ?_) (a' := ?_) #[true, true, false, false, false, false, false, false, false, false, false, false, false, false, false, false, false, false, false, false, false, false] rfl rfl (any_of HT_.out (by kernel_rfl)) (fun _ _ _ h => h) (Or.inl ⟨by rfl, ?_⟩) ?_ ?_
                      rotate_left
                      · intro w'
                        go_simp
                        with_reducible rfl
                      rotate_left
                      · simp only [Act.put, List.setIfInBounds_toArray, List.set_cons_zero, List.set_cons_succ, i64_w, i32_w]
                        rfl
                      refine pure_ (i := 2) (N := some 18) (v := ?_) (a' := ?_) #[true, true, true, false, false, false, false, false, false, false, false, false, false, false, false, false, false, false, false, false, false, false] rfl rfl (any_of HT_.out (by kernel_rfl)) (fun _ _ _ h => h) (Or.inl ⟨by rfl, ?_⟩) ?_ ?_
                      rotate_left
                      · intro w'
                        go_simp
                        with_reducible rfl
                      rotate_left
                      · simp only [Act.put, List.setIfInBounds_toArray, List.set_cons_zero, List.set_cons_succ, i64_w, i32_w]
                        rfl
                      refine pure_ (i := 4) (N := some 20) (v := ?_) (a' := ?_) #[true, true, true, false, true, false, false, false, false, false, false, false, false, false, false, false, false, false, false, false, false, false] rfl rfl (any_of HT_.out (by kernel_rfl)) (fun _ _ _ h => h) (Or.inl ⟨by rfl, ?_⟩) ?_ ?_
                      rotate_left
                      · intro w'
                        go_simp
                        with_reducible rfl
                      rotate_left
                      · simp only [Act.put, List.setIfInBounds_toArray, List.set_cons_zero, List.set_cons_succ, i64_w, i32_w]
                        rfl
                      refine pure_ (i := 5) (N := some 21) (v := ?_) (a' := ?_) #[true, true, true, false, true, true, false, false, false, false, false, false, false, false, false, false, false, false, false, false, false, false] rfl rfl (any_of HT_.out (by kernel_rfl)) (fun _ _ _ h => h) (Or.inl ⟨by rfl, ?_⟩) ?_ ?_
                      rotate_left
                      · intro w'
                        go_simp
                        with_reducible rfl
                      rotate_left
                      · simp only [Act.put, List.setIfInBounds_toArray, List.set_cons_zero, List.set_cons_succ, i64_w, i32_w]
                        rfl
                      refine pure_ (i := 6) (N := some 22) (v := ?_) (a' := ?_) #[true, true, true, false, true, true, true, false, false, false, false, false, false, false, false, false, false, false, false, false, false, false] rfl rfl (any_of HT_.out (by kernel_rfl)) (fun _ _ _ h => h) (Or.inl ⟨by rfl, ?_⟩) ?_ ?_
                      rotate_left
                      · intro w'
                        go_simp
                        with_reducible rfl
                      rotate_left
                      · simp only [Act.put, List.setIfInBounds_toArray, List.set_cons_zero, List.set_cons_succ, i64_w, i32_w]
                        rfl
                      refine pure_ (i := 7) (N := some 23) (v := ?_) (a' := ?_) #[true, true, true, false, true, true, true, true, false, false, false, false, false, false, false, false, false, false, false, false, false, false] rfl rfl (any_of HT_.out (by kernel_rfl)) (fun _ _ _ h => h) (Or.inl ⟨by rfl, ?_⟩) ?_ ?_
                      rotate_left
                      · intro w'
                        go_simp
                        with_reducible rfl
                      rotate_left
                      · simp only [Act.put, List.setIfInBounds_toArray, List.set_cons_zero, List.set_cons_succ, i64_w, i32_w]
                        rfl
                      refine pure_ (i := 9) (N := some 25) (v := ?_) (a' := ?_) #[true, true, true, false, true, true, true, true, false, true, false, false, false, false, false, false, false, false, false, false, false, false] rfl rfl (any_of HT_.out (by kernel_rfl)) (fun _ _ _ h => h) (Or.inl ⟨by rfl, ?_⟩) ?_ ?_
                      rotate_left
                      · intro w'
                        go_simp
                        with_reducible rfl
                      rotate_left
                      · simp only [Act.put, List.setIfInBounds_toArray, List.set_cons_zero, List.set_cons_succ, i64_w, i32_w]
                        rfl
                      refine pure_ (i := 10) (N := some 26) (v := ?_) (a' := ?_) #[true, true, true, false, true, true, true, true, false, true, true, false, false, false, false, false, false, false, false, false, false, false] rfl rfl (any_of HT_.out (by kernel_rfl)) (fun _ _ _ h => h) (Or.inl ⟨by rfl, ?_⟩) ?_ ?_
                      rotate_left
                      · intro w'
                        go_simp
                        with_reducible rfl
                      rotate_left
                      · simp only [Act.put, List.setIfInBounds_toArray, List.set_cons_zero, List.set_cons_succ, i64_w, i32_w]
                        rfl
                      refine pure_ (i := 11) (N := some 27) (v := ?_) (a' := ?_) #[true, true, true, false, true, true, true, true, false, true, true, true, false, false, false, false, false, false, false, false, false, false] rfl rfl (any_of HT_.out (by kernel_rfl)) (fun _ _ _ h => h) (Or.inl ⟨by rfl, ?_⟩) ?_ ?_
                      rotate_left
                      · intro w'
                        go_simp
                        with_reducible rfl
                      rotate_left
                      · simp only [Act.put, List.setIfInBounds_toArray, List.set_cons_zero, List.set_cons_succ, i64_w, i32_w]
                        rfl
                      refine pure_ (i := 12) (N := some 28) (v := ?_) (a' := ?_) #[true, true, true, false, true, true, true, true, false, true, true, true, true, false, false, false, false, false, false, false, false, false] rfl rfl (any_of HT_.out (by kernel_rfl)) (fun _ _ _ h => h) (Or.inl ⟨by rfl, ?_⟩) ?_ ?_
                      rotate_left
                      · intro w'
                        go_simp
                        with_reducible rfl
                      rotate_left
                      · simp only [Act.put, List.setIfInBounds_toArray, List.set_cons_zero, List.set_cons_succ, i64_w, i32_w]
                        rfl
                      refine pure_ (i := 14) (N := some 30) (v := ?_) (a' := ?_) #[true, true, true, false, true, true, true, true, false, true, true, true, true, false, true, false, false, false, false, false, false, false] rfl rfl (any_of HT_.out (by kernel_rfl)) (fun _ _ _ h => h) (Or.inl ⟨by rfl, ?_⟩) ?_ ?_
                      rotate_left
                      · intro w'
                        go_simp
                        with_reducible rfl
                      rotate_left
                      · simp only [Act.put, List.setIfInBounds_toArray, List.set_cons_zero, List.set_cons_succ, i64_w, i32_w]
                        rfl
                      refine pure_ (i := 15) (N := some 31) (v := ?_) (a' := ?_) #[true, true, true, false, true, true, true, true, false, true, true, true, true, false, true, true, false, false, false, false, false, false] rfl rfl (any_of HT_.out (by kernel_rfl)) (fun _ _ _ h => h) (Or.inl ⟨by rfl, ?_⟩) ?_ ?_
                      rotate_left
                      · intro w'
                        go_simp
                        with_reducible rfl
                      rotate_left
                      · simp only [Act.put, List.setIfInBounds_toArray, List.set_cons_zero, List.set_cons_succ, i64_w, i32_w]
                        rfl
                      refine pure_ (i := 16) (N := some 32) (v := ?_) (a' := ?_) #[true, true, true, false, true, true, true, true, false, true, true, true, true, false, true, true, true, false, false, false, false, false] rfl rfl (any_of HT_.out (by kernel_rfl)) (fun _ _ _ h => h) (Or.inl ⟨by rfl, ?_⟩) ?_ ?_
                      rotate_left
                      · intro w'
                        go_simp
                        with_reducible rfl
                      rotate_left
                      · simp only [Act.put, List.setIfInBounds_toArray, List.set_cons_zero, List.set_cons_succ, i64_w, i32_w]
                        rfl
                      refine pure_ (i := 17) (N := some 33) (v := ?_) (a' := ?_) #[true, true, true, false, true, true, true, true, false, true, true, true, true, false, true, true, true, true, false, false, false, false] rfl rfl (any_of HT_.out (by kernel_rfl)) (fun _ _ _ h => h) (Or.inl ⟨by rfl, ?_⟩) ?_ ?_
                      rotate_left
                      · intro w'
                        go_simp
                        with_reducible rfl
                      rotate_left
                      · simp only [Act.put, List.setIfInBounds_toArray, List.set_cons_zero, List.set_cons_succ, i64_w, i32_w]
                        rfl
                      refine take_ (i := 3) (N := some 19) (v := ?_) (a' := ?_) #[true, true, true, true, true, true, true, true, false, true, true, true, true, false, true, true, true, true, false, false, false, false] rfl rfl (take_ofW HT_.out HW_.out (by kernel_rfl)) (fun _ _ _ h => h) (Or.inl ⟨by rfl, ?_⟩) hHeld ?_ ?_
                      rotate_left
                      · rintro w' ⟨s0, s1, s2, s3⟩
                        go_simp
                        with_reducible rfl
                      rotate_left
                      · simp only [Act.put, List.setIfInBounds_toArray, List.set_cons_zero, List.set_cons_succ, i64_w, i32_w]
                        rfl
                      refine take_ (i := 8) (N := some 24) (v := ?_) (a' := ?_) #[true, true, true, true, true, true, true, true, true, true, true, true, true, false, true, true, true, true, false, false, false, false] rfl rfl (take_ofW HT_.out HW_.out (by kernel_rfl)) (fun _ _ _ h => h) (Or.inl ⟨by rfl, ?_⟩) hHeld ?_ ?_
                      rotate_left
                      · rintro w' ⟨s0, s1, s2, s3⟩
                        go_simp
                        with_reducible rfl
                      rotate_left
                      · simp only [Act.put, List.setIfInBounds_toArray, List.set_cons_zero, List.set_cons_succ, i64_w, i32_w]
                        rfl
                      refine take_ (i := 13) (N := some 29) (v := ?_) (a' := ?_) #[true, true, true, true, true, true, true, true, true, true, true, true, true, true, true, true, true, true, false, false, false, false] rfl rfl (take_ofW HT_.out HW_.out (by kernel_rfl)) (fun _ _ _ h => h) (Or.inl ⟨by rfl, ?_⟩) hHeld ?_ ?_
                      rotate_left
                      · rintro w' ⟨s0, s1, s2, s3⟩
                        go_simp
                        with_reducible rfl
                      rotate_left
                      · simp only [Act.put, List.setIfInBounds_toArray, List.set_cons_zero, List.set_cons_succ, i64_w, i32_w]
                        rfl
                      refine take_ (i := 18) (N := some 34) (v := ?_) (a' := ?_) #[true, true, true, true, true, true, true, true, true, true, true, true, true, true, true, true, true, true, true, false, false, false] rfl rfl (take_ofW HT_.out HW_.out (by kernel_rfl)) (fun _ _ _ h => h) (Or.inl ⟨by rfl, ?_⟩) hHeld ?_ ?_
                      rotate_left
                      · rintro w' ⟨s0, s1, s2, s3⟩
                        go_simp
                        with_reducible rfl
                      rotate_left
                      · simp only [Act.put, List.setIfInBounds_toArray, List.set_cons_zero, List.set_cons_succ, i64_w, i32_w]
                        rfl
                      refine pure_ (i := 19) (N := some 35) (v := ?_) (a' := ?_) #[true, true, true, true, true, true, true, true, true, true, true, true, true, true, true, true, true, true, true, true, false, false] rfl rfl (any_of HT_.out (by kernel_rfl)) (fun _ _ _ h => h) (Or.inl ⟨by rfl, ?_⟩) ?_ ?_
                      rotate_left
                      · intro w'
                        go_simp
                        with_reducible rfl
                      rotate_left
                      · simp only [Act.put, List.setIfInBounds_toArray, List.set_cons_zero, List.set_cons_succ, i64_w, i32_w]
                        rfl
                      refine one_ (i := 20) (N := some 8) #[true, true, true, true, true, true, true, true, true, true, true, true, true, true, true, true, true, true, true, true, true, false] rfl rfl (one_of HT_.out (by kernel_rfl)) (by decide) (fun K hK => ?_)
                      refine box_step ?hg (N := 8) ?hd (cs := #[.int .i64 0, .int .i64 0, .int .i64 0, .int .i64 0, .int .i64 0, .int .i64 0]) (t := 58) ?hr ?_; (case hd => rfl); (case hg => rfl); (case hr => first | (go_simp; done) | (go_simp; rfl))
                      intro gb108 hg w23 hbox hb
                      have HS0_ := (hb.cell (World.block_lt_of_cell? _ _ (hHeld.1))).trans (hHeld.1)
                      have HS1_ := (hb.cell (World.block_lt_of_cell? _ _ (hHeld.2.1))).trans (hHeld.2.1)
                      have HS2_ := (hb.cell (World.block_lt_of_cell? _ _ (hHeld.2.2.1))).trans (hHeld.2.2.1)
                      have HS3_ := (hb.cell (World.block_lt_of_cell? _ _ (hHeld.2.2.2))).trans (hHeld.2.2.2)
                      have n0_ := Aside0.mk (Kd.R_below (by (with_reducible repeat (first | apply Kd.R_alloc | apply Kd.R_drewN | apply Kd.R_drew)); exact HO_5.out) hb)
                      have n1_ := Aside0.mk (Kd.R_below (Kd.R_elderB (by (with_reducible repeat (first | apply Kd.R_alloc | apply Kd.R_drewN | apply Kd.R_drew)); exact HO_6.out) gb108 (Nat.le_of_eq hg.symm)) hb)
                      have n2_ := Aside0.mk (below_step (by repeat (first | (with_reducible first | exact HB.out | apply below_alloc | apply pw_below_drewN | apply below_drew1) | exact HB.out)) hb)
                      have n3_ := Aside0.mk (hbox)
                      have n4_ := Aside0.mk ((by rw [hg]; exact (below_size (by repeat (first | (with_reducible first | exact HB.out | apply below_alloc | apply pw_below_drewN | apply below_drew1) | exact HB.out))) : w.heap.size ≤ gb108))
                      have n5_ := Aside0.mk ((by rw [hg]; exact (below_size (by repeat (first | (with_reducible first | exact HB.out | apply below_alloc | apply pw_below_drewN | apply below_drew1) | exact HB.out))) : w.heap.size ≤ gb108))
                      clear HO_5
                      clear HO_6
                      clear HB
                      have HO_5 := n0_
                      have HO_6 := n1_
                      have HB := n2_
                      have BK108 := n3_
                      have GW108 := n4_
                      have GE108 := n5_
                      clear n0_ n1_ n2_ n3_ n4_ n5_
                      clear hb hbox hg
                      refine hK.out _ _ ⟨HS0_, HS1_, HS2_, HS3_⟩ (fun hHeld => ?_)
                      clear hK K
                      refine norm_ (a' := ?_) ?_ ?_
                      rotate_left
                      · show Act.put _ (some 8) _ = _
                        simp only [Act.put, List.setIfInBounds_toArray, List.set_cons_zero, List.set_cons_succ, i64_w, i32_w]
                        rfl
                      refine one_ (i := 21) (N := none) #[true, true, true, true, true, true, true, true, true, true, true, true, true, true, true, true, true, true, true, true, true, true] rfl rfl (one_of HT_.out (by kernel_rfl)) (by decide) (fun K hK => ?_)
                      have hs24 : w23.cell? ⟨gb108, 0, none⟩ = some (.int .i64 0) := (blk_cell BK108.out 0).trans rfl
                      have hfs24 := blk_frozen BK108.out 0
                      have hs25 : w23.cell? ⟨gb108, 1, none⟩ = some (.int .i64 0) := (blk_cell BK108.out 1).trans rfl
                      have hfs25 := blk_frozen BK108.out 1
                      have hs26 : w23.cell? ⟨gb108, 2, none⟩ = some (.int .i64 0) := (blk_cell BK108.out 2).trans rfl
                      have hfs26 := blk_frozen BK108.out 2
                      have hs27 : w23.cell? ⟨gb108, 3, none⟩ = some (.int .i64 0) := (blk_cell BK108.out 3).trans rfl
                      have hfs27 := blk_frozen BK108.out 3
                      have hs28 : w23.cell? ⟨gb108, 4, none⟩ = some (.int .i64 0) := (blk_cell BK108.out 4).trans rfl
                      have hfs28 := blk_frozen BK108.out 4
                      have hs29 : w23.cell? ⟨gb108, 5, none⟩ = some (.int .i64 0) := (blk_cell BK108.out 5).trans rfl
                      have hfs29 := blk_frozen BK108.out 5
                      refine skip_ (w1 := ?_) (by rfl) rfl ?_ ?_
                      rotate_left
                      · go_simp
                        rfl
                      refine hK.out _ _ ⟨((cell_far (p := ⟨gb108, _, none⟩) (by first | exact Kd.own_blk (Kd.R_ne HO_5.out BK108.out (by decide)) | (rw [add_block]; exact Kd.own_blk (Kd.R_ne HO_5.out BK108.out (by decide))) | (show (Addr.add _ _).block ≠ _; rw [add_block]; exact Kd.own_blk (Kd.R_ne HO_5.out BK108.out (by decide))) | (dsimp only; exact Kd.own_blk (Kd.R_ne HO_5.out BK108.out (by decide)))) _).trans (((cell_far (p := ⟨gb108, _, none⟩) (by first | exact Kd.own_blk (Kd.R_ne HO_5.out BK108.out (by decide)) | (rw [add_block]; exact Kd.own_blk (Kd.R_ne HO_5.out BK108.out (by decide))) | (show (Addr.add _ _).block ≠ _; rw [add_block]; exact Kd.own_blk (Kd.R_ne HO_5.out BK108.out (by decide))) | (dsimp only; exact Kd.own_blk (Kd.R_ne HO_5.out BK108.out (by decide)))) _).trans (((cell_far (p := ⟨gb108, _, none⟩) (by first | exact Kd.own_blk (Kd.R_ne HO_5.out BK108.out (by decide)) | (rw [add_block]; exact Kd.own_blk (Kd.R_ne HO_5.out BK108.out (by decide))) | (show (Addr.add _ _).block ≠ _; rw [add_block]; exact Kd.own_blk (Kd.R_ne HO_5.out BK108.out (by decide))) | (dsimp only; exact Kd.own_blk (Kd.R_ne HO_5.out BK108.out (by decide)))) _).trans (((cell_far (p := ⟨gb108, _, none⟩) (by first | exact Kd.own_blk (Kd.R_ne HO_5.out BK108.out (by decide)) | (rw [add_block]; exact Kd.own_blk (Kd.R_ne HO_5.out BK108.out (by decide))) | (show (Addr.add _ _).block ≠ _; rw [add_block]; exact Kd.own_blk (Kd.R_ne HO_5.out BK108.out (by decide))) | (dsimp only; exact Kd.own_blk (Kd.R_ne HO_5.out BK108.out (by decide)))) _).trans (((cell_far (p := ⟨gb108, _, none⟩) (by first | exact Kd.own_blk (Kd.R_ne HO_5.out BK108.out (by decide)) | (rw [add_block]; exact Kd.own_blk (Kd.R_ne HO_5.out BK108.out (by decide))) | (show (Addr.add _ _).block ≠ _; rw [add_block]; exact Kd.own_blk (Kd.R_ne HO_5.out BK108.out (by decide))) | (dsimp only; exact Kd.own_blk (Kd.R_ne HO_5.out BK108.out (by decide)))) _).trans (((cell_far (p := ⟨gb108, _, none⟩) (by first | exact Kd.own_blk (Kd.R_ne HO_5.out BK108.out (by decide)) | (rw [add_block]; exact Kd.own_blk (Kd.R_ne HO_5.out BK108.out (by decide))) | (show (Addr.add _ _).block ≠ _; rw [add_block]; exact Kd.own_blk (Kd.R_ne HO_5.out BK108.out (by decide))) | (dsimp only; exact Kd.own_blk (Kd.R_ne HO_5.out BK108.out (by decide)))) _).trans (hHeld.1)))))))))))), ((cell_far (p := ⟨gb108, _, none⟩) (by first | exact Kd.own_blk (Kd.R_ne HO_5.out BK108.out (by decide)) | (rw [add_block]; exact Kd.own_blk (Kd.R_ne HO_5.out BK108.out (by decide))) | (show (Addr.add _ _).block ≠ _; rw [add_block]; exact Kd.own_blk (Kd.R_ne HO_5.out BK108.out (by decide))) | (dsimp only; exact Kd.own_blk (Kd.R_ne HO_5.out BK108.out (by decide)))) _).trans (((cell_far (p := ⟨gb108, _, none⟩) (by first | exact Kd.own_blk (Kd.R_ne HO_5.out BK108.out (by decide)) | (rw [add_block]; exact Kd.own_blk (Kd.R_ne HO_5.out BK108.out (by decide))) | (show (Addr.add _ _).block ≠ _; rw [add_block]; exact Kd.own_blk (Kd.R_ne HO_5.out BK108.out (by decide))) | (dsimp only; exact Kd.own_blk (Kd.R_ne HO_5.out BK108.out (by decide)))) _).trans (((cell_far (p := ⟨gb108, _, none⟩) (by first | exact Kd.own_blk (Kd.R_ne HO_5.out BK108.out (by decide)) | (rw [add_block]; exact Kd.own_blk (Kd.R_ne HO_5.out BK108.out (by decide))) | (show (Addr.add _ _).block ≠ _; rw [add_block]; exact Kd.own_blk (Kd.R_ne HO_5.out BK108.out (by decide))) | (dsimp only; exact Kd.own_blk (Kd.R_ne HO_5.out BK108.out (by decide)))) _).trans (((cell_far (p := ⟨gb108, _, none⟩) (by first | exact Kd.own_blk (Kd.R_ne HO_5.out BK108.out (by decide)) | (rw [add_block]; exact Kd.own_blk (Kd.R_ne HO_5.out BK108.out (by decide))) | (show (Addr.add _ _).block ≠ _; rw [add_block]; exact Kd.own_blk (Kd.R_ne HO_5.out BK108.out (by decide))) | (dsimp only; exact Kd.own_blk (Kd.R_ne HO_5.out BK108.out (by decide)))) _).trans (((cell_far (p := ⟨gb108, _, none⟩) (by first | exact Kd.own_blk (Kd.R_ne HO_5.out BK108.out (by decide)) | (rw [add_block]; exact Kd.own_blk (Kd.R_ne HO_5.out BK108.out (by decide))) | (show (Addr.add _ _).block ≠ _; rw [add_block]; exact Kd.own_blk (Kd.R_ne HO_5.out BK108.out (by decide))) | (dsimp only; exact Kd.own_blk (Kd.R_ne HO_5.out BK108.out (by decide)))) _).trans (((cell_far (p := ⟨gb108, _, none⟩) (by first | exact Kd.own_blk (Kd.R_ne HO_5.out BK108.out (by decide)) | (rw [add_block]; exact Kd.own_blk (Kd.R_ne HO_5.out BK108.out (by decide))) | (show (Addr.add _ _).block ≠ _; rw [add_block]; exact Kd.own_blk (Kd.R_ne HO_5.out BK108.out (by decide))) | (dsimp only; exact Kd.own_blk (Kd.R_ne HO_5.out BK108.out (by decide)))) _).trans (hHeld.2.1)))))))))))), ((cell_far (p := ⟨gb108, _, none⟩) (by first | exact Kd.own_blk (Kd.R_ne HO_5.out BK108.out (by decide)) | (rw [add_block]; exact Kd.own_blk (Kd.R_ne HO_5.out BK108.out (by decide))) | (show (Addr.add _ _).block ≠ _; rw [add_block]; exact Kd.own_blk (Kd.R_ne HO_5.out BK108.out (by decide))) | (dsimp only; exact Kd.own_blk (Kd.R_ne HO_5.out BK108.out (by decide)))) _).trans (((cell_far (p := ⟨gb108, _, none⟩) (by first | exact Kd.own_blk (Kd.R_ne HO_5.out BK108.out (by decide)) | (rw [add_block]; exact Kd.own_blk (Kd.R_ne HO_5.out BK108.out (by decide))) | (show (Addr.add _ _).block ≠ _; rw [add_block]; exact Kd.own_blk (Kd.R_ne HO_5.out BK108.out (by decide))) | (dsimp only; exact Kd.own_blk (Kd.R_ne HO_5.out BK108.out (by decide)))) _).trans (((cell_far (p := ⟨gb108, _, none⟩) (by first | exact Kd.own_blk (Kd.R_ne HO_5.out BK108.out (by decide)) | (rw [add_block]; exact Kd.own_blk (Kd.R_ne HO_5.out BK108.out (by decide))) | (show (Addr.add _ _).block ≠ _; rw [add_block]; exact Kd.own_blk (Kd.R_ne HO_5.out BK108.out (by decide))) | (dsimp only; exact Kd.own_blk (Kd.R_ne HO_5.out BK108.out (by decide)))) _).trans (((cell_far (p := ⟨gb108, _, none⟩) (by first | exact Kd.own_blk (Kd.R_ne HO_5.out BK108.out (by decide)) | (rw [add_block]; exact Kd.own_blk (Kd.R_ne HO_5.out BK108.out (by decide))) | (show (Addr.add _ _).block ≠ _; rw [add_block]; exact Kd.own_blk (Kd.R_ne HO_5.out BK108.out (by decide))) | (dsimp only; exact Kd.own_blk (Kd.R_ne HO_5.out BK108.out (by decide)))) _).trans (((cell_far (p := ⟨gb108, _, none⟩) (by first | exact Kd.own_blk (Kd.R_ne HO_5.out BK108.out (by decide)) | (rw [add_block]; exact Kd.own_blk (Kd.R_ne HO_5.out BK108.out (by decide))) | (show (Addr.add _ _).block ≠ _; rw [add_block]; exact Kd.own_blk (Kd.R_ne HO_5.out BK108.out (by decide))) | (dsimp only; exact Kd.own_blk (Kd.R_ne HO_5.out BK108.out (by decide)))) _).trans (((cell_far (p := ⟨gb108, _, none⟩) (by first | exact Kd.own_blk (Kd.R_ne HO_5.out BK108.out (by decide)) | (rw [add_block]; exact Kd.own_blk (Kd.R_ne HO_5.out BK108.out (by decide))) | (show (Addr.add _ _).block ≠ _; rw [add_block]; exact Kd.own_blk (Kd.R_ne HO_5.out BK108.out (by decide))) | (dsimp only; exact Kd.own_blk (Kd.R_ne HO_5.out BK108.out (by decide)))) _).trans (hHeld.2.2.1)))))))))))), ((cell_far (p := ⟨gb108, _, none⟩) (by first | exact Kd.own_blk (Kd.R_ne HO_5.out BK108.out (by decide)) | (rw [add_block]; exact Kd.own_blk (Kd.R_ne HO_5.out BK108.out (by decide))) | (show (Addr.add _ _).block ≠ _; rw [add_block]; exact Kd.own_blk (Kd.R_ne HO_5.out BK108.out (by decide))) | (dsimp only; exact Kd.own_blk (Kd.R_ne HO_5.out BK108.out (by decide)))) _).trans (((cell_far (p := ⟨gb108, _, none⟩) (by first | exact Kd.own_blk (Kd.R_ne HO_5.out BK108.out (by decide)) | (rw [add_block]; exact Kd.own_blk (Kd.R_ne HO_5.out BK108.out (by decide))) | (show (Addr.add _ _).block ≠ _; rw [add_block]; exact Kd.own_blk (Kd.R_ne HO_5.out BK108.out (by decide))) | (dsimp only; exact Kd.own_blk (Kd.R_ne HO_5.out BK108.out (by decide)))) _).trans (((cell_far (p := ⟨gb108, _, none⟩) (by first | exact Kd.own_blk (Kd.R_ne HO_5.out BK108.out (by decide)) | (rw [add_block]; exact Kd.own_blk (Kd.R_ne HO_5.out BK108.out (by decide))) | (show (Addr.add _ _).block ≠ _; rw [add_block]; exact Kd.own_blk (Kd.R_ne HO_5.out BK108.out (by decide))) | (dsimp only; exact Kd.own_blk (Kd.R_ne HO_5.out BK108.out (by decide)))) _).trans (((cell_far (p := ⟨gb108, _, none⟩) (by first | exact Kd.own_blk (Kd.R_ne HO_5.out BK108.out (by decide)) | (rw [add_block]; exact Kd.own_blk (Kd.R_ne HO_5.out BK108.out (by decide))) | (show (Addr.add _ _).block ≠ _; rw [add_block]; exact Kd.own_blk (Kd.R_ne HO_5.out BK108.out (by decide))) | (dsimp only; exact Kd.own_blk (Kd.R_ne HO_5.out BK108.out (by decide)))) _).trans (((cell_far (p := ⟨gb108, _, none⟩) (by first | exact Kd.own_blk (Kd.R_ne HO_5.out BK108.out (by decide)) | (rw [add_block]; exact Kd.own_blk (Kd.R_ne HO_5.out BK108.out (by decide))) | (show (Addr.add _ _).block ≠ _; rw [add_block]; exact Kd.own_blk (Kd.R_ne HO_5.out BK108.out (by decide))) | (dsimp only; exact Kd.own_blk (Kd.R_ne HO_5.out BK108.out (by decide)))) _).trans (((cell_far (p := ⟨gb108, _, none⟩) (by first | exact Kd.own_blk (Kd.R_ne HO_5.out BK108.out (by decide)) | (rw [add_block]; exact Kd.own_blk (Kd.R_ne HO_5.out BK108.out (by decide))) | (show (Addr.add _ _).block ≠ _; rw [add_block]; exact Kd.own_blk (Kd.R_ne HO_5.out BK108.out (by decide))) | (dsimp only; exact Kd.own_blk (Kd.R_ne HO_5.out BK108.out (by decide)))) _).trans (hHeld.2.2.2))))))))))))⟩ (fun hHeld => ?_)
                      clear hK K
                      refine done_ (done_of HT_.out (by kernel_rfl)) ?_
                      refine abs_w_ (S := fun x_ => (Kd.int .i64).R 3 x_ w.heap.size (fun k => True ∧ k ≠ gb108) (.slice (some ad104) y101.length co21) y101 ∧ k58.R 58 x_ w.heap.size (fun k => True ∧ k ≠ gb108) u6 x6_1 ∧ Below w.heap.size w x_ ∧ x_.heap[gb108]? = some (.cells #[.int .i64 (rd y101 x7_1), .int .i64 (rd y101 (ji7)), .int .i64 (rd y101 (ji10)), .int .i64 (rd y101 (ji13)), .int .i64 0, .int .i64 0] 58 (0, 0))) ?_ ?_
                      · exact ⟨by refine Kd.R_far (p := ⟨gb108, 5, none⟩) ?_ (fun _ hk => hk.2) _; refine Kd.R_far (p := ⟨gb108, 4, none⟩) ?_ (fun _ hk => hk.2) _; refine Kd.R_far (p := ⟨gb108, 3, none⟩) ?_ (fun _ hk => hk.2) _; refine Kd.R_far (p := ⟨gb108, 2, none⟩) ?_ (fun _ hk => hk.2) _; refine Kd.R_far (p := ⟨gb108, 1, none⟩) ?_ (fun _ hk => hk.2) _; refine Kd.R_far (p := ⟨gb108, 0, none⟩) ?_ (fun _ hk => hk.2) _; exact Kd.R_types HO_5.out BK108.out (by decide), by refine Kd.R_far (p := ⟨gb108, 5, none⟩) ?_ (fun _ hk => hk.2) _; refine Kd.R_far (p := ⟨gb108, 4, none⟩) ?_ (fun _ hk => hk.2) _; refine Kd.R_far (p := ⟨gb108, 3, none⟩) ?_ (fun _ hk => hk.2) _; refine Kd.R_far (p := ⟨gb108, 2, none⟩) ?_ (fun _ hk => hk.2) _; refine Kd.R_far (p := ⟨gb108, 1, none⟩) ?_ (fun _ hk => hk.2) _; refine Kd.R_far (p := ⟨gb108, 0, none⟩) ?_ (fun _ hk => hk.2) _; exact HO_6.out, by repeat (first | (with_reducible first | exact HB.out | refine below_set ?_ GE108.out) | exact HB.out), by refine blk_put (cs := #[.int .i64 (rd y101 x7_1), .int .i64 (rd y101 (ji7)), .int .i64 (rd y101 (ji10)), .int .i64 (rd y101 (ji13)), .int .i64 0, .int .i64 0]) ?_ 5 _ rfl; refine blk_put (cs := #[.int .i64 (rd y101 x7_1), .int .i64 (rd y101 (ji7)), .int .i64 (rd y101 (ji10)), .int .i64 (rd y101 (ji13)), .int .i64 0, .int .i64 0]) ?_ 4 _ rfl; refine blk_put (cs := #[.int .i64 (rd y101 x7_1), .int .i64 (rd y101 (ji7)), .int .i64 (rd y101 (ji10)), .int .i64 0, .int .i64 0, .int .i64 0]) ?_ 3 _ rfl; refine blk_put (cs := #[.int .i64 (rd y101 x7_1), .int .i64 (rd y101 (ji7)), .int .i64 0, .int .i64 0, .int .i64 0, .int .i64 0]) ?_ 2 _ rfl; refine blk_put (cs := #[.int .i64 (rd y101 x7_1), .int .i64 0, .int .i64 0, .int .i64 0, .int .i64 0, .int .i64 0]) ?_ 1 _ rfl; refine blk_put (cs := #[.int .i64 0, .int .i64 0, .int .i64 0, .int .i64 0, .int .i64 0, .int .i64 0]) ?_ 0 _ rfl; exact BK108.out⟩
                      clear hHeld HO_5 HO_6 HB BK108 HT_ HW_
                      try clear hs24 hs25 hs26 hs27 hs28 hs29 hfs24 hfs25 hfs26 hfs27 hfs28 hfs29
                      try clear HS0_ HS1_ HS2_ HS3_ hx104_0 hx105_0 hx106_0 hx107_0
                      intro W24 HS
                      have HO_5 := Aside0.mk HS.1
                      have HO_6 := Aside0.mk HS.2.1
                      have HB := Aside0.mk HS.2.2.1
                      have BK108 := Aside0.mk HS.2.2.2
                      clear HS
                      have hcz0 : W24.cell? ⟨gb108, 0, none⟩ = some (.int .i64 (rd y101 x7_1)) := (blk_cell BK108.out 0).trans rfl
                      have hcz1 : W24.cell? ⟨gb108, 1, none⟩ = some (.int .i64 (rd y101 (ji7))) := (blk_cell BK108.out 1).trans rfl
                      have hcz2 : W24.cell? ⟨gb108, 2, none⟩ = some (.int .i64 (rd y101 (ji10))) := (blk_cell BK108.out 2).trans rfl
                      have hcz3 : W24.cell? ⟨gb108, 3, none⟩ = some (.int .i64 (rd y101 (ji13))) := (blk_cell BK108.out 3).trans rfl
                      have hcz4 : W24.cell? ⟨gb108, 4, none⟩ = some (.int .i64 0) := (blk_cell BK108.out 4).trans rfl
                      have hcz5 : W24.cell? ⟨gb108, 5, none⟩ = some (.int .i64 0) := (blk_cell BK108.out 5).trans rfl
                      have hfz0 := blk_frozen BK108.out 0
                      have hfz1 := blk_frozen BK108.out 1
                      have hfz2 := blk_frozen BK108.out 2
                      have hfz3 := blk_frozen BK108.out 3
                      have hfz4 := blk_frozen BK108.out 4
                      have hfz5 := blk_frozen BK108.out 5
                      rename_i K6_ hK6 _x1 _x2
                      show K6_ _ _
                      refine hK6 _ _ ?_
                      refine wp_seq_k (fun K7 hK_ => ?_)
                      have hK7 := Aside0.mk hK_
                      clear hK_
                      go_wp2_with ((with_reducible refine gate_callee (f := 56) rfl ?_); refine goesL_ (some 41) rfl rfl Try.func56 (by kernel_rfl) rfl #[.int .i64 a0, .int .i64 (rd y101 x7_1), .int .i64 (rd y101 (ji10))] rfl (by (try simp only [List.map_toArray, List.map_cons, List.map_nil]); first | done | rfl) ?_; (with_reducible refine (spec_l4Count.calls a0 (rd y101 x7_1) (rd y101 (ji10)) t109 _ A16.out).mono ?_); rintro e w' ⟨rfl, ⟨nd, rfl⟩⟩; refine ⟨_, rfl, ?_⟩)
                      refine abs_w_ (K := K7 _) (S := fun x_ => (Kd.int .i64).R 3 x_ w.heap.size (fun k => True ∧ k ≠ gb108) (.slice (some ad104) y101.length co21) y101 ∧ k58.R 58 x_ w.heap.size (fun k => True ∧ k ≠ gb108) u6 x6_1 ∧ Below w.heap.size w x_ ∧ x_.heap[gb108]? = some (.cells #[.int .i64 (rd y101 x7_1), .int .i64 (rd y101 (ji7)), .int .i64 (rd y101 (ji10)), .int .i64 (rd y101 (ji13)), .int .i64 t109, .int .i64 0] 58 (0, 0))) ?_ ?_
                      · exact ⟨by refine Kd.R_far (p := ⟨gb108, 4, none⟩) ?_ (fun _ hk => hk.2) _; (with_reducible repeat (first | apply Kd.R_alloc | apply Kd.R_drewN | apply Kd.R_drew)); exact HO_5.out, by refine Kd.R_far (p := ⟨gb108, 4, none⟩) ?_ (fun _ hk => hk.2) _; (with_reducible repeat (first | apply Kd.R_alloc | apply Kd.R_drewN | apply Kd.R_drew)); exact HO_6.out, by repeat (first | (with_reducible first | exact HB.out | apply below_alloc | apply pw_below_drewN | apply below_drew1 | refine below_set ?_ GE108.out) | exact HB.out), by refine blk_put (cs := #[.int .i64 (rd y101 x7_1), .int .i64 (rd y101 (ji7)), .int .i64 (rd y101 (ji10)), .int .i64 (rd y101 (ji13)), .int .i64 0, .int .i64 0]) ?_ 4 _ rfl; (with_reducible repeat (first | refine blk_drewN ?_ _ | refine blk_drew ?_ | refine blk_alloc ?_ _)); exact BK108.out⟩
                      clear HO_5 HO_6 HB BK108 hcz0 hcz1 hcz2 hcz3 hcz4 hcz5 hfz0 hfz1 hfz2 hfz3 hfz4 hfz5
                      intro W25 HS
                      have HO_5 := Aside0.mk HS.1
                      have HO_6 := Aside0.mk HS.2.1
                      have HB := Aside0.mk HS.2.2.1
                      have BK108 := Aside0.mk HS.2.2.2
                      clear HS
                      have hcz0 : W25.cell? ⟨gb108, 0, none⟩ = some (.int .i64 (rd y101 x7_1)) := (blk_cell BK108.out 0).trans rfl
                      have hcz1 : W25.cell? ⟨gb108, 1, none⟩ = some (.int .i64 (rd y101 (ji7))) := (blk_cell BK108.out 1).trans rfl
                      have hcz2 : W25.cell? ⟨gb108, 2, none⟩ = some (.int .i64 (rd y101 (ji10))) := (blk_cell BK108.out 2).trans rfl
                      have hcz3 : W25.cell? ⟨gb108, 3, none⟩ = some (.int .i64 (rd y101 (ji13))) := (blk_cell BK108.out 3).trans rfl
                      have hcz4 : W25.cell? ⟨gb108, 4, none⟩ = some (.int .i64 t109) := (blk_cell BK108.out 4).trans rfl
                      have hcz5 : W25.cell? ⟨gb108, 5, none⟩ = some (.int .i64 0) := (blk_cell BK108.out 5).trans rfl
                      have hfz0 := blk_frozen BK108.out 0
                      have hfz1 := blk_frozen BK108.out 1
                      have hfz2 := blk_frozen BK108.out 2
                      have hfz3 := blk_frozen BK108.out 3
                      have hfz4 := blk_frozen BK108.out 4
                      have hfz5 := blk_frozen BK108.out 5
                      refine hK7.out _ _ ?_
                      refine wp_seq_k (fun K8 hK_ => ?_)
                      have hK8 := Aside0.mk hK_
                      clear hK_
                      go_wp2_with ((with_reducible refine gate_callee (f := 56) rfl ?_); refine goesL_ (some 48) rfl rfl Try.func56 (by kernel_rfl) rfl #[.int .i64 a1, .int .i64 (rd y101 (ji7)), .int .i64 (rd y101 (ji13))] rfl (by (try simp only [List.map_toArray, List.map_cons, List.map_nil]); first | done | rfl) ?_; (with_reducible refine (spec_l4Count.calls a1 (rd y101 (ji7)) (rd y101 (ji13)) t110 _ A17.out).mono ?_); rintro e w' ⟨rfl, ⟨nd, rfl⟩⟩; refine ⟨_, rfl, ?_⟩)
                      refine abs_w_ (K := K8 _) (S := fun x_ => (Kd.int .i64).R 3 x_ w.heap.size (fun k => True ∧ k ≠ gb108) (.slice (some ad104) y101.length co21) y101 ∧ k58.R 58 x_ w.heap.size (fun k => True ∧ k ≠ gb108) u6 x6_1 ∧ Below w.heap.size w x_ ∧ x_.heap[gb108]? = some (.cells #[.int .i64 (rd y101 x7_1), .int .i64 (rd y101 (ji7)), .int .i64 (rd y101 (ji10)), .int .i64 (rd y101 (ji13)), .int .i64 t109, .int .i64 t110] 58 (0, 0))) ?_ ?_
                      · exact ⟨by refine Kd.R_far (p := ⟨gb108, 5, none⟩) ?_ (fun _ hk => hk.2) _; (with_reducible repeat (first | apply Kd.R_alloc | apply Kd.R_drewN | apply Kd.R_drew)); exact HO_5.out, by refine Kd.R_far (p := ⟨gb108, 5, none⟩) ?_ (fun _ hk => hk.2) _; (with_reducible repeat (first | apply Kd.R_alloc | apply Kd.R_drewN | apply Kd.R_drew)); exact HO_6.out, by repeat (first | (with_reducible first | exact HB.out | apply below_alloc | apply pw_below_drewN | apply below_drew1 | refine below_set ?_ GE108.out) | exact HB.out), by refine blk_put (cs := #[.int .i64 (rd y101 x7_1), .int .i64 (rd y101 (ji7)), .int .i64 (rd y101 (ji10)), .int .i64 (rd y101 (ji13)), .int .i64 t109, .int .i64 0]) ?_ 5 _ rfl; (with_reducible repeat (first | refine blk_drewN ?_ _ | refine blk_drew ?_ | refine blk_alloc ?_ _)); exact BK108.out⟩
                      clear HO_5 HO_6 HB BK108 hcz0 hcz1 hcz2 hcz3 hcz4 hcz5 hfz0 hfz1 hfz2 hfz3 hfz4 hfz5
                      intro W26 HS
                      have HO_5 := Aside0.mk HS.1
                      have HO_6 := Aside0.mk HS.2.1
                      have HB := Aside0.mk HS.2.2.1
                      have BK108 := Aside0.mk HS.2.2.2
                      clear HS
                      have hcz0 : W26.cell? ⟨gb108, 0, none⟩ = some (.int .i64 (rd y101 x7_1)) := (blk_cell BK108.out 0).trans rfl
                      have hcz1 : W26.cell? ⟨gb108, 1, none⟩ = some (.int .i64 (rd y101 (ji7))) := (blk_cell BK108.out 1).trans rfl
                      have hcz2 : W26.cell? ⟨gb108, 2, none⟩ = some (.int .i64 (rd y101 (ji10))) := (blk_cell BK108.out 2).trans rfl
                      have hcz3 : W26.cell? ⟨gb108, 3, none⟩ = some (.int .i64 (rd y101 (ji13))) := (blk_cell BK108.out 3).trans rfl
                      have hcz4 : W26.cell? ⟨gb108, 4, none⟩ = some (.int .i64 t109) := (blk_cell BK108.out 4).trans rfl
                      have hcz5 : W26.cell? ⟨gb108, 5, none⟩ = some (.int .i64 t110) := (blk_cell BK108.out 5).trans rfl
                      have hfz0 := blk_frozen BK108.out 0
                      have hfz1 := blk_frozen BK108.out 1
                      have hfz2 := blk_frozen BK108.out 2
                      have hfz3 := blk_frozen BK108.out 3
                      have hfz4 := blk_frozen BK108.out 4
                      have hfz5 := blk_frozen BK108.out 5
                      have H := HH.out
                      clear HH
                      refine hK8.out _ _ ?_
                      by_cases c18 : t109 > 0
                      · rw [if_pos c18] at H
                        have c18b0 : decide (0 < t109) = true := decide_eq_true c18
                        clear c18
                        by_cases c19 : t110 > 0
                        · rw [if_pos c19] at H
                          have c19b0 : decide (0 < t110) = true := decide_eq_true c19
                          clear c19
                          by_cases c20 : x6_1.length < 2932031007402
                          · rw [if_pos c20] at H
                            have LMc20 := Aside0.mk c20
                            clear c20
                            have H' := Aside0.mk H
                            clear H
                            go_wp2_with ((with_reducible refine gate_builtin (b := .append) (xs := #[.tmp 58, .tmp 60]) rfl ?_); at_builtin; refine Kd.R_append k58 (w0 := w) w.heap.size rfl (.tmp 58) (.tmp 60) 34 58 (.agg #[(.int .i64 0), (.int .i64 0), (.int .i64 0), (.int .i64 0), (.int .i64 0), (.int .i64 0)]) 48 rfl Try.underlying34 info58 rfl (by decide) (by omega) u6 x6_1 (⟨rd y101 x7_1, rd y101 (ji7), rd y101 (ji10), rd y101 (ji13), t109, t110⟩ : S58) [.int .i64 (rd y101 x7_1), .int .i64 (rd y101 (ji7)), .int .i64 (rd y101 (ji10)), .int .i64 (rd y101 (ji13)), .int .i64 t109, .int .i64 t110] (fun k_ => True ∧ k_ ≠ gb108) (fun _ => False) rfl (by first | (go_simp; done) | (go_simp; rfl)) ?aP (fun _ hk => hk.elim) ?aF ?aO ?aB ?aS ?aL ?_; (case aP => exact k58_mkM _ _ _ (⟨rd y101 x7_1, rd y101 (ji7), rd y101 (ji10), rd y101 (ji13), t109, t110⟩ : S58)); (case aB => exact (by repeat (first | (with_reducible first | exact HB.out | apply below_alloc | apply pw_below_drewN | apply below_drew1 | refine below_set ?_ GE108.out) | exact HB.out))); (case aF => exact (fun k_ hk => ⟨trivial, Kd.freshB (g := gb108) (o := .cells #[.int .i64 (rd y101 x7_1), .int .i64 (rd y101 (ji7)), .int .i64 (rd y101 (ji10)), .int .i64 (rd y101 (ji13)), .int .i64 t109, .int .i64 t110] 58 (0, 0)) (by (with_reducible repeat (first | refine blk_drewN ?_ _ | refine blk_drew ?_ | refine blk_alloc ?_ _)); exact BK108.out) k_ hk⟩)); (case aO => exact (by (with_reducible repeat (first | apply Kd.R_alloc | apply Kd.R_drewN | apply Kd.R_drew)); exact HO_6.out)); (case aS => exact (below_size (by repeat (first | (with_reducible first | exact HB.out | apply below_alloc | apply pw_below_drewN | apply below_drew1 | refine below_set ?_ GE108.out) | exact HB.out)))); (case aL => have := LMc20.out; omega); intro v112 w31 ho hb hg hat; have n0_ := Aside0.mk (Kd.R_over' (by (with_reducible repeat (first | apply Kd.R_alloc | apply Kd.R_drewN | apply Kd.R_drew)); exact HO_5.out) (Kd.R_typed (by (with_reducible repeat (first | apply Kd.R_alloc | apply Kd.R_drewN | apply Kd.R_drew)); exact HO_6.out)) (by decide) hg); have n2_ := Aside0.mk hb; have n3_ := Aside0.mk ho; clear HO_5 HO_6 HB BK108 hcz0 hcz1 hcz2 hcz3 hcz4 hcz5 hfz0 hfz1 hfz2 hfz3 hfz4 hfz5; have HO_5 := n0_; have HB := n2_; have HO113 := n3_; clear n0_ n2_ n3_; clear ho hb hg hat)
                            go_roundg k1
                            case measure => have := HK1.out; omega
                            case rel => exact ⟨_, _, (by first | rfl | (simp; done) | (simp [*]; done)), H', ⟨by have := HK1.out; omega⟩, ⟨by (with_reducible repeat (first | apply Kd.R_alloc | apply Kd.R_drewN | apply Kd.R_drew)); exact Kd.R_mono HO_5.out (fun _ hk => trivial)⟩, ⟨by (with_reducible repeat (first | apply Kd.R_alloc | apply Kd.R_drewN | apply Kd.R_drew)); exact Kd.R_mono HO113.out (fun _ hk => trivial)⟩, ⟨by repeat (first | (with_reducible first | exact HB.out | apply below_alloc | apply pw_below_drewN | apply below_drew1) | exact HB.out)⟩⟩
                          · rw [if_neg c20] at H
                            exact absurd H (by simp)
                        · rw [if_neg c19] at H
                          have c19b0 : decide (0 < t110) = false := decide_eq_false c19
                          clear c19
                          have H' := Aside0.mk H
                          clear H
                          go_wp2
                          go_roundg k1
                          case measure => have := HK1.out; omega
                          case rel => exact ⟨_, _, (by first | rfl | (simp; done) | (simp [*]; done)), H', ⟨by have := HK1.out; omega⟩, ⟨by (with_reducible repeat (first | apply Kd.R_alloc | apply Kd.R_drewN | apply Kd.R_drew)); exact Kd.R_mono HO_5.out (fun _ hk => trivial)⟩, ⟨by (with_reducible repeat (first | apply Kd.R_alloc | apply Kd.R_drewN | apply Kd.R_drew)); exact Kd.R_mono HO_6.out (fun _ hk => trivial)⟩, ⟨by repeat (first | (with_reducible first | exact HB.out | apply below_alloc | apply pw_below_drewN | apply below_drew1) | exact HB.out)⟩⟩
                      · rw [if_neg c18] at H
                        have c18b0 : decide (0 < t109) = false := decide_eq_false c18
                        clear c18
                        have H' := Aside0.mk H
                        clear H
                        go_wp2
                        go_roundg k1
                        case measure => have := HK1.out; omega
                        case rel => exact ⟨_, _, (by first | rfl | (simp; done) | (simp [*]; done)), H', ⟨by have := HK1.out; omega⟩, ⟨by (with_reducible repeat (first | apply Kd.R_alloc | apply Kd.R_drewN | apply Kd.R_drew)); exact Kd.R_mono HO_5.out (fun _ hk => trivial)⟩, ⟨by (with_reducible repeat (first | apply Kd.R_alloc | apply Kd.R_drewN | apply Kd.R_drew)); exact Kd.R_mono HO_6.out (fun _ hk => trivial)⟩, ⟨by repeat (first | (with_reducible first | exact HB.out | apply below_alloc | apply pw_below_drewN | apply below_drew1) | exact HB.out)⟩⟩
                    · rw [if_neg c15] at H
                      exact absurd H (by simp)
                  · rw [if_neg c14] at H
                    exact absurd H (by simp)
                · rw [if_neg c12] at H
                  exact absurd H (by simp)
              · rw [if_neg c11] at H
                exact absurd H (by simp)
            · rw [if_neg c9] at H
              exact absurd H (by simp)
          · rw [if_neg c8] at H
            exact absurd H (by simp)
        · rw [if_neg c6] at H
          exact absurd H (by simp)
      · rw [if_neg c5] at H
        have c5b0 : decide (x7_1 < (y101.length : Int)) = false := decide_eq_false c5
        clear c5
        obtain rfl := Option.some.inj H
        obtain ⟨Ao52, co52, eo52⟩ := Kd.R_slice HO_5.out
        subst eo52
        go_wp2
        go_ret
        exact ⟨_, by first | rfl | (simp [errW_none, errW_some] <;> rfl) | (simp [*, errW_none, errW_some] <;> rfl), by (with_reducible repeat (first | apply Kd.R_alloc | apply Kd.R_drewN | apply Kd.R_drew)); exact HO_6.out, by repeat (first | (with_reducible first | exact HB.out | apply below_alloc | apply pw_below_drewN | apply below_drew1) | exact HB.out)⟩

end Go.Proofs.Ytkhpcclddkddmaa.PFnExactPasses
