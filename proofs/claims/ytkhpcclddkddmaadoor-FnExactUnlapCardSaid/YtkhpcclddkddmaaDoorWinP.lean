/- The contracts of the reference's table and of what it reads there, printed by the kit's print for this seat. -/
import Derived.Test.YtkhpcclddkddmaaDoorPFnExactWindowx0
namespace Go.Proofs.YtkhpcclddkddmaaDoor.PFnExactWindow
open Go.RowKit Go.Proofs.YtkhpcclddkddmaaDoorW.PrintWords Go.Proofs.YtkhpcclddkddmaaDoorW.PrintLast Go.Proofs.YtkhpcclddkddmaaDoorW.PrintMore
attribute [local go_sem] max2_int min2_int max_two min_two max_three min_three max_four min_four
set_option linter.unusedVariables false
set_option linter.unusedSimpArgs false
/-! ### spec_l11Table: function 29 -/
def spec_l11Table.f  : Option (List Int) := some (([16384, 16364, 16305, 16207, 16069, 15893, 15679, 15426, 15137, 14811, 14449, 14053, 13623, 13160, 12665, 12140, 11585, 11003, 10394, 9760, 9102, 8423, 7723, 7005, 6270, 5520, 4756, 3981, 3196, 2404, 1606, 804, 0] : List Int))
set_option maxHeartbeats 8000000 in
set_option maxRecDepth 100000 in
theorem spec_l11Table.calls  (r : List Int) (w : World) (h : spec_l11Table.f  = some r) :
    Calls Tryd.prog 29 #[] w fun e w' => ∃ v0_ : Value, e = .returned (v0_) ∧ Kd.R (Kd.int .i64) 3 w' w.heap.size (fun _ => True) v0_ r ∧ Below w.heap.size w w' := by
  have HB := Aside0.mk (Below.refl w.heap.size w)
  have H : (some (([16384, 16364, 16305, 16207, 16069, 15893, 15679, 15426, 15137, 14811, 14449, 14053, 13623, 13160, 12665, 12140, 11585, 11003, 10394, 9760, 9102, 8423, 7723, 7005, 6270, 5520, 4756, 3981, 3196, 2404, 1606, 804, 0] : List Int))) = some r := h
  clear h
  obtain ⟨y105, hy105⟩ : ∃ y_ : List Int, y_ = (([16384, 16364, 16305, 16207, 16069, 15893, 15679, 15426, 15137, 14811, 14449, 14053, 13623, 13160, 12665, 12140, 11585, 11003, 10394, 9760, 9102, 8423, 7723, 7005, 6270, 5520, 4756, 3981, 3196, 2404, 1606, 804, 0] : List Int)) := ⟨_, rfl⟩
  replace H : (some y105) = some r := by first | (rw [hy105]; with_reducible exact H) | (have H2_ := (Option.bind_some _ _).symm.trans H; rw [hy105]; with_reducible exact H2_) | (have H2_ := (Option.bind_some _ _).symm.trans H; with_reducible exact H2_) | with_reducible exact H | (rw [hy105]; exact H) | exact H
  have Ny105 := Aside0.mk hy105
  clear hy105
  obtain rfl := Option.some.inj H
  go_enter Tryd.func29, Tryd.ntmps29
  go_wp2_with (first | ((with_reducible refine gate_dst (N := 1) rfl ?_); refine Kd.R_lit (Kd.int .i64) _ 3 ?hg (N := 1) ?hd (xs := ([16384, 16364, 16305, 16207, 16069, 15893, 15679, 15426, 15137, 14811, 14449, 14053, 13623, 13160, 12665, 12140, 11585, 11003, 10394, 9760, 9102, 8423, 7723, 7005, 6270, 5520, 4756, 3981, 3196, 2404, 1606, 804, 0] : List Int)) (inner := [.int .i64 16384, .int .i64 16364, .int .i64 16305, .int .i64 16207, .int .i64 16069, .int .i64 15893, .int .i64 15679, .int .i64 15426, .int .i64 15137, .int .i64 14811, .int .i64 14449, .int .i64 14053, .int .i64 13623, .int .i64 13160, .int .i64 12665, .int .i64 12140, .int .i64 11585, .int .i64 11003, .int .i64 10394, .int .i64 9760, .int .i64 9102, .int .i64 8423, .int .i64 7723, .int .i64 7005, .int .i64 6270, .int .i64 5520, .int .i64 4756, .int .i64 3981, .int .i64 3196, .int .i64 2404, .int .i64 1606, .int .i64 804, .int .i64 0]) (ok := fun _ => True) (okp := fun _ => True) ?hr ?hp (fun _ hk => hk) trivial (Below.refl _ _) (Nat.le_refl _) (by simp) ?_; (case hd => rfl); (case hg => rfl); (case hr => first | (go_simp; done) | (go_simp; rfl)); (case hp => exact (Reps.one (show Kd.M (Kd.int .i64) _ _ _ 16384 [.int .i64 16384] from rfl) (Reps.one (show Kd.M (Kd.int .i64) _ _ _ 16364 [.int .i64 16364] from rfl) (Reps.one (show Kd.M (Kd.int .i64) _ _ _ 16305 [.int .i64 16305] from rfl) (Reps.one (show Kd.M (Kd.int .i64) _ _ _ 16207 [.int .i64 16207] from rfl) (Reps.one (show Kd.M (Kd.int .i64) _ _ _ 16069 [.int .i64 16069] from rfl) (Reps.one (show Kd.M (Kd.int .i64) _ _ _ 15893 [.int .i64 15893] from rfl) (Reps.one (show Kd.M (Kd.int .i64) _ _ _ 15679 [.int .i64 15679] from rfl) (Reps.one (show Kd.M (Kd.int .i64) _ _ _ 15426 [.int .i64 15426] from rfl) (Reps.one (show Kd.M (Kd.int .i64) _ _ _ 15137 [.int .i64 15137] from rfl) (Reps.one (show Kd.M (Kd.int .i64) _ _ _ 14811 [.int .i64 14811] from rfl) (Reps.one (show Kd.M (Kd.int .i64) _ _ _ 14449 [.int .i64 14449] from rfl) (Reps.one (show Kd.M (Kd.int .i64) _ _ _ 14053 [.int .i64 14053] from rfl) (Reps.one (show Kd.M (Kd.int .i64) _ _ _ 13623 [.int .i64 13623] from rfl) (Reps.one (show Kd.M (Kd.int .i64) _ _ _ 13160 [.int .i64 13160] from rfl) (Reps.one (show Kd.M (Kd.int .i64) _ _ _ 12665 [.int .i64 12665] from rfl) (Reps.one (show Kd.M (Kd.int .i64) _ _ _ 12140 [.int .i64 12140] from rfl) (Reps.one (show Kd.M (Kd.int .i64) _ _ _ 11585 [.int .i64 11585] from rfl) (Reps.one (show Kd.M (Kd.int .i64) _ _ _ 11003 [.int .i64 11003] from rfl) (Reps.one (show Kd.M (Kd.int .i64) _ _ _ 10394 [.int .i64 10394] from rfl) (Reps.one (show Kd.M (Kd.int .i64) _ _ _ 9760 [.int .i64 9760] from rfl) (Reps.one (show Kd.M (Kd.int .i64) _ _ _ 9102 [.int .i64 9102] from rfl) (Reps.one (show Kd.M (Kd.int .i64) _ _ _ 8423 [.int .i64 8423] from rfl) (Reps.one (show Kd.M (Kd.int .i64) _ _ _ 7723 [.int .i64 7723] from rfl) (Reps.one (show Kd.M (Kd.int .i64) _ _ _ 7005 [.int .i64 7005] from rfl) (Reps.one (show Kd.M (Kd.int .i64) _ _ _ 6270 [.int .i64 6270] from rfl) (Reps.one (show Kd.M (Kd.int .i64) _ _ _ 5520 [.int .i64 5520] from rfl) (Reps.one (show Kd.M (Kd.int .i64) _ _ _ 4756 [.int .i64 4756] from rfl) (Reps.one (show Kd.M (Kd.int .i64) _ _ _ 3981 [.int .i64 3981] from rfl) (Reps.one (show Kd.M (Kd.int .i64) _ _ _ 3196 [.int .i64 3196] from rfl) (Reps.one (show Kd.M (Kd.int .i64) _ _ _ 2404 [.int .i64 2404] from rfl) (Reps.one (show Kd.M (Kd.int .i64) _ _ _ 1606 [.int .i64 1606] from rfl) (Reps.one (show Kd.M (Kd.int .i64) _ _ _ 804 [.int .i64 804] from rfl) (Reps.one (show Kd.M (Kd.int .i64) _ _ _ 0 [.int .i64 0] from rfl) (Reps.none _ _))))))))))))))))))))))))))))))))))); intro v106 w1 ho2 hb hg_ hnew_; clear hg_ hnew_; (first | rw [← Ny105.out] at ho2 | (simp only [Int.reduceToNat] at ho2; rw [← Ny105.out] at ho2)); have n0_ := Aside0.mk (Kd.R_lower ho2 (below_size (by repeat (first | (with_reducible first | exact HB.out | apply below_alloc | apply pw_below_drewN | apply below_drew1) | exact HB.out)))); have n1_ := Aside0.mk (below_step (by repeat (first | (with_reducible first | exact HB.out | apply below_alloc | apply pw_below_drewN | apply below_drew1) | exact HB.out)) hb); clear HB; have HO107 := n0_; have HB := n1_; clear n0_ n1_; clear hb ho2))
  go_ret
  exact ⟨_, by first | rfl | (simp [errW_none, errW_some] <;> rfl) | (simp [*, errW_none, errW_some] <;> rfl), by (with_reducible repeat (first | apply Kd.R_alloc | apply Kd.R_drewN | apply Kd.R_drew)); exact HO107.out, by repeat (first | (with_reducible first | exact HB.out | apply below_alloc | apply pw_below_drewN | apply below_drew1) | exact HB.out)⟩

/-! ### spec_l11C: function 30 -/
def spec_l11C.f (l0 : List Int) (a1 : Int) : Option (Int) := if (Go.bits .and .i64 a1 127) ≤ 32 then (if 0 ≤ (Go.bits .and .i64 a1 127) then (if (Go.bits .and .i64 a1 127) < (l0.length : Int) then (some (rd l0 (Go.bits .and .i64 a1 127))) else (none)) else (none)) else (if (Go.bits .and .i64 a1 127) ≤ 64 then (if 0 ≤ (wrap64 (64 - (Go.bits .and .i64 a1 127))) then (if (wrap64 (64 - (Go.bits .and .i64 a1 127))) < (l0.length : Int) then (some (wrap64 (-(rd l0 (wrap64 (64 - (Go.bits .and .i64 a1 127))))))) else (none)) else (none)) else (if (Go.bits .and .i64 a1 127) ≤ 96 then (if 0 ≤ (wrap64 ((Go.bits .and .i64 a1 127) - 64)) then (if (wrap64 ((Go.bits .and .i64 a1 127) - 64)) < (l0.length : Int) then (some (wrap64 (-(rd l0 (wrap64 ((Go.bits .and .i64 a1 127) - 64)))))) else (none)) else (none)) else (if 0 ≤ (wrap64 (128 - (Go.bits .and .i64 a1 127))) then (if (wrap64 (128 - (Go.bits .and .i64 a1 127))) < (l0.length : Int) then (some (rd l0 (wrap64 (128 - (Go.bits .and .i64 a1 127))))) else (none)) else (none))))
set_option maxHeartbeats 8000000 in
set_option maxRecDepth 100000 in
theorem spec_l11C.calls (A0 : Option Addr) (c0 : Nat) (l0 : List Int) (a1 : Int) (r : Int) (w : World) (hr0 : Kd.C (Kd.int .i64) w A0 l0.length l0) (hc0 : l0.length ≤ c0) (h : spec_l11C.f l0 a1 = some r) :
    Calls Tryd.prog 30 #[.slice A0 l0.length c0, .int .i64 a1] w fun e w' => e = .returned (.int .i64 r) ∧ Drawn0 w w' := by
  have HR0 := Aside0.mk hr0
  have HC0 := Aside0.mk hc0
  clear hr0 hc0
  have H : (if (Go.bits .and .i64 a1 127) ≤ 32 then (if 0 ≤ (Go.bits .and .i64 a1 127) then (if (Go.bits .and .i64 a1 127) < (l0.length : Int) then (some (rd l0 (Go.bits .and .i64 a1 127))) else (none)) else (none)) else (if (Go.bits .and .i64 a1 127) ≤ 64 then (if 0 ≤ (wrap64 (64 - (Go.bits .and .i64 a1 127))) then (if (wrap64 (64 - (Go.bits .and .i64 a1 127))) < (l0.length : Int) then (some (wrap64 (-(rd l0 (wrap64 (64 - (Go.bits .and .i64 a1 127))))))) else (none)) else (none)) else (if (Go.bits .and .i64 a1 127) ≤ 96 then (if 0 ≤ (wrap64 ((Go.bits .and .i64 a1 127) - 64)) then (if (wrap64 ((Go.bits .and .i64 a1 127) - 64)) < (l0.length : Int) then (some (wrap64 (-(rd l0 (wrap64 ((Go.bits .and .i64 a1 127) - 64)))))) else (none)) else (none)) else (if 0 ≤ (wrap64 (128 - (Go.bits .and .i64 a1 127))) then (if (wrap64 (128 - (Go.bits .and .i64 a1 127))) < (l0.length : Int) then (some (rd l0 (wrap64 (128 - (Go.bits .and .i64 a1 127))))) else (none)) else (none))))) = some r := h
  clear h
  by_cases c3 : (Go.bits .and .i64 a1 127) ≤ 32
  · rw [if_pos c3] at H
    have c3b0 : decide ((Go.bits .and .i64 a1 127) ≤ 32) = true := decide_eq_true c3
    clear c3
    by_cases c4 : 0 ≤ (Go.bits .and .i64 a1 127)
    · rw [if_pos c4] at H
      have c4b0 : decide (0 ≤ (Go.bits .and .i64 a1 127)) = true := decide_eq_true c4
      clear c4
      by_cases c5 : (Go.bits .and .i64 a1 127) < (l0.length : Int)
      · rw [if_pos c5] at H
        have c5b0 : decide ((Go.bits .and .i64 a1 127) < (l0.length : Int)) = true := decide_eq_true c5
        clear c5
        obtain rfl := Option.some.inj H
        have p108 : 0 ≤ ((Go.bits .and .i64 a1 127) : Int) := of_decide_eq_true (by first | (with_reducible assumption) | assumption)
        have q108 : (Go.bits .and .i64 a1 127) < (l0.length : Int) := of_decide_eq_true (by first | (with_reducible assumption) | assumption)
        obtain ⟨ad108, e108, hx108_0⟩ := Kd.at_int HR0.out (Go.bits .and .i64 a1 127) p108 q108
        cases e108
        replace p108 := eq_true p108
        replace q108 := eq_true q108
        go_enter Tryd.func30, Tryd.ntmps30
        go_wp2
        go_ret
        exact ⟨by first | rfl | (simp; done) | (simp [*]; done), by repeat (first | exact Drawn0.refl _ | apply Drawn0.step)⟩
      · rw [if_neg c5] at H
        exact absurd H (by simp)
    · rw [if_neg c4] at H
      exact absurd H (by simp)
  · rw [if_neg c3] at H
    have c3b0 : decide ((Go.bits .and .i64 a1 127) ≤ 32) = false := decide_eq_false c3
    clear c3
    by_cases c6 : (Go.bits .and .i64 a1 127) ≤ 64
    · rw [if_pos c6] at H
      have c6b0 : decide ((Go.bits .and .i64 a1 127) ≤ 64) = true := decide_eq_true c6
      clear c6
      obtain ⟨ji7, hji7⟩ : ∃ j_ : Int, (wrap64 (64 - (Go.bits .and .i64 a1 127))) = j_ := ⟨_, rfl⟩
      replace H : (if 0 ≤ (ji7) then (if (ji7) < (l0.length : Int) then (some (wrap64 (-(rd l0 (ji7))))) else (none)) else (none)) = some r := by first | (rw [hji7] at H; exact H) | (simp only [hji7] at H ⊢; exact H)
      have hji7w : (IntKind.i64.wrap (64 - (Go.bits .and .i64 a1 127))) = ji7 := (i64_w _).trans hji7
      by_cases c8 : 0 ≤ (ji7)
      · rw [if_pos c8] at H
        have c8b0 : decide (0 ≤ (ji7)) = true := decide_eq_true c8
        clear c8
        by_cases c9 : (ji7) < (l0.length : Int)
        · rw [if_pos c9] at H
          have c9b0 : decide ((ji7) < (l0.length : Int)) = true := decide_eq_true c9
          clear c9
          obtain rfl := Option.some.inj H
          have p109 : 0 ≤ ((ji7) : Int) := of_decide_eq_true (by first | (with_reducible assumption) | assumption)
          have q109 : (ji7) < (l0.length : Int) := of_decide_eq_true (by first | (with_reducible assumption) | assumption)
          obtain ⟨ad109, e109, hx109_0⟩ := Kd.at_int HR0.out (ji7) p109 q109
          cases e109
          replace p109 := eq_true p109
          replace q109 := eq_true q109
          go_enter Tryd.func30, Tryd.ntmps30
          go_wp2
          go_ret
          exact ⟨by first | rfl | (simp; done) | (simp only [← hji7] <;> (first | rfl | simp)) | (simp [*]; done), by repeat (first | exact Drawn0.refl _ | apply Drawn0.step)⟩
        · rw [if_neg c9] at H
          exact absurd H (by simp)
      · rw [if_neg c8] at H
        exact absurd H (by simp)
    · rw [if_neg c6] at H
      have c6b0 : decide ((Go.bits .and .i64 a1 127) ≤ 64) = false := decide_eq_false c6
      clear c6
      by_cases c10 : (Go.bits .and .i64 a1 127) ≤ 96
      · rw [if_pos c10] at H
        have c10b0 : decide ((Go.bits .and .i64 a1 127) ≤ 96) = true := decide_eq_true c10
        clear c10
        obtain ⟨ji11, hji11⟩ : ∃ j_ : Int, (wrap64 ((Go.bits .and .i64 a1 127) - 64)) = j_ := ⟨_, rfl⟩
        replace H : (if 0 ≤ (ji11) then (if (ji11) < (l0.length : Int) then (some (wrap64 (-(rd l0 (ji11))))) else (none)) else (none)) = some r := by first | (rw [hji11] at H; exact H) | (simp only [hji11] at H ⊢; exact H)
        have hji11w : (IntKind.i64.wrap ((Go.bits .and .i64 a1 127) - 64)) = ji11 := (i64_w _).trans hji11
        by_cases c12 : 0 ≤ (ji11)
        · rw [if_pos c12] at H
          have c12b0 : decide (0 ≤ (ji11)) = true := decide_eq_true c12
          clear c12
          by_cases c13 : (ji11) < (l0.length : Int)
          · rw [if_pos c13] at H
            have c13b0 : decide ((ji11) < (l0.length : Int)) = true := decide_eq_true c13
            clear c13
            obtain rfl := Option.some.inj H
            have p110 : 0 ≤ ((ji11) : Int) := of_decide_eq_true (by first | (with_reducible assumption) | assumption)
            have q110 : (ji11) < (l0.length : Int) := of_decide_eq_true (by first | (with_reducible assumption) | assumption)
            obtain ⟨ad110, e110, hx110_0⟩ := Kd.at_int HR0.out (ji11) p110 q110
            cases e110
            replace p110 := eq_true p110
            replace q110 := eq_true q110
            go_enter Tryd.func30, Tryd.ntmps30
            go_wp2
            go_ret
            exact ⟨by first | rfl | (simp; done) | (simp only [← hji11] <;> (first | rfl | simp)) | (simp [*]; done), by repeat (first | exact Drawn0.refl _ | apply Drawn0.step)⟩
          · rw [if_neg c13] at H
            exact absurd H (by simp)
        · rw [if_neg c12] at H
          exact absurd H (by simp)
      · rw [if_neg c10] at H
        have c10b0 : decide ((Go.bits .and .i64 a1 127) ≤ 96) = false := decide_eq_false c10
        clear c10
        obtain ⟨ji14, hji14⟩ : ∃ j_ : Int, (wrap64 (128 - (Go.bits .and .i64 a1 127))) = j_ := ⟨_, rfl⟩
        replace H : (if 0 ≤ (ji14) then (if (ji14) < (l0.length : Int) then (some (rd l0 (ji14))) else (none)) else (none)) = some r := by first | (rw [hji14] at H; exact H) | (simp only [hji14] at H ⊢; exact H)
        have hji14w : (IntKind.i64.wrap (128 - (Go.bits .and .i64 a1 127))) = ji14 := (i64_w _).trans hji14
        by_cases c15 : 0 ≤ (ji14)
        · rw [if_pos c15] at H
          have c15b0 : decide (0 ≤ (ji14)) = true := decide_eq_true c15
          clear c15
          by_cases c16 : (ji14) < (l0.length : Int)
          · rw [if_pos c16] at H
            have c16b0 : decide ((ji14) < (l0.length : Int)) = true := decide_eq_true c16
            clear c16
            obtain rfl := Option.some.inj H
            have p111 : 0 ≤ ((ji14) : Int) := of_decide_eq_true (by first | (with_reducible assumption) | assumption)
            have q111 : (ji14) < (l0.length : Int) := of_decide_eq_true (by first | (with_reducible assumption) | assumption)
            obtain ⟨ad111, e111, hx111_0⟩ := Kd.at_int HR0.out (ji14) p111 q111
            cases e111
            replace p111 := eq_true p111
            replace q111 := eq_true q111
            go_enter Tryd.func30, Tryd.ntmps30
            go_wp2
            go_ret
            exact ⟨by first | rfl | (simp; done) | (simp only [← hji14] <;> (first | rfl | simp)) | (simp [*]; done), by repeat (first | exact Drawn0.refl _ | apply Drawn0.step)⟩
          · rw [if_neg c16] at H
            exact absurd H (by simp)
        · rw [if_neg c15] at H
          exact absurd H (by simp)

end Go.Proofs.YtkhpcclddkddmaaDoor.PFnExactWindow
