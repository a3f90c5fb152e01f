/- A walk of this seat's own: a law returns true for all arguments. -/
import Derived.Test.YtkhpcclddkddmaaWkUnf
namespace Go.Proofs.Ytkhpcclddkddmaa.Wk
open Go.RowKit Go.Proofs.YtkhpcclddkddmaaW.PrintWords Go.Proofs.YtkhpcclddkddmaaW.PrintLast Go.Proofs.YtkhpcclddkddmaaW.PrintMore Go.Proofs.Ytkhpcclddkddmaa.My
set_option linter.unusedVariables false
set_option linter.unusedSimpArgs false
attribute [local congr] bind_left ite_left
set_option maxHeartbeats 8000000 in
theorem law_LawUnf (a0 : Int) (a1 : Int) (A2 : Option Addr) (c2 : Nat) (l2 : List Int) (A3 : Option Addr) (c3 : Nat) (l3 : List Int) (hm2 : l2.length ≤ maxLen) (hw2 : ∀ x ∈ l2, (Lit.int .u8 x).wf = true) (hm3 : l3.length ≤ maxLen) (hw3 : ∀ x ∈ l3, (Lit.int .u8 x).wf = true) (w : World) (hc2 : l2.length ≤ c2) (hr2 : Kd.C (Kd.int .u8) w A2 l2.length l2) (hc3 : l3.length ≤ c3) (hr3 : Kd.C (Kd.int .u8) w A3 l3.length l3) :
    Calls Try.prog 4 #[.int .i64 a0, .int .i64 a1, .slice A2 l2.length c2, .slice A3 l3.length c3] w fun e w' => e = .returned (.bool true) ∧ Below w.heap.size w w' := by
  by_cases h2 : 1048576 < l2.length
  · go_enter Try.func4, Try.ntmps4
    go_wp2
    go_ret
    exact ⟨rfl, Below.refl _ _⟩
  have hl2 : l2.length ≤ 1048576 := by omega
  by_cases h3 : 1048576 < l3.length
  · go_enter Try.func4, Try.ntmps4
    go_wp2
    go_ret
    exact ⟨rfl, Below.refl _ _⟩
  have hl3 : l3.length ≤ 1048576 := by omega
  obtain ⟨G, hG⟩ : ∃ G, G = unfiltL a0 a1 l2 l3 := ⟨_, rfl⟩
  have gl : G.length ≤ 1048576 := by rw [hG]; exact unfiltL_length a0 a1 l2 l3
  have HG := Aside0.mk hG
  have HR2 := Aside0.mk hr2
  have HW2 := Aside0.mk hw2
  have HR3 := Aside0.mk hr3
  have HW3 := Aside0.mk hw3
  clear hG hr2 hw2 hm2 h2 hr3 hw3 hm3 h3
  have B0 := Aside0.mk (Below.refl w.heap.size w)
  go_enter Try.func4, Try.ntmps4
  go_wp2_with fail
  refine (toB_calls A2 c2 l2 _ hl2 hc2 (Kd.C_below HR2.out B0.out)).mono ?_
  rintro e w1 ⟨v1, rfl, ho, hb⟩
  obtain ⟨A'1, c'1, rfl⟩ := Kd.R_slice ho
  have S1 := Aside0.mk (R_span ho)
  have B1 := Aside0.mk (below_step B0.out hb)
  have z1 := Aside0.mk (size_le hb)
  clear ho hb B0
  go_wp2_with fail
  refine (toB_calls A3 c3 l3 _ hl3 hc3 (Kd.C_below HR3.out B1.out)).mono ?_
  rintro e w2 ⟨v2, rfl, ho, hb⟩
  obtain ⟨A'2, c'2, rfl⟩ := Kd.R_slice ho
  have S2 := Aside0.mk (R_span ho)
  have S22 := Aside0.mk (Kd.R_below S1.out hb)
  have B2 := Aside0.mk (below_step B1.out hb)
  have z2 := Aside0.mk (size_le hb)
  clear ho hb S1 B1
  go_wp2_with fail
  refine (unfilt_spec a0 a1 A'1 c'1 l2 A'2 c'2 l3 hl2 HW2.out hl3 HW3.out _ (R_cells S22.out).2.1 (R_cells S22.out).2.2 (R_cells S2.out).2.1 (R_cells S2.out).2.2).mono ?_
  rintro e w3 ⟨v3, rfl, ho, hb⟩
  rw [← HG.out] at ho
  obtain ⟨A'3, c'3, rfl⟩ := Kd.R_slice ho
  have S3 := Aside0.mk (R_span ho)
  have S23 := Aside0.mk (Kd.R_below S22.out hb)
  have S33 := Aside0.mk (Kd.R_below S2.out hb)
  have B3 := Aside0.mk (below_step B2.out hb)
  have z3 := Aside0.mk (size_le hb)
  clear ho hb S22 S2 B2
  clear S23
  clear S33
  go_wp2_with fail
  refine (toB_calls A2 c2 l2 _ hl2 hc2 (Kd.C_below HR2.out B3.out)).mono ?_
  rintro e w4 ⟨v4, rfl, ho, hb⟩
  obtain ⟨A'4, c'4, rfl⟩ := Kd.R_slice ho
  have S4 := Aside0.mk (R_span ho)
  have W4 := Aside0.mk (Kd.R_below S3.out hb)
  have B4 := Aside0.mk (below_step B3.out hb)
  have z4 := Aside0.mk (size_le hb)
  clear ho hb S3 B3
  go_wp2_with fail
  refine (toB_calls A3 c3 l3 _ hl3 hc3 (Kd.C_below HR3.out B4.out)).mono ?_
  rintro e w5 ⟨v5, rfl, ho, hb⟩
  obtain ⟨A'5, c'5, rfl⟩ := Kd.R_slice ho
  have S5 := Aside0.mk (R_span ho)
  have W5 := Aside0.mk (Kd.R_below W4.out hb)
  have X25 := Aside0.mk (Kd.R_below S4.out hb)
  have B5 := Aside0.mk (below_step B4.out hb)
  have z5 := Aside0.mk (size_le hb)
  clear ho hb W4 S4 B4
  go_wp2_with fail
  refine (unfilt_impl a0 a1 A'4 c'4 l2 A'5 c'5 l3 hl2 HW2.out hl3 HW3.out _ (R_cells X25.out).2.1 (R_cells X25.out).2.2 (R_cells S5.out).2.1 (R_cells S5.out).2.2).mono ?_
  rintro e w6 ⟨v6, rfl, ho, hb⟩
  rw [← HG.out] at ho
  obtain ⟨A'6, c'6, rfl⟩ := Kd.R_slice ho
  have S6 := Aside0.mk (R_span ho)
  have W6 := Aside0.mk (Kd.R_below W5.out hb)
  have X26 := Aside0.mk (Kd.R_below X25.out hb)
  have X36 := Aside0.mk (Kd.R_below S5.out hb)
  have B6 := Aside0.mk (below_step B5.out hb)
  have z6 := Aside0.mk (size_le hb)
  clear ho hb W5 X25 S5 B5
  go_wp2_with fail
  refine (eqB_calls A'6 A'3 c'6 c'3 G _ (by omega) (R_cells S6.out).2.2 (R_cells W6.out).2.2).mono ?_
  rintro e w7 ⟨rfl, ⟨n7, rfl⟩⟩
  go_wp2_with fail
  refine (toB_calls A2 c2 l2 _ hl2 hc2 (Kd.C_below HR2.out (pw_below_drewN B6.out n7))).mono ?_
  rintro e w8 ⟨v8, rfl, ho, hb⟩
  obtain ⟨A'8, c'8, rfl⟩ := Kd.R_slice ho
  have S8 := Aside0.mk (R_span ho)
  have W8 := Aside0.mk (Kd.R_below (Kd.R_drewN W6.out n7) hb)
  have X28 := Aside0.mk (Kd.R_below (Kd.R_drewN X26.out n7) hb)
  have X38 := Aside0.mk (Kd.R_below (Kd.R_drewN X36.out n7) hb)
  have G8 := Aside0.mk (Kd.R_below (Kd.R_drewN S6.out n7) hb)
  have B8 := Aside0.mk (below_step (pw_below_drewN B6.out n7) hb)
  have z8 := Aside0.mk (size_le hb)
  clear ho hb W6 X26 X36 S6 B6
  go_wp2_with fail
  refine (eqB_calls A'4 A'8 c'4 c'8 l2 _ (by omega) (R_cells X28.out).2.2 (R_cells S8.out).2.2).mono ?_
  rintro e w9 ⟨rfl, ⟨n9, rfl⟩⟩
  clear S8
  go_wp2_with fail
  refine (toB_calls A3 c3 l3 _ hl3 hc3 (Kd.C_below HR3.out (pw_below_drewN B8.out n9))).mono ?_
  rintro e w10 ⟨v10, rfl, ho, hb⟩
  obtain ⟨A'10, c'10, rfl⟩ := Kd.R_slice ho
  have S10 := Aside0.mk (R_span ho)
  have W10 := Aside0.mk (Kd.R_below (Kd.R_drewN W8.out n9) hb)
  have X210 := Aside0.mk (Kd.R_below (Kd.R_drewN X28.out n9) hb)
  have X310 := Aside0.mk (Kd.R_below (Kd.R_drewN X38.out n9) hb)
  have G10 := Aside0.mk (Kd.R_below (Kd.R_drewN G8.out n9) hb)
  have B10 := Aside0.mk (below_step (pw_below_drewN B8.out n9) hb)
  have z10 := Aside0.mk (size_le hb)
  clear ho hb W8 X28 X38 G8 B8
  go_wp2_with fail
  refine (eqB_calls A'5 A'10 c'5 c'10 l3 _ (by omega) (R_cells X310.out).2.2 (R_cells S10.out).2.2).mono ?_
  rintro e w11 ⟨rfl, ⟨n11, rfl⟩⟩
  clear S10
  go_wp2_with fail
  refine (markB_calls w3.heap.size (fun k => w3.heap.size ≤ k ∧ k < w4.heap.size) A'4 c'4 l2 (1) w _ (by omega) (by omega) (by omega) (Kd.R_drewN X210.out n11) (pw_below_drewN B10.out n11) (fun k h => by have := z1.out; have := z2.out; have := z3.out; have := z4.out; have := z5.out; have := z6.out; have := z8.out; have := z10.out; omega)).mono ?_
  rintro e w12 ⟨rfl, ho, hk, hb⟩
  have W12 := Aside0.mk (Kd.R_kept (Kd.R_drewN W10.out n11) hk (fun k h => by have := z1.out; have := z2.out; have := z3.out; have := z4.out; have := z5.out; have := z6.out; have := z8.out; have := z10.out; omega))
  have X212 := Aside0.mk ho
  have X312 := Aside0.mk (Kd.R_kept (Kd.R_drewN X310.out n11) hk (fun k h => by have := z1.out; have := z2.out; have := z3.out; have := z4.out; have := z5.out; have := z6.out; have := z8.out; have := z10.out; omega))
  have G12 := Aside0.mk (Kd.R_kept (Kd.R_drewN G10.out n11) hk (fun k h => by have := z1.out; have := z2.out; have := z3.out; have := z4.out; have := z5.out; have := z6.out; have := z8.out; have := z10.out; omega))
  have B12 := Aside0.mk hb
  clear ho hb hk W10 X210 X310 G10 B10
  go_wp2_with fail
  refine (markB_calls w4.heap.size (fun k => w4.heap.size ≤ k ∧ k < w5.heap.size) A'5 c'5 l3 (1 + (l2.length : Int)) w _ (by omega) (by omega) (by omega) X312.out B12.out (fun k h => by have := z1.out; have := z2.out; have := z3.out; have := z4.out; have := z5.out; have := z6.out; have := z8.out; have := z10.out; omega)).mono ?_
  rintro e w13 ⟨rfl, ho, hk, hb⟩
  have W13 := Aside0.mk (Kd.R_kept W12.out hk (fun k h => by have := z1.out; have := z2.out; have := z3.out; have := z4.out; have := z5.out; have := z6.out; have := z8.out; have := z10.out; omega))
  have X213 := Aside0.mk (Kd.R_kept X212.out hk (fun k h => by have := z1.out; have := z2.out; have := z3.out; have := z4.out; have := z5.out; have := z6.out; have := z8.out; have := z10.out; omega))
  have X313 := Aside0.mk ho
  have G13 := Aside0.mk (Kd.R_kept G12.out hk (fun k h => by have := z1.out; have := z2.out; have := z3.out; have := z4.out; have := z5.out; have := z6.out; have := z8.out; have := z10.out; omega))
  have B13 := Aside0.mk hb
  clear ho hb hk W12 X212 X312 G12 B12
  clear X213
  clear X313
  go_wp2_with fail
  refine (eqB_calls A'6 A'3 c'6 c'3 G _ (by omega) (R_cells G13.out).2.2 (R_cells W13.out).2.2).mono ?_
  rintro e w14 ⟨rfl, ⟨n14, rfl⟩⟩
  go_wp2_with fail
  refine (markB_calls w5.heap.size (fun k => w5.heap.size ≤ k ∧ k < w6.heap.size) A'6 c'6 G (1) w _ (by omega) (by omega) (by omega) (Kd.R_drewN G13.out n14) (pw_below_drewN B13.out n14) (fun k h => by have := z1.out; have := z2.out; have := z3.out; have := z4.out; have := z5.out; have := z6.out; have := z8.out; have := z10.out; omega)).mono ?_
  rintro e w15 ⟨rfl, ho, hk, hb⟩
  have W15 := Aside0.mk (Kd.R_kept (Kd.R_drewN W13.out n14) hk (fun k h => by have := z1.out; have := z2.out; have := z3.out; have := z4.out; have := z5.out; have := z6.out; have := z8.out; have := z10.out; omega))
  have G15 := Aside0.mk ho
  have B15 := Aside0.mk hb
  clear ho hb hk W13 G13 B13
  go_wp2_with fail
  refine (heldB_calls A'6 c'6 G.length 1 (by decide) (by decide) (by omega) _ (by have := (R_cells G15.out).2.2; rwa [upB_length] at this)).mono ?_
  rintro e w16 ⟨rfl, ⟨n16, rfl⟩⟩
  go_wp2_with fail
  refine (toB_calls A2 c2 l2 _ hl2 hc2 (Kd.C_below HR2.out (pw_below_drewN B15.out n16))).mono ?_
  rintro e w17 ⟨v17, rfl, ho, hb⟩
  obtain ⟨A'17, c'17, rfl⟩ := Kd.R_slice ho
  have S17 := Aside0.mk (R_span ho)
  have W17 := Aside0.mk (Kd.R_below (Kd.R_drewN W15.out n16) hb)
  have G17 := Aside0.mk (Kd.R_below (Kd.R_drewN G15.out n16) hb)
  have B17 := Aside0.mk (below_step (pw_below_drewN B15.out n16) hb)
  have z17 := Aside0.mk (size_le hb)
  clear ho hb W15 G15 B15
  go_wp2_with fail
  refine (toB_calls A3 c3 l3 _ hl3 hc3 (Kd.C_below HR3.out B17.out)).mono ?_
  rintro e w18 ⟨v18, rfl, ho, hb⟩
  obtain ⟨A'18, c'18, rfl⟩ := Kd.R_slice ho
  have S18 := Aside0.mk (R_span ho)
  have W18 := Aside0.mk (Kd.R_below W17.out hb)
  have G18 := Aside0.mk (Kd.R_below G17.out hb)
  have U218 := Aside0.mk (Kd.R_below S17.out hb)
  have B18 := Aside0.mk (below_step B17.out hb)
  have z18 := Aside0.mk (size_le hb)
  clear ho hb W17 G17 S17 B17
  go_wp2_with fail
  refine (unfilt_impl a0 a1 A'17 c'17 l2 A'18 c'18 l3 hl2 HW2.out hl3 HW3.out _ (R_cells U218.out).2.1 (R_cells U218.out).2.2 (R_cells S18.out).2.1 (R_cells S18.out).2.2).mono ?_
  rintro e w19 ⟨v19, rfl, ho, hb⟩
  rw [← HG.out] at ho
  obtain ⟨A'19, c'19, rfl⟩ := Kd.R_slice ho
  have S19 := Aside0.mk (R_span ho)
  have W19 := Aside0.mk (Kd.R_below W18.out hb)
  have G19 := Aside0.mk (Kd.R_below G18.out hb)
  have U219 := Aside0.mk (Kd.R_below U218.out hb)
  have U319 := Aside0.mk (Kd.R_below S18.out hb)
  have B19 := Aside0.mk (below_step B18.out hb)
  have z19 := Aside0.mk (size_le hb)
  clear ho hb W18 G18 U218 S18 B18
  clear U219
  clear U319
  go_wp2_with fail
  refine (eqB_calls A'19 A'3 c'19 c'3 G _ (by omega) (R_cells S19.out).2.2 (R_cells W19.out).2.2).mono ?_
  rintro e w20 ⟨rfl, ⟨n20, rfl⟩⟩
  clear S19
  go_wp2_with fail
  refine (heldB_calls A'6 c'6 G.length 1 (by decide) (by decide) (by omega) _ (by have := (R_cells (Kd.R_drewN G19.out n20)).2.2; rwa [upB_length] at this)).mono ?_
  rintro e w21 ⟨rfl, ⟨n21, rfl⟩⟩
  go_wp2_with fail
  go_ret
  exact ⟨rfl, (pw_below_drewN B19.out (n20 + n21))⟩
end Go.Proofs.Ytkhpcclddkddmaa.Wk
