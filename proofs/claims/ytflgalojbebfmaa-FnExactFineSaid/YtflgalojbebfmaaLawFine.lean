/- A walk of this seat's own: a law returns true for all arguments. -/
import Derived.Test.YtflgalojbebfmaaWkFine
namespace Go.Proofs.Ytflgalojbebfmaa.Wk
open Go.RowKit Go.Proofs.YtflgalojbebfmaaW.PrintWords Go.Proofs.YtflgalojbebfmaaW.PrintLast Go.Proofs.YtflgalojbebfmaaW.PrintMore Go.Proofs.Ytflgalojbebfmaa.My
set_option linter.unusedVariables false
set_option linter.unusedSimpArgs false
attribute [local congr] bind_left ite_left
set_option maxHeartbeats 8000000 in
theorem law_fine (A0 : Option Addr) (c0 : Nat) (l0 : List Int) (A1 : Option Addr) (c1 : Nat) (l1 : List Int) (hm0 : l0.length ≤ maxLen) (hw0 : ∀ x ∈ l0, (Lit.int .i64 x).wf = true) (hm1 : l1.length ≤ maxLen) (hw1 : ∀ x ∈ l1, (Lit.int .i64 x).wf = true) (w : World) (hc0 : l0.length ≤ c0) (hr0 : Kd.C (Kd.int .i64) w A0 l0.length l0) (hc1 : l1.length ≤ c1) (hr1 : Kd.C (Kd.int .i64) w A1 l1.length l1) :
    Calls Try.prog 6 #[.slice A0 l0.length c0, .slice A1 l1.length c1] w fun e w' => e = .returned (.bool true) ∧ Below w.heap.size w w' := by
  by_cases h0 : 1048576 < l0.length
  · go_enter Try.func6, Try.ntmps6
    go_wp2
    go_ret
    exact ⟨rfl, Below.refl _ _⟩
  have hl0 : l0.length ≤ 1048576 := by omega
  by_cases h1 : 1048576 < l1.length
  · go_enter Try.func6, Try.ntmps6
    go_wp2
    go_ret
    exact ⟨rfl, Below.refl _ _⟩
  have hl1 : l1.length ≤ 1048576 := by omega
  obtain ⟨G, hG⟩ : ∃ G, G = fineL l0 l1 := ⟨_, rfl⟩
  have gl : G.length ≤ 1048576 := by rw [hG]; exact fineL_length l0 l1
  have HG := Aside0.mk hG
  have HR0 := Aside0.mk hr0
  have HW0 := Aside0.mk hw0
  have HR1 := Aside0.mk hr1
  have HW1 := Aside0.mk hw1
  clear hG hr0 hw0 hm0 h0 hr1 hw1 hm1 h1
  have B0 := Aside0.mk (Below.refl w.heap.size w)
  go_enter Try.func6, Try.ntmps6
  go_wp2_with fail
  refine (toI_calls A0 c0 l0 _ hl0 hc0 (Kd.C_below HR0.out B0.out)).mono ?_
  rintro e w1 ⟨v1, rfl, ho, hb⟩
  obtain ⟨A'1, c'1, rfl⟩ := Kd.R_slice ho
  have S1 := Aside0.mk (R_span ho)
  have B1 := Aside0.mk (below_step B0.out hb)
  have z1 := Aside0.mk (size_le hb)
  clear ho hb B0
  go_wp2_with fail
  refine (toI_calls A1 c1 l1 _ hl1 hc1 (Kd.C_below HR1.out B1.out)).mono ?_
  rintro e w2 ⟨v2, rfl, ho, hb⟩
  obtain ⟨A'2, c'2, rfl⟩ := Kd.R_slice ho
  have S2 := Aside0.mk (R_span ho)
  have S02 := Aside0.mk (Kd.R_below S1.out hb)
  have B2 := Aside0.mk (below_step B1.out hb)
  have z2 := Aside0.mk (size_le hb)
  clear ho hb S1 B1
  go_wp2_with fail
  refine (fine_spec A'1 c'1 l0 A'2 c'2 l1 hl0 HW0.out hl1 HW1.out _ (R_cells S02.out).2.1 (R_cells S02.out).2.2 (R_cells S2.out).2.1 (R_cells S2.out).2.2).mono ?_
  rintro e w3 ⟨v3, rfl, ho, hb⟩
  rw [← HG.out] at ho
  obtain ⟨A'3, c'3, rfl⟩ := Kd.R_slice ho
  have S3 := Aside0.mk (R_span ho)
  have S03 := Aside0.mk (Kd.R_below S02.out hb)
  have S13 := Aside0.mk (Kd.R_below S2.out hb)
  have B3 := Aside0.mk (below_step B2.out hb)
  have z3 := Aside0.mk (size_le hb)
  clear ho hb S02 S2 B2
  clear S03
  clear S13
  go_wp2_with fail
  refine (toI_calls A0 c0 l0 _ hl0 hc0 (Kd.C_below HR0.out B3.out)).mono ?_
  rintro e w4 ⟨v4, rfl, ho, hb⟩
  obtain ⟨A'4, c'4, rfl⟩ := Kd.R_slice ho
  have S4 := Aside0.mk (R_span ho)
  have W4 := Aside0.mk (Kd.R_below S3.out hb)
  have B4 := Aside0.mk (below_step B3.out hb)
  have z4 := Aside0.mk (size_le hb)
  clear ho hb S3 B3
  go_wp2_with fail
  refine (toI_calls A1 c1 l1 _ hl1 hc1 (Kd.C_below HR1.out B4.out)).mono ?_
  rintro e w5 ⟨v5, rfl, ho, hb⟩
  obtain ⟨A'5, c'5, rfl⟩ := Kd.R_slice ho
  have S5 := Aside0.mk (R_span ho)
  have W5 := Aside0.mk (Kd.R_below W4.out hb)
  have X05 := Aside0.mk (Kd.R_below S4.out hb)
  have B5 := Aside0.mk (below_step B4.out hb)
  have z5 := Aside0.mk (size_le hb)
  clear ho hb W4 S4 B4
  go_wp2_with fail
  refine (fine_impl A'4 c'4 l0 A'5 c'5 l1 hl0 HW0.out hl1 HW1.out _ (R_cells X05.out).2.1 (R_cells X05.out).2.2 (R_cells S5.out).2.1 (R_cells S5.out).2.2).mono ?_
  rintro e w6 ⟨v6, rfl, ho, hb⟩
  rw [← HG.out] at ho
  obtain ⟨A'6, c'6, rfl⟩ := Kd.R_slice ho
  have S6 := Aside0.mk (R_span ho)
  have W6 := Aside0.mk (Kd.R_below W5.out hb)
  have X06 := Aside0.mk (Kd.R_below X05.out hb)
  have X16 := Aside0.mk (Kd.R_below S5.out hb)
  have B6 := Aside0.mk (below_step B5.out hb)
  have z6 := Aside0.mk (size_le hb)
  clear ho hb W5 X05 S5 B5
  go_wp2_with fail
  refine (eqI_calls A'6 A'3 c'6 c'3 G _ (by omega) (R_cells S6.out).2.2 (R_cells W6.out).2.2).mono ?_
  rintro e w7 ⟨rfl, ⟨n7, rfl⟩⟩
  go_wp2_with fail
  refine (toI_calls A0 c0 l0 _ hl0 hc0 (Kd.C_below HR0.out (pw_below_drewN B6.out n7))).mono ?_
  rintro e w8 ⟨v8, rfl, ho, hb⟩
  obtain ⟨A'8, c'8, rfl⟩ := Kd.R_slice ho
  have S8 := Aside0.mk (R_span ho)
  have W8 := Aside0.mk (Kd.R_below (Kd.R_drewN W6.out n7) hb)
  have X08 := Aside0.mk (Kd.R_below (Kd.R_drewN X06.out n7) hb)
  have X18 := Aside0.mk (Kd.R_below (Kd.R_drewN X16.out n7) hb)
  have G8 := Aside0.mk (Kd.R_below (Kd.R_drewN S6.out n7) hb)
  have B8 := Aside0.mk (below_step (pw_below_drewN B6.out n7) hb)
  have z8 := Aside0.mk (size_le hb)
  clear ho hb W6 X06 X16 S6 B6
  go_wp2_with fail
  refine (eqI_calls A'4 A'8 c'4 c'8 l0 _ (by omega) (R_cells X08.out).2.2 (R_cells S8.out).2.2).mono ?_
  rintro e w9 ⟨rfl, ⟨n9, rfl⟩⟩
  clear S8
  go_wp2_with fail
  refine (toI_calls A1 c1 l1 _ hl1 hc1 (Kd.C_below HR1.out (pw_below_drewN B8.out n9))).mono ?_
  rintro e w10 ⟨v10, rfl, ho, hb⟩
  obtain ⟨A'10, c'10, rfl⟩ := Kd.R_slice ho
  have S10 := Aside0.mk (R_span ho)
  have W10 := Aside0.mk (Kd.R_below (Kd.R_drewN W8.out n9) hb)
  have X010 := Aside0.mk (Kd.R_below (Kd.R_drewN X08.out n9) hb)
  have X110 := Aside0.mk (Kd.R_below (Kd.R_drewN X18.out n9) hb)
  have G10 := Aside0.mk (Kd.R_below (Kd.R_drewN G8.out n9) hb)
  have B10 := Aside0.mk (below_step (pw_below_drewN B8.out n9) hb)
  have z10 := Aside0.mk (size_le hb)
  clear ho hb W8 X08 X18 G8 B8
  go_wp2_with fail
  refine (eqI_calls A'5 A'10 c'5 c'10 l1 _ (by omega) (R_cells X110.out).2.2 (R_cells S10.out).2.2).mono ?_
  rintro e w11 ⟨rfl, ⟨n11, rfl⟩⟩
  clear S10
  go_wp2_with fail
  refine (markI_calls w3.heap.size (fun k => w3.heap.size ≤ k ∧ k < w4.heap.size) A'4 c'4 l0 (1) w _ (by omega) (by omega) (by omega) (Kd.R_drewN X010.out n11) (pw_below_drewN B10.out n11) (fun k h => by have := z1.out; have := z2.out; have := z3.out; have := z4.out; have := z5.out; have := z6.out; have := z8.out; have := z10.out; omega)).mono ?_
  rintro e w12 ⟨rfl, ho, hk, hb⟩
  have W12 := Aside0.mk (Kd.R_kept (Kd.R_drewN W10.out n11) hk (fun k h => by have := z1.out; have := z2.out; have := z3.out; have := z4.out; have := z5.out; have := z6.out; have := z8.out; have := z10.out; omega))
  have X012 := Aside0.mk ho
  have X112 := Aside0.mk (Kd.R_kept (Kd.R_drewN X110.out n11) hk (fun k h => by have := z1.out; have := z2.out; have := z3.out; have := z4.out; have := z5.out; have := z6.out; have := z8.out; have := z10.out; omega))
  have G12 := Aside0.mk (Kd.R_kept (Kd.R_drewN G10.out n11) hk (fun k h => by have := z1.out; have := z2.out; have := z3.out; have := z4.out; have := z5.out; have := z6.out; have := z8.out; have := z10.out; omega))
  have B12 := Aside0.mk hb
  clear ho hb hk W10 X010 X110 G10 B10
  go_wp2_with fail
  refine (markI_calls w4.heap.size (fun k => w4.heap.size ≤ k ∧ k < w5.heap.size) A'5 c'5 l1 (1 + (l0.length : Int)) w _ (by omega) (by omega) (by omega) X112.out B12.out (fun k h => by have := z1.out; have := z2.out; have := z3.out; have := z4.out; have := z5.out; have := z6.out; have := z8.out; have := z10.out; omega)).mono ?_
  rintro e w13 ⟨rfl, ho, hk, hb⟩
  have W13 := Aside0.mk (Kd.R_kept W12.out hk (fun k h => by have := z1.out; have := z2.out; have := z3.out; have := z4.out; have := z5.out; have := z6.out; have := z8.out; have := z10.out; omega))
  have X013 := Aside0.mk (Kd.R_kept X012.out hk (fun k h => by have := z1.out; have := z2.out; have := z3.out; have := z4.out; have := z5.out; have := z6.out; have := z8.out; have := z10.out; omega))
  have X113 := Aside0.mk ho
  have G13 := Aside0.mk (Kd.R_kept G12.out hk (fun k h => by have := z1.out; have := z2.out; have := z3.out; have := z4.out; have := z5.out; have := z6.out; have := z8.out; have := z10.out; omega))
  have B13 := Aside0.mk hb
  clear ho hb hk W12 X012 X112 G12 B12
  clear X013
  clear X113
  go_wp2_with fail
  refine (eqI_calls A'6 A'3 c'6 c'3 G _ (by omega) (R_cells G13.out).2.2 (R_cells W13.out).2.2).mono ?_
  rintro e w14 ⟨rfl, ⟨n14, rfl⟩⟩
  go_wp2_with fail
  refine (markI_calls w5.heap.size (fun k => w5.heap.size ≤ k ∧ k < w6.heap.size) A'6 c'6 G (1) w _ (by omega) (by omega) (by omega) (Kd.R_drewN G13.out n14) (pw_below_drewN B13.out n14) (fun k h => by have := z1.out; have := z2.out; have := z3.out; have := z4.out; have := z5.out; have := z6.out; have := z8.out; have := z10.out; omega)).mono ?_
  rintro e w15 ⟨rfl, ho, hk, hb⟩
  have W15 := Aside0.mk (Kd.R_kept (Kd.R_drewN W13.out n14) hk (fun k h => by have := z1.out; have := z2.out; have := z3.out; have := z4.out; have := z5.out; have := z6.out; have := z8.out; have := z10.out; omega))
  have G15 := Aside0.mk ho
  have B15 := Aside0.mk hb
  clear ho hb hk W13 G13 B13
  go_wp2_with fail
  refine (heldI_calls A'6 c'6 G.length 1 (by decide) (by decide) (by omega) _ (by have := (R_cells G15.out).2.2; rwa [upI_length] at this)).mono ?_
  rintro e w16 ⟨rfl, ⟨n16, rfl⟩⟩
  go_wp2_with fail
  refine (toI_calls A0 c0 l0 _ hl0 hc0 (Kd.C_below HR0.out (pw_below_drewN B15.out n16))).mono ?_
  rintro e w17 ⟨v17, rfl, ho, hb⟩
  obtain ⟨A'17, c'17, rfl⟩ := Kd.R_slice ho
  have S17 := Aside0.mk (R_span ho)
  have W17 := Aside0.mk (Kd.R_below (Kd.R_drewN W15.out n16) hb)
  have G17 := Aside0.mk (Kd.R_below (Kd.R_drewN G15.out n16) hb)
  have B17 := Aside0.mk (below_step (pw_below_drewN B15.out n16) hb)
  have z17 := Aside0.mk (size_le hb)
  clear ho hb W15 G15 B15
  go_wp2_with fail
  refine (toI_calls A1 c1 l1 _ hl1 hc1 (Kd.C_below HR1.out B17.out)).mono ?_
  rintro e w18 ⟨v18, rfl, ho, hb⟩
  obtain ⟨A'18, c'18, rfl⟩ := Kd.R_slice ho
  have S18 := Aside0.mk (R_span ho)
  have W18 := Aside0.mk (Kd.R_below W17.out hb)
  have G18 := Aside0.mk (Kd.R_below G17.out hb)
  have U018 := Aside0.mk (Kd.R_below S17.out hb)
  have B18 := Aside0.mk (below_step B17.out hb)
  have z18 := Aside0.mk (size_le hb)
  clear ho hb W17 G17 S17 B17
  go_wp2_with fail
  refine (fine_impl A'17 c'17 l0 A'18 c'18 l1 hl0 HW0.out hl1 HW1.out _ (R_cells U018.out).2.1 (R_cells U018.out).2.2 (R_cells S18.out).2.1 (R_cells S18.out).2.2).mono ?_
  rintro e w19 ⟨v19, rfl, ho, hb⟩
  rw [← HG.out] at ho
  obtain ⟨A'19, c'19, rfl⟩ := Kd.R_slice ho
  have S19 := Aside0.mk (R_span ho)
  have W19 := Aside0.mk (Kd.R_below W18.out hb)
  have G19 := Aside0.mk (Kd.R_below G18.out hb)
  have U019 := Aside0.mk (Kd.R_below U018.out hb)
  have U119 := Aside0.mk (Kd.R_below S18.out hb)
  have B19 := Aside0.mk (below_step B18.out hb)
  have z19 := Aside0.mk (size_le hb)
  clear ho hb W18 G18 U018 S18 B18
  clear U019
  clear U119
  go_wp2_with fail
  refine (eqI_calls A'19 A'3 c'19 c'3 G _ (by omega) (R_cells S19.out).2.2 (R_cells W19.out).2.2).mono ?_
  rintro e w20 ⟨rfl, ⟨n20, rfl⟩⟩
  clear S19
  go_wp2_with fail
  refine (heldI_calls A'6 c'6 G.length 1 (by decide) (by decide) (by omega) _ (by have := (R_cells (Kd.R_drewN G19.out n20)).2.2; rwa [upI_length] at this)).mono ?_
  rintro e w21 ⟨rfl, ⟨n21, rfl⟩⟩
  go_wp2_with fail
  go_ret
  exact ⟨rfl, (pw_below_drewN B19.out (n20 + n21))⟩
end Go.Proofs.Ytflgalojbebfmaa.Wk
