/- A walk of this seat's own: a law returns true for all arguments. -/
import Derived.Test.YtdijjadoneeadaaDoorWkPow2
namespace Go.Proofs.YtdijjadoneeadaaDoor.Wk
open Go.RowKit Go.Proofs.YtdijjadoneeadaaDoorW.PrintWords Go.Proofs.YtdijjadoneeadaaDoorW.PrintLast Go.Proofs.YtdijjadoneeadaaDoorW.PrintMore Go.Proofs.YtdijjadoneeadaaDoor.My
set_option linter.unusedVariables false
set_option linter.unusedSimpArgs false
attribute [local congr] bind_left ite_left
set_option maxHeartbeats 8000000 in
theorem law_LawPow (A0 : Option Addr) (c0 : Nat) (l0 : List Int) (hm0 : l0.length ≤ maxLen) (hw0 : ∀ x ∈ l0, (Lit.int .i64 x).wf = true) (w : World) (hc0 : l0.length ≤ c0) (hr0 : Kd.C (Kd.int .i64) w A0 l0.length l0) (hT : PT w) :
    Calls Tryd.prog 3 #[.slice A0 l0.length c0] w fun e w' => e = .returned (.bool true) ∧ Below w.heap.size w w' := by
  by_cases h0 : 1048576 < l0.length
  · go_enter Tryd.func3, Tryd.ntmps3
    go_wp2
    go_ret
    exact ⟨rfl, Below.refl _ _⟩
  have hl0 : l0.length ≤ 1048576 := by omega
  obtain ⟨G, hG⟩ : ∃ G, G = pwL l0 := ⟨_, rfl⟩
  have gl : G.length ≤ 1048576 := by rw [hG]; exact pwL_short l0
  have HG := Aside0.mk hG
  have HR0 := Aside0.mk hr0
  have HW0 := Aside0.mk hw0
  clear hG hr0 hw0 hm0 h0
  have HT := Aside0.mk hT
  clear hT
  have B0 := Aside0.mk (Below.refl w.heap.size w)
  go_enter Tryd.func3, Tryd.ntmps3
  go_wp2_with fail
  refine (toI_calls A0 c0 l0 _ hl0 hc0 (Kd.C_below HR0.out B0.out)).mono ?_
  rintro e w1 ⟨v1, rfl, ho, hb⟩
  obtain ⟨A'1, c'1, rfl⟩ := Kd.R_slice ho
  have S1 := Aside0.mk (R_span ho)
  have B1 := Aside0.mk (below_step B0.out hb)
  have z1 := Aside0.mk (size_le hb)
  clear ho hb B0
  go_wp2_with fail
  refine (pow_law_spec A'1 c'1 l0 hl0 HW0.out _ (R_cells S1.out).2.1 (R_cells S1.out).2.2).mono ?_
  rintro e w2 ⟨v2, rfl, ho, hb⟩
  rw [← HG.out] at ho
  obtain ⟨A'2, c'2, rfl⟩ := Kd.R_slice ho
  have S2 := Aside0.mk (R_span ho)
  have S02 := Aside0.mk (Kd.R_below S1.out hb)
  have B2 := Aside0.mk (below_step B1.out hb)
  have z2 := Aside0.mk (size_le hb)
  clear ho hb S1 B1
  clear S02
  go_wp2_with fail
  refine (toI_calls A0 c0 l0 _ hl0 hc0 (Kd.C_below HR0.out B2.out)).mono ?_
  rintro e w3 ⟨v3, rfl, ho, hb⟩
  obtain ⟨A'3, c'3, rfl⟩ := Kd.R_slice ho
  have S3 := Aside0.mk (R_span ho)
  have W3 := Aside0.mk (Kd.R_below S2.out hb)
  have B3 := Aside0.mk (below_step B2.out hb)
  have z3 := Aside0.mk (size_le hb)
  clear ho hb S2 B2
  go_wp2_with fail
  refine (pow_law_impl A'3 c'3 l0 hl0 HW0.out _ (R_cells S3.out).2.1 (R_cells S3.out).2.2 (HT.out.stay B3.out)).mono ?_
  rintro e w4 ⟨v4, rfl, ho, hb⟩
  rw [← HG.out] at ho
  obtain ⟨A'4, c'4, rfl⟩ := Kd.R_slice ho
  have S4 := Aside0.mk (R_span ho)
  have W4 := Aside0.mk (Kd.R_below W3.out hb)
  have X04 := Aside0.mk (Kd.R_below S3.out hb)
  have B4 := Aside0.mk (below_step B3.out hb)
  have z4 := Aside0.mk (size_le hb)
  clear ho hb W3 S3 B3
  go_wp2_with fail
  refine (eqI_calls A'4 A'2 c'4 c'2 G _ (by omega) (R_cells S4.out).2.2 (R_cells W4.out).2.2).mono ?_
  rintro e w5 ⟨rfl, ⟨n5, rfl⟩⟩
  go_wp2_with fail
  refine (toI_calls A0 c0 l0 _ hl0 hc0 (Kd.C_below HR0.out (pw_below_drewN B4.out n5))).mono ?_
  rintro e w6 ⟨v6, rfl, ho, hb⟩
  obtain ⟨A'6, c'6, rfl⟩ := Kd.R_slice ho
  have S6 := Aside0.mk (R_span ho)
  have W6 := Aside0.mk (Kd.R_below (Kd.R_drewN W4.out n5) hb)
  have X06 := Aside0.mk (Kd.R_below (Kd.R_drewN X04.out n5) hb)
  have G6 := Aside0.mk (Kd.R_below (Kd.R_drewN S4.out n5) hb)
  have B6 := Aside0.mk (below_step (pw_below_drewN B4.out n5) hb)
  have z6 := Aside0.mk (size_le hb)
  clear ho hb W4 X04 S4 B4
  go_wp2_with fail
  refine (eqI_calls A'3 A'6 c'3 c'6 l0 _ (by omega) (R_cells X06.out).2.2 (R_cells S6.out).2.2).mono ?_
  rintro e w7 ⟨rfl, ⟨n7, rfl⟩⟩
  clear S6
  go_wp2_with fail
  refine (markI_calls w2.heap.size (fun k => w2.heap.size ≤ k ∧ k < w3.heap.size) A'3 c'3 l0 (1) w _ (by omega) (by omega) (by omega) (Kd.R_drewN X06.out n7) (pw_below_drewN B6.out n7) (fun k h => by have := z1.out; have := z2.out; have := z3.out; have := z4.out; have := z6.out; omega)).mono ?_
  rintro e w8 ⟨rfl, ho, hk, hb⟩
  have W8 := Aside0.mk (Kd.R_kept (Kd.R_drewN W6.out n7) hk (fun k h => by have := z1.out; have := z2.out; have := z3.out; have := z4.out; have := z6.out; omega))
  have X08 := Aside0.mk ho
  have G8 := Aside0.mk (Kd.R_kept (Kd.R_drewN G6.out n7) hk (fun k h => by have := z1.out; have := z2.out; have := z3.out; have := z4.out; have := z6.out; omega))
  have B8 := Aside0.mk hb
  clear ho hb hk W6 X06 G6 B6
  clear X08
  go_wp2_with fail
  refine (eqI_calls A'4 A'2 c'4 c'2 G _ (by omega) (R_cells G8.out).2.2 (R_cells W8.out).2.2).mono ?_
  rintro e w9 ⟨rfl, ⟨n9, rfl⟩⟩
  go_wp2_with fail
  refine (markI_calls w3.heap.size (fun k => w3.heap.size ≤ k ∧ k < w4.heap.size) A'4 c'4 G (1) w _ (by omega) (by omega) (by omega) (Kd.R_drewN G8.out n9) (pw_below_drewN B8.out n9) (fun k h => by have := z1.out; have := z2.out; have := z3.out; have := z4.out; have := z6.out; omega)).mono ?_
  rintro e w10 ⟨rfl, ho, hk, hb⟩
  have W10 := Aside0.mk (Kd.R_kept (Kd.R_drewN W8.out n9) hk (fun k h => by have := z1.out; have := z2.out; have := z3.out; have := z4.out; have := z6.out; omega))
  have G10 := Aside0.mk ho
  have B10 := Aside0.mk hb
  clear ho hb hk W8 G8 B8
  go_wp2_with fail
  refine (heldI_calls A'4 c'4 G.length 1 (by decide) (by decide) (by omega) _ (by have := (R_cells G10.out).2.2; rwa [upI_length] at this)).mono ?_
  rintro e w11 ⟨rfl, ⟨n11, rfl⟩⟩
  go_wp2_with fail
  refine (toI_calls A0 c0 l0 _ hl0 hc0 (Kd.C_below HR0.out (pw_below_drewN B10.out n11))).mono ?_
  rintro e w12 ⟨v12, rfl, ho, hb⟩
  obtain ⟨A'12, c'12, rfl⟩ := Kd.R_slice ho
  have S12 := Aside0.mk (R_span ho)
  have W12 := Aside0.mk (Kd.R_below (Kd.R_drewN W10.out n11) hb)
  have G12 := Aside0.mk (Kd.R_below (Kd.R_drewN G10.out n11) hb)
  have B12 := Aside0.mk (below_step (pw_below_drewN B10.out n11) hb)
  have z12 := Aside0.mk (size_le hb)
  clear ho hb W10 G10 B10
  go_wp2_with fail
  refine (pow_law_impl A'12 c'12 l0 hl0 HW0.out _ (R_cells S12.out).2.1 (R_cells S12.out).2.2 (HT.out.stay B12.out)).mono ?_
  rintro e w13 ⟨v13, rfl, ho, hb⟩
  rw [← HG.out] at ho
  obtain ⟨A'13, c'13, rfl⟩ := Kd.R_slice ho
  have S13 := Aside0.mk (R_span ho)
  have W13 := Aside0.mk (Kd.R_below W12.out hb)
  have G13 := Aside0.mk (Kd.R_below G12.out hb)
  have U013 := Aside0.mk (Kd.R_below S12.out hb)
  have B13 := Aside0.mk (below_step B12.out hb)
  have z13 := Aside0.mk (size_le hb)
  clear ho hb W12 G12 S12 B12
  clear U013
  go_wp2_with fail
  refine (eqI_calls A'13 A'2 c'13 c'2 G _ (by omega) (R_cells S13.out).2.2 (R_cells W13.out).2.2).mono ?_
  rintro e w14 ⟨rfl, ⟨n14, rfl⟩⟩
  clear S13
  go_wp2_with fail
  refine (heldI_calls A'4 c'4 G.length 1 (by decide) (by decide) (by omega) _ (by have := (R_cells (Kd.R_drewN G13.out n14)).2.2; rwa [upI_length] at this)).mono ?_
  rintro e w15 ⟨rfl, ⟨n15, rfl⟩⟩
  go_wp2_with fail
  go_ret
  exact ⟨rfl, (pw_below_drewN B13.out (n14 + n15))⟩
end Go.Proofs.YtdijjadoneeadaaDoor.Wk
