/- A walk of this seat's own: a law returns true for all arguments. -/
import Derived.Test.YtkhpcclddkddmaaDoorWkWin
namespace Go.Proofs.YtkhpcclddkddmaaDoor.Wk
open Go.RowKit Go.Proofs.YtkhpcclddkddmaaDoorW.PrintWords Go.Proofs.YtkhpcclddkddmaaDoorW.PrintLast Go.Proofs.YtkhpcclddkddmaaDoorW.PrintMore Go.Proofs.YtkhpcclddkddmaaDoor.My
set_option linter.unusedVariables false
set_option linter.unusedSimpArgs false
attribute [local congr] bind_left ite_left
set_option maxHeartbeats 8000000 in
theorem law_LawWin (w : World) (hT : KT w) :
    Calls Tryd.prog 6 #[] w fun e w' => e = .returned (.bool true) ∧ Below w.heap.size w w' := by
  obtain ⟨G, hG⟩ : ∃ G, G = winL := ⟨_, rfl⟩
  have gl : G.length ≤ 1048576 := by rw [hG]; exact by rw [winL_length]; decide
  have HG := Aside0.mk hG
  clear hG 
  have HT := Aside0.mk hT
  clear hT
  have B0 := Aside0.mk (Below.refl w.heap.size w)
  go_enter Tryd.func6, Tryd.ntmps6
  go_wp2_with fail
  refine (win_spec _).mono ?_
  rintro e w1 ⟨v1, rfl, ho, hb⟩
  rw [← HG.out] at ho
  obtain ⟨A'1, c'1, rfl⟩ := Kd.R_slice ho
  have S1 := Aside0.mk (R_span ho)
  have B1 := Aside0.mk (below_step B0.out hb)
  have z1 := Aside0.mk (size_le hb)
  clear ho hb B0
  go_wp2_with fail
  refine (win_impl _ (HT.out.stay B1.out)).mono ?_
  rintro e w2 ⟨v2, rfl, ho, hb⟩
  rw [← HG.out] at ho
  obtain ⟨A'2, c'2, rfl⟩ := Kd.R_slice ho
  have S2 := Aside0.mk (R_span ho)
  have W2 := Aside0.mk (Kd.R_below S1.out hb)
  have B2 := Aside0.mk (below_step B1.out hb)
  have z2 := Aside0.mk (size_le hb)
  clear ho hb S1 B1
  go_wp2_with fail
  refine (eqI_calls A'2 A'1 c'2 c'1 G _ (by omega) (R_cells S2.out).2.2 (R_cells W2.out).2.2).mono ?_
  rintro e w3 ⟨rfl, ⟨n3, rfl⟩⟩
  go_wp2_with fail
  refine (markI_calls w1.heap.size (fun k => w1.heap.size ≤ k ∧ k < w2.heap.size) A'2 c'2 G (1) w _ (by omega) (by omega) (by omega) (Kd.R_drewN S2.out n3) (pw_below_drewN B2.out n3) (fun k h => by have := z1.out; have := z2.out; omega)).mono ?_
  rintro e w4 ⟨rfl, ho, hk, hb⟩
  have W4 := Aside0.mk (Kd.R_kept (Kd.R_drewN W2.out n3) hk (fun k h => by have := z1.out; have := z2.out; omega))
  have G4 := Aside0.mk ho
  have B4 := Aside0.mk hb
  clear ho hb hk W2 S2 B2
  go_wp2_with fail
  refine (heldI_calls A'2 c'2 G.length 1 (by decide) (by decide) (by omega) _ (by have := (R_cells G4.out).2.2; rwa [upI_length] at this)).mono ?_
  rintro e w5 ⟨rfl, ⟨n5, rfl⟩⟩
  go_wp2_with fail
  refine (win_impl _ (HT.out.stay (pw_below_drewN B4.out n5))).mono ?_
  rintro e w6 ⟨v6, rfl, ho, hb⟩
  rw [← HG.out] at ho
  obtain ⟨A'6, c'6, rfl⟩ := Kd.R_slice ho
  have S6 := Aside0.mk (R_span ho)
  have W6 := Aside0.mk (Kd.R_below (Kd.R_drewN W4.out n5) hb)
  have G6 := Aside0.mk (Kd.R_below (Kd.R_drewN G4.out n5) hb)
  have B6 := Aside0.mk (below_step (pw_below_drewN B4.out n5) hb)
  have z6 := Aside0.mk (size_le hb)
  clear ho hb W4 G4 B4
  go_wp2_with fail
  refine (eqI_calls A'6 A'1 c'6 c'1 G _ (by omega) (R_cells S6.out).2.2 (R_cells W6.out).2.2).mono ?_
  rintro e w7 ⟨rfl, ⟨n7, rfl⟩⟩
  clear S6
  go_wp2_with fail
  refine (heldI_calls A'2 c'2 G.length 1 (by decide) (by decide) (by omega) _ (by have := (R_cells (Kd.R_drewN G6.out n7)).2.2; rwa [upI_length] at this)).mono ?_
  rintro e w8 ⟨rfl, ⟨n8, rfl⟩⟩
  go_wp2_with fail
  go_ret
  exact ⟨rfl, (pw_below_drewN B6.out (n7 + n8))⟩
end Go.Proofs.YtkhpcclddkddmaaDoor.Wk
