/- A walk of this seat's own: the law FnNumbers returns true for every byte string. -/
import Derived.Test.YtjjaahdfjjomiaaWkCurA
namespace Go.Proofs.Ytjjaahdfjjomiaa.Wk
open Go.RowKit Go.Proofs.YtjjaahdfjjomiaaW.PrintWords Go.Proofs.YtjjaahdfjjomiaaW.PrintLast Go.Proofs.YtjjaahdfjjomiaaW.PrintMore Go.Proofs.Ytjjaahdfjjomiaa.My
set_option linter.unusedVariables false
set_option linter.unusedSimpArgs false
theorem wfu8 {z : Int} (h0 : 0 ≤ z) (h1 : z ≤ 255) : (Lit.int .u8 z).wf = true := by
  simp [Lit.wf, IntKind.min, IntKind.max, IntKind.bits, IntKind.signed]
  omega
set_option maxHeartbeats 4000000 in
/-- Two byte strings that are one. -/
theorem wbytes_calls (A B : Option Addr) (c cB : Nat) (l : List Int) (hl : l.length ≤ 1048576) (hby : ∀ x ∈ l, (Lit.int .u8 x).wf = true) (w : World) (hc : l.length ≤ c) (hcB : l.length ≤ cB) (hr : Kd.C (Kd.int .u8) w A l.length l) (hrB : Kd.C (Kd.int .u8) w B l.length l) :
    Calls Try.prog 34 #[.slice A l.length c, .slice B l.length cB] w fun e w' => e = .returned (.bool true) ∧ ∃ m, w' = w.drewN m := by
  have HR := Aside0.mk hr
  have HRB := Aside0.mk hrB
  have HBY := Aside0.mk hby
  clear hr hrB hby
  go_enter Try.func34, Try.ntmps34
  go_wp2
  go_loopg [13] l.length (fun q v13 w' => ∃ i : Int, v13 = .int .i64 i ∧ (0 ≤ i ∧ i + (q : Int) = (l.length : Int)) ∧ ∃ nd : Nat, w' = w.drewN nd)
  case atStart => exact ⟨0, rfl, ⟨by omega, by omega⟩, 0, rfl⟩
  case round =>
    obtain ⟨i, rfl, hi, nd, hw⟩ := hrel
    by_cases c0 : i < l.length
    · obtain ⟨q, rfl⟩ : ∃ q, gk = q + 1 := ⟨gk - 1, by omega⟩
      obtain ⟨ad, e1, hx⟩ := Kd.at_int HR.out i (by omega) c0
      obtain ⟨ad2, e2, hx2⟩ := Kd.at_int HRB.out i (by omega) c0
      have hbb := My.rd_byte HBY.out i
      obtain ⟨b, hb⟩ : ∃ b, b = rd l i := ⟨_, rfl⟩
      rw [← hb] at hx hx2 hbb
      cases e1
      cases e2
      have hy : wr.cell? (ad.add i.toNat) = some (.int .u8 b) := by rw [hw]; exact hx
      have hy2 : wr.cell? (ad2.add i.toNat) = some (.int .u8 b) := by rw [hw]; exact hx2
      have HW := Aside0.mk hw
      clear hx hx2 hw hb
      go_wp2_with fail
      go_quiet (fail)
      go_wp2
      go_roundg q
      case measure => omega
      case rel => exact ⟨_, rfl, by omega, _, by rw [HW.out, World.drewN_drewN]⟩
    · go_wp2
      go_ret
      exact ⟨rfl, by first | exact ⟨_, rfl⟩ | exact ⟨_, hw⟩⟩
theorem R_drop {w : World} {A : Option Addr} {c : Nat} {l : List Int} (hr : Kd.C (Kd.int .u8) w A l.length l) : Kd.C (Kd.int .u8) w A l.dropLast.length l.dropLast := by
  rw [List.dropLast_eq_take]
  exact Kd.C_take hr (by omega)
theorem field0 : ∀ (w : World), Sem.run Try.prog (Instr.field 38 (.agg #[.bool false, .int .u64 0, .int .i64 0]) 0) w = .ok (.bool false) w := by intro w; kernel_rfl
set_option maxHeartbeats 4000000 in
theorem law_numbers (A : Option Addr) (c : Nat) (l : List Int) (hby : ∀ x ∈ l, (Lit.int .u8 x).wf = true) (w : World) (hc : l.length ≤ c) (hr : Kd.C (Kd.int .u8) w A l.length l) :
    Calls Try.prog 11 #[.slice A l.length c] w fun e w' => e = .returned (.bool true) ∧ Below w.heap.size w w' := by
  by_cases h : 1048576 < l.length
  · go_enter Try.func11, Try.ntmps11
    go_wp2
    go_ret
    exact ⟨rfl, Below.refl _ _⟩
  have hl : l.length ≤ 1048576 := by omega
  go_enter Try.func11, Try.ntmps11
  go_wp2_with fail
  refine (draw_number _ A c l hc hr hby).mono ?_
  rintro e w1 ⟨n, rfl, n0, n1, hb⟩
  have B1 := Aside0.mk hb
  clear hb hr hby
  have p10 : (128 : Int) ^ (9 + 1) = 1180591620717411303424 := by decide
  have HP : Aside0 (n < 128 ^ (9 + 1)) := ⟨by rw [p10]; omega⟩
  clear p10
  obtain ⟨gs, hgs⟩ : ∃ gs, gs = groups (9 + 1) n := ⟨_, rfl⟩
  have G0 := Aside0.mk (get_put n n0 n1)
  have G1 := Aside0.mk (get_cut n n0)
  have GB : Aside0 (∀ x ∈ gs, (Lit.int .u8 x).wf = true) := ⟨by rw [hgs]; intro x hx; have := groups_bytes _ n n0 x hx; exact wfu8 this.1 this.2⟩
  have gl : gs.length ≤ 10 := by rw [hgs]; exact groups_length _ _
  have gp : 1 ≤ gs.length := by rw [hgs]; have := groups_ne 9 n; exact List.length_pos_iff.2 this
  rw [show groups 10 n = gs from hgs.symm] at G0 G1
  have HGS := Aside0.mk hgs
  clear hgs
  have GD : Aside0 (∀ x ∈ gs.dropLast, (Lit.int .u8 x).wf = true) := ⟨fun x hx => GB.out x (List.dropLast_subset _ hx)⟩
  go_wp2_with fail
  refine (put_impl 9 n n0 HP.out (by omega) _).mono ?_
  rintro e w2 ⟨v, rfl, ho, hb⟩
  rw [← HGS.out] at ho
  obtain ⟨A2, c2, rfl⟩ := Kd.R_slice ho
  have S2 := Aside0.mk (R_span ho)
  have B2 := Aside0.mk (below_step B1.out hb)
  clear ho hb B1
  go_wp2_with fail
  refine (put_spec 9 n n0 HP.out (by omega) n1 _).mono ?_
  rintro e w3 ⟨v, rfl, ho, hb⟩
  rw [← HGS.out] at ho
  obtain ⟨A3, c3, rfl⟩ := Kd.R_slice ho
  have S3 := Aside0.mk (R_span ho)
  have T3 := Aside0.mk (Kd.R_below S2.out hb)
  have B3 := Aside0.mk (below_step B2.out hb)
  clear ho hb B2 S2 HP
  go_wp2_with fail
  refine (wbytes_calls A2 A3 c2 c3 gs (by omega) GB.out _ (R_cells T3.out).2.1 (R_cells S3.out).2.1 (R_cells T3.out).2.2 (R_cells S3.out).2.2).mono ?_
  rintro e w4 ⟨rfl, m4, rfl⟩
  go_wp2_with fail
  refine (get_impl' A2 c2 gs 0 (by omega) (by omega) GB.out _ (R_cells T3.out).2.1 (Kd.C_drewN (R_cells T3.out).2.2 _)).mono ?_
  rintro e w5 ⟨rfl, hb⟩
  rw [show told gs 0 = (true, n, (gs.length : Int)) from G0.out]
  have S5 := Aside0.mk (Kd.R_below (Kd.R_drewN T3.out _) hb)
  have B5 := Aside0.mk (below_step (pw_below_drewN B3.out _) hb)
  clear hb S3 T3 B3
  simp only [numV]
  go_upto_region 8 with fail
  obtain ⟨w6, h6⟩ : ∃ w6, w6 = w5.alloc (.cells #[.bool true, .int .u64 n, .int .i64 (gs.length : Int)] 38 (0, 0)) := ⟨_, rfl⟩
  obtain ⟨g5, hg5⟩ : ∃ g, g = w5.heap.size := ⟨_, rfl⟩
  rw [← h6, ← hg5]
  have e0 : w6.cell? ⟨g5, 0, none⟩ = some (.bool true) := by rw [h6, hg5]; exact (blk_cell (blk_new _ _) 0).trans rfl
  have e1 : w6.cell? ⟨g5, 1, none⟩ = some (.int .u64 n) := by rw [h6, hg5]; exact (blk_cell (blk_new _ _) 1).trans rfl
  have e2 : w6.cell? ⟨g5, 2, none⟩ = some (.int .i64 (gs.length : Int)) := by rw [h6, hg5]; exact (blk_cell (blk_new _ _) 2).trans rfl
  have S6 : Aside0 (Kd.R (Kd.int .u8) 5 w6 w1.heap.size (fun k => w1.heap.size ≤ k ∧ k < w2.heap.size) (.slice A2 gs.length c2) gs) := ⟨by rw [h6]; exact Kd.R_alloc S5.out _⟩
  have B6 : Aside0 (Below w.heap.size w w6) := ⟨by rw [h6]; exact below_alloc B5.out _⟩
  have hcc : gs.length ≤ c2 := (R_cells S6.out).2.1
  have hdl : gs.dropLast.length = gs.length - 1 := List.length_dropLast
  have HDL := Aside0.mk hdl
  clear h6 hg5 S5 B5 hdl
  have hf0 := field0
  go_wp2_with fail
  have X := get_impl' A2 c2 gs.dropLast 0 (by omega) (by rw [HDL.out]; omega) GD.out w6 (by rw [HDL.out]; omega) (R_drop (c := 0) (R_cells S6.out).2.2)
  rw [HDL.out, show told gs.dropLast 0 = noNum from G1.out] at X
  refine X.mono ?_
  rintro e w7 ⟨rfl, hb⟩
  have B7 := Aside0.mk (below_step B6.out hb)
  clear hb X e0 e1 e2
  simp only [numV, noNum]
  have r1 := unfold_range n n0 n1
  have u1 := unfold_val n n0 n1
  have u2 := fold_val (unfoldV n) r1.1 r1.2
  rw [fold_unfold n n0] at u2
  have U1 := Aside0.mk u1
  have U2 := Aside0.mk u2
  clear u1 u2 r1
  go_wp2_with fail
  refine (PFnExactUnfold.impl_Unfold.calls n _ _ U1.out).mono ?_
  rintro e w8 ⟨rfl, nd8, rfl⟩
  go_wp2_with fail
  refine (PFnExactFold.impl_Fold.calls (unfoldV n) _ _ U2.out).mono ?_
  rintro e w9 ⟨rfl, nd9, rfl⟩
  obtain ⟨m, hm⟩ : ∃ m, m = wrap64 n := ⟨_, rfl⟩
  have mr : -9223372036854775808 ≤ m ∧ m ≤ 9223372036854775807 := by rw [hm]; unfold wrap64; omega
  have V1 := Aside0.mk (fold_val m mr.1 mr.2)
  have fr := fold_range m mr.1 mr.2
  have v2 := unfold_val (foldV m) fr.1 fr.2
  rw [unfold_fold m] at v2
  have V2 := Aside0.mk v2
  clear v2
  have V1 : Aside0 (PFnExactFold.impl_Fold.f (wrap64 n) = some (foldV (wrap64 n))) := ⟨by rw [← hm]; exact V1.out⟩
  have V2 : Aside0 (PFnExactUnfold.impl_Unfold.f (foldV (wrap64 n)) = some (wrap64 n)) := ⟨by rw [← hm]; exact V2.out⟩
  clear hm mr fr
  go_wp2_with fail
  refine (PFnExactFold.impl_Fold.calls (wrap64 n) _ _ V1.out).mono ?_
  rintro e w10 ⟨rfl, nd10, rfl⟩
  go_wp2_with fail
  refine (PFnExactUnfold.impl_Unfold.calls (foldV (wrap64 n)) _ _ V2.out).mono ?_
  rintro e w11 ⟨rfl, nd11, rfl⟩
  go_wp2
  go_ret
  exact ⟨rfl, pw_below_drewN B7.out _⟩
end Go.Proofs.Ytjjaahdfjjomiaa.Wk
