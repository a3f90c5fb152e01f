/- Walks of this seat's own: what the program's SmallFine comes to. -/
import Derived.Test.YtkhpcclddkddmaaDoorWkFin
import Derived.StillTailTactics
namespace Go.Proofs.YtkhpcclddkddmaaDoor.Wk
open Go.RowKit Go.Proofs.YtkhpcclddkddmaaDoorW.PrintWords Go.Proofs.YtkhpcclddkddmaaDoorW.PrintLast Go.Proofs.YtkhpcclddkddmaaDoorW.PrintMore Go.Proofs.YtkhpcclddkddmaaDoor.My
open Go.Proofs.YtkhpcclddkddmaaDoor.PFnExactSmallCoarse
set_option linter.unusedVariables false
set_option linter.unusedSimpArgs false
attribute [local go_sem] max2_int min2_int max_two min_two
set_option maxRecDepth 100000 in
set_option maxHeartbeats 40000000 in
theorem sf_impl (A0 : Option Addr) (c0 : Nat) (l0 : List Int) (a1 : Int) (hl0 : l0.length ≤ 1048576) (hw0 : ∀ x ∈ l0, (Lit.int .i64 x).wf = true) (w : World) (hc0 : l0.length ≤ c0) (hr0 : Kd.C (Kd.int .i64) w A0 l0.length l0) (hT : VT w) :
    Calls Tryd.prog 15 #[.slice A0 l0.length c0, .int .i64 a1] w fun e w' => ∃ v : Value, e = .returned v ∧ Kd.R (Kd.int .i64) 3 w' w.heap.size (fun _ => True) v (sfL l0 a1) ∧ Below w.heap.size w w' := by
  have HT := Aside0.mk hT
  have HR := Aside0.mk hr0
  clear hT hr0 hw0
  obtain ⟨r, hr⟩ : ∃ r, r = sfL l0 a1 := ⟨_, rfl⟩
  rw [← hr]
  have HRr := Aside0.mk hr
  clear hr
  have NIL : ∀ w' : World, Below w.heap.size w w' → r = [] → ∃ v : Value, Ending.returned (.slice none 0 0) = .returned v ∧ Kd.R (Kd.int .i64) 3 w' w.heap.size (fun _ => True) v r ∧ Below w.heap.size w w' := fun w' hb e => by
    rw [e]
    exact ⟨_, rfl, Kd.R_nil _ _ _ _ _, hb⟩
  have NL := Aside0.mk NIL
  clear NIL
  have ZS := Aside0.mk (impl_zsmall.calls (l0.length + 1) A0 c0 l0 _ w HR.out hc0 (zsmall_eq _ l0 hl0 (by omega)))
  rcases hz : (inB (-65536) 65535 l0 && decide (l0.length = 16)) with _ | _
  · have E : Aside0 (r = []) := ⟨by
      rw [HRr.out]; unfold sfL; rw [if_neg]; rintro ⟨h, _⟩
      rw [h.1, decide_eq_true h.2] at hz
      cases hz⟩
    have HZ := Aside0.mk hz
    clear hz
    go_enter Tryd.func15, Tryd.ntmps15
    go_wp2_with fail
    refine ZS.out.mono ?_
    rw [HZ.out]
    rintro e w1 ⟨rfl, ⟨nd, rfl⟩⟩
    go_wp2
    go_ret
    exact NL.out _ (pw_below_drewN (Below.refl _ _) _) E.out
  have hok : okSm l0 := ⟨(Bool.and_eq_true_iff.1 hz).1, of_decide_eq_true (Bool.and_eq_true_iff.1 hz).2⟩
  have HZ := Aside0.mk hz
  have OK := Aside0.mk hok
  have hlen := hok.2
  clear hz hok
  by_cases h0 : a1 < 0
  · have t0 : decide (a1 < 0) = true := decide_eq_true h0
    have E : Aside0 (r = []) := ⟨by rw [HRr.out]; unfold sfL; rw [if_neg (by omega)]⟩
    clear hlen
    go_enter Tryd.func15, Tryd.ntmps15
    go_wp2_with fail
    refine ZS.out.mono ?_
    rw [HZ.out]
    rintro e w1 ⟨rfl, ⟨nd, rfl⟩⟩
    go_wp2
    go_ret
    exact NL.out _ (pw_below_drewN (Below.refl _ _) _) E.out
  have t0 : decide (a1 < 0) = false := decide_eq_false h0
  by_cases h1 : 40 < a1
  · have t1 : decide (40 < a1) = true := decide_eq_true h1
    have E : Aside0 (r = []) := ⟨by rw [HRr.out]; unfold sfL; rw [if_neg (by omega)]⟩
    clear hlen
    go_enter Tryd.func15, Tryd.ntmps15
    go_wp2_with fail
    refine ZS.out.mono ?_
    rw [HZ.out]
    rintro e w1 ⟨rfl, ⟨nd, rfl⟩⟩
    go_wp2
    go_ret
    exact NL.out _ (pw_below_drewN (Below.refl _ _) _) E.out
  have t1 : decide (40 < a1) = false := decide_eq_false h1
  have E : Aside0 (r = tab 16 (sfV l0 a1)) := ⟨by rw [HRr.out]; unfold sfL; rw [if_pos ⟨OK.out, by omega, by omega⟩]⟩
  obtain ⟨f, hf⟩ : ∃ f, f = sfV l0 a1 := ⟨_, rfl⟩
  have HF := Aside0.mk hf
  have HL := Aside0.mk hlen
  clear hf hlen
  go_enter Tryd.func15, Tryd.ntmps15
  go_wp2_with fail
  refine ZS.out.mono ?_
  rw [HZ.out]
  rintro e w1 ⟨rfl, ⟨nd, rfl⟩⟩
  go_wp2_with fail
  refine (impl_zcopy.calls A0 c0 l0 l0 _ (Kd.C_drewN HR.out nd) hc0 (zcopy_eq l0 hl0)).mono ?_
  rintro e w1 ⟨v1, rfl, ho, hb⟩
  obtain ⟨A1, c1, rfl⟩ := R_slice_n (n := 16) ho HL.out
  have HO : Aside0 (Kd.R (Kd.int .i64) 3 w1 w.heap.size (fun _ => True) (.slice A1 16 c1) l0) := ⟨ho⟩
  have HB := Aside0.mk (below_step (pw_below_drewN (Below.refl w.heap.size w) nd) hb)
  clear ho hb
  go_wp2
  go_loopg [23] 16 (fun q v23 w' => ∃ (i : Nat) (x : List Int), v23 = .int .i64 (i : Int) ∧ Aside0 (i + q = 16) ∧ Aside0 (Part 16 i x f (fun j => l0.getD j 0)) ∧ Aside0 (Kd.R (Kd.int .i64) 3 w' w.heap.size (fun _ => True) (.slice A1 16 c1) x) ∧ Aside0 (Below w.heap.size w w'))
  case atStart => exact ⟨0, _, rfl, ⟨by omega⟩, ⟨Part.start f HL.out⟩, HO, HB⟩
  case round =>
    clear HO HB
    obtain ⟨i, x, rfl, Q, PT, HO, HB⟩ := hrel
    by_cases c0 : i < 16
    · obtain ⟨q, rfl⟩ : ∃ q, gk = q + 1 := ⟨gk - 1, by have := Q.out; omega⟩
      have xl : x.length = 16 := PT.out.1
      have nb := OK.out.at c0
      obtain ⟨n, hn⟩ : ∃ n, n = rd l0 (i : Int) := ⟨_, rfl⟩
      rw [← hn] at nb
      obtain ⟨g, cap, e2, gb, gl, cl, hg⟩ := Kd.R_form HO.out (by omega)
      rw [xl] at e2
      cases e2
      have XB : Aside0 (x.getD i 0 = n) := ⟨by rw [PT.out.2.2 i (by omega) c0, hn, rd_nat]⟩
      have hx : wr.cell? ⟨g, i, none⟩ = some (.int .i64 n) := by
        have h2 := (Kd.R_celln 0 HO.out (i : Int) (by omega) (by omega)).1
        rw [Int.toNat_natCast] at h2
        rw [h2, ← XB.out]
        rfl
      have GB := Aside0.mk gb
      obtain ⟨w2, hw2⟩ : ∃ w2 : World, w2 = wr.drewN 1 := ⟨_, rfl⟩
      have HB2 : Aside0 (Below w.heap.size w w2) := ⟨by rw [hw2]; exact pw_below_drewN HB.out 1⟩
      have HO2 : Aside0 (Kd.R (Kd.int .i64) 3 w2 w.heap.size (fun _ => True) (.slice (some ⟨g, 0, none⟩) 16 c1) x) := ⟨by rw [hw2]; exact Kd.R_drewN HO.out 1⟩
      have key : ({ wr with drawn := wr.drawn + 1 } : World) = w2 := hw2.symm
      have KEY := Aside0.mk key
      clear key hw2
      obtain ⟨hx2, hfz⟩ := Kd.R_celln 0 HO2.out (i : Int) (by omega) (by omega)
      rw [Int.toNat_natCast] at hx2 hfz
      obtain ⟨c, hc⟩ : ∃ c, c = cls i := ⟨_, rfl⟩
      have cb := cls_b i
      rw [← hc] at cb
      obtain ⟨r6, hr6⟩ : ∃ r6, r6 = a1 % 6 := ⟨_, rfl⟩
      obtain ⟨q6, hq6⟩ : ∃ q6, q6 = a1 / 6 := ⟨_, rfl⟩
      have b6 : 0 ≤ r6 ∧ r6 ≤ 5 := by omega
      have d6 : 0 ≤ q6 ∧ q6 ≤ 6 := by omega
      obtain ⟨z, hz⟩ : ∃ z, z = rd zvT (3 * r6 + c) := ⟨_, rfl⟩
      have zb := zvT_b (3 * r6 + c).toNat
      rw [show zvT.getD (3 * r6 + c).toNat 0 = z from hz.symm] at zb
      have hxz : w2.cell? ⟨1, r6.toNat * 3 + c.toNat, none⟩ = some (.int .i64 z) := by rw [hz, show r6.toNat * 3 + c.toNat = (3 * r6 + c).toNat by omega]; exact (HT.out.stay HB2.out) _ (by omega)
      have bb := sf_b nb zb d6
      obtain ⟨p, hp⟩ : ∃ p, p = n * z := ⟨_, rfl⟩
      rw [← hp] at bb
      have pb := bb.1
      obtain ⟨y, hy⟩ : ∃ y, y = p * 2 ^ q6.toNat := ⟨_, rfl⟩
      have yb := bb.2
      rw [← hy] at yb
      have FI : Aside0 (f i = clampS y) := ⟨by rw [HF.out, hy, hp, hn, hz, hc, hr6, hq6]; rfl⟩
      have ep : n * z = p := hp.symm
      have er6 : a1 % 6 = r6 := hr6.symm
      have eq6 : a1 / 6 = q6 := hq6.symm
      have TM : Aside0 (Int.tmod a1 6 = r6) := ⟨by rw [hr6]; exact Int.tmod_eq_emod_of_nonneg (by omega)⟩
      have TD : Aside0 (Int.tdiv a1 6 = q6) := ⟨by rw [hq6]; exact Int.tdiv_eq_ediv_of_nonneg (by omega)⟩
      have WP : Aside0 (IntKind.i64.wrap p = p) := ⟨by rw [IntKind.wrap_i64]; omega⟩
      have WQ : Aside0 (IntKind.i64.wrap q6 = q6) := ⟨by rw [IntKind.wrap_i64]; omega⟩
      have WY : Aside0 (IntKind.i64.wrap (p * 2 ^ q6.toNat) = y) := ⟨by rw [← hy, IntKind.wrap_i64]; omega⟩
      obtain ⟨v, hv⟩ : ∃ v, v = clampS y := ⟨_, rfl⟩
      have EC : Aside0 ((if 65535 < if y < -65536 then -65536 else y then 65535 else if y < -65536 then -65536 else y) = v) := ⟨by rw [hv]; unfold clampS; (repeat' split) <;> omega⟩
      have HP := Aside0.mk (Kd.R_putn HO2.out (i : Int) v)
      have PT2 := Aside0.mk (PT.out.set c0 (v := v) (by rw [FI.out, hv]))
      clear hv
      have HC := Aside0.mk hc
      have HY := Aside0.mk hy
      have p1 : 0 ≤ r6 := b6.1
      have p2 : r6 < 6 := by omega
      have p3 : 0 ≤ c := cb.1
      have p4 : c < 3 := by omega
      have CQ : Aside0 (Calls Tryd.prog 27 #[.int .i64 (i : Int)] w2 fun e w'' => e = .returned (.int .i64 c) ∧ w'' = w2) := ⟨by rw [hc]; exact zclass_calls i c0 _⟩
      clear hn hc hz hp hr6 hq6 hy bb gb gl hg xl HO HB
      go_wp2_with fail
      refine wp_region_still_tail 17 (by kernel_rfl) (by kernel_rfl) ?_
      rw [KEY.out]
      simp only [List.take_succ_cons, List.take_zero, List.drop_succ_cons, List.drop_zero]
      iterate 6 still_step
      rw [TM.out]
      still_call CQ.out
      iterate 6 still_step
      rw [TD.out, WP.out, WQ.out]
      still_step
      rw [WY.out]
      iterate 3 still_step
      refine wpStill_nil ?_
      rw [EC.out]
      go_wp2
      all_goals
        go_roundg q
        case measure => omega
        case rel => exact ⟨i + 1, _, by go_num, ⟨by have := Q.out; omega⟩, PT2, HP, ⟨below_set HB2.out GB.out⟩⟩
    · have E2 : Aside0 (x = r) := ⟨by have h := PT.out; rw [show i = 16 by have := Q.out; omega] at h; rw [E.out, ← HF.out]; exact h.done⟩
      go_wp2
      go_ret
      rw [E2.out] at HO
      exact ⟨_, rfl, HO.out, HB.out⟩
end Go.Proofs.YtkhpcclddkddmaaDoor.Wk
