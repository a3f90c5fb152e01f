/- Walks of this seat's own: what the reference's SmallFine comes to. -/
import Derived.Test.YtkhpcclddkddmaaDoorWkCoa2
namespace Go.Proofs.YtkhpcclddkddmaaDoor.Wk
open Go.RowKit Go.Proofs.YtkhpcclddkddmaaDoorW.PrintWords Go.Proofs.YtkhpcclddkddmaaDoorW.PrintLast Go.Proofs.YtkhpcclddkddmaaDoorW.PrintMore Go.Proofs.YtkhpcclddkddmaaDoor.My
open Go.Proofs.YtkhpcclddkddmaaDoor.PFnExactSmallCoarse
set_option linter.unusedVariables false
set_option linter.unusedSimpArgs false
attribute [local go_sem] max2_int min2_int max_two min_two
def zvT : List Int := [10, 16, 13, 11, 18, 14, 13, 20, 16, 14, 23, 18, 16, 25, 20, 18, 29, 23]
def zvTRows : List (List Int) := [[10, 16, 13], [11, 18, 14], [13, 20, 16], [14, 23, 18], [16, 25, 20], [18, 29, 23]]
/-- The table lies in the memory of the program's variable. -/
def VT (w : World) : Prop := ∀ i, i < 18 → w.cell? ⟨1, i, none⟩ = some (.int .i64 (zvT.getD i 0))
theorem VT.stay {w w' : World} (h : VT w) (hb : Below w.heap.size w w') : VT w' := fun i hi => cell_stay hb (h i hi)
theorem zvT_b (i : Nat) : 0 ≤ zvT.getD i 0 ∧ zvT.getD i 0 ≤ 29 := by
  by_cases h : i < 18
  · have : ∀ j : Fin 18, 0 ≤ zvT.getD j.val 0 ∧ zvT.getD j.val 0 ≤ 29 := by decide
    exact this ⟨i, h⟩
  · simp [List.getD, List.getElem?_eq_none (show zvT.length ≤ i by show 18 ≤ i; omega)]
def sfX (l : List Int) (s : Int) (i : Nat) : Int := rd l (i : Int) * rd zvT (3 * (s % 6) + cls i) * 2 ^ (s / 6).toNat
def clampS (x : Int) : Int := if x < -65536 then -65536 else if 65535 < x then 65535 else x
def sfV (l : List Int) (s : Int) (i : Nat) : Int := clampS (sfX l s i)
open Classical in
noncomputable def sfL (l : List Int) (s : Int) : List Int := if okSm l ∧ 0 ≤ s ∧ s ≤ 40 then tab 16 (sfV l s) else []
theorem sfL_length (l : List Int) (s : Int) : (sfL l s).length ≤ 1048576 := by
  unfold sfL
  split
  · rw [tab_length]; omega
  · simp
theorem sf_b {n z q : Int} (hn : -65536 ≤ n ∧ n ≤ 65535) (hz : 0 ≤ z ∧ z ≤ 29) (hq : 0 ≤ q ∧ q ≤ 6) : (-2000000 ≤ n * z ∧ n * z ≤ 2000000) ∧ -200000000 ≤ n * z * 2 ^ q.toNat ∧ n * z * 2 ^ q.toNat ≤ 200000000 := by
  have h1 : n * z ≤ 65535 * z := Int.mul_le_mul_of_nonneg_right hn.2 hz.1
  have h2 : -65536 * z ≤ n * z := Int.mul_le_mul_of_nonneg_right hn.1 hz.1
  obtain ⟨p, hp⟩ : ∃ p, p = n * z := ⟨_, rfl⟩
  rw [← hp] at h1 h2 ⊢
  refine ⟨by omega, ?_⟩
  obtain rfl | rfl | rfl | rfl | rfl | rfl | rfl : q = 0 ∨ q = 1 ∨ q = 2 ∨ q = 3 ∨ q = 4 ∨ q = 5 ∨ q = 6 := by omega
  · show -200000000 ≤ p * 1 ∧ p * 1 ≤ 200000000; omega
  · show -200000000 ≤ p * 2 ∧ p * 2 ≤ 200000000; omega
  · show -200000000 ≤ p * 4 ∧ p * 4 ≤ 200000000; omega
  · show -200000000 ≤ p * 8 ∧ p * 8 ≤ 200000000; omega
  · show -200000000 ≤ p * 16 ∧ p * 16 ≤ 200000000; omega
  · show -200000000 ≤ p * 32 ∧ p * 32 ≤ 200000000; omega
  · show -200000000 ≤ p * 64 ∧ p * 64 ≤ 200000000; omega
set_option maxRecDepth 100000 in
set_option maxHeartbeats 40000000 in
theorem l13Fine_calls (A : Option Addr) (c n0 : Nat) (l : List Int) (a1 : Int) (h : okSm l) (hn : n0 = 16) (hln : l.length = n0) (s0 : 0 ≤ a1) (s1 : a1 ≤ 40) (w : World) (hr : Kd.C (Kd.int .i64) w A l.length l) :
    Calls Tryd.prog 26 #[.slice A n0 c, .int .i64 a1] w fun e w' => ∃ v : Value, e = .returned v ∧ Kd.R (Kd.int .i64) 3 w' w.heap.size (fun _ => True) v (tab 16 (sfV l a1)) ∧ Below w.heap.size w w' := by
  have HR := Aside0.mk hr
  have OK := Aside0.mk h
  subst hn
  rw [hln] at HR
  clear hr h hln
  obtain ⟨f, hf⟩ : ∃ f, f = sfV l a1 := ⟨_, rfl⟩
  rw [← hf]
  have HF := Aside0.mk hf
  clear hf
  go_enter Tryd.func26, Tryd.ntmps26
  go_wp2_with (first | ((with_reducible refine gate_dst (N := 10) rfl ?_); refine Kd.R_lit (Kd.int .i64) _ 3 ?hg1 (N := 10) ?hd1 (xs := ([10, 16, 13, 11, 18, 14, 13, 20, 16, 14, 23, 18, 16, 25, 20, 18, 29, 23] : List Int)) (inner := [.int .i64 (10), .int .i64 (16), .int .i64 (13), .int .i64 (11), .int .i64 (18), .int .i64 (14), .int .i64 (13), .int .i64 (20), .int .i64 (16), .int .i64 (14), .int .i64 (23), .int .i64 (18), .int .i64 (16), .int .i64 (25), .int .i64 (20), .int .i64 (18), .int .i64 (29), .int .i64 (23)]) (ok := fun _ => True) (okp := fun _ => True) ?hr1 ?hp1 (fun _ hk => hk) trivial (Below.refl _ _) (Nat.le_refl _) (by simp) ?_; (case hd1 => rfl); (case hg1 => rfl); (case hr1 => first | (go_simp; done) | (go_simp; rfl)); (case hp1 => exact (Reps.one (show Kd.M (Kd.int .i64) _ _ _ (10) [.int .i64 (10)] from rfl) (Reps.one (show Kd.M (Kd.int .i64) _ _ _ (16) [.int .i64 (16)] from rfl) (Reps.one (show Kd.M (Kd.int .i64) _ _ _ (13) [.int .i64 (13)] from rfl) (Reps.one (show Kd.M (Kd.int .i64) _ _ _ (11) [.int .i64 (11)] from rfl) (Reps.one (show Kd.M (Kd.int .i64) _ _ _ (18) [.int .i64 (18)] from rfl) (Reps.one (show Kd.M (Kd.int .i64) _ _ _ (14) [.int .i64 (14)] from rfl) (Reps.one (show Kd.M (Kd.int .i64) _ _ _ (13) [.int .i64 (13)] from rfl) (Reps.one (show Kd.M (Kd.int .i64) _ _ _ (20) [.int .i64 (20)] from rfl) (Reps.one (show Kd.M (Kd.int .i64) _ _ _ (16) [.int .i64 (16)] from rfl) (Reps.one (show Kd.M (Kd.int .i64) _ _ _ (14) [.int .i64 (14)] from rfl) (Reps.one (show Kd.M (Kd.int .i64) _ _ _ (23) [.int .i64 (23)] from rfl) (Reps.one (show Kd.M (Kd.int .i64) _ _ _ (18) [.int .i64 (18)] from rfl) (Reps.one (show Kd.M (Kd.int .i64) _ _ _ (16) [.int .i64 (16)] from rfl) (Reps.one (show Kd.M (Kd.int .i64) _ _ _ (25) [.int .i64 (25)] from rfl) (Reps.one (show Kd.M (Kd.int .i64) _ _ _ (20) [.int .i64 (20)] from rfl) (Reps.one (show Kd.M (Kd.int .i64) _ _ _ (18) [.int .i64 (18)] from rfl) (Reps.one (show Kd.M (Kd.int .i64) _ _ _ (29) [.int .i64 (29)] from rfl) (Reps.one (show Kd.M (Kd.int .i64) _ _ _ (23) [.int .i64 (23)] from rfl) (Reps.none _ _)))))))))))))))))))); intro v1 wj ho hb hg hn; obtain ⟨Aj, cj, rfl⟩ := R_slice_n (n := 18) ho rfl; have HJ := Aside0.mk ho; have HBJ := Aside0.mk hb; clear ho hb hg hn) | ((with_reducible refine gate_dst (N := 11) rfl ?_); (refine Kd.R_make (Kd.int .i64) (w0 := wj) wj.heap.size 3 rfl (N := 11) rfl 22 _ _ rfl (16 : Int) rfl rfl Tryd.underlying22 (.int .i64 0) 8 info3 rfl (by decide) (by omega) 0 (ok := fun _ => True) (okp := fun _ => True) rfl (fun _ hk => hk) trivial (by omega) (by omega) ?mB2 ?mS2 ?_); (case mB2 => first | exact Below.refl _ _ | exact HB.out); (case mS2 => first | exact Nat.le_refl _ | exact below_size HB.out); intro v1 w1 ho hb hg hn; (try rw [Int.toNat_natCast] at ho); obtain ⟨A1, c1, rfl⟩ := R_slice_n (n := 16) ho (by simp); have HO := Aside0.mk ho; have HB := Aside0.mk hb; clear ho hb hg hn))
  have hcj : 18 ≤ cj := (R_cells HJ.out).2.1
  have HJC : Aside0 (Kd.C (Kd.int .i64) wj Aj zvT.length zvT) := ⟨(R_cells HJ.out).2.2⟩
  have HRK := Aside0.mk (Kd.C_below HR.out HBJ.out)
  clear HJ HR
  go_loopg [14] 16 (fun q v14 w' => ∃ (i : Nat) (x : List Int), v14 = .int .i64 (i : Int) ∧ Aside0 (i + q = 16) ∧ Aside0 (Part 16 i x f (fun _ => 0)) ∧ Aside0 (Kd.R (Kd.int .i64) 3 w' wj.heap.size (fun _ => True) (.slice A1 16 c1) x) ∧ Aside0 (Below wj.heap.size wj w'))
  case atStart => exact ⟨0, _, rfl, ⟨by omega⟩, ⟨Part.zeros _ _⟩, HO, HB⟩
  case round =>
    clear HO HB
    obtain ⟨i, x, rfl, Q, PT, HO, HB⟩ := hrel
    by_cases c0 : i < 16
    · obtain ⟨q, rfl⟩ : ∃ q, gk = q + 1 := ⟨gk - 1, by have := Q.out; omega⟩
      have xl : x.length = 16 := PT.out.1
      have nb := OK.out.at c0
      have HQ := Aside0.mk (Kd.C_below HRK.out HB.out)
      have HQJ := Aside0.mk (Kd.C_below HJC.out HB.out)
      obtain ⟨ad1, e1, hx1⟩ := Kd.at_int HQ.out (i : Int) (by omega) (by omega)
      rw [Int.toNat_natCast] at hx1
      obtain ⟨n, hn⟩ : ∃ n, n = rd l (i : Int) := ⟨_, rfl⟩
      rw [← hn] at nb hx1
      obtain ⟨k, hc⟩ : ∃ c, c = cls i := ⟨_, rfl⟩
      have cb := cls_b i
      rw [← hc] at cb
      obtain ⟨r6, hr6⟩ : ∃ r6, r6 = a1 % 6 := ⟨_, rfl⟩
      obtain ⟨q6, hq6⟩ : ∃ q6, q6 = a1 / 6 := ⟨_, rfl⟩
      have b6 : 0 ≤ r6 ∧ r6 ≤ 5 := by omega
      have d6 : 0 ≤ q6 ∧ q6 ≤ 6 := by omega
      obtain ⟨ad2, e2, hx2⟩ := Kd.at_int HQJ.out (3 * r6 + k) (by omega) (by show _ < (18 : Int); omega)
      obtain ⟨z, hz⟩ : ∃ z, z = rd zvT (3 * r6 + k) := ⟨_, rfl⟩
      rw [← hz] at hx2
      have zb := zvT_b (3 * r6 + k).toNat
      rw [show zvT.getD (3 * r6 + k).toNat 0 = z from hz.symm] at zb
      subst e1 e2
      have bb := sf_b nb zb d6
      obtain ⟨p, hp⟩ : ∃ p, p = n * z := ⟨_, rfl⟩
      rw [← hp] at bb
      have pb := bb.1
      obtain ⟨y, hy⟩ : ∃ y, y = p * 2 ^ q6.toNat := ⟨_, rfl⟩
      have yb := bb.2
      rw [← hy] at yb
      have FI : Aside0 (f i = clampS y) := ⟨by rw [HF.out, hy, hp, hn, hz, hc, hr6, hq6]; rfl⟩
      have ep : n * z = p := hp.symm
      have er6 : a1 % 6 = r6 := hr6.symm
      have eq6 : a1 / 6 = q6 := hq6.symm
      have HC := Aside0.mk hc
      have HY := Aside0.mk hy
      clear hn hc hz hp hr6 hq6 hy bb
      go_wp2_with fail
      refine (spec_l13Class.calls 1 _ _ _ (class_eq 0 i c0)).mono ?_
      rw [← HC.out]
      rintro e w2 ⟨rfl, ⟨nd, rfl⟩⟩
      have EV : Aside0 (wrap64 (p * 2 ^ q6.toNat) = y) := ⟨by rw [← HY.out]; exact wrap64_id (n := y) (by omega) (by omega)⟩
      have HO2 := Aside0.mk (Kd.R_drewN HO.out nd)
      have HB2 := Aside0.mk (pw_below_drewN HB.out nd)
      obtain ⟨g, cap, e3, gb, gl, cl, hg⟩ := Kd.R_form HO2.out (by omega)
      rw [xl] at e3
      cases e3
      obtain ⟨hx, hfz⟩ := Kd.R_celln 0 HO2.out (i : Int) (by omega) (by omega)
      rw [Int.toNat_natCast] at hx hfz
      have GB := Aside0.mk gb
      clear gb gl hg HO HB HQ HQJ xl
      go_upto_region 7 with fail
      rw [EV.out]
      by_cases y0 : y < -65536
      · have u0 : decide (y < -65536) = true := decide_eq_true y0
        have HP := Aside0.mk (Kd.R_putn HO2.out (i : Int) (-65536))
        have PT2 := Aside0.mk (PT.out.set c0 (v := -65536) (by rw [FI.out]; unfold clampS; rw [if_pos y0]))
        go_wp2
        go_roundg q
        case measure => omega
        case rel => exact ⟨i + 1, _, by go_num, ⟨by have := Q.out; omega⟩, PT2, HP, ⟨below_set HB2.out GB.out⟩⟩
      · have u0 : decide (y < -65536) = false := decide_eq_false y0
        by_cases y1 : 65535 < y
        · have u1 : decide (65535 < y) = true := decide_eq_true y1
          have HP := Aside0.mk (Kd.R_putn HO2.out (i : Int) (65535))
          have PT2 := Aside0.mk (PT.out.set c0 (v := 65535) (by rw [FI.out]; unfold clampS; rw [if_neg y0, if_pos y1]))
          go_wp2
          go_roundg q
          case measure => omega
          case rel => exact ⟨i + 1, _, by go_num, ⟨by have := Q.out; omega⟩, PT2, HP, ⟨below_set HB2.out GB.out⟩⟩
        · have u1 : decide (65535 < y) = false := decide_eq_false y1
          have HP := Aside0.mk (Kd.R_putn HO2.out (i : Int) (y))
          have PT2 := Aside0.mk (PT.out.set c0 (v := y) (by rw [FI.out]; unfold clampS; rw [if_neg y0, if_neg y1]))
          go_wp2
          go_roundg q
          case measure => omega
          case rel => exact ⟨i + 1, _, by go_num, ⟨by have := Q.out; omega⟩, PT2, HP, ⟨below_set HB2.out GB.out⟩⟩
    · have E2 : Aside0 (x = tab 16 f) := ⟨by have h := PT.out; rw [show i = 16 by have := Q.out; omega] at h; exact h.done⟩
      go_wp2
      go_ret
      rw [E2.out] at HO
      exact ⟨_, rfl, Kd.R_lower HO.out (size_le HBJ.out), below_step HBJ.out HB.out⟩
set_option maxHeartbeats 40000000 in
theorem sf_spec (A0 : Option Addr) (c0 : Nat) (l0 : List Int) (a1 : Int) (hl0 : l0.length ≤ 1048576) (hw0 : ∀ x ∈ l0, (Lit.int .i64 x).wf = true) (w : World) (hc0 : l0.length ≤ c0) (hr0 : Kd.C (Kd.int .i64) w A0 l0.length l0) :
    Calls Tryd.prog 14 #[.slice A0 l0.length c0, .int .i64 a1] w fun e w' => ∃ v : Value, e = .returned v ∧ Kd.R (Kd.int .i64) 3 w' w.heap.size (fun _ => True) v (sfL l0 a1) ∧ Below w.heap.size w w' := by
  have HR := Aside0.mk hr0
  clear hr0 hw0
  obtain ⟨r, hr⟩ : ∃ r, r = sfL l0 a1 := ⟨_, rfl⟩
  rw [← hr]
  have HRr := Aside0.mk hr
  clear hr
  have NIL : ∀ w' : World, Below w.heap.size w w' → r = [] → ∃ v : Value, Ending.returned (.slice none 0 0) = .returned v ∧ Kd.R (Kd.int .i64) 3 w' w.heap.size (fun _ => True) v r ∧ Below w.heap.size w w' := fun w' hb e => by
    rw [e]
    exact ⟨_, rfl, Kd.R_nil _ _ _ _ _, hb⟩
  have NL := Aside0.mk NIL
  clear NIL
  have ZS := Aside0.mk (spec_l13Small.calls (l0.length + 1) A0 c0 l0 _ w HR.out hc0 (small_eq _ l0 hl0 (by omega)))
  rcases hz : (inB (-65536) 65535 l0 && ((l0.length : Int) == 16)) with _ | _
  · have E : Aside0 (r = []) := ⟨by
      rw [HRr.out]; unfold sfL; rw [if_neg]; rintro ⟨h, _⟩
      rw [h.1, beq16, decide_eq_true h.2] at hz
      cases hz⟩
    have HZ := Aside0.mk hz
    clear hz
    go_enter Tryd.func14, Tryd.ntmps14
    go_wp2_with fail
    refine ZS.out.mono ?_
    rw [HZ.out]
    rintro e w1 ⟨rfl, ⟨nd, rfl⟩⟩
    go_wp2
    go_ret
    exact NL.out _ (pw_below_drewN (Below.refl _ _) _) E.out
  have hok : okSm l0 := ⟨(Bool.and_eq_true_iff.1 hz).1, by have := (Bool.and_eq_true_iff.1 hz).2; rw [beq16] at this; exact of_decide_eq_true this⟩
  have HZ := Aside0.mk hz
  have OK := Aside0.mk hok
  clear hz hok
  by_cases h0 : a1 < 0
  · have t0 : decide (a1 < 0) = true := decide_eq_true h0
    have E : Aside0 (r = []) := ⟨by rw [HRr.out]; unfold sfL; rw [if_neg (by omega)]⟩
    go_enter Tryd.func14, Tryd.ntmps14
    go_wp2_with fail
    refine ZS.out.mono ?_
    rw [HZ.out]
    rintro e w1 ⟨rfl, ⟨nd, rfl⟩⟩
    go_wp2
    go_ret
    exact NL.out _ (pw_below_drewN (Below.refl _ _) _) E.out
  have t0 : decide (a1 < 0) = false := decide_eq_false h0
  by_cases h1 : 40 < a1
  · have t1 : decide (40 < a1) = true := decide_eq_true h1
    have E : Aside0 (r = []) := ⟨by rw [HRr.out]; unfold sfL; rw [if_neg (by omega)]⟩
    go_enter Tryd.func14, Tryd.ntmps14
    go_wp2_with fail
    refine ZS.out.mono ?_
    rw [HZ.out]
    rintro e w1 ⟨rfl, ⟨nd, rfl⟩⟩
    go_wp2
    go_ret
    exact NL.out _ (pw_below_drewN (Below.refl _ _) _) E.out
  have t1 : decide (40 < a1) = false := decide_eq_false h1
  have E : Aside0 (r = tab 16 (sfV l0 a1)) := ⟨by rw [HRr.out]; unfold sfL; rw [if_pos ⟨OK.out, by omega, by omega⟩]⟩
  have HL := Aside0.mk OK.out.2
  go_enter Tryd.func14, Tryd.ntmps14
  go_wp2_with fail
  refine ZS.out.mono ?_
  rw [HZ.out]
  rintro e w1 ⟨rfl, ⟨nd, rfl⟩⟩
  go_wp2_with fail
  refine (l13Fine_calls A0 c0 _ l0 a1 OK.out HL.out rfl (by omega) (by omega) _ (Kd.C_drewN HR.out nd)).mono ?_
  rintro e w2 ⟨v, rfl, ho, hb⟩
  rw [← E.out] at ho
  have HO := Aside0.mk ho
  have HB := Aside0.mk hb
  clear ho hb
  go_wp2
  go_ret
  exact ⟨_, rfl, HO.out, below_step (pw_below_drewN (Below.refl _ _) nd) HB.out⟩
end Go.Proofs.YtkhpcclddkddmaaDoor.Wk
