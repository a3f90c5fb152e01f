/- Walks of this seat's own: what the two SmallCoarse come to. -/
import Derived.Test.YtkhpcclddkddmaaDoorWkCoa
namespace Go.Proofs.YtkhpcclddkddmaaDoor.Wk
open Go.RowKit Go.Proofs.YtkhpcclddkddmaaDoorW.PrintWords Go.Proofs.YtkhpcclddkddmaaDoorW.PrintLast Go.Proofs.YtkhpcclddkddmaaDoorW.PrintMore Go.Proofs.YtkhpcclddkddmaaDoor.My
open Go.Proofs.YtkhpcclddkddmaaDoor.PFnExactSmallCoarse
set_option linter.unusedVariables false
set_option linter.unusedSimpArgs false
attribute [local go_sem] max2_int min2_int max_two min_two
theorem drawn0_ex {w w' : World} (h : Drawn0 w w') : ∃ n, w' = w.drewN n := by
  obtain ⟨n, e⟩ := h
  exact ⟨n, e⟩
theorem sc_spec (A0 : Option Addr) (c0 : Nat) (l0 : List Int) (a1 : Int) (hl0 : l0.length ≤ 1048576) (hw0 : ∀ x ∈ l0, (Lit.int .i64 x).wf = true) (w : World) (hc0 : l0.length ≤ c0) (hr0 : Kd.C (Kd.int .i64) w A0 l0.length l0) :
    Calls Tryd.prog 16 #[.slice A0 l0.length c0, .int .i64 a1] w fun e w' => ∃ v : Value, e = .returned v ∧ Kd.R (Kd.int .i64) 3 w' w.heap.size (fun _ => True) v (scL l0 a1) ∧ Below w.heap.size w w' :=
  spec_SmallCoarse.calls 1048701 A0 c0 l0 a1 _ w hr0 hc0 (sc_eq l0 a1 hl0 _ (by omega))
theorem sc_shift (u q : Int) (h : 0 ≤ q ∧ q ≤ 6) : wrap64 (wrap64 u + wrap64 (2 ^ (14 + q).toNat)) / 2 ^ (15 + q).toNat = shr .i64 (wrap64 (wrap64 u + shl .i64 1 (14 + q))) (15 + q) := by
  unfold shr shl
  rw [i64_wrap, Int.one_mul, show min (14 + q).toNat IntKind.i64.bits = (14 + q).toNat from Nat.min_eq_left (by show _ ≤ 64; omega), show min (15 + q).toNat IntKind.i64.bits = (15 + q).toNat from Nat.min_eq_left (by show _ ≤ 64; omega)]
theorem sc_bound (v q : Int) (h : 0 ≤ q ∧ q ≤ 6) : -1000000000000000 ≤ wrap64 v / 2 ^ (15 + q).toNat ∧ wrap64 v / 2 ^ (15 + q).toNat ≤ 1000000000000000 := by
  have hw : -9223372036854775808 ≤ wrap64 v ∧ wrap64 v ≤ 9223372036854775807 := by unfold wrap64; omega
  obtain ⟨u, hu⟩ : ∃ u, u = wrap64 v := ⟨_, rfl⟩
  rw [← hu] at hw ⊢
  obtain rfl | rfl | rfl | rfl | rfl | rfl | rfl : q = 0 ∨ q = 1 ∨ q = 2 ∨ q = 3 ∨ q = 4 ∨ q = 5 ∨ q = 6 := by omega
  · show -1000000000000000 ≤ u / 32768 ∧ u / 32768 ≤ 1000000000000000; omega
  · show -1000000000000000 ≤ u / 65536 ∧ u / 65536 ≤ 1000000000000000; omega
  · show -1000000000000000 ≤ u / 131072 ∧ u / 131072 ≤ 1000000000000000; omega
  · show -1000000000000000 ≤ u / 262144 ∧ u / 262144 ≤ 1000000000000000; omega
  · show -1000000000000000 ≤ u / 524288 ∧ u / 524288 ≤ 1000000000000000; omega
  · show -1000000000000000 ≤ u / 1048576 ∧ u / 1048576 ≤ 1000000000000000; omega
  · show -1000000000000000 ≤ u / 2097152 ∧ u / 2097152 ≤ 1000000000000000; omega
set_option maxRecDepth 100000 in
set_option maxHeartbeats 40000000 in
theorem sc_impl (A0 : Option Addr) (c0 : Nat) (l0 : List Int) (a1 : Int) (hl0 : l0.length ≤ 1048576) (hw0 : ∀ x ∈ l0, (Lit.int .i64 x).wf = true) (w : World) (hc0 : l0.length ≤ c0) (hr0 : Kd.C (Kd.int .i64) w A0 l0.length l0) (hT : MT w) :
    Calls Tryd.prog 17 #[.slice A0 l0.length c0, .int .i64 a1] w fun e w' => ∃ v : Value, e = .returned v ∧ Kd.R (Kd.int .i64) 3 w' w.heap.size (fun _ => True) v (scL l0 a1) ∧ Below w.heap.size w w' := by
  have HT := Aside0.mk hT
  have HR := Aside0.mk hr0
  clear hT hr0 hw0
  obtain ⟨r, hr⟩ : ∃ r, r = scL l0 a1 := ⟨_, rfl⟩
  rw [← hr]
  have HRr := Aside0.mk hr
  clear hr
  have NIL : ∀ w' : World, Below w.heap.size w w' → r = [] → ∃ v : Value, Ending.returned (.slice none 0 0) = .returned v ∧ Kd.R (Kd.int .i64) 3 w' w.heap.size (fun _ => True) v r ∧ Below w.heap.size w w' := fun w' hb e => by
    rw [e]
    exact ⟨_, rfl, Kd.R_nil _ _ _ _ _, hb⟩
  have NL := Aside0.mk NIL
  clear NIL
  have ZS := Aside0.mk (impl_zsmall.calls (l0.length + 1) A0 c0 l0 _ w HR.out hc0 (zsmall_eq _ l0 hl0 (by omega)))
  rcases hz : (inB (-65536) 65535 l0 && decide (l0.length = 16)) with _ | _
  · have E : Aside0 (r = []) := ⟨by
      rw [HRr.out]; unfold scL; rw [if_neg]; rintro ⟨h, _⟩
      rw [h.1, decide_eq_true h.2] at hz
      cases hz⟩
    have HZ := Aside0.mk hz
    clear hz
    go_enter Tryd.func17, Tryd.ntmps17
    go_wp2_with fail
    refine ZS.out.mono ?_
    rw [HZ.out]
    rintro e w1 ⟨rfl, ⟨nd, rfl⟩⟩
    go_wp2
    go_ret
    exact NL.out _ (pw_below_drewN (Below.refl _ _) _) E.out
  have hok : okSm l0 := ⟨(Bool.and_eq_true_iff.1 hz).1, of_decide_eq_true (Bool.and_eq_true_iff.1 hz).2⟩
  have HZ := Aside0.mk hz
  have OK := Aside0.mk hok
  have hlen := hok.2
  clear hz hok
  by_cases h0 : a1 < 0
  · have t0 : decide (a1 < 0) = true := decide_eq_true h0
    have E : Aside0 (r = []) := ⟨by rw [HRr.out]; unfold scL; rw [if_neg (by omega)]⟩
    clear hlen
    go_enter Tryd.func17, Tryd.ntmps17
    go_wp2_with fail
    refine ZS.out.mono ?_
    rw [HZ.out]
    rintro e w1 ⟨rfl, ⟨nd, rfl⟩⟩
    go_wp2
    go_ret
    exact NL.out _ (pw_below_drewN (Below.refl _ _) _) E.out
  have t0 : decide (a1 < 0) = false := decide_eq_false h0
  by_cases h1 : 40 < a1
  · have t1 : decide (40 < a1) = true := decide_eq_true h1
    have E : Aside0 (r = []) := ⟨by rw [HRr.out]; unfold scL; rw [if_neg (by omega)]⟩
    clear hlen
    go_enter Tryd.func17, Tryd.ntmps17
    go_wp2_with fail
    refine ZS.out.mono ?_
    rw [HZ.out]
    rintro e w1 ⟨rfl, ⟨nd, rfl⟩⟩
    go_wp2
    go_ret
    exact NL.out _ (pw_below_drewN (Below.refl _ _) _) E.out
  have t1 : decide (40 < a1) = false := decide_eq_false h1
  have E : Aside0 (r = tab 16 (scV l0 a1)) := ⟨by rw [HRr.out]; unfold scL; rw [if_pos ⟨OK.out, by omega, by omega⟩]⟩
  obtain ⟨f, hf⟩ : ∃ f, f = scV l0 a1 := ⟨_, rfl⟩
  have HF := Aside0.mk hf
  have HL := Aside0.mk hlen
  clear hf hlen
  go_enter Tryd.func17, Tryd.ntmps17
  go_wp2_with fail
  refine ZS.out.mono ?_
  rw [HZ.out]
  rintro e w1 ⟨rfl, ⟨nd, rfl⟩⟩
  go_wp2_with fail
  refine (impl_zcopy.calls A0 c0 l0 l0 _ (Kd.C_drewN HR.out nd) hc0 (zcopy_eq l0 hl0)).mono ?_
  rintro e w1 ⟨v1, rfl, ho, hb⟩
  obtain ⟨A1, c1, rfl⟩ := R_slice_n (n := 16) ho HL.out
  have HO : Aside0 (Kd.R (Kd.int .i64) 3 w1 w.heap.size (fun _ => True) (.slice A1 16 c1) l0) := ⟨ho⟩
  have HB := Aside0.mk (below_step (pw_below_drewN (Below.refl w.heap.size w) nd) hb)
  clear ho hb
  obtain ⟨r6, hr6⟩ : ∃ r6, r6 = a1 % 6 := ⟨_, rfl⟩
  obtain ⟨q6, hq6⟩ : ∃ q6, q6 = a1 / 6 := ⟨_, rfl⟩
  have b6 : 0 ≤ r6 ∧ r6 ≤ 5 := by omega
  have d6 : 0 ≤ q6 ∧ q6 ≤ 6 := by omega
  have R6 := Aside0.mk hr6
  have Q6 := Aside0.mk hq6
  go_upto_region 5 with fail
  rw [← hr6, ← hq6]
  clear hr6 hq6
  go_wp2
  go_loopg [30] 16 (fun q v30 w' => ∃ (i : Nat) (x : List Int), v30 = .int .i64 (i : Int) ∧ Aside0 (i + q = 16) ∧ Aside0 (Part 16 i x f (fun j => l0.getD j 0)) ∧ Aside0 (Kd.R (Kd.int .i64) 3 w' w.heap.size (fun _ => True) (.slice A1 16 c1) x) ∧ Aside0 (Below w.heap.size w w'))
  case atStart => exact ⟨0, _, rfl, ⟨by omega⟩, ⟨Part.start f HL.out⟩, HO, HB⟩
  case round =>
    clear HO HB
    obtain ⟨i, x, rfl, Q, PT, HO, HB⟩ := hrel
    by_cases c0 : i < 16
    · obtain ⟨q, rfl⟩ : ∃ q, gk = q + 1 := ⟨gk - 1, by have := Q.out; omega⟩
      have xl : x.length = 16 := PT.out.1
      have nb := OK.out.at c0
      obtain ⟨n, hn⟩ : ∃ n, n = rd l0 (i : Int) := ⟨_, rfl⟩
      rw [← hn] at nb
      obtain ⟨g, cap, e2, gb, gl, cl, hg⟩ := Kd.R_form HO.out (by omega)
      rw [xl] at e2
      cases e2
      have XB : Aside0 (x.getD i 0 = n) := ⟨by rw [PT.out.2.2 i (by omega) c0, hn, rd_nat]⟩
      have hx : wr.cell? ⟨g, i, none⟩ = some (.int .i64 n) := by
        have h2 := (Kd.R_celln 0 HO.out (i : Int) (by omega) (by omega)).1
        rw [Int.toNat_natCast] at h2
        rw [h2, ← XB.out]
        rfl
      have hfz := (Kd.R_celln 0 HO.out (i : Int) (by omega) (by omega)).2
      rw [Int.toNat_natCast] at hfz
      have GB := Aside0.mk gb
      obtain ⟨c, hc⟩ : ∃ c, c = cls i := ⟨_, rfl⟩
      have cb := cls_b i
      rw [← hc] at cb
      obtain ⟨z, hz⟩ : ∃ z, z = rd zmT (3 * r6 + c) := ⟨_, rfl⟩
      have zb := zmT_b (3 * r6 + c).toNat
      rw [show zmT.getD (3 * r6 + c).toNat 0 = z from hz.symm] at zb
      have hxz : wr.cell? ⟨2, r6.toNat * 3 + c.toNat, none⟩ = some (.int .i64 z) := by rw [hz, show r6.toNat * 3 + c.toNat = (3 * r6 + c).toNat by omega]; exact (HT.out.stay HB.out) _ (by omega)
      have HN := Aside0.mk hn
      have HC := Aside0.mk hc
      have HZ' := Aside0.mk hz
      have CQ : Aside0 (∀ k : Nat, Calls Tryd.prog 27 #[.int .i64 (i : Int)] (wr.drewN k) fun e w'' => e = .returned (.int .i64 c) ∧ ∃ j, w'' = (wr.drewN k).drewN j) := ⟨fun k => (zclass_calls i c0 _).mono fun e w'' h => ⟨by rw [h.1, HC.out], 0, h.2⟩⟩
      obtain ⟨y, hy⟩ : ∃ y, y = scX l0 a1 i := ⟨_, rfl⟩
      have EV : Aside0 (wrap64 (wrap64 ((if n < -n then -n else n) * z) + wrap64 (2 ^ (14 + q6).toNat)) / 2 ^ (15 + q6).toNat = y) := ⟨by
        rw [hy]; unfold scX
        rw [← hn, ← Q6.out, ← R6.out, ← hc, ← hz, show iabs n = (if n < -n then -n else n) by unfold iabs; split <;> split <;> omega]
        exact sc_shift _ q6 d6⟩
      have yb : -1000000000000000 ≤ y ∧ y ≤ 1000000000000000 := by rw [← EV.out]; exact sc_bound _ q6 d6
      have HY := Aside0.mk hy
      clear hn hc hz hy gb gl hg xl
      have p1 : 0 ≤ r6 := b6.1
      have p2 : r6 < 6 := by omega
      have p3 : 0 ≤ c := cb.1
      have p4 : c < 3 := by omega
      go_wp2_with fail
      go_quiet ((go_at_call 27; exact Calls.quiet_of (CQ.out _)))
      rw [EV.out]
      have HO2 := Aside0.mk (Kd.R_drewN HO.out nq)
      have HB2 := Aside0.mk (pw_below_drewN HB.out nq)
      by_cases n0 : n < 0
      · have s0 : decide (n < 0) = true := decide_eq_true n0
        have HP := Aside0.mk (Kd.R_putn HO2.out (i : Int) (-y))
        have PT2 := Aside0.mk (PT.out.set c0 (v := -y) (by rw [HF.out]; unfold scV; rw [← HN.out, if_pos n0, ← HY.out]; exact (wrap64_id (n := -y) (by omega) (by omega)).symm))
        clear HO HB
        go_wp2
        go_roundg q
        case measure => omega
        case rel => exact ⟨i + 1, _, by go_num, ⟨by have := Q.out; omega⟩, PT2, HP, ⟨below_set HB2.out GB.out⟩⟩
      · have s0 : decide (n < 0) = false := decide_eq_false n0
        have HP := Aside0.mk (Kd.R_putn HO2.out (i : Int) y)
        have PT2 := Aside0.mk (PT.out.set c0 (v := y) (by rw [HF.out]; unfold scV; rw [← HN.out, if_neg n0, ← HY.out]))
        clear HO HB
        go_wp2
        go_roundg q
        case measure => omega
        case rel => exact ⟨i + 1, _, by go_num, ⟨by have := Q.out; omega⟩, PT2, HP, ⟨below_set HB2.out GB.out⟩⟩
    · have E2 : Aside0 (x = r) := ⟨by have h := PT.out; rw [show i = 16 by have := Q.out; omega] at h; rw [E.out, ← HF.out]; exact h.done⟩
      go_wp2
      go_ret
      rw [E2.out] at HO
      exact ⟨_, rfl, HO.out, HB.out⟩
end Go.Proofs.YtkhpcclddkddmaaDoor.Wk
