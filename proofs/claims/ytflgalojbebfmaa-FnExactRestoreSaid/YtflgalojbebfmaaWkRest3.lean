/- Walks of this seat's own: what the program's Restore comes to. -/
import Derived.Test.YtflgalojbebfmaaWkRest2
namespace Go.Proofs.Ytflgalojbebfmaa.Wk
open Go.RowKit Go.Proofs.YtflgalojbebfmaaW.PrintWords Go.Proofs.YtflgalojbebfmaaW.PrintLast Go.Proofs.YtflgalojbebfmaaW.PrintMore Go.Proofs.Ytflgalojbebfmaa.My
open Go.Proofs.Ytflgalojbebfmaa.PFnExactResidue
set_option linter.unusedVariables false
set_option linter.unusedSimpArgs false
set_option maxRecDepth 100000
set_option maxHeartbeats 40000000 in
theorem rest_impl (a0 : Int) (B1 : Option Addr) (d1 : Nat) (l1 : List Int) (hl1 : l1.length ≤ 1048576) (hw1 : ∀ x ∈ l1, (Lit.int .i64 x).wf = true) (w : World) (hc1 : l1.length ≤ d1) (hr1 : Kd.C (Kd.int .i64) w B1 l1.length l1) :
    Calls Try.prog 34 #[.int .i64 a0, .slice B1 l1.length d1] w fun e w' => ∃ v : Value, e = .returned v ∧ Kd.R (Kd.int .i64) 3 w' w.heap.size (fun _ => True) v (restL a0 l1) ∧ Below w.heap.size w w' := by
  have HR1 := Aside0.mk hr1
  clear hr1 hw1
  obtain ⟨r, hr⟩ : ∃ r, r = restL a0 l1 := ⟨_, rfl⟩
  rw [← hr]
  have HRr := Aside0.mk hr
  clear hr
  have NIL : ∀ w' : World, Below w.heap.size w w' → r = [] → ∃ v : Value, Ending.returned (.slice none 0 0) = .returned v ∧ Kd.R (Kd.int .i64) 3 w' w.heap.size (fun _ => True) v r ∧ Below w.heap.size w w' := fun w' hb e => by
    rw [e]
    exact ⟨_, rfl, Kd.R_nil _ _ _ _ _, hb⟩
  have NL := Aside0.mk NIL
  clear NIL
  have ZR : ∀ w' : World, Kd.C (Kd.int .i64) w' B1 l1.length l1 → Calls Try.prog 60 #[.slice B1 l1.length d1, .int .i64 (-2147483648), .int .i64 2147483647, .int .i64 4000] w' fun e w'' => e = .returned (.bool (decide ((l1.length : Int) ≤ 4000) && inB (-2147483648) 2147483647 l1)) ∧ Drawn0 w' w'' := fun w' h =>
    impl_zrange.calls (l1.length + 1) B1 d1 l1 _ _ _ _ w' h hc1 (zrange_eq _ l1 _ _ _ hl1 (by omega))
  have ZRa := Aside0.mk ZR
  clear ZR
  rcases hz : (decide ((l1.length : Int) ≤ 4000) && inB (-2147483648) 2147483647 l1) with _ | _
  · have E : Aside0 (r = []) := ⟨by
      rw [HRr.out]; unfold restL; rw [if_neg]; rintro ⟨_, _, h3, h4, _⟩
      rw [h4, Bool.and_true] at hz
      have := of_decide_eq_false hz
      omega⟩
    have HZ := Aside0.mk hz
    clear hz
    go_enter Try.func34, Try.ntmps34
    go_wp2_with fail
    refine (ZRa.out _ HR1.out).mono ?_
    rw [HZ.out]
    rintro e w1 ⟨rfl, ⟨nd, rfl⟩⟩
    go_wp2
    go_ret
    exact NL.out _ (pw_below_drewN (Below.refl _ _) _) E.out
  have z1 := (Bool.and_eq_true_iff.1 hz).1
  have IN := Aside0.mk (Bool.and_eq_true_iff.1 hz).2
  have h2 : (l1.length : Int) ≤ 4000 := of_decide_eq_true z1
  have HZ := Aside0.mk hz
  clear hz z1
  by_cases h0 : a0 < 0
  · have t0 : decide (a0 < 0) = true := decide_eq_true h0
    have E : Aside0 (r = []) := ⟨by rw [HRr.out]; unfold restL; rw [if_neg (by omega)]⟩
    go_enter Try.func34, Try.ntmps34
    go_wp2_with fail
    refine (ZRa.out _ HR1.out).mono ?_
    rw [HZ.out]
    rintro e w1 ⟨rfl, ⟨nd, rfl⟩⟩
    go_wp2
    go_ret
    exact NL.out _ (pw_below_drewN (Below.refl _ _) _) E.out
  have t0 : decide (a0 < 0) = false := decide_eq_false h0
  by_cases h1 : 4 < a0
  · have t1 : decide (4 < a0) = true := decide_eq_true h1
    have E : Aside0 (r = []) := ⟨by rw [HRr.out]; unfold restL; rw [if_neg (by omega)]⟩
    go_enter Try.func34, Try.ntmps34
    go_wp2_with fail
    refine (ZRa.out _ HR1.out).mono ?_
    rw [HZ.out]
    rintro e w1 ⟨rfl, ⟨nd, rfl⟩⟩
    go_wp2
    go_ret
    exact NL.out _ (pw_below_drewN (Below.refl _ _) _) E.out
  have t1 : decide (4 < a0) = false := decide_eq_false h1
  obtain ⟨f, hf⟩ : ∃ f, f = rsV a0 l1 := ⟨_, rfl⟩
  have HF := Aside0.mk hf
  clear hf
  go_enter Try.func34, Try.ntmps34
  go_wp2_with fail
  refine (ZRa.out _ HR1.out).mono ?_
  rw [HZ.out]
  rintro e w1 ⟨rfl, ⟨nd, rfl⟩⟩
  go_wp2_with fail
  refine (impl_zcopy.calls B1 d1 l1 l1 _ (Kd.C_drewN HR1.out nd) hc1 (zcopy_eq l1 hl1)).mono ?_
  rintro e w1 ⟨v1, rfl, ho, hb⟩
  obtain ⟨A1, c1, rfl⟩ := Kd.R_slice ho
  have HO : Aside0 (Kd.R (Kd.int .i64) 3 w1 w.heap.size (fun _ => True) (.slice A1 l1.length c1) l1) := ⟨ho⟩
  have HB := Aside0.mk (below_step (pw_below_drewN (Below.refl w.heap.size w) nd) hb)
  clear ho hb
  go_wp2
  go_loopg [22] l1.length (fun q v22 w' => ∃ (i : Nat) (x : List Int), v22 = .int .i64 (i : Int) ∧ Aside0 (i + q = l1.length) ∧ Aside0 (Part l1.length i x f (fun j => l1.getD j 0)) ∧ Aside0 (∀ j, j < i → -67108864 ≤ f j ∧ f j ≤ 67108863) ∧ Aside0 (Kd.R (Kd.int .i64) 3 w' w.heap.size (fun _ => True) (.slice A1 l1.length c1) x) ∧ Aside0 (Below w.heap.size w w'))
  case atStart => exact ⟨0, _, rfl, ⟨by omega⟩, ⟨Part.start f rfl⟩, ⟨fun j hj => by omega⟩, HO, HB⟩
  case round =>
    clear HO HB
    obtain ⟨i, x, rfl, Q, PT, FB, HO, HB⟩ := hrel
    by_cases c0 : i < l1.length
    · obtain ⟨q, rfl⟩ : ∃ q', gk = q' + 1 := ⟨gk - 1, by have := Q.out; omega⟩
      have xl : x.length = l1.length := PT.out.1
      obtain ⟨b, hb⟩ : ∃ b, b = rd l1 (i : Int) := ⟨_, rfl⟩
      have HBV := Aside0.mk hb
      have XB : Aside0 (x.getD i 0 = b) := ⟨by rw [PT.out.2.2 i (by omega) c0, hb, rd_nat]⟩
      obtain ⟨g, cap, e2, gb, gl, cl, hg⟩ := Kd.R_form HO.out (by omega)
      rw [xl] at e2
      cases e2
      have GB := Aside0.mk gb
      clear gb gl hg hb
      have HP := HO
      have HB3 := HB
      obtain ⟨w3, h3⟩ : ∃ w3, w3 = wr := ⟨_, rfl⟩
      rw [← h3] at HP HB3 ⊢
      clear h3 HO HB
      by_cases d : a0 ≤ (i : Int)
      · have td : decide (a0 ≤ (i : Int)) = true := decide_eq_true d
        obtain ⟨gv, hgv⟩ : ∃ gv, gv = gV a0 (rsL a0 l1 i) i := ⟨_, rfl⟩
        obtain ⟨v, hv⟩ : ∃ v, v = f i := ⟨_, rfl⟩
        have VF := Aside0.mk hv
        have HV : Aside0 (IntKind.i64.wrap (b + gv) = v) := ⟨by rw [hv, HF.out, rsV_eq, if_pos d, ← HBV.out, ← hgv]; exact i64_wrap _⟩
        have GE : impl_zguess.f a0 (x) (i : Int) = some gv := by
          have h := PT.out
          rw [HF.out] at h
          rw [hgv]
          exact gV_eq a0 x _ i (by omega) (by omega) d (by omega) (by omega) (rsL_length a0 l1 i) (fun j hj => by rw [h.2.1 j hj, rsL_get a0 l1 i j hj])
        have GC : Aside0 (∀ m : Nat, Calls Try.prog 62 #[.int .i64 a0, .slice (some ⟨g, 0, none⟩) l1.length c1, .int .i64 (i : Int)] (w3.drewN m) fun e w' => e = .returned (.int .i64 gv) ∧ Drawn0 (w3.drewN m) w') := ⟨fun m =>
          gu_implN a0 (some ⟨g, 0, none⟩) c1 (x) l1.length xl (i : Int) gv GE (R_cells HP.out).2.1 _ (Kd.C_drewN (R_cells HP.out).2.2 m)⟩
        have hx : w3.cell? ⟨g, i, none⟩ = some (.int .i64 b) := cell_at HP.out i c0 XB.out
        have hfz := (Kd.R_celln 0 HP.out (i : Int) (by omega) (by omega)).2
        rw [Int.toNat_natCast] at hfz
        clear hv hgv GE xl
        go_upto_region 8 with fail
        go_cut [] (fun wx => Aside0 (Kd.R (Kd.int .i64) 3 wx w.heap.size (fun _ => True) (.slice (some ⟨g, 0, none⟩) l1.length c1) (x.set i v)) ∧ Aside0 (Below w.heap.size w wx))
        case first =>
          go_region_with (first | (go_at_call 62; refine (GC.out _).mono ?_; rintro e wn ⟨rfl, ⟨k, rfl⟩⟩))
          all_goals (go_wp2_with fail; go_meet; exact ⟨⟨by rw [← HV.out]; exact Kd.R_putn (Kd.R_drewN HP.out _) (i : Int) _⟩, ⟨below_set (pw_below_drewN HB3.out _) GB.out⟩⟩)
        case rest =>
          obtain ⟨HP2, HB4⟩ := hcut
          have xl : x.length = l1.length := PT.out.1
          clear hx hfz HP HB3
          have hy : wc.cell? ⟨g, i, none⟩ = some (.int .i64 v) := cell_at HP2.out i c0 (getD_set (by omega) v)
          have PT2 := Aside0.mk (PT.out.set c0 (v := v) VF.out)
          clear xl
          by_cases b1 : v < -67108864
          · have s1 : decide (v < -67108864) = true := decide_eq_true b1
            have E : Aside0 (r = []) := ⟨by rw [HRr.out]; exact restL_bad c0 (by rw [← HF.out, ← VF.out]; omega)⟩
            go_wp2
            go_ret
            exact NL.out _ HB4.out E.out
          · have s1 : decide (v < -67108864) = false := decide_eq_false b1
            by_cases b2 : 67108863 < v
            · have s2 : decide (67108863 < v) = true := decide_eq_true b2
              have E : Aside0 (r = []) := ⟨by rw [HRr.out]; exact restL_bad c0 (by rw [← HF.out, ← VF.out]; omega)⟩
              go_wp2
              go_ret
              exact NL.out _ HB4.out E.out
            · have s2 : decide (67108863 < v) = false := decide_eq_false b2
              have FB2 : Aside0 (∀ j, j < i + 1 → -67108864 ≤ f j ∧ f j ≤ 67108863) := ⟨fun j hj => by
                by_cases e : j = i
                · rw [e, ← VF.out]; omega
                · exact FB.out j (by omega)⟩
              go_wp2
              go_roundg q
              case measure => omega
              case rel => exact ⟨i + 1, _, by go_num, ⟨by have := Q.out; omega⟩, PT2, FB2, HP2, HB4⟩
      · have td : decide (a0 ≤ (i : Int)) = false := decide_eq_false d
        have VF : Aside0 (b = f i) := ⟨by rw [HF.out, rsV_eq, if_neg d, ← HBV.out]⟩
        have hy : w3.cell? ⟨g, i, none⟩ = some (.int .i64 b) := cell_at HP.out i c0 XB.out
        have PT2 := Aside0.mk (PT.out.skip c0 (by show l1.getD i 0 = f i; rw [← VF.out, HBV.out, rd_nat]))
        clear xl
        by_cases b1 : b < -67108864
        · have s1 : decide (b < -67108864) = true := decide_eq_true b1
          have E : Aside0 (r = []) := ⟨by rw [HRr.out]; exact restL_bad c0 (by rw [← HF.out, ← VF.out]; omega)⟩
          go_wp2
          go_ret
          exact NL.out _ HB3.out E.out
        · have s1 : decide (b < -67108864) = false := decide_eq_false b1
          by_cases b2 : 67108863 < b
          · have s2 : decide (67108863 < b) = true := decide_eq_true b2
            have E : Aside0 (r = []) := ⟨by rw [HRr.out]; exact restL_bad c0 (by rw [← HF.out, ← VF.out]; omega)⟩
            go_wp2
            go_ret
            exact NL.out _ HB3.out E.out
          · have s2 : decide (67108863 < b) = false := decide_eq_false b2
            have FB2 : Aside0 (∀ j, j < i + 1 → -67108864 ≤ f j ∧ f j ≤ 67108863) := ⟨fun j hj => by
              by_cases e : j = i
              · rw [e, ← VF.out]; omega
              · exact FB.out j (by omega)⟩
            go_wp2
            go_roundg q
            case measure => omega
            case rel => exact ⟨i + 1, _, by go_num, ⟨by have := Q.out; omega⟩, PT2, FB2, HP, HB3⟩
    · have E2 : Aside0 (r = x) := ⟨by
        have h := PT.out
        rw [show i = l1.length by have := Q.out; omega] at h
        rw [HRr.out, h.done, HF.out]
        unfold restL
        rw [if_pos]
        refine ⟨by omega, by omega, by omega, IN.out, inB_iff.2 fun j hj => ?_⟩
        rw [tab_length] at hj
        rw [tab_get hj, ← HF.out]
        exact FB.out j (by have := Q.out; omega)⟩
      go_wp2
      go_ret
      rw [E2.out]
      exact ⟨_, rfl, HO.out, HB.out⟩
end Go.Proofs.Ytflgalojbebfmaa.Wk
