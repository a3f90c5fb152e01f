/- Walks of this seat's own: what the two Unlap come to. -/
import Derived.Test.YtkhpcclddkddmaaDoorWkUnl
import Derived.Test.YtkhpcclddkddmaaDoorPFnExactSmallCoarsex2
namespace Go.Proofs.YtkhpcclddkddmaaDoor.Wk
open Go.RowKit Go.Proofs.YtkhpcclddkddmaaDoorW.PrintWords Go.Proofs.YtkhpcclddkddmaaDoorW.PrintLast Go.Proofs.YtkhpcclddkddmaaDoorW.PrintMore Go.Proofs.YtkhpcclddkddmaaDoor.My
open Go.Proofs.YtkhpcclddkddmaaDoor.PFnExactSmallCoarse
set_option linter.unusedVariables false
set_option linter.unusedSimpArgs false
theorem zrange_eq (k : Nat) (l : List Int) (lo hi most : Int) (hl : l.length ≤ 1048576) (hk : l.length < k) : impl_zrange.f k l lo hi most = some (decide ((l.length : Int) ≤ most) && inB lo hi l) := by
  unfold impl_zrange.f
  by_cases h : (l.length : Int) > most
  · rw [if_pos h, decide_eq_false (by omega), Bool.false_and]
  rw [if_neg h, decide_eq_true (by omega), Bool.true_and, ← Bool.and_true (inB lo hi l)]
  refine range_loop (F := fun k i => impl_zrange.l0 k lo hi l (l.length : Int) i) (c := 0) (fun k i hi => ?_) (fun k => ?_) k (by omega)
  · simp only [impl_zrange.l0, rd_nat]
    rw [wrap64_nat (by omega)]
    simp (disch := omega) only [if_pos, if_neg, decide_eq_true, decide_eq_false, if_true, Bool.false_eq_true, if_false, wrap64_id, u64_id, Option.bind_some]
  · simp only [impl_zrange.l0]
    rw [if_neg (by omega)]
theorem neq16 (n : Nat) : ((n : Int) != 16) = !decide (n = 16) := by
  rw [Bool.eq_iff_iff]; simp; omega
set_option maxHeartbeats 40000000 in
theorem unl_impl (A0 : Option Addr) (c0 : Nat) (l0 : List Int) (hl0 : l0.length ≤ 1048576) (hw0 : ∀ x ∈ l0, (Lit.int .i64 x).wf = true) (w : World) (hc0 : l0.length ≤ c0) (hr0 : Kd.C (Kd.int .i64) w A0 l0.length l0) (hT : KT w) :
    Calls Tryd.prog 21 #[.slice A0 l0.length c0] w fun e w' => ∃ v : Value, e = .returned v ∧ Kd.R (Kd.int .i64) 3 w' w.heap.size (fun _ => True) v (unlL l0) ∧ Below w.heap.size w w' := by
  have HT := Aside0.mk hT
  have HR := Aside0.mk hr0
  clear hT hr0 hw0
  by_cases h1 : l0.length = 16
  case neg =>
    have E : Aside0 (unlL l0 = []) := ⟨by unfold unlL; rw [if_neg (fun h => h1 h.2)]⟩
    have t1 : ((l0.length : Int) != 16) = true := by rw [neq16, decide_eq_false h1]; rfl
    clear h1
    go_enter Tryd.func21, Tryd.ntmps21
    go_wp2
    go_ret
    rw [E.out]
    exact ⟨_, rfl, Kd.R_nil _ _ _ _ _, Below.refl _ _⟩
  have t1 : ((l0.length : Int) != 16) = false := by rw [neq16, decide_eq_true h1]; rfl
  have ZR := Aside0.mk (impl_zrange.calls (l0.length + 1) A0 c0 l0 (-1048576) 1048575 16 _ w HR.out hc0 (zrange_eq _ l0 _ _ _ hl0 (by omega)))
  have H1 := Aside0.mk h1
  rcases hd : inB (-1048576) 1048575 l0 with _ | _
  · have E : Aside0 (unlL l0 = []) := ⟨by unfold unlL; rw [if_neg (fun h => by rw [hd] at h; cases h.1)]⟩
    have HZ : Aside0 ((decide ((l0.length : Int) ≤ 16) && inB (-1048576) 1048575 l0) = false) := ⟨by rw [hd, Bool.and_false]⟩
    clear hd h1
    go_enter Tryd.func21, Tryd.ntmps21
    go_wp2_with fail
    refine ZR.out.mono ?_
    rw [HZ.out]
    rintro e w1 ⟨rfl, ⟨nd, rfl⟩⟩
    go_wp2
    go_ret
    rw [E.out]
    exact ⟨_, rfl, Kd.R_nil _ _ _ _ _, pw_below_drewN (Below.refl _ _) _⟩
  · have E : Aside0 (unlL l0 = tab 32 (uV l0)) := ⟨by unfold unlL; rw [if_pos ⟨hd, h1⟩]⟩
    have OK : Aside0 (okU l0) := ⟨inB_U.1 ⟨hd, h1⟩⟩
    have HZ : Aside0 ((decide ((l0.length : Int) ≤ 16) && inB (-1048576) 1048575 l0) = true) := ⟨by rw [hd, Bool.and_true]; exact decide_eq_true (by omega)⟩
    clear hd h1
    go_enter Tryd.func21, Tryd.ntmps21
    go_wp2_with fail
    refine ZR.out.mono ?_
    rw [HZ.out]
    rintro e w1 ⟨rfl, ⟨nd, rfl⟩⟩
    go_wp2_with fail
    refine (zunlap_calls A0 c0 _ l0 OK.out H1.out rfl _ (HT.out.stay (pw_below_drewN (Below.refl _ _) nd)) (Kd.C_drewN HR.out nd)).mono ?_
    rintro e w2 ⟨v, rfl, ho, hb⟩
    rw [← E.out] at ho
    have HO := Aside0.mk ho
    have HB := Aside0.mk hb
    clear ho hb
    go_wp2
    go_ret
    exact ⟨_, rfl, HO.out, below_step (pw_below_drewN (Below.refl _ _) nd) HB.out⟩
theorem drawn0_ex {w w' : World} (h : Drawn0 w w') : ∃ n, w' = w.drewN n := by
  obtain ⟨n, e⟩ := h
  exact ⟨n, e⟩
set_option maxRecDepth 100000 in
set_option maxHeartbeats 40000000 in
theorem l11Unlap_calls (A : Option Addr) (c n : Nat) (l : List Int) (h : okU l) (hn : n = 16) (hln : l.length = n) (w : World) (hr : Kd.C (Kd.int .i64) w A l.length l) :
    Calls Tryd.prog 32 #[.slice A n c] w fun e w' => ∃ v : Value, e = .returned v ∧ Kd.R (Kd.int .i64) 3 w' w.heap.size (fun _ => True) v (tab 32 (uV l)) ∧ Below w.heap.size w w' := by
  have HR := Aside0.mk hr
  have OK := Aside0.mk h
  subst hn
  rw [hln] at HR
  clear hr h hln
  obtain ⟨f, hf⟩ : ∃ f, f = uV l := ⟨_, rfl⟩
  rw [← hf]
  have HF := Aside0.mk hf
  clear hf
  go_enter Tryd.func32, Tryd.ntmps32
  go_wp2_with fail
  refine (PFnExactWindow.spec_l11Table.calls zkT _ rfl).mono ?_
  rintro e wj ⟨v1, rfl, ho, hb⟩
  obtain ⟨Aj, cj, rfl⟩ := R_slice_n (n := 33) ho rfl
  have hcj : 33 ≤ cj := (R_cells ho).2.1
  have HJ := Aside0.mk ho
  have HBJ := Aside0.mk hb
  clear ho hb
  go_wp2_with fail
  refine (win_spec _).mono ?_
  rintro e wk ⟨v1, rfl, ho, hb⟩
  obtain ⟨Ak, ck, rfl⟩ := R_slice_n (n := 32) ho winL_length
  have HK : Aside0 (Kd.C (Kd.int .i64) wk Ak winL.length winL) := ⟨(R_cells ho).2.2⟩
  have HJK : Aside0 (Kd.C (Kd.int .i64) wk Aj zkT.length zkT) := ⟨(R_cells (Kd.R_below HJ.out hb)).2.2⟩
  have HBK := Aside0.mk (below_step HBJ.out hb)
  have HRK := Aside0.mk (Kd.C_below HR.out HBK.out)
  have HB : Aside0 (Below wk.heap.size wk wk) := ⟨Below.refl _ _⟩
  clear ho hb HR HJ HBJ
  go_wp2_with ((with_reducible refine gate_dst (N := 11) rfl ?_); (refine Kd.R_make (Kd.int .i64) (w0 := wk) wk.heap.size 3 rfl (N := 11) rfl 22 _ _ rfl (32 : Int) rfl rfl Tryd.underlying22 (.int .i64 0) 8 info3 rfl (by decide) (by omega) 0 (ok := fun _ => True) (okp := fun _ => True) rfl (fun _ hk => hk) trivial (by omega) (by omega) ?mB1 ?mS1 ?_); (case mB1 => first | exact Below.refl _ _ | exact HB.out); (case mS1 => first | exact Nat.le_refl _ | exact below_size HB.out); intro v1 w1 ho hb hg hn; (try rw [Int.toNat_natCast] at ho); obtain ⟨A1, c1, rfl⟩ := R_slice_n (n := 32) ho (by simp); have HO := Aside0.mk ho; have HB := Aside0.mk hb; clear ho hb hg hn)
  go_loopg [14] 32 (fun q v14 w' => ∃ (i : Nat) (x : List Int), v14 = .int .i64 (i : Int) ∧ Aside0 (i + q = 32) ∧ Aside0 (Part 32 i x f (fun _ => 0)) ∧ Aside0 (Kd.R (Kd.int .i64) 3 w' wk.heap.size (fun _ => True) (.slice A1 32 c1) x) ∧ Aside0 (Below wk.heap.size wk w'))
  case atStart => exact ⟨0, _, rfl, ⟨by omega⟩, ⟨Part.zeros _ _⟩, HO, HB⟩
  case round =>
    clear HO HB
    obtain ⟨i, ys, rfl, Q, PT, HO, HB⟩ := hrel
    by_cases c0 : i < 32
    · obtain ⟨qi, rfl⟩ : ∃ q, gk = q + 1 := ⟨gk - 1, by have := Q.out; omega⟩
      have t4 : decide ((i : Int) < 32) = true := decide_eq_true (by omega)
      go_wp2
      go_loopg [7, 19] 16 (fun q v7 v19 w' => ∃ n : Nat, v7 = .int .i64 (uS l i n) ∧ v19 = .int .i64 (n : Int) ∧ Aside0 (n + q = 16) ∧ Aside0 (Kd.R (Kd.int .i64) 3 w' wk.heap.size (fun _ => True) (.slice A1 32 c1) ys) ∧ Aside0 (Below wk.heap.size wk w'))
      case atStart => exact ⟨0, rfl, rfl, ⟨by omega⟩, HO, HB⟩
      case round =>
        clear HO HB
        obtain ⟨n, rfl, rfl, Qn, HO, HB⟩ := hrel
        by_cases c1 : n < 16
        · obtain ⟨qn, rfl⟩ : ∃ q, gk = q + 1 := ⟨gk - 1, by have := Qn.out; omega⟩
          have HQ := Aside0.mk (Kd.C_below HRK.out HB.out)
          have HQJ := Aside0.mk (Kd.C_below HJK.out HB.out)
          obtain ⟨ad1, e1, hx1⟩ := Kd.at_int HQ.out (n : Int) (by omega) (by omega)
          rw [Int.toNat_natCast] at hx1
          obtain ⟨x, hx⟩ : ∃ x, x = rd l (n : Int) := ⟨_, rfl⟩
          rw [← hx] at hx1
          have xb := OK.out.at c1
          rw [← hx] at xb
          subst e1
          have p1 : 0 ≤ (n : Int) := by omega
          have p2 : (n : Int) < 16 := by omega
          have mb := uM_b c0 c1
          have CQ : Aside0 (∀ (m : Int) (k : Nat), Calls Tryd.prog 30 #[.slice Aj 33 cj, .int .i64 m] (wr.drewN k) fun e w'' => e = .returned (.int .i64 (cV m)) ∧ ∃ j, w'' = (wr.drewN k).drewN j) := ⟨fun m k => (l11C_callsN Aj cj 33 rfl hcj m _ (Kd.C_drewN HQJ.out k)).mono fun e w'' h => ⟨h.1, drawn0_ex h.2⟩⟩
          obtain ⟨s, hs⟩ : ∃ s, s = uS l i n := ⟨_, rfl⟩
          have sb := uS_b OK.out i n (by omega)
          rw [← hs] at sb ⊢
          have HS := Aside0.mk hs
          have HX := Aside0.mk hx
          have EV : Aside0 (wrap64 (s + wrap64 (x * cV (wrap64 ((2 * (i : Int) + 17) * (2 * (n : Int) + 1))))) = uS l i (n + 1)) := ⟨by
            have em : (2 * (i : Int) + 17) * (2 * (n : Int) + 1) = uM i n := rfl
            have sb2 := uS_b OK.out i (n + 1) (by omega)
            have pb := mul_bb (X := 1048576) (Y := 16384) ⟨xb.1, xb.2⟩ (cV_b (uM i n)) (by omega)
            have e2 : uS l i (n + 1) = s + x * cV (uM i n) := by rw [hs, hx]; rfl
            rw [em, wrap64_id (n := uM i n) (by omega) (by omega), wrap64_id (n := x * cV (uM i n)) (by omega) (by omega), ← e2, wrap64_id (n := uS l i (n + 1)) (by omega) (by omega)]⟩
          clear hs hx
          go_wp2_with fail
          go_quiet ((go_at_call 30; exact Calls.quiet_of (CQ.out _ _)))
          rw [EV.out]
          go_wp2
          go_roundg qn
          case measure => omega
          case rel => exact ⟨n + 1, rfl, by go_num, ⟨by have := Qn.out; omega⟩, ⟨Kd.R_drewN HO.out _⟩, ⟨pw_below_drewN HB.out _⟩⟩
        · obtain ⟨s, hs⟩ : ∃ s, s = uS l i 16 := ⟨_, rfl⟩
          have E1 : Aside0 (uS l i n = s) := ⟨by rw [hs, show n = 16 by have := Qn.out; omega]⟩
          rw [E1.out]
          have sb := uS_b OK.out i 16 (by omega)
          rw [← hs] at sb
          obtain ⟨z, hz⟩ : ∃ z, z = s / 131072 := ⟨_, rfl⟩
          have zb : -3000000 ≤ z ∧ z ≤ 3000000 := by omega
          have HKC := Aside0.mk (Kd.C_below HK.out HB.out)
          obtain ⟨ad2, e2, hx2⟩ := Kd.at_int HKC.out (i : Int) (by omega) (by rw [winL_length]; omega)
          rw [Int.toNat_natCast, show rd winL (i : Int) = winV i by rw [rd_nat]; exact tab_get c0] at hx2
          obtain ⟨y, hy⟩ : ∃ y, y = winV i := ⟨_, rfl⟩
          have yb : -16384 ≤ y ∧ y ≤ 16384 := by rw [hy]; exact cV_b _
          rw [← hy] at hx2
          have pb := mul_bb (X := 3000000) (Y := 16384) zb yb (by omega)
          obtain ⟨p, hp⟩ : ∃ p, p = z * y := ⟨_, rfl⟩
          rw [← hp] at pb
          have ep : z * y = p := hp.symm
          have ez : s / 131072 = z := hz.symm
          obtain ⟨r, hr⟩ : ∃ r, r = (p + 8192) / 16384 := ⟨_, rfl⟩
          have er : (p + 8192) / 16384 = r := hr.symm
          subst e2
          have xl : ys.length = 32 := PT.out.1
          obtain ⟨g, cap, e3, gb, gl, cl, hg⟩ := Kd.R_form HO.out (by omega)
          rw [xl] at e3
          cases e3
          obtain ⟨hx, hfz⟩ := Kd.R_celln 0 HO.out (i : Int) (by omega) (by omega)
          rw [Int.toNat_natCast] at hx hfz
          have GB := Aside0.mk gb
          have HP := Aside0.mk (Kd.R_putn HO.out (i : Int) r)
          have PT2 := Aside0.mk (PT.out.set c0 (v := r) (by rw [HF.out, hr, hp, hz, hs, hy]; rfl))
          clear hp hz hr hs hy gb gl hg xl
          go_wp2
          go_roundg qi
          case measure => omega
          case rel => exact ⟨i + 1, _, by go_num, ⟨by have := Q.out; omega⟩, PT2, HP, ⟨below_set HB.out GB.out⟩⟩
    · have E2 : Aside0 (ys = tab 32 f) := ⟨by have h := PT.out; rw [show i = 32 by have := Q.out; omega] at h; exact h.done⟩
      go_wp2
      go_ret
      rw [E2.out] at HO
      exact ⟨_, rfl, Kd.R_lower HO.out (size_le HBK.out), below_step HBK.out HB.out⟩
set_option maxHeartbeats 40000000 in
theorem unl_spec (A0 : Option Addr) (c0 : Nat) (l0 : List Int) (hl0 : l0.length ≤ 1048576) (hw0 : ∀ x ∈ l0, (Lit.int .i64 x).wf = true) (w : World) (hc0 : l0.length ≤ c0) (hr0 : Kd.C (Kd.int .i64) w A0 l0.length l0) :
    Calls Tryd.prog 20 #[.slice A0 l0.length c0] w fun e w' => ∃ v : Value, e = .returned v ∧ Kd.R (Kd.int .i64) 3 w' w.heap.size (fun _ => True) v (unlL l0) ∧ Below w.heap.size w w' := by
  have HR := Aside0.mk hr0
  clear hr0 hw0
  obtain ⟨r, hr⟩ : ∃ r, r = unlL l0 := ⟨_, rfl⟩
  rw [← hr]
  have HRr := Aside0.mk hr
  clear hr
  have NIL : ∀ w' : World, Below w.heap.size w w' → r = [] → ∃ v : Value, Ending.returned (.slice none 0 0) = .returned v ∧ Kd.R (Kd.int .i64) 3 w' w.heap.size (fun _ => True) v r ∧ Below w.heap.size w w' := fun w' hb e => by
    rw [e]
    exact ⟨_, rfl, Kd.R_nil _ _ _ _ _, hb⟩
  have NL := Aside0.mk NIL
  clear NIL
  obtain ⟨n, hn⟩ : ∃ n, n = l0.length := ⟨_, rfl⟩
  rw [← hn] at HR hl0 hc0 ⊢
  have HN := Aside0.mk hn
  clear hn
  go_enter Tryd.func20, Tryd.ntmps20
  go_wp2
  go_loopg [7] n (fun q v7 w' => ∃ i : Nat, v7 = .int .i64 (i : Int) ∧ Aside0 (i + q = n) ∧ Aside0 (∀ j, j < i → -1048576 ≤ l0.getD j 0 ∧ l0.getD j 0 ≤ 1048575) ∧ Drawn0 w w')
  case atStart => exact ⟨0, rfl, ⟨by omega⟩, ⟨fun j hj => by omega⟩, by repeat (first | exact Drawn0.refl _ | apply Drawn0.step)⟩
  case round =>
    obtain ⟨i, rfl, Q, P, ⟨nd, rfl⟩⟩ := hrel
    by_cases c1 : i < n
    · obtain ⟨q, rfl⟩ : ∃ q, gk = q + 1 := ⟨gk - 1, by have := Q.out; omega⟩
      obtain ⟨ad1, e1, hx1⟩ := Kd.at_int HR.out (i : Int) (by omega) (by omega)
      rw [Int.toNat_natCast] at hx1
      obtain ⟨b, hb⟩ : ∃ b, b = rd l0 (i : Int) := ⟨_, rfl⟩
      rw [← hb] at hx1
      rw [rd_nat] at hb
      have HB := Aside0.mk hb
      clear hb
      subst e1
      have BAD : b < -1048576 ∨ 1048575 < b → r = [] := fun h => by
        rw [HRr.out]; unfold unlL; rw [if_neg]
        rintro ⟨h1, _⟩
        have := inB_iff.1 h1 i (by have := HN.out; omega)
        rw [← HB.out] at this
        omega
      have BD := Aside0.mk BAD
      clear BAD
      by_cases b1 : b < -1048576
      · have t1 : decide (b < -1048576) = true := decide_eq_true b1
        go_wp2
        go_ret
        exact NL.out _ (pw_below_drewN (Below.refl _ _) _) (BD.out (.inl (by omega)))
      · have t1 : decide (b < -1048576) = false := decide_eq_false b1
        by_cases b2 : 1048575 < b
        · have t2 : decide (1048575 < b) = true := decide_eq_true b2
          go_wp2
          go_ret
          exact NL.out _ (pw_below_drewN (Below.refl _ _) _) (BD.out (.inr (by omega)))
        · have t2 : decide (1048575 < b) = false := decide_eq_false b2
          have P2 : Aside0 (∀ j, j < i + 1 → -1048576 ≤ l0.getD j 0 ∧ l0.getD j 0 ≤ 1048575) := ⟨fun j hj => by
            by_cases e : j = i
            · rw [e, ← HB.out]; omega
            · exact P.out j (by omega)⟩
          go_wp2
          go_roundg q
          case measure => omega
          case rel => exact ⟨i + 1, by go_num, ⟨by have := Q.out; omega⟩, P2, by repeat (first | exact Drawn0.refl _ | apply Drawn0.step)⟩
    · have IN : Aside0 (inB (-1048576) 1048575 l0 = true) := ⟨inB_iff.2 fun j hj => P.out j (by have := HN.out; omega)⟩
      clear P
      by_cases h1 : n = 16
      case neg =>
        have E : Aside0 (r = []) := ⟨by rw [HRr.out]; unfold unlL; rw [if_neg]; rintro ⟨_, h⟩; have := HN.out; omega⟩
        have t1 : ((n : Int) != 16) = true := by rw [neq16, decide_eq_false h1]; rfl
        clear h1
        go_wp2
        go_ret
        exact NL.out _ (pw_below_drewN (Below.refl _ _) _) E.out
      have t1 : ((n : Int) != 16) = false := by rw [neq16, decide_eq_true h1]; rfl
      have H1 := Aside0.mk h1
      have OK : Aside0 (okU l0) := ⟨inB_U.1 ⟨IN.out, by rw [← HN.out, h1]⟩⟩
      have E : Aside0 (r = tab 32 (uV l0)) := ⟨by rw [HRr.out]; unfold unlL; rw [if_pos ⟨IN.out, by rw [← HN.out, h1]⟩]⟩
      have HRN : Aside0 (Kd.C (Kd.int .i64) w A0 l0.length l0) := ⟨by rw [← HN.out]; exact HR.out⟩
      clear h1
      go_wp2_with fail
      refine (l11Unlap_calls A0 c0 n l0 OK.out H1.out HN.out.symm _ (Kd.C_drewN HRN.out _)).mono ?_
      rintro e w2 ⟨v, rfl, ho, hb⟩
      rw [← E.out] at ho
      have HO := Aside0.mk ho
      have HB := Aside0.mk hb
      clear ho hb
      go_wp2
      go_ret
      exact ⟨_, rfl, HO.out, below_step (pw_below_drewN (Below.refl _ _) nd) HB.out⟩
end Go.Proofs.YtkhpcclddkddmaaDoor.Wk
