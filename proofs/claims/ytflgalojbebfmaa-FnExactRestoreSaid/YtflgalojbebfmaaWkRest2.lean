/- Walks of this seat's own: what the reference's Restore comes to. -/
import Derived.Test.YtflgalojbebfmaaWkRest
namespace Go.Proofs.Ytflgalojbebfmaa.Wk
open Go.RowKit Go.Proofs.YtflgalojbebfmaaW.PrintWords Go.Proofs.YtflgalojbebfmaaW.PrintLast Go.Proofs.YtflgalojbebfmaaW.PrintMore Go.Proofs.Ytflgalojbebfmaa.My
open Go.Proofs.Ytflgalojbebfmaa.PFnExactResidue
set_option linter.unusedVariables false
set_option linter.unusedSimpArgs false
set_option maxRecDepth 100000
theorem cell_at {e : Nat} {W : World} {base : Nat} {ok : Nat → Prop} {g n cap : Nat} {xs : List Int} (h : (Kd.int .i64).R e W base ok (.slice (some ⟨g, 0, none⟩) n cap) xs) (i : Nat) (hi : i < n) {v : Int} (hv : xs.getD i 0 = v) : W.cell? ⟨g, i, none⟩ = some (.int .i64 v) := by
  have h2 := (Kd.R_celln 0 h (i : Int) (by omega) (by omega)).1
  rw [Int.toNat_natCast] at h2
  rw [h2, ← hv]
  rfl
theorem getD_set {x : List Int} {i : Nat} (h : i < x.length) (v : Int) : (x.set i v).getD i 0 = v := by simp [List.getD, h]
theorem gu_specN (o : Int) (A : Option Addr) (c : Nat) (x : List Int) (n : Nat) (hn : x.length = n) (i : Int) (v : Int) (h : impl_zguess.f o x i = some v) (hc : n ≤ c) (w : World) (hr : Kd.C (Kd.int .i64) w A x.length x) :
    Calls Try.prog 63 #[.int .i64 o, .slice A n c, .int .i64 i] w fun e w' => e = .returned (.int .i64 v) ∧ Drawn0 w w' := by
  subst hn
  exact spec_l10Guess.calls o A c x i v w hr hc h
theorem gu_implN (o : Int) (A : Option Addr) (c : Nat) (x : List Int) (n : Nat) (hn : x.length = n) (i : Int) (v : Int) (h : impl_zguess.f o x i = some v) (hc : n ≤ c) (w : World) (hr : Kd.C (Kd.int .i64) w A x.length x) :
    Calls Try.prog 62 #[.int .i64 o, .slice A n c, .int .i64 i] w fun e w' => e = .returned (.int .i64 v) ∧ Drawn0 w w' := by
  subst hn
  exact impl_zguess.calls o A c x i v w hr hc h
set_option maxHeartbeats 40000000 in
theorem rest_spec (a0 : Int) (B1 : Option Addr) (d1 : Nat) (l1 : List Int) (hl1 : l1.length ≤ 1048576) (hw1 : ∀ x ∈ l1, (Lit.int .i64 x).wf = true) (w : World) (hc1 : l1.length ≤ d1) (hr1 : Kd.C (Kd.int .i64) w B1 l1.length l1) :
    Calls Try.prog 33 #[.int .i64 a0, .slice B1 l1.length d1] w fun e w' => ∃ v : Value, e = .returned v ∧ Kd.R (Kd.int .i64) 3 w' w.heap.size (fun _ => True) v (restL a0 l1) ∧ Below w.heap.size w w' := by
  have HR1 := Aside0.mk hr1
  clear hr1 hw1
  obtain ⟨r, hr⟩ : ∃ r, r = restL a0 l1 := ⟨_, rfl⟩
  rw [← hr]
  have HRr := Aside0.mk hr
  clear hr
  have NIL : ∀ w' : World, Below w.heap.size w w' → r = [] → ∃ v : Value, Ending.returned (.slice none 0 0) = .returned v ∧ Kd.R (Kd.int .i64) 3 w' w.heap.size (fun _ => True) v r ∧ Below w.heap.size w w' := fun w' hb e => by
    rw [e]
    exact ⟨_, rfl, Kd.R_nil _ _ _ _ _, hb⟩
  have NL := Aside0.mk NIL
  clear NIL
  by_cases h0 : a0 < 0
  · have t0 : decide (a0 < 0) = true := decide_eq_true h0
    have E : Aside0 (r = []) := ⟨by rw [HRr.out]; unfold restL; rw [if_neg (by omega)]⟩
    go_enter Try.func33, Try.ntmps33
    go_wp2
    go_ret
    exact NL.out _ (Below.refl _ _) E.out
  have t0 : decide (a0 < 0) = false := decide_eq_false h0
  by_cases h1 : 4 < a0
  · have t1 : decide (4 < a0) = true := decide_eq_true h1
    have E : Aside0 (r = []) := ⟨by rw [HRr.out]; unfold restL; rw [if_neg (by omega)]⟩
    go_enter Try.func33, Try.ntmps33
    go_wp2
    go_ret
    exact NL.out _ (Below.refl _ _) E.out
  have t1 : decide (4 < a0) = false := decide_eq_false h1
  by_cases h2 : 4000 < l1.length
  · have t2 : decide ((4000 : Int) < (l1.length : Int)) = true := decide_eq_true (by omega)
    have E : Aside0 (r = []) := ⟨by rw [HRr.out]; unfold restL; rw [if_neg (by omega)]⟩
    go_enter Try.func33, Try.ntmps33
    go_wp2
    go_ret
    exact NL.out _ (Below.refl _ _) E.out
  have t2 : decide ((4000 : Int) < (l1.length : Int)) = false := decide_eq_false (by omega)
  have HB0 := Aside0.mk (Below.refl w.heap.size w)
  go_enter Try.func33, Try.ntmps33
  go_wp2
  go_loopg [22] l1.length (fun q v22 w' => ∃ i : Nat, v22 = .int .i64 (i : Int) ∧ Aside0 (i + q = l1.length) ∧ Aside0 (∀ j, j < i → -2147483648 ≤ l1.getD j 0 ∧ l1.getD j 0 ≤ 2147483647) ∧ Aside0 (Below w.heap.size w w'))
  case atStart => exact ⟨0, rfl, ⟨by omega⟩, ⟨fun j hj => by omega⟩, HB0⟩
  case round =>
    clear HB0
    obtain ⟨i, rfl, Q, P, HB⟩ := hrel
    by_cases c0 : i < l1.length
    · obtain ⟨q, rfl⟩ : ∃ q, gk = q + 1 := ⟨gk - 1, by have := Q.out; omega⟩
      have HQ := Aside0.mk (Kd.C_below HR1.out HB.out)
      obtain ⟨ad1, e1, hx1⟩ := Kd.at_int HQ.out (i : Int) (by omega) (by omega)
      rw [Int.toNat_natCast] at hx1
      obtain ⟨b, hb⟩ : ∃ b, b = rd l1 (i : Int) := ⟨_, rfl⟩
      rw [← hb] at hx1
      rw [rd_nat] at hb
      have HB1 := Aside0.mk hb
      clear hb
      subst e1
      by_cases b1 : b < -2147483648
      · have s1 : decide (b < -2147483648) = true := decide_eq_true b1
        have E : Aside0 (r = []) := ⟨by rw [HRr.out]; unfold restL; rw [if_neg]; rintro ⟨_, _, _, h, _⟩; have := inB_iff.1 h i c0; rw [← HB1.out] at this; omega⟩
        go_wp2
        go_ret
        exact NL.out _ HB.out E.out
      · have s1 : decide (b < -2147483648) = false := decide_eq_false b1
        by_cases b2 : 2147483647 < b
        · have s2 : decide (2147483647 < b) = true := decide_eq_true b2
          have E : Aside0 (r = []) := ⟨by rw [HRr.out]; unfold restL; rw [if_neg]; rintro ⟨_, _, _, h, _⟩; have := inB_iff.1 h i c0; rw [← HB1.out] at this; omega⟩
          go_wp2
          go_ret
          exact NL.out _ HB.out E.out
        · have s2 : decide (2147483647 < b) = false := decide_eq_false b2
          have P2 : Aside0 (∀ j, j < i + 1 → -2147483648 ≤ l1.getD j 0 ∧ l1.getD j 0 ≤ 2147483647) := ⟨fun j hj => by
            by_cases e : j = i
            · rw [e, ← HB1.out]; omega
            · exact P.out j (by omega)⟩
          go_wp2
          go_roundg q
          case measure => omega
          case rel => exact ⟨i + 1, by go_num, ⟨by have := Q.out; omega⟩, P2, HB⟩
    · have IN : Aside0 (inB (-2147483648) 2147483647 l1 = true) := ⟨inB_iff.2 fun j hj => P.out j (by omega)⟩
      clear P
      obtain ⟨f, hf⟩ : ∃ f, f = rsV a0 l1 := ⟨_, rfl⟩
      have HF := Aside0.mk hf
      clear hf
      go_wp2_with ((with_reducible refine gate_dst (N := 35) rfl ?_); (refine Kd.R_make (Kd.int .i64) (w0 := w) w.heap.size 3 rfl (N := 35) rfl 22 _ _ rfl (l1.length : Int) rfl rfl Try.underlying22 (.int .i64 0) 8 info3 rfl (by decide) (by omega) 0 (ok := fun _ => True) (okp := fun _ => True) rfl (fun _ hk => hk) trivial (by omega) (by omega) ?mB1 ?mS1 ?_); (case mB1 => first | exact Below.refl _ _ | exact HB.out); (case mS1 => first | exact Nat.le_refl _ | exact below_size HB.out); intro v1 w1 ho hb hg hn; (try rw [Int.toNat_natCast] at ho); obtain ⟨A1, c1, rfl⟩ := R_slice_n (n := l1.length) ho (by simp); have HO := Aside0.mk ho; have HB := Aside0.mk hb; clear ho hb hg hn)
      go_loopg [38] l1.length (fun q v38 w' => ∃ (i : Nat) (x : List Int), v38 = .int .i64 (i : Int) ∧ Aside0 (i + q = l1.length) ∧ Aside0 (Part l1.length i x f (fun _ => 0)) ∧ Aside0 (∀ j, j < i → -67108864 ≤ f j ∧ f j ≤ 67108863) ∧ Aside0 (Kd.R (Kd.int .i64) 3 w' w.heap.size (fun _ => True) (.slice A1 l1.length c1) x) ∧ Aside0 (Below w.heap.size w w'))
      case atStart => exact ⟨0, _, rfl, ⟨by omega⟩, ⟨Part.zeros _ _⟩, ⟨fun j hj => by omega⟩, HO, HB⟩
      case round =>
        clear HO HB
        obtain ⟨i, x, rfl, Q, PT, FB, HO, HB⟩ := hrel
        by_cases c0 : i < l1.length
        · obtain ⟨q, rfl⟩ : ∃ q', gk = q' + 1 := ⟨gk - 1, by have := Q.out; omega⟩
          have xl : x.length = l1.length := PT.out.1
          have HQ := Aside0.mk (Kd.C_below HR1.out HB.out)
          obtain ⟨ad1, e1, hx1⟩ := Kd.at_int HQ.out (i : Int) (by omega) (by omega)
          rw [Int.toNat_natCast] at hx1
          obtain ⟨b, hb⟩ : ∃ b, b = rd l1 (i : Int) := ⟨_, rfl⟩
          rw [← hb] at hx1
          have HBV := Aside0.mk hb
          subst e1
          obtain ⟨g, cap, e2, gb, gl, cl, hg⟩ := Kd.R_form HO.out (by omega)
          rw [xl] at e2
          cases e2
          obtain ⟨hx, hfz⟩ := Kd.R_celln 0 HO.out (i : Int) (by omega) (by omega)
          rw [Int.toNat_natCast] at hx hfz
          have GB := Aside0.mk gb
          have HP : Aside0 (Kd.R (Kd.int .i64) 3 (wr.setCell ⟨g, i, none⟩ (.int .i64 b)) w.heap.size (fun _ => True) (.slice (some ⟨g, 0, none⟩) l1.length c1) (x.set i b)) := ⟨Kd.R_putn HO.out (i : Int) b⟩
          clear gb gl hg hb xl
          go_upto_region 14 with fail
          obtain ⟨w3, h3⟩ : ∃ w3, w3 = wr.setCell ⟨g, i, none⟩ (.int .i64 b) := ⟨_, rfl⟩
          rw [← h3] at HP ⊢
          have HB3 : Aside0 (Below w.heap.size w w3) := ⟨by rw [h3]; exact below_set HB.out GB.out⟩
          clear h3 HO HB hx hfz hx1 HQ
          have xl : x.length = l1.length := PT.out.1
          by_cases d : a0 ≤ (i : Int)
          · have td : decide (a0 ≤ (i : Int)) = true := decide_eq_true d
            obtain ⟨gv, hgv⟩ : ∃ gv, gv = gV a0 (rsL a0 l1 i) i := ⟨_, rfl⟩
            obtain ⟨v, hv⟩ : ∃ v, v = f i := ⟨_, rfl⟩
            have VF := Aside0.mk hv
            have HV : Aside0 (IntKind.i64.wrap (b + gv) = v) := ⟨by rw [hv, HF.out, rsV_eq, if_pos d, ← HBV.out, ← hgv]; exact i64_wrap _⟩
            have GE : impl_zguess.f a0 (x.set i b) (i : Int) = some gv := by
              have h := PT.out
              rw [HF.out] at h
              rw [hgv]
              exact rs_guess h (by omega) (by omega) d c0 (by omega)
            have GC : Aside0 (∀ m : Nat, Calls Try.prog 63 #[.int .i64 a0, .slice (some ⟨g, 0, none⟩) l1.length c1, .int .i64 (i : Int)] (w3.drewN m) fun e w' => e = .returned (.int .i64 gv) ∧ Drawn0 (w3.drewN m) w') := ⟨fun m =>
              gu_specN a0 (some ⟨g, 0, none⟩) c1 (x.set i b) l1.length (by simpa using xl) (i : Int) gv GE (R_cells HP.out).2.1 _ (Kd.C_drewN (R_cells HP.out).2.2 m)⟩
            have hx : w3.cell? ⟨g, i, none⟩ = some (.int .i64 b) := cell_at HP.out i c0 (getD_set (by omega) b)
            have hfz := (Kd.R_celln 0 HP.out (i : Int) (by omega) (by omega)).2
            rw [Int.toNat_natCast] at hfz
            clear hv hgv GE xl
            go_upto_region 15 with fail
            go_cut [] (fun wx => Aside0 (Kd.R (Kd.int .i64) 3 wx w.heap.size (fun _ => True) (.slice (some ⟨g, 0, none⟩) l1.length c1) ((x.set i b).set i v)) ∧ Aside0 (Below w.heap.size w wx))
            case first =>
              go_region_with (first | (go_at_call 63; refine (GC.out _).mono ?_; rintro e wn ⟨rfl, ⟨k, rfl⟩⟩))
              all_goals (go_wp2_with fail; go_meet; exact ⟨⟨by rw [← HV.out]; exact Kd.R_putn (Kd.R_drewN HP.out _) (i : Int) _⟩, ⟨below_set (pw_below_drewN HB3.out _) GB.out⟩⟩)
            case rest =>
              obtain ⟨HP2, HB4⟩ := hcut
              have xl : x.length = l1.length := PT.out.1
              clear hx hfz HP HB3
              rw [List.set_set] at HP2
              have hy : wc.cell? ⟨g, i, none⟩ = some (.int .i64 v) := cell_at HP2.out i c0 (getD_set (by omega) v)
              have PT2 := Aside0.mk (PT.out.set c0 (v := v) VF.out)
              clear xl
              by_cases b1 : v < -67108864
              · have s1 : decide (v < -67108864) = true := decide_eq_true b1
                have E : Aside0 (r = []) := ⟨by rw [HRr.out]; exact restL_bad c0 (by rw [← HF.out, ← VF.out]; omega)⟩
                go_wp2
                go_ret
                exact NL.out _ HB4.out E.out
              · have s1 : decide (v < -67108864) = false := decide_eq_false b1
                by_cases b2 : 67108863 < v
                · have s2 : decide (67108863 < v) = true := decide_eq_true b2
                  have E : Aside0 (r = []) := ⟨by rw [HRr.out]; exact restL_bad c0 (by rw [← HF.out, ← VF.out]; omega)⟩
                  go_wp2
                  go_ret
                  exact NL.out _ HB4.out E.out
                · have s2 : decide (67108863 < v) = false := decide_eq_false b2
                  have FB2 : Aside0 (∀ j, j < i + 1 → -67108864 ≤ f j ∧ f j ≤ 67108863) := ⟨fun j hj => by
                    by_cases e : j = i
                    · rw [e, ← VF.out]; omega
                    · exact FB.out j (by omega)⟩
                  go_wp2
                  go_roundg q
                  case measure => omega
                  case rel => exact ⟨i + 1, _, by go_num, ⟨by have := Q.out; omega⟩, PT2, FB2, HP2, HB4⟩
          · have td : decide (a0 ≤ (i : Int)) = false := decide_eq_false d
            have VF : Aside0 (b = f i) := ⟨by rw [HF.out, rsV_eq, if_neg d, ← HBV.out]⟩
            have hy : w3.cell? ⟨g, i, none⟩ = some (.int .i64 b) := cell_at HP.out i c0 (getD_set (by omega) b)
            have PT2 := Aside0.mk (PT.out.set c0 (v := b) VF.out)
            clear xl
            by_cases b1 : b < -67108864
            · have s1 : decide (b < -67108864) = true := decide_eq_true b1
              have E : Aside0 (r = []) := ⟨by rw [HRr.out]; exact restL_bad c0 (by rw [← HF.out, ← VF.out]; omega)⟩
              go_wp2
              go_ret
              exact NL.out _ HB3.out E.out
            · have s1 : decide (b < -67108864) = false := decide_eq_false b1
              by_cases b2 : 67108863 < b
              · have s2 : decide (67108863 < b) = true := decide_eq_true b2
                have E : Aside0 (r = []) := ⟨by rw [HRr.out]; exact restL_bad c0 (by rw [← HF.out, ← VF.out]; omega)⟩
                go_wp2
                go_ret
                exact NL.out _ HB3.out E.out
              · have s2 : decide (67108863 < b) = false := decide_eq_false b2
                have FB2 : Aside0 (∀ j, j < i + 1 → -67108864 ≤ f j ∧ f j ≤ 67108863) := ⟨fun j hj => by
                  by_cases e : j = i
                  · rw [e, ← VF.out]; omega
                  · exact FB.out j (by omega)⟩
                go_wp2
                go_roundg q
                case measure => omega
                case rel => exact ⟨i + 1, _, by go_num, ⟨by have := Q.out; omega⟩, PT2, FB2, HP, HB3⟩
        · have E2 : Aside0 (r = x) := ⟨by
            have h := PT.out
            rw [show i = l1.length by have := Q.out; omega] at h
            rw [HRr.out, h.done, HF.out]
            unfold restL
            rw [if_pos]
            refine ⟨by omega, by omega, by omega, IN.out, inB_iff.2 fun j hj => ?_⟩
            rw [tab_length] at hj
            rw [tab_get hj, ← HF.out]
            exact FB.out j (by have := Q.out; omega)⟩
          go_wp2
          go_ret
          rw [E2.out]
          exact ⟨_, rfl, HO.out, HB.out⟩
end Go.Proofs.Ytflgalojbebfmaa.Wk
