/- Walks of this seat's own: what the two Fine come to. -/
import Derived.Test.YtflgalojbebfmaaWkH
namespace Go.Proofs.Ytflgalojbebfmaa.Wk
open Go.RowKit Go.Proofs.YtflgalojbebfmaaW.PrintWords Go.Proofs.YtflgalojbebfmaaW.PrintLast Go.Proofs.YtflgalojbebfmaaW.PrintMore Go.Proofs.Ytflgalojbebfmaa.My
set_option linter.unusedVariables false
set_option linter.unusedSimpArgs false
attribute [local go_sem] max2_int min2_int max_two min_two
def clampF (v : Int) : Int := if 32767 < v then 32767 else if v < -32768 then -32768 else v
def okBl (b : List Int) : Bool := inB (-32768) 32767 b && decide (b.length = 64)
def okSc (b : List Int) : Bool := inB 1 255 b && decide (b.length = 64)
theorem okBl_iff {b : List Int} : okBl b = true ↔ (∀ i, i < b.length → -32768 ≤ b.getD i 0 ∧ b.getD i 0 ≤ 32767) ∧ b.length = 64 := by
  unfold okBl; rw [Bool.and_eq_true, inB_iff, decide_eq_true_eq]
theorem okSc_iff {b : List Int} : okSc b = true ↔ (∀ i, i < b.length → 1 ≤ b.getD i 0 ∧ b.getD i 0 ≤ 255) ∧ b.length = 64 := by
  unfold okSc; rw [Bool.and_eq_true, inB_iff, decide_eq_true_eq]
def fineV (b t : List Int) (i : Nat) : Int := clampF (b.getD i 0 * t.getD i 0)
def fineL (b t : List Int) : List Int := if okBl b = true ∧ okSc t = true then tab 64 (fineV b t) else []
theorem fineL_length (b t : List Int) : (fineL b t).length ≤ 1048576 := by
  unfold fineL
  split
  · rw [tab_length]; omega
  · simp
theorem mul_bd {n s : Int} (h0 : -32768 ≤ n) (h1 : n ≤ 32767) (h2 : 1 ≤ s) (h3 : s ≤ 255) : -8355840 ≤ n * s ∧ n * s ≤ 8355840 := by
  have a1 : n * s ≤ 32767 * s := Int.mul_le_mul_of_nonneg_right h1 (by omega)
  have a2 : -32768 * s ≤ n * s := Int.mul_le_mul_of_nonneg_right h0 (by omega)
  omega
set_option maxHeartbeats 40000000 in
theorem l8Fine_calls (A0 : Option Addr) (c0 : Nat) (l0 : List Int) (B1 : Option Addr) (d1 : Nat) (l1 : List Int) (g0 : okBl l0 = true) (g1 : okSc l1 = true) (w : World) (hr0 : Kd.C (Kd.int .i64) w A0 l0.length l0) (hr1 : Kd.C (Kd.int .i64) w B1 l1.length l1) :
    Calls Try.prog 54 #[.slice A0 l0.length c0, .slice B1 l1.length d1] w fun e w' => ∃ v : Value, e = .returned v ∧ Kd.R (Kd.int .i64) 3 w' w.heap.size (fun _ => True) v (tab 64 (fineV l0 l1)) ∧ Below w.heap.size w w' := by
  obtain ⟨p0, n0⟩ := okBl_iff.1 g0
  obtain ⟨p1, n1⟩ := okSc_iff.1 g1
  rw [n0] at p0
  rw [n1] at p1
  rw [n0] at hr0 ⊢
  rw [n1] at hr1 ⊢
  have HR0 := Aside0.mk hr0
  have HR1 := Aside0.mk hr1
  have N0 := Aside0.mk n0
  have N1 := Aside0.mk n1
  have P0 := Aside0.mk p0
  have P1 := Aside0.mk p1
  obtain ⟨f, hf⟩ : ∃ f, f = fineV l0 l1 := ⟨_, rfl⟩
  rw [← hf]
  have HF := Aside0.mk hf
  clear hr0 hr1 g0 g1 n0 n1 p0 p1 hf
  go_enter Try.func54, Try.ntmps54
  go_wp2_with ((with_reducible refine gate_dst (N := 9) rfl ?_); (refine Kd.R_make (Kd.int .i64) (w0 := w) w.heap.size 3 rfl (N := 9) rfl 22 _ _ rfl (64 : Int) rfl rfl Try.underlying22 (.int .i64 0) 8 info3 rfl (by decide) (by omega) 0 (ok := fun _ => True) (okp := fun _ => True) rfl (fun _ hk => hk) trivial (by omega) (by omega) ?mB5 ?mS5 ?_); (case mB5 => first | exact Below.refl _ _ | exact HB.out); (case mS5 => first | exact Nat.le_refl _ | exact below_size HB.out); intro v1 w1 ho hb hg hn; (try rw [Int.toNat_natCast] at ho); obtain ⟨A1, c1, rfl⟩ := R_slice_n (n := 64) ho (by simp); have HO := Aside0.mk ho; have HB := Aside0.mk hb; clear ho hb hg hn)
  go_loopg [12] 64 (fun q v12 w' => ∃ (i : Nat) (x : List Int), v12 = .int .i64 (i : Int) ∧ Aside0 (i + q = 64) ∧ Aside0 (Part 64 i x f (fun _ => 0)) ∧ Aside0 (Kd.R (Kd.int .i64) 3 w' w.heap.size (fun _ => True) (.slice A1 64 c1) x) ∧ Aside0 (Below w.heap.size w w'))
  case atStart => exact ⟨0, _, rfl, ⟨by omega⟩, ⟨Part.zeros _ _⟩, HO, HB⟩
  case round =>
    clear HO HB
    obtain ⟨i, x, rfl, Q, PT, HO, HB⟩ := hrel
    by_cases c0 : i < 64
    · obtain ⟨q, rfl⟩ : ∃ q, gk = q + 1 := ⟨gk - 1, by have := Q.out; omega⟩
      have xl : x.length = 64 := PT.out.1
      have HQ0 := Aside0.mk (Kd.C_below HR0.out HB.out)
      have HQ1 := Aside0.mk (Kd.C_below HR1.out HB.out)
      obtain ⟨ad1, e1, hx1⟩ := Kd.at_int HQ0.out (i : Int) (by omega) (by omega)
      obtain ⟨ad2, e2, hx2⟩ := Kd.at_int HQ1.out (i : Int) (by omega) (by omega)
      rw [Int.toNat_natCast] at hx1 hx2
      obtain ⟨n, hn⟩ : ∃ b, b = rd l0 (i : Int) := ⟨_, rfl⟩
      obtain ⟨s, hs⟩ : ∃ b, b = rd l1 (i : Int) := ⟨_, rfl⟩
      rw [← hn] at hx1
      rw [← hs] at hx2
      rw [rd_nat] at hn hs
      have nb := P0.out i c0
      have sb := P1.out i c0
      rw [← hn] at nb
      rw [← hs] at sb
      have pb := mul_bd nb.1 nb.2 sb.1 sb.2
      obtain ⟨p, hp⟩ : ∃ p, p = n * s := ⟨_, rfl⟩
      rw [← hp] at pb
      have F1 : Aside0 (f i = clampF p) := ⟨by rw [HF.out, hp, hn, hs]; rfl⟩
      have ep : n * s = p := hp.symm
      subst e1 e2
      obtain ⟨g, cap, e2, gb, gl, cl, hg⟩ := Kd.R_form HO.out (by omega)
      rw [xl] at e2
      cases e2
      obtain ⟨hx, hfz⟩ := Kd.R_celln 0 HO.out (i : Int) (by omega) (by omega)
      rw [Int.toNat_natCast] at hx hfz
      have GB := Aside0.mk gb
      clear gb gl hg hn hs xl hp
      by_cases b1 : 32767 < p
      · have s1 : decide (32767 < p) = true := decide_eq_true b1
        have HP := Aside0.mk (Kd.R_putn HO.out (i : Int) 32767)
        have PT2 := Aside0.mk (PT.out.set c0 (v := 32767) (by rw [F1.out]; unfold clampF; rw [if_pos b1]))
        go_wp2
        go_roundg q
        case measure => omega
        case rel => exact ⟨i + 1, _, by go_num, ⟨by have := Q.out; omega⟩, PT2, HP, ⟨below_set HB.out GB.out⟩⟩
      · have s1 : decide (32767 < p) = false := decide_eq_false b1
        by_cases b2 : p < -32768
        · have s2 : decide (p < -32768) = true := decide_eq_true b2
          have HP := Aside0.mk (Kd.R_putn HO.out (i : Int) (-32768))
          have PT2 := Aside0.mk (PT.out.set c0 (v := -32768) (by rw [F1.out]; unfold clampF; rw [if_neg b1, if_pos b2]))
          go_wp2
          go_roundg q
          case measure => omega
          case rel => exact ⟨i + 1, _, by go_num, ⟨by have := Q.out; omega⟩, PT2, HP, ⟨below_set HB.out GB.out⟩⟩
        · have s2 : decide (p < -32768) = false := decide_eq_false b2
          have HP := Aside0.mk (Kd.R_putn HO.out (i : Int) p)
          have PT2 := Aside0.mk (PT.out.set c0 (v := p) (by rw [F1.out]; unfold clampF; rw [if_neg b1, if_neg b2]))
          go_wp2
          go_roundg q
          case measure => omega
          case rel => exact ⟨i + 1, _, by go_num, ⟨by have := Q.out; omega⟩, PT2, HP, ⟨below_set HB.out GB.out⟩⟩
    · have E2 : Aside0 (x = tab 64 f) := ⟨by have h := PT.out; rw [show i = 64 by have := Q.out; omega] at h; exact h.done⟩
      go_wp2
      go_ret
      rw [E2.out] at HO
      exact ⟨_, rfl, HO.out, HB.out⟩
set_option maxHeartbeats 40000000 in
theorem fine_spec (A0 : Option Addr) (c0 : Nat) (l0 : List Int) (A1 : Option Addr) (c1 : Nat) (l1 : List Int) (hl0 : l0.length ≤ 1048576) (hw0 : ∀ x ∈ l0, (Lit.int .i64 x).wf = true) (hl1 : l1.length ≤ 1048576) (hw1 : ∀ x ∈ l1, (Lit.int .i64 x).wf = true) (w : World) (hc0 : l0.length ≤ c0) (hr0 : Kd.C (Kd.int .i64) w A0 l0.length l0) (hc1 : l1.length ≤ c1) (hr1 : Kd.C (Kd.int .i64) w A1 l1.length l1) :
    Calls Try.prog 25 #[.slice A0 l0.length c0, .slice A1 l1.length c1] w fun e w' => ∃ v : Value, e = .returned v ∧ Kd.R (Kd.int .i64) 3 w' w.heap.size (fun _ => True) v (fineL l0 l1) ∧ Below w.heap.size w w' := by
  have HR0 := Aside0.mk hr0
  have HR1 := Aside0.mk hr1
  clear hr0 hr1 hw0 hw1
  rcases hd : okBl l0 with _ | _
  · have E : Aside0 (fineL l0 l1 = []) := ⟨by unfold fineL; rw [if_neg (by rw [hd]; simp)]⟩
    have HD := Aside0.mk hd
    clear hd
    go_enter Try.func25, Try.ntmps25
    go_wp2_with fail
    refine (l8Block_calls A0 c0 l0 _ hl0 HR0.out).mono ?_
    rw [show (inB (-32768) 32767 l0 && decide (l0.length = 64)) = false from HD.out]
    rintro e w1 ⟨rfl, ⟨nd, rfl⟩⟩
    go_wp2
    go_ret
    rw [E.out]
    exact ⟨_, rfl, Kd.R_nil _ _ _ _ _, pw_below_drewN (Below.refl _ _) _⟩
  rcases he : okSc l1 with _ | _
  · have E : Aside0 (fineL l0 l1 = []) := ⟨by unfold fineL; rw [if_neg (by rw [he]; simp)]⟩
    have HD := Aside0.mk hd
    have HE := Aside0.mk he
    clear hd he
    go_enter Try.func25, Try.ntmps25
    go_wp2_with fail
    refine (l8Block_calls A0 c0 l0 _ hl0 HR0.out).mono ?_
    rw [show (inB (-32768) 32767 l0 && decide (l0.length = 64)) = true from HD.out]
    rintro e w1 ⟨rfl, ⟨nd, rfl⟩⟩
    go_wp2_with fail
    refine (l8Scales_calls A1 c1 l1 _ hl1 (Kd.C_drewN HR1.out _)).mono ?_
    rw [show (inB 1 255 l1 && decide (l1.length = 64)) = false from HE.out]
    rintro e w2 ⟨rfl, ⟨nd2, rfl⟩⟩
    go_wp2
    go_ret
    rw [E.out]
    exact ⟨_, rfl, Kd.R_nil _ _ _ _ _, pw_below_drewN (Below.refl _ _) _⟩
  have E : Aside0 (fineL l0 l1 = tab 64 (fineV l0 l1)) := ⟨by unfold fineL; rw [if_pos ⟨hd, he⟩]⟩
  have HD := Aside0.mk hd
  have HE := Aside0.mk he
  clear hd he
  go_enter Try.func25, Try.ntmps25
  go_wp2_with fail
  refine (l8Block_calls A0 c0 l0 _ hl0 HR0.out).mono ?_
  rw [show (inB (-32768) 32767 l0 && decide (l0.length = 64)) = true from HD.out]
  rintro e w1 ⟨rfl, ⟨nd, rfl⟩⟩
  go_wp2_with fail
  refine (l8Scales_calls A1 c1 l1 _ hl1 (Kd.C_drewN HR1.out _)).mono ?_
  rw [show (inB 1 255 l1 && decide (l1.length = 64)) = true from HE.out]
  rintro e w2 ⟨rfl, ⟨nd2, rfl⟩⟩
  go_wp2_with fail
  refine (l8Fine_calls A0 c0 l0 A1 c1 l1 HD.out HE.out _ (Kd.C_drewN HR0.out _) (Kd.C_drewN HR1.out _)).mono ?_
  rintro e w3 ⟨v, rfl, ho, hb⟩
  rw [← E.out] at ho
  have HO := Aside0.mk ho
  have HB := Aside0.mk hb
  clear ho hb
  go_wp2
  go_ret
  exact ⟨_, rfl, HO.out, below_step (pw_below_drewN (Below.refl _ _) (nd + nd2)) HB.out⟩
set_option maxHeartbeats 40000000 in
theorem fine_impl (A0 : Option Addr) (c0 : Nat) (l0 : List Int) (A1 : Option Addr) (c1 : Nat) (l1 : List Int) (hl0 : l0.length ≤ 1048576) (hw0 : ∀ x ∈ l0, (Lit.int .i64 x).wf = true) (hl1 : l1.length ≤ 1048576) (hw1 : ∀ x ∈ l1, (Lit.int .i64 x).wf = true) (w : World) (hc0 : l0.length ≤ c0) (hr0 : Kd.C (Kd.int .i64) w A0 l0.length l0) (hc1 : l1.length ≤ c1) (hr1 : Kd.C (Kd.int .i64) w A1 l1.length l1) :
    Calls Try.prog 26 #[.slice A0 l0.length c0, .slice A1 l1.length c1] w fun e w' => ∃ v : Value, e = .returned v ∧ Kd.R (Kd.int .i64) 3 w' w.heap.size (fun _ => True) v (fineL l0 l1) ∧ Below w.heap.size w w' := by
  have HR0 := Aside0.mk hr0
  have HR1 := Aside0.mk hr1
  clear hr0 hr1 hw0 hw1
  rcases hd : okBl l0 with _ | _
  · have E : Aside0 (fineL l0 l1 = []) := ⟨by unfold fineL; rw [if_neg (by rw [hd]; simp)]⟩
    have HD := Aside0.mk hd
    clear hd
    go_enter Try.func26, Try.ntmps26
    go_wp2_with fail
    refine (goodBlock_calls A0 c0 l0 _ hl0 HR0.out).mono ?_
    rw [show (inB (-32768) 32767 l0 && decide (l0.length = 64)) = false from HD.out]
    rintro e w1 ⟨rfl, ⟨nd, rfl⟩⟩
    go_wp2
    go_ret
    rw [E.out]
    exact ⟨_, rfl, Kd.R_nil _ _ _ _ _, pw_below_drewN (Below.refl _ _) _⟩
  rcases he : okSc l1 with _ | _
  · have E : Aside0 (fineL l0 l1 = []) := ⟨by unfold fineL; rw [if_neg (by rw [he]; simp)]⟩
    have HD := Aside0.mk hd
    have HE := Aside0.mk he
    clear hd he
    go_enter Try.func26, Try.ntmps26
    go_wp2_with fail
    refine (goodBlock_calls A0 c0 l0 _ hl0 HR0.out).mono ?_
    rw [show (inB (-32768) 32767 l0 && decide (l0.length = 64)) = true from HD.out]
    rintro e w1 ⟨rfl, ⟨nd, rfl⟩⟩
    go_wp2_with fail
    refine (goodScales_calls A1 c1 l1 _ hl1 (Kd.C_drewN HR1.out _)).mono ?_
    rw [show (inB 1 255 l1 && decide (l1.length = 64)) = false from HE.out]
    rintro e w2 ⟨rfl, ⟨nd2, rfl⟩⟩
    go_wp2
    go_ret
    rw [E.out]
    exact ⟨_, rfl, Kd.R_nil _ _ _ _ _, pw_below_drewN (Below.refl _ _) _⟩
  have E : Aside0 (fineL l0 l1 = tab 64 (fineV l0 l1)) := ⟨by unfold fineL; rw [if_pos ⟨hd, he⟩]⟩
  have HD := Aside0.mk hd
  have HE := Aside0.mk he
  clear hd he
  go_enter Try.func26, Try.ntmps26
  go_wp2_with fail
  refine (goodBlock_calls A0 c0 l0 _ hl0 HR0.out).mono ?_
  rw [show (inB (-32768) 32767 l0 && decide (l0.length = 64)) = true from HD.out]
  rintro e w1 ⟨rfl, ⟨nd, rfl⟩⟩
  go_wp2_with fail
  refine (goodScales_calls A1 c1 l1 _ hl1 (Kd.C_drewN HR1.out _)).mono ?_
  rw [show (inB 1 255 l1 && decide (l1.length = 64)) = true from HE.out]
  rintro e w2 ⟨rfl, ⟨nd2, rfl⟩⟩
  obtain ⟨p0, n0⟩ := okBl_iff.1 HD.out
  obtain ⟨p1, n1⟩ := okSc_iff.1 HE.out
  rw [n0] at p0
  rw [n1] at p1
  have N0 := Aside0.mk n0
  have N1 := Aside0.mk n1
  have P0 := Aside0.mk p0
  have P1 := Aside0.mk p1
  have n0a : 64 ≤ l0.length ∧ l0.length ≤ 64 := by omega
  have n1a : 64 ≤ l1.length ∧ l1.length ≤ 64 := by omega
  obtain ⟨f, hf⟩ : ∃ f, f = fineV l0 l1 := ⟨_, rfl⟩
  rw [← hf] at E
  have HF := Aside0.mk hf
  have HB := Aside0.mk (pw_below_drewN (Below.refl w.heap.size w) (nd + nd2))
  clear n0 n1 p0 p1 hf
  go_wp2
  go_loopg [5, 18] 64 (fun q v5 v18 w' => ∃ (i : Nat) (out : List Int), v18 = .int .i64 (i : Int) ∧ Aside0 (i + q = 64) ∧ Aside0 (out.length = i) ∧ Aside0 (out = tab i f) ∧ Aside0 (Kd.R (Kd.int .i64) 3 w' w.heap.size (fun _ => True) v5 out) ∧ Aside0 (Below w.heap.size w w'))
  case atStart => exact ⟨0, [], rfl, ⟨by omega⟩, ⟨rfl⟩, ⟨by simp [tab]⟩, ⟨Kd.R_nil _ _ _ _ _⟩, HB⟩
  case round =>
    clear HB
    obtain ⟨i, out, rfl, Q, L, G, HO, HB⟩ := hrel
    by_cases c0 : i < 64
    · obtain ⟨q, rfl⟩ : ∃ q, gk = q + 1 := ⟨gk - 1, by have := Q.out; omega⟩
      have HQ0 := Aside0.mk (Kd.C_below HR0.out HB.out)
      have HQ1 := Aside0.mk (Kd.C_below HR1.out HB.out)
      obtain ⟨ad1, e1, hx1⟩ := Kd.at_int HQ0.out (i : Int) (by omega) (by omega)
      obtain ⟨ad2, e2, hx2⟩ := Kd.at_int HQ1.out (i : Int) (by omega) (by omega)
      rw [Int.toNat_natCast] at hx1 hx2
      obtain ⟨n, hn⟩ : ∃ b, b = rd l0 (i : Int) := ⟨_, rfl⟩
      obtain ⟨s, hs⟩ : ∃ b, b = rd l1 (i : Int) := ⟨_, rfl⟩
      rw [← hn] at hx1
      rw [← hs] at hx2
      rw [rd_nat] at hn hs
      have nb := P0.out i c0
      have sb := P1.out i c0
      rw [← hn] at nb
      rw [← hs] at sb
      have pb := mul_bd nb.1 nb.2 sb.1 sb.2
      obtain ⟨p, hp⟩ : ∃ p, p = n * s := ⟨_, rfl⟩
      rw [← hp] at pb
      have F1 : Aside0 (f i = clampF p) := ⟨by rw [HF.out, hp, hn, hs]; rfl⟩
      have ep : n * s = p := hp.symm
      subst e1 e2
      clear hn hs hp
      have G2 : Aside0 (out ++ [if -32768 < if p < 32767 then p else 32767 then if p < 32767 then p else 32767 else -32768] = tab (i + 1) f) := ⟨by rw [tab_succ, G.out, F1.out]; congr 2; unfold clampF; (repeat' split) <;> omega⟩
      go_wp2_with (at_builtin; refine Kd.R_append (Kd.int .i64) (w0 := w) w.heap.size rfl (.tmp 23) (.tmp 32) 22 3 (.int .i64 0) 8 rfl Try.underlying22 info3 rfl (by decide) (by omega) u5 (out) (if -32768 < if p < 32767 then p else 32767 then if p < 32767 then p else 32767 else -32768) [.int .i64 (if -32768 < if p < 32767 then p else 32767 then if p < 32767 then p else 32767 else -32768)] (fun _ => True) (fun _ => False) rfl rfl ?aP6 (fun _ hk => hk.elim) ?aF6 ?aO6 ?aB6 ?aS6 ?aL6 ?_; (case aP6 => exact rfl); (case aB6 => exact HB.out); (case aF6 => exact fun _ _ => trivial); (case aO6 => exact HO.out); (case aS6 => exact below_size (HB.out)); (case aL6 => have := L.out; have := Q.out; omega); intro v1 w1 ho hb hg hat; have HO2 := Aside0.mk ho; have HB2 := Aside0.mk hb; clear ho hb hg hat HO HB)
      all_goals
        go_roundg q
        case measure => omega
        case rel => exact ⟨i + 1, out ++ [_], by go_num, ⟨by have := Q.out; omega⟩, ⟨by have := L.out; simp; omega⟩, G2, HO2, HB2⟩
    · have E2 : Aside0 (out = fineL l0 l1) := ⟨by rw [E.out, G.out, show i = 64 by have := Q.out; omega]⟩
      go_wp2
      go_ret
      rw [E2.out] at HO
      exact ⟨_, rfl, HO.out, HB.out⟩
end Go.Proofs.Ytflgalojbebfmaa.Wk
