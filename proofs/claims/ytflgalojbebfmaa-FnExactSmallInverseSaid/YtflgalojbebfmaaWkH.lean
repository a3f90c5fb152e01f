/- Walks of this seat's own: what toIntS and the checks of ranges come to. -/
import Derived.Test.YtflgalojbebfmaaWkIntSC
namespace Go.Proofs.Ytflgalojbebfmaa.Wk
open Go.RowKit Go.Proofs.YtflgalojbebfmaaW.PrintWords Go.Proofs.YtflgalojbebfmaaW.PrintLast Go.Proofs.YtflgalojbebfmaaW.PrintMore Go.Proofs.Ytflgalojbebfmaa.My
set_option linter.unusedVariables false
set_option linter.unusedSimpArgs false
attribute [local congr] bind_left ite_left
set_option maxHeartbeats 1000000 in
/-- The copy that toIntS makes. -/
theorem toI_calls (A : Option Addr) (c : Nat) (l : List Int) (w : World) (hl : l.length ≤ 1048576) (hc : l.length ≤ c) (hr : Kd.C (Kd.int .i64) w A l.length l) :
    Calls Try.prog 23 #[.slice A l.length c] w fun e w' => ∃ v : Value, e = .returned v ∧ Kd.R (Kd.int .i64) 3 w' w.heap.size (fun _ => True) v l ∧ Below w.heap.size w w' := by
  have HR := Aside0.mk hr
  clear hr
  obtain ⟨n, hn⟩ : ∃ n, n = l.length := ⟨_, rfl⟩
  rw [← hn] at HR hl hc ⊢
  have HN := Aside0.mk hn
  clear hn
  go_enter Try.func23, Try.ntmps23
  go_wp2_with ((with_reducible refine gate_dst (N := 7) rfl ?_); (refine Kd.R_make (Kd.int .i64) (w0 := w) w.heap.size 3 rfl (N := 7) rfl 22 _ _ rfl (n : Int) rfl rfl Try.underlying22 (.int .i64 0) 8 info3 rfl (by decide) (by omega) 0 (ok := fun _ => True) (okp := fun _ => True) rfl (fun _ hk => hk) trivial (by omega) (by omega) ?mB ?mS ?_); (case mB => first | exact Below.refl _ _ | exact HB.out); (case mS => first | exact Nat.le_refl _ | exact below_size HB.out); intro v1 w1 ho hb hg hn; (try rw [Int.toNat_natCast] at ho); obtain ⟨A1, c1, rfl⟩ := R_slice_n (n := n) ho (by simp); have HO := Aside0.mk ho; have HB := Aside0.mk hb; clear ho hb hg hn)
  go_loopg [4] n (fun q v4 w' => ∃ (i : Nat) (x : List Int), v4 = .int .i64 (i : Int) ∧ Aside0 (i + q = n) ∧ Aside0 (Part n i x (fun j => l.getD j 0) (fun _ => 0)) ∧ Aside0 (Kd.R (Kd.int .i64) 3 w' w.heap.size (fun _ => True) (.slice A1 n c1) x) ∧ Aside0 (Below w.heap.size w w'))
  case atStart => exact ⟨0, _, rfl, ⟨by omega⟩, ⟨Part.zeros _ _⟩, HO, HB⟩
  case round =>
    clear HO HB
    obtain ⟨i, x, rfl, Q, PT, HO, HB⟩ := hrel
    by_cases c0 : i < n
    · obtain ⟨q, rfl⟩ : ∃ q, gk = q + 1 := ⟨gk - 1, by have := Q.out; omega⟩
      have xl : x.length = n := PT.out.1
      have HR2 := Aside0.mk (Kd.C_below HR.out HB.out)
      obtain ⟨ad1, e1, hx1⟩ := Kd.at_int HR2.out (i : Int) (by omega) (by omega)
      rw [Int.toNat_natCast] at hx1
      obtain ⟨b, hb⟩ : ∃ b, b = rd l (i : Int) := ⟨_, rfl⟩
      rw [← hb] at hx1
      subst e1
      obtain ⟨g, cap, e2, gb, gl, cl, hg⟩ := Kd.R_form HO.out (by omega)
      rw [xl] at e2
      cases e2
      obtain ⟨hx, hfz⟩ := Kd.R_celln 0 HO.out (i : Int) (by omega) (by omega)
      rw [Int.toNat_natCast] at hx hfz
      have GB := Aside0.mk gb
      have HP := Aside0.mk (Kd.R_putn HO.out (i : Int) b)
      have PT2 := Aside0.mk (PT.out.set c0 (v := b) (by rw [hb, rd_nat]))
      clear gb gl hg hb xl
      go_wp2
      go_roundg q
      case measure => omega
      case rel => exact ⟨i + 1, _, by go_num, ⟨by have := Q.out; omega⟩, PT2, HP, ⟨below_set HB.out GB.out⟩⟩
    · have E2 : Aside0 (x = l) := ⟨by
        have h := PT.out
        rw [show i = n by have := Q.out; omega] at h
        rw [h.done, HN.out]
        exact tab_self l⟩
      go_wp2
      go_ret
      rw [E2.out] at HO
      exact ⟨_, rfl, HO.out, HB.out⟩
set_option maxHeartbeats 1000000 in
theorem l8Block_calls (A : Option Addr) (c : Nat) (l : List Int) (w : World) (hl : l.length ≤ 1048576) (hr : Kd.C (Kd.int .i64) w A l.length l) :
    Calls Try.prog 49 #[.slice A l.length c] w fun e w' => e = .returned (.bool (inB (-32768) (32767) l && decide (l.length = 64))) ∧ Drawn0 w w' := by
  have H1 := Aside0.mk hr
  clear hr
  obtain ⟨r, hr⟩ : ∃ r, r = (inB (-32768) (32767) l && decide (l.length = 64)) := ⟨_, rfl⟩
  rw [← hr]
  obtain ⟨n, hn⟩ : ∃ n, n = l.length := ⟨_, rfl⟩
  rw [← hn] at H1 hl ⊢
  have HRr := Aside0.mk hr
  have HN := Aside0.mk hn
  clear hr hn
  go_enter Try.func49, Try.ntmps49
  go_wp2
  go_loopg [7] n (fun q v7 w' => ∃ i : Nat, v7 = .int .i64 (i : Int) ∧ Aside0 (i + q = n) ∧ Aside0 (∀ j, j < i → (-32768) ≤ l.getD j 0 ∧ l.getD j 0 ≤ (32767)) ∧ Drawn0 w w')
  case atStart => exact ⟨0, rfl, ⟨by omega⟩, ⟨fun j hj => by omega⟩, by repeat (first | exact Drawn0.refl _ | apply Drawn0.step)⟩
  case round =>
    obtain ⟨i, rfl, Q, P, ⟨nd, rfl⟩⟩ := hrel
    by_cases c0 : i < n
    · obtain ⟨q, rfl⟩ : ∃ q, gk = q + 1 := ⟨gk - 1, by have := Q.out; omega⟩
      obtain ⟨ad1, e1, hx1⟩ := Kd.at_int H1.out (i : Int) (by omega) (by omega)
      rw [Int.toNat_natCast] at hx1
      obtain ⟨b, hb⟩ : ∃ b, b = rd l (i : Int) := ⟨_, rfl⟩
      rw [← hb] at hx1
      rw [rd_nat] at hb
      have HB := Aside0.mk hb
      clear hb
      subst e1
      by_cases b1 : b < (-32768)
      · have t1 : decide (b < (-32768)) = true := decide_eq_true b1
        have E : Aside0 (r = false) := ⟨by
          rw [HRr.out, Bool.and_eq_false_iff]
          refine .inl (Bool.eq_false_iff.2 fun h => ?_)
          have := inB_iff.1 h i (by have := HN.out; omega)
          rw [← HB.out] at this
          omega⟩
        go_wp2
        go_ret
        exact ⟨by rw [E.out]; rfl, by repeat (first | exact Drawn0.refl _ | apply Drawn0.step)⟩
      · have t1 : decide (b < (-32768)) = false := decide_eq_false b1
        by_cases b2 : (32767) < b
        · have t2 : decide ((32767) < b) = true := decide_eq_true b2
          have E : Aside0 (r = false) := ⟨by
            rw [HRr.out, Bool.and_eq_false_iff]
            refine .inl (Bool.eq_false_iff.2 fun h => ?_)
            have := inB_iff.1 h i (by have := HN.out; omega)
            rw [← HB.out] at this
            omega⟩
          go_wp2
          go_ret
          exact ⟨by rw [E.out]; rfl, by repeat (first | exact Drawn0.refl _ | apply Drawn0.step)⟩
        · have t2 : decide ((32767) < b) = false := decide_eq_false b2
          have P2 : Aside0 (∀ j, j < i + 1 → (-32768) ≤ l.getD j 0 ∧ l.getD j 0 ≤ (32767)) := ⟨fun j hj => by
            by_cases e : j = i
            · rw [e, ← HB.out]; omega
            · exact P.out j (by omega)⟩
          go_wp2
          go_roundg q
          case measure => omega
          case rel => exact ⟨i + 1, by go_num, ⟨by have := Q.out; omega⟩, P2, by repeat (first | exact Drawn0.refl _ | apply Drawn0.step)⟩
    · have E : Aside0 (r = decide (n = 64)) := ⟨by
        rw [HRr.out, ← HN.out, show inB (-32768) (32767) l = true from inB_iff.2 fun j hj => P.out j (by have := HN.out; omega), Bool.true_and]⟩
      clear P
      go_wp2
      go_ret
      exact ⟨by rw [E.out]; exact congrArg (fun b => Ending.returned (.bool b)) (show ((n : Int) == 64) = decide (n = 64) by rw [Bool.eq_iff_iff]; simp; omega), by repeat (first | exact Drawn0.refl _ | apply Drawn0.step)⟩
set_option maxHeartbeats 1000000 in
theorem goodBlock_calls (A : Option Addr) (c : Nat) (l : List Int) (w : World) (hl : l.length ≤ 1048576) (hr : Kd.C (Kd.int .i64) w A l.length l) :
    Calls Try.prog 52 #[.slice A l.length c] w fun e w' => e = .returned (.bool (inB (-32768) (32767) l && decide (l.length = 64))) ∧ Drawn0 w w' := by
  have H1 := Aside0.mk hr
  clear hr
  obtain ⟨r, hr⟩ : ∃ r, r = (inB (-32768) (32767) l && decide (l.length = 64)) := ⟨_, rfl⟩
  rw [← hr]
  obtain ⟨n, hn⟩ : ∃ n, n = l.length := ⟨_, rfl⟩
  rw [← hn] at H1 hl ⊢
  have HRr := Aside0.mk hr
  have HN := Aside0.mk hn
  clear hr hn
  go_enter Try.func52, Try.ntmps52
  go_wp2
  go_loopg [7] n (fun q v7 w' => ∃ i : Nat, v7 = .int .i64 (i : Int) ∧ Aside0 (i + q = n) ∧ Aside0 (∀ j, j < i → (-32768) ≤ l.getD j 0 ∧ l.getD j 0 ≤ (32767)) ∧ Drawn0 w w')
  case atStart => exact ⟨0, rfl, ⟨by omega⟩, ⟨fun j hj => by omega⟩, by repeat (first | exact Drawn0.refl _ | apply Drawn0.step)⟩
  case round =>
    obtain ⟨i, rfl, Q, P, ⟨nd, rfl⟩⟩ := hrel
    by_cases c0 : i < n
    · obtain ⟨q, rfl⟩ : ∃ q, gk = q + 1 := ⟨gk - 1, by have := Q.out; omega⟩
      obtain ⟨ad1, e1, hx1⟩ := Kd.at_int H1.out (i : Int) (by omega) (by omega)
      rw [Int.toNat_natCast] at hx1
      obtain ⟨b, hb⟩ : ∃ b, b = rd l (i : Int) := ⟨_, rfl⟩
      rw [← hb] at hx1
      rw [rd_nat] at hb
      have HB := Aside0.mk hb
      clear hb
      subst e1
      by_cases b1 : b < (-32768)
      · have t1 : decide (b < (-32768)) = true := decide_eq_true b1
        have E : Aside0 (r = false) := ⟨by
          rw [HRr.out, Bool.and_eq_false_iff]
          refine .inl (Bool.eq_false_iff.2 fun h => ?_)
          have := inB_iff.1 h i (by have := HN.out; omega)
          rw [← HB.out] at this
          omega⟩
        go_wp2
        go_ret
        exact ⟨by rw [E.out]; rfl, by repeat (first | exact Drawn0.refl _ | apply Drawn0.step)⟩
      · have t1 : decide (b < (-32768)) = false := decide_eq_false b1
        by_cases b2 : (32767) < b
        · have t2 : decide ((32767) < b) = true := decide_eq_true b2
          have E : Aside0 (r = false) := ⟨by
            rw [HRr.out, Bool.and_eq_false_iff]
            refine .inl (Bool.eq_false_iff.2 fun h => ?_)
            have := inB_iff.1 h i (by have := HN.out; omega)
            rw [← HB.out] at this
            omega⟩
          go_wp2
          go_ret
          exact ⟨by rw [E.out]; rfl, by repeat (first | exact Drawn0.refl _ | apply Drawn0.step)⟩
        · have t2 : decide ((32767) < b) = false := decide_eq_false b2
          have P2 : Aside0 (∀ j, j < i + 1 → (-32768) ≤ l.getD j 0 ∧ l.getD j 0 ≤ (32767)) := ⟨fun j hj => by
            by_cases e : j = i
            · rw [e, ← HB.out]; omega
            · exact P.out j (by omega)⟩
          go_wp2
          go_roundg q
          case measure => omega
          case rel => exact ⟨i + 1, by go_num, ⟨by have := Q.out; omega⟩, P2, by repeat (first | exact Drawn0.refl _ | apply Drawn0.step)⟩
    · have E : Aside0 (r = decide (n = 64)) := ⟨by
        rw [HRr.out, ← HN.out, show inB (-32768) (32767) l = true from inB_iff.2 fun j hj => P.out j (by have := HN.out; omega), Bool.true_and]⟩
      clear P
      go_wp2
      go_ret
      exact ⟨by rw [E.out]; exact congrArg (fun b => Ending.returned (.bool b)) (show ((n : Int) == 64) = decide (n = 64) by rw [Bool.eq_iff_iff]; simp; omega), by repeat (first | exact Drawn0.refl _ | apply Drawn0.step)⟩
set_option maxHeartbeats 1000000 in
theorem l8Scales_calls (A : Option Addr) (c : Nat) (l : List Int) (w : World) (hl : l.length ≤ 1048576) (hr : Kd.C (Kd.int .i64) w A l.length l) :
    Calls Try.prog 50 #[.slice A l.length c] w fun e w' => e = .returned (.bool (inB (1) (255) l && decide (l.length = 64))) ∧ Drawn0 w w' := by
  have H1 := Aside0.mk hr
  clear hr
  obtain ⟨r, hr⟩ : ∃ r, r = (inB (1) (255) l && decide (l.length = 64)) := ⟨_, rfl⟩
  rw [← hr]
  obtain ⟨n, hn⟩ : ∃ n, n = l.length := ⟨_, rfl⟩
  rw [← hn] at H1 hl ⊢
  have HRr := Aside0.mk hr
  have HN := Aside0.mk hn
  clear hr hn
  go_enter Try.func50, Try.ntmps50
  go_wp2
  go_loopg [7] n (fun q v7 w' => ∃ i : Nat, v7 = .int .i64 (i : Int) ∧ Aside0 (i + q = n) ∧ Aside0 (∀ j, j < i → (1) ≤ l.getD j 0 ∧ l.getD j 0 ≤ (255)) ∧ Drawn0 w w')
  case atStart => exact ⟨0, rfl, ⟨by omega⟩, ⟨fun j hj => by omega⟩, by repeat (first | exact Drawn0.refl _ | apply Drawn0.step)⟩
  case round =>
    obtain ⟨i, rfl, Q, P, ⟨nd, rfl⟩⟩ := hrel
    by_cases c0 : i < n
    · obtain ⟨q, rfl⟩ : ∃ q, gk = q + 1 := ⟨gk - 1, by have := Q.out; omega⟩
      obtain ⟨ad1, e1, hx1⟩ := Kd.at_int H1.out (i : Int) (by omega) (by omega)
      rw [Int.toNat_natCast] at hx1
      obtain ⟨b, hb⟩ : ∃ b, b = rd l (i : Int) := ⟨_, rfl⟩
      rw [← hb] at hx1
      rw [rd_nat] at hb
      have HB := Aside0.mk hb
      clear hb
      subst e1
      by_cases b1 : b < (1)
      · have t1 : decide (b < (1)) = true := decide_eq_true b1
        have E : Aside0 (r = false) := ⟨by
          rw [HRr.out, Bool.and_eq_false_iff]
          refine .inl (Bool.eq_false_iff.2 fun h => ?_)
          have := inB_iff.1 h i (by have := HN.out; omega)
          rw [← HB.out] at this
          omega⟩
        go_wp2
        go_ret
        exact ⟨by rw [E.out]; rfl, by repeat (first | exact Drawn0.refl _ | apply Drawn0.step)⟩
      · have t1 : decide (b < (1)) = false := decide_eq_false b1
        by_cases b2 : (255) < b
        · have t2 : decide ((255) < b) = true := decide_eq_true b2
          have E : Aside0 (r = false) := ⟨by
            rw [HRr.out, Bool.and_eq_false_iff]
            refine .inl (Bool.eq_false_iff.2 fun h => ?_)
            have := inB_iff.1 h i (by have := HN.out; omega)
            rw [← HB.out] at this
            omega⟩
          go_wp2
          go_ret
          exact ⟨by rw [E.out]; rfl, by repeat (first | exact Drawn0.refl _ | apply Drawn0.step)⟩
        · have t2 : decide ((255) < b) = false := decide_eq_false b2
          have P2 : Aside0 (∀ j, j < i + 1 → (1) ≤ l.getD j 0 ∧ l.getD j 0 ≤ (255)) := ⟨fun j hj => by
            by_cases e : j = i
            · rw [e, ← HB.out]; omega
            · exact P.out j (by omega)⟩
          go_wp2
          go_roundg q
          case measure => omega
          case rel => exact ⟨i + 1, by go_num, ⟨by have := Q.out; omega⟩, P2, by repeat (first | exact Drawn0.refl _ | apply Drawn0.step)⟩
    · have E : Aside0 (r = decide (n = 64)) := ⟨by
        rw [HRr.out, ← HN.out, show inB (1) (255) l = true from inB_iff.2 fun j hj => P.out j (by have := HN.out; omega), Bool.true_and]⟩
      clear P
      go_wp2
      go_ret
      exact ⟨by rw [E.out]; exact congrArg (fun b => Ending.returned (.bool b)) (show ((n : Int) == 64) = decide (n = 64) by rw [Bool.eq_iff_iff]; simp; omega), by repeat (first | exact Drawn0.refl _ | apply Drawn0.step)⟩
set_option maxHeartbeats 1000000 in
theorem goodScales_calls (A : Option Addr) (c : Nat) (l : List Int) (w : World) (hl : l.length ≤ 1048576) (hr : Kd.C (Kd.int .i64) w A l.length l) :
    Calls Try.prog 53 #[.slice A l.length c] w fun e w' => e = .returned (.bool (inB (1) (255) l && decide (l.length = 64))) ∧ Drawn0 w w' := by
  have H1 := Aside0.mk hr
  clear hr
  obtain ⟨r, hr⟩ : ∃ r, r = (inB (1) (255) l && decide (l.length = 64)) := ⟨_, rfl⟩
  rw [← hr]
  obtain ⟨n, hn⟩ : ∃ n, n = l.length := ⟨_, rfl⟩
  rw [← hn] at H1 hl ⊢
  have HRr := Aside0.mk hr
  have HN := Aside0.mk hn
  clear hr hn
  go_enter Try.func53, Try.ntmps53
  go_wp2
  go_loopg [7] n (fun q v7 w' => ∃ i : Nat, v7 = .int .i64 (i : Int) ∧ Aside0 (i + q = n) ∧ Aside0 (∀ j, j < i → (1) ≤ l.getD j 0 ∧ l.getD j 0 ≤ (255)) ∧ Drawn0 w w')
  case atStart => exact ⟨0, rfl, ⟨by omega⟩, ⟨fun j hj => by omega⟩, by repeat (first | exact Drawn0.refl _ | apply Drawn0.step)⟩
  case round =>
    obtain ⟨i, rfl, Q, P, ⟨nd, rfl⟩⟩ := hrel
    by_cases c0 : i < n
    · obtain ⟨q, rfl⟩ : ∃ q, gk = q + 1 := ⟨gk - 1, by have := Q.out; omega⟩
      obtain ⟨ad1, e1, hx1⟩ := Kd.at_int H1.out (i : Int) (by omega) (by omega)
      rw [Int.toNat_natCast] at hx1
      obtain ⟨b, hb⟩ : ∃ b, b = rd l (i : Int) := ⟨_, rfl⟩
      rw [← hb] at hx1
      rw [rd_nat] at hb
      have HB := Aside0.mk hb
      clear hb
      subst e1
      by_cases b1 : b < (1)
      · have t1 : decide (b < (1)) = true := decide_eq_true b1
        have E : Aside0 (r = false) := ⟨by
          rw [HRr.out, Bool.and_eq_false_iff]
          refine .inl (Bool.eq_false_iff.2 fun h => ?_)
          have := inB_iff.1 h i (by have := HN.out; omega)
          rw [← HB.out] at this
          omega⟩
        go_wp2
        go_ret
        exact ⟨by rw [E.out]; rfl, by repeat (first | exact Drawn0.refl _ | apply Drawn0.step)⟩
      · have t1 : decide (b < (1)) = false := decide_eq_false b1
        by_cases b2 : (255) < b
        · have t2 : decide ((255) < b) = true := decide_eq_true b2
          have E : Aside0 (r = false) := ⟨by
            rw [HRr.out, Bool.and_eq_false_iff]
            refine .inl (Bool.eq_false_iff.2 fun h => ?_)
            have := inB_iff.1 h i (by have := HN.out; omega)
            rw [← HB.out] at this
            omega⟩
          go_wp2
          go_ret
          exact ⟨by rw [E.out]; rfl, by repeat (first | exact Drawn0.refl _ | apply Drawn0.step)⟩
        · have t2 : decide ((255) < b) = false := decide_eq_false b2
          have P2 : Aside0 (∀ j, j < i + 1 → (1) ≤ l.getD j 0 ∧ l.getD j 0 ≤ (255)) := ⟨fun j hj => by
            by_cases e : j = i
            · rw [e, ← HB.out]; omega
            · exact P.out j (by omega)⟩
          go_wp2
          go_roundg q
          case measure => omega
          case rel => exact ⟨i + 1, by go_num, ⟨by have := Q.out; omega⟩, P2, by repeat (first | exact Drawn0.refl _ | apply Drawn0.step)⟩
    · have E : Aside0 (r = decide (n = 64)) := ⟨by
        rw [HRr.out, ← HN.out, show inB (1) (255) l = true from inB_iff.2 fun j hj => P.out j (by have := HN.out; omega), Bool.true_and]⟩
      clear P
      go_wp2
      go_ret
      exact ⟨by rw [E.out]; exact congrArg (fun b => Ending.returned (.bool b)) (show ((n : Int) == 64) = decide (n = 64) by rw [Bool.eq_iff_iff]; simp; omega), by repeat (first | exact Drawn0.refl _ | apply Drawn0.step)⟩
end Go.Proofs.Ytflgalojbebfmaa.Wk
