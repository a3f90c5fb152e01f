/- Walks of this seat's own: what the program's PackRow comes to. -/
import Derived.Test.YtkhpcclddkddmaaWkPack
namespace Go.Proofs.Ytkhpcclddkddmaa.Wk
open Go.RowKit Go.Proofs.YtkhpcclddkddmaaW.PrintWords Go.Proofs.YtkhpcclddkddmaaW.PrintLast Go.Proofs.YtkhpcclddkddmaaW.PrintMore Go.Proofs.Ytkhpcclddkddmaa.My
set_option linter.unusedVariables false
set_option linter.unusedSimpArgs false
set_option maxHeartbeats 4000000 in
theorem inRange_calls (A : Option Addr) (c : Nat) (l : List Int) (m : Int) (hl : l.length ≤ 1048576) (w : World) (hr : Kd.C (Kd.int .i64) w A l.length l) :
    Calls Try.prog 41 #[.slice A l.length c, .int .i64 m] w fun e w' => e = .returned (.bool (inB 0 m l)) ∧ Drawn0 w w' := by
  have H1 := Aside0.mk hr
  clear hr
  obtain ⟨r, hr⟩ : ∃ r, r = inB 0 m l := ⟨_, rfl⟩
  rw [← hr]
  have HRr := Aside0.mk hr
  clear hr
  go_enter Try.func41, Try.ntmps41
  go_wp2
  go_loopg [9] l.length (fun q v9 w' => ∃ i : Nat, v9 = .int .i64 (i : Int) ∧ Aside0 (i + q = l.length) ∧ Aside0 (∀ j, j < i → 0 ≤ l.getD j 0 ∧ l.getD j 0 ≤ m) ∧ Drawn0 w w')
  case atStart => exact ⟨0, rfl, ⟨by omega⟩, ⟨fun j hj => by omega⟩, by repeat (first | exact Drawn0.refl _ | apply Drawn0.step)⟩
  case round =>
    obtain ⟨i, rfl, Q, P, ⟨nd, rfl⟩⟩ := hrel
    by_cases c0 : i < l.length
    · obtain ⟨q, rfl⟩ : ∃ q, gk = q + 1 := ⟨gk - 1, by have := Q.out; omega⟩
      obtain ⟨ad1, e1, hx1⟩ := Kd.at_int H1.out (i : Int) (by omega) (by omega)
      rw [Int.toNat_natCast] at hx1
      obtain ⟨b, hb⟩ : ∃ b, b = rd l (i : Int) := ⟨_, rfl⟩
      rw [← hb] at hx1
      rw [rd_nat] at hb
      have HB := Aside0.mk hb
      clear hb
      subst e1
      have BAD : b < 0 ∨ m < b → r = false := fun g => by
        rw [HRr.out]
        refine Bool.eq_false_iff.2 fun h => ?_
        have := inB_iff.1 h i c0
        rw [← HB.out] at this
        omega
      have BD := Aside0.mk BAD
      clear BAD
      by_cases b1 : b < 0
      · have t1 : decide (b < 0) = true := decide_eq_true b1
        go_wp2
        go_ret
        exact ⟨by rw [BD.out (.inl (by omega))]; rfl, by repeat (first | exact Drawn0.refl _ | apply Drawn0.step)⟩
      · have t1 : decide (b < 0) = false := decide_eq_false b1
        by_cases b2 : m < b
        · have t2 : decide (m < b) = true := decide_eq_true b2
          go_wp2
          go_ret
          exact ⟨by rw [BD.out (.inr (by omega))]; rfl, by repeat (first | exact Drawn0.refl _ | apply Drawn0.step)⟩
        · have t2 : decide (m < b) = false := decide_eq_false b2
          have P2 : Aside0 (∀ j, j < i + 1 → 0 ≤ l.getD j 0 ∧ l.getD j 0 ≤ m) := ⟨fun j hj => by
            by_cases e : j = i
            · rw [e, ← HB.out]; omega
            · exact P.out j (by omega)⟩
          go_wp2
          go_roundg q
          case measure => omega
          case rel => exact ⟨i + 1, by go_num, ⟨by have := Q.out; omega⟩, P2, by repeat (first | exact Drawn0.refl _ | apply Drawn0.step)⟩
    · have E : Aside0 (r = true) := ⟨by rw [HRr.out]; exact inB_iff.2 fun j hj => P.out j (by omega)⟩
      clear P
      go_wp2
      go_ret
      exact ⟨by rw [E.out]; rfl, by repeat (first | exact Drawn0.refl _ | apply Drawn0.step)⟩
set_option maxHeartbeats 40000000 in
theorem pack_impl_1 (A0 : Option Addr) (c0 : Nat) (l0 : List Int) (h : l0.length ≤ 4096) (w : World) (hr0 : Kd.C (Kd.int .i64) w A0 l0.length l0) :
    Calls Try.prog 19 #[.slice A0 l0.length c0, .int .i64 1] w fun e w' => ∃ v : Value, e = .returned v ∧ Kd.R (Kd.int .u8) 5 w' w.heap.size (fun _ => True) v (packL l0 1) ∧ Below w.heap.size w w' := by
  have HR := Aside0.mk hr0
  clear hr0
  obtain ⟨r, hr⟩ : ∃ r, r = packL l0 1 := ⟨_, rfl⟩
  rw [← hr]
  have HRr : Aside0 (r = if inB 0 1 l0 = true then PA l0 1 l0.length else []) := ⟨by
    rw [hr]; unfold packL
    by_cases g : inB 0 1 l0 = true
    · rw [if_pos ⟨rfl, h, g⟩, if_pos g]; rfl
    · rw [if_neg (fun q => g q.2.2), if_neg g]⟩
  clear hr
  have t2 : decide ((4096 : Int) < (l0.length : Int)) = false := decide_eq_false (by omega)
  rcases hin : inB 0 1 l0 with _ | _
  · have E : Aside0 (r = []) := ⟨by rw [HRr.out, hin]; rfl⟩
    have HI := Aside0.mk hin
    clear hin
    go_enter Try.func19, Try.ntmps19
    go_wp2_with fail
    refine (depth_calls 40 (.inr rfl) 1 _).mono ?_
    rw [show depthB 1 = true from rfl]
    rintro e w1 ⟨rfl, ⟨nd, rfl⟩⟩
    go_wp2_with fail
    refine (inRange_calls A0 c0 l0 1 (by omega) _ (Kd.C_drewN HR.out _)).mono ?_
    rw [HI.out]
    rintro e w2 ⟨rfl, ⟨nd2, rfl⟩⟩
    go_wp2
    go_ret
    rw [E.out]
    exact ⟨_, rfl, Kd.R_nil _ _ _ _ _, pw_below_drewN (Below.refl _ _) _⟩
  have E : Aside0 (r = PA l0 1 l0.length) := ⟨by rw [HRr.out, hin]; rfl⟩
  have IN : Aside0 (∀ i, i < l0.length → 0 ≤ l0.getD i 0 ∧ l0.getD i 0 ≤ 65535) := ⟨fun j hj => by have := inB_iff.1 hin j hj; omega⟩
  have HI := Aside0.mk hin
  clear hin
  go_enter Try.func19, Try.ntmps19
  go_wp2_with fail
  refine (depth_calls 40 (.inr rfl) 1 _).mono ?_
  rw [show depthB 1 = true from rfl]
  rintro e w1 ⟨rfl, ⟨nd, rfl⟩⟩
  go_wp2_with fail
  refine (inRange_calls A0 c0 l0 1 (by omega) _ (Kd.C_drewN HR.out _)).mono ?_
  rw [HI.out]
  rintro e w2 ⟨rfl, ⟨nd2, rfl⟩⟩
  go_upto_region 4 with fail
  obtain ⟨w3, h3⟩ : ∃ w3, w3 = (w.drewN (nd + nd2)).alloc (.cells #[.slice none 0 0, .int .i64 0, .bool true] 54 (0, 0)) := ⟨_, rfl⟩
  rw [← h3]
  have HV : Aside0 (w3.heap[w.heap.size]? = some (.cells #[.slice none 0 0, .int .i64 ((0 * 1 : Nat) : Int), .bool true] 54 (0, 0))) := ⟨by rw [h3, Nat.zero_mul]; exact blk_new _ _⟩
  have HO : Aside0 (Kd.R (Kd.int .u8) 5 w3 w.heap.size (fun k => k ≠ w.heap.size) (.slice none 0 0) (PA l0 1 0)) := ⟨Kd.R_nil _ _ _ _ _⟩
  have HB2 : Aside0 (Below w.heap.size w w3) := ⟨by rw [h3]; exact below_alloc (pw_below_drewN (Below.refl _ _) (nd + nd2)) _⟩
  clear h3
  go_wp2
  go_loopg [28] l0.length (fun q vx w' => ∃ (j : Nat) (sl : Value), vx = .int .i64 (j : Int) ∧ Aside0 (j + q = l0.length) ∧ Aside0 (w'.heap[w.heap.size]? = some (.cells #[sl, .int .i64 ((j * 1 : Nat) : Int), .bool true] 54 (0, 0))) ∧ Aside0 (Kd.R (Kd.int .u8) 5 w' w.heap.size (fun k => k ≠ w.heap.size) sl (PA l0 1 j)) ∧ Aside0 (Below w.heap.size w w'))
  case atStart => exact ⟨0, _, rfl, ⟨by omega⟩, HV, HO, HB2⟩
  case round =>
    clear HV HO HB2
    obtain ⟨j, sl, rfl, Q, HV, HO, HB⟩ := hrel
    by_cases cj : j < l0.length
    · obtain ⟨q, rfl⟩ : ∃ q, gk = q + 1 := ⟨gk - 1, by have := Q.out; omega⟩
      have HQ := Aside0.mk (Kd.C_below HR.out HB.out)
      obtain ⟨ad1, e1, hx1⟩ := Kd.at_int HQ.out (j : Int) (by omega) (by omega)
      rw [Int.toNat_natCast] at hx1
      obtain ⟨s, hs⟩ : ∃ s, s = rd l0 (j : Int) := ⟨_, rfl⟩
      rw [← hs] at hx1
      rw [rd_nat] at hs
      have sb := IN.out j cj
      rw [← hs] at sb
      subst e1
      have PN : Aside0 (PB (PA l0 1 j) (j * 1) s 1 1 = PA l0 1 (j + 1)) := ⟨by rw [PA, hs]⟩
      have MN : Aside0 (((j * 1 + 1 : Nat) : Int) = (((j + 1) * 1 : Nat) : Int)) := ⟨by rw [Nat.succ_mul]⟩
      have JB : Aside0 (j * 1 ≤ 900000) := ⟨by omega⟩
      clear hs
      go_wp2_with fail
      refine (high_impl w _ w.heap.size _ _ (j * 1) 1 s (by decide) sb.1 sb.2 JB.out (PA_length l0 1 j) (PA_bytes l0 1 j) (Nat.le_refl _) HV.out HO.out HB.out).mono ?_
      rintro e w5 ⟨rfl, sl5, hv5, ho5, hb5⟩
      rw [PN.out] at ho5
      rw [MN.out] at hv5
      have HV5 := Aside0.mk hv5
      have HO5 := Aside0.mk ho5
      have HB5 := Aside0.mk hb5
      clear hv5 ho5 hb5 HV HO HB PN MN JB HQ
      go_wp2
      go_roundg q
      case measure => omega
      case rel => exact ⟨j + 1, _, by go_num, ⟨by have := Q.out; omega⟩, HV5, HO5, HB5⟩
    · have E1 : Aside0 (j = l0.length) := ⟨by have := Q.out; omega⟩
      rw [E1.out] at HO
      obtain ⟨A', c', rfl⟩ := Kd.R_slice HO.out
      have f1 : wr.cell? ⟨w.heap.size, 0, none⟩ = some (.slice A' (PA l0 1 l0.length).length c') := (blk_cell HV.out 0).trans rfl
      go_wp2
      go_ret
      rw [E.out]
      exact ⟨_, rfl, Kd.R_mono HO.out (fun _ _ => trivial), HB.out⟩
set_option maxHeartbeats 40000000 in
theorem pack_impl_2 (A0 : Option Addr) (c0 : Nat) (l0 : List Int) (h : l0.length ≤ 4096) (w : World) (hr0 : Kd.C (Kd.int .i64) w A0 l0.length l0) :
    Calls Try.prog 19 #[.slice A0 l0.length c0, .int .i64 2] w fun e w' => ∃ v : Value, e = .returned v ∧ Kd.R (Kd.int .u8) 5 w' w.heap.size (fun _ => True) v (packL l0 2) ∧ Below w.heap.size w w' := by
  have HR := Aside0.mk hr0
  clear hr0
  obtain ⟨r, hr⟩ : ∃ r, r = packL l0 2 := ⟨_, rfl⟩
  rw [← hr]
  have HRr : Aside0 (r = if inB 0 3 l0 = true then PA l0 2 l0.length else []) := ⟨by
    rw [hr]; unfold packL
    by_cases g : inB 0 3 l0 = true
    · rw [if_pos ⟨rfl, h, g⟩, if_pos g]; rfl
    · rw [if_neg (fun q => g q.2.2), if_neg g]⟩
  clear hr
  have t2 : decide ((4096 : Int) < (l0.length : Int)) = false := decide_eq_false (by omega)
  rcases hin : inB 0 3 l0 with _ | _
  · have E : Aside0 (r = []) := ⟨by rw [HRr.out, hin]; rfl⟩
    have HI := Aside0.mk hin
    clear hin
    go_enter Try.func19, Try.ntmps19
    go_wp2_with fail
    refine (depth_calls 40 (.inr rfl) 2 _).mono ?_
    rw [show depthB 2 = true from rfl]
    rintro e w1 ⟨rfl, ⟨nd, rfl⟩⟩
    go_wp2_with fail
    refine (inRange_calls A0 c0 l0 3 (by omega) _ (Kd.C_drewN HR.out _)).mono ?_
    rw [HI.out]
    rintro e w2 ⟨rfl, ⟨nd2, rfl⟩⟩
    go_wp2
    go_ret
    rw [E.out]
    exact ⟨_, rfl, Kd.R_nil _ _ _ _ _, pw_below_drewN (Below.refl _ _) _⟩
  have E : Aside0 (r = PA l0 2 l0.length) := ⟨by rw [HRr.out, hin]; rfl⟩
  have IN : Aside0 (∀ i, i < l0.length → 0 ≤ l0.getD i 0 ∧ l0.getD i 0 ≤ 65535) := ⟨fun j hj => by have := inB_iff.1 hin j hj; omega⟩
  have HI := Aside0.mk hin
  clear hin
  go_enter Try.func19, Try.ntmps19
  go_wp2_with fail
  refine (depth_calls 40 (.inr rfl) 2 _).mono ?_
  rw [show depthB 2 = true from rfl]
  rintro e w1 ⟨rfl, ⟨nd, rfl⟩⟩
  go_wp2_with fail
  refine (inRange_calls A0 c0 l0 3 (by omega) _ (Kd.C_drewN HR.out _)).mono ?_
  rw [HI.out]
  rintro e w2 ⟨rfl, ⟨nd2, rfl⟩⟩
  go_upto_region 4 with fail
  obtain ⟨w3, h3⟩ : ∃ w3, w3 = (w.drewN (nd + nd2)).alloc (.cells #[.slice none 0 0, .int .i64 0, .bool true] 54 (0, 0)) := ⟨_, rfl⟩
  rw [← h3]
  have HV : Aside0 (w3.heap[w.heap.size]? = some (.cells #[.slice none 0 0, .int .i64 ((0 * 2 : Nat) : Int), .bool true] 54 (0, 0))) := ⟨by rw [h3, Nat.zero_mul]; exact blk_new _ _⟩
  have HO : Aside0 (Kd.R (Kd.int .u8) 5 w3 w.heap.size (fun k => k ≠ w.heap.size) (.slice none 0 0) (PA l0 2 0)) := ⟨Kd.R_nil _ _ _ _ _⟩
  have HB2 : Aside0 (Below w.heap.size w w3) := ⟨by rw [h3]; exact below_alloc (pw_below_drewN (Below.refl _ _) (nd + nd2)) _⟩
  clear h3
  go_wp2
  go_loopg [28] l0.length (fun q vx w' => ∃ (j : Nat) (sl : Value), vx = .int .i64 (j : Int) ∧ Aside0 (j + q = l0.length) ∧ Aside0 (w'.heap[w.heap.size]? = some (.cells #[sl, .int .i64 ((j * 2 : Nat) : Int), .bool true] 54 (0, 0))) ∧ Aside0 (Kd.R (Kd.int .u8) 5 w' w.heap.size (fun k => k ≠ w.heap.size) sl (PA l0 2 j)) ∧ Aside0 (Below w.heap.size w w'))
  case atStart => exact ⟨0, _, rfl, ⟨by omega⟩, HV, HO, HB2⟩
  case round =>
    clear HV HO HB2
    obtain ⟨j, sl, rfl, Q, HV, HO, HB⟩ := hrel
    by_cases cj : j < l0.length
    · obtain ⟨q, rfl⟩ : ∃ q, gk = q + 1 := ⟨gk - 1, by have := Q.out; omega⟩
      have HQ := Aside0.mk (Kd.C_below HR.out HB.out)
      obtain ⟨ad1, e1, hx1⟩ := Kd.at_int HQ.out (j : Int) (by omega) (by omega)
      rw [Int.toNat_natCast] at hx1
      obtain ⟨s, hs⟩ : ∃ s, s = rd l0 (j : Int) := ⟨_, rfl⟩
      rw [← hs] at hx1
      rw [rd_nat] at hs
      have sb := IN.out j cj
      rw [← hs] at sb
      subst e1
      have PN : Aside0 (PB (PA l0 2 j) (j * 2) s 2 2 = PA l0 2 (j + 1)) := ⟨by rw [PA, hs]⟩
      have MN : Aside0 (((j * 2 + 2 : Nat) : Int) = (((j + 1) * 2 : Nat) : Int)) := ⟨by rw [Nat.succ_mul]⟩
      have JB : Aside0 (j * 2 ≤ 900000) := ⟨by omega⟩
      clear hs
      go_wp2_with fail
      refine (high_impl w _ w.heap.size _ _ (j * 2) 2 s (by decide) sb.1 sb.2 JB.out (PA_length l0 2 j) (PA_bytes l0 2 j) (Nat.le_refl _) HV.out HO.out HB.out).mono ?_
      rintro e w5 ⟨rfl, sl5, hv5, ho5, hb5⟩
      rw [PN.out] at ho5
      rw [MN.out] at hv5
      have HV5 := Aside0.mk hv5
      have HO5 := Aside0.mk ho5
      have HB5 := Aside0.mk hb5
      clear hv5 ho5 hb5 HV HO HB PN MN JB HQ
      go_wp2
      go_roundg q
      case measure => omega
      case rel => exact ⟨j + 1, _, by go_num, ⟨by have := Q.out; omega⟩, HV5, HO5, HB5⟩
    · have E1 : Aside0 (j = l0.length) := ⟨by have := Q.out; omega⟩
      rw [E1.out] at HO
      obtain ⟨A', c', rfl⟩ := Kd.R_slice HO.out
      have f1 : wr.cell? ⟨w.heap.size, 0, none⟩ = some (.slice A' (PA l0 2 l0.length).length c') := (blk_cell HV.out 0).trans rfl
      go_wp2
      go_ret
      rw [E.out]
      exact ⟨_, rfl, Kd.R_mono HO.out (fun _ _ => trivial), HB.out⟩
set_option maxHeartbeats 40000000 in
theorem pack_impl_4 (A0 : Option Addr) (c0 : Nat) (l0 : List Int) (h : l0.length ≤ 4096) (w : World) (hr0 : Kd.C (Kd.int .i64) w A0 l0.length l0) :
    Calls Try.prog 19 #[.slice A0 l0.length c0, .int .i64 4] w fun e w' => ∃ v : Value, e = .returned v ∧ Kd.R (Kd.int .u8) 5 w' w.heap.size (fun _ => True) v (packL l0 4) ∧ Below w.heap.size w w' := by
  have HR := Aside0.mk hr0
  clear hr0
  obtain ⟨r, hr⟩ : ∃ r, r = packL l0 4 := ⟨_, rfl⟩
  rw [← hr]
  have HRr : Aside0 (r = if inB 0 15 l0 = true then PA l0 4 l0.length else []) := ⟨by
    rw [hr]; unfold packL
    by_cases g : inB 0 15 l0 = true
    · rw [if_pos ⟨rfl, h, g⟩, if_pos g]; rfl
    · rw [if_neg (fun q => g q.2.2), if_neg g]⟩
  clear hr
  have t2 : decide ((4096 : Int) < (l0.length : Int)) = false := decide_eq_false (by omega)
  rcases hin : inB 0 15 l0 with _ | _
  · have E : Aside0 (r = []) := ⟨by rw [HRr.out, hin]; rfl⟩
    have HI := Aside0.mk hin
    clear hin
    go_enter Try.func19, Try.ntmps19
    go_wp2_with fail
    refine (depth_calls 40 (.inr rfl) 4 _).mono ?_
    rw [show depthB 4 = true from rfl]
    rintro e w1 ⟨rfl, ⟨nd, rfl⟩⟩
    go_wp2_with fail
    refine (inRange_calls A0 c0 l0 15 (by omega) _ (Kd.C_drewN HR.out _)).mono ?_
    rw [HI.out]
    rintro e w2 ⟨rfl, ⟨nd2, rfl⟩⟩
    go_wp2
    go_ret
    rw [E.out]
    exact ⟨_, rfl, Kd.R_nil _ _ _ _ _, pw_below_drewN (Below.refl _ _) _⟩
  have E : Aside0 (r = PA l0 4 l0.length) := ⟨by rw [HRr.out, hin]; rfl⟩
  have IN : Aside0 (∀ i, i < l0.length → 0 ≤ l0.getD i 0 ∧ l0.getD i 0 ≤ 65535) := ⟨fun j hj => by have := inB_iff.1 hin j hj; omega⟩
  have HI := Aside0.mk hin
  clear hin
  go_enter Try.func19, Try.ntmps19
  go_wp2_with fail
  refine (depth_calls 40 (.inr rfl) 4 _).mono ?_
  rw [show depthB 4 = true from rfl]
  rintro e w1 ⟨rfl, ⟨nd, rfl⟩⟩
  go_wp2_with fail
  refine (inRange_calls A0 c0 l0 15 (by omega) _ (Kd.C_drewN HR.out _)).mono ?_
  rw [HI.out]
  rintro e w2 ⟨rfl, ⟨nd2, rfl⟩⟩
  go_upto_region 4 with fail
  obtain ⟨w3, h3⟩ : ∃ w3, w3 = (w.drewN (nd + nd2)).alloc (.cells #[.slice none 0 0, .int .i64 0, .bool true] 54 (0, 0)) := ⟨_, rfl⟩
  rw [← h3]
  have HV : Aside0 (w3.heap[w.heap.size]? = some (.cells #[.slice none 0 0, .int .i64 ((0 * 4 : Nat) : Int), .bool true] 54 (0, 0))) := ⟨by rw [h3, Nat.zero_mul]; exact blk_new _ _⟩
  have HO : Aside0 (Kd.R (Kd.int .u8) 5 w3 w.heap.size (fun k => k ≠ w.heap.size) (.slice none 0 0) (PA l0 4 0)) := ⟨Kd.R_nil _ _ _ _ _⟩
  have HB2 : Aside0 (Below w.heap.size w w3) := ⟨by rw [h3]; exact below_alloc (pw_below_drewN (Below.refl _ _) (nd + nd2)) _⟩
  clear h3
  go_wp2
  go_loopg [28] l0.length (fun q vx w' => ∃ (j : Nat) (sl : Value), vx = .int .i64 (j : Int) ∧ Aside0 (j + q = l0.length) ∧ Aside0 (w'.heap[w.heap.size]? = some (.cells #[sl, .int .i64 ((j * 4 : Nat) : Int), .bool true] 54 (0, 0))) ∧ Aside0 (Kd.R (Kd.int .u8) 5 w' w.heap.size (fun k => k ≠ w.heap.size) sl (PA l0 4 j)) ∧ Aside0 (Below w.heap.size w w'))
  case atStart => exact ⟨0, _, rfl, ⟨by omega⟩, HV, HO, HB2⟩
  case round =>
    clear HV HO HB2
    obtain ⟨j, sl, rfl, Q, HV, HO, HB⟩ := hrel
    by_cases cj : j < l0.length
    · obtain ⟨q, rfl⟩ : ∃ q, gk = q + 1 := ⟨gk - 1, by have := Q.out; omega⟩
      have HQ := Aside0.mk (Kd.C_below HR.out HB.out)
      obtain ⟨ad1, e1, hx1⟩ := Kd.at_int HQ.out (j : Int) (by omega) (by omega)
      rw [Int.toNat_natCast] at hx1
      obtain ⟨s, hs⟩ : ∃ s, s = rd l0 (j : Int) := ⟨_, rfl⟩
      rw [← hs] at hx1
      rw [rd_nat] at hs
      have sb := IN.out j cj
      rw [← hs] at sb
      subst e1
      have PN : Aside0 (PB (PA l0 4 j) (j * 4) s 4 4 = PA l0 4 (j + 1)) := ⟨by rw [PA, hs]⟩
      have MN : Aside0 (((j * 4 + 4 : Nat) : Int) = (((j + 1) * 4 : Nat) : Int)) := ⟨by rw [Nat.succ_mul]⟩
      have JB : Aside0 (j * 4 ≤ 900000) := ⟨by omega⟩
      clear hs
      go_wp2_with fail
      refine (high_impl w _ w.heap.size _ _ (j * 4) 4 s (by decide) sb.1 sb.2 JB.out (PA_length l0 4 j) (PA_bytes l0 4 j) (Nat.le_refl _) HV.out HO.out HB.out).mono ?_
      rintro e w5 ⟨rfl, sl5, hv5, ho5, hb5⟩
      rw [PN.out] at ho5
      rw [MN.out] at hv5
      have HV5 := Aside0.mk hv5
      have HO5 := Aside0.mk ho5
      have HB5 := Aside0.mk hb5
      clear hv5 ho5 hb5 HV HO HB PN MN JB HQ
      go_wp2
      go_roundg q
      case measure => omega
      case rel => exact ⟨j + 1, _, by go_num, ⟨by have := Q.out; omega⟩, HV5, HO5, HB5⟩
    · have E1 : Aside0 (j = l0.length) := ⟨by have := Q.out; omega⟩
      rw [E1.out] at HO
      obtain ⟨A', c', rfl⟩ := Kd.R_slice HO.out
      have f1 : wr.cell? ⟨w.heap.size, 0, none⟩ = some (.slice A' (PA l0 4 l0.length).length c') := (blk_cell HV.out 0).trans rfl
      go_wp2
      go_ret
      rw [E.out]
      exact ⟨_, rfl, Kd.R_mono HO.out (fun _ _ => trivial), HB.out⟩
set_option maxHeartbeats 40000000 in
theorem pack_impl_8 (A0 : Option Addr) (c0 : Nat) (l0 : List Int) (h : l0.length ≤ 4096) (w : World) (hr0 : Kd.C (Kd.int .i64) w A0 l0.length l0) :
    Calls Try.prog 19 #[.slice A0 l0.length c0, .int .i64 8] w fun e w' => ∃ v : Value, e = .returned v ∧ Kd.R (Kd.int .u8) 5 w' w.heap.size (fun _ => True) v (packL l0 8) ∧ Below w.heap.size w w' := by
  have HR := Aside0.mk hr0
  clear hr0
  obtain ⟨r, hr⟩ : ∃ r, r = packL l0 8 := ⟨_, rfl⟩
  rw [← hr]
  have HRr : Aside0 (r = if inB 0 255 l0 = true then PA l0 8 l0.length else []) := ⟨by
    rw [hr]; unfold packL
    by_cases g : inB 0 255 l0 = true
    · rw [if_pos ⟨rfl, h, g⟩, if_pos g]; rfl
    · rw [if_neg (fun q => g q.2.2), if_neg g]⟩
  clear hr
  have t2 : decide ((4096 : Int) < (l0.length : Int)) = false := decide_eq_false (by omega)
  rcases hin : inB 0 255 l0 with _ | _
  · have E : Aside0 (r = []) := ⟨by rw [HRr.out, hin]; rfl⟩
    have HI := Aside0.mk hin
    clear hin
    go_enter Try.func19, Try.ntmps19
    go_wp2_with fail
    refine (depth_calls 40 (.inr rfl) 8 _).mono ?_
    rw [show depthB 8 = true from rfl]
    rintro e w1 ⟨rfl, ⟨nd, rfl⟩⟩
    go_wp2_with fail
    refine (inRange_calls A0 c0 l0 255 (by omega) _ (Kd.C_drewN HR.out _)).mono ?_
    rw [HI.out]
    rintro e w2 ⟨rfl, ⟨nd2, rfl⟩⟩
    go_wp2
    go_ret
    rw [E.out]
    exact ⟨_, rfl, Kd.R_nil _ _ _ _ _, pw_below_drewN (Below.refl _ _) _⟩
  have E : Aside0 (r = PA l0 8 l0.length) := ⟨by rw [HRr.out, hin]; rfl⟩
  have IN : Aside0 (∀ i, i < l0.length → 0 ≤ l0.getD i 0 ∧ l0.getD i 0 ≤ 65535) := ⟨fun j hj => by have := inB_iff.1 hin j hj; omega⟩
  have HI := Aside0.mk hin
  clear hin
  go_enter Try.func19, Try.ntmps19
  go_wp2_with fail
  refine (depth_calls 40 (.inr rfl) 8 _).mono ?_
  rw [show depthB 8 = true from rfl]
  rintro e w1 ⟨rfl, ⟨nd, rfl⟩⟩
  go_wp2_with fail
  refine (inRange_calls A0 c0 l0 255 (by omega) _ (Kd.C_drewN HR.out _)).mono ?_
  rw [HI.out]
  rintro e w2 ⟨rfl, ⟨nd2, rfl⟩⟩
  go_upto_region 4 with fail
  obtain ⟨w3, h3⟩ : ∃ w3, w3 = (w.drewN (nd + nd2)).alloc (.cells #[.slice none 0 0, .int .i64 0, .bool true] 54 (0, 0)) := ⟨_, rfl⟩
  rw [← h3]
  have HV : Aside0 (w3.heap[w.heap.size]? = some (.cells #[.slice none 0 0, .int .i64 ((0 * 8 : Nat) : Int), .bool true] 54 (0, 0))) := ⟨by rw [h3, Nat.zero_mul]; exact blk_new _ _⟩
  have HO : Aside0 (Kd.R (Kd.int .u8) 5 w3 w.heap.size (fun k => k ≠ w.heap.size) (.slice none 0 0) (PA l0 8 0)) := ⟨Kd.R_nil _ _ _ _ _⟩
  have HB2 : Aside0 (Below w.heap.size w w3) := ⟨by rw [h3]; exact below_alloc (pw_below_drewN (Below.refl _ _) (nd + nd2)) _⟩
  clear h3
  go_wp2
  go_loopg [28] l0.length (fun q vx w' => ∃ (j : Nat) (sl : Value), vx = .int .i64 (j : Int) ∧ Aside0 (j + q = l0.length) ∧ Aside0 (w'.heap[w.heap.size]? = some (.cells #[sl, .int .i64 ((j * 8 : Nat) : Int), .bool true] 54 (0, 0))) ∧ Aside0 (Kd.R (Kd.int .u8) 5 w' w.heap.size (fun k => k ≠ w.heap.size) sl (PA l0 8 j)) ∧ Aside0 (Below w.heap.size w w'))
  case atStart => exact ⟨0, _, rfl, ⟨by omega⟩, HV, HO, HB2⟩
  case round =>
    clear HV HO HB2
    obtain ⟨j, sl, rfl, Q, HV, HO, HB⟩ := hrel
    by_cases cj : j < l0.length
    · obtain ⟨q, rfl⟩ : ∃ q, gk = q + 1 := ⟨gk - 1, by have := Q.out; omega⟩
      have HQ := Aside0.mk (Kd.C_below HR.out HB.out)
      obtain ⟨ad1, e1, hx1⟩ := Kd.at_int HQ.out (j : Int) (by omega) (by omega)
      rw [Int.toNat_natCast] at hx1
      obtain ⟨s, hs⟩ : ∃ s, s = rd l0 (j : Int) := ⟨_, rfl⟩
      rw [← hs] at hx1
      rw [rd_nat] at hs
      have sb := IN.out j cj
      rw [← hs] at sb
      subst e1
      have PN : Aside0 (PB (PA l0 8 j) (j * 8) s 8 8 = PA l0 8 (j + 1)) := ⟨by rw [PA, hs]⟩
      have MN : Aside0 (((j * 8 + 8 : Nat) : Int) = (((j + 1) * 8 : Nat) : Int)) := ⟨by rw [Nat.succ_mul]⟩
      have JB : Aside0 (j * 8 ≤ 900000) := ⟨by omega⟩
      clear hs
      go_wp2_with fail
      refine (high_impl w _ w.heap.size _ _ (j * 8) 8 s (by decide) sb.1 sb.2 JB.out (PA_length l0 8 j) (PA_bytes l0 8 j) (Nat.le_refl _) HV.out HO.out HB.out).mono ?_
      rintro e w5 ⟨rfl, sl5, hv5, ho5, hb5⟩
      rw [PN.out] at ho5
      rw [MN.out] at hv5
      have HV5 := Aside0.mk hv5
      have HO5 := Aside0.mk ho5
      have HB5 := Aside0.mk hb5
      clear hv5 ho5 hb5 HV HO HB PN MN JB HQ
      go_wp2
      go_roundg q
      case measure => omega
      case rel => exact ⟨j + 1, _, by go_num, ⟨by have := Q.out; omega⟩, HV5, HO5, HB5⟩
    · have E1 : Aside0 (j = l0.length) := ⟨by have := Q.out; omega⟩
      rw [E1.out] at HO
      obtain ⟨A', c', rfl⟩ := Kd.R_slice HO.out
      have f1 : wr.cell? ⟨w.heap.size, 0, none⟩ = some (.slice A' (PA l0 8 l0.length).length c') := (blk_cell HV.out 0).trans rfl
      go_wp2
      go_ret
      rw [E.out]
      exact ⟨_, rfl, Kd.R_mono HO.out (fun _ _ => trivial), HB.out⟩
set_option maxHeartbeats 40000000 in
theorem pack_impl_16 (A0 : Option Addr) (c0 : Nat) (l0 : List Int) (h : l0.length ≤ 4096) (w : World) (hr0 : Kd.C (Kd.int .i64) w A0 l0.length l0) :
    Calls Try.prog 19 #[.slice A0 l0.length c0, .int .i64 16] w fun e w' => ∃ v : Value, e = .returned v ∧ Kd.R (Kd.int .u8) 5 w' w.heap.size (fun _ => True) v (packL l0 16) ∧ Below w.heap.size w w' := by
  have HR := Aside0.mk hr0
  clear hr0
  obtain ⟨r, hr⟩ : ∃ r, r = packL l0 16 := ⟨_, rfl⟩
  rw [← hr]
  have HRr : Aside0 (r = if inB 0 65535 l0 = true then PA l0 16 l0.length else []) := ⟨by
    rw [hr]; unfold packL
    by_cases g : inB 0 65535 l0 = true
    · rw [if_pos ⟨rfl, h, g⟩, if_pos g]; rfl
    · rw [if_neg (fun q => g q.2.2), if_neg g]⟩
  clear hr
  have t2 : decide ((4096 : Int) < (l0.length : Int)) = false := decide_eq_false (by omega)
  rcases hin : inB 0 65535 l0 with _ | _
  · have E : Aside0 (r = []) := ⟨by rw [HRr.out, hin]; rfl⟩
    have HI := Aside0.mk hin
    clear hin
    go_enter Try.func19, Try.ntmps19
    go_wp2_with fail
    refine (depth_calls 40 (.inr rfl) 16 _).mono ?_
    rw [show depthB 16 = true from rfl]
    rintro e w1 ⟨rfl, ⟨nd, rfl⟩⟩
    go_wp2_with fail
    refine (inRange_calls A0 c0 l0 65535 (by omega) _ (Kd.C_drewN HR.out _)).mono ?_
    rw [HI.out]
    rintro e w2 ⟨rfl, ⟨nd2, rfl⟩⟩
    go_wp2
    go_ret
    rw [E.out]
    exact ⟨_, rfl, Kd.R_nil _ _ _ _ _, pw_below_drewN (Below.refl _ _) _⟩
  have E : Aside0 (r = PA l0 16 l0.length) := ⟨by rw [HRr.out, hin]; rfl⟩
  have IN : Aside0 (∀ i, i < l0.length → 0 ≤ l0.getD i 0 ∧ l0.getD i 0 ≤ 65535) := ⟨fun j hj => by have := inB_iff.1 hin j hj; omega⟩
  have HI := Aside0.mk hin
  clear hin
  go_enter Try.func19, Try.ntmps19
  go_wp2_with fail
  refine (depth_calls 40 (.inr rfl) 16 _).mono ?_
  rw [show depthB 16 = true from rfl]
  rintro e w1 ⟨rfl, ⟨nd, rfl⟩⟩
  go_wp2_with fail
  refine (inRange_calls A0 c0 l0 65535 (by omega) _ (Kd.C_drewN HR.out _)).mono ?_
  rw [HI.out]
  rintro e w2 ⟨rfl, ⟨nd2, rfl⟩⟩
  go_upto_region 4 with fail
  obtain ⟨w3, h3⟩ : ∃ w3, w3 = (w.drewN (nd + nd2)).alloc (.cells #[.slice none 0 0, .int .i64 0, .bool true] 54 (0, 0)) := ⟨_, rfl⟩
  rw [← h3]
  have HV : Aside0 (w3.heap[w.heap.size]? = some (.cells #[.slice none 0 0, .int .i64 ((0 * 16 : Nat) : Int), .bool true] 54 (0, 0))) := ⟨by rw [h3, Nat.zero_mul]; exact blk_new _ _⟩
  have HO : Aside0 (Kd.R (Kd.int .u8) 5 w3 w.heap.size (fun k => k ≠ w.heap.size) (.slice none 0 0) (PA l0 16 0)) := ⟨Kd.R_nil _ _ _ _ _⟩
  have HB2 : Aside0 (Below w.heap.size w w3) := ⟨by rw [h3]; exact below_alloc (pw_below_drewN (Below.refl _ _) (nd + nd2)) _⟩
  clear h3
  go_wp2
  go_loopg [28] l0.length (fun q vx w' => ∃ (j : Nat) (sl : Value), vx = .int .i64 (j : Int) ∧ Aside0 (j + q = l0.length) ∧ Aside0 (w'.heap[w.heap.size]? = some (.cells #[sl, .int .i64 ((j * 16 : Nat) : Int), .bool true] 54 (0, 0))) ∧ Aside0 (Kd.R (Kd.int .u8) 5 w' w.heap.size (fun k => k ≠ w.heap.size) sl (PA l0 16 j)) ∧ Aside0 (Below w.heap.size w w'))
  case atStart => exact ⟨0, _, rfl, ⟨by omega⟩, HV, HO, HB2⟩
  case round =>
    clear HV HO HB2
    obtain ⟨j, sl, rfl, Q, HV, HO, HB⟩ := hrel
    by_cases cj : j < l0.length
    · obtain ⟨q, rfl⟩ : ∃ q, gk = q + 1 := ⟨gk - 1, by have := Q.out; omega⟩
      have HQ := Aside0.mk (Kd.C_below HR.out HB.out)
      obtain ⟨ad1, e1, hx1⟩ := Kd.at_int HQ.out (j : Int) (by omega) (by omega)
      rw [Int.toNat_natCast] at hx1
      obtain ⟨s, hs⟩ : ∃ s, s = rd l0 (j : Int) := ⟨_, rfl⟩
      rw [← hs] at hx1
      rw [rd_nat] at hs
      have sb := IN.out j cj
      rw [← hs] at sb
      subst e1
      have PN : Aside0 (PB (PA l0 16 j) (j * 16) s 16 16 = PA l0 16 (j + 1)) := ⟨by rw [PA, hs]⟩
      have MN : Aside0 (((j * 16 + 16 : Nat) : Int) = (((j + 1) * 16 : Nat) : Int)) := ⟨by rw [Nat.succ_mul]⟩
      have JB : Aside0 (j * 16 ≤ 900000) := ⟨by omega⟩
      clear hs
      go_wp2_with fail
      refine (high_impl w _ w.heap.size _ _ (j * 16) 16 s (by decide) sb.1 sb.2 JB.out (PA_length l0 16 j) (PA_bytes l0 16 j) (Nat.le_refl _) HV.out HO.out HB.out).mono ?_
      rintro e w5 ⟨rfl, sl5, hv5, ho5, hb5⟩
      rw [PN.out] at ho5
      rw [MN.out] at hv5
      have HV5 := Aside0.mk hv5
      have HO5 := Aside0.mk ho5
      have HB5 := Aside0.mk hb5
      clear hv5 ho5 hb5 HV HO HB PN MN JB HQ
      go_wp2
      go_roundg q
      case measure => omega
      case rel => exact ⟨j + 1, _, by go_num, ⟨by have := Q.out; omega⟩, HV5, HO5, HB5⟩
    · have E1 : Aside0 (j = l0.length) := ⟨by have := Q.out; omega⟩
      rw [E1.out] at HO
      obtain ⟨A', c', rfl⟩ := Kd.R_slice HO.out
      have f1 : wr.cell? ⟨w.heap.size, 0, none⟩ = some (.slice A' (PA l0 16 l0.length).length c') := (blk_cell HV.out 0).trans rfl
      go_wp2
      go_ret
      rw [E.out]
      exact ⟨_, rfl, Kd.R_mono HO.out (fun _ _ => trivial), HB.out⟩
theorem pack_spec (A0 : Option Addr) (c0 : Nat) (l0 : List Int) (a1 : Int) (hl0 : l0.length ≤ 1048576) (hw0 : ∀ x ∈ l0, (Lit.int .i64 x).wf = true) (w : World) (hc0 : l0.length ≤ c0) (hr0 : Kd.C (Kd.int .i64) w A0 l0.length l0) :
    Calls Try.prog 17 #[.slice A0 l0.length c0, .int .i64 a1] w fun e w' => ∃ v : Value, e = .returned v ∧ Kd.R (Kd.int .u8) 5 w' w.heap.size (fun _ => True) v (packL l0 a1) ∧ Below w.heap.size w w' := by
  rcases hd : depthB a1 with _ | _
  · have E : Aside0 (packL l0 a1 = []) := ⟨by unfold packL; rw [if_neg (fun q => by rw [hd] at q; cases q.1)]⟩
    have HD := Aside0.mk hd
    clear hd hr0 hw0
    go_enter Try.func17, Try.ntmps17
    go_wp2_with fail
    refine (depth_calls 38 (.inl rfl) a1 _).mono ?_
    rw [HD.out]
    rintro e w1 ⟨rfl, ⟨nd, rfl⟩⟩
    go_wp2
    go_ret
    rw [E.out]
    exact ⟨_, rfl, Kd.R_nil _ _ _ _ _, pw_below_drewN (Below.refl _ _) _⟩
  by_cases h : 4096 < l0.length
  · have E : Aside0 (packL l0 a1 = []) := ⟨by unfold packL; rw [if_neg (fun q => by have := q.2.1; omega)]⟩
    have HD := Aside0.mk hd
    have t2 : decide ((4096 : Int) < (l0.length : Int)) = true := decide_eq_true (by omega)
    clear hd hr0 hw0
    go_enter Try.func17, Try.ntmps17
    go_wp2_with fail
    refine (depth_calls 38 (.inl rfl) a1 _).mono ?_
    rw [HD.out]
    rintro e w1 ⟨rfl, ⟨nd, rfl⟩⟩
    go_wp2
    go_ret
    rw [E.out]
    exact ⟨_, rfl, Kd.R_nil _ _ _ _ _, pw_below_drewN (Below.refl _ _) _⟩
  obtain rfl | rfl | rfl | rfl | rfl := depthB_iff.1 hd
  · exact pack_spec_1 A0 c0 l0 (by omega) w hr0
  · exact pack_spec_2 A0 c0 l0 (by omega) w hr0
  · exact pack_spec_4 A0 c0 l0 (by omega) w hr0
  · exact pack_spec_8 A0 c0 l0 (by omega) w hr0
  · exact pack_spec_16 A0 c0 l0 (by omega) w hr0
theorem pack_impl (A0 : Option Addr) (c0 : Nat) (l0 : List Int) (a1 : Int) (hl0 : l0.length ≤ 1048576) (hw0 : ∀ x ∈ l0, (Lit.int .i64 x).wf = true) (w : World) (hc0 : l0.length ≤ c0) (hr0 : Kd.C (Kd.int .i64) w A0 l0.length l0) :
    Calls Try.prog 19 #[.slice A0 l0.length c0, .int .i64 a1] w fun e w' => ∃ v : Value, e = .returned v ∧ Kd.R (Kd.int .u8) 5 w' w.heap.size (fun _ => True) v (packL l0 a1) ∧ Below w.heap.size w w' := by
  rcases hd : depthB a1 with _ | _
  · have E : Aside0 (packL l0 a1 = []) := ⟨by unfold packL; rw [if_neg (fun q => by rw [hd] at q; cases q.1)]⟩
    have HD := Aside0.mk hd
    clear hd hr0 hw0
    go_enter Try.func19, Try.ntmps19
    go_wp2_with fail
    refine (depth_calls 40 (.inr rfl) a1 _).mono ?_
    rw [HD.out]
    rintro e w1 ⟨rfl, ⟨nd, rfl⟩⟩
    go_wp2
    go_ret
    rw [E.out]
    exact ⟨_, rfl, Kd.R_nil _ _ _ _ _, pw_below_drewN (Below.refl _ _) _⟩
  by_cases h : 4096 < l0.length
  · have E : Aside0 (packL l0 a1 = []) := ⟨by unfold packL; rw [if_neg (fun q => by have := q.2.1; omega)]⟩
    have HD := Aside0.mk hd
    have t2 : decide ((4096 : Int) < (l0.length : Int)) = true := decide_eq_true (by omega)
    clear hd hr0 hw0
    go_enter Try.func19, Try.ntmps19
    go_wp2_with fail
    refine (depth_calls 40 (.inr rfl) a1 _).mono ?_
    rw [HD.out]
    rintro e w1 ⟨rfl, ⟨nd, rfl⟩⟩
    go_wp2
    go_ret
    rw [E.out]
    exact ⟨_, rfl, Kd.R_nil _ _ _ _ _, pw_below_drewN (Below.refl _ _) _⟩
  obtain rfl | rfl | rfl | rfl | rfl := depthB_iff.1 hd
  · exact pack_impl_1 A0 c0 l0 (by omega) w hr0
  · exact pack_impl_2 A0 c0 l0 (by omega) w hr0
  · exact pack_impl_4 A0 c0 l0 (by omega) w hr0
  · exact pack_impl_8 A0 c0 l0 (by omega) w hr0
  · exact pack_impl_16 A0 c0 l0 (by omega) w hr0
end Go.Proofs.Ytkhpcclddkddmaa.Wk
