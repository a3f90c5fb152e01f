/- Walks of this seat's own: what the two PackRow come to. -/
import Derived.Test.YtkhpcclddkddmaaWkSink3
namespace Go.Proofs.Ytkhpcclddkddmaa.Wk
open Go.RowKit Go.Proofs.YtkhpcclddkddmaaW.PrintWords Go.Proofs.YtkhpcclddkddmaaW.PrintLast Go.Proofs.YtkhpcclddkddmaaW.PrintMore Go.Proofs.Ytkhpcclddkddmaa.My
set_option linter.unusedVariables false
set_option linter.unusedSimpArgs false
/-- Whether a depth is one of the five. -/
def depthB (d : Int) : Bool := decide (d = 1) || decide (d = 2) || decide (d = 4) || decide (d = 8) || decide (d = 16)
theorem depthB_iff {d : Int} : depthB d = true ↔ d = 1 ∨ d = 2 ∨ d = 4 ∨ d = 8 ∨ d = 16 := by simp only [depthB, Bool.or_eq_true, decide_eq_true_eq, or_assoc]
theorem beqs (d k : Int) : (d == k) = decide (d = k) := by
  by_cases h : d = k
  · rw [decide_eq_true h, beq_iff_eq.2 h]
  · rw [decide_eq_false h, beq_eq_false_iff_ne.2 h]
set_option maxHeartbeats 2000000 in
theorem depth_calls (f : Nat) (hf : f = 38 ∨ f = 40) (d : Int) (w : World) : Calls Try.prog f #[.int .i64 d] w fun e w' => e = .returned (.bool (depthB d)) ∧ Drawn0 w w' := by
  have key : ∀ b1 b2 b3 b4 b5 : Bool, (d == 1) = b1 → (d == 2) = b2 → (d == 4) = b3 → (d == 8) = b4 → (d == 16) = b5 → Calls Try.prog f #[.int .i64 d] w fun e w' => e = .returned (.bool (b1 || b2 || b3 || b4 || b5)) ∧ Drawn0 w w' := by
    intro b1 b2 b3 b4 b5 h1 h2 h3 h4 h5
    rcases hf with rfl | rfl
    · go_enter Try.func38, Try.ntmps38
      rcases b1 with _ | _ <;> rcases b2 with _ | _ <;> rcases b3 with _ | _ <;> rcases b4 with _ | _ <;> rcases b5 with _ | _
      all_goals
        go_wp2
        go_ret
        exact ⟨rfl, by repeat (first | exact Drawn0.refl _ | apply Drawn0.step)⟩
    · go_enter Try.func40, Try.ntmps40
      rcases b1 with _ | _ <;> rcases b2 with _ | _ <;> rcases b3 with _ | _ <;> rcases b4 with _ | _ <;> rcases b5 with _ | _
      all_goals
        go_wp2
        go_ret
        exact ⟨rfl, by repeat (first | exact Drawn0.refl _ | apply Drawn0.step)⟩
  have := key _ _ _ _ _ rfl rfl rfl rfl rfl
  unfold depthB
  simpa only [beqs] using this
def PA (l : List Int) (d : Nat) : Nat → List Int
  | 0 => []
  | j + 1 => PB (PA l d j) (j * d) (l.getD j 0) d d
theorem PA_length (l : List Int) (d j : Nat) : (PA l d j).length = (j * d + 7) / 8 := by
  induction j with
  | zero => simp [PA]
  | succ j ih => rw [PA, PB_length _ d ih, Nat.succ_mul]
theorem PA_bytes (l : List Int) (d j : Nat) : ∀ x ∈ PA l d j, 0 ≤ x ∧ x ≤ 255 := by
  induction j with
  | zero => intro x hx; simp [PA] at hx
  | succ j ih => rw [PA]; exact PB_bytes _ _ _ ih d
def packL (l : List Int) (d : Int) : List Int := if depthB d = true ∧ l.length ≤ 4096 ∧ inB 0 (2 ^ d.toNat - 1) l = true then PA l d.toNat l.length else []
theorem jd_b {j n d : Nat} (hj : j ≤ n) (hn : n ≤ 4096) (hd : d ≤ 16) : j * d ≤ 65536 := Nat.le_trans (Nat.mul_le_mul (Nat.le_trans hj hn) hd) (by decide)
theorem packL_length (l : List Int) (d : Int) : (packL l d).length ≤ 1048576 := by
  unfold packL
  split
  · rename_i h
    obtain ⟨h1, h2, _⟩ := h
    have hd : d.toNat ≤ 16 := by rcases depthB_iff.1 h1 with h | h | h | h | h <;> omega
    have := jd_b (Nat.le_refl l.length) h2 hd
    rw [PA_length]; omega
  · simp

set_option maxHeartbeats 40000000 in
theorem l4Pack_calls (A : Option Addr) (c : Nat) (l : List Int) (d : Nat) (hd : d ≤ 16) (hl : l.length ≤ 4096) (hin : ∀ i, i < l.length → 0 ≤ l.getD i 0 ∧ l.getD i 0 ≤ 65535) (w : World) (hr : Kd.C (Kd.int .i64) w A l.length l) :
    Calls Try.prog 39 #[.slice A l.length c, .int .i64 (d : Int)] w fun e w' => ∃ v : Value, e = .returned v ∧ Kd.R (Kd.int .u8) 5 w' w.heap.size (fun _ => True) v (PA l d l.length) ∧ Below w.heap.size w w' := by
  have HR := Aside0.mk hr
  have IN := Aside0.mk hin
  have HB := Aside0.mk (Below.refl w.heap.size w)
  clear hr hin
  go_enter Try.func39, Try.ntmps39
  go_upto_region 2 with fail
  obtain ⟨w3, h3⟩ : ∃ w3, w3 = w.alloc (.cells #[.bool true, .slice none 0 0, .int .i64 0] 69 (0, 0)) := ⟨_, rfl⟩
  rw [← h3]
  have HV : Aside0 (w3.heap[w.heap.size]? = some (.cells #[.bool true, .slice none 0 0, .int .i64 ((0 * d : Nat) : Int)] 69 (0, 0))) := ⟨by rw [h3, Nat.zero_mul]; exact blk_new _ _⟩
  have HO : Aside0 (Kd.R (Kd.int .u8) 5 w3 w.heap.size (fun k => k ≠ w.heap.size) (.slice none 0 0) (PA l d 0)) := ⟨Kd.R_nil _ _ _ _ _⟩
  have HB2 : Aside0 (Below w.heap.size w w3) := ⟨by rw [h3]; exact below_alloc HB.out _⟩
  clear h3 HB
  go_wp2
  go_loopg [12] l.length (fun q vx w' => ∃ (j : Nat) (sl : Value), vx = .int .i64 (j : Int) ∧ Aside0 (j + q = l.length) ∧ Aside0 (w'.heap[w.heap.size]? = some (.cells #[.bool true, sl, .int .i64 ((j * d : Nat) : Int)] 69 (0, 0))) ∧ Aside0 (Kd.R (Kd.int .u8) 5 w' w.heap.size (fun k => k ≠ w.heap.size) sl (PA l d j)) ∧ Aside0 (Below w.heap.size w w'))
  case atStart => exact ⟨0, _, rfl, ⟨by omega⟩, HV, HO, HB2⟩
  case round =>
    clear HV HO HB2
    obtain ⟨j, sl, rfl, Q, HV, HO, HB⟩ := hrel
    by_cases cj : j < l.length
    · obtain ⟨q, rfl⟩ : ∃ q, gk = q + 1 := ⟨gk - 1, by have := Q.out; omega⟩
      have HQ := Aside0.mk (Kd.C_below HR.out HB.out)
      obtain ⟨ad1, e1, hx1⟩ := Kd.at_int HQ.out (j : Int) (by omega) (by omega)
      rw [Int.toNat_natCast] at hx1
      obtain ⟨s, hs⟩ : ∃ s, s = rd l (j : Int) := ⟨_, rfl⟩
      rw [← hs] at hx1
      rw [rd_nat] at hs
      have sb := IN.out j cj
      rw [← hs] at sb
      subst e1
      have PN : Aside0 (PB (PA l d j) (j * d) s d d = PA l d (j + 1)) := ⟨by rw [PA, hs]⟩
      have MN : Aside0 (((j * d + d : Nat) : Int) = (((j + 1) * d : Nat) : Int)) := ⟨by rw [Nat.succ_mul]⟩
      have JB : Aside0 (j * d ≤ 900000) := ⟨by have := jd_b (j := j) (n := l.length) (by omega) hl hd; omega⟩
      clear hs
      go_wp2_with fail
      refine (put_spec w _ w.heap.size _ _ (j * d) d s hd sb.1 sb.2 JB.out (PA_length l d j) (Nat.le_refl _) HV.out HO.out HB.out).mono ?_
      rintro e w5 ⟨rfl, sl5, hv5, ho5, hb5⟩
      rw [PN.out] at ho5
      rw [MN.out] at hv5
      have HV5 := Aside0.mk hv5
      have HO5 := Aside0.mk ho5
      have HB5 := Aside0.mk hb5
      clear hv5 ho5 hb5 HV HO HB PN MN JB HQ
      go_wp2
      go_roundg q
      case measure => omega
      case rel => exact ⟨j + 1, _, by go_num, ⟨by have := Q.out; omega⟩, HV5, HO5, HB5⟩
    · have E1 : Aside0 (j = l.length) := ⟨by have := Q.out; omega⟩
      rw [E1.out] at HO
      obtain ⟨A', c', rfl⟩ := Kd.R_slice HO.out
      have f1 : wr.cell? ⟨w.heap.size, 1, none⟩ = some (.slice A' (PA l d l.length).length c') := (blk_cell HV.out 1).trans rfl
      go_wp2
      go_ret
      exact ⟨_, rfl, Kd.R_mono HO.out (fun _ _ => trivial), HB.out⟩

set_option maxHeartbeats 40000000 in
theorem pack_spec_1 (A0 : Option Addr) (c0 : Nat) (l0 : List Int) (h : l0.length ≤ 4096) (w : World) (hr0 : Kd.C (Kd.int .i64) w A0 l0.length l0) :
    Calls Try.prog 17 #[.slice A0 l0.length c0, .int .i64 1] w fun e w' => ∃ v : Value, e = .returned v ∧ Kd.R (Kd.int .u8) 5 w' w.heap.size (fun _ => True) v (packL l0 1) ∧ Below w.heap.size w w' := by
  have HR := Aside0.mk hr0
  clear hr0
  obtain ⟨r, hr⟩ : ∃ r, r = packL l0 1 := ⟨_, rfl⟩
  rw [← hr]
  have HRr : Aside0 (r = if inB 0 1 l0 = true then PA l0 1 l0.length else []) := ⟨by
    rw [hr]; unfold packL
    by_cases g : inB 0 1 l0 = true
    · rw [if_pos ⟨rfl, h, g⟩, if_pos g]; rfl
    · rw [if_neg (fun q => g q.2.2), if_neg g]⟩
  clear hr
  have NIL : ∀ w' : World, Below w.heap.size w w' → r = [] → ∃ v : Value, Ending.returned (.slice none 0 0) = .returned v ∧ Kd.R (Kd.int .u8) 5 w' w.heap.size (fun _ => True) v r ∧ Below w.heap.size w w' := fun w' hb e => by
    rw [e]
    exact ⟨_, rfl, Kd.R_nil _ _ _ _ _, hb⟩
  have NL := Aside0.mk NIL
  clear NIL
  have t2 : decide ((4096 : Int) < (l0.length : Int)) = false := decide_eq_false (by omega)
  go_enter Try.func17, Try.ntmps17
  go_wp2_with fail
  refine (depth_calls 38 (.inl rfl) 1 _).mono ?_
  rw [show depthB 1 = true from rfl]
  rintro e w1 ⟨rfl, ⟨nd, rfl⟩⟩
  have HB0 := Aside0.mk (pw_below_drewN (Below.refl w.heap.size w) nd)
  go_wp2
  go_loopg [17] l0.length (fun q v17 w' => ∃ i : Nat, v17 = .int .i64 (i : Int) ∧ Aside0 (i + q = l0.length) ∧ Aside0 (∀ j, j < i → 0 ≤ l0.getD j 0 ∧ l0.getD j 0 ≤ 1) ∧ Aside0 (Below w.heap.size w w'))
  case atStart => exact ⟨0, rfl, ⟨by omega⟩, ⟨fun j hj => by omega⟩, HB0⟩
  case round =>
    clear HB0
    obtain ⟨i, rfl, Q, P, HB⟩ := hrel
    by_cases c1 : i < l0.length
    · obtain ⟨q, rfl⟩ : ∃ q, gk = q + 1 := ⟨gk - 1, by have := Q.out; omega⟩
      have HQ := Aside0.mk (Kd.C_below HR.out HB.out)
      obtain ⟨ad1, e1, hx1⟩ := Kd.at_int HQ.out (i : Int) (by omega) (by omega)
      rw [Int.toNat_natCast] at hx1
      obtain ⟨b, hb⟩ : ∃ b, b = rd l0 (i : Int) := ⟨_, rfl⟩
      rw [← hb] at hx1
      rw [rd_nat] at hb
      have HBV := Aside0.mk hb
      clear hb
      subst e1
      have BAD : b < 0 ∨ 1 < b → r = [] := fun g => by
        rw [HRr.out, if_neg]
        intro h1
        have := inB_iff.1 h1 i c1
        rw [← HBV.out] at this
        omega
      have BD := Aside0.mk BAD
      clear BAD
      by_cases b1 : b < 0
      · have t1 : decide (b < 0) = true := decide_eq_true b1
        go_wp2
        go_ret
        exact NL.out _ HB.out (BD.out (.inl (by omega)))
      · have t1 : decide (b < 0) = false := decide_eq_false b1
        by_cases b2 : 2 ≤ b
        · have t3 : decide (2 ≤ b) = true := decide_eq_true b2
          go_wp2
          go_ret
          exact NL.out _ HB.out (BD.out (.inr (by omega)))
        · have t3 : decide (2 ≤ b) = false := decide_eq_false b2
          have P2 : Aside0 (∀ j, j < i + 1 → 0 ≤ l0.getD j 0 ∧ l0.getD j 0 ≤ 1) := ⟨fun j hj => by
            by_cases e : j = i
            · rw [e, ← HBV.out]; omega
            · exact P.out j (by omega)⟩
          go_wp2
          go_roundg q
          case measure => omega
          case rel => exact ⟨i + 1, by go_num, ⟨by have := Q.out; omega⟩, P2, HB⟩
    · have E : Aside0 (r = PA l0 1 l0.length) := ⟨by rw [HRr.out, if_pos (inB_iff.2 fun j hj => P.out j (by omega))]⟩
      have IN : Aside0 (∀ i, i < l0.length → 0 ≤ l0.getD i 0 ∧ l0.getD i 0 ≤ 65535) := ⟨fun j hj => by have := P.out j (by omega); omega⟩
      clear P
      go_wp2_with fail
      refine (l4Pack_calls A0 c0 l0 1 (by omega) h IN.out _ (Kd.C_below HR.out HB.out)).mono ?_
      rintro e w2 ⟨v, rfl, ho, hb⟩
      rw [← E.out] at ho
      have HO := Aside0.mk (Kd.R_lower ho (below_size HB.out))
      have HB2 := Aside0.mk (below_step HB.out hb)
      clear ho hb
      go_wp2
      go_ret
      exact ⟨_, rfl, HO.out, HB2.out⟩
set_option maxHeartbeats 40000000 in
theorem pack_spec_2 (A0 : Option Addr) (c0 : Nat) (l0 : List Int) (h : l0.length ≤ 4096) (w : World) (hr0 : Kd.C (Kd.int .i64) w A0 l0.length l0) :
    Calls Try.prog 17 #[.slice A0 l0.length c0, .int .i64 2] w fun e w' => ∃ v : Value, e = .returned v ∧ Kd.R (Kd.int .u8) 5 w' w.heap.size (fun _ => True) v (packL l0 2) ∧ Below w.heap.size w w' := by
  have HR := Aside0.mk hr0
  clear hr0
  obtain ⟨r, hr⟩ : ∃ r, r = packL l0 2 := ⟨_, rfl⟩
  rw [← hr]
  have HRr : Aside0 (r = if inB 0 3 l0 = true then PA l0 2 l0.length else []) := ⟨by
    rw [hr]; unfold packL
    by_cases g : inB 0 3 l0 = true
    · rw [if_pos ⟨rfl, h, g⟩, if_pos g]; rfl
    · rw [if_neg (fun q => g q.2.2), if_neg g]⟩
  clear hr
  have NIL : ∀ w' : World, Below w.heap.size w w' → r = [] → ∃ v : Value, Ending.returned (.slice none 0 0) = .returned v ∧ Kd.R (Kd.int .u8) 5 w' w.heap.size (fun _ => True) v r ∧ Below w.heap.size w w' := fun w' hb e => by
    rw [e]
    exact ⟨_, rfl, Kd.R_nil _ _ _ _ _, hb⟩
  have NL := Aside0.mk NIL
  clear NIL
  have t2 : decide ((4096 : Int) < (l0.length : Int)) = false := decide_eq_false (by omega)
  go_enter Try.func17, Try.ntmps17
  go_wp2_with fail
  refine (depth_calls 38 (.inl rfl) 2 _).mono ?_
  rw [show depthB 2 = true from rfl]
  rintro e w1 ⟨rfl, ⟨nd, rfl⟩⟩
  have HB0 := Aside0.mk (pw_below_drewN (Below.refl w.heap.size w) nd)
  go_wp2
  go_loopg [17] l0.length (fun q v17 w' => ∃ i : Nat, v17 = .int .i64 (i : Int) ∧ Aside0 (i + q = l0.length) ∧ Aside0 (∀ j, j < i → 0 ≤ l0.getD j 0 ∧ l0.getD j 0 ≤ 3) ∧ Aside0 (Below w.heap.size w w'))
  case atStart => exact ⟨0, rfl, ⟨by omega⟩, ⟨fun j hj => by omega⟩, HB0⟩
  case round =>
    clear HB0
    obtain ⟨i, rfl, Q, P, HB⟩ := hrel
    by_cases c1 : i < l0.length
    · obtain ⟨q, rfl⟩ : ∃ q, gk = q + 1 := ⟨gk - 1, by have := Q.out; omega⟩
      have HQ := Aside0.mk (Kd.C_below HR.out HB.out)
      obtain ⟨ad1, e1, hx1⟩ := Kd.at_int HQ.out (i : Int) (by omega) (by omega)
      rw [Int.toNat_natCast] at hx1
      obtain ⟨b, hb⟩ : ∃ b, b = rd l0 (i : Int) := ⟨_, rfl⟩
      rw [← hb] at hx1
      rw [rd_nat] at hb
      have HBV := Aside0.mk hb
      clear hb
      subst e1
      have BAD : b < 0 ∨ 3 < b → r = [] := fun g => by
        rw [HRr.out, if_neg]
        intro h1
        have := inB_iff.1 h1 i c1
        rw [← HBV.out] at this
        omega
      have BD := Aside0.mk BAD
      clear BAD
      by_cases b1 : b < 0
      · have t1 : decide (b < 0) = true := decide_eq_true b1
        go_wp2
        go_ret
        exact NL.out _ HB.out (BD.out (.inl (by omega)))
      · have t1 : decide (b < 0) = false := decide_eq_false b1
        by_cases b2 : 4 ≤ b
        · have t3 : decide (4 ≤ b) = true := decide_eq_true b2
          go_wp2
          go_ret
          exact NL.out _ HB.out (BD.out (.inr (by omega)))
        · have t3 : decide (4 ≤ b) = false := decide_eq_false b2
          have P2 : Aside0 (∀ j, j < i + 1 → 0 ≤ l0.getD j 0 ∧ l0.getD j 0 ≤ 3) := ⟨fun j hj => by
            by_cases e : j = i
            · rw [e, ← HBV.out]; omega
            · exact P.out j (by omega)⟩
          go_wp2
          go_roundg q
          case measure => omega
          case rel => exact ⟨i + 1, by go_num, ⟨by have := Q.out; omega⟩, P2, HB⟩
    · have E : Aside0 (r = PA l0 2 l0.length) := ⟨by rw [HRr.out, if_pos (inB_iff.2 fun j hj => P.out j (by omega))]⟩
      have IN : Aside0 (∀ i, i < l0.length → 0 ≤ l0.getD i 0 ∧ l0.getD i 0 ≤ 65535) := ⟨fun j hj => by have := P.out j (by omega); omega⟩
      clear P
      go_wp2_with fail
      refine (l4Pack_calls A0 c0 l0 2 (by omega) h IN.out _ (Kd.C_below HR.out HB.out)).mono ?_
      rintro e w2 ⟨v, rfl, ho, hb⟩
      rw [← E.out] at ho
      have HO := Aside0.mk (Kd.R_lower ho (below_size HB.out))
      have HB2 := Aside0.mk (below_step HB.out hb)
      clear ho hb
      go_wp2
      go_ret
      exact ⟨_, rfl, HO.out, HB2.out⟩
set_option maxHeartbeats 40000000 in
theorem pack_spec_4 (A0 : Option Addr) (c0 : Nat) (l0 : List Int) (h : l0.length ≤ 4096) (w : World) (hr0 : Kd.C (Kd.int .i64) w A0 l0.length l0) :
    Calls Try.prog 17 #[.slice A0 l0.length c0, .int .i64 4] w fun e w' => ∃ v : Value, e = .returned v ∧ Kd.R (Kd.int .u8) 5 w' w.heap.size (fun _ => True) v (packL l0 4) ∧ Below w.heap.size w w' := by
  have HR := Aside0.mk hr0
  clear hr0
  obtain ⟨r, hr⟩ : ∃ r, r = packL l0 4 := ⟨_, rfl⟩
  rw [← hr]
  have HRr : Aside0 (r = if inB 0 15 l0 = true then PA l0 4 l0.length else []) := ⟨by
    rw [hr]; unfold packL
    by_cases g : inB 0 15 l0 = true
    · rw [if_pos ⟨rfl, h, g⟩, if_pos g]; rfl
    · rw [if_neg (fun q => g q.2.2), if_neg g]⟩
  clear hr
  have NIL : ∀ w' : World, Below w.heap.size w w' → r = [] → ∃ v : Value, Ending.returned (.slice none 0 0) = .returned v ∧ Kd.R (Kd.int .u8) 5 w' w.heap.size (fun _ => True) v r ∧ Below w.heap.size w w' := fun w' hb e => by
    rw [e]
    exact ⟨_, rfl, Kd.R_nil _ _ _ _ _, hb⟩
  have NL := Aside0.mk NIL
  clear NIL
  have t2 : decide ((4096 : Int) < (l0.length : Int)) = false := decide_eq_false (by omega)
  go_enter Try.func17, Try.ntmps17
  go_wp2_with fail
  refine (depth_calls 38 (.inl rfl) 4 _).mono ?_
  rw [show depthB 4 = true from rfl]
  rintro e w1 ⟨rfl, ⟨nd, rfl⟩⟩
  have HB0 := Aside0.mk (pw_below_drewN (Below.refl w.heap.size w) nd)
  go_wp2
  go_loopg [17] l0.length (fun q v17 w' => ∃ i : Nat, v17 = .int .i64 (i : Int) ∧ Aside0 (i + q = l0.length) ∧ Aside0 (∀ j, j < i → 0 ≤ l0.getD j 0 ∧ l0.getD j 0 ≤ 15) ∧ Aside0 (Below w.heap.size w w'))
  case atStart => exact ⟨0, rfl, ⟨by omega⟩, ⟨fun j hj => by omega⟩, HB0⟩
  case round =>
    clear HB0
    obtain ⟨i, rfl, Q, P, HB⟩ := hrel
    by_cases c1 : i < l0.length
    · obtain ⟨q, rfl⟩ : ∃ q, gk = q + 1 := ⟨gk - 1, by have := Q.out; omega⟩
      have HQ := Aside0.mk (Kd.C_below HR.out HB.out)
      obtain ⟨ad1, e1, hx1⟩ := Kd.at_int HQ.out (i : Int) (by omega) (by omega)
      rw [Int.toNat_natCast] at hx1
      obtain ⟨b, hb⟩ : ∃ b, b = rd l0 (i : Int) := ⟨_, rfl⟩
      rw [← hb] at hx1
      rw [rd_nat] at hb
      have HBV := Aside0.mk hb
      clear hb
      subst e1
      have BAD : b < 0 ∨ 15 < b → r = [] := fun g => by
        rw [HRr.out, if_neg]
        intro h1
        have := inB_iff.1 h1 i c1
        rw [← HBV.out] at this
        omega
      have BD := Aside0.mk BAD
      clear BAD
      by_cases b1 : b < 0
      · have t1 : decide (b < 0) = true := decide_eq_true b1
        go_wp2
        go_ret
        exact NL.out _ HB.out (BD.out (.inl (by omega)))
      · have t1 : decide (b < 0) = false := decide_eq_false b1
        by_cases b2 : 16 ≤ b
        · have t3 : decide (16 ≤ b) = true := decide_eq_true b2
          go_wp2
          go_ret
          exact NL.out _ HB.out (BD.out (.inr (by omega)))
        · have t3 : decide (16 ≤ b) = false := decide_eq_false b2
          have P2 : Aside0 (∀ j, j < i + 1 → 0 ≤ l0.getD j 0 ∧ l0.getD j 0 ≤ 15) := ⟨fun j hj => by
            by_cases e : j = i
            · rw [e, ← HBV.out]; omega
            · exact P.out j (by omega)⟩
          go_wp2
          go_roundg q
          case measure => omega
          case rel => exact ⟨i + 1, by go_num, ⟨by have := Q.out; omega⟩, P2, HB⟩
    · have E : Aside0 (r = PA l0 4 l0.length) := ⟨by rw [HRr.out, if_pos (inB_iff.2 fun j hj => P.out j (by omega))]⟩
      have IN : Aside0 (∀ i, i < l0.length → 0 ≤ l0.getD i 0 ∧ l0.getD i 0 ≤ 65535) := ⟨fun j hj => by have := P.out j (by omega); omega⟩
      clear P
      go_wp2_with fail
      refine (l4Pack_calls A0 c0 l0 4 (by omega) h IN.out _ (Kd.C_below HR.out HB.out)).mono ?_
      rintro e w2 ⟨v, rfl, ho, hb⟩
      rw [← E.out] at ho
      have HO := Aside0.mk (Kd.R_lower ho (below_size HB.out))
      have HB2 := Aside0.mk (below_step HB.out hb)
      clear ho hb
      go_wp2
      go_ret
      exact ⟨_, rfl, HO.out, HB2.out⟩
set_option maxHeartbeats 40000000 in
theorem pack_spec_8 (A0 : Option Addr) (c0 : Nat) (l0 : List Int) (h : l0.length ≤ 4096) (w : World) (hr0 : Kd.C (Kd.int .i64) w A0 l0.length l0) :
    Calls Try.prog 17 #[.slice A0 l0.length c0, .int .i64 8] w fun e w' => ∃ v : Value, e = .returned v ∧ Kd.R (Kd.int .u8) 5 w' w.heap.size (fun _ => True) v (packL l0 8) ∧ Below w.heap.size w w' := by
  have HR := Aside0.mk hr0
  clear hr0
  obtain ⟨r, hr⟩ : ∃ r, r = packL l0 8 := ⟨_, rfl⟩
  rw [← hr]
  have HRr : Aside0 (r = if inB 0 255 l0 = true then PA l0 8 l0.length else []) := ⟨by
    rw [hr]; unfold packL
    by_cases g : inB 0 255 l0 = true
    · rw [if_pos ⟨rfl, h, g⟩, if_pos g]; rfl
    · rw [if_neg (fun q => g q.2.2), if_neg g]⟩
  clear hr
  have NIL : ∀ w' : World, Below w.heap.size w w' → r = [] → ∃ v : Value, Ending.returned (.slice none 0 0) = .returned v ∧ Kd.R (Kd.int .u8) 5 w' w.heap.size (fun _ => True) v r ∧ Below w.heap.size w w' := fun w' hb e => by
    rw [e]
    exact ⟨_, rfl, Kd.R_nil _ _ _ _ _, hb⟩
  have NL := Aside0.mk NIL
  clear NIL
  have t2 : decide ((4096 : Int) < (l0.length : Int)) = false := decide_eq_false (by omega)
  go_enter Try.func17, Try.ntmps17
  go_wp2_with fail
  refine (depth_calls 38 (.inl rfl) 8 _).mono ?_
  rw [show depthB 8 = true from rfl]
  rintro e w1 ⟨rfl, ⟨nd, rfl⟩⟩
  have HB0 := Aside0.mk (pw_below_drewN (Below.refl w.heap.size w) nd)
  go_wp2
  go_loopg [17] l0.length (fun q v17 w' => ∃ i : Nat, v17 = .int .i64 (i : Int) ∧ Aside0 (i + q = l0.length) ∧ Aside0 (∀ j, j < i → 0 ≤ l0.getD j 0 ∧ l0.getD j 0 ≤ 255) ∧ Aside0 (Below w.heap.size w w'))
  case atStart => exact ⟨0, rfl, ⟨by omega⟩, ⟨fun j hj => by omega⟩, HB0⟩
  case round =>
    clear HB0
    obtain ⟨i, rfl, Q, P, HB⟩ := hrel
    by_cases c1 : i < l0.length
    · obtain ⟨q, rfl⟩ : ∃ q, gk = q + 1 := ⟨gk - 1, by have := Q.out; omega⟩
      have HQ := Aside0.mk (Kd.C_below HR.out HB.out)
      obtain ⟨ad1, e1, hx1⟩ := Kd.at_int HQ.out (i : Int) (by omega) (by omega)
      rw [Int.toNat_natCast] at hx1
      obtain ⟨b, hb⟩ : ∃ b, b = rd l0 (i : Int) := ⟨_, rfl⟩
      rw [← hb] at hx1
      rw [rd_nat] at hb
      have HBV := Aside0.mk hb
      clear hb
      subst e1
      have BAD : b < 0 ∨ 255 < b → r = [] := fun g => by
        rw [HRr.out, if_neg]
        intro h1
        have := inB_iff.1 h1 i c1
        rw [← HBV.out] at this
        omega
      have BD := Aside0.mk BAD
      clear BAD
      by_cases b1 : b < 0
      · have t1 : decide (b < 0) = true := decide_eq_true b1
        go_wp2
        go_ret
        exact NL.out _ HB.out (BD.out (.inl (by omega)))
      · have t1 : decide (b < 0) = false := decide_eq_false b1
        by_cases b2 : 256 ≤ b
        · have t3 : decide (256 ≤ b) = true := decide_eq_true b2
          go_wp2
          go_ret
          exact NL.out _ HB.out (BD.out (.inr (by omega)))
        · have t3 : decide (256 ≤ b) = false := decide_eq_false b2
          have P2 : Aside0 (∀ j, j < i + 1 → 0 ≤ l0.getD j 0 ∧ l0.getD j 0 ≤ 255) := ⟨fun j hj => by
            by_cases e : j = i
            · rw [e, ← HBV.out]; omega
            · exact P.out j (by omega)⟩
          go_wp2
          go_roundg q
          case measure => omega
          case rel => exact ⟨i + 1, by go_num, ⟨by have := Q.out; omega⟩, P2, HB⟩
    · have E : Aside0 (r = PA l0 8 l0.length) := ⟨by rw [HRr.out, if_pos (inB_iff.2 fun j hj => P.out j (by omega))]⟩
      have IN : Aside0 (∀ i, i < l0.length → 0 ≤ l0.getD i 0 ∧ l0.getD i 0 ≤ 65535) := ⟨fun j hj => by have := P.out j (by omega); omega⟩
      clear P
      go_wp2_with fail
      refine (l4Pack_calls A0 c0 l0 8 (by omega) h IN.out _ (Kd.C_below HR.out HB.out)).mono ?_
      rintro e w2 ⟨v, rfl, ho, hb⟩
      rw [← E.out] at ho
      have HO := Aside0.mk (Kd.R_lower ho (below_size HB.out))
      have HB2 := Aside0.mk (below_step HB.out hb)
      clear ho hb
      go_wp2
      go_ret
      exact ⟨_, rfl, HO.out, HB2.out⟩
set_option maxHeartbeats 40000000 in
theorem pack_spec_16 (A0 : Option Addr) (c0 : Nat) (l0 : List Int) (h : l0.length ≤ 4096) (w : World) (hr0 : Kd.C (Kd.int .i64) w A0 l0.length l0) :
    Calls Try.prog 17 #[.slice A0 l0.length c0, .int .i64 16] w fun e w' => ∃ v : Value, e = .returned v ∧ Kd.R (Kd.int .u8) 5 w' w.heap.size (fun _ => True) v (packL l0 16) ∧ Below w.heap.size w w' := by
  have HR := Aside0.mk hr0
  clear hr0
  obtain ⟨r, hr⟩ : ∃ r, r = packL l0 16 := ⟨_, rfl⟩
  rw [← hr]
  have HRr : Aside0 (r = if inB 0 65535 l0 = true then PA l0 16 l0.length else []) := ⟨by
    rw [hr]; unfold packL
    by_cases g : inB 0 65535 l0 = true
    · rw [if_pos ⟨rfl, h, g⟩, if_pos g]; rfl
    · rw [if_neg (fun q => g q.2.2), if_neg g]⟩
  clear hr
  have NIL : ∀ w' : World, Below w.heap.size w w' → r = [] → ∃ v : Value, Ending.returned (.slice none 0 0) = .returned v ∧ Kd.R (Kd.int .u8) 5 w' w.heap.size (fun _ => True) v r ∧ Below w.heap.size w w' := fun w' hb e => by
    rw [e]
    exact ⟨_, rfl, Kd.R_nil _ _ _ _ _, hb⟩
  have NL := Aside0.mk NIL
  clear NIL
  have t2 : decide ((4096 : Int) < (l0.length : Int)) = false := decide_eq_false (by omega)
  go_enter Try.func17, Try.ntmps17
  go_wp2_with fail
  refine (depth_calls 38 (.inl rfl) 16 _).mono ?_
  rw [show depthB 16 = true from rfl]
  rintro e w1 ⟨rfl, ⟨nd, rfl⟩⟩
  have HB0 := Aside0.mk (pw_below_drewN (Below.refl w.heap.size w) nd)
  go_wp2
  go_loopg [17] l0.length (fun q v17 w' => ∃ i : Nat, v17 = .int .i64 (i : Int) ∧ Aside0 (i + q = l0.length) ∧ Aside0 (∀ j, j < i → 0 ≤ l0.getD j 0 ∧ l0.getD j 0 ≤ 65535) ∧ Aside0 (Below w.heap.size w w'))
  case atStart => exact ⟨0, rfl, ⟨by omega⟩, ⟨fun j hj => by omega⟩, HB0⟩
  case round =>
    clear HB0
    obtain ⟨i, rfl, Q, P, HB⟩ := hrel
    by_cases c1 : i < l0.length
    · obtain ⟨q, rfl⟩ : ∃ q, gk = q + 1 := ⟨gk - 1, by have := Q.out; omega⟩
      have HQ := Aside0.mk (Kd.C_below HR.out HB.out)
      obtain ⟨ad1, e1, hx1⟩ := Kd.at_int HQ.out (i : Int) (by omega) (by omega)
      rw [Int.toNat_natCast] at hx1
      obtain ⟨b, hb⟩ : ∃ b, b = rd l0 (i : Int) := ⟨_, rfl⟩
      rw [← hb] at hx1
      rw [rd_nat] at hb
      have HBV := Aside0.mk hb
      clear hb
      subst e1
      have BAD : b < 0 ∨ 65535 < b → r = [] := fun g => by
        rw [HRr.out, if_neg]
        intro h1
        have := inB_iff.1 h1 i c1
        rw [← HBV.out] at this
        omega
      have BD := Aside0.mk BAD
      clear BAD
      by_cases b1 : b < 0
      · have t1 : decide (b < 0) = true := decide_eq_true b1
        go_wp2
        go_ret
        exact NL.out _ HB.out (BD.out (.inl (by omega)))
      · have t1 : decide (b < 0) = false := decide_eq_false b1
        by_cases b2 : 65536 ≤ b
        · have t3 : decide (65536 ≤ b) = true := decide_eq_true b2
          go_wp2
          go_ret
          exact NL.out _ HB.out (BD.out (.inr (by omega)))
        · have t3 : decide (65536 ≤ b) = false := decide_eq_false b2
          have P2 : Aside0 (∀ j, j < i + 1 → 0 ≤ l0.getD j 0 ∧ l0.getD j 0 ≤ 65535) := ⟨fun j hj => by
            by_cases e : j = i
            · rw [e, ← HBV.out]; omega
            · exact P.out j (by omega)⟩
          go_wp2
          go_roundg q
          case measure => omega
          case rel => exact ⟨i + 1, by go_num, ⟨by have := Q.out; omega⟩, P2, HB⟩
    · have E : Aside0 (r = PA l0 16 l0.length) := ⟨by rw [HRr.out, if_pos (inB_iff.2 fun j hj => P.out j (by omega))]⟩
      have IN : Aside0 (∀ i, i < l0.length → 0 ≤ l0.getD i 0 ∧ l0.getD i 0 ≤ 65535) := ⟨fun j hj => by have := P.out j (by omega); omega⟩
      clear P
      go_wp2_with fail
      refine (l4Pack_calls A0 c0 l0 16 (by omega) h IN.out _ (Kd.C_below HR.out HB.out)).mono ?_
      rintro e w2 ⟨v, rfl, ho, hb⟩
      rw [← E.out] at ho
      have HO := Aside0.mk (Kd.R_lower ho (below_size HB.out))
      have HB2 := Aside0.mk (below_step HB.out hb)
      clear ho hb
      go_wp2
      go_ret
      exact ⟨_, rfl, HO.out, HB2.out⟩
end Go.Proofs.Ytkhpcclddkddmaa.Wk
