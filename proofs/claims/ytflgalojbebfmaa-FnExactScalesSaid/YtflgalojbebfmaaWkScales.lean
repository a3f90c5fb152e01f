/- Walks of this seat's own: what the two Scales come to. -/
import Derived.Test.YtflgalojbebfmaaWkIntSC
namespace Go.Proofs.Ytflgalojbebfmaa.Wk
open Go.RowKit Go.Proofs.YtflgalojbebfmaaW.PrintWords Go.Proofs.YtflgalojbebfmaaW.PrintLast Go.Proofs.YtflgalojbebfmaaW.PrintMore Go.Proofs.Ytflgalojbebfmaa.My
set_option linter.unusedVariables false
set_option linter.unusedSimpArgs false
def sv (q : Int) : Int := if q < 50 then 5000 / q else 200 - 2 * q
def bv (col : Bool) (u v : Int) : Int := if col then 10 + 6 * (u + v) else 8 + 3 * (u + v) + u * v / 2
def lim (n : Int) : Int := if n < 1 then 1 else if 255 < n then 255 else n
def scV (s : Int) (col : Bool) (i : Nat) : Int := lim ((bv col ((i : Int) % 8) ((i : Int) / 8) * s + 50) / 100)
def scalesL (q : Int) (col : Bool) : List Int := if q < 1 ∨ 100 < q then [] else tab 64 (scV (sv q) col)
theorem uv_b {u v : Int} (h0 : 0 ≤ u) (h1 : u ≤ 7) (h2 : 0 ≤ v) (h3 : v ≤ 7) : 0 ≤ u * v ∧ u * v ≤ 49 :=
  ⟨Int.mul_nonneg h0 h2, Int.le_trans (Int.mul_le_mul h1 h3 h2 (by omega)) (by omega)⟩
theorem bs_b {b s : Int} (h0 : 0 ≤ b) (h1 : b ≤ 100) (h2 : 0 ≤ s) (h3 : s ≤ 5000) : 0 ≤ b * s ∧ b * s ≤ 500000 :=
  ⟨Int.mul_nonneg h0 h2, Int.le_trans (Int.mul_le_mul h1 h3 h2 (by omega)) (by omega)⟩
set_option maxHeartbeats 4000000 in
theorem scales_spec (q : Int) (col : Bool) (w : World) :
    Calls Try.prog 20 #[.int .i64 q, .bool col] w fun e w' => ∃ v : Value, e = .returned v ∧ Kd.R (Kd.int .i64) 3 w' w.heap.size (fun _ => True) v (scalesL q col) ∧ Below w.heap.size w w' := by
  have HB := Aside0.mk (Below.refl w.heap.size w)
  by_cases h : q < 1 ∨ 100 < q
  · unfold scalesL
    rw [if_pos h]
    by_cases h1 : q < 1
    · have t1 : decide (q < 1) = true := decide_eq_true h1
      clear h h1
      go_enter Try.func20, Try.ntmps20
      go_wp2
      go_ret
      exact ⟨_, rfl, Kd.R_nil _ _ _ _ _, HB.out⟩
    · have t1 : decide (q < 1) = false := decide_eq_false h1
      have t2 : decide (100 < q) = true := decide_eq_true (by omega)
      clear h h1
      go_enter Try.func20, Try.ntmps20
      go_wp2
      go_ret
      exact ⟨_, rfl, Kd.R_nil _ _ _ _ _, HB.out⟩
  · have t1 : decide (q < 1) = false := decide_eq_false (by omega)
    have t2 : decide (100 < q) = false := decide_eq_false (by omega)
    have q0 : 1 ≤ q := by omega
    have q1 : q ≤ 100 := by omega
    have HL : Aside0 (scalesL q col = tab 64 (scV (sv q) col)) := ⟨by unfold scalesL; rw [if_neg h]⟩
    obtain ⟨s, hs⟩ : ∃ s, s = sv q := ⟨_, rfl⟩
    rw [HL.out, ← hs]
    have sb : 0 ≤ s ∧ s ≤ 5000 := by
      rw [hs]; unfold sv
      split
      · exact ⟨Int.ediv_nonneg (by omega) (by omega), Int.ediv_le_self _ (by omega)⟩
      · omega
    have HS := Aside0.mk hs
    clear h hs HL
    go_enter Try.func20, Try.ntmps20
    by_cases hq : q < 50
    · have t3 : decide (q < 50) = true := decide_eq_true hq
      go_upto_region 6 with fail
      rw [show 5000 / q = s by rw [HS.out]; unfold sv; rw [if_pos hq]]
      go_wp2_with ((with_reducible refine gate_dst (N := 25) rfl ?_); (refine Kd.R_make (Kd.int .i64) (w0 := w) w.heap.size 3 rfl (N := 25) rfl 22 _ _ rfl (64 : Int) rfl rfl Try.underlying22 (.int .i64 0) 8 info3 rfl (by decide) (by omega) 0 (ok := fun _ => True) (okp := fun _ => True) rfl (fun _ hk => hk) trivial (by omega) (by omega) ?mB ?mS ?_); (case mB => first | exact Below.refl _ _ | exact HB.out); (case mS => first | exact Nat.le_refl _ | exact below_size HB.out); intro v1 w1 ho hb hg hn; (try rw [Int.toNat_natCast] at ho); obtain ⟨A1, c1, rfl⟩ := R_slice_n (n := 64) ho (by simp); have HO := Aside0.mk ho; have HB := Aside0.mk hb; clear ho hb hg hn)
      go_loopg [28] 64 (fun q' v28 w' => ∃ (i : Nat) (x : List Int), v28 = .int .i64 (i : Int) ∧ Aside0 (i + q' = 64) ∧ Aside0 (Part 64 i x (scV s col) (fun _ => 0)) ∧ Aside0 (Kd.R (Kd.int .i64) 3 w' w.heap.size (fun _ => True) (.slice A1 64 c1) x) ∧ Aside0 (Below w.heap.size w w'))
      case atStart => exact ⟨0, _, rfl, ⟨by omega⟩, ⟨Part.zeros _ _⟩, HO, HB⟩
      case round =>
        clear HO HB
        obtain ⟨i, x, rfl, Q, PT, HO, HB⟩ := hrel
        by_cases c0 : i < 64
        · obtain ⟨q', rfl⟩ : ∃ q', gk = q' + 1 := ⟨gk - 1, by have := Q.out; omega⟩
          have xl : x.length = 64 := PT.out.1
          obtain ⟨g, cap, e1, gb, gl, cl, hg⟩ := Kd.R_form HO.out (by omega)
          rw [xl] at e1
          cases e1
          obtain ⟨hx, hfz⟩ := Kd.R_celln 0 HO.out (i : Int) (by omega) (by omega)
          rw [Int.toNat_natCast] at hx hfz
          have GB := Aside0.mk gb
          clear gb gl hg
          go_upto_region 12 with fail
          obtain ⟨u, hu⟩ : ∃ u, u = (i : Int) % 8 := ⟨_, rfl⟩
          obtain ⟨v, hv⟩ : ∃ v, v = (i : Int) / 8 := ⟨_, rfl⟩
          have ub : 0 ≤ u ∧ u ≤ 7 := by omega
          have vb : 0 ≤ v ∧ v ≤ 7 := by omega
          rw [← hu, ← hv]
          have F1 : Aside0 (scV s col i = lim ((bv col u v * s + 50) / 100)) := ⟨by unfold scV; rw [hu, hv]⟩
          clear hu hv
          have uvb := uv_b ub.1 ub.2 vb.1 vb.2
          obtain ⟨b, hb⟩ : ∃ b, b = bv col u v := ⟨_, rfl⟩
          rw [← hb] at F1
          have bb : 0 ≤ b ∧ b ≤ 100 := by rw [hb]; unfold bv; split <;> omega
          have bsb := bs_b bb.1 bb.2 sb.1 sb.2
          obtain ⟨n, hn⟩ : ∃ n, n = (b * s + 50) / 100 := ⟨_, rfl⟩
          rw [← hn] at F1
          have nb : 0 ≤ n ∧ n ≤ 5001 := by omega
          cases col
          · have eb : 8 + 3 * (u + v) + u * v / 2 = b := by rw [hb]; rfl
            have en : (b * s + 50) / 100 = n := hn.symm
            have HB' := Aside0.mk hb
            have HN' := Aside0.mk hn
            clear hb hn
            go_upto_region 16 with fail
            try rw [en]
            clear eb en bsb uvb
            by_cases n1 : n < 1
            · have s1 : decide (n < 1) = true := decide_eq_true n1
              have HP := Aside0.mk (Kd.R_putn HO.out (i : Int) (1))
              have PT2 := Aside0.mk (PT.out.set c0 (v := 1) (by rw [F1.out]; unfold lim; repeat (first | rw [if_pos (by omega)] | rw [if_neg (by omega)])))
              go_wp2
              go_roundg q'
              case measure => omega
              case rel => exact ⟨i + 1, _, by go_num, ⟨by have := Q.out; omega⟩, PT2, HP, ⟨below_set HB.out GB.out⟩⟩
            · have s1 : decide (n < 1) = false := decide_eq_false n1
              by_cases n2 : 255 < n
              · have s2 : decide (255 < n) = true := decide_eq_true n2
                have HP := Aside0.mk (Kd.R_putn HO.out (i : Int) (255))
                have PT2 := Aside0.mk (PT.out.set c0 (v := 255) (by rw [F1.out]; unfold lim; repeat (first | rw [if_pos (by omega)] | rw [if_neg (by omega)])))
                go_wp2
                go_roundg q'
                case measure => omega
                case rel => exact ⟨i + 1, _, by go_num, ⟨by have := Q.out; omega⟩, PT2, HP, ⟨below_set HB.out GB.out⟩⟩
              · have s2 : decide (255 < n) = false := decide_eq_false n2
                have HP := Aside0.mk (Kd.R_putn HO.out (i : Int) (n))
                have PT2 := Aside0.mk (PT.out.set c0 (v := n) (by rw [F1.out]; unfold lim; repeat (first | rw [if_pos (by omega)] | rw [if_neg (by omega)])))
                go_wp2
                go_roundg q'
                case measure => omega
                case rel => exact ⟨i + 1, _, by go_num, ⟨by have := Q.out; omega⟩, PT2, HP, ⟨below_set HB.out GB.out⟩⟩
          · have eb : 10 + 6 * (u + v) = b := by rw [hb]; rfl
            have en : (b * s + 50) / 100 = n := hn.symm
            have HB' := Aside0.mk hb
            have HN' := Aside0.mk hn
            clear hb hn
            go_upto_region 16 with fail
            try rw [en]
            clear eb en bsb uvb
            by_cases n1 : n < 1
            · have s1 : decide (n < 1) = true := decide_eq_true n1
              have HP := Aside0.mk (Kd.R_putn HO.out (i : Int) (1))
              have PT2 := Aside0.mk (PT.out.set c0 (v := 1) (by rw [F1.out]; unfold lim; repeat (first | rw [if_pos (by omega)] | rw [if_neg (by omega)])))
              go_wp2
              go_roundg q'
              case measure => omega
              case rel => exact ⟨i + 1, _, by go_num, ⟨by have := Q.out; omega⟩, PT2, HP, ⟨below_set HB.out GB.out⟩⟩
            · have s1 : decide (n < 1) = false := decide_eq_false n1
              by_cases n2 : 255 < n
              · have s2 : decide (255 < n) = true := decide_eq_true n2
                have HP := Aside0.mk (Kd.R_putn HO.out (i : Int) (255))
                have PT2 := Aside0.mk (PT.out.set c0 (v := 255) (by rw [F1.out]; unfold lim; repeat (first | rw [if_pos (by omega)] | rw [if_neg (by omega)])))
                go_wp2
                go_roundg q'
                case measure => omega
                case rel => exact ⟨i + 1, _, by go_num, ⟨by have := Q.out; omega⟩, PT2, HP, ⟨below_set HB.out GB.out⟩⟩
              · have s2 : decide (255 < n) = false := decide_eq_false n2
                have HP := Aside0.mk (Kd.R_putn HO.out (i : Int) (n))
                have PT2 := Aside0.mk (PT.out.set c0 (v := n) (by rw [F1.out]; unfold lim; repeat (first | rw [if_pos (by omega)] | rw [if_neg (by omega)])))
                go_wp2
                go_roundg q'
                case measure => omega
                case rel => exact ⟨i + 1, _, by go_num, ⟨by have := Q.out; omega⟩, PT2, HP, ⟨below_set HB.out GB.out⟩⟩
        · have E2 : Aside0 (x = tab 64 (scV s col)) := ⟨by have h := PT.out; rw [show i = 64 by have := Q.out; omega] at h; exact h.done⟩
          go_wp2
          go_ret
          rw [E2.out] at HO
          exact ⟨_, rfl, HO.out, HB.out⟩
    · have t3 : decide (q < 50) = false := decide_eq_false hq
      go_upto_region 6 with fail
      rw [show 200 - 2 * q = s by rw [HS.out]; unfold sv; rw [if_neg hq]]
      go_wp2_with ((with_reducible refine gate_dst (N := 25) rfl ?_); (refine Kd.R_make (Kd.int .i64) (w0 := w) w.heap.size 3 rfl (N := 25) rfl 22 _ _ rfl (64 : Int) rfl rfl Try.underlying22 (.int .i64 0) 8 info3 rfl (by decide) (by omega) 0 (ok := fun _ => True) (okp := fun _ => True) rfl (fun _ hk => hk) trivial (by omega) (by omega) ?mB ?mS ?_); (case mB => first | exact Below.refl _ _ | exact HB.out); (case mS => first | exact Nat.le_refl _ | exact below_size HB.out); intro v1 w1 ho hb hg hn; (try rw [Int.toNat_natCast] at ho); obtain ⟨A1, c1, rfl⟩ := R_slice_n (n := 64) ho (by simp); have HO := Aside0.mk ho; have HB := Aside0.mk hb; clear ho hb hg hn)
      go_loopg [28] 64 (fun q' v28 w' => ∃ (i : Nat) (x : List Int), v28 = .int .i64 (i : Int) ∧ Aside0 (i + q' = 64) ∧ Aside0 (Part 64 i x (scV s col) (fun _ => 0)) ∧ Aside0 (Kd.R (Kd.int .i64) 3 w' w.heap.size (fun _ => True) (.slice A1 64 c1) x) ∧ Aside0 (Below w.heap.size w w'))
      case atStart => exact ⟨0, _, rfl, ⟨by omega⟩, ⟨Part.zeros _ _⟩, HO, HB⟩
      case round =>
        clear HO HB
        obtain ⟨i, x, rfl, Q, PT, HO, HB⟩ := hrel
        by_cases c0 : i < 64
        · obtain ⟨q', rfl⟩ : ∃ q', gk = q' + 1 := ⟨gk - 1, by have := Q.out; omega⟩
          have xl : x.length = 64 := PT.out.1
          obtain ⟨g, cap, e1, gb, gl, cl, hg⟩ := Kd.R_form HO.out (by omega)
          rw [xl] at e1
          cases e1
          obtain ⟨hx, hfz⟩ := Kd.R_celln 0 HO.out (i : Int) (by omega) (by omega)
          rw [Int.toNat_natCast] at hx hfz
          have GB := Aside0.mk gb
          clear gb gl hg
          go_upto_region 12 with fail
          obtain ⟨u, hu⟩ : ∃ u, u = (i : Int) % 8 := ⟨_, rfl⟩
          obtain ⟨v, hv⟩ : ∃ v, v = (i : Int) / 8 := ⟨_, rfl⟩
          have ub : 0 ≤ u ∧ u ≤ 7 := by omega
          have vb : 0 ≤ v ∧ v ≤ 7 := by omega
          rw [← hu, ← hv]
          have F1 : Aside0 (scV s col i = lim ((bv col u v * s + 50) / 100)) := ⟨by unfold scV; rw [hu, hv]⟩
          clear hu hv
          have uvb := uv_b ub.1 ub.2 vb.1 vb.2
          obtain ⟨b, hb⟩ : ∃ b, b = bv col u v := ⟨_, rfl⟩
          rw [← hb] at F1
          have bb : 0 ≤ b ∧ b ≤ 100 := by rw [hb]; unfold bv; split <;> omega
          have bsb := bs_b bb.1 bb.2 sb.1 sb.2
          obtain ⟨n, hn⟩ : ∃ n, n = (b * s + 50) / 100 := ⟨_, rfl⟩
          rw [← hn] at F1
          have nb : 0 ≤ n ∧ n ≤ 5001 := by omega
          cases col
          · have eb : 8 + 3 * (u + v) + u * v / 2 = b := by rw [hb]; rfl
            have en : (b * s + 50) / 100 = n := hn.symm
            have HB' := Aside0.mk hb
            have HN' := Aside0.mk hn
            clear hb hn
            go_upto_region 16 with fail
            try rw [en]
            clear eb en bsb uvb
            by_cases n1 : n < 1
            · have s1 : decide (n < 1) = true := decide_eq_true n1
              have HP := Aside0.mk (Kd.R_putn HO.out (i : Int) (1))
              have PT2 := Aside0.mk (PT.out.set c0 (v := 1) (by rw [F1.out]; unfold lim; repeat (first | rw [if_pos (by omega)] | rw [if_neg (by omega)])))
              go_wp2
              go_roundg q'
              case measure => omega
              case rel => exact ⟨i + 1, _, by go_num, ⟨by have := Q.out; omega⟩, PT2, HP, ⟨below_set HB.out GB.out⟩⟩
            · have s1 : decide (n < 1) = false := decide_eq_false n1
              by_cases n2 : 255 < n
              · have s2 : decide (255 < n) = true := decide_eq_true n2
                have HP := Aside0.mk (Kd.R_putn HO.out (i : Int) (255))
                have PT2 := Aside0.mk (PT.out.set c0 (v := 255) (by rw [F1.out]; unfold lim; repeat (first | rw [if_pos (by omega)] | rw [if_neg (by omega)])))
                go_wp2
                go_roundg q'
                case measure => omega
                case rel => exact ⟨i + 1, _, by go_num, ⟨by have := Q.out; omega⟩, PT2, HP, ⟨below_set HB.out GB.out⟩⟩
              · have s2 : decide (255 < n) = false := decide_eq_false n2
                have HP := Aside0.mk (Kd.R_putn HO.out (i : Int) (n))
                have PT2 := Aside0.mk (PT.out.set c0 (v := n) (by rw [F1.out]; unfold lim; repeat (first | rw [if_pos (by omega)] | rw [if_neg (by omega)])))
                go_wp2
                go_roundg q'
                case measure => omega
                case rel => exact ⟨i + 1, _, by go_num, ⟨by have := Q.out; omega⟩, PT2, HP, ⟨below_set HB.out GB.out⟩⟩
          · have eb : 10 + 6 * (u + v) = b := by rw [hb]; rfl
            have en : (b * s + 50) / 100 = n := hn.symm
            have HB' := Aside0.mk hb
            have HN' := Aside0.mk hn
            clear hb hn
            go_upto_region 16 with fail
            try rw [en]
            clear eb en bsb uvb
            by_cases n1 : n < 1
            · have s1 : decide (n < 1) = true := decide_eq_true n1
              have HP := Aside0.mk (Kd.R_putn HO.out (i : Int) (1))
              have PT2 := Aside0.mk (PT.out.set c0 (v := 1) (by rw [F1.out]; unfold lim; repeat (first | rw [if_pos (by omega)] | rw [if_neg (by omega)])))
              go_wp2
              go_roundg q'
              case measure => omega
              case rel => exact ⟨i + 1, _, by go_num, ⟨by have := Q.out; omega⟩, PT2, HP, ⟨below_set HB.out GB.out⟩⟩
            · have s1 : decide (n < 1) = false := decide_eq_false n1
              by_cases n2 : 255 < n
              · have s2 : decide (255 < n) = true := decide_eq_true n2
                have HP := Aside0.mk (Kd.R_putn HO.out (i : Int) (255))
                have PT2 := Aside0.mk (PT.out.set c0 (v := 255) (by rw [F1.out]; unfold lim; repeat (first | rw [if_pos (by omega)] | rw [if_neg (by omega)])))
                go_wp2
                go_roundg q'
                case measure => omega
                case rel => exact ⟨i + 1, _, by go_num, ⟨by have := Q.out; omega⟩, PT2, HP, ⟨below_set HB.out GB.out⟩⟩
              · have s2 : decide (255 < n) = false := decide_eq_false n2
                have HP := Aside0.mk (Kd.R_putn HO.out (i : Int) (n))
                have PT2 := Aside0.mk (PT.out.set c0 (v := n) (by rw [F1.out]; unfold lim; repeat (first | rw [if_pos (by omega)] | rw [if_neg (by omega)])))
                go_wp2
                go_roundg q'
                case measure => omega
                case rel => exact ⟨i + 1, _, by go_num, ⟨by have := Q.out; omega⟩, PT2, HP, ⟨below_set HB.out GB.out⟩⟩
        · have E2 : Aside0 (x = tab 64 (scV s col)) := ⟨by have h := PT.out; rw [show i = 64 by have := Q.out; omega] at h; exact h.done⟩
          go_wp2
          go_ret
          rw [E2.out] at HO
          exact ⟨_, rfl, HO.out, HB.out⟩
end Go.Proofs.Ytflgalojbebfmaa.Wk
