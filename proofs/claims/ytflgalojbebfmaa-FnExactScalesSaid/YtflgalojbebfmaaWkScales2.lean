/- A walk of this seat's own: what the program's Scales comes to. -/
import Derived.Test.YtflgalojbebfmaaWkScales
namespace Go.Proofs.Ytflgalojbebfmaa.Wk
open Go.RowKit Go.Proofs.YtflgalojbebfmaaW.PrintWords Go.Proofs.YtflgalojbebfmaaW.PrintLast Go.Proofs.YtflgalojbebfmaaW.PrintMore Go.Proofs.Ytflgalojbebfmaa.My
set_option linter.unusedVariables false
set_option linter.unusedSimpArgs false
attribute [local go_sem] max2_int min2_int max_two min_two
set_option maxHeartbeats 40000000 in
theorem scales_impl (q : Int) (col : Bool) (w : World) :
    Calls Try.prog 21 #[.int .i64 q, .bool col] w fun e w' => ∃ v : Value, e = .returned v ∧ Kd.R (Kd.int .i64) 3 w' w.heap.size (fun _ => True) v (scalesL q col) ∧ Below w.heap.size w w' := by
  have HB := Aside0.mk (Below.refl w.heap.size w)
  by_cases h : q < 1 ∨ 100 < q
  · unfold scalesL
    rw [if_pos h]
    by_cases h1 : q < 1
    · have t1 : decide (q < 1) = true := decide_eq_true h1
      clear h h1
      go_enter Try.func21, Try.ntmps21
      go_wp2
      go_ret
      exact ⟨_, rfl, Kd.R_nil _ _ _ _ _, HB.out⟩
    · have t1 : decide (q < 1) = false := decide_eq_false h1
      have t2 : decide (100 < q) = true := decide_eq_true (by omega)
      clear h h1
      go_enter Try.func21, Try.ntmps21
      go_wp2
      go_ret
      exact ⟨_, rfl, Kd.R_nil _ _ _ _ _, HB.out⟩
  · have t1 : decide (q < 1) = false := decide_eq_false (by omega)
    have t2 : decide (100 < q) = false := decide_eq_false (by omega)
    have q0 : 1 ≤ q := by omega
    have q1 : q ≤ 100 := by omega
    have HL : Aside0 (scalesL q col = tab 64 (scV (sv q) col)) := ⟨by unfold scalesL; rw [if_neg h]⟩
    obtain ⟨s, hs⟩ : ∃ s, s = sv q := ⟨_, rfl⟩
    rw [HL.out, ← hs]
    have sb : 0 ≤ s ∧ s ≤ 5000 := by
      rw [hs]; unfold sv
      split
      · exact ⟨Int.ediv_nonneg (by omega) (by omega), Int.ediv_le_self _ (by omega)⟩
      · omega
    have HS := Aside0.mk hs
    clear h hs HL
    go_enter Try.func21, Try.ntmps21
    by_cases hq : q < 50
    · have t3 : decide (q < 50) = true := decide_eq_true hq
      go_upto_region 6 with fail
      rw [show 5000 / q = s by rw [HS.out]; unfold sv; rw [if_pos hq]]
      go_wp2
      go_loopg [6, 23] 8 (fun q' v6 v23 w' => ∃ (v : Nat) (out : List Int), v23 = .int .i64 (v : Int) ∧ Aside0 (v + q' = 8) ∧ Aside0 (out.length = 8 * v) ∧ Aside0 (out = tab (8 * v) (scV s col)) ∧ Aside0 (Kd.R (Kd.int .i64) 3 w' w.heap.size (fun _ => True) v6 out) ∧ Aside0 (Below w.heap.size w w'))
      case atStart => exact ⟨0, [], rfl, ⟨by omega⟩, ⟨by simp⟩, ⟨by simp [tab]⟩, ⟨Kd.R_nil _ _ _ _ _⟩, HB⟩
      case round =>
        clear HB
        obtain ⟨v, out, rfl, Qv, L, G, HO, HB⟩ := hrel
        by_cases c0 : v < 8
        · obtain ⟨qv, rfl⟩ : ∃ q', gk = q' + 1 := ⟨gk - 1, by have := Qv.out; omega⟩
          have vb : 0 ≤ (v : Int) ∧ (v : Int) ≤ 7 := by omega
          have t4 : decide ((v : Int) < 8) = true := decide_eq_true (by omega)
          go_wp2
          go_loopg [6, 26] 8 (fun q' v6 v26 w' => ∃ (u : Nat) (out : List Int), v26 = .int .i64 (u : Int) ∧ Aside0 (u + q' = 8) ∧ Aside0 (out.length = 8 * v + u) ∧ Aside0 (out = tab (8 * v + u) (scV s col)) ∧ Aside0 (Kd.R (Kd.int .i64) 3 w' w.heap.size (fun _ => True) v6 out) ∧ Aside0 (Below w.heap.size w w'))
          case atStart => exact ⟨0, out, rfl, ⟨by omega⟩, ⟨by have := L.out; omega⟩, G, HO, HB⟩
          case round =>
            clear HO HB L G
            obtain ⟨u, out, rfl, Qu, L, G, HO, HB⟩ := hrel
            by_cases c1 : u < 8
            · obtain ⟨qu, rfl⟩ : ∃ q', gk = q' + 1 := ⟨gk - 1, by have := Qu.out; omega⟩
              have ub : 0 ≤ (u : Int) ∧ (u : Int) ≤ 7 := by omega
              have uvb := uv_b ub.1 ub.2 vb.1 vb.2
              obtain ⟨b, hb⟩ : ∃ b, b = bv col (u : Int) (v : Int) := ⟨_, rfl⟩
              have bb : 0 ≤ b ∧ b ≤ 100 := by rw [hb]; unfold bv; split <;> omega
              have bsb := bs_b bb.1 bb.2 sb.1 sb.2
              obtain ⟨n, hn⟩ : ∃ n, n = (b * s + 50) / 100 := ⟨_, rfl⟩
              have F1 : Aside0 (scV s col (8 * v + u) = lim n) := ⟨by unfold scV; rw [hn, hb, show (((8 * v + u : Nat) : Int)) % 8 = (u : Int) by omega, show (((8 * v + u : Nat) : Int)) / 8 = (v : Int) by omega]⟩
              have nb : 0 ≤ n ∧ n ≤ 5001 := by omega
              cases col
              · have eb : 8 + 3 * ((u : Int) + (v : Int)) + (u : Int) * (v : Int) / 2 = b := by rw [hb]; rfl
                have en : (b * s + 50) / 100 = n := hn.symm
                have HB' := Aside0.mk hb
                have HN' := Aside0.mk hn
                clear hb hn
                have G2 : Aside0 (out ++ [if 1 < if n < 255 then n else 255 then if n < 255 then n else 255 else 1] = tab (8 * v + (u + 1)) (scV s false)) := ⟨by rw [show 8 * v + (u + 1) = (8 * v + u) + 1 by omega, tab_succ, G.out, F1.out]; congr 2; unfold lim; (repeat' split) <;> omega⟩
                go_wp2_with (at_builtin; refine Kd.R_append (Kd.int .i64) (w0 := w) w.heap.size rfl (.tmp 45) (.tmp 53) 22 3 (.int .i64 0) 8 rfl Try.underlying22 info3 rfl (by decide) (by omega) u6 (out) (if 1 < if n < 255 then n else 255 then if n < 255 then n else 255 else 1) [.int .i64 (if 1 < if n < 255 then n else 255 then if n < 255 then n else 255 else 1)] (fun _ => True) (fun _ => False) rfl rfl ?aP1 (fun _ hk => hk.elim) ?aF1 ?aO1 ?aB1 ?aS1 ?aL1 ?_; (case aP1 => exact rfl); (case aB1 => exact HB.out); (case aF1 => exact fun _ _ => trivial); (case aO1 => exact HO.out); (case aS1 => exact below_size (HB.out)); (case aL1 => have := L.out; have := Qv.out; have := Qu.out; omega); intro v1 w1 ho hb hg hat; have HO2 := Aside0.mk ho; have HB2 := Aside0.mk hb; clear ho hb hg hat HO HB)
                all_goals
                  go_roundg qu
                  case measure => omega
                  case rel => exact ⟨u + 1, out ++ [_], by go_num, ⟨by have := Qu.out; omega⟩, ⟨by have := L.out; simp; omega⟩, G2, HO2, HB2⟩
              · have eb : 10 + 6 * ((u : Int) + (v : Int)) = b := by rw [hb]; rfl
                have en : (b * s + 50) / 100 = n := hn.symm
                have HB' := Aside0.mk hb
                have HN' := Aside0.mk hn
                clear hb hn
                have G2 : Aside0 (out ++ [if 1 < if n < 255 then n else 255 then if n < 255 then n else 255 else 1] = tab (8 * v + (u + 1)) (scV s true)) := ⟨by rw [show 8 * v + (u + 1) = (8 * v + u) + 1 by omega, tab_succ, G.out, F1.out]; congr 2; unfold lim; (repeat' split) <;> omega⟩
                go_wp2_with (at_builtin; refine Kd.R_append (Kd.int .i64) (w0 := w) w.heap.size rfl (.tmp 45) (.tmp 53) 22 3 (.int .i64 0) 8 rfl Try.underlying22 info3 rfl (by decide) (by omega) u6 (out) (if 1 < if n < 255 then n else 255 then if n < 255 then n else 255 else 1) [.int .i64 (if 1 < if n < 255 then n else 255 then if n < 255 then n else 255 else 1)] (fun _ => True) (fun _ => False) rfl rfl ?aP2 (fun _ hk => hk.elim) ?aF2 ?aO2 ?aB2 ?aS2 ?aL2 ?_; (case aP2 => exact rfl); (case aB2 => exact HB.out); (case aF2 => exact fun _ _ => trivial); (case aO2 => exact HO.out); (case aS2 => exact below_size (HB.out)); (case aL2 => have := L.out; have := Qv.out; have := Qu.out; omega); intro v1 w1 ho hb hg hat; have HO2 := Aside0.mk ho; have HB2 := Aside0.mk hb; clear ho hb hg hat HO HB)
                all_goals
                  go_roundg qu
                  case measure => omega
                  case rel => exact ⟨u + 1, out ++ [_], by go_num, ⟨by have := Qu.out; omega⟩, ⟨by have := L.out; simp; omega⟩, G2, HO2, HB2⟩
            · have E1 := Aside0.mk (show u = 8 by have := Qu.out; omega)
              go_wp2
              go_roundg qv
              case measure => omega
              case rel => exact ⟨v + 1, out, by go_num, ⟨by have := Qv.out; omega⟩, ⟨by have := L.out; have := E1.out; omega⟩, ⟨by have := G.out; rwa [E1.out] at this⟩, HO, HB⟩
        · have E2 : Aside0 (out = tab 64 (scV s col)) := ⟨by have := G.out; rwa [show 8 * v = 64 by have := Qv.out; omega] at this⟩
          go_wp2
          go_ret
          rw [E2.out] at HO
          exact ⟨_, rfl, HO.out, HB.out⟩
    · have t3 : decide (q < 50) = false := decide_eq_false hq
      go_upto_region 6 with fail
      rw [show 200 - 2 * q = s by rw [HS.out]; unfold sv; rw [if_neg hq]]
      go_wp2
      go_loopg [6, 23] 8 (fun q' v6 v23 w' => ∃ (v : Nat) (out : List Int), v23 = .int .i64 (v : Int) ∧ Aside0 (v + q' = 8) ∧ Aside0 (out.length = 8 * v) ∧ Aside0 (out = tab (8 * v) (scV s col)) ∧ Aside0 (Kd.R (Kd.int .i64) 3 w' w.heap.size (fun _ => True) v6 out) ∧ Aside0 (Below w.heap.size w w'))
      case atStart => exact ⟨0, [], rfl, ⟨by omega⟩, ⟨by simp⟩, ⟨by simp [tab]⟩, ⟨Kd.R_nil _ _ _ _ _⟩, HB⟩
      case round =>
        clear HB
        obtain ⟨v, out, rfl, Qv, L, G, HO, HB⟩ := hrel
        by_cases c0 : v < 8
        · obtain ⟨qv, rfl⟩ : ∃ q', gk = q' + 1 := ⟨gk - 1, by have := Qv.out; omega⟩
          have vb : 0 ≤ (v : Int) ∧ (v : Int) ≤ 7 := by omega
          have t4 : decide ((v : Int) < 8) = true := decide_eq_true (by omega)
          go_wp2
          go_loopg [6, 26] 8 (fun q' v6 v26 w' => ∃ (u : Nat) (out : List Int), v26 = .int .i64 (u : Int) ∧ Aside0 (u + q' = 8) ∧ Aside0 (out.length = 8 * v + u) ∧ Aside0 (out = tab (8 * v + u) (scV s col)) ∧ Aside0 (Kd.R (Kd.int .i64) 3 w' w.heap.size (fun _ => True) v6 out) ∧ Aside0 (Below w.heap.size w w'))
          case atStart => exact ⟨0, out, rfl, ⟨by omega⟩, ⟨by have := L.out; omega⟩, G, HO, HB⟩
          case round =>
            clear HO HB L G
            obtain ⟨u, out, rfl, Qu, L, G, HO, HB⟩ := hrel
            by_cases c1 : u < 8
            · obtain ⟨qu, rfl⟩ : ∃ q', gk = q' + 1 := ⟨gk - 1, by have := Qu.out; omega⟩
              have ub : 0 ≤ (u : Int) ∧ (u : Int) ≤ 7 := by omega
              have uvb := uv_b ub.1 ub.2 vb.1 vb.2
              obtain ⟨b, hb⟩ : ∃ b, b = bv col (u : Int) (v : Int) := ⟨_, rfl⟩
              have bb : 0 ≤ b ∧ b ≤ 100 := by rw [hb]; unfold bv; split <;> omega
              have bsb := bs_b bb.1 bb.2 sb.1 sb.2
              obtain ⟨n, hn⟩ : ∃ n, n = (b * s + 50) / 100 := ⟨_, rfl⟩
              have F1 : Aside0 (scV s col (8 * v + u) = lim n) := ⟨by unfold scV; rw [hn, hb, show (((8 * v + u : Nat) : Int)) % 8 = (u : Int) by omega, show (((8 * v + u : Nat) : Int)) / 8 = (v : Int) by omega]⟩
              have nb : 0 ≤ n ∧ n ≤ 5001 := by omega
              cases col
              · have eb : 8 + 3 * ((u : Int) + (v : Int)) + (u : Int) * (v : Int) / 2 = b := by rw [hb]; rfl
                have en : (b * s + 50) / 100 = n := hn.symm
                have HB' := Aside0.mk hb
                have HN' := Aside0.mk hn
                clear hb hn
                have G2 : Aside0 (out ++ [if 1 < if n < 255 then n else 255 then if n < 255 then n else 255 else 1] = tab (8 * v + (u + 1)) (scV s false)) := ⟨by rw [show 8 * v + (u + 1) = (8 * v + u) + 1 by omega, tab_succ, G.out, F1.out]; congr 2; unfold lim; (repeat' split) <;> omega⟩
                go_wp2_with (at_builtin; refine Kd.R_append (Kd.int .i64) (w0 := w) w.heap.size rfl (.tmp 45) (.tmp 53) 22 3 (.int .i64 0) 8 rfl Try.underlying22 info3 rfl (by decide) (by omega) u6 (out) (if 1 < if n < 255 then n else 255 then if n < 255 then n else 255 else 1) [.int .i64 (if 1 < if n < 255 then n else 255 then if n < 255 then n else 255 else 1)] (fun _ => True) (fun _ => False) rfl rfl ?aP3 (fun _ hk => hk.elim) ?aF3 ?aO3 ?aB3 ?aS3 ?aL3 ?_; (case aP3 => exact rfl); (case aB3 => exact HB.out); (case aF3 => exact fun _ _ => trivial); (case aO3 => exact HO.out); (case aS3 => exact below_size (HB.out)); (case aL3 => have := L.out; have := Qv.out; have := Qu.out; omega); intro v1 w1 ho hb hg hat; have HO2 := Aside0.mk ho; have HB2 := Aside0.mk hb; clear ho hb hg hat HO HB)
                all_goals
                  go_roundg qu
                  case measure => omega
                  case rel => exact ⟨u + 1, out ++ [_], by go_num, ⟨by have := Qu.out; omega⟩, ⟨by have := L.out; simp; omega⟩, G2, HO2, HB2⟩
              · have eb : 10 + 6 * ((u : Int) + (v : Int)) = b := by rw [hb]; rfl
                have en : (b * s + 50) / 100 = n := hn.symm
                have HB' := Aside0.mk hb
                have HN' := Aside0.mk hn
                clear hb hn
                have G2 : Aside0 (out ++ [if 1 < if n < 255 then n else 255 then if n < 255 then n else 255 else 1] = tab (8 * v + (u + 1)) (scV s true)) := ⟨by rw [show 8 * v + (u + 1) = (8 * v + u) + 1 by omega, tab_succ, G.out, F1.out]; congr 2; unfold lim; (repeat' split) <;> omega⟩
                go_wp2_with (at_builtin; refine Kd.R_append (Kd.int .i64) (w0 := w) w.heap.size rfl (.tmp 45) (.tmp 53) 22 3 (.int .i64 0) 8 rfl Try.underlying22 info3 rfl (by decide) (by omega) u6 (out) (if 1 < if n < 255 then n else 255 then if n < 255 then n else 255 else 1) [.int .i64 (if 1 < if n < 255 then n else 255 then if n < 255 then n else 255 else 1)] (fun _ => True) (fun _ => False) rfl rfl ?aP4 (fun _ hk => hk.elim) ?aF4 ?aO4 ?aB4 ?aS4 ?aL4 ?_; (case aP4 => exact rfl); (case aB4 => exact HB.out); (case aF4 => exact fun _ _ => trivial); (case aO4 => exact HO.out); (case aS4 => exact below_size (HB.out)); (case aL4 => have := L.out; have := Qv.out; have := Qu.out; omega); intro v1 w1 ho hb hg hat; have HO2 := Aside0.mk ho; have HB2 := Aside0.mk hb; clear ho hb hg hat HO HB)
                all_goals
                  go_roundg qu
                  case measure => omega
                  case rel => exact ⟨u + 1, out ++ [_], by go_num, ⟨by have := Qu.out; omega⟩, ⟨by have := L.out; simp; omega⟩, G2, HO2, HB2⟩
            · have E1 := Aside0.mk (show u = 8 by have := Qu.out; omega)
              go_wp2
              go_roundg qv
              case measure => omega
              case rel => exact ⟨v + 1, out, by go_num, ⟨by have := Qv.out; omega⟩, ⟨by have := L.out; have := E1.out; omega⟩, ⟨by have := G.out; rwa [E1.out] at this⟩, HO, HB⟩
        · have E2 : Aside0 (out = tab 64 (scV s col)) := ⟨by have := G.out; rwa [show 8 * v = 64 by have := Qv.out; omega] at this⟩
          go_wp2
          go_ret
          rw [E2.out] at HO
          exact ⟨_, rfl, HO.out, HB.out⟩
end Go.Proofs.Ytflgalojbebfmaa.Wk
