/- Walks of this seat's own: what the program's Powers comes to. -/
import Derived.Test.YtdijjadoneeadaaDoorWkPow
import Derived.Test.YtdijjadoneeadaaDoorWkWvB
namespace Go.Proofs.YtdijjadoneeadaaDoor.Wk
open Go.RowKit Go.Proofs.YtdijjadoneeadaaDoorW.PrintWords Go.Proofs.YtdijjadoneeadaaDoorW.PrintLast Go.Proofs.YtdijjadoneeadaaDoorW.PrintMore Go.Proofs.YtdijjadoneeadaaDoor.My Go.Proofs.YtdijjadoneeadaaDoor.Wv Go.Proofs.YtdijjadoneeadaaDoor.Fl
open Go.Proofs.YtdijjadoneeadaaDoor.PFnExactPowers
set_option linter.unusedVariables false
set_option linter.unusedSimpArgs false
attribute [local congr] bind_left ite_left
attribute [local go_sem] run_store_float
theorem WRow.grown {w w1 : World} {g n : Nat} {X : Nat → Nat × Nat} {row : Option Nat} (h : WRow w g n X) (hg : w.grownBy w1 row) (hne : some g ≠ row) : WRow w1 g n X := h.move (hg.block g h.lt hne)
theorem not_ok {l : List Int} (h : ¬ okL l) : (inB (-32768) 32767 l && ((l.length : Int) == 16)) = false := by
  rcases e : (inB (-32768) 32767 l && ((l.length : Int) == 16)) with _ | _
  · rfl
  · exact absurd ((okL_iff l).1 e) h
set_option maxHeartbeats 4000000 in
/-- No waves of what is no sixteen samples. -/
theorem waves_none (A0 : Option Addr) (c0 : Nat) (l0 : List Int) (hl0 : l0.length ≤ 1048576) (w : World) (hc0 : l0.length ≤ c0) (hr0 : Kd.C (Kd.int .i64) w A0 l0.length l0) (hok : ¬ okL l0) :
    Calls Tryd.prog 13 #[.slice A0 l0.length c0] w fun e w' => e = .returned (.slice none 0 0) ∧ Below w.heap.size w w' := by
  have ZS := Aside0.mk (impl_zsamples.calls (l0.length + 1) A0 c0 l0 16 _ w hr0 hc0 (zsamples_eq _ l0 hl0 (by omega)))
  have F := Aside0.mk (not_ok hok)
  clear hr0 hok
  go_enter Tryd.func13, Tryd.ntmps13
  go_wp2_with fail
  refine ZS.out.mono ?_
  rw [F.out]
  rintro e w1 ⟨rfl, ⟨nd, rfl⟩⟩
  go_wp2
  go_ret
  exact ⟨rfl, pw_below_drewN (Below.refl _ _) _⟩
set_option maxRecDepth 100000 in
set_option maxHeartbeats 40000000 in
theorem pow_impl (A0 : Option Addr) (c0 : Nat) (l0 : List Int) (hl0 : l0.length ≤ 1048576) (w : World) (hc0 : l0.length ≤ c0) (hr0 : Kd.C (Kd.int .i64) w A0 l0.length l0) (hT : PT w) :
    Calls Tryd.prog 7 #[.slice A0 l0.length c0] w fun e w' => ∃ v : Value, e = .returned v ∧ Kd.R (Kd.int .i64) 3 w' w.heap.size (fun _ => True) v (pwL l0) ∧ Below w.heap.size w w' := by
  by_cases hok : okL l0
  · have E : Aside0 (pwL l0 = tab 8 (powL l0)) := ⟨by unfold pwL; rw [if_pos hok]⟩
    have SOK := Aside0.mk (st_ok (okL_abs hok) 4 (by omega))
    have WS := Aside0.mk (waves_impl A0 c0 l0 hl0 w hc0 hr0 hT hok)
    clear hok hr0 hT
    go_enter Tryd.func7, Tryd.ntmps7
    go_wp2_with fail
    refine WS.out.mono ?_
    rintro e wv ⟨g, c, rfl, hge, hrow, hb⟩
    have HW := Aside0.mk hrow
    have HB := Aside0.mk hb
    have GE := Aside0.mk hge
    clear hrow hb hge WS
    go_wp2
    go_loopg [3, 9] 16 (fun q v3 v9 w' => ∃ (i : Nat) (out : List Int), v9 = .int .i64 (i : Int) ∧ Aside0 (i + q = 16) ∧ Aside0 (out.length = min i 8) ∧ Aside0 (out = tab (min i 8) (powL l0)) ∧ Aside0 (Kd.R (Kd.int .i64) 3 w' w.heap.size (fun _ => True) v3 out) ∧ Aside0 (WRow w' g 16 (waves l0)) ∧ Aside0 (Below w.heap.size w w'))
    case atStart => exact ⟨0, [], rfl, ⟨by omega⟩, ⟨rfl⟩, ⟨by simp [tab]⟩, ⟨Kd.R_nil _ _ _ _ _⟩, HW, HB⟩
    case round =>
      clear HW HB
      obtain ⟨i, out, rfl, Q, L, G, HO, HW, HB⟩ := hrel
      by_cases c0 : i < 16
      · obtain ⟨q, rfl⟩ : ∃ q, gk = q + 1 := ⟨gk - 1, by have := Q.out; omega⟩
        obtain ⟨ca1, ca2, fa1, fa2⟩ := HW.out.cell i (by omega)
        obtain ⟨D, hD⟩ : ∃ D, D = waves l0 i := ⟨_, rfl⟩
        rw [← hD] at ca1 ca2
        have i0 : (0 : Int) ≤ (i : Int) := by omega
        have i16 : (i : Int) < 16 := by omega
        have PW : Aside0 (Pw D) := ⟨by rw [hD]; exact pw_ok (SOK.out i (by omega))⟩
        have HD := Aside0.mk hD
        clear hD
        go_upto_region 5 with fail
        obtain ⟨w2, h2⟩ : ∃ w2, w2 = wr.alloc (.cells #[.float .f64 D.1, .float .f64 D.2] 34 (0, 0)) := ⟨_, rfl⟩
        rw [← h2]
        have HO2 : Aside0 (Kd.R (Kd.int .i64) 3 w2 w.heap.size (fun _ => True) u3 out) := ⟨by rw [h2]; exact Kd.R_alloc HO.out _⟩
        have HW2 : Aside0 (WRow w2 g 16 (waves l0)) := ⟨by rw [h2]; exact HW.out.alloc _⟩
        have HB2 : Aside0 (Below w.heap.size w w2) := ⟨by rw [h2]; exact below_alloc HB.out _⟩
        have kb : w2.heap[wr.heap.size]? = some (.cells #[.float .f64 D.1, .float .f64 D.2] 34 (0, 0)) := by rw [h2]; exact blk_new _ _
        obtain ⟨x0, x1⟩ := two_cells kb
        obtain ⟨n0, hn0⟩ : ∃ n0, n0 = wr.heap.size := ⟨_, rfl⟩
        rw [← hn0] at x0 x1 ⊢
        clear h2 kb hn0 HO HW HB ca1 ca2 fa1 fa2
        by_cases c8 : i < 8
        · obtain ⟨y, hy⟩ : ∃ y, y = powL l0 i := ⟨_, rfl⟩
          have fm1 := fop (op := .mul) PW.out.m1
          have fm2 := fop (op := .mul) PW.out.m2
          have fs := fop (op := .add) PW.out.s
          have fq : ∀ w : World, (binOp .quo 32 (.float .f64 (pw2 D)) (.float .f64 4643211215818981376)).run Tryd.prog w = .ok (.float .f64 (divT (pw2 D) w256)) w := fop (op := .quo) PW.out.q
          have fc := fcv PW.out.n
          have yD : y = pwV D := by rw [hy, HD.out]; rfl
          rw [← yD] at fc
          have G2 : Aside0 (out ++ [y] = tab (min (i + 1) 8) (powL l0)) := ⟨by rw [show min (i + 1) 8 = min i 8 + 1 by omega, tab_succ, ← G.out, hy, show min i 8 = i by omega]⟩
          have GN : Aside0 (some g ≠ u3.ownBlock) := ⟨by
            obtain ⟨cs, hcs, _⟩ := HW2.out
            exact Kd.R_ne HO2.out hcs (by decide)⟩
          clear hy yD
          go_wp2_with (at_builtin; refine Kd.R_append (Kd.int .i64) (w0 := w) w.heap.size rfl (.tmp 16) (.tmp 30) 22 3 (.int .i64 0) 8 rfl Tryd.underlying22 info3 rfl (by decide) (by omega) u3 (out) (y) [.int .i64 (y)] (fun _ => True) (fun _ => False) rfl rfl ?aP (fun _ hk => hk.elim) ?aF ?aO ?aB ?aS ?aL ?_; (case aP => exact rfl); (case aB => exact HB2.out); (case aF => exact fun _ _ => trivial); (case aO => exact HO2.out); (case aS => exact below_size (HB2.out)); (case aL => have := L.out; omega); intro v1 w3 ho hb hg hat; have HO3 := Aside0.mk ho; have HB3 := Aside0.mk hb; have HW3 := Aside0.mk (HW2.out.grown hg GN.out); clear ho hb hg hat HO2 HB2 HW2)
          go_roundg q
          case measure => omega
          case rel => exact ⟨i + 1, _, by go_num, ⟨by have := Q.out; omega⟩, ⟨by have := L.out; rw [List.length_append, List.length_singleton]; omega⟩, G2, HO3, HW3, HB3⟩
        · go_wp2
          go_roundg q
          case measure => omega
          case rel => exact ⟨i + 1, out, by go_num, ⟨by have := Q.out; omega⟩, ⟨by have := L.out; omega⟩, ⟨by rw [G.out, show min (i + 1) 8 = min i 8 by omega]⟩, HO2, HW2, HB2⟩
      · have E2 : Aside0 (out = tab 8 (powL l0)) := ⟨by rw [G.out, show min i 8 = 8 by omega]⟩
        go_wp2
        go_ret
        rw [E2.out] at HO
        rw [E.out]
        exact ⟨_, rfl, HO.out, HB.out⟩
  · have E : Aside0 (pwL l0 = []) := ⟨by unfold pwL; rw [if_neg hok]⟩
    have WS := Aside0.mk (waves_none A0 c0 l0 hl0 w hc0 hr0 hok)
    clear hok hr0 hT
    go_enter Tryd.func7, Tryd.ntmps7
    go_wp2_with fail
    refine WS.out.mono ?_
    rintro e wv ⟨rfl, hb⟩
    have HB := Aside0.mk hb
    clear hb WS
    go_wp2
    go_loopg [3, 9] 0 (fun q v3 v9 w' => v3 = .slice none 0 0 ∧ v9 = .int .i64 0 ∧ Aside0 (Below w.heap.size w w'))
    case atStart => exact ⟨rfl, rfl, HB⟩
    case round =>
      clear HB
      obtain ⟨rfl, rfl, HB⟩ := hrel
      go_wp2
      go_ret
      rw [E.out]
      exact ⟨_, rfl, Kd.R_nil _ _ _ _ _, HB.out⟩
theorem pwL_short (l : List Int) : (pwL l).length ≤ 1048576 := Nat.le_trans (pwL_length l) (by decide)
theorem pow_law_spec (A0 : Option Addr) (c0 : Nat) (l0 : List Int) (hl0 : l0.length ≤ 1048576) (hw0 : ∀ x ∈ l0, (Lit.int .i64 x).wf = true) (w : World) (hc0 : l0.length ≤ c0) (hr0 : Kd.C (Kd.int .i64) w A0 l0.length l0) :
    Calls Tryd.prog 5 #[.slice A0 l0.length c0] w fun e w' => ∃ v : Value, e = .returned v ∧ Kd.R (Kd.int .i64) 3 w' w.heap.size (fun _ => True) v (pwL l0) ∧ Below w.heap.size w w' := powers_spec A0 c0 l0 hl0 w hc0 hr0
theorem pow_law_impl (A0 : Option Addr) (c0 : Nat) (l0 : List Int) (hl0 : l0.length ≤ 1048576) (hw0 : ∀ x ∈ l0, (Lit.int .i64 x).wf = true) (w : World) (hc0 : l0.length ≤ c0) (hr0 : Kd.C (Kd.int .i64) w A0 l0.length l0) (hT : PT w) :
    Calls Tryd.prog 7 #[.slice A0 l0.length c0] w fun e w' => ∃ v : Value, e = .returned v ∧ Kd.R (Kd.int .i64) 3 w' w.heap.size (fun _ => True) v (pwL l0) ∧ Below w.heap.size w w' := pow_impl A0 c0 l0 hl0 w hc0 hr0 hT
end Go.Proofs.YtdijjadoneeadaaDoor.Wk
