/- Walks of this seat's own: what the program's Waves comes to. -/
import Derived.Test.YtdijjadoneeadaaDoorWkWvA
namespace Go.Proofs.YtdijjadoneeadaaDoor.Wk
open Go.RowKit Go.Proofs.YtdijjadoneeadaaDoorW.PrintWords Go.Proofs.YtdijjadoneeadaaDoorW.PrintLast Go.Proofs.YtdijjadoneeadaaDoorW.PrintMore Go.Proofs.YtdijjadoneeadaaDoor.My Go.Proofs.YtdijjadoneeadaaDoor.Wv
open Go.Proofs.YtdijjadoneeadaaDoor.PFnExactPowers
set_option linter.unusedVariables false
set_option linter.unusedSimpArgs false
attribute [local congr] bind_left ite_left
attribute [local go_sem] run_store_float
/-- The pairs lie in the memory of the program's variable. -/
def PT (w : World) : Prop := ∀ i, i < 8 → w.cell? ⟨0, i * 2, none⟩ = some (.float .f64 (tw i).1) ∧ w.cell? ⟨0, i * 2 + 1, none⟩ = some (.float .f64 (tw i).2)
theorem PT.stay {w w' : World} (h : PT w) (hb : Below w.heap.size w w') : PT w' := fun i hi => ⟨cell_stay hb (h i hi).1, cell_stay hb (h i hi).2⟩
theorem getD_rep (n i : Nat) : (List.replicate n ((0, 0) : Nat × Nat)).getD i (0, 0) = (0, 0) := by
  rw [List.getD, List.getElem?_replicate]
  split <;> rfl
theorem idx_impl (i : Nat) (hi : i < 16) : bits .or .i64 (bits .or .i64 (bits .or .i64 (wrap64 (bits .and .i64 (i : Int) 1 * 8)) (wrap64 (bits .and .i64 (i : Int) 2 * 2))) (bits .and .i64 (i : Int) 4 / 2)) (bits .and .i64 (i : Int) 8 / 8) = (rev i : Int) := by
  have : ∀ j : Fin 16, bits .or .i64 (bits .or .i64 (bits .or .i64 (wrap64 (bits .and .i64 (j.val : Int) 1 * 8)) (wrap64 (bits .and .i64 (j.val : Int) 2 * 2))) (bits .and .i64 (j.val : Int) 4 / 2)) (bits .and .i64 (j.val : Int) 8 / 8) = (rev j.val : Int) := by decide +kernel
  exact this ⟨i, hi⟩
set_option maxRecDepth 100000 in
set_option maxHeartbeats 40000000 in
theorem waves_impl (A0 : Option Addr) (c0 : Nat) (l0 : List Int) (hl0 : l0.length ≤ 1048576) (w : World) (hc0 : l0.length ≤ c0) (hr0 : Kd.C (Kd.int .i64) w A0 l0.length l0) (hT : PT w) (hok : okL l0) :
    Calls Tryd.prog 13 #[.slice A0 l0.length c0] w fun e w' => ∃ g c, e = .returned (.slice (some ⟨g, 0, none⟩) 16 c) ∧ w.heap.size ≤ g ∧ WRow w' g 16 (waves l0) ∧ Below w.heap.size w w' := by
  have HR := Aside0.mk hr0
  have HT := Aside0.mk hT
  have OK := Aside0.mk hok
  have ZS := Aside0.mk (impl_zsamples.calls (l0.length + 1) A0 c0 l0 16 _ w HR.out hc0 (zsamples_eq _ l0 hl0 (by omega)))
  clear hr0 hT hok
  go_enter Tryd.func13, Tryd.ntmps13
  go_wp2_with fail
  refine ZS.out.mono ?_
  rw [(okL_iff l0).2 OK.out]
  rintro e w1 ⟨rfl, ⟨nd, rfl⟩⟩
  go_wp2_with ((with_reducible refine gate_dst (N := 16) rfl ?_); refine Kd.R_make Kw (w0 := w) w.heap.size 34 rfl (N := 16) rfl 30 _ _ rfl (16 : Int) rfl rfl Tryd.underlying30 (.agg #[.float .f64 0, .float .f64 0]) 16 info34 rfl (by decide) (by omega) (0, 0) (ok := fun _ => True) (okp := fun _ => True) ⟨_, _, rfl, rfl, rfl⟩ (fun _ hk => hk) trivial (by omega) (by decide) ?mB ?mS ?_; (case mB => exact pw_below_drewN (Below.refl _ _) _); (case mS => exact Nat.le_refl _); intro v1 w1 ho hb hg hn; obtain ⟨g, c, rfl, hge, hrow⟩ := WRow.of_R (n := 16) ho (by simp) (by omega); have HO : Aside0 (WRow w1 g 16 (fun _ => (0, 0))) := ⟨hrow.congr (fun i hi => getD_rep 16 i)⟩; have HB := Aside0.mk hb; have GE := Aside0.mk hge; clear ho hb hg hn hge hrow)

  go_loopg [19] 16 (fun q v19 w' => ∃ (i : Nat) (X : Nat → Nat × Nat), v19 = .int .i64 (i : Int) ∧ Aside0 (i + q = 16) ∧ Aside0 (∀ k, k < 16 → X k = if k < i then X0 l0 k else (0, 0)) ∧ Aside0 (WRow w' g 16 X) ∧ Aside0 (Below w.heap.size w w'))
  case atStart => exact ⟨0, _, rfl, ⟨by omega⟩, ⟨fun k _ => by rw [if_neg (by omega)]⟩, HO, HB⟩
  case round =>
    clear HO HB
    obtain ⟨i, X, rfl, Q, HX, HO, HB⟩ := hrel
    by_cases c0 : i < 16
    · obtain ⟨q, rfl⟩ : ∃ q, gk = q + 1 := ⟨gk - 1, by have := Q.out; omega⟩
      have hri := rev_lt i
      have idx := idx_impl i c0
      have okl : l0.length = 16 := OK.out.2
      have p1 : 0 ≤ (bits .or .i64 (bits .or .i64 (bits .or .i64 (wrap64 (bits .and .i64 (i : Int) 1 * 8)) (wrap64 (bits .and .i64 (i : Int) 2 * 2))) (bits .and .i64 (i : Int) 4 / 2)) (bits .and .i64 (i : Int) 8 / 8)) := by rw [idx]; omega
      have p2 : (bits .or .i64 (bits .or .i64 (bits .or .i64 (wrap64 (bits .and .i64 (i : Int) 1 * 8)) (wrap64 (bits .and .i64 (i : Int) 2 * 2))) (bits .and .i64 (i : Int) 4 / 2)) (bits .and .i64 (i : Int) 8 / 8)) < (l0.length : Int) := by rw [idx]; omega
      obtain ⟨ad, e1, hx⟩ := Kd.at_int (Kd.C_below HR.out HB.out) (bits .or .i64 (bits .or .i64 (bits .or .i64 (wrap64 (bits .and .i64 (i : Int) 1 * 8)) (wrap64 (bits .and .i64 (i : Int) 2 * 2))) (bits .and .i64 (i : Int) 4 / 2)) (bits .and .i64 (i : Int) 8 / 8)) p1 p2
      obtain ⟨y, hy⟩ : ∃ y, y = rd l0 (bits .or .i64 (bits .or .i64 (bits .or .i64 (wrap64 (bits .and .i64 (i : Int) 1 * 8)) (wrap64 (bits .and .i64 (i : Int) 2 * 2))) (bits .and .i64 (i : Int) 4 / 2)) (bits .and .i64 (i : Int) 8 / 8)) := ⟨_, rfl⟩
      rw [← hy] at hx
      subst e1
      have EV : Aside0 ((floatOfInt .f64 y, 0) = X0 l0 i) := ⟨by rw [hy, idx, rd_nat]; rfl⟩
      obtain ⟨hw1, hw2, hw3, hw4⟩ := HO.out.cell i c0
      have HP := Aside0.mk (HO.out.put1 i c0 (floatOfInt .f64 y))
      clear hy okl idx hri
      go_wp2
      go_roundg q
      case measure => omega
      case rel =>
        exact ⟨i + 1, _, by go_num, ⟨by have := Q.out; omega⟩, ⟨fun k hk => by
          have h1 := HX.out k hk
          unfold upd
          by_cases e : k = i
          · rw [if_pos e, if_pos (by omega), e, ← EV.out, HX.out i c0, if_neg (by omega)]
          · rw [if_neg e, h1]
            by_cases e2 : k < i
            · rw [if_pos e2, if_pos (by omega)]
            · rw [if_neg e2, if_neg (by omega)]⟩, HP, ⟨below_set HB.out GE.out⟩⟩
    · have HS : Aside0 (WRow wr g 16 (st l0 0)) := ⟨HO.out.congr (fun k hk => by rw [HX.out k hk, if_pos (by omega)]; rfl)⟩
      have SOK := Aside0.mk (st_ok (okL_abs OK.out))
      clear HO HX
      go_wp2
      go_loopg [5] 4 (fun q v5 w' => ∃ t h : Nat, v5 = .int .i64 (h : Int) ∧ Aside0 (t + q = 4) ∧ Aside0 (h = 2 ^ t) ∧ Aside0 (WRow w' g 16 (st l0 t)) ∧ Aside0 (Below w.heap.size w w'))
      case atStart => exact ⟨0, 1, rfl, ⟨by omega⟩, ⟨rfl⟩, HS, HB⟩
      case round =>
        clear HS HB
        obtain ⟨t, h, rfl, Q2, HP2, HS, HB⟩ := hrel
        have t4 : t ≤ 4 := by have := Q2.out; omega
        by_cases c1 : h < 16
        · have ht : t < 4 := by
            have := HP2.out
            have : t = 0 ∨ t = 1 ∨ t = 2 ∨ t = 3 ∨ t = 4 := by omega
            rcases this with rfl | rfl | rfl | rfl | rfl <;> omega
          have hh4 : H4 h := by rw [HP2.out]; exact h4_pow ht
          have HH := Aside0.mk hh4
          have h1 : 1 ≤ h := by rcases hh4 with rfl | rfl | rfl | rfl <;> omega
          have h8 : h ≤ 8 := by rcases hh4 with rfl | rfl | rfl | rfl <;> omega
          have BX := Aside0.mk (SOK.out t (by omega))
          obtain ⟨X, hX⟩ : ∃ X, X = st l0 t := ⟨_, rfl⟩
          rw [← hX] at HS BX
          have HXX := Aside0.mk hX
          have HM : Aside0 (WRow wr g 16 (mid h 0 0 X)) := ⟨HS.out.congr (fun k hk => (mid_start X k).symm)⟩
          clear hX hh4 HS SOK
          obtain ⟨q2, rfl⟩ : ∃ q, gk = q + 1 := ⟨gk - 1, by have := Q2.out; omega⟩
          have d1 : decide ((h : Int) < 16) = true := decide_eq_true (by omega)
          go_wp2
          go_loopg [6] 16 (fun q v6 w' => ∃ p : Nat, v6 = .int .i64 (p : Int) ∧ Aside0 (p + q = 16) ∧ Aside0 (p % (2 * h) = 0) ∧ Aside0 (WRow w' g 16 (mid h p 0 X)) ∧ Aside0 (Below w.heap.size w w'))
          case atStart => exact ⟨0, rfl, ⟨by omega⟩, ⟨Nat.zero_mod _⟩, HM, HB⟩
          case round =>
            clear HM HB
            obtain ⟨p, rfl, Q3, PM, HM, HB⟩ := hrel
            have p16 : p ≤ 16 := by have := Q3.out; omega
            by_cases c2 : p < 16
            · have ph : p + 2 * h ≤ 16 := by
                have := PM.out
                rcases HH.out with rfl | rfl | rfl | rfl <;> omega
              have d2 : decide ((p : Int) < 16) = true := decide_eq_true (by omega)
              go_wp2
              go_loopg [57] h (fun q v57 w' => ∃ j : Nat, v57 = .int .i64 (j : Int) ∧ Aside0 (j + q = h) ∧ Aside0 (WRow w' g 16 (mid h p j X)) ∧ Aside0 (Below w.heap.size w w'))
              case atStart => exact ⟨0, rfl, ⟨by omega⟩, HM, HB⟩
              case round =>
                clear HM HB
                obtain ⟨j, rfl, Q4, HM, HB⟩ := hrel
                have jh : j ≤ h := by have := Q4.out; omega
                by_cases c3 : j < h
                · obtain ⟨q, rfl⟩ : ∃ q, gk = q + 1 := ⟨gk - 1, by have := Q4.out; omega⟩
                  have b0 : (0 : Int) ≤ (p : Int) + (j : Int) := by omega
                  have b1 : (p : Int) + (j : Int) < 16 := by omega
                  have b2 : (0 : Int) ≤ (p : Int) + (j : Int) + (h : Int) := by omega
                  have b3 : (p : Int) + (j : Int) + (h : Int) < 16 := by omega
                  have b4 : (h : Int) ≠ 0 := by omega
                  have q8 : ((j : Int) * 8).tdiv (h : Int) = ((j * 8 / h : Nat) : Int) := by
                    rw [show (j : Int) * 8 = ((j * 8 : Nat) : Int) from by omega]
                    exact (Int.ofNat_tdiv _ _).symm
                  have m8 : j * 8 / h < 8 := by
                    rcases HH.out with rfl | rfl | rfl | rfl <;> omega
                  have b5 : (0 : Int) ≤ ((j : Int) * 8).tdiv (h : Int) := by rw [q8]; exact Int.natCast_nonneg _
                  have b6 : ((j : Int) * 8).tdiv (h : Int) < 8 := by rw [q8]; exact Int.ofNat_lt.2 m8
                  have ma := mid_a HH.out PM.out c3 X
                  have mb := mid_b HH.out PM.out c3 X
                  have BF := Aside0.mk (bf_ok (BX.out (p + j) (by omega)) (BX.out (p + j + h) (by omega)) (tw_small (j * 8 / h)) (by omega)).1
                  have MS := Aside0.mk (mid_step HH.out PM.out c3 X)
                  obtain ⟨A, hA⟩ : ∃ A, A = X (p + j) := ⟨_, rfl⟩
                  obtain ⟨B, hBB⟩ : ∃ B, B = X (p + j + h) := ⟨_, rfl⟩
                  obtain ⟨T, hT⟩ : ∃ T, T = tw (j * 8 / h) := ⟨_, rfl⟩
                  obtain ⟨ca1, ca2, fa1, fa2⟩ := HM.out.cell (p + j) (by omega)
                  obtain ⟨cb1, cb2, fb1, fb2⟩ := HM.out.cell (p + j + h) (by omega)
                  obtain ⟨ct1, ct2⟩ := (HT.out.stay HB.out) (j * 8 / h) m8
                  rw [ma, ← hA] at ca1 ca2
                  rw [mb, ← hBB] at cb1 cb2
                  rw [← hT] at ct1 ct2
                  rw [← hA, ← hBB, ← hT] at BF MS
                  have gl := HM.out.lt
                  have zl : 0 < wr.heap.size := by omega
                  have gl1 : g < wr.heap.size + 1 := by omega
                  have gl2 : g < wr.heap.size + 1 + 1 := by omega
                  have gl3 : g < wr.heap.size + 2 := by omega
                  have gn1 : g ≠ wr.heap.size := by omega
                  have gn2 : g ≠ wr.heap.size + 1 := by omega
                  have gn3 : g ≠ wr.heap.size + 2 := by omega
                  obtain ⟨A1, A2⟩ := A
                  obtain ⟨B1, B2⟩ := B
                  obtain ⟨T1, T2⟩ := T
                  simp only [] at ca1 ca2 cb1 cb2 ct1 ct2
                  clear hA hBB hT ma mb q8
                  go_wp2
                  go_region
                  all_goals as_aux_lemma => (
                    generalize hW : World.drew (World.alloc (World.alloc (World.alloc wr _) _) _) = w2
                    obtain ⟨k0, k1, k2, kb⟩ := new3 hW
                    have HM2 := Aside0.mk (HM.out.below kb)
                    have HB2 := Aside0.mk (below_step HB.out kb)
                    obtain ⟨x0, x1⟩ := two_cells k0
                    obtain ⟨x2, x3⟩ := two_cells k1
                    obtain ⟨x4, x5⟩ := two_cells k2
                    have k0' := Aside0.mk k0
                    have k1' := Aside0.mk k1
                    have k2' := Aside0.mk k2
                    obtain ⟨n0, hn0⟩ : ∃ n0, n0 = wr.heap.size := ⟨_, rfl⟩
                    rw [← hn0] at x0 x1 x2 x3 x4 x5 k0' k1' k2' gl gl1 gl2 gl3 gn1 gn2 gn3 ⊢
                    have fm1 := fop (op := .mul) BF.out.m1
                    have fm2 := fop (op := .mul) BF.out.m2
                    have fm3 := fop (op := .mul) BF.out.m3
                    have fm4 := fop (op := .mul) BF.out.m4
                    have fre := fop (op := .sub) BF.out.re
                    have fim := fop (op := .add) BF.out.im
                    have fu1 := fop (op := .add) BF.out.u1
                    have fu2 := fop (op := .add) BF.out.u2
                    have fl1 := fop (op := .sub) BF.out.l1
                    have fl2 := fop (op := .sub) BF.out.l2
                    have N1 := Aside0.mk (Ne.symm gn1)
                    have N2 := Aside0.mk (Ne.symm gn2)
                    have N3 := Aside0.mk (Ne.symm gn3)
                    clear hW k0 k1 k2 kb hn0 HM HB ca1 ca2 fa1 fa2 cb1 cb2 fb1 fb2 ct1 ct2 zl gl gl1 gl2 gl3 gn1 gn2 gn3 b4 b5 b6 m8
                    obtain ⟨ca1, ca2, fa1, fa2⟩ := HM2.out.cell (p + j) (by omega)
                    go_upto_region 22 with fail
                    obtain ⟨w3, h3⟩ : ∃ w3, w3 = (w2.setCell ⟨g, (p + j) * 2, none⟩ (.float .f64 (upT (A1, A2) (B1, B2) (T1, T2)).1)).setCell ⟨g, (p + j) * 2 + 1, none⟩ (.float .f64 (upT (A1, A2) (B1, B2) (T1, T2)).2) := ⟨_, rfl⟩
                    rw [← h3]
                    have HM3 := Aside0.mk (HM2.out.put (p + j) (by omega) (upT (A1, A2) (B1, B2) (T1, T2)).1 (upT (A1, A2) (B1, B2) (T1, T2)).2)
                    have j0 := two_cells (blk_far (blk_far k0'.out (p := ⟨g, (p + j) * 2, none⟩) N1.out (.float .f64 (upT (A1, A2) (B1, B2) (T1, T2)).1)) (p := ⟨g, (p + j) * 2 + 1, none⟩) N1.out (.float .f64 (upT (A1, A2) (B1, B2) (T1, T2)).2))
                    have j1 := two_cells (blk_far (blk_far k1'.out (p := ⟨g, (p + j) * 2, none⟩) N2.out (.float .f64 (upT (A1, A2) (B1, B2) (T1, T2)).1)) (p := ⟨g, (p + j) * 2 + 1, none⟩) N2.out (.float .f64 (upT (A1, A2) (B1, B2) (T1, T2)).2))
                    have j2 := two_cells (blk_far (blk_far k2'.out (p := ⟨g, (p + j) * 2, none⟩) N3.out (.float .f64 (upT (A1, A2) (B1, B2) (T1, T2)).1)) (p := ⟨g, (p + j) * 2 + 1, none⟩) N3.out (.float .f64 (upT (A1, A2) (B1, B2) (T1, T2)).2))
                    rw [← h3] at HM3 j0 j1 j2
                    have HB3' : Aside0 (Below w.heap.size w w3) := ⟨by rw [h3]; exact below_set (below_set HB2.out GE.out) GE.out⟩
                    clear h3 x0 x1 x2 x3 x4 x5 ca1 ca2 fa1 fa2 HM2 HB2 k0' k1' k2'
                    obtain ⟨x0, x1⟩ := j0
                    obtain ⟨x2, x3⟩ := j1
                    obtain ⟨x4, x5⟩ := j2
                    obtain ⟨cb1, cb2, fb1, fb2⟩ := HM3.out.cell (p + j + h) (by omega)
                    have HM4 := Aside0.mk ((HM3.out.put (p + j + h) (by omega) (loT (A1, A2) (B1, B2) (T1, T2)).1 (loT (A1, A2) (B1, B2) (T1, T2)).2).congr (fun k hk => MS.out k))
                    go_wp2
                    go_roundg q
                    case measure => omega
                    case rel => exact ⟨j + 1, by go_num, ⟨by have := Q4.out; omega⟩, HM4, ⟨below_set (below_set HB3'.out GE.out) GE.out⟩⟩)
                · have PM2 : Aside0 ((p + 2 * h) % (2 * h) = 0) := ⟨by rw [Nat.add_mod_right]; exact PM.out⟩
                  have HM2 : Aside0 (WRow wr g 16 (mid h (p + 2 * h) 0 X)) := ⟨HM.out.congr (fun k hk => by rw [show j = h by omega]; exact mid_next HH.out PM.out X k)⟩
                  clear HM
                  go_wp2
                  go_roundg (16 - (p + 2 * h))
                  case measure => have := Q3.out; omega
                  case rel => exact ⟨p + 2 * h, by go_num, ⟨by omega⟩, PM2, HM2, HB⟩
            · have pe : p = 16 := by omega
              have HS2 : Aside0 (WRow wr g 16 (st l0 (t + 1))) := ⟨HM.out.congr (fun k hk => by rw [pe, mid_end X k hk, HXX.out, HP2.out]; rfl)⟩
              have HP3 : Aside0 (h * 2 = 2 ^ (t + 1)) := ⟨by rw [HP2.out, Nat.pow_succ]⟩
              clear HM pe
              go_wp2
              go_roundg q2
              case measure => omega
              case rel => exact ⟨t + 1, h * 2, by go_num, ⟨by have := Q2.out; omega⟩, HP3, HS2, HB⟩
        · have t4' : t = 4 := by
            have := HP2.out
            have : t = 0 ∨ t = 1 ∨ t = 2 ∨ t = 3 ∨ t = 4 := by omega
            rcases this with rfl | rfl | rfl | rfl | rfl <;> omega
          have HS2 : Aside0 (WRow wr g 16 (waves l0)) := ⟨by have := HS.out; rw [t4'] at this; exact this⟩
          clear HS t4'
          go_wp2
          go_ret
          exact ⟨g, c, rfl, GE.out, HS2.out, HB.out⟩
end Go.Proofs.YtdijjadoneeadaaDoor.Wk
