/- Walks of this seat's own: sixteen drawn samples; brought within bounds. -/
import Derived.Test.YtdijjadoneeadaaDoorWkDraw
namespace Go.Proofs.YtdijjadoneeadaaDoor.Wk
open Go.RowKit Go.Proofs.YtdijjadoneeadaaDoorW.PrintWords Go.Proofs.YtdijjadoneeadaaDoorW.PrintLast Go.Proofs.YtdijjadoneeadaaDoorW.PrintMore Go.Proofs.YtdijjadoneeadaaDoor.My
set_option linter.unusedVariables false
set_option linter.unusedSimpArgs false
theorem two_cells' {w : World} {g : Nat} {u v : Value} {t : TypeId} (h : w.heap[g]? = some (.cells #[u, v] t (0, 0))) : w.cell? ⟨g, 0, none⟩ = some u ∧ w.cell? ⟨g, 1, none⟩ = some v :=
  ⟨(blk_cell h 0).trans rfl, (blk_cell h 1).trans rfl⟩
theorem set_wf {x : List Int} {z : Int} (h : ∀ y ∈ x, (Lit.int .i64 y).wf = true) (i : Nat) (hz : (Lit.int .i64 z).wf = true) : ∀ y ∈ x.set i z, (Lit.int .i64 y).wf = true := by
  intro y hy
  rcases List.mem_or_eq_of_mem_set hy with hy | rfl
  · exact h y hy
  · exact hz
set_option maxRecDepth 100000 in
set_option maxHeartbeats 40000000 in
theorem sixteen_calls (w0 w : World) (gc : Nat) (l : List Int) (hby : ∀ x ∈ l, (Lit.int .u8 x).wf = true) (A0 : Option Addr) (c0 : Nat) (h : Cur w0 w gc l 0) :
    Calls Tryd.prog 16 #[.slice A0 l.length c0, .pointer (some ⟨gc, 0, none⟩)] w fun e w' => ∃ (A : Option Addr) (c : Nat) (x : List Int), e = .returned (.slice A x.length c) ∧ x.length ≤ 16 ∧ x.length ≤ c ∧ (∀ y ∈ x, (Lit.int .i64 y).wf = true) ∧ Kd.C (Kd.int .i64) w' A x.length x ∧ Below w0.heap.size w0 w' := by
  have GL := Aside0.mk h.lt
  have HBY := Aside0.mk hby
  have TC := Aside0.mk (tone_calls w0 w gc l 0 (by omega) hby h)
  clear h hby
  go_enter Tryd.func16, Tryd.ntmps16
  go_wp2_with fail
  refine TC.out.mono ?_
  rintro e w1 ⟨A, c, x, rfl, xl, xw, ho, hc1⟩
  have XL := Aside0.mk xl
  have XW := Aside0.mk xw
  have HO := Aside0.mk ho
  have HC := Aside0.mk hc1
  clear xl xw ho hc1 TC
  go_wp2_with fail
  refine (cur_pick w0 _ gc l (0 + 57) 14 (by omega) (by omega) (by omega) HBY.out (by first | exact HC.out | exact HC.out.drewN _)).mono ?_
  rintro e w2 ⟨kd, rfl, kd0, kd1, hc2, hk2⟩
  have HO2 := Aside0.mk (R_keeps HO.out hk2 GL.out)
  have HC2 := Aside0.mk hc2
  clear HO HC hc2 hk2
  have kdc : kd = 0 ∨ kd = 1 ∨ (kd ≠ 0 ∧ kd ≠ 1) := by omega
  rcases kdc with rfl | rfl | ⟨n0, n1⟩
  · obtain ⟨inf, hi, hz⟩ := Option.map_eq_some_iff.1 info3
    simp only [Prod.mk.injEq] at hz
    have hrc := R_cells HO2.out
    have XL1 := XL.out
    obtain ⟨A', hrun, hread, hlen⟩ := print_drop_of (P := Tryd.prog) (Value.int .i64) (0 : Int) 22 3 .i64 Tryd.underlying22 hi hz.2.1 A c x 1 (by omega) (by omega) (by omega)
    have RD := Aside0.mk (Kd.C_of_reads (h1 := fun _ => rfl) (hread w2 (Kd.reads_of_C (enc := Value.int .i64) (d := (0 : Int)) (h1 := fun _ => rfl) hrc.2.2)))
    have LE := Aside0.mk hlen
    rw [XL1] at hrun
    clear hrc hread hlen hz hi XL1
    go_wp2
    go_ret
    exact ⟨A', c - 1, x.drop 1, by simp, by have := XL.out; rw [List.length_drop]; omega, LE.out, fun y hy => XW.out y (List.mem_of_mem_drop hy), RD.out, HC2.out.2.1⟩
  · go_wp2_with fail
    refine (cur_pick w0 _ gc l (0 + 57 + 3) 16 (by omega) (by omega) (by omega) HBY.out (by first | exact HC2.out | exact HC2.out.drewN _)).mono ?_
    rintro e w3 ⟨p, rfl, p0, p1, hc3, hk3⟩
    have HO3 := Aside0.mk (R_keeps HO2.out hk3 GL.out)
    have HC3 := Aside0.mk hc3
    clear HO2 HC2 hc3 hk3
    go_wp2_with fail
    refine (cur_pick w0 _ gc l (0 + 57 + 3 + 3) 2 (by omega) (by omega) (by omega) HBY.out (HC3.out.move (below_alloc HC3.out.2.1 _) (Below.heap_alloc _ _ gc HC3.out.lt))).mono ?_
    rintro e w4 ⟨b, rfl, b0, b1, hc4, hk4⟩
    have HO4 := Aside0.mk (R_keeps (Kd.R_alloc HO3.out _) hk4 GL.out)
    have k0 := two_cells' (blk_new w3 (.cells #[.int .i64 32768, .int .i64 (-32769)] 3 (0, 0)))
    have LT := Aside0.mk HC3.out.lt
    have y0 := hk4.cell (a := ⟨w3.heap.size, 0, none⟩) (Nat.ne_of_gt LT.out) k0.1
    have y1 := hk4.cell (a := ⟨w3.heap.size, 1, none⟩) (Nat.ne_of_gt LT.out) k0.2
    have HC4 := Aside0.mk hc4
    obtain ⟨gb, cap, e2, gbb, gl, cl, hg⟩ := Kd.R_form HO4.out (by have := XL.out; omega)
    rw [XL.out] at e2
    cases e2
    obtain ⟨hx, hfz⟩ := Kd.R_celln 0 HO4.out p (by omega) (by omega)
    have GB : Aside0 (w0.heap.size ≤ gb) := ⟨by have := GL.out; have := HC4.out.1; omega⟩
    have CAP := Aside0.mk (R_cells HO4.out).2.1
    clear HO3 HC3 hc4 hk4 k0 gbb gl cl hg
    have bc : b = 0 ∨ b = 1 := by omega
    rcases bc with rfl | rfl
    · go_wp2
      go_ret
      exact ⟨_, _, x.set p.toNat 32768, by rw [List.length_set, XL.out]; rfl, by rw [List.length_set, XL.out]; omega, by rw [List.length_set, XL.out]; exact CAP.out, set_wf XW.out _ (by decide), (R_cells (Kd.R_putn HO4.out p 32768)).2.2, below_set HC4.out.2.1 GB.out⟩
    · go_wp2
      go_ret
      exact ⟨_, _, x.set p.toNat (-32769), by rw [List.length_set, XL.out]; rfl, by rw [List.length_set, XL.out]; omega, by rw [List.length_set, XL.out]; exact CAP.out, set_wf XW.out _ (by decide), (R_cells (Kd.R_putn HO4.out p (-32769))).2.2, below_set HC4.out.2.1 GB.out⟩
  · have t0 : (kd == 0) = false := by simpa using n0
    have t1 : (kd == 1) = false := by simpa using n1
    have t2 : decide (kd = 0) = false := decide_eq_false n0
    have t3 : decide (kd = 1) = false := decide_eq_false n1
    clear n0 n1
    go_wp2
    go_ret
    exact ⟨A, c, x, by rw [XL.out]; rfl, by have := XL.out; omega, by have := (R_cells HO2.out).2.1; have := XL.out; omega, XW.out, (R_cells HO2.out).2.2, HC2.out.2.1⟩
theorem draw_calls (w : World) (A : Option Addr) (c : Nat) (l : List Int) (hc : l.length ≤ c) (hr : Kd.C (Kd.int .u8) w A l.length l) (hby : ∀ x ∈ l, (Lit.int .u8 x).wf = true) :
    Calls Tryd.prog 12 #[.slice A l.length c] w fun e w' => ∃ (A' : Option Addr) (c' : Nat) (x : List Int), e = .returned (.slice A' x.length c') ∧ x.length ≤ 16 ∧ x.length ≤ c' ∧ (∀ y ∈ x, (Lit.int .i64 y).wf = true) ∧ Kd.C (Kd.int .i64) w' A' x.length x ∧ Below w.heap.size w w' := by
  have HR := Aside0.mk hr
  have HBY := Aside0.mk hby
  clear hr hby
  go_enter Tryd.func12, Tryd.ntmps12
  go_wp2_with fail
  refine (sixteen_calls w _ w.heap.size l HBY.out A c ?_).mono ?_
  · exact ⟨Nat.le_refl _, below_alloc (Below.refl _ _) _, A, c, 0, 0, blk_new _ _, hc, HR.out, by omega, by omega⟩
  rintro e w1 ⟨A', c', x, rfl, x16, xc, xw, hr1, hb1⟩
  have H1 := Aside0.mk hr1
  have H2 := Aside0.mk hb1
  have H3 := Aside0.mk xw
  clear hr1 hb1 xw
  go_wp2
  go_ret
  exact ⟨A', c', x, rfl, x16, xc, H3.out, H1.out, H2.out⟩
/-- Each number's rest by 16384. -/
def smL (x : List Int) : List Int := x.map fun n => n.tmod 16384
theorem smL_length (x : List Int) : (smL x).length = x.length := by simp [smL]
theorem smL_b (x : List Int) (i : Nat) : -16383 ≤ (smL x).getD i 0 ∧ (smL x).getD i 0 ≤ 16383 := by
  unfold smL
  rw [List.getD, List.getElem?_map]
  rcases x[i]? with _ | n
  · exact ⟨by decide, by decide⟩
  · show -16383 ≤ n.tmod 16384 ∧ n.tmod 16384 ≤ 16383
    have h1 := Int.natAbs_tmod n 16384
    have h2 := Nat.mod_lt n.natAbs (show 0 < (16384 : Int).natAbs by decide)
    omega
theorem smL_take (x : List Int) (i : Nat) (h : i < x.length) : smL (x.take (i + 1)) = smL (x.take i) ++ [(x.getD i 0).tmod 16384] := by
  unfold smL
  rw [List.take_succ_eq_append_getElem h, List.map_append, getD_lt h]
  rfl
set_option maxHeartbeats 4000000 in
theorem small_calls (A : Option Addr) (c : Nat) (x : List Int) (hl : x.length ≤ 16) (w : World) (hc : x.length ≤ c) (hr : Kd.C (Kd.int .i64) w A x.length x) :
    Calls Tryd.prog 11 #[.slice A x.length c, .int .i64 16383] w fun e w' => ∃ v : Value, e = .returned v ∧ Kd.R (Kd.int .i64) 3 w' w.heap.size (fun _ => True) v (smL x) ∧ Below w.heap.size w w' := by
  have HR := Aside0.mk hr
  have HB := Aside0.mk (Below.refl w.heap.size w)
  clear hr
  obtain ⟨n, hn⟩ : ∃ n, n = x.length := ⟨_, rfl⟩
  have HN := Aside0.mk hn
  rw [← hn] at HR hl hc ⊢
  clear hn
  go_enter Tryd.func11, Tryd.ntmps11
  go_wp2
  go_loopg [5, 10] n (fun q v5 v10 w' => ∃ (i : Nat) (out : List Int), v10 = .int .i64 (i : Int) ∧ Aside0 (i + q = n) ∧ Aside0 (out.length = i) ∧ Aside0 (out = smL (x.take i)) ∧ Aside0 (Kd.R (Kd.int .i64) 3 w' w.heap.size (fun _ => True) v5 out) ∧ Aside0 (Below w.heap.size w w'))
  case atStart => exact ⟨0, [], rfl, ⟨by omega⟩, ⟨rfl⟩, ⟨by simp [smL]⟩, ⟨Kd.R_nil _ _ _ _ _⟩, HB⟩
  case round =>
    clear HB
    obtain ⟨i, out, rfl, Q, L, G, HO, HB⟩ := hrel
    by_cases c0 : i < n
    · obtain ⟨q, rfl⟩ : ∃ q, gk = q + 1 := ⟨gk - 1, by have := Q.out; omega⟩
      obtain ⟨ad, e1, hx⟩ := Kd.at_int (Kd.C_below HR.out HB.out) (i : Int) (by omega) (by omega)
      rw [rd_nat, Int.toNat_natCast] at hx
      obtain ⟨y, hy⟩ : ∃ y, y = x.getD i 0 := ⟨_, rfl⟩
      rw [← hy] at hx
      subst e1
      have G2 : Aside0 (out ++ [y.tmod 16384] = smL (x.take (i + 1))) := ⟨by rw [smL_take x i (by have := HN.out; omega), ← G.out, hy]⟩
      have i0 : (0 : Int) ≤ (i : Int) := by omega
      have i1 : (i : Int) < (n : Int) := by omega
      clear hy
      go_wp2_with (at_builtin; refine Kd.R_append (Kd.int .i64) (w0 := w) w.heap.size rfl (.tmp 14) (.tmp 19) 22 3 (.int .i64 0) 8 rfl Tryd.underlying22 info3 rfl (by decide) (by omega) u5 (out) (y.tmod 16384) [.int .i64 (y.tmod 16384)] (fun _ => True) (fun _ => False) rfl rfl ?aP1 (fun _ hk => hk.elim) ?aF1 ?aO1 ?aB1 ?aS1 ?aL1 ?_; (case aP1 => exact rfl); (case aB1 => exact HB.out); (case aF1 => exact fun _ _ => trivial); (case aO1 => exact HO.out); (case aS1 => exact below_size (HB.out)); (case aL1 => have := L.out; have := Q.out; omega); intro v1 w1 ho hb hg hat; have HO2 := Aside0.mk ho; have HB2 := Aside0.mk hb; clear ho hb hg hat HO HB)
      go_roundg q
      case measure => omega
      case rel => exact ⟨i + 1, out ++ [_], by go_num, ⟨by have := Q.out; omega⟩, ⟨by have := L.out; simp; omega⟩, G2, HO2, HB2⟩
    · have E2 : Aside0 (out = smL x) := ⟨by rw [G.out, List.take_of_length_le (by have := HN.out; omega)]⟩
      go_wp2
      go_ret
      rw [E2.out] at HO
      exact ⟨_, rfl, HO.out, HB.out⟩
end Go.Proofs.YtdijjadoneeadaaDoor.Wk
