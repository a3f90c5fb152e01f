/- Walks of this seat's own: what the two SmallInverse come to. -/
import Derived.Test.YtflgalojbebfmaaWkInv
import Derived.Test.YtflgalojbebfmaaPFnExactSmallInversex3
namespace Go.Proofs.Ytflgalojbebfmaa.Wk
open Go.RowKit Go.Proofs.YtflgalojbebfmaaW.PrintWords Go.Proofs.YtflgalojbebfmaaW.PrintLast Go.Proofs.YtflgalojbebfmaaW.PrintMore Go.Proofs.Ytflgalojbebfmaa.My
open Go.Proofs.Ytflgalojbebfmaa.PFnExactSmallInverse
set_option linter.unusedVariables false
set_option linter.unusedSimpArgs false
theorem zrange_eq (k : Nat) (l : List Int) (lo hi most : Int) (hl : l.length ≤ 1048576) (hk : l.length < k) : impl_zrange.f k l lo hi most = some (decide ((l.length : Int) ≤ most) && inB lo hi l) := by
  unfold impl_zrange.f
  by_cases h : (l.length : Int) > most
  · rw [if_pos h, decide_eq_false (by omega), Bool.false_and]
  rw [if_neg h, decide_eq_true (by omega), Bool.true_and, ← Bool.and_true (inB lo hi l)]
  refine range_loop (F := fun k i => impl_zrange.l0 k lo hi l (l.length : Int) i) (c := 0) (fun k i hi => ?_) (fun k => ?_) k (by omega)
  · simp only [impl_zrange.l0, rd_nat]
    rw [wrap64_nat (by omega)]
    simp (disch := omega) only [if_pos, if_neg, decide_eq_true, decide_eq_false, if_true, Bool.false_eq_true, if_false, wrap64_id, u64_id, Option.bind_some]
  · simp only [impl_zrange.l0]
    rw [if_neg (by omega)]
theorem zcopy_eq (l : List Int) (hl : l.length ≤ 1048576) : impl_zcopy.f l = some l := by
  unfold impl_zcopy.f
  rw [Option.bind_some, if_pos (by simp; omega)]
  rfl
def TR (l : List Int) : Nat → List Int
  | 0 => l
  | m + 1 => turn (TR l m) (4 * m) (4 * m + 1) (4 * m + 2 * 1) (4 * m + 3 * 1)
def TC (l : List Int) : Nat → List Int
  | 0 => l
  | m + 1 => turn (TC l m) m (m + 4) (m + 2 * 4) (m + 3 * 4)
theorem turn_length (t : List Int) (i j k m : Nat) : (turn t i j k m).length = t.length := by simp [turn]
theorem TR_length (l : List Int) (m : Nat) : (TR l m).length = l.length := by
  induction m with
  | zero => rfl
  | succ m ih => rw [TR, turn_length, ih]
theorem TC_length (l : List Int) (m : Nat) : (TC l m).length = l.length := by
  induction m with
  | zero => rfl
  | succ m ih => rw [TC, turn_length, ih]
def okSm (l : List Int) : Prop := inB (-65536) 65535 l = true ∧ l.length = 16
def ivV (u : List Int) (j : Nat) : Int := wrap64 (u.getD j 0 + 32) / 64
open Classical in
noncomputable def ivL (l : List Int) : List Int := if okSm l then tab 16 (ivV (TC (TR l 4) 4)) else []
theorem ivL_length (l : List Int) : (ivL l).length ≤ 1048576 := by
  unfold ivL
  split
  · rw [tab_length]; omega
  · simp
theorem turn_callsI (w0 w : World) (gt g c : Nat) (T : List Int) (a s' : Int) (i : Nat) (s : Nat) (ha : a = (i : Int)) (hs' : s' = (s : Int)) (hs : 1 ≤ s) (hb : i + 3 * s < 16) (hl : T.length = 16) (hg : gt ≠ g) (hg0 : w0.heap.size ≤ g)
    (hv : w.heap[gt]? = some (.cells #[.slice (some ⟨g, 0, none⟩) 16 c] 22 (0, 0))) (hr : Kd.R (Kd.int .i64) 3 w w0.heap.size (fun _ => True) (.slice (some ⟨g, 0, none⟩) 16 c) T) (hB : Below w0.heap.size w0 w) :
    Calls Try.prog 69 #[.int .i64 a, .int .i64 s', .pointer (some ⟨gt, 0, none⟩)] w fun e w' => e = .returned (.tuple #[]) ∧ w'.heap[gt]? = some (.cells #[.slice (some ⟨g, 0, none⟩) 16 c] 22 (0, 0)) ∧ Kd.R (Kd.int .i64) 3 w' w0.heap.size (fun _ => True) (.slice (some ⟨g, 0, none⟩) 16 c) (turn T i (i + s) (i + 2 * s) (i + 3 * s)) ∧ Below w0.heap.size w0 w' := by
  subst ha hs'
  exact turn_calls w0 w gt g c T i s hs hb hl hg hg0 hv hr hB
theorem zsmall_eq (k : Nat) (l : List Int) (hl : l.length ≤ 1048576) (hk : l.length < k) : impl_zsmall.f k l = some (inB (-65536) 65535 l && decide (l.length = 16)) := by
  unfold impl_zsmall.f
  by_cases h : l.length = 16
  · rw [if_pos (by omega), zrange_eq _ _ _ _ _ hl hk, Option.bind_some, decide_eq_true (by omega), decide_eq_true h, Bool.true_and, Bool.and_true]
  · rw [if_neg (by omega), decide_eq_false h, Bool.and_false]
set_option maxRecDepth 100000 in
set_option maxHeartbeats 40000000 in
theorem iv_impl (A0 : Option Addr) (c0 : Nat) (l0 : List Int) (hl0 : l0.length ≤ 1048576) (hw0 : ∀ x ∈ l0, (Lit.int .i64 x).wf = true) (w : World) (hc0 : l0.length ≤ c0) (hr0 : Kd.C (Kd.int .i64) w A0 l0.length l0) :
    Calls Try.prog 38 #[.slice A0 l0.length c0] w fun e w' => ∃ v : Value, e = .returned v ∧ Kd.R (Kd.int .i64) 3 w' w.heap.size (fun _ => True) v (ivL l0) ∧ Below w.heap.size w w' := by
  have HR := Aside0.mk hr0
  clear hr0 hw0
  obtain ⟨r, hr⟩ : ∃ r, r = ivL l0 := ⟨_, rfl⟩
  rw [← hr]
  have HRr := Aside0.mk hr
  clear hr
  have ZS := Aside0.mk (impl_zsmall.calls (l0.length + 1) A0 c0 l0 _ w HR.out hc0 (zsmall_eq _ l0 hl0 (by omega)))
  rcases hz : (inB (-65536) 65535 l0 && decide (l0.length = 16)) with _ | _
  · have E : Aside0 (r = []) := ⟨by
      rw [HRr.out]; unfold ivL; rw [if_neg]; intro h
      rw [h.1, decide_eq_true h.2] at hz
      cases hz⟩
    have HZ := Aside0.mk hz
    clear hz
    go_enter Try.func38, Try.ntmps38
    go_wp2_with fail
    refine ZS.out.mono ?_
    rw [HZ.out]
    rintro e w1 ⟨rfl, ⟨nd, rfl⟩⟩
    go_wp2
    go_ret
    rw [E.out]
    exact ⟨_, rfl, Kd.R_nil _ _ _ _ _, pw_below_drewN (Below.refl _ _) _⟩
  have hok : okSm l0 := ⟨(Bool.and_eq_true_iff.1 hz).1, of_decide_eq_true (Bool.and_eq_true_iff.1 hz).2⟩
  have HZ := Aside0.mk hz
  have HL := Aside0.mk hok.2
  have E : Aside0 (r = tab 16 (ivV (TC (TR l0 4) 4))) := ⟨by rw [HRr.out]; unfold ivL; rw [if_pos hok]⟩
  clear hz hok
  go_enter Try.func38, Try.ntmps38
  go_wp2_with fail
  refine ZS.out.mono ?_
  rw [HZ.out]
  rintro e w1 ⟨rfl, ⟨nd, rfl⟩⟩
  go_wp2_with fail
  refine (impl_zcopy.calls A0 c0 l0 l0 _ (Kd.C_drewN HR.out nd) hc0 (zcopy_eq l0 hl0)).mono ?_
  rintro e w1 ⟨v1, rfl, ho, hb⟩
  obtain ⟨A1, c1, rfl⟩ := R_slice_n (n := 16) ho HL.out
  have HO1 : Aside0 (Kd.R (Kd.int .i64) 3 w1 w.heap.size (fun _ => True) (.slice A1 16 c1) l0) := ⟨ho⟩
  have HB1 := Aside0.mk (below_step (pw_below_drewN (Below.refl w.heap.size w) nd) hb)
  obtain ⟨g, cap, e2, gb, gl, cl, hg⟩ := Kd.R_form HO1.out (by have := HL.out; omega)
  rw [HL.out] at e2
  cases e2
  have GB := Aside0.mk gb
  have GL := Aside0.mk gl
  clear ho hb hg gb
  go_upto_region 5 with fail
  obtain ⟨w3, h3⟩ : ∃ w3, w3 = w1.alloc (.cells #[.slice (some ⟨g, 0, none⟩) 16 c1] 22 (0, 0)) := ⟨_, rfl⟩
  rw [← h3]
  obtain ⟨gt, hgt⟩ : ∃ gt, gt = w1.heap.size := ⟨_, rfl⟩
  rw [← hgt]
  have HV : Aside0 (w3.heap[gt]? = some (.cells #[.slice (some ⟨g, 0, none⟩) 16 c1] 22 (0, 0))) := ⟨by rw [h3, hgt]; exact blk_new _ _⟩
  have HO : Aside0 (Kd.R (Kd.int .i64) 3 w3 w.heap.size (fun _ => True) (.slice (some ⟨g, 0, none⟩) 16 c1) (TR l0 0)) := ⟨by rw [h3]; apply Kd.R_alloc; exact HO1.out⟩
  have HB : Aside0 (Below w.heap.size w w3) := ⟨by rw [h3]; exact below_alloc HB1.out _⟩
  have NE : Aside0 (gt ≠ g) := ⟨by have := GL.out; omega⟩
  clear h3 hgt HO1 HB1 GL gl
  go_wp2
  go_loopg [14] 4 (fun q v14 w' => ∃ i : Nat, v14 = .int .i64 (i : Int) ∧ Aside0 (i + q = 4) ∧ Aside0 (w'.heap[gt]? = some (.cells #[.slice (some ⟨g, 0, none⟩) 16 c1] 22 (0, 0))) ∧ Aside0 (Kd.R (Kd.int .i64) 3 w' w.heap.size (fun _ => True) (.slice (some ⟨g, 0, none⟩) 16 c1) (TR l0 i)) ∧ Aside0 (Below w.heap.size w w'))
  case atStart => exact ⟨0, rfl, ⟨by omega⟩, HV, HO, HB⟩
  case round =>
    clear HV HO HB
    obtain ⟨i, rfl, Q, HV, HO, HB⟩ := hrel
    by_cases ci : i < 4
    · obtain ⟨q, rfl⟩ : ∃ q, gk = q + 1 := ⟨gk - 1, by have := Q.out; omega⟩
      go_wp2_with fail
      refine (turn_callsI w _ gt g c1 _ _ _ (4 * i) 1 (by omega) rfl (by omega) (by omega) (by rw [TR_length]; exact HL.out) NE.out GB.out HV.out HO.out HB.out).mono ?_
      rintro e w5 ⟨rfl, hv5, ho5, hb5⟩
      have HV5 := Aside0.mk hv5
      have HO5 := Aside0.mk ho5
      have HB5 := Aside0.mk hb5
      clear hv5 ho5 hb5 HV HO HB
      go_wp2
      go_roundg q
      case measure => omega
      case rel => exact ⟨i + 1, by go_num, ⟨by have := Q.out; omega⟩, HV5, HO5, HB5⟩
    · have E1 : Aside0 (i = 4) := ⟨by have := Q.out; omega⟩
      rw [E1.out] at HO
      go_wp2
      go_loopg [22] 4 (fun q v22 w' => ∃ i : Nat, v22 = .int .i64 (i : Int) ∧ Aside0 (i + q = 4) ∧ Aside0 (w'.heap[gt]? = some (.cells #[.slice (some ⟨g, 0, none⟩) 16 c1] 22 (0, 0))) ∧ Aside0 (Kd.R (Kd.int .i64) 3 w' w.heap.size (fun _ => True) (.slice (some ⟨g, 0, none⟩) 16 c1) (TC (TR l0 4) i)) ∧ Aside0 (Below w.heap.size w w'))
      case atStart => exact ⟨0, rfl, ⟨by omega⟩, HV, HO, HB⟩
      case round =>
        clear HV HO HB
        obtain ⟨i, rfl, Q, HV, HO, HB⟩ := hrel
        by_cases ci : i < 4
        · obtain ⟨q, rfl⟩ : ∃ q, gk = q + 1 := ⟨gk - 1, by have := Q.out; omega⟩
          go_wp2_with fail
          refine (turn_callsI w _ gt g c1 _ _ _ i 4 (by omega) rfl (by omega) (by omega) (by rw [TC_length, TR_length]; exact HL.out) NE.out GB.out HV.out HO.out HB.out).mono ?_
          rintro e w5 ⟨rfl, hv5, ho5, hb5⟩
          have HV5 := Aside0.mk hv5
          have HO5 := Aside0.mk ho5
          have HB5 := Aside0.mk hb5
          clear hv5 ho5 hb5 HV HO HB
          go_wp2
          go_roundg q
          case measure => omega
          case rel => exact ⟨i + 1, by go_num, ⟨by have := Q.out; omega⟩, HV5, HO5, HB5⟩
        · have E2 : Aside0 (i = 4) := ⟨by have := Q.out; omega⟩
          rw [E2.out] at HO
          have hv3 := (blk_cell HV.out 0).trans rfl
          go_wp2
          obtain ⟨u, hu⟩ : ∃ u, u = TC (TR l0 4) 4 := ⟨_, rfl⟩
          rw [← hu] at E HO
          have HU : Aside0 (u.length = 16) := ⟨by rw [hu, TC_length, TR_length]; exact HL.out⟩
          clear hu hv3
          go_loopg [31] 16 (fun q v31 w' => ∃ (j : Nat) (x : List Int), v31 = .int .i64 (j : Int) ∧ Aside0 (j + q = 16) ∧ Aside0 (Part 16 j x (ivV u) (fun j => u.getD j 0)) ∧ Aside0 (w'.heap[gt]? = some (.cells #[.slice (some ⟨g, 0, none⟩) 16 c1] 22 (0, 0))) ∧ Aside0 (Kd.R (Kd.int .i64) 3 w' w.heap.size (fun _ => True) (.slice (some ⟨g, 0, none⟩) 16 c1) x) ∧ Aside0 (Below w.heap.size w w'))
          case atStart => exact ⟨0, _, rfl, ⟨by omega⟩, ⟨Part.start _ HU.out⟩, HV, HO, HB⟩
          case round =>
            clear HV HO HB
            obtain ⟨j, x, rfl, Qj, PT, HV, HO, HB⟩ := hrel
            by_cases cj : j < 16
            · obtain ⟨q, rfl⟩ : ∃ q, gk = q + 1 := ⟨gk - 1, by have := Qj.out; omega⟩
              have j16 : (j : Int) < 16 := by omega
              obtain ⟨n, hn⟩ : ∃ n, n = u.getD j 0 := ⟨_, rfl⟩
              have XB : Aside0 (x.getD j 0 = n) := ⟨by rw [PT.out.2.2 j (by omega) cj, hn]⟩
              obtain ⟨w2, hw2⟩ : ∃ w2 : World, w2 = wr.drewN 1 := ⟨_, rfl⟩
              have HB2 : Aside0 (Below w.heap.size w w2) := ⟨by rw [hw2]; exact pw_below_drewN HB.out 1⟩
              have HO2 : Aside0 (Kd.R (Kd.int .i64) 3 w2 w.heap.size (fun _ => True) (.slice (some ⟨g, 0, none⟩) 16 c1) x) := ⟨by rw [hw2]; exact Kd.R_drewN HO.out 1⟩
              have HV2 : Aside0 (w2.heap[gt]? = some (.cells #[.slice (some ⟨g, 0, none⟩) 16 c1] 22 (0, 0))) := ⟨by rw [hw2]; exact HV.out⟩
              have hv2 : w2.cell? ⟨gt, 0, none⟩ = some (.slice (some ⟨g, 0, none⟩) 16 c1) := (blk_cell HV2.out 0).trans rfl
              have key : ({ wr with drawn := wr.drawn + 1 } : World) = w2 := hw2.symm
              have KEY := Aside0.mk key
              have h2 := Kd.R_celln 0 HO2.out (j : Int) (by omega) (by omega)
              rw [Int.toNat_natCast] at h2
              have hx : w2.cell? ⟨g, j, none⟩ = some (.int .i64 n) := by rw [h2.1, ← XB.out]; rfl
              have hfz := h2.2
              obtain ⟨v, hv⟩ : ∃ v, v = ivV u j := ⟨_, rfl⟩
              have HP := Aside0.mk (Kd.R_putn HO2.out (j : Int) v)
              have PT2 := Aside0.mk (PT.out.set cj (v := v) hv)
              have WV : Aside0 (IntKind.i64.wrap (n + 32) / 64 = v) := ⟨by rw [hv, hn, i64_wrap]; rfl⟩
              clear hn hw2 key h2 hv HO HB HV
              go_wp2_with fail
              refine wp_region_still_tail 9 (by kernel_rfl) (by kernel_rfl) ?_
              rw [KEY.out]
              simp only [List.take_succ_cons, List.take_zero, List.drop_succ_cons, List.drop_zero]
              iterate 8 still_step
              rw [WV.out]
              still_step
              refine wpStill_nil ?_
              go_wp2
              go_roundg q
              case measure => omega
              case rel => exact ⟨j + 1, _, by go_num, ⟨by have := Qj.out; omega⟩, PT2, ⟨blk_far HV2.out NE.out _⟩, HP, ⟨below_set HB2.out GB.out⟩⟩
            · have E3 : Aside0 (x = r) := ⟨by have h := PT.out; rw [show j = 16 by have := Qj.out; omega] at h; rw [E.out]; exact h.done⟩
              have hv3 := (blk_cell HV.out 0).trans rfl
              go_wp2
              go_ret
              rw [E3.out] at HO
              exact ⟨_, rfl, HO.out, HB.out⟩
end Go.Proofs.Ytflgalojbebfmaa.Wk
