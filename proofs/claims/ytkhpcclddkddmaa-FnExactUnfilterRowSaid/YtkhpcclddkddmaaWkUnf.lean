/- Walks of this seat's own: what the two UnfilterRow come to. -/
import Derived.Test.YtkhpcclddkddmaaWkFilt3
import Derived.StillTailTactics
namespace Go.Proofs.Ytkhpcclddkddmaa.Wk
open Go.RowKit Go.Proofs.YtkhpcclddkddmaaW.PrintWords Go.Proofs.YtkhpcclddkddmaaW.PrintLast Go.Proofs.YtkhpcclddkddmaaW.PrintMore Go.Proofs.Ytkhpcclddkddmaa.My
set_option linter.unusedVariables false
set_option linter.unusedSimpArgs false
theorem wf_u8 {n : Int} (h0 : 0 ≤ n) (h1 : n ≤ 255) : (Lit.int .u8 n).wf = true := by
  simp [Lit.wf, IntKind.min, IntKind.max, IntKind.signed, IntKind.bits]
  omega
def unfL (k s : Int) (la lr : List Int) : Nat → List Int
  | 0 => []
  | i + 1 => unfL k s la lr i ++ [(rd lr (i : Int) + gs k (atV (unfL k s la lr i) ((i : Int) - s)) (atV la (i : Int)) (atV la ((i : Int) - s))) % 256]
def unfV (k s : Int) (la lr : List Int) (i : Nat) : Int := (unfL k s la lr (i + 1)).getD i 0
theorem unfL_length (k s : Int) (la lr : List Int) (i : Nat) : (unfL k s la lr i).length = i := by
  induction i with
  | zero => rfl
  | succ i ih => simp [unfL, ih]
theorem unfL_get (k s : Int) (la lr : List Int) (m j : Nat) (h : j < m) : (unfL k s la lr m).getD j 0 = unfV k s la lr j := by
  induction m with
  | zero => omega
  | succ m ih =>
    by_cases e : j = m
    · subst e; rfl
    · rw [← ih (by omega)]
      have hl := unfL_length k s la lr m
      simp [unfL, List.getD, List.getElem?_append_left (show j < (unfL k s la lr m).length by omega)]
theorem unfV_eq (k s : Int) (la lr : List Int) (i : Nat) : unfV k s la lr i = (rd lr (i : Int) + gs k (atV (unfL k s la lr i) ((i : Int) - s)) (atV la (i : Int)) (atV la ((i : Int) - s))) % 256 := by
  have hl := unfL_length k s la lr i
  unfold unfV
  simp [unfL, List.getD, List.getElem?_append_right (show (unfL k s la lr i).length ≤ i by omega), hl]
theorem unfV_byte (k s : Int) (la lr : List Int) (i : Nat) : 0 ≤ unfV k s la lr i ∧ unfV k s la lr i ≤ 255 := by
  rw [unfV_eq]
  omega
theorem part_at {k s : Int} {la lr : List Int} {n i : Nat} {x : List Int} (h : Part n i x (unfV k s la lr) (fun _ => 0)) (s0 : 1 ≤ s) (hi : i < n) : atV x ((i : Int) - s) = atV (unfL k s la lr i) ((i : Int) - s) := by
  unfold atV
  split
  · rfl
  · have e : (i : Int) - s = (((i : Int) - s).toNat : Int) := by omega
    rw [e, rd_nat, rd_nat, h.2.1 _ (by omega), unfL_get _ _ _ _ _ _ (by omega)]
theorem part_byte {k s : Int} {la lr : List Int} {n i : Nat} {x : List Int} (h : Part n i x (unfV k s la lr) (fun _ => 0)) : ∀ y ∈ x, (Lit.int .u8 y).wf = true := by
  intro y hy
  obtain ⟨j, hj, rfl⟩ := List.getElem_of_mem hy
  rw [← getD_lt hj]
  by_cases c : j < i
  · rw [h.2.1 j c]
    have := unfV_byte k s la lr j
    exact wf_u8 this.1 this.2
  · rw [h.2.2 j (by omega) (by have := h.1; omega)]
    exact wf_u8 (n := 0) (by omega) (by omega)
theorem at_callsN (A : Option Addr) (c : Nat) (l : List Int) (n : Nat) (hn : l.length = n) (i : Int) (hi : -100 ≤ i ∧ i ≤ 1048576) (hl : n ≤ 1048576) (hw : ∀ x ∈ l, (Lit.int .u8 x).wf = true) (w : World) (hr : Kd.C (Kd.int .u8) w A l.length l) :
    Calls Try.prog 35 #[.slice A n c, .int .i64 i] w fun e w' => e = .returned (.int .i64 (atV l i)) ∧ w' = w := by
  subst hn
  exact at_calls A c l i hi hl hw w hr
theorem guess_implN (k s i : Int) (Aa Ar : Option Addr) (ca cr : Nat) (la lr : List Int) (n : Nat) (hn : lr.length = n) (k0 : 0 ≤ k) (k1 : k ≤ 4) (s0 : 1 ≤ s) (s1 : s ≤ 8) (i0 : 0 ≤ i) (i1 : i < n) (hl : n ≤ 4096) (hla : la.length = 0 ∨ la.length = n) (wa : ∀ x ∈ la, (Lit.int .u8 x).wf = true) (wr : ∀ x ∈ lr, (Lit.int .u8 x).wf = true) (w : World) (ha : Kd.C (Kd.int .u8) w Aa la.length la) (hr : Kd.C (Kd.int .u8) w Ar lr.length lr) :
    Calls Try.prog 37 #[.int .i64 k, .int .i64 s, .slice Aa la.length ca, .slice Ar n cr, .int .i64 i] w fun e w' => e = .returned (.int .u8 (gs k (atV lr (i - s)) (atV la i) (atV la (i - s)))) ∧ w' = w := by
  subst hn
  exact guess_impl k s i Aa Ar ca cr la lr k0 k1 s0 s1 i0 i1 hl hla wa wr w ha hr
def unfiltL (k s : Int) (la lr : List Int) : List Int := if okF k s la.length lr.length = true then tab lr.length (unfV k s la lr) else []
theorem unfiltL_length (k s : Int) (la lr : List Int) : (unfiltL k s la lr).length ≤ 1048576 := by
  unfold unfiltL
  split
  · rename_i h
    have := okF_iff.1 h
    rw [tab_length]; omega
  · simp
set_option maxHeartbeats 40000000 in
theorem unfilt_spec (a0 a1 : Int) (A2 : Option Addr) (c2 : Nat) (l2 : List Int) (A3 : Option Addr) (c3 : Nat) (l3 : List Int) (hl2 : l2.length ≤ 1048576) (hw2 : ∀ x ∈ l2, (Lit.int .u8 x).wf = true) (hl3 : l3.length ≤ 1048576) (hw3 : ∀ x ∈ l3, (Lit.int .u8 x).wf = true) (w : World) (hc2 : l2.length ≤ c2) (hr2 : Kd.C (Kd.int .u8) w A2 l2.length l2) (hc3 : l3.length ≤ c3) (hr3 : Kd.C (Kd.int .u8) w A3 l3.length l3) :
    Calls Try.prog 15 #[.int .i64 a0, .int .i64 a1, .slice A2 l2.length c2, .slice A3 l3.length c3] w fun e w' => ∃ v : Value, e = .returned v ∧ Kd.R (Kd.int .u8) 5 w' w.heap.size (fun _ => True) v (unfiltL a0 a1 l2 l3) ∧ Below w.heap.size w w' := by
  have HR2 := Aside0.mk hr2
  have HR3 := Aside0.mk hr3
  have HW2 := Aside0.mk hw2
  have HW3 := Aside0.mk hw3
  clear hr2 hr3 hw2 hw3
  rcases hd : okF a0 a1 l2.length l3.length with _ | _
  · have E : Aside0 (unfiltL a0 a1 l2 l3 = []) := ⟨by unfold unfiltL; rw [if_neg (by rw [hd]; simp)]⟩
    have HD := Aside0.mk hd
    clear hd
    go_enter Try.func15, Try.ntmps15
    go_wp2_with fail
    refine (filterOk_calls a0 a1 A2 A3 _ c2 _ c3 hl2 hl3 _).mono ?_
    rw [HD.out]
    rintro e w1 ⟨rfl, rfl⟩
    go_wp2
    go_ret
    rw [E.out]
    exact ⟨_, rfl, Kd.R_nil _ _ _ _ _, Below.refl _ _⟩
  obtain ⟨k0, k1, s0, s1, n1, n2⟩ := okF_iff.1 hd
  have E : Aside0 (unfiltL a0 a1 l2 l3 = tab l3.length (unfV a0 a1 l2 l3)) := ⟨by unfold unfiltL; rw [if_pos hd]⟩
  have HD := Aside0.mk hd
  obtain ⟨f, hf⟩ : ∃ f, f = unfV a0 a1 l2 l3 := ⟨_, rfl⟩
  rw [E.out, ← hf]
  have HF := Aside0.mk hf
  have N2 := Aside0.mk n2
  clear hd n2 hf E
  go_enter Try.func15, Try.ntmps15
  go_wp2_with fail
  refine (filterOk_calls a0 a1 A2 A3 _ c2 _ c3 hl2 hl3 _).mono ?_
  rw [HD.out]
  rintro e w1 ⟨rfl, rfl⟩
  rename World => w
  go_wp2_with ((with_reducible refine gate_dst (N := 19) rfl ?_); (refine Kd.R_make (Kd.int .u8) (w0 := w) w.heap.size 5 rfl (N := 19) rfl 22 _ _ rfl (l3.length : Int) rfl rfl Try.underlying22 (.int .u8 0) 1 info5 rfl (by decide) (by omega) 0 (ok := fun _ => True) (okp := fun _ => True) rfl (fun _ hk => hk) trivial (by omega) (by omega) ?mB1 ?mS1 ?_); (case mB1 => first | exact Below.refl _ _ | exact HB.out); (case mS1 => first | exact Nat.le_refl _ | exact below_size HB.out); intro v1 w1 ho hb hg hn; (try rw [Int.toNat_natCast] at ho); obtain ⟨A1, c1, rfl⟩ := R_slice_n (n := l3.length) ho (by simp); have HO := Aside0.mk ho; have HB := Aside0.mk hb; clear ho hb hg hn)
  go_loopg [22] l3.length (fun q v22 w' => ∃ (i : Nat) (x : List Int), v22 = .int .i64 (i : Int) ∧ Aside0 (i + q = l3.length) ∧ Aside0 (Part l3.length i x f (fun _ => 0)) ∧ Aside0 (Kd.R (Kd.int .u8) 5 w' w.heap.size (fun _ => True) (.slice A1 l3.length c1) x) ∧ Aside0 (Below w.heap.size w w'))
  case atStart => exact ⟨0, _, rfl, ⟨by omega⟩, ⟨Part.zeros _ _⟩, HO, HB⟩
  case round =>
    clear HO HB
    obtain ⟨i, x, rfl, Q, PT, HO, HB⟩ := hrel
    by_cases c0 : i < l3.length
    · obtain ⟨q, rfl⟩ : ∃ q, gk = q + 1 := ⟨gk - 1, by have := Q.out; omega⟩
      have xl : x.length = l3.length := PT.out.1
      have XL := Aside0.mk xl
      obtain ⟨g, cap, e2, gb, gl, cl, hg⟩ := Kd.R_form HO.out (by omega)
      rw [xl] at e2
      cases e2
      have GB := Aside0.mk gb
      clear gb gl hg
      obtain ⟨w2, hw2⟩ : ∃ w2 : World, w2 = wr.drewN 1 := ⟨_, rfl⟩
      have HB2 : Aside0 (Below w.heap.size w w2) := ⟨by rw [hw2]; exact pw_below_drewN HB.out 1⟩
      have HO2 : Aside0 (Kd.R (Kd.int .u8) 5 w2 w.heap.size (fun _ => True) (.slice (some ⟨g, 0, none⟩) l3.length c1) x) := ⟨by rw [hw2]; exact Kd.R_drewN HO.out 1⟩
      have key : ({ wr with drawn := wr.drawn + 1 } : World) = w2 := hw2.symm
      have KEY := Aside0.mk key
      clear key hw2 HO HB
      have HQ2 := Aside0.mk (Kd.C_below HR2.out HB2.out)
      have HQ3 := Aside0.mk (Kd.C_below HR3.out HB2.out)
      obtain ⟨ad1, e1, hx1⟩ := Kd.at_int HQ3.out (i : Int) (by omega) (by omega)
      rw [Int.toNat_natCast] at hx1
      obtain ⟨b, hb⟩ : ∃ b, b = rd l3 (i : Int) := ⟨_, rfl⟩
      rw [← hb] at hx1
      have bb := rd_byte HW3.out (i : Int)
      rw [← hb] at bb
      subst e1
      obtain ⟨hx, hfz⟩ := Kd.R_celln 0 HO2.out (i : Int) (by omega) (by omega)
      rw [Int.toNat_natCast] at hx hfz
      have HWX : Aside0 (∀ y ∈ x, (Lit.int .u8 y).wf = true) := ⟨by have h := PT.out; rw [HF.out] at h; exact part_byte h⟩
      have HAX : Aside0 (atV x ((i : Int) - a1) = atV (unfL a0 a1 l2 l3 i) ((i : Int) - a1)) := ⟨by have h := PT.out; rw [HF.out] at h; exact part_at h (by omega) c0⟩
      obtain ⟨y, hy⟩ : ∃ y, y = gs a0 (atV x ((i : Int) - a1)) (atV l2 (i : Int)) (atV l2 ((i : Int) - a1)) := ⟨_, rfl⟩
      have yb := gs_byte (k := a0) (atV_byte HWX.out ((i : Int) - a1)) (atV_byte HW2.out (i : Int)) (atV_byte HW2.out ((i : Int) - a1))
      rw [← hy] at yb
      have HP := Aside0.mk (Kd.R_putn HO2.out (i : Int) ((b + y) % 256))
      have PT2 := Aside0.mk (PT.out.set c0 (v := (b + y) % 256) (by rw [HF.out, unfV_eq, hy, hb, HAX.out]))
      have HY := Aside0.mk hy
      have HB' := Aside0.mk hb
      clear hb hy xl
      have WS : Aside0 (IntKind.i64.wrap ((i : Int) - a1) = (i : Int) - a1) := ⟨by rw [IntKind.wrap_i64]; omega⟩
      go_wp2_with fail
      refine wp_region_still_tail 24 (by kernel_rfl) (by kernel_rfl) ?_
      rw [KEY.out]
      simp only [List.take_succ_cons, List.take_zero, List.drop_succ_cons, List.drop_zero]
      iterate 11 still_step
      rw [WS.out]
      still_call (at_callsN (some ⟨g, 0, none⟩) c1 x _ XL.out _ (by omega) (by omega) HWX.out _ (R_cells HO2.out).2.2)
      iterate 2 still_step
      still_call (at_calls A2 c2 l2 _ (by omega) (by omega) HW2.out _ HQ2.out)
      iterate 4 still_step
      rw [WS.out]
      still_call (at_calls A2 c2 l2 _ (by omega) (by omega) HW2.out _ HQ2.out)
      still_call (guess_spec a0 _ _ _ (by omega) (by omega) (atV_byte HWX.out _) (atV_byte HW2.out _) (atV_byte HW2.out _) _)
      rw [← HY.out]
      iterate 3 still_step
      refine wpStill_nil ?_
      go_wp2
      go_roundg q
      case measure => omega
      case rel => exact ⟨i + 1, _, by go_num, ⟨by have := Q.out; omega⟩, PT2, HP, ⟨below_set HB2.out GB.out⟩⟩
    · have E2 : Aside0 (x = tab l3.length f) := ⟨by have h := PT.out; rw [show i = l3.length by have := Q.out; omega] at h; exact h.done⟩
      go_wp2
      go_ret
      rw [E2.out] at HO
      exact ⟨_, rfl, HO.out, HB.out⟩
set_option maxHeartbeats 40000000 in
theorem unfilt_impl (a0 a1 : Int) (A2 : Option Addr) (c2 : Nat) (l2 : List Int) (A3 : Option Addr) (c3 : Nat) (l3 : List Int) (hl2 : l2.length ≤ 1048576) (hw2 : ∀ x ∈ l2, (Lit.int .u8 x).wf = true) (hl3 : l3.length ≤ 1048576) (hw3 : ∀ x ∈ l3, (Lit.int .u8 x).wf = true) (w : World) (hc2 : l2.length ≤ c2) (hr2 : Kd.C (Kd.int .u8) w A2 l2.length l2) (hc3 : l3.length ≤ c3) (hr3 : Kd.C (Kd.int .u8) w A3 l3.length l3) :
    Calls Try.prog 16 #[.int .i64 a0, .int .i64 a1, .slice A2 l2.length c2, .slice A3 l3.length c3] w fun e w' => ∃ v : Value, e = .returned v ∧ Kd.R (Kd.int .u8) 5 w' w.heap.size (fun _ => True) v (unfiltL a0 a1 l2 l3) ∧ Below w.heap.size w w' := by
  have HR2 := Aside0.mk hr2
  have HR3 := Aside0.mk hr3
  have HW2 := Aside0.mk hw2
  have HW3 := Aside0.mk hw3
  clear hr2 hr3 hw2 hw3
  rcases hd : okF a0 a1 l2.length l3.length with _ | _
  · have E : Aside0 (unfiltL a0 a1 l2 l3 = []) := ⟨by unfold unfiltL; rw [if_neg (by rw [hd]; simp)]⟩
    have HD := Aside0.mk hd
    clear hd
    go_enter Try.func16, Try.ntmps16
    go_wp2_with fail
    refine (goodRow_calls a0 a1 A2 A3 _ c2 _ c3 hl2 hl3 _).mono ?_
    rw [HD.out]
    rintro e w1 ⟨rfl, rfl⟩
    go_wp2
    go_ret
    rw [E.out]
    exact ⟨_, rfl, Kd.R_nil _ _ _ _ _, Below.refl _ _⟩
  obtain ⟨k0, k1, s0, s1, n1, n2⟩ := okF_iff.1 hd
  have E : Aside0 (unfiltL a0 a1 l2 l3 = tab l3.length (unfV a0 a1 l2 l3)) := ⟨by unfold unfiltL; rw [if_pos hd]⟩
  have HD := Aside0.mk hd
  obtain ⟨f, hf⟩ : ∃ f, f = unfV a0 a1 l2 l3 := ⟨_, rfl⟩
  rw [E.out, ← hf]
  have HF := Aside0.mk hf
  have N2 := Aside0.mk n2
  clear hd n2 hf E
  go_enter Try.func16, Try.ntmps16
  go_wp2_with fail
  refine (goodRow_calls a0 a1 A2 A3 _ c2 _ c3 hl2 hl3 _).mono ?_
  rw [HD.out]
  rintro e w1 ⟨rfl, rfl⟩
  rename World => w
  go_wp2_with ((with_reducible refine gate_dst (N := 20) rfl ?_); (refine Kd.R_make (Kd.int .u8) (w0 := w) w.heap.size 5 rfl (N := 20) rfl 22 _ _ rfl (l3.length : Int) rfl rfl Try.underlying22 (.int .u8 0) 1 info5 rfl (by decide) (by omega) 0 (ok := fun _ => True) (okp := fun _ => True) rfl (fun _ hk => hk) trivial (by omega) (by omega) ?mB2 ?mS2 ?_); (case mB2 => first | exact Below.refl _ _ | exact HB.out); (case mS2 => first | exact Nat.le_refl _ | exact below_size HB.out); intro v1 w1 ho hb hg hn; (try rw [Int.toNat_natCast] at ho); obtain ⟨A1, c1, rfl⟩ := R_slice_n (n := l3.length) ho (by simp); have HO := Aside0.mk ho; have HB := Aside0.mk hb; clear ho hb hg hn)
  go_loopg [23] l3.length (fun q v23 w' => ∃ (i : Nat) (x : List Int), v23 = .int .i64 (i : Int) ∧ Aside0 (i + q = l3.length) ∧ Aside0 (Part l3.length i x f (fun _ => 0)) ∧ Aside0 (Kd.R (Kd.int .u8) 5 w' w.heap.size (fun _ => True) (.slice A1 l3.length c1) x) ∧ Aside0 (Below w.heap.size w w'))
  case atStart => exact ⟨0, _, rfl, ⟨by omega⟩, ⟨Part.zeros _ _⟩, HO, HB⟩
  case round =>
    clear HO HB
    obtain ⟨i, x, rfl, Q, PT, HO, HB⟩ := hrel
    by_cases c0 : i < l3.length
    · obtain ⟨q, rfl⟩ : ∃ q, gk = q + 1 := ⟨gk - 1, by have := Q.out; omega⟩
      have xl : x.length = l3.length := PT.out.1
      have XL := Aside0.mk xl
      obtain ⟨g, cap, e2, gb, gl, cl, hg⟩ := Kd.R_form HO.out (by omega)
      rw [xl] at e2
      cases e2
      have GB := Aside0.mk gb
      clear gb gl hg
      have HQ2 := Aside0.mk (Kd.C_below HR2.out HB.out)
      have HQ3 := Aside0.mk (Kd.C_below HR3.out HB.out)
      obtain ⟨ad1, e1, hx1⟩ := Kd.at_int HQ3.out (i : Int) (by omega) (by omega)
      rw [Int.toNat_natCast] at hx1
      obtain ⟨b, hb⟩ : ∃ b, b = rd l3 (i : Int) := ⟨_, rfl⟩
      rw [← hb] at hx1
      have bb := rd_byte HW3.out (i : Int)
      rw [← hb] at bb
      subst e1
      obtain ⟨hx, hfz⟩ := Kd.R_celln 0 HO.out (i : Int) (by omega) (by omega)
      rw [Int.toNat_natCast] at hx hfz
      have HWX : Aside0 (∀ y ∈ x, (Lit.int .u8 y).wf = true) := ⟨by have h := PT.out; rw [HF.out] at h; exact part_byte h⟩
      have HAX : Aside0 (atV x ((i : Int) - a1) = atV (unfL a0 a1 l2 l3 i) ((i : Int) - a1)) := ⟨by have h := PT.out; rw [HF.out] at h; exact part_at h (by omega) c0⟩
      obtain ⟨y, hy⟩ : ∃ y, y = gs a0 (atV x ((i : Int) - a1)) (atV l2 (i : Int)) (atV l2 ((i : Int) - a1)) := ⟨_, rfl⟩
      have yb := gs_byte (k := a0) (atV_byte HWX.out ((i : Int) - a1)) (atV_byte HW2.out (i : Int)) (atV_byte HW2.out ((i : Int) - a1))
      rw [← hy] at yb
      have HP := Aside0.mk (Kd.R_putn HO.out (i : Int) ((b + y) % 256))
      have PT2 := Aside0.mk (PT.out.set c0 (v := (b + y) % 256) (by rw [HF.out, unfV_eq, hy, hb, HAX.out]))
      have HY := Aside0.mk hy
      have HB' := Aside0.mk hb
      clear hb hy xl
      go_wp2_with fail
      refine (guess_implN a0 a1 (i : Int) A2 (some ⟨g, 0, none⟩) c2 c1 l2 x _ XL.out (by omega) (by omega) (by omega) (by omega) (by omega) (by omega) (by omega) N2.out HW2.out HWX.out _ HQ2.out (R_cells HO.out).2.2).mono ?_
      rw [← HY.out]
      rintro e w1 ⟨rfl, rfl⟩
      go_wp2
      go_roundg q
      case measure => omega
      case rel => exact ⟨i + 1, _, by go_num, ⟨by have := Q.out; omega⟩, PT2, HP, ⟨below_set HB.out GB.out⟩⟩
    · have E2 : Aside0 (x = tab l3.length f) := ⟨by have h := PT.out; rw [show i = l3.length by have := Q.out; omega] at h; exact h.done⟩
      go_wp2
      go_ret
      rw [E2.out] at HO
      exact ⟨_, rfl, HO.out, HB.out⟩
end Go.Proofs.Ytkhpcclddkddmaa.Wk
