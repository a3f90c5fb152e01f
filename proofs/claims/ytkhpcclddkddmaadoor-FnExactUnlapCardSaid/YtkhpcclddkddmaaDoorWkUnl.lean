/- Walks of this seat's own: what the program's Unlap comes to. -/
import Derived.Test.YtkhpcclddkddmaaDoorWkWin
namespace Go.Proofs.YtkhpcclddkddmaaDoor.Wk
open Go.RowKit Go.Proofs.YtkhpcclddkddmaaDoorW.PrintWords Go.Proofs.YtkhpcclddkddmaaDoorW.PrintLast Go.Proofs.YtkhpcclddkddmaaDoorW.PrintMore Go.Proofs.YtkhpcclddkddmaaDoor.My
open Go.Proofs.YtkhpcclddkddmaaDoor.PFnExactWindow
set_option linter.unusedVariables false
set_option linter.unusedSimpArgs false
def uM (i n : Nat) : Int := (2 * (i : Int) + 17) * (2 * (n : Int) + 1)
theorem uM_b {i n : Nat} (hi : i < 32) (hn : n < 16) : 0 ≤ uM i n ∧ uM i n ≤ 100000 := by
  unfold uM
  have h1 : (2 * (i : Int) + 17) * (2 * (n : Int) + 1) ≤ 79 * (2 * (n : Int) + 1) := Int.mul_le_mul_of_nonneg_right (by omega) (by omega)
  exact ⟨Int.mul_nonneg (by omega) (by omega), by omega⟩
theorem cV_b (m : Int) : -16384 ≤ cV m ∧ cV m ≤ 16384 := by
  have b1 := rd_b (m % 128)
  have b2 := rd_b (64 - m % 128)
  have b3 := rd_b (m % 128 - 64)
  have b4 := rd_b (128 - m % 128)
  unfold cV
  repeat' split
  all_goals omega
theorem mul_bb {x y X Y : Int} (hx : -X ≤ x ∧ x ≤ X) (hy : -Y ≤ y ∧ y ≤ Y) (hX : 0 ≤ X) : -(X * Y) ≤ x * y ∧ x * y ≤ X * Y := by
  have h1 : x.natAbs ≤ X.toNat := by omega
  have h2 : y.natAbs ≤ Y.toNat := by omega
  have h3 : (x * y).natAbs ≤ X.toNat * Y.toNat := by rw [Int.natAbs_mul]; exact Nat.mul_le_mul h1 h2
  have h4 : ((X.toNat * Y.toNat : Nat) : Int) = X * Y := by rw [Int.natCast_mul, Int.toNat_of_nonneg hX, Int.toNat_of_nonneg (by omega)]
  omega
def uS (l : List Int) (i : Nat) : Nat → Int
  | 0 => 65536
  | n + 1 => uS l i n + rd l (n : Int) * cV (uM i n)
def okU (l : List Int) : Prop := (∀ j, j < l.length → -1048576 ≤ l.getD j 0 ∧ l.getD j 0 ≤ 1048575) ∧ l.length = 16
theorem okU.at {l : List Int} (h : okU l) {n : Nat} (hn : n < 16) : -1048576 ≤ rd l (n : Int) ∧ rd l (n : Int) ≤ 1048576 := by
  have := h.1 n (by rw [h.2]; exact hn)
  rw [rd_nat]
  omega
theorem uS_b {l : List Int} (h : okU l) (i n : Nat) (hn : n ≤ 16) : -17179934720 * ((n : Int) + 1) ≤ uS l i n ∧ uS l i n ≤ 17179934720 * ((n : Int) + 1) := by
  induction n with
  | zero => unfold uS; omega
  | succ n ih =>
    have a := h.at (n := n) (by omega)
    have p := mul_bb (X := 1048576) (Y := 16384) a (cV_b (uM i n)) (by omega)
    have := ih (by omega)
    unfold uS
    omega
def uV (l : List Int) (i : Nat) : Int := (uS l i 16 / 131072 * winV i + 8192) / 16384
theorem inB_U {l : List Int} : (inB (-1048576) 1048575 l = true ∧ l.length = 16) ↔ okU l := by
  unfold okU
  rw [inB_iff]
def unlL (l : List Int) : List Int := if inB (-1048576) 1048575 l = true ∧ l.length = 16 then tab 32 (uV l) else []
theorem unlL_length (l : List Int) : (unlL l).length ≤ 1048576 := by
  unfold unlL
  split
  · rw [tab_length]; omega
  · simp
set_option maxHeartbeats 40000000 in
theorem zunlap_calls (A : Option Addr) (c n : Nat) (l : List Int) (h : okU l) (hn : n = 16) (hln : l.length = n) (w : World) (hT : KT w) (hr : Kd.C (Kd.int .i64) w A l.length l) :
    Calls Tryd.prog 34 #[.slice A n c] w fun e w' => ∃ v : Value, e = .returned v ∧ Kd.R (Kd.int .i64) 3 w' w.heap.size (fun _ => True) v (tab 32 (uV l)) ∧ Below w.heap.size w w' := by
  have HT := Aside0.mk hT
  have HR := Aside0.mk hr
  have OK := Aside0.mk h
  have LN := Aside0.mk (hln.trans hn)
  subst hn
  rw [hln] at HR
  clear hT hr h hln
  go_enter Tryd.func34, Tryd.ntmps34
  go_wp2_with fail
  refine (win_impl _ HT.out).mono ?_
  rintro e wk ⟨v1, rfl, ho, hb⟩
  obtain ⟨Ak, ck, rfl⟩ := R_slice_n (n := 32) ho winL_length
  have HK : Aside0 (Kd.C (Kd.int .i64) wk Ak winL.length winL) := ⟨(R_cells ho).2.2⟩
  have HBK := Aside0.mk hb
  have HRK := Aside0.mk (Kd.C_below HR.out hb)
  have HTK := Aside0.mk (HT.out.stay hb)
  have HB0 := Aside0.mk (Below.refl wk.heap.size wk)
  clear ho hb HT HR
  go_wp2
  go_loopg [4, 10] 32 (fun q v4 v10 w' => ∃ (i : Nat) (out : List Int), v10 = .int .i64 (i : Int) ∧ Aside0 (i + q = 32) ∧ Aside0 (out.length = i) ∧ Aside0 (out = tab i (uV l)) ∧ Aside0 (Kd.R (Kd.int .i64) 3 w' wk.heap.size (fun _ => True) v4 out) ∧ Aside0 (Below wk.heap.size wk w'))
  case atStart => exact ⟨0, [], rfl, ⟨by omega⟩, ⟨rfl⟩, ⟨by simp [tab]⟩, ⟨Kd.R_nil _ _ _ _ _⟩, HB0⟩
  case round =>
    clear HB0
    obtain ⟨i, out, rfl, Q, L, G, HO, HB⟩ := hrel
    by_cases c0 : i < 32
    · obtain ⟨qi, rfl⟩ : ∃ q, gk = q + 1 := ⟨gk - 1, by have := Q.out; omega⟩
      have t4 : decide ((i : Int) < 32) = true := decide_eq_true (by omega)
      go_wp2
      go_loopg [6, 15] 16 (fun q v6 v15 w' => ∃ n : Nat, v6 = .int .i64 (uS l i n) ∧ v15 = .int .i64 (n : Int) ∧ Aside0 (n + q = 16) ∧ Aside0 (Kd.R (Kd.int .i64) 3 w' wk.heap.size (fun _ => True) u4 out) ∧ Aside0 (Below wk.heap.size wk w'))
      case atStart => exact ⟨0, rfl, rfl, ⟨by omega⟩, HO, HB⟩
      case round =>
        clear HO HB
        obtain ⟨n, rfl, rfl, Qn, HO, HB⟩ := hrel
        by_cases c1 : n < 16
        · obtain ⟨qn, rfl⟩ : ∃ q, gk = q + 1 := ⟨gk - 1, by have := Qn.out; omega⟩
          have HQ := Aside0.mk (Kd.C_below HRK.out HB.out)
          obtain ⟨ad1, e1, hx1⟩ := Kd.at_int HQ.out (n : Int) (by omega) (by omega)
          rw [Int.toNat_natCast] at hx1
          obtain ⟨x, hx⟩ : ∃ x, x = rd l (n : Int) := ⟨_, rfl⟩
          rw [← hx] at hx1
          have xb := OK.out.at c1
          rw [← hx] at xb
          subst e1
          have mb := uM_b c0 c1
          obtain ⟨m, hm⟩ : ∃ m, m = uM i n := ⟨_, rfl⟩
          rw [← hm] at mb
          have em : (2 * (i : Int) + 17) * (2 * (n : Int) + 1) = m := by rw [hm]; rfl
          have yb := cV_b m
          obtain ⟨y, hy⟩ : ∃ y, y = cV m := ⟨_, rfl⟩
          rw [← hy] at yb
          have pb := mul_bb (X := 1048576) (Y := 16384) ⟨xb.1, xb.2⟩ yb (by omega)
          obtain ⟨p, hp⟩ : ∃ p, p = x * y := ⟨_, rfl⟩
          rw [← hp] at pb
          have ep : x * y = p := hp.symm
          have sb := uS_b OK.out i n (by omega)
          have F : Aside0 (uS l i (n + 1) = uS l i n + p) := ⟨by rw [hp, hx, hy, hm]; rfl⟩
          obtain ⟨s, hs⟩ : ∃ s, s = uS l i n := ⟨_, rfl⟩
          rw [← hs] at sb F ⊢
          have HM := Aside0.mk hm
          have HY := Aside0.mk hy
          clear hm hy hp hs hx
          go_wp2_with (go_at_call 31; refine (zc_calls _ _ (HTK.out.stay HB.out)).mono ?_; rw [← HY.out]; rintro e w1 ⟨rfl, rfl⟩)
          go_roundg qn
          case measure => omega
          case rel => exact ⟨n + 1, by rw [F.out], by go_num, ⟨by have := Qn.out; omega⟩, HO, HB⟩
        · obtain ⟨s, hs⟩ : ∃ s, s = uS l i 16 := ⟨_, rfl⟩
          have E1 : Aside0 (uS l i n = s) := ⟨by rw [hs, show n = 16 by have := Qn.out; omega]⟩
          rw [E1.out]
          have sb := uS_b OK.out i 16 (by omega)
          rw [← hs] at sb
          obtain ⟨z, hz⟩ : ∃ z, z = s / 131072 := ⟨_, rfl⟩
          have zb : -3000000 ≤ z ∧ z ≤ 3000000 := by omega
          have HKC := Aside0.mk (Kd.C_below HK.out HB.out)
          obtain ⟨ad2, e2, hx2⟩ := Kd.at_int HKC.out (i : Int) (by omega) (by rw [winL_length]; omega)
          rw [Int.toNat_natCast, show rd winL (i : Int) = winV i by rw [rd_nat]; exact tab_get c0] at hx2
          obtain ⟨y, hy⟩ : ∃ y, y = winV i := ⟨_, rfl⟩
          have yb : -16384 ≤ y ∧ y ≤ 16384 := by rw [hy]; exact cV_b _
          rw [← hy] at hx2
          have pb := mul_bb (X := 3000000) (Y := 16384) zb yb (by omega)
          obtain ⟨p, hp⟩ : ∃ p, p = z * y := ⟨_, rfl⟩
          rw [← hp] at pb
          have ep : z * y = p := hp.symm
          have ez : s / 131072 = z := hz.symm
          obtain ⟨r, hr⟩ : ∃ r, r = (p + 8192) / 16384 := ⟨_, rfl⟩
          have er : (p + 8192) / 16384 = r := hr.symm
          have G2 : Aside0 (out ++ [r] = tab (i + 1) (uV l)) := ⟨by rw [tab_succ, G.out, hr, hp, hz, hs, hy]; rfl⟩
          subst e2
          clear hp hz hr hs hy
          go_wp2_with (at_builtin; refine Kd.R_append (Kd.int .i64) (w0 := wk) wk.heap.size rfl (.tmp 33) (.tmp 43) 22 3 (.int .i64 0) 8 rfl Tryd.underlying22 info3 rfl (by decide) (by omega) u4 (out) (r) [.int .i64 (r)] (fun _ => True) (fun _ => False) rfl rfl ?aP1 (fun _ hk => hk.elim) ?aF1 ?aO1 ?aB1 ?aS1 ?aL1 ?_; (case aP1 => exact rfl); (case aB1 => exact HB.out); (case aF1 => exact fun _ _ => trivial); (case aO1 => exact HO.out); (case aS1 => exact below_size (HB.out)); (case aL1 => have := L.out; have := Q.out; omega); intro v1 w1 ho hb hg hat; have HO2 := Aside0.mk ho; have HB2 := Aside0.mk hb; clear ho hb hg hat HO HB)
          go_roundg qi
          case measure => omega
          case rel => exact ⟨i + 1, out ++ [_], by go_num, ⟨by have := Q.out; omega⟩, ⟨by have := L.out; simp; omega⟩, G2, HO2, HB2⟩
    · have E2 : Aside0 (out = tab 32 (uV l)) := ⟨by rw [G.out, show i = 32 by have := Q.out; omega]⟩
      go_wp2
      go_ret
      rw [E2.out] at HO
      exact ⟨_, rfl, Kd.R_lower HO.out (size_le HBK.out), below_step HBK.out HB.out⟩
end Go.Proofs.YtkhpcclddkddmaaDoor.Wk
