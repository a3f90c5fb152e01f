/- Walks of this seat's own: what the two Window come to. -/
import Derived.Test.YtkhpcclddkddmaaDoorWkHE
import Derived.Test.YtkhpcclddkddmaaDoorWinP
namespace Go.Proofs.YtkhpcclddkddmaaDoor.Wk
open Go.RowKit Go.Proofs.YtkhpcclddkddmaaDoorW.PrintWords Go.Proofs.YtkhpcclddkddmaaDoorW.PrintLast Go.Proofs.YtkhpcclddkddmaaDoorW.PrintMore Go.Proofs.YtkhpcclddkddmaaDoor.My
open Go.Proofs.YtkhpcclddkddmaaDoor.PFnExactWindow
set_option linter.unusedVariables false
set_option linter.unusedSimpArgs false
def zkT : List Int := [16384, 16364, 16305, 16207, 16069, 15893, 15679, 15426, 15137, 14811, 14449, 14053, 13623, 13160, 12665, 12140, 11585, 11003, 10394, 9760, 9102, 8423, 7723, 7005, 6270, 5520, 4756, 3981, 3196, 2404, 1606, 804, 0]
theorem zkT_length : zkT.length = 33 := rfl
theorem zkT_b (i : Nat) : 0 ≤ zkT.getD i 0 ∧ zkT.getD i 0 ≤ 16384 := by
  by_cases h : i < 33
  · have : ∀ j : Fin 33, 0 ≤ zkT.getD j.val 0 ∧ zkT.getD j.val 0 ≤ 16384 := by decide
    exact this ⟨i, h⟩
  · simp [List.getD, List.getElem?_eq_none (show zkT.length ≤ i by rw [zkT_length]; omega)]
/-- The table lies in the memory of the program's variable. -/
def KT (w : World) : Prop := ∀ i, i < 33 → w.cell? ⟨3, i, none⟩ = some (.int .i64 (zkT.getD i 0))
theorem KT.stay {w w' : World} (h : KT w) (hb : Below w.heap.size w w') : KT w' := fun i hi => cell_stay hb (h i hi)
def cV (m : Int) : Int :=
  if m % 128 ≤ 32 then rd zkT (m % 128) else if m % 128 ≤ 64 then -(rd zkT (64 - m % 128)) else if m % 128 ≤ 96 then -(rd zkT (m % 128 - 64)) else rd zkT (128 - m % 128)
theorem rd_b (i : Int) : 0 ≤ rd zkT i ∧ rd zkT i ≤ 16384 := zkT_b i.toNat
theorem l11C_eq (m : Int) : spec_l11C.f zkT m = some (cV m) := by
  have h0 : 0 ≤ m % 128 := by omega
  have h1 : m % 128 < 128 := by omega
  have b1 := rd_b (64 - m % 128)
  have b2 := rd_b (m % 128 - 64)
  unfold spec_l11C.f cV
  simp only [and_i64_127, zkT_length]
  by_cases c1 : m % 128 ≤ 32
  · simp (disch := omega) only [if_pos, if_neg, decide_eq_true, decide_eq_false, if_true, Bool.false_eq_true, if_false, wrap64_id, u64_id, Option.bind_some]
  by_cases c2 : m % 128 ≤ 64
  · simp (disch := omega) only [if_pos, if_neg, decide_eq_true, decide_eq_false, if_true, Bool.false_eq_true, if_false, wrap64_id, u64_id, Option.bind_some]
  by_cases c3 : m % 128 ≤ 96
  · simp (disch := omega) only [if_pos, if_neg, decide_eq_true, decide_eq_false, if_true, Bool.false_eq_true, if_false, wrap64_id, u64_id, Option.bind_some]
  simp (disch := omega) only [if_pos, if_neg, decide_eq_true, decide_eq_false, if_true, Bool.false_eq_true, if_false, wrap64_id, u64_id, Option.bind_some]
set_option maxHeartbeats 40000000 in
theorem zc_calls (m : Int) (w : World) (hT : KT w) : Calls Tryd.prog 31 #[.int .i64 m] w fun e w' => e = .returned (.int .i64 (cV m)) ∧ w' = w := by
  have HT := Aside0.mk hT
  clear hT
  obtain ⟨j, hj⟩ : ∃ j, j = m % 128 := ⟨_, rfl⟩
  have h0 : 0 ≤ j := by omega
  have h1 : j < 128 := by omega
  obtain ⟨r, hr⟩ : ∃ r, r = cV m := ⟨_, rfl⟩
  rw [← hr]
  have HR := Aside0.mk hr
  have HJ := Aside0.mk hj
  clear hr hj
  go_enter Tryd.func31, Tryd.ntmps31
  go_upto_region 2 with fail
  rw [and_i64_127, ← HJ.out]
  by_cases c1 : j ≤ 32
  · have t1 : decide (j ≤ 32) = true := decide_eq_true c1
    obtain ⟨y, hy⟩ : ∃ y, y = rd zkT (j) := ⟨_, rfl⟩
    have yb := rd_b (j)
    rw [← hy] at yb
    have hx : w.cell? ⟨3, (j).toNat, none⟩ = some (.int .i64 y) := by rw [hy]; exact HT.out _ (by omega)
    have E : Aside0 (r = y) := ⟨by rw [HR.out]; unfold cV; rw [← HJ.out, if_pos c1, hy]⟩
    clear hy
    go_wp2
    go_ret
    exact ⟨by rw [E.out]; rfl, rfl⟩
  have t1 : decide (j ≤ 32) = false := decide_eq_false c1
  by_cases c2 : j ≤ 64
  · have t2 : decide (j ≤ 64) = true := decide_eq_true c2
    obtain ⟨y, hy⟩ : ∃ y, y = rd zkT (64 - j) := ⟨_, rfl⟩
    have yb := rd_b (64 - j)
    rw [← hy] at yb
    have hx : w.cell? ⟨3, (64 - j).toNat, none⟩ = some (.int .i64 y) := by rw [hy]; exact HT.out _ (by omega)
    have E : Aside0 (r = -y) := ⟨by rw [HR.out]; unfold cV; rw [← HJ.out, if_neg c1, if_pos c2, hy]⟩
    clear hy
    go_wp2
    go_ret
    exact ⟨by rw [E.out]; rfl, rfl⟩
  have t2 : decide (j ≤ 64) = false := decide_eq_false c2
  by_cases c3 : j ≤ 96
  · have t3 : decide (j ≤ 96) = true := decide_eq_true c3
    obtain ⟨y, hy⟩ : ∃ y, y = rd zkT (j - 64) := ⟨_, rfl⟩
    have yb := rd_b (j - 64)
    rw [← hy] at yb
    have hx : w.cell? ⟨3, (j - 64).toNat, none⟩ = some (.int .i64 y) := by rw [hy]; exact HT.out _ (by omega)
    have E : Aside0 (r = -y) := ⟨by rw [HR.out]; unfold cV; rw [← HJ.out, if_neg c1, if_neg c2, if_pos c3, hy]⟩
    clear hy
    go_wp2
    go_ret
    exact ⟨by rw [E.out]; rfl, rfl⟩
  have t3 : decide (j ≤ 96) = false := decide_eq_false c3
  obtain ⟨y, hy⟩ : ∃ y, y = rd zkT (128 - j) := ⟨_, rfl⟩
  have yb := rd_b (128 - j)
  rw [← hy] at yb
  have hx : w.cell? ⟨3, (128 - j).toNat, none⟩ = some (.int .i64 y) := by rw [hy]; exact HT.out _ (by omega)
  have E : Aside0 (r = y) := ⟨by rw [HR.out]; unfold cV; rw [← HJ.out, if_neg c1, if_neg c2, if_neg c3, hy]⟩
  clear hy
  go_wp2
  go_ret
  exact ⟨by rw [E.out]; rfl, rfl⟩
theorem l11C_callsN (A : Option Addr) (c n : Nat) (hn : n = 33) (hc : n ≤ c) (m : Int) (w : World) (hr : Kd.C (Kd.int .i64) w A zkT.length zkT) :
    Calls Tryd.prog 30 #[.slice A n c, .int .i64 m] w fun e w' => e = .returned (.int .i64 (cV m)) ∧ Drawn0 w w' := by
  subst hn
  exact spec_l11C.calls A c zkT m (cV m) w hr hc (l11C_eq m)
def winV (i : Nat) : Int := cV (31 - 2 * (i : Int))
def winL : List Int := tab 32 winV
theorem winL_length : winL.length = 32 := by unfold winL; rw [tab_length]
set_option maxHeartbeats 40000000 in
theorem win_impl (w : World) (hT : KT w) :
    Calls Tryd.prog 19 #[] w fun e w' => ∃ v : Value, e = .returned v ∧ Kd.R (Kd.int .i64) 3 w' w.heap.size (fun _ => True) v winL ∧ Below w.heap.size w w' := by
  have HT := Aside0.mk hT
  have HB := Aside0.mk (Below.refl w.heap.size w)
  clear hT
  go_enter Tryd.func19, Tryd.ntmps19
  go_wp2
  go_loopg [1, 3] 32 (fun q v1 v3 w' => ∃ (i : Nat) (out : List Int), v3 = .int .i64 (i : Int) ∧ Aside0 (i + q = 32) ∧ Aside0 (out.length = i) ∧ Aside0 (out = tab i winV) ∧ Aside0 (Kd.R (Kd.int .i64) 3 w' w.heap.size (fun _ => True) v1 out) ∧ Aside0 (Below w.heap.size w w'))
  case atStart => exact ⟨0, [], rfl, ⟨by omega⟩, ⟨rfl⟩, ⟨by simp [tab]⟩, ⟨Kd.R_nil _ _ _ _ _⟩, HB⟩
  case round =>
    clear HB
    obtain ⟨i, out, rfl, Q, L, G, HO, HB⟩ := hrel
    by_cases c0 : i < 32
    · obtain ⟨q, rfl⟩ : ∃ q, gk = q + 1 := ⟨gk - 1, by have := Q.out; omega⟩
      obtain ⟨y, hy⟩ : ∃ y, y = cV (31 - 2 * (i : Int)) := ⟨_, rfl⟩
      have G2 : Aside0 (out ++ [y] = tab (i + 1) winV) := ⟨by rw [tab_succ, G.out, hy]; rfl⟩
      have HY := Aside0.mk hy
      clear hy
      go_wp2_with (first | (go_at_call 31; refine (zc_calls _ _ (HT.out.stay HB.out)).mono ?_; rw [← HY.out]; rintro e w1 ⟨rfl, rfl⟩) | (at_builtin; refine Kd.R_append (Kd.int .i64) (w0 := w) w.heap.size rfl (.tmp 6) (.tmp 11) 22 3 (.int .i64 0) 8 rfl Tryd.underlying22 info3 rfl (by decide) (by omega) u1 (out) (y) [.int .i64 (y)] (fun _ => True) (fun _ => False) rfl rfl ?aP2 (fun _ hk => hk.elim) ?aF2 ?aO2 ?aB2 ?aS2 ?aL2 ?_; (case aP2 => exact rfl); (case aB2 => exact HB.out); (case aF2 => exact fun _ _ => trivial); (case aO2 => exact HO.out); (case aS2 => exact below_size (HB.out)); (case aL2 => have := L.out; have := Q.out; omega); intro v1 w1 ho hb hg hat; have HO2 := Aside0.mk ho; have HB2 := Aside0.mk hb; clear ho hb hg hat HO HB))
      go_roundg q
      case measure => omega
      case rel => exact ⟨i + 1, out ++ [_], by go_num, ⟨by have := Q.out; omega⟩, ⟨by have := L.out; simp; omega⟩, G2, HO2, HB2⟩
    · have E2 : Aside0 (out = winL) := ⟨by unfold winL; rw [G.out, show i = 32 by have := Q.out; omega]⟩
      go_wp2
      go_ret
      rw [E2.out] at HO
      exact ⟨_, rfl, HO.out, HB.out⟩
set_option maxHeartbeats 40000000 in
theorem win_spec (w : World) :
    Calls Tryd.prog 18 #[] w fun e w' => ∃ v : Value, e = .returned v ∧ Kd.R (Kd.int .i64) 3 w' w.heap.size (fun _ => True) v winL ∧ Below w.heap.size w w' := by
  go_enter Tryd.func18, Tryd.ntmps18
  go_wp2_with fail
  refine (spec_l11Table.calls zkT _ rfl).mono ?_
  rintro e wk ⟨v1, rfl, ho, hb⟩
  obtain ⟨Ak, ck, rfl⟩ := R_slice_n (n := 33) ho rfl
  have hck : 33 ≤ ck := (R_cells ho).2.1
  have HK : Aside0 (Kd.C (Kd.int .i64) wk Ak zkT.length zkT) := ⟨(R_cells ho).2.2⟩
  have HBK := Aside0.mk hb
  clear ho hb
  go_wp2_with ((with_reducible refine gate_dst (N := 5) rfl ?_); (refine Kd.R_make (Kd.int .i64) (w0 := wk) wk.heap.size 3 rfl (N := 5) rfl 22 _ _ rfl (32 : Int) rfl rfl Tryd.underlying22 (.int .i64 0) 8 info3 rfl (by decide) (by omega) 0 (ok := fun _ => True) (okp := fun _ => True) rfl (fun _ hk => hk) trivial (by omega) (by omega) ?mB1 ?mS1 ?_); (case mB1 => first | exact Below.refl _ _ | exact HB.out); (case mS1 => first | exact Nat.le_refl _ | exact below_size HB.out); intro v1 w1 ho hb hg hn; (try rw [Int.toNat_natCast] at ho); obtain ⟨A1, c1, rfl⟩ := R_slice_n (n := 32) ho (by simp); have HO := Aside0.mk ho; have HB := Aside0.mk hb; clear ho hb hg hn)
  go_loopg [8] 32 (fun q v8 w' => ∃ (i : Nat) (x : List Int), v8 = .int .i64 (i : Int) ∧ Aside0 (i + q = 32) ∧ Aside0 (Part 32 i x winV (fun _ => 0)) ∧ Aside0 (Kd.R (Kd.int .i64) 3 w' wk.heap.size (fun _ => True) (.slice A1 32 c1) x) ∧ Aside0 (Below wk.heap.size wk w'))
  case atStart => exact ⟨0, _, rfl, ⟨by omega⟩, ⟨Part.zeros _ _⟩, HO, HB⟩
  case round =>
    clear HO HB
    obtain ⟨i, x, rfl, Q, PT, HO, HB⟩ := hrel
    by_cases c0 : i < 32
    · obtain ⟨q, rfl⟩ : ∃ q, gk = q + 1 := ⟨gk - 1, by have := Q.out; omega⟩
      have xl : x.length = 32 := PT.out.1
      have HKC := Aside0.mk (Kd.C_below HK.out HB.out)
      obtain ⟨y, hy⟩ : ∃ y, y = cV (31 - 2 * (i : Int)) := ⟨_, rfl⟩
      have PT2 := Aside0.mk (PT.out.set c0 (v := y) (by rw [hy]; rfl))
      have HY := Aside0.mk hy
      clear hy
      go_wp2_with fail
      refine (l11C_callsN _ _ _ rfl hck _ _ HKC.out).mono ?_
      rw [← HY.out]
      rintro e w2 ⟨rfl, ⟨nd, rfl⟩⟩
      have HO2 := Aside0.mk (Kd.R_drewN HO.out nd)
      have HB2 := Aside0.mk (pw_below_drewN HB.out nd)
      clear HO HB HKC
      obtain ⟨g, cap, e2, gb, gl, cl, hg⟩ := Kd.R_form HO2.out (by omega)
      rw [xl] at e2
      cases e2
      obtain ⟨hx, hfz⟩ := Kd.R_celln 0 HO2.out (i : Int) (by omega) (by omega)
      rw [Int.toNat_natCast] at hx hfz
      have GB := Aside0.mk gb
      have HP := Aside0.mk (Kd.R_putn HO2.out (i : Int) y)
      clear gb gl hg xl
      go_wp2
      go_roundg q
      case measure => omega
      case rel => exact ⟨i + 1, _, by go_num, ⟨by have := Q.out; omega⟩, PT2, HP, ⟨below_set HB2.out GB.out⟩⟩
    · have E2 : Aside0 (x = winL) := ⟨by have h := PT.out; rw [show i = 32 by have := Q.out; omega] at h; exact h.done⟩
      go_wp2
      go_ret
      rw [E2.out] at HO
      exact ⟨_, rfl, Kd.R_lower HO.out (size_le HBK.out), below_step HBK.out HB.out⟩
end Go.Proofs.YtkhpcclddkddmaaDoor.Wk
