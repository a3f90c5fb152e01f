/- Walks of this seat's own: what the reference's Powers comes to. -/
import Derived.Test.YtdijjadoneeadaaDoorWkWvC
namespace Go.Proofs.YtdijjadoneeadaaDoor.Wk
open Go.RowKit Go.Proofs.YtdijjadoneeadaaDoorW.PrintWords Go.Proofs.YtdijjadoneeadaaDoorW.PrintLast Go.Proofs.YtdijjadoneeadaaDoorW.PrintMore Go.Proofs.YtdijjadoneeadaaDoor.My Go.Proofs.YtdijjadoneeadaaDoor.Wv Go.Proofs.YtdijjadoneeadaaDoor.Fl
open Go.Proofs.YtdijjadoneeadaaDoor.PFnExactPowers
set_option linter.unusedVariables false
set_option linter.unusedSimpArgs false
attribute [local congr] bind_left ite_left
attribute [local go_sem] run_store_float
/-- The power of a wave. -/
def pw2 (x : Nat × Nat) : Nat := addT (mulT x.1 x.1) (mulT x.2 x.2)
def pwV (x : Nat × Nat) : Int := (floatToIntVal .f64 (divT (pw2 x) w256) .i64).getD 0
structure Pw (x : Nat × Nat) : Prop where
  m1 : Ieee.double.mul x.1 x.1 = some (mulT x.1 x.1)
  m2 : Ieee.double.mul x.2 x.2 = some (mulT x.2 x.2)
  s : Ieee.double.add (mulT x.1 x.1) (mulT x.2 x.2) = some (pw2 x)
  q : Ieee.double.div (pw2 x) w256 = some (divT (pw2 x) w256)
  n : floatToIntVal .f64 (divT (pw2 x) w256) .i64 = some (pwV x)
theorem pw_ok {x : Nat × Nat} (h : Sw 23 x) : Pw x := by
  obtain ⟨e1, s1⟩ := mul_ok h.1 h.1 (by omega) (by omega)
  obtain ⟨e2, s2⟩ := mul_ok h.2 h.2 (by omega) (by omega)
  obtain ⟨e3, s3⟩ := add_ok s1 s2 (by omega)
  obtain ⟨e4, s4⟩ := div_ok (B := 40) (s3.up (show 23 + 23 + 1 ≤ 40 + 7 by omega)) (by omega)
  obtain ⟨n, e5, _⟩ := toInt_sm s4 (by omega)
  have e6 : floatToIntVal .f64 (divT (pw2 x) w256) .i64 = some (pwV x) := by
    have : floatToIntVal .f64 (divT (pw2 x) w256) .i64 = some n := e5
    unfold pwV
    rw [this]
    rfl
  exact ⟨e1, e2, e3, e4, e6⟩
/-- A float cut to a whole number. -/
theorem fcv {b : Nat} {n : Int} (h : floatToIntVal .f64 b .i64 = some n) : ∀ w : World, (convert 32 3 (.float .f64 b)).run Tryd.prog w = .ok (.int .i64 n) w :=
  fun w => run_convert_float_int w 32 3 .f64 .i64 b n (by rw [Tryd.underlying32]; rfl) Tryd.underlying3 h
def powL (l : List Int) : Nat → Int := fun i => pwV (waves l i)
set_option maxRecDepth 100000 in
set_option maxHeartbeats 40000000 in
theorem pow_spec (A0 : Option Addr) (c0 : Nat) (l0 : List Int) (w : World) (hc0 : l0.length ≤ c0) (hr0 : Kd.C (Kd.int .i64) w A0 l0.length l0) (hok : okL l0) :
    Calls Tryd.prog 15 #[.slice A0 l0.length c0] w fun e w' => ∃ v : Value, e = .returned v ∧ Kd.R (Kd.int .i64) 3 w' w.heap.size (fun _ => True) v (tab 8 (powL l0)) ∧ Below w.heap.size w w' := by
  have OK := Aside0.mk hok
  have SOK := Aside0.mk (st_ok (okL_abs hok) 4 (by omega))
  have WS := Aside0.mk (waves_spec A0 c0 l0 w hc0 hr0 hok)
  clear hok hr0
  go_enter Tryd.func15, Tryd.ntmps15
  go_wp2_with fail
  refine WS.out.mono ?_
  rintro e wv ⟨g, c, rfl, hge, hrow, hb⟩
  have HW := Aside0.mk hrow
  have HB1 := Aside0.mk hb
  clear hrow hb hge WS
  go_wp2_with ((with_reducible refine gate_dst (N := 11) rfl ?_); (refine Kd.R_make (Kd.int .i64) (w0 := wv) wv.heap.size 3 rfl (N := 11) rfl 22 _ _ rfl (8 : Int) rfl rfl Tryd.underlying22 (.int .i64 0) 8 info3 rfl (by decide) (by omega) 0 (ok := fun _ => True) (okp := fun _ => True) rfl (fun _ hk => hk) trivial (by omega) (by omega) ?mB1 ?mS1 ?_); (case mB1 => first | exact Below.refl _ _ | exact HB.out); (case mS1 => first | exact Nat.le_refl _ | exact below_size HB.out); intro v1 w1 ho hb hg hn; (try rw [Int.toNat_natCast] at ho); obtain ⟨A1, c1, rfl⟩ := R_slice_n (n := 8) ho (by simp); have HO := Aside0.mk ho; have HB := Aside0.mk hb; clear ho hb hg hn)
  go_loopg [14] 8 (fun q v14 w' => ∃ (i : Nat) (x : List Int), v14 = .int .i64 (i : Int) ∧ Aside0 (i + q = 8) ∧ Aside0 (Part 8 i x (powL l0) (fun _ => 0)) ∧ Aside0 (Kd.R (Kd.int .i64) 3 w' wv.heap.size (fun _ => True) (.slice A1 8 c1) x) ∧ Aside0 (Below wv.heap.size wv w'))
  case atStart => exact ⟨0, _, rfl, ⟨by omega⟩, ⟨Part.zeros _ _⟩, HO, HB⟩
  case round =>
    clear HO HB
    obtain ⟨i, x, rfl, Q, PT, HO, HB⟩ := hrel
    by_cases c0 : i < 8
    · obtain ⟨q, rfl⟩ : ∃ q, gk = q + 1 := ⟨gk - 1, by have := Q.out; omega⟩
      have xl : x.length = 8 := PT.out.1
      obtain ⟨gb, cap, e2, gbb, gl, cl, hg⟩ := Kd.R_form HO.out (by omega)
      rw [xl] at e2
      cases e2
      obtain ⟨hx, hfz⟩ := Kd.R_celln 0 HO.out (i : Int) (by omega) (by omega)
      rw [Int.toNat_natCast] at hx hfz
      have GB := Aside0.mk gbb
      clear gbb gl hg xl
      have PW := Aside0.mk (pw_ok (SOK.out i (by omega)))
      obtain ⟨ca1, ca2, fa1, fa2⟩ := (HW.out.below HB.out).cell i (by omega)
      obtain ⟨y, hy⟩ : ∃ y, y = powL l0 i := ⟨_, rfl⟩
      have PT2 := Aside0.mk (PT.out.set c0 hy)
      obtain ⟨D, hD⟩ : ∃ D, D = waves l0 i := ⟨_, rfl⟩
      have hst : st l0 4 i = D := hD.symm
      rw [← hD] at ca1 ca2
      rw [hst] at PW
      have fm1 := fop (op := .mul) PW.out.m1
      have fm2 := fop (op := .mul) PW.out.m2
      have fs := fop (op := .add) PW.out.s
      have fq : ∀ w : World, (binOp .quo 32 (.float .f64 (pw2 D)) (.float .f64 4643211215818981376)).run Tryd.prog w = .ok (.float .f64 (divT (pw2 D) w256)) w := fop (op := .quo) PW.out.q
      have fc := fcv PW.out.n
      have yD : y = pwV D := by rw [hy, hD]; rfl
      rw [← yD] at fc
      have i0 : (0 : Int) ≤ (i : Int) := by omega
      have i16 : (i : Int) < 16 := by omega
      clear hy hst yD hD
      go_wp2
      go_quiet (fail)
      go_wp2
      go_quiet (fail)
      go_wp2
      go_roundg q
      case measure => omega
      case rel => exact ⟨i + 1, _, by go_num, ⟨by have := Q.out; omega⟩, PT2, ⟨Kd.R_putn (Kd.R_drewN HO.out _) (i : Int) y⟩, ⟨below_set (pw_below_drewN HB.out _) GB.out⟩⟩
    · have E2 : Aside0 (x = tab 8 (powL l0)) := ⟨by have h := PT.out; rw [show i = 8 by have := Q.out; omega] at h; exact h.done⟩
      go_wp2
      go_ret
      rw [E2.out] at HO
      exact ⟨_, rfl, Kd.R_lower HO.out (size_le HB1.out), below_step HB1.out HB.out⟩
open Classical in
/-- What both Powers come to. -/
noncomputable def pwL (l : List Int) : List Int := if okL l then tab 8 (powL l) else []
theorem pwL_length (l : List Int) : (pwL l).length ≤ 8 := by
  unfold pwL
  split
  · rw [tab_length]; omega
  · simp
set_option maxRecDepth 100000 in
set_option maxHeartbeats 40000000 in
theorem powers_spec (A0 : Option Addr) (c0 : Nat) (l0 : List Int) (hl0 : l0.length ≤ 1048576) (w : World) (hc0 : l0.length ≤ c0) (hr0 : Kd.C (Kd.int .i64) w A0 l0.length l0) :
    Calls Tryd.prog 5 #[.slice A0 l0.length c0] w fun e w' => ∃ v : Value, e = .returned v ∧ Kd.R (Kd.int .i64) 3 w' w.heap.size (fun _ => True) v (pwL l0) ∧ Below w.heap.size w w' := by
  have HR := Aside0.mk hr0
  have ZS := Aside0.mk (spec_l11Samples.calls (l0.length + 1) A0 c0 l0 16 _ w hr0 hc0 (l11Samples_eq _ l0 hl0 (by omega)))
  clear hr0
  by_cases hok : okL l0
  · have OK := Aside0.mk hok
    have E : Aside0 (pwL l0 = tab 8 (powL l0)) := ⟨by unfold pwL; rw [if_pos hok]⟩
    clear hok
    go_enter Tryd.func5, Tryd.ntmps5
    go_wp2_with fail
    refine ZS.out.mono ?_
    rw [(okL_iff l0).2 OK.out]
    rintro e w1 ⟨rfl, ⟨nd, rfl⟩⟩
    go_wp2_with fail
    refine (pow_spec A0 c0 l0 _ hc0 (Kd.C_drewN HR.out nd) OK.out).mono ?_
    rintro e w2 ⟨v, rfl, ho, hb⟩
    have HO := Aside0.mk ho
    have HB := Aside0.mk (below_step (pw_below_drewN (Below.refl w.heap.size w) nd) hb)
    clear ho hb
    go_wp2
    go_ret
    rw [E.out]
    exact ⟨_, rfl, HO.out, HB.out⟩
  · have E : Aside0 (pwL l0 = []) := ⟨by unfold pwL; rw [if_neg hok]⟩
    have F : Aside0 ((inB (-32768) 32767 l0 && ((l0.length : Int) == 16)) = false) := ⟨by
      rcases h : (inB (-32768) 32767 l0 && ((l0.length : Int) == 16)) with _ | _
      · rfl
      · exact absurd ((okL_iff l0).1 h) hok⟩
    clear hok
    go_enter Tryd.func5, Tryd.ntmps5
    go_wp2_with fail
    refine ZS.out.mono ?_
    rw [F.out]
    rintro e w1 ⟨rfl, ⟨nd, rfl⟩⟩
    go_wp2
    go_ret
    rw [E.out]
    exact ⟨_, rfl, Kd.R_nil _ _ _ _ _, pw_below_drewN (Below.refl _ _) _⟩
end Go.Proofs.YtdijjadoneeadaaDoor.Wk
