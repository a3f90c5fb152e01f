/- A walk of this seat's own: the law FnExactUnpackRow returns true for every byte string, count and depth. -/
import Derived.Test.YtjjaahdfjjomiaaWkIntS
import Derived.Test.YtjjaahdfjjomiaaPFnExactUnpackRowx1
namespace Go.Proofs.Ytjjaahdfjjomiaa.Wk
open Go.RowKit Go.Proofs.YtjjaahdfjjomiaaW.PrintWords Go.Proofs.YtjjaahdfjjomiaaW.PrintLast Go.Proofs.YtjjaahdfjjomiaaW.PrintMore Go.Proofs.Ytjjaahdfjjomiaa.My
open Go.Proofs.Ytjjaahdfjjomiaa.PFnExactUnpackRow
set_option linter.unusedVariables false
set_option linter.unusedSimpArgs false
attribute [local congr] bind_left ite_left
theorem toByteS_l0 (x0 : List Int) (hl : x0.length ≤ 1152921504606846976) (d : Nat) : ∀ (k : Nat) (x3 : List Int) (i : Nat), x3.length = x0.length → i + d = x0.length → d < k → (∀ j, j < i → x3[j]? = x0[j]?) →
    laws_toByteS.l0 k x0 x3 (i : Int) = some x0 := by
  induction d with
  | zero =>
    intro k x3 i h3 hi hk hj
    obtain ⟨k, rfl⟩ : ∃ m, k = m + 1 := ⟨k - 1, by omega⟩
    simp only [laws_toByteS.l0]
    rw [if_neg (by omega)]
    congr 1
    refine List.ext_getElem? fun j => ?_
    by_cases h : j < i
    · exact hj j h
    · rw [List.getElem?_eq_none (by omega), List.getElem?_eq_none (by omega)]
  | succ d ih =>
    intro k x3 i h3 hi hk hj
    obtain ⟨k, rfl⟩ : ∃ m, k = m + 1 := ⟨k - 1, by omega⟩
    simp only [laws_toByteS.l0]
    rw [if_pos (by omega), if_pos (by omega), if_pos (by omega), wrap64_nat (by omega)]
    refine ih k _ (i + 1) (by simpa using h3) (by omega) (by omega) fun j hji => ?_
    rw [rd_lt (show i < x0.length by omega), Int.toNat_natCast, List.getElem?_set]
    split
    · rename_i h
      subst h
      rw [if_pos (by omega), List.getElem?_eq_getElem (by omega)]
    · exact hj j (by omega)
/-- The copy reads as the list. -/
theorem toByteS_eq (k : Nat) (l : List Int) (hl : l.length ≤ 1048576) (hk : l.length < k) : laws_toByteS.f k l = some l := by
  unfold laws_toByteS.f
  rw [if_pos (by omega), if_pos (by omega)]
  exact toByteS_l0 l (by omega) l.length k _ 0 (by simp) (by omega) hk (by omega)
theorem eqByteS_l0 (x : List Int) (hl : x.length ≤ 1152921504606846976) (d : Nat) : ∀ (k : Nat) (i : Nat), i + d = x.length → d < k → laws_eqByteS.l0 k x x (i : Int) = some true := by
  induction d with
  | zero =>
    intro k i hi hk
    obtain ⟨k, rfl⟩ : ∃ m, k = m + 1 := ⟨k - 1, by omega⟩
    simp only [laws_eqByteS.l0]
    rw [if_neg (by omega)]
  | succ d ih =>
    intro k i hi hk
    obtain ⟨k, rfl⟩ : ∃ m, k = m + 1 := ⟨k - 1, by omega⟩
    simp only [laws_eqByteS.l0]
    rw [if_pos (by omega), if_pos (by omega), if_pos (by omega), if_pos trivial, wrap64_nat (by omega)]
    exact ih k (i + 1) (by omega) (by omega)
theorem eqByteS_eq (k : Nat) (l : List Int) (hl : l.length ≤ 1152921504606846976) (hk : l.length < k) : laws_eqByteS.f k l l = some true := by
  unfold laws_eqByteS.f
  rw [if_pos rfl]
  exact eqByteS_l0 l hl l.length k 0 (by omega) hk
theorem markByteS_l0 (n : Nat) (hn : n ≤ 1152921504606846976) (d : Nat) : ∀ (k : Nat) (x : List Int) (a : Int) (i : Nat), x.length = n → i + d = n → d < k → 0 ≤ a → a + d ≤ 9223372036854775806 →
    laws_markByteS.l0 k x a (i : Int) = some (a + d, x.take i ++ upB a d) := by
  induction d with
  | zero =>
    intro k x a i hx hi hk h0 ha
    obtain ⟨k, rfl⟩ : ∃ m, k = m + 1 := ⟨k - 1, by omega⟩
    simp only [laws_markByteS.l0]
    rw [if_neg (by omega), List.take_of_length_le (by omega)]
    simp [upB]
  | succ d ih =>
    intro k x a i hx hi hk h0 ha
    obtain ⟨k, rfl⟩ : ∃ m, k = m + 1 := ⟨k - 1, by omega⟩
    simp only [laws_markByteS.l0]
    rw [if_pos (by omega), if_pos (by omega), wrap64_nat (by omega), wrap64_id (n := a + 1) (by omega) (by omega), Int.toNat_natCast, ih k _ (a + 1) (i + 1) (by simpa using hx) (by omega) (by omega) (by omega) (by omega), take_set_succ _ _ _ (by omega)]
    rw [show a + 1 + (d : Int) = a + ((d + 1 : Nat) : Int) from by omega]
    simp [upB]
theorem markByteS_eq (k : Nat) (l : List Int) (a : Int) (hl : l.length ≤ 1152921504606846976) (hk : l.length < k) (h0 : 0 ≤ a) (ha : a ≤ 1152921504606846976) : laws_markByteS.f k l a = some (a + l.length, upB a l.length) := by
  unfold laws_markByteS.f
  exact markByteS_l0 l.length hl l.length k l a 0 rfl (by omega) hk h0 (by omega)
set_option maxHeartbeats 4000000 in
theorem law_unpack (A : Option Addr) (c : Nat) (l : List Int) (m d : Int) (hm : l.length ≤ maxLen) (hby : ∀ x ∈ l, (Lit.int .u8 x).wf = true) (w : World) (hc : l.length ≤ c) (hr : Kd.C (Kd.int .u8) w A l.length l) :
    Calls Try.prog 14 #[.slice A l.length c, .int .i64 m, .int .i64 d] w fun e w' => e = .returned (.bool true) ∧ Below w.heap.size w w' := by
  by_cases h : 1048576 < l.length
  · go_enter Try.func14, Try.ntmps14
    go_wp2
    go_ret
    exact ⟨rfl, Below.refl _ _⟩
  have hl : l.length ≤ 1048576 := by omega
  have HR := Aside0.mk hr
  have HBY := Aside0.mk hby
  obtain ⟨G, hG⟩ : ∃ G, G = unpack l m d := ⟨_, rfl⟩
  have gl : G.length ≤ 4096 := by rw [hG]; exact unpack_length l m d
  have HG := Aside0.mk hG
  clear hr hby hG hm
  go_enter Try.func14, Try.ntmps14
  go_wp2_with fail
  refine (laws_toByteS.calls 1048600 A c l l _ HR.out hc (toByteS_eq _ l (by omega) (by omega))).mono ?_
  rintro e w1 ⟨v1, rfl, ho, hb⟩
  obtain ⟨A1, c1, rfl⟩ := Kd.R_slice ho
  have S1 := Aside0.mk ho
  have B1 := Aside0.mk hb
  clear ho hb
  go_wp2_with fail
  refine (unpack_spec A1 c1 l m d hl HBY.out _ (R_cells S1.out).2.1 (R_cells S1.out).2.2).mono ?_
  rintro e w2 ⟨v2, rfl, ho, hb⟩
  rw [← HG.out] at ho
  obtain ⟨A2, c2, rfl⟩ := Kd.R_slice ho
  have S2 := Aside0.mk (R_span ho)
  have B2 := Aside0.mk (below_step B1.out hb)
  clear ho hb S1 B1
  go_wp2_with fail
  refine (laws_toByteS.calls 1048600 A c l l _ (Kd.C_below HR.out B2.out) hc (toByteS_eq _ l (by omega) (by omega))).mono ?_
  rintro e w3 ⟨v3, rfl, ho, hb⟩
  obtain ⟨A3, c3, rfl⟩ := Kd.R_slice ho
  have S3 := Aside0.mk (R_span ho)
  have T2 := Aside0.mk (Kd.R_below S2.out hb)
  have B3 := Aside0.mk (below_step B2.out hb)
  have z2 := Aside0.mk (size_le B2.out)
  have z3 := Aside0.mk (size_le hb)
  clear ho hb S2 B2
  go_wp2_with fail
  refine (unpack_impl A3 c3 l m d hl HBY.out _ (R_cells S3.out).2.1 (R_cells S3.out).2.2).mono ?_
  rintro e w4 ⟨v4, rfl, ho, hb⟩
  rw [← HG.out] at ho
  obtain ⟨A4, c4, rfl⟩ := Kd.R_slice ho
  have S4 := Aside0.mk (R_span ho)
  have U2 := Aside0.mk (Kd.R_below T2.out hb)
  have U3 := Aside0.mk (Kd.R_below S3.out hb)
  have B4 := Aside0.mk (below_step B3.out hb)
  have z4 := Aside0.mk (size_le hb)
  clear ho hb T2 S3 B3
  go_wp2_with fail
  refine (eqI_calls A4 A2 c4 c2 G _ (by omega) (R_cells S4.out).2.2 (R_cells U2.out).2.2).mono ?_
  rintro e w5 ⟨rfl, ⟨n5, rfl⟩⟩
  go_wp2_with fail
  refine (laws_toByteS.calls 1048600 A c l l _ (Kd.C_drewN (Kd.C_below HR.out B4.out) _) hc (toByteS_eq _ l (by omega) (by omega))).mono ?_
  rintro e w6 ⟨v6, rfl, ho, hb⟩
  obtain ⟨A6, c6, rfl⟩ := Kd.R_slice ho
  have S6 := Aside0.mk ho
  have T2 := Aside0.mk (Kd.R_below (Kd.R_drewN U2.out n5) hb)
  have T3 := Aside0.mk (Kd.R_below (Kd.R_drewN U3.out n5) hb)
  have T4 := Aside0.mk (Kd.R_below (Kd.R_drewN S4.out n5) hb)
  have B6 := Aside0.mk (below_step (pw_below_drewN B4.out n5) hb)
  have z6 := Aside0.mk (size_le hb)
  clear ho hb U2 U3 S4 B4
  go_wp2_with fail
  refine (laws_eqByteS.calls 1048600 A3 c3 l A6 c6 l true _ (R_cells T3.out).2.2 (R_cells T3.out).2.1 (R_cells S6.out).2.2 (R_cells S6.out).2.1 (eqByteS_eq _ _ (by omega) (by omega))).mono ?_
  rintro e w7 ⟨rfl, ⟨n7, rfl⟩⟩
  clear S6
  go_wp2_with fail
  refine (laws_markByteS.calls 1048600 (fun k => w2.heap.size ≤ k ∧ k < w3.heap.size) _ l 1 _ _ w _ ?b ?r (markByteS_eq _ _ _ (by omega) (by omega) (by decide) (by decide))).mono ?_
  case b => exact pw_below_drewN B6.out _
  case r => exact Kd.R_drewN (Kd.R_lower T3.out z2.out) _
  rintro e w8 ⟨rfl, ho, hb, hk⟩
  have U2 := Aside0.mk (Kd.R_kept (Kd.R_drewN T2.out n7) hk (fun k h => by omega))
  have U4 := Aside0.mk (Kd.R_kept (Kd.R_drewN T4.out n7) hk (fun k h => by omega))
  have B8 := Aside0.mk hb
  have z8 := Aside0.mk hk.1
  clear ho hb hk T2 T3 T4 B6
  go_wp2_with fail
  refine (eqI_calls A4 A2 c4 c2 G _ (by omega) (R_cells U4.out).2.2 (R_cells U2.out).2.2).mono ?_
  rintro e w9 ⟨rfl, ⟨n9, rfl⟩⟩
  go_wp2_with fail
  refine (markI_calls w3.heap.size (fun k => w3.heap.size ≤ k ∧ k < w4.heap.size) A4 c4 G 1 w _ (by decide) (by decide) (by omega) (Kd.R_drewN U4.out _) (pw_below_drewN B8.out _) (fun k h => by have := z2.out; have := z3.out; omega)).mono ?_
  rintro e w10 ⟨rfl, ho, hk, hb⟩
  have T2 := Aside0.mk (Kd.R_kept (Kd.R_drewN U2.out n9) hk (fun k h => by have := z3.out; omega))
  have T4 := Aside0.mk ho
  have B10 := Aside0.mk hb
  clear ho hb hk U2 U4 B8
  go_wp2_with fail
  refine (heldI_calls A4 c4 G.length 1 (by decide) (by decide) (by omega) _ (by have := (R_cells T4.out).2.2; rwa [upI_length] at this)).mono ?_
  rintro e w11 ⟨rfl, ⟨n11, rfl⟩⟩
  go_wp2_with fail
  refine (laws_toByteS.calls 1048600 A c l l _ (Kd.C_drewN (Kd.C_below HR.out B10.out) _) hc (toByteS_eq _ l (by omega) (by omega))).mono ?_
  rintro e w12 ⟨v12, rfl, ho, hb⟩
  obtain ⟨A12, c12, rfl⟩ := Kd.R_slice ho
  have S12 := Aside0.mk ho
  have U2 := Aside0.mk (Kd.R_below (Kd.R_drewN T2.out n11) hb)
  have U4 := Aside0.mk (Kd.R_below (Kd.R_drewN T4.out n11) hb)
  have B12 := Aside0.mk (below_step (pw_below_drewN B10.out n11) hb)
  clear ho hb T2 T4 B10
  go_wp2_with fail
  refine (unpack_impl A12 c12 l m d hl HBY.out _ (R_cells S12.out).2.1 (R_cells S12.out).2.2).mono ?_
  rintro e w13 ⟨v13, rfl, ho, hb⟩
  rw [← HG.out] at ho
  obtain ⟨A13, c13, rfl⟩ := Kd.R_slice ho
  have S13 := Aside0.mk ho
  have T2 := Aside0.mk (Kd.R_below U2.out hb)
  have T4 := Aside0.mk (Kd.R_below U4.out hb)
  have B13 := Aside0.mk (below_step B12.out hb)
  clear ho hb U2 U4 B12 S12
  go_wp2_with fail
  refine (eqI_calls A13 A2 c13 c2 G _ (by omega) (R_cells S13.out).2.2 (R_cells T2.out).2.2).mono ?_
  rintro e w14 ⟨rfl, ⟨n14, rfl⟩⟩
  go_wp2_with fail
  refine (heldI_calls A4 c4 G.length 1 (by decide) (by decide) (by omega) _ (by have := (R_cells (Kd.R_drewN T4.out n14)).2.2; rwa [upI_length] at this)).mono ?_
  rintro e w15 ⟨rfl, ⟨n15, rfl⟩⟩
  go_wp2_with fail
  go_ret
  exact ⟨rfl, pw_below_drewN B13.out _⟩
end Go.Proofs.Ytjjaahdfjjomiaa.Wk
