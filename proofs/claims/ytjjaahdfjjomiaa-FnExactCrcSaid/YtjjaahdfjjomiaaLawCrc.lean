/- A walk of this seat's own: the law FnExactCrc returns true for every byte string. -/
import Derived.Test.YtjjaahdfjjomiaaWkCrc
import Derived.Test.YtjjaahdfjjomiaaPFnExactUnpackRowx1
namespace Go.Proofs.Ytjjaahdfjjomiaa.Wk
open Go.RowKit Go.Proofs.YtjjaahdfjjomiaaW.PrintWords Go.Proofs.YtjjaahdfjjomiaaW.PrintLast Go.Proofs.YtjjaahdfjjomiaaW.PrintMore Go.Proofs.Ytjjaahdfjjomiaa.My
open Go.Proofs.Ytjjaahdfjjomiaa.PFnExactUnpackRow
set_option linter.unusedVariables false
set_option linter.unusedSimpArgs false
attribute [local congr] bind_left ite_left
theorem toByteS_l0 (x0 : List Int) (hl : x0.length ≤ 1152921504606846976) (d : Nat) : ∀ (k : Nat) (x3 : List Int) (i : Nat), x3.length = x0.length → i + d = x0.length → d < k → (∀ j, j < i → x3[j]? = x0[j]?) →
    laws_toByteS.l0 k x0 x3 (i : Int) = some x0 := by
  induction d with
  | zero =>
    intro k x3 i h3 hi hk hj
    obtain ⟨k, rfl⟩ : ∃ m, k = m + 1 := ⟨k - 1, by omega⟩
    simp only [laws_toByteS.l0]
    rw [if_neg (by omega)]
    congr 1
    refine List.ext_getElem? fun j => ?_
    by_cases h : j < i
    · exact hj j h
    · rw [List.getElem?_eq_none (by omega), List.getElem?_eq_none (by omega)]
  | succ d ih =>
    intro k x3 i h3 hi hk hj
    obtain ⟨k, rfl⟩ : ∃ m, k = m + 1 := ⟨k - 1, by omega⟩
    simp only [laws_toByteS.l0]
    rw [if_pos (by omega), if_pos (by omega), if_pos (by omega), wrap64_nat (by omega)]
    refine ih k _ (i + 1) (by simpa using h3) (by omega) (by omega) fun j hji => ?_
    rw [rd_lt (show i < x0.length by omega), Int.toNat_natCast, List.getElem?_set]
    split
    · rename_i h
      subst h
      rw [if_pos (by omega), List.getElem?_eq_getElem (by omega)]
    · exact hj j (by omega)
/-- The copy reads as the list. -/
theorem toByteS_eq (k : Nat) (l : List Int) (hl : l.length ≤ 1048576) (hk : l.length < k) : laws_toByteS.f k l = some l := by
  unfold laws_toByteS.f
  rw [if_pos (by omega), if_pos (by omega)]
  exact toByteS_l0 l (by omega) l.length k _ 0 (by simp) (by omega) hk (by omega)
theorem eqByteS_l0 (x : List Int) (hl : x.length ≤ 1152921504606846976) (d : Nat) : ∀ (k : Nat) (i : Nat), i + d = x.length → d < k → laws_eqByteS.l0 k x x (i : Int) = some true := by
  induction d with
  | zero =>
    intro k i hi hk
    obtain ⟨k, rfl⟩ : ∃ m, k = m + 1 := ⟨k - 1, by omega⟩
    simp only [laws_eqByteS.l0]
    rw [if_neg (by omega)]
  | succ d ih =>
    intro k i hi hk
    obtain ⟨k, rfl⟩ : ∃ m, k = m + 1 := ⟨k - 1, by omega⟩
    simp only [laws_eqByteS.l0]
    rw [if_pos (by omega), if_pos (by omega), if_pos (by omega), if_pos trivial, wrap64_nat (by omega)]
    exact ih k (i + 1) (by omega) (by omega)
theorem eqByteS_eq (k : Nat) (l : List Int) (hl : l.length ≤ 1152921504606846976) (hk : l.length < k) : laws_eqByteS.f k l l = some true := by
  unfold laws_eqByteS.f
  rw [if_pos rfl]
  exact eqByteS_l0 l hl l.length k 0 (by omega) hk
theorem R_span {α : Type} {d : Kd α} {e : Nat} {w1 : World} {base : Nat} {ok : Nat → Prop} {v : Value} {xs : List α} (h : d.R e w1 base ok v xs) : d.R e w1 base (fun k => base ≤ k ∧ k < w1.heap.size) v xs :=
  Kd.R_mono (Kd.R_bound h) (fun k hk => ⟨hk.2.1, hk.2.2.1⟩)
theorem R_cells {α : Type} {d : Kd α} {e : Nat} {w1 : World} {base : Nat} {ok : Nat → Prop} {A : Option Addr} {n c : Nat} {xs : List α} (h : d.R e w1 base ok (.slice A n c) xs) : n = xs.length ∧ n ≤ c ∧ d.C w1 A xs.length xs := Kd.R_reads' h
theorem size_le {B : Nat} {w w1 : World} (h : Below B w w1) : w.heap.size ≤ w1.heap.size := h.size
/-- A cell of old memory. -/
theorem cell_stay {w w1 : World} (hb : Below w.heap.size w w1) {a : Addr} {v : Value} (h : w.cell? a = some v) : w1.cell? a = some v := pw_cell_below hb h
theorem R_slice_n {α : Type} {d : Kd α} {e : Nat} {w : World} {base n : Nat} {ok : Nat → Prop} {v : Value} {xs : List α} (h : d.R e w base ok v xs) (hl : xs.length = n) : ∃ A c, v = .slice A n c := by
  obtain ⟨A, c, e⟩ := Kd.R_slice h
  exact ⟨A, c, by rw [e, hl]⟩
set_option maxHeartbeats 4000000 in
theorem law_crc (A : Option Addr) (c : Nat) (l : List Int) (hm : l.length ≤ maxLen) (hby : ∀ x ∈ l, (Lit.int .u8 x).wf = true) (w : World) (hc : l.length ≤ c) (hr : Kd.C (Kd.int .u8) w A l.length l) :
    Calls Try.prog 7 #[.slice A l.length c] w fun e w' => e = .returned (.bool true) ∧ Below w.heap.size w w' := by
  by_cases h : 1048576 < l.length
  · go_enter Try.func7, Try.ntmps7
    go_wp2
    go_ret
    exact ⟨rfl, Below.refl _ _⟩
  have hl : l.length ≤ 1048576 := by omega
  have HR := Aside0.mk hr
  have HBY := Aside0.mk hby
  obtain ⟨x, hx⟩ : ∃ x, x = crcOf l := ⟨_, rfl⟩
  have HX := Aside0.mk hx
  clear hr hby hm hx
  go_enter Try.func7, Try.ntmps7
  go_wp2_with fail
  refine (laws_toByteS.calls 1048600 A c l l _ HR.out hc (toByteS_eq _ l (by omega) (by omega))).mono ?_
  rintro e w1 ⟨v1, rfl, ho, hb⟩
  obtain ⟨A1, c1, rfl⟩ := Kd.R_slice ho
  have S1 := Aside0.mk ho
  have B1 := Aside0.mk hb
  clear ho hb
  go_wp2_with fail
  refine (crc_spec A1 c1 l hl HBY.out _ (R_cells S1.out).2.2).mono ?_
  rw [← HX.out]
  rintro e w2 ⟨rfl, ⟨n2, rfl⟩⟩
  clear S1
  go_wp2_with fail
  refine (laws_toByteS.calls 1048600 A c l l _ (Kd.C_drewN (Kd.C_below HR.out B1.out) _) hc (toByteS_eq _ l (by omega) (by omega))).mono ?_
  rintro e w3 ⟨v3, rfl, ho, hb⟩
  obtain ⟨A3, c3, rfl⟩ := Kd.R_slice ho
  have S3 := Aside0.mk ho
  have B3 := Aside0.mk (below_step (pw_below_drewN B1.out n2) hb)
  clear ho hb B1
  go_wp2_with fail
  refine (crc_impl A3 c3 l hl HBY.out _ (R_cells S3.out).2.2).mono ?_
  rw [← HX.out]
  rintro e w4 ⟨rfl, ⟨n4, rfl⟩⟩
  go_wp2_with fail
  refine (laws_toByteS.calls 1048600 A c l l _ (Kd.C_drewN (Kd.C_below HR.out B3.out) _) hc (toByteS_eq _ l (by omega) (by omega))).mono ?_
  rintro e w5 ⟨v5, rfl, ho, hb⟩
  obtain ⟨A5, c5, rfl⟩ := Kd.R_slice ho
  have S5 := Aside0.mk ho
  have T3 := Aside0.mk (Kd.R_below (Kd.R_drewN S3.out n4) hb)
  have B5 := Aside0.mk (below_step (pw_below_drewN B3.out n4) hb)
  clear ho hb S3 B3
  go_wp2_with fail
  refine (laws_eqByteS.calls 1048600 A3 c3 l A5 c5 l true _ (R_cells T3.out).2.2 (R_cells T3.out).2.1 (R_cells S5.out).2.2 (R_cells S5.out).2.1 (eqByteS_eq _ _ (by omega) (by omega))).mono ?_
  rintro e w6 ⟨rfl, ⟨n6, rfl⟩⟩
  go_wp2_with fail
  go_ret
  exact ⟨rfl, pw_below_drewN B5.out _⟩
end Go.Proofs.Ytjjaahdfjjomiaa.Wk
