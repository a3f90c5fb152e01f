/- A walk of this seat's own: the law FnExactGetNumber returns true for every byte string and every place. -/
import Derived.Test.YtjjaahdfjjomiaaWkGet
import Derived.Test.YtjjaahdfjjomiaaPFnExactTakeLowx1
import Derived.Outline
namespace Go.Proofs.Ytjjaahdfjjomiaa.Wk
open Go.RowKit Go.Proofs.YtjjaahdfjjomiaaW.PrintWords Go.Proofs.YtjjaahdfjjomiaaW.PrintLast Go.Proofs.YtjjaahdfjjomiaaW.PrintMore Go.Proofs.Ytjjaahdfjjomiaa.My
open Go.Proofs.Ytjjaahdfjjomiaa.PFnExactTakeLow
set_option linter.unusedVariables false
set_option linter.unusedSimpArgs false
attribute [local congr] bind_left ite_left
theorem toByteS_l0 (x0 : List Int) (hl : x0.length ≤ 1152921504606846976) (d : Nat) : ∀ (k : Nat) (x3 : List Int) (i : Nat), x3.length = x0.length → i + d = x0.length → d < k → (∀ j, j < i → x3[j]? = x0[j]?) →
    laws_toByteS.l0 k x0 x3 (i : Int) = some x0 := by
  induction d with
  | zero =>
    intro k x3 i h3 hi hk hj
    obtain ⟨k, rfl⟩ : ∃ m, k = m + 1 := ⟨k - 1, by omega⟩
    simp only [laws_toByteS.l0]
    rw [if_neg (by omega)]
    congr 1
    refine List.ext_getElem? fun j => ?_
    by_cases h : j < i
    · exact hj j h
    · rw [List.getElem?_eq_none (by omega), List.getElem?_eq_none (by omega)]
  | succ d ih =>
    intro k x3 i h3 hi hk hj
    obtain ⟨k, rfl⟩ : ∃ m, k = m + 1 := ⟨k - 1, by omega⟩
    simp only [laws_toByteS.l0]
    rw [if_pos (by omega), if_pos (by omega), if_pos (by omega), wrap64_nat (by omega)]
    refine ih k _ (i + 1) (by simpa using h3) (by omega) (by omega) fun j hji => ?_
    rw [rd_lt (show i < x0.length by omega), Int.toNat_natCast, List.getElem?_set]
    split
    · rename_i h
      subst h
      rw [if_pos (by omega), List.getElem?_eq_getElem (by omega)]
    · exact hj j (by omega)
/-- The copy reads as the list. -/
theorem toByteS_eq (k : Nat) (l : List Int) (hl : l.length ≤ 1048576) (hk : l.length < k) : laws_toByteS.f k l = some l := by
  unfold laws_toByteS.f
  rw [if_pos (by omega), if_pos (by omega)]
  exact toByteS_l0 l (by omega) l.length k _ 0 (by simp) (by omega) hk (by omega)
theorem eqByteS_l0 (x : List Int) (hl : x.length ≤ 1152921504606846976) (d : Nat) : ∀ (k : Nat) (i : Nat), i + d = x.length → d < k → laws_eqByteS.l0 k x x (i : Int) = some true := by
  induction d with
  | zero =>
    intro k i hi hk
    obtain ⟨k, rfl⟩ : ∃ m, k = m + 1 := ⟨k - 1, by omega⟩
    simp only [laws_eqByteS.l0]
    rw [if_neg (by omega)]
  | succ d ih =>
    intro k i hi hk
    obtain ⟨k, rfl⟩ : ∃ m, k = m + 1 := ⟨k - 1, by omega⟩
    simp only [laws_eqByteS.l0]
    rw [if_pos (by omega), if_pos (by omega), if_pos (by omega), if_pos trivial, wrap64_nat (by omega)]
    exact ih k (i + 1) (by omega) (by omega)
theorem eqByteS_eq (k : Nat) (l : List Int) (hl : l.length ≤ 1152921504606846976) (hk : l.length < k) : laws_eqByteS.f k l l = some true := by
  unfold laws_eqByteS.f
  rw [if_pos rfl]
  exact eqByteS_l0 l hl l.length k 0 (by omega) hk
theorem R_span {α : Type} {d : Kd α} {e : Nat} {w1 : World} {base : Nat} {ok : Nat → Prop} {v : Value} {xs : List α} (h : d.R e w1 base ok v xs) : d.R e w1 base (fun k => base ≤ k ∧ k < w1.heap.size) v xs :=
  Kd.R_mono (Kd.R_bound h) (fun k hk => ⟨hk.2.1, hk.2.2.1⟩)
theorem R_cells {α : Type} {d : Kd α} {e : Nat} {w1 : World} {base : Nat} {ok : Nat → Prop} {A : Option Addr} {n c : Nat} {xs : List α} (h : d.R e w1 base ok (.slice A n c) xs) : n = xs.length ∧ n ≤ c ∧ d.C w1 A xs.length xs := Kd.R_reads' h
theorem size_le {B : Nat} {w w1 : World} (h : Below B w w1) : w.heap.size ≤ w1.heap.size := h.size
/-- A cell of old memory. -/
theorem cell_stay {w w1 : World} (hb : Below w.heap.size w w1) {a : Addr} {v : Value} (h : w.cell? a = some v) : w1.cell? a = some v := pw_cell_below hb h
theorem get_spec_neg (A : Option Addr) (c n : Nat) (a : Int) (ha : a < 0) (w : World) : Calls Try.prog 30 #[.slice A n c, .int .i64 a] w fun e w' => e = .returned (numV noNum) ∧ Below w.heap.size w w' := by
  have hA : decide (a < 0) = true := decide_eq_true ha
  go_enter Try.func30, Try.ntmps30
  (go_wp2; refine bodyPost_ret (v := .agg #[.bool false, .int .u64 0, .int .i64 0]) (by simp [results, Try.results30, go_sem]) rfl ⟨rfl, ?_⟩; repeat (first | exact Below.refl _ _ | apply pw_below_drewN | apply below_drew | apply below_alloc | refine below_set ?_ (Nat.le_refl _)))
theorem get_impl_neg (A : Option Addr) (c n : Nat) (a : Int) (ha : a < 0) (w : World) : Calls Try.prog 31 #[.slice A n c, .int .i64 a] w fun e w' => e = .returned (numV noNum) ∧ Below w.heap.size w w' := by
  have hA : decide (a < 0) = true := decide_eq_true ha
  go_enter Try.func31, Try.ntmps31
  (go_wp2; refine bodyPost_ret (v := .agg #[.bool false, .int .u64 0, .int .i64 0]) (by simp [results, Try.results31, go_sem]) rfl ⟨rfl, ?_⟩; repeat (first | exact Below.refl _ _ | apply pw_below_drewN | apply below_drew | apply below_alloc | refine below_set ?_ (Nat.le_refl _)))
/-- What both tell. -/
def told (l : List Int) (a : Int) : Bool × Int × Int := if a < 0 then noNum else getR l a 10 0 0
theorem get_spec' (A : Option Addr) (c : Nat) (l : List Int) (a : Int) (ha2 : a ≤ 9223372036854775807) (hl : l.length ≤ 1048576) (hby : ∀ x ∈ l, (Lit.int .u8 x).wf = true) (w : World) (hc : l.length ≤ c) (hr : Kd.C (Kd.int .u8) w A l.length l) :
    Calls Try.prog 30 #[.slice A l.length c, .int .i64 a] w fun e w' => e = .returned (numV (told l a)) ∧ Below w.heap.size w w' := by
  unfold told
  by_cases h : a < 0
  · rw [if_pos h]
    exact get_spec_neg A c _ a h w
  · rw [if_neg h]
    exact get_spec A c l a (by omega) ha2 hl hby w hc hr
theorem get_impl' (A : Option Addr) (c : Nat) (l : List Int) (a : Int) (ha2 : a ≤ 9223372036854775807) (hl : l.length ≤ 1048576) (hby : ∀ x ∈ l, (Lit.int .u8 x).wf = true) (w : World) (hc : l.length ≤ c) (hr : Kd.C (Kd.int .u8) w A l.length l) :
    Calls Try.prog 31 #[.slice A l.length c, .int .i64 a] w fun e w' => e = .returned (numV (told l a)) ∧ Below w.heap.size w w' := by
  unfold told
  by_cases h : a < 0
  · rw [if_pos h]
    exact get_impl_neg A c _ a h w
  · rw [if_neg h]
    exact get_impl A c l a (by omega) ha2 hl hby w hc hr
set_option maxHeartbeats 2000000 in
theorem law_get (A : Option Addr) (c : Nat) (l : List Int) (a : Int) (ha2 : a ≤ 9223372036854775807) (hm : l.length ≤ maxLen) (hby : ∀ x ∈ l, (Lit.int .u8 x).wf = true) (w : World) (hc : l.length ≤ c) (hr : Kd.C (Kd.int .u8) w A l.length l) :
    Calls Try.prog 10 #[.slice A l.length c, .int .i64 a] w fun e w' => e = .returned (.bool true) ∧ Below w.heap.size w w' := by
  by_cases h : 1048576 < l.length
  · go_enter Try.func10, Try.ntmps10
    go_wp2
    go_ret
    exact ⟨rfl, Below.refl _ _⟩
  have hl : l.length ≤ 1048576 := by omega
  have HR := Aside0.mk hr
  have HBY := Aside0.mk hby
  have HA := Aside0.mk ha2
  obtain ⟨x, hx⟩ : ∃ x, x = told l a := ⟨_, rfl⟩
  obtain ⟨x0, x1, x2⟩ := x
  have HX := Aside0.mk hx
  clear hr hby ha2 hx hm
  go_enter Try.func10, Try.ntmps10
  go_wp2_with fail
  refine (laws_toByteS.calls 1048600 A c l l _ HR.out hc (toByteS_eq _ l (by omega) (by omega))).mono ?_
  rintro e w1 ⟨v1, rfl, ho, hb⟩
  obtain ⟨A1, c1, rfl⟩ := Kd.R_slice ho
  have S1 := Aside0.mk (R_span ho)
  have B1 := Aside0.mk hb
  clear ho hb
  go_wp2_with fail
  refine (get_spec' A1 c1 l a HA.out hl HBY.out _ (R_cells S1.out).2.1 (R_cells S1.out).2.2).mono ?_
  rintro e w2 ⟨rfl, hb⟩
  rw [← HX.out]
  have B2 := Aside0.mk (B1.out.trans (hb.mono (size_le B1.out)))
  clear hb S1 B1
  simp only [numV]
  go_wp2_with fail
  refine (laws_toByteS.calls 1048600 A c l l _ ?r hc (toByteS_eq _ l (by omega) (by omega))).mono ?_
  case r => exact Kd.C_below HR.out (below_alloc B2.out _)
  rintro e w3 ⟨v3, rfl, ho, hb⟩
  obtain ⟨A3, c3, rfl⟩ := Kd.R_slice ho
  have S3 := Aside0.mk (R_span ho)
  have g0 : w3.cell? ⟨w2.heap.size, 0, none⟩ = some (.bool x0) := cell_stay hb (by simp)
  have g1 : w3.cell? ⟨w2.heap.size, 1, none⟩ = some (.int .u64 x1) := cell_stay hb (by simp)
  have g2 : w3.cell? ⟨w2.heap.size, 2, none⟩ = some (.int .i64 x2) := cell_stay hb (by simp)
  have z1 : w2.heap.size < w3.heap.size := by have := size_le hb; simp at this; omega
  have B3 := Aside0.mk (below_step (below_alloc B2.out _) hb)
  clear ho hb B2
  go_wp2_with fail
  refine (get_impl' A3 c3 l a HA.out hl HBY.out _ (R_cells S3.out).2.1 (R_cells S3.out).2.2).mono ?_
  rintro e w4 ⟨rfl, hb⟩
  rw [← HX.out]
  have g0' : w4.cell? ⟨w2.heap.size, 0, none⟩ = some (.bool x0) := cell_stay hb g0
  have g1' : w4.cell? ⟨w2.heap.size, 1, none⟩ = some (.int .u64 x1) := cell_stay hb g1
  have g2' : w4.cell? ⟨w2.heap.size, 2, none⟩ = some (.int .i64 x2) := cell_stay hb g2
  have z2 : w2.heap.size < w4.heap.size := by have := size_le hb; omega
  have B4 := Aside0.mk (below_step B3.out hb)
  have T3 := Aside0.mk (Kd.R_below S3.out hb)
  clear hb S3 B3 g0 g1 g2 z1
  simp only [numV]
  go_wp2_with fail
  refine (laws_eqNumber.calls x0 x1 x2 x0 x1 x2 true _ (by simp [laws_eqNumber.f])).mono ?_
  rintro e w5 ⟨rfl, hb⟩
  have B5 := Aside0.mk (below_step (below_alloc B4.out _) hb)
  have T5 := Aside0.mk (Kd.R_below (Kd.R_alloc T3.out _) hb)
  clear hb B4 T3 g0' g1' g2'
  go_wp2_with fail
  refine (laws_toByteS.calls 1048600 A c l l _ (Kd.C_below HR.out B5.out) hc (toByteS_eq _ l (by omega) (by omega))).mono ?_
  rintro e w6 ⟨v6, rfl, ho, hb⟩
  obtain ⟨A6, c6, rfl⟩ := Kd.R_slice ho
  have S6 := Aside0.mk (R_span ho)
  have T6 := Aside0.mk (Kd.R_below T5.out hb)
  have B6 := Aside0.mk (below_step B5.out hb)
  clear ho hb T5 B5
  go_wp2_with fail
  refine (laws_eqByteS.calls 1048600 A3 c3 l A6 c6 l true _ (R_cells T6.out).2.2 (R_cells T6.out).2.1 (R_cells S6.out).2.2 (R_cells S6.out).2.1 (eqByteS_eq _ _ (by omega) (by omega))).mono ?_
  rintro e w7 ⟨rfl, ⟨nd, rfl⟩⟩
  go_wp2_with fail
  go_ret
  exact ⟨rfl, pw_below_drewN B6.out _⟩
end Go.Proofs.Ytjjaahdfjjomiaa.Wk
