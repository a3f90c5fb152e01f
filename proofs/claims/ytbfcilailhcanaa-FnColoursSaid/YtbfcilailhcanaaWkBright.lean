/- Walks of this seat's own: what the two Bright and the two Unbright come to. -/
import Derived.Test.YtbfcilailhcanaaPFnExactLiftx
import Derived.Test.YtbfcilailhcanaaMy
import Derived.Outline
import Derived.BigQuiet
namespace Go.Proofs.Ytbfcilailhcanaa.Wk
open Go.RowKit Go.Proofs.YtbfcilailhcanaaW.PrintWords Go.Proofs.YtbfcilailhcanaaW.PrintLast Go.Proofs.YtbfcilailhcanaaW.PrintMore Go.Proofs.Ytbfcilailhcanaa.My
set_option linter.unusedVariables false
set_option linter.unusedSimpArgs false
theorem R_span {α : Type} {d : Kd α} {e : Nat} {w1 : World} {base : Nat} {ok : Nat → Prop} {v : Value} {xs : List α} (h : d.R e w1 base ok v xs) : d.R e w1 base (fun k => base ≤ k ∧ k < w1.heap.size) v xs :=
  Kd.R_mono (Kd.R_bound h) (fun k hk => ⟨hk.2.1, hk.2.2.1⟩)
theorem R_cells {α : Type} {d : Kd α} {e : Nat} {w1 : World} {base : Nat} {ok : Nat → Prop} {A : Option Addr} {n c : Nat} {xs : List α} (h : d.R e w1 base ok (.slice A n c) xs) : n = xs.length ∧ n ≤ c ∧ d.C w1 A xs.length xs := Kd.R_reads' h
theorem size_le {B : Nat} {w w1 : World} (h : Below B w w1) : w.heap.size ≤ w1.heap.size := h.size
/-- A cell of old memory. -/
theorem cell_stay {w w1 : World} (hb : Below w.heap.size w w1) {a : Addr} {v : Value} (h : w.cell? a = some v) : w1.cell? a = some v := pw_cell_below hb h
theorem R_slice_n {α : Type} {d : Kd α} {e : Nat} {w : World} {base n : Nat} {ok : Nat → Prop} {v : Value} {xs : List α} (h : d.R e w base ok v xs) (hl : xs.length = n) : ∃ A c, v = .slice A n c := by
  obtain ⟨A, c, e⟩ := Kd.R_slice h
  exact ⟨A, c, by rw [e, hl]⟩
attribute [local go_sem] max2_int min2_int max_two min_two
def clipI (a : Int) : Int := if a < 0 then 0 else if 255 < a then 255 else a
theorem clipI_b (a : Int) : 0 ≤ clipI a ∧ clipI a ≤ 255 := by unfold clipI; split <;> (try split) <;> omega
/-- The reference's clip. -/
theorem clip_spec (a : Int) (w : World) : Calls Try.prog 56 #[.int .i64 a] w fun e w' => e = .returned (.int .i64 (clipI a)) ∧ Drawn0 w w' := by
  unfold clipI
  by_cases h : a < 0
  · rw [if_pos h]
    go_enter Try.func56, Try.ntmps56
    go_wp2
    go_ret
    exact ⟨rfl, by repeat (first | exact Drawn0.refl _ | apply Drawn0.step)⟩
  · rw [if_neg h]
    by_cases h2 : 255 < a
    · rw [if_pos h2]
      go_enter Try.func56, Try.ntmps56
      go_wp2
      go_ret
      exact ⟨rfl, by repeat (first | exact Drawn0.refl _ | apply Drawn0.step)⟩
    · rw [if_neg h2]
      go_enter Try.func56, Try.ntmps56
      go_wp2
      go_ret
      exact ⟨rfl, by repeat (first | exact Drawn0.refl _ | apply Drawn0.step)⟩
/-- The program's. -/
theorem clip_impl (a : Int) (w : World) : Calls Try.prog 57 #[.int .i64 a] w fun e w' => e = .returned (.int .i64 (clipI a)) ∧ Drawn0 w w' := by
  have e1 : mx 0 (mn a 255) = clipI a := by unfold mx mn clipI; repeat (first | split | omega)
  rw [← e1]
  clear e1
  go_enter Try.func57, Try.ntmps57
  go_wp2
  all_goals
    go_ret
    exact ⟨by first | rfl | (unfold mx mn; simp; omega), by repeat (first | exact Drawn0.refl _ | apply Drawn0.step)⟩
def brV (x y z : Int) : Value := .agg #[.int .i64 x, .int .i64 y, .int .i64 z]
def br1 (r g b : Int) : Int := clipI ((77 * r + 150 * g + 29 * b + 128) / 256)
def br2 (r g b : Int) : Int := clipI ((-43 * r - 85 * g + 128 * b + 128) / 256 + 128)
def br3 (r g b : Int) : Int := clipI ((128 * r - 107 * g - 21 * b + 128) / 256 + 128)
def ub1 (y u v : Int) : Int := clipI (y + (359 * (v - 128) + 128) / 256)
def ub2 (y u v : Int) : Int := clipI (y - (88 * (u - 128) + 183 * (v - 128) + 128) / 256)
def ub3 (y u v : Int) : Int := clipI (y + (454 * (u - 128) + 128) / 256)
set_option maxHeartbeats 4000000 in
theorem bright_spec (a b c : Int) (w : World) : Calls Try.prog 21 #[.agg #[.int .i64 a, .int .i64 b, .int .i64 c]] w fun e w' => e = .returned (brV (br1 (clipI a) (clipI b) (clipI c)) (br2 (clipI a) (clipI b) (clipI c)) (br3 (clipI a) (clipI b) (clipI c))) ∧ Below w.heap.size w w' := by
  obtain ⟨ra, hra⟩ : ∃ x, x = clipI a := ⟨_, rfl⟩
  obtain ⟨rb, hrb⟩ : ∃ x, x = clipI b := ⟨_, rfl⟩
  obtain ⟨rc, hrc⟩ : ∃ x, x = clipI c := ⟨_, rfl⟩
  have b1 := clipI_b a
  have b2 := clipI_b b
  have b3 := clipI_b c
  rw [← hra] at b1 ⊢
  rw [← hrb] at b2 ⊢
  rw [← hrc] at b3 ⊢
  have HA := Aside0.mk hra
  have HB := Aside0.mk hrb
  have HC := Aside0.mk hrc
  clear hra hrb hrc
  have i1 := Aside0.mk (rfl : br1 ra rb rc = br1 ra rb rc)
  go_enter Try.func21, Try.ntmps21
  go_wp2_with fail
  refine (clip_spec _ _).mono ?_
  rw [← HA.out]
  rintro e w1 ⟨rfl, n0, rfl⟩
  go_wp2_with fail
  refine (clip_spec _ _).mono ?_
  rw [← HB.out]
  rintro e w1 ⟨rfl, n1, rfl⟩
  go_wp2_with fail
  refine (clip_spec _ _).mono ?_
  rw [← HC.out]
  rintro e w1 ⟨rfl, n2, rfl⟩
  go_wp2_with fail
  refine (clip_spec _ _).mono ?_
  rintro e w1 ⟨rfl, n3, rfl⟩
  go_wp2_with fail
  refine (clip_spec _ _).mono ?_
  rintro e w1 ⟨rfl, n4, rfl⟩
  go_wp2_with fail
  refine (clip_spec _ _).mono ?_
  rintro e w1 ⟨rfl, n5, rfl⟩
  go_wp2_with fail
  refine bodyPost_ret (v := brV (br1 ra rb rc) (br2 ra rb rc) (br3 ra rb rc)) (by simp [results, Try.results21, go_sem, brV, br1, br2, br3]) rfl ⟨rfl, ?_⟩
  repeat (first | exact Below.refl _ _ | apply pw_below_drewN | apply below_drew | apply below_alloc | refine below_set ?_ (Nat.le_succ _))
set_option maxHeartbeats 4000000 in
theorem unbright_spec (a b c : Int) (w : World) : Calls Try.prog 23 #[.agg #[.int .i64 a, .int .i64 b, .int .i64 c]] w fun e w' => e = .returned (brV (ub1 (clipI a) (clipI b) (clipI c)) (ub2 (clipI a) (clipI b) (clipI c)) (ub3 (clipI a) (clipI b) (clipI c))) ∧ Below w.heap.size w w' := by
  obtain ⟨ra, hra⟩ : ∃ x, x = clipI a := ⟨_, rfl⟩
  obtain ⟨rb, hrb⟩ : ∃ x, x = clipI b := ⟨_, rfl⟩
  obtain ⟨rc, hrc⟩ : ∃ x, x = clipI c := ⟨_, rfl⟩
  have b1 := clipI_b a
  have b2 := clipI_b b
  have b3 := clipI_b c
  rw [← hra] at b1 ⊢
  rw [← hrb] at b2 ⊢
  rw [← hrc] at b3 ⊢
  have HA := Aside0.mk hra
  have HB := Aside0.mk hrb
  have HC := Aside0.mk hrc
  clear hra hrb hrc
  have i1 := Aside0.mk (rfl : ub1 ra rb rc = ub1 ra rb rc)
  go_enter Try.func23, Try.ntmps23
  go_wp2_with fail
  refine (clip_spec _ _).mono ?_
  rw [← HA.out]
  rintro e w1 ⟨rfl, n0, rfl⟩
  go_wp2_with fail
  refine (clip_spec _ _).mono ?_
  rw [← HB.out]
  rintro e w1 ⟨rfl, n1, rfl⟩
  go_wp2_with fail
  refine (clip_spec _ _).mono ?_
  rw [← HC.out]
  rintro e w1 ⟨rfl, n2, rfl⟩
  go_wp2_with fail
  refine (clip_spec _ _).mono ?_
  rintro e w1 ⟨rfl, n3, rfl⟩
  go_wp2_with fail
  refine (clip_spec _ _).mono ?_
  rintro e w1 ⟨rfl, n4, rfl⟩
  go_wp2_with fail
  refine (clip_spec _ _).mono ?_
  rintro e w1 ⟨rfl, n5, rfl⟩
  go_wp2_with fail
  refine bodyPost_ret (v := brV (ub1 ra rb rc) (ub2 ra rb rc) (ub3 ra rb rc)) (by simp [results, Try.results23, go_sem, brV, ub1, ub2, ub3]) rfl ⟨rfl, ?_⟩
  repeat (first | exact Below.refl _ _ | apply pw_below_drewN | apply below_drew | apply below_alloc | refine below_set ?_ (Nat.le_succ _))
set_option maxHeartbeats 4000000 in
theorem bright_impl (a b c : Int) (w : World) : Calls Try.prog 22 #[.agg #[.int .i64 a, .int .i64 b, .int .i64 c]] w fun e w' => e = .returned (brV (br1 (clipI a) (clipI b) (clipI c)) (br2 (clipI a) (clipI b) (clipI c)) (br3 (clipI a) (clipI b) (clipI c))) ∧ Below w.heap.size w w' := by
  obtain ⟨ra, hra⟩ : ∃ x, x = clipI a := ⟨_, rfl⟩
  obtain ⟨rb, hrb⟩ : ∃ x, x = clipI b := ⟨_, rfl⟩
  obtain ⟨rc, hrc⟩ : ∃ x, x = clipI c := ⟨_, rfl⟩
  have b1 := clipI_b a
  have b2 := clipI_b b
  have b3 := clipI_b c
  rw [← hra] at b1 ⊢
  rw [← hrb] at b2 ⊢
  rw [← hrc] at b3 ⊢
  have HA := Aside0.mk hra
  have HB := Aside0.mk hrb
  have HC := Aside0.mk hrc
  clear hra hrb hrc
  have i1 := Aside0.mk (rfl : br1 ra rb rc = br1 ra rb rc)
  have CA : Aside0 (∀ w : World, Calls Try.prog 57 #[.int .i64 a] w fun e w' => e = .returned (.int .i64 ra) ∧ ∃ m, w' = w.drewN m) := ⟨fun w => by rw [HA.out]; exact (clip_impl a w).mono (by rintro e w' ⟨he, n, hn⟩; exact ⟨he, n, hn⟩)⟩
  have CB : Aside0 (∀ w : World, Calls Try.prog 57 #[.int .i64 b] w fun e w' => e = .returned (.int .i64 rb) ∧ ∃ m, w' = w.drewN m) := ⟨fun w => by rw [HB.out]; exact (clip_impl b w).mono (by rintro e w' ⟨he, n, hn⟩; exact ⟨he, n, hn⟩)⟩
  have CC : Aside0 (∀ w : World, Calls Try.prog 57 #[.int .i64 c] w fun e w' => e = .returned (.int .i64 rc) ∧ ∃ m, w' = w.drewN m) := ⟨fun w => by rw [HC.out]; exact (clip_impl c w).mono (by rintro e w' ⟨he, n, hn⟩; exact ⟨he, n, hn⟩)⟩
  go_enter Try.func22, Try.ntmps22
  go_wp2
  go_quiet ((go_at_call 57; first | exact Calls.quiet_of (CA.out _) | exact Calls.quiet_of (CB.out _) | exact Calls.quiet_of (CC.out _)))
  go_wp2_with fail
  refine (clip_impl _ _).mono ?_
  rintro e w1 ⟨rfl, n3, rfl⟩
  go_wp2_with fail
  refine (clip_impl _ _).mono ?_
  rintro e w1 ⟨rfl, n4, rfl⟩
  go_wp2_with fail
  refine (clip_impl _ _).mono ?_
  rintro e w1 ⟨rfl, n5, rfl⟩
  go_wp2_with fail
  refine bodyPost_ret (v := brV (br1 ra rb rc) (br2 ra rb rc) (br3 ra rb rc)) (by simp [results, Try.results22, go_sem, brV, br1, br2, br3]) rfl ⟨rfl, ?_⟩
  repeat (first | exact Below.refl _ _ | apply pw_below_drewN | apply below_drew | apply below_alloc | refine below_set ?_ (Nat.le_succ _))
set_option maxHeartbeats 4000000 in
theorem unbright_impl (a b c : Int) (w : World) : Calls Try.prog 24 #[.agg #[.int .i64 a, .int .i64 b, .int .i64 c]] w fun e w' => e = .returned (brV (ub1 (clipI a) (clipI b) (clipI c)) (ub2 (clipI a) (clipI b) (clipI c)) (ub3 (clipI a) (clipI b) (clipI c))) ∧ Below w.heap.size w w' := by
  obtain ⟨ra, hra⟩ : ∃ x, x = clipI a := ⟨_, rfl⟩
  obtain ⟨rb, hrb⟩ : ∃ x, x = clipI b := ⟨_, rfl⟩
  obtain ⟨rc, hrc⟩ : ∃ x, x = clipI c := ⟨_, rfl⟩
  have b1 := clipI_b a
  have b2 := clipI_b b
  have b3 := clipI_b c
  rw [← hra] at b1 ⊢
  rw [← hrb] at b2 ⊢
  rw [← hrc] at b3 ⊢
  have HA := Aside0.mk hra
  have HB := Aside0.mk hrb
  have HC := Aside0.mk hrc
  clear hra hrb hrc
  have i1 := Aside0.mk (rfl : ub1 ra rb rc = ub1 ra rb rc)
  have CA : Aside0 (∀ w : World, Calls Try.prog 57 #[.int .i64 a] w fun e w' => e = .returned (.int .i64 ra) ∧ ∃ m, w' = w.drewN m) := ⟨fun w => by rw [HA.out]; exact (clip_impl a w).mono (by rintro e w' ⟨he, n, hn⟩; exact ⟨he, n, hn⟩)⟩
  have CB : Aside0 (∀ w : World, Calls Try.prog 57 #[.int .i64 b] w fun e w' => e = .returned (.int .i64 rb) ∧ ∃ m, w' = w.drewN m) := ⟨fun w => by rw [HB.out]; exact (clip_impl b w).mono (by rintro e w' ⟨he, n, hn⟩; exact ⟨he, n, hn⟩)⟩
  have CC : Aside0 (∀ w : World, Calls Try.prog 57 #[.int .i64 c] w fun e w' => e = .returned (.int .i64 rc) ∧ ∃ m, w' = w.drewN m) := ⟨fun w => by rw [HC.out]; exact (clip_impl c w).mono (by rintro e w' ⟨he, n, hn⟩; exact ⟨he, n, hn⟩)⟩
  go_enter Try.func24, Try.ntmps24
  go_wp2
  go_quiet ((go_at_call 57; first | exact Calls.quiet_of (CA.out _) | exact Calls.quiet_of (CB.out _) | exact Calls.quiet_of (CC.out _)))
  go_wp2_with fail
  refine (clip_impl _ _).mono ?_
  rintro e w1 ⟨rfl, n3, rfl⟩
  go_wp2_with fail
  refine (clip_impl _ _).mono ?_
  rintro e w1 ⟨rfl, n4, rfl⟩
  go_wp2_with fail
  refine (clip_impl _ _).mono ?_
  rintro e w1 ⟨rfl, n5, rfl⟩
  go_wp2_with fail
  refine bodyPost_ret (v := brV (ub1 ra rb rc) (ub2 ra rb rc) (ub3 ra rb rc)) (by simp [results, Try.results24, go_sem, brV, ub1, ub2, ub3]) rfl ⟨rfl, ?_⟩
  repeat (first | exact Below.refl _ _ | apply pw_below_drewN | apply below_drew | apply below_alloc | refine below_set ?_ (Nat.le_succ _))
set_option maxHeartbeats 4000000 in
theorem law_bright (a b c : Int) (w : World) : Calls Try.prog 5 #[.agg #[.int .i64 a, .int .i64 b, .int .i64 c]] w fun e w' => e = .returned (.bool true) ∧ Below w.heap.size w w' := by
  obtain ⟨x, hx⟩ : ∃ x, x = br1 (clipI a) (clipI b) (clipI c) := ⟨_, rfl⟩
  obtain ⟨y, hy⟩ : ∃ x, x = br2 (clipI a) (clipI b) (clipI c) := ⟨_, rfl⟩
  obtain ⟨z, hz⟩ : ∃ x, x = br3 (clipI a) (clipI b) (clipI c) := ⟨_, rfl⟩
  have HX := Aside0.mk hx
  have HY := Aside0.mk hy
  have HZ := Aside0.mk hz
  clear hx hy hz
  go_enter Try.func5, Try.ntmps5
  go_wp2_with fail
  refine (PFnExactLift.laws_toTriple.calls a b c a b c _ rfl).mono ?_
  rintro e w1 ⟨rfl, hb⟩
  have f0 : w1.cell? ⟨w.heap.size, 0, none⟩ = some (.int .i64 a) := cell_stay hb (by simp)
  have f1 : w1.cell? ⟨w.heap.size, 1, none⟩ = some (.int .i64 b) := cell_stay hb (by simp)
  have f2 : w1.cell? ⟨w.heap.size, 2, none⟩ = some (.int .i64 c) := cell_stay hb (by simp)
  have z1 : w.heap.size < w1.heap.size := by have := size_le hb; simp at this; omega
  have B1 := Aside0.mk (below_step (below_alloc (Below.refl _ _) _) hb)
  clear hb
  go_wp2_with fail
  refine (bright_spec a b c _).mono ?_
  rintro e w2 ⟨rfl, hb⟩
  rw [← HX.out, ← HY.out, ← HZ.out]
  simp only [brV]
  have g0 : w2.cell? ⟨w.heap.size, 0, none⟩ = some (.int .i64 a) := cell_stay hb f0
  have g1 : w2.cell? ⟨w.heap.size, 1, none⟩ = some (.int .i64 b) := cell_stay hb f1
  have g2 : w2.cell? ⟨w.heap.size, 2, none⟩ = some (.int .i64 c) := cell_stay hb f2
  have z2 : w.heap.size < w2.heap.size := by have := size_le hb; omega
  have B2 := Aside0.mk (below_step B1.out hb)
  clear hb f0 f1 f2 z1 B1
  go_wp2_with fail
  refine (PFnExactLift.laws_toTriple.calls a b c a b c _ rfl).mono ?_
  rintro e w3 ⟨rfl, hb⟩
  have h0 : w3.cell? ⟨w2.heap.size, 0, none⟩ = some (.int .i64 x) := cell_stay hb (by simp)
  have h1 : w3.cell? ⟨w2.heap.size, 1, none⟩ = some (.int .i64 y) := cell_stay hb (by simp)
  have h2 : w3.cell? ⟨w2.heap.size, 2, none⟩ = some (.int .i64 z) := cell_stay hb (by simp)
  have z3 : w2.heap.size < w3.heap.size := by have := size_le hb; simp at this; omega
  have B3 := Aside0.mk (below_step (below_alloc B2.out _) hb)
  clear hb g0 g1 g2 z2 B2
  go_wp2_with fail
  refine (bright_impl a b c _).mono ?_
  rintro e w4 ⟨rfl, hb⟩
  rw [← HX.out, ← HY.out, ← HZ.out]
  simp only [brV]
  have k0 : w4.cell? ⟨w2.heap.size, 0, none⟩ = some (.int .i64 x) := cell_stay hb h0
  have k1 : w4.cell? ⟨w2.heap.size, 1, none⟩ = some (.int .i64 y) := cell_stay hb h1
  have k2 : w4.cell? ⟨w2.heap.size, 2, none⟩ = some (.int .i64 z) := cell_stay hb h2
  have z4 : w2.heap.size < w4.heap.size := by have := size_le hb; omega
  have B4 := Aside0.mk (below_step B3.out hb)
  clear hb h0 h1 h2 z3 B3
  go_wp2_with fail
  refine (PFnExactLift.laws_eqTriple.calls x y z x y z true _ (by simp [PFnExactLift.laws_eqTriple.f])).mono ?_
  rintro e w5 ⟨rfl, hb⟩
  have B5 := Aside0.mk (below_step (below_alloc B4.out _) hb)
  go_wp2_with fail
  go_ret
  exact ⟨rfl, B5.out⟩
theorem br_law (a b c : Int) (r : Bool) (w : World) (hr : r = true) : Calls Try.prog 5 #[.agg #[.int .i64 a, .int .i64 b, .int .i64 c]] w fun e w' => e = .returned (.bool r) ∧ Below w.heap.size w w' := by
  rw [hr]
  exact law_bright a b c w
set_option maxHeartbeats 4000000 in
theorem law_unbright (a b c : Int) (w : World) : Calls Try.prog 6 #[.agg #[.int .i64 a, .int .i64 b, .int .i64 c]] w fun e w' => e = .returned (.bool true) ∧ Below w.heap.size w w' := by
  obtain ⟨x, hx⟩ : ∃ x, x = ub1 (clipI a) (clipI b) (clipI c) := ⟨_, rfl⟩
  obtain ⟨y, hy⟩ : ∃ x, x = ub2 (clipI a) (clipI b) (clipI c) := ⟨_, rfl⟩
  obtain ⟨z, hz⟩ : ∃ x, x = ub3 (clipI a) (clipI b) (clipI c) := ⟨_, rfl⟩
  have HX := Aside0.mk hx
  have HY := Aside0.mk hy
  have HZ := Aside0.mk hz
  clear hx hy hz
  go_enter Try.func6, Try.ntmps6
  go_wp2_with fail
  refine (PFnExactLift.laws_toTriple.calls a b c a b c _ rfl).mono ?_
  rintro e w1 ⟨rfl, hb⟩
  have f0 : w1.cell? ⟨w.heap.size, 0, none⟩ = some (.int .i64 a) := cell_stay hb (by simp)
  have f1 : w1.cell? ⟨w.heap.size, 1, none⟩ = some (.int .i64 b) := cell_stay hb (by simp)
  have f2 : w1.cell? ⟨w.heap.size, 2, none⟩ = some (.int .i64 c) := cell_stay hb (by simp)
  have z1 : w.heap.size < w1.heap.size := by have := size_le hb; simp at this; omega
  have B1 := Aside0.mk (below_step (below_alloc (Below.refl _ _) _) hb)
  clear hb
  go_wp2_with fail
  refine (unbright_spec a b c _).mono ?_
  rintro e w2 ⟨rfl, hb⟩
  rw [← HX.out, ← HY.out, ← HZ.out]
  simp only [brV]
  have g0 : w2.cell? ⟨w.heap.size, 0, none⟩ = some (.int .i64 a) := cell_stay hb f0
  have g1 : w2.cell? ⟨w.heap.size, 1, none⟩ = some (.int .i64 b) := cell_stay hb f1
  have g2 : w2.cell? ⟨w.heap.size, 2, none⟩ = some (.int .i64 c) := cell_stay hb f2
  have z2 : w.heap.size < w2.heap.size := by have := size_le hb; omega
  have B2 := Aside0.mk (below_step B1.out hb)
  clear hb f0 f1 f2 z1 B1
  go_wp2_with fail
  refine (PFnExactLift.laws_toTriple.calls a b c a b c _ rfl).mono ?_
  rintro e w3 ⟨rfl, hb⟩
  have h0 : w3.cell? ⟨w2.heap.size, 0, none⟩ = some (.int .i64 x) := cell_stay hb (by simp)
  have h1 : w3.cell? ⟨w2.heap.size, 1, none⟩ = some (.int .i64 y) := cell_stay hb (by simp)
  have h2 : w3.cell? ⟨w2.heap.size, 2, none⟩ = some (.int .i64 z) := cell_stay hb (by simp)
  have z3 : w2.heap.size < w3.heap.size := by have := size_le hb; simp at this; omega
  have B3 := Aside0.mk (below_step (below_alloc B2.out _) hb)
  clear hb g0 g1 g2 z2 B2
  go_wp2_with fail
  refine (unbright_impl a b c _).mono ?_
  rintro e w4 ⟨rfl, hb⟩
  rw [← HX.out, ← HY.out, ← HZ.out]
  simp only [brV]
  have k0 : w4.cell? ⟨w2.heap.size, 0, none⟩ = some (.int .i64 x) := cell_stay hb h0
  have k1 : w4.cell? ⟨w2.heap.size, 1, none⟩ = some (.int .i64 y) := cell_stay hb h1
  have k2 : w4.cell? ⟨w2.heap.size, 2, none⟩ = some (.int .i64 z) := cell_stay hb h2
  have z4 : w2.heap.size < w4.heap.size := by have := size_le hb; omega
  have B4 := Aside0.mk (below_step B3.out hb)
  clear hb h0 h1 h2 z3 B3
  go_wp2_with fail
  refine (PFnExactLift.laws_eqTriple.calls x y z x y z true _ (by simp [PFnExactLift.laws_eqTriple.f])).mono ?_
  rintro e w5 ⟨rfl, hb⟩
  have B5 := Aside0.mk (below_step (below_alloc B4.out _) hb)
  go_wp2_with fail
  go_ret
  exact ⟨rfl, B5.out⟩
theorem ub_law (a b c : Int) (r : Bool) (w : World) (hr : r = true) : Calls Try.prog 6 #[.agg #[.int .i64 a, .int .i64 b, .int .i64 c]] w fun e w' => e = .returned (.bool r) ∧ Below w.heap.size w w' := by
  rw [hr]
  exact law_unbright a b c w
end Go.Proofs.Ytbfcilailhcanaa.Wk
