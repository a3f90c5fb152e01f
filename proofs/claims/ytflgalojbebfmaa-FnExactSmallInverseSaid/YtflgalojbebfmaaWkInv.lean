/- Walks of this seat's own: what the program's SmallInverse comes to. -/
import Derived.Test.YtflgalojbebfmaaWkH
import Derived.StillTailTactics
import Derived.BigRegion
namespace Go.Proofs.Ytflgalojbebfmaa.Wk
open Go.RowKit Go.Proofs.YtflgalojbebfmaaW.PrintWords Go.Proofs.YtflgalojbebfmaaW.PrintLast Go.Proofs.YtflgalojbebfmaaW.PrintMore Go.Proofs.Ytflgalojbebfmaa.My
set_option linter.unusedVariables false
set_option linter.unusedSimpArgs false
def F0 (a b c d : Int) : Int := wrap64 (wrap64 (a + c) + wrap64 (b + d / 2))
def F1 (a b c d : Int) : Int := wrap64 (wrap64 (a - c) + wrap64 (b / 2 - d))
def F2 (a b c d : Int) : Int := wrap64 (wrap64 (a - c) - wrap64 (b / 2 - d))
def F3 (a b c d : Int) : Int := wrap64 (wrap64 (a + c) - wrap64 (b + d / 2))
def turn (t : List Int) (i j k m : Nat) : List Int :=
  (((t.set i (F0 (t.getD i 0) (t.getD j 0) (t.getD k 0) (t.getD m 0))).set j (F1 (t.getD i 0) (t.getD j 0) (t.getD k 0) (t.getD m 0))).set k (F2 (t.getD i 0) (t.getD j 0) (t.getD k 0) (t.getD m 0))).set m (F3 (t.getD i 0) (t.getD j 0) (t.getD k 0) (t.getD m 0))
set_option maxRecDepth 100000 in
set_option maxHeartbeats 40000000 in
theorem turn_calls (w0 w : World) (gt g c : Nat) (T : List Int) (i : Nat) (s : Nat) (hs : 1 ≤ s) (hb : i + 3 * s < 16) (hl : T.length = 16) (hg : gt ≠ g) (hg0 : w0.heap.size ≤ g)
    (hv : w.heap[gt]? = some (.cells #[.slice (some ⟨g, 0, none⟩) 16 c] 22 (0, 0))) (hr : Kd.R (Kd.int .i64) 3 w w0.heap.size (fun _ => True) (.slice (some ⟨g, 0, none⟩) 16 c) T) (hB : Below w0.heap.size w0 w) :
    Calls Try.prog 69 #[.int .i64 (i : Int), .int .i64 (s : Int), .pointer (some ⟨gt, 0, none⟩)] w fun e w' => e = .returned (.tuple #[]) ∧ w'.heap[gt]? = some (.cells #[.slice (some ⟨g, 0, none⟩) 16 c] 22 (0, 0)) ∧ Kd.R (Kd.int .i64) 3 w' w0.heap.size (fun _ => True) (.slice (some ⟨g, 0, none⟩) 16 c) (turn T i (i + s) (i + 2 * s) (i + 3 * s)) ∧ Below w0.heap.size w0 w' := by
  have HV := Aside0.mk hv
  have HR := Aside0.mk hr
  have HB := Aside0.mk hB
  clear hv hr hB
  obtain ⟨p1, e1⟩ : ∃ p : Nat, p = i + s := ⟨_, rfl⟩
  obtain ⟨p2, e2⟩ : ∃ p : Nat, p = i + 2 * s := ⟨_, rfl⟩
  obtain ⟨p3, e3⟩ : ∃ p : Nat, p = i + 3 * s := ⟨_, rfl⟩
  rw [← e1, ← e2, ← e3]
  have W1 : Aside0 (IntKind.i64.wrap ((i : Int) + (s : Int)) = (p1 : Int)) := ⟨by rw [IntKind.wrap_i64]; omega⟩
  have D2 : Aside0 (IntKind.i64.wrap (2 * (s : Int)) = 2 * (s : Int)) := ⟨by rw [IntKind.wrap_i64]; omega⟩
  have D3 : Aside0 (IntKind.i64.wrap (3 * (s : Int)) = 3 * (s : Int)) := ⟨by rw [IntKind.wrap_i64]; omega⟩
  have W2 : Aside0 (IntKind.i64.wrap ((i : Int) + 2 * (s : Int)) = (p2 : Int)) := ⟨by rw [IntKind.wrap_i64]; omega⟩
  have W3 : Aside0 (IntKind.i64.wrap ((i : Int) + 3 * (s : Int)) = (p3 : Int)) := ⟨by rw [IntKind.wrap_i64]; omega⟩
  have b0 : (i : Int) < 16 := by omega
  have b1 : (p1 : Int) < 16 := by omega
  have b2 : (p2 : Int) < 16 := by omega
  have b3 : (p3 : Int) < 16 := by omega
  have n01 : i ≠ p1 := by omega
  have n02 : i ≠ p2 := by omega
  have n03 : i ≠ p3 := by omega
  have n12 : p1 ≠ p2 := by omega
  have n13 : p1 ≠ p3 := by omega
  have n23 : p2 ≠ p3 := by omega
  obtain ⟨a, ha⟩ : ∃ a, a = T.getD i 0 := ⟨_, rfl⟩
  obtain ⟨b, hb'⟩ : ∃ a, a = T.getD p1 0 := ⟨_, rfl⟩
  obtain ⟨d, hd⟩ : ∃ a, a = T.getD p2 0 := ⟨_, rfl⟩
  obtain ⟨f, hf⟩ : ∃ a, a = T.getD p3 0 := ⟨_, rfl⟩
  have TN : Aside0 (turn T i p1 p2 p3 = (((T.set i (F0 a b d f)).set p1 (F1 a b d f)).set p2 (F2 a b d f)).set p3 (F3 a b d f)) := ⟨by unfold turn; rw [ha, hb', hd, hf]⟩
  obtain ⟨w2, hw2⟩ : ∃ w2 : World, w2 = w.drewN 1 := ⟨_, rfl⟩
  have HR2 : Aside0 (Kd.R (Kd.int .i64) 3 w2 w0.heap.size (fun _ => True) (.slice (some ⟨g, 0, none⟩) 16 c) T) := ⟨by rw [hw2]; exact Kd.R_drewN HR.out 1⟩
  have hv2 : w2.cell? ⟨gt, 0, none⟩ = some (.slice (some ⟨g, 0, none⟩) 16 c) := by rw [hw2]; exact (blk_cell HV.out 0).trans rfl
  have key : ({ w with drawn := w.drawn + 1 } : World) = w2 := hw2.symm
  have KEY := Aside0.mk key
  have x0 : w2.cell? ⟨g, i, none⟩ = some (.int .i64 a) := by
    have h2 := (Kd.R_celln 0 HR2.out (i : Int) (by omega) (by omega)).1
    rw [Int.toNat_natCast] at h2
    rw [h2, ha]; rfl
  have x1 : w2.cell? ⟨g, p1, none⟩ = some (.int .i64 b) := by
    have h2 := (Kd.R_celln 0 HR2.out (p1 : Int) (by omega) (by omega)).1
    rw [Int.toNat_natCast] at h2
    rw [h2, hb']; rfl
  have x2 : w2.cell? ⟨g, p2, none⟩ = some (.int .i64 d) := by
    have h2 := (Kd.R_celln 0 HR2.out (p2 : Int) (by omega) (by omega)).1
    rw [Int.toNat_natCast] at h2
    rw [h2, hd]; rfl
  have x3 : w2.cell? ⟨g, p3, none⟩ = some (.int .i64 f) := by
    have h2 := (Kd.R_celln 0 HR2.out (p3 : Int) (by omega) (by omega)).1
    rw [Int.toNat_natCast] at h2
    rw [h2, hf]; rfl
  have HV2 : Aside0 (w2.heap[gt]? = some (.cells #[.slice (some ⟨g, 0, none⟩) 16 c] 22 (0, 0))) := ⟨by rw [hw2]; exact HV.out⟩
  obtain ⟨w4, hw4⟩ : ∃ w4 : World, w4 = w2.drewN 1 := ⟨_, rfl⟩
  have HR4 : Aside0 (Kd.R (Kd.int .i64) 3 w4 w0.heap.size (fun _ => True) (.slice (some ⟨g, 0, none⟩) 16 c) T) := ⟨by rw [hw4]; exact Kd.R_drewN HR2.out 1⟩
  have HV4 : Aside0 (w4.heap[gt]? = some (.cells #[.slice (some ⟨g, 0, none⟩) 16 c] 22 (0, 0))) := ⟨by rw [hw4, hw2]; exact HV.out⟩
  have HB2 : Aside0 (Below w0.heap.size w0 w2) := ⟨by rw [hw2]; exact pw_below_drewN HB.out 1⟩
  have HB4 : Aside0 (Below w0.heap.size w0 w4) := ⟨by rw [hw4, hw2]; exact pw_below_drewN (pw_below_drewN HB.out 1) 1⟩
  have hv4 : w4.cell? ⟨gt, 0, none⟩ = some (.slice (some ⟨g, 0, none⟩) 16 c) := (blk_cell HV4.out 0).trans rfl
  have key4 : ({ w2 with drawn := w2.drawn + 1 } : World) = w4 := hw4.symm
  have KEY4 := Aside0.mk key4
  clear ha hb' hd hf e1 e2 e3 key hw2 hw4 key4
  go_enter Try.func69, Try.ntmps69
  go_wp2_with fail
  refine wp_region_still_lit (by kernel_rfl) (by kernel_rfl) ?_
  rw [KEY.out]
  iterate 7 still_step
  iterate 1 still_step
  rw [W1.out]
  iterate 6 still_step
  rw [D2.out]
  still_step
  rw [W2.out]
  iterate 6 still_step
  rw [D3.out]
  still_step
  rw [W3.out]
  iterate 6 still_step
  refine wpStill_nil ?_
  go_wp2_with fail
  have w1' := W1.out
  have d2' := D2.out
  have d3' := D3.out
  have w2' := W2.out
  have w3' := W3.out
  obtain ⟨A0, hA0⟩ : ∃ x, x = F0 a b d f := ⟨_, rfl⟩
  obtain ⟨A1, hA1⟩ : ∃ x, x = F1 a b d f := ⟨_, rfl⟩
  obtain ⟨A2, hA2⟩ : ∃ x, x = F2 a b d f := ⟨_, rfl⟩
  obtain ⟨A3, hA3⟩ : ∃ x, x = F3 a b d f := ⟨_, rfl⟩
  have v0' : IntKind.i64.wrap (wrap64 (a + d) + wrap64 (b + f / 2)) = A0 := by rw [hA0, i64_wrap]; rfl
  have v1' : IntKind.i64.wrap (wrap64 (a - d) + wrap64 (b / 2 - f)) = A1 := by rw [hA1, i64_wrap]; rfl
  have v2' : IntKind.i64.wrap (wrap64 (a - d) - wrap64 (b / 2 - f)) = A2 := by rw [hA2, i64_wrap]; rfl
  have v3' : IntKind.i64.wrap (wrap64 (a + d) - wrap64 (b + f / 2)) = A3 := by rw [hA3, i64_wrap]; rfl
  have H0 := Aside0.mk hA0
  have H1 := Aside0.mk hA1
  have H2 := Aside0.mk hA2
  have H3 := Aside0.mk hA3
  clear hA0 hA1 hA2 hA3 x0 x1 x2 x3 hv2 hv4
  have hvv : w2.cell? ⟨gt, 0, none⟩ = some (.slice (some ⟨g, 0, none⟩) 16 c) := (blk_cell (show w2.heap[gt]? = _ from HV2.out) 0).trans rfl
  have y0 := (Kd.R_celln 0 HR2.out (i : Int) (by omega) (by omega))
  have y1 := (Kd.R_celln 0 HR2.out (p1 : Int) (by omega) (by omega))
  have y2 := (Kd.R_celln 0 HR2.out (p2 : Int) (by omega) (by omega))
  have y3 := (Kd.R_celln 0 HR2.out (p3 : Int) (by omega) (by omega))
  rw [Int.toNat_natCast] at y0 y1 y2 y3
  obtain ⟨q0, z0⟩ := y0
  obtain ⟨q1, z1⟩ := y1
  obtain ⟨q2, z2⟩ := y2
  obtain ⟨q3, z3⟩ := y3
  go_region
  go_wp2
  rw [TN.out, ← H0.out, ← H1.out, ← H2.out, ← H3.out]
  go_end0
  refine ⟨rfl, ?_, ?_, ?_⟩
  · exact blk_drew (blk_far (blk_far (blk_far (blk_far HV2.out hg _) hg _) hg _) hg _)
  · exact Kd.R_drewN (Kd.R_putn (Kd.R_putn (Kd.R_putn (Kd.R_putn HR2.out (i : Int) A0) (p1 : Int) A1) (p2 : Int) A2) (p3 : Int) A3) 1
  · exact pw_below_drewN (below_set (below_set (below_set (below_set HB2.out hg0) hg0) hg0) hg0) 1
end Go.Proofs.Ytflgalojbebfmaa.Wk
