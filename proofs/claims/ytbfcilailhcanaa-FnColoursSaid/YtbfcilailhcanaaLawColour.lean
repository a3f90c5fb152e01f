/- A walk of this seat's own: the law FnColours returns true. -/
import Derived.Test.YtbfcilailhcanaaPureColour
import Derived.Test.YtbfcilailhcanaaWkTriple
import Derived.Deep.DeepCutAuto
import Derived.BigQuiet
namespace Go.Proofs.Ytbfcilailhcanaa.Wk
open Go.RowKit Go.Proofs.YtbfcilailhcanaaW.PrintWords Go.Proofs.YtbfcilailhcanaaW.PrintLast Go.Proofs.YtbfcilailhcanaaW.PrintMore Go.Proofs.Ytbfcilailhcanaa.My
set_option linter.unusedVariables false
set_option linter.unusedSimpArgs false
theorem clipped_calls (a : Int) (w : World) : Calls Try.prog 26 #[.int .i64 a] w fun e w' => e = .returned (.int .i64 (clipI a)) ∧ ∃ m, w' = w.drewN m := by
  go_enter Try.func26, Try.ntmps26
  go_wp2_with fail
  refine (clip_spec a _).mono ?_
  rintro e w1 ⟨rfl, n, rfl⟩
  go_wp2
  go_ret
  exact ⟨rfl, n, rfl⟩
set_option maxRecDepth 100000 in
set_option maxHeartbeats 4000000 in
theorem law_colours (A : Option Addr) (c : Nat) (l : List Int) (hby : ∀ x ∈ l, (Lit.int .u8 x).wf = true) (w : World) (hc : l.length ≤ c) (hr : Kd.C (Kd.int .u8) w A l.length l) :
    Calls Try.prog 7 #[.slice A l.length c] w fun e w' => e = .returned (.bool true) ∧ Below w.heap.size w w' := by
  by_cases h : 1048576 < l.length
  · go_enter Try.func7, Try.ntmps7
    go_wp2
    go_ret
    exact ⟨rfl, Below.refl _ _⟩
  have hl : l.length ≤ 1048576 := by omega
  go_enter Try.func7, Try.ntmps7
  go_wp2_with fail
  refine (draw_bright _ A c l hc hr hby).mono ?_
  rintro e w1 ⟨_, rfl, ⟨x, y, z, rfl, hx, hy, hz⟩, hb⟩
  have B1 := Aside0.mk hb
  clear hb hr hby
  simp only [brV]
  go_upto_region 4 with fail
  obtain ⟨w2, h2⟩ : ∃ w2, w2 = w1.alloc (.cells #[.int .i64 x, .int .i64 y, .int .i64 z] 24 (0, 0)) := ⟨_, rfl⟩
  rw [← h2]
  obtain ⟨g3, hg3⟩ : ∃ g, g = w1.heap.size := ⟨_, rfl⟩
  rw [← hg3]
  have T : Aside0 (w2.heap[g3]? = some (.cells #[.int .i64 x, .int .i64 y, .int .i64 z] 24 (0, 0))) := ⟨by rw [h2, hg3]; exact blk_new _ _⟩
  have HB : Aside0 (Below w.heap.size w w2) := ⟨by rw [h2]; exact below_alloc B1.out _⟩
  have GE : Aside0 (w.heap.size ≤ g3) := ⟨by rw [hg3]; exact size_le B1.out⟩
  clear h2 hg3 B1
  have c0 := (blk_cell T.out 0).trans rfl
  have c1 := (blk_cell T.out 1).trans rfl
  have c2 := (blk_cell T.out 2).trans rfl
  go_cut [28] (fun c wx => c = .bool false ∧ Aside0 (wx.heap[g3]? = some (.cells #[.int .i64 x, .int .i64 y, .int .i64 z] 24 (0, 0))) ∧ Aside0 (Below w.heap.size w wx))
  case first =>
    go_region_with (first | (go_at_call 17; refine (PFnExactLift.impl_Lift.calls x y z _ _ _ _ (lift_impl_val hx hy hz)).mono ?_; rintro e wn ⟨rfl, hb⟩; have n0 := Aside0.mk (blk_below (by exact T.out) hb); have n1 := Aside0.mk (below_step (by repeat (first | exact HB.out | apply below_drew1)) hb); clear T HB c0 c1 c2 hb; have T := n0; have HB := n1; have c0 := (blk_cell T.out 0).trans rfl; have c1 := (blk_cell T.out 1).trans rfl; have c2 := (blk_cell T.out 2).trans rfl; clear n0 n1) | (go_at_call 20; refine (PFnExactUnlift.impl_Unlift.calls 1 _ _ _ _ _ _ _ (unlift_impl_val hx hy hz)).mono ?_; rintro e wn ⟨rfl, hb⟩; have n0 := Aside0.mk (blk_below (by exact T.out) hb); have n1 := Aside0.mk (below_step (by repeat (first | exact HB.out | apply below_drew1)) hb); clear T HB c0 c1 c2 hb; have T := n0; have HB := n1; have c0 := (blk_cell T.out 0).trans rfl; have c1 := (blk_cell T.out 1).trans rfl; have c2 := (blk_cell T.out 2).trans rfl; clear n0 n1) | (go_at_call 15; refine (PFnExactLift.spec_Lift.calls x y z _ _ _ _ (lift_spec_val hx hy hz)).mono ?_; rintro e wn ⟨rfl, hb⟩; have n0 := Aside0.mk (blk_below (by exact T.out) hb); have n1 := Aside0.mk (below_step (by repeat (first | exact HB.out | apply below_drew1)) hb); clear T HB c0 c1 c2 hb; have T := n0; have HB := n1; have c0 := (blk_cell T.out 0).trans rfl; have c1 := (blk_cell T.out 1).trans rfl; have c2 := (blk_cell T.out 2).trans rfl; clear n0 n1))
    all_goals (go_wp2_with fail; go_meet; exact ⟨rfl, ⟨by exact T.out⟩, ⟨by repeat (first | exact HB.out | apply below_drew1)⟩⟩)
  case rest =>
    obtain ⟨rfl, T, HB⟩ := hcut
    have c0 := (blk_cell T.out 0).trans rfl
    have c1 := (blk_cell T.out 1).trans rfl
    have c2 := (blk_cell T.out 2).trans rfl
    obtain ⟨p, hp⟩ : ∃ p, p = br1 (clipI x) (clipI y) (clipI z) := ⟨_, rfl⟩
    obtain ⟨q, hq⟩ : ∃ p, p = br2 (clipI x) (clipI y) (clipI z) := ⟨_, rfl⟩
    obtain ⟨r, hr⟩ : ∃ p, p = br3 (clipI x) (clipI y) (clipI z) := ⟨_, rfl⟩
    have BS : Aside0 (∀ w : World, Calls Try.prog 21 #[.agg #[.int .i64 x, .int .i64 y, .int .i64 z]] w fun e w' => e = .returned (brV p q r) ∧ Below w.heap.size w w') := ⟨fun w => by rw [hp, hq, hr]; exact bright_spec x y z w⟩
    have BI : Aside0 (∀ w : World, Calls Try.prog 22 #[.agg #[.int .i64 x, .int .i64 y, .int .i64 z]] w fun e w' => e = .returned (brV p q r) ∧ Below w.heap.size w w') := ⟨fun w => by rw [hp, hq, hr]; exact bright_impl x y z w⟩
    have rp : 0 ≤ p ∧ p ≤ 255 := by rw [hp]; exact clipI_b _
    have rq : 0 ≤ q ∧ q ≤ 255 := by rw [hq]; exact clipI_b _
    have rr : 0 ≤ r ∧ r ≤ 255 := by rw [hr]; exact clipI_b _
    obtain ⟨p', hp'⟩ : ∃ p', p' = ub1 (clipI p) (clipI q) (clipI r) := ⟨_, rfl⟩
    obtain ⟨q', hq'⟩ : ∃ p', p' = ub2 (clipI p) (clipI q) (clipI r) := ⟨_, rfl⟩
    obtain ⟨r', hr'⟩ : ∃ p', p' = ub3 (clipI p) (clipI q) (clipI r) := ⟨_, rfl⟩
    have US : Aside0 (∀ w : World, Calls Try.prog 23 #[.agg #[.int .i64 p, .int .i64 q, .int .i64 r]] w fun e w' => e = .returned (brV p' q' r') ∧ Below w.heap.size w w') := ⟨fun w => by rw [hp', hq', hr']; exact unbright_spec p q r w⟩
    have UI : Aside0 (∀ w : World, Calls Try.prog 24 #[.agg #[.int .i64 p, .int .i64 q, .int .i64 r]] w fun e w' => e = .returned (brV p' q' r') ∧ Below w.heap.size w w') := ⟨fun w => by rw [hp', hq', hr']; exact unbright_impl p q r w⟩
    have NEAR := back_near (clipI x) (clipI y) (clipI z) p q r (clipI_b _) (clipI_b _) (clipI_b _) hp hq hr
    rw [clip_id rp.1 rp.2, clip_id rq.1 rq.2, clip_id rr.1 rr.2] at hp' hq' hr'
    rw [← hp', ← hq', ← hr'] at NEAR
    clear hp hq hr hp' hq' hr' rp rq rr
    simp only [brV] at BS BI US UI
    go_wp2_with fail
    refine (BI.out _).mono ?_
    rintro e w3 ⟨rfl, hb⟩
    have T3 : Aside0 (w3.heap[g3]? = some (.cells #[.int .i64 x, .int .i64 y, .int .i64 z] 24 (0, 0))) := ⟨blk_below T.out hb⟩
    have HB3 := Aside0.mk (below_step HB.out hb)
    clear T HB hb c0 c1 c2
    have c0 := (blk_cell T3.out 0).trans rfl
    have c1 := (blk_cell T3.out 1).trans rfl
    have c2 := (blk_cell T3.out 2).trans rfl
    go_wp2_with fail
    refine (UI.out _).mono ?_
    rintro e w4 ⟨rfl, hb⟩
    have T4 : Aside0 (w4.heap[g3]? = some (.cells #[.int .i64 x, .int .i64 y, .int .i64 z] 24 (0, 0))) := ⟨blk_below (blk_alloc T3.out _) hb⟩
    have Y4 : Aside0 (w4.heap[w3.heap.size]? = some (.cells #[.int .i64 p, .int .i64 q, .int .i64 r] 24 (0, 0))) := ⟨blk_below (blk_new _ _) hb⟩
    have HB4 := Aside0.mk (below_step (below_alloc HB3.out _) hb)
    have n34 : g3 ≠ w3.heap.size := Nat.ne_of_lt (blk_lt T3.out)
    clear T3 HB3 hb c0 c1 c2
    obtain ⟨g4, hg4⟩ : ∃ g, g = w3.heap.size := ⟨_, rfl⟩
    rw [← hg4] at Y4 n34 ⊢
    clear hg4
    go_upto_region 8 with fail
    obtain ⟨w5, h5⟩ : ∃ w5, w5 = w4.alloc (.cells #[.int .i64 p', .int .i64 q', .int .i64 r'] 24 (0, 0)) := ⟨_, rfl⟩
    obtain ⟨g5, hg5⟩ : ∃ g, g = w4.heap.size := ⟨_, rfl⟩
    rw [← h5, ← hg5]
    have T : Aside0 (w5.heap[g3]? = some (.cells #[.int .i64 x, .int .i64 y, .int .i64 z] 24 (0, 0))) := ⟨by rw [h5]; exact blk_alloc T4.out _⟩
    have Y : Aside0 (w5.heap[g4]? = some (.cells #[.int .i64 p, .int .i64 q, .int .i64 r] 24 (0, 0))) := ⟨by rw [h5]; exact blk_alloc Y4.out _⟩
    have Z : Aside0 (w5.heap[g5]? = some (.cells #[.int .i64 p', .int .i64 q', .int .i64 r'] 24 (0, 0))) := ⟨by rw [h5, hg5]; exact blk_new _ _⟩
    have HB : Aside0 (Below w.heap.size w w5) := ⟨by rw [h5]; exact below_alloc HB4.out _⟩
    clear h5 hg5 T4 Y4 HB4
    have c0 := (blk_cell T.out 0).trans rfl
    have c1 := (blk_cell T.out 1).trans rfl
    have c2 := (blk_cell T.out 2).trans rfl
    have d0 := (blk_cell Y.out 0).trans rfl
    have d1 := (blk_cell Y.out 1).trans rfl
    have d2 := (blk_cell Y.out 2).trans rfl
    have e0 := (blk_cell Z.out 0).trans rfl
    have e1 := (blk_cell Z.out 1).trans rfl
    have e2 := (blk_cell Z.out 2).trans rfl
    go_cut [42] (fun c wx => c = .bool false ∧ Aside0 (wx.heap[g3]? = some (.cells #[.int .i64 x, .int .i64 y, .int .i64 z] 24 (0, 0))) ∧ Aside0 (wx.heap[g4]? = some (.cells #[.int .i64 p, .int .i64 q, .int .i64 r] 24 (0, 0))) ∧ Aside0 (wx.heap[g5]? = some (.cells #[.int .i64 p', .int .i64 q', .int .i64 r'] 24 (0, 0))) ∧ Aside0 (Below w.heap.size w wx))
    case first =>
      go_region_with (first | (go_at_call 21; refine (BS.out _).mono ?_; rintro e wn ⟨rfl, hb⟩; have n0 := Aside0.mk (blk_below (by exact T.out) hb); have n1 := Aside0.mk (below_step (by repeat (first | exact HB.out | apply below_drew1)) hb); have n2 := Aside0.mk (blk_below (by exact Y.out) hb); have n3 := Aside0.mk (blk_below (by exact Z.out) hb); clear T HB Y Z c0 c1 c2 d0 d1 d2 e0 e1 e2 hb; have T := n0; have HB := n1; have Y := n2; have Z := n3; have c0 := (blk_cell T.out 0).trans rfl; have c1 := (blk_cell T.out 1).trans rfl; have c2 := (blk_cell T.out 2).trans rfl; have d0 := (blk_cell Y.out 0).trans rfl; have d1 := (blk_cell Y.out 1).trans rfl; have d2 := (blk_cell Y.out 2).trans rfl; have e0 := (blk_cell Z.out 0).trans rfl; have e1 := (blk_cell Z.out 1).trans rfl; have e2 := (blk_cell Z.out 2).trans rfl; clear n0 n1 n2 n3) | (go_at_call 23; refine (US.out _).mono ?_; rintro e wn ⟨rfl, hb⟩; have n0 := Aside0.mk (blk_below (by exact T.out) hb); have n1 := Aside0.mk (below_step (by repeat (first | exact HB.out | apply below_drew1)) hb); have n2 := Aside0.mk (blk_below (by exact Y.out) hb); have n3 := Aside0.mk (blk_below (by exact Z.out) hb); clear T HB Y Z c0 c1 c2 d0 d1 d2 e0 e1 e2 hb; have T := n0; have HB := n1; have Y := n2; have Z := n3; have c0 := (blk_cell T.out 0).trans rfl; have c1 := (blk_cell T.out 1).trans rfl; have c2 := (blk_cell T.out 2).trans rfl; have d0 := (blk_cell Y.out 0).trans rfl; have d1 := (blk_cell Y.out 1).trans rfl; have d2 := (blk_cell Y.out 2).trans rfl; have e0 := (blk_cell Z.out 0).trans rfl; have e1 := (blk_cell Z.out 1).trans rfl; have e2 := (blk_cell Z.out 2).trans rfl; clear n0 n1 n2 n3))
      all_goals (go_wp2_with fail; go_meet; exact ⟨rfl, ⟨by exact T.out⟩, ⟨by exact Y.out⟩, ⟨by exact Z.out⟩, ⟨by repeat (first | exact HB.out | apply below_drew1)⟩⟩)
    case rest =>
      obtain ⟨rfl, T, Y, Z, HB⟩ := hcut
      have c0 := (blk_cell T.out 0).trans rfl
      have c1 := (blk_cell T.out 1).trans rfl
      have c2 := (blk_cell T.out 2).trans rfl
      have l3 : g3 < wc.heap.size := blk_lt T.out
      have l5 : g5 < wc.heap.size := blk_lt Z.out
      have L6 := Aside0.mk HB.out.size
      have e0 : (wc.alloc (.cells #[.int .i64 x, .int .i64 y, .int .i64 z] 3 (0, 0))).cell? ⟨g5, 0, none⟩ = some (.int .i64 p') := (blk_cell (blk_alloc Z.out _) 0).trans rfl
      have e1 : (wc.alloc (.cells #[.int .i64 x, .int .i64 y, .int .i64 z] 3 (0, 0))).cell? ⟨g5, 1, none⟩ = some (.int .i64 q') := (blk_cell (blk_alloc Z.out _) 1).trans rfl
      have e2 : (wc.alloc (.cells #[.int .i64 x, .int .i64 y, .int .i64 z] 3 (0, 0))).cell? ⟨g5, 2, none⟩ = some (.int .i64 r') := (blk_cell (blk_alloc Z.out _) 2).trans rfl
      go_upto_region 12 with fail
      obtain ⟨w6, h6⟩ : ∃ w6, w6 = (wc.alloc (.cells #[.int .i64 x, .int .i64 y, .int .i64 z] 3 (0, 0))).alloc (.cells #[.int .i64 p', .int .i64 q', .int .i64 r'] 3 (0, 0)) := ⟨_, rfl⟩
      obtain ⟨g6, hg6⟩ : ∃ g, g = wc.heap.size := ⟨_, rfl⟩
      rw [← h6, ← hg6]
      have T6 : Aside0 (w6.heap[g3]? = some (.cells #[.int .i64 x, .int .i64 y, .int .i64 z] 24 (0, 0))) := ⟨by rw [h6]; exact blk_alloc (blk_alloc T.out _) _⟩
      have L : Aside0 (w6.heap[g6]? = some (.cells #[.int .i64 x, .int .i64 y, .int .i64 z] 3 (0, 0))) := ⟨by rw [h6, hg6]; exact blk_alloc (blk_new _ _) _⟩
      have M : Aside0 (w6.heap[g6 + 1]? = some (.cells #[.int .i64 p', .int .i64 q', .int .i64 r'] 3 (0, 0))) := ⟨by rw [h6, hg6]; exact (by simp : (wc.alloc (.cells #[.int .i64 x, .int .i64 y, .int .i64 z] 3 (0, 0))).heap.size = wc.heap.size + 1) ▸ blk_new _ _⟩
      have HB6 : Aside0 (Below w.heap.size w w6) := ⟨by rw [h6]; exact below_alloc (below_alloc HB.out _) _⟩
      clear h6 hg6 T Y Z HB c0 c1 c2 e0 e1 e2 l3 l5 L6
      have CX : Aside0 (∀ (a : Int) (w : World), Calls Try.prog 26 #[.int .i64 a] w fun e w' => e = .returned (.int .i64 (clipI a)) ∧ ∃ m, w' = w.drewN m) := ⟨clipped_calls⟩
      obtain ⟨⟨n1, n2⟩, ⟨n3, n4⟩, n5, n6⟩ := NEAR
      have k1 := clipI_b x
      have k2 := clipI_b y
      have k3 := clipI_b z
      go_wp2_with fail
      go_loopg [59] 3 (fun q v59 w' => ∃ i : Int, v59 = .int .i64 i ∧ (0 ≤ i ∧ i + (q : Int) = 3) ∧ ∃ nd : Nat, w' = w6.drewN nd)
      case atStart => exact ⟨0, rfl, ⟨by omega, by omega⟩, 0, rfl⟩
      case round =>
        obtain ⟨i, rfl, hi, nd, hw⟩ := hrel
        have u0 : wr.cell? ⟨g6, 0, none⟩ = some (.int .i64 x) := by rw [hw]; exact (blk_cell L.out 0).trans rfl
        have v0 : wr.cell? ⟨g6 + 1, 0, none⟩ = some (.int .i64 p') := by rw [hw]; exact (blk_cell M.out 0).trans rfl
        have u1 : wr.cell? ⟨g6, 1, none⟩ = some (.int .i64 y) := by rw [hw]; exact (blk_cell L.out 1).trans rfl
        have v1 : wr.cell? ⟨g6 + 1, 1, none⟩ = some (.int .i64 q') := by rw [hw]; exact (blk_cell M.out 1).trans rfl
        have u2 : wr.cell? ⟨g6, 2, none⟩ = some (.int .i64 z) := by rw [hw]; exact (blk_cell L.out 2).trans rfl
        have v2 : wr.cell? ⟨g6 + 1, 2, none⟩ = some (.int .i64 r') := by rw [hw]; exact (blk_cell M.out 2).trans rfl
        have HW := Aside0.mk hw
        clear hw
        have hi3 : i = 0 ∨ i = 1 ∨ i = 2 ∨ i = 3 := by omega
        rcases hi3 with rfl | rfl | rfl | rfl
        · have s1 : decide (clipI x - p' < -2) = false := decide_eq_false (by omega)
          have s2 : decide (2 < clipI x - p') = false := decide_eq_false (by omega)
          obtain ⟨q, rfl⟩ : ∃ q, gk = q + 1 := ⟨gk - 1, by omega⟩
          go_wp2_with fail
          go_quiet ((go_at_call 26; exact Calls.quiet_of (CX.out x _)))
          go_wp2
          go_roundg q
          case measure => omega
          case rel => exact ⟨_, rfl, by omega, _, by rw [HW.out, World.drewN_drewN]⟩
        · have s1 : decide (clipI y - q' < -2) = false := decide_eq_false (by omega)
          have s2 : decide (2 < clipI y - q') = false := decide_eq_false (by omega)
          obtain ⟨q, rfl⟩ : ∃ q, gk = q + 1 := ⟨gk - 1, by omega⟩
          go_wp2_with fail
          go_quiet ((go_at_call 26; exact Calls.quiet_of (CX.out y _)))
          go_wp2
          go_roundg q
          case measure => omega
          case rel => exact ⟨_, rfl, by omega, _, by rw [HW.out, World.drewN_drewN]⟩
        · have s1 : decide (clipI z - r' < -2) = false := decide_eq_false (by omega)
          have s2 : decide (2 < clipI z - r') = false := decide_eq_false (by omega)
          obtain ⟨q, rfl⟩ : ∃ q, gk = q + 1 := ⟨gk - 1, by omega⟩
          go_wp2_with fail
          go_quiet ((go_at_call 26; exact Calls.quiet_of (CX.out z _)))
          go_wp2
          go_roundg q
          case measure => omega
          case rel => exact ⟨_, rfl, by omega, _, by rw [HW.out, World.drewN_drewN]⟩
        · have w0 : wr.cell? ⟨g3, 0, none⟩ = some (.int .i64 x) := by rw [HW.out]; exact (blk_cell T6.out 0).trans rfl
          have HB7 : Aside0 (Below w.heap.size w wr) := ⟨by rw [HW.out]; exact pw_below_drewN HB6.out _⟩
          clear u0 u1 u2 v0 v1 v2
          go_wp2_with fail
          refine (CX.out x _).mono ?_
          rintro e w7 ⟨rfl, n7, rfl⟩
          obtain ⟨h1, h2, h3⟩ := grey k1.1 k1.2
          have BG := bright_impl (clipI x) (clipI x) (clipI x)
          rw [clip_id k1.1 k1.2, h1, h2, h3] at BG
          simp only [brV] at BG
          have BG2 := Aside0.mk BG
          clear BG h1 h2 h3
          go_wp2_with fail
          refine (BG2.out _).mono ?_
          rintro e w8 ⟨rfl, hb⟩
          have HB8 := Aside0.mk (below_step (pw_below_drewN HB7.out _) hb)
          clear hb
          go_wp2
          go_ret
          exact ⟨rfl, below_alloc HB8.out _⟩
end Go.Proofs.Ytbfcilailhcanaa.Wk
