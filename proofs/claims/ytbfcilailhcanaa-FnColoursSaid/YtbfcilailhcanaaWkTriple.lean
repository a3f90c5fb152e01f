/- Walks of this seat's own: the drawn colour. -/
import Derived.Test.YtbfcilailhcanaaWkCur
namespace Go.Proofs.Ytbfcilailhcanaa.Wk
open Go.RowKit Go.Proofs.YtbfcilailhcanaaW.PrintWords Go.Proofs.YtbfcilailhcanaaW.PrintLast Go.Proofs.YtbfcilailhcanaaW.PrintMore Go.Proofs.Ytbfcilailhcanaa.My
set_option linter.unusedVariables false
set_option linter.unusedSimpArgs false
/-- Old memory but the cursor's stays. -/
def Stays (g : Nat) (w w' : World) : Prop := w.heap.size ≤ w'.heap.size ∧ ∀ j, j < w.heap.size → j ≠ g → w'.heap[j]? = w.heap[j]?
theorem Keeps.stays {g : Nat} {w w' : World} (h : Keeps g w w') : Stays g w w' := ⟨Nat.le_of_eq h.1.symm, fun j _ hj => h.2 j hj⟩
theorem Stays.trans {g : Nat} {w w1 w2 : World} (h : Stays g w w1) (k : Stays g w1 w2) : Stays g w w2 := ⟨Nat.le_trans h.1 k.1, fun j hl hj => (k.2 j (Nat.lt_of_lt_of_le hl h.1) hj).trans (h.2 j hl hj)⟩
theorem Stays.cell {g : Nat} {w w1 : World} (h : Stays g w w1) {a : Addr} {v : Value} (hne : a.block ≠ g) (hc : w.cell? a = some v) : w1.cell? a = some v := by
  have := h.2 a.block (World.block_lt_of_cell? w a hc) hne
  simpa [World.cell?, this] using hc
theorem Stays.blk {g j : Nat} {w w1 : World} {o : Obj} (h : Stays g w w1) (hne : j ≠ g) (hc : w.heap[j]? = some o) : w1.heap[j]? = some o := (h.2 j (blk_lt hc) hne).trans hc
theorem Cur.alloc {w0 w : World} {g : Nat} {l : List Int} {k : Int} (h : Cur w0 w g l k) (o : Obj) : Cur w0 (w.alloc o) g l k := by
  obtain ⟨a, b, A, c, p, s, e1, e2, e3, e4, e5⟩ := h
  exact ⟨a, below_alloc b _, A, c, p, s, blk_alloc e1 _, e2, e3, e4, e5⟩
theorem Cur.drewN {w0 w : World} {g : Nat} {l : List Int} {k : Int} (h : Cur w0 w g l k) (m : Nat) : Cur w0 (w.drewN m) g l k := by
  obtain ⟨a, b, A, c, p, s, e1, e2, e3, e4, e5⟩ := h
  exact ⟨a, pw_below_drewN b _, A, c, p, s, blk_drewN e1 _, e2, e3, e4, e5⟩
theorem Cur.set {w0 w : World} {g j i : Nat} {l : List Int} {k : Int} (h : Cur w0 w g l k) (hj : w0.heap.size ≤ j) (hne : g ≠ j) (v : Value) : Cur w0 (w.setCell ⟨j, i, none⟩ v) g l k := by
  obtain ⟨a, b, A, c, p, s, e1, e2, e3, e4, e5⟩ := h
  exact ⟨a, below_set b hj, A, c, p, s, blk_far e1 hne _, e2, e3, e4, e5⟩
theorem Cur.up {w0 w : World} {g : Nat} {l : List Int} {k1 k2 : Int} (h : Cur w0 w g l k1) (hk : k1 ≤ k2) : Cur w0 w g l k2 := by
  obtain ⟨a, b, A, c, p, s, e1, e2, e3, e4, e5⟩ := h
  exact ⟨a, b, A, c, p, s, e1, e2, e3, e4, by omega⟩
set_option maxHeartbeats 4000000 in
theorem cur_triple (w0 w : World) (g : Nat) (l : List Int) (k n : Int) (hk : k ≤ 1099511620000) (n0 : 1 ≤ n) (n1 : n ≤ 100000) (hby : ∀ x ∈ l, (Lit.int .u8 x).wf = true) (h : Cur w0 w g l k) :
    Calls Try.prog 71 #[.pointer (some ⟨g, 0, none⟩), .int .i64 n] w fun e w' => ∃ x y z : Int, e = .returned (brV x y z) ∧ (0 ≤ x ∧ x < n) ∧ (0 ≤ y ∧ y < n) ∧ (0 ≤ z ∧ z < n) ∧ Cur w0 w' g l (k + 9) ∧ Stays g w w' := by
  have hlt : g < w.heap.size := blk_lt h.2.2.choose_spec.choose_spec.choose_spec.choose_spec.1
  have h0 : w0.heap.size ≤ w.heap.size := h.2.1.size
  have HC := Aside0.mk h
  clear h
  go_enter Try.func71, Try.ntmps71
  go_wp2_with fail
  refine (cur_pick w0 _ g l k n (by omega) n0 (by omega) hby (HC.out.alloc _)).mono ?_
  rintro e w1 ⟨x, rfl, x0, x1, hc1, hk1⟩
  have C1 := Aside0.mk hc1
  have K1 := Aside0.mk hk1
  clear hc1 hk1
  go_wp2_with fail
  refine (cur_pick w0 _ g l (k + 3) n (by omega) n0 (by omega) hby C1.out).mono ?_
  rintro e w2 ⟨y, rfl, y0, y1, hc2, hk2⟩
  have C2 := Aside0.mk hc2
  have K2 := Aside0.mk (K1.out.trans hk2)
  clear hc2 hk2 C1 K1
  go_wp2_with fail
  refine (cur_pick w0 _ g l (k + 3 + 3) n (by omega) n0 (by omega) hby C2.out).mono ?_
  rintro e w3 ⟨z, rfl, z0, z1, hc3, hk3⟩
  have C3 := Aside0.mk hc3
  have K3 := Aside0.mk (K2.out.trans hk3)
  clear hc3 hk3 C2 K2
  have hne : w.heap.size ≠ g := by omega
  have hz : w3.heap.size = w.heap.size + 1 := K3.out.1.trans (by simp)
  have c0 : w3.cell? ⟨w.heap.size, 0, none⟩ = some (.int .i64 0) := K3.out.cell hne (by simp)
  have c1 : w3.cell? ⟨w.heap.size, 1, none⟩ = some (.int .i64 0) := K3.out.cell hne (by simp)
  have c2 : w3.cell? ⟨w.heap.size, 2, none⟩ = some (.int .i64 0) := K3.out.cell hne (by simp)
  have f0 : w3.frozen? ⟨w.heap.size, 0, none⟩ = false := K3.out.frozen hne (by simp)
  have f1 : w3.frozen? ⟨w.heap.size, 1, none⟩ = false := K3.out.frozen hne (by simp)
  have f2 : w3.frozen? ⟨w.heap.size, 2, none⟩ = false := K3.out.frozen hne (by simp)
  go_wp2
  have B0 : w3.heap[w.heap.size]? = some (.cells #[.int .i64 0, .int .i64 0, .int .i64 0] 24 (0, 0)) := (K3.out.2 _ hne).trans (blk_new _ _)
  refine bodyPost_ret (results_cell_row rfl _ _ w.heap.size 24 #[.int .i64 x, .int .i64 y, .int .i64 z] (0, 0) _ rfl (blk_put (blk_put (blk_put B0 0 _ rfl) 1 _ rfl) 2 _ rfl) Try.underlying24 rfl (by kernel_rfl)) rfl ⟨x, y, z, rfl, ⟨x0, x1⟩, ⟨y0, y1⟩, ⟨z0, z1⟩, ?_, ?_⟩
  · exact (((C3.out.set h0 (by omega) _).set h0 (by omega) _).set h0 (by omega) _).up (by omega)
  · refine ⟨by simp [World.setCell, hz], fun j hj hg => ?_⟩
    refine ((Below.heap_setCell _ _ _ j (by simp; omega)).trans ((Below.heap_setCell _ _ _ j (by simp; omega)).trans (Below.heap_setCell _ _ _ j (by simp; omega)))).trans ?_
    exact (K3.out.2 j hg).trans (Below.heap_alloc _ _ j hj)
theorem Cur.blk {w0 w : World} {g : Nat} {l : List Int} {k : Int} (h : Cur w0 w g l k) : g < w.heap.size := blk_lt h.2.2.choose_spec.choose_spec.choose_spec.choose_spec.1
theorem Keeps.blk {g j : Nat} {w w1 : World} {o : Obj} (h : Keeps g w w1) (hne : j ≠ g) (hc : w.heap[j]? = some o) : w1.heap[j]? = some o := (h.2 j hne).trans hc
def Small (v : Value) : Prop := ∃ x y z : Int, v = brV x y z ∧ (-1000 ≤ x ∧ x ≤ 1000) ∧ (-1000 ≤ y ∧ y ≤ 1000) ∧ -1000 ≤ z ∧ z ≤ 1000
set_option maxHeartbeats 4000000 in
theorem draw_triple (w : World) (A : Option Addr) (c : Nat) (l : List Int) (hc : l.length ≤ c) (hr : Kd.C (Kd.int .u8) w A l.length l) (hby : ∀ x ∈ l, (Lit.int .u8 x).wf = true) :
    Calls Try.prog 58 #[.slice A l.length c] w fun e w' => ∃ v, e = .returned v ∧ Small v ∧ Below w.heap.size w w' := by
  have HR := Aside0.mk hr
  clear hr
  go_enter Try.func58, Try.ntmps58
  go_wp2_with fail
  refine (cur_triple w _ (w.heap.size + 1) l 0 256 (by omega) (by omega) (by omega) hby ?_).mono ?_
  · refine ⟨by omega, ?_, A, c, 0, 0, ?_, hc, HR.out, by omega, by omega⟩
    · exact below_alloc (below_alloc (Below.refl _ _) _) _
    · exact (by simp : (w.alloc _).heap.size = w.heap.size + 1) ▸ blk_new _ _
  rintro e w1 ⟨x, y, z, rfl, ⟨x0, x1⟩, ⟨y0, y1⟩, ⟨z0, z1⟩, hc1, hs1⟩
  have B0 : Aside0 (w1.heap[w.heap.size]? = some (.cells #[.int .i64 0, .int .i64 0, .int .i64 0] 24 (0, 0))) := ⟨hs1.blk (by omega) (blk_alloc (blk_new _ _) _)⟩
  have z1' : w.heap.size + 1 < w1.heap.size := hc1.blk
  have C1 := Aside0.mk hc1
  clear hc1 hs1
  simp only [brV]
  go_wp2_with fail
  refine (cur_one w _ (w.heap.size + 1) l _ 4 (by omega) (by omega) (by omega) hby (C1.out.alloc _)).mono ?_
  rintro e w2 ⟨b, rfl, hc2, hk2⟩
  have C2 := Aside0.mk hc2
  have B2 : Aside0 (w2.heap[w.heap.size]? = some (.cells #[.int .i64 0, .int .i64 0, .int .i64 0] 24 (0, 0))) := ⟨hk2.blk (by omega) (blk_alloc B0.out _)⟩
  have T2 : Aside0 (w2.heap[w1.heap.size]? = some (.cells #[.int .i64 x, .int .i64 y, .int .i64 z] 24 (0, 0))) := ⟨hk2.blk (by omega) (blk_new _ _)⟩
  have z2 : w1.heap.size < w2.heap.size := blk_lt T2.out
  clear hc2 hk2 C1 B0
  have FIN : ∀ (w3 : World) (x y z : Int), (-1000 ≤ x ∧ x ≤ 1000) → (-1000 ≤ y ∧ y ≤ 1000) → (-1000 ≤ z ∧ z ≤ 1000) → Small (brV x y z) := fun _ x y z hx hy hz => ⟨x, y, z, rfl, hx, hy, hz⟩
  cases b
  · have t0 := (blk_cell T2.out 0).trans rfl
    have t1 := (blk_cell T2.out 1).trans rfl
    have t2 := (blk_cell T2.out 2).trans rfl
    have q0 := (blk_cell B2.out 0).trans rfl
    have q1 := (blk_cell B2.out 1).trans rfl
    have q2 := (blk_cell B2.out 2).trans rfl
    have tf0 := blk_frozen B2.out 0
    have tf1 := blk_frozen B2.out 1
    have tf2 := blk_frozen B2.out 2
    go_wp2
    refine bodyPost_ret (results_cell_row rfl _ _ w.heap.size 24 #[.int .i64 x, .int .i64 y, .int .i64 z] (0, 0) _ rfl (blk_put (blk_put (blk_put B2.out 0 _ rfl) 1 _ rfl) 2 _ rfl) Try.underlying24 rfl (by kernel_rfl)) rfl ⟨_, rfl, ⟨x, y, z, rfl, by omega, by omega, by omega⟩, ?_⟩
    exact below_set (below_set (below_set C2.out.2.1 (Nat.le_refl _)) (Nat.le_refl _)) (Nat.le_refl _)
  · clear x0 x1 y0 y1 z0 z1
    go_wp2_with fail
    refine (cur_triple w _ (w.heap.size + 1) l _ 600 (by omega) (by omega) (by omega) hby C2.out).mono ?_
    rintro e w3 ⟨x', y', z', rfl, ⟨x0, x1⟩, ⟨y0, y1⟩, ⟨z0, z1⟩, hc3, hs3⟩
    have C3 := Aside0.mk hc3
    have B3 : Aside0 (w3.heap[w.heap.size]? = some (.cells #[.int .i64 0, .int .i64 0, .int .i64 0] 24 (0, 0))) := ⟨hs3.blk (by omega) B2.out⟩
    have T3 : Aside0 (w3.heap[w1.heap.size]? = some (.cells #[.int .i64 x, .int .i64 y, .int .i64 z] 24 (0, 0))) := ⟨hs3.blk (by omega) T2.out⟩
    have z3 : w1.heap.size < w3.heap.size := blk_lt T3.out
    have z4 : w.heap.size < w3.heap.size := blk_lt B3.out
    obtain ⟨g1, hg1⟩ : ∃ g1, g1 = w1.heap.size := ⟨_, rfl⟩
    rw [← hg1] at T3 z3 ⊢
    have n1 : w.heap.size ≠ g1 := by omega
    have n2 : g1 ≠ w.heap.size := by omega
    have z5 : w.heap.size ≤ g1 := by omega
    have G1 := Aside0.mk hg1
    clear hc3 hs3 B2 T2 C2 z2 hg1 z1'
    have t0 := (blk_cell T3.out 0).trans rfl
    have t1 := (blk_cell T3.out 1).trans rfl
    have t2 := (blk_cell T3.out 2).trans rfl
    have tg0 := blk_frozen T3.out 0
    have tg1 := blk_frozen T3.out 1
    have tg2 := blk_frozen T3.out 2
    simp only [brV]
    go_upto_region 5 with fail
    obtain ⟨w4, h4⟩ : ∃ w4, w4 = (((w3.setCell ⟨g1, 0, none⟩ (.int .i64 x')).setCell ⟨g1, 1, none⟩ (.int .i64 y')).setCell ⟨g1, 2, none⟩ (.int .i64 z')) := ⟨_, rfl⟩
    rw [← h4]
    have T4 : Aside0 (w4.heap[g1]? = some (.cells #[.int .i64 x', .int .i64 y', .int .i64 z'] 24 (0, 0))) := ⟨by rw [h4]; exact blk_put (blk_put (blk_put T3.out 0 _ rfl) 1 _ rfl) 2 _ rfl⟩
    have B4 : Aside0 (w4.heap[w.heap.size]? = some (.cells #[.int .i64 0, .int .i64 0, .int .i64 0] 24 (0, 0))) := ⟨by rw [h4]; exact blk_far (blk_far (blk_far B3.out n1 _) n1 _) n1 _⟩
    have C4 : Aside0 (Below w.heap.size w w4) := ⟨by rw [h4]; exact below_set (below_set (below_set C3.out.2.1 z5) z5) z5⟩
    clear h4 t0 t1 t2 tg0 tg1 tg2 T3 B3 C3 z3 z4
    have t0 := (blk_cell T4.out 0).trans rfl
    have tg0 := blk_frozen T4.out 0
    go_upto_region 6 with fail
    obtain ⟨w5, h5⟩ : ∃ w5, w5 = w4.setCell ⟨g1, 0, none⟩ (.int .i64 (x' - 200)) := ⟨_, rfl⟩
    rw [← h5]
    have T5 : Aside0 (w5.heap[g1]? = some (.cells #[.int .i64 (x' - 200), .int .i64 y', .int .i64 z'] 24 (0, 0))) := ⟨by rw [h5]; exact blk_put T4.out 0 _ rfl⟩
    have B5 : Aside0 (w5.heap[w.heap.size]? = some (.cells #[.int .i64 0, .int .i64 0, .int .i64 0] 24 (0, 0))) := ⟨by rw [h5]; exact blk_far B4.out n1 _⟩
    have C5 : Aside0 (Below w.heap.size w w5) := ⟨by rw [h5]; exact below_set C4.out z5⟩
    clear h5 t0 tg0 T4 B4 C4
    have t2 := (blk_cell T5.out 2).trans rfl
    have tg2 := blk_frozen T5.out 2
    go_upto_region 7 with fail
    obtain ⟨w6, h6⟩ : ∃ w6, w6 = w5.setCell ⟨g1, 2, none⟩ (.int .i64 (z' - 150)) := ⟨_, rfl⟩
    rw [← h6]
    have T6 : Aside0 (w6.heap[g1]? = some (.cells #[.int .i64 (x' - 200), .int .i64 y', .int .i64 (z' - 150)] 24 (0, 0))) := ⟨by rw [h6]; exact blk_put T5.out 2 _ rfl⟩
    have B6 : Aside0 (w6.heap[w.heap.size]? = some (.cells #[.int .i64 0, .int .i64 0, .int .i64 0] 24 (0, 0))) := ⟨by rw [h6]; exact blk_far B5.out n1 _⟩
    have C6 : Aside0 (Below w.heap.size w w6) := ⟨by rw [h6]; exact below_set C5.out z5⟩
    clear h6 t2 tg2 T5 B5 C5
    have t0 := (blk_cell T6.out 0).trans rfl
    have t1 := (blk_cell T6.out 1).trans rfl
    have t2 := (blk_cell T6.out 2).trans rfl
    have q0 := (blk_cell B6.out 0).trans rfl
    have q1 := (blk_cell B6.out 1).trans rfl
    have q2 := (blk_cell B6.out 2).trans rfl
    have tf0 := blk_frozen B6.out 0
    have tf1 := blk_frozen B6.out 1
    have tf2 := blk_frozen B6.out 2
    go_wp2
    refine bodyPost_ret (results_cell_row rfl _ _ w.heap.size 24 #[.int .i64 (x' - 200), .int .i64 y', .int .i64 (z' - 150)] (0, 0) _ rfl (blk_put (blk_put (blk_put B6.out 0 _ rfl) 1 _ rfl) 2 _ rfl) Try.underlying24 rfl (by kernel_rfl)) rfl ⟨_, rfl, ⟨x' - 200, y', z' - 150, rfl, by omega, by omega, by omega⟩, ?_⟩
    exact below_set (below_set (below_set C6.out (Nat.le_refl _)) (Nat.le_refl _)) (Nat.le_refl _)
set_option maxHeartbeats 4000000 in
theorem draw_bright (w : World) (A : Option Addr) (c : Nat) (l : List Int) (hc : l.length ≤ c) (hr : Kd.C (Kd.int .u8) w A l.length l) (hby : ∀ x ∈ l, (Lit.int .u8 x).wf = true) :
    Calls Try.prog 25 #[.slice A l.length c] w fun e w' => ∃ v, e = .returned v ∧ Small v ∧ Below w.heap.size w w' := by
  have HR := Aside0.mk hr
  clear hr
  go_enter Try.func25, Try.ntmps25
  go_wp2_with fail
  refine (draw_triple _ A c l hc (Kd.C_alloc HR.out _) hby).mono ?_
  rintro e w1 ⟨_, rfl, ⟨x, y, z, rfl, hx, hy, hz⟩, hb⟩
  have B1 := Aside0.mk hb
  have B0 : Aside0 (w1.heap[w.heap.size]? = some (.cells #[.int .i64 0, .int .i64 0, .int .i64 0] 24 (0, 0))) := ⟨blk_below (blk_new _ _) hb⟩
  have q0 := (blk_cell B0.out 0).trans rfl
  have q1 := (blk_cell B0.out 1).trans rfl
  have q2 := (blk_cell B0.out 2).trans rfl
  have tf0 := blk_frozen B0.out 0
  have tf1 := blk_frozen B0.out 1
  have tf2 := blk_frozen B0.out 2
  clear hb
  simp only [brV]
  go_wp2
  refine bodyPost_ret (results_cell_row rfl _ _ w.heap.size 24 #[.int .i64 x, .int .i64 y, .int .i64 z] (0, 0) _ rfl (blk_put (blk_put (blk_put B0.out 0 _ rfl) 1 _ rfl) 2 _ rfl) Try.underlying24 rfl (by kernel_rfl)) rfl ⟨_, rfl, ⟨x, y, z, rfl, hx, hy, hz⟩, ?_⟩
  exact below_set (below_set (below_set (below_step (below_alloc (Below.refl _ _) _) B1.out) (Nat.le_refl _)) (Nat.le_refl _)) (Nat.le_refl _)
end Go.Proofs.Ytbfcilailhcanaa.Wk
