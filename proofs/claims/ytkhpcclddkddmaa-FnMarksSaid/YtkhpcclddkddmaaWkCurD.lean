/- Walks of this seat's own: the drawing cursor; the drawn number and its place. -/
import Derived.Test.YtkhpcclddkddmaaPFnExactMarksx0
import Derived.Test.YtkhpcclddkddmaaMy
import Derived.BigQuiet
namespace Go.Proofs.Ytkhpcclddkddmaa.Wk
open Go.RowKit Go.Proofs.YtkhpcclddkddmaaW.PrintWords Go.Proofs.YtkhpcclddkddmaaW.PrintLast Go.Proofs.YtkhpcclddkddmaaW.PrintMore Go.Proofs.Ytkhpcclddkddmaa.My
set_option linter.unusedVariables false
set_option linter.unusedSimpArgs false
theorem and_u64_255 (x : Int) : bits .and .u64 x 255 = x % 256 := and_u64_mask x 8 (by omega)
/-- A drawing cursor at block g (laid behind the world w0): its bytes lie where they lay in w0, it stands at a place of 0..k. -/
def Cur (w0 w : World) (g : Nat) (l : List Int) (k : Int) : Prop :=
  w0.heap.size ≤ g ∧ Below w0.heap.size w0 w ∧ ∃ (A : Option Addr) (c : Nat) (pos seed : Int), w.heap[g]? = some (.cells #[.slice A l.length c, .int .i64 pos, .int .u64 seed] 64 (0, 0)) ∧ l.length ≤ c ∧ Kd.C (Kd.int .u8) w0 A l.length l ∧ 0 ≤ pos ∧ pos ≤ k
def Keeps (g : Nat) (w w' : World) : Prop := w'.heap.size = w.heap.size ∧ ∀ j, j ≠ g → w'.heap[j]? = w.heap[j]?
theorem Keeps.trans {g : Nat} {w w1 w2 : World} (h : Keeps g w w1) (k : Keeps g w1 w2) : Keeps g w w2 := ⟨k.1.trans h.1, fun j hj => (k.2 j hj).trans (h.2 j hj)⟩
theorem Keeps.cell {g : Nat} {w w1 : World} (h : Keeps g w w1) {a : Addr} {v : Value} (hne : a.block ≠ g) (hc : w.cell? a = some v) : w1.cell? a = some v := by
  have := h.2 a.block hne
  simpa [World.cell?, this] using hc
theorem Keeps.frozen {g : Nat} {w w1 : World} (h : Keeps g w w1) {a : Addr} {v : Bool} (hne : a.block ≠ g) (hc : w.frozen? a = v) : w1.frozen? a = v := by
  have := h.2 a.block hne
  simpa [World.frozen?, this] using hc
set_option maxHeartbeats 4000000 in
theorem cur_next (w0 w : World) (g : Nat) (l : List Int) (k : Int) (hk : k ≤ 1099511627776) (hby : ∀ x ∈ l, (Lit.int .u8 x).wf = true) (h : Cur w0 w g l k) :
    Calls Try.prog 57 #[.pointer (some ⟨g, 0, none⟩)] w fun e w' => ∃ v : Int, e = .returned (.int .i64 v) ∧ 0 ≤ v ∧ v ≤ 255 ∧ Cur w0 w' g l (k + 1) ∧ Keeps g w w' := by
  obtain ⟨hg, hbel, A, c, pos, seed, hblk, hc, hr, p0, pk⟩ := h
  have BEL := Aside0.mk hbel
  have BLK := Aside0.mk hblk
  have HR := Aside0.mk (Kd.C_below hr hbel)
  have HBY := Aside0.mk hby
  have HR0 := Aside0.mk hr
  have hc0 : w.cell? ⟨g, 0, none⟩ = some (.slice A l.length c) := (blk_cell hblk 0).trans rfl
  have hc1 : w.cell? ⟨g, 1, none⟩ = some (.int .i64 pos) := (blk_cell hblk 1).trans rfl
  have hc2 : w.cell? ⟨g, 2, none⟩ = some (.int .u64 seed) := (blk_cell hblk 2).trans rfl
  have hf0 := blk_frozen hblk 0
  have hf1 := blk_frozen hblk 1
  have hf2 := blk_frozen hblk 2
  have hlt := blk_lt hblk
  have FIN : ∀ (p s : Int) (m n : Nat), 0 ≤ p → p ≤ k + 1 → Cur w0 ((((w.drewN m).setCell ⟨g, 1, none⟩ (.int .i64 p)).setCell ⟨g, 2, none⟩ (.int .u64 s)).drewN n) g l (k + 1) ∧ Keeps g w ((((w.drewN m).setCell ⟨g, 1, none⟩ (.int .i64 p)).setCell ⟨g, 2, none⟩ (.int .u64 s)).drewN n) := by
    intro p s m n hp0 hp1
    refine ⟨⟨hg, pw_below_drewN (below_set (below_set (pw_below_drewN BEL.out _) hg) hg) _, A, c, p, s, blk_drewN (blk_put (blk_put (blk_drewN BLK.out _) 1 _ rfl) 2 _ rfl) _, hc, HR0.out, hp0, hp1⟩, ?_, ?_⟩
    · simp [World.setCell, World.drewN]
    · intro j hj
      exact (Below.heap_setCell _ _ _ j hj).trans (Below.heap_setCell _ _ _ j hj)
  clear hblk hbel hr hby
  by_cases h1 : pos < l.length
  · obtain ⟨ad, e1, hx⟩ := Kd.at_int HR.out pos p0 h1
    have hbb := My.rd_byte HBY.out pos
    obtain ⟨b, hb⟩ : ∃ b, b = rd l pos := ⟨_, rfl⟩
    rw [← hb] at hx hbb
    clear hb
    obtain ⟨b0, b1⟩ := hbb
    cases e1
    go_enter Try.func57, Try.ntmps57
    go_wp2
    go_quiet (fail)
    go_wp2
    go_quiet (fail)
    go_wp2
    go_quiet (fail)
    go_wp2
    refine bodyPost_ret (v := .int .i64 b) (by simp [results, Try.results57, go_sem]) rfl ⟨b, rfl, b0, b1, FIN _ _ _ _ (by omega) (by omega)⟩
  · go_enter Try.func57, Try.ntmps57
    go_wp2
    go_quiet (fail)
    go_wp2
    go_quiet (fail)
    go_wp2
    rw [and_u64_255, My.wrap64_id (by omega) (by omega)]
    refine bodyPost_ret (v := .int .i64 _) (by simp [results, Try.results57, go_sem]; rfl) rfl ⟨_, rfl, by omega, by omega, FIN _ _ _ _ (by omega) (by omega)⟩
theorem wrap64_pick {x : Int} (h0 : 0 ≤ x) (h1 : x ≤ 9223372036854775807) : wrap64 x = x := My.wrap64_id (by omega) (by omega)
set_option maxHeartbeats 4000000 in
theorem cur_pick (w0 w : World) (g : Nat) (l : List Int) (k n : Int) (hk : k ≤ 1099511627000) (n0 : 1 ≤ n) (n1 : n ≤ 4294967296) (hby : ∀ x ∈ l, (Lit.int .u8 x).wf = true) (h : Cur w0 w g l k) :
    Calls Try.prog 50 #[.pointer (some ⟨g, 0, none⟩), .int .i64 n] w fun e w' => ∃ v : Int, e = .returned (.int .i64 v) ∧ 0 ≤ v ∧ v < n ∧ Cur w0 w' g l (k + 3) ∧ Keeps g w w' := by
  have HC := Aside0.mk h
  have HBY := Aside0.mk hby
  have UP : ∀ {k1 k2 : Int} {w1 : World}, Cur w0 w1 g l k1 → k1 ≤ k2 → Cur w0 w1 g l k2 := by
    rintro k1 k2 w1 ⟨a, b, A, c, p, s, e1, e2, e3, e4, e5⟩ hle
    exact ⟨a, b, A, c, p, s, e1, e2, e3, e4, by omega⟩
  have R0 : Keeps g w w := ⟨rfl, fun _ _ => rfl⟩
  have DN : ∀ {k1 : Int} {w1 : World} (m : Nat), Cur w0 w1 g l k1 → Cur w0 (w1.drewN m) g l k1 := by
    rintro k1 w1 m ⟨a, b, A, c, p, s, e1, e2, e3, e4, e5⟩
    exact ⟨a, pw_below_drewN b _, A, c, p, s, blk_drewN e1 _, e2, e3, e4, e5⟩
  have KD : ∀ {w1 : World} (m : Nat), Keeps g w w1 → Keeps g w (w1.drewN m) := fun m h => h
  clear h hby
  by_cases h1 : n ≤ 1
  · have t1 : decide (n ≤ 1) = true := decide_eq_true h1
    clear h1
    go_enter Try.func50, Try.ntmps50
    go_wp2
    refine bodyPost_ret (v := .int .i64 0) (by simp [results, Try.results50, go_sem]) rfl ⟨_, rfl, by omega, by omega, ?_, ?_⟩
    · first | exact UP HC.out (by omega) | exact UP (DN _ HC.out) (by omega)
    · first | exact R0 | exact KD _ R0
  · have t1 : decide (n ≤ 1) = false := decide_eq_false h1
    go_enter Try.func50, Try.ntmps50
    go_wp2_with fail
    refine (cur_next w0 _ g l k (by omega) HBY.out (by first | exact HC.out | exact DN _ HC.out)).mono ?_
    rintro e w1 ⟨v1, rfl, a1, b1, hc1, hk1⟩
    have C1 := Aside0.mk hc1
    have K1 : Aside0 (Keeps g w w1) := ⟨R0.trans hk1⟩
    clear hc1 hk1 HC
    by_cases h2 : 200 < n
    · have t2 : decide (200 < n) = true := decide_eq_true h2
      go_wp2_with fail
      refine (cur_next w0 _ g l (k + 1) (by omega) HBY.out (by first | exact C1.out | exact DN _ C1.out)).mono ?_
      rintro e w2 ⟨v2, rfl, a2, b2, hc2, hk2⟩
      have C2 := Aside0.mk hc2
      have K2 : Aside0 (Keeps g w w2) := ⟨K1.out.trans hk2⟩
      clear hc2 hk2 C1 K1
      by_cases h3 : 50000 < n
      · have t3 : decide (50000 < n) = true := decide_eq_true h3
        go_wp2_with fail
        refine (cur_next w0 _ g l (k + 1 + 1) (by omega) HBY.out (by first | exact C2.out | exact DN _ C2.out)).mono ?_
        rintro e w3 ⟨v3, rfl, a3, b3, hc3, hk3⟩
        have C3 := Aside0.mk hc3
        have K3 : Aside0 (Keeps g w w3) := ⟨K2.out.trans hk3⟩
        clear hc3 hk3 C2 K2
        go_wp2
        have x0 := Int.emod_nonneg ((v1 * 256 + v2) * 256 + v3) (show n ≠ 0 by omega)
        have x1 := Int.emod_lt_of_pos ((v1 * 256 + v2) * 256 + v3) (show 0 < n by omega)
        refine bodyPost_ret (v := .int .i64 (((v1 * 256 + v2) * 256 + v3) % n)) (by simp [results, Try.results50, go_sem]) rfl ⟨_, rfl, x0, x1, ?_, ?_⟩
        · first | exact UP C3.out (by omega) | exact UP (DN _ C3.out) (by omega)
        · first | exact K3.out | exact KD _ K3.out
      · have t3 : decide (50000 < n) = false := decide_eq_false h3
        go_wp2
        have x0 := Int.emod_nonneg (v1 * 256 + v2) (show n ≠ 0 by omega)
        have x1 := Int.emod_lt_of_pos (v1 * 256 + v2) (show 0 < n by omega)
        refine bodyPost_ret (v := .int .i64 ((v1 * 256 + v2) % n)) (by simp [results, Try.results50, go_sem]) rfl ⟨_, rfl, x0, x1, ?_, ?_⟩
        · first | exact UP C2.out (by omega) | exact UP (DN _ C2.out) (by omega)
        · first | exact K2.out | exact KD _ K2.out
    · have t2 : decide (200 < n) = false := decide_eq_false h2
      have h3 : ¬ 50000 < n := by omega
      have t3 : decide (50000 < n) = false := decide_eq_false h3
      go_wp2
      have x0 := Int.emod_nonneg (v1) (show n ≠ 0 by omega)
      have x1 := Int.emod_lt_of_pos (v1) (show 0 < n by omega)
      refine bodyPost_ret (v := .int .i64 ((v1) % n)) (by simp [results, Try.results50, go_sem]) rfl ⟨_, rfl, x0, x1, ?_, ?_⟩
      · first | exact UP C1.out (by omega) | exact UP (DN _ C1.out) (by omega)
      · first | exact K1.out | exact KD _ K1.out
set_option maxHeartbeats 4000000 in
theorem cur_one (w0 w : World) (g : Nat) (l : List Int) (k n : Int) (hk : k ≤ 1099511627000) (n0 : 1 ≤ n) (n1 : n ≤ 4294967296) (hby : ∀ x ∈ l, (Lit.int .u8 x).wf = true) (h : Cur w0 w g l k) :
    Calls Try.prog 51 #[.pointer (some ⟨g, 0, none⟩), .int .i64 n] w fun e w' => ∃ v : Bool, e = .returned (.bool v) ∧ Cur w0 w' g l (k + 3) ∧ Keeps g w w' := by
  have HC := Aside0.mk h
  have DN : ∀ {k1 : Int} {w1 : World} (m : Nat), Cur w0 w1 g l k1 → Cur w0 (w1.drewN m) g l k1 := by
    rintro k1 w1 m ⟨a, b, A, c, p, s, e1, e2, e3, e4, e5⟩
    exact ⟨a, pw_below_drewN b _, A, c, p, s, blk_drewN e1 _, e2, e3, e4, e5⟩
  have R0 : Keeps g w w := ⟨rfl, fun _ _ => rfl⟩
  clear h
  go_enter Try.func51, Try.ntmps51
  go_wp2_with fail
  refine (cur_pick w0 _ g l k n hk n0 n1 hby (by first | exact HC.out | exact DN _ HC.out)).mono ?_
  rintro e w1 ⟨v1, rfl, a1, b1, hc1, hk1⟩
  obtain ⟨t, ht⟩ : ∃ t : Bool, (v1 == 0) = t := ⟨_, rfl⟩
  have C1 := Aside0.mk hc1
  have K1 : Aside0 (Keeps g w w1) := ⟨R0.trans hk1⟩
  clear hc1 hk1 a1 b1
  go_wp2
  refine bodyPost_ret (v := .bool t) (by simp [results, Try.results51, go_sem]) rfl ⟨_, rfl, ?_, ?_⟩
  · first | exact C1.out | exact DN _ C1.out
  · exact K1.out
theorem Cur.drewN {w0 w : World} {g : Nat} {l : List Int} {k : Int} (h : Cur w0 w g l k) (m : Nat) : Cur w0 (w.drewN m) g l k := by
  obtain ⟨a, b, A, c, p, s, e1, e2, e3, e4, e5⟩ := h
  exact ⟨a, pw_below_drewN b _, A, c, p, s, blk_drewN e1 _, e2, e3, e4, e5⟩
set_option maxHeartbeats 4000000 in
theorem draw_marks (w : World) (A : Option Addr) (c : Nat) (l : List Int) (hc : l.length ≤ c) (hr : Kd.C (Kd.int .u8) w A l.length l) (hby : ∀ x ∈ l, (Lit.int .u8 x).wf = true) :
    Calls Try.prog 32 #[.slice A l.length c] w fun e w' => ∃ n f : Int, e = .returned (.tuple #[.int .i64 n, .int .i64 f]) ∧ (-1 ≤ n ∧ n ≤ 70000 ∧ 0 ≤ f ∧ f ≤ 1000) ∧ Below w.heap.size w w' := by
  have HR := Aside0.mk hr
  have HBY := Aside0.mk hby
  clear hr hby
  go_enter Try.func32, Try.ntmps32
  go_wp2_with fail
  refine (cur_pick w _ w.heap.size l 0 300 (by omega) (by omega) (by omega) HBY.out ?_).mono ?_
  · refine ⟨Nat.le_refl _, ?_, A, c, 0, 0, ?_, hc, HR.out, by omega, by omega⟩
    · exact below_alloc (Below.refl _ _) _
    · exact blk_new _ _
  rintro e w1 ⟨n, rfl, n0, n1, hc1, hk1⟩
  have C1 := Aside0.mk hc1
  clear hc1 hk1
  go_wp2_with fail
  refine (cur_one w _ w.heap.size l (0 + 3) 3 (by omega) (by omega) (by omega) HBY.out (by first | exact C1.out | exact C1.out.drewN _)).mono ?_
  rintro e w2 ⟨b1, rfl, hc1, hk1⟩
  have C2 := Aside0.mk hc1
  clear hc1 hk1
  cases b1
  · skip
    go_wp2_with fail
    refine (cur_pick w _ w.heap.size l (0 + 3 + 3) 60 (by omega) (by omega) (by omega) HBY.out (by first | exact C2.out | exact C2.out.drewN _)).mono ?_
    rintro e w3 ⟨f, rfl, f0, f1, hc1, hk1⟩
    have C3 := Aside0.mk hc1
    clear hc1 hk1
    go_wp2_with fail
    refine (cur_one w _ w.heap.size l (0 + 3 + 3 + 3) 6 (by omega) (by omega) (by omega) HBY.out (by first | exact C3.out | exact C3.out.drewN _)).mono ?_
    rintro e w4 ⟨b2, rfl, hc1, hk1⟩
    have C4 := Aside0.mk hc1
    clear hc1 hk1
    cases b2
    · skip
      go_wp2_with fail
      refine (cur_one w _ w.heap.size l (0 + 3 + 3 + 3 + 3) 12 (by omega) (by omega) (by omega) HBY.out (by first | exact C4.out | exact C4.out.drewN _)).mono ?_
      rintro e w5 ⟨d, rfl, hc1, hk1⟩
      have C5 := Aside0.mk hc1
      clear hc1 hk1
      cases d
      · skip
        go_wp2
        refine bodyPost_ret (v := .tuple #[.int .i64 (n), .int .i64 (f)]) (by simp [results, Try.results32, go_sem]) rfl ⟨_, _, rfl, ⟨by omega, by omega, by omega, by omega⟩, by first | exact C5.out.2.1 | exact pw_below_drewN C5.out.2.1 _⟩
      · skip
        go_wp2
        refine bodyPost_ret (v := .tuple #[.int .i64 (-1), .int .i64 (f)]) (by simp [results, Try.results32, go_sem]) rfl ⟨_, _, rfl, ⟨by omega, by omega, by omega, by omega⟩, by first | exact C5.out.2.1 | exact pw_below_drewN C5.out.2.1 _⟩
    · skip
      go_wp2_with fail
      refine (cur_pick w _ w.heap.size l (0 + 3 + 3 + 3 + 3) 4 (by omega) (by omega) (by omega) HBY.out (by first | exact C4.out | exact C4.out.drewN _)).mono ?_
      rintro e w5 ⟨f2, rfl, f20, f21, hc1, hk1⟩
      have C5 := Aside0.mk hc1
      clear hc1 hk1
      go_wp2_with fail
      refine (cur_one w _ w.heap.size l (0 + 3 + 3 + 3 + 3 + 3) 12 (by omega) (by omega) (by omega) HBY.out (by first | exact C5.out | exact C5.out.drewN _)).mono ?_
      rintro e w6 ⟨d, rfl, hc1, hk1⟩
      have C6 := Aside0.mk hc1
      clear hc1 hk1
      cases d
      · skip
        go_wp2
        refine bodyPost_ret (v := .tuple #[.int .i64 (n), .int .i64 (471 + f2)]) (by simp [results, Try.results32, go_sem]) rfl ⟨_, _, rfl, ⟨by omega, by omega, by omega, by omega⟩, by first | exact C6.out.2.1 | exact pw_below_drewN C6.out.2.1 _⟩
      · skip
        go_wp2
        refine bodyPost_ret (v := .tuple #[.int .i64 (-1), .int .i64 (471 + f2)]) (by simp [results, Try.results32, go_sem]) rfl ⟨_, _, rfl, ⟨by omega, by omega, by omega, by omega⟩, by first | exact C6.out.2.1 | exact pw_below_drewN C6.out.2.1 _⟩
  · skip
    go_wp2_with fail
    refine (cur_pick w _ w.heap.size l (0 + 3 + 3) 4 (by omega) (by omega) (by omega) HBY.out (by first | exact C2.out | exact C2.out.drewN _)).mono ?_
    rintro e w3 ⟨n2, rfl, n20, n21, hc1, hk1⟩
    have C3 := Aside0.mk hc1
    clear hc1 hk1
    go_wp2_with fail
    refine (cur_pick w _ w.heap.size l (0 + 3 + 3 + 3) 60 (by omega) (by omega) (by omega) HBY.out (by first | exact C3.out | exact C3.out.drewN _)).mono ?_
    rintro e w4 ⟨f, rfl, f0, f1, hc1, hk1⟩
    have C4 := Aside0.mk hc1
    clear hc1 hk1
    go_wp2_with fail
    refine (cur_one w _ w.heap.size l (0 + 3 + 3 + 3 + 3) 6 (by omega) (by omega) (by omega) HBY.out (by first | exact C4.out | exact C4.out.drewN _)).mono ?_
    rintro e w5 ⟨b2, rfl, hc1, hk1⟩
    have C5 := Aside0.mk hc1
    clear hc1 hk1
    cases b2
    · skip
      go_wp2_with fail
      refine (cur_one w _ w.heap.size l (0 + 3 + 3 + 3 + 3 + 3) 12 (by omega) (by omega) (by omega) HBY.out (by first | exact C5.out | exact C5.out.drewN _)).mono ?_
      rintro e w6 ⟨d, rfl, hc1, hk1⟩
      have C6 := Aside0.mk hc1
      clear hc1 hk1
      cases d
      · skip
        go_wp2
        refine bodyPost_ret (v := .tuple #[.int .i64 (65534 + n2), .int .i64 (f)]) (by simp [results, Try.results32, go_sem]) rfl ⟨_, _, rfl, ⟨by omega, by omega, by omega, by omega⟩, by first | exact C6.out.2.1 | exact pw_below_drewN C6.out.2.1 _⟩
      · skip
        go_wp2
        refine bodyPost_ret (v := .tuple #[.int .i64 (-1), .int .i64 (f)]) (by simp [results, Try.results32, go_sem]) rfl ⟨_, _, rfl, ⟨by omega, by omega, by omega, by omega⟩, by first | exact C6.out.2.1 | exact pw_below_drewN C6.out.2.1 _⟩
    · skip
      go_wp2_with fail
      refine (cur_pick w _ w.heap.size l (0 + 3 + 3 + 3 + 3 + 3) 4 (by omega) (by omega) (by omega) HBY.out (by first | exact C5.out | exact C5.out.drewN _)).mono ?_
      rintro e w6 ⟨f2, rfl, f20, f21, hc1, hk1⟩
      have C6 := Aside0.mk hc1
      clear hc1 hk1
      go_wp2_with fail
      refine (cur_one w _ w.heap.size l (0 + 3 + 3 + 3 + 3 + 3 + 3) 12 (by omega) (by omega) (by omega) HBY.out (by first | exact C6.out | exact C6.out.drewN _)).mono ?_
      rintro e w7 ⟨d, rfl, hc1, hk1⟩
      have C7 := Aside0.mk hc1
      clear hc1 hk1
      cases d
      · skip
        go_wp2
        refine bodyPost_ret (v := .tuple #[.int .i64 (65534 + n2), .int .i64 (471 + f2)]) (by simp [results, Try.results32, go_sem]) rfl ⟨_, _, rfl, ⟨by omega, by omega, by omega, by omega⟩, by first | exact C7.out.2.1 | exact pw_below_drewN C7.out.2.1 _⟩
      · skip
        go_wp2
        refine bodyPost_ret (v := .tuple #[.int .i64 (-1), .int .i64 (471 + f2)]) (by simp [results, Try.results32, go_sem]) rfl ⟨_, _, rfl, ⟨by omega, by omega, by omega, by omega⟩, by first | exact C7.out.2.1 | exact pw_below_drewN C7.out.2.1 _⟩
end Go.Proofs.Ytkhpcclddkddmaa.Wk
