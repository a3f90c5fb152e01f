/- Walks of this seat's own: the drawing cursor; the drawn number. -/
import Derived.Test.YtjjaahdfjjomiaaPureNum
import Derived.BigQuiet
namespace Go.Proofs.Ytjjaahdfjjomiaa.Wk
open Go.RowKit Go.Proofs.YtjjaahdfjjomiaaW.PrintWords Go.Proofs.YtjjaahdfjjomiaaW.PrintLast Go.Proofs.YtjjaahdfjjomiaaW.PrintMore Go.Proofs.Ytjjaahdfjjomiaa.My
set_option linter.unusedVariables false
set_option linter.unusedSimpArgs false
theorem and_u64_255 (x : Int) : bits .and .u64 x 255 = x % 256 := and_u64_mask x 8 (by omega)
/-- A drawing cursor at block g (laid behind the world w0): its bytes lie where they lay in w0, it stands at a place of 0..k. -/
def Cur (w0 w : World) (g : Nat) (l : List Int) (k : Int) : Prop :=
  w0.heap.size ≤ g ∧ Below w0.heap.size w0 w ∧ ∃ (A : Option Addr) (c : Nat) (pos seed : Int), w.heap[g]? = some (.cells #[.slice A l.length c, .int .i64 pos, .int .u64 seed] 51 (0, 0)) ∧ l.length ≤ c ∧ Kd.C (Kd.int .u8) w0 A l.length l ∧ 0 ≤ pos ∧ pos ≤ k
def Keeps (g : Nat) (w w' : World) : Prop := w'.heap.size = w.heap.size ∧ ∀ j, j ≠ g → w'.heap[j]? = w.heap[j]?
theorem Keeps.trans {g : Nat} {w w1 w2 : World} (h : Keeps g w w1) (k : Keeps g w1 w2) : Keeps g w w2 := ⟨k.1.trans h.1, fun j hj => (k.2 j hj).trans (h.2 j hj)⟩
theorem Keeps.cell {g : Nat} {w w1 : World} (h : Keeps g w w1) {a : Addr} {v : Value} (hne : a.block ≠ g) (hc : w.cell? a = some v) : w1.cell? a = some v := by
  have := h.2 a.block hne
  simpa [World.cell?, this] using hc
theorem Keeps.frozen {g : Nat} {w w1 : World} (h : Keeps g w w1) {a : Addr} {v : Bool} (hne : a.block ≠ g) (hc : w.frozen? a = v) : w1.frozen? a = v := by
  have := h.2 a.block hne
  simpa [World.frozen?, this] using hc
set_option maxHeartbeats 4000000 in
theorem cur_next (w0 w : World) (g : Nat) (l : List Int) (k : Int) (hk : k ≤ 1099511627776) (hby : ∀ x ∈ l, (Lit.int .u8 x).wf = true) (h : Cur w0 w g l k) :
    Calls Try.prog 52 #[.pointer (some ⟨g, 0, none⟩)] w fun e w' => ∃ v : Int, e = .returned (.int .i64 v) ∧ 0 ≤ v ∧ v ≤ 255 ∧ Cur w0 w' g l (k + 1) ∧ Keeps g w w' := by
  obtain ⟨hg, hbel, A, c, pos, seed, hblk, hc, hr, p0, pk⟩ := h
  have BEL := Aside0.mk hbel
  have BLK := Aside0.mk hblk
  have HR := Aside0.mk (Kd.C_below hr hbel)
  have HBY := Aside0.mk hby
  have HR0 := Aside0.mk hr
  have hc0 : w.cell? ⟨g, 0, none⟩ = some (.slice A l.length c) := (blk_cell hblk 0).trans rfl
  have hc1 : w.cell? ⟨g, 1, none⟩ = some (.int .i64 pos) := (blk_cell hblk 1).trans rfl
  have hc2 : w.cell? ⟨g, 2, none⟩ = some (.int .u64 seed) := (blk_cell hblk 2).trans rfl
  have hf0 := blk_frozen hblk 0
  have hf1 := blk_frozen hblk 1
  have hf2 := blk_frozen hblk 2
  have hlt := blk_lt hblk
  have FIN : ∀ (p s : Int) (m n : Nat), 0 ≤ p → p ≤ k + 1 → Cur w0 ((((w.drewN m).setCell ⟨g, 1, none⟩ (.int .i64 p)).setCell ⟨g, 2, none⟩ (.int .u64 s)).drewN n) g l (k + 1) ∧ Keeps g w ((((w.drewN m).setCell ⟨g, 1, none⟩ (.int .i64 p)).setCell ⟨g, 2, none⟩ (.int .u64 s)).drewN n) := by
    intro p s m n hp0 hp1
    refine ⟨⟨hg, pw_below_drewN (below_set (below_set (pw_below_drewN BEL.out _) hg) hg) _, A, c, p, s, blk_drewN (blk_put (blk_put (blk_drewN BLK.out _) 1 _ rfl) 2 _ rfl) _, hc, HR0.out, hp0, hp1⟩, ?_, ?_⟩
    · simp [World.setCell, World.drewN]
    · intro j hj
      exact (Below.heap_setCell _ _ _ j hj).trans (Below.heap_setCell _ _ _ j hj)
  clear hblk hbel hr hby
  by_cases h1 : pos < l.length
  · obtain ⟨ad, e1, hx⟩ := Kd.at_int HR.out pos p0 h1
    have hbb := My.rd_byte HBY.out pos
    obtain ⟨b, hb⟩ : ∃ b, b = rd l pos := ⟨_, rfl⟩
    rw [← hb] at hx hbb
    clear hb
    obtain ⟨b0, b1⟩ := hbb
    cases e1
    go_enter Try.func52, Try.ntmps52
    go_wp2
    go_quiet (fail)
    go_wp2
    go_quiet (fail)
    go_wp2
    go_quiet (fail)
    go_wp2
    refine bodyPost_ret (v := .int .i64 b) (by simp [results, Try.results52, go_sem]) rfl ⟨b, rfl, b0, b1, FIN _ _ _ _ (by omega) (by omega)⟩
  · go_enter Try.func52, Try.ntmps52
    go_wp2
    go_quiet (fail)
    go_wp2
    go_quiet (fail)
    go_wp2
    rw [and_u64_255, My.wrap64_id (by omega) (by omega)]
    refine bodyPost_ret (v := .int .i64 _) (by simp [results, Try.results52, go_sem]; rfl) rfl ⟨_, rfl, by omega, by omega, FIN _ _ _ _ (by omega) (by omega)⟩
theorem wrap64_pick {x : Int} (h0 : 0 ≤ x) (h1 : x ≤ 9223372036854775807) : wrap64 x = x := My.wrap64_id (by omega) (by omega)
set_option maxHeartbeats 4000000 in
theorem cur_pick (w0 w : World) (g : Nat) (l : List Int) (k n : Int) (hk : k ≤ 1099511627000) (n0 : 1 ≤ n) (n1 : n ≤ 4294967296) (hby : ∀ x ∈ l, (Lit.int .u8 x).wf = true) (h : Cur w0 w g l k) :
    Calls Try.prog 45 #[.pointer (some ⟨g, 0, none⟩), .int .i64 n] w fun e w' => ∃ v : Int, e = .returned (.int .i64 v) ∧ 0 ≤ v ∧ v < n ∧ Cur w0 w' g l (k + 3) ∧ Keeps g w w' := by
  have HC := Aside0.mk h
  have HBY := Aside0.mk hby
  have UP : ∀ {k1 k2 : Int} {w1 : World}, Cur w0 w1 g l k1 → k1 ≤ k2 → Cur w0 w1 g l k2 := by
    rintro k1 k2 w1 ⟨a, b, A, c, p, s, e1, e2, e3, e4, e5⟩ hle
    exact ⟨a, b, A, c, p, s, e1, e2, e3, e4, by omega⟩
  have R0 : Keeps g w w := ⟨rfl, fun _ _ => rfl⟩
  have DN : ∀ {k1 : Int} {w1 : World} (m : Nat), Cur w0 w1 g l k1 → Cur w0 (w1.drewN m) g l k1 := by
    rintro k1 w1 m ⟨a, b, A, c, p, s, e1, e2, e3, e4, e5⟩
    exact ⟨a, pw_below_drewN b _, A, c, p, s, blk_drewN e1 _, e2, e3, e4, e5⟩
  have KD : ∀ {w1 : World} (m : Nat), Keeps g w w1 → Keeps g w (w1.drewN m) := fun m h => h
  clear h hby
  by_cases h1 : n ≤ 1
  · have t1 : decide (n ≤ 1) = true := decide_eq_true h1
    clear h1
    go_enter Try.func45, Try.ntmps45
    go_wp2
    refine bodyPost_ret (v := .int .i64 0) (by simp [results, Try.results45, go_sem]) rfl ⟨_, rfl, by omega, by omega, ?_, ?_⟩
    · first | exact UP HC.out (by omega) | exact UP (DN _ HC.out) (by omega)
    · first | exact R0 | exact KD _ R0
  · have t1 : decide (n ≤ 1) = false := decide_eq_false h1
    go_enter Try.func45, Try.ntmps45
    go_wp2_with fail
    refine (cur_next w0 _ g l k (by omega) HBY.out (by first | exact HC.out | exact DN _ HC.out)).mono ?_
    rintro e w1 ⟨v1, rfl, a1, b1, hc1, hk1⟩
    have C1 := Aside0.mk hc1
    have K1 : Aside0 (Keeps g w w1) := ⟨R0.trans hk1⟩
    clear hc1 hk1 HC
    by_cases h2 : 200 < n
    · have t2 : decide (200 < n) = true := decide_eq_true h2
      go_wp2_with fail
      refine (cur_next w0 _ g l (k + 1) (by omega) HBY.out (by first | exact C1.out | exact DN _ C1.out)).mono ?_
      rintro e w2 ⟨v2, rfl, a2, b2, hc2, hk2⟩
      have C2 := Aside0.mk hc2
      have K2 : Aside0 (Keeps g w w2) := ⟨K1.out.trans hk2⟩
      clear hc2 hk2 C1 K1
      by_cases h3 : 50000 < n
      · have t3 : decide (50000 < n) = true := decide_eq_true h3
        go_wp2_with fail
        refine (cur_next w0 _ g l (k + 1 + 1) (by omega) HBY.out (by first | exact C2.out | exact DN _ C2.out)).mono ?_
        rintro e w3 ⟨v3, rfl, a3, b3, hc3, hk3⟩
        have C3 := Aside0.mk hc3
        have K3 : Aside0 (Keeps g w w3) := ⟨K2.out.trans hk3⟩
        clear hc3 hk3 C2 K2
        go_wp2
        have x0 := Int.emod_nonneg ((v1 * 256 + v2) * 256 + v3) (show n ≠ 0 by omega)
        have x1 := Int.emod_lt_of_pos ((v1 * 256 + v2) * 256 + v3) (show 0 < n by omega)
        refine bodyPost_ret (v := .int .i64 (((v1 * 256 + v2) * 256 + v3) % n)) (by simp [results, Try.results45, go_sem]) rfl ⟨_, rfl, x0, x1, ?_, ?_⟩
        · first | exact UP C3.out (by omega) | exact UP (DN _ C3.out) (by omega)
        · first | exact K3.out | exact KD _ K3.out
      · have t3 : decide (50000 < n) = false := decide_eq_false h3
        go_wp2
        have x0 := Int.emod_nonneg (v1 * 256 + v2) (show n ≠ 0 by omega)
        have x1 := Int.emod_lt_of_pos (v1 * 256 + v2) (show 0 < n by omega)
        refine bodyPost_ret (v := .int .i64 ((v1 * 256 + v2) % n)) (by simp [results, Try.results45, go_sem]) rfl ⟨_, rfl, x0, x1, ?_, ?_⟩
        · first | exact UP C2.out (by omega) | exact UP (DN _ C2.out) (by omega)
        · first | exact K2.out | exact KD _ K2.out
    · have t2 : decide (200 < n) = false := decide_eq_false h2
      have h3 : ¬ 50000 < n := by omega
      have t3 : decide (50000 < n) = false := decide_eq_false h3
      go_wp2
      have x0 := Int.emod_nonneg (v1) (show n ≠ 0 by omega)
      have x1 := Int.emod_lt_of_pos (v1) (show 0 < n by omega)
      refine bodyPost_ret (v := .int .i64 ((v1) % n)) (by simp [results, Try.results45, go_sem]) rfl ⟨_, rfl, x0, x1, ?_, ?_⟩
      · first | exact UP C1.out (by omega) | exact UP (DN _ C1.out) (by omega)
      · first | exact K1.out | exact KD _ K1.out
set_option maxHeartbeats 4000000 in
theorem cur_one (w0 w : World) (g : Nat) (l : List Int) (k n : Int) (hk : k ≤ 1099511627000) (n0 : 1 ≤ n) (n1 : n ≤ 4294967296) (hby : ∀ x ∈ l, (Lit.int .u8 x).wf = true) (h : Cur w0 w g l k) :
    Calls Try.prog 44 #[.pointer (some ⟨g, 0, none⟩), .int .i64 n] w fun e w' => ∃ v : Bool, e = .returned (.bool v) ∧ Cur w0 w' g l (k + 3) ∧ Keeps g w w' := by
  have HC := Aside0.mk h
  have DN : ∀ {k1 : Int} {w1 : World} (m : Nat), Cur w0 w1 g l k1 → Cur w0 (w1.drewN m) g l k1 := by
    rintro k1 w1 m ⟨a, b, A, c, p, s, e1, e2, e3, e4, e5⟩
    exact ⟨a, pw_below_drewN b _, A, c, p, s, blk_drewN e1 _, e2, e3, e4, e5⟩
  have R0 : Keeps g w w := ⟨rfl, fun _ _ => rfl⟩
  clear h
  go_enter Try.func44, Try.ntmps44
  go_wp2_with fail
  refine (cur_pick w0 _ g l k n hk n0 n1 hby (by first | exact HC.out | exact DN _ HC.out)).mono ?_
  rintro e w1 ⟨v1, rfl, a1, b1, hc1, hk1⟩
  obtain ⟨t, ht⟩ : ∃ t : Bool, (v1 == 0) = t := ⟨_, rfl⟩
  have C1 := Aside0.mk hc1
  have K1 : Aside0 (Keeps g w w1) := ⟨R0.trans hk1⟩
  clear hc1 hk1 a1 b1
  go_wp2
  refine bodyPost_ret (v := .bool t) (by simp [results, Try.results44, go_sem]) rfl ⟨_, rfl, ?_, ?_⟩
  · first | exact C1.out | exact DN _ C1.out
  · exact K1.out
theorem Cur.drewN {w0 w : World} {g : Nat} {l : List Int} {k : Int} (h : Cur w0 w g l k) (m : Nat) : Cur w0 (w.drewN m) g l k := by
  obtain ⟨a, b, A, c, p, s, e1, e2, e3, e4, e5⟩ := h
  exact ⟨a, pw_below_drewN b _, A, c, p, s, blk_drewN e1 _, e2, e3, e4, e5⟩
theorem Cur.up {w0 w : World} {g : Nat} {l : List Int} {k1 k2 : Int} (h : Cur w0 w g l k1) (hk : k1 ≤ k2) : Cur w0 w g l k2 := by
  obtain ⟨a, b, A, c, p, s, e1, e2, e3, e4, e5⟩ := h
  exact ⟨a, b, A, c, p, s, e1, e2, e3, e4, by omega⟩
theorem u64_range (x : Int) : 0 ≤ IntKind.u64.wrap x ∧ IntKind.u64.wrap x < 18446744073709551616 := by rw [u64_wrap]; omega
set_option maxHeartbeats 4000000 in
theorem cur_wide (w0 w : World) (g : Nat) (l : List Int) (k : Int) (hk : k ≤ 1099511620000) (hby : ∀ x ∈ l, (Lit.int .u8 x).wf = true) (h : Cur w0 w g l k) :
    Calls Try.prog 46 #[.pointer (some ⟨g, 0, none⟩)] w fun e w' => ∃ v : Int, e = .returned (.int .u64 v) ∧ 0 ≤ v ∧ v < 18446744073709551616 ∧ Cur w0 w' g l (k + 12) ∧ Keeps g w w' := by
  have HC := Aside0.mk h
  have HBY := Aside0.mk hby
  clear h hby
  go_enter Try.func46, Try.ntmps46
  go_wp2_with fail
  refine (cur_pick w0 _ g l k 9 (by omega) (by omega) (by omega) HBY.out (by first | exact HC.out | exact HC.out.drewN _)).mono ?_
  rintro e w1 ⟨n, rfl, n0, n1, hc1, hk1⟩
  have C1 := Aside0.mk hc1
  have K1 : Aside0 (Keeps g w w1) := ⟨by first | exact hk1 | exact Keeps.trans ⟨rfl, fun _ _ => rfl⟩ hk1⟩
  clear hc1 hk1 HC
  go_wp2
  go_loopg [3, 4] 8 (fun q v3 v4 w' => ∃ x i : Int, v3 = .int .u64 x ∧ v4 = .int .i64 i ∧ (0 ≤ i ∧ i ≤ (q : Int) ∧ (q : Int) ≤ 8) ∧ Aside0 (0 ≤ x ∧ x < 18446744073709551616) ∧ Aside0 (Cur w0 w' g l (k + 3 + (8 - (q : Int)))) ∧ Aside0 (Keeps g w w'))
  case atStart => exact ⟨0, n, rfl, rfl, ⟨n0, by omega, by omega⟩, ⟨by omega, by omega⟩, ⟨by first | exact C1.out.up (by omega) | exact (C1.out.drewN _).up (by omega)⟩, K1⟩
  case round =>
    obtain ⟨x, i, rfl, rfl, hi, X, CC, KK⟩ := hrel
    by_cases c0 : 0 < i
    · obtain ⟨q, rfl⟩ : ∃ q, gk = q + 1 := ⟨gk - 1, by omega⟩
      go_wp2_with fail
      refine (cur_next w0 _ g l (k + 3 + (8 - ((q + 1 : Nat) : Int))) (by omega) HBY.out (by first | exact CC.out | exact CC.out.drewN _)).mono ?_
      rintro e w2 ⟨y, rfl, y0, y1, hc2, hk2⟩
      have C2 := Aside0.mk hc2
      have K2 : Aside0 (Keeps g w w2) := ⟨KK.out.trans hk2⟩
      clear hc2 hk2 CC KK
      go_wp2
      go_roundg q
      case measure => omega
      case rel => exact ⟨_, i - 1, rfl, rfl, by omega, ⟨u64_range _⟩, ⟨by first | exact C2.out.up (by omega) | exact (C2.out.drewN _).up (by omega)⟩, K2⟩
    · go_wp2
      refine bodyPost_ret (v := .int .u64 x) (by simp [results, Try.results46, go_sem]) rfl ⟨x, rfl, X.out.1, X.out.2, ?_, ?_⟩
      · first | exact CC.out.up (by omega) | exact (CC.out.drewN _).up (by omega)
      · exact KK.out
set_option maxHeartbeats 4000000 in
theorem draw_number (w : World) (A : Option Addr) (c : Nat) (l : List Int) (hc : l.length ≤ c) (hr : Kd.C (Kd.int .u8) w A l.length l) (hby : ∀ x ∈ l, (Lit.int .u8 x).wf = true) :
    Calls Try.prog 33 #[.slice A l.length c] w fun e w' => ∃ v : Int, e = .returned (.int .u64 v) ∧ 0 ≤ v ∧ v < 18446744073709551616 ∧ Below w.heap.size w w' := by
  have HR := Aside0.mk hr
  clear hr
  go_enter Try.func33, Try.ntmps33
  go_wp2_with fail
  refine (cur_one w _ w.heap.size l 0 2 (by omega) (by omega) (by omega) hby ?_).mono ?_
  · refine ⟨Nat.le_refl _, ?_, A, c, 0, 0, ?_, hc, HR.out, by omega, by omega⟩
    · exact below_alloc (Below.refl _ _) _
    · exact blk_new _ _
  rintro e w1 ⟨b, rfl, hc1, hk1⟩
  have C1 := Aside0.mk hc1
  clear hc1 hk1
  cases b
  · go_wp2_with fail
    refine (cur_wide w _ w.heap.size l (0 + 3) (by omega) hby (by first | exact C1.out | exact C1.out.drewN _)).mono ?_
    rintro e w2 ⟨v, rfl, v0, v1, hc2, hk2⟩
    go_wp2
    go_ret
    exact ⟨v, rfl, v0, v1, by first | exact hc2.2.1 | exact pw_below_drewN hc2.2.1 _⟩
  · go_wp2_with fail
    refine (cur_pick w _ w.heap.size l (0 + 3) 64 (by omega) (by omega) (by omega) hby (by first | exact C1.out | exact C1.out.drewN _)).mono ?_
    rintro e w2 ⟨v, rfl, v0, v1, hc2, hk2⟩
    have C2 := Aside0.mk hc2
    clear hc2 hk2
    go_wp2_with fail
    refine (cur_pick w _ w.heap.size l (0 + 3 + 3) 2 (by omega) (by omega) (by omega) hby (by first | exact C2.out | exact C2.out.drewN _)).mono ?_
    rintro e w3 ⟨u, rfl, u0, u1, hc3, hk3⟩
    have C3 := Aside0.mk hc3
    clear hc3 hk3
    go_wp2
    go_ret
    exact ⟨_, rfl, (u64_range _).1, (u64_range _).2, by first | exact C3.out.2.1 | exact pw_below_drewN C3.out.2.1 _⟩
end Go.Proofs.Ytjjaahdfjjomiaa.Wk
