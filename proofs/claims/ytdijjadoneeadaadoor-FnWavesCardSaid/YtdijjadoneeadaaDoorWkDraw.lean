/- Walks of this seat's own: the drawing cursor; a drawn tone. -/
import Derived.Test.YtdijjadoneeadaaDoorWkHEE
import Derived.BigQuiet
namespace Go.Proofs.YtdijjadoneeadaaDoor.Wk
open Go.RowKit Go.Proofs.YtdijjadoneeadaaDoorW.PrintWords Go.Proofs.YtdijjadoneeadaaDoorW.PrintLast Go.Proofs.YtdijjadoneeadaaDoorW.PrintMore Go.Proofs.YtdijjadoneeadaaDoor.My
set_option linter.unusedVariables false
set_option linter.unusedSimpArgs false
theorem and_u64_255 (x : Int) : bits .and .u64 x 255 = x % 256 := and_u64_mask x 8 (by omega)
/-- A drawing cursor at block g (laid behind the world w0): its bytes lie where they lay in w0, it stands at a place of 0..k. -/
def Cur (w0 w : World) (g : Nat) (l : List Int) (k : Int) : Prop :=
  w0.heap.size ≤ g ∧ Below w0.heap.size w0 w ∧ ∃ (A : Option Addr) (c : Nat) (pos seed : Int), w.heap[g]? = some (.cells #[.slice A l.length c, .int .i64 pos, .int .u64 seed] 40 (0, 0)) ∧ l.length ≤ c ∧ Kd.C (Kd.int .u8) w0 A l.length l ∧ 0 ≤ pos ∧ pos ≤ k
def Keeps (g : Nat) (w w' : World) : Prop := w'.heap.size = w.heap.size ∧ ∀ j, j ≠ g → w'.heap[j]? = w.heap[j]?
theorem Keeps.trans {g : Nat} {w w1 w2 : World} (h : Keeps g w w1) (k : Keeps g w1 w2) : Keeps g w w2 := ⟨k.1.trans h.1, fun j hj => (k.2 j hj).trans (h.2 j hj)⟩
theorem Keeps.cell {g : Nat} {w w1 : World} (h : Keeps g w w1) {a : Addr} {v : Value} (hne : a.block ≠ g) (hc : w.cell? a = some v) : w1.cell? a = some v := by
  have := h.2 a.block hne
  simpa [World.cell?, this] using hc
theorem Keeps.frozen {g : Nat} {w w1 : World} (h : Keeps g w w1) {a : Addr} {v : Bool} (hne : a.block ≠ g) (hc : w.frozen? a = v) : w1.frozen? a = v := by
  have := h.2 a.block hne
  simpa [World.frozen?, this] using hc
set_option maxHeartbeats 4000000 in
theorem cur_next (w0 w : World) (g : Nat) (l : List Int) (k : Int) (hk : k ≤ 1099511627776) (hby : ∀ x ∈ l, (Lit.int .u8 x).wf = true) (h : Cur w0 w g l k) :
    Calls Tryd.prog 23 #[.pointer (some ⟨g, 0, none⟩)] w fun e w' => ∃ v : Int, e = .returned (.int .i64 v) ∧ 0 ≤ v ∧ v ≤ 255 ∧ Cur w0 w' g l (k + 1) ∧ Keeps g w w' := by
  obtain ⟨hg, hbel, A, c, pos, seed, hblk, hc, hr, p0, pk⟩ := h
  have BEL := Aside0.mk hbel
  have BLK := Aside0.mk hblk
  have HR := Aside0.mk (Kd.C_below hr hbel)
  have HBY := Aside0.mk hby
  have HR0 := Aside0.mk hr
  have hc0 : w.cell? ⟨g, 0, none⟩ = some (.slice A l.length c) := (blk_cell hblk 0).trans rfl
  have hc1 : w.cell? ⟨g, 1, none⟩ = some (.int .i64 pos) := (blk_cell hblk 1).trans rfl
  have hc2 : w.cell? ⟨g, 2, none⟩ = some (.int .u64 seed) := (blk_cell hblk 2).trans rfl
  have hf0 := blk_frozen hblk 0
  have hf1 := blk_frozen hblk 1
  have hf2 := blk_frozen hblk 2
  have hlt := blk_lt hblk
  have FIN : ∀ (p s : Int) (m n : Nat), 0 ≤ p → p ≤ k + 1 → Cur w0 ((((w.drewN m).setCell ⟨g, 1, none⟩ (.int .i64 p)).setCell ⟨g, 2, none⟩ (.int .u64 s)).drewN n) g l (k + 1) ∧ Keeps g w ((((w.drewN m).setCell ⟨g, 1, none⟩ (.int .i64 p)).setCell ⟨g, 2, none⟩ (.int .u64 s)).drewN n) := by
    intro p s m n hp0 hp1
    refine ⟨⟨hg, pw_below_drewN (below_set (below_set (pw_below_drewN BEL.out _) hg) hg) _, A, c, p, s, blk_drewN (blk_put (blk_put (blk_drewN BLK.out _) 1 _ rfl) 2 _ rfl) _, hc, HR0.out, hp0, hp1⟩, ?_, ?_⟩
    · simp [World.setCell, World.drewN]
    · intro j hj
      exact (Below.heap_setCell _ _ _ j hj).trans (Below.heap_setCell _ _ _ j hj)
  clear hblk hbel hr hby
  by_cases h1 : pos < l.length
  · obtain ⟨ad, e1, hx⟩ := Kd.at_int HR.out pos p0 h1
    have hbb := My.rd_byte HBY.out pos
    obtain ⟨b, hb⟩ : ∃ b, b = rd l pos := ⟨_, rfl⟩
    rw [← hb] at hx hbb
    clear hb
    obtain ⟨b0, b1⟩ := hbb
    cases e1
    go_enter Tryd.func23, Tryd.ntmps23
    go_wp2
    go_quiet (fail)
    go_wp2
    go_quiet (fail)
    go_wp2
    go_quiet (fail)
    go_wp2
    refine bodyPost_ret (v := .int .i64 b) (by simp [results, Tryd.results23, go_sem]) rfl ⟨b, rfl, b0, b1, FIN _ _ _ _ (by omega) (by omega)⟩
  · go_enter Tryd.func23, Tryd.ntmps23
    go_wp2
    go_quiet (fail)
    go_wp2
    go_quiet (fail)
    go_wp2
    rw [and_u64_255, My.wrap64_id (by omega) (by omega)]
    refine bodyPost_ret (v := .int .i64 _) (by simp [results, Tryd.results23, go_sem]; rfl) rfl ⟨_, rfl, by omega, by omega, FIN _ _ _ _ (by omega) (by omega)⟩
theorem wrap64_pick {x : Int} (h0 : 0 ≤ x) (h1 : x ≤ 9223372036854775807) : wrap64 x = x := My.wrap64_id (by omega) (by omega)
set_option maxHeartbeats 4000000 in
theorem cur_pick (w0 w : World) (g : Nat) (l : List Int) (k n : Int) (hk : k ≤ 1099511627000) (n0 : 1 ≤ n) (n1 : n ≤ 4294967296) (hby : ∀ x ∈ l, (Lit.int .u8 x).wf = true) (h : Cur w0 w g l k) :
    Calls Tryd.prog 20 #[.pointer (some ⟨g, 0, none⟩), .int .i64 n] w fun e w' => ∃ v : Int, e = .returned (.int .i64 v) ∧ 0 ≤ v ∧ v < n ∧ Cur w0 w' g l (k + 3) ∧ Keeps g w w' := by
  have HC := Aside0.mk h
  have HBY := Aside0.mk hby
  have UP : ∀ {k1 k2 : Int} {w1 : World}, Cur w0 w1 g l k1 → k1 ≤ k2 → Cur w0 w1 g l k2 := by
    rintro k1 k2 w1 ⟨a, b, A, c, p, s, e1, e2, e3, e4, e5⟩ hle
    exact ⟨a, b, A, c, p, s, e1, e2, e3, e4, by omega⟩
  have R0 : Keeps g w w := ⟨rfl, fun _ _ => rfl⟩
  have DN : ∀ {k1 : Int} {w1 : World} (m : Nat), Cur w0 w1 g l k1 → Cur w0 (w1.drewN m) g l k1 := by
    rintro k1 w1 m ⟨a, b, A, c, p, s, e1, e2, e3, e4, e5⟩
    exact ⟨a, pw_below_drewN b _, A, c, p, s, blk_drewN e1 _, e2, e3, e4, e5⟩
  have KD : ∀ {w1 : World} (m : Nat), Keeps g w w1 → Keeps g w (w1.drewN m) := fun m h => h
  clear h hby
  by_cases h1 : n ≤ 1
  · have t1 : decide (n ≤ 1) = true := decide_eq_true h1
    clear h1
    go_enter Tryd.func20, Tryd.ntmps20
    go_wp2
    refine bodyPost_ret (v := .int .i64 0) (by simp [results, Tryd.results20, go_sem]) rfl ⟨_, rfl, by omega, by omega, ?_, ?_⟩
    · first | exact UP HC.out (by omega) | exact UP (DN _ HC.out) (by omega)
    · first | exact R0 | exact KD _ R0
  · have t1 : decide (n ≤ 1) = false := decide_eq_false h1
    go_enter Tryd.func20, Tryd.ntmps20
    go_wp2_with fail
    refine (cur_next w0 _ g l k (by omega) HBY.out (by first | exact HC.out | exact DN _ HC.out)).mono ?_
    rintro e w1 ⟨v1, rfl, a1, b1, hc1, hk1⟩
    have C1 := Aside0.mk hc1
    have K1 : Aside0 (Keeps g w w1) := ⟨R0.trans hk1⟩
    clear hc1 hk1 HC
    by_cases h2 : 200 < n
    · have t2 : decide (200 < n) = true := decide_eq_true h2
      go_wp2_with fail
      refine (cur_next w0 _ g l (k + 1) (by omega) HBY.out (by first | exact C1.out | exact DN _ C1.out)).mono ?_
      rintro e w2 ⟨v2, rfl, a2, b2, hc2, hk2⟩
      have C2 := Aside0.mk hc2
      have K2 : Aside0 (Keeps g w w2) := ⟨K1.out.trans hk2⟩
      clear hc2 hk2 C1 K1
      by_cases h3 : 50000 < n
      · have t3 : decide (50000 < n) = true := decide_eq_true h3
        go_wp2_with fail
        refine (cur_next w0 _ g l (k + 1 + 1) (by omega) HBY.out (by first | exact C2.out | exact DN _ C2.out)).mono ?_
        rintro e w3 ⟨v3, rfl, a3, b3, hc3, hk3⟩
        have C3 := Aside0.mk hc3
        have K3 : Aside0 (Keeps g w w3) := ⟨K2.out.trans hk3⟩
        clear hc3 hk3 C2 K2
        go_wp2
        have x0 := Int.emod_nonneg ((v1 * 256 + v2) * 256 + v3) (show n ≠ 0 by omega)
        have x1 := Int.emod_lt_of_pos ((v1 * 256 + v2) * 256 + v3) (show 0 < n by omega)
        refine bodyPost_ret (v := .int .i64 (((v1 * 256 + v2) * 256 + v3) % n)) (by simp [results, Tryd.results20, go_sem]) rfl ⟨_, rfl, x0, x1, ?_, ?_⟩
        · first | exact UP C3.out (by omega) | exact UP (DN _ C3.out) (by omega)
        · first | exact K3.out | exact KD _ K3.out
      · have t3 : decide (50000 < n) = false := decide_eq_false h3
        go_wp2
        have x0 := Int.emod_nonneg (v1 * 256 + v2) (show n ≠ 0 by omega)
        have x1 := Int.emod_lt_of_pos (v1 * 256 + v2) (show 0 < n by omega)
        refine bodyPost_ret (v := .int .i64 ((v1 * 256 + v2) % n)) (by simp [results, Tryd.results20, go_sem]) rfl ⟨_, rfl, x0, x1, ?_, ?_⟩
        · first | exact UP C2.out (by omega) | exact UP (DN _ C2.out) (by omega)
        · first | exact K2.out | exact KD _ K2.out
    · have t2 : decide (200 < n) = false := decide_eq_false h2
      have h3 : ¬ 50000 < n := by omega
      have t3 : decide (50000 < n) = false := decide_eq_false h3
      go_wp2
      have x0 := Int.emod_nonneg (v1) (show n ≠ 0 by omega)
      have x1 := Int.emod_lt_of_pos (v1) (show 0 < n by omega)
      refine bodyPost_ret (v := .int .i64 ((v1) % n)) (by simp [results, Tryd.results20, go_sem]) rfl ⟨_, rfl, x0, x1, ?_, ?_⟩
      · first | exact UP C1.out (by omega) | exact UP (DN _ C1.out) (by omega)
      · first | exact K1.out | exact KD _ K1.out
theorem Cur.drewN {w0 w : World} {g : Nat} {l : List Int} {k : Int} (h : Cur w0 w g l k) (m : Nat) : Cur w0 (w.drewN m) g l k := by
  obtain ⟨a, b, A, c, p, s, e1, e2, e3, e4, e5⟩ := h
  exact ⟨a, pw_below_drewN b _, A, c, p, s, blk_drewN e1 _, e2, e3, e4, e5⟩
theorem Cur.move {w0 w w1 : World} {g : Nat} {l : List Int} {k : Int} (h : Cur w0 w g l k) (hb : Below w0.heap.size w0 w1) (he : w1.heap[g]? = w.heap[g]?) : Cur w0 w1 g l k := by
  obtain ⟨a, b, A, c, p, s, e1, e2, e3, e4, e5⟩ := h
  exact ⟨a, hb, A, c, p, s, he.trans e1, e2, e3, e4, e5⟩
theorem Cur.up {w0 w : World} {g : Nat} {l : List Int} {k k2 : Int} (h : Cur w0 w g l k) (hk : k ≤ k2) : Cur w0 w g l k2 := by
  obtain ⟨a, b, A, c, p, s, e1, e2, e3, e4, e5⟩ := h
  exact ⟨a, b, A, c, p, s, e1, e2, e3, e4, by omega⟩
theorem Cur.lt {w0 w : World} {g : Nat} {l : List Int} {k : Int} (h : Cur w0 w g l k) : g < w.heap.size := by
  obtain ⟨a, b, A, c, p, s, e1, e2, e3, e4, e5⟩ := h
  exact blk_lt e1
theorem Cur.put {w0 w : World} {g gb : Nat} {l : List Int} {k : Int} (h : Cur w0 w g l k) (hne : g ≠ gb) (hb : w0.heap.size ≤ gb) (j : Nat) (u : Value) : Cur w0 (w.setCell ⟨gb, j, none⟩ u) g l k :=
  h.move (below_set h.2.1 hb) (Below.heap_setCell w ⟨gb, j, none⟩ u g hne)
theorem set_b {x : List Int} {lo hi z : Int} (h : ∀ y ∈ x, lo ≤ y ∧ y ≤ hi) (i : Nat) (h0 : lo ≤ z) (h1 : z ≤ hi) : ∀ y ∈ x.set i z, lo ≤ y ∧ y ≤ hi := by
  intro y hy
  rcases List.mem_or_eq_of_mem_set hy with hy | rfl
  · exact h y hy
  · exact ⟨h0, h1⟩
theorem wf_i64 {y : Int} (h0 : -9223372036854775808 ≤ y) (h1 : y ≤ 9223372036854775807) : (Lit.int .i64 y).wf = true := by
  have e0 : IntKind.i64.min = -9223372036854775808 := by decide
  have e1 : IntKind.i64.max = 9223372036854775807 := by decide
  simp [Lit.wf, e0, e1, h0, h1]
theorem R_keeps {α : Type} {d : Kd α} {e base g : Nat} {ok : Nat → Prop} {w w1 : World} {v : Value} {xs : List α} (h : d.R e w base ok v xs) (hk : Keeps g w w1) (hg : g < base) : d.R e w1 base ok v xs :=
  Kd.R_mono (Kd.R_step (Kd.R_bound h) (fun k hk2 _ => hk.2 k (by have := hk2.2.1; omega))) (fun _ h => h.1)
set_option maxRecDepth 100000 in
set_option maxHeartbeats 40000000 in
/-- A drawn tone of sixteen numbers: some sixteen numbers of 64 bits in a row of its own. -/
theorem tone_calls (w0 w : World) (gc : Nat) (l : List Int) (k : Int) (hk : k ≤ 1000000) (hby : ∀ x ∈ l, (Lit.int .u8 x).wf = true) (h : Cur w0 w gc l k) :
    Calls Tryd.prog 19 #[.pointer (some ⟨gc, 0, none⟩), .int .i64 16, .int .i64 16] w fun e w' => ∃ (A : Option Addr) (c : Nat) (x : List Int), e = .returned (.slice A 16 c) ∧ x.length = 16 ∧ (∀ y ∈ x, (Lit.int .i64 y).wf = true) ∧ Kd.R (Kd.int .i64) 3 w' w.heap.size (fun _ => True) (.slice A 16 c) x ∧ Cur w0 w' gc l (k + 57) := by
  have HC := Aside0.mk h
  have HBY := Aside0.mk hby
  clear h hby
  go_enter Tryd.func19, Tryd.ntmps19
  go_wp2_with fail
  refine (cur_pick w0 _ gc l k 5 (by omega) (by omega) (by omega) HBY.out (by first | exact HC.out | exact HC.out.drewN _)).mono ?_
  rintro e wc ⟨kd, rfl, kd0, kd1, hc1, hk1⟩
  have C1 := Aside0.mk hc1
  have GL := Aside0.mk hc1.lt
  have K1 := Aside0.mk hk1
  clear hc1 HC hk1
  go_wp2_with ((with_reducible refine gate_dst (N := 20) rfl ?_); (refine Kd.R_make (Kd.int .i64) (w0 := wc) wc.heap.size 3 rfl (N := 20) rfl 22 _ _ rfl (16 : Int) rfl rfl Tryd.underlying22 (.int .i64 0) 8 info3 rfl (by decide) (by omega) 0 (ok := fun _ => True) (okp := fun _ => True) rfl (fun _ hk => hk) trivial (by omega) (by omega) ?mB1 ?mS1 ?_); (case mB1 => first | exact Below.refl _ _ | exact HB.out); (case mS1 => first | exact Nat.le_refl _ | exact below_size HB.out); intro v1 w1 ho hb hg hn; (try rw [Int.toNat_natCast] at ho); obtain ⟨A1, c1, rfl⟩ := R_slice_n (n := 16) ho (by simp); have HO := Aside0.mk ho; have HB := Aside0.mk hb; clear ho hb hg hn)
  refine (cur_pick w0 _ gc l (k + 3) 65536 (by omega) (by omega) (by omega) HBY.out ?_).mono ?_
  · exact C1.out.move (below_step C1.out.2.1 HB.out) (HB.out.block gc GL.out)
  rintro e w2 ⟨v0, rfl, v00, v01, hc2, hk2⟩
  have C2 := Aside0.mk hc2
  have HO2 := Aside0.mk (R_keeps HO.out hk2 GL.out)
  clear hc2 hk2 HO
  go_wp2_with fail
  refine (cur_pick w0 _ gc l (k + 3 + 3) 40 (by omega) (by omega) (by omega) HBY.out (by first | exact C2.out | exact C2.out.drewN _)).mono ?_
  rintro e w3 ⟨s0, rfl, s00, s01, hc3, hk3⟩
  have C3 := Aside0.mk (hc3.up (show k + 3 + 3 + 3 ≤ k + 9 + 3 * ((0 : Nat) : Int) by omega))
  have HO3 := Aside0.mk (R_keeps HO2.out hk3 GL.out)
  clear hc3 hk3 HO2 C2
  go_wp2
  go_loopg [10, 11, 32] 16 (fun q v10 v11 v32 w' => ∃ (i : Nat) (v s : Int) (x : List Int), v10 = .int .i64 v ∧ v11 = .int .i64 s ∧ v32 = .int .i64 (i : Int) ∧ Aside0 (i + q = 16) ∧ Aside0 (-32768 ≤ v ∧ v ≤ 32767 ∧ -20 ≤ s ∧ s ≤ 20) ∧ Aside0 (x.length = 16 ∧ ∀ y ∈ x, -32768 ≤ y ∧ y ≤ 32767) ∧ Aside0 (Kd.R (Kd.int .i64) 3 w' wc.heap.size (fun _ => True) (.slice A1 16 c1) x) ∧ Aside0 (Cur w0 w' gc l (k + 9 + 3 * (i : Int))))
  case atStart => exact ⟨0, _, _, _, rfl, rfl, rfl, ⟨by omega⟩, ⟨by omega⟩, ⟨by simp, fun y hy => by have := List.eq_of_mem_replicate hy; omega⟩, HO3, C3⟩
  case round =>
    clear HO3 C3 v00 v01 s00 s01
    obtain ⟨i, v, s, x, rfl, rfl, rfl, Q, VB, XB, HO, HC⟩ := hrel
    obtain ⟨vb1, vb2, sb1, sb2⟩ := VB.out
    by_cases c0 : i < 16
    · obtain ⟨q, rfl⟩ : ∃ q, gk = q + 1 := ⟨gk - 1, by have := Q.out; omega⟩
      have kdc : kd = 0 ∨ kd = 1 ∨ kd = 2 ∨ kd = 3 ∨ kd = 4 := by omega
      rcases kdc with rfl | rfl | rfl | rfl | rfl
      · go_wp2_with fail
        refine (cur_pick w0 _ gc l (k + 9 + 3 * (i : Int)) 65536 (by omega) (by omega) (by omega) HBY.out (by first | exact HC.out | exact HC.out.drewN _)).mono ?_
        rintro e w5 ⟨p, rfl, p0, p1, hc5, hk5⟩
        have HC5 := Aside0.mk hc5
        have HO5 := Aside0.mk (R_keeps HO.out hk5 GL.out)
        clear hc5 hk5 HO HC
        go_upto_region 20 with fail
        obtain ⟨y, hy⟩ : ∃ y : Int, y = p - 32768 := ⟨_, rfl⟩
        rw [← hy]
        have yb : -100000 ≤ y ∧ y ≤ 100000 := by omega
        clear hy
        obtain ⟨gb, cap, e2, gbb, gl, cl, hg⟩ := Kd.R_form HO5.out (by have := XB.out.1; omega)
        rw [XB.out.1] at e2
        cases e2
        obtain ⟨hx, hfz⟩ := Kd.R_celln 0 HO5.out (i : Int) (by omega) (by omega)
        rw [Int.toNat_natCast] at hx hfz
        have NE : Aside0 (gc ≠ gb) := ⟨by have := GL.out; omega⟩
        have GB : Aside0 (w0.heap.size ≤ gb) := ⟨by have := GL.out; have := C1.out.1; omega⟩
        clear gbb gl cl hg
        by_cases q1 : y < -32768
        · have q2 : decide (y < -32768) = true := decide_eq_true q1
          go_wp2
          go_roundg q
          case measure => omega
          case rel => exact ⟨i + 1, -32768, s, _, rfl, rfl, by go_num, ⟨by have := Q.out; omega⟩, ⟨by omega⟩, ⟨by have := XB.out.1; simpa using this, set_b XB.out.2 _ (by omega) (by omega)⟩, ⟨Kd.R_putn HO5.out (i : Int) (-32768)⟩, ⟨(HC5.out.put NE.out GB.out i (.int .i64 (-32768))).up (by omega)⟩⟩
        have q2 : decide (y < -32768) = false := decide_eq_false q1
        by_cases q3 : 32768 ≤ y
        · have q4 : decide (32768 ≤ y) = true := decide_eq_true q3
          go_wp2
          go_roundg q
          case measure => omega
          case rel => exact ⟨i + 1, 32767, s, _, rfl, rfl, by go_num, ⟨by have := Q.out; omega⟩, ⟨by omega⟩, ⟨by have := XB.out.1; simpa using this, set_b XB.out.2 _ (by omega) (by omega)⟩, ⟨Kd.R_putn HO5.out (i : Int) (32767)⟩, ⟨(HC5.out.put NE.out GB.out i (.int .i64 (32767))).up (by omega)⟩⟩
        have q4 : decide (32768 ≤ y) = false := decide_eq_false q3
        go_wp2
        go_roundg q
        case measure => omega
        case rel => exact ⟨i + 1, y, s, _, rfl, rfl, by go_num, ⟨by have := Q.out; omega⟩, ⟨by omega⟩, ⟨by have := XB.out.1; simpa using this, set_b XB.out.2 _ (by omega) (by omega)⟩, ⟨Kd.R_putn HO5.out (i : Int) (y)⟩, ⟨(HC5.out.put NE.out GB.out i (.int .i64 (y))).up (by omega)⟩⟩
      · go_upto_region 20 with fail
        · obtain ⟨y, hy⟩ : ∃ y : Int, y = v + s := ⟨_, rfl⟩
          rw [← hy]
          have yb : -100000 ≤ y ∧ y ≤ 100000 := by omega
          clear hy
          obtain ⟨gb, cap, e2, gbb, gl, cl, hg⟩ := Kd.R_form HO.out (by have := XB.out.1; omega)
          rw [XB.out.1] at e2
          cases e2
          obtain ⟨hx, hfz⟩ := Kd.R_celln 0 HO.out (i : Int) (by omega) (by omega)
          rw [Int.toNat_natCast] at hx hfz
          have NE : Aside0 (gc ≠ gb) := ⟨by have := GL.out; omega⟩
          have GB : Aside0 (w0.heap.size ≤ gb) := ⟨by have := GL.out; have := C1.out.1; omega⟩
          clear gbb gl cl hg
          by_cases q1 : y < -32768
          · have q2 : decide (y < -32768) = true := decide_eq_true q1
            go_wp2
            go_roundg q
            case measure => omega
            case rel => exact ⟨i + 1, -32768, -s, _, rfl, rfl, by go_num, ⟨by have := Q.out; omega⟩, ⟨by omega⟩, ⟨by have := XB.out.1; simpa using this, set_b XB.out.2 _ (by omega) (by omega)⟩, ⟨Kd.R_putn HO.out (i : Int) (-32768)⟩, ⟨(HC.out.put NE.out GB.out i (.int .i64 (-32768))).up (by omega)⟩⟩
          have q2 : decide (y < -32768) = false := decide_eq_false q1
          by_cases q3 : 32768 ≤ y
          · have q4 : decide (32768 ≤ y) = true := decide_eq_true q3
            go_wp2
            go_roundg q
            case measure => omega
            case rel => exact ⟨i + 1, 32767, -s, _, rfl, rfl, by go_num, ⟨by have := Q.out; omega⟩, ⟨by omega⟩, ⟨by have := XB.out.1; simpa using this, set_b XB.out.2 _ (by omega) (by omega)⟩, ⟨Kd.R_putn HO.out (i : Int) (32767)⟩, ⟨(HC.out.put NE.out GB.out i (.int .i64 (32767))).up (by omega)⟩⟩
          have q4 : decide (32768 ≤ y) = false := decide_eq_false q3
          go_wp2
          go_roundg q
          case measure => omega
          case rel => exact ⟨i + 1, y, -s, _, rfl, rfl, by go_num, ⟨by have := Q.out; omega⟩, ⟨by omega⟩, ⟨by have := XB.out.1; simpa using this, set_b XB.out.2 _ (by omega) (by omega)⟩, ⟨Kd.R_putn HO.out (i : Int) (y)⟩, ⟨(HC.out.put NE.out GB.out i (.int .i64 (y))).up (by omega)⟩⟩
        · obtain ⟨y, hy⟩ : ∃ y : Int, y = v + s := ⟨_, rfl⟩
          rw [← hy]
          have yb : -100000 ≤ y ∧ y ≤ 100000 := by omega
          clear hy
          obtain ⟨gb, cap, e2, gbb, gl, cl, hg⟩ := Kd.R_form HO.out (by have := XB.out.1; omega)
          rw [XB.out.1] at e2
          cases e2
          obtain ⟨hx, hfz⟩ := Kd.R_celln 0 HO.out (i : Int) (by omega) (by omega)
          rw [Int.toNat_natCast] at hx hfz
          have NE : Aside0 (gc ≠ gb) := ⟨by have := GL.out; omega⟩
          have GB : Aside0 (w0.heap.size ≤ gb) := ⟨by have := GL.out; have := C1.out.1; omega⟩
          clear gbb gl cl hg
          by_cases q1 : y < -32768
          · have q2 : decide (y < -32768) = true := decide_eq_true q1
            go_wp2
            go_roundg q
            case measure => omega
            case rel => exact ⟨i + 1, -32768, s, _, rfl, rfl, by go_num, ⟨by have := Q.out; omega⟩, ⟨by omega⟩, ⟨by have := XB.out.1; simpa using this, set_b XB.out.2 _ (by omega) (by omega)⟩, ⟨Kd.R_putn HO.out (i : Int) (-32768)⟩, ⟨(HC.out.put NE.out GB.out i (.int .i64 (-32768))).up (by omega)⟩⟩
          have q2 : decide (y < -32768) = false := decide_eq_false q1
          by_cases q3 : 32768 ≤ y
          · have q4 : decide (32768 ≤ y) = true := decide_eq_true q3
            go_wp2
            go_roundg q
            case measure => omega
            case rel => exact ⟨i + 1, 32767, s, _, rfl, rfl, by go_num, ⟨by have := Q.out; omega⟩, ⟨by omega⟩, ⟨by have := XB.out.1; simpa using this, set_b XB.out.2 _ (by omega) (by omega)⟩, ⟨Kd.R_putn HO.out (i : Int) (32767)⟩, ⟨(HC.out.put NE.out GB.out i (.int .i64 (32767))).up (by omega)⟩⟩
          have q4 : decide (32768 ≤ y) = false := decide_eq_false q3
          go_wp2
          go_roundg q
          case measure => omega
          case rel => exact ⟨i + 1, y, s, _, rfl, rfl, by go_num, ⟨by have := Q.out; omega⟩, ⟨by omega⟩, ⟨by have := XB.out.1; simpa using this, set_b XB.out.2 _ (by omega) (by omega)⟩, ⟨Kd.R_putn HO.out (i : Int) (y)⟩, ⟨(HC.out.put NE.out GB.out i (.int .i64 (y))).up (by omega)⟩⟩
      · go_wp2_with fail
        refine (cur_pick w0 _ gc l (k + 9 + 3 * (i : Int)) 7 (by omega) (by omega) (by omega) HBY.out (by first | exact HC.out | exact HC.out.drewN _)).mono ?_
        rintro e w5 ⟨p, rfl, p0, p1, hc5, hk5⟩
        have HC5 := Aside0.mk hc5
        have HO5 := Aside0.mk (R_keeps HO.out hk5 GL.out)
        clear hc5 hk5 HO HC
        go_upto_region 20 with fail
        obtain ⟨y, hy⟩ : ∃ y : Int, y = v + (p - 3) := ⟨_, rfl⟩
        rw [← hy]
        have yb : -100000 ≤ y ∧ y ≤ 100000 := by omega
        clear hy
        obtain ⟨gb, cap, e2, gbb, gl, cl, hg⟩ := Kd.R_form HO5.out (by have := XB.out.1; omega)
        rw [XB.out.1] at e2
        cases e2
        obtain ⟨hx, hfz⟩ := Kd.R_celln 0 HO5.out (i : Int) (by omega) (by omega)
        rw [Int.toNat_natCast] at hx hfz
        have NE : Aside0 (gc ≠ gb) := ⟨by have := GL.out; omega⟩
        have GB : Aside0 (w0.heap.size ≤ gb) := ⟨by have := GL.out; have := C1.out.1; omega⟩
        clear gbb gl cl hg
        by_cases q1 : y < -32768
        · have q2 : decide (y < -32768) = true := decide_eq_true q1
          go_wp2
          go_roundg q
          case measure => omega
          case rel => exact ⟨i + 1, -32768, s, _, rfl, rfl, by go_num, ⟨by have := Q.out; omega⟩, ⟨by omega⟩, ⟨by have := XB.out.1; simpa using this, set_b XB.out.2 _ (by omega) (by omega)⟩, ⟨Kd.R_putn HO5.out (i : Int) (-32768)⟩, ⟨(HC5.out.put NE.out GB.out i (.int .i64 (-32768))).up (by omega)⟩⟩
        have q2 : decide (y < -32768) = false := decide_eq_false q1
        by_cases q3 : 32768 ≤ y
        · have q4 : decide (32768 ≤ y) = true := decide_eq_true q3
          go_wp2
          go_roundg q
          case measure => omega
          case rel => exact ⟨i + 1, 32767, s, _, rfl, rfl, by go_num, ⟨by have := Q.out; omega⟩, ⟨by omega⟩, ⟨by have := XB.out.1; simpa using this, set_b XB.out.2 _ (by omega) (by omega)⟩, ⟨Kd.R_putn HO5.out (i : Int) (32767)⟩, ⟨(HC5.out.put NE.out GB.out i (.int .i64 (32767))).up (by omega)⟩⟩
        have q4 : decide (32768 ≤ y) = false := decide_eq_false q3
        go_wp2
        go_roundg q
        case measure => omega
        case rel => exact ⟨i + 1, y, s, _, rfl, rfl, by go_num, ⟨by have := Q.out; omega⟩, ⟨by omega⟩, ⟨by have := XB.out.1; simpa using this, set_b XB.out.2 _ (by omega) (by omega)⟩, ⟨Kd.R_putn HO5.out (i : Int) (y)⟩, ⟨(HC5.out.put NE.out GB.out i (.int .i64 (y))).up (by omega)⟩⟩
      · go_upto_region 20 with fail
        obtain ⟨y, hy⟩ : ∃ y : Int, y = wrap64 ((wrap64 (wrap64 ((i : Int) * (i : Int)) * s)).tdiv 9) := ⟨_, rfl⟩
        rw [← hy]
        clear hy
        obtain ⟨gb, cap, e2, gbb, gl, cl, hg⟩ := Kd.R_form HO.out (by have := XB.out.1; omega)
        rw [XB.out.1] at e2
        cases e2
        obtain ⟨hx, hfz⟩ := Kd.R_celln 0 HO.out (i : Int) (by omega) (by omega)
        rw [Int.toNat_natCast] at hx hfz
        have NE : Aside0 (gc ≠ gb) := ⟨by have := GL.out; omega⟩
        have GB : Aside0 (w0.heap.size ≤ gb) := ⟨by have := GL.out; have := C1.out.1; omega⟩
        clear gbb gl cl hg
        by_cases q1 : y < -32768
        · have q2 : decide (y < -32768) = true := decide_eq_true q1
          go_wp2
          go_roundg q
          case measure => omega
          case rel => exact ⟨i + 1, -32768, s, _, rfl, rfl, by go_num, ⟨by have := Q.out; omega⟩, ⟨by omega⟩, ⟨by have := XB.out.1; simpa using this, set_b XB.out.2 _ (by omega) (by omega)⟩, ⟨Kd.R_putn HO.out (i : Int) (-32768)⟩, ⟨(HC.out.put NE.out GB.out i (.int .i64 (-32768))).up (by omega)⟩⟩
        have q2 : decide (y < -32768) = false := decide_eq_false q1
        by_cases q3 : 32768 ≤ y
        · have q4 : decide (32768 ≤ y) = true := decide_eq_true q3
          go_wp2
          go_roundg q
          case measure => omega
          case rel => exact ⟨i + 1, 32767, s, _, rfl, rfl, by go_num, ⟨by have := Q.out; omega⟩, ⟨by omega⟩, ⟨by have := XB.out.1; simpa using this, set_b XB.out.2 _ (by omega) (by omega)⟩, ⟨Kd.R_putn HO.out (i : Int) (32767)⟩, ⟨(HC.out.put NE.out GB.out i (.int .i64 (32767))).up (by omega)⟩⟩
        have q4 : decide (32768 ≤ y) = false := decide_eq_false q3
        go_wp2
        go_roundg q
        case measure => omega
        case rel => exact ⟨i + 1, y, s, _, rfl, rfl, by go_num, ⟨by have := Q.out; omega⟩, ⟨by omega⟩, ⟨by have := XB.out.1; simpa using this, set_b XB.out.2 _ (by omega) (by omega)⟩, ⟨Kd.R_putn HO.out (i : Int) (y)⟩, ⟨(HC.out.put NE.out GB.out i (.int .i64 (y))).up (by omega)⟩⟩
      · go_upto_region 20 with fail
        obtain ⟨y, hy⟩ : ∃ y : Int, y = v := ⟨_, rfl⟩
        rw [← hy]
        have yb : -100000 ≤ y ∧ y ≤ 100000 := by omega
        clear hy
        obtain ⟨gb, cap, e2, gbb, gl, cl, hg⟩ := Kd.R_form HO.out (by have := XB.out.1; omega)
        rw [XB.out.1] at e2
        cases e2
        obtain ⟨hx, hfz⟩ := Kd.R_celln 0 HO.out (i : Int) (by omega) (by omega)
        rw [Int.toNat_natCast] at hx hfz
        have NE : Aside0 (gc ≠ gb) := ⟨by have := GL.out; omega⟩
        have GB : Aside0 (w0.heap.size ≤ gb) := ⟨by have := GL.out; have := C1.out.1; omega⟩
        clear gbb gl cl hg
        by_cases q1 : y < -32768
        · have q2 : decide (y < -32768) = true := decide_eq_true q1
          go_wp2
          go_roundg q
          case measure => omega
          case rel => exact ⟨i + 1, -32768, s, _, rfl, rfl, by go_num, ⟨by have := Q.out; omega⟩, ⟨by omega⟩, ⟨by have := XB.out.1; simpa using this, set_b XB.out.2 _ (by omega) (by omega)⟩, ⟨Kd.R_putn HO.out (i : Int) (-32768)⟩, ⟨(HC.out.put NE.out GB.out i (.int .i64 (-32768))).up (by omega)⟩⟩
        have q2 : decide (y < -32768) = false := decide_eq_false q1
        by_cases q3 : 32768 ≤ y
        · have q4 : decide (32768 ≤ y) = true := decide_eq_true q3
          go_wp2
          go_roundg q
          case measure => omega
          case rel => exact ⟨i + 1, 32767, s, _, rfl, rfl, by go_num, ⟨by have := Q.out; omega⟩, ⟨by omega⟩, ⟨by have := XB.out.1; simpa using this, set_b XB.out.2 _ (by omega) (by omega)⟩, ⟨Kd.R_putn HO.out (i : Int) (32767)⟩, ⟨(HC.out.put NE.out GB.out i (.int .i64 (32767))).up (by omega)⟩⟩
        have q4 : decide (32768 ≤ y) = false := decide_eq_false q3
        go_wp2
        go_roundg q
        case measure => omega
        case rel => exact ⟨i + 1, y, s, _, rfl, rfl, by go_num, ⟨by have := Q.out; omega⟩, ⟨by omega⟩, ⟨by have := XB.out.1; simpa using this, set_b XB.out.2 _ (by omega) (by omega)⟩, ⟨Kd.R_putn HO.out (i : Int) (y)⟩, ⟨(HC.out.put NE.out GB.out i (.int .i64 (y))).up (by omega)⟩⟩
    · have XW : Aside0 (∀ y ∈ x, (Lit.int .i64 y).wf = true) := ⟨fun y hy => by have := XB.out.2 y hy; exact wf_i64 (by omega) (by omega)⟩
      have HC2 := Aside0.mk (HC.out.up (show k + 9 + 3 * (i : Int) ≤ k + 57 by have := Q.out; omega))
      go_wp2
      go_ret
      exact ⟨A1, c1, x, rfl, XB.out.1, XW.out, Kd.R_lower HO.out (Nat.le_of_eq K1.out.1.symm), HC2.out⟩
end Go.Proofs.YtdijjadoneeadaaDoor.Wk
