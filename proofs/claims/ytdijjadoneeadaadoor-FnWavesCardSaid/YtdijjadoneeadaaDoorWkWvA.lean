/- Walks of this seat's own: a row of waves in memory; the samples' test on both sides; the reference's pairs. -/
import Derived.Test.YtdijjadoneeadaaDoorWkHEE
import Derived.Test.YtdijjadoneeadaaDoorWv
import Derived.Test.YtdijjadoneeadaaDoorPFnExactPowersx1
import Derived.WalkLawsBesides
import Derived.BigRegion
namespace Go.Proofs.YtdijjadoneeadaaDoor.Wk
open Go.RowKit Go.Proofs.YtdijjadoneeadaaDoorW.PrintWords Go.Proofs.YtdijjadoneeadaaDoorW.PrintLast Go.Proofs.YtdijjadoneeadaaDoorW.PrintMore Go.Proofs.YtdijjadoneeadaaDoor.My Go.Proofs.YtdijjadoneeadaaDoor.Wv
open Go.Proofs.YtdijjadoneeadaaDoor.PFnExactPowers
set_option linter.unusedVariables false
set_option linter.unusedSimpArgs false
attribute [local congr] bind_left ite_left
/-- A float is stored as a number is. -/
theorem run_store_float {P : Program} {w : World} {a : Addr} {m : Mode} (k : FloatKind) (n : Nat) : (store a (.float k n) m).run P w = stored P w a (.float k n) m := run_store P w a _ m rfl
theorem l11Samples_eq (k : Nat) (l : List Int) (hl : l.length ≤ 1048576) (hk : l.length < k) : spec_l11Samples.f k l 16 = some (inB (-32768) 32767 l && ((l.length : Int) == 16)) := by
  unfold spec_l11Samples.f
  refine range_loop (F := fun k i => spec_l11Samples.l0 k l 16 l (l.length : Int) i) (c := 0) (fun k i hi => ?_) (fun k => ?_) k (by omega)
  · simp only [spec_l11Samples.l0, rd_nat]
    rw [wrap64_nat (by omega)]
    simp (disch := omega) only [if_pos, if_neg, decide_eq_true, decide_eq_false, if_true, Bool.false_eq_true, if_false, wrap64_id, u64_id, Option.bind_some]
  · simp only [spec_l11Samples.l0]
    rw [if_neg (by omega), if_neg (by omega)]
theorem zrange_eq (k : Nat) (l : List Int) (lo hi most : Int) (hl : l.length ≤ 1048576) (hk : l.length < k) : impl_zrange.f k l lo hi most = some (decide ((l.length : Int) ≤ most) && inB lo hi l) := by
  unfold impl_zrange.f
  by_cases h : (l.length : Int) > most
  · rw [if_pos h, decide_eq_false (by omega), Bool.false_and]
  rw [if_neg h, decide_eq_true (by omega), Bool.true_and, ← Bool.and_true (inB lo hi l)]
  refine range_loop (F := fun k i => impl_zrange.l0 k lo hi l (l.length : Int) i) (c := 0) (fun k i hi => ?_) (fun k => ?_) k (by omega)
  · simp only [impl_zrange.l0, rd_nat]
    rw [wrap64_nat (by omega)]
    simp (disch := omega) only [if_pos, if_neg, decide_eq_true, decide_eq_false, if_true, Bool.false_eq_true, if_false, wrap64_id, u64_id, Option.bind_some]
  · simp only [impl_zrange.l0]
    rw [if_neg (by omega)]
theorem zsamples_eq (k : Nat) (l : List Int) (hl : l.length ≤ 1048576) (hk : l.length < k) : impl_zsamples.f k l 16 = some (inB (-32768) 32767 l && ((l.length : Int) == 16)) := by
  unfold impl_zsamples.f
  by_cases h : l.length = 16
  · rw [if_pos (by omega), zrange_eq _ _ _ _ _ hl hk, Option.bind_some, decide_eq_true (by omega), Bool.true_and, show ((l.length : Int) == 16) = true from by simp [h], Bool.and_true]
  · rw [if_neg (by omega), show ((l.length : Int) == 16) = false from by simp; omega, Bool.and_false]
/-- Sixteen samples, none of them too great. -/
def okL (l : List Int) : Prop := inB (-32768) 32767 l = true ∧ l.length = 16
theorem okL_iff (l : List Int) : (inB (-32768) 32767 l && ((l.length : Int) == 16)) = true ↔ okL l := by
  unfold okL
  rw [Bool.and_eq_true]
  constructor
  · rintro ⟨h1, h2⟩
    exact ⟨h1, by simp at h2; omega⟩
  · rintro ⟨h1, h2⟩
    exact ⟨h1, by simp [h2]⟩
theorem okL_abs {l : List Int} (h : okL l) (i : Nat) : (l.getD i 0).natAbs ≤ 2 ^ 15 := by
  by_cases hi : i < l.length
  · have := inB_iff.1 h.1 i hi
    omega
  · rw [List.getD, List.getElem?_eq_none (by omega)]
    decide
/-- A row of n waves fills the block g. -/
def WRow (w : World) (g n : Nat) (X : Nat → Nat × Nat) : Prop :=
  ∃ cs : Array Value, w.heap[g]? = some (.cells cs 34 (0, 0)) ∧ n * 2 ≤ cs.size ∧ ∀ i, i < n → cs[i * 2]? = some (.float .f64 (X i).1) ∧ cs[i * 2 + 1]? = some (.float .f64 (X i).2)
section
variable {w w1 : World} {g n : Nat} {X Y : Nat → Nat × Nat}
theorem WRow.cell (h : WRow w g n X) (i : Nat) (hi : i < n) : w.cell? ⟨g, i * 2, none⟩ = some (.float .f64 (X i).1) ∧ w.cell? ⟨g, i * 2 + 1, none⟩ = some (.float .f64 (X i).2) ∧ w.frozen? ⟨g, i * 2, none⟩ = false ∧ w.frozen? ⟨g, i * 2 + 1, none⟩ = false := by
  obtain ⟨cs, hb, hs, hc⟩ := h
  exact ⟨(blk_cell hb _).trans (hc i hi).1, (blk_cell hb _).trans (hc i hi).2, blk_frozen hb _, blk_frozen hb _⟩
theorem WRow.lt (h : WRow w g n X) : g < w.heap.size := by
  obtain ⟨cs, hb, _⟩ := h
  exact blk_lt hb
theorem WRow.congr (h : WRow w g n X) (he : ∀ i, i < n → X i = Y i) : WRow w g n Y := by
  obtain ⟨cs, hb, hs, hc⟩ := h
  exact ⟨cs, hb, hs, fun i hi => by rw [← he i hi]; exact hc i hi⟩
theorem WRow.move (h : WRow w g n X) (he : w1.heap[g]? = w.heap[g]?) : WRow w1 g n X := by
  obtain ⟨cs, hb, hs, hc⟩ := h
  exact ⟨cs, he.trans hb, hs, hc⟩
theorem WRow.below (h : WRow w g n X) (hb : Below w.heap.size w w1) : WRow w1 g n X := h.move (hb.block g h.lt)
theorem WRow.drewN (h : WRow w g n X) (m : Nat) : WRow (w.drewN m) g n X := h
theorem WRow.drew (h : WRow w g n X) : WRow w.drew g n X := h
theorem WRow.alloc (h : WRow w g n X) (o : Obj) : WRow (w.alloc o) g n X := h.move (Below.heap_alloc w o g h.lt)
theorem WRow.far (h : WRow w g n X) {p : Addr} (hp : g ≠ p.block) (u : Value) : WRow (w.setCell p u) g n X := h.move (Below.heap_setCell w p u g hp)
theorem WRow.put1 (h : WRow w g n X) (i : Nat) (hi : i < n) (r : Nat) : WRow (w.setCell ⟨g, i * 2, none⟩ (.float .f64 r)) g n (upd X i (r, (X i).2)) := by
  obtain ⟨cs, hb, hs, hc⟩ := h
  refine ⟨_, blk_set hb _ _, by rw [Array.size_setIfInBounds]; exact hs, fun k hk => ?_⟩
  unfold upd
  obtain ⟨h1, h2⟩ := hc k hk
  by_cases e : k = i
  · subst e
    have hk2 : k * 2 < cs.size := by omega
    rw [if_pos rfl, Array.getElem?_setIfInBounds_self_of_lt hk2, Array.getElem?_setIfInBounds_ne (by omega)]
    exact ⟨rfl, h2⟩
  · rw [if_neg e, Array.getElem?_setIfInBounds_ne (by omega), Array.getElem?_setIfInBounds_ne (by omega)]
    exact ⟨h1, h2⟩
theorem WRow.put2 (h : WRow w g n X) (i : Nat) (hi : i < n) (r : Nat) : WRow (w.setCell ⟨g, i * 2 + 1, none⟩ (.float .f64 r)) g n (upd X i ((X i).1, r)) := by
  obtain ⟨cs, hb, hs, hc⟩ := h
  refine ⟨_, blk_set hb _ _, by rw [Array.size_setIfInBounds]; exact hs, fun k hk => ?_⟩
  unfold upd
  obtain ⟨h1, h2⟩ := hc k hk
  by_cases e : k = i
  · subst e
    have hk2 : k * 2 + 1 < cs.size := by omega
    rw [if_pos rfl, Array.getElem?_setIfInBounds_self_of_lt hk2, Array.getElem?_setIfInBounds_ne (by omega)]
    exact ⟨h1, rfl⟩
  · rw [if_neg e, Array.getElem?_setIfInBounds_ne (by omega), Array.getElem?_setIfInBounds_ne (by omega)]
    exact ⟨h1, h2⟩
theorem WRow.put (h : WRow w g n X) (i : Nat) (hi : i < n) (r s : Nat) : WRow ((w.setCell ⟨g, i * 2, none⟩ (.float .f64 r)).setCell ⟨g, i * 2 + 1, none⟩ (.float .f64 s)) g n (upd X i (r, s)) := by
  refine ((h.put1 i hi r).put2 i hi s).congr fun k hk => ?_
  unfold upd
  by_cases e : k = i
  · subst e
    simp
  · simp [e]
end
/-- Three blocks made one behind the other, in a world where an order was drawn. -/
theorem new3 {wr w2 : World} {o1 o2 o3 : Obj} (hW : (((wr.alloc o1).alloc o2).alloc o3).drew = w2) : w2.heap[wr.heap.size]? = some o1 ∧ w2.heap[wr.heap.size + 1]? = some o2 ∧ w2.heap[wr.heap.size + 1 + 1]? = some o3 ∧ Below wr.heap.size wr w2 := by
  have s1 : (wr.alloc o1).heap.size = wr.heap.size + 1 := by simp
  have s2 : ((wr.alloc o1).alloc o2).heap.size = wr.heap.size + 1 + 1 := by simp
  refine ⟨?_, ?_, ?_, ?_⟩
  · rw [← hW]
    exact blk_drew (blk_alloc (blk_alloc (blk_new _ _) _) _)
  · rw [← hW, ← s1]
    exact blk_drew (blk_alloc (blk_new _ _) _)
  · rw [← hW, ← s2]
    exact blk_drew (blk_new _ _)
  · rw [← hW]
    exact below_drew (below_alloc (below_alloc (below_alloc (Below.refl _ _) _) _) _)
theorem two_cells {w : World} {g : Nat} {u v : Value} {t : TypeId} (h : w.heap[g]? = some (.cells #[u, v] t (0, 0))) : w.cell? ⟨g, 0, none⟩ = some u ∧ w.cell? ⟨g, 1, none⟩ = some v :=
  ⟨(blk_cell h 0).trans rfl, (blk_cell h 1).trans rfl⟩
/-- A rounded operation that has an answer. -/
theorem fop {op : BinOp} {x y r : Nat} (h : floatBits op .f64 x y = some r) : ∀ w : World, (binOp op 32 (.float .f64 x) (.float .f64 y)).run Tryd.prog w = .ok (.float .f64 r) w := fun w => run_float_arith w op 32 .f64 x y r h
theorem info34 : (Tryd.prog.info? 34).map (fun i => (i.zero, i.size, i.bytes)) = some (some (.agg #[.float .f64 0, .float .f64 0]), 2, 16) := by kernel_rfl
/-- A float of 64 bits, by its word. -/
def Kf : Kd Nat := Kd.scalar (Value.float .f64) (fun _ => rfl)
/-- A wave: two floats. -/
def Kw : Kd (Nat × Nat) := Kd.pair Kf Kf
theorem WRow.of_R {w : World} {base n : Nat} {ok : Nat → Prop} {v : Value} {xs : List (Nat × Nat)} (h : Kd.R Kw 34 w base ok v xs) (hl : xs.length = n) (hn : 0 < n) : ∃ g c, v = .slice (some ⟨g, 0, none⟩) n c ∧ base ≤ g ∧ WRow w g n (fun i => xs.getD i (0, 0)) := by
  subst hl
  obtain ⟨_, inner, ho, hr⟩ := h
  obtain ⟨h1, h2⟩ := ho
  rcases h2 with ⟨_, h0⟩ | ⟨g, cap, cur, rfl, hb, hh, hc, _, hs, ht⟩
  · omega
  refine ⟨g, cap, rfl, hb, cur, hh, ?_, fun i hi => ?_⟩
  · rw [hs]
    exact Nat.mul_le_mul_right _ hc
  obtain ⟨hlen, hp⟩ := hr
  have hx : xs[i]? = some (xs.getD i (0, 0)) := by simp [List.getD, hi]
  obtain ⟨c0, c1, e, e0, e1⟩ := hp i _ hx
  have e0' : c0 = [.float .f64 (xs.getD i (0, 0)).1] := e0
  have e1' : c1 = [.float .f64 (xs.getD i (0, 0)).2] := e1
  have e' : (inner.drop (i * 2)).take 2 = [.float .f64 (xs.getD i (0, 0)).1, .float .f64 (xs.getD i (0, 0)).2] := by
    have : (inner.drop (i * 2)).take 2 = c0 ++ c1 := e
    rw [this, e0', e1']
    rfl
  have k : ∀ j u, ([.float .f64 (xs.getD i (0, 0)).1, .float .f64 (xs.getD i (0, 0)).2] : List Value)[j]? = some u → cur[i * 2 + j]? = some u := by
    intro j u hu
    rw [← e', ← ht] at hu
    have hj : j < 2 := by
      refine Nat.lt_of_not_le fun hge => ?_
      rw [List.getElem?_eq_none (by rw [List.length_take]; omega)] at hu
      cases hu
    rw [List.getElem?_take, if_pos hj, List.getElem?_drop, List.getElem?_take] at hu
    split at hu
    · rw [← hu]
      simp
    · cases hu
  exact ⟨k 0 _ rfl, k 1 _ rfl⟩
set_option maxRecDepth 10000 in
theorem pairs_calls (w : World) : Calls Tryd.prog 22 #[] w fun e w' => ∃ g, e = .returned (.slice (some ⟨g, 0, none⟩) 8 8) ∧ w.heap.size ≤ g ∧ WRow w' g 8 tw ∧ Below w.heap.size w w' := by
  go_enter Tryd.func22, Tryd.ntmps22
  go_wp2
  go_ret
  refine ⟨_, rfl, Nat.le_refl _, ⟨_, blk_new _ _, Nat.le_refl _, fun i hi => ?_⟩, below_alloc (Below.refl _ _) _⟩
  have : i = 0 ∨ i = 1 ∨ i = 2 ∨ i = 3 ∨ i = 4 ∨ i = 5 ∨ i = 6 ∨ i = 7 := by omega
  rcases this with rfl | rfl | rfl | rfl | rfl | rfl | rfl | rfl <;> exact ⟨rfl, rfl⟩
end Go.Proofs.YtdijjadoneeadaaDoor.Wk
