/- Walks of this seat's own: what the program's writer of bits comes to. -/
import Derived.Test.YtkhpcclddkddmaaWkSink
import Derived.StillTailTactics
namespace Go.Proofs.Ytkhpcclddkddmaa.Wk
open Go.RowKit Go.Proofs.YtkhpcclddkddmaaW.PrintWords Go.Proofs.YtkhpcclddkddmaaW.PrintLast Go.Proofs.YtkhpcclddkddmaaW.PrintMore Go.Proofs.Ytkhpcclddkddmaa.My
set_option linter.unusedVariables false
set_option linter.unusedSimpArgs false
theorem or_zero8 {y : Int} (h0 : 0 ≤ y) (h1 : y ≤ 255) : bits .or .u8 y 0 = y := by
  have : ∀ j : Fin 256, bits .or .u8 (j.val : Int) 0 = (j.val : Int) := by decide +kernel
  have h := this ⟨y.toNat, by omega⟩
  rwa [show ((y.toNat : Nat) : Int) = y by omega] at h
theorem grow_bytes {l : List Int} (n : Nat) (h : ∀ x ∈ l, 0 ≤ x ∧ x ≤ 255) : ∀ x ∈ grow l n, 0 ≤ x ∧ x ≤ 255 := by
  unfold grow
  split
  · intro x hx
    rcases List.mem_append.1 hx with h1 | h1
    · exact h x h1
    · simp at h1; omega
  · exact h
theorem getD_bytes {l : List Int} (h : ∀ x ∈ l, 0 ≤ x ∧ x ≤ 255) (i : Nat) : 0 ≤ l.getD i 0 ∧ l.getD i 0 ≤ 255 := by
  by_cases hi : i < l.length
  · rw [getD_lt hi]; exact h _ (List.getElem_mem hi)
  · rw [show l.getD i 0 = 0 by simp [List.getD, List.getElem?_eq_none (show l.length ≤ i by omega)]]; omega
theorem bitL_or {l : List Int} {n : Nat} {b : Int} (h : ∀ x ∈ l, 0 ≤ x ∧ x ≤ 255) (hb : b = 0 ∨ b = 1) (hl : l.length = (n + 7) / 8) : bitL l n b = (grow l n).set (n / 8) (bits .or .u8 ((grow l n).getD (n / 8) 0) (IntKind.u8.wrap (b * 2 ^ (7 - n % 8)))) := by
  have gb := getD_bytes (grow_bytes n h) (n / 8)
  rcases hb with rfl | rfl
  · unfold bitL
    rw [if_neg (by decide), Int.zero_mul, show IntKind.u8.wrap 0 = 0 from rfl, or_zero8 gb.1 gb.2]
    have hn : n / 8 < (grow l n).length := by rw [grow_length hl]; omega
    refine List.ext_getElem (by simp) fun i h1 h2 => ?_
    rw [List.getElem_set]
    split
    · rename_i e
      subst e
      exact (getD_lt hn).symm
    · rfl
  · unfold bitL orV
    rw [if_pos rfl, Int.one_mul]
set_option maxRecDepth 100000 in
set_option maxHeartbeats 40000000 in
theorem bit_impl (w0 w : World) (gs : Nat) (sl : Value) (l : List Int) (n : Nat) (v0 b : Int) (hb : b = v0 % 2) (hby : ∀ x ∈ l, 0 ≤ x ∧ x ≤ 255) (hn : n ≤ 1000000) (hl : l.length = (n + 7) / 8) (hg : w0.heap.size ≤ gs)
    (hv : w.heap[gs]? = some (.cells #[sl, .int .i64 (n : Int), .bool true] 54 (0, 0))) (hr : Kd.R (Kd.int .u8) 5 w w0.heap.size (fun k => k ≠ gs) sl l) (hB : Below w0.heap.size w0 w) :
    Calls Try.prog 55 #[.pointer (some ⟨gs, 0, none⟩), .int .u64 v0] w fun e w' => e = .returned (.tuple #[]) ∧ ∃ sl' : Value, w'.heap[gs]? = some (.cells #[sl', .int .i64 ((n : Int) + 1), .bool true] 54 (0, 0)) ∧ Kd.R (Kd.int .u8) 5 w' w0.heap.size (fun k => k ≠ gs) sl' (bitL l n b) ∧ Below w0.heap.size w0 w' := by
  obtain ⟨A, c, rfl⟩ := Kd.R_slice hr
  have HV := Aside0.mk hv
  have HO := Aside0.mk hr
  have HB := Aside0.mk hB
  have GL := Aside0.mk (blk_lt hv)
  have HLn := Aside0.mk hl
  clear hv hr hB hl
  have f0 : w.cell? ⟨gs, 2, none⟩ = some (.bool true) := (blk_cell HV.out 2).trans rfl
  have f1 : w.cell? ⟨gs, 0, none⟩ = some (.slice A l.length c) := (blk_cell HV.out 0).trans rfl
  have f2 : w.cell? ⟨gs, 1, none⟩ = some (.int .i64 (n : Int)) := (blk_cell HV.out 1).trans rfl
  have z1 := blk_frozen HV.out 0
  have z2 := blk_frozen HV.out 1
  have NS : Aside0 (some gs ≠ (Value.slice A l.length c).ownBlock) := ⟨fun e => HO.out.1 gs e.symm rfl⟩
  by_cases h8 : n % 8 = 0
  · have t0 : ((n : Int) % 8 == 0) = true := by rw [eq0, decide_eq_true h8]
    have G : Aside0 (grow l n = l ++ [0]) := ⟨by unfold grow; rw [if_pos h8]⟩
    have H8 := Aside0.mk h8
    clear h8
    go_enter Try.func55, Try.ntmps55
    go_upto_region 2 with (at_builtin; refine Kd.R_append (Kd.int .u8) (w0 := w0) w0.heap.size rfl (.tmp 15) (.tmp 16) 22 5 (.int .u8 0) 1 rfl Try.underlying22 info5 rfl (by decide) (by omega) (.slice A l.length c) l 0 [.int .u8 0] (fun k => k ≠ gs) (fun _ => False) rfl rfl ?aP (fun _ hk => hk.elim) ?aF ?aO ?aB ?aS ?aL ?_; (case aP => exact rfl); (case aB => exact HB.out); (case aF => exact fun k hk => (by have := GL.out; omega)); (case aO => exact HO.out); (case aS => exact below_size (HB.out)); (case aL => have := HLn.out; omega); intro v1 w1 ho hb' hg' hat; obtain ⟨A', c', rfl⟩ := Kd.R_slice ho; have HO2 := Aside0.mk ho; have HB2 := Aside0.mk hb'; have HV2 := Aside0.mk (blk_grown HV.out hg' NS.out); clear ho hb' hg' hat HO HB; have y1 := (blk_cell HV2.out 0).trans rfl; have y2 := blk_frozen HV2.out 0)
    obtain ⟨w2, h2⟩ : ∃ w2, w2 = w1.setCell ⟨gs, 0, none⟩ (.slice A' (l.length + 1) c') := ⟨_, rfl⟩
    rw [← h2]
    obtain ⟨N, hN⟩ : ∃ N, N = l.length + 1 := ⟨_, rfl⟩
    have e0 : (l ++ [0]).length = l.length + 1 := by simp
    have HV3 : Aside0 (w2.heap[gs]? = some (.cells #[.slice A' N c', .int .i64 (n : Int), .bool true] 54 (0, 0))) := ⟨by rw [h2, hN]; exact blk_put HV2.out 0 _ rfl⟩
    have HO3 : Aside0 (Kd.R (Kd.int .u8) 5 w2 w0.heap.size (fun k => k ≠ gs) (.slice A' N c') (l ++ [0])) := ⟨by
      have h := Kd.R_kept HO2.out (kept_set (S := fun k => k = gs) (Kept.refl _ _) rfl 0 (.slice A' (l.length + 1) c')) (fun k h e => h e)
      rw [e0] at h
      rw [h2, hN]
      exact h⟩
    have HB3 : Aside0 (Below w0.heap.size w0 w2) := ⟨by rw [h2]; exact below_set HB2.out hg⟩
    rw [← hN]
    obtain ⟨L, hLg⟩ : ∃ L, L = grow l n := ⟨_, rfl⟩
    have HLg := Aside0.mk hLg
    rw [← G.out, ← hLg] at HO3
    clear h2 hN e0 hLg HO2 HB2 HV2 y1 y2 f0 f1 f2 z1 z2 G
    have LL : L.length = N := (R_cells HO3.out).1.symm
    have NN : N = n / 8 + 1 := by rw [← LL, HLg.out, grow_length HLn.out]
    obtain ⟨g, cap, e1, gb, gl, cl, hgk⟩ := Kd.R_form HO3.out (by omega)
    have e2 := e1
    rw [LL] at e2
    cases e2
    have GN : Aside0 (g ≠ gs) := ⟨HO3.out.1 g rfl⟩
    have GB := Aside0.mk gb
    have u1 : w2.cell? ⟨gs, 0, none⟩ = some (.slice (some ⟨g, 0, none⟩) N c') := (blk_cell HV3.out 0).trans rfl
    have u0 : w2.cell? ⟨gs, 2, none⟩ = some (.bool true) := (blk_cell HV3.out 2).trans rfl
    have u2 : w2.cell? ⟨gs, 1, none⟩ = some (.int .i64 (n : Int)) := (blk_cell HV3.out 1).trans rfl
    have v2 := blk_frozen HV3.out 1
    clear e1 gb gl hgk
    obtain ⟨q, hq⟩ : ∃ q : Nat, q = n / 8 := ⟨_, rfl⟩
    obtain ⟨m, hm⟩ : ∃ m : Nat, m = n % 8 := ⟨_, rfl⟩
    have qN : (q : Int) < (N : Int) := by omega
    have m7 : m ≤ 7 := by omega
    obtain ⟨y, hy⟩ : ∃ y, y = L.getD q 0 := ⟨_, rfl⟩
    obtain ⟨v, hv⟩ : ∃ v, v = bits .or .u8 y (IntKind.u8.wrap (b * 2 ^ (7 - m))) := ⟨_, rfl⟩
    have EB : Aside0 (bitL l n b = L.set q v) := ⟨by rw [HLg.out] at hy; rw [HLg.out, hv, hq, hm] ; rw [hq] at hy; rw [hy]; exact bitL_or hby (by omega) HLn.out⟩
    obtain ⟨w3, hw3⟩ : ∃ w3 : World, w3 = w2.drewN 1 := ⟨_, rfl⟩
    have HV4 : Aside0 (w3.heap[gs]? = some (.cells #[.slice (some ⟨g, 0, none⟩) N c', .int .i64 (n : Int), .bool true] 54 (0, 0))) := ⟨by rw [hw3]; exact HV3.out⟩
    have HO4 : Aside0 (Kd.R (Kd.int .u8) 5 w3 w0.heap.size (fun k => k ≠ gs) (.slice (some ⟨g, 0, none⟩) N c') L) := ⟨by rw [hw3]; exact Kd.R_drewN HO3.out 1⟩
    have HB4 : Aside0 (Below w0.heap.size w0 w3) := ⟨by rw [hw3]; exact pw_below_drewN HB3.out 1⟩
    have key : ({ w2 with drawn := w2.drawn + 1 } : World) = w3 := hw3.symm
    have KEY := Aside0.mk key
    have x1 : w3.cell? ⟨gs, 0, none⟩ = some (.slice (some ⟨g, 0, none⟩) N c') := (blk_cell HV4.out 0).trans rfl
    have x2 : w3.cell? ⟨gs, 1, none⟩ = some (.int .i64 (n : Int)) := (blk_cell HV4.out 1).trans rfl
    have k2 := Kd.R_celln 0 HO4.out (q : Int) (by omega) (by omega)
    rw [Int.toNat_natCast] at k2
    have hx : w3.cell? ⟨g, q, none⟩ = some (.int .u8 y) := by rw [k2.1, hy]; rfl
    have hfz := k2.2
    have TD : Aside0 (IntKind.i64.wrap ((n : Int) / 8) = (q : Int)) := ⟨by rw [hq, IntKind.wrap_i64]; omega⟩
    have TM : Aside0 ((n : Int) % 8 = (m : Int)) := ⟨by rw [hm]; omega⟩
    obtain ⟨w4, hw4⟩ : ∃ w4 : World, w4 = w3.setCell ⟨g, q, none⟩ (.int .u8 v) := ⟨_, rfl⟩
    have HV5 : Aside0 (w4.heap[gs]? = some (.cells #[.slice (some ⟨g, 0, none⟩) N c', .int .i64 (n : Int), .bool true] 54 (0, 0))) := ⟨by rw [hw4]; exact blk_far HV4.out (Ne.symm GN.out) _⟩
    have HO5 : Aside0 (Kd.R (Kd.int .u8) 5 w4 w0.heap.size (fun k => k ≠ gs) (.slice (some ⟨g, 0, none⟩) N c') (L.set q v)) := ⟨by rw [hw4]; exact Kd.R_putn HO4.out (q : Int) v⟩
    have HB5 : Aside0 (Below w0.heap.size w0 w4) := ⟨by rw [hw4]; exact below_set HB4.out GB.out⟩
    have HW4 := Aside0.mk hw4
    have s2 : w4.cell? ⟨gs, 1, none⟩ = some (.int .i64 (n : Int)) := (blk_cell HV5.out 1).trans rfl
    have s3 := blk_frozen HV5.out 1
    have HVF : Aside0 ((w4.setCell ⟨gs, 1, none⟩ (.int .i64 ((n : Int) + 1))).heap[gs]? = some (.cells #[.slice (some ⟨g, 0, none⟩) N c', .int .i64 ((n : Int) + 1), .bool true] 54 (0, 0))) := ⟨blk_put HV5.out 1 _ rfl⟩
    have HOF := Aside0.mk (Kd.R_kept HO5.out (kept_set (S := fun k => k = gs) (Kept.refl _ _) rfl 1 (.int .i64 ((n : Int) + 1))) (fun k h e => h e))
    have B1 : Aside0 (IntKind.u8.wrap (bits .and .u64 v0 1) = b) := ⟨by
      have hb2 : b = 0 ∨ b = 1 := by omega
      rw [and_u64_one, ← hb]
      rcases hb2 with h | h <;> rw [h] <;> rfl⟩
    have WV : Aside0 (bits .or .u8 y (IntKind.u8.wrap (b * 2 ^ (7 - m))) = v) := ⟨by rw [hv]⟩
    clear hw3 hw4 key k2 hq hm hy hv NN
    go_upto_region 5 with fail
    rw [TM.out]
    refine wp_region_still_tail 18 (by kernel_rfl) (by kernel_rfl) ?_
    rw [KEY.out]
    simp only [List.take_succ_cons, List.take_zero, List.drop_succ_cons, List.drop_zero]
    iterate 9 still_step
    rw [TD.out]
    iterate 8 still_step
    rw [B1.out, WV.out]
    still_step
    refine wpStill_nil ?_
    go_upto_region 6 with fail
    rw [← HW4.out]
    go_wp2
    go_end0
    refine ⟨rfl, _, HVF.out, ?_, below_set HB5.out hg⟩
    rw [EB.out]
    exact HOF.out
  · have t0 : ((n : Int) % 8 == 0) = false := by rw [eq0, decide_eq_false h8]
    have G : Aside0 (grow l n = l) := ⟨by unfold grow; rw [if_neg h8]⟩
    have H8 := Aside0.mk h8
    clear h8
    go_enter Try.func55, Try.ntmps55
    go_upto_region 2 with fail
    obtain ⟨N, hN⟩ : ∃ N, N = l.length := ⟨_, rfl⟩
    obtain ⟨L, hLg⟩ : ∃ L, L = grow l n := ⟨_, rfl⟩
    have HLg := Aside0.mk hLg
    have HV3 : Aside0 (w.heap[gs]? = some (.cells #[.slice A N c, .int .i64 (n : Int), .bool true] 54 (0, 0))) := ⟨by rw [hN]; exact HV.out⟩
    have HO3 : Aside0 (Kd.R (Kd.int .u8) 5 w w0.heap.size (fun k => k ≠ gs) (.slice A N c) L) := ⟨by rw [hN, hLg, G.out]; exact HO.out⟩
    have HB3 := HB
    obtain ⟨w2, h2⟩ : ∃ w2, w2 = w := ⟨_, rfl⟩
    rw [← h2] at HV3 HO3 HB3 ⊢
    clear h2 hN hLg HO HB HV f0 f1 f2 z1 z2 G
    have LL : L.length = N := (R_cells HO3.out).1.symm
    have NN : N = n / 8 + 1 := by rw [← LL, HLg.out, grow_length HLn.out]
    obtain ⟨g, cap, e1, gb, gl, cl, hgk⟩ := Kd.R_form HO3.out (by omega)
    have e2 := e1
    rw [LL] at e2
    cases e2
    have GN : Aside0 (g ≠ gs) := ⟨HO3.out.1 g rfl⟩
    have GB := Aside0.mk gb
    have u1 : w2.cell? ⟨gs, 0, none⟩ = some (.slice (some ⟨g, 0, none⟩) N c) := (blk_cell HV3.out 0).trans rfl
    have u0 : w2.cell? ⟨gs, 2, none⟩ = some (.bool true) := (blk_cell HV3.out 2).trans rfl
    have u2 : w2.cell? ⟨gs, 1, none⟩ = some (.int .i64 (n : Int)) := (blk_cell HV3.out 1).trans rfl
    have v2 := blk_frozen HV3.out 1
    clear e1 gb gl hgk
    obtain ⟨q, hq⟩ : ∃ q : Nat, q = n / 8 := ⟨_, rfl⟩
    obtain ⟨m, hm⟩ : ∃ m : Nat, m = n % 8 := ⟨_, rfl⟩
    have qN : (q : Int) < (N : Int) := by omega
    have m7 : m ≤ 7 := by omega
    obtain ⟨y, hy⟩ : ∃ y, y = L.getD q 0 := ⟨_, rfl⟩
    obtain ⟨v, hv⟩ : ∃ v, v = bits .or .u8 y (IntKind.u8.wrap (b * 2 ^ (7 - m))) := ⟨_, rfl⟩
    have EB : Aside0 (bitL l n b = L.set q v) := ⟨by rw [HLg.out] at hy; rw [HLg.out, hv, hq, hm] ; rw [hq] at hy; rw [hy]; exact bitL_or hby (by omega) HLn.out⟩
    obtain ⟨w3, hw3⟩ : ∃ w3 : World, w3 = w2.drewN 1 := ⟨_, rfl⟩
    have HV4 : Aside0 (w3.heap[gs]? = some (.cells #[.slice (some ⟨g, 0, none⟩) N c, .int .i64 (n : Int), .bool true] 54 (0, 0))) := ⟨by rw [hw3]; exact HV3.out⟩
    have HO4 : Aside0 (Kd.R (Kd.int .u8) 5 w3 w0.heap.size (fun k => k ≠ gs) (.slice (some ⟨g, 0, none⟩) N c) L) := ⟨by rw [hw3]; exact Kd.R_drewN HO3.out 1⟩
    have HB4 : Aside0 (Below w0.heap.size w0 w3) := ⟨by rw [hw3]; exact pw_below_drewN HB3.out 1⟩
    have key : ({ w2 with drawn := w2.drawn + 1 } : World) = w3 := hw3.symm
    have KEY := Aside0.mk key
    have x1 : w3.cell? ⟨gs, 0, none⟩ = some (.slice (some ⟨g, 0, none⟩) N c) := (blk_cell HV4.out 0).trans rfl
    have x2 : w3.cell? ⟨gs, 1, none⟩ = some (.int .i64 (n : Int)) := (blk_cell HV4.out 1).trans rfl
    have k2 := Kd.R_celln 0 HO4.out (q : Int) (by omega) (by omega)
    rw [Int.toNat_natCast] at k2
    have hx : w3.cell? ⟨g, q, none⟩ = some (.int .u8 y) := by rw [k2.1, hy]; rfl
    have hfz := k2.2
    have TD : Aside0 (IntKind.i64.wrap ((n : Int) / 8) = (q : Int)) := ⟨by rw [hq, IntKind.wrap_i64]; omega⟩
    have TM : Aside0 ((n : Int) % 8 = (m : Int)) := ⟨by rw [hm]; omega⟩
    obtain ⟨w4, hw4⟩ : ∃ w4 : World, w4 = w3.setCell ⟨g, q, none⟩ (.int .u8 v) := ⟨_, rfl⟩
    have HV5 : Aside0 (w4.heap[gs]? = some (.cells #[.slice (some ⟨g, 0, none⟩) N c, .int .i64 (n : Int), .bool true] 54 (0, 0))) := ⟨by rw [hw4]; exact blk_far HV4.out (Ne.symm GN.out) _⟩
    have HO5 : Aside0 (Kd.R (Kd.int .u8) 5 w4 w0.heap.size (fun k => k ≠ gs) (.slice (some ⟨g, 0, none⟩) N c) (L.set q v)) := ⟨by rw [hw4]; exact Kd.R_putn HO4.out (q : Int) v⟩
    have HB5 : Aside0 (Below w0.heap.size w0 w4) := ⟨by rw [hw4]; exact below_set HB4.out GB.out⟩
    have HW4 := Aside0.mk hw4
    have s2 : w4.cell? ⟨gs, 1, none⟩ = some (.int .i64 (n : Int)) := (blk_cell HV5.out 1).trans rfl
    have s3 := blk_frozen HV5.out 1
    have HVF : Aside0 ((w4.setCell ⟨gs, 1, none⟩ (.int .i64 ((n : Int) + 1))).heap[gs]? = some (.cells #[.slice (some ⟨g, 0, none⟩) N c, .int .i64 ((n : Int) + 1), .bool true] 54 (0, 0))) := ⟨blk_put HV5.out 1 _ rfl⟩
    have HOF := Aside0.mk (Kd.R_kept HO5.out (kept_set (S := fun k => k = gs) (Kept.refl _ _) rfl 1 (.int .i64 ((n : Int) + 1))) (fun k h e => h e))
    have B1 : Aside0 (IntKind.u8.wrap (bits .and .u64 v0 1) = b) := ⟨by
      have hb2 : b = 0 ∨ b = 1 := by omega
      rw [and_u64_one, ← hb]
      rcases hb2 with h | h <;> rw [h] <;> rfl⟩
    have WV : Aside0 (bits .or .u8 y (IntKind.u8.wrap (b * 2 ^ (7 - m))) = v) := ⟨by rw [hv]⟩
    clear hw3 hw4 key k2 hq hm hy hv NN
    go_upto_region 5 with fail
    rw [TM.out]
    refine wp_region_still_tail 18 (by kernel_rfl) (by kernel_rfl) ?_
    rw [KEY.out]
    simp only [List.take_succ_cons, List.take_zero, List.drop_succ_cons, List.drop_zero]
    iterate 9 still_step
    rw [TD.out]
    iterate 8 still_step
    rw [B1.out, WV.out]
    still_step
    refine wpStill_nil ?_
    go_upto_region 6 with fail
    rw [← HW4.out]
    go_wp2
    go_end0
    refine ⟨rfl, _, HVF.out, ?_, below_set HB5.out hg⟩
    rw [EB.out]
    exact HOF.out
end Go.Proofs.Ytkhpcclddkddmaa.Wk
