/- Walks of this seat's own: what the two SmallForward come to. -/
import Derived.Test.YtkhpcclddkddmaaDoorWkFwd
import Derived.StillTailTactics
namespace Go.Proofs.YtkhpcclddkddmaaDoor.Wk
open Go.RowKit Go.Proofs.YtkhpcclddkddmaaDoorW.PrintWords Go.Proofs.YtkhpcclddkddmaaDoorW.PrintLast Go.Proofs.YtkhpcclddkddmaaDoorW.PrintMore Go.Proofs.YtkhpcclddkddmaaDoor.My
open Go.Proofs.YtkhpcclddkddmaaDoor.PFnExactSmallForward
set_option linter.unusedVariables false
set_option linter.unusedSimpArgs false
theorem fw_spec (A0 : Option Addr) (c0 : Nat) (l0 : List Int) (hl0 : l0.length ≤ 1048576) (hw0 : ∀ x ∈ l0, (Lit.int .i64 x).wf = true) (w : World) (hc0 : l0.length ≤ c0) (hr0 : Kd.C (Kd.int .i64) w A0 l0.length l0) :
    Calls Tryd.prog 8 #[.slice A0 l0.length c0] w fun e w' => ∃ v : Value, e = .returned v ∧ Kd.R (Kd.int .i64) 3 w' w.heap.size (fun _ => True) v (fwL l0) ∧ Below w.heap.size w w' :=
  spec_SmallForward.calls 1048701 A0 c0 l0 _ w hr0 hc0 (fw_eq l0 hl0 _ (by omega))
/-- An array of whole numbers in a block of its own. -/
def Arr (w : World) (g : Nat) (t : List Int) : Prop := w.heap[g]? = some (.cells ((t.map fun n => Value.int .i64 n).toArray) 31 (0, 0))
theorem Arr.cell {w : World} {g : Nat} {t : List Int} (h : Arr w g t) {i : Nat} (hi : i < t.length) : w.cell? ⟨g, i, none⟩ = some (.int .i64 (t.getD i 0)) := by
  rw [blk_cell h i]
  simp [List.getD, hi]
theorem Arr.put {w : World} {g : Nat} {t : List Int} (h : Arr w g t) (i : Nat) (v : Int) : Arr (w.setCell ⟨g, i, none⟩ (.int .i64 v)) g (t.set i v) :=
  blk_put h i _ (by simp)
theorem Arr.far {w : World} {g g' : Nat} {t : List Int} (h : Arr w g t) (hne : g ≠ g') (i : Nat) (u : Value) : Arr (w.setCell ⟨g', i, none⟩ u) g t := blk_far h hne u
theorem Arr.reads {w : World} {g : Nat} {t : List Int} (h : Arr w g t) (hl : t.length = 16) : Kd.C (Kd.int .i64) w (some ⟨g, 0, none⟩) t.length t :=
  Kd.C_of_reads (d := (0 : Int)) (h1 := fun _ => rfl) ⟨rfl, by omega, fun _ => ⟨_, rfl, fun j hj => by
    rw [show (⟨g, 0, none⟩ : Addr).add j = ⟨g, j, none⟩ from by simp [Addr.add]; omega]
    exact h.cell hj⟩⟩
theorem zcopyN (A : Option Addr) (c n : Nat) (l : List Int) (hn : l.length = n) (hl : n ≤ 1048576) (hc : n ≤ c) (w : World) (hr : Kd.C (Kd.int .i64) w A l.length l) :
    Calls Tryd.prog 25 #[.slice A n c] w fun e w' => ∃ v : Value, e = .returned v ∧ Kd.R (Kd.int .i64) 3 w' w.heap.size (fun _ => True) v l ∧ Below w.heap.size w w' := by
  subst hn
  exact impl_zcopy.calls A c l l w hr hc (zcopy_eq l hl)
set_option maxRecDepth 100000 in
set_option maxHeartbeats 40000000 in
theorem fw_impl (A0 : Option Addr) (c0 : Nat) (l0 : List Int) (hl0 : l0.length ≤ 1048576) (hw0 : ∀ x ∈ l0, (Lit.int .i64 x).wf = true) (w : World) (hc0 : l0.length ≤ c0) (hr0 : Kd.C (Kd.int .i64) w A0 l0.length l0) (hT : RT w) :
    Calls Tryd.prog 10 #[.slice A0 l0.length c0] w fun e w' => ∃ v : Value, e = .returned v ∧ Kd.R (Kd.int .i64) 3 w' w.heap.size (fun _ => True) v (fwL l0) ∧ Below w.heap.size w w' := by
  have HT := Aside0.mk hT
  have HR := Aside0.mk hr0
  clear hT hr0 hw0
  obtain ⟨r, hr⟩ : ∃ r, r = fwL l0 := ⟨_, rfl⟩
  rw [← hr]
  have HRr := Aside0.mk hr
  clear hr
  have NIL : ∀ w' : World, Below w.heap.size w w' → r = [] → ∃ v : Value, Ending.returned (.slice none 0 0) = .returned v ∧ Kd.R (Kd.int .i64) 3 w' w.heap.size (fun _ => True) v r ∧ Below w.heap.size w w' := fun w' hb e => by
    rw [e]
    exact ⟨_, rfl, Kd.R_nil _ _ _ _ _, hb⟩
  have NL := Aside0.mk NIL
  clear NIL
  have ZS := Aside0.mk (impl_zsmall.calls (l0.length + 1) A0 c0 l0 _ w HR.out hc0 (zsmall_eq _ l0 hl0 (by omega)))
  rcases hz : (inB (-65536) 65535 l0 && decide (l0.length = 16)) with _ | _
  · have E : Aside0 (r = []) := ⟨by
      rw [HRr.out]; unfold fwL; rw [if_neg]; intro h
      rw [h.1, decide_eq_true h.2] at hz
      cases hz⟩
    have HZ := Aside0.mk hz
    clear hz
    go_enter Tryd.func10, Tryd.ntmps10
    go_wp2_with fail
    refine ZS.out.mono ?_
    rw [HZ.out]
    rintro e w1 ⟨rfl, ⟨nd, rfl⟩⟩
    go_wp2
    go_ret
    exact NL.out _ (pw_below_drewN (Below.refl _ _) _) E.out
  have hok : okSm l0 := ⟨(Bool.and_eq_true_iff.1 hz).1, of_decide_eq_true (Bool.and_eq_true_iff.1 hz).2⟩
  have HZ := Aside0.mk hz
  have OK := Aside0.mk hok
  have hlen := hok.2
  clear hz hok
  have E : Aside0 (r = M2 (M1 l0 64) 64) := ⟨by rw [HRr.out]; unfold fwL; rw [if_pos OK.out]⟩
  have HL := Aside0.mk hlen
  clear hlen
  go_enter Tryd.func10, Tryd.ntmps10
  go_wp2_with fail
  refine ZS.out.mono ?_
  rw [HZ.out]
  rintro e w1 ⟨rfl, ⟨nd, rfl⟩⟩
  go_upto_region 4 with fail
  obtain ⟨w3, h3⟩ : ∃ w3, w3 = ((w.drewN nd).alloc (Obj.cells #[.int .i64 0, .int .i64 0, .int .i64 0, .int .i64 0, .int .i64 0, .int .i64 0, .int .i64 0, .int .i64 0, .int .i64 0, .int .i64 0, .int .i64 0, .int .i64 0, .int .i64 0, .int .i64 0, .int .i64 0, .int .i64 0] 31 (0, 0))).alloc (Obj.cells #[.int .i64 0, .int .i64 0, .int .i64 0, .int .i64 0, .int .i64 0, .int .i64 0, .int .i64 0, .int .i64 0, .int .i64 0, .int .i64 0, .int .i64 0, .int .i64 0, .int .i64 0, .int .i64 0, .int .i64 0, .int .i64 0] 31 (0, 0)) := ⟨_, rfl⟩
  rw [← h3]
  obtain ⟨g4, hg4⟩ : ∃ g4, g4 = w.heap.size + 1 := ⟨_, rfl⟩
  rw [← hg4]
  have T0 : Aside0 (Arr w3 w.heap.size (M1 l0 0)) := ⟨by rw [h3]; exact blk_alloc (blk_new _ _) _⟩
  have O0 : Aside0 (Arr w3 g4 (List.replicate 16 0)) := ⟨by
    have h := blk_new ((w.drewN nd).alloc (Obj.cells #[.int .i64 0, .int .i64 0, .int .i64 0, .int .i64 0, .int .i64 0, .int .i64 0, .int .i64 0, .int .i64 0, .int .i64 0, .int .i64 0, .int .i64 0, .int .i64 0, .int .i64 0, .int .i64 0, .int .i64 0, .int .i64 0] 31 (0, 0))) (Obj.cells #[.int .i64 0, .int .i64 0, .int .i64 0, .int .i64 0, .int .i64 0, .int .i64 0, .int .i64 0, .int .i64 0, .int .i64 0, .int .i64 0, .int .i64 0, .int .i64 0, .int .i64 0, .int .i64 0, .int .i64 0, .int .i64 0] 31 (0, 0))
    rw [show ((w.drewN nd).alloc (Obj.cells #[.int .i64 0, .int .i64 0, .int .i64 0, .int .i64 0, .int .i64 0, .int .i64 0, .int .i64 0, .int .i64 0, .int .i64 0, .int .i64 0, .int .i64 0, .int .i64 0, .int .i64 0, .int .i64 0, .int .i64 0, .int .i64 0] 31 (0, 0))).heap.size = g4 from by rw [hg4]; simp [World.alloc, World.drewN]] at h
    rw [h3]; exact h⟩
  have HB : Aside0 (Below w.heap.size w w3) := ⟨by rw [h3]; exact below_alloc (below_alloc (pw_below_drewN (Below.refl _ _) nd) _) _⟩
  have g4b : w.heap.size < g4 := by omega
  have NE : Aside0 (w.heap.size ≠ g4) := ⟨by omega⟩
  clear h3 hg4
  go_wp2
  go_loopg [14] 4 (fun q v14 w' => ∃ y : Nat, v14 = .int .i64 (y : Int) ∧ Aside0 (y + q = 4) ∧ Aside0 (Arr w' w.heap.size (M1 l0 (16 * y))) ∧ Aside0 (Arr w' g4 (List.replicate 16 0)) ∧ Aside0 (Below w.heap.size w w'))
  case atStart => exact ⟨0, rfl, ⟨by omega⟩, T0, O0, HB⟩
  case round =>
    clear T0 O0 HB
    obtain ⟨y, rfl, Qy, T0, O0, HB⟩ := hrel
    by_cases cy : y < 4
    · obtain ⟨qy, rfl⟩ : ∃ q, gk = q + 1 := ⟨gk - 1, by have := Qy.out; omega⟩
      have ty : decide ((y : Int) < 4) = true := decide_eq_true (by omega)
      go_wp2
      go_loopg [17] 4 (fun q v17 w' => ∃ k : Nat, v17 = .int .i64 (k : Int) ∧ Aside0 (k + q = 4) ∧ Aside0 (Arr w' w.heap.size (M1 l0 (16 * y + 4 * k))) ∧ Aside0 (Arr w' g4 (List.replicate 16 0)) ∧ Aside0 (Below w.heap.size w w'))
      case atStart => exact ⟨0, rfl, ⟨by omega⟩, T0, O0, HB⟩
      case round =>
        clear T0 O0 HB
        obtain ⟨k, rfl, Qk, T0, O0, HB⟩ := hrel
        by_cases ck : k < 4
        · obtain ⟨qk, rfl⟩ : ∃ q, gk = q + 1 := ⟨gk - 1, by have := Qk.out; omega⟩
          have tk : decide ((k : Int) < 4) = true := decide_eq_true (by omega)
          go_wp2
          go_loopg [20] 4 (fun q v20 w' => ∃ x : Nat, v20 = .int .i64 (x : Int) ∧ Aside0 (x + q = 4) ∧ Aside0 (Arr w' w.heap.size (M1 l0 (16 * y + 4 * k + x))) ∧ Aside0 (Arr w' g4 (List.replicate 16 0)) ∧ Aside0 (Below w.heap.size w w'))
          case atStart => exact ⟨0, rfl, ⟨by omega⟩, T0, O0, HB⟩
          case round =>
            clear T0 O0 HB
            obtain ⟨x, rfl, Qx, T0, O0, HB⟩ := hrel
            by_cases cx : x < 4
            · obtain ⟨qx, rfl⟩ : ∃ q, gk = q + 1 := ⟨gk - 1, by have := Qx.out; omega⟩
              obtain ⟨w2, hw2⟩ : ∃ w2 : World, w2 = wr.drewN 1 := ⟨_, rfl⟩
              have HB2 : Aside0 (Below w.heap.size w w2) := ⟨by rw [hw2]; exact pw_below_drewN HB.out 1⟩
              have T2 : Aside0 (Arr w2 w.heap.size (M1 l0 (16 * y + 4 * k + x))) := ⟨by rw [hw2]; exact T0.out⟩
              have O2 : Aside0 (Arr w2 g4 (List.replicate 16 0)) := ⟨by rw [hw2]; exact O0.out⟩
              have key : ({ wr with drawn := wr.drawn + 1 } : World) = w2 := hw2.symm
              have KEY := Aside0.mk key
              clear key hw2 T0 O0 HB
              obtain ⟨p, hp⟩ : ∃ p : Nat, p = 4 * y + k := ⟨_, rfl⟩
              obtain ⟨m, hm⟩ : ∃ m : Nat, m = 4 * y + x := ⟨_, rfl⟩
              have pb : p < 16 := by omega
              have mb : m < 16 := by omega
              have W1 : Aside0 (IntKind.i64.wrap (4 * (y : Int)) = 4 * (y : Int)) := ⟨by rw [IntKind.wrap_i64]; omega⟩
              have W2 : Aside0 (IntKind.i64.wrap (4 * (y : Int) + (k : Int)) = (p : Int)) := ⟨by rw [IntKind.wrap_i64]; omega⟩
              have W3 : Aside0 (IntKind.i64.wrap (4 * (y : Int) + (x : Int)) = (m : Int)) := ⟨by rw [IntKind.wrap_i64]; omega⟩
              obtain ⟨t, ht⟩ : ∃ t, t = (M1 l0 (16 * y + 4 * k + x)).getD p 0 := ⟨_, rfl⟩
              have hx : w2.cell? ⟨w.heap.size, p, none⟩ = some (.int .i64 t) := by rw [ht]; exact T2.out.cell (by rw [M1_length]; omega)
              have hfz : w2.frozen? ⟨w.heap.size, p, none⟩ = false := blk_frozen T2.out _
              have HQ := Aside0.mk (Kd.C_below HR.out HB2.out)
              obtain ⟨ad1, e1, hb1⟩ := Kd.at_int HQ.out (m : Int) (by omega) (by have := HL.out; omega)
              rw [Int.toNat_natCast] at hb1
              obtain ⟨b, hb⟩ : ∃ b, b = rd l0 (m : Int) := ⟨_, rfl⟩
              rw [← hb] at hb1
              subst e1
              obtain ⟨z, hz⟩ : ∃ z, z = zrT.getD (4 * k + x) 0 := ⟨_, rfl⟩
              have hz1 : w2.cell? ⟨0, k * 4 + x, none⟩ = some (.int .i64 z) := by rw [hz, show k * 4 + x = 4 * k + x by omega]; exact (HT.out.stay HB2.out) _ (by omega)
              obtain ⟨v, hv⟩ : ∃ v, v = wrap64 (t + wrap64 (z * b)) := ⟨_, rfl⟩
              have WV : Aside0 (IntKind.i64.wrap (t + IntKind.i64.wrap (b * z)) = v) := ⟨by rw [hv, i64_wrap, i64_wrap, Int.mul_comm]⟩
              have hL : (m : Int) < (l0.length : Int) := by have := HL.out; omega
              have hL2 : m < l0.length := by omega
              have p16 : (p : Int) < 16 := by omega
              have k4 : (k : Int) < 4 := by omega
              have x4 : (x : Int) < 4 := by omega
              have NM : Aside0 (M1 l0 (16 * y + 4 * k + x + 1) = (M1 l0 (16 * y + 4 * k + x)).set p v) := ⟨by rw [M1_step l0 ck cx, hv, ht, hz, hb, rd_nat, hp, hm]; rfl⟩
              clear ht hb hz hv hp hm
              go_wp2_with fail
              refine wp_region_still_tail 21 (by kernel_rfl) (by kernel_rfl) ?_
              rw [KEY.out]
              simp only [List.take_succ_cons, List.take_zero, List.drop_succ_cons, List.drop_zero]
              iterate 2 still_step
              rw [W1.out]
              iterate 2 still_step
              rw [W2.out]
              iterate 5 still_step
              rw [W1.out]
              iterate 2 still_step
              rw [W3.out]
              iterate 7 still_step
              iterate 2 still_step
              rw [WV.out]
              iterate 1 still_step
              refine wpStill_nil ?_
              go_wp2
              go_roundg qx
              case measure => omega
              case rel => exact ⟨x + 1, by go_num, ⟨by have := Qx.out; omega⟩, ⟨by show Arr _ _ (M1 l0 (16 * y + 4 * k + x + 1)); rw [NM.out]; exact T2.out.put p v⟩, ⟨O2.out.far (Ne.symm NE.out) _ _⟩, ⟨below_set HB2.out (Nat.le_refl _)⟩⟩
            · have E1 : Aside0 (16 * y + 4 * k + x = 16 * y + 4 * (k + 1)) := ⟨by have := Qx.out; omega⟩
              rw [E1.out] at T0
              go_wp2
              go_roundg qk
              case measure => omega
              case rel => exact ⟨k + 1, by go_num, ⟨by have := Qk.out; omega⟩, T0, O0, HB⟩
        · have E1 : Aside0 (16 * y + 4 * k = 16 * (y + 1)) := ⟨by have := Qk.out; omega⟩
          rw [E1.out] at T0
          go_wp2
          go_roundg qy
          case measure => omega
          case rel => exact ⟨y + 1, by go_num, ⟨by have := Qy.out; omega⟩, T0, O0, HB⟩
    · have E1 : Aside0 (16 * y = 64) := ⟨by have := Qy.out; omega⟩
      rw [E1.out] at T0
      go_wp2
      go_loopg [47] 4 (fun q v47 w' => ∃ y : Nat, v47 = .int .i64 (y : Int) ∧ Aside0 (y + q = 4) ∧ Aside0 (Arr w' w.heap.size (M1 l0 64)) ∧ Aside0 (Arr w' g4 (M2 (M1 l0 64) (16 * y))) ∧ Aside0 (Below w.heap.size w w'))
      case atStart => exact ⟨0, rfl, ⟨by omega⟩, T0, O0, HB⟩
      case round =>
        clear T0 O0 HB
        obtain ⟨y, rfl, Qy, T0, O0, HB⟩ := hrel
        by_cases cy : y < 4
        · obtain ⟨qy, rfl⟩ : ∃ q, gk = q + 1 := ⟨gk - 1, by have := Qy.out; omega⟩
          have ty : decide ((y : Int) < 4) = true := decide_eq_true (by omega)
          go_wp2
          go_loopg [50] 4 (fun q v50 w' => ∃ k : Nat, v50 = .int .i64 (k : Int) ∧ Aside0 (k + q = 4) ∧ Aside0 (Arr w' w.heap.size (M1 l0 64)) ∧ Aside0 (Arr w' g4 (M2 (M1 l0 64) (16 * y + 4 * k))) ∧ Aside0 (Below w.heap.size w w'))
          case atStart => exact ⟨0, rfl, ⟨by omega⟩, T0, O0, HB⟩
          case round =>
            clear T0 O0 HB
            obtain ⟨k, rfl, Qk, T0, O0, HB⟩ := hrel
            by_cases ck : k < 4
            · obtain ⟨qk, rfl⟩ : ∃ q, gk = q + 1 := ⟨gk - 1, by have := Qk.out; omega⟩
              have tk : decide ((k : Int) < 4) = true := decide_eq_true (by omega)
              go_wp2
              go_loopg [53] 4 (fun q v53 w' => ∃ x : Nat, v53 = .int .i64 (x : Int) ∧ Aside0 (x + q = 4) ∧ Aside0 (Arr w' w.heap.size (M1 l0 64)) ∧ Aside0 (Arr w' g4 (M2 (M1 l0 64) (16 * y + 4 * k + x))) ∧ Aside0 (Below w.heap.size w w'))
              case atStart => exact ⟨0, rfl, ⟨by omega⟩, T0, O0, HB⟩
              case round =>
                clear T0 O0 HB
                obtain ⟨x, rfl, Qx, T0, O0, HB⟩ := hrel
                by_cases cx : x < 4
                · obtain ⟨qx, rfl⟩ : ∃ q, gk = q + 1 := ⟨gk - 1, by have := Qx.out; omega⟩
                  obtain ⟨w2, hw2⟩ : ∃ w2 : World, w2 = wr.drewN 1 := ⟨_, rfl⟩
                  have HB2 : Aside0 (Below w.heap.size w w2) := ⟨by rw [hw2]; exact pw_below_drewN HB.out 1⟩
                  have T2 : Aside0 (Arr w2 w.heap.size (M1 l0 64)) := ⟨by rw [hw2]; exact T0.out⟩
                  have O2 : Aside0 (Arr w2 g4 (M2 (M1 l0 64) (16 * y + 4 * k + x))) := ⟨by rw [hw2]; exact O0.out⟩
                  have key : ({ wr with drawn := wr.drawn + 1 } : World) = w2 := hw2.symm
                  have KEY := Aside0.mk key
                  clear key hw2 T0 O0 HB
                  obtain ⟨p, hp⟩ : ∃ p : Nat, p = 4 * k + y := ⟨_, rfl⟩
                  obtain ⟨m, hm⟩ : ∃ m : Nat, m = 4 * x + y := ⟨_, rfl⟩
                  have pb : p < 16 := by omega
                  have mb : m < 16 := by omega
                  have W1 : Aside0 (IntKind.i64.wrap (4 * (k : Int)) = 4 * (k : Int)) := ⟨by rw [IntKind.wrap_i64]; omega⟩
                  have W1x : Aside0 (IntKind.i64.wrap (4 * (x : Int)) = 4 * (x : Int)) := ⟨by rw [IntKind.wrap_i64]; omega⟩
                  have W2 : Aside0 (IntKind.i64.wrap (4 * (k : Int) + (y : Int)) = (p : Int)) := ⟨by rw [IntKind.wrap_i64]; omega⟩
                  have W3 : Aside0 (IntKind.i64.wrap (4 * (x : Int) + (y : Int)) = (m : Int)) := ⟨by rw [IntKind.wrap_i64]; omega⟩
                  obtain ⟨t, ht⟩ : ∃ t, t = (M2 (M1 l0 64) (16 * y + 4 * k + x)).getD p 0 := ⟨_, rfl⟩
                  have hx : w2.cell? ⟨g4, p, none⟩ = some (.int .i64 t) := by rw [ht]; exact O2.out.cell (by rw [M2_length]; omega)
                  have hfz : w2.frozen? ⟨g4, p, none⟩ = false := blk_frozen O2.out _
                  obtain ⟨b, hb⟩ : ∃ b, b = (M1 l0 64).getD m 0 := ⟨_, rfl⟩
                  have hb1 : w2.cell? ⟨w.heap.size, m, none⟩ = some (.int .i64 b) := by rw [hb]; exact T2.out.cell (by rw [M1_length]; omega)
                  obtain ⟨z, hz⟩ : ∃ z, z = zrT.getD (4 * k + x) 0 := ⟨_, rfl⟩
                  have hz1 : w2.cell? ⟨0, k * 4 + x, none⟩ = some (.int .i64 z) := by rw [hz, show k * 4 + x = 4 * k + x by omega]; exact (HT.out.stay HB2.out) _ (by omega)
                  obtain ⟨v, hv⟩ : ∃ v, v = wrap64 (t + wrap64 (z * b)) := ⟨_, rfl⟩
                  have WV : Aside0 (IntKind.i64.wrap (t + IntKind.i64.wrap (b * z)) = v) := ⟨by rw [hv, i64_wrap, i64_wrap, Int.mul_comm]⟩
                  have p16 : (p : Int) < 16 := by omega
                  have m16 : (m : Int) < 16 := by omega
                  have k4 : (k : Int) < 4 := by omega
                  have x4 : (x : Int) < 4 := by omega
                  have NM : Aside0 (M2 (M1 l0 64) (16 * y + 4 * k + x + 1) = (M2 (M1 l0 64) (16 * y + 4 * k + x)).set p v) := ⟨by rw [M2_step _ ck cx, hv, ht, hz, hb, hp, hm]; rfl⟩
                  clear ht hb hz hv hp hm
                  go_wp2_with fail
                  refine wp_region_still_tail 20 (by kernel_rfl) (by kernel_rfl) ?_
                  rw [KEY.out]
                  simp only [List.take_succ_cons, List.take_zero, List.drop_succ_cons, List.drop_zero]
                  iterate 2 still_step
                  rw [W1.out]
                  iterate 2 still_step
                  rw [W2.out]
                  iterate 4 still_step
                  rw [W1x.out]
                  iterate 2 still_step
                  rw [W3.out]
                  iterate 9 still_step
                  rw [WV.out]
                  iterate 1 still_step
                  refine wpStill_nil ?_
                  go_wp2
                  go_roundg qx
                  case measure => omega
                  case rel => exact ⟨x + 1, by go_num, ⟨by have := Qx.out; omega⟩, ⟨T2.out.far NE.out _ _⟩, ⟨by show Arr _ _ (M2 (M1 l0 64) (16 * y + 4 * k + x + 1)); rw [NM.out]; exact O2.out.put p v⟩, ⟨below_set HB2.out (Nat.le_of_lt g4b)⟩⟩
                · have E1 : Aside0 (16 * y + 4 * k + x = 16 * y + 4 * (k + 1)) := ⟨by have := Qx.out; omega⟩
                  rw [E1.out] at O0
                  go_wp2
                  go_roundg qk
                  case measure => omega
                  case rel => exact ⟨k + 1, by go_num, ⟨by have := Qk.out; omega⟩, T0, O0, HB⟩
            · have E1 : Aside0 (16 * y + 4 * k = 16 * (y + 1)) := ⟨by have := Qk.out; omega⟩
              rw [E1.out] at O0
              go_wp2
              go_roundg qy
              case measure => omega
              case rel => exact ⟨y + 1, by go_num, ⟨by have := Qy.out; omega⟩, T0, O0, HB⟩
        · have E1 : Aside0 (16 * y = 64) := ⟨by have := Qy.out; omega⟩
          rw [E1.out] at O0
          go_wp2_with fail
          refine (zcopyN _ _ 16 (M2 (M1 l0 64) 64) (M2_length _ _) (by omega) (by omega) _ (O0.out.reads (M2_length _ _))).mono ?_
          rintro e w5 ⟨v, rfl, ho, hb⟩
          have HO := Aside0.mk ho
          have HB5 := Aside0.mk (below_step HB.out hb)
          have HS := Aside0.mk (below_size HB.out)
          clear ho hb
          go_wp2
          go_ret
          rw [E.out]
          exact ⟨_, rfl, Kd.R_lower HO.out HS.out, HB5.out⟩
end Go.Proofs.YtkhpcclddkddmaaDoor.Wk
