/- A walk of this seat's own: the law FnMarks returns true. -/
import Derived.Test.YtkhpcclddkddmaaWkCurD
import Derived.Test.YtkhpcclddkddmaaPureFnExactMarks
namespace Go.Proofs.Ytkhpcclddkddmaa.Wk
open Go.RowKit Go.Proofs.YtkhpcclddkddmaaW.PrintWords Go.Proofs.YtkhpcclddkddmaaW.PrintLast Go.Proofs.YtkhpcclddkddmaaW.PrintMore Go.Proofs.Ytkhpcclddkddmaa.My Go.Proofs.Ytkhpcclddkddmaa.PFnExactMarks Go.Proofs.Ytkhpcclddkddmaa.Pure
set_option linter.unusedVariables false
set_option linter.unusedSimpArgs false
theorem R_span {α : Type} {d : Kd α} {e : Nat} {w1 : World} {base : Nat} {ok : Nat → Prop} {v : Value} {xs : List α} (h : d.R e w1 base ok v xs) : d.R e w1 base (fun k => base ≤ k ∧ k < w1.heap.size) v xs :=
  Kd.R_mono (Kd.R_bound h) (fun k hk => ⟨hk.2.1, hk.2.2.1⟩)
theorem R_cells {α : Type} {d : Kd α} {e : Nat} {w1 : World} {base : Nat} {ok : Nat → Prop} {A : Option Addr} {n c : Nat} {xs : List α} (h : d.R e w1 base ok (.slice A n c) xs) : n = xs.length ∧ n ≤ c ∧ d.C w1 A xs.length xs := Kd.R_reads' h
theorem size_le {B : Nat} {w w1 : World} (h : Below B w w1) : w.heap.size ≤ w1.heap.size := h.size
/-- A cell of old memory. -/
theorem cell_stay {w w1 : World} (hb : Below w.heap.size w w1) {a : Addr} {v : Value} (h : w.cell? a = some v) : w1.cell? a = some v := pw_cell_below hb h
theorem R_slice_n {α : Type} {d : Kd α} {e : Nat} {w : World} {base n : Nat} {ok : Nat → Prop} {v : Value} {xs : List α} (h : d.R e w base ok v xs) (hl : xs.length = n) : ∃ A c, v = .slice A n c := by
  obtain ⟨A, c, e⟩ := Kd.R_slice h
  exact ⟨A, c, by rw [e, hl]⟩
/-! The marks, read at a place. -/
theorem marks_at1 (f m : Int) (b : Nat) (i : Int) (h0 : 0 ≤ i) (h1 : i < b) : rd_T46 (marksL f m b) i = ⟨f + i, 1⟩ := by
  obtain ⟨j, rfl⟩ : ∃ j : Nat, i = j := ⟨i.toNat, by omega⟩
  have hj : j < b := by omega
  simp [rd_T46, marksL, List.getD, onesL, List.getElem?_append, hj]
theorem marks_at2 (f m : Int) (b : Nat) : rd_T46 (marksL f m b) (b : Int) = ⟨f + (b : Int), 0⟩ := by
  simp [rd_T46, marksL, List.getD, List.getElem?_append, onesL_length]
theorem downL_get (f m : Int) (b : Nat) : ∀ i : Nat, i < b → (downL f m b)[i]? = some ⟨f + 20 + ((b - 1 - i : Nat) : Int), m / 2 ^ (b - 1 - i) % 2⟩ := by
  induction b with
  | zero => intro i h; omega
  | succ b ih =>
    intro i h
    rcases i with _ | i
    · simp [downL]
    · simp only [downL, List.getElem?_cons_succ]
      rw [ih i (by omega), show b + 1 - 1 - (i + 1) = b - 1 - i from by omega]
theorem marks_at3 (f m : Int) (b : Nat) (i : Int) (h0 : 0 ≤ i) (h1 : i < b) : rd_T46 (marksL f m b) ((b : Int) + 1 + i) = ⟨f + 20 + (b : Int) - 1 - i, m / 2 ^ (b - 1 - i.toNat) % 2⟩ := by
  obtain ⟨j, rfl⟩ : ∃ j : Nat, i = j := ⟨i.toNat, by omega⟩
  have hj : j < b := by omega
  have e : ((b : Int) + 1 + (j : Int)).toNat = b + 1 + j := by omega
  have hl : (onesL f b ++ [(⟨f + (b : Int), 0⟩ : S46)]).length = b + 1 := by simp [onesL_length]
  unfold rd_T46 marksL
  rw [e, List.getD, List.getElem?_append_right (by omega), hl, show b + 1 + j - (b + 1) = j from by omega, downL_get f m b j hj, Int.toNat_natCast, Option.getD_some]
  congr 1
  omega
theorem half_step (m : Int) (k : Nat) : 2 * (m / 2 ^ (k + 1)) + m / 2 ^ k % 2 = m / 2 ^ k := by
  have e : m / 2 ^ (k + 1) = m / 2 ^ k / 2 := by
    rw [Int.pow_succ, ← Int.ediv_ediv_of_nonneg (by have := pow_pos k; omega)]
  rw [e]
  omega
theorem top_one {m : Int} {b : Nat} (h : Top m b) : (1 : Int) = m / 2 ^ b := by
  obtain ⟨h0, h1⟩ := h
  have hp := pow_pos b
  rw [Int.pow_succ] at h1
  have a1 := Int.le_ediv_of_mul_le hp (show 1 * 2 ^ b ≤ m by omega)
  have a2 := Int.ediv_lt_of_lt_mul hp (show m < 2 * 2 ^ b by omega)
  omega
set_option maxRecDepth 100000 in
set_option maxHeartbeats 4000000 in
theorem law_LawMk (A : Option Addr) (c : Nat) (l : List Int) (hby : ∀ x ∈ l, (Lit.int .u8 x).wf = true) (w : World) (hc : l.length ≤ c) (hr : Kd.C (Kd.int .u8) w A l.length l) :
    Calls Try.prog 8 #[.slice A l.length c] w fun e w' => e = .returned (.bool true) ∧ Below w.heap.size w w' := by
  by_cases h : 1048576 < l.length
  · go_enter Try.func8, Try.ntmps8
    go_wp2
    go_ret
    exact ⟨rfl, Below.refl _ _⟩
  have hl : l.length ≤ 1048576 := by omega
  go_enter Try.func8, Try.ntmps8
  go_wp2_with fail
  refine (draw_marks _ A c l hc hr hby).mono ?_
  rintro e w1 ⟨n, f, rfl, hnf, hb⟩
  have B1 := Aside0.mk hb
  clear hb hr hby h hl
  obtain ⟨r, hrl, es, ei, hin, hout⟩ := marks_all n f
  have ES := Aside0.mk (es 301 (by omega))
  have EI := Aside0.mk (ei 301 (by omega))
  clear es ei
  go_wp2_with fail
  refine (impl_Marks.calls 301 n f r _ EI.out).mono ?_
  rintro e w2 ⟨v, rfl, ho, hb⟩
  obtain ⟨A2, c2, rfl⟩ := Kd.R_slice ho
  have S2 := Aside0.mk (R_span ho)
  have B2 := Aside0.mk (below_step B1.out hb)
  have LE := Aside0.mk (size_le B1.out)
  clear ho hb B1
  go_wp2_with fail
  refine (spec_Marks.calls 301 n f r _ ES.out).mono ?_
  rintro e w3 ⟨v, rfl, ho, hb⟩
  obtain ⟨A3, c3, rfl⟩ := Kd.R_slice ho
  have S3 := Aside0.mk (Kd.R_below S2.out hb)
  have HB := Aside0.mk (below_step B2.out hb)
  clear ho hb B2 S2 ES EI
  by_cases hd : 0 ≤ n ∧ n ≤ 65535 ∧ 0 ≤ f ∧ f ≤ 472
  · obtain ⟨d1, d2, d3, d4⟩ := hd
    obtain ⟨b, hb16, ht, hre⟩ := hin d1 d2 d3 d4
    have hlen : r.length = 2 * b + 1 := by rw [hre, marksL_length]
    obtain ⟨q, hq⟩ : ∃ q : Nat, q = r.length := ⟨_, rfl⟩
    rw [← hq] at S3 hlen hrl ⊢
    clear hin hout
    have R1 := Aside0.mk (marks_at1 f (n + 1) b)
    have R2 := Aside0.mk (marks_at2 f (n + 1) b)
    have R3 := Aside0.mk (marks_at3 f (n + 1) b)
    rw [← hre] at R1 R2 R3
    have TOP := Aside0.mk ht
    have HC2 := Aside0.mk (R_cells S3.out).2.1
    clear hre ht hq
    obtain ⟨l0, l1⟩ : q = 2 * b + 1 ∧ 0 ≤ b := ⟨hlen, by omega⟩
    clear hlen
    go_wp2
    go_loopg [6] b (fun k v6 w' => ∃ i : Int, v6 = .int .i64 i ∧ (0 ≤ i ∧ i + (k : Int) = (b : Int)) ∧ Aside0 (Kd.R k46 46 w' w.heap.size (fun _ => True) (.slice A2 q c2) r) ∧ Aside0 (Below w.heap.size w w'))
    case atStart => exact ⟨0, rfl, ⟨by omega, by omega⟩, ⟨by (with_reducible repeat (first | apply Kd.R_alloc | apply Kd.R_drewN | apply Kd.R_drew)); exact Kd.R_mono (Kd.R_lower S3.out LE.out) (fun _ _ => trivial)⟩, ⟨by repeat (first | (with_reducible first | exact HB.out | apply below_alloc | apply pw_below_drewN | apply below_drew1) | exact HB.out)⟩⟩
    case round =>
      clear S3 HB
      obtain ⟨i, rfl, hi, HO, HB⟩ := hrel
      have iq : i < (q : Int) := by omega
      obtain ⟨ad, e1, hx0, hx1⟩ := at_T46 (R_cells HO.out).2.2 i (by omega) (by have := (R_cells HO.out).1; omega)
      cases e1
      by_cases c0 : i < (b : Int)
      · obtain ⟨k, rfl⟩ : ∃ k, gk = k + 1 := ⟨gk - 1, by omega⟩
        rw [R1.out i (by omega) c0] at hx0 hx1
        go_wp2
        go_roundg k
        case measure => omega
        case rel => exact ⟨i + 1, rfl, by omega, HO, HB⟩
      · obtain rfl : i = (b : Int) := by omega
        rw [R2.out] at hx0 hx1
        rw [Int.toNat_natCast] at hx0 hx1
        go_wp2
        clear hx0 hx1
        go_loopg [7, 8] b (fun k v7 v8 w' => ∃ m i : Int, v7 = .int .i64 m ∧ v8 = .int .i64 i ∧ (0 ≤ i ∧ i + (k : Int) = (b : Int)) ∧ Aside0 (m = (n + 1) / 2 ^ k) ∧ (0 ≤ m ∧ m ≤ n + 1) ∧ Aside0 (Kd.R k46 46 w' w.heap.size (fun _ => True) (.slice (some ad) q c2) r) ∧ Aside0 (Below w.heap.size w w'))
        case atStart => exact ⟨1, 0, rfl, rfl, ⟨by omega, by omega⟩, ⟨top_one TOP.out⟩, ⟨by omega, by omega⟩, ⟨by (with_reducible repeat (first | apply Kd.R_alloc | apply Kd.R_drewN | apply Kd.R_drew)); exact HO.out⟩, ⟨by repeat (first | (with_reducible first | exact HB.out | apply below_alloc | apply pw_below_drewN | apply below_drew1) | exact HB.out)⟩⟩
        case round =>
          clear HO HB
          obtain ⟨m, i, rfl, rfl, hi, HM, hm, HO, HB⟩ := hrel
          by_cases c1 : i < (b : Int)
          · obtain ⟨k, rfl⟩ : ∃ k, gk = k + 1 := ⟨gk - 1, by omega⟩
            obtain ⟨ad', e1, hx0, hx1⟩ := at_T46 (R_cells HO.out).2.2 ((b : Int) + 1 + i) (by omega) (by have := (R_cells HO.out).1; omega)
            cases e1
            rw [R3.out i (by omega) c1, show b - 1 - i.toNat = k from by omega] at hx0 hx1
            have hs := half_step (n + 1) k
            rw [← HM.out] at hs
            have u0 : 0 ≤ (n + 1) / 2 ^ k := Int.ediv_nonneg (by omega) (by have := pow_pos k; omega)
            have u1 : (n + 1) / 2 ^ k ≤ n + 1 := Int.ediv_le_self _ (by omega)
            obtain ⟨u, hu⟩ : ∃ u, u = (n + 1) / 2 ^ k := ⟨_, rfl⟩
            rw [← hu] at hs u0 u1 hx1
            obtain ⟨t, ht⟩ : ∃ t, t = u % 2 := ⟨_, rfl⟩
            rw [← ht] at hs hx1
            have tr : 0 ≤ t ∧ t ≤ 1 := by omega
            have HU := Aside0.mk hu
            have HS := Aside0.mk hs
            clear hu ht hs
            obtain ⟨p, hp⟩ : ∃ p, p = f + 20 + (b : Int) - 1 - i := ⟨_, rfl⟩
            rw [← hp] at hx0
            have pe : (p == f + 20 + (b : Int) - 1 - i) = true := by rw [hp]; exact beq_self_eq_true _
            go_wp2_with (((with_reducible refine gate_dst (N := 9) rfl ?_); refine box_event ?hg (N := 9) ?hd (cs := #[.int .i64 0, .int .i64 0]) (t := 46) ?hr ?_; (case hd => rfl); (case hg => rfl); (case hr => first | (go_simp; done) | (go_simp; rfl)); intro gb hg w19 hbox hb; have n0_ := Aside0.mk (Kd.R_below (Kd.R_elderB (by (with_reducible repeat (first | apply Kd.R_alloc | apply Kd.R_drewN | apply Kd.R_drew)); exact HO.out) gb (Nat.le_of_eq hg.symm)) hb); have n2_ := Aside0.mk (below_step (by repeat (first | (with_reducible first | exact HB.out | apply below_alloc | apply pw_below_drewN | apply below_drew1) | exact HB.out)) hb); have n3_ := Aside0.mk hbox; have n4_ := Aside0.mk ((by rw [hg]; exact (below_size (by repeat (first | (with_reducible first | exact HB.out | apply below_alloc | apply pw_below_drewN | apply below_drew1) | exact HB.out)))) : w.heap.size ≤ gb); clear HO HB; have HO := n0_; have HB := n2_; have BK := n3_; have GE := n4_; clear n0_ n2_ n3_ n4_; clear hb hbox hg; have hcz0 : w19.cell? ⟨gb, 0, none⟩ = some (.int .i64 0) := (blk_cell BK.out 0).trans rfl; have hcz1 : w19.cell? ⟨gb, 1, none⟩ = some (.int .i64 0) := (blk_cell BK.out 1).trans rfl; have hfz0 := blk_frozen BK.out 0; have hfz1 := blk_frozen BK.out 1))
            go_roundg k
            case measure => omega
            case rel => exact ⟨_, i + 1, rfl, rfl, by omega, ⟨by have := HS.out; have := HU.out; omega⟩, by have := HS.out; omega, ⟨by (with_reducible repeat (first | apply Kd.R_alloc | apply Kd.R_drewN | apply Kd.R_drew)); exact Kd.R_mono (Kd.R_far (p := ⟨gb, 1, none⟩) (Kd.R_far (p := ⟨gb, 0, none⟩) HO.out (fun _ hk => hk.2) _) (fun _ hk => hk.2) _) (fun _ _ => trivial)⟩, ⟨by repeat (first | (with_reducible first | exact HB.out | apply below_alloc | apply pw_below_drewN | apply below_drew1 | refine below_set ?_ GE.out) | exact HB.out)⟩⟩
          · obtain rfl : i = (b : Int) := by omega
            obtain rfl : gk = 0 := by omega
            have e := HM.out
            rw [Int.pow_zero, Int.ediv_one] at e
            subst e
            go_wp2
            go_ret
            exact ⟨rfl, by exact HB.out⟩
  · have hz := hout hd
    clear hin hout
    subst hz
    go_wp2
    go_ret
    exact ⟨rfl, by exact HB.out⟩
end Go.Proofs.Ytkhpcclddkddmaa.Wk
