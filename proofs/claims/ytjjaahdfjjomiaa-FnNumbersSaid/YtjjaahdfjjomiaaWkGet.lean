/- Walks of this seat's own: what the two GetNumber come to, for every byte string of at most 1048576 bytes and every place. -/
import Derived.Test.YtjjaahdfjjomiaaPFnExactTakeLowx0
import Derived.Test.YtjjaahdfjjomiaaMy
namespace Go.Proofs.Ytjjaahdfjjomiaa.Wk
open Go.RowKit Go.Proofs.YtjjaahdfjjomiaaW.PrintWords Go.Proofs.YtjjaahdfjjomiaaW.PrintLast Go.Proofs.YtjjaahdfjjomiaaW.PrintMore
set_option linter.unusedVariables false
/-- What is told where there is no number. -/
def noNum : Bool × Int × Int := (false, 0, 0)
/-- The reading from byte a + i on, i groups read, v their number, q groups left at most. -/
def getR (l : List Int) (a : Int) : Nat → Nat → Int → Bool × Int × Int
  | 0, _, _ => noNum
  | q + 1, i, v =>
    if a + i < l.length then
      if i = 9 ∧ 1 < rd l (a + i) then noNum
      else if rd l (a + i) < 128 then
        (if rd l (a + i) = 0 ∧ 0 < i then noNum else (true, bits .or .u64 v (IntKind.u64.wrap (rd l (a + i) % 128 * 2 ^ (7 * i))), a + i + 1))
      else getR l a q (i + 1) (bits .or .u64 v (IntKind.u64.wrap (rd l (a + i) % 128 * 2 ^ (7 * i))))
    else noNum
def numV (x : Bool × Int × Int) : Value := .agg #[.bool x.1, .int .u64 x.2.1, .int .i64 x.2.2]
theorem info38 : (Try.prog.info? 38).map (fun i => i.zero) = some (some (.agg #[.bool false, .int .u64 0, .int .i64 0])) := by kernel_rfl
set_option maxHeartbeats 2000000 in
/-- The reference's GetNumber. -/
theorem get_spec (A : Option Addr) (c : Nat) (l : List Int) (a : Int) (ha : 0 ≤ a) (ha2 : a ≤ 9223372036854775807) (hl : l.length ≤ 1048576) (hby : ∀ x ∈ l, (Lit.int .u8 x).wf = true) (w : World) (hc : l.length ≤ c) (hr : Kd.C (Kd.int .u8) w A l.length l) :
    Calls Try.prog 30 #[.slice A l.length c, .int .i64 a] w fun e w' => e = .returned (numV (getR l a 10 0 0)) ∧ Below w.heap.size w w' := by
  have HR := Aside0.mk hr
  have HBY := Aside0.mk hby
  clear hr hby
  have hA : decide (a < 0) = false := decide_eq_false (by omega)
  go_enter Try.func30, Try.ntmps30
  go_wp2
  go_loopg [5, 6] 10 (fun q v5 v6 w' => ∃ (i : Nat) (v : Int), v5 = .int .u64 v ∧ v6 = .int .i64 (i : Int) ∧ Aside0 (i + q = 10) ∧ Aside0 (getR l a q i v = getR l a 10 0 0) ∧ ∃ nd : Nat, w' = (w.alloc (.cells #[.bool false, .int .u64 0, .int .i64 0] 38)).drewN nd)
  case atStart => exact ⟨0, 0, rfl, rfl, ⟨rfl⟩, ⟨rfl⟩, 0, rfl⟩
  case round =>
    obtain ⟨i, v, rfl, rfl, Q, G, nd, rfl⟩ := hrel
    by_cases c0 : i < 10
    · obtain ⟨q, rfl⟩ : ∃ q, gk = q + 1 := ⟨gk - 1, by have := Q.out; omega⟩
      by_cases c1 : a + i < l.length
      · obtain ⟨ad, e1, hx⟩ := Kd.at_int (Kd.C_alloc HR.out (.cells #[.bool false, .int .u64 0, .int .i64 0] 38)) (a + i) (by omega) (by omega)
        obtain ⟨b, hb⟩ : ∃ b, b = rd l (a + i) := ⟨_, rfl⟩
        have hbb := My.rd_byte HBY.out (a + i)
        rw [← hb] at hx hbb
        have HBV := Aside0.mk hb
        clear hb
        obtain ⟨b0, b1⟩ := hbb
        cases e1
        have B1 : ∀ x : Bool × Int × Int, (i = 9 ∧ 1 < b) → x = noNum → Aside0 (x = getR l a 10 0 0) := fun x h e => ⟨by rw [← G.out, e]; unfold getR; rw [if_pos c1, ← HBV.out, if_pos h]⟩
        have B2 : ¬ (i = 9 ∧ 1 < b) → b < 128 → (b = 0 ∧ 0 < i) → Aside0 (noNum = getR l a 10 0 0) := fun h h2 h3 => ⟨by rw [← G.out]; unfold getR; rw [if_pos c1, ← HBV.out, if_neg h, if_pos h2, if_pos h3]⟩
        have B3 : ¬ (i = 9 ∧ 1 < b) → b < 128 → ¬ (b = 0 ∧ 0 < i) → Aside0 ((true, bits .or .u64 v (IntKind.u64.wrap (b % 128 * 2 ^ (7 * i))), a + i + 1) = getR l a 10 0 0) := fun h h2 h3 => ⟨by rw [← G.out]; unfold getR; rw [if_pos c1, ← HBV.out, if_neg h, if_pos h2, if_neg h3]⟩
        have B4 : ¬ (i = 9 ∧ 1 < b) → ¬ b < 128 → Aside0 (getR l a q (i + 1) (bits .or .u64 v (IntKind.u64.wrap (b % 128 * 2 ^ (7 * i)))) = getR l a 10 0 0) := fun h h2 => ⟨by rw [← G.out, getR, if_pos c1, ← HBV.out, if_neg h, if_neg h2]⟩
        by_cases c2 : i = 9 ∧ 1 < b
        · have G2 := B1 _ c2 rfl
          obtain ⟨c3, c4⟩ := c2
          have d3 : ((i : Int) == 9) = true := beq_iff_eq.2 (by omega)
          clear c3 B1 B2 B3 B4
          (go_wp2; refine bodyPost_ret (v := .agg #[.bool false, .int .u64 0, .int .i64 0]) (by simp [results, Try.results30, go_sem]) rfl ⟨by rw [← G2.out]; rfl, ?_⟩; repeat (first | exact Below.refl _ _ | apply pw_below_drewN | apply below_drew | apply below_alloc | refine below_set ?_ (Nat.le_refl _)))
        have d3 : ((i : Int) == 9) = true ∧ b ≤ 1 ∨ ((i : Int) == 9) = false := by
          by_cases h : i = 9
          · exact .inl ⟨beq_iff_eq.2 (by omega), by omega⟩
          · exact .inr (beq_eq_false_iff_ne.2 (by omega))
        by_cases c4 : b < 128
        · by_cases c5 : b = 0 ∧ 0 < i
          · have G2 := B2 c2 c4 c5
            have d5 : (b == 0) = true := beq_iff_eq.2 c5.1
            have c6 := c5.2
            clear c2 c5 B1 B2 B3 B4
            rcases d3 with ⟨d3, c7⟩ | d3
            · (go_wp2; refine bodyPost_ret (v := .agg #[.bool false, .int .u64 0, .int .i64 0]) (by simp [results, Try.results30, go_sem]) rfl ⟨by rw [← G2.out]; rfl, ?_⟩; repeat (first | exact Below.refl _ _ | apply pw_below_drewN | apply below_drew | apply below_alloc | refine below_set ?_ (Nat.le_refl _)))
            · (go_wp2; refine bodyPost_ret (v := .agg #[.bool false, .int .u64 0, .int .i64 0]) (by simp [results, Try.results30, go_sem]) rfl ⟨by rw [← G2.out]; rfl, ?_⟩; repeat (first | exact Below.refl _ _ | apply pw_below_drewN | apply below_drew | apply below_alloc | refine below_set ?_ (Nat.le_refl _)))
          · have G2 := B3 c2 c4 c5
            have d5 : (b == 0) = true ∧ i < 1 ∨ (b == 0) = false := by
              by_cases h : b = 0
              · exact .inl ⟨beq_iff_eq.2 h, by omega⟩
              · exact .inr (beq_eq_false_iff_ne.2 h)
            clear c2 c5 B1 B2 B3 B4
            rcases d3 with ⟨d3, c7⟩ | d3
            · rcases d5 with ⟨d5, c8⟩ | d5
              · (go_wp2; refine bodyPost_ret (v := .agg #[.bool true, .int .u64 (bits .or .u64 v (IntKind.u64.wrap (b % 128 * 2 ^ (7 * i)))), .int .i64 (a + i + 1)]) (by simp [results, Try.results30, go_sem]) rfl ⟨by rw [← G2.out]; rfl, ?_⟩; repeat (first | exact Below.refl _ _ | apply pw_below_drewN | apply below_drew | apply below_alloc | refine below_set ?_ (Nat.le_refl _)))
              · (go_wp2; refine bodyPost_ret (v := .agg #[.bool true, .int .u64 (bits .or .u64 v (IntKind.u64.wrap (b % 128 * 2 ^ (7 * i)))), .int .i64 (a + i + 1)]) (by simp [results, Try.results30, go_sem]) rfl ⟨by rw [← G2.out]; rfl, ?_⟩; repeat (first | exact Below.refl _ _ | apply pw_below_drewN | apply below_drew | apply below_alloc | refine below_set ?_ (Nat.le_refl _)))
            · rcases d5 with ⟨d5, c8⟩ | d5
              · (go_wp2; refine bodyPost_ret (v := .agg #[.bool true, .int .u64 (bits .or .u64 v (IntKind.u64.wrap (b % 128 * 2 ^ (7 * i)))), .int .i64 (a + i + 1)]) (by simp [results, Try.results30, go_sem]) rfl ⟨by rw [← G2.out]; rfl, ?_⟩; repeat (first | exact Below.refl _ _ | apply pw_below_drewN | apply below_drew | apply below_alloc | refine below_set ?_ (Nat.le_refl _)))
              · (go_wp2; refine bodyPost_ret (v := .agg #[.bool true, .int .u64 (bits .or .u64 v (IntKind.u64.wrap (b % 128 * 2 ^ (7 * i)))), .int .i64 (a + i + 1)]) (by simp [results, Try.results30, go_sem]) rfl ⟨by rw [← G2.out]; rfl, ?_⟩; repeat (first | exact Below.refl _ _ | apply pw_below_drewN | apply below_drew | apply below_alloc | refine below_set ?_ (Nat.le_refl _)))
        · have G2 := B4 c2 c4
          clear c2 B1 B2 B3 B4
          rcases d3 with ⟨d3, c7⟩ | d3
          · exact absurd c7 (by omega)
          · go_wp2
            go_roundg q
            case measure => omega
            case rel => exact ⟨i + 1, _, rfl, by go_num, ⟨by have := Q.out; omega⟩, G2, _, rfl⟩
      · have G2 : Aside0 (noNum = getR l a 10 0 0) := ⟨by rw [← G.out]; unfold getR; rw [if_neg c1]⟩
        by_cases c2 : (l.length : Int) ≤ a
        · clear c1
          (go_wp2; refine bodyPost_ret (v := .agg #[.bool false, .int .u64 0, .int .i64 0]) (by simp [results, Try.results30, go_sem]) rfl ⟨by rw [← G2.out]; rfl, ?_⟩; repeat (first | exact Below.refl _ _ | apply pw_below_drewN | apply below_drew | apply below_alloc | refine below_set ?_ (Nat.le_refl _)))
        · have c3 : (l.length : Int) - 1 - a < i := by omega
          clear c1
          (go_wp2; refine bodyPost_ret (v := .agg #[.bool false, .int .u64 0, .int .i64 0]) (by simp [results, Try.results30, go_sem]) rfl ⟨by rw [← G2.out]; rfl, ?_⟩; repeat (first | exact Below.refl _ _ | apply pw_below_drewN | apply below_drew | apply below_alloc | refine below_set ?_ (Nat.le_refl _)))
    · have e : gk = 0 := by have := Q.out; omega
      have G2 : Aside0 (noNum = getR l a 10 0 0) := ⟨by rw [← G.out, e]; rfl⟩
      clear e
      (go_wp2; refine bodyPost_ret (v := .agg #[.bool false, .int .u64 0, .int .i64 0]) (by simp [results, Try.results30, go_sem]) rfl ⟨by rw [← G2.out]; rfl, ?_⟩; repeat (first | exact Below.refl _ _ | apply pw_below_drewN | apply below_drew | apply below_alloc | refine below_set ?_ (Nat.le_refl _)))
theorem and_127 {b : Int} (h0 : 0 ≤ b) (h1 : b < 256) : IntKind.u64.wrap (bits .and .u8 b 127) = b % 128 := by
  have e : bits .and .u8 b 127 = b % 128 := bits_mask .u8 8 (by decide) wraps_u8 7 (by decide) b h0 h1
  rw [e, My.u64_id (by omega) (by omega)]
set_option maxHeartbeats 2000000 in
/-- The program's GetNumber. -/
theorem get_impl (A : Option Addr) (c : Nat) (l : List Int) (a : Int) (ha : 0 ≤ a) (ha2 : a ≤ 9223372036854775807) (hl : l.length ≤ 1048576) (hby : ∀ x ∈ l, (Lit.int .u8 x).wf = true) (w : World) (hc : l.length ≤ c) (hr : Kd.C (Kd.int .u8) w A l.length l) :
    Calls Try.prog 31 #[.slice A l.length c, .int .i64 a] w fun e w' => e = .returned (numV (getR l a 10 0 0)) ∧ Below w.heap.size w w' := by
  have HR := Aside0.mk hr
  have HBY := Aside0.mk hby
  clear hr hby
  have hA : decide (a < 0) = false := decide_eq_false (by omega)
  by_cases c9 : (l.length : Int) < a
  · have G2 : Aside0 (noNum = getR l a 10 0 0) := ⟨by unfold getR; rw [if_neg (by omega)]⟩
    go_enter Try.func31, Try.ntmps31
    (go_wp2; refine bodyPost_ret (v := .agg #[.bool false, .int .u64 0, .int .i64 0]) (by simp [results, Try.results31, go_sem]) rfl ⟨by rw [← G2.out]; rfl, ?_⟩; repeat (first | exact Below.refl _ _ | apply pw_below_drewN | apply below_drew | apply below_alloc | refine below_set ?_ (Nat.le_refl _)))
  go_enter Try.func31, Try.ntmps31
  go_wp2
  go_loopg [5, 6] 10 (fun q v5 v6 w' => ∃ (i : Nat) (v : Int), v5 = .int .u64 v ∧ v6 = .int .i64 (i : Int) ∧ Aside0 (i + q = 10) ∧ Aside0 (getR l a q i v = getR l a 10 0 0) ∧ ∃ nd : Nat, w' = (w.alloc (.cells #[.bool false, .int .u64 0, .int .i64 0] 38)).drewN nd)
  case atStart => exact ⟨0, 0, rfl, rfl, ⟨rfl⟩, ⟨rfl⟩, 0, rfl⟩
  case round =>
    obtain ⟨i, v, rfl, rfl, Q, G, nd, rfl⟩ := hrel
    by_cases c0 : i < 10
    · obtain ⟨q, rfl⟩ : ∃ q, gk = q + 1 := ⟨gk - 1, by have := Q.out; omega⟩
      by_cases c1 : a + i < l.length
      · obtain ⟨ad, e1, hx⟩ := Kd.at_int (Kd.C_alloc HR.out (.cells #[.bool false, .int .u64 0, .int .i64 0] 38)) (a + i) (by omega) (by omega)
        obtain ⟨b, hb⟩ : ∃ b, b = rd l (a + i) := ⟨_, rfl⟩
        have hbb := My.rd_byte HBY.out (a + i)
        rw [← hb] at hx hbb
        have HBV := Aside0.mk hb
        clear hb
        obtain ⟨b0, b1⟩ := hbb
        cases e1
        have AND := Aside0.mk (and_127 b0 (by omega : b < 256))
        have B1 : ∀ x : Bool × Int × Int, (i = 9 ∧ 1 < b) → x = noNum → Aside0 (x = getR l a 10 0 0) := fun x h e => ⟨by rw [← G.out, e]; unfold getR; rw [if_pos c1, ← HBV.out, if_pos h]⟩
        have B2 : ¬ (i = 9 ∧ 1 < b) → b < 128 → (b = 0 ∧ 0 < i) → Aside0 (noNum = getR l a 10 0 0) := fun h h2 h3 => ⟨by rw [← G.out]; unfold getR; rw [if_pos c1, ← HBV.out, if_neg h, if_pos h2, if_pos h3]⟩
        have B3 : ¬ (i = 9 ∧ 1 < b) → b < 128 → ¬ (b = 0 ∧ 0 < i) → Aside0 ((true, bits .or .u64 v (IntKind.u64.wrap (b % 128 * 2 ^ (7 * i))), a + i + 1) = getR l a 10 0 0) := fun h h2 h3 => ⟨by rw [← G.out]; unfold getR; rw [if_pos c1, ← HBV.out, if_neg h, if_pos h2, if_neg h3]⟩
        have B4 : ¬ (i = 9 ∧ 1 < b) → ¬ b < 128 → Aside0 (getR l a q (i + 1) (bits .or .u64 v (IntKind.u64.wrap (b % 128 * 2 ^ (7 * i)))) = getR l a 10 0 0) := fun h h2 => ⟨by rw [← G.out, getR, if_pos c1, ← HBV.out, if_neg h, if_neg h2]⟩
        by_cases c2 : i = 9 ∧ 1 < b
        · have G2 := B1 _ c2 rfl
          obtain ⟨c3, c4⟩ := c2
          have d3 : ((i : Int) == 9) = true := beq_iff_eq.2 (by omega)
          clear c3 B1 B2 B3 B4
          (go_wp2; refine bodyPost_ret (v := .agg #[.bool false, .int .u64 0, .int .i64 0]) (by simp [results, Try.results31, go_sem]) rfl ⟨by rw [← G2.out]; rfl, ?_⟩; repeat (first | exact Below.refl _ _ | apply pw_below_drewN | apply below_drew | apply below_alloc | refine below_set ?_ (Nat.le_refl _)))
        have d3 : ((i : Int) == 9) = true ∧ b ≤ 1 ∨ ((i : Int) == 9) = false := by
          by_cases h : i = 9
          · exact .inl ⟨beq_iff_eq.2 (by omega), by omega⟩
          · exact .inr (beq_eq_false_iff_ne.2 (by omega))
        by_cases c4 : b < 128
        · by_cases c5 : b = 0 ∧ 0 < i
          · have G2 := B2 c2 c4 c5
            have d5 : (b == 0) = true := beq_iff_eq.2 c5.1
            have c6 := c5.2
            clear c2 c5 B1 B2 B3 B4
            rcases d3 with ⟨d3, c7⟩ | d3
            · (go_wp2; refine bodyPost_ret (v := .agg #[.bool false, .int .u64 0, .int .i64 0]) (by simp [results, Try.results31, go_sem]) rfl ⟨by rw [← G2.out]; rfl, ?_⟩; repeat (first | exact Below.refl _ _ | apply pw_below_drewN | apply below_drew | apply below_alloc | refine below_set ?_ (Nat.le_refl _)))
            · (go_wp2; refine bodyPost_ret (v := .agg #[.bool false, .int .u64 0, .int .i64 0]) (by simp [results, Try.results31, go_sem]) rfl ⟨by rw [← G2.out]; rfl, ?_⟩; repeat (first | exact Below.refl _ _ | apply pw_below_drewN | apply below_drew | apply below_alloc | refine below_set ?_ (Nat.le_refl _)))
          · have G2 := B3 c2 c4 c5
            have d5 : (b == 0) = true ∧ i < 1 ∨ (b == 0) = false := by
              by_cases h : b = 0
              · exact .inl ⟨beq_iff_eq.2 h, by omega⟩
              · exact .inr (beq_eq_false_iff_ne.2 h)
            clear c2 c5 B1 B2 B3 B4
            rcases d3 with ⟨d3, c7⟩ | d3
            · rcases d5 with ⟨d5, c8⟩ | d5
              · (go_wp2; refine bodyPost_ret (v := .agg #[.bool true, .int .u64 (bits .or .u64 v (IntKind.u64.wrap (IntKind.u64.wrap (bits .and .u8 b 127) * 2 ^ (7 * i)))), .int .i64 (a + i + 1)]) (by simp [results, Try.results31, go_sem]) rfl ⟨by rw [← G2.out, AND.out]; rfl, ?_⟩; repeat (first | exact Below.refl _ _ | apply pw_below_drewN | apply below_drew | apply below_alloc | refine below_set ?_ (Nat.le_refl _)))
              · (go_wp2; refine bodyPost_ret (v := .agg #[.bool true, .int .u64 (bits .or .u64 v (IntKind.u64.wrap (IntKind.u64.wrap (bits .and .u8 b 127) * 2 ^ (7 * i)))), .int .i64 (a + i + 1)]) (by simp [results, Try.results31, go_sem]) rfl ⟨by rw [← G2.out, AND.out]; rfl, ?_⟩; repeat (first | exact Below.refl _ _ | apply pw_below_drewN | apply below_drew | apply below_alloc | refine below_set ?_ (Nat.le_refl _)))
            · rcases d5 with ⟨d5, c8⟩ | d5
              · (go_wp2; refine bodyPost_ret (v := .agg #[.bool true, .int .u64 (bits .or .u64 v (IntKind.u64.wrap (IntKind.u64.wrap (bits .and .u8 b 127) * 2 ^ (7 * i)))), .int .i64 (a + i + 1)]) (by simp [results, Try.results31, go_sem]) rfl ⟨by rw [← G2.out, AND.out]; rfl, ?_⟩; repeat (first | exact Below.refl _ _ | apply pw_below_drewN | apply below_drew | apply below_alloc | refine below_set ?_ (Nat.le_refl _)))
              · (go_wp2; refine bodyPost_ret (v := .agg #[.bool true, .int .u64 (bits .or .u64 v (IntKind.u64.wrap (IntKind.u64.wrap (bits .and .u8 b 127) * 2 ^ (7 * i)))), .int .i64 (a + i + 1)]) (by simp [results, Try.results31, go_sem]) rfl ⟨by rw [← G2.out, AND.out]; rfl, ?_⟩; repeat (first | exact Below.refl _ _ | apply pw_below_drewN | apply below_drew | apply below_alloc | refine below_set ?_ (Nat.le_refl _)))
        · have G2 := B4 c2 c4
          clear c2 B1 B2 B3 B4
          rcases d3 with ⟨d3, c7⟩ | d3
          · exact absurd c7 (by omega)
          · go_wp2
            go_roundg q
            case measure => omega
            case rel => exact ⟨i + 1, _, rfl, by go_num, ⟨by have := Q.out; omega⟩, ⟨by rw [AND.out]; exact G2.out⟩, _, rfl⟩
      · have G2 : Aside0 (noNum = getR l a 10 0 0) := ⟨by rw [← G.out]; unfold getR; rw [if_neg c1]⟩
        (go_wp2; refine bodyPost_ret (v := .agg #[.bool false, .int .u64 0, .int .i64 0]) (by simp [results, Try.results31, go_sem]) rfl ⟨by rw [← G2.out]; rfl, ?_⟩; repeat (first | exact Below.refl _ _ | apply pw_below_drewN | apply below_drew | apply below_alloc | refine below_set ?_ (Nat.le_refl _)))
    · have e : gk = 0 := by have := Q.out; omega
      have G2 : Aside0 (noNum = getR l a 10 0 0) := ⟨by rw [← G.out, e]; rfl⟩
      clear e
      (go_wp2; refine bodyPost_ret (v := .agg #[.bool false, .int .u64 0, .int .i64 0]) (by simp [results, Try.results31, go_sem]) rfl ⟨by rw [← G2.out]; rfl, ?_⟩; repeat (first | exact Below.refl _ _ | apply pw_below_drewN | apply below_drew | apply below_alloc | refine below_set ?_ (Nat.le_refl _)))
end Go.Proofs.Ytjjaahdfjjomiaa.Wk
