/- Walks of this seat's own: what the program's guess comes to. -/
import Derived.Test.YtkhpcclddkddmaaWkFilt2
namespace Go.Proofs.Ytkhpcclddkddmaa.Wk
open Go.RowKit Go.Proofs.YtkhpcclddkddmaaW.PrintWords Go.Proofs.YtkhpcclddkddmaaW.PrintLast Go.Proofs.YtkhpcclddkddmaaW.PrintMore Go.Proofs.Ytkhpcclddkddmaa.My
set_option linter.unusedVariables false
set_option linter.unusedSimpArgs false
theorem away_calls' (a b x : Int) (hx : iabs (a - b) = x) (ha : -1000 ≤ a ∧ a ≤ 1000) (hb : -1000 ≤ b ∧ b ≤ 1000) (w : World) : Calls Try.prog 53 #[.int .i64 a, .int .i64 b] w fun e w' => e = .returned (.int .i64 x) ∧ w' = w := by
  rw [← hx]
  exact away_calls a b ha hb w
set_option maxHeartbeats 400000000 in
theorem guess_impl (k s i : Int) (Aa Ar : Option Addr) (ca cr : Nat) (la lr : List Int) (k0 : 0 ≤ k) (k1 : k ≤ 4) (s0 : 1 ≤ s) (s1 : s ≤ 8) (i0 : 0 ≤ i) (i1 : i < lr.length) (hl : lr.length ≤ 4096) (hla : la.length = 0 ∨ la.length = lr.length) (wa : ∀ x ∈ la, (Lit.int .u8 x).wf = true) (wr : ∀ x ∈ lr, (Lit.int .u8 x).wf = true) (w : World) (ha : Kd.C (Kd.int .u8) w Aa la.length la) (hr : Kd.C (Kd.int .u8) w Ar lr.length lr) :
    Calls Try.prog 37 #[.int .i64 k, .int .i64 s, .slice Aa la.length ca, .slice Ar lr.length cr, .int .i64 i] w fun e w' => e = .returned (.int .u8 (gs k (atV lr (i - s)) (atV la i) (atV la (i - s)))) ∧ w' = w := by
  obtain ⟨a, ea⟩ : ∃ a, a = atV lr (i - s) := ⟨_, rfl⟩
  obtain ⟨b, eb⟩ : ∃ a, a = atV la i := ⟨_, rfl⟩
  obtain ⟨c, ec⟩ : ∃ a, a = atV la (i - s) := ⟨_, rfl⟩
  have ba := atV_byte wr (i - s)
  have bb := atV_byte wa i
  have bc := atV_byte wa (i - s)
  rw [← ea] at ba
  rw [← eb] at bb
  rw [← ec] at bc
  rw [← ea, ← eb, ← ec]
  have HA := Aside0.mk ha
  have HR := Aside0.mk hr
  clear ha hr wa wr
  obtain ⟨r, hg⟩ : ∃ r, r = gs k a b c := ⟨_, rfl⟩
  rw [← hg]

  by_cases h0 : s ≤ i
  · have t0 : decide (s ≤ i) = true := decide_eq_true h0
    obtain ⟨ada, ea1, hxa⟩ := Kd.at_int HR.out (i - s) (by omega) (by omega)
    rw [show rd lr (i - s) = a by rw [ea]; unfold atV; rw [if_neg (by omega)]] at hxa
    subst ea1
    by_cases h1 : 0 < la.length
    · have t1 : decide ((0 : Int) < la.length) = true := decide_eq_true (by omega)
      have i2 : i < la.length := by omega
      obtain ⟨adb, eb1, hxb⟩ := Kd.at_int HA.out (i) (by omega) (by omega)
      rw [show rd la (i) = b by rw [eb]; unfold atV; rw [if_neg (by omega)]] at hxb
      obtain ⟨adc, ec1, hxc⟩ := Kd.at_int HA.out (i - s) (by omega) (by omega)
      rw [show rd la (i - s) = c by rw [ec]; unfold atV; rw [if_neg (by omega)]] at hxc
      subst eb1
      cases ec1
      clear ea eb ec hla
      obtain rfl | rfl | rfl | rfl | rfl : k = 0 ∨ k = 1 ∨ k = 2 ∨ k = 3 ∨ k = 4 := by omega
      · have E : Aside0 (r = 0) := ⟨by rw [hg]; unfold gs; simp⟩
        clear hg
        go_enter Try.func37, Try.ntmps37
        go_wp2
        go_ret
        exact ⟨by rw [E.out]; first | rfl | simp, rfl⟩
      · have E : Aside0 (r = a) := ⟨by rw [hg]; unfold gs; simp⟩
        clear hg
        go_enter Try.func37, Try.ntmps37
        go_wp2
        go_ret
        exact ⟨by rw [E.out]; first | rfl | simp, rfl⟩
      · have E : Aside0 (r = b) := ⟨by rw [hg]; unfold gs; simp⟩
        clear hg
        go_enter Try.func37, Try.ntmps37
        go_wp2
        go_ret
        exact ⟨by rw [E.out]; first | rfl | simp, rfl⟩
      · have E : Aside0 (r = (a + b) / 2) := ⟨by rw [hg]; unfold gs; simp⟩
        clear hg
        go_enter Try.func37, Try.ntmps37
        go_wp2
        go_ret
        exact ⟨by rw [E.out]; first | rfl | simp, rfl⟩
      · obtain ⟨x, hx⟩ : ∃ x, x = iabs (a + b - c - a) := ⟨_, rfl⟩
        obtain ⟨y, hy⟩ : ∃ x, x = iabs (a + b - c - b) := ⟨_, rfl⟩
        obtain ⟨z, hz⟩ : ∃ x, x = iabs (a + b - c - c) := ⟨_, rfl⟩
        have HG : Aside0 (r = if x ≤ y ∧ x ≤ z then a else if y ≤ z then b else c) := ⟨by rw [hg]; exact gs4 hx hy hz⟩
        have X := Aside0.mk hx
        have Y := Aside0.mk hy
        have Z := Aside0.mk hz
        clear hx hy hz hg
        go_enter Try.func37, Try.ntmps37
        go_wp2_with fail
        refine (away_calls' _ _ x (by rw [X.out]; first | done | rfl | decide | (congr 1; omega)) (by omega) (by omega) _).mono ?_
        rintro e w1 ⟨rfl, rfl⟩
        go_wp2_with fail
        refine (away_calls' _ _ y (by rw [Y.out]; first | done | rfl | decide | (congr 1; omega)) (by omega) (by omega) _).mono ?_
        rintro e w1 ⟨rfl, rfl⟩
        by_cases h1 : x ≤ y
        · have t1 : decide (x ≤ y) = true := decide_eq_true h1
          go_wp2_with fail
          refine (away_calls' _ _ x (by rw [X.out]; first | done | rfl | decide | (congr 1; omega)) (by omega) (by omega) _).mono ?_
          rintro e w1 ⟨rfl, rfl⟩
          go_wp2_with fail
          refine (away_calls' _ _ z (by rw [Z.out]; first | done | rfl | decide | (congr 1; omega)) (by omega) (by omega) _).mono ?_
          rintro e w1 ⟨rfl, rfl⟩
          by_cases h2 : x ≤ z
          · have t2 : decide (x ≤ z) = true := decide_eq_true h2
            have E : Aside0 (r = a) := ⟨by rw [HG.out, if_pos (by omega)]⟩
            go_wp2
            go_ret
            exact ⟨by rw [E.out]; rfl, rfl⟩
          · have t2 : decide (x ≤ z) = false := decide_eq_false h2
            go_wp2_with fail
            refine (away_calls' _ _ y (by rw [Y.out]; first | done | rfl | decide | (congr 1; omega)) (by omega) (by omega) _).mono ?_
            rintro e w1 ⟨rfl, rfl⟩
            go_wp2_with fail
            refine (away_calls' _ _ z (by rw [Z.out]; first | done | rfl | decide | (congr 1; omega)) (by omega) (by omega) _).mono ?_
            rintro e w1 ⟨rfl, rfl⟩
            by_cases h3 : y ≤ z
            · have t3 : decide (y ≤ z) = true := decide_eq_true h3
              have E : Aside0 (r = b) := ⟨by rw [HG.out, if_neg (by omega), if_pos (by omega)]⟩
              go_wp2
              go_ret
              exact ⟨by rw [E.out]; rfl, rfl⟩
            · have t3 : decide (y ≤ z) = false := decide_eq_false h3
              have E : Aside0 (r = c) := ⟨by rw [HG.out, if_neg (by omega), if_neg (by omega)]⟩
              go_wp2
              go_ret
              exact ⟨by rw [E.out]; rfl, rfl⟩
        · have t1 : decide (x ≤ y) = false := decide_eq_false h1
          go_wp2_with fail
          refine (away_calls' _ _ y (by rw [Y.out]; first | done | rfl | decide | (congr 1; omega)) (by omega) (by omega) _).mono ?_
          rintro e w1 ⟨rfl, rfl⟩
          go_wp2_with fail
          refine (away_calls' _ _ z (by rw [Z.out]; first | done | rfl | decide | (congr 1; omega)) (by omega) (by omega) _).mono ?_
          rintro e w1 ⟨rfl, rfl⟩
          by_cases h3 : y ≤ z
          · have t3 : decide (y ≤ z) = true := decide_eq_true h3
            have E : Aside0 (r = b) := ⟨by rw [HG.out, if_neg (by omega), if_pos (by omega)]⟩
            go_wp2
            go_ret
            exact ⟨by rw [E.out]; rfl, rfl⟩
          · have t3 : decide (y ≤ z) = false := decide_eq_false h3
            have E : Aside0 (r = c) := ⟨by rw [HG.out, if_neg (by omega), if_neg (by omega)]⟩
            go_wp2
            go_ret
            exact ⟨by rw [E.out]; rfl, rfl⟩
    · have t1 : decide ((0 : Int) < la.length) = false := decide_eq_false (by omega)
      obtain rfl : b = 0 := by rw [eb]; unfold atV; rw [if_neg (by omega)]; simp [rd, List.getD, List.getElem?_eq_none (show la.length ≤ i.toNat by omega)]
      obtain rfl : c = 0 := by rw [ec]; unfold atV; rw [if_neg (by omega)]; simp [rd, List.getD, List.getElem?_eq_none (show la.length ≤ (i - s).toNat by omega)]
      clear ea eb ec hla
      obtain rfl | rfl | rfl | rfl | rfl : k = 0 ∨ k = 1 ∨ k = 2 ∨ k = 3 ∨ k = 4 := by omega
      · have E : Aside0 (r = 0) := ⟨by rw [hg]; unfold gs; simp⟩
        clear hg
        go_enter Try.func37, Try.ntmps37
        go_wp2
        go_ret
        exact ⟨by rw [E.out]; first | rfl | simp, rfl⟩
      · have E : Aside0 (r = a) := ⟨by rw [hg]; unfold gs; simp⟩
        clear hg
        go_enter Try.func37, Try.ntmps37
        go_wp2
        go_ret
        exact ⟨by rw [E.out]; first | rfl | simp, rfl⟩
      · have E : Aside0 (r = 0) := ⟨by rw [hg]; unfold gs; simp⟩
        clear hg
        go_enter Try.func37, Try.ntmps37
        go_wp2
        go_ret
        exact ⟨by rw [E.out]; first | rfl | simp, rfl⟩
      · have E : Aside0 (r = (a + 0) / 2) := ⟨by rw [hg]; unfold gs; simp⟩
        clear hg
        go_enter Try.func37, Try.ntmps37
        go_wp2
        go_ret
        exact ⟨by rw [E.out]; first | rfl | simp, rfl⟩
      · obtain ⟨x, hx⟩ : ∃ x, x = iabs (a + 0 - 0 - a) := ⟨_, rfl⟩
        obtain ⟨y, hy⟩ : ∃ x, x = iabs (a + 0 - 0 - 0) := ⟨_, rfl⟩
        obtain ⟨z, hz⟩ : ∃ x, x = iabs (a + 0 - 0 - 0) := ⟨_, rfl⟩
        have HG : Aside0 (r = if x ≤ y ∧ x ≤ z then a else if y ≤ z then 0 else 0) := ⟨by rw [hg]; exact gs4 hx hy hz⟩
        have X := Aside0.mk hx
        have Y := Aside0.mk hy
        have Z := Aside0.mk hz
        clear hx hy hz hg
        go_enter Try.func37, Try.ntmps37
        go_wp2_with fail
        refine (away_calls' _ _ x (by rw [X.out]; first | done | rfl | decide | (congr 1; omega)) (by omega) (by omega) _).mono ?_
        rintro e w1 ⟨rfl, rfl⟩
        go_wp2_with fail
        refine (away_calls' _ _ y (by rw [Y.out]; first | done | rfl | decide | (congr 1; omega)) (by omega) (by omega) _).mono ?_
        rintro e w1 ⟨rfl, rfl⟩
        by_cases h1 : x ≤ y
        · have t1 : decide (x ≤ y) = true := decide_eq_true h1
          go_wp2_with fail
          refine (away_calls' _ _ x (by rw [X.out]; first | done | rfl | decide | (congr 1; omega)) (by omega) (by omega) _).mono ?_
          rintro e w1 ⟨rfl, rfl⟩
          go_wp2_with fail
          refine (away_calls' _ _ z (by rw [Z.out]; first | done | rfl | decide | (congr 1; omega)) (by omega) (by omega) _).mono ?_
          rintro e w1 ⟨rfl, rfl⟩
          by_cases h2 : x ≤ z
          · have t2 : decide (x ≤ z) = true := decide_eq_true h2
            have E : Aside0 (r = a) := ⟨by rw [HG.out, if_pos (by omega)]⟩
            go_wp2
            go_ret
            exact ⟨by rw [E.out]; rfl, rfl⟩
          · have t2 : decide (x ≤ z) = false := decide_eq_false h2
            go_wp2_with fail
            refine (away_calls' _ _ y (by rw [Y.out]; first | done | rfl | decide | (congr 1; omega)) (by omega) (by omega) _).mono ?_
            rintro e w1 ⟨rfl, rfl⟩
            go_wp2_with fail
            refine (away_calls' _ _ z (by rw [Z.out]; first | done | rfl | decide | (congr 1; omega)) (by omega) (by omega) _).mono ?_
            rintro e w1 ⟨rfl, rfl⟩
            by_cases h3 : y ≤ z
            · have t3 : decide (y ≤ z) = true := decide_eq_true h3
              have E : Aside0 (r = 0) := ⟨by rw [HG.out, if_neg (by omega), if_pos (by omega)]⟩
              go_wp2
              go_ret
              exact ⟨by rw [E.out]; rfl, rfl⟩
            · have t3 : decide (y ≤ z) = false := decide_eq_false h3
              have E : Aside0 (r = 0) := ⟨by rw [HG.out, if_neg (by omega), if_neg (by omega)]⟩
              go_wp2
              go_ret
              exact ⟨by rw [E.out]; rfl, rfl⟩
        · have t1 : decide (x ≤ y) = false := decide_eq_false h1
          go_wp2_with fail
          refine (away_calls' _ _ y (by rw [Y.out]; first | done | rfl | decide | (congr 1; omega)) (by omega) (by omega) _).mono ?_
          rintro e w1 ⟨rfl, rfl⟩
          go_wp2_with fail
          refine (away_calls' _ _ z (by rw [Z.out]; first | done | rfl | decide | (congr 1; omega)) (by omega) (by omega) _).mono ?_
          rintro e w1 ⟨rfl, rfl⟩
          by_cases h3 : y ≤ z
          · have t3 : decide (y ≤ z) = true := decide_eq_true h3
            have E : Aside0 (r = 0) := ⟨by rw [HG.out, if_neg (by omega), if_pos (by omega)]⟩
            go_wp2
            go_ret
            exact ⟨by rw [E.out]; rfl, rfl⟩
          · have t3 : decide (y ≤ z) = false := decide_eq_false h3
            have E : Aside0 (r = 0) := ⟨by rw [HG.out, if_neg (by omega), if_neg (by omega)]⟩
            go_wp2
            go_ret
            exact ⟨by rw [E.out]; rfl, rfl⟩
  · have t0 : decide (s ≤ i) = false := decide_eq_false h0
    obtain rfl : a = 0 := by rw [ea]; unfold atV; rw [if_pos (by omega)]
    obtain rfl : c = 0 := by rw [ec]; unfold atV; rw [if_pos (by omega)]
    by_cases h1 : 0 < la.length
    · have t1 : decide ((0 : Int) < la.length) = true := decide_eq_true (by omega)
      have i2 : i < la.length := by omega
      obtain ⟨adb, eb1, hxb⟩ := Kd.at_int HA.out (i) (by omega) (by omega)
      rw [show rd la (i) = b by rw [eb]; unfold atV; rw [if_neg (by omega)]] at hxb
      subst eb1
      clear ea eb ec hla
      obtain rfl | rfl | rfl | rfl | rfl : k = 0 ∨ k = 1 ∨ k = 2 ∨ k = 3 ∨ k = 4 := by omega
      · have E : Aside0 (r = 0) := ⟨by rw [hg]; unfold gs; simp⟩
        clear hg
        go_enter Try.func37, Try.ntmps37
        go_wp2
        go_ret
        exact ⟨by rw [E.out]; first | rfl | simp, rfl⟩
      · have E : Aside0 (r = 0) := ⟨by rw [hg]; unfold gs; simp⟩
        clear hg
        go_enter Try.func37, Try.ntmps37
        go_wp2
        go_ret
        exact ⟨by rw [E.out]; first | rfl | simp, rfl⟩
      · have E : Aside0 (r = b) := ⟨by rw [hg]; unfold gs; simp⟩
        clear hg
        go_enter Try.func37, Try.ntmps37
        go_wp2
        go_ret
        exact ⟨by rw [E.out]; first | rfl | simp, rfl⟩
      · have E : Aside0 (r = (0 + b) / 2) := ⟨by rw [hg]; unfold gs; simp⟩
        clear hg
        go_enter Try.func37, Try.ntmps37
        go_wp2
        go_ret
        exact ⟨by rw [E.out]; first | rfl | simp, rfl⟩
      · obtain ⟨x, hx⟩ : ∃ x, x = iabs (0 + b - 0 - 0) := ⟨_, rfl⟩
        obtain ⟨y, hy⟩ : ∃ x, x = iabs (0 + b - 0 - b) := ⟨_, rfl⟩
        obtain ⟨z, hz⟩ : ∃ x, x = iabs (0 + b - 0 - 0) := ⟨_, rfl⟩
        have HG : Aside0 (r = if x ≤ y ∧ x ≤ z then 0 else if y ≤ z then b else 0) := ⟨by rw [hg]; exact gs4 hx hy hz⟩
        have X := Aside0.mk hx
        have Y := Aside0.mk hy
        have Z := Aside0.mk hz
        clear hx hy hz hg
        go_enter Try.func37, Try.ntmps37
        go_wp2_with fail
        refine (away_calls' _ _ x (by rw [X.out]; first | done | rfl | decide | (congr 1; omega)) (by omega) (by omega) _).mono ?_
        rintro e w1 ⟨rfl, rfl⟩
        go_wp2_with fail
        refine (away_calls' _ _ y (by rw [Y.out]; first | done | rfl | decide | (congr 1; omega)) (by omega) (by omega) _).mono ?_
        rintro e w1 ⟨rfl, rfl⟩
        by_cases h1 : x ≤ y
        · have t1 : decide (x ≤ y) = true := decide_eq_true h1
          go_wp2_with fail
          refine (away_calls' _ _ x (by rw [X.out]; first | done | rfl | decide | (congr 1; omega)) (by omega) (by omega) _).mono ?_
          rintro e w1 ⟨rfl, rfl⟩
          go_wp2_with fail
          refine (away_calls' _ _ z (by rw [Z.out]; first | done | rfl | decide | (congr 1; omega)) (by omega) (by omega) _).mono ?_
          rintro e w1 ⟨rfl, rfl⟩
          by_cases h2 : x ≤ z
          · have t2 : decide (x ≤ z) = true := decide_eq_true h2
            have E : Aside0 (r = 0) := ⟨by rw [HG.out, if_pos (by omega)]⟩
            go_wp2
            go_ret
            exact ⟨by rw [E.out]; rfl, rfl⟩
          · have t2 : decide (x ≤ z) = false := decide_eq_false h2
            go_wp2_with fail
            refine (away_calls' _ _ y (by rw [Y.out]; first | done | rfl | decide | (congr 1; omega)) (by omega) (by omega) _).mono ?_
            rintro e w1 ⟨rfl, rfl⟩
            go_wp2_with fail
            refine (away_calls' _ _ z (by rw [Z.out]; first | done | rfl | decide | (congr 1; omega)) (by omega) (by omega) _).mono ?_
            rintro e w1 ⟨rfl, rfl⟩
            by_cases h3 : y ≤ z
            · have t3 : decide (y ≤ z) = true := decide_eq_true h3
              have E : Aside0 (r = b) := ⟨by rw [HG.out, if_neg (by omega), if_pos (by omega)]⟩
              go_wp2
              go_ret
              exact ⟨by rw [E.out]; rfl, rfl⟩
            · have t3 : decide (y ≤ z) = false := decide_eq_false h3
              have E : Aside0 (r = 0) := ⟨by rw [HG.out, if_neg (by omega), if_neg (by omega)]⟩
              go_wp2
              go_ret
              exact ⟨by rw [E.out]; rfl, rfl⟩
        · have t1 : decide (x ≤ y) = false := decide_eq_false h1
          go_wp2_with fail
          refine (away_calls' _ _ y (by rw [Y.out]; first | done | rfl | decide | (congr 1; omega)) (by omega) (by omega) _).mono ?_
          rintro e w1 ⟨rfl, rfl⟩
          go_wp2_with fail
          refine (away_calls' _ _ z (by rw [Z.out]; first | done | rfl | decide | (congr 1; omega)) (by omega) (by omega) _).mono ?_
          rintro e w1 ⟨rfl, rfl⟩
          by_cases h3 : y ≤ z
          · have t3 : decide (y ≤ z) = true := decide_eq_true h3
            have E : Aside0 (r = b) := ⟨by rw [HG.out, if_neg (by omega), if_pos (by omega)]⟩
            go_wp2
            go_ret
            exact ⟨by rw [E.out]; rfl, rfl⟩
          · have t3 : decide (y ≤ z) = false := decide_eq_false h3
            have E : Aside0 (r = 0) := ⟨by rw [HG.out, if_neg (by omega), if_neg (by omega)]⟩
            go_wp2
            go_ret
            exact ⟨by rw [E.out]; rfl, rfl⟩
    · have t1 : decide ((0 : Int) < la.length) = false := decide_eq_false (by omega)
      obtain rfl : b = 0 := by rw [eb]; unfold atV; rw [if_neg (by omega)]; simp [rd, List.getD, List.getElem?_eq_none (show la.length ≤ i.toNat by omega)]
      clear ea eb ec hla
      obtain rfl | rfl | rfl | rfl | rfl : k = 0 ∨ k = 1 ∨ k = 2 ∨ k = 3 ∨ k = 4 := by omega
      · have E : Aside0 (r = 0) := ⟨by rw [hg]; unfold gs; simp⟩
        clear hg
        go_enter Try.func37, Try.ntmps37
        go_wp2
        go_ret
        exact ⟨by rw [E.out]; first | rfl | simp, rfl⟩
      · have E : Aside0 (r = 0) := ⟨by rw [hg]; unfold gs; simp⟩
        clear hg
        go_enter Try.func37, Try.ntmps37
        go_wp2
        go_ret
        exact ⟨by rw [E.out]; first | rfl | simp, rfl⟩
      · have E : Aside0 (r = 0) := ⟨by rw [hg]; unfold gs; simp⟩
        clear hg
        go_enter Try.func37, Try.ntmps37
        go_wp2
        go_ret
        exact ⟨by rw [E.out]; first | rfl | simp, rfl⟩
      · have E : Aside0 (r = (0 + 0) / 2) := ⟨by rw [hg]; unfold gs; simp⟩
        clear hg
        go_enter Try.func37, Try.ntmps37
        go_wp2
        go_ret
        exact ⟨by rw [E.out]; first | rfl | simp, rfl⟩
      · obtain ⟨x, hx⟩ : ∃ x, x = iabs (0 + 0 - 0 - 0) := ⟨_, rfl⟩
        obtain ⟨y, hy⟩ : ∃ x, x = iabs (0 + 0 - 0 - 0) := ⟨_, rfl⟩
        obtain ⟨z, hz⟩ : ∃ x, x = iabs (0 + 0 - 0 - 0) := ⟨_, rfl⟩
        have HG : Aside0 (r = if x ≤ y ∧ x ≤ z then 0 else if y ≤ z then 0 else 0) := ⟨by rw [hg]; exact gs4 hx hy hz⟩
        have X := Aside0.mk hx
        have Y := Aside0.mk hy
        have Z := Aside0.mk hz
        clear hx hy hz hg
        go_enter Try.func37, Try.ntmps37
        go_wp2_with fail
        refine (away_calls' _ _ x (by rw [X.out]; first | done | rfl | decide | (congr 1; omega)) (by omega) (by omega) _).mono ?_
        rintro e w1 ⟨rfl, rfl⟩
        go_wp2_with fail
        refine (away_calls' _ _ y (by rw [Y.out]; first | done | rfl | decide | (congr 1; omega)) (by omega) (by omega) _).mono ?_
        rintro e w1 ⟨rfl, rfl⟩
        by_cases h1 : x ≤ y
        · have t1 : decide (x ≤ y) = true := decide_eq_true h1
          go_wp2_with fail
          refine (away_calls' _ _ x (by rw [X.out]; first | done | rfl | decide | (congr 1; omega)) (by omega) (by omega) _).mono ?_
          rintro e w1 ⟨rfl, rfl⟩
          go_wp2_with fail
          refine (away_calls' _ _ z (by rw [Z.out]; first | done | rfl | decide | (congr 1; omega)) (by omega) (by omega) _).mono ?_
          rintro e w1 ⟨rfl, rfl⟩
          by_cases h2 : x ≤ z
          · have t2 : decide (x ≤ z) = true := decide_eq_true h2
            have E : Aside0 (r = 0) := ⟨by rw [HG.out, if_pos (by omega)]⟩
            go_wp2
            go_ret
            exact ⟨by rw [E.out]; rfl, rfl⟩
          · have t2 : decide (x ≤ z) = false := decide_eq_false h2
            go_wp2_with fail
            refine (away_calls' _ _ y (by rw [Y.out]; first | done | rfl | decide | (congr 1; omega)) (by omega) (by omega) _).mono ?_
            rintro e w1 ⟨rfl, rfl⟩
            go_wp2_with fail
            refine (away_calls' _ _ z (by rw [Z.out]; first | done | rfl | decide | (congr 1; omega)) (by omega) (by omega) _).mono ?_
            rintro e w1 ⟨rfl, rfl⟩
            by_cases h3 : y ≤ z
            · have t3 : decide (y ≤ z) = true := decide_eq_true h3
              have E : Aside0 (r = 0) := ⟨by rw [HG.out, if_neg (by omega), if_pos (by omega)]⟩
              go_wp2
              go_ret
              exact ⟨by rw [E.out]; rfl, rfl⟩
            · have t3 : decide (y ≤ z) = false := decide_eq_false h3
              have E : Aside0 (r = 0) := ⟨by rw [HG.out, if_neg (by omega), if_neg (by omega)]⟩
              go_wp2
              go_ret
              exact ⟨by rw [E.out]; rfl, rfl⟩
        · have t1 : decide (x ≤ y) = false := decide_eq_false h1
          go_wp2_with fail
          refine (away_calls' _ _ y (by rw [Y.out]; first | done | rfl | decide | (congr 1; omega)) (by omega) (by omega) _).mono ?_
          rintro e w1 ⟨rfl, rfl⟩
          go_wp2_with fail
          refine (away_calls' _ _ z (by rw [Z.out]; first | done | rfl | decide | (congr 1; omega)) (by omega) (by omega) _).mono ?_
          rintro e w1 ⟨rfl, rfl⟩
          by_cases h3 : y ≤ z
          · have t3 : decide (y ≤ z) = true := decide_eq_true h3
            have E : Aside0 (r = 0) := ⟨by rw [HG.out, if_neg (by omega), if_pos (by omega)]⟩
            go_wp2
            go_ret
            exact ⟨by rw [E.out]; rfl, rfl⟩
          · have t3 : decide (y ≤ z) = false := decide_eq_false h3
            have E : Aside0 (r = 0) := ⟨by rw [HG.out, if_neg (by omega), if_neg (by omega)]⟩
            go_wp2
            go_ret
            exact ⟨by rw [E.out]; rfl, rfl⟩
end Go.Proofs.Ytkhpcclddkddmaa.Wk
