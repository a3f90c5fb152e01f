/- Walks of this seat's own: what the two guesses come to. -/
import Derived.Test.YtkhpcclddkddmaaWkFilt
namespace Go.Proofs.Ytkhpcclddkddmaa.Wk
open Go.RowKit Go.Proofs.YtkhpcclddkddmaaW.PrintWords Go.Proofs.YtkhpcclddkddmaaW.PrintLast Go.Proofs.YtkhpcclddkddmaaW.PrintMore Go.Proofs.Ytkhpcclddkddmaa.My
set_option linter.unusedVariables false
set_option linter.unusedSimpArgs false
theorem gs4 {a b c x y z : Int} (hx : x = iabs (a + b - c - a)) (hy : y = iabs (a + b - c - b)) (hz : z = iabs (a + b - c - c)) : gs 4 a b c = if x ≤ y ∧ x ≤ z then a else if y ≤ z then b else c := by
  unfold gs
  rw [if_neg (by omega), if_neg (by omega), if_neg (by omega), if_pos rfl, ← hx, ← hy, ← hz]
set_option maxHeartbeats 40000000 in
theorem guess_spec (k a b c : Int) (k0 : 0 ≤ k) (k1 : k ≤ 4) (ha : 0 ≤ a ∧ a ≤ 255) (hb : 0 ≤ b ∧ b ≤ 255) (hc : 0 ≤ c ∧ c ≤ 255) (w : World) :
    Calls Try.prog 34 #[.int .i64 k, .int .i64 a, .int .i64 b, .int .i64 c] w fun e w' => e = .returned (.int .i64 (gs k a b c)) ∧ w' = w := by
  obtain rfl | rfl | rfl | rfl | rfl : k = 0 ∨ k = 1 ∨ k = 2 ∨ k = 3 ∨ k = 4 := by omega
  · go_enter Try.func34, Try.ntmps34
    go_wp2
    go_ret
    exact ⟨rfl, rfl⟩
  · go_enter Try.func34, Try.ntmps34
    go_wp2
    go_ret
    exact ⟨rfl, rfl⟩
  · go_enter Try.func34, Try.ntmps34
    go_wp2
    go_ret
    exact ⟨rfl, rfl⟩
  · go_enter Try.func34, Try.ntmps34
    go_wp2
    go_ret
    exact ⟨rfl, rfl⟩
  · obtain ⟨x, hx⟩ : ∃ x, x = iabs (a + b - c - a) := ⟨_, rfl⟩
    obtain ⟨y, hy⟩ : ∃ x, x = iabs (a + b - c - b) := ⟨_, rfl⟩
    obtain ⟨z, hz⟩ : ∃ x, x = iabs (a + b - c - c) := ⟨_, rfl⟩
    obtain ⟨r, hr⟩ : ∃ r, r = gs 4 a b c := ⟨_, rfl⟩
    have HG : Aside0 (r = if x ≤ y ∧ x ≤ z then a else if y ≤ z then b else c) := ⟨by rw [hr]; exact gs4 hx hy hz⟩
    have X := Aside0.mk hx
    have Y := Aside0.mk hy
    have Z := Aside0.mk hz
    rw [← hr]
    clear hx hy hz hr
    go_enter Try.func34, Try.ntmps34
    go_wp2_with fail
    refine (abs_calls _ (by omega) _).mono ?_
    rintro e w1 ⟨rfl, rfl⟩
    rw [← X.out]
    go_wp2_with fail
    refine (abs_calls _ (by omega) _).mono ?_
    rintro e w1 ⟨rfl, rfl⟩
    rw [← Y.out]
    go_wp2_with fail
    refine (abs_calls _ (by omega) _).mono ?_
    rintro e w1 ⟨rfl, rfl⟩
    rw [← Z.out]
    by_cases h1 : x ≤ y
    · have t1 : decide (x ≤ y) = true := decide_eq_true h1
      by_cases h2 : x ≤ z
      · have t2 : decide (x ≤ z) = true := decide_eq_true h2
        have E : Aside0 (r = a) := ⟨by rw [HG.out, if_pos ⟨h1, h2⟩]⟩
        go_wp2
        go_ret
        exact ⟨by rw [E.out]; rfl, rfl⟩
      · have t2 : decide (x ≤ z) = false := decide_eq_false h2
        by_cases h3 : y ≤ z
        · have t3 : decide (y ≤ z) = true := decide_eq_true h3
          have E : Aside0 (r = b) := ⟨by rw [HG.out, if_neg (fun h => h2 h.2), if_pos h3]⟩
          go_wp2
          go_ret
          exact ⟨by rw [E.out]; rfl, rfl⟩
        · have t3 : decide (y ≤ z) = false := decide_eq_false h3
          have E : Aside0 (r = c) := ⟨by rw [HG.out, if_neg (fun h => h2 h.2), if_neg h3]⟩
          go_wp2
          go_ret
          exact ⟨by rw [E.out]; rfl, rfl⟩
    · have t1 : decide (x ≤ y) = false := decide_eq_false h1
      by_cases h3 : y ≤ z
      · have t3 : decide (y ≤ z) = true := decide_eq_true h3
        have E : Aside0 (r = b) := ⟨by rw [HG.out, if_neg (fun h => h1 h.1), if_pos h3]⟩
        go_wp2
        go_ret
        exact ⟨by rw [E.out]; rfl, rfl⟩
      · have t3 : decide (y ≤ z) = false := decide_eq_false h3
        have E : Aside0 (r = c) := ⟨by rw [HG.out, if_neg (fun h => h1 h.1), if_neg h3]⟩
        go_wp2
        go_ret
        exact ⟨by rw [E.out]; rfl, rfl⟩
end Go.Proofs.Ytkhpcclddkddmaa.Wk
