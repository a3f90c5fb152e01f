/- Proved: the program's Grade tells what the reference's tells, for every two numbers. -/
import Derived.Test.YtbfcilailhcanaaPFnExactGradex1
import Derived.Test.YtbfcilailhcanaaMy
namespace Go.Proofs.Ytbfcilailhcanaa.Pure
open Go.RowKit Go.Proofs.Ytbfcilailhcanaa.PFnExactGrade Go.Proofs.YtbfcilailhcanaaW.PrintWords Go.Proofs.YtbfcilailhcanaaW.PrintLast Go.Proofs.YtbfcilailhcanaaW.PrintMore Go.Proofs.Ytbfcilailhcanaa.My
set_option linter.unusedVariables false
set_option linter.unusedSimpArgs false
attribute [local congr] bind_left ite_left

theorem grade_l0 (q : Int) (hq0 : 0 ≤ q) (hq : q ≤ 15) (d : Nat) : ∀ (k : Nat) (x n : Int), 0 ≤ x → x < 2 ^ d → 0 ≤ n → n + d ≤ 64 → d < k →
    ∃ b, 0 ≤ b ∧ b ≤ 64 ∧ impl_zbitlen.l0 k x n = some b ∧ spec_Grade.l0 k x q n = some (mn (mx ((b + 1) / 2 - q) 0) 12) := by
  induction d with
  | zero =>
    intro k x n h0 h1 hn hd hk
    obtain ⟨k, rfl⟩ : ∃ m, k = m + 1 := ⟨k - 1, by omega⟩
    have hx : x = 0 := by have : (2 : Int) ^ 0 = 1 := rfl
                          omega
    subst hx
    refine ⟨n, hn, by omega, by simp [impl_zbitlen.l0], ?_⟩
    simp only [spec_Grade.l0]
    rw [if_neg (by decide), wrap64_id (n := n + 1) (by omega) (by omega), Int.tdiv_eq_ediv_of_nonneg (by omega), wrap64_id (n := (n + 1) / 2) (by omega) (by omega), wrap64_id (n := (n + 1) / 2 - q) (by omega) (by omega)]
    by_cases h2 : (n + 1) / 2 - q < 0
    · unfold mn mx
      simp (disch := omega) only [if_pos, if_neg, decide_eq_true, decide_eq_false, if_true, Bool.false_eq_true, if_false, wrap64_id, u64_id, Option.bind_some]
    · by_cases h3 : (n + 1) / 2 - q > 12
      · unfold mn mx
        simp (disch := omega) only [if_pos, if_neg, decide_eq_true, decide_eq_false, if_true, Bool.false_eq_true, if_false, wrap64_id, u64_id, Option.bind_some]
      · unfold mn mx
        simp (disch := omega) only [if_pos, if_neg, decide_eq_true, decide_eq_false, if_true, Bool.false_eq_true, if_false, wrap64_id, u64_id, Option.bind_some]
  | succ d ih =>
    intro k x n h0 h1 hn hd hk
    obtain ⟨k, rfl⟩ : ∃ m, k = m + 1 := ⟨k - 1, by omega⟩
    have hp : (2 : Int) ^ (d + 1) = 2 ^ d * 2 := Int.pow_succ 2 d
    by_cases hx : x > 0
    · obtain ⟨b, hb0, hb1, e1, e2⟩ := ih k (x / 2) (n + 1) (by omega) (by omega) (by omega) (by omega) (by omega)
      have hle : (2 : Int) ^ (d + 1) ≤ 9223372036854775808 ∨ d = 63 := by
        by_cases h : d = 63
        · exact .inr h
        · exact .inl (pow_le (d + 1) (by omega))
      refine ⟨b, hb0, hb1, ?_, ?_⟩
      · simp only [impl_zbitlen.l0]
        rw [if_pos hx, wrap64_id (n := n + 1) (by omega) (by omega)]
        exact e1
      · simp only [spec_Grade.l0]
        rw [if_pos hx, wrap64_id (n := n + 1) (by omega) (by omega), Int.tdiv_eq_ediv_of_nonneg h0]
        rcases hle with hle | hle
        · rw [wrap64_id (n := x / 2) (by omega) (by omega)]
          exact e2
        · subst hle
          have h64 : (2 : Int) ^ (63 + 1) = 18446744073709551616 := rfl
          rw [wrap64_id (n := x / 2) (by omega) (by omega)]
          exact e2
    · have hx0 : x = 0 := by omega
      subst hx0
      obtain ⟨b, hb0, hb1, e1, e2⟩ := ih (k + 1) 0 n (by omega) (pow_pos d) hn (by omega) (by omega)
      exact ⟨b, hb0, hb1, e1, e2⟩
theorem FnExactGrade : laws_FnExactGrade.Pure := by
  intro a q ha hq
  have ha := bounds_i64 ha
  have hq := bounds_i64 hq
  refine ⟨100, ?_⟩
  unfold laws_FnExactGrade.f spec_Grade.f impl_Grade.f
  simp only [spec_Grade.j0]
  by_cases h1 : a < 0
  · simp (disch := omega) only [if_pos, if_neg, decide_eq_true, decide_eq_false, if_true, Bool.false_eq_true, if_false, wrap64_id, u64_id, Option.bind_some]
  by_cases h2 : q < 0
  · simp (disch := omega) only [if_pos, if_neg, decide_eq_true, decide_eq_false, if_true, Bool.false_eq_true, if_false, wrap64_id, u64_id, Option.bind_some]
  by_cases h3 : q > 15
  · simp (disch := omega) only [if_pos, if_neg, decide_eq_true, decide_eq_false, if_true, Bool.false_eq_true, if_false, wrap64_id, u64_id, Option.bind_some]
  have h63 : (2 : Int) ^ 63 = 9223372036854775808 := rfl
  obtain ⟨b, hb0, hb1, e1, e2⟩ := grade_l0 q (by omega) (by omega) 63 99 a 0 (by omega) (by omega) (by omega) (by omega) (by omega)
  obtain ⟨b', hb0', hb1', e1', e2'⟩ := grade_l0 q (by omega) (by omega) 63 100 a 0 (by omega) (by omega) (by omega) (by omega) (by omega)
  have e := impl_zbitlen.mono_l 99 a 0 _ e1
  rw [e1'] at e
  cases e
  simp (disch := omega) only [if_pos, if_neg, decide_eq_true, decide_eq_false, if_true, Bool.false_eq_true, if_false, wrap64_id, u64_id, Option.bind_some, impl_zbitlen.f, e1', e2, Int.tdiv_eq_ediv_of_nonneg]

end Go.Proofs.Ytbfcilailhcanaa.Pure
