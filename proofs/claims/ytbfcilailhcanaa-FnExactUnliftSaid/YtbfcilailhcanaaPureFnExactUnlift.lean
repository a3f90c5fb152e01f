/- Proved: the program's Unlift tells what the reference's tells, for every three numbers of 64 bits (Go's int). -/
import Derived.Test.YtbfcilailhcanaaPFnExactUnliftx1
import Derived.Test.YtbfcilailhcanaaMy
namespace Go.Proofs.Ytbfcilailhcanaa.Pure
open Go.RowKit Go.Proofs.Ytbfcilailhcanaa.PFnExactUnlift Go.Proofs.YtbfcilailhcanaaW.PrintWords Go.Proofs.YtbfcilailhcanaaW.PrintLast Go.Proofs.YtbfcilailhcanaaW.PrintMore Go.Proofs.Ytbfcilailhcanaa.My
set_option linter.unusedVariables false
set_option linter.unusedSimpArgs false
attribute [local congr] bind_left ite_left

theorem toTriple_eq (a b c : Int) : laws_toTriple.f a b c = some (a, b, c) := rfl
/-- Each of three numbers lies between -m and m. -/
def Near (m a b c : Int) : Prop := (-m ≤ a ∧ a ≤ m) ∧ (-m ≤ b ∧ b ≤ m) ∧ -m ≤ c ∧ c ≤ m
instance (m a b c : Int) : Decidable (Near m a b c) := by unfold Near; infer_instance
theorem far_eq {m a b c : Int} (h0 : 0 ≤ m) (h1 : m ≤ 9223372036854775807) : spec_l7Far.f a b c m = some (!decide (Near m a b c)) := by
  unfold spec_l7Far.f
  rw [wrap64_id (n := -m) (by omega) (by omega)]
  by_cases h : Near m a b c
  · rw [decide_eq_true h]
    obtain ⟨⟨_, _⟩, ⟨_, _⟩, _, _⟩ := h
    simp (disch := omega) only [if_pos, if_neg, decide_eq_true, decide_eq_false, if_true, Bool.false_eq_true, if_false, wrap64_id, u64_id, Option.bind_some, Bool.not_true]
  · rw [decide_eq_false h]
    unfold Near at h
    by_cases h2 : a < -m
    · simp (disch := omega) only [if_pos, if_neg, decide_eq_true, decide_eq_false, if_true, Bool.false_eq_true, if_false, wrap64_id, u64_id, Option.bind_some, Bool.not_false]
    by_cases h3 : a > m
    · simp (disch := omega) only [if_pos, if_neg, decide_eq_true, decide_eq_false, if_true, Bool.false_eq_true, if_false, wrap64_id, u64_id, Option.bind_some, Bool.not_false]
    by_cases h4 : b < -m
    · simp (disch := omega) only [if_pos, if_neg, decide_eq_true, decide_eq_false, if_true, Bool.false_eq_true, if_false, wrap64_id, u64_id, Option.bind_some, Bool.not_false]
    by_cases h5 : b > m
    · simp (disch := omega) only [if_pos, if_neg, decide_eq_true, decide_eq_false, if_true, Bool.false_eq_true, if_false, wrap64_id, u64_id, Option.bind_some, Bool.not_false]
    by_cases h6 : c < -m
    · simp (disch := omega) only [if_pos, if_neg, decide_eq_true, decide_eq_false, if_true, Bool.false_eq_true, if_false, wrap64_id, u64_id, Option.bind_some, Bool.not_false]
    simp (disch := omega) only [if_pos, if_neg, decide_eq_true, decide_eq_false, if_true, Bool.false_eq_true, if_false, wrap64_id, u64_id, Option.bind_some, Bool.not_false]
theorem max_le {a b c m : Int} : mx (mx a b) c ≤ m ↔ a ≤ m ∧ b ≤ m ∧ c ≤ m := by unfold mx; split <;> split <;> omega
theorem le_min {a b c m : Int} : mn (mn a b) c ≥ m ↔ m ≤ a ∧ m ≤ b ∧ m ≤ c := by unfold mn; split <;> split <;> omega
theorem liftable_eq (a b c : Int) : impl_liftable.f a b c = some (decide (Near 1000000 a b c)) := by
  unfold impl_liftable.f
  by_cases h : mx (mx a b) c ≤ 1000000
  · rw [if_pos h]
    congr 1
    rw [decide_eq_decide, le_min]
    rw [max_le] at h
    unfold Near
    omega
  · rw [if_neg h]
    rw [max_le] at h
    rw [decide_eq_false (by unfold Near; omega)]
theorem unlift_same (a b c : Int) (k : Nat) : ∃ r, spec_Unlift.f a b c = some r ∧ impl_Unlift.f (k + 1) a b c = some r := by
  unfold spec_Unlift.f impl_Unlift.f
  simp only [impl_Unlift.j0]
  rw [far_eq (by omega) (by omega), far_eq (by omega) (by omega), liftable_eq]
  by_cases h : Near 4000000 a b c
  · have h1 : ¬ mx (mx a b) c > 4000000 := by
      have := max_le (a := a) (b := b) (c := c) (m := 4000000)
      unfold Near at h
      omega
    have h2 : ¬ mn (mn a b) c < -4000000 := by
      have := le_min (a := a) (b := b) (c := c) (m := -4000000)
      unfold Near at h
      omega
    rw [if_neg h1, decide_eq_false h2, decide_eq_true h]
    rcases decide (Near 1000000 (wrap64 (c + wrap64 (a - wrap64 (b + c) / 4))) (wrap64 (a - wrap64 (b + c) / 4)) (wrap64 (b + wrap64 (a - wrap64 (b + c) / 4)))) with _ | _
    · exact ⟨(0, 0, 0), rfl, rfl⟩
    · exact ⟨_, rfl, rfl⟩
  · rw [decide_eq_false h]
    refine ⟨(0, 0, 0), rfl, ?_⟩
    by_cases h1 : mx (mx a b) c > 4000000
    · rw [if_pos h1, if_pos trivial]
    · rw [if_neg h1, if_pos]
      refine decide_eq_true ?_
      have e1 := max_le (a := a) (b := b) (c := c) (m := 4000000)
      have e2 := le_min (a := a) (b := b) (c := c) (m := -4000000)
      unfold Near at h
      omega
theorem FnExactUnlift (a b c : Int) (_ : (Lit.int .i64 a).wf = true) (_ : (Lit.int .i64 b).wf = true) (_ : (Lit.int .i64 c).wf = true) : laws_FnExactUnlift.f 1 a b c = some true := by
  obtain ⟨⟨x, y, z⟩, e1, e2⟩ := unlift_same a b c 0
  unfold laws_FnExactUnlift.f
  simp (disch := omega) only [if_pos, if_neg, decide_eq_true, decide_eq_false, if_true, Bool.false_eq_true, if_false, wrap64_id, u64_id, Option.bind_some, toTriple_eq, e1, e2, laws_eqTriple.f]

end Go.Proofs.Ytbfcilailhcanaa.Pure
