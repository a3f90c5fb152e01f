/- Proved: the program's Unfold tells what the reference's tells, for every number of 64 bits without a sign. -/
import Derived.Test.YtjjaahdfjjomiaaPFnExactUnfoldx1
import Derived.Test.YtjjaahdfjjomiaaMy
namespace Go.Proofs.Ytjjaahdfjjomiaa.Pure
open Go.RowKit Go.Proofs.Ytjjaahdfjjomiaa.PFnExactUnfold Go.Proofs.YtjjaahdfjjomiaaW.PrintWords Go.Proofs.YtjjaahdfjjomiaaW.PrintLast Go.Proofs.YtjjaahdfjjomiaaW.PrintMore Go.Proofs.Ytjjaahdfjjomiaa.My

theorem FnExactUnfold : laws_FnExactUnfold.Pure := by
  intro a ha
  have hb := bounds_u64 ha
  have e : impl_Unfold.f a = spec_Unfold.f a := by
    unfold impl_Unfold.f spec_Unfold.f
    rw [Int.tmod_eq_emod_of_nonneg (by omega), Int.tdiv_eq_ediv_of_nonneg (by omega), and_u64_one, wrap64_id (n := a / 2) (by omega) (by omega), wrap64_id (n := a % 2) (by omega) (by omega), wrap64_id (n := -(a % 2)) (by omega) (by omega), u64_id (n := a / 2) (by omega) (by omega), wrap64_id (n := a / 2) (by omega) (by omega)]
    by_cases h : a % 2 = 1
    · rw [if_pos h, h, xor_i64_ones (by omega) (by omega), wrap64_id (n := -(a / 2)) (by omega) (by omega), wrap64_id (by omega) (by omega)]
      congr 1
      omega
    · rw [if_neg h, show a % 2 = 0 by omega, Int.neg_zero, xor_i64_zero (by omega) (by omega)]
  obtain ⟨r, hr⟩ : ∃ r, spec_Unfold.f a = some r := by unfold spec_Unfold.f; split <;> exact ⟨_, rfl⟩
  unfold laws_FnExactUnfold.f
  rw [e, hr]
  simp

end Go.Proofs.Ytjjaahdfjjomiaa.Pure
