/- Proved: the program's Fold tells what the reference's tells, for every number of 64 bits with a sign. -/
import Derived.Test.YtjjaahdfjjomiaaPFnExactFoldx1
import Derived.Test.YtjjaahdfjjomiaaMy
namespace Go.Proofs.Ytjjaahdfjjomiaa.Pure
open Go.RowKit Go.Proofs.Ytjjaahdfjjomiaa.PFnExactFold Go.Proofs.YtjjaahdfjjomiaaW.PrintWords Go.Proofs.YtjjaahdfjjomiaaW.PrintLast Go.Proofs.YtjjaahdfjjomiaaW.PrintMore Go.Proofs.Ytjjaahdfjjomiaa.My

theorem FnExactFold : laws_FnExactFold.Pure := by
  intro a ha
  have hb := bounds_i64 ha
  have e : impl_Fold.f a = spec_Fold.f a := by
    unfold impl_Fold.f spec_Fold.f
    by_cases h : a < 0
    · have e1 : IntKind.u64.wrap (a / 9223372036854775808) = 18446744073709551615 := by rw [u64_wrap]; omega
      rw [if_pos h, e1, xor_u64_ones (by rw [u64_wrap]; omega) (by rw [u64_wrap]; omega), wrap64_id (n := a + 1) (by omega) (by omega), wrap64_id (by omega) (by omega)]
      simp only [u64_wrap]
      congr 1
      omega
    · have e1 : IntKind.u64.wrap (a / 9223372036854775808) = 0 := by rw [u64_wrap]; omega
      rw [if_neg h, e1, xor_u64_zero (by rw [u64_wrap]; omega) (by rw [u64_wrap]; omega)]
      simp only [u64_wrap]
      congr 1
      omega
  obtain ⟨r, hr⟩ : ∃ r, spec_Fold.f a = some r := by unfold spec_Fold.f; split <;> exact ⟨_, rfl⟩
  unfold laws_FnExactFold.f
  rw [e, hr]
  simp

end Go.Proofs.Ytjjaahdfjjomiaa.Pure
