/- Plain facts of this seat's own: colours there and back. -/
import Derived.Test.YtbfcilailhcanaaWkBright
import Derived.Test.YtbfcilailhcanaaPFnExactUnliftx
namespace Go.Proofs.Ytbfcilailhcanaa.Wk
open Go.RowKit Go.Proofs.YtbfcilailhcanaaW.PrintWords Go.Proofs.YtbfcilailhcanaaW.PrintLast Go.Proofs.YtbfcilailhcanaaW.PrintMore Go.Proofs.Ytbfcilailhcanaa.My
set_option linter.unusedVariables false
set_option linter.unusedSimpArgs false
attribute [local congr] bind_left ite_left
theorem mxs {a b : Int} : (a ≤ b → mx a b = b) ∧ (b ≤ a → mx a b = a) := by unfold mx; constructor <;> intro h <;> split <;> omega
theorem mx3_le {a b c m : Int} (ha : a ≤ m) (hb : b ≤ m) (hc : c ≤ m) : mx (mx a b) c ≤ m := by unfold mx; repeat (first | split | omega)
theorem mn3_le {a b c m : Int} (ha : m ≤ a) (hb : m ≤ b) (hc : m ≤ c) : m ≤ mn (mn a b) c := by unfold mn; repeat (first | split | omega)
section
open Go.Proofs.Ytbfcilailhcanaa.PFnExactLift
theorem lift_spec_val {a b c : Int} (ha : -1000 ≤ a ∧ a ≤ 1000) (hb : -1000 ≤ b ∧ b ≤ 1000) (hc : -1000 ≤ c ∧ c ≤ 1000) : spec_Lift.f a b c = some ((a + 2 * b + c) / 4, c - b, a - b) := by
  unfold spec_Lift.f spec_l7Far.f
  simp (disch := omega) only [if_pos, if_neg, decide_eq_true, decide_eq_false, if_true, Bool.false_eq_true, if_false, wrap64_id, u64_id, Option.bind_some]
theorem lift_impl_val {a b c : Int} (ha : -1000 ≤ a ∧ a ≤ 1000) (hb : -1000 ≤ b ∧ b ≤ 1000) (hc : -1000 ≤ c ∧ c ≤ 1000) : impl_Lift.f a b c = some ((a + 2 * b + c) / 4, c - b, a - b) := by
  unfold impl_Lift.f impl_liftable.f
  rw [if_pos (mx3_le (by omega) (by omega) (by omega)), decide_eq_true (mn3_le (by omega) (by omega) (by omega))]
  simp (disch := omega) only [if_pos, if_neg, decide_eq_true, decide_eq_false, if_true, Bool.false_eq_true, if_false, wrap64_id, u64_id, Option.bind_some]
end
section
open Go.Proofs.Ytbfcilailhcanaa.PFnExactUnlift
theorem unlift_impl_val {a b c : Int} (ha : -1000 ≤ a ∧ a ≤ 1000) (hb : -1000 ≤ b ∧ b ≤ 1000) (hc : -1000 ≤ c ∧ c ≤ 1000) : impl_Unlift.f 1 ((a + 2 * b + c) / 4) (c - b) (a - b) = some (a, b, c) := by
  unfold impl_Unlift.f
  rw [if_neg (by have := mx3_le (a := (a + 2 * b + c) / 4) (b := c - b) (c := a - b) (m := 4000000) (by omega) (by omega) (by omega); omega), decide_eq_false (by have := mn3_le (a := (a + 2 * b + c) / 4) (b := c - b) (c := a - b) (m := -4000000) (by omega) (by omega) (by omega); omega)]
  unfold impl_Unlift.j0
  unfold impl_liftable.f
  simp only [Bool.false_eq_true, if_false]
  have e1 : wrap64 ((a + 2 * b + c) / 4 - wrap64 (c - b + (a - b)) / 4) = b := by
    rw [wrap64_id (n := c - b + (a - b)) (by omega) (by omega)]
    rw [wrap64_id (by omega) (by omega)]
    omega
  rw [e1]
  rw [wrap64_id (n := a - b + b) (by omega) (by omega), wrap64_id (n := c - b + b) (by omega) (by omega)]
  rw [show a - b + b = a by omega, show c - b + b = c by omega]
  rw [if_pos (mx3_le (by omega) (by omega) (by omega)), decide_eq_true (mn3_le (by omega) (by omega) (by omega))]
  rfl
end
theorem clip_id {a : Int} (h0 : 0 ≤ a) (h1 : a ≤ 255) : clipI a = a := by unfold clipI; rw [if_neg (by omega), if_neg (by omega)]
theorem clip_near {a x : Int} (h0 : 0 ≤ a) (h1 : a ≤ 255) (hx : -2 ≤ a - x ∧ a - x ≤ 2) : -2 ≤ a - clipI x ∧ a - clipI x ≤ 2 := by
  unfold clipI
  split
  · omega
  · split <;> omega
/-- Back again: at most 2 away. -/
theorem back_near (r g b y u v : Int) (hr : 0 ≤ r ∧ r ≤ 255) (hg : 0 ≤ g ∧ g ≤ 255) (hb : 0 ≤ b ∧ b ≤ 255) (hy : y = br1 r g b) (hu : u = br2 r g b) (hv : v = br3 r g b) :
    (-2 ≤ r - ub1 y u v ∧ r - ub1 y u v ≤ 2) ∧ (-2 ≤ g - ub2 y u v ∧ g - ub2 y u v ≤ 2) ∧ -2 ≤ b - ub3 y u v ∧ b - ub3 y u v ≤ 2 := by
  have ey : y = (77 * r + 150 * g + 29 * b + 128) / 256 := by rw [hy]; unfold br1; exact clip_id (by omega) (by omega)
  have eu : u = (-43 * r - 85 * g + 128 * b + 128) / 256 + 128 ∨ (u = 255 ∧ b = 255 ∧ r = 0 ∧ g = 0) := by
    rw [hu]; unfold br2
    by_cases h : (-43 * r - 85 * g + 128 * b + 128) / 256 + 128 ≤ 255
    · exact .inl (clip_id (by omega) h)
    · refine .inr ⟨by unfold clipI; rw [if_neg (by omega), if_pos (by omega)], by omega, by omega, by omega⟩
  have ev : v = (128 * r - 107 * g - 21 * b + 128) / 256 + 128 ∨ (v = 255 ∧ r = 255 ∧ g = 0 ∧ b = 0) := by
    rw [hv]; unfold br3
    by_cases h : (128 * r - 107 * g - 21 * b + 128) / 256 + 128 ≤ 255
    · exact .inl (clip_id (by omega) h)
    · refine .inr ⟨by unfold clipI; rw [if_neg (by omega), if_pos (by omega)], by omega, by omega, by omega⟩
  clear hy hu hv
  refine ⟨clip_near hr.1 hr.2 ?_, clip_near hg.1 hg.2 ?_, clip_near hb.1 hb.2 ?_⟩
  · clear eu
    rcases ev with ev | ⟨rfl, rfl, rfl, rfl⟩ <;> omega
  · rcases eu with eu | ⟨rfl, rfl, rfl, rfl⟩
    · rcases ev with ev | ⟨rfl, rfl, rfl, rfl⟩
      · omega
      · omega
    · rcases ev with ev | ⟨rfl, h1, h2, h3⟩
      · omega
      · omega
  · clear ev
    rcases eu with eu | ⟨rfl, rfl, rfl, rfl⟩ <;> omega
theorem grey {g : Int} (h0 : 0 ≤ g) (h1 : g ≤ 255) : br1 g g g = g ∧ br2 g g g = 128 ∧ br3 g g g = 128 := by
  refine ⟨?_, ?_, ?_⟩
  · unfold br1; rw [show (77 * g + 150 * g + 29 * g + 128) / 256 = g by omega]; exact clip_id h0 h1
  · unfold br2; rw [show (-43 * g - 85 * g + 128 * g + 128) / 256 + 128 = 128 by omega]; rfl
  · unfold br3; rw [show (128 * g - 107 * g - 21 * g + 128) / 256 + 128 = 128 by omega]; rfl
end Go.Proofs.Ytbfcilailhcanaa.Wk
