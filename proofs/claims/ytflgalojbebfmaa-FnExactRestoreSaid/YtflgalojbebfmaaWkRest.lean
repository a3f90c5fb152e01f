/- Walks of this seat's own: what the two Restore come to. -/
import Derived.Test.YtflgalojbebfmaaWkH
import Derived.Test.YtflgalojbebfmaaPFnExactResiduex2
import Derived.Test.YtflgalojbebfmaaPFnExactResiduex3
import Derived.Deep.DeepCutAuto
namespace Go.Proofs.Ytflgalojbebfmaa.Wk
open Go.RowKit Go.Proofs.YtflgalojbebfmaaW.PrintWords Go.Proofs.YtflgalojbebfmaaW.PrintLast Go.Proofs.YtflgalojbebfmaaW.PrintMore Go.Proofs.Ytflgalojbebfmaa.My
open Go.Proofs.Ytflgalojbebfmaa.PFnExactResidue
set_option linter.unusedVariables false
set_option linter.unusedSimpArgs false
theorem zrange_eq (k : Nat) (l : List Int) (lo hi most : Int) (hl : l.length ≤ 1048576) (hk : l.length < k) : impl_zrange.f k l lo hi most = some (decide ((l.length : Int) ≤ most) && inB lo hi l) := by
  unfold impl_zrange.f
  by_cases h : (l.length : Int) > most
  · rw [if_pos h, decide_eq_false (by omega), Bool.false_and]
  rw [if_neg h, decide_eq_true (by omega), Bool.true_and, ← Bool.and_true (inB lo hi l)]
  refine range_loop (F := fun k i => impl_zrange.l0 k lo hi l (l.length : Int) i) (c := 0) (fun k i hi => ?_) (fun k => ?_) k (by omega)
  · simp only [impl_zrange.l0, rd_nat]
    rw [wrap64_nat (by omega)]
    simp (disch := omega) only [if_pos, if_neg, decide_eq_true, decide_eq_false, if_true, Bool.false_eq_true, if_false, wrap64_id, u64_id, Option.bind_some]
  · simp only [impl_zrange.l0]
    rw [if_neg (by omega)]
theorem zcopy_eq (l : List Int) (hl : l.length ≤ 1048576) : impl_zcopy.f l = some l := by
  unfold impl_zcopy.f
  rw [Option.bind_some, if_pos (by simp; omega)]
  rfl
theorem guess_eq : spec_l10Guess.f = impl_zguess.f := rfl
theorem guess_some (o : Int) (l : List Int) (i : Int) (h0 : 0 ≤ o) (h4 : o ≤ 4) (hi : o ≤ i) (hl : i < l.length) (hm : l.length ≤ 1048576) : ∃ g, impl_zguess.f o l i = some g := by
  unfold impl_zguess.f
  by_cases h : o = 1
  · exact ⟨_, by simp (disch := omega) only [if_pos, if_neg, decide_eq_true, decide_eq_false, if_true, Bool.false_eq_true, if_false, wrap64_id, u64_id, Option.bind_some]; rfl⟩
  by_cases h : o = 2
  · exact ⟨_, by simp (disch := omega) only [if_pos, if_neg, decide_eq_true, decide_eq_false, if_true, Bool.false_eq_true, if_false, wrap64_id, u64_id, Option.bind_some]; rfl⟩
  by_cases h : o = 3
  · exact ⟨_, by simp (disch := omega) only [if_pos, if_neg, decide_eq_true, decide_eq_false, if_true, Bool.false_eq_true, if_false, wrap64_id, u64_id, Option.bind_some]; rfl⟩
  by_cases h : o = 4
  · exact ⟨_, by simp (disch := omega) only [if_pos, if_neg, decide_eq_true, decide_eq_false, if_true, Bool.false_eq_true, if_false, wrap64_id, u64_id, Option.bind_some]; rfl⟩
  exact ⟨_, by simp (disch := omega) only [if_pos, if_neg, decide_eq_true, decide_eq_false, if_true, Bool.false_eq_true, if_false, wrap64_id, u64_id, Option.bind_some]; rfl⟩
/-- What both add at place i, of what lies ahead of it. -/
def gV (o : Int) (p : List Int) (i : Nat) : Int := (impl_zguess.f o (p ++ [0]) i).getD 0
theorem gV_eq (o : Int) (x p : List Int) (i : Nat) (h0 : 0 ≤ o) (h4 : o ≤ 4) (hi : o ≤ i) (hl : i < x.length) (hm : x.length ≤ 4000) (hp : p.length = i) (hx : ∀ j, j < i → x.getD j 0 = p.getD j 0) : impl_zguess.f o x i = some (gV o p i) := by
  have hq : (p ++ [0]).length = i + 1 := by simp [hp]
  have hg : ∀ d : Int, 1 ≤ d → d ≤ o → rd x ((i : Int) - d) = rd (p ++ [0]) ((i : Int) - d) := fun d d1 d2 => by
    have e : (i : Int) - d = (((i : Int) - d).toNat : Int) := by omega
    rw [e, rd_nat, rd_nat, hx _ (by omega)]
    simp [List.getD, List.getElem?_append_left (show ((i : Int) - d).toNat < p.length by omega)]
  unfold gV
  obtain ⟨g, hs⟩ := guess_some o (p ++ [0]) (i : Int) h0 h4 hi (by omega) (by omega)
  rw [hs, Option.getD_some, ← hs]
  unfold impl_zguess.f
  by_cases h : o = 1
  · simp (disch := omega) only [if_pos, if_neg, decide_eq_true, decide_eq_false, if_true, Bool.false_eq_true, if_false, wrap64_id, u64_id, Option.bind_some, hg 1 (by omega) (by omega)]
  by_cases h : o = 2
  · simp (disch := omega) only [if_pos, if_neg, decide_eq_true, decide_eq_false, if_true, Bool.false_eq_true, if_false, wrap64_id, u64_id, Option.bind_some, hg 1 (by omega) (by omega), hg 2 (by omega) (by omega)]
  by_cases h : o = 3
  · simp (disch := omega) only [if_pos, if_neg, decide_eq_true, decide_eq_false, if_true, Bool.false_eq_true, if_false, wrap64_id, u64_id, Option.bind_some, hg 1 (by omega) (by omega), hg 2 (by omega) (by omega), hg 3 (by omega) (by omega)]
  by_cases h : o = 4
  · simp (disch := omega) only [if_pos, if_neg, decide_eq_true, decide_eq_false, if_true, Bool.false_eq_true, if_false, wrap64_id, u64_id, Option.bind_some, hg 1 (by omega) (by omega), hg 2 (by omega) (by omega), hg 3 (by omega) (by omega), hg 4 (by omega) (by omega)]
  simp (disch := omega) only [if_pos, if_neg, decide_eq_true, decide_eq_false, if_true, Bool.false_eq_true, if_false, wrap64_id, u64_id, Option.bind_some]
def rsL (o : Int) (l : List Int) : Nat → List Int
  | 0 => []
  | i + 1 => rsL o l i ++ [if o ≤ (i : Int) then wrap64 (rd l (i : Int) + gV o (rsL o l i) i) else rd l (i : Int)]
def rsV (o : Int) (l : List Int) (i : Nat) : Int := (rsL o l (i + 1)).getD i 0
theorem rsL_length (o : Int) (l : List Int) (i : Nat) : (rsL o l i).length = i := by
  induction i with
  | zero => rfl
  | succ i ih => simp [rsL, ih]
theorem rsL_get (o : Int) (l : List Int) (m j : Nat) (h : j < m) : (rsL o l m).getD j 0 = rsV o l j := by
  induction m with
  | zero => omega
  | succ m ih =>
    by_cases e : j = m
    · subst e; rfl
    · rw [← ih (by omega)]
      have hl := rsL_length o l m
      simp [rsL, List.getD, List.getElem?_append_left (show j < (rsL o l m).length by omega)]
theorem rsV_eq (o : Int) (l : List Int) (i : Nat) : rsV o l i = if o ≤ (i : Int) then wrap64 (rd l (i : Int) + gV o (rsL o l i) i) else rd l (i : Int) := by
  have hl := rsL_length o l i
  unfold rsV
  simp [rsL, List.getD, List.getElem?_append_right (show (rsL o l i).length ≤ i by omega), hl]
/-- The guess that a loop's list gives. -/
theorem rs_guess {o : Int} {l : List Int} {n i : Nat} {x : List Int} {z : Nat → Int} {v : Int} (h : Part n i x (rsV o l) z) (h0 : 0 ≤ o) (h4 : o ≤ 4) (hi : o ≤ i) (hl : i < n) (hm : n ≤ 4000) : impl_zguess.f o (x.set i v) i = some (gV o (rsL o l i) i) :=
  gV_eq o _ _ i h0 h4 hi (by simpa [h.1] using hl) (by simpa [h.1] using hm) (rsL_length o l i) (fun j hj => by
    rw [show (x.set i v).getD j 0 = x.getD j 0 from by simp [List.getD, List.getElem?_set_ne (show i ≠ j by omega)], h.2.1 j hj, rsL_get o l i j hj])
def restL (o : Int) (l : List Int) : List Int :=
  if 0 ≤ o ∧ o ≤ 4 ∧ l.length ≤ 4000 ∧ inB (-2147483648) 2147483647 l = true ∧ inB (-67108864) 67108863 (tab l.length (rsV o l)) = true then tab l.length (rsV o l) else []
theorem restL_length (o : Int) (l : List Int) : (restL o l).length ≤ 1048576 := by
  unfold restL
  split
  · rw [tab_length]; omega
  · simp
theorem restL_bad {o : Int} {l : List Int} {i : Nat} (hi : i < l.length) (h : rsV o l i < -67108864 ∨ 67108863 < rsV o l i) : restL o l = [] := by
  unfold restL
  rw [if_neg]
  rintro ⟨_, _, _, _, h5⟩
  have := inB_iff.1 h5 i (by rw [tab_length]; exact hi)
  rw [tab_get hi] at this
  omega
end Go.Proofs.Ytflgalojbebfmaa.Wk
