/- Proved: the program's SeekTo tells what the reference's tells, for every list of entries, every track and every time (of more than 1048576 entries the statement says nothing). -/
import Derived.Test.YtbfcilailhcanaaPFnExactSeekTox2
import Derived.Test.YtbfcilailhcanaaMy
namespace Go.Proofs.Ytbfcilailhcanaa.Pure
open Go.RowKit Go.Proofs.Ytbfcilailhcanaa.PFnExactSeekTo Go.Proofs.YtbfcilailhcanaaW.PrintWords Go.Proofs.YtbfcilailhcanaaW.PrintLast Go.Proofs.YtbfcilailhcanaaW.PrintMore Go.Proofs.Ytbfcilailhcanaa.My
set_option linter.unusedVariables false
set_option linter.unusedSimpArgs false
attribute [local congr] bind_left ite_left

theorem rd_nat76 (l : List S76) (i : Nat) : rd_T76 l (i : Int) = l.getD i z76 := by simp [rd_T76]
theorem rd_nat74 (l : List S74) (i : Nat) : rd_T74 l (i : Int) = l.getD i z74 := by simp [rd_T74]
/-- The same entries. -/
def same (l : List S76) : List S74 := l.map fun x => ⟨x.f0, x.f1, x.f2⟩
theorem same_length (l : List S76) : (same l).length = l.length := by simp [same]
theorem same_get (l : List S76) (i : Nat) (h : i < l.length) : (same l)[i]? = some ⟨(l.getD i z76).f0, (l.getD i z76).f1, (l.getD i z76).f2⟩ := by simp [same, List.getD, h]
theorem toEntryS_l0 (x0 : List S76) (hl : x0.length ≤ 1048576) (d : Nat) : ∀ (k : Nat) (x3 : List S74) (i : Nat), x3.length = x0.length → i + d = x0.length → d < k → (∀ j, j < i → x3[j]? = (same x0)[j]?) →
    laws_toEntryS.l0 k x0 x3 (i : Int) = some (same x0) := by
  induction d with
  | zero =>
    intro k x3 i h3 hi hk hj
    obtain ⟨k, rfl⟩ : ∃ m, k = m + 1 := ⟨k - 1, by omega⟩
    simp only [laws_toEntryS.l0]
    rw [if_neg (by omega)]
    congr 1
    refine List.ext_getElem? fun j => ?_
    by_cases h : j < i
    · exact hj j h
    · rw [List.getElem?_eq_none (by omega), List.getElem?_eq_none (by rw [same_length]; omega)]
  | succ d ih =>
    intro k x3 i h3 hi hk hj
    obtain ⟨k, rfl⟩ : ∃ m, k = m + 1 := ⟨k - 1, by omega⟩
    simp only [laws_toEntryS.l0, laws_toEntry.f, Option.bind_some, rd_nat76]
    rw [if_pos (by omega), if_pos (by omega), if_pos (by omega), wrap64_nat (by omega)]
    refine ih k _ (i + 1) (by simpa using h3) (by omega) (by omega) fun j hji => ?_
    rw [Int.toNat_natCast, List.getElem?_set]
    split
    · rename_i h
      subst h
      rw [if_pos (by omega), same_get x0 i (by omega)]
    · exact hj j (by omega)
theorem toEntryS_eq (k : Nat) (l : List S76) (hl : l.length ≤ 1048576) (hk : l.length < k) : laws_toEntryS.f k l = some (same l) := by
  unfold laws_toEntryS.f
  rw [if_pos (by omega), if_pos (by omega)]
  exact toEntryS_l0 l hl l.length k _ 0 (by simp) (by omega) hk (fun j hj => by omega)
theorem eqEntryS_l0 (x : List S74) (hl : x.length ≤ 1048576) (d : Nat) : ∀ (k : Nat) (i : Nat), i + d = x.length → d < k → laws_eqEntryS.l0 k x x (i : Int) = some true := by
  induction d with
  | zero =>
    intro k i hi hk
    obtain ⟨k, rfl⟩ : ∃ m, k = m + 1 := ⟨k - 1, by omega⟩
    simp only [laws_eqEntryS.l0]
    rw [if_neg (by omega)]
  | succ d ih =>
    intro k i hi hk
    obtain ⟨k, rfl⟩ : ∃ m, k = m + 1 := ⟨k - 1, by omega⟩
    simp only [laws_eqEntryS.l0, laws_eqEntry.f, if_true, Option.bind_some]
    rw [if_pos (by omega), if_pos (by omega), if_pos (by omega), wrap64_nat (by omega)]
    exact ih k (i + 1) (by omega) (by omega)
theorem eqEntryS_eq (k : Nat) (l : List S74) (hl : l.length ≤ 1048576) (hk : l.length < k) : laws_eqEntryS.f k l l = some true := by
  unfold laws_eqEntryS.f
  rw [if_pos rfl]
  exact eqEntryS_l0 l hl l.length k 0 (by omega) hk
theorem seek_l0 (l : List S74) (hl : l.length ≤ 1048576) (t m : Int) (d : Nat) : ∀ (k : Nat) (b : Int) (i : Nat), i + d = l.length → d < k → ∃ r, spec_SeekTo.l0 k t m b l (l.length : Int) (i : Int) = some r ∧ impl_SeekTo.l0 k t m b l (l.length : Int) (i : Int) = some r := by
  induction d with
  | zero =>
    intro k b i hi hk
    obtain ⟨k, rfl⟩ : ∃ m, k = m + 1 := ⟨k - 1, by omega⟩
    exact ⟨b, by simp only [spec_SeekTo.l0]; rw [if_neg (by omega)], by simp only [impl_SeekTo.l0]; rw [if_neg (by omega)]⟩
  | succ d ih =>
    intro k b i hi hk
    obtain ⟨k, rfl⟩ : ∃ m, k = m + 1 := ⟨k - 1, by omega⟩
    simp only [spec_SeekTo.l0, impl_SeekTo.l0]
    rw [wrap64_nat (by omega)]
    by_cases h1 : (rd_T74 l (i : Int)).f0 = t
    · by_cases h2 : (rd_T74 l (i : Int)).f1 ≤ m
      · by_cases h3 : (rd_T74 l (i : Int)).f2 > b
        · obtain ⟨r, e1, e2⟩ := ih k (rd_T74 l (i : Int)).f2 (i + 1) (by omega) (by omega)
          have e : mx b (rd_T74 l (i : Int)).f2 = (rd_T74 l (i : Int)).f2 := if_pos h3
          exact ⟨r, by simp (disch := omega) only [if_pos, if_neg, decide_eq_true, decide_eq_false, if_true, Bool.false_eq_true, if_false, wrap64_id, u64_id, Option.bind_some, e1], by simp (disch := omega) only [if_pos, if_neg, decide_eq_true, decide_eq_false, if_true, Bool.false_eq_true, if_false, wrap64_id, u64_id, Option.bind_some, e, e2]⟩
        · obtain ⟨r, e1, e2⟩ := ih k b (i + 1) (by omega) (by omega)
          have e : mx b (rd_T74 l (i : Int)).f2 = b := if_neg h3
          exact ⟨r, by simp (disch := omega) only [if_pos, if_neg, decide_eq_true, decide_eq_false, if_true, Bool.false_eq_true, if_false, wrap64_id, u64_id, Option.bind_some, e1], by simp (disch := omega) only [if_pos, if_neg, decide_eq_true, decide_eq_false, if_true, Bool.false_eq_true, if_false, wrap64_id, u64_id, Option.bind_some, e, e2]⟩
      · obtain ⟨r, e1, e2⟩ := ih k b (i + 1) (by omega) (by omega)
        exact ⟨r, by simp (disch := omega) only [if_pos, if_neg, decide_eq_true, decide_eq_false, if_true, Bool.false_eq_true, if_false, wrap64_id, u64_id, Option.bind_some, e1], by simp (disch := omega) only [if_pos, if_neg, decide_eq_true, decide_eq_false, if_true, Bool.false_eq_true, if_false, wrap64_id, u64_id, Option.bind_some, e2]⟩
    · obtain ⟨r, e1, e2⟩ := ih k b (i + 1) (by omega) (by omega)
      exact ⟨r, by simp (disch := omega) only [if_pos, if_neg, decide_eq_true, decide_eq_false, if_true, Bool.false_eq_true, if_false, wrap64_id, u64_id, Option.bind_some, e1], by simp (disch := omega) only [if_pos, if_neg, decide_eq_true, decide_eq_false, if_true, Bool.false_eq_true, if_false, wrap64_id, u64_id, Option.bind_some, e2]⟩
theorem FnExactSeekTo (l : List S76) (hl : l.length ≤ maxLen) (t m : Int) : laws_FnExactSeekTo.f 1048600 l t m = some true := by
  have hm : maxLen = 9223372036854775807 := rfl
  unfold laws_FnExactSeekTo.f laws_szEntryS.f
  by_cases h1 : l.length > 1048576
  · simp (disch := omega) only [if_pos, if_neg, decide_eq_true, decide_eq_false, if_true, Bool.false_eq_true, if_false, wrap64_id, u64_id, Option.bind_some]
  obtain ⟨r, e1, e2⟩ := seek_l0 (same l) (by rw [same_length]; omega) t m (same l).length 1048600 (-1) 0 (by omega) (by rw [same_length]; omega)
  have h2 : (same l).length ≤ 1048576 := by rw [same_length]; omega
  have e1 : spec_SeekTo.f 1048600 (same l) t m = some r := e1
  have e2 : impl_SeekTo.f 1048600 (same l) t m = some r := e2
  simp (disch := omega) only [if_pos, if_neg, decide_eq_true, decide_eq_false, if_true, Bool.false_eq_true, if_false, wrap64_id, u64_id, Option.bind_some, toEntryS_eq, e1, e2, eqEntryS_eq]

end Go.Proofs.Ytbfcilailhcanaa.Pure
