/- Proved: the program's CodeWords tells what the reference's tells, in memory of its own, for every list of at most 1048576 numbers (for a longer one the statement says nothing). -/
import Derived.Test.YtbfcilailhcanaaPFnExactCodeWordsx3
import Derived.Test.YtbfcilailhcanaaMy
namespace Go.Proofs.Ytbfcilailhcanaa.Pure
open Go.RowKit Go.Proofs.Ytbfcilailhcanaa.PFnExactCodeWords Go.Proofs.YtbfcilailhcanaaW.PrintWords Go.Proofs.YtbfcilailhcanaaW.PrintLast Go.Proofs.YtbfcilailhcanaaW.PrintMore Go.Proofs.Ytbfcilailhcanaa.My
set_option linter.unusedVariables false
set_option linter.unusedSimpArgs false
attribute [local congr] bind_left ite_left

theorem toIntS_l0 (x0 : List Int) (hl : x0.length ≤ 1152921504606846976) (d : Nat) : ∀ (k : Nat) (x3 : List Int) (i : Nat), x3.length = x0.length → i + d = x0.length → d < k → (∀ j, j < i → x3[j]? = x0[j]?) →
    laws_toIntS.l0 k x0 x3 (i : Int) = some x0 := by
  induction d with
  | zero =>
    intro k x3 i h3 hi hk hj
    obtain ⟨k, rfl⟩ : ∃ m, k = m + 1 := ⟨k - 1, by omega⟩
    simp only [laws_toIntS.l0]
    rw [if_neg (by omega)]
    congr 1
    refine List.ext_getElem? fun j => ?_
    by_cases h : j < i
    · exact hj j h
    · rw [List.getElem?_eq_none (by omega), List.getElem?_eq_none (by omega)]
  | succ d ih =>
    intro k x3 i h3 hi hk hj
    obtain ⟨k, rfl⟩ : ∃ m, k = m + 1 := ⟨k - 1, by omega⟩
    simp only [laws_toIntS.l0]
    rw [if_pos (by omega), if_pos (by omega), if_pos (by omega), wrap64_nat (by omega)]
    refine ih k _ (i + 1) (by simpa using h3) (by omega) (by omega) fun j hji => ?_
    rw [rd_lt (show i < x0.length by omega), Int.toNat_natCast, List.getElem?_set]
    split
    · rename_i h
      subst h
      rw [if_pos (by omega), List.getElem?_eq_getElem (by omega)]
    · exact hj j (by omega)
/-- The copy reads as the list. -/
theorem toIntS_eq (k : Nat) (l : List Int) (hl : l.length ≤ 1048576) (hk : l.length < k) : laws_toIntS.f k l = some l := by
  unfold laws_toIntS.f
  rw [if_pos (by omega), if_pos (by omega)]
  exact toIntS_l0 l (by omega) l.length k _ 0 (by simp) (by omega) hk (by omega)
theorem eqIntS_l0 (x : List Int) (hl : x.length ≤ 1152921504606846976) (d : Nat) : ∀ (k : Nat) (i : Nat), i + d = x.length → d < k → laws_eqIntS.l0 k x x (i : Int) = some true := by
  induction d with
  | zero =>
    intro k i hi hk
    obtain ⟨k, rfl⟩ : ∃ m, k = m + 1 := ⟨k - 1, by omega⟩
    simp only [laws_eqIntS.l0]
    rw [if_neg (by omega)]
  | succ d ih =>
    intro k i hi hk
    obtain ⟨k, rfl⟩ : ∃ m, k = m + 1 := ⟨k - 1, by omega⟩
    simp only [laws_eqIntS.l0]
    rw [if_pos (by omega), if_pos (by omega), if_pos (by omega), if_pos trivial, wrap64_nat (by omega)]
    exact ih k (i + 1) (by omega) (by omega)
theorem eqIntS_eq (k : Nat) (l : List Int) (hl : l.length ≤ 1152921504606846976) (hk : l.length < k) : laws_eqIntS.f k l l = some true := by
  unfold laws_eqIntS.f
  rw [if_pos rfl]
  exact eqIntS_l0 l hl l.length k 0 (by omega) hk
theorem markIntS_l0 (n : Nat) (hn : n ≤ 1152921504606846976) (d : Nat) : ∀ (k : Nat) (x : List Int) (a : Int) (i : Nat), x.length = n → i + d = n → d < k → 0 ≤ a → a + d ≤ 9223372036854775806 →
    laws_markIntS.l0 k x a (i : Int) = some (a + d, x.take i ++ upI a d) := by
  induction d with
  | zero =>
    intro k x a i hx hi hk h0 ha
    obtain ⟨k, rfl⟩ : ∃ m, k = m + 1 := ⟨k - 1, by omega⟩
    simp only [laws_markIntS.l0]
    rw [if_neg (by omega), List.take_of_length_le (by omega)]
    simp [upI]
  | succ d ih =>
    intro k x a i hx hi hk h0 ha
    obtain ⟨k, rfl⟩ : ∃ m, k = m + 1 := ⟨k - 1, by omega⟩
    simp only [laws_markIntS.l0]
    rw [if_pos (by omega), if_pos (by omega), wrap64_nat (by omega), wrap64_id (n := a + 1) (by omega) (by omega), Int.toNat_natCast, ih k _ (a + 1) (i + 1) (by simpa using hx) (by omega) (by omega) (by omega) (by omega), take_set_succ _ _ _ (by omega)]
    rw [show a + 1 + (d : Int) = a + ((d + 1 : Nat) : Int) from by omega]
    simp [upI]
theorem markIntS_eq (k : Nat) (l : List Int) (a : Int) (hl : l.length ≤ 1152921504606846976) (hk : l.length < k) (h0 : 0 ≤ a) (ha : a ≤ 1152921504606846976) : laws_markIntS.f k l a = some (a + l.length, upI a l.length) := by
  unfold laws_markIntS.f
  exact markIntS_l0 l.length hl l.length k l a 0 rfl (by omega) hk h0 (by omega)
theorem heldIntS_l0 (n : Nat) (a : Int) (hn : n ≤ 1152921504606846976) (h0 : 0 ≤ a) (ha : a ≤ 1152921504606846976) (d : Nat) : ∀ (k : Nat) (i : Nat), i + d = n → d < k →
    laws_heldIntS.l0 k (upI a n) (a + (i : Int)) (i : Int) = some (a + n) := by
  induction d with
  | zero =>
    intro k i hi hk
    obtain ⟨k, rfl⟩ : ∃ m, k = m + 1 := ⟨k - 1, by omega⟩
    simp only [laws_heldIntS.l0]
    rw [if_neg (by rw [upI_length]; omega), show i = n by omega]
  | succ d ih =>
    intro k i hi hk
    obtain ⟨k, rfl⟩ : ∃ m, k = m + 1 := ⟨k - 1, by omega⟩
    simp only [laws_heldIntS.l0]
    rw [if_pos (by rw [upI_length]; omega), if_pos (by omega), rd_nat, upI_get n a i (by omega), if_pos rfl, wrap64_nat (by omega), wrap64_id (by omega) (by omega), show a + (i : Int) + 1 = a + ((i + 1 : Nat) : Int) from by omega]
    exact ih k (i + 1) (by omega) (by omega)
theorem heldIntS_eq (k n : Nat) (a : Int) (hn : n ≤ 1152921504606846976) (hk : n < k) (h0 : 0 ≤ a) (ha : a ≤ 1152921504606846976) : laws_heldIntS.f k (upI a n) a = some (a + n) := by
  unfold laws_heldIntS.f
  have h := heldIntS_l0 n a hn h0 ha n k 0 (by omega) hk
  rwa [show a + ((0 : Nat) : Int) = a from by omega] at h
/-- Whether something holds of each of the first n places. -/
def allB (n : Nat) (p : Nat → Bool) : Bool := (List.range n).all p
theorem allB_iff {n : Nat} {p : Nat → Bool} : allB n p = true ↔ ∀ i, i < n → p i = true := by simp [allB]
theorem allB_congr {n : Nat} {p q : Nat → Bool} (h : ∀ i, i < n → p i = q i) : allB n p = allB n q := by
  rw [Bool.eq_iff_iff, allB_iff, allB_iff]
  exact ⟨fun g i hi => by rw [← h i hi]; exact g i hi, fun g i hi => by rw [h i hi]; exact g i hi⟩
theorem allB_false {n : Nat} {p : Nat → Bool} : allB n p = false ↔ ∃ i, i < n ∧ p i = false := by
  rw [← Bool.not_eq_true, allB_iff]
  constructor
  · intro h
    refine Classical.byContradiction fun g => h fun i hi => ?_
    rcases hp : p i with _ | _
    · exact (g ⟨i, hi, hp⟩).elim
    · rfl
  · rintro ⟨i, hi, hp⟩ h
    rw [h i hi] at hp
    cases hp
/-- A loop that looks at each place and stops with 'no' at the first that does not do. -/
theorem scan_all {F : Nat → Int → Option Bool} {p : Nat → Bool} {n c : Nat} (hs : ∀ k (i : Nat), i < n → F (k + c + 1) i = if p i = true then F k ((i + 1 : Nat) : Int) else some false) (he : ∀ k, F (k + 1) n = some true) :
    ∀ k, n * (c + 1) < k → F k 0 = some (allB n p) := by
  have key : ∀ d k (i : Nat), i + d = n → d * (c + 1) < k → (∀ j, j < i → p j = true) → F k i = some (allB n p) := by
    intro d
    induction d with
    | zero =>
      intro k i hi hk hj
      obtain ⟨k, rfl⟩ : ∃ m, k = m + 1 := ⟨k - 1, by omega⟩
      rw [show i = n by omega, he, (allB_iff.2 fun j hjn => hj j (by omega) : allB n p = true)]
    | succ d ih =>
      intro k i hi hk hj
      have e : (d + 1) * (c + 1) = d * (c + 1) + (c + 1) := Nat.succ_mul d (c + 1)
      obtain ⟨k, rfl⟩ : ∃ m, k = m + c + 1 := ⟨k - c - 1, by omega⟩
      rw [hs k i (by omega)]
      rcases hp : p i with _ | _
      · rw [if_neg (by decide), allB_false.2 ⟨i, by omega, hp⟩]
      · rw [if_pos rfl]
        exact ih k (i + 1) (by omega) (by omega) fun j hji => by
          by_cases h : j = i
          · rw [h, hp]
          · exact hj j (by omega)
  intro k hk
  exact key n k 0 (by omega) hk fun j hj => by omega
def okLen (l : List Int) (i : Nat) : Bool := decide (0 ≤ l.getD i 0) && decide (l.getD i 0 ≤ 15)
theorem l2Valid_eq (k : Nat) (l : List Int) (hk : 400 < k) : spec_l2Valid.f k l = some (decide (l.length ≤ 300) && allB l.length (okLen l)) := by
  unfold spec_l2Valid.f
  by_cases h : (l.length : Int) > 300
  · rw [if_pos h, decide_eq_false (by omega)]
    rfl
  · rw [if_neg h, decide_eq_true (by omega), Bool.true_and]
    refine scan_all (F := fun k i => spec_l2Valid.l0 k l (l.length : Int) i) (c := 0) (fun k i hi => ?_) (fun k => ?_) k (by omega)
    · have hp : okLen l i = (decide (0 ≤ l.getD i 0) && decide (l.getD i 0 ≤ 15)) := rfl
      simp only [spec_l2Valid.l0, rd_nat]
      by_cases h1 : l.getD i 0 < 0
      · rw [show okLen l i = false from by rw [hp, decide_eq_false (by omega), Bool.false_and]]
        simp (disch := omega) only [if_pos, if_neg, decide_eq_true, decide_eq_false, if_true, Bool.false_eq_true, if_false, wrap64_id, u64_id, Option.bind_some]
      by_cases h2 : l.getD i 0 > 15
      · rw [show okLen l i = false from by rw [hp, decide_eq_false (p := l.getD i 0 ≤ 15) (by omega), Bool.and_false]]
        simp (disch := omega) only [if_pos, if_neg, decide_eq_true, decide_eq_false, if_true, Bool.false_eq_true, if_false, wrap64_id, u64_id, Option.bind_some]
      rw [show okLen l i = true from by rw [hp, decide_eq_true (by omega), decide_eq_true (by omega)]; rfl, wrap64_nat (by omega)]
      simp (disch := omega) only [if_pos, if_neg, decide_eq_true, decide_eq_false, if_true, Bool.false_eq_true, if_false, wrap64_id, u64_id, Option.bind_some]
    · simp only [spec_l2Valid.l0]
      rw [if_neg (by omega)]
theorem kind_good {l : List Int} (hl : l.length ≤ 300) (hv : ∀ i, i < l.length → okLen l i = true) (d : Nat) : ∀ (k k' : Nat) (s : Int) (i : Nat), i + d = l.length → d + 2 < k → 2 * d + 2 < k' →
    ∃ r, 0 ≤ r ∧ r ≤ 2 ∧ spec_CodeKind.l0 k s l (l.length : Int) (i : Int) = some r ∧ impl_CodeKind.l0 k' s l (l.length : Int) (i : Int) = some r := by
  induction d with
  | zero =>
    intro k k' s i hi hk hk'
    obtain ⟨k, rfl⟩ : ∃ m, k = m + 2 := ⟨k - 2, by omega⟩
    obtain ⟨k', rfl⟩ : ∃ m, k' = m + 2 := ⟨k' - 2, by omega⟩
    simp only [spec_CodeKind.l0, impl_CodeKind.l0, spec_CodeKind.j1, impl_CodeKind.j2]
    by_cases h1 : s = 0
    · exact ⟨0, by omega, by omega, by simp (disch := omega) only [if_pos, if_neg, decide_eq_true, decide_eq_false, if_true, Bool.false_eq_true, if_false, wrap64_id, u64_id, Option.bind_some], by simp (disch := omega) only [if_pos, if_neg, decide_eq_true, decide_eq_false, if_true, Bool.false_eq_true, if_false, wrap64_id, u64_id, Option.bind_some]⟩
    by_cases h2 : s > 32768
    · exact ⟨0, by omega, by omega, by simp (disch := omega) only [if_pos, if_neg, decide_eq_true, decide_eq_false, if_true, Bool.false_eq_true, if_false, wrap64_id, u64_id, Option.bind_some], by simp (disch := omega) only [if_pos, if_neg, decide_eq_true, decide_eq_false, if_true, Bool.false_eq_true, if_false, wrap64_id, u64_id, Option.bind_some]⟩
    by_cases h3 : s = 32768
    · exact ⟨2, by omega, by omega, by simp (disch := omega) only [if_pos, if_neg, decide_eq_true, decide_eq_false, if_true, Bool.false_eq_true, if_false, wrap64_id, u64_id, Option.bind_some], by simp (disch := omega) only [if_pos, if_neg, decide_eq_true, decide_eq_false, if_true, Bool.false_eq_true, if_false, wrap64_id, u64_id, Option.bind_some]⟩
    · exact ⟨1, by omega, by omega, by simp (disch := omega) only [if_pos, if_neg, decide_eq_true, decide_eq_false, if_true, Bool.false_eq_true, if_false, wrap64_id, u64_id, Option.bind_some], by simp (disch := omega) only [if_pos, if_neg, decide_eq_true, decide_eq_false, if_true, Bool.false_eq_true, if_false, wrap64_id, u64_id, Option.bind_some]⟩
  | succ d ih =>
    intro k k' s i hi hk hk'
    obtain ⟨k, rfl⟩ : ∃ m, k = m + 1 := ⟨k - 1, by omega⟩
    obtain ⟨k', rfl⟩ : ∃ m, k' = m + 2 := ⟨k' - 2, by omega⟩
    have hvi := hv i (by omega)
    simp only [okLen, Bool.and_eq_true, decide_eq_true_eq] at hvi
    simp only [spec_CodeKind.l0, impl_CodeKind.l0, impl_CodeKind.j1, rd_nat]
    by_cases h1 : l.getD i 0 > 0
    · obtain ⟨r, h0, h2, e1, e2⟩ := ih k k' (wrap64 (s + shl .i64 1 (15 - l.getD i 0))) (i + 1) (by omega) (by omega) (by omega)
      push_cast at e1 e2
      exact ⟨r, h0, h2, by simp (disch := omega) only [if_pos, if_neg, decide_eq_true, decide_eq_false, if_true, Bool.false_eq_true, if_false, wrap64_id, u64_id, Option.bind_some, e1], by simp (disch := omega) only [if_pos, if_neg, decide_eq_true, decide_eq_false, if_true, Bool.false_eq_true, if_false, wrap64_id, u64_id, Option.bind_some, e2]⟩
    · obtain ⟨r, h0, h2, e1, e2⟩ := ih k k' s (i + 1) (by omega) (by omega) (by omega)
      push_cast at e1 e2
      exact ⟨r, h0, h2, by simp (disch := omega) only [if_pos, if_neg, decide_eq_true, decide_eq_false, if_true, Bool.false_eq_true, if_false, wrap64_id, u64_id, Option.bind_some, e1], by simp (disch := omega) only [if_pos, if_neg, decide_eq_true, decide_eq_false, if_true, Bool.false_eq_true, if_false, wrap64_id, u64_id, Option.bind_some, e2]⟩
theorem kind_bad {l : List Int} (hl : l.length ≤ 300) (j : Nat) (hj : j < l.length) (hv : okLen l j = false) (d : Nat) : ∀ (k : Nat) (s : Int) (i : Nat), i + d = j → 2 * d + 3 < k →
    impl_CodeKind.l0 k s l (l.length : Int) (i : Int) = some 0 := by
  induction d with
  | zero =>
    intro k s i hi hk
    obtain ⟨k, rfl⟩ : ∃ m, k = m + 2 := ⟨k - 2, by omega⟩
    obtain rfl : i = j := by omega
    simp only [okLen, Bool.and_eq_false_iff, decide_eq_false_iff_not] at hv
    simp only [impl_CodeKind.l0, impl_CodeKind.j1, rd_nat]
    by_cases h3 : l.getD i 0 < 0
    · simp (disch := omega) only [if_pos, if_neg, decide_eq_true, decide_eq_false, if_true, Bool.false_eq_true, if_false, wrap64_id, u64_id, Option.bind_some]
    · simp (disch := omega) only [if_pos, if_neg, decide_eq_true, decide_eq_false, if_true, Bool.false_eq_true, if_false, wrap64_id, u64_id, Option.bind_some]
  | succ d ih =>
    intro k s i hi hk
    obtain ⟨k, rfl⟩ : ∃ m, k = m + 2 := ⟨k - 2, by omega⟩
    simp only [impl_CodeKind.l0, impl_CodeKind.j1, rd_nat]
    by_cases h3 : l.getD i 0 < 0
    · simp (disch := omega) only [if_pos, if_neg, decide_eq_true, decide_eq_false, if_true, Bool.false_eq_true, if_false, wrap64_id, u64_id, Option.bind_some]
    by_cases h4 : l.getD i 0 > 15
    · simp (disch := omega) only [if_pos, if_neg, decide_eq_true, decide_eq_false, if_true, Bool.false_eq_true, if_false, wrap64_id, u64_id, Option.bind_some]
    by_cases h1 : l.getD i 0 > 0
    · have e := ih k (wrap64 (s + shl .i64 1 (15 - l.getD i 0))) (i + 1) (by omega) (by omega)
      push_cast at e
      simp (disch := omega) only [if_pos, if_neg, decide_eq_true, decide_eq_false, if_true, Bool.false_eq_true, if_false, wrap64_id, u64_id, Option.bind_some, e]
    · have e := ih k s (i + 1) (by omega) (by omega)
      push_cast at e
      simp (disch := omega) only [if_pos, if_neg, decide_eq_true, decide_eq_false, if_true, Bool.false_eq_true, if_false, wrap64_id, u64_id, Option.bind_some, e]
theorem kind_f (k : Nat) (hk : 1000 < k) (l : List Int) : ∃ r, 0 ≤ r ∧ r ≤ 2 ∧ spec_CodeKind.f k l = some r ∧ impl_CodeKind.f k l = some r ∧ (r ≠ 0 → l.length ≤ 300 ∧ ∀ i, i < l.length → okLen l i = true) := by
  unfold spec_CodeKind.f impl_CodeKind.f
  simp only [l2Valid_eq k l (by omega)]
  by_cases h3 : l.length ≤ 300
  · rcases hv : allB l.length (okLen l) with _ | _
    · obtain ⟨j, hj, hv⟩ := allB_false.1 hv
      have e := kind_bad (l := l) h3 j hj hv j k 0 0 (by omega) (by omega)
      rw [show ((0 : Nat) : Int) = 0 from rfl] at e
      exact ⟨0, by omega, by omega, by simp (disch := omega) only [if_pos, if_neg, decide_eq_true, decide_eq_false, if_true, Bool.false_eq_true, if_false, wrap64_id, u64_id, Option.bind_some, Bool.and_false], by simp (disch := omega) only [if_pos, if_neg, decide_eq_true, decide_eq_false, if_true, Bool.false_eq_true, if_false, wrap64_id, u64_id, Option.bind_some, e], fun h => (h rfl).elim⟩
    · obtain ⟨r, h0, h2, e1, e2⟩ := kind_good (l := l) h3 (allB_iff.1 hv) l.length k k 0 0 (by omega) (by omega) (by omega)
      rw [show ((0 : Nat) : Int) = 0 from rfl] at e1 e2
      exact ⟨r, h0, h2, by simp (disch := omega) only [if_pos, if_neg, decide_eq_true, decide_eq_false, if_true, Bool.false_eq_true, if_false, wrap64_id, u64_id, Option.bind_some, Bool.and_true, e1], by simp (disch := omega) only [if_pos, if_neg, decide_eq_true, decide_eq_false, if_true, Bool.false_eq_true, if_false, wrap64_id, u64_id, Option.bind_some, e2], fun _ => ⟨h3, allB_iff.1 hv⟩⟩
  · exact ⟨0, by omega, by omega, by simp (disch := omega) only [if_pos, if_neg, decide_eq_true, decide_eq_false, if_true, Bool.false_eq_true, if_false, wrap64_id, u64_id, Option.bind_some, Bool.false_and], by simp (disch := omega) only [if_pos, if_neg, decide_eq_true, decide_eq_false, if_true, Bool.false_eq_true, if_false, wrap64_id, u64_id, Option.bind_some], fun h => (h rfl).elim⟩
/-- The reference's word and last length (w, last) against the program's next word W, in row l. -/
def Inv (l : Nat) (w last W : Int) : Prop := 0 ≤ w ∧ ((last = 0 ∧ w = 0 ∧ W = 0) ∨ (1 ≤ last ∧ last ≤ l ∧ W = (w + 1) * 2 ^ ((l : Int) - last).toNat))
theorem Inv.le {l : Nat} {w last W : Int} (h : Inv l w last W) : 0 ≤ W ∧ w ≤ W ∧ 0 ≤ w := by
  obtain ⟨h0, ⟨_, rfl, rfl⟩ | ⟨_, _, rfl⟩⟩ := h
  · omega
  · have hp := pow_pos ((l : Int) - last).toNat
    have : (w + 1) * 1 ≤ (w + 1) * 2 ^ ((l : Int) - last).toNat := Int.mul_le_mul_of_nonneg_left (by omega) (by omega)
    omega
theorem Inv.next {l : Nat} {w last W : Int} (h : Inv l w last W) : Inv (l + 1) w last (W * 2) := by
  obtain ⟨h0, ⟨h1, h2, h3⟩ | ⟨h1, h2, h3⟩⟩ := h
  · exact ⟨h0, .inl ⟨h1, h2, by omega⟩⟩
  · refine ⟨h0, .inr ⟨h1, by omega, ?_⟩⟩
    rw [h3, show (((l + 1 : Nat) : Int) - last).toNat = ((l : Int) - last).toNat + 1 from by omega, Int.pow_succ, Int.mul_assoc]
theorem Inv.take {l : Nat} {W : Int} (h : 0 ≤ W) (hl : 1 ≤ l) : Inv l W l (W + 1) :=
  ⟨h, .inr ⟨by omega, by omega, by rw [show ((l : Int) - (l : Int)).toNat = 0 from by omega]; simp⟩⟩
theorem Inv.shl_eq {l : Nat} {w last W : Int} (h : Inv l w last W) (hl : l ≤ 15) (h1 : last > 0) (hW : W ≤ 1000000000) : shl .i64 (w + 1) (l - last) = W := by
  obtain ⟨h0, ⟨h2, _, _⟩ | ⟨_, h2, h3⟩⟩ := h
  · omega
  · have hb := Inv.le ⟨h0, .inr ⟨h1, h2, h3⟩⟩
    unfold shl
    rw [Nat.min_eq_left (by simp only [IntKind.bits]; omega), ← h3, i64_wrap, wrap64_id (by omega) (by omega)]
theorem words_l1 (x : List Int) (hx : x.length ≤ 300) (l : Nat) (hl1 : 1 ≤ l) (hl : l ≤ 15) (L : Nat)
    (next : ∀ (k : Nat) (out : List Int) (w last W : Int), out.length = x.length → L ≤ k → Inv l w last W → W ≤ 300 * 2 ^ l - 300 →
      ∃ r, r.length = x.length ∧ spec_l2Words.l0 k x out w last ((l : Int) + 1) = some r ∧ impl_CodeWords.l0 k x out W ((l : Int) + 1) = some r)
    (d : Nat) : ∀ (k : Nat) (out : List Int) (w last W : Int) (i : Nat), out.length = x.length → i + d = x.length → L + d + 1 ≤ k → Inv l w last W → W + (300 - i) ≤ 300 * 2 ^ l - 300 →
      ∃ r, r.length = x.length ∧ spec_l2Words.l1 k x out w last l x.length i = some r ∧ impl_CodeWords.l1 k x out W l x x.length i = some r := by
  have hp : (2 : Int) ^ l ≤ 2 ^ 15 := by rw [← pow_cast, ← pow_cast]; exact Int.ofNat_le.2 (Nat.pow_le_pow_right (by decide) hl)
  have hp' : (2 : Int) ^ 15 = 32768 := rfl
  induction d with
  | zero =>
    intro k out w last W i ho hi hk hI hW
    obtain ⟨k, rfl⟩ : ∃ m, k = m + 1 := ⟨k - 1, by omega⟩
    obtain ⟨r, h1, h2, h3⟩ := next k out w last W ho (by omega) hI (by omega)
    exact ⟨r, h1, by simp only [spec_l2Words.l1]; simp (disch := omega) only [if_pos, if_neg, decide_eq_true, decide_eq_false, if_true, Bool.false_eq_true, if_false, wrap64_id, u64_id, Option.bind_some, h2], by simp only [impl_CodeWords.l1]; simp (disch := omega) only [if_pos, if_neg, decide_eq_true, decide_eq_false, if_true, Bool.false_eq_true, if_false, wrap64_id, u64_id, Option.bind_some, h3]⟩
  | succ d ih =>
    intro k out w last W i ho hi hk hI hW
    obtain ⟨k, rfl⟩ : ∃ m, k = m + 1 := ⟨k - 1, by omega⟩
    have hb := hI.le
    simp only [spec_l2Words.l1, impl_CodeWords.l1, rd_nat, Int.toNat_natCast]
    by_cases h1 : x.getD i 0 = l
    · obtain ⟨r, h2, h3, h4⟩ := ih k (out.set i W) W l (W + 1) (i + 1) (by simpa using ho) (by omega) (by omega) (Inv.take hb.1 hl1) (by omega)
      push_cast at h3 h4
      refine ⟨r, h2, ?_, by simp (disch := omega) only [if_pos, if_neg, decide_eq_true, decide_eq_false, if_true, Bool.false_eq_true, if_false, wrap64_id, u64_id, Option.bind_some, h4]⟩
      by_cases h5 : last > 0
      · have hl2 : last ≤ l := by rcases hI.2 with h | h <;> omega
        have e := hI.shl_eq hl h5 (by omega)
        simp (disch := omega) only [if_pos, if_neg, decide_eq_true, decide_eq_false, if_true, Bool.false_eq_true, if_false, wrap64_id, u64_id, Option.bind_some, e, h3]
      · have e : w = W := by rcases hI.2 with h | h <;> omega
        subst e
        simp (disch := omega) only [if_pos, if_neg, decide_eq_true, decide_eq_false, if_true, Bool.false_eq_true, if_false, wrap64_id, u64_id, Option.bind_some, h3]
    · obtain ⟨r, h2, h3, h4⟩ := ih k out w last W (i + 1) ho (by omega) (by omega) hI (by omega)
      push_cast at h3 h4
      exact ⟨r, h2, by simp (disch := omega) only [if_pos, if_neg, decide_eq_true, decide_eq_false, if_true, Bool.false_eq_true, if_false, wrap64_id, u64_id, Option.bind_some, h3], by simp (disch := omega) only [if_pos, if_neg, decide_eq_true, decide_eq_false, if_true, Bool.false_eq_true, if_false, wrap64_id, u64_id, Option.bind_some, h4]⟩
theorem words_l0 (x : List Int) (hx : x.length ≤ 300) (L : Nat) : ∀ (k : Nat) (l : Nat) (out : List Int) (w last W : Int), l + L = 15 → out.length = x.length → L * (x.length + 2) + 1 ≤ k → Inv l w last W → W ≤ 300 * 2 ^ l - 300 →
    ∃ r, r.length = x.length ∧ spec_l2Words.l0 k x out w last ((l : Int) + 1) = some r ∧ impl_CodeWords.l0 k x out W ((l : Int) + 1) = some r := by
  induction L with
  | zero =>
    intro k l out w last W hl ho hk hI hW
    obtain ⟨k, rfl⟩ : ∃ m, k = m + 1 := ⟨k - 1, by omega⟩
    exact ⟨out, ho, by simp only [spec_l2Words.l0]; simp (disch := omega) only [if_pos, if_neg, decide_eq_true, decide_eq_false, if_true, Bool.false_eq_true, if_false, wrap64_id, u64_id, Option.bind_some], by simp only [impl_CodeWords.l0]; simp (disch := omega) only [if_pos, if_neg, decide_eq_true, decide_eq_false, if_true, Bool.false_eq_true, if_false, wrap64_id, u64_id, Option.bind_some]⟩
  | succ L ih =>
    intro k l out w last W hl ho hk hI hW
    obtain ⟨k, rfl⟩ : ∃ m, k = m + 1 := ⟨k - 1, by omega⟩
    have hb := hI.le
    have hp : (2 : Int) ^ l ≤ 2 ^ 15 := by rw [← pow_cast, ← pow_cast]; exact Int.ofNat_le.2 (Nat.pow_le_pow_right (by decide) (by omega))
    have hp' : (2 : Int) ^ 15 = 32768 := rfl
    have hps : (2 : Int) ^ (l + 1) = 2 ^ l * 2 := Int.pow_succ 2 l
    have em : (L + 1) * (x.length + 2) = L * (x.length + 2) + (x.length + 2) := Nat.succ_mul _ _
    obtain ⟨r, h1, h2, h3⟩ := words_l1 x hx (l + 1) (by omega) (by omega) (L * (x.length + 2) + 1) (fun k out w last W ho hk hI hW => ih k (l + 1) out w last W (by omega) ho hk hI hW) x.length k out w last (W * 2) 0 ho (by omega) (by omega) hI.next (by omega)
    push_cast at h2 h3
    exact ⟨r, h1, by simp only [spec_l2Words.l0]; simp (disch := omega) only [if_pos, if_neg, decide_eq_true, decide_eq_false, if_true, Bool.false_eq_true, if_false, wrap64_id, u64_id, Option.bind_some, h2], by simp only [impl_CodeWords.l0]; simp (disch := omega) only [if_pos, if_neg, decide_eq_true, decide_eq_false, if_true, Bool.false_eq_true, if_false, wrap64_id, u64_id, Option.bind_some, h3]⟩
theorem words_f (k : Nat) (hk : 10000 < k) (l : List Int) : ∃ r, r.length ≤ 300 ∧ spec_CodeWords.f k l = some r ∧ impl_CodeWords.f k l = some r := by
  unfold spec_CodeWords.f impl_CodeWords.f
  obtain ⟨r, _, _, e1, e2, hv⟩ := kind_f k (by omega) l
  by_cases h : r = 0
  · exact ⟨[], by simp, by simp (disch := omega) only [if_pos, if_neg, decide_eq_true, decide_eq_false, if_true, Bool.false_eq_true, if_false, wrap64_id, u64_id, Option.bind_some, e1], by simp (disch := omega) only [if_pos, if_neg, decide_eq_true, decide_eq_false, if_true, Bool.false_eq_true, if_false, wrap64_id, u64_id, Option.bind_some, e2]⟩
  · obtain ⟨hl, _⟩ := hv h
    have hm : 15 * (l.length + 2) + 1 ≤ k := by omega
    obtain ⟨q, h1, h2, h3⟩ := words_l0 l hl 15 k 0 (List.replicate l.length 0) 0 0 0 rfl (by simp) hm ⟨by omega, .inl ⟨rfl, rfl, rfl⟩⟩ (by decide)
    rw [show (((0 : Nat) : Int) + 1) = 1 from rfl] at h2 h3
    exact ⟨q, by omega, by simp (disch := omega) only [if_pos, if_neg, decide_eq_true, decide_eq_false, if_true, Bool.false_eq_true, if_false, wrap64_id, u64_id, Option.bind_some, e1, spec_l2Words.f, Int.toNat_natCast, h2], by simp (disch := omega) only [if_pos, if_neg, decide_eq_true, decide_eq_false, if_true, Bool.false_eq_true, if_false, wrap64_id, u64_id, Option.bind_some, e2, Int.toNat_natCast, h3]⟩
theorem words_all (l : List Int) : ∃ r, r.length ≤ 300 ∧ (∀ k, 10000 < k → spec_CodeWords.f k l = some r) ∧ ∀ k, 10000 < k → impl_CodeWords.f k l = some r := by
  obtain ⟨r, h, e1, e2⟩ := words_f 10001 (by omega) l
  exact ⟨r, h, fun k hk => at_rounds (g := fun k => spec_CodeWords.f k l) (spec_CodeWords.mono l) hk e1, fun k hk => at_rounds (g := fun k => impl_CodeWords.f k l) (impl_CodeWords.mono l) hk e2⟩
theorem FnExactCodeWords : laws_FnExactCodeWords.Pure := by
  intro l _ _ _
  obtain ⟨K, hK⟩ : ∃ K : Nat, 1048600 < K := ⟨_, Nat.lt_succ_self _⟩
  refine ⟨K + 4, ?_⟩
  unfold laws_FnExactCodeWords.f
  by_cases h1 : (l.length : Int) > 1048576
  · simp (disch := omega) only [if_pos, if_neg, decide_eq_true, decide_eq_false, if_true, Bool.false_eq_true, if_false, wrap64_id, u64_id, Option.bind_some]
  obtain ⟨r, hr, e1, e2⟩ := words_all l
  simp (disch := omega) only [if_pos, if_neg, decide_eq_true, decide_eq_false, if_true, Bool.false_eq_true, if_false, wrap64_id, u64_id, Option.bind_some, toIntS_eq, e1, e2, eqIntS_eq, markIntS_eq, heldIntS_eq, laws_FnExactCodeWords.j0, Bool.not_true]

end Go.Proofs.Ytbfcilailhcanaa.Pure
