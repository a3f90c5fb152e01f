/- Proved: the program's Marks tells what the reference's tells, in memory of its own, for every two numbers. -/
import Derived.Test.YtkhpcclddkddmaaPFnExactMarksx2
import Derived.Test.YtkhpcclddkddmaaMy
namespace Go.Proofs.Ytkhpcclddkddmaa.Pure
open Go.RowKit Go.Proofs.Ytkhpcclddkddmaa.PFnExactMarks Go.Proofs.YtkhpcclddkddmaaW.PrintWords Go.Proofs.YtkhpcclddkddmaaW.PrintLast Go.Proofs.YtkhpcclddkddmaaW.PrintMore Go.Proofs.Ytkhpcclddkddmaa.My
set_option linter.unusedVariables false
set_option linter.unusedSimpArgs false
attribute [local congr] bind_left ite_left

theorem rd_nat46 (l : List S46) (i : Nat) : rd_T46 l (i : Int) = l.getD i z46 := by simp [rd_T46]
/-- The choices (a, a + 1), (a + 2, a + 3), .. -/
def upC : Int → Nat → List S46
  | _, 0 => []
  | a, n + 1 => ⟨a, a + 1⟩ :: upC (a + 2) n
theorem upC_length (n : Nat) : ∀ a : Int, (upC a n).length = n := by
  induction n with
  | zero => intro a; rfl
  | succ n ih => intro a; simp [upC, ih]
theorem upC_get (n : Nat) : ∀ (a : Int) (i : Nat), i < n → (upC a n).getD i z46 = ⟨a + 2 * (i : Int), a + 2 * (i : Int) + 1⟩ := by
  induction n with
  | zero => intro a i h; omega
  | succ n ih =>
    intro a i h
    rcases i with _ | i
    · simp [upC]
    · rw [show (upC a (n + 1)).getD (i + 1) z46 = (upC (a + 2) n).getD i z46 from by simp [upC, List.getD], ih (a + 2) i (by omega)]
      rw [show a + 2 + 2 * (i : Int) = a + 2 * ((i + 1 : Nat) : Int) from by omega]
theorem eqChoiceS_l0 (x : List S46) (hl : x.length ≤ 1048576) (d : Nat) : ∀ (k : Nat) (i : Nat), i + d = x.length → d < k → laws_eqChoiceS.l0 k x x (i : Int) = some true := by
  induction d with
  | zero =>
    intro k i hi hk
    obtain ⟨k, rfl⟩ : ∃ m, k = m + 1 := ⟨k - 1, by omega⟩
    simp only [laws_eqChoiceS.l0]
    rw [if_neg (by omega)]
  | succ d ih =>
    intro k i hi hk
    obtain ⟨k, rfl⟩ : ∃ m, k = m + 1 := ⟨k - 1, by omega⟩
    simp only [laws_eqChoiceS.l0, laws_eqChoice.f, if_true, Option.bind_some]
    rw [if_pos (by omega), if_pos (by omega), if_pos (by omega), wrap64_nat (by omega)]
    exact ih k (i + 1) (by omega) (by omega)
theorem eqChoiceS_eq (k : Nat) (l : List S46) (hl : l.length ≤ 1048576) (hk : l.length < k) : laws_eqChoiceS.f k l l = some true := by
  unfold laws_eqChoiceS.f
  rw [if_pos rfl]
  exact eqChoiceS_l0 l hl l.length k 0 (by omega) hk
theorem takeS_set_succ (l : List S46) (i : Nat) (x : S46) (h : i < l.length) : (l.set i x).take (i + 1) = l.take i ++ [x] := by
  rw [List.take_succ_eq_append_getElem (by simpa using h), List.take_set, List.getElem_set_self, List.set_eq_of_length_le (by simp; omega)]
theorem markChoiceS_l0 (n : Nat) (hn : n ≤ 1048576) (d : Nat) : ∀ (k : Nat) (x : List S46) (a : Int) (i : Nat), x.length = n → i + d = n → d < k → 0 ≤ a → a + 2 * d ≤ 1000000000000 →
    laws_markChoiceS.l0 k x a (i : Int) = some (a + 2 * d, x.take i ++ upC a d) := by
  induction d with
  | zero =>
    intro k x a i hx hi hk h0 ha
    obtain ⟨k, rfl⟩ : ∃ m, k = m + 1 := ⟨k - 1, by omega⟩
    simp only [laws_markChoiceS.l0]
    rw [if_neg (by omega), List.take_of_length_le (by omega)]
    simp [upC]
  | succ d ih =>
    intro k x a i hx hi hk h0 ha
    obtain ⟨k, rfl⟩ : ∃ m, k = m + 1 := ⟨k - 1, by omega⟩
    have e : (x.set i (⟨a, (x.getD i z46).f1⟩ : S46)).getD i z46 = ⟨a, (x.getD i z46).f1⟩ := by simp [List.getD, show i < x.length by omega]
    simp only [laws_markChoiceS.l0, Option.bind_some, Int.toNat_natCast, rd_nat46, e, List.set_set]
    rw [if_pos (by omega), if_pos (by omega), wrap64_nat (by omega), wrap64_id (n := a + 1) (by omega) (by omega), wrap64_id (by omega) (by omega), ih k _ (a + 1 + 1) (i + 1) (by simpa using hx) (by omega) (by omega) (by omega) (by omega), takeS_set_succ _ _ _ (by omega)]
    rw [show a + 1 + 1 + 2 * (d : Int) = a + 2 * ((d + 1 : Nat) : Int) from by omega, show a + 1 + 1 = a + 2 from by omega]
    simp [upC]
theorem markChoiceS_eq (k : Nat) (l : List S46) (a : Int) (hl : l.length ≤ 1048576) (hk : l.length < k) (h0 : 0 ≤ a) (ha : a ≤ 1048576) : laws_markChoiceS.f k l a = some (a + 2 * l.length, upC a l.length) := by
  unfold laws_markChoiceS.f
  exact markChoiceS_l0 l.length hl l.length k l a 0 rfl (by omega) hk h0 (by omega)
theorem heldChoiceS_l0 (n : Nat) (a : Int) (hn : n ≤ 1048576) (h0 : 0 ≤ a) (ha : a ≤ 1048576) (d : Nat) : ∀ (k : Nat) (i : Nat), i + d = n → d < k →
    laws_heldChoiceS.l0 k (upC a n) (a + 2 * (i : Int)) (i : Int) = some (a + 2 * n) := by
  induction d with
  | zero =>
    intro k i hi hk
    obtain ⟨k, rfl⟩ : ∃ m, k = m + 1 := ⟨k - 1, by omega⟩
    simp only [laws_heldChoiceS.l0]
    rw [if_neg (by rw [upC_length]; omega), show i = n by omega]
  | succ d ih =>
    intro k i hi hk
    obtain ⟨k, rfl⟩ : ∃ m, k = m + 1 := ⟨k - 1, by omega⟩
    simp only [laws_heldChoiceS.l0, rd_nat46, upC_get n a i (by omega)]
    rw [if_pos (by rw [upC_length]; omega), if_pos (by omega), if_pos trivial, wrap64_nat (by omega), wrap64_id (n := a + 2 * (i : Int) + 1) (by omega) (by omega), if_pos rfl, wrap64_id (by omega) (by omega), show a + 2 * (i : Int) + 1 + 1 = a + 2 * ((i + 1 : Nat) : Int) from by omega]
    exact ih k (i + 1) (by omega) (by omega)
theorem heldChoiceS_eq (k n : Nat) (a : Int) (hn : n ≤ 1048576) (hk : n < k) (h0 : 0 ≤ a) (ha : a ≤ 1048576) : laws_heldChoiceS.f k (upC a n) a = some (a + 2 * n) := by
  unfold laws_heldChoiceS.f
  have h := heldChoiceS_l0 n a hn h0 ha n k 0 (by omega) hk
  rwa [show a + 2 * ((0 : Nat) : Int) = a from by omega] at h
/-- The marks ahead of the one that ends them. -/
def onesL (first : Int) (b : Nat) : List S46 := (List.range b).map fun i : Nat => ⟨first + (i : Int), 1⟩
/-- The bits of m below bit b, the highest first. -/
def downL (first m : Int) : Nat → List S46
  | 0 => []
  | b + 1 => ⟨first + 20 + (b : Int), m / 2 ^ b % 2⟩ :: downL first m b
def marksL (first m : Int) (b : Nat) : List S46 := onesL first b ++ [⟨first + (b : Int), 0⟩] ++ downL first m b
theorem onesL_succ (first : Int) (b : Nat) : onesL first (b + 1) = onesL first b ++ [⟨first + (b : Int), 1⟩] := by simp [onesL, List.range_succ]
theorem onesL_length (first : Int) (b : Nat) : (onesL first b).length = b := by simp [onesL]
theorem downL_length (first m : Int) (b : Nat) : (downL first m b).length = b := by
  induction b with
  | zero => rfl
  | succ b ih => simp [downL, ih]
theorem marksL_length (first m : Int) (b : Nat) : (marksL first m b).length = 2 * b + 1 := by
  simp [marksL, onesL_length, downL_length]
  omega
theorem shr_nat (m : Int) (i : Nat) (hi : i ≤ 64) : shr .i64 m (i : Int) = m / 2 ^ i := by
  unfold shr
  rw [Int.toNat_natCast, Nat.min_eq_left (by simpa [IntKind.bits] using hi)]
theorem marks_down (first m : Int) (h0 : 0 ≤ first) (h1 : first ≤ 1000) (b : Nat) : b ≤ 20 → ∀ (k : Nat) (out : List S46), out.length + b ≤ 100 → b < k →
    spec_l12Marks.l2 k first m out ((b : Int) - 1) = some (out ++ downL first m b) ∧ impl_Marks.l1 k first m out ((b : Int) - 1) = some (out ++ downL first m b) := by
  induction b with
  | zero =>
    intro hb k out ho hk
    obtain ⟨k, rfl⟩ : ∃ m, k = m + 1 := ⟨k - 1, by omega⟩
    simp only [spec_l12Marks.l2, impl_Marks.l1]
    rw [if_neg (by omega), if_neg (by omega)]
    simp [downL]
  | succ b ih =>
    intro hb k out ho hk
    obtain ⟨k, rfl⟩ : ∃ m, k = m + 1 := ⟨k - 1, by omega⟩
    obtain ⟨i1, i2⟩ := ih (by omega) k (out ++ [⟨first + 20 + (b : Int), m / 2 ^ b % 2⟩]) (by simp; omega) (by omega)
    simp only [spec_l12Marks.l2, impl_Marks.l1]
    rw [show ((b + 1 : Nat) : Int) - 1 = (b : Int) from by omega, u64_id (n := (b : Int)) (by omega) (by omega), shr_nat m b (by omega), and_i64_one]
    have e : out ++ downL first m (b + 1) = out ++ [⟨first + 20 + (b : Int), m / 2 ^ b % 2⟩] ++ downL first m b := by simp [downL]
    rw [e]
    constructor
    · simp (disch := omega) only [if_pos, if_neg, decide_eq_true, decide_eq_false, if_true, Bool.false_eq_true, if_false, wrap64_id, u64_id, Option.bind_some, i1]
    · simp (disch := omega) only [if_pos, if_neg, decide_eq_true, decide_eq_false, if_true, Bool.false_eq_true, if_false, wrap64_id, u64_id, Option.bind_some, i2]
theorem marks_up (first m : Int) (h0 : 0 ≤ first) (h1 : first ≤ 1000) (b : Nat) (hb : b ≤ 20) (d : Nat) : ∀ (k : Nat) (i : Nat), i + d = b → d + b + 1 < k →
    spec_l12Marks.l1 k first m (b : Int) (onesL first i) (i : Int) = some (marksL first m b) ∧ impl_Marks.l0 k first m (b : Int) (onesL first i) (b : Int) (i : Int) = some (marksL first m b) := by
  induction d with
  | zero =>
    intro k i hi hk
    obtain ⟨k, rfl⟩ : ∃ m, k = m + 1 := ⟨k - 1, by omega⟩
    obtain rfl : i = b := by omega
    have ho := onesL_length first i
    obtain ⟨i1, i2⟩ := marks_down first m h0 h1 i hb k (onesL first i ++ [⟨first + (i : Int), 0⟩]) (by simp [ho]; omega) (by omega)
    simp only [spec_l12Marks.l1, impl_Marks.l0]
    constructor
    · simp (disch := omega) only [if_pos, if_neg, decide_eq_true, decide_eq_false, if_true, Bool.false_eq_true, if_false, wrap64_id, u64_id, Option.bind_some, i1]
      rfl
    · simp (disch := omega) only [if_pos, if_neg, decide_eq_true, decide_eq_false, if_true, Bool.false_eq_true, if_false, wrap64_id, u64_id, Option.bind_some, i2]
      rfl
  | succ d ih =>
    intro k i hi hk
    obtain ⟨k, rfl⟩ : ∃ m, k = m + 1 := ⟨k - 1, by omega⟩
    have ho := onesL_length first i
    obtain ⟨i1, i2⟩ := ih k (i + 1) (by omega) (by omega)
    rw [onesL_succ] at i1 i2
    push_cast at i1 i2
    simp only [spec_l12Marks.l1, impl_Marks.l0]
    constructor
    · simp (disch := omega) only [if_pos, if_neg, decide_eq_true, decide_eq_false, if_true, Bool.false_eq_true, if_false, wrap64_id, u64_id, Option.bind_some, i1]
    · simp (disch := omega) only [if_pos, if_neg, decide_eq_true, decide_eq_false, if_true, Bool.false_eq_true, if_false, wrap64_id, u64_id, Option.bind_some, i2]
/-- Bit b is the highest of m. -/
def Top (m : Int) (b : Nat) : Prop := 2 ^ b ≤ m ∧ m < 2 ^ (b + 1)
theorem top_of (m : Int) (h0 : 1 ≤ m) (h1 : m ≤ 65536) : ∃ b, b ≤ 16 ∧ Top m b := by
  have key : ∀ n : Nat, m < 2 ^ n → ∃ b, b < n ∧ Top m b := by
    intro n
    induction n with
    | zero => intro h; rw [Int.pow_zero] at h; omega
    | succ n ih =>
      intro h
      by_cases hn : m < 2 ^ n
      · obtain ⟨b, hb, ht⟩ := ih hn
        exact ⟨b, by omega, ht⟩
      · exact ⟨n, by omega, by omega, h⟩
  obtain ⟨b, hb, ht⟩ := key 17 (by rw [show (2 : Int) ^ 17 = 131072 from rfl]; omega)
  exact ⟨b, by omega, ht⟩
theorem pow_mono {a b : Nat} (h : a ≤ b) : (2 : Int) ^ a ≤ 2 ^ b := by
  rw [← pow_cast, ← pow_cast]
  exact Int.ofNat_le.2 (Nat.pow_le_pow_right (by decide) h)
theorem marks_find (first m : Int) (h0 : 0 ≤ first) (h1 : first ≤ 1000) (b : Nat) (hb : b ≤ 16) (ht : Top m b) (d : Nat) : ∀ (k : Nat) (i : Nat), i + d = b → d + 100 < k →
    spec_l12Marks.l0 k first m (i : Int) = some (marksL first m b) := by
  induction d with
  | zero =>
    intro k i hi hk
    obtain ⟨k, rfl⟩ : ∃ m, k = m + 1 := ⟨k - 1, by omega⟩
    obtain rfl : i = b := by omega
    have e : m / 2 ^ (i + 1) = 0 := Int.ediv_eq_zero_of_lt (by have := pow_pos i; have := ht.1; omega) ht.2
    have i1 := (marks_up first m h0 h1 i (by omega) i k 0 (by omega) (by omega)).1
    simp only [spec_l12Marks.l0]
    rw [wrap64_nat (by omega), u64_id (n := ((i + 1 : Nat) : Int)) (by omega) (by omega), shr_nat m (i + 1) (by omega), e, if_pos (by omega), if_neg (by decide)]
    exact i1
  | succ d ih =>
    intro k i hi hk
    obtain ⟨k, rfl⟩ : ∃ m, k = m + 1 := ⟨k - 1, by omega⟩
    have e : m / 2 ^ (i + 1) > 0 := by
      have hp := pow_mono (show i + 1 ≤ b by omega)
      have := ht.1
      have h2 := Int.le_ediv_of_mul_le (pow_pos (i + 1)) (show 1 * 2 ^ (i + 1) ≤ m by omega)
      omega
    simp only [spec_l12Marks.l0]
    rw [wrap64_nat (by omega), u64_id (n := ((i + 1 : Nat) : Int)) (by omega) (by omega), shr_nat m (i + 1) (by omega), if_pos (by omega), if_pos e]
    exact ih k (i + 1) (by omega) (by omega)
theorem bitlen_top (d : Nat) : ∀ (k : Nat) (m n : Int), Top m d → 0 ≤ n → n + d ≤ 62 → d + 1 < k → impl_zbitlen.l0 k m n = some (n + d + 1) := by
  induction d with
  | zero =>
    intro k m n ht hn hd hk
    obtain ⟨k, rfl⟩ : ∃ m, k = m + 2 := ⟨k - 2, by omega⟩
    obtain ⟨t0, t1⟩ := ht
    rw [Int.pow_zero] at t0
    rw [show (2 : Int) ^ (0 + 1) = 2 from rfl] at t1
    obtain rfl : m = 1 := by omega
    simp only [impl_zbitlen.l0]
    simp (disch := omega) only [if_pos, if_neg, decide_eq_true, decide_eq_false, if_true, Bool.false_eq_true, if_false, wrap64_id, u64_id, Option.bind_some, show (1 : Int) / 2 = 0 from rfl]
    simp
  | succ d ih =>
    intro k m n ht hn hd hk
    obtain ⟨k, rfl⟩ : ∃ m, k = m + 1 := ⟨k - 1, by omega⟩
    obtain ⟨t0, t1⟩ := ht
    have e1 : (2 : Int) ^ (d + 1) = 2 ^ d * 2 := Int.pow_succ 2 d
    have e2 : (2 : Int) ^ (d + 1 + 1) = 2 ^ (d + 1) * 2 := Int.pow_succ 2 (d + 1)
    have hp := pow_pos d
    simp only [impl_zbitlen.l0]
    rw [if_pos (by omega), wrap64_id (n := n + 1) (by omega) (by omega), ih k (m / 2) (n + 1) ⟨by omega, by omega⟩ (by omega) (by omega) (by omega)]
    congr 1
    omega
theorem marks_all (n first : Int) : ∃ r, r.length ≤ 100 ∧ (∀ k, 300 < k → spec_Marks.f k n first = some r) ∧ (∀ k, 300 < k → impl_Marks.f k n first = some r) ∧ (0 ≤ n → n ≤ 65535 → 0 ≤ first → first ≤ 472 → ∃ b, b ≤ 16 ∧ Top (n + 1) b ∧ r = marksL first (n + 1) b) ∧ (¬ (0 ≤ n ∧ n ≤ 65535 ∧ 0 ≤ first ∧ first ≤ 472) → r = []) := by
  by_cases h : 0 ≤ n ∧ n ≤ 65535 ∧ 0 ≤ first ∧ first ≤ 472
  · obtain ⟨h1, h2, h3, h4⟩ := h
    obtain ⟨b, hb, ht⟩ := top_of (n + 1) (by omega) (by omega)
    refine ⟨marksL first (n + 1) b, by rw [marksL_length]; omega, fun k hk => ?_, fun k hk => ?_, fun _ _ _ _ => ⟨b, hb, ht, rfl⟩, fun h => (h ⟨h1, h2, h3, h4⟩).elim⟩
    · have e := marks_find first (n + 1) h3 (by omega) b hb ht b k 0 (by omega) (by omega)
      rw [show ((0 : Nat) : Int) = 0 from rfl] at e
      unfold spec_Marks.f spec_l12Marks.f
      simp (disch := omega) only [if_pos, if_neg, decide_eq_true, decide_eq_false, if_true, Bool.false_eq_true, if_false, wrap64_id, u64_id, Option.bind_some, e]
    · obtain ⟨k, rfl⟩ : ∃ m, k = m + 1 := ⟨k - 1, by omega⟩
      have e := bitlen_top b k (n + 1) 0 ht (by omega) (by omega) (by omega)
      have e2 := (marks_up first (n + 1) h3 (by omega) b (by omega) b k 0 (by omega) (by omega)).2
      rw [show ((0 : Nat) : Int) = 0 from rfl, show onesL first 0 = [] from rfl] at e2
      unfold impl_Marks.f
      simp (disch := omega) only [if_pos, if_neg, decide_eq_true, decide_eq_false, if_true, Bool.false_eq_true, if_false, wrap64_id, u64_id, Option.bind_some, impl_Marks.j0, impl_zbitlen.f, e, show (0 : Int) + (b : Int) + 1 - 1 = b from by omega, e2]
  · refine ⟨[], by simp, fun k hk => ?_, fun k hk => ?_, fun h1 h2 h3 h4 => (h ⟨h1, h2, h3, h4⟩).elim, fun _ => rfl⟩
    · unfold spec_Marks.f
      by_cases h1 : n < 0
      · simp (disch := omega) only [if_pos, if_neg, decide_eq_true, decide_eq_false, if_true, Bool.false_eq_true, if_false, wrap64_id, u64_id, Option.bind_some]
      by_cases h2 : n > 65535
      · simp (disch := omega) only [if_pos, if_neg, decide_eq_true, decide_eq_false, if_true, Bool.false_eq_true, if_false, wrap64_id, u64_id, Option.bind_some]
      by_cases h3 : first < 0
      · simp (disch := omega) only [if_pos, if_neg, decide_eq_true, decide_eq_false, if_true, Bool.false_eq_true, if_false, wrap64_id, u64_id, Option.bind_some]
      by_cases h4 : first > 472
      · simp (disch := omega) only [if_pos, if_neg, decide_eq_true, decide_eq_false, if_true, Bool.false_eq_true, if_false, wrap64_id, u64_id, Option.bind_some]
      omega
    · obtain ⟨k, rfl⟩ : ∃ m, k = m + 1 := ⟨k - 1, by omega⟩
      unfold impl_Marks.f
      by_cases h1 : n < 0
      · simp (disch := omega) only [if_pos, if_neg, decide_eq_true, decide_eq_false, if_true, Bool.false_eq_true, if_false, wrap64_id, u64_id, Option.bind_some, impl_Marks.j0]
      by_cases h2 : n > 65535
      · simp (disch := omega) only [if_pos, if_neg, decide_eq_true, decide_eq_false, if_true, Bool.false_eq_true, if_false, wrap64_id, u64_id, Option.bind_some, impl_Marks.j0]
      by_cases h3 : first < 0
      · simp (disch := omega) only [if_pos, if_neg, decide_eq_true, decide_eq_false, if_true, Bool.false_eq_true, if_false, wrap64_id, u64_id, Option.bind_some, impl_Marks.j0]
      by_cases h4 : first > 472
      · simp (disch := omega) only [if_pos, if_neg, decide_eq_true, decide_eq_false, if_true, Bool.false_eq_true, if_false, wrap64_id, u64_id, Option.bind_some, impl_Marks.j0]
      omega
theorem FnExactMarks : laws_FnExactMarks.Pure := by
  intro n first _ _
  obtain ⟨K, hK⟩ : ∃ K : Nat, 1048600 < K := ⟨_, Nat.lt_succ_self _⟩
  refine ⟨K, ?_⟩
  obtain ⟨r, hr, e1, e2, _, _⟩ := marks_all n first
  unfold laws_FnExactMarks.f
  simp (disch := omega) only [if_pos, if_neg, decide_eq_true, decide_eq_false, if_true, Bool.false_eq_true, if_false, wrap64_id, u64_id, Option.bind_some, e1, e2, eqChoiceS_eq, markChoiceS_eq, heldChoiceS_eq]

end Go.Proofs.Ytkhpcclddkddmaa.Pure
