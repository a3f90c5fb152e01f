/- Plain facts of this seat's own: what is put is got again, what is cut short is none; folded and unfolded. -/
import Derived.Test.YtjjaahdfjjomiaaLawGet
import Derived.Test.YtjjaahdfjjomiaaWkNum
import Derived.Test.YtjjaahdfjjomiaaPFnExactFoldx1
import Derived.Test.YtjjaahdfjjomiaaPFnExactUnfoldx1
namespace Go.Proofs.Ytjjaahdfjjomiaa.Wk
open Go.RowKit Go.Proofs.YtjjaahdfjjomiaaW.PrintWords Go.Proofs.YtjjaahdfjjomiaaW.PrintLast Go.Proofs.YtjjaahdfjjomiaaW.PrintMore Go.Proofs.Ytjjaahdfjjomiaa.My
set_option linter.unusedVariables false
set_option linter.unusedSimpArgs false
theorem bits_or_add (k v c : Nat) (hv : v < 2 ^ k) (hs : 2 ^ k * c + v < 18446744073709551616) : bits .or .u64 (v : Int) ((2 ^ k * c : Nat) : Int) = ((2 ^ k * c + v : Nat) : Int) := by
  rw [bits_u64_or, BitVec.toNat_or]
  have e1 : (BitVec.ofInt 64 (v : Int)).toNat = v := by rw [BitVec.ofInt_natCast, BitVec.toNat_ofNat]; exact Nat.mod_eq_of_lt (by omega)
  have e2 : (BitVec.ofInt 64 ((2 ^ k * c : Nat) : Int)).toNat = 2 ^ k * c := by rw [BitVec.ofInt_natCast, BitVec.toNat_ofNat]; exact Nat.mod_eq_of_lt (by omega)
  rw [e1, e2, Nat.or_comm, ← Nat.two_pow_add_eq_or_of_lt hv]
theorem pow128 (i : Nat) : 2 ^ (7 * i) = 128 ^ i := by rw [Nat.pow_mul]
theorem groups_bytes (m : Nat) : ∀ (n : Int), 0 ≤ n → ∀ x ∈ groups m n, 0 ≤ x ∧ x ≤ 255 := by
  induction m with
  | zero => intro n h x hx; simp [groups] at hx
  | succ m ih =>
    intro n h x hx
    unfold groups at hx
    split at hx
    · rw [List.mem_singleton] at hx
      omega
    · rcases List.mem_cons.1 hx with rfl | hx
      · omega
      · exact ih (n / 128) (by omega) x hx
theorem groups_init (m : Nat) : ∀ (n : Int), 0 ≤ n → ∀ x ∈ (groups m n).dropLast, 128 ≤ x := by
  induction m with
  | zero => intro n h x hx; simp [groups] at hx
  | succ m ih =>
    intro n h x hx
    unfold groups at hx
    split at hx
    · simp at hx
    · rcases hg : groups m (n / 128) with _ | ⟨b, t⟩
      · rw [hg] at hx; simp at hx
      · rw [hg, List.dropLast_cons_cons] at hx
        rcases List.mem_cons.1 hx with rfl | hx
        · omega
        · exact ih (n / 128) (by omega) x (by rw [hg]; exact hx)
theorem groups_ne (m : Nat) (n : Int) : groups (m + 1) n ≠ [] := by unfold groups; split <;> simp
/-- What is cut short is no number. -/
theorem getR_long (l : List Int) (hl : l.length ≤ 9) (hb : ∀ x ∈ l, 128 ≤ x) : ∀ (q i : Nat) (v : Int), getR l 0 q i v = noNum := by
  intro q
  induction q with
  | zero => intro i v; rfl
  | succ q ih =>
    intro i v
    unfold getR
    split
    · rename_i h
      have hi : i < l.length := by omega
      have hx : rd l (0 + (i : Int)) = l[i] := by rw [show (0 : Int) + (i : Int) = (i : Int) by omega]; exact rd_lt hi
      have := hb l[i] (List.getElem_mem hi)
      rw [if_neg (by omega), if_neg (by omega)]
      exact ih _ _
    · rfl
/-- What is put is got again. -/
theorem getR_groups (l : List Int) : ∀ (m i : Nat) (x v : Nat), i + m = 10 → l.drop i = groups m (x : Int) → i ≤ l.length → v < 128 ^ i → 128 ^ i * x + v < 18446744073709551616 → (0 < i → 0 < x) → (m = 0 → False) →
    getR l 0 m i (v : Int) = (true, ((128 ^ i * x + v : Nat) : Int), (l.length : Int)) := by
  intro m
  induction m with
  | zero => intro i x v _ _ _ _ _ _ h; exact (h rfl).elim
  | succ m ih =>
    intro i x v hi hd hil hv hs hx _
    have hlt : i < l.length := by
      rcases Nat.lt_or_ge i l.length with h | h
      · exact h
      · rw [List.drop_eq_nil_of_le h] at hd
        exact (groups_ne m _ hd.symm).elim
    have hrd : rd l (0 + (i : Int)) = l[i] := by rw [show (0 : Int) + (i : Int) = (i : Int) by omega]; exact rd_lt hlt
    have hcons : l.drop i = l[i] :: l.drop (i + 1) := List.drop_eq_getElem_cons hlt
    have h9 : i = 9 → x ≤ 1 := by
      rintro rfl
      have : (128 : Nat) ^ 9 = 9223372036854775808 := by decide
      rw [this] at hs
      omega
    unfold getR
    rw [if_pos (by omega), hrd]
    rw [hcons] at hd
    unfold groups at hd
    by_cases hx2 : (x : Int) < 128
    · rw [if_pos hx2, List.cons.injEq] at hd
      obtain ⟨e1, e2⟩ := hd
      have hlen : l.length = i + 1 := by
        have := congrArg List.length e2
        simp at this
        omega
      rw [e1, if_neg (by omega), if_pos hx2, if_neg (by omega)]
      rw [show (x : Int) % 128 = (x : Int) by omega]
      have hs' : 2 ^ (7 * i) * x + v < 18446744073709551616 := by rw [pow128]; exact hs
      have e3 : (x : Int) * 2 ^ (7 * i) = ((2 ^ (7 * i) * x : Nat) : Int) := by rw [Int.natCast_mul, Int.natCast_pow, Int.mul_comm]; rfl
      rw [e3, u64_id (by omega) (by omega), bits_or_add (7 * i) v x (by rw [pow128]; exact hv) hs', pow128, hlen]
      simp
    · rw [if_neg hx2, List.cons.injEq] at hd
      obtain ⟨e1, e2⟩ := hd
      have hi9 : i ≠ 9 := fun h => by have := h9 h; omega
      have hm : m ≠ 0 := by omega
      rw [e1, if_neg (by omega), if_neg (by omega)]
      rw [show ((x : Int) % 128 + 128) % 128 = ((x % 128 : Nat) : Int) by omega]
      have hp : (128 : Nat) ^ (i + 1) = 128 ^ i * 128 := Nat.pow_succ 128 i
      have hpos : 0 < (128 : Nat) ^ i := Nat.pow_pos (by omega)
      have hdm : 128 ^ i * x = 128 ^ (i + 1) * (x / 128) + 128 ^ i * (x % 128) := by
        rw [hp, Nat.mul_assoc, ← Nat.mul_add, Nat.div_add_mod]
      have hs' : 2 ^ (7 * i) * (x % 128) + v < 18446744073709551616 := by rw [pow128]; omega
      have e3 : ((x % 128 : Nat) : Int) * 2 ^ (7 * i) = ((2 ^ (7 * i) * (x % 128) : Nat) : Int) := by rw [Int.natCast_mul, Int.natCast_pow, Int.mul_comm]; rfl
      rw [e3, u64_id (by omega) (by omega), bits_or_add (7 * i) v (x % 128) (by rw [pow128]; exact hv) hs', pow128]
      have hmod : 128 ^ i * (x % 128) + 128 ^ i ≤ 128 ^ (i + 1) := by
        rw [hp, ← Nat.mul_succ]
        exact Nat.mul_le_mul_left _ (by omega)
      rw [ih (i + 1) (x / 128) (128 ^ i * (x % 128) + v) (by omega) (by rw [e2]; congr 1) (by omega) (by omega) (by omega) (by omega) (by omega)]
      congr 2
      omega
theorem get_put (n : Int) (h0 : 0 ≤ n) (hu : n < 18446744073709551616) : getR (groups 10 n) 0 10 0 0 = (true, n, ((groups 10 n).length : Int)) := by
  have := getR_groups (groups 10 n) 10 0 n.toNat 0 (by omega) (by rw [Int.toNat_of_nonneg h0]; rfl) (by omega) (by omega) (by simp; omega) (by omega) (by omega)
  refine Eq.trans this ?_
  simp [Int.toNat_of_nonneg h0]
theorem get_cut (n : Int) (h0 : 0 ≤ n) : getR (groups 10 n).dropLast 0 10 0 0 = noNum := by
  refine getR_long _ ?_ (groups_init 10 n h0) _ _ _
  rw [List.length_dropLast]
  have := groups_length 10 n
  omega
/-- Folded and unfolded. -/
def foldV (a : Int) : Int := if a < 0 then -2 * a - 1 else 2 * a
def unfoldV (a : Int) : Int := if a % 2 = 1 then -(a / 2) - 1 else a / 2
theorem fold_val (a : Int) (h0 : -9223372036854775808 ≤ a) (h1 : a ≤ 9223372036854775807) : PFnExactFold.impl_Fold.f a = some (foldV a) := by
  unfold PFnExactFold.impl_Fold.f foldV
  by_cases h : a < 0
  · have e1 : IntKind.u64.wrap (a / 9223372036854775808) = 18446744073709551615 := by rw [u64_wrap]; omega
    rw [if_pos h, e1, xor_u64_ones (by rw [u64_wrap]; omega) (by rw [u64_wrap]; omega)]
    simp only [u64_wrap]
    congr 1
    omega
  · have e1 : IntKind.u64.wrap (a / 9223372036854775808) = 0 := by rw [u64_wrap]; omega
    rw [if_neg h, e1, xor_u64_zero (by rw [u64_wrap]; omega) (by rw [u64_wrap]; omega)]
    simp only [u64_wrap]
    congr 1
    omega
theorem unfold_val (a : Int) (h0 : 0 ≤ a) (h1 : a < 18446744073709551616) : PFnExactUnfold.impl_Unfold.f a = some (unfoldV a) := by
  unfold PFnExactUnfold.impl_Unfold.f unfoldV
  rw [and_u64_one, wrap64_id (n := a / 2) (by omega) (by omega), wrap64_id (n := a % 2) (by omega) (by omega), wrap64_id (n := -(a % 2)) (by omega) (by omega)]
  by_cases h : a % 2 = 1
  · rw [if_pos h, h, xor_i64_ones (by omega) (by omega)]
    congr 1
    omega
  · rw [if_neg h, show a % 2 = 0 by omega, Int.neg_zero, xor_i64_zero (by omega) (by omega)]
theorem unfold_range (a : Int) (h0 : 0 ≤ a) (h1 : a < 18446744073709551616) : -9223372036854775808 ≤ unfoldV a ∧ unfoldV a ≤ 9223372036854775807 := by unfold unfoldV; split <;> omega
theorem fold_range (a : Int) (h0 : -9223372036854775808 ≤ a) (h1 : a ≤ 9223372036854775807) : 0 ≤ foldV a ∧ foldV a < 18446744073709551616 := by unfold foldV; split <;> omega
theorem fold_unfold (a : Int) (h0 : 0 ≤ a) : foldV (unfoldV a) = a := by unfold foldV unfoldV; split <;> split <;> omega
theorem unfold_fold (a : Int) : unfoldV (foldV a) = a := by unfold foldV unfoldV; split <;> split <;> omega
end Go.Proofs.Ytjjaahdfjjomiaa.Wk
