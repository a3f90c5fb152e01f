/- Plain facts on the model's floating point numbers of 64 bits: what number a word stands for, in units of 2 ^ -1074, and how far a rounded sum, difference or product is from the true one; nothing of the program stands in them. -/
import Derived.Test.YtdijjadoneeadaaDoorFl
namespace Go.Proofs.YtdijjadoneeadaaDoor.Flv
open Go Ieee Go.Proofs.YtdijjadoneeadaaDoor.Fl
set_option linter.unusedVariables false
/-- A number with its sign. -/
def sg (s : Bool) (n : Nat) : Int := if s then -(n : Int) else (n : Int)
theorem signed_sg (s : Bool) (m a : Nat) : signed s m a = sg s (m * 2 ^ a) := by
  unfold signed sg
  rw [Nat.shiftLeft_eq]
/-- A cut is at most half a unit off, and right where nothing is cut off. -/
theorem cut_err (neg : Bool) (n drop : Nat) : 2 * (Toward.even.cut neg n drop * 2 ^ drop) ≤ 2 * n + 2 ^ drop ∧ 2 * n ≤ 2 * (Toward.even.cut neg n drop * 2 ^ drop) + 2 ^ drop ∧ ∀ k, n = k * 2 ^ drop → Toward.even.cut neg n drop = k := by
  unfold Toward.cut
  simp only [Nat.one_shiftLeft]
  by_cases c : drop ≤ n.log2 + 2
  · rw [Nat.min_eq_left c]
    have hg := Nat.two_pow_pos drop
    obtain ⟨G, hG⟩ : ∃ G, G = 2 ^ drop := ⟨_, rfl⟩
    rw [← hG] at hg ⊢
    have e := Nat.div_add_mod n G
    have lt := Nat.mod_lt n hg
    obtain ⟨low, hlow⟩ : ∃ low, low = n / G := ⟨_, rfl⟩
    obtain ⟨rest, hrest⟩ : ∃ rest, rest = n % G := ⟨_, rfl⟩
    rw [← hlow, ← hrest] at e ⊢
    rw [← hrest] at lt
    have comm : G * low = low * G := Nat.mul_comm _ _
    refine ⟨?_, ?_, ?_⟩
    · rcases hm : (decide (G < 2 * rest) || G == 2 * rest && low % 2 == 1) with _ | _
      · simp only [Bool.toNat_false, Nat.add_zero]
        omega
      · have hr : G ≤ 2 * rest := by
          rcases Bool.or_eq_true_iff.1 hm with h | h
          · have := of_decide_eq_true h
            omega
          · have := (Bool.and_eq_true_iff.1 h).1
            simp at this
            omega
        simp only [Bool.toNat_true, Nat.add_mul, Nat.one_mul]
        omega
    · rcases hm : (decide (G < 2 * rest) || G == 2 * rest && low % 2 == 1) with _ | _
      · have hr : 2 * rest ≤ G := by
          have := (Bool.or_eq_false_iff.1 hm).1
          have := of_decide_eq_false this
          omega
        simp only [Bool.toNat_false, Nat.add_zero]
        omega
      · simp only [Bool.toNat_true, Nat.add_mul, Nat.one_mul]
        omega
    · intro k hk
      have r0 : rest = 0 := by rw [hrest, hk, Nat.mul_mod_left]
      have l0 : low = k := by rw [hlow, hk, Nat.mul_div_cancel _ hg]
      rw [r0, l0]
      simp only [Nat.mul_zero]
      rw [show (decide (G < 0)) = false from decide_eq_false (by omega), show ((G == 0)) = false from by simp; omega]
      simp
  · rw [Nat.min_eq_right (by omega)]
    have h1 := @Nat.lt_log2_self n
    have h2 : 2 ^ (n.log2 + 2) = 2 ^ (n.log2 + 1) * 2 := by rw [show n.log2 + 2 = n.log2 + 1 + 1 from rfl, Nat.pow_succ]
    have h3 : 2 ^ (n.log2 + 2) ≤ 2 ^ drop := Nat.pow_le_pow_right (by decide) (by omega)
    rw [Nat.div_eq_of_lt (by omega), Nat.mod_eq_of_lt (by omega)]
    rw [show (decide (2 ^ (n.log2 + 2) < 2 * n)) = false from decide_eq_false (by omega), show ((2 ^ (n.log2 + 2) == 2 * n)) = false from by simp; omega]
    refine ⟨by simp, by simp; omega, fun k hk => ?_⟩
    simp only [Bool.false_and, Bool.or_self, Bool.toNat_false, Nat.add_zero]
    by_cases k0 : k = 0
    · exact k0.symm
    · have : 1 * 2 ^ drop ≤ k * 2 ^ drop := Nat.mul_le_mul_right _ (by omega)
      omega
/-- The word of a rung, read. -/
theorem read_word (neg : Bool) (q k : Nat) (hk : k ≤ 2 ^ 53) (hq : q = 0 ∨ 2 ^ 52 ≤ k) (hb : q ≤ 1990) :
    ∃ m u : Nat, double.read (double.word neg (q * 2 ^ 52 + k)) = .number neg m ((u : Int) - 1074) ∧ m * 2 ^ u = k * 2 ^ q := by
  have p52 : (2 : Nat) ^ 52 = 4503599627370496 := by decide
  have p53 : (2 : Nat) ^ 53 = 2 * 2 ^ 52 := by decide
  have p63 : (2 : Nat) ^ 63 = 2048 * 2 ^ 52 := by decide
  have hq2 : q * 2 ^ 52 ≤ 1990 * 2 ^ 52 := Nat.mul_le_mul_right _ hb
  obtain ⟨r, hr⟩ : ∃ r, r = q * 2 ^ 52 + k := ⟨_, rfl⟩
  have hlt : r < 2047 * 2 ^ 52 := by omega
  have hs : double.word neg r / 2 ^ 63 % 2 = (if neg then 1 else 0) ∧ double.word neg r % 2 ^ 63 = r := by
    unfold Format.word
    rw [double_sign]
    cases neg
    · simp only [Bool.false_eq_true, if_false]
      exact ⟨by rw [Nat.div_eq_of_lt (by omega)], Nat.mod_eq_of_lt (by omega)⟩
    · simp only [if_true]
      refine ⟨?_, by rw [Nat.add_mod_left, Nat.mod_eq_of_lt (by omega)]⟩
      rw [Nat.add_div_left _ (by omega), Nat.div_eq_of_lt (by omega)]
  have hneg : (double.word neg r / 2 ^ 63 % 2 == 1) = neg := by
    rw [hs.1]
    cases neg <;> rfl
  rw [← hr]
  unfold Format.read
  rw [double_sign, double_binade, double_inf, double_least, hneg, hs.2]
  by_cases c1 : r < 2 ^ 52
  · refine ⟨r, 0, by rw [if_pos c1]; rfl, ?_⟩
    rcases hq with h0 | h0
    · rw [hr, h0]
      omega
    · omega
  · have hq' : q = 0 → 2 ^ 52 ≤ k := by
      intro h0
      rw [h0] at hr
      omega
    have k52 : 2 ^ 52 ≤ k := by
      rcases hq with h0 | h0
      · exact hq' h0
      · exact h0
    by_cases c2 : k = 2 ^ 53
    · have d1 : r / 2 ^ 52 = q + 2 := by
        rw [hr, c2, p53, Nat.mul_comm q, Nat.mul_comm 2, ← Nat.mul_add, Nat.mul_div_cancel_left _ (Nat.two_pow_pos 52)]
      have d2 : r % 2 ^ 52 = 0 := by
        rw [hr, c2, p53, Nat.mul_comm q, Nat.mul_comm 2, ← Nat.mul_add, Nat.mul_mod_right]
      refine ⟨2 ^ 52, q + 1, ?_, ?_⟩
      · rw [if_neg c1, if_pos hlt, d1, d2]
        first | (congr 1; done) | (congr 1; omega)
      · rw [c2, ← Nat.pow_add, ← Nat.pow_add]
        congr 1
        omega
    · obtain ⟨j, hj⟩ : ∃ j, k = 2 ^ 52 + j := ⟨k - 2 ^ 52, by omega⟩
      have d1 : r / 2 ^ 52 = q + 1 := by
        rw [hr, hj, ← Nat.add_assoc, ← Nat.succ_mul, Nat.mul_comm, Nat.mul_add_div (Nat.two_pow_pos 52), Nat.div_eq_of_lt (by omega)]
      have d2 : r % 2 ^ 52 = j := by
        rw [hr, hj, ← Nat.add_assoc, ← Nat.succ_mul, Nat.mul_comm, Nat.mul_add_mod, Nat.mod_eq_of_lt (by omega)]
      refine ⟨k, q, ?_, rfl⟩
      rw [if_neg c1, if_pos hlt, d1, d2, ← hj]
      first | (congr 1; done) | (congr 1; omega)
theorem rung_le {q k : Nat} (hq : q ≤ 1922) (hk : k ≤ 2 ^ 53) : q * 2 ^ 52 + k ≤ 2047 * 2 ^ 52 := by
  have h2 : q * 2 ^ 52 ≤ 1922 * 2 ^ 52 := Nat.mul_le_mul_right _ hq
  have p53 : (2 : Nat) ^ 53 = 2 * 2 ^ 52 := by decide
  rw [p53] at hk
  obtain ⟨Z, hZ⟩ : ∃ Z, Z = 2 ^ 52 := ⟨_, rfl⟩
  rw [← hZ] at h2 hk ⊢
  omega
/-- A number at most 2 ^ B, rounded: at most half of 2 ^ (B - 52) off, and right where it is whole and B at most 52. -/
theorem nearest_val {B mag u c : Nat} (neg : Bool) (place : Int) (hp : place = (u : Int) - (c : Int)) (h : mag * 2 ^ u ≤ 2 ^ (B + c)) (hB : B ≤ 900) :
    ∃ m v : Nat, double.read (double.nearest neg mag place) = .number neg m ((v : Int) - 1074) ∧ (mag = 0 → m * 2 ^ v = 0) ∧
      2 * (m * 2 ^ v * 2 ^ c) ≤ 2 * (mag * 2 ^ u * 2 ^ 1074) + 2 ^ (B + 1022 + c) ∧ 2 * (mag * 2 ^ u * 2 ^ 1074) ≤ 2 * (m * 2 ^ v * 2 ^ c) + 2 ^ (B + 1022 + c) ∧
      (B ≤ 52 → ∀ M, mag * 2 ^ u = M * 2 ^ c → m * 2 ^ v = M * 2 ^ 1074) := by
  obtain ⟨P, hP⟩ : ∃ P, P = 1074 := ⟨_, rfl⟩
  rw [← hP]
  unfold Format.nearest
  by_cases m0 : mag = 0
  · rw [if_pos m0]
    obtain ⟨m, v, e1, e2⟩ := read_word neg 0 0 (by omega) (Or.inl rfl) (by omega)
    rw [Nat.zero_mul] at e1 e2
    have z : m * 2 ^ v = 0 := e2
    refine ⟨m, v, e1, fun _ => z, ?_, ?_, ?_⟩
    · rw [z, Nat.zero_mul, Nat.mul_zero]
      exact Nat.zero_le _
    · rw [m0, Nat.zero_mul, Nat.zero_mul, Nat.mul_zero]
      exact Nat.zero_le _
    · intro _ M hM
      rw [m0, Nat.zero_mul] at hM
      have : M = 0 := by
        rcases Nat.mul_eq_zero.1 hM.symm with h0 | h0
        · exact h0
        · have := Nat.two_pow_pos c
          omega
      rw [z, this, Nat.zero_mul]
  rw [if_neg m0]
  simp only []
  obtain ⟨L, hL⟩ : ∃ L, L = mag.log2 := ⟨_, rfl⟩
  have l0 : 2 ^ L ≤ mag := by rw [hL]; exact Nat.log2_self_le m0
  have l1 : mag < 2 ^ (L + 1) := by rw [hL]; exact Nat.lt_log2_self
  rw [← hL, double_frac, double_least, double_binade, double_inf]
  have he : L + u ≤ B + c := by
    refine le_of_pow_le ?_
    rw [Nat.pow_add]
    exact Nat.le_trans (Nat.mul_le_mul_right _ l0) h
  obtain ⟨last, hlast⟩ : ∃ last, last = max (place + (L : Int) - ((52 : Nat) : Int)) (-1074) := ⟨_, rfl⟩
  rw [← hlast]
  obtain ⟨q, hq⟩ : ∃ q, q = (last - (-1074)).toNat := ⟨_, rfl⟩
  obtain ⟨a, ha⟩ : ∃ a, a = (place - last).toNat := ⟨_, rfl⟩
  obtain ⟨d, hd⟩ : ∃ d, d = (last - place).toNat := ⟨_, rfl⟩
  rw [← hq, ← ha, ← hd, Nat.shiftLeft_eq]
  have hq1 : q ≤ B + 1022 := by omega
  have rel : u + P + d = a + q + c := by omega
  obtain ⟨k, hk⟩ : ∃ k, k = Toward.even.cut neg (mag * 2 ^ a) d := ⟨_, rfl⟩
  obtain ⟨E1, E2, E3⟩ := cut_err neg (mag * 2 ^ a) d
  rw [← hk] at E1 E2 E3 ⊢
  have k53 : k ≤ 2 ^ 53 := by
    rw [hk]
    refine cut_le neg _ d 53 ?_
    have h2 : mag * 2 ^ a ≤ 2 ^ (L + 1) * 2 ^ a := Nat.mul_le_mul_right _ (by omega)
    rw [← Nat.pow_add] at h2
    exact Nat.le_trans h2 (pow_le (by omega))
  have k52 : q = 0 ∨ 2 ^ 52 ≤ k := by
    by_cases q0 : q = 0
    · exact Or.inl q0
    · right
      have h2 : 2 ^ L * 2 ^ a ≤ mag * 2 ^ a := Nat.mul_le_mul_right _ l0
      rw [← Nat.pow_add, show L + a = 52 + d from by omega, Nat.pow_add] at h2
      have h3 : 2 * 2 ^ 52 * 2 ^ d ≤ (2 * k + 1) * 2 ^ d := by
        rw [Nat.add_mul, Nat.one_mul, Nat.mul_assoc, Nat.mul_assoc]
        omega
      have h4 := Nat.le_of_mul_le_mul_right h3 (Nat.two_pow_pos d)
      omega
  have hmin : min (q * 2 ^ 52 + k) (2047 * 2 ^ 52) = q * 2 ^ 52 + k := by
    exact Nat.min_eq_left (rung_le (by omega) k53)
  rw [hmin]
  obtain ⟨m, v, e1, e2⟩ := read_word neg q k k53 k52 (by omega)
  have key1 : mag * 2 ^ u * 2 ^ P * 2 ^ d = mag * 2 ^ a * 2 ^ (q + c) := by
    rw [Nat.mul_assoc, Nat.mul_assoc, Nat.mul_assoc, ← Nat.pow_add, ← Nat.pow_add, ← Nat.pow_add]
    congr 2
    omega
  have key2 : m * 2 ^ v * 2 ^ c * 2 ^ d = k * 2 ^ d * 2 ^ (q + c) := by
    rw [e2, Nat.pow_add]
    ac_rfl
  have hqc : 2 ^ (q + c) ≤ 2 ^ (B + 1022 + c) := pow_le (by omega)
  refine ⟨m, v, e1, fun h0 => absurd h0 m0, ?_, ?_, ?_⟩
  · have h2 := Nat.mul_le_mul_right (2 ^ (q + c)) E1
    rw [Nat.add_mul, Nat.mul_assoc 2, Nat.mul_assoc 2 _ (2 ^ (q + c)), ← key2, ← key1] at h2
    have h3 : 2 * (m * 2 ^ v * 2 ^ c) * 2 ^ d ≤ (2 * (mag * 2 ^ u * 2 ^ P) + 2 ^ (q + c)) * 2 ^ d := by
      rw [Nat.add_mul, Nat.mul_assoc 2, Nat.mul_assoc 2, Nat.mul_comm (2 ^ (q + c))]
      exact h2
    have h4 := Nat.le_of_mul_le_mul_right h3 (Nat.two_pow_pos d)
    omega
  · have h2 := Nat.mul_le_mul_right (2 ^ (q + c)) E2
    rw [Nat.add_mul, Nat.mul_assoc 2, Nat.mul_assoc 2 _ (2 ^ (q + c)), ← key2, ← key1] at h2
    have h3 : 2 * (mag * 2 ^ u * 2 ^ P) * 2 ^ d ≤ (2 * (m * 2 ^ v * 2 ^ c) + 2 ^ (q + c)) * 2 ^ d := by
      rw [Nat.add_mul, Nat.mul_assoc 2, Nat.mul_assoc 2, Nat.mul_comm (2 ^ (q + c))]
      exact h2
    have h4 := Nat.le_of_mul_le_mul_right h3 (Nat.two_pow_pos d)
    omega
  · intro b52 M hM
    have q1 : q ≤ P := by omega
    have h2 : mag * 2 ^ a * 2 ^ (q + c) = M * 2 ^ (P - q) * 2 ^ d * 2 ^ (q + c) := by
      rw [← key1, hM, Nat.mul_assoc, Nat.mul_assoc, Nat.mul_assoc, Nat.mul_assoc, ← Nat.pow_add, ← Nat.pow_add, ← Nat.pow_add, ← Nat.pow_add]
      congr 2
      omega
    have h3 := Nat.eq_of_mul_eq_mul_right (Nat.two_pow_pos _) h2
    have h4 := E3 _ h3
    rw [e2, h4, Nat.mul_assoc, ← Nat.pow_add, show P - q + q = P from by omega]
end Go.Proofs.YtdijjadoneeadaaDoor.Flv
