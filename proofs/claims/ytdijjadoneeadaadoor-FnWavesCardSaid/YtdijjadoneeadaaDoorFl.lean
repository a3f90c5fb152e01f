/- Plain facts on the model's floating point numbers of 64 bits: a number at most 2 ^ B in size stays bounded under sum, difference, product and quotient by 256, so none of these ends in an infinity or in no number; nothing of the program stands in them. -/
import Derived.Laws.FloatArith
namespace Go.Proofs.YtdijjadoneeadaaDoor.Fl
open Go Ieee
set_option linter.unusedVariables false
theorem pow_le {a b : Nat} (h : a ≤ b) : 2 ^ a ≤ 2 ^ b := Nat.pow_le_pow_right (by decide) h
theorem pow_lt {a b : Nat} (h : a < b) : 2 ^ a < 2 ^ b := Nat.pow_lt_pow_right (by decide) h
theorem le_of_pow_le {a b : Nat} (h : 2 ^ a ≤ 2 ^ b) : a ≤ b := (Nat.pow_le_pow_iff_right (by decide)).1 h
/-- The rung of 2 ^ B. -/
def R (B : Nat) : Nat := (B + 1023) * 2 ^ 52
/-- A word whose number is at most 2 ^ B in size. -/
def Sm (B x : Nat) : Prop := x % 2 ^ 63 ≤ R B ∧ x < 2 ^ 64
theorem Sm.up {B C x : Nat} (h : Sm B x) (hc : B ≤ C) : Sm C x := ⟨Nat.le_trans h.1 (Nat.mul_le_mul_right _ (by omega)), h.2⟩
theorem double_binade : double.binade = 2 ^ 52 := rfl
theorem double_least : double.leastPlace = -1074 := rfl
theorem double_sign : double.signWeight = 2 ^ 63 := rfl
theorem double_inf : double.infRung = 2047 * 2 ^ 52 := rfl
theorem double_frac : double.fractionBits = 52 := rfl
/-- What a bounded word stands for. -/
theorem read_sm {B x : Nat} (h : Sm B x) (hB : B ≤ 1000) : ∃ (s : Bool) (m u : Nat), double.read x = .number s m ((u : Int) - 1074) ∧ m * 2 ^ u ≤ 2 ^ (B + 1074) ∧ m < 2 ^ 53 := by
  obtain ⟨h1, h2⟩ := h
  unfold R at h1
  obtain ⟨r, hr⟩ : ∃ r, r = x % 2 ^ 63 := ⟨_, rfl⟩
  rw [← hr] at h1
  unfold Format.read
  rw [double_sign, double_binade, double_inf, double_least, ← hr]
  have p52 : (2 : Nat) ^ 52 = 4503599627370496 := by decide
  by_cases c1 : r < 2 ^ 52
  · refine ⟨_, r, 0, by rw [if_pos c1]; rfl, ?_, by omega⟩
    have : 2 ^ 52 ≤ 2 ^ (B + 1074) := pow_le (by omega)
    omega
  · have c2 : r < 2047 * 2 ^ 52 := by
      have : (B + 1023) * 2 ^ 52 ≤ 2023 * 2 ^ 52 := Nat.mul_le_mul_right _ (by omega)
      omega
    have d1 := Nat.div_add_mod r (2 ^ 52)
    have d2 := Nat.mod_lt r (show 0 < 2 ^ 52 by decide)
    obtain ⟨q, hq⟩ : ∃ q, q = r / 2 ^ 52 := ⟨_, rfl⟩
    obtain ⟨t, ht⟩ : ∃ t, t = r % 2 ^ 52 := ⟨_, rfl⟩
    rw [← hq, ← ht] at d1
    rw [← ht] at d2
    have hq1 : 1 ≤ q := by
      rw [p52] at d1 d2 c1
      omega
    refine ⟨_, 2 ^ 52 + t, q - 1, by rw [if_neg c1, if_pos c2, ← hq, ← ht]; first | (congr 1; done) | (congr 1; omega), ?_, by omega⟩
    by_cases e : q = B + 1023
    · have t0 : t = 0 := by
        rw [e, Nat.mul_comm] at d1
        omega
      rw [t0, e, Nat.add_zero, ← Nat.pow_add]
      exact pow_le (by omega)
    · have hq2 : q ≤ B + 1022 := by
        rw [p52] at d1 d2 h1
        omega
      have a1 : (2 ^ 52 + t) * 2 ^ (q - 1) ≤ 2 ^ 53 * 2 ^ (q - 1) := Nat.mul_le_mul_right _ (by omega)
      rw [← Nat.pow_add] at a1
      exact Nat.le_trans a1 (pow_le (by omega))
/-- A number cut to the nearest whole one. -/
theorem cut_le (neg : Bool) (n drop K : Nat) (h : n ≤ 2 ^ (K + drop)) : Toward.even.cut neg n drop ≤ 2 ^ K := by
  unfold Toward.cut
  simp only [Nat.one_shiftLeft]
  have hK := Nat.two_pow_pos K
  by_cases c : drop ≤ n.log2 + 2
  · rw [Nat.min_eq_left c]
    have hg := Nat.two_pow_pos drop
    rw [Nat.pow_add] at h
    by_cases e : n = 2 ^ K * 2 ^ drop
    · rw [e, Nat.mul_div_cancel _ hg, Nat.mul_mod_left]
      simp only [Nat.mul_zero]
      rw [show (decide (2 ^ drop < 0)) = false from decide_eq_false (by omega), show ((2 ^ drop == 0)) = false from by simp]
      simp
    · have h1 : n / 2 ^ drop < 2 ^ K := (Nat.div_lt_iff_lt_mul hg).2 (by omega)
      have h2 := Bool.toNat_le (decide (2 ^ drop < 2 * (n % 2 ^ drop)) || 2 ^ drop == 2 * (n % 2 ^ drop) && n / 2 ^ drop % 2 == 1)
      omega
  · rw [Nat.min_eq_right (by omega)]
    have h1 := @Nat.lt_log2_self n
    have h2 : 2 ^ (n.log2 + 2) = 2 ^ (n.log2 + 1) * 2 := by rw [show n.log2 + 2 = n.log2 + 1 + 1 from rfl, Nat.pow_succ]
    rw [Nat.div_eq_of_lt (by omega), Nat.mod_eq_of_lt (by omega)]
    rw [show (decide (2 ^ (n.log2 + 2) < 2 * n)) = false from decide_eq_false (by omega), show ((2 ^ (n.log2 + 2) == 2 * n)) = false from by simp; omega]
    simp
theorem word_sm {B r : Nat} (neg : Bool) (h : r ≤ R B) (hB : B ≤ 1000) : Sm B (double.word neg r) := by
  have hR : R B ≤ 2023 * 2 ^ 52 := Nat.mul_le_mul_right _ (by omega)
  have p : (2 : Nat) ^ 63 = 2048 * 2 ^ 52 := by decide
  have p' : (2 : Nat) ^ 64 = 2 ^ 63 + 2 ^ 63 := by decide
  unfold Format.word Sm
  rw [double_sign]
  split
  · rw [Nat.add_mod_left, Nat.mod_eq_of_lt (by omega)]
    exact ⟨h, by omega⟩
  · rw [Nat.mod_eq_of_lt (by omega)]
    exact ⟨h, by omega⟩
/-- A number at most 2 ^ B, rounded, is at most 2 ^ B. -/
theorem nearest_sm {B mag u c : Nat} (neg : Bool) (place : Int) (hp : place = (u : Int) - (c : Int)) (h : mag * 2 ^ u ≤ 2 ^ (B + c)) (hB : B ≤ 1000) : Sm B (double.nearest neg mag place) := by
  unfold Format.nearest
  by_cases m0 : mag = 0
  · rw [if_pos m0]
    exact word_sm neg (Nat.zero_le _) hB
  rw [if_neg m0]
  simp only []
  obtain ⟨L, hL⟩ : ∃ L, L = mag.log2 := ⟨_, rfl⟩
  have l0 : 2 ^ L ≤ mag := by rw [hL]; exact Nat.log2_self_le m0
  have l1 : mag < 2 ^ (L + 1) := by rw [hL]; exact Nat.lt_log2_self
  rw [← hL, double_frac, double_least, double_binade, double_inf]
  have he : L + u ≤ B + c := by
    refine le_of_pow_le ?_
    rw [Nat.pow_add]
    exact Nat.le_trans (Nat.mul_le_mul_right _ l0) h
  refine word_sm neg (Nat.le_trans (Nat.min_le_left _ _) ?_) hB
  unfold R
  have p53 : (2 : Nat) ^ 53 = 2 * 2 ^ 52 := by decide
  by_cases c1 : -1074 ≤ place + (L : Int) - 52
  · rw [Int.max_eq_left (by omega)]
    obtain ⟨last, hl⟩ : ∃ last, last = place + (L : Int) - 52 := ⟨_, rfl⟩
    rw [show place + (L : Int) - ((52 : Nat) : Int) = last from by omega]
    obtain ⟨a, ha⟩ : ∃ a, a = (place - last).toNat := ⟨_, rfl⟩
    obtain ⟨d, hd⟩ : ∃ d, d = (last - place).toNat := ⟨_, rfl⟩
    obtain ⟨q, hq⟩ : ∃ q, q = (last - (-1074)).toNat := ⟨_, rfl⟩
    rw [← ha, ← hd, ← hq, Nat.shiftLeft_eq]
    by_cases e : L + u = B + c
    · have hm : mag = 2 ^ L := by
        have h2 : mag * 2 ^ u ≤ 2 ^ L * 2 ^ u := by rw [← Nat.pow_add, e]; exact h
        have := Nat.le_of_mul_le_mul_right h2 (Nat.two_pow_pos u)
        omega
      have hk := cut_le neg (mag * 2 ^ a) d 52 (by rw [hm, ← Nat.pow_add]; exact pow_le (by omega))
      have h9 : q * 2 ^ 52 ≤ (B + 1022) * 2 ^ 52 := Nat.mul_le_mul_right _ (by omega)
      rw [show B + 1023 = (B + 1022) + 1 from rfl, Nat.succ_mul]
      exact Nat.add_le_add h9 hk
    · have hk := cut_le neg (mag * 2 ^ a) d 53 (by
        have h2 : mag * 2 ^ a ≤ 2 ^ (L + 1) * 2 ^ a := Nat.mul_le_mul_right _ (by omega)
        rw [← Nat.pow_add] at h2
        exact Nat.le_trans h2 (pow_le (by omega)))
      have h9 : q * 2 ^ 52 ≤ (B + 1021) * 2 ^ 52 := Nat.mul_le_mul_right _ (by omega)
      rw [show B + 1023 = (B + 1021) + 2 from rfl, Nat.add_mul, ← p53]
      exact Nat.add_le_add h9 hk
  · rw [Int.max_eq_right (by omega)]
    obtain ⟨a, ha⟩ : ∃ a, a = (place - (-1074)).toNat := ⟨_, rfl⟩
    obtain ⟨d, hd⟩ : ∃ d, d = ((-1074 : Int) - place).toNat := ⟨_, rfl⟩
    rw [← ha, ← hd, Nat.shiftLeft_eq, show ((-1074 : Int) - (-1074)).toNat = 0 from rfl]
    have hk := cut_le neg (mag * 2 ^ a) d 52 (by
      have h2 : mag * 2 ^ a ≤ 2 ^ (L + 1) * 2 ^ a := Nat.mul_le_mul_right _ (by omega)
      rw [← Nat.pow_add] at h2
      exact Nat.le_trans h2 (pow_le (by omega)))
    rw [Nat.zero_mul, Nat.zero_add]
    refine Nat.le_trans hk ?_
    have h9 : 1 * 2 ^ 52 ≤ (B + 1023) * 2 ^ 52 := Nat.mul_le_mul_right _ (by omega)
    rwa [Nat.one_mul] at h9
theorem signed_abs (s : Bool) (m a : Nat) : (signed s m a).natAbs = m * 2 ^ a := by
  unfold signed
  rw [Nat.shiftLeft_eq]
  split <;> omega
/-- The sum of two numbers at most 2 ^ B. -/
theorem sum_sm {B : Nat} {s t : Bool} {m n u v : Nat} (hm : m * 2 ^ u ≤ 2 ^ (B + 1074)) (hn : n * 2 ^ v ≤ 2 ^ (B + 1074)) (hB : B ≤ 900) :
    ∃ r, ((Datum.number s m ((u : Int) - 1074)).sum (.number t n ((v : Int) - 1074))).map double.write = some r ∧ Sm (B + 1) r := by
  refine ⟨_, rfl, ?_⟩
  simp only [Format.write]
  obtain ⟨b, hb⟩ : ∃ b : Nat, b = min u v := ⟨_, rfl⟩
  have hbase : min ((u : Int) - 1074) ((v : Int) - 1074) = (b : Int) - 1074 := by omega
  rw [hbase, show ((u : Int) - 1074 - ((b : Int) - 1074)).toNat = u - b from by omega, show ((v : Int) - 1074 - ((b : Int) - 1074)).toNat = v - b from by omega]
  refine nearest_sm (u := b) (c := 1074) _ _ rfl ?_ (by omega)
  have h1 := Int.natAbs_add_le (signed s m (u - b)) (signed t n (v - b))
  rw [signed_abs, signed_abs] at h1
  have h2 := Nat.mul_le_mul_right (2 ^ b) h1
  rw [Nat.add_mul, Nat.mul_assoc, Nat.mul_assoc, ← Nat.pow_add, ← Nat.pow_add, show u - b + b = u from by omega, show v - b + b = v from by omega] at h2
  rw [show B + 1 + 1074 = B + 1074 + 1 from by omega, Nat.pow_succ]
  omega
theorem add_sm {B x y : Nat} (hx : Sm B x) (hy : Sm B y) (hB : B ≤ 900) : ∃ r, double.add x y = some r ∧ Sm (B + 1) r := by
  obtain ⟨s, m, u, e1, h1, _⟩ := read_sm hx (by omega)
  obtain ⟨t, n, v, e2, h2, _⟩ := read_sm hy (by omega)
  unfold Format.add
  rw [e1, e2]
  exact sum_sm h1 h2 hB
theorem sub_sm {B x y : Nat} (hx : Sm B x) (hy : Sm B y) (hB : B ≤ 900) : ∃ r, double.sub x y = some r ∧ Sm (B + 1) r := by
  obtain ⟨s, m, u, e1, h1, _⟩ := read_sm hx (by omega)
  obtain ⟨t, n, v, e2, h2, _⟩ := read_sm hy (by omega)
  unfold Format.sub
  rw [e1, e2]
  exact sum_sm h1 h2 hB
theorem mul_sm {A B x y : Nat} (hx : Sm A x) (hy : Sm B y) (hA : A ≤ 400) (hB : B ≤ 400) : ∃ r, double.mul x y = some r ∧ Sm (A + B) r := by
  obtain ⟨s, m, u, e1, h1, _⟩ := read_sm hx (by omega)
  obtain ⟨t, n, v, e2, h2, _⟩ := read_sm hy (by omega)
  unfold Format.mul
  rw [e1, e2]
  refine ⟨_, rfl, nearest_sm (u := u + v) (c := 2148) _ _ (by omega) ?_ (by omega)⟩
  rw [Nat.pow_add, show m * n * (2 ^ u * 2 ^ v) = (m * 2 ^ u) * (n * 2 ^ v) from by ac_rfl, show A + B + 2148 = (A + 1074) + (B + 1074) from by omega, Nat.pow_add 2 (A + 1074)]
  exact Nat.mul_le_mul h1 h2
theorem ofInt_sm {B : Nat} (n : Int) (h : n.natAbs ≤ 2 ^ B) (hB : B ≤ 900) : Sm B (floatOfInt .f64 n) := by
  show Sm B (double.nearest (n < 0) n.natAbs 0)
  exact nearest_sm (u := 0) (c := 0) _ _ rfl (by simpa using h) (by omega)
/-- 256, as the model's word. -/
def w256 : Nat := 4643211215818981376
theorem read_256 : double.read w256 = .number false (2 ^ 52) (-44) := by decide
theorem log2_52 : (2 ^ 52 : Nat).log2 = 52 := by decide
theorem div_sm {B x : Nat} (hx : Sm (B + 7) x) (hB : B ≤ 400) : ∃ r, double.div x w256 = some r ∧ Sm B r := by
  obtain ⟨s, m, u, e1, h1, h53⟩ := read_sm hx (by omega)
  unfold Format.div
  rw [e1, read_256]
  simp only [Datum.quotient, double_frac]
  rw [if_neg (by decide)]
  refine ⟨_, rfl, ?_⟩
  simp only [Format.write]
  rw [log2_52]
  have hlog : m.log2 ≤ 52 := by
    by_cases m0 : m = 0
    · rw [m0]
      decide
    · have h2 := Nat.log2_self_le m0
      have h3 : 2 ^ m.log2 < 2 ^ 53 := by omega
      have := (Nat.pow_lt_pow_iff_right (a := 2) (by decide)).1 h3
      omega
  obtain ⟨k, hk⟩ : ∃ k, k = 52 + 2 + 52 - m.log2 := ⟨_, rfl⟩
  rw [← hk, Nat.shiftLeft_eq]
  obtain ⟨D, hD⟩ : ∃ D, D = m * 2 ^ k := ⟨_, rfl⟩
  rw [← hD]
  refine nearest_sm (u := u) (c := 1031 + k) _ _ (by omega) ?_ (by omega)
  have key : (2 * (D / 2 ^ 52) + (D % 2 ^ 52 != 0).toNat) * 2 ^ 50 ≤ D := by
    by_cases m0 : m = 0
    · rw [hD, m0]
      simp
    · have h2 := Nat.log2_self_le m0
      have h3 : 2 ^ m.log2 * 2 ^ k ≤ D := by rw [hD]; exact Nat.mul_le_mul_right _ h2
      rw [← Nat.pow_add] at h3
      have h4 : 2 ^ 106 ≤ D := Nat.le_trans (pow_le (by omega)) h3
      have h5 := Bool.toNat_le (D % 2 ^ 52 != 0)
      have h6 := Nat.div_add_mod D (2 ^ 52)
      have p50 : (2 : Nat) ^ 50 = 1125899906842624 := by decide
      have p52 : (2 : Nat) ^ 52 = 4503599627370496 := by decide
      have p106 : (2 : Nat) ^ 106 = 81129638414606681695789005144064 := by decide
      rw [p52] at h5 h6 ⊢
      rw [p106] at h4
      rw [p50]
      omega
  have h7 := Nat.mul_le_mul_right (2 ^ u) key
  have h8 : D * 2 ^ u ≤ 2 ^ (B + 7 + 1074) * 2 ^ k := by
    rw [hD, Nat.mul_right_comm]
    exact Nat.mul_le_mul_right _ h1
  rw [← Nat.pow_add] at h8
  have h9 := Nat.le_trans h7 h8
  rw [Nat.mul_right_comm] at h9
  have h10 : 2 ^ (B + 7 + 1074 + k) = 2 ^ (B + (1031 + k)) * 2 ^ 50 := by rw [← Nat.pow_add]; congr 1; omega
  rw [h10] at h9
  exact Nat.le_of_mul_le_mul_right h9 (Nat.two_pow_pos 50)
theorem cut_zero_le (neg : Bool) (n drop K : Nat) (h : n ≤ 2 ^ (K + drop)) : Toward.zero.cut neg n drop ≤ 2 ^ K := by
  refine Nat.le_trans ?_ (cut_le neg n drop K h)
  unfold Toward.cut
  simp
/-- A bounded number is whole within the integers of 64 bits. -/
theorem toInt_sm {B x : Nat} (h : Sm B x) (hB : B ≤ 62) : ∃ n : Int, floatToIntVal .f64 x .i64 = some n ∧ n.natAbs ≤ 2 ^ B := by
  obtain ⟨s, m, u, e1, h1, h53⟩ := read_sm h (by omega)
  have hc : Toward.zero.cut s (m <<< ((u : Int) - 1074).toNat) (-((u : Int) - 1074)).toNat ≤ 2 ^ B := by
    refine cut_zero_le _ _ _ _ ?_
    rw [Nat.shiftLeft_eq]
    by_cases c : 1074 ≤ u
    · rw [show (-((u : Int) - 1074)).toNat = 0 from by omega, Nat.add_zero]
      obtain ⟨P, hP⟩ : ∃ P, P = 1074 := ⟨_, rfl⟩
      have h2 : m * 2 ^ (u - P) * 2 ^ P ≤ 2 ^ B * 2 ^ P := by
        rw [Nat.mul_assoc, ← Nat.pow_add, ← Nat.pow_add, show u - P + P = u from by omega, hP]
        exact h1
      rw [show ((u : Int) - 1074).toNat = u - P from by omega]
      exact Nat.le_of_mul_le_mul_right h2 (Nat.two_pow_pos P)
    · rw [show ((u : Int) - 1074).toNat = 0 from by omega, Nat.pow_zero, Nat.mul_one]
      have h2 : m * 2 ^ u ≤ 2 ^ (B + (-((u : Int) - 1074)).toNat) * 2 ^ u := by
        rw [← Nat.pow_add, show B + (-((u : Int) - 1074)).toNat + u = B + 1074 from by omega]
        exact h1
      exact Nat.le_of_mul_le_mul_right h2 (Nat.two_pow_pos u)
  obtain ⟨q, hq⟩ : ∃ q, q = Toward.zero.cut s (m <<< ((u : Int) - 1074).toNat) (-((u : Int) - 1074)).toNat := ⟨_, rfl⟩
  rw [← hq] at hc
  have h62 : 2 ^ B ≤ 2 ^ 62 := pow_le hB
  have p62 : (2 : Nat) ^ 62 = 4611686018427387904 := by decide
  have hab := signed_abs s q 0
  rw [Nat.pow_zero, Nat.mul_one] at hab
  refine ⟨signed s q 0, ?_, by omega⟩
  have e2 : (FloatKind.f64.decode x).toInt .zero = some (signed s q 0) := by
    show (double.read x).toInt .zero = _
    rw [e1]
    simp only [Datum.toInt, Datum.integral]
    rw [← hq]
  unfold floatToIntVal
  rw [e2]
  simp only []
  rw [if_pos]
  have i1 : IntKind.i64.min = -9223372036854775808 := by decide
  have i2 : IntKind.i64.max = 9223372036854775807 := by decide
  rw [i1, i2]
  omega
end Go.Proofs.YtdijjadoneeadaaDoor.Fl
