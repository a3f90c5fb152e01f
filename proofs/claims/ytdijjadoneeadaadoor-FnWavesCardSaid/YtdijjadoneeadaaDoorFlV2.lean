/- Plain facts on the model's floating point numbers of 64 bits: sums, differences, products and comparisons, by the numbers that the words stand for; nothing of the program stands in them. -/
import Derived.Test.YtdijjadoneeadaaDoorFlV
namespace Go.Proofs.YtdijjadoneeadaaDoor.Flv
open Go Ieee Go.Proofs.YtdijjadoneeadaaDoor.Fl
set_option linter.unusedVariables false
/-- v is the number of the word x, in units of 2 ^ -1074. -/
def Val (x : Nat) (v : Int) : Prop := ∃ (s : Bool) (m u : Nat), double.read x = .number s m ((u : Int) - 1074) ∧ v = sg s (m * 2 ^ u)
/-- One, and the unit of a rounding error, in those units. -/
def S : Int := 2 ^ 1074
def E : Int := 2 ^ 1045
theorem cast_pow (n : Nat) : ((2 ^ n : Nat) : Int) = 2 ^ n := by
  rw [Int.natCast_pow]
  rfl
theorem S_nat : S = ((2 ^ 1074 : Nat) : Int) := (cast_pow 1074).symm
theorem E_nat : E = ((2 ^ 1045 : Nat) : Int) := (cast_pow 1045).symm
theorem pow_split (a b c : Nat) (h : a + b = c) : (2 : Int) ^ c = 2 ^ a * 2 ^ b := by rw [← h, Int.pow_add]
theorem S_eq : S = 536870912 * E := by
  have h : ∀ P Q : Nat, 29 + Q = P → (2 : Int) ^ P = 536870912 * 2 ^ Q := fun P Q e => by
    rw [pow_split 29 Q P e]
    rfl
  exact h 1074 1045 rfl
theorem qpos {Q : Nat} (P : Nat) (h : Q = 2 ^ P) : 0 < Q := by
  rw [h]
  exact Nat.two_pow_pos P
theorem npow_split (a b c : Nat) (h : a + b = c) : (2 : Nat) ^ c = 2 ^ a * 2 ^ b := by rw [← h, Nat.pow_add]
theorem E_pos : 0 < E := by
  have h : ∀ P : Nat, (0 : Int) < 2 ^ P := fun P => by
    rw [← cast_pow]
    exact Int.ofNat_lt.2 (Nat.two_pow_pos _)
  exact h 1045
theorem S_pos : 0 < S := by
  have := E_pos
  rw [S_eq]
  omega
theorem sg_abs (s : Bool) (n : Nat) : (sg s n).natAbs = n := by
  unfold sg
  split <;> omega
theorem Val.of_sm {B x : Nat} (h : Sm B x) (hB : B ≤ 1000) : ∃ v, Val x v ∧ v.natAbs ≤ 2 ^ (B + 1074) := by
  obtain ⟨s, m, u, e, hm, _⟩ := read_sm h hB
  exact ⟨_, ⟨s, m, u, e, rfl⟩, by rw [sg_abs]; exact hm⟩
theorem Val.one {x : Nat} {v w : Int} (h : Val x v) (k : Val x w) : v = w := by
  obtain ⟨s, m, u, e, rfl⟩ := h
  obtain ⟨t, n, a, e', rfl⟩ := k
  rw [e] at e'
  injection e' with h1 h2 h3
  have : u = a := by omega
  rw [h1, h2, this]
theorem sg_mul (s t : Bool) (m n : Nat) : sg s m * sg t n = sg (s ^^ t) (m * n) := by
  cases s <;> cases t <;> simp [sg, Int.neg_mul, Int.mul_neg]
theorem sg_neg (s : Bool) (n : Nat) : sg (!s) n = -sg s n := by
  cases s <;> simp [sg]
theorem sg_scale (s : Bool) (m a : Nat) : sg s m * ((2 ^ a : Nat) : Int) = sg s (m * 2 ^ a) := by
  unfold sg
  split
  · rw [Int.neg_mul, ← Int.natCast_mul]
  · rw [← Int.natCast_mul]
/-- The sum of two numbers. -/
theorem sum_val {B : Nat} {s t : Bool} {m n u v : Nat} (hB : B ≤ 900) (hs : (sg s (m * 2 ^ u) + sg t (n * 2 ^ v)).natAbs ≤ 2 ^ (B + 1074)) :
    ∃ r z, ((Datum.number s m ((u : Int) - 1074)).sum (.number t n ((v : Int) - 1074))).map double.write = some r ∧ Val r z ∧
      2 * z ≤ 2 * (sg s (m * 2 ^ u) + sg t (n * 2 ^ v)) + ((2 ^ (B + 1022) : Nat) : Int) ∧ 2 * (sg s (m * 2 ^ u) + sg t (n * 2 ^ v)) ≤ 2 * z + ((2 ^ (B + 1022) : Nat) : Int) ∧
      (B ≤ 52 → ∀ M : Int, sg s (m * 2 ^ u) + sg t (n * 2 ^ v) = M * ((2 ^ 1074 : Nat) : Int) → z = M * ((2 ^ 1074 : Nat) : Int)) := by
  obtain ⟨b, hb⟩ : ∃ b : Nat, b = min u v := ⟨_, rfl⟩
  have hbase : min ((u : Int) - 1074) ((v : Int) - 1074) = (b : Int) - 1074 := by omega
  obtain ⟨T, hT⟩ : ∃ T : Int, T = signed s m (u - b) + signed t n (v - b) := ⟨_, rfl⟩
  obtain ⟨X, hX⟩ : ∃ X : Int, X = sg s (m * 2 ^ u) + sg t (n * 2 ^ v) := ⟨_, rfl⟩
  have hTX : X = T * ((2 ^ b : Nat) : Int) := by
    rw [hX, hT, signed_sg, signed_sg, Int.add_mul, sg_scale, sg_scale, Nat.mul_assoc, Nat.mul_assoc, ← Nat.pow_add, ← Nat.pow_add, show u - b + b = u from by omega, show v - b + b = v from by omega]
  rw [← hX] at hs ⊢
  obtain ⟨neg, hneg⟩ : ∃ neg, neg = (if T = 0 then s && t else decide (T < 0)) := ⟨_, rfl⟩
  have hmag : T.natAbs * 2 ^ b = X.natAbs := by
    rw [hTX, Int.natAbs_mul, Int.natAbs_natCast]
  obtain ⟨k, w, e, z0, g1, g2, g3⟩ := nearest_val (B := B) (mag := T.natAbs) (u := b) (c := 1074) neg ((b : Int) - ((1074 : Nat) : Int)) rfl (by rw [hmag]; exact hs) hB
  obtain ⟨Q, hQ⟩ : ∃ Q, Q = 2 ^ 1074 := ⟨_, rfl⟩
  obtain ⟨N, hN⟩ : ∃ N, N = k * 2 ^ w := ⟨_, rfl⟩
  obtain ⟨F, hF⟩ : ∃ F, F = 2 ^ (B + 1022) := ⟨_, rfl⟩
  have hF2 : 2 ^ (B + 1022 + 1074) = F * Q := by rw [hF, hQ, Nat.pow_add]
  rw [hmag, ← hN, ← hQ, hF2] at g1 g2
  rw [← hN] at z0
  have Qp : 0 < Q := qpos 1074 hQ
  have g1' : 2 * N ≤ 2 * X.natAbs + F := by
    refine Nat.le_of_mul_le_mul_right (c := Q) ?_ Qp
    rw [Nat.add_mul, Nat.mul_assoc, Nat.mul_assoc]
    exact g1
  have g2' : 2 * X.natAbs ≤ 2 * N + F := by
    refine Nat.le_of_mul_le_mul_right (c := Q) ?_ Qp
    rw [Nat.add_mul, Nat.mul_assoc, Nat.mul_assoc]
    exact g2
  have sgn : (X.natAbs = 0 ∧ N = 0 ∧ X = 0) ∨ (X = sg neg X.natAbs) := by
    by_cases T0 : T = 0
    · left
      have x0 : X = 0 := by rw [hTX, T0, Int.zero_mul]
      exact ⟨by rw [x0]; rfl, z0 (by rw [T0]; rfl), x0⟩
    · right
      have b2 : (0 : Int) < ((2 ^ b : Nat) : Int) := Int.ofNat_lt.2 (Nat.two_pow_pos _)
      rw [hneg, if_neg T0]
      by_cases Tn : T < 0
      · have xn : X < 0 := by rw [hTX]; exact Int.mul_neg_of_neg_of_pos Tn b2
        rw [decide_eq_true Tn]
        show X = -((X.natAbs : Nat) : Int)
        omega
      · have xp : 0 ≤ X := by rw [hTX]; exact Int.mul_nonneg (by omega) (by omega)
        rw [decide_eq_false Tn]
        show X = ((X.natAbs : Nat) : Int)
        omega
  have hw : ((Datum.number s m ((u : Int) - 1074)).sum (.number t n ((v : Int) - 1074))).map double.write = some (double.nearest neg T.natAbs ((b : Int) - ((1074 : Nat) : Int))) := by
    unfold Datum.sum
    simp only [Option.map_some, Format.write]
    rw [hbase, show ((u : Int) - 1074 - ((b : Int) - 1074)).toNat = u - b from by omega, show ((v : Int) - 1074 - ((b : Int) - 1074)).toNat = v - b from by omega, ← hT, ← hneg]
    rfl
  refine ⟨_, sg neg N, hw, ⟨neg, k, w, e, by rw [hN]⟩, ?_, ?_, ?_⟩
  · rcases sgn with ⟨h1, h2, h3⟩ | h1
    · rw [h2, h3]
      unfold sg
      split <;> omega
    · rw [h1]
      have : (sg neg X.natAbs).natAbs = X.natAbs := sg_abs _ _
      unfold sg at h1 ⊢
      split <;> omega
  · rcases sgn with ⟨h1, h2, h3⟩ | h1
    · rw [h2, h3]
      unfold sg
      split <;> omega
    · rw [h1]
      unfold sg at h1 ⊢
      split <;> omega
  · intro b52 M hM
    have hM2 : X.natAbs = M.natAbs * Q := by rw [hM, Int.natAbs_mul, Int.natAbs_natCast, hQ]
    have hN2 : N = M.natAbs * Q := by
      have := g3 b52 M.natAbs (by rw [hmag, hM2, hQ])
      rw [hN, hQ]
      exact this
    rcases sgn with ⟨h1, h2, h3⟩ | h1
    · rw [h2, ← hM, h3]
      cases neg <;> rfl
    · rw [hN2, ← hM2, ← h1, hM]
theorem add_val {B x y : Nat} {v w : Int} (hx : Val x v) (hy : Val y w) (hB : B ≤ 900) (hs : (v + w).natAbs ≤ 2 ^ (B + 1074)) :
    ∃ r z, double.add x y = some r ∧ Val r z ∧ 2 * z ≤ 2 * (v + w) + ((2 ^ (B + 1022) : Nat) : Int) ∧ 2 * (v + w) ≤ 2 * z + ((2 ^ (B + 1022) : Nat) : Int) ∧
      (B ≤ 52 → ∀ M : Int, v + w = M * ((2 ^ 1074 : Nat) : Int) → z = M * ((2 ^ 1074 : Nat) : Int)) := by
  obtain ⟨s, m, u, e1, rfl⟩ := hx
  obtain ⟨t, n, a, e2, rfl⟩ := hy
  unfold Format.add
  rw [e1, e2]
  exact sum_val hB hs
theorem sub_val {B x y : Nat} {v w : Int} (hx : Val x v) (hy : Val y w) (hB : B ≤ 900) (hs : (v - w).natAbs ≤ 2 ^ (B + 1074)) :
    ∃ r z, double.sub x y = some r ∧ Val r z ∧ 2 * z ≤ 2 * (v - w) + ((2 ^ (B + 1022) : Nat) : Int) ∧ 2 * (v - w) ≤ 2 * z + ((2 ^ (B + 1022) : Nat) : Int) ∧
      (B ≤ 52 → ∀ M : Int, v - w = M * ((2 ^ 1074 : Nat) : Int) → z = M * ((2 ^ 1074 : Nat) : Int)) := by
  obtain ⟨s, m, u, e1, rfl⟩ := hx
  obtain ⟨t, n, a, e2, rfl⟩ := hy
  have e : sg s (m * 2 ^ u) - sg t (n * 2 ^ a) = sg s (m * 2 ^ u) + sg (!t) (n * 2 ^ a) := by rw [sg_neg, Int.sub_eq_add_neg]
  rw [e] at hs ⊢
  unfold Format.sub
  rw [e1, e2]
  exact sum_val hB hs
/-- The product of two numbers. -/
theorem mul_val {B x y : Nat} {v w : Int} (hx : Val x v) (hy : Val y w) (hB : B ≤ 900) (hs : (v * w).natAbs ≤ 2 ^ (B + 2148)) :
    ∃ r z, double.mul x y = some r ∧ Val r z ∧ 2 * (z * ((2 ^ 1074 : Nat) : Int)) ≤ 2 * (v * w) + ((2 ^ (B + 1022) : Nat) : Int) * ((2 ^ 1074 : Nat) : Int) ∧ 2 * (v * w) ≤ 2 * (z * ((2 ^ 1074 : Nat) : Int)) + ((2 ^ (B + 1022) : Nat) : Int) * ((2 ^ 1074 : Nat) : Int) ∧
      (B ≤ 52 → ∀ M : Int, v * w = M * (((2 ^ 1074 : Nat) : Int) * ((2 ^ 1074 : Nat) : Int)) → z = M * ((2 ^ 1074 : Nat) : Int)) := by
  obtain ⟨s, m, u, e1, rfl⟩ := hx
  obtain ⟨t, n, a, e2, rfl⟩ := hy
  obtain ⟨X, hX⟩ : ∃ X, X = m * n * 2 ^ (u + a) := ⟨_, rfl⟩
  have hv : sg s (m * 2 ^ u) * sg t (n * 2 ^ a) = sg (s ^^ t) X := by
    rw [sg_mul, hX, Nat.pow_add]
    congr 1
    ac_rfl
  rw [hv] at hs ⊢
  rw [sg_abs] at hs
  obtain ⟨k, b, e, z0, g1, g2, g3⟩ := nearest_val (B := B) (mag := m * n) (u := u + a) (c := 2148) (s ^^ t) (((u : Int) - 1074) + ((a : Int) - 1074)) (by omega) (by rw [← hX]; exact hs) hB
  obtain ⟨Q, hQ⟩ : ∃ Q, Q = 2 ^ 1074 := ⟨_, rfl⟩
  have hQ2 : 2 ^ 2148 = Q * Q := by rw [npow_split 1074 1074 2148 rfl, ← hQ]
  obtain ⟨N, hN⟩ : ∃ N, N = k * 2 ^ b := ⟨_, rfl⟩
  obtain ⟨F, hF⟩ : ∃ F, F = 2 ^ (B + 1022) := ⟨_, rfl⟩
  have hF2 : 2 ^ (B + 1022 + 2148) = F * Q * Q := by rw [Nat.pow_add, hQ2, ← hF, Nat.mul_assoc]
  rw [← hX, ← hN, ← hQ, hQ2, hF2] at g1 g2
  rw [← hN, ← hX, ← hQ, hQ2] at g3
  rw [← hQ, ← hF]
  have Qp : 0 < Q := qpos 1074 hQ
  have g1' : 2 * (N * Q) ≤ 2 * X + F * Q := by
    refine Nat.le_of_mul_le_mul_right (c := Q) ?_ Qp
    rw [Nat.add_mul, Nat.mul_assoc, Nat.mul_assoc, Nat.mul_assoc]
    exact g1
  have g2' : 2 * X ≤ 2 * (N * Q) + F * Q := by
    refine Nat.le_of_mul_le_mul_right (c := Q) ?_ Qp
    rw [Nat.add_mul, Nat.mul_assoc, Nat.mul_assoc, Nat.mul_assoc]
    exact g2
  have hw : ((Datum.number s m ((u : Int) - 1074)).product (.number t n ((a : Int) - 1074))).map double.write = some (double.nearest (s ^^ t) (m * n) (((u : Int) - 1074) + ((a : Int) - 1074))) := rfl
  have hz : sg (s ^^ t) N * ((Q : Nat) : Int) = sg (s ^^ t) (N * Q) := by
    unfold sg
    split
    · rw [Int.neg_mul, ← Int.natCast_mul]
    · rw [← Int.natCast_mul]
  refine ⟨_, sg (s ^^ t) N, by unfold Format.mul; rw [e1, e2]; exact hw, ⟨_, k, b, e, by rw [hN]⟩, ?_, ?_, ?_⟩
  · rw [hz, ← Int.natCast_mul]
    unfold sg
    split <;> omega
  · rw [hz, ← Int.natCast_mul]
    unfold sg
    split <;> omega
  · intro b52 M hM
    have hM2 : X = M.natAbs * (Q * Q) := by
      have := congrArg Int.natAbs hM
      rw [sg_abs, Int.natAbs_mul, ← Int.natCast_mul, Int.natAbs_natCast] at this
      exact this
    have hN2 : N = M.natAbs * Q := g3 b52 M.natAbs hM2
    have QQ : (0 : Int) < (Q : Int) := Int.ofNat_lt.2 Qp
    have h1 : sg (s ^^ t) N * (Q : Int) = M * (Q : Int) * (Q : Int) := by
      rw [hz, hN2, Nat.mul_assoc, ← hM2, hM, Int.mul_assoc]
    exact Int.eq_of_mul_eq_mul_right (by omega) h1
/-- A whole number as a float. -/
theorem ofInt_val (n : Int) (h : n.natAbs ≤ 2 ^ 52) : Val (floatOfInt .f64 n) (n * S) := by
  obtain ⟨k, w, e, z0, g1, g2, g3⟩ := nearest_val (B := 52) (mag := n.natAbs) (u := 0) (c := 0) (decide (n < 0)) 0 rfl (by simpa using h) (by omega)
  have h1 := g3 (Nat.le_refl _) n.natAbs rfl
  obtain ⟨d, hd⟩ : ∃ d, d = decide (n < 0) := ⟨_, rfl⟩
  have hs : n = sg d n.natAbs := by
    unfold sg
    split <;> rename_i hn
    · have := of_decide_eq_true (hd ▸ hn)
      omega
    · have : ¬ n < 0 := fun h0 => hn (hd ▸ decide_eq_true h0)
      omega
  have h3 : sg d (n.natAbs * 2 ^ 1074) = sg d n.natAbs * S := (sg_scale d n.natAbs 1074).symm.trans (congrArg (sg d n.natAbs * ·) S_nat.symm)
  exact ⟨d, k, w, by rw [hd]; exact e, (congrArg (· * S) hs).trans (h3.symm.trans (congrArg (sg d) h1.symm))⟩
/-- Two words compare as their numbers do. -/
theorem order_val {x y : Nat} {v w : Int} (hx : Val x v) (hy : Val y w) : double.order x y = some (compare v w) := by
  obtain ⟨s, m, u, e1, rfl⟩ := hx
  obtain ⟨t, n, a, e2, rfl⟩ := hy
  unfold Format.order
  rw [e1, e2]
  obtain ⟨b, hb⟩ : ∃ b : Nat, b = min u a := ⟨_, rfl⟩
  have hbase : min ((u : Int) - 1074) ((a : Int) - 1074) = (b : Int) - 1074 := by omega
  simp only [Datum.order]
  rw [hbase, show ((u : Int) - 1074 - ((b : Int) - 1074)).toNat = u - b from by omega, show ((a : Int) - 1074 - ((b : Int) - 1074)).toNat = a - b from by omega, signed_sg, signed_sg]
  have k1 : sg s (m * 2 ^ u) = sg s (m * 2 ^ (u - b)) * ((2 ^ b : Nat) : Int) := by rw [sg_scale, Nat.mul_assoc, ← Nat.pow_add, show u - b + b = u from by omega]
  have k2 : sg t (n * 2 ^ a) = sg t (n * 2 ^ (a - b)) * ((2 ^ b : Nat) : Int) := by rw [sg_scale, Nat.mul_assoc, ← Nat.pow_add, show a - b + b = a from by omega]
  rw [k1, k2]
  have b2 : (0 : Int) < ((2 ^ b : Nat) : Int) := Int.ofNat_lt.2 (Nat.two_pow_pos _)
  congr 1
  obtain ⟨p, hp⟩ : ∃ p, p = sg s (m * 2 ^ (u - b)) := ⟨_, rfl⟩
  obtain ⟨q, hq⟩ : ∃ q, q = sg t (n * 2 ^ (a - b)) := ⟨_, rfl⟩
  rw [← hp, ← hq]
  have c1 : p < q ↔ p * ((2 ^ b : Nat) : Int) < q * ((2 ^ b : Nat) : Int) := (Int.mul_lt_mul_right b2).symm
  have c2 : p = q ↔ p * ((2 ^ b : Nat) : Int) = q * ((2 ^ b : Nat) : Int) := ⟨fun h => by rw [h], fun h => Int.eq_of_mul_eq_mul_right (by omega) h⟩
  show compareOfLessAndEq p q = compareOfLessAndEq _ _
  unfold compareOfLessAndEq
  simp only [← c1, ← c2]
end Go.Proofs.YtdijjadoneeadaaDoor.Flv
