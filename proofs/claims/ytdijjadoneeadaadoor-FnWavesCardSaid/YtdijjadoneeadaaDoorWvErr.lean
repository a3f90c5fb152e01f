/- Plain facts on the waves of sixteen samples: the waves of two lists, added, lie near the waves of their sum; the first wave and number 8 are sums without an error; nothing of the program stands in them. -/
import Derived.Test.YtdijjadoneeadaaDoorFlV2
import Derived.Test.YtdijjadoneeadaaDoorWv
namespace Go.Proofs.YtdijjadoneeadaaDoor.Wv
open Go Ieee Go.Proofs.YtdijjadoneeadaaDoor.Fl Go.Proofs.YtdijjadoneeadaaDoor.Flv
set_option linter.unusedVariables false
theorem bound24 {x : Int} (c : Nat) (T : Int) (hT : T = ((2 ^ c : Nat) : Int)) (h1 : x ≤ 16777216 * T) (h2 : -(16777216 * T) ≤ x) : x.natAbs ≤ 2 ^ (24 + c) := by
  have e : ((2 ^ (24 + c) : Nat) : Int) = 16777216 * T := by
    rw [Nat.pow_add, Int.natCast_mul, ← hT]
    rfl
  omega
theorem err24 : ((2 ^ (24 + 1022) : Nat) : Int) = 2 * E := by
  have h : ∀ P Q R : Nat, 24 + P = R → 1 + Q = R → ((2 ^ (24 + P) : Nat) : Int) = 2 * 2 ^ Q := fun P Q R e1 e2 => by
    rw [cast_pow, e1, pow_split 1 Q R e2]
    rfl
  exact h 1022 1045 1046 rfl rfl
theorem cast_sq (P R : Nat) (h : P + P = R) : ((2 ^ P : Nat) : Int) * ((2 ^ P : Nat) : Int) = ((2 ^ R : Nat) : Int) := by rw [← h, Nat.pow_add, Int.natCast_mul]
theorem cast_two (P Q R : Nat) (h : P + Q = R) : ((2 ^ P * 2 ^ Q : Nat) : Int) = ((2 ^ R : Nat) : Int) := by rw [← h, Nat.pow_add]
theorem add24 {x y : Nat} {v w : Int} (hx : Val x v) (hy : Val y w) (h1 : v + w ≤ 16777216 * S) (h2 : -(16777216 * S) ≤ v + w) :
    ∃ z, double.add x y = some (addT x y) ∧ Val (addT x y) z ∧ z ≤ v + w + E ∧ v + w ≤ z + E ∧ ∀ M : Int, v + w = M * S → z = M * S := by
  obtain ⟨r, z, e, hz, g1, g2, g3⟩ := add_val (B := 24) hx hy (by omega) (bound24 1074 S S_nat h1 h2)
  have er : addT x y = r := by unfold addT; rw [e]; rfl
  rw [err24] at g1 g2
  rw [er]
  refine ⟨z, e, hz, by omega, by omega, fun M hM => ?_⟩
  have := g3 (by omega) M (by rw [← S_nat]; exact hM)
  rw [← S_nat] at this
  exact this
theorem sub24 {x y : Nat} {v w : Int} (hx : Val x v) (hy : Val y w) (h1 : v - w ≤ 16777216 * S) (h2 : -(16777216 * S) ≤ v - w) :
    ∃ z, double.sub x y = some (subT x y) ∧ Val (subT x y) z ∧ z ≤ v - w + E ∧ v - w ≤ z + E ∧ ∀ M : Int, v - w = M * S → z = M * S := by
  obtain ⟨r, z, e, hz, g1, g2, g3⟩ := sub_val (B := 24) hx hy (by omega) (bound24 1074 S S_nat h1 h2)
  have er : subT x y = r := by unfold subT; rw [e]; rfl
  rw [err24] at g1 g2
  rw [er]
  refine ⟨z, e, hz, by omega, by omega, fun M hM => ?_⟩
  have := g3 (by omega) M (by rw [← S_nat]; exact hM)
  rw [← S_nat] at this
  exact this
theorem mul24 {x y : Nat} {v w : Int} (hx : Val x v) (hy : Val y w) (h1 : v * w ≤ 16777216 * (S * S)) (h2 : -(16777216 * (S * S)) ≤ v * w) :
    ∃ z, Val (mulT x y) z ∧ z * S ≤ v * w + E * S ∧ v * w ≤ z * S + E * S ∧ ∀ M : Int, v * w = M * (S * S) → z = M * S := by
  have hSS : S * S = ((2 ^ 2148 : Nat) : Int) := (congr (congrArg HMul.hMul S_nat) S_nat).trans (cast_sq 1074 2148 rfl)
  obtain ⟨r, z, e, hz, g1, g2, g3⟩ := mul_val (B := 24) hx hy (by omega) (bound24 2148 (S * S) hSS h1 h2)
  have er : mulT x y = r := by unfold mulT; rw [e]; rfl
  rw [err24, ← S_nat, Int.mul_assoc] at g1 g2
  rw [er]
  refine ⟨z, hz, by omega, by omega, fun M hM => ?_⟩
  have := g3 (by omega) M (by rw [← S_nat]; exact hM)
  rw [← S_nat] at this
  exact this
theorem abs_mul {a b x y : Int} (hx1 : -a ≤ x) (hx2 : x ≤ a) (hy1 : -b ≤ y) (hy2 : y ≤ b) : -(a * b) ≤ x * y ∧ x * y ≤ a * b := by
  have h := Nat.mul_le_mul (show x.natAbs ≤ a.natAbs by omega) (show y.natAbs ≤ b.natAbs by omega)
  rw [← Int.natAbs_mul, ← Int.natAbs_mul] at h
  have hab : 0 ≤ a * b := Int.mul_nonneg (by omega) (by omega)
  omega
/-- Three numbers, the third of them near the sum of the two. -/
def Qt (D M : Int) (x y z : Nat) : Prop :=
  ∃ u v w : Int, Val x u ∧ Val y v ∧ Val z w ∧ (-(M * S) ≤ u ∧ u ≤ M * S) ∧ (-(M * S) ≤ v ∧ v ≤ M * S) ∧ (-(M * S) ≤ w ∧ w ≤ M * S) ∧ -(D * E) ≤ w - u - v ∧ w - u - v ≤ D * E
theorem E_le_S : E ≤ S := by
  have := E_pos
  rw [S_eq]
  omega
theorem cap {M : Int} (T : Int) (hT : 0 ≤ T) (h : M ≤ 16777216) : M * T ≤ 16777216 * T := Int.mul_le_mul_of_nonneg_right h hT
theorem Qt.mul {D M P : Int} {x y z p : Nat} (h : Qt D M x y z) (hp : Val p P) (p1 : -S ≤ P) (p2 : P ≤ S) (hD : 0 ≤ D) (hM : 0 ≤ M) (hM2 : M ≤ 4194304) : Qt (D + 3) (M + 1) (mulT x p) (mulT y p) (mulT z p) := by
  obtain ⟨u, v, w, hu, hv, hw, ⟨u1, u2⟩, ⟨v1, v2⟩, ⟨w1, w2⟩, d1, d2⟩ := h
  have Sp := S_pos
  have Ep := E_pos
  have ES := E_le_S
  have SS : 0 ≤ S * S := Int.mul_nonneg (by omega) (by omega)
  have c := cap (S * S) SS (show M ≤ 16777216 by omega)
  have au := abs_mul u1 u2 p1 p2
  have av := abs_mul v1 v2 p1 p2
  have aw := abs_mul w1 w2 p1 p2
  have ad := abs_mul d1 d2 p1 p2
  rw [Int.mul_assoc] at au av aw
  rw [Int.sub_mul, Int.sub_mul] at ad
  obtain ⟨a, ha, a1, a2, _⟩ := mul24 hu hp (by omega) (by omega)
  obtain ⟨b, hb, b1, b2, _⟩ := mul24 hv hp (by omega) (by omega)
  obtain ⟨e, he, e1, e2, _⟩ := mul24 hw hp (by omega) (by omega)
  have ESS : E * S ≤ S * S := Int.mul_le_mul_of_nonneg_right ES (by omega)
  have low : ∀ {t q : Int}, t * S ≤ q + E * S → q ≤ M * (S * S) → t ≤ (M + 1) * S := fun {t q} k1 k2 => by
    refine Int.le_of_mul_le_mul_right (a := S) ?_ Sp
    rw [Int.mul_assoc, Int.add_mul, Int.one_mul]
    omega
  have high : ∀ {t q : Int}, q ≤ t * S + E * S → -(M * (S * S)) ≤ q → -((M + 1) * S) ≤ t := fun {t q} k1 k2 => by
    refine Int.le_of_mul_le_mul_right (a := S) ?_ Sp
    rw [Int.neg_mul, Int.mul_assoc, Int.add_mul, Int.one_mul]
    omega
  refine ⟨a, b, e, ha, hb, he, ⟨high a2 au.1, low a1 au.2⟩, ⟨high b2 av.1, low b1 av.2⟩, ⟨high e2 aw.1, low e1 aw.2⟩, ?_, ?_⟩
  · refine Int.le_of_mul_le_mul_right (a := S) ?_ Sp
    rw [Int.neg_mul, Int.sub_mul, Int.sub_mul, Int.add_mul, Int.add_mul, Int.mul_assoc 3]
    omega
  · refine Int.le_of_mul_le_mul_right (a := S) ?_ Sp
    rw [Int.sub_mul, Int.sub_mul, Int.add_mul, Int.add_mul, Int.mul_assoc 3]
    omega
theorem Qt.add {D1 D2 M1 M2 : Int} {x y z x' y' z' : Nat} (h : Qt D1 M1 x y z) (k : Qt D2 M2 x' y' z') (hM : M1 + M2 ≤ 16777216) : Qt (D1 + D2 + 3) (M1 + M2 + 1) (addT x x') (addT y y') (addT z z') := by
  obtain ⟨u, v, w, hu, hv, hw, ⟨u1, u2⟩, ⟨v1, v2⟩, ⟨w1, w2⟩, d1, d2⟩ := h
  obtain ⟨u', v', w', hu', hv', hw', ⟨u1', u2'⟩, ⟨v1', v2'⟩, ⟨w1', w2'⟩, d1', d2'⟩ := k
  have Sp := S_pos
  have ES := E_le_S
  have c := cap S (by omega) hM
  rw [Int.add_mul] at c
  obtain ⟨a, _, ha, a1, a2, _⟩ := add24 hu hu' (by omega) (by omega)
  obtain ⟨b, _, hb, b1, b2, _⟩ := add24 hv hv' (by omega) (by omega)
  obtain ⟨e, _, he, e1, e2, _⟩ := add24 hw hw' (by omega) (by omega)
  refine ⟨a, b, e, ha, hb, he, ⟨?_, ?_⟩, ⟨?_, ?_⟩, ⟨?_, ?_⟩, ?_, ?_⟩ <;> simp only [Int.add_mul, Int.one_mul] <;> omega
theorem Qt.sub {D1 D2 M1 M2 : Int} {x y z x' y' z' : Nat} (h : Qt D1 M1 x y z) (k : Qt D2 M2 x' y' z') (hM : M1 + M2 ≤ 16777216) : Qt (D1 + D2 + 3) (M1 + M2 + 1) (subT x x') (subT y y') (subT z z') := by
  obtain ⟨u, v, w, hu, hv, hw, ⟨u1, u2⟩, ⟨v1, v2⟩, ⟨w1, w2⟩, d1, d2⟩ := h
  obtain ⟨u', v', w', hu', hv', hw', ⟨u1', u2'⟩, ⟨v1', v2'⟩, ⟨w1', w2'⟩, d1', d2'⟩ := k
  have Sp := S_pos
  have ES := E_le_S
  have c := cap S (by omega) hM
  rw [Int.add_mul] at c
  obtain ⟨a, _, ha, a1, a2, _⟩ := sub24 hu hu' (by omega) (by omega)
  obtain ⟨b, _, hb, b1, b2, _⟩ := sub24 hv hv' (by omega) (by omega)
  obtain ⟨e, _, he, e1, e2, _⟩ := sub24 hw hw' (by omega) (by omega)
  refine ⟨a, b, e, ha, hb, he, ⟨?_, ?_⟩, ⟨?_, ?_⟩, ⟨?_, ?_⟩, ?_, ?_⟩ <;> simp only [Int.add_mul, Int.one_mul] <;> omega
/-- Three waves so. -/
def Qw (D M : Int) (x y z : Nat × Nat) : Prop := Qt D M x.1 y.1 z.1 ∧ Qt D M x.2 y.2 z.2
theorem tw_val (k : Nat) : (∃ P, Val (tw k).1 P ∧ -S ≤ P ∧ P ≤ S) ∧ ∃ P, Val (tw k).2 P ∧ -S ≤ P ∧ P ≤ S := by
  have go : ∀ x, Sm 0 x → ∃ P, Val x P ∧ -S ≤ P ∧ P ≤ S := fun x hx => by
    obtain ⟨v, hv, hb⟩ := Val.of_sm hx (by omega)
    rw [Nat.zero_add] at hb
    have hS := S_nat
    exact ⟨v, hv, by omega, by omega⟩
  exact ⟨go _ (tw_small k).1, go _ (tw_small k).2⟩
theorem Qt.eqv {D M D' M' : Int} {x y z : Nat} (h : Qt D M x y z) (hD : D = D') (hM : M = M') : Qt D' M' x y z := hD ▸ hM ▸ h
theorem bf_err {D M : Int} {xa xb ya yb za zb : Nat × Nat} (k : Nat) (ha : Qw D M xa ya za) (hb : Qw D M xb yb zb) (hD : 0 ≤ D) (hM : 0 ≤ M) (hM2 : M ≤ 4194304) :
    Qw (3 * D + 12) (3 * M + 4) (upT xa xb (tw k)) (upT ya yb (tw k)) (upT za zb (tw k)) ∧ Qw (3 * D + 12) (3 * M + 4) (loT xa xb (tw k)) (loT ya yb (tw k)) (loT za zb (tw k)) := by
  obtain ⟨⟨P, hP, p1, p2⟩, R, hR, r1, r2⟩ := tw_val k
  have m1 := hb.1.mul hP p1 p2 hD hM hM2
  have m2 := hb.2.mul hR r1 r2 hD hM hM2
  have m3 := hb.1.mul hR r1 r2 hD hM hM2
  have m4 := hb.2.mul hP p1 p2 hD hM hM2
  have re := m1.sub m2 (by omega)
  have im := m3.add m4 (by omega)
  exact ⟨⟨(ha.1.add re (by omega)).eqv (by omega) (by omega), (ha.2.add im (by omega)).eqv (by omega) (by omega)⟩, ⟨(ha.1.sub re (by omega)).eqv (by omega) (by omega), (ha.2.sub im (by omega)).eqv (by omega) (by omega)⟩⟩
theorem stg_err {D M : Int} {h : Nat} {X Y Z : Nat → Nat × Nat} (hh : H4 h) (hQ : ∀ i, i < 16 → Qw D M (X i) (Y i) (Z i)) (hD : 0 ≤ D) (hM : 0 ≤ M) (hM2 : M ≤ 4194304) :
    ∀ i, i < 16 → Qw (3 * D + 12) (3 * M + 4) (stg h X i) (stg h Y i) (stg h Z i) := by
  intro i hi
  unfold stg
  have k1 : i % (2 * h) < h → i + h < 16 := by rcases hh with rfl | rfl | rfl | rfl <;> omega
  by_cases c : i % (2 * h) < h
  · rw [if_pos c, if_pos c, if_pos c]
    exact (bf_err _ (hQ i hi) (hQ _ (k1 c)) hD hM hM2).1
  · rw [if_neg c, if_neg c, if_neg c]
    exact (bf_err _ (hQ (i - h) (by omega)) (hQ i hi) hD hM hM2).2
/-- The waves of a sum, beside the sums of the waves. -/
theorem waves_err {a b c : List Int} (ha : ∀ i, -16383 ≤ a.getD i 0 ∧ a.getD i 0 ≤ 16383) (hb : ∀ i, -16383 ≤ b.getD i 0 ∧ b.getD i 0 ≤ 16383) (hc : ∀ i, i < 16 → c.getD i 0 = a.getD i 0 + b.getD i 0) :
    ∀ i, i < 16 → Qw 480 4194304 (waves a i) (waves b i) (waves c i) := by
  have h0 : ∀ i, i < 16 → Qw 0 32768 (st a 0 i) (st b 0 i) (st c 0 i) := by
    intro i hi
    have Sp := S_pos
    have a0 := ha (rev i)
    have b0 := hb (rev i)
    have c0 := hc (rev i) (rev_lt i)
    have big : ∀ n : Int, -32767 ≤ n → n ≤ 32767 → Val (floatOfInt .f64 n) (n * S) ∧ -(32768 * S) ≤ n * S ∧ n * S ≤ 32768 * S := fun n n1 n2 => by
      refine ⟨ofInt_val n (by omega), ?_, ?_⟩
      · rw [← Int.neg_mul]
        exact Int.mul_le_mul_of_nonneg_right (by omega) (by omega)
      · exact Int.mul_le_mul_of_nonneg_right (by omega) (by omega)
    obtain ⟨va, a1, a2⟩ := big (a.getD (rev i) 0) (by omega) (by omega)
    obtain ⟨vb, b1, b2⟩ := big (b.getD (rev i) 0) (by omega) (by omega)
    obtain ⟨vc, c1, c2⟩ := big (c.getD (rev i) 0) (by omega) (by omega)
    have z0 : Val 0 0 := ⟨false, 0, 0, by decide, rfl⟩
    refine ⟨⟨_, _, _, va, vb, vc, ⟨a1, a2⟩, ⟨b1, b2⟩, ⟨c1, c2⟩, ?_, ?_⟩, ⟨0, 0, 0, z0, z0, z0, ⟨by omega, by omega⟩, ⟨by omega, by omega⟩, ⟨by omega, by omega⟩, by omega, by omega⟩⟩
    · rw [c0, Int.add_mul]
      omega
    · rw [c0, Int.add_mul]
      omega
  have h1 := stg_err (h := 2 ^ 0) (h4_pow (by omega)) h0 (by omega) (by omega) (by omega)
  have h2 := stg_err (h := 2 ^ 1) (h4_pow (by omega)) h1 (by omega) (by omega) (by omega)
  have h3 := stg_err (h := 2 ^ 2) (h4_pow (by omega)) h2 (by omega) (by omega) (by omega)
  have h4 := stg_err (h := 2 ^ 3) (h4_pow (by omega)) h3 (by omega) (by omega) (by omega)
  intro i hi
  have Sp := S_pos
  have lift : ∀ {x y z : Nat}, Qt (3 * (3 * (3 * (3 * 0 + 12) + 12) + 12) + 12) (3 * (3 * (3 * (3 * 32768 + 4) + 4) + 4) + 4) x y z → Qt 480 4194304 x y z := by
    rintro x y z ⟨u, v, w, hu, hv, hw, ⟨u1, u2⟩, ⟨v1, v2⟩, ⟨w1, w2⟩, d1, d2⟩
    exact ⟨u, v, w, hu, hv, hw, ⟨by omega, by omega⟩, ⟨by omega, by omega⟩, ⟨by omega, by omega⟩, by omega, by omega⟩
  exact ⟨lift (h4 i hi).1, lift (h4 i hi).2⟩
/-- What the law asks of one number: the difference, rounded twice, lies between -1 and 1. -/
theorem near {x y z : Nat} (h : Qt 480 4194304 x y z) : double.sub z x = some (subT z x) ∧ double.sub (subT z x) y = some (subT (subT z x) y) ∧
    (double.order (subT (subT z x) y) 13830554455654793216 == some .lt) = false ∧ (double.order (subT (subT z x) y) 4607182418800017408 == some .gt) = false := by
  obtain ⟨u, v, w, hu, hv, hw, ⟨u1, u2⟩, ⟨v1, v2⟩, ⟨w1, w2⟩, d1, d2⟩ := h
  have Sp := S_pos
  have Ep := E_pos
  have ES := E_le_S
  have SE := S_eq
  obtain ⟨a, e1, ha, a1, a2, _⟩ := sub24 hw hu (by omega) (by omega)
  obtain ⟨b, e2, hb, b1, b2, _⟩ := sub24 ha hv (by omega) (by omega)
  have hp : ((2 ^ 52 * 2 ^ 1022 : Nat) : Int) = S := (cast_two 52 1022 1074 rfl).trans S_nat.symm
  have one : Val 4607182418800017408 S := ⟨false, 2 ^ 52, 1022, by decide, by unfold sg; exact hp.symm⟩
  have mone : Val 13830554455654793216 (-S) := ⟨true, 2 ^ 52, 1022, by decide, by unfold sg; exact congrArg Neg.neg hp.symm⟩
  refine ⟨e1, e2, ?_, ?_⟩
  · rw [order_val hb mone]
    have : ¬ b < -S := by omega
    show (some (compareOfLessAndEq b (-S)) == some Ordering.lt) = false
    unfold compareOfLessAndEq
    rw [if_neg this]
    split <;> rfl
  · rw [order_val hb one]
    show (some (compareOfLessAndEq b S) == some Ordering.gt) = false
    unfold compareOfLessAndEq
    rw [if_pos (show b < S by omega)]
    rfl
/-- A wave that is a whole number, without an error. -/
def Ex (N : Int) (x : Nat × Nat) : Prop := Val x.1 (N * S) ∧ Val x.2 0
theorem ex_bf {N1 N2 : Int} {a b : Nat × Nat} (ha : Ex N1 a) (hb : Ex N2 b) (h1 : -1000000 ≤ N1) (h2 : N1 ≤ 1000000) (h3 : -1000000 ≤ N2) (h4 : N2 ≤ 1000000) :
    Ex (N1 + N2) (upT a b (tw 0)) ∧ Ex (N1 - N2) (loT a b (tw 0)) := by
  have Sp := S_pos
  have SS : 0 ≤ S * S := Int.mul_nonneg (by omega) (by omega)
  have hp : ((2 ^ 52 * 2 ^ 1022 : Nat) : Int) = S := (cast_two 52 1022 1074 rfl).trans S_nat.symm
  have one : Val (tw 0).1 S := ⟨false, 2 ^ 52, 1022, by decide, by unfold sg; exact hp.symm⟩
  have zero : Val (tw 0).2 0 := ⟨false, 0, 0, by decide, rfl⟩
  have big : ∀ (n : Int) (T : Int), 0 ≤ T → -16777216 ≤ n → n ≤ 16777216 → n * T ≤ 16777216 * T ∧ -(16777216 * T) ≤ n * T := fun n T hT n1 n2 => by
    refine ⟨Int.mul_le_mul_of_nonneg_right n2 hT, ?_⟩
    rw [← Int.neg_mul]
    exact Int.mul_le_mul_of_nonneg_right n1 hT
  have B2 := big N2 (S * S) SS (by omega) (by omega)
  have BS := big N2 S (by omega) (by omega) (by omega)
  have BU := big (N1 + N2) S (by omega) (by omega) (by omega)
  have BL := big (N1 - N2) S (by omega) (by omega) (by omega)
  have zz : ∀ x : Int, x * 0 ≤ 16777216 * (S * S) ∧ -(16777216 * (S * S)) ≤ x * 0 := fun x => by rw [Int.mul_zero]; omega
  obtain ⟨z1, v1, _, _, x1⟩ := mul24 hb.1 one (by rw [Int.mul_assoc]; exact B2.1) (by rw [Int.mul_assoc]; exact B2.2)
  have y1 := x1 N2 (by rw [Int.mul_assoc])
  obtain ⟨z2, v2, _, _, x2⟩ := mul24 hb.2 zero (zz 0).1 (zz 0).2
  have y2 := x2 0 (by rw [Int.mul_zero, Int.zero_mul])
  obtain ⟨z3, v3, _, _, x3⟩ := mul24 hb.1 zero (zz _).1 (zz _).2
  have y3 := x3 0 (by rw [Int.mul_zero, Int.zero_mul])
  obtain ⟨z4, v4, _, _, x4⟩ := mul24 hb.2 one (by rw [Int.zero_mul]; omega) (by rw [Int.zero_mul]; omega)
  have y4 := x4 0 (by rw [Int.zero_mul, Int.zero_mul])
  rw [Int.zero_mul] at y2 y3 y4
  subst y1 y2 y3 y4
  obtain ⟨z5, _, v5, _, _, x5⟩ := sub24 v1 v2 (by omega) (by omega)
  have y5 := x5 N2 (by omega)
  obtain ⟨z6, _, v6, _, _, x6⟩ := add24 v3 v4 (by omega) (by omega)
  have y6 := x6 0 (by rw [Int.zero_mul]; omega)
  rw [Int.zero_mul] at y6
  subst y5 y6
  obtain ⟨z7, _, v7, _, _, x7⟩ := add24 ha.1 v5 (by rw [← Int.add_mul]; exact BU.1) (by rw [← Int.add_mul]; exact BU.2)
  have y7 := x7 (N1 + N2) (by rw [Int.add_mul])
  obtain ⟨z8, _, v8, _, _, x8⟩ := add24 ha.2 v6 (by omega) (by omega)
  have y8 := x8 0 (by rw [Int.zero_mul]; omega)
  obtain ⟨z9, _, v9, _, _, x9⟩ := sub24 ha.1 v5 (by rw [← Int.sub_mul]; exact BL.1) (by rw [← Int.sub_mul]; exact BL.2)
  have y9 := x9 (N1 - N2) (by rw [Int.sub_mul])
  obtain ⟨z10, _, v10, _, _, x10⟩ := sub24 ha.2 v6 (by omega) (by omega)
  have y10 := x10 0 (by rw [Int.zero_mul]; omega)
  rw [Int.zero_mul] at y8 y10
  subst y7 y8 y9 y10
  exact ⟨⟨v7, v8⟩, ⟨v9, v10⟩⟩
/-- The sum of the first n numbers; the sum with signs in turn. -/
def sumTo (l : List Int) : Nat → Int
  | 0 => 0
  | n + 1 => sumTo l n + l.getD n 0
def turnTo (l : List Int) : Nat → Int
  | 0 => 0
  | n + 1 => if n % 2 = 0 then turnTo l n + l.getD n 0 else turnTo l n - l.getD n 0
theorem waves_exact {l : List Int} (hl : ∀ i, -16383 ≤ l.getD i 0 ∧ l.getD i 0 ≤ 16383) : Ex (sumTo l 16) (waves l 0) ∧ Ex (turnTo l 16) (waves l 8) := by
  obtain ⟨f, hf⟩ : ∃ f : Nat → Int, f = fun i => l.getD i 0 := ⟨_, rfl⟩
  have fb : ∀ i, -16383 ≤ f i ∧ f i ≤ 16383 := fun i => by rw [hf]; exact hl i
  have z0 : Val 0 0 := ⟨false, 0, 0, by decide, rfl⟩
  have e0 : ∀ i, Ex (f (rev i)) (st l 0 i) := fun i => by
    have b := hl (rev i)
    rw [hf]
    exact ⟨ofInt_val _ (by omega), z0⟩
  have b0 := fb 0; have b1 := fb 1; have b2 := fb 2; have b3 := fb 3; have b4 := fb 4; have b5 := fb 5; have b6 := fb 6; have b7 := fb 7
  have b8 := fb 8; have b9 := fb 9; have b10 := fb 10; have b11 := fb 11; have b12 := fb 12; have b13 := fb 13; have b14 := fb 14; have b15 := fb 15
  have up : ∀ (h g : Nat) (X : Nat → Nat × Nat) (N1 N2 : Int), H4 h → g % (2 * h) = 0 → Ex N1 (X g) → Ex N2 (X (g + h)) → -1000000 ≤ N1 → N1 ≤ 1000000 → -1000000 ≤ N2 → N2 ≤ 1000000 → Ex (N1 + N2) (stg h X g) ∧ Ex (N1 - N2) (stg h X (g + h)) := by
    intro h g X N1 N2 hh hg x1 x2 h1 h2 h3 h4
    have hp : 0 < h := by rcases hh with rfl | rfl | rfl | rfl <;> omega
    have s1 := stg_up hh hg hp X
    have s2 := stg_lo hh hg hp X
    rw [Nat.zero_mul, Nat.zero_div, Nat.add_zero] at s1 s2
    rw [s1, s2]
    exact ex_bf x1 x2 h1 h2 h3 h4
  have h1 : H4 1 := Or.inl rfl
  have h2 : H4 2 := Or.inr (Or.inl rfl)
  have h4 : H4 4 := Or.inr (Or.inr (Or.inl rfl))
  have h8 : H4 8 := Or.inr (Or.inr (Or.inr rfl))
  have p0 : Ex (f 0 + f 8) (st l 1 0) := (up 1 0 (st l 0) _ _ h1 rfl (e0 0) (e0 1) (by show -1000000 ≤ f 0; omega) (by show f 0 ≤ 1000000; omega) (by show -1000000 ≤ f 8; omega) (by show f 8 ≤ 1000000; omega)).1
  have p2 : Ex (f 4 + f 12) (st l 1 2) := (up 1 2 (st l 0) _ _ h1 rfl (e0 2) (e0 3) (by show -1000000 ≤ f 4; omega) (by show f 4 ≤ 1000000; omega) (by show -1000000 ≤ f 12; omega) (by show f 12 ≤ 1000000; omega)).1
  have p4 : Ex (f 2 + f 10) (st l 1 4) := (up 1 4 (st l 0) _ _ h1 rfl (e0 4) (e0 5) (by show -1000000 ≤ f 2; omega) (by show f 2 ≤ 1000000; omega) (by show -1000000 ≤ f 10; omega) (by show f 10 ≤ 1000000; omega)).1
  have p6 : Ex (f 6 + f 14) (st l 1 6) := (up 1 6 (st l 0) _ _ h1 rfl (e0 6) (e0 7) (by show -1000000 ≤ f 6; omega) (by show f 6 ≤ 1000000; omega) (by show -1000000 ≤ f 14; omega) (by show f 14 ≤ 1000000; omega)).1
  have p8 : Ex (f 1 + f 9) (st l 1 8) := (up 1 8 (st l 0) _ _ h1 rfl (e0 8) (e0 9) (by show -1000000 ≤ f 1; omega) (by show f 1 ≤ 1000000; omega) (by show -1000000 ≤ f 9; omega) (by show f 9 ≤ 1000000; omega)).1
  have p10 : Ex (f 5 + f 13) (st l 1 10) := (up 1 10 (st l 0) _ _ h1 rfl (e0 10) (e0 11) (by show -1000000 ≤ f 5; omega) (by show f 5 ≤ 1000000; omega) (by show -1000000 ≤ f 13; omega) (by show f 13 ≤ 1000000; omega)).1
  have p12 : Ex (f 3 + f 11) (st l 1 12) := (up 1 12 (st l 0) _ _ h1 rfl (e0 12) (e0 13) (by show -1000000 ≤ f 3; omega) (by show f 3 ≤ 1000000; omega) (by show -1000000 ≤ f 11; omega) (by show f 11 ≤ 1000000; omega)).1
  have p14 : Ex (f 7 + f 15) (st l 1 14) := (up 1 14 (st l 0) _ _ h1 rfl (e0 14) (e0 15) (by show -1000000 ≤ f 7; omega) (by show f 7 ≤ 1000000; omega) (by show -1000000 ≤ f 15; omega) (by show f 15 ≤ 1000000; omega)).1
  have q0 : Ex (f 0 + f 8 + (f 4 + f 12)) (st l 2 0) := (up 2 0 (st l 1) _ _ h2 rfl p0 p2 (by omega) (by omega) (by omega) (by omega)).1
  have q4 : Ex (f 2 + f 10 + (f 6 + f 14)) (st l 2 4) := (up 2 4 (st l 1) _ _ h2 rfl p4 p6 (by omega) (by omega) (by omega) (by omega)).1
  have q8 : Ex (f 1 + f 9 + (f 5 + f 13)) (st l 2 8) := (up 2 8 (st l 1) _ _ h2 rfl p8 p10 (by omega) (by omega) (by omega) (by omega)).1
  have q12 : Ex (f 3 + f 11 + (f 7 + f 15)) (st l 2 12) := (up 2 12 (st l 1) _ _ h2 rfl p12 p14 (by omega) (by omega) (by omega) (by omega)).1
  have r0 : Ex (f 0 + f 8 + (f 4 + f 12) + (f 2 + f 10 + (f 6 + f 14))) (st l 3 0) := (up 4 0 (st l 2) _ _ h4 rfl q0 q4 (by omega) (by omega) (by omega) (by omega)).1
  have r8 : Ex (f 1 + f 9 + (f 5 + f 13) + (f 3 + f 11 + (f 7 + f 15))) (st l 3 8) := (up 4 8 (st l 2) _ _ h4 rfl q8 q12 (by omega) (by omega) (by omega) (by omega)).1
  have s := up 8 0 (st l 3) _ _ h8 rfl r0 r8 (by omega) (by omega) (by omega) (by omega)
  have t1 : sumTo l 16 = f 0 + f 8 + (f 4 + f 12) + (f 2 + f 10 + (f 6 + f 14)) + (f 1 + f 9 + (f 5 + f 13) + (f 3 + f 11 + (f 7 + f 15))) := by
    rw [hf]
    simp only [sumTo]
    omega
  have t2 : turnTo l 16 = f 0 + f 8 + (f 4 + f 12) + (f 2 + f 10 + (f 6 + f 14)) - (f 1 + f 9 + (f 5 + f 13) + (f 3 + f 11 + (f 7 + f 15))) := by
    rw [hf]
    simp [turnTo]
    omega
  rw [t1, t2]
  exact s
theorem sumTo_b {l : List Int} (hl : ∀ i, -16383 ≤ l.getD i 0 ∧ l.getD i 0 ≤ 16383) (n : Nat) : -(16383 * (n : Int)) ≤ sumTo l n ∧ sumTo l n ≤ 16383 * (n : Int) := by
  induction n with
  | zero => simp [sumTo]
  | succ n ih =>
    have := hl n
    unfold sumTo
    omega
theorem turnTo_b {l : List Int} (hl : ∀ i, -16383 ≤ l.getD i 0 ∧ l.getD i 0 ≤ 16383) (n : Nat) : -(16383 * (n : Int)) ≤ turnTo l n ∧ turnTo l n ≤ 16383 * (n : Int) := by
  induction n with
  | zero => simp [turnTo]
  | succ n ih =>
    have := hl n
    unfold turnTo
    split <;> omega
/-- What the law asks of the first wave and of number 8. -/
theorem exact_eq {N : Int} {x : Nat × Nat} (h : Ex N x) (h1 : -1000000 ≤ N) (h2 : N ≤ 1000000) : (double.order x.1 (floatOfInt .f64 N) != some .eq) = false := by
  rw [order_val h.1 (ofInt_val N (by omega))]
  show (some (compareOfLessAndEq (N * S) (N * S)) != some Ordering.eq) = false
  unfold compareOfLessAndEq
  rw [if_neg (by omega), if_pos rfl]
  rfl
end Go.Proofs.YtdijjadoneeadaaDoor.Wv
