/- Plain facts on the waves of sixteen samples, by words of 64 bits: each rounded operation of a butterfly has an answer, and how large it can be; nothing of the program stands in them. -/
import Derived.Test.YtdijjadoneeadaaDoorFl
namespace Go.Proofs.YtdijjadoneeadaaDoor.Wv
open Go Ieee Go.Proofs.YtdijjadoneeadaaDoor.Fl
set_option linter.unusedVariables false
def mulT (x y : Nat) : Nat := (double.mul x y).getD 0
def addT (x y : Nat) : Nat := (double.add x y).getD 0
def subT (x y : Nat) : Nat := (double.sub x y).getD 0
def divT (x y : Nat) : Nat := (double.div x y).getD 0
theorem mul_ok {A B x y : Nat} (hx : Sm A x) (hy : Sm B y) (hA : A ≤ 400) (hB : B ≤ 400) : double.mul x y = some (mulT x y) ∧ Sm (A + B) (mulT x y) := by
  obtain ⟨r, e, h⟩ := mul_sm hx hy hA hB
  unfold mulT
  rw [e]
  exact ⟨rfl, h⟩
theorem add_ok {B x y : Nat} (hx : Sm B x) (hy : Sm B y) (hB : B ≤ 900) : double.add x y = some (addT x y) ∧ Sm (B + 1) (addT x y) := by
  obtain ⟨r, e, h⟩ := add_sm hx hy hB
  unfold addT
  rw [e]
  exact ⟨rfl, h⟩
theorem sub_ok {B x y : Nat} (hx : Sm B x) (hy : Sm B y) (hB : B ≤ 900) : double.sub x y = some (subT x y) ∧ Sm (B + 1) (subT x y) := by
  obtain ⟨r, e, h⟩ := sub_sm hx hy hB
  unfold subT
  rw [e]
  exact ⟨rfl, h⟩
theorem div_ok {B x : Nat} (hx : Sm (B + 7) x) (hB : B ≤ 400) : double.div x w256 = some (divT x w256) ∧ Sm B (divT x w256) := by
  obtain ⟨r, e, h⟩ := div_sm hx hB
  unfold divT
  rw [e]
  exact ⟨rfl, h⟩
/-- The eight pairs. -/
def twL : List (Nat × Nat) := [(4607182418800017408, 0), (4606496786581982534, 13823937468626282851), (4604544271217802189, 13827916308072577997), (4600565431771507043, 13829868823436758342), (0, 13830554455654793216), (13823937468626282851, 13829868823436758342), (13827916308072577997, 13827916308072577997), (13829868823436758342, 13823937468626282851)]
def tw (k : Nat) : Nat × Nat := twL.getD k (0, 0)
theorem tw_small (k : Nat) : Sm 0 (tw k).1 ∧ Sm 0 (tw k).2 := by
  by_cases h : k < 8
  · have : ∀ j : Fin 8, Sm 0 (tw j.val).1 ∧ Sm 0 (tw j.val).2 := by unfold Sm; decide
    exact this ⟨k, h⟩
  · have e : tw k = (0, 0) := by
      unfold tw
      rw [List.getD, List.getElem?_eq_none (by show 8 ≤ k; omega)]
      rfl
    rw [e]
    unfold Sm
    decide
def reT (b p : Nat × Nat) : Nat := subT (mulT b.1 p.1) (mulT b.2 p.2)
def imT (b p : Nat × Nat) : Nat := addT (mulT b.1 p.2) (mulT b.2 p.1)
def upT (a b p : Nat × Nat) : Nat × Nat := (addT a.1 (reT b p), addT a.2 (imT b p))
def loT (a b p : Nat × Nat) : Nat × Nat := (subT a.1 (reT b p), subT a.2 (imT b p))
def Sw (B : Nat) (x : Nat × Nat) : Prop := Sm B x.1 ∧ Sm B x.2
/-- A butterfly's ten operations have answers. -/
structure Bf (a b p : Nat × Nat) : Prop where
  m1 : double.mul b.1 p.1 = some (mulT b.1 p.1)
  m2 : double.mul b.2 p.2 = some (mulT b.2 p.2)
  m3 : double.mul b.1 p.2 = some (mulT b.1 p.2)
  m4 : double.mul b.2 p.1 = some (mulT b.2 p.1)
  re : double.sub (mulT b.1 p.1) (mulT b.2 p.2) = some (reT b p)
  im : double.add (mulT b.1 p.2) (mulT b.2 p.1) = some (imT b p)
  u1 : double.add a.1 (reT b p) = some (upT a b p).1
  u2 : double.add a.2 (imT b p) = some (upT a b p).2
  l1 : double.sub a.1 (reT b p) = some (loT a b p).1
  l2 : double.sub a.2 (imT b p) = some (loT a b p).2
theorem bf_ok {B : Nat} {a b p : Nat × Nat} (ha : Sw B a) (hb : Sw B b) (hp : Sw 0 p) (hB : B ≤ 300) : Bf a b p ∧ Sw (B + 2) (upT a b p) ∧ Sw (B + 2) (loT a b p) := by
  obtain ⟨e1, s1⟩ := mul_ok hb.1 hp.1 (by omega) (by omega)
  obtain ⟨e2, s2⟩ := mul_ok hb.2 hp.2 (by omega) (by omega)
  obtain ⟨e3, s3⟩ := mul_ok hb.1 hp.2 (by omega) (by omega)
  obtain ⟨e4, s4⟩ := mul_ok hb.2 hp.1 (by omega) (by omega)
  obtain ⟨e5, s5⟩ := sub_ok s1 s2 (by omega)
  obtain ⟨e6, s6⟩ := add_ok s3 s4 (by omega)
  obtain ⟨e7, s7⟩ := add_ok (ha.1.up (show B ≤ B + 0 + 1 by omega)) s5 (by omega)
  obtain ⟨e8, s8⟩ := add_ok (ha.2.up (show B ≤ B + 0 + 1 by omega)) s6 (by omega)
  obtain ⟨e9, s9⟩ := sub_ok (ha.1.up (show B ≤ B + 0 + 1 by omega)) s5 (by omega)
  obtain ⟨e10, s10⟩ := sub_ok (ha.2.up (show B ≤ B + 0 + 1 by omega)) s6 (by omega)
  exact ⟨⟨e1, e2, e3, e4, e5, e6, e7, e8, e9, e10⟩, ⟨s7.up (by omega), s8.up (by omega)⟩, ⟨s9.up (by omega), s10.up (by omega)⟩⟩
/-- A stage of butterflies h apart. -/
def stg (h : Nat) (X : Nat → Nat × Nat) (i : Nat) : Nat × Nat :=
  if i % (2 * h) < h then upT (X i) (X (i + h)) (tw (i % (2 * h) * 8 / h)) else loT (X (i - h)) (X i) (tw ((i % (2 * h) - h) * 8 / h))
def H4 (h : Nat) : Prop := h = 1 ∨ h = 2 ∨ h = 4 ∨ h = 8
/-- The place of a butterfly: g + j, where g is a multiple of 2 h, j < h. -/
theorem stg_up {h g j : Nat} (hh : H4 h) (hg : g % (2 * h) = 0) (hj : j < h) (X : Nat → Nat × Nat) : stg h X (g + j) = upT (X (g + j)) (X (g + j + h)) (tw (j * 8 / h)) := by
  have e : (g + j) % (2 * h) = j := by
    rw [Nat.add_mod, hg, Nat.zero_add, Nat.mod_mod, Nat.mod_eq_of_lt (by omega)]
  unfold stg
  rw [e, if_pos hj]
theorem stg_lo {h g j : Nat} (hh : H4 h) (hg : g % (2 * h) = 0) (hj : j < h) (X : Nat → Nat × Nat) : stg h X (g + j + h) = loT (X (g + j)) (X (g + j + h)) (tw (j * 8 / h)) := by
  have e : (g + j + h) % (2 * h) = j + h := by
    rw [Nat.add_assoc, Nat.add_mod, hg, Nat.zero_add, Nat.mod_mod, Nat.mod_eq_of_lt (by omega)]
  unfold stg
  rw [e, if_neg (by omega), Nat.add_sub_cancel, Nat.add_sub_cancel]
def OkW (B : Nat) (X : Nat → Nat × Nat) : Prop := ∀ i, i < 16 → Sw B (X i)
theorem stg_ok {h B : Nat} {X : Nat → Nat × Nat} (hh : H4 h) (hX : OkW B X) (hB : B ≤ 300) : OkW (B + 2) (stg h X) := by
  intro i hi
  unfold stg
  have k1 : i % (2 * h) < h → i + h < 16 := by rcases hh with rfl | rfl | rfl | rfl <;> omega
  have k2 : ¬ i % (2 * h) < h → i - h < 16 := by omega
  by_cases c : i % (2 * h) < h
  · rw [if_pos c]
    exact (bf_ok (hX i hi) (hX _ (k1 c)) (tw_small _) hB).2.1
  · rw [if_neg c]
    exact (bf_ok (hX _ (k2 c)) (hX i hi) (tw_small _) hB).2.2
/-- The place of a sample. -/
def rev (i : Nat) : Nat := i % 2 * 8 + i / 2 % 2 * 4 + i / 4 % 2 * 2 + i / 8 % 2
theorem rev_lt (i : Nat) : rev i < 16 := by unfold rev; omega
def X0 (l : List Int) (i : Nat) : Nat × Nat := (floatOfInt .f64 (l.getD (rev i) 0), 0)
/-- The waves of sixteen samples, stage by stage. -/
def st (l : List Int) : Nat → Nat → Nat × Nat
  | 0 => X0 l
  | t + 1 => stg (2 ^ t) (st l t)
def waves (l : List Int) : Nat → Nat × Nat := st l 4
theorem X0_ok {l : List Int} (h : ∀ i, (l.getD i 0).natAbs ≤ 2 ^ 15) : OkW 15 (X0 l) := fun i hi =>
  ⟨ofInt_sm _ (h _) (by omega), ⟨Nat.zero_le _, (by decide : (0 : Nat) < 2 ^ 64)⟩⟩
theorem h4_pow {t : Nat} (h : t < 4) : H4 (2 ^ t) := by
  have : t = 0 ∨ t = 1 ∨ t = 2 ∨ t = 3 := by omega
  rcases this with rfl | rfl | rfl | rfl <;> simp [H4]
theorem st_ok {l : List Int} (h : ∀ i, (l.getD i 0).natAbs ≤ 2 ^ 15) : ∀ t, t ≤ 4 → OkW (15 + 2 * t) (st l t) := by
  intro t
  induction t with
  | zero => intro _; exact X0_ok h
  | succ t ih =>
    intro ht
    exact stg_ok (h4_pow (by omega)) (ih (by omega)) (show 15 + 2 * t ≤ 300 by omega)
/-- What a row holds in the midst of a stage: the butterflies ahead of (g, j) are done. -/
def done (h g j i : Nat) : Prop := i < g ∨ i < g + 2 * h ∧ i % h < j
instance (h g j i : Nat) : Decidable (done h g j i) := inferInstanceAs (Decidable (_ ∨ _))
def mid (h g j : Nat) (X : Nat → Nat × Nat) (i : Nat) : Nat × Nat := if done h g j i then stg h X i else X i
def upd (X : Nat → Nat × Nat) (i : Nat) (v : Nat × Nat) (k : Nat) : Nat × Nat := if k = i then v else X k
theorem mid_start {h : Nat} (X : Nat → Nat × Nat) (i : Nat) : mid h 0 0 X i = X i := by
  unfold mid
  rw [if_neg]
  unfold done
  omega
theorem mid_next {h g : Nat} (hh : H4 h) (hg : g % (2 * h) = 0) (X : Nat → Nat × Nat) (i : Nat) : mid h g h X i = mid h (g + 2 * h) 0 X i := by
  have : done h g h i ↔ done h (g + 2 * h) 0 i := by
    unfold done
    have : i % h < h := Nat.mod_lt _ (by rcases hh with rfl | rfl | rfl | rfl <;> omega)
    omega
  unfold mid
  simp only [this]
theorem mid_end {h : Nat} (X : Nat → Nat × Nat) (i : Nat) (hi : i < 16) : mid h 16 0 X i = stg h X i := by
  unfold mid
  rw [if_pos (show done h 16 0 i from Or.inl hi)]
theorem mid_a {h g j : Nat} (hh : H4 h) (hg : g % (2 * h) = 0) (hj : j < h) (X : Nat → Nat × Nat) : mid h g j X (g + j) = X (g + j) := by
  unfold mid
  rw [if_neg]
  unfold done
  rcases hh with rfl | rfl | rfl | rfl <;> omega
theorem mid_b {h g j : Nat} (hh : H4 h) (hg : g % (2 * h) = 0) (hj : j < h) (X : Nat → Nat × Nat) : mid h g j X (g + j + h) = X (g + j + h) := by
  unfold mid
  rw [if_neg]
  unfold done
  rcases hh with rfl | rfl | rfl | rfl <;> omega
theorem mid_step {h g j : Nat} (hh : H4 h) (hg : g % (2 * h) = 0) (hj : j < h) (X : Nat → Nat × Nat) (i : Nat) :
    upd (upd (mid h g j X) (g + j) (upT (X (g + j)) (X (g + j + h)) (tw (j * 8 / h)))) (g + j + h) (loT (X (g + j)) (X (g + j + h)) (tw (j * 8 / h))) i = mid h g (j + 1) X i := by
  have e1 := stg_up hh hg hj X
  have e2 := stg_lo hh hg hj X
  unfold upd
  by_cases c2 : i = g + j + h
  · rw [if_pos c2, ← e2, c2]
    unfold mid
    rw [if_pos]
    unfold done
    rcases hh with rfl | rfl | rfl | rfl <;> omega
  rw [if_neg c2]
  by_cases c1 : i = g + j
  · rw [if_pos c1, ← e1, c1]
    unfold mid
    rw [if_pos]
    unfold done
    rcases hh with rfl | rfl | rfl | rfl <;> omega
  rw [if_neg c1]
  have : done h g j i ↔ done h g (j + 1) i := by
    unfold done
    rcases hh with rfl | rfl | rfl | rfl <;> omega
  unfold mid
  simp only [this]
end Go.Proofs.YtdijjadoneeadaaDoor.Wv
