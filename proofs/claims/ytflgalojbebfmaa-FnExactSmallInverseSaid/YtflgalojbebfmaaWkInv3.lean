/- The plain part of SmallInverse, and what the reference's comes to. -/
import Derived.Test.YtflgalojbebfmaaWkInv2
namespace Go.Proofs.Ytflgalojbebfmaa.Wk
open Go.RowKit Go.Proofs.YtflgalojbebfmaaW.PrintWords Go.Proofs.YtflgalojbebfmaaW.PrintLast Go.Proofs.YtflgalojbebfmaaW.PrintMore Go.Proofs.Ytflgalojbebfmaa.My
open Go.Proofs.Ytflgalojbebfmaa.PFnExactSmallInverse
set_option linter.unusedVariables false
set_option linter.unusedSimpArgs false
attribute [local congr] bind_left ite_left
def four (a b c d : Int) : List Int := [F0 a b c d, F1 a b c d, F2 a b c d, F3 a b c d]
theorem four_eq (a b c d : Int) : spec_l13Four.f a b c d = some (four a b c d) := rfl
theorem row0 (b0 b1 b2 b3 b4 b5 b6 b7 b8 b9 b10 b11 b12 b13 b14 b15 : Int) : turn [b0, b1, b2, b3, b4, b5, b6, b7, b8, b9, b10, b11, b12, b13, b14, b15] (4 * 0) (4 * 0 + 1) (4 * 0 + 2 * 1) (4 * 0 + 3 * 1) = [F0 b0 b1 b2 b3, F1 b0 b1 b2 b3, F2 b0 b1 b2 b3, F3 b0 b1 b2 b3, b4, b5, b6, b7, b8, b9, b10, b11, b12, b13, b14, b15] := rfl
theorem row1 (b0 b1 b2 b3 b4 b5 b6 b7 b8 b9 b10 b11 b12 b13 b14 b15 : Int) : turn [b0, b1, b2, b3, b4, b5, b6, b7, b8, b9, b10, b11, b12, b13, b14, b15] (4 * 1) (4 * 1 + 1) (4 * 1 + 2 * 1) (4 * 1 + 3 * 1) = [b0, b1, b2, b3, F0 b4 b5 b6 b7, F1 b4 b5 b6 b7, F2 b4 b5 b6 b7, F3 b4 b5 b6 b7, b8, b9, b10, b11, b12, b13, b14, b15] := rfl
theorem row2 (b0 b1 b2 b3 b4 b5 b6 b7 b8 b9 b10 b11 b12 b13 b14 b15 : Int) : turn [b0, b1, b2, b3, b4, b5, b6, b7, b8, b9, b10, b11, b12, b13, b14, b15] (4 * 2) (4 * 2 + 1) (4 * 2 + 2 * 1) (4 * 2 + 3 * 1) = [b0, b1, b2, b3, b4, b5, b6, b7, F0 b8 b9 b10 b11, F1 b8 b9 b10 b11, F2 b8 b9 b10 b11, F3 b8 b9 b10 b11, b12, b13, b14, b15] := rfl
theorem row3 (b0 b1 b2 b3 b4 b5 b6 b7 b8 b9 b10 b11 b12 b13 b14 b15 : Int) : turn [b0, b1, b2, b3, b4, b5, b6, b7, b8, b9, b10, b11, b12, b13, b14, b15] (4 * 3) (4 * 3 + 1) (4 * 3 + 2 * 1) (4 * 3 + 3 * 1) = [b0, b1, b2, b3, b4, b5, b6, b7, b8, b9, b10, b11, F0 b12 b13 b14 b15, F1 b12 b13 b14 b15, F2 b12 b13 b14 b15, F3 b12 b13 b14 b15] := rfl
theorem col0 (b0 b1 b2 b3 b4 b5 b6 b7 b8 b9 b10 b11 b12 b13 b14 b15 : Int) : turn [b0, b1, b2, b3, b4, b5, b6, b7, b8, b9, b10, b11, b12, b13, b14, b15] 0 (0 + 4) (0 + 2 * 4) (0 + 3 * 4) = [F0 b0 b4 b8 b12, b1, b2, b3, F1 b0 b4 b8 b12, b5, b6, b7, F2 b0 b4 b8 b12, b9, b10, b11, F3 b0 b4 b8 b12, b13, b14, b15] := rfl
theorem col1 (b0 b1 b2 b3 b4 b5 b6 b7 b8 b9 b10 b11 b12 b13 b14 b15 : Int) : turn [b0, b1, b2, b3, b4, b5, b6, b7, b8, b9, b10, b11, b12, b13, b14, b15] 1 (1 + 4) (1 + 2 * 4) (1 + 3 * 4) = [b0, F0 b1 b5 b9 b13, b2, b3, b4, F1 b1 b5 b9 b13, b6, b7, b8, F2 b1 b5 b9 b13, b10, b11, b12, F3 b1 b5 b9 b13, b14, b15] := rfl
theorem col2 (b0 b1 b2 b3 b4 b5 b6 b7 b8 b9 b10 b11 b12 b13 b14 b15 : Int) : turn [b0, b1, b2, b3, b4, b5, b6, b7, b8, b9, b10, b11, b12, b13, b14, b15] 2 (2 + 4) (2 + 2 * 4) (2 + 3 * 4) = [b0, b1, F0 b2 b6 b10 b14, b3, b4, b5, F1 b2 b6 b10 b14, b7, b8, b9, F2 b2 b6 b10 b14, b11, b12, b13, F3 b2 b6 b10 b14, b15] := rfl
theorem col3 (b0 b1 b2 b3 b4 b5 b6 b7 b8 b9 b10 b11 b12 b13 b14 b15 : Int) : turn [b0, b1, b2, b3, b4, b5, b6, b7, b8, b9, b10, b11, b12, b13, b14, b15] 3 (3 + 4) (3 + 2 * 4) (3 + 3 * 4) = [b0, b1, b2, F0 b3 b7 b11 b15, b4, b5, b6, F1 b3 b7 b11 b15, b8, b9, b10, F2 b3 b7 b11 b15, b12, b13, b14, F3 b3 b7 b11 b15] := rfl
theorem TR4 (b0 b1 b2 b3 b4 b5 b6 b7 b8 b9 b10 b11 b12 b13 b14 b15 : Int) : TR [b0, b1, b2, b3, b4, b5, b6, b7, b8, b9, b10, b11, b12, b13, b14, b15] 4 = [F0 b0 b1 b2 b3, F1 b0 b1 b2 b3, F2 b0 b1 b2 b3, F3 b0 b1 b2 b3, F0 b4 b5 b6 b7, F1 b4 b5 b6 b7, F2 b4 b5 b6 b7, F3 b4 b5 b6 b7, F0 b8 b9 b10 b11, F1 b8 b9 b10 b11, F2 b8 b9 b10 b11, F3 b8 b9 b10 b11, F0 b12 b13 b14 b15, F1 b12 b13 b14 b15, F2 b12 b13 b14 b15, F3 b12 b13 b14 b15] := by
  rw [TR, TR, TR, TR, TR, row0, row1, row2, row3]
theorem TC4 (b0 b1 b2 b3 b4 b5 b6 b7 b8 b9 b10 b11 b12 b13 b14 b15 : Int) : TC [b0, b1, b2, b3, b4, b5, b6, b7, b8, b9, b10, b11, b12, b13, b14, b15] 4 = [F0 b0 b4 b8 b12, F0 b1 b5 b9 b13, F0 b2 b6 b10 b14, F0 b3 b7 b11 b15, F1 b0 b4 b8 b12, F1 b1 b5 b9 b13, F1 b2 b6 b10 b14, F1 b3 b7 b11 b15, F2 b0 b4 b8 b12, F2 b1 b5 b9 b13, F2 b2 b6 b10 b14, F2 b3 b7 b11 b15, F3 b0 b4 b8 b12, F3 b1 b5 b9 b13, F3 b2 b6 b10 b14, F3 b3 b7 b11 b15] := by
  rw [TC, TC, TC, TC, TC, col0, col1, col2, col3]
def vv (n : Int) : Int := wrap64 (n + 32) / 64
def putc (out : List Int) (x : Nat) (a b c d : Int) : List Int := (((out.set (4 * 0 + x) (vv a)).set (4 * 1 + x) (vv b)).set (4 * 2 + x) (vv c)).set (4 * 3 + x) (vv d)
theorem putc_length (out : List Int) (x : Nat) (a b c d : Int) : (putc out x a b c d).length = out.length := by simp [putc]
theorem ixw {a b : Nat} (ha : a < 100) (hb : b < 100) : wrap64 ((a : Int) + (b : Int)) = ((a + b : Nat) : Int) := by
  rw [wrap64_id (n := (a : Int) + (b : Int)) (by omega) (by omega)]
  omega
theorem ix4 {a : Nat} (ha : a < 100) : wrap64 (4 * (a : Int)) = ((4 * a : Nat) : Int) := by
  rw [wrap64_id (n := 4 * (a : Int)) (by omega) (by omega)]
  omega
theorem l0_step (l mid : List Int) (hl : l.length = 16) (hm : mid.length ≤ 100) {y : Nat} (hy : y < 4) (k : Nat) :
    spec_l13Inverse.l0 (k + 1) l mid (y : Int) = spec_l13Inverse.l0 k l (mid ++ four (l.getD (4 * y) 0) (l.getD (4 * y + 1) 0) (l.getD (4 * y + 2) 0) (l.getD (4 * y + 3) 0)) ((y + 1 : Nat) : Int) := by
  simp only [spec_l13Inverse.l0]
  have h1 := ixw (a := 4 * y) (b := 1) (by omega) (by omega)
  have h2 := ixw (a := 4 * y) (b := 2) (by omega) (by omega)
  have h3 := ixw (a := 4 * y) (b := 3) (by omega) (by omega)
  rw [if_pos (by omega), ix4 (by omega), show wrap64 (((4 * y : Nat) : Int) + 1) = ((4 * y + 1 : Nat) : Int) from h1, show wrap64 (((4 * y : Nat) : Int) + 2) = ((4 * y + 2 : Nat) : Int) from h2, show wrap64 (((4 * y : Nat) : Int) + 3) = ((4 * y + 3 : Nat) : Int) from h3]
  rw [if_pos (by omega), if_pos (by omega), if_pos (by omega), if_pos (by omega), if_pos (by omega), if_pos (by omega), if_pos (by omega), if_pos (by omega), four_eq, Option.bind_some, if_pos (by show mid.length + 4 < _; omega), rd_nat, rd_nat, rd_nat, rd_nat, wrap64_nat (by omega)]
theorem l2_step (mid out fs : List Int) (ho : out.length = 16) (hf : fs.length = 4) {x j : Nat} (hx : x < 4) (hj : j < 4) (k : Nat) :
    spec_l13Inverse.l2 (k + 1) mid out (x : Int) fs (fs.length : Int) (j : Int) = spec_l13Inverse.l2 k mid (out.set (4 * j + x) (vv (fs.getD j 0))) (x : Int) fs (fs.length : Int) ((j + 1 : Nat) : Int) := by
  simp only [spec_l13Inverse.l2]
  rw [if_pos (by omega), if_pos (by omega), if_pos (by omega), ix4 (by omega), ixw (by omega) (by omega), if_pos (by omega), if_pos (by omega), rd_nat, wrap64_nat (by omega), Int.toNat_natCast]
  rfl
set_option maxRecDepth 100000 in
theorem l1_step (mid out : List Int) (hm : mid.length = 16) (ho : out.length = 16) {x : Nat} (hx : x < 4) (k : Nat) :
    spec_l13Inverse.l1 (k + 6) mid out (x : Int) = spec_l13Inverse.l1 k mid (putc out x (F0 (mid.getD x 0) (mid.getD (4 + x) 0) (mid.getD (8 + x) 0) (mid.getD (12 + x) 0)) (F1 (mid.getD x 0) (mid.getD (4 + x) 0) (mid.getD (8 + x) 0) (mid.getD (12 + x) 0)) (F2 (mid.getD x 0) (mid.getD (4 + x) 0) (mid.getD (8 + x) 0) (mid.getD (12 + x) 0)) (F3 (mid.getD x 0) (mid.getD (4 + x) 0) (mid.getD (8 + x) 0) (mid.getD (12 + x) 0))) ((x + 1 : Nat) : Int) := by
  have h1 := ixw (a := 4) (b := x) (by omega) (by omega)
  have h2 := ixw (a := 8) (b := x) (by omega) (by omega)
  have h3 := ixw (a := 12) (b := x) (by omega) (by omega)
  obtain ⟨fs, hfs⟩ : ∃ fs, fs = four (mid.getD x 0) (mid.getD (4 + x) 0) (mid.getD (8 + x) 0) (mid.getD (12 + x) 0) := ⟨_, rfl⟩
  have hl : fs.length = 4 := by rw [hfs]; rfl
  have e : spec_l13Inverse.l1 (k + 6) mid out (x : Int) = spec_l13Inverse.l2 (k + 5) mid out (x : Int) fs (fs.length : Int) ((0 : Nat) : Int) := by
    simp only [spec_l13Inverse.l1]
    rw [show wrap64 (4 + (x : Int)) = ((4 + x : Nat) : Int) from h1, show wrap64 (8 + (x : Int)) = ((8 + x : Nat) : Int) from h2, show wrap64 (12 + (x : Int)) = ((12 + x : Nat) : Int) from h3]
    rw [if_pos (by omega), if_pos (by omega), if_pos (by omega), if_pos (by omega), if_pos (by omega), if_pos (by omega), if_pos (by omega), if_pos (by omega), if_pos (by omega), four_eq, Option.bind_some, rd_nat, rd_nat, rd_nat, rd_nat, ← hfs]
    rfl
  refine e.trans ((l2_step mid out fs ho hl hx (j := 0) (by omega) (k + 4)).trans ((l2_step mid _ fs (by simpa using ho) hl hx (j := 1) (by omega) (k + 3)).trans ((l2_step mid _ fs (by simpa using ho) hl hx (j := 2) (by omega) (k + 2)).trans ((l2_step mid _ fs (by simpa using ho) hl hx (j := 3) (by omega) (k + 1)).trans ?_))))
  simp only [spec_l13Inverse.l2]
  rw [if_neg (by omega), wrap64_nat (by omega)]
  subst hfs
  rfl
def MM (l : List Int) : Nat → List Int
  | 0 => []
  | y + 1 => MM l y ++ four (l.getD (4 * y) 0) (l.getD (4 * y + 1) 0) (l.getD (4 * y + 2) 0) (l.getD (4 * y + 3) 0)
theorem MM_length (l : List Int) (y : Nat) : (MM l y).length = 4 * y := by
  induction y with
  | zero => rfl
  | succ y ih => simp [MM, four, ih]; omega
def OO (mid : List Int) : Nat → List Int
  | 0 => List.replicate 16 0
  | x + 1 => putc (OO mid x) x (F0 (mid.getD x 0) (mid.getD (4 + x) 0) (mid.getD (8 + x) 0) (mid.getD (12 + x) 0)) (F1 (mid.getD x 0) (mid.getD (4 + x) 0) (mid.getD (8 + x) 0) (mid.getD (12 + x) 0)) (F2 (mid.getD x 0) (mid.getD (4 + x) 0) (mid.getD (8 + x) 0) (mid.getD (12 + x) 0)) (F3 (mid.getD x 0) (mid.getD (4 + x) 0) (mid.getD (8 + x) 0) (mid.getD (12 + x) 0))
theorem OO_length (mid : List Int) (x : Nat) : (OO mid x).length = 16 := by
  induction x with
  | zero => rfl
  | succ x ih => rw [OO, putc_length, ih]
theorem l0_one (l : List Int) (hl : l.length = 16) {y : Nat} (hy : y < 4) (k : Nat) : spec_l13Inverse.l0 (k + 1) l (MM l y) (y : Int) = spec_l13Inverse.l0 k l (MM l (y + 1)) ((y + 1 : Nat) : Int) := by
  rw [l0_step l (MM l y) hl (by rw [MM_length]; omega) hy k, MM]
theorem l1_one (mid : List Int) (hm : mid.length = 16) {x : Nat} (hx : x < 4) (k : Nat) : spec_l13Inverse.l1 (k + 6) mid (OO mid x) (x : Int) = spec_l13Inverse.l1 k mid (OO mid (x + 1)) ((x + 1 : Nat) : Int) := by
  rw [l1_step mid (OO mid x) hm (OO_length _ _) hx k, OO]
theorem l0_end (l mid : List Int) (k : Nat) : spec_l13Inverse.l0 (k + 1) l mid ((4 : Nat) : Int) = spec_l13Inverse.l1 k mid (List.replicate 16 0) 0 := by
  simp only [spec_l13Inverse.l0]
  rw [if_neg (by omega), if_pos (by omega)]
theorem l1_end (mid out : List Int) (k : Nat) : spec_l13Inverse.l1 (k + 1) mid out ((4 : Nat) : Int) = some out := by
  simp only [spec_l13Inverse.l1]
  rw [if_neg (by omega)]
theorem inverse_all (l : List Int) (hl : l.length = 16) (k : Nat) : spec_l13Inverse.f (k + 100) l = some (OO (MM l 4) 4) := by
  have lm : (MM l 4).length = 16 := by rw [MM_length]
  have e0 : spec_l13Inverse.f (k + 100) l = spec_l13Inverse.l0 (k + 99 + 1) l (MM l 0) ((0 : Nat) : Int) := rfl
  have e1 : spec_l13Inverse.l0 (k + 95 + 1) l (MM l 4) ((3 + 1 : Nat) : Int) = spec_l13Inverse.l1 (k + 95) (MM l 4) (OO (MM l 4) 0) ((0 : Nat) : Int) := l0_end l _ (k + 95)
  have e2 : spec_l13Inverse.l1 (k + 70 + 1) (MM l 4) (OO (MM l 4) 4) ((3 + 1 : Nat) : Int) = some (OO (MM l 4) 4) := l1_end _ _ (k + 70)
  rw [e0]
  refine (l0_one l hl (y := 0) (by omega) (k + 99)).trans ((l0_one l hl (y := 1) (by omega) (k + 98)).trans ((l0_one l hl (y := 2) (by omega) (k + 97)).trans ((l0_one l hl (y := 3) (by omega) (k + 96)).trans (e1.trans ?_))))
  exact (l1_one _ lm (x := 0) (by omega) (k + 89)).trans ((l1_one _ lm (x := 1) (by omega) (k + 83)).trans ((l1_one _ lm (x := 2) (by omega) (k + 77)).trans ((l1_one _ lm (x := 3) (by omega) (k + 71)).trans e2)))
theorem MM4 (b0 b1 b2 b3 b4 b5 b6 b7 b8 b9 b10 b11 b12 b13 b14 b15 : Int) : MM [b0, b1, b2, b3, b4, b5, b6, b7, b8, b9, b10, b11, b12, b13, b14, b15] 4 = [F0 b0 b1 b2 b3, F1 b0 b1 b2 b3, F2 b0 b1 b2 b3, F3 b0 b1 b2 b3, F0 b4 b5 b6 b7, F1 b4 b5 b6 b7, F2 b4 b5 b6 b7, F3 b4 b5 b6 b7, F0 b8 b9 b10 b11, F1 b8 b9 b10 b11, F2 b8 b9 b10 b11, F3 b8 b9 b10 b11, F0 b12 b13 b14 b15, F1 b12 b13 b14 b15, F2 b12 b13 b14 b15, F3 b12 b13 b14 b15] := rfl
theorem OO1 (b0 b1 b2 b3 b4 b5 b6 b7 b8 b9 b10 b11 b12 b13 b14 b15 : Int) : OO [b0, b1, b2, b3, b4, b5, b6, b7, b8, b9, b10, b11, b12, b13, b14, b15] 1 = [vv (F0 b0 b4 b8 b12), 0, 0, 0, vv (F1 b0 b4 b8 b12), 0, 0, 0, vv (F2 b0 b4 b8 b12), 0, 0, 0, vv (F3 b0 b4 b8 b12), 0, 0, 0] := rfl
theorem OO2 (b0 b1 b2 b3 b4 b5 b6 b7 b8 b9 b10 b11 b12 b13 b14 b15 : Int) : OO [b0, b1, b2, b3, b4, b5, b6, b7, b8, b9, b10, b11, b12, b13, b14, b15] 2 = [vv (F0 b0 b4 b8 b12), vv (F0 b1 b5 b9 b13), 0, 0, vv (F1 b0 b4 b8 b12), vv (F1 b1 b5 b9 b13), 0, 0, vv (F2 b0 b4 b8 b12), vv (F2 b1 b5 b9 b13), 0, 0, vv (F3 b0 b4 b8 b12), vv (F3 b1 b5 b9 b13), 0, 0] := by
  rw [OO, OO1]
  rfl
theorem OO3 (b0 b1 b2 b3 b4 b5 b6 b7 b8 b9 b10 b11 b12 b13 b14 b15 : Int) : OO [b0, b1, b2, b3, b4, b5, b6, b7, b8, b9, b10, b11, b12, b13, b14, b15] 3 = [vv (F0 b0 b4 b8 b12), vv (F0 b1 b5 b9 b13), vv (F0 b2 b6 b10 b14), 0, vv (F1 b0 b4 b8 b12), vv (F1 b1 b5 b9 b13), vv (F1 b2 b6 b10 b14), 0, vv (F2 b0 b4 b8 b12), vv (F2 b1 b5 b9 b13), vv (F2 b2 b6 b10 b14), 0, vv (F3 b0 b4 b8 b12), vv (F3 b1 b5 b9 b13), vv (F3 b2 b6 b10 b14), 0] := by
  rw [OO, OO2]
  rfl
theorem OO4 (b0 b1 b2 b3 b4 b5 b6 b7 b8 b9 b10 b11 b12 b13 b14 b15 : Int) : OO [b0, b1, b2, b3, b4, b5, b6, b7, b8, b9, b10, b11, b12, b13, b14, b15] 4 = [vv (F0 b0 b4 b8 b12), vv (F0 b1 b5 b9 b13), vv (F0 b2 b6 b10 b14), vv (F0 b3 b7 b11 b15), vv (F1 b0 b4 b8 b12), vv (F1 b1 b5 b9 b13), vv (F1 b2 b6 b10 b14), vv (F1 b3 b7 b11 b15), vv (F2 b0 b4 b8 b12), vv (F2 b1 b5 b9 b13), vv (F2 b2 b6 b10 b14), vv (F2 b3 b7 b11 b15), vv (F3 b0 b4 b8 b12), vv (F3 b1 b5 b9 b13), vv (F3 b2 b6 b10 b14), vv (F3 b3 b7 b11 b15)] := by
  rw [OO, OO3]
  rfl
theorem tabiv (b0 b1 b2 b3 b4 b5 b6 b7 b8 b9 b10 b11 b12 b13 b14 b15 : Int) : tab 16 (ivV [b0, b1, b2, b3, b4, b5, b6, b7, b8, b9, b10, b11, b12, b13, b14, b15]) = [vv b0, vv b1, vv b2, vv b3, vv b4, vv b5, vv b6, vv b7, vv b8, vv b9, vv b10, vv b11, vv b12, vv b13, vv b14, vv b15] := rfl
theorem inverse_eq (b0 b1 b2 b3 b4 b5 b6 b7 b8 b9 b10 b11 b12 b13 b14 b15 : Int) (k : Nat) : spec_l13Inverse.f (k + 100) [b0, b1, b2, b3, b4, b5, b6, b7, b8, b9, b10, b11, b12, b13, b14, b15] = some (tab 16 (ivV (TC (TR [b0, b1, b2, b3, b4, b5, b6, b7, b8, b9, b10, b11, b12, b13, b14, b15] 4) 4))) := by
  rw [inverse_all _ rfl k, TR4, MM4, TC4, OO4, tabiv]
theorem small_eq (k : Nat) (l : List Int) (hl : l.length ≤ 1048576) (hk : l.length < k) : spec_l13Small.f k l = some (inB (-65536) 65535 l && ((l.length : Int) == 16)) := by
  unfold spec_l13Small.f
  refine range_loop (F := fun k i => spec_l13Small.l0 k l l (l.length : Int) i) (c := 0) (fun k i hi => ?_) (fun k => ?_) k (by omega)
  · simp only [spec_l13Small.l0, rd_nat]
    rw [wrap64_nat (by omega)]
    simp (disch := omega) only [if_pos, if_neg, decide_eq_true, decide_eq_false, if_true, Bool.false_eq_true, if_false, wrap64_id, u64_id, Option.bind_some]
  · simp only [spec_l13Small.l0]
    rw [if_neg (by omega)]
theorem beq16 (n : Nat) : ((n : Int) == 16) = decide (n = 16) := by rw [Bool.eq_iff_iff]; simp; omega
theorem iv_eq (l : List Int) (hl : l.length ≤ 1048576) (k : Nat) (hk : 1048700 < k) : spec_SmallInverse.f k l = some (ivL l) := by
  unfold spec_SmallInverse.f ivL
  rw [small_eq k l hl (by omega), Option.bind_some]
  by_cases h : okSm l
  · obtain ⟨m, rfl⟩ : ∃ m, k = m + 100 := ⟨k - 100, by omega⟩
    have hi : spec_l13Inverse.f (m + 100) l = some (tab 16 (ivV (TC (TR l 4) 4))) := by
      have h2 := h.2
      match l, h2 with
      | [b0, b1, b2, b3, b4, b5, b6, b7, b8, b9, b10, b11, b12, b13, b14, b15], _ => exact inverse_eq b0 b1 b2 b3 b4 b5 b6 b7 b8 b9 b10 b11 b12 b13 b14 b15 m
    rw [h.1, h.2, Bool.true_and, if_pos (by decide), hi, Option.bind_some, if_pos h]
  · have hb : ¬ ((inB (-65536) 65535 l && ((l.length : Int) == 16)) = true) := fun g => by
      rw [Bool.and_eq_true, beq16, decide_eq_true_eq] at g
      exact h g
    rw [if_neg hb, if_neg h]
theorem iv_spec (A0 : Option Addr) (c0 : Nat) (l0 : List Int) (hl0 : l0.length ≤ 1048576) (hw0 : ∀ x ∈ l0, (Lit.int .i64 x).wf = true) (w : World) (hc0 : l0.length ≤ c0) (hr0 : Kd.C (Kd.int .i64) w A0 l0.length l0) :
    Calls Try.prog 37 #[.slice A0 l0.length c0] w fun e w' => ∃ v : Value, e = .returned v ∧ Kd.R (Kd.int .i64) 3 w' w.heap.size (fun _ => True) v (ivL l0) ∧ Below w.heap.size w w' :=
  spec_SmallInverse.calls 1048701 A0 c0 l0 _ w hr0 hc0 (iv_eq l0 hl0 _ (by omega))
end Go.Proofs.Ytflgalojbebfmaa.Wk
