/- Proved: the program's Adler tells what the reference's tells, for every byte string of at most 1048576 bytes (for a longer one the statement says nothing). -/
import Derived.Test.YtjjaahdfjjomiaaPFnExactAdlerx1
import Derived.Test.YtjjaahdfjjomiaaMy
namespace Go.Proofs.Ytjjaahdfjjomiaa.Pure
open Go.RowKit Go.Proofs.Ytjjaahdfjjomiaa.PFnExactAdler Go.Proofs.YtjjaahdfjjomiaaW.PrintWords Go.Proofs.YtjjaahdfjjomiaaW.PrintLast Go.Proofs.YtjjaahdfjjomiaaW.PrintMore Go.Proofs.Ytjjaahdfjjomiaa.My
set_option linter.unusedVariables false
set_option linter.unusedSimpArgs false

theorem toByteS_l0 (x0 : List Int) (hl : x0.length ≤ 1152921504606846976) (d : Nat) : ∀ (k : Nat) (x3 : List Int) (i : Nat), x3.length = x0.length → i + d = x0.length → d < k → (∀ j, j < i → x3[j]? = x0[j]?) →
    laws_toByteS.l0 k x0 x3 (i : Int) = some x0 := by
  induction d with
  | zero =>
    intro k x3 i h3 hi hk hj
    obtain ⟨k, rfl⟩ : ∃ m, k = m + 1 := ⟨k - 1, by omega⟩
    simp only [laws_toByteS.l0]
    rw [if_neg (by omega)]
    congr 1
    refine List.ext_getElem? fun j => ?_
    by_cases h : j < i
    · exact hj j h
    · rw [List.getElem?_eq_none (by omega), List.getElem?_eq_none (by omega)]
  | succ d ih =>
    intro k x3 i h3 hi hk hj
    obtain ⟨k, rfl⟩ : ∃ m, k = m + 1 := ⟨k - 1, by omega⟩
    simp only [laws_toByteS.l0]
    rw [if_pos (by omega), if_pos (by omega), if_pos (by omega), wrap64_nat (by omega)]
    refine ih k _ (i + 1) (by simpa using h3) (by omega) (by omega) fun j hji => ?_
    rw [rd_lt (show i < x0.length by omega), Int.toNat_natCast, List.getElem?_set]
    split
    · rename_i h
      subst h
      rw [if_pos (by omega), List.getElem?_eq_getElem (by omega)]
    · exact hj j (by omega)
/-- The copy reads as the list. -/
theorem toByteS_eq (k : Nat) (l : List Int) (hl : l.length ≤ 1048576) (hk : l.length < k) : laws_toByteS.f k l = some l := by
  unfold laws_toByteS.f
  rw [if_pos (by omega), if_pos (by omega)]
  exact toByteS_l0 l (by omega) l.length k _ 0 (by simp) (by omega) hk (by omega)
theorem eqByteS_l0 (x : List Int) (hl : x.length ≤ 1152921504606846976) (d : Nat) : ∀ (k : Nat) (i : Nat), i + d = x.length → d < k → laws_eqByteS.l0 k x x (i : Int) = some true := by
  induction d with
  | zero =>
    intro k i hi hk
    obtain ⟨k, rfl⟩ : ∃ m, k = m + 1 := ⟨k - 1, by omega⟩
    simp only [laws_eqByteS.l0]
    rw [if_neg (by omega)]
  | succ d ih =>
    intro k i hi hk
    obtain ⟨k, rfl⟩ : ∃ m, k = m + 1 := ⟨k - 1, by omega⟩
    simp only [laws_eqByteS.l0]
    rw [if_pos (by omega), if_pos (by omega), if_pos (by omega), if_pos trivial, wrap64_nat (by omega)]
    exact ih k (i + 1) (by omega) (by omega)
theorem eqByteS_eq (k : Nat) (l : List Int) (hl : l.length ≤ 1152921504606846976) (hk : l.length < k) : laws_eqByteS.f k l l = some true := by
  unfold laws_eqByteS.f
  rw [if_pos rfl]
  exact eqByteS_l0 l hl l.length k 0 (by omega) hk
theorem adler_or {a b : Int} (ha0 : 0 ≤ a) (ha : a < 65521) : Go.bits .or .u32 ((b * 65536) % 4294967296) a = (((65536 * b) % 4294967296) + a) % 4294967296 := by
  rw [bits_join .u32 32 (by decide) (fun n h0 h1 => by rw [IntKind.wrap_u32]; omega) 16 _ _ (by omega) (by omega) (by omega) ha0 (by omega) (by omega)]
  omega
theorem adler_l0 (l : List Int) (hl : l.length ≤ 1048576) (d : Nat) : ∀ (k : Nat) (a b : Int) (i : Nat), 0 ≤ a → a < 65521 → 0 ≤ b → b < 65521 → i + d = l.length → d < k →
    ∃ r, spec_Adler.l0 k a b l (l.length : Int) (i : Int) = some r ∧ impl_Adler.l0 k a b l (l.length : Int) (i : Int) = some r := by
  induction d with
  | zero =>
    intro k a b i ha0 ha hb0 hb hi hk
    obtain ⟨k, rfl⟩ : ∃ m, k = m + 1 := ⟨k - 1, by omega⟩
    simp only [spec_Adler.l0, impl_Adler.l0]
    rw [if_neg (by omega), if_neg (by omega), adler_or ha0 ha]
    exact ⟨_, rfl, rfl⟩
  | succ d ih =>
    intro k a b i ha0 ha hb0 hb hi hk
    obtain ⟨k, rfl⟩ : ∃ m, k = m + 1 := ⟨k - 1, by omega⟩
    simp only [spec_Adler.l0, impl_Adler.l0]
    rw [if_pos (by omega), if_pos (by omega), if_pos (by omega), if_pos (by omega), if_pos (by omega), if_pos (by omega), wrap64_nat (by omega)]
    exact ih k _ _ (i + 1) (by omega) (by omega) (by omega) (by omega) (by omega) (by omega)
theorem FnExactAdler : laws_FnExactAdler.Pure := by
  intro l _ _ _
  refine ⟨1048577, ?_⟩
  unfold laws_FnExactAdler.f
  by_cases hl : (l.length : Int) > 1048576
  · rw [if_pos hl]
  · have hn : l.length ≤ 1048576 := by omega
    obtain ⟨r, h1, h2⟩ := adler_l0 l hn l.length 1048577 1 0 0 (by omega) (by omega) (by omega) (by omega) (by omega) (by omega)
    rw [if_neg hl]
    rw [toByteS_eq 1048577 l hn (by omega)]
    simp only [Option.bind_some]
    rw [show spec_Adler.f 1048577 l = some r from h1]
    simp only [Option.bind_some]
    rw [show impl_Adler.f 1048577 l = some r from h2]
    simp only [Option.bind_some, if_true]
    rw [eqByteS_eq 1048577 l (by omega) (by omega)]
    rfl

end Go.Proofs.Ytjjaahdfjjomiaa.Pure
