/- Proved: the program's TakeLow tells what the reference's tells, for every byte string of at most 1048576 bytes, every place and every count of bits (for a longer string the statement says nothing). -/
import Derived.Test.YtjjaahdfjjomiaaPFnExactTakeLowx2
import Derived.Test.YtjjaahdfjjomiaaMy
namespace Go.Proofs.Ytjjaahdfjjomiaa.Pure
open Go.RowKit Go.Proofs.Ytjjaahdfjjomiaa.PFnExactTakeLow Go.Proofs.YtjjaahdfjjomiaaW.PrintWords Go.Proofs.YtjjaahdfjjomiaaW.PrintLast Go.Proofs.YtjjaahdfjjomiaaW.PrintMore Go.Proofs.Ytjjaahdfjjomiaa.My
set_option linter.unusedVariables false
set_option linter.unusedSimpArgs false

theorem toByteS_l0 (x0 : List Int) (hl : x0.length ≤ 1152921504606846976) (d : Nat) : ∀ (k : Nat) (x3 : List Int) (i : Nat), x3.length = x0.length → i + d = x0.length → d < k → (∀ j, j < i → x3[j]? = x0[j]?) →
    laws_toByteS.l0 k x0 x3 (i : Int) = some x0 := by
  induction d with
  | zero =>
    intro k x3 i h3 hi hk hj
    obtain ⟨k, rfl⟩ : ∃ m, k = m + 1 := ⟨k - 1, by omega⟩
    simp only [laws_toByteS.l0]
    rw [if_neg (by omega)]
    congr 1
    refine List.ext_getElem? fun j => ?_
    by_cases h : j < i
    · exact hj j h
    · rw [List.getElem?_eq_none (by omega), List.getElem?_eq_none (by omega)]
  | succ d ih =>
    intro k x3 i h3 hi hk hj
    obtain ⟨k, rfl⟩ : ∃ m, k = m + 1 := ⟨k - 1, by omega⟩
    simp only [laws_toByteS.l0]
    rw [if_pos (by omega), if_pos (by omega), if_pos (by omega), wrap64_nat (by omega)]
    refine ih k _ (i + 1) (by simpa using h3) (by omega) (by omega) fun j hji => ?_
    rw [rd_lt (show i < x0.length by omega), Int.toNat_natCast, List.getElem?_set]
    split
    · rename_i h
      subst h
      rw [if_pos (by omega), List.getElem?_eq_getElem (by omega)]
    · exact hj j (by omega)
/-- The copy reads as the list. -/
theorem toByteS_eq (k : Nat) (l : List Int) (hl : l.length ≤ 1048576) (hk : l.length < k) : laws_toByteS.f k l = some l := by
  unfold laws_toByteS.f
  rw [if_pos (by omega), if_pos (by omega)]
  exact toByteS_l0 l (by omega) l.length k _ 0 (by simp) (by omega) hk (by omega)
theorem eqByteS_l0 (x : List Int) (hl : x.length ≤ 1152921504606846976) (d : Nat) : ∀ (k : Nat) (i : Nat), i + d = x.length → d < k → laws_eqByteS.l0 k x x (i : Int) = some true := by
  induction d with
  | zero =>
    intro k i hi hk
    obtain ⟨k, rfl⟩ : ∃ m, k = m + 1 := ⟨k - 1, by omega⟩
    simp only [laws_eqByteS.l0]
    rw [if_neg (by omega)]
  | succ d ih =>
    intro k i hi hk
    obtain ⟨k, rfl⟩ : ∃ m, k = m + 1 := ⟨k - 1, by omega⟩
    simp only [laws_eqByteS.l0]
    rw [if_pos (by omega), if_pos (by omega), if_pos (by omega), if_pos trivial, wrap64_nat (by omega)]
    exact ih k (i + 1) (by omega) (by omega)
theorem eqByteS_eq (k : Nat) (l : List Int) (hl : l.length ≤ 1152921504606846976) (hk : l.length < k) : laws_eqByteS.f k l l = some true := by
  unfold laws_eqByteS.f
  rw [if_pos rfl]
  exact eqByteS_l0 l hl l.length k 0 (by omega) hk
/-- Bit p of a byte string, in low order. -/
def bitL (l : List Int) (p : Int) : Int := shr .u8 (rd l (p / 8)) (p % 8) % 2
/-- Bit p of a byte string, in high order. -/
def bitH (l : List Int) (p : Int) : Int := shr .u8 (rd l (p / 8)) (7 - p % 8) % 2
theorem bitL_range (l : List Int) (p : Int) : 0 ≤ bitL l p ∧ bitL l p < 2 := by unfold bitL; omega
theorem bitH_range (l : List Int) (p : Int) : 0 ≤ bitH l p ∧ bitH l p < 2 := by unfold bitH; omega
theorem l1Bit_low {l : List Int} (hb : ∀ x ∈ l, (Lit.int .u8 x).wf = true) (hl : l.length ≤ 1048576) {p : Int} (h0 : 0 ≤ p) (h1 : p < 8 * l.length) : spec_l1Bit.f l p false = some (bitL l p) := by
  have hr := rd_byte hb (p / 8)
  have hs := shr_le .u8 (y := p % 8) hr.1
  unfold spec_l1Bit.f
  rw [if_neg (by decide), Int.tdiv_eq_ediv_of_nonneg h0, Int.tmod_eq_emod_of_nonneg h0, wrap64_id (n := p / 8) (by omega) (by omega), u64_id (n := p % 8) (by omega) (by omega), if_pos (by omega), if_pos (by omega), if_pos (by omega), u64_id (by omega) (by omega), and_u64_one]
  rfl
theorem l1Bit_high {l : List Int} (hb : ∀ x ∈ l, (Lit.int .u8 x).wf = true) (hl : l.length ≤ 1048576) {p : Int} (h0 : 0 ≤ p) (h1 : p < 8 * l.length) : spec_l1Bit.f l p true = some (bitH l p) := by
  have hr := rd_byte hb (p / 8)
  have hs := shr_le .u8 (y := 7 - p % 8) hr.1
  unfold spec_l1Bit.f
  rw [if_pos rfl, Int.tdiv_eq_ediv_of_nonneg h0, Int.tmod_eq_emod_of_nonneg h0, wrap64_id (n := p / 8) (by omega) (by omega), wrap64_id (n := 7 - p % 8) (by omega) (by omega), u64_id (n := 7 - p % 8) (by omega) (by omega), if_pos (by omega), if_pos (by omega), if_pos (by omega), u64_id (by omega) (by omega), and_u64_one]
  rfl
theorem low_l0 {l : List Int} (hb : ∀ x ∈ l, (Lit.int .u8 x).wf = true) (hl : l.length ≤ 1048576) (a n : Int) (ha : 0 ≤ a) (hn : n ≤ 64) (ht : a + n ≤ 8 * l.length) (d : Nat) : ∀ (k : Nat) (v i : Int), 0 ≤ i → i + d = n → d < k →
    ∃ r, spec_l1Take.l0 k l a n false v i = some (true, r, a + n) ∧ impl_TakeLow.l0 k l a n i true v (a + n) = some (true, r, a + n) := by
  induction d with
  | zero =>
    intro k v i hi0 hi hk
    obtain ⟨k, rfl⟩ : ∃ m, k = m + 1 := ⟨k - 1, by omega⟩
    simp only [spec_l1Take.l0, impl_TakeLow.l0]
    rw [if_neg (by omega), if_neg (by omega), wrap64_id (by omega) (by omega)]
    exact ⟨_, rfl, rfl⟩
  | succ d ih =>
    intro k v i hi0 hi hk
    obtain ⟨k, rfl⟩ : ∃ m, k = m + 1 := ⟨k - 1, by omega⟩
    have hr := rd_byte hb ((a + i) / 8)
    have hs := shr_le .u8 (y := (a + i) % 8) hr.1
    have hbit := bitL_range l (a + i)
    simp only [spec_l1Take.l0, impl_TakeLow.l0]
    rw [if_pos (by omega), if_pos (by omega), wrap64_id (n := a + i) (by omega) (by omega), l1Bit_low hb hl (by omega) (by omega), Int.tdiv_eq_ediv_of_nonneg (by omega), Int.tmod_eq_emod_of_nonneg (by omega), wrap64_id (n := (a + i) / 8) (by omega) (by omega)]
    simp only [Option.bind_some]
    rw [if_neg (by decide), u64_id (n := i) (by omega) (by omega), if_pos hi0, if_pos (by omega), if_pos (by omega), if_pos (by omega), if_pos hi0, and_u8_one hs.1 (by omega), u64_id (n := shr .u8 (rd l ((a + i) / 8)) ((a + i) % 8) % 2) (by omega) (by omega), wrap64_id (n := i + 1) (by omega) (by omega)]
    exact ih k _ (i + 1) (by omega) (by omega) (by omega)
theorem low_f {l : List Int} (hb : ∀ x ∈ l, (Lit.int .u8 x).wf = true) (hl : l.length ≤ 1048576) (a n : Int) (ha : (Lit.int .i64 a).wf = true) (hn : (Lit.int .i64 n).wf = true) :
    ∃ r, spec_TakeLow.f 1048577 l a n = some r ∧ impl_TakeLow.f 1048577 l a n = some r := by
  have ha := bounds_i64 ha
  have hn := bounds_i64 hn
  unfold spec_TakeLow.f impl_TakeLow.f spec_l1Take.f impl_hasBits.f
  simp only [spec_l1Take.j0]
  by_cases h1 : n < 0
  · exact ⟨(false, 0, 0), by simp (disch := omega) only [if_pos, if_neg, decide_eq_true, decide_eq_false, if_true, Bool.false_eq_true, if_false, wrap64_id, u64_id, Option.bind_some], by simp (disch := omega) only [if_pos, if_neg, decide_eq_true, decide_eq_false, if_true, Bool.false_eq_true, if_false, wrap64_id, u64_id, Option.bind_some]⟩
  by_cases h2 : n > 64
  · exact ⟨(false, 0, 0), by simp (disch := omega) only [if_pos, if_neg, decide_eq_true, decide_eq_false, if_true, Bool.false_eq_true, if_false, wrap64_id, u64_id, Option.bind_some], by simp (disch := omega) only [if_pos, if_neg, decide_eq_true, decide_eq_false, if_true, Bool.false_eq_true, if_false, wrap64_id, u64_id, Option.bind_some]⟩
  by_cases h3 : a < 0
  · exact ⟨(false, 0, 0), by simp (disch := omega) only [if_pos, if_neg, decide_eq_true, decide_eq_false, if_true, Bool.false_eq_true, if_false, wrap64_id, u64_id, Option.bind_some], by simp (disch := omega) only [if_pos, if_neg, decide_eq_true, decide_eq_false, if_true, Bool.false_eq_true, if_false, wrap64_id, u64_id, Option.bind_some]⟩
  by_cases h4 : a > 8 * (l.length : Int)
  · exact ⟨(false, 0, 0), by simp (disch := omega) only [if_pos, if_neg, decide_eq_true, decide_eq_false, if_true, Bool.false_eq_true, if_false, wrap64_id, u64_id, Option.bind_some], by simp (disch := omega) only [if_pos, if_neg, decide_eq_true, decide_eq_false, if_true, Bool.false_eq_true, if_false, wrap64_id, u64_id, Option.bind_some]⟩
  by_cases h5 : n > 8 * (l.length : Int) - a
  · exact ⟨(false, 0, 0), by simp (disch := omega) only [if_pos, if_neg, decide_eq_true, decide_eq_false, if_true, Bool.false_eq_true, if_false, wrap64_id, u64_id, Option.bind_some], by simp (disch := omega) only [if_pos, if_neg, decide_eq_true, decide_eq_false, if_true, Bool.false_eq_true, if_false, wrap64_id, u64_id, Option.bind_some]⟩
  obtain ⟨r, e1, _⟩ := low_l0 hb hl a n (by omega) (by omega) (by omega) n.toNat 1048576 0 0 (by omega) (by omega) (by omega)
  obtain ⟨r', e1', e2⟩ := low_l0 hb hl a n (by omega) (by omega) (by omega) n.toNat 1048577 0 0 (by omega) (by omega) (by omega)
  have e := (spec_l1Take.mono_l 1048576).2 l a n false 0 0 _ e1
  rw [e1'] at e
  cases e
  exact ⟨(true, r, a + n), by simp (disch := omega) only [if_pos, if_neg, decide_eq_true, decide_eq_false, if_true, Bool.false_eq_true, if_false, wrap64_id, u64_id, Option.bind_some, e1], by simp (disch := omega) only [if_pos, if_neg, decide_eq_true, decide_eq_false, if_true, Bool.false_eq_true, if_false, wrap64_id, u64_id, Option.bind_some, e2]⟩
theorem FnExactTakeLow : laws_FnExactTakeLow.Pure := by
  intro l a n _ _ hb ha hn
  refine ⟨1048577, ?_⟩
  unfold laws_FnExactTakeLow.f
  by_cases hl : (l.length : Int) > 1048576
  · rw [if_pos hl]
  · have hl' : l.length ≤ 1048576 := by omega
    obtain ⟨⟨b, r, m⟩, h1, h2⟩ := low_f hb hl' a n ha hn
    have ht := toByteS_eq 1048577 l hl' (by omega)
    have he := eqByteS_eq 1048577 l (by omega) (by omega)
    simp (disch := omega) only [if_pos, if_neg, decide_eq_true, decide_eq_false, if_true, Bool.false_eq_true, if_false, wrap64_id, u64_id, Option.bind_some, ht, h1, h2, he, laws_eqNumber.f, bne_self_eq_false]

end Go.Proofs.Ytjjaahdfjjomiaa.Pure
