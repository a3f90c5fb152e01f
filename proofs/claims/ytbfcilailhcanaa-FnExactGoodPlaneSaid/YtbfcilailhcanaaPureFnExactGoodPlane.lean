/- Proved: the program's GoodPlane tells what the reference's tells, for every two sides and every list of samples (of more than 1048576 samples the statement says nothing). -/
import Derived.Test.YtbfcilailhcanaaPFnExactGoodPlanex2
import Derived.Test.YtbfcilailhcanaaMy
namespace Go.Proofs.Ytbfcilailhcanaa.Pure
open Go.RowKit Go.Proofs.Ytbfcilailhcanaa.PFnExactGoodPlane Go.Proofs.YtbfcilailhcanaaW.PrintWords Go.Proofs.YtbfcilailhcanaaW.PrintLast Go.Proofs.YtbfcilailhcanaaW.PrintMore Go.Proofs.Ytbfcilailhcanaa.My
set_option linter.unusedVariables false
set_option linter.unusedSimpArgs false
attribute [local congr] bind_left ite_left

theorem toIntS_l0 (x0 : List Int) (hl : x0.length ≤ 1152921504606846976) (d : Nat) : ∀ (k : Nat) (x3 : List Int) (i : Nat), x3.length = x0.length → i + d = x0.length → d < k → (∀ j, j < i → x3[j]? = x0[j]?) →
    laws_toIntS.l0 k x0 x3 (i : Int) = some x0 := by
  induction d with
  | zero =>
    intro k x3 i h3 hi hk hj
    obtain ⟨k, rfl⟩ : ∃ m, k = m + 1 := ⟨k - 1, by omega⟩
    simp only [laws_toIntS.l0]
    rw [if_neg (by omega)]
    congr 1
    refine List.ext_getElem? fun j => ?_
    by_cases h : j < i
    · exact hj j h
    · rw [List.getElem?_eq_none (by omega), List.getElem?_eq_none (by omega)]
  | succ d ih =>
    intro k x3 i h3 hi hk hj
    obtain ⟨k, rfl⟩ : ∃ m, k = m + 1 := ⟨k - 1, by omega⟩
    simp only [laws_toIntS.l0]
    rw [if_pos (by omega), if_pos (by omega), if_pos (by omega), wrap64_nat (by omega)]
    refine ih k _ (i + 1) (by simpa using h3) (by omega) (by omega) fun j hji => ?_
    rw [rd_lt (show i < x0.length by omega), Int.toNat_natCast, List.getElem?_set]
    split
    · rename_i h
      subst h
      rw [if_pos (by omega), List.getElem?_eq_getElem (by omega)]
    · exact hj j (by omega)
/-- The copy reads as the list. -/
theorem toIntS_eq (k : Nat) (l : List Int) (hl : l.length ≤ 1048576) (hk : l.length < k) : laws_toIntS.f k l = some l := by
  unfold laws_toIntS.f
  rw [if_pos (by omega), if_pos (by omega)]
  exact toIntS_l0 l (by omega) l.length k _ 0 (by simp) (by omega) hk (by omega)
theorem eqIntS_l0 (x : List Int) (hl : x.length ≤ 1152921504606846976) (d : Nat) : ∀ (k : Nat) (i : Nat), i + d = x.length → d < k → laws_eqIntS.l0 k x x (i : Int) = some true := by
  induction d with
  | zero =>
    intro k i hi hk
    obtain ⟨k, rfl⟩ : ∃ m, k = m + 1 := ⟨k - 1, by omega⟩
    simp only [laws_eqIntS.l0]
    rw [if_neg (by omega)]
  | succ d ih =>
    intro k i hi hk
    obtain ⟨k, rfl⟩ : ∃ m, k = m + 1 := ⟨k - 1, by omega⟩
    simp only [laws_eqIntS.l0]
    rw [if_pos (by omega), if_pos (by omega), if_pos (by omega), if_pos trivial, wrap64_nat (by omega)]
    exact ih k (i + 1) (by omega) (by omega)
theorem eqIntS_eq (k : Nat) (l : List Int) (hl : l.length ≤ 1152921504606846976) (hk : l.length < k) : laws_eqIntS.f k l l = some true := by
  unfold laws_eqIntS.f
  rw [if_pos rfl]
  exact eqIntS_l0 l hl l.length k 0 (by omega) hk
/-- Whether something holds of each of the first n places. -/
def allB (n : Nat) (p : Nat → Bool) : Bool := (List.range n).all p
theorem allB_iff {n : Nat} {p : Nat → Bool} : allB n p = true ↔ ∀ i, i < n → p i = true := by simp [allB]
theorem allB_congr {n : Nat} {p q : Nat → Bool} (h : ∀ i, i < n → p i = q i) : allB n p = allB n q := by
  rw [Bool.eq_iff_iff, allB_iff, allB_iff]
  exact ⟨fun g i hi => by rw [← h i hi]; exact g i hi, fun g i hi => by rw [h i hi]; exact g i hi⟩
theorem allB_false {n : Nat} {p : Nat → Bool} : allB n p = false ↔ ∃ i, i < n ∧ p i = false := by
  rw [← Bool.not_eq_true, allB_iff]
  constructor
  · intro h
    refine Classical.byContradiction fun g => h fun i hi => ?_
    rcases hp : p i with _ | _
    · exact (g ⟨i, hi, hp⟩).elim
    · rfl
  · rintro ⟨i, hi, hp⟩ h
    rw [h i hi] at hp
    cases hp
/-- A loop that looks at each place and stops with 'no' at the first that does not do. -/
theorem scan_all {F : Nat → Int → Option Bool} {p : Nat → Bool} {n c : Nat} (hs : ∀ k (i : Nat), i < n → F (k + c + 1) i = if p i = true then F k ((i + 1 : Nat) : Int) else some false) (he : ∀ k, F (k + 1) n = some true) :
    ∀ k, n * (c + 1) < k → F k 0 = some (allB n p) := by
  have key : ∀ d k (i : Nat), i + d = n → d * (c + 1) < k → (∀ j, j < i → p j = true) → F k i = some (allB n p) := by
    intro d
    induction d with
    | zero =>
      intro k i hi hk hj
      obtain ⟨k, rfl⟩ : ∃ m, k = m + 1 := ⟨k - 1, by omega⟩
      rw [show i = n by omega, he, (allB_iff.2 fun j hjn => hj j (by omega) : allB n p = true)]
    | succ d ih =>
      intro k i hi hk hj
      have e : (d + 1) * (c + 1) = d * (c + 1) + (c + 1) := Nat.succ_mul d (c + 1)
      obtain ⟨k, rfl⟩ : ∃ m, k = m + c + 1 := ⟨k - c - 1, by omega⟩
      rw [hs k i (by omega)]
      rcases hp : p i with _ | _
      · rw [if_neg (by decide), allB_false.2 ⟨i, by omega, hp⟩]
      · rw [if_pos rfl]
        exact ih k (i + 1) (by omega) (by omega) fun j hji => by
          by_cases h : j = i
          · rw [h, hp]
          · exact hj j (by omega)
  intro k hk
  exact key n k 0 (by omega) hk fun j hj => by omega
/-- The list of f's first n values. -/
def tab (n : Nat) (f : Nat → Int) : List Int := (List.range n).map f
theorem tab_length (n : Nat) (f : Nat → Int) : (tab n f).length = n := by simp [tab]
theorem tab_congr {n : Nat} {f g : Nat → Int} (h : ∀ i, i < n → f i = g i) : tab n f = tab n g := by
  unfold tab
  exact List.map_congr_left fun i hi => h i (by simpa using hi)
theorem tab_succ (n : Nat) (f : Nat → Int) : tab (n + 1) f = tab n f ++ [f n] := by simp [tab, List.range_succ]
theorem tab_get {n : Nat} {f : Nat → Int} {i : Nat} (h : i < n) : (tab n f).getD i 0 = f i := by simp [tab, List.getD, h]
theorem mem_tab {n : Nat} {f : Nat → Int} {x : Int} (h : x ∈ tab n f) : ∃ i, i < n ∧ x = f i := by
  simp only [tab, List.mem_map, List.mem_range] at h
  obtain ⟨i, hi, rfl⟩ := h
  exact ⟨i, hi, rfl⟩
theorem tab_self (l : List Int) : tab l.length (fun i => l.getD i 0) = l := by
  refine List.ext_getElem (by simp [tab]) fun i h1 h2 => ?_
  simp [tab, List.getD, h2]
/-- A loop that sets place after place. -/
theorem fill_loop {β : Type} {F : Nat → List Int → Int → Option β} {f : Nat → Int} {g : List Int → β} {n c : Nat} (hs : ∀ k out (i : Nat), out.length = n → i < n → F (k + c + 1) out i = F k (out.set i (f i)) ((i + 1 : Nat) : Int)) (he : ∀ k out, out.length = n → F (k + 1) out n = some (g out)) :
    ∀ k, n * (c + 1) < k → ∀ out, out.length = n → F k out 0 = some (g (tab n f)) := by
  have key : ∀ d k (i : Nat) out, out.length = n → i + d = n → d * (c + 1) < k → out.take i = tab i f → F k out i = some (g (tab n f)) := by
    intro d
    induction d with
    | zero =>
      intro k i out ho hi hk ht
      obtain ⟨k, rfl⟩ : ∃ m, k = m + 1 := ⟨k - 1, by omega⟩
      obtain rfl : i = n := by omega
      rw [he k out ho, ← ht, List.take_of_length_le (by omega)]
    | succ d ih =>
      intro k i out ho hi hk ht
      have e : (d + 1) * (c + 1) = d * (c + 1) + (c + 1) := Nat.succ_mul d (c + 1)
      obtain ⟨k, rfl⟩ : ∃ m, k = m + c + 1 := ⟨k - c - 1, by omega⟩
      rw [hs k out i ho (by omega)]
      exact ih k (i + 1) _ (by simpa using ho) (by omega) (by omega) (by rw [take_set_succ _ _ _ (by omega), ht, tab_succ])
  intro k hk out ho
  exact key n k 0 out ho (by omega) hk (by simp [tab])
/-- A loop that appends. -/
theorem push_loop {β : Type} {F : Nat → List Int → Int → Option β} {f : Nat → Int} {g : List Int → β} {n c : Nat} (hs : ∀ k out (i : Nat), out.length = i → i < n → F (k + c + 1) out i = F k (out ++ [f i]) ((i + 1 : Nat) : Int)) (he : ∀ k out, out.length = n → F (k + 1) out n = some (g out)) :
    ∀ k, n * (c + 1) < k → F k [] 0 = some (g (tab n f)) := by
  have key : ∀ d k (i : Nat), i + d = n → d * (c + 1) < k → F k (tab i f) i = some (g (tab n f)) := by
    intro d
    induction d with
    | zero =>
      intro k i hi hk
      obtain ⟨k, rfl⟩ : ∃ m, k = m + 1 := ⟨k - 1, by omega⟩
      obtain rfl : i = n := by omega
      exact he k _ (tab_length _ _)
    | succ d ih =>
      intro k i hi hk
      have e : (d + 1) * (c + 1) = d * (c + 1) + (c + 1) := Nat.succ_mul d (c + 1)
      obtain ⟨k, rfl⟩ : ∃ m, k = m + c + 1 := ⟨k - c - 1, by omega⟩
      rw [hs k _ i (tab_length _ _) (by omega), ← tab_succ]
      exact ih k (i + 1) (by omega) (by omega)
  intro k hk
  exact key n k 0 (by omega) hk
/-- Whether the number at place i lies between lo and hi. -/
def inR (lo hi : Int) (l : List Int) (i : Nat) : Bool := decide (lo ≤ l.getD i 0) && decide (l.getD i 0 ≤ hi)
/-- Whether all numbers of a list lie between lo and hi. -/
def inB (lo hi : Int) (l : List Int) : Bool := allB l.length (inR lo hi l)
theorem inB_iff {lo hi : Int} {l : List Int} : inB lo hi l = true ↔ ∀ i, i < l.length → lo ≤ l.getD i 0 ∧ l.getD i 0 ≤ hi := by
  unfold inB
  rw [allB_iff]
  simp only [inR, Bool.and_eq_true, decide_eq_true_eq]
/-- A loop that asks of each number whether it lies between lo and hi. -/
theorem range_loop {F : Nat → Int → Option Bool} {lo hi : Int} {l : List Int} {b : Bool} {c : Nat} (hs : ∀ k (i : Nat), i < l.length → F (k + c + 1) i = if l.getD i 0 < lo then some false else if l.getD i 0 > hi then some false else F k ((i + 1 : Nat) : Int)) (he : ∀ k, F (k + 1) l.length = some b) :
    ∀ k, l.length * (c + 1) < k → F k 0 = some (inB lo hi l && b) := by
  have key : ∀ d k (i : Nat), i + d = l.length → d * (c + 1) < k → (∀ j, j < i → inR lo hi l j = true) → F k i = some (inB lo hi l && b) := by
    intro d
    induction d with
    | zero =>
      intro k i hi hk hj
      obtain ⟨k, rfl⟩ : ∃ m, k = m + 1 := ⟨k - 1, by omega⟩
      rw [show i = l.length by omega, he, show inB lo _ l = true from allB_iff.2 fun j hjn => hj j (by omega), Bool.true_and]
    | succ d ih =>
      intro k i hi' hk hj
      have e : (d + 1) * (c + 1) = d * (c + 1) + (c + 1) := Nat.succ_mul d (c + 1)
      obtain ⟨k, rfl⟩ : ∃ m, k = m + c + 1 := ⟨k - c - 1, by omega⟩
      rw [hs k i (by omega)]
      have bad : inR lo hi l i = false → some false = some (inB lo hi l && b) := fun h => by
        rw [show inB lo hi l = false from allB_false.2 ⟨i, by omega, h⟩, Bool.false_and]
      by_cases h1 : l.getD i 0 < lo
      · rw [if_pos h1]
        exact bad (by unfold inR; rw [decide_eq_false (by omega), Bool.false_and])
      by_cases h2 : l.getD i 0 > hi
      · rw [if_neg h1, if_pos h2]
        exact bad (by unfold inR; rw [decide_eq_false (p := l.getD i 0 ≤ hi) (by omega), Bool.and_false])
      rw [if_neg h1, if_neg h2]
      refine ih k (i + 1) (by omega) (by omega) fun j hji => ?_
      by_cases h : j = i
      · subst h
        unfold inR
        rw [decide_eq_true (by omega), decide_eq_true (by omega), Bool.true_and]
      · exact hj j (by omega)
  intro k hk
  exact key l.length k 0 (by omega) hk fun j hj => by omega
/-- Whether two sides are good. -/
def sidesB (w h : Int) : Bool := decide (1 ≤ w) && decide (w ≤ 512) && decide (1 ≤ h) && decide (h ≤ 512)
theorem sidesB_iff {w h : Int} : sidesB w h = true ↔ 1 ≤ w ∧ w ≤ 512 ∧ 1 ≤ h ∧ h ≤ 512 := by simp only [sidesB, Bool.and_eq_true, decide_eq_true_eq, and_assoc]
theorem l4Sides_eq (w h : Int) : spec_l4Sides.f w h = some (sidesB w h) := by
  unfold spec_l4Sides.f sidesB
  by_cases h1 : w ≥ 1
  · by_cases h2 : w ≤ 512
    · by_cases h3 : h ≥ 1
      · simp (disch := omega) only [if_pos, if_neg, decide_eq_true, decide_eq_false, if_true, Bool.false_eq_true, if_false, wrap64_id, u64_id, Option.bind_some, Bool.true_and]
      · simp (disch := omega) only [if_pos, if_neg, decide_eq_true, decide_eq_false, if_true, Bool.false_eq_true, if_false, wrap64_id, u64_id, Option.bind_some, Bool.and_false, Bool.false_and]
    · simp (disch := omega) only [if_pos, if_neg, decide_eq_true, decide_eq_false, if_true, Bool.false_eq_true, if_false, wrap64_id, u64_id, Option.bind_some, Bool.and_false, Bool.false_and]
  · simp (disch := omega) only [if_pos, if_neg, decide_eq_true, decide_eq_false, if_true, Bool.false_eq_true, if_false, wrap64_id, u64_id, Option.bind_some, Bool.and_false, Bool.false_and]
theorem goodSides_eq (w h : Int) : impl_goodSides.f w h = some (sidesB w h && decide (wrap64 (w * h) ≤ 4096)) := by
  unfold impl_goodSides.f impl_goodSide.f sidesB
  by_cases h1 : w ≥ 1
  · by_cases h2 : w ≤ 512
    · by_cases h3 : h ≥ 1
      · by_cases h4 : h ≤ 512
        · simp (disch := omega) only [if_pos, if_neg, decide_eq_true, decide_eq_false, if_true, Bool.false_eq_true, if_false, wrap64_id, u64_id, Option.bind_some, Bool.true_and]
        · simp (disch := omega) only [if_pos, if_neg, decide_eq_true, decide_eq_false, if_true, Bool.false_eq_true, if_false, wrap64_id, u64_id, Option.bind_some, Bool.and_false, Bool.false_and]
      · simp (disch := omega) only [if_pos, if_neg, decide_eq_true, decide_eq_false, if_true, Bool.false_eq_true, if_false, wrap64_id, u64_id, Option.bind_some, Bool.and_false, Bool.false_and]
    · simp (disch := omega) only [if_pos, if_neg, decide_eq_true, decide_eq_false, if_true, Bool.false_eq_true, if_false, wrap64_id, u64_id, Option.bind_some, Bool.and_false, Bool.false_and]
  · simp (disch := omega) only [if_pos, if_neg, decide_eq_true, decide_eq_false, if_true, Bool.false_eq_true, if_false, wrap64_id, u64_id, Option.bind_some, Bool.and_false, Bool.false_and]
theorem l7Sides_eq (w h : Int) : spec_l7Sides.f w h = some (sidesB w h && decide (wrap64 (w * h) ≤ 4096)) := by
  unfold spec_l7Sides.f
  rw [l4Sides_eq]
  rcases sidesB w h with _ | _
  · rfl
  · simp (disch := omega) only [if_pos, if_neg, decide_eq_true, decide_eq_false, if_true, Bool.false_eq_true, if_false, wrap64_id, u64_id, Option.bind_some, Bool.true_and]
theorem inRange_eq (k : Nat) (l : List Int) (hl : l.length ≤ 1048576) (hk : l.length < k) : impl_inRange.f k l 255 = some (inB 0 255 l) := by
  rw [← Bool.and_true (inB 0 255 l)]
  refine range_loop (F := fun k i => impl_inRange.l0 k 255 l (l.length : Int) i) (c := 0) (fun k i hi => ?_) (fun k => ?_) k (by omega)
  · simp only [impl_inRange.l0, rd_nat]
    rw [wrap64_nat (by omega)]
    simp (disch := omega) only [if_pos, if_neg, decide_eq_true, decide_eq_false, if_true, Bool.false_eq_true, if_false, wrap64_id, u64_id, Option.bind_some]
  · simp only [impl_inRange.l0]
    rw [if_neg (by omega)]
theorem planeLoop_eq (k : Nat) (l : List Int) (hl : l.length ≤ 1048576) (hk : l.length < k) : spec_GoodPlane.l0 k l (l.length : Int) 0 = some (inB 0 255 l) := by
  rw [← Bool.and_true (inB 0 255 l)]
  refine range_loop (F := fun k i => spec_GoodPlane.l0 k l (l.length : Int) i) (c := 0) (fun k i hi => ?_) (fun k => ?_) k (by omega)
  · simp only [spec_GoodPlane.l0, rd_nat]
    rw [wrap64_nat (by omega)]
    simp (disch := omega) only [if_pos, if_neg, decide_eq_true, decide_eq_false, if_true, Bool.false_eq_true, if_false, wrap64_id, u64_id, Option.bind_some]
  · simp only [spec_GoodPlane.l0]
    rw [if_neg (by omega)]
theorem plane_same (k : Nat) (w h : Int) (l : List Int) (hl : l.length ≤ 1048576) (hk : 1048580 < k) : ∃ r, spec_GoodPlane.f k w h l = some r ∧ impl_GoodPlane.f k w h l = some r := by
  obtain ⟨k, rfl⟩ : ∃ m, k = m + 1 := ⟨k - 1, by omega⟩
  unfold spec_GoodPlane.f impl_GoodPlane.f
  simp only [spec_GoodPlane.j0]
  rw [l7Sides_eq, goodSides_eq]
  rcases sidesB w h && decide (wrap64 (w * h) ≤ 4096) with _ | _
  · exact ⟨false, rfl, rfl⟩
  by_cases h1 : (l.length : Int) = wrap64 (w * h)
  · refine ⟨inB 0 255 l, ?_, ?_⟩
    · simp (disch := omega) only [if_pos, if_neg, decide_eq_true, decide_eq_false, if_true, Bool.false_eq_true, if_false, wrap64_id, u64_id, Option.bind_some, bne_eq_false_iff_eq.2 h1, planeLoop_eq]
    · rw [Option.bind_some, if_pos rfl, if_pos h1, inRange_eq _ _ hl (by omega), Option.bind_some]
  · refine ⟨false, ?_, ?_⟩
    · simp (disch := omega) only [if_pos, if_neg, decide_eq_true, decide_eq_false, if_true, Bool.false_eq_true, if_false, wrap64_id, u64_id, Option.bind_some, bne_iff_ne.2 h1]
    · rw [Option.bind_some, if_pos rfl, if_neg h1]
theorem FnExactGoodPlane (w h : Int) (l : List Int) (hl : l.length ≤ maxLen) : laws_FnExactGoodPlane.f 1048600 w h l = some true := by
  have hm : maxLen = 9223372036854775807 := rfl
  unfold laws_FnExactGoodPlane.f laws_szPlane.f laws_szIntS.f
  by_cases h1 : l.length > 1048576
  · simp (disch := omega) only [if_pos, if_neg, decide_eq_true, decide_eq_false, if_true, Bool.false_eq_true, if_false, wrap64_id, u64_id, Option.bind_some]
  obtain ⟨r, e1, e2⟩ := plane_same 1048600 w h l (by omega) (by omega)
  simp (disch := omega) only [if_pos, if_neg, decide_eq_true, decide_eq_false, if_true, Bool.false_eq_true, if_false, wrap64_id, u64_id, Option.bind_some, laws_toPlane.f, toIntS_eq, e1, e2, bne_self_eq_false, laws_eqPlane.f, eqIntS_eq]

end Go.Proofs.Ytbfcilailhcanaa.Pure
