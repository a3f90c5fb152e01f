/- Proved: the program's GoodImage tells what the reference's tells, for every width, height, number of planes, depth and list of samples (of more than 1048576 samples the statement says nothing). -/
import Derived.Test.YtbfcilailhcanaaPFnExactGoodImagex5
import Derived.Test.YtbfcilailhcanaaMy
namespace Go.Proofs.Ytbfcilailhcanaa.Pure
open Go.RowKit Go.Proofs.Ytbfcilailhcanaa.PFnExactGoodImage Go.Proofs.YtbfcilailhcanaaW.PrintWords Go.Proofs.YtbfcilailhcanaaW.PrintLast Go.Proofs.YtbfcilailhcanaaW.PrintMore Go.Proofs.Ytbfcilailhcanaa.My
set_option linter.unusedVariables false
set_option linter.unusedSimpArgs false
attribute [local congr] bind_left ite_left

theorem toIntS_l0 (x0 : List Int) (hl : x0.length ≤ 1152921504606846976) (d : Nat) : ∀ (k : Nat) (x3 : List Int) (i : Nat), x3.length = x0.length → i + d = x0.length → d < k → (∀ j, j < i → x3[j]? = x0[j]?) →
    laws_toIntS.l0 k x0 x3 (i : Int) = some x0 := by
  induction d with
  | zero =>
    intro k x3 i h3 hi hk hj
    obtain ⟨k, rfl⟩ : ∃ m, k = m + 1 := ⟨k - 1, by omega⟩
    simp only [laws_toIntS.l0]
    rw [if_neg (by omega)]
    congr 1
    refine List.ext_getElem? fun j => ?_
    by_cases h : j < i
    · exact hj j h
    · rw [List.getElem?_eq_none (by omega), List.getElem?_eq_none (by omega)]
  | succ d ih =>
    intro k x3 i h3 hi hk hj
    obtain ⟨k, rfl⟩ : ∃ m, k = m + 1 := ⟨k - 1, by omega⟩
    simp only [laws_toIntS.l0]
    rw [if_pos (by omega), if_pos (by omega), if_pos (by omega), wrap64_nat (by omega)]
    refine ih k _ (i + 1) (by simpa using h3) (by omega) (by omega) fun j hji => ?_
    rw [rd_lt (show i < x0.length by omega), Int.toNat_natCast, List.getElem?_set]
    split
    · rename_i h
      subst h
      rw [if_pos (by omega), List.getElem?_eq_getElem (by omega)]
    · exact hj j (by omega)
/-- The copy reads as the list. -/
theorem toIntS_eq (k : Nat) (l : List Int) (hl : l.length ≤ 1048576) (hk : l.length < k) : laws_toIntS.f k l = some l := by
  unfold laws_toIntS.f
  rw [if_pos (by omega), if_pos (by omega)]
  exact toIntS_l0 l (by omega) l.length k _ 0 (by simp) (by omega) hk (by omega)
theorem eqIntS_l0 (x : List Int) (hl : x.length ≤ 1152921504606846976) (d : Nat) : ∀ (k : Nat) (i : Nat), i + d = x.length → d < k → laws_eqIntS.l0 k x x (i : Int) = some true := by
  induction d with
  | zero =>
    intro k i hi hk
    obtain ⟨k, rfl⟩ : ∃ m, k = m + 1 := ⟨k - 1, by omega⟩
    simp only [laws_eqIntS.l0]
    rw [if_neg (by omega)]
  | succ d ih =>
    intro k i hi hk
    obtain ⟨k, rfl⟩ : ∃ m, k = m + 1 := ⟨k - 1, by omega⟩
    simp only [laws_eqIntS.l0]
    rw [if_pos (by omega), if_pos (by omega), if_pos (by omega), if_pos trivial, wrap64_nat (by omega)]
    exact ih k (i + 1) (by omega) (by omega)
theorem eqIntS_eq (k : Nat) (l : List Int) (hl : l.length ≤ 1152921504606846976) (hk : l.length < k) : laws_eqIntS.f k l l = some true := by
  unfold laws_eqIntS.f
  rw [if_pos rfl]
  exact eqIntS_l0 l hl l.length k 0 (by omega) hk
/-- Whether something holds of each of the first n places. -/
def allB (n : Nat) (p : Nat → Bool) : Bool := (List.range n).all p
theorem allB_iff {n : Nat} {p : Nat → Bool} : allB n p = true ↔ ∀ i, i < n → p i = true := by simp [allB]
theorem allB_congr {n : Nat} {p q : Nat → Bool} (h : ∀ i, i < n → p i = q i) : allB n p = allB n q := by
  rw [Bool.eq_iff_iff, allB_iff, allB_iff]
  exact ⟨fun g i hi => by rw [← h i hi]; exact g i hi, fun g i hi => by rw [h i hi]; exact g i hi⟩
theorem allB_false {n : Nat} {p : Nat → Bool} : allB n p = false ↔ ∃ i, i < n ∧ p i = false := by
  rw [← Bool.not_eq_true, allB_iff]
  constructor
  · intro h
    refine Classical.byContradiction fun g => h fun i hi => ?_
    rcases hp : p i with _ | _
    · exact (g ⟨i, hi, hp⟩).elim
    · rfl
  · rintro ⟨i, hi, hp⟩ h
    rw [h i hi] at hp
    cases hp
/-- A loop that looks at each place and stops with 'no' at the first that does not do. -/
theorem scan_all {F : Nat → Int → Option Bool} {p : Nat → Bool} {n c : Nat} (hs : ∀ k (i : Nat), i < n → F (k + c + 1) i = if p i = true then F k ((i + 1 : Nat) : Int) else some false) (he : ∀ k, F (k + 1) n = some true) :
    ∀ k, n * (c + 1) < k → F k 0 = some (allB n p) := by
  have key : ∀ d k (i : Nat), i + d = n → d * (c + 1) < k → (∀ j, j < i → p j = true) → F k i = some (allB n p) := by
    intro d
    induction d with
    | zero =>
      intro k i hi hk hj
      obtain ⟨k, rfl⟩ : ∃ m, k = m + 1 := ⟨k - 1, by omega⟩
      rw [show i = n by omega, he, (allB_iff.2 fun j hjn => hj j (by omega) : allB n p = true)]
    | succ d ih =>
      intro k i hi hk hj
      have e : (d + 1) * (c + 1) = d * (c + 1) + (c + 1) := Nat.succ_mul d (c + 1)
      obtain ⟨k, rfl⟩ : ∃ m, k = m + c + 1 := ⟨k - c - 1, by omega⟩
      rw [hs k i (by omega)]
      rcases hp : p i with _ | _
      · rw [if_neg (by decide), allB_false.2 ⟨i, by omega, hp⟩]
      · rw [if_pos rfl]
        exact ih k (i + 1) (by omega) (by omega) fun j hji => by
          by_cases h : j = i
          · rw [h, hp]
          · exact hj j (by omega)
  intro k hk
  exact key n k 0 (by omega) hk fun j hj => by omega
/-- The list of f's first n values. -/
def tab (n : Nat) (f : Nat → Int) : List Int := (List.range n).map f
theorem tab_length (n : Nat) (f : Nat → Int) : (tab n f).length = n := by simp [tab]
theorem tab_congr {n : Nat} {f g : Nat → Int} (h : ∀ i, i < n → f i = g i) : tab n f = tab n g := by
  unfold tab
  exact List.map_congr_left fun i hi => h i (by simpa using hi)
theorem tab_succ (n : Nat) (f : Nat → Int) : tab (n + 1) f = tab n f ++ [f n] := by simp [tab, List.range_succ]
theorem tab_get {n : Nat} {f : Nat → Int} {i : Nat} (h : i < n) : (tab n f).getD i 0 = f i := by simp [tab, List.getD, h]
theorem mem_tab {n : Nat} {f : Nat → Int} {x : Int} (h : x ∈ tab n f) : ∃ i, i < n ∧ x = f i := by
  simp only [tab, List.mem_map, List.mem_range] at h
  obtain ⟨i, hi, rfl⟩ := h
  exact ⟨i, hi, rfl⟩
theorem tab_self (l : List Int) : tab l.length (fun i => l.getD i 0) = l := by
  refine List.ext_getElem (by simp [tab]) fun i h1 h2 => ?_
  simp [tab, List.getD, h2]
/-- A loop that sets place after place. -/
theorem fill_loop {β : Type} {F : Nat → List Int → Int → Option β} {f : Nat → Int} {g : List Int → β} {n c : Nat} (hs : ∀ k out (i : Nat), out.length = n → i < n → F (k + c + 1) out i = F k (out.set i (f i)) ((i + 1 : Nat) : Int)) (he : ∀ k out, out.length = n → F (k + 1) out n = some (g out)) :
    ∀ k, n * (c + 1) < k → ∀ out, out.length = n → F k out 0 = some (g (tab n f)) := by
  have key : ∀ d k (i : Nat) out, out.length = n → i + d = n → d * (c + 1) < k → out.take i = tab i f → F k out i = some (g (tab n f)) := by
    intro d
    induction d with
    | zero =>
      intro k i out ho hi hk ht
      obtain ⟨k, rfl⟩ : ∃ m, k = m + 1 := ⟨k - 1, by omega⟩
      obtain rfl : i = n := by omega
      rw [he k out ho, ← ht, List.take_of_length_le (by omega)]
    | succ d ih =>
      intro k i out ho hi hk ht
      have e : (d + 1) * (c + 1) = d * (c + 1) + (c + 1) := Nat.succ_mul d (c + 1)
      obtain ⟨k, rfl⟩ : ∃ m, k = m + c + 1 := ⟨k - c - 1, by omega⟩
      rw [hs k out i ho (by omega)]
      exact ih k (i + 1) _ (by simpa using ho) (by omega) (by omega) (by rw [take_set_succ _ _ _ (by omega), ht, tab_succ])
  intro k hk out ho
  exact key n k 0 out ho (by omega) hk (by simp [tab])
/-- A loop that appends. -/
theorem push_loop {β : Type} {F : Nat → List Int → Int → Option β} {f : Nat → Int} {g : List Int → β} {n c : Nat} (hs : ∀ k out (i : Nat), out.length = i → i < n → F (k + c + 1) out i = F k (out ++ [f i]) ((i + 1 : Nat) : Int)) (he : ∀ k out, out.length = n → F (k + 1) out n = some (g out)) :
    ∀ k, n * (c + 1) < k → F k [] 0 = some (g (tab n f)) := by
  have key : ∀ d k (i : Nat), i + d = n → d * (c + 1) < k → F k (tab i f) i = some (g (tab n f)) := by
    intro d
    induction d with
    | zero =>
      intro k i hi hk
      obtain ⟨k, rfl⟩ : ∃ m, k = m + 1 := ⟨k - 1, by omega⟩
      obtain rfl : i = n := by omega
      exact he k _ (tab_length _ _)
    | succ d ih =>
      intro k i hi hk
      have e : (d + 1) * (c + 1) = d * (c + 1) + (c + 1) := Nat.succ_mul d (c + 1)
      obtain ⟨k, rfl⟩ : ∃ m, k = m + c + 1 := ⟨k - c - 1, by omega⟩
      rw [hs k _ i (tab_length _ _) (by omega), ← tab_succ]
      exact ih k (i + 1) (by omega) (by omega)
  intro k hk
  exact key n k 0 (by omega) hk
/-- Whether the number at place i lies between lo and hi. -/
def inR (lo hi : Int) (l : List Int) (i : Nat) : Bool := decide (lo ≤ l.getD i 0) && decide (l.getD i 0 ≤ hi)
/-- Whether all numbers of a list lie between lo and hi. -/
def inB (lo hi : Int) (l : List Int) : Bool := allB l.length (inR lo hi l)
theorem inB_iff {lo hi : Int} {l : List Int} : inB lo hi l = true ↔ ∀ i, i < l.length → lo ≤ l.getD i 0 ∧ l.getD i 0 ≤ hi := by
  unfold inB
  rw [allB_iff]
  simp only [inR, Bool.and_eq_true, decide_eq_true_eq]
/-- A loop that asks of each number whether it lies between lo and hi. -/
theorem range_loop {F : Nat → Int → Option Bool} {lo hi : Int} {l : List Int} {b : Bool} {c : Nat} (hs : ∀ k (i : Nat), i < l.length → F (k + c + 1) i = if l.getD i 0 < lo then some false else if l.getD i 0 > hi then some false else F k ((i + 1 : Nat) : Int)) (he : ∀ k, F (k + 1) l.length = some b) :
    ∀ k, l.length * (c + 1) < k → F k 0 = some (inB lo hi l && b) := by
  have key : ∀ d k (i : Nat), i + d = l.length → d * (c + 1) < k → (∀ j, j < i → inR lo hi l j = true) → F k i = some (inB lo hi l && b) := by
    intro d
    induction d with
    | zero =>
      intro k i hi hk hj
      obtain ⟨k, rfl⟩ : ∃ m, k = m + 1 := ⟨k - 1, by omega⟩
      rw [show i = l.length by omega, he, show inB lo _ l = true from allB_iff.2 fun j hjn => hj j (by omega), Bool.true_and]
    | succ d ih =>
      intro k i hi' hk hj
      have e : (d + 1) * (c + 1) = d * (c + 1) + (c + 1) := Nat.succ_mul d (c + 1)
      obtain ⟨k, rfl⟩ : ∃ m, k = m + c + 1 := ⟨k - c - 1, by omega⟩
      rw [hs k i (by omega)]
      have bad : inR lo hi l i = false → some false = some (inB lo hi l && b) := fun h => by
        rw [show inB lo hi l = false from allB_false.2 ⟨i, by omega, h⟩, Bool.false_and]
      by_cases h1 : l.getD i 0 < lo
      · rw [if_pos h1]
        exact bad (by unfold inR; rw [decide_eq_false (by omega), Bool.false_and])
      by_cases h2 : l.getD i 0 > hi
      · rw [if_neg h1, if_pos h2]
        exact bad (by unfold inR; rw [decide_eq_false (p := l.getD i 0 ≤ hi) (by omega), Bool.and_false])
      rw [if_neg h1, if_neg h2]
      refine ih k (i + 1) (by omega) (by omega) fun j hji => ?_
      by_cases h : j = i
      · subst h
        unfold inR
        rw [decide_eq_true (by omega), decide_eq_true (by omega), Bool.true_and]
      · exact hj j (by omega)
  intro k hk
  exact key l.length k 0 (by omega) hk fun j hj => by omega
/-- Whether two sides are good. -/
def sidesB (w h : Int) : Bool := decide (1 ≤ w) && decide (w ≤ 512) && decide (1 ≤ h) && decide (h ≤ 512)
theorem sidesB_iff {w h : Int} : sidesB w h = true ↔ 1 ≤ w ∧ w ≤ 512 ∧ 1 ≤ h ∧ h ≤ 512 := by simp only [sidesB, Bool.and_eq_true, decide_eq_true_eq, and_assoc]
theorem l4Sides_eq (w h : Int) : spec_l4Sides.f w h = some (sidesB w h) := by
  unfold spec_l4Sides.f sidesB
  by_cases h1 : w ≥ 1
  · by_cases h2 : w ≤ 512
    · by_cases h3 : h ≥ 1
      · simp (disch := omega) only [if_pos, if_neg, decide_eq_true, decide_eq_false, if_true, Bool.false_eq_true, if_false, wrap64_id, u64_id, Option.bind_some, Bool.true_and]
      · simp (disch := omega) only [if_pos, if_neg, decide_eq_true, decide_eq_false, if_true, Bool.false_eq_true, if_false, wrap64_id, u64_id, Option.bind_some, Bool.and_false, Bool.false_and]
    · simp (disch := omega) only [if_pos, if_neg, decide_eq_true, decide_eq_false, if_true, Bool.false_eq_true, if_false, wrap64_id, u64_id, Option.bind_some, Bool.and_false, Bool.false_and]
  · simp (disch := omega) only [if_pos, if_neg, decide_eq_true, decide_eq_false, if_true, Bool.false_eq_true, if_false, wrap64_id, u64_id, Option.bind_some, Bool.and_false, Bool.false_and]
theorem goodSides_eq (w h : Int) : impl_goodSides.f w h = some (sidesB w h && decide (wrap64 (w * h) ≤ 4096)) := by
  unfold impl_goodSides.f impl_goodSide.f sidesB
  by_cases h1 : w ≥ 1
  · by_cases h2 : w ≤ 512
    · by_cases h3 : h ≥ 1
      · by_cases h4 : h ≤ 512
        · simp (disch := omega) only [if_pos, if_neg, decide_eq_true, decide_eq_false, if_true, Bool.false_eq_true, if_false, wrap64_id, u64_id, Option.bind_some, Bool.true_and]
        · simp (disch := omega) only [if_pos, if_neg, decide_eq_true, decide_eq_false, if_true, Bool.false_eq_true, if_false, wrap64_id, u64_id, Option.bind_some, Bool.and_false, Bool.false_and]
      · simp (disch := omega) only [if_pos, if_neg, decide_eq_true, decide_eq_false, if_true, Bool.false_eq_true, if_false, wrap64_id, u64_id, Option.bind_some, Bool.and_false, Bool.false_and]
    · simp (disch := omega) only [if_pos, if_neg, decide_eq_true, decide_eq_false, if_true, Bool.false_eq_true, if_false, wrap64_id, u64_id, Option.bind_some, Bool.and_false, Bool.false_and]
  · simp (disch := omega) only [if_pos, if_neg, decide_eq_true, decide_eq_false, if_true, Bool.false_eq_true, if_false, wrap64_id, u64_id, Option.bind_some, Bool.and_false, Bool.false_and]
/-- Whether a depth is one of the five. -/
def depthB (d : Int) : Bool := decide (d = 1) || decide (d = 2) || decide (d = 4) || decide (d = 8) || decide (d = 16)
theorem depthB_iff {d : Int} : depthB d = true ↔ d = 1 ∨ d = 2 ∨ d = 4 ∨ d = 8 ∨ d = 16 := by simp only [depthB, Bool.or_eq_true, decide_eq_true_eq, or_assoc]
theorem l4Depth_eq (d : Int) : spec_l4Depth.f d = some (depthB d) := by
  unfold spec_l4Depth.f depthB
  by_cases h1 : d = 1
  · rw [if_pos h1, decide_eq_true h1]; rfl
  by_cases h2 : d = 2
  · rw [if_neg h1, if_pos h2, decide_eq_false h1, decide_eq_true h2]; rfl
  by_cases h3 : d = 4
  · rw [if_neg h1, if_neg h2, if_pos h3, decide_eq_false h1, decide_eq_false h2, decide_eq_true h3]; rfl
  by_cases h4 : d = 8
  · rw [if_neg h1, if_neg h2, if_neg h3, if_pos h4, decide_eq_false h1, decide_eq_false h2, decide_eq_false h3, decide_eq_true h4]; rfl
  rw [if_neg h1, if_neg h2, if_neg h3, if_neg h4, decide_eq_false h1, decide_eq_false h2, decide_eq_false h3, decide_eq_false h4]; rfl
theorem goodDepth_eq (d : Int) : impl_goodDepth.f d = some (depthB d) := l4Depth_eq d
theorem shl_depth {d : Int} (h : depthB d = true) : 2 ≤ shl .i64 1 d ∧ shl .i64 1 d ≤ 65536 := by
  rcases depthB_iff.1 h with rfl | rfl | rfl | rfl | rfl <;> decide
theorem inRange_eq (k : Nat) (l : List Int) (m : Int) (hl : l.length ≤ 1048576) (hk : l.length < k) : impl_inRange.f k l m = some (inB 0 m l) := by
  rw [← Bool.and_true (inB 0 m l)]
  refine range_loop (F := fun k i => impl_inRange.l0 k m l (l.length : Int) i) (c := 0) (fun k i hi => ?_) (fun k => ?_) k (by omega)
  · simp only [impl_inRange.l0, rd_nat]
    rw [wrap64_nat (by omega)]
    simp (disch := omega) only [if_pos, if_neg, decide_eq_true, decide_eq_false, if_true, Bool.false_eq_true, if_false, wrap64_id, u64_id, Option.bind_some]
  · simp only [impl_inRange.l0]
    rw [if_neg (by omega)]
theorem imageLoop_eq (k : Nat) (l : List Int) (w h p d : Int) (x : List Int) (hd : depthB d = true) (hl : l.length ≤ 1048576) (hk : l.length < k) : spec_GoodImage.l0 k l (l.length : Int) 0 w h p d x = some (inB 0 (shl .i64 1 d - 1) l) := by
  have hd' := depthB_iff.1 hd
  rw [← Bool.and_true (inB 0 (shl .i64 1 d - 1) l)]
  refine range_loop (F := fun k i => spec_GoodImage.l0 k l (l.length : Int) i w h p d x) (c := 0) (fun k i hi => ?_) (fun k => ?_) k (by omega)
  · simp only [spec_GoodImage.l0, rd_nat]
    rw [wrap64_nat (by omega), u64_id (n := d) (by omega) (by omega)]
    by_cases h1 : l.getD i 0 < 0
    · simp (disch := omega) only [if_pos, if_neg, decide_eq_true, decide_eq_false, if_true, Bool.false_eq_true, if_false, wrap64_id, u64_id, Option.bind_some]
    by_cases h2 : l.getD i 0 ≥ shl .i64 1 d
    · simp (disch := omega) only [if_pos, if_neg, decide_eq_true, decide_eq_false, if_true, Bool.false_eq_true, if_false, wrap64_id, u64_id, Option.bind_some]
    · simp (disch := omega) only [if_pos, if_neg, decide_eq_true, decide_eq_false, if_true, Bool.false_eq_true, if_false, wrap64_id, u64_id, Option.bind_some]
  · simp only [spec_GoodImage.l0]
    rw [if_neg (by omega)]
theorem image_same (k : Nat) (w h p d : Int) (l : List Int) (hl : l.length ≤ 1048576) (hk : 1048580 < k) : ∃ r, spec_GoodImage.f k w h p d l = some r ∧ impl_GoodImage.f k w h p d l = some r := by
  obtain ⟨k, rfl⟩ : ∃ m, k = m + 2 := ⟨k - 2, by omega⟩
  unfold spec_GoodImage.f impl_GoodImage.f impl_goodShape.f
  simp only [spec_GoodImage.j0, spec_GoodImage.j1]
  rw [l4Sides_eq, goodSides_eq, l4Depth_eq, goodDepth_eq]
  rcases sidesB w h with _ | _
  · exact ⟨false, by simp (disch := omega) only [if_pos, if_neg, decide_eq_true, decide_eq_false, if_true, Bool.false_eq_true, if_false, wrap64_id, u64_id, Option.bind_some], by simp (disch := omega) only [if_pos, if_neg, decide_eq_true, decide_eq_false, if_true, Bool.false_eq_true, if_false, wrap64_id, u64_id, Option.bind_some, Bool.false_and]⟩
  by_cases h1 : wrap64 (w * h) > 4096
  · exact ⟨false, by simp (disch := omega) only [if_pos, if_neg, decide_eq_true, decide_eq_false, if_true, Bool.false_eq_true, if_false, wrap64_id, u64_id, Option.bind_some], by simp (disch := omega) only [if_pos, if_neg, decide_eq_true, decide_eq_false, if_true, Bool.false_eq_true, if_false, wrap64_id, u64_id, Option.bind_some, Bool.and_false]⟩
  by_cases h2 : p < 1
  · exact ⟨false, by simp (disch := omega) only [if_pos, if_neg, decide_eq_true, decide_eq_false, if_true, Bool.false_eq_true, if_false, wrap64_id, u64_id, Option.bind_some], by simp (disch := omega) only [if_pos, if_neg, decide_eq_true, decide_eq_false, if_true, Bool.false_eq_true, if_false, wrap64_id, u64_id, Option.bind_some, Bool.and_true]⟩
  by_cases h3 : p > 4
  · exact ⟨false, by simp (disch := omega) only [if_pos, if_neg, decide_eq_true, decide_eq_false, if_true, Bool.false_eq_true, if_false, wrap64_id, u64_id, Option.bind_some], by simp (disch := omega) only [if_pos, if_neg, decide_eq_true, decide_eq_false, if_true, Bool.false_eq_true, if_false, wrap64_id, u64_id, Option.bind_some, Bool.and_true]⟩
  rcases hd : depthB d with _ | _
  · exact ⟨false, by simp (disch := omega) only [if_pos, if_neg, decide_eq_true, decide_eq_false, if_true, Bool.false_eq_true, if_false, wrap64_id, u64_id, Option.bind_some, Bool.not_false], by simp (disch := omega) only [if_pos, if_neg, decide_eq_true, decide_eq_false, if_true, Bool.false_eq_true, if_false, wrap64_id, u64_id, Option.bind_some, Bool.and_true]⟩
  have hs := shl_depth hd
  have hd0 := depthB_iff.1 hd
  by_cases h4 : (l.length : Int) = wrap64 (wrap64 (w * h) * p)
  · have e1 : ((l.length : Int) != wrap64 (wrap64 (w * h) * p)) = false := bne_eq_false_iff_eq.2 h4
    by_cases h5 : p = 1
    · refine ⟨inB 0 (shl .i64 1 d - 1) l, ?_, ?_⟩
      · simp (disch := omega) only [if_pos, if_neg, decide_eq_true, decide_eq_false, if_true, Bool.false_eq_true, if_false, wrap64_id, u64_id, Option.bind_some, Bool.not_true, e1, imageLoop_eq _ _ _ _ _ _ _ hd hl]
      · simp (disch := omega) only [if_pos, if_neg, decide_eq_true, decide_eq_false, if_true, Bool.false_eq_true, if_false, wrap64_id, u64_id, Option.bind_some, Bool.and_true, inRange_eq]
    · by_cases h6 : d < 8
      · exact ⟨false, by simp (disch := omega) only [if_pos, if_neg, decide_eq_true, decide_eq_false, if_true, Bool.false_eq_true, if_false, wrap64_id, u64_id, Option.bind_some, Bool.not_true], by simp (disch := omega) only [if_pos, if_neg, decide_eq_true, decide_eq_false, if_true, Bool.false_eq_true, if_false, wrap64_id, u64_id, Option.bind_some, Bool.and_true]⟩
      · refine ⟨inB 0 (shl .i64 1 d - 1) l, ?_, ?_⟩
        · simp (disch := omega) only [if_pos, if_neg, decide_eq_true, decide_eq_false, if_true, Bool.false_eq_true, if_false, wrap64_id, u64_id, Option.bind_some, Bool.not_true, e1, imageLoop_eq _ _ _ _ _ _ _ hd hl]
        · simp (disch := omega) only [if_pos, if_neg, decide_eq_true, decide_eq_false, if_true, Bool.false_eq_true, if_false, wrap64_id, u64_id, Option.bind_some, Bool.and_true, inRange_eq]
  · have e1 : ((l.length : Int) != wrap64 (wrap64 (w * h) * p)) = true := bne_iff_ne.2 h4
    refine ⟨false, ?_, ?_⟩
    · by_cases h5 : p > 1
      · by_cases h6 : d < 8
        · simp (disch := omega) only [if_pos, if_neg, decide_eq_true, decide_eq_false, if_true, Bool.false_eq_true, if_false, wrap64_id, u64_id, Option.bind_some, Bool.not_true]
        · simp (disch := omega) only [if_pos, if_neg, decide_eq_true, decide_eq_false, if_true, Bool.false_eq_true, if_false, wrap64_id, u64_id, Option.bind_some, Bool.not_true, e1]
      · simp (disch := omega) only [if_pos, if_neg, decide_eq_true, decide_eq_false, if_true, Bool.false_eq_true, if_false, wrap64_id, u64_id, Option.bind_some, Bool.not_true, e1]
    · by_cases h5 : p = 1
      · simp (disch := omega) only [if_pos, if_neg, decide_eq_true, decide_eq_false, if_true, Bool.false_eq_true, if_false, wrap64_id, u64_id, Option.bind_some, Bool.and_true]
      · by_cases h6 : d ≥ 8
        · simp (disch := omega) only [if_pos, if_neg, decide_eq_true, decide_eq_false, if_true, Bool.false_eq_true, if_false, wrap64_id, u64_id, Option.bind_some, Bool.and_true]
        · simp (disch := omega) only [if_pos, if_neg, decide_eq_true, decide_eq_false, if_true, Bool.false_eq_true, if_false, wrap64_id, u64_id, Option.bind_some, Bool.and_true]
theorem FnExactGoodImage (w h p d : Int) (l : List Int) (hl : l.length ≤ maxLen) : laws_FnExactGoodImage.f 1048600 w h p d l = some true := by
  have hm : maxLen = 9223372036854775807 := rfl
  unfold laws_FnExactGoodImage.f laws_szImage.f laws_szIntS.f
  by_cases h1 : l.length > 1048576
  · simp (disch := omega) only [if_pos, if_neg, decide_eq_true, decide_eq_false, if_true, Bool.false_eq_true, if_false, wrap64_id, u64_id, Option.bind_some]
  obtain ⟨r, e1, e2⟩ := image_same 1048600 w h p d l (by omega) (by omega)
  simp (disch := omega) only [if_pos, if_neg, decide_eq_true, decide_eq_false, if_true, Bool.false_eq_true, if_false, wrap64_id, u64_id, Option.bind_some, laws_toImage.f, toIntS_eq, e1, e2, bne_self_eq_false, laws_eqImage.f, eqIntS_eq]

end Go.Proofs.Ytbfcilailhcanaa.Pure
