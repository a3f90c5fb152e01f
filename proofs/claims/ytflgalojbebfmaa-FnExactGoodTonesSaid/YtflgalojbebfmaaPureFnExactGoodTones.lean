/- Proved: the program's GoodTones tells what the reference's tells, for all tones (three numbers and two lists of lists of numbers; for those of more than 1048576 numbers the statement says nothing). -/
import Derived.Test.YtflgalojbebfmaaGtC
import Derived.Test.YtflgalojbebfmaaMy
namespace Go.Proofs.Ytflgalojbebfmaa.Pure
open Go.RowKit Go.Proofs.Ytflgalojbebfmaa.PFnExactGoodTones Go.Proofs.YtflgalojbebfmaaW.PrintWords Go.Proofs.YtflgalojbebfmaaW.PrintLast Go.Proofs.YtflgalojbebfmaaW.PrintMore Go.Proofs.Ytflgalojbebfmaa.My
set_option linter.unusedVariables false
set_option linter.unusedSimpArgs false
attribute [local congr] bind_left ite_left

theorem toIntS_l0 (x0 : List Int) (hl : x0.length ≤ 1152921504606846976) (d : Nat) : ∀ (k : Nat) (x3 : List Int) (i : Nat), x3.length = x0.length → i + d = x0.length → d < k → (∀ j, j < i → x3[j]? = x0[j]?) →
    laws_toIntS.l0 k x0 x3 (i : Int) = some x0 := by
  induction d with
  | zero =>
    intro k x3 i h3 hi hk hj
    obtain ⟨k, rfl⟩ : ∃ m, k = m + 1 := ⟨k - 1, by omega⟩
    simp only [laws_toIntS.l0]
    rw [if_neg (by omega)]
    congr 1
    refine List.ext_getElem? fun j => ?_
    by_cases h : j < i
    · exact hj j h
    · rw [List.getElem?_eq_none (by omega), List.getElem?_eq_none (by omega)]
  | succ d ih =>
    intro k x3 i h3 hi hk hj
    obtain ⟨k, rfl⟩ : ∃ m, k = m + 1 := ⟨k - 1, by omega⟩
    simp only [laws_toIntS.l0]
    rw [if_pos (by omega), if_pos (by omega), if_pos (by omega), wrap64_nat (by omega)]
    refine ih k _ (i + 1) (by simpa using h3) (by omega) (by omega) fun j hji => ?_
    rw [rd_lt (show i < x0.length by omega), Int.toNat_natCast, List.getElem?_set]
    split
    · rename_i h
      subst h
      rw [if_pos (by omega), List.getElem?_eq_getElem (by omega)]
    · exact hj j (by omega)
/-- The copy reads as the list. -/
theorem toIntS_eq (k : Nat) (l : List Int) (hl : l.length ≤ 1048576) (hk : l.length < k) : laws_toIntS.f k l = some l := by
  unfold laws_toIntS.f
  rw [if_pos (by omega), if_pos (by omega)]
  exact toIntS_l0 l (by omega) l.length k _ 0 (by simp) (by omega) hk (by omega)
theorem eqIntS_l0 (x : List Int) (hl : x.length ≤ 1152921504606846976) (d : Nat) : ∀ (k : Nat) (i : Nat), i + d = x.length → d < k → laws_eqIntS.l0 k x x (i : Int) = some true := by
  induction d with
  | zero =>
    intro k i hi hk
    obtain ⟨k, rfl⟩ : ∃ m, k = m + 1 := ⟨k - 1, by omega⟩
    simp only [laws_eqIntS.l0]
    rw [if_neg (by omega)]
  | succ d ih =>
    intro k i hi hk
    obtain ⟨k, rfl⟩ : ∃ m, k = m + 1 := ⟨k - 1, by omega⟩
    simp only [laws_eqIntS.l0]
    rw [if_pos (by omega), if_pos (by omega), if_pos (by omega), if_pos trivial, wrap64_nat (by omega)]
    exact ih k (i + 1) (by omega) (by omega)
theorem eqIntS_eq (k : Nat) (l : List Int) (hl : l.length ≤ 1152921504606846976) (hk : l.length < k) : laws_eqIntS.f k l l = some true := by
  unfold laws_eqIntS.f
  rw [if_pos rfl]
  exact eqIntS_l0 l hl l.length k 0 (by omega) hk
/-- Whether something holds of each of the first n places. -/
def allB (n : Nat) (p : Nat → Bool) : Bool := (List.range n).all p
theorem allB_iff {n : Nat} {p : Nat → Bool} : allB n p = true ↔ ∀ i, i < n → p i = true := by simp [allB]
theorem allB_congr {n : Nat} {p q : Nat → Bool} (h : ∀ i, i < n → p i = q i) : allB n p = allB n q := by
  rw [Bool.eq_iff_iff, allB_iff, allB_iff]
  exact ⟨fun g i hi => by rw [← h i hi]; exact g i hi, fun g i hi => by rw [h i hi]; exact g i hi⟩
theorem allB_false {n : Nat} {p : Nat → Bool} : allB n p = false ↔ ∃ i, i < n ∧ p i = false := by
  rw [← Bool.not_eq_true, allB_iff]
  constructor
  · intro h
    refine Classical.byContradiction fun g => h fun i hi => ?_
    rcases hp : p i with _ | _
    · exact (g ⟨i, hi, hp⟩).elim
    · rfl
  · rintro ⟨i, hi, hp⟩ h
    rw [h i hi] at hp
    cases hp
/-- A loop that looks at each place and stops with 'no' at the first that does not do. -/
theorem scan_all {F : Nat → Int → Option Bool} {p : Nat → Bool} {n c : Nat} (hs : ∀ k (i : Nat), i < n → F (k + c + 1) i = if p i = true then F k ((i + 1 : Nat) : Int) else some false) (he : ∀ k, F (k + 1) n = some true) :
    ∀ k, n * (c + 1) < k → F k 0 = some (allB n p) := by
  have key : ∀ d k (i : Nat), i + d = n → d * (c + 1) < k → (∀ j, j < i → p j = true) → F k i = some (allB n p) := by
    intro d
    induction d with
    | zero =>
      intro k i hi hk hj
      obtain ⟨k, rfl⟩ : ∃ m, k = m + 1 := ⟨k - 1, by omega⟩
      rw [show i = n by omega, he, (allB_iff.2 fun j hjn => hj j (by omega) : allB n p = true)]
    | succ d ih =>
      intro k i hi hk hj
      have e : (d + 1) * (c + 1) = d * (c + 1) + (c + 1) := Nat.succ_mul d (c + 1)
      obtain ⟨k, rfl⟩ : ∃ m, k = m + c + 1 := ⟨k - c - 1, by omega⟩
      rw [hs k i (by omega)]
      rcases hp : p i with _ | _
      · rw [if_neg (by decide), allB_false.2 ⟨i, by omega, hp⟩]
      · rw [if_pos rfl]
        exact ih k (i + 1) (by omega) (by omega) fun j hji => by
          by_cases h : j = i
          · rw [h, hp]
          · exact hj j (by omega)
  intro k hk
  exact key n k 0 (by omega) hk fun j hj => by omega
/-- The list of f's first n values. -/
def tab (n : Nat) (f : Nat → Int) : List Int := (List.range n).map f
theorem tab_length (n : Nat) (f : Nat → Int) : (tab n f).length = n := by simp [tab]
theorem tab_congr {n : Nat} {f g : Nat → Int} (h : ∀ i, i < n → f i = g i) : tab n f = tab n g := by
  unfold tab
  exact List.map_congr_left fun i hi => h i (by simpa using hi)
theorem tab_succ (n : Nat) (f : Nat → Int) : tab (n + 1) f = tab n f ++ [f n] := by simp [tab, List.range_succ]
theorem tab_get {n : Nat} {f : Nat → Int} {i : Nat} (h : i < n) : (tab n f).getD i 0 = f i := by simp [tab, List.getD, h]
theorem mem_tab {n : Nat} {f : Nat → Int} {x : Int} (h : x ∈ tab n f) : ∃ i, i < n ∧ x = f i := by
  simp only [tab, List.mem_map, List.mem_range] at h
  obtain ⟨i, hi, rfl⟩ := h
  exact ⟨i, hi, rfl⟩
theorem tab_self (l : List Int) : tab l.length (fun i => l.getD i 0) = l := by
  refine List.ext_getElem (by simp [tab]) fun i h1 h2 => ?_
  simp [tab, List.getD, h2]
/-- A loop that sets place after place. -/
theorem fill_loop {β : Type} {F : Nat → List Int → Int → Option β} {f : Nat → Int} {g : List Int → β} {n c : Nat} (hs : ∀ k out (i : Nat), out.length = n → i < n → F (k + c + 1) out i = F k (out.set i (f i)) ((i + 1 : Nat) : Int)) (he : ∀ k out, out.length = n → F (k + 1) out n = some (g out)) :
    ∀ k, n * (c + 1) < k → ∀ out, out.length = n → F k out 0 = some (g (tab n f)) := by
  have key : ∀ d k (i : Nat) out, out.length = n → i + d = n → d * (c + 1) < k → out.take i = tab i f → F k out i = some (g (tab n f)) := by
    intro d
    induction d with
    | zero =>
      intro k i out ho hi hk ht
      obtain ⟨k, rfl⟩ : ∃ m, k = m + 1 := ⟨k - 1, by omega⟩
      obtain rfl : i = n := by omega
      rw [he k out ho, ← ht, List.take_of_length_le (by omega)]
    | succ d ih =>
      intro k i out ho hi hk ht
      have e : (d + 1) * (c + 1) = d * (c + 1) + (c + 1) := Nat.succ_mul d (c + 1)
      obtain ⟨k, rfl⟩ : ∃ m, k = m + c + 1 := ⟨k - c - 1, by omega⟩
      rw [hs k out i ho (by omega)]
      exact ih k (i + 1) _ (by simpa using ho) (by omega) (by omega) (by rw [take_set_succ _ _ _ (by omega), ht, tab_succ])
  intro k hk out ho
  exact key n k 0 out ho (by omega) hk (by simp [tab])
/-- A loop that appends. -/
theorem push_loop {β : Type} {F : Nat → List Int → Int → Option β} {f : Nat → Int} {g : List Int → β} {n c : Nat} (hs : ∀ k out (i : Nat), out.length = i → i < n → F (k + c + 1) out i = F k (out ++ [f i]) ((i + 1 : Nat) : Int)) (he : ∀ k out, out.length = n → F (k + 1) out n = some (g out)) :
    ∀ k, n * (c + 1) < k → F k [] 0 = some (g (tab n f)) := by
  have key : ∀ d k (i : Nat), i + d = n → d * (c + 1) < k → F k (tab i f) i = some (g (tab n f)) := by
    intro d
    induction d with
    | zero =>
      intro k i hi hk
      obtain ⟨k, rfl⟩ : ∃ m, k = m + 1 := ⟨k - 1, by omega⟩
      obtain rfl : i = n := by omega
      exact he k _ (tab_length _ _)
    | succ d ih =>
      intro k i hi hk
      have e : (d + 1) * (c + 1) = d * (c + 1) + (c + 1) := Nat.succ_mul d (c + 1)
      obtain ⟨k, rfl⟩ : ∃ m, k = m + c + 1 := ⟨k - c - 1, by omega⟩
      rw [hs k _ i (tab_length _ _) (by omega), ← tab_succ]
      exact ih k (i + 1) (by omega) (by omega)
  intro k hk
  exact key n k 0 (by omega) hk
/-- Whether the number at place i lies between lo and hi. -/
def inR (lo hi : Int) (l : List Int) (i : Nat) : Bool := decide (lo ≤ l.getD i 0) && decide (l.getD i 0 ≤ hi)
/-- Whether all numbers of a list lie between lo and hi. -/
def inB (lo hi : Int) (l : List Int) : Bool := allB l.length (inR lo hi l)
theorem inB_iff {lo hi : Int} {l : List Int} : inB lo hi l = true ↔ ∀ i, i < l.length → lo ≤ l.getD i 0 ∧ l.getD i 0 ≤ hi := by
  unfold inB
  rw [allB_iff]
  simp only [inR, Bool.and_eq_true, decide_eq_true_eq]
/-- A loop that asks of each number whether it lies between lo and hi. -/
theorem range_loop {F : Nat → Int → Option Bool} {lo hi : Int} {l : List Int} {b : Bool} {c : Nat} (hs : ∀ k (i : Nat), i < l.length → F (k + c + 1) i = if l.getD i 0 < lo then some false else if l.getD i 0 > hi then some false else F k ((i + 1 : Nat) : Int)) (he : ∀ k, F (k + 1) l.length = some b) :
    ∀ k, l.length * (c + 1) < k → F k 0 = some (inB lo hi l && b) := by
  have key : ∀ d k (i : Nat), i + d = l.length → d * (c + 1) < k → (∀ j, j < i → inR lo hi l j = true) → F k i = some (inB lo hi l && b) := by
    intro d
    induction d with
    | zero =>
      intro k i hi hk hj
      obtain ⟨k, rfl⟩ : ∃ m, k = m + 1 := ⟨k - 1, by omega⟩
      rw [show i = l.length by omega, he, show inB lo _ l = true from allB_iff.2 fun j hjn => hj j (by omega), Bool.true_and]
    | succ d ih =>
      intro k i hi' hk hj
      have e : (d + 1) * (c + 1) = d * (c + 1) + (c + 1) := Nat.succ_mul d (c + 1)
      obtain ⟨k, rfl⟩ : ∃ m, k = m + c + 1 := ⟨k - c - 1, by omega⟩
      rw [hs k i (by omega)]
      have bad : inR lo hi l i = false → some false = some (inB lo hi l && b) := fun h => by
        rw [show inB lo hi l = false from allB_false.2 ⟨i, by omega, h⟩, Bool.false_and]
      by_cases h1 : l.getD i 0 < lo
      · rw [if_pos h1]
        exact bad (by unfold inR; rw [decide_eq_false (by omega), Bool.false_and])
      by_cases h2 : l.getD i 0 > hi
      · rw [if_neg h1, if_pos h2]
        exact bad (by unfold inR; rw [decide_eq_false (p := l.getD i 0 ≤ hi) (by omega), Bool.and_false])
      rw [if_neg h1, if_neg h2]
      refine ih k (i + 1) (by omega) (by omega) fun j hji => ?_
      by_cases h : j = i
      · subst h
        unfold inR
        rw [decide_eq_true (by omega), decide_eq_true (by omega), Bool.true_and]
      · exact hj j (by omega)
  intro k hk
  exact key l.length k 0 (by omega) hk fun j hj => by omega
theorem zrange_eq (k : Nat) (l : List Int) (lo hi most : Int) (hl : l.length ≤ 1048576) (hk : l.length < k) : impl_zrange.f k l lo hi most = some (decide ((l.length : Int) ≤ most) && inB lo hi l) := by
  unfold impl_zrange.f
  by_cases h : (l.length : Int) > most
  · rw [if_pos h, decide_eq_false (by omega), Bool.false_and]
  rw [if_neg h, decide_eq_true (by omega), Bool.true_and, ← Bool.and_true (inB lo hi l)]
  refine range_loop (F := fun k i => impl_zrange.l0 k lo hi l (l.length : Int) i) (c := 0) (fun k i hi => ?_) (fun k => ?_) k (by omega)
  · simp only [impl_zrange.l0, rd_nat]
    rw [wrap64_nat (by omega)]
    simp (disch := omega) only [if_pos, if_neg, decide_eq_true, decide_eq_false, if_true, Bool.false_eq_true, if_false, wrap64_id, u64_id, Option.bind_some]
  · simp only [impl_zrange.l0]
    rw [if_neg (by omega)]
theorem rdL_nat (l : List (List Int)) (i : Nat) : rd_L1 l (i : Int) = l.getD i [] := by simp [rd_L1]
theorem rowL_mem (l : List (List Int)) (i : Nat) (h : i < l.length) : l.getD i [] ∈ l := by
  have e : l.getD i [] = l[i] := by simp [List.getD, h]
  rw [e]
  exact List.getElem_mem h
theorem szIntSS_l0 (l : List (List Int)) (hl : l.length ≤ 1048576) (hr : ∀ x ∈ l, x.length ≤ 9223372036854775807) (d : Nat) : ∀ (k i : Nat) (left : Int), i + d = l.length → d < k → 0 ≤ left → left ≤ 1048576 →
    ∃ v, laws_szIntSS.l0 k l left (i : Int) = some v ∧ v ≤ left ∧ (v < 0 ∨ (0 ≤ v ∧ ∀ j, i ≤ j → j < l.length → (l.getD j []).length ≤ 1048576)) := by
  induction d with
  | zero =>
    intro k i left hi hk h0 h1
    obtain ⟨k, rfl⟩ : ∃ m, k = m + 1 := ⟨k - 1, by omega⟩
    refine ⟨left, ?_, by omega, .inr ⟨h0, fun j a b => by omega⟩⟩
    simp only [laws_szIntSS.l0]
    rw [if_neg (by omega)]
  | succ d ih =>
    intro k i left hi hk h0 h1
    obtain ⟨k, rfl⟩ : ∃ m, k = m + 1 := ⟨k - 1, by omega⟩
    have hm := hr _ (rowL_mem l i (by omega))
    simp only [laws_szIntSS.l0, laws_szIntS.f, rdL_nat]
    rw [if_pos (by omega), if_pos (by omega), wrap64_id (n := left - ((l.getD i []).length : Int)) (by omega) (by omega), wrap64_nat (by omega)]
    by_cases c : left - ((l.getD i []).length : Int) < 0
    · rw [if_pos c, Option.bind_some, if_pos (by omega)]
      exact ⟨-1, rfl, by omega, .inl (by omega)⟩
    · rw [if_neg c, Option.bind_some, if_neg c]
      obtain ⟨v, e, hv, hw⟩ := ih k (i + 1) (left - ((l.getD i []).length : Int)) (by omega) (by omega) (by omega) (by omega)
      refine ⟨v, e, by omega, ?_⟩
      rcases hw with hw | ⟨hw, hj⟩
      · exact .inl hw
      · refine .inr ⟨hw, fun j a b => ?_⟩
        by_cases hji : j = i
        · subst hji
          omega
        · exact hj j (by omega) b
/-- What is left of a bulk behind a list of lists: less than nothing, or all of them are short. -/
theorem szIntSS_or (k : Nat) (l : List (List Int)) (left : Int) (hl : l.length ≤ 9223372036854775807) (hr : ∀ x ∈ l, x.length ≤ 9223372036854775807) (h0 : 0 ≤ left) (h1 : left ≤ 1048576) (hk : 1048600 < k) :
    ∃ v, laws_szIntSS.f k l left = some v ∧ v ≤ left ∧ (v < 0 ∨ (0 ≤ v ∧ l.length ≤ 1048576 ∧ ∀ x ∈ l, x.length ≤ 1048576)) := by
  unfold laws_szIntSS.f
  rw [wrap64_id (n := left - (l.length : Int)) (by omega) (by omega)]
  by_cases c : left - (l.length : Int) < 0
  · rw [if_pos c]
    exact ⟨-1, rfl, by omega, .inl (by omega)⟩
  · rw [if_neg c]
    obtain ⟨v, e, hv, hw⟩ := szIntSS_l0 l (by omega) hr l.length k 0 (left - (l.length : Int)) (by omega) (by omega) (by omega) (by omega)
    refine ⟨v, e, by omega, ?_⟩
    rcases hw with hw | ⟨hw, hj⟩
    · exact .inl hw
    · refine .inr ⟨hw, by omega, fun x hx => ?_⟩
      obtain ⟨j, hjl, rfl⟩ := List.getElem_of_mem hx
      have := hj j (by omega) hjl
      simpa [List.getD, hjl] using this
theorem toIntSS_l0 (x0 : List (List Int)) (hl : x0.length ≤ 1048576) (hr : ∀ x ∈ x0, x.length ≤ 1048576) (d : Nat) : ∀ (k : Nat) (x3 : List (List Int)) (i : Nat), x3.length = x0.length → i + d = x0.length → d + 1048600 < k → (∀ j, j < i → x3[j]? = x0[j]?) →
    laws_toIntSS.l0 k x0 x3 (i : Int) = some x0 := by
  induction d with
  | zero =>
    intro k x3 i h3 hi hk hj
    obtain ⟨k, rfl⟩ : ∃ m, k = m + 1 := ⟨k - 1, by omega⟩
    simp only [laws_toIntSS.l0]
    rw [if_neg (by omega)]
    congr 1
    refine List.ext_getElem? fun j => ?_
    by_cases h : j < i
    · exact hj j h
    · rw [List.getElem?_eq_none (by omega), List.getElem?_eq_none (by omega)]
  | succ d ih =>
    intro k x3 i h3 hi hk hj
    obtain ⟨k, rfl⟩ : ∃ m, k = m + 1 := ⟨k - 1, by omega⟩
    have hm := hr _ (rowL_mem x0 i (by omega))
    simp only [laws_toIntSS.l0, rdL_nat]
    rw [if_pos (by omega), if_pos (by omega), toIntS_eq k _ hm (by omega), Option.bind_some, if_pos (by omega), wrap64_nat (by omega)]
    refine ih k _ (i + 1) (by simpa using h3) (by omega) (by omega) fun j hji => ?_
    rw [Int.toNat_natCast, List.getElem?_set]
    split
    · rename_i h
      subst h
      rw [if_pos (by omega)]
      simp [List.getD, show i < x0.length by omega]
    · exact hj j (by omega)
/-- The copy reads as the list of lists. -/
theorem toIntSS_eq (k : Nat) (l : List (List Int)) (hl : l.length ≤ 1048576) (hr : ∀ x ∈ l, x.length ≤ 1048576) (hk : 2097200 < k) : laws_toIntSS.f k l = some l := by
  unfold laws_toIntSS.f
  rw [if_pos (by omega), if_pos (by omega)]
  exact toIntSS_l0 l hl hr l.length k _ 0 (by simp) (by omega) (by omega) (by omega)
theorem eqIntSS_l0 (x : List (List Int)) (hl : x.length ≤ 1048576) (hr : ∀ y ∈ x, y.length ≤ 1048576) (d : Nat) : ∀ (k : Nat) (i : Nat), i + d = x.length → d + 1048600 < k → laws_eqIntSS.l0 k x x (i : Int) = some true := by
  induction d with
  | zero =>
    intro k i hi hk
    obtain ⟨k, rfl⟩ : ∃ m, k = m + 1 := ⟨k - 1, by omega⟩
    simp only [laws_eqIntSS.l0]
    rw [if_neg (by omega)]
  | succ d ih =>
    intro k i hi hk
    obtain ⟨k, rfl⟩ : ∃ m, k = m + 1 := ⟨k - 1, by omega⟩
    have hm := hr _ (rowL_mem x i (by omega))
    simp only [laws_eqIntSS.l0, rdL_nat]
    rw [if_pos (by omega), if_pos (by omega), if_pos (by omega), eqIntS_eq k _ (by omega) (by omega), Option.bind_some, if_pos rfl, wrap64_nat (by omega)]
    exact ih k (i + 1) (by omega) (by omega)
theorem eqIntSS_eq (k : Nat) (l : List (List Int)) (hl : l.length ≤ 1048576) (hr : ∀ y ∈ l, y.length ≤ 1048576) (hk : 2097200 < k) : laws_eqIntSS.f k l l = some true := by
  unfold laws_eqIntSS.f
  rw [if_pos rfl]
  exact eqIntSS_l0 l hl hr l.length k 0 (by omega) (by omega)
/-- A loop that asks of each row whether it is good. -/
theorem all_loop {F : Nat → Int → Option Bool} {g : Nat → Bool} {n c : Nat} (hs : ∀ k (i : Nat), i < n → c < k → F (k + 1) i = if g i = true then F k ((i + 1 : Nat) : Int) else some false) (he : ∀ k, F (k + 1) n = some true) :
    ∀ k, n + c + 1 < k → F k 0 = some (allB n g) := by
  have key : ∀ d k (i : Nat), i + d = n → d + c + 1 < k → (∀ j, j < i → g j = true) → F k i = some (allB n g) := by
    intro d
    induction d with
    | zero =>
      intro k i hi hk hj
      obtain ⟨k, rfl⟩ : ∃ m, k = m + 1 := ⟨k - 1, by omega⟩
      rw [show i = n by omega, he, show allB n g = true from allB_iff.2 fun j hjn => hj j (by omega)]
    | succ d ih =>
      intro k i hi hk hj
      obtain ⟨k, rfl⟩ : ∃ m, k = m + 1 := ⟨k - 1, by omega⟩
      rw [hs k i (by omega) (by omega)]
      by_cases h : g i = true
      · rw [if_pos h]
        refine ih k (i + 1) (by omega) (by omega) fun j hji => ?_
        by_cases e : j = i
        · subst e
          exact h
        · exact hj j (by omega)
      · rw [if_neg h, show allB n g = false from allB_false.2 ⟨i, by omega, by simpa using h⟩]
  intro k hk
  exact key n k 0 (by omega) hk fun j hj => by omega
theorem l11All_eq (k : Nat) (l : List Int) (m lo hi : Int) (hl : l.length ≤ 1048576) (hk : l.length < k) : spec_l11All.f k l m lo hi = some (inB lo hi l && ((l.length : Int) == m)) := by
  unfold spec_l11All.f
  refine range_loop (F := fun k i => spec_l11All.l0 k l m lo hi l (l.length : Int) i) (c := 0) (fun k i hi => ?_) (fun k => ?_) k (by omega)
  · simp only [spec_l11All.l0, rd_nat]
    rw [wrap64_nat (by omega)]
    simp (disch := omega) only [if_pos, if_neg, decide_eq_true, decide_eq_false, if_true, Bool.false_eq_true, if_false, wrap64_id, u64_id, Option.bind_some]
  · simp only [spec_l11All.l0]
    rw [if_neg (by omega)]
/-- A slot and its grades are good. -/
def good (l m : List (List Int)) (i : Nat) : Bool := (inB (-1048576) 1048575 (l.getD i []) && (((l.getD i []).length : Int) == 16)) && (inB 0 12 (m.getD i []) && (((m.getD i []).length : Int) == 8))
theorem ite_and (p q : Bool) (x : Option Bool) : (if p = true then (if q = true then x else some false) else some false) = if (p && q) = true then x else some false := by
  cases p <;> cases q <;> rfl
theorem spec_loop (k : Nat) (a b c : Int) (l m : List (List Int)) (hm : m.length = l.length) (hl : l.length ≤ 1048576) (hr : ∀ x ∈ l, x.length ≤ 1048576) (hr' : ∀ x ∈ m, x.length ≤ 1048576) (hk : 2097200 < k) :
    spec_GoodTones.l0 k (l.length : Int) 0 a b c l m = some (allB l.length (good l m)) := by
  refine all_loop (F := fun k i => spec_GoodTones.l0 k (l.length : Int) i a b c l m) (c := 1048577) (fun k i hi hk => ?_) (fun k => ?_) k (by omega)
  · have h1 := hr _ (rowL_mem l i hi)
    have h2 := hr' _ (rowL_mem m i (by omega))
    simp only [spec_GoodTones.l0, rdL_nat]
    rw [wrap64_nat (by omega), if_pos (by omega), if_pos (by omega), if_pos (by omega), l11All_eq k _ _ _ _ h1 (by omega), Option.bind_some, if_pos (show (i : Int) < (m.length : Int) by omega), l11All_eq k _ _ _ _ h2 (by omega), Option.bind_some, ite_and]
    rfl
  · simp only [spec_GoodTones.l0]
    rw [if_neg (by omega)]
theorem zr_len (l : List Int) (n lo hi : Int) (x : Option Bool) : (if (l.length : Int) = n then (if (decide ((l.length : Int) ≤ n) && inB lo hi l) = true then x else some false) else some false) = if (inB lo hi l && ((l.length : Int) == n)) = true then x else some false := by
  by_cases e : (l.length : Int) = n
  · rw [if_pos e, decide_eq_true (by omega), Bool.true_and, show ((l.length : Int) == n) = true from beq_iff_eq.2 e, Bool.and_true]
  · rw [if_neg e, show ((l.length : Int) == n) = false from beq_eq_false_iff_ne.2 e, Bool.and_false, if_neg (by decide)]
theorem impl_loop (k : Nat) (a b c : Int) (l m : List (List Int)) (hm : m.length = l.length) (hl : l.length ≤ 1048576) (hr : ∀ x ∈ l, x.length ≤ 1048576) (hr' : ∀ x ∈ m, x.length ≤ 1048576) (hk : 2097200 < k) :
    impl_GoodTones.l0 k (l.length : Int) 0 a b c l m = some (allB l.length (good l m)) := by
  refine all_loop (F := fun k i => impl_GoodTones.l0 k (l.length : Int) i a b c l m) (c := 1048577) (fun k i hi hk => ?_) (fun k => ?_) k (by omega)
  · have h1 := hr _ (rowL_mem l i hi)
    have h2 := hr' _ (rowL_mem m i (by omega))
    simp only [impl_GoodTones.l0, rdL_nat]
    rw [wrap64_nat (by omega), if_pos (by omega), if_pos (by omega), if_pos (by omega), zrange_eq k _ _ _ _ h1 (by omega), Option.bind_some, if_pos (show (i : Int) < (m.length : Int) by omega), zrange_eq k _ _ _ _ h2 (by omega), Option.bind_some, zr_len, zr_len, ite_and]
    rfl
  · simp only [impl_GoodTones.l0]
    rw [if_neg (by omega)]
theorem good_all (a b c : Int) (l m : List (List Int)) (hl : l.length ≤ 1048576) (hr : ∀ x ∈ l, x.length ≤ 1048576) (hr' : ∀ x ∈ m, x.length ≤ 1048576) (k : Nat) (hk : 2097210 < k) : ∃ r, spec_GoodTones.f k a b c l m = some r ∧ impl_GoodTones.f k a b c l m = some r := by
  obtain ⟨k, rfl⟩ : ∃ m, k = m + 1 := ⟨k - 1, by omega⟩
  unfold spec_GoodTones.f impl_GoodTones.f spec_l11Head.f spec_l11Slots.f
  by_cases a1 : a < 1
  · exact ⟨false, by simp only [if_neg (show ¬ a ≥ 1 by omega), Option.bind_some, spec_GoodTones.j0, Bool.false_eq_true, if_false, if_true], by simp only [if_pos a1, impl_GoodTones.j0, if_true]⟩
  rw [if_neg a1, if_pos (by omega)]
  by_cases a2 : a > 1000000
  · exact ⟨false, by simp only [if_neg (show ¬ a ≤ 1000000 by omega), Option.bind_some, spec_GoodTones.j0, Bool.false_eq_true, if_false, if_true], by simp only [if_pos a2, impl_GoodTones.j0, if_true]⟩
  rw [if_neg a2, if_pos (by omega)]
  by_cases b1 : b < 0
  · exact ⟨false, by simp only [if_neg (show ¬ b ≥ 0 by omega), Option.bind_some, spec_GoodTones.j0, Bool.false_eq_true, if_false, if_true], by simp only [if_pos b1, impl_GoodTones.j0, if_true]⟩
  rw [if_neg b1, if_pos (by omega)]
  by_cases b2 : b > 15
  · exact ⟨false, by simp only [if_neg (show ¬ b ≤ 15 by omega), Option.bind_some, spec_GoodTones.j0, Bool.false_eq_true, if_false, if_true], by simp only [if_pos b2, impl_GoodTones.j0, if_true]⟩
  rw [if_neg b2, if_pos (by omega)]
  by_cases c1 : c < 0
  · exact ⟨false, by simp only [if_neg (show ¬ c ≥ 0 by omega), Option.bind_some, spec_GoodTones.j0, Bool.false_eq_true, if_false, if_true], by simp only [if_pos c1, impl_GoodTones.j0, if_true]⟩
  rw [if_neg c1, if_pos (by omega)]
  by_cases c2 : c > 4000
  · exact ⟨false, by rw [decide_eq_false (by omega)]; simp only [Option.bind_some, spec_GoodTones.j0, Bool.false_eq_true, if_false, if_true], by simp only [if_pos c2, impl_GoodTones.j0, if_true]⟩
  rw [if_neg c2, decide_eq_true (by omega)]
  simp only [Option.bind_some, if_true]
  obtain ⟨h, hh⟩ : ∃ h, h = wrap64 ((wrap64 (Int.tdiv (wrap64 (c + 15)) 16)) + 1) := ⟨_, rfl⟩
  rw [← hh]
  by_cases e : (l.length : Int) = h
  · rw [if_pos e, if_pos e, ← e]
    by_cases e2 : m.length = l.length
    · rw [show ((m.length : Int) != (l.length : Int)) = false from by simp [e2]]
      simp only [spec_GoodTones.j0, impl_GoodTones.j0, Bool.false_eq_true, if_false]
      exact ⟨_, spec_loop k a b c l m e2 hl hr hr' (by omega), impl_loop k a b c l m e2 hl hr hr' (by omega)⟩
    · rw [show ((m.length : Int) != (l.length : Int)) = true from by simp; omega]
      simp only [spec_GoodTones.j0, impl_GoodTones.j0, if_true]
      exact ⟨false, rfl, rfl⟩
  · rw [if_neg e, if_neg e]
    simp only [spec_GoodTones.j0, impl_GoodTones.j0, if_true]
    exact ⟨false, rfl, rfl⟩
theorem FnExactGoodTones (a b c : Int) (l m : List (List Int)) (hl : l.length ≤ 9223372036854775807) (hr : ∀ x ∈ l, x.length ≤ 9223372036854775807) (hm : m.length ≤ 9223372036854775807) (hr' : ∀ x ∈ m, x.length ≤ 9223372036854775807) : ∃ k, laws_FnExactGoodTones.f k a b c l m = some true := by
  obtain ⟨K, hK⟩ : ∃ K : Nat, 3000000 < K := ⟨_, Nat.lt_succ_self _⟩
  refine ⟨K, ?_⟩
  unfold laws_FnExactGoodTones.f laws_szTones.f
  obtain ⟨v, e, hv, hw⟩ := szIntSS_or K l 1048576 hl hr (by omega) (by omega) (by omega)
  rw [e, Option.bind_some]
  rcases hw with hw | ⟨hw, h1, h2⟩
  · rw [if_pos hw, Option.bind_some, if_pos (by omega)]
  · rw [if_neg (by omega)]
    obtain ⟨v', e', hv', hw'⟩ := szIntSS_or K m v hm hr' (by omega) (by omega) (by omega)
    rw [e', Option.bind_some]
    rcases hw' with hw' | ⟨hw', h1', h2'⟩
    · rw [if_pos hw', Option.bind_some, if_pos (by omega)]
    · rw [if_neg (by omega), Option.bind_some, if_neg (by omega)]
      obtain ⟨r, r1, r2⟩ := good_all a b c l m h1 h2 h2' K (by omega)
      simp only [laws_toTones.f, toIntSS_eq K l h1 h2 (by omega), toIntSS_eq K m h1' h2' (by omega), Option.bind_some, r1, r2, laws_eqTones.f, eqIntSS_eq K l h1 h2 (by omega), eqIntSS_eq K m h1' h2' (by omega), if_true, bne_self_eq_false, Bool.false_eq_true, if_false]

end Go.Proofs.Ytflgalojbebfmaa.Pure
