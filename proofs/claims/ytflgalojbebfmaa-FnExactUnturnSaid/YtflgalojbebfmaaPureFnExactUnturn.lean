/- Proved: the program's Unturn tells what the reference's tells, in memory of its own, for every way and every two lists of at most 1048576 numbers (for a longer one the statement says nothing). -/
import Derived.Test.YtflgalojbebfmaaPFnExactUnturnx5
import Derived.Test.YtflgalojbebfmaaMy
namespace Go.Proofs.Ytflgalojbebfmaa.Pure
open Go.RowKit Go.Proofs.Ytflgalojbebfmaa.PFnExactUnturn Go.Proofs.YtflgalojbebfmaaW.PrintWords Go.Proofs.YtflgalojbebfmaaW.PrintLast Go.Proofs.YtflgalojbebfmaaW.PrintMore Go.Proofs.Ytflgalojbebfmaa.My
set_option linter.unusedVariables false
set_option linter.unusedSimpArgs false
attribute [local congr] bind_left ite_left

theorem toIntS_l0 (x0 : List Int) (hl : x0.length ≤ 1152921504606846976) (d : Nat) : ∀ (k : Nat) (x3 : List Int) (i : Nat), x3.length = x0.length → i + d = x0.length → d < k → (∀ j, j < i → x3[j]? = x0[j]?) →
    laws_toIntS.l0 k x0 x3 (i : Int) = some x0 := by
  induction d with
  | zero =>
    intro k x3 i h3 hi hk hj
    obtain ⟨k, rfl⟩ : ∃ m, k = m + 1 := ⟨k - 1, by omega⟩
    simp only [laws_toIntS.l0]
    rw [if_neg (by omega)]
    congr 1
    refine List.ext_getElem? fun j => ?_
    by_cases h : j < i
    · exact hj j h
    · rw [List.getElem?_eq_none (by omega), List.getElem?_eq_none (by omega)]
  | succ d ih =>
    intro k x3 i h3 hi hk hj
    obtain ⟨k, rfl⟩ : ∃ m, k = m + 1 := ⟨k - 1, by omega⟩
    simp only [laws_toIntS.l0]
    rw [if_pos (by omega), if_pos (by omega), if_pos (by omega), wrap64_nat (by omega)]
    refine ih k _ (i + 1) (by simpa using h3) (by omega) (by omega) fun j hji => ?_
    rw [rd_lt (show i < x0.length by omega), Int.toNat_natCast, List.getElem?_set]
    split
    · rename_i h
      subst h
      rw [if_pos (by omega), List.getElem?_eq_getElem (by omega)]
    · exact hj j (by omega)
/-- The copy reads as the list. -/
theorem toIntS_eq (k : Nat) (l : List Int) (hl : l.length ≤ 1048576) (hk : l.length < k) : laws_toIntS.f k l = some l := by
  unfold laws_toIntS.f
  rw [if_pos (by omega), if_pos (by omega)]
  exact toIntS_l0 l (by omega) l.length k _ 0 (by simp) (by omega) hk (by omega)
theorem eqIntS_l0 (x : List Int) (hl : x.length ≤ 1152921504606846976) (d : Nat) : ∀ (k : Nat) (i : Nat), i + d = x.length → d < k → laws_eqIntS.l0 k x x (i : Int) = some true := by
  induction d with
  | zero =>
    intro k i hi hk
    obtain ⟨k, rfl⟩ : ∃ m, k = m + 1 := ⟨k - 1, by omega⟩
    simp only [laws_eqIntS.l0]
    rw [if_neg (by omega)]
  | succ d ih =>
    intro k i hi hk
    obtain ⟨k, rfl⟩ : ∃ m, k = m + 1 := ⟨k - 1, by omega⟩
    simp only [laws_eqIntS.l0]
    rw [if_pos (by omega), if_pos (by omega), if_pos (by omega), if_pos trivial, wrap64_nat (by omega)]
    exact ih k (i + 1) (by omega) (by omega)
theorem eqIntS_eq (k : Nat) (l : List Int) (hl : l.length ≤ 1152921504606846976) (hk : l.length < k) : laws_eqIntS.f k l l = some true := by
  unfold laws_eqIntS.f
  rw [if_pos rfl]
  exact eqIntS_l0 l hl l.length k 0 (by omega) hk
theorem markIntS_l0 (n : Nat) (hn : n ≤ 1152921504606846976) (d : Nat) : ∀ (k : Nat) (x : List Int) (a : Int) (i : Nat), x.length = n → i + d = n → d < k → 0 ≤ a → a + d ≤ 9223372036854775806 →
    laws_markIntS.l0 k x a (i : Int) = some (a + d, x.take i ++ upI a d) := by
  induction d with
  | zero =>
    intro k x a i hx hi hk h0 ha
    obtain ⟨k, rfl⟩ : ∃ m, k = m + 1 := ⟨k - 1, by omega⟩
    simp only [laws_markIntS.l0]
    rw [if_neg (by omega), List.take_of_length_le (by omega)]
    simp [upI]
  | succ d ih =>
    intro k x a i hx hi hk h0 ha
    obtain ⟨k, rfl⟩ : ∃ m, k = m + 1 := ⟨k - 1, by omega⟩
    simp only [laws_markIntS.l0]
    rw [if_pos (by omega), if_pos (by omega), wrap64_nat (by omega), wrap64_id (n := a + 1) (by omega) (by omega), Int.toNat_natCast, ih k _ (a + 1) (i + 1) (by simpa using hx) (by omega) (by omega) (by omega) (by omega), take_set_succ _ _ _ (by omega)]
    rw [show a + 1 + (d : Int) = a + ((d + 1 : Nat) : Int) from by omega]
    simp [upI]
theorem markIntS_eq (k : Nat) (l : List Int) (a : Int) (hl : l.length ≤ 1152921504606846976) (hk : l.length < k) (h0 : 0 ≤ a) (ha : a ≤ 1152921504606846976) : laws_markIntS.f k l a = some (a + l.length, upI a l.length) := by
  unfold laws_markIntS.f
  exact markIntS_l0 l.length hl l.length k l a 0 rfl (by omega) hk h0 (by omega)
theorem heldIntS_l0 (n : Nat) (a : Int) (hn : n ≤ 1152921504606846976) (h0 : 0 ≤ a) (ha : a ≤ 1152921504606846976) (d : Nat) : ∀ (k : Nat) (i : Nat), i + d = n → d < k →
    laws_heldIntS.l0 k (upI a n) (a + (i : Int)) (i : Int) = some (a + n) := by
  induction d with
  | zero =>
    intro k i hi hk
    obtain ⟨k, rfl⟩ : ∃ m, k = m + 1 := ⟨k - 1, by omega⟩
    simp only [laws_heldIntS.l0]
    rw [if_neg (by rw [upI_length]; omega), show i = n by omega]
  | succ d ih =>
    intro k i hi hk
    obtain ⟨k, rfl⟩ : ∃ m, k = m + 1 := ⟨k - 1, by omega⟩
    simp only [laws_heldIntS.l0]
    rw [if_pos (by rw [upI_length]; omega), if_pos (by omega), rd_nat, upI_get n a i (by omega), if_pos rfl, wrap64_nat (by omega), wrap64_id (by omega) (by omega), show a + (i : Int) + 1 = a + ((i + 1 : Nat) : Int) from by omega]
    exact ih k (i + 1) (by omega) (by omega)
theorem heldIntS_eq (k n : Nat) (a : Int) (hn : n ≤ 1152921504606846976) (hk : n < k) (h0 : 0 ≤ a) (ha : a ≤ 1152921504606846976) : laws_heldIntS.f k (upI a n) a = some (a + n) := by
  unfold laws_heldIntS.f
  have h := heldIntS_l0 n a hn h0 ha n k 0 (by omega) hk
  rwa [show a + ((0 : Nat) : Int) = a from by omega] at h
/-- Whether something holds of each of the first n places. -/
def allB (n : Nat) (p : Nat → Bool) : Bool := (List.range n).all p
theorem allB_iff {n : Nat} {p : Nat → Bool} : allB n p = true ↔ ∀ i, i < n → p i = true := by simp [allB]
theorem allB_congr {n : Nat} {p q : Nat → Bool} (h : ∀ i, i < n → p i = q i) : allB n p = allB n q := by
  rw [Bool.eq_iff_iff, allB_iff, allB_iff]
  exact ⟨fun g i hi => by rw [← h i hi]; exact g i hi, fun g i hi => by rw [h i hi]; exact g i hi⟩
theorem allB_false {n : Nat} {p : Nat → Bool} : allB n p = false ↔ ∃ i, i < n ∧ p i = false := by
  rw [← Bool.not_eq_true, allB_iff]
  constructor
  · intro h
    refine Classical.byContradiction fun g => h fun i hi => ?_
    rcases hp : p i with _ | _
    · exact (g ⟨i, hi, hp⟩).elim
    · rfl
  · rintro ⟨i, hi, hp⟩ h
    rw [h i hi] at hp
    cases hp
/-- A loop that looks at each place and stops with 'no' at the first that does not do. -/
theorem scan_all {F : Nat → Int → Option Bool} {p : Nat → Bool} {n c : Nat} (hs : ∀ k (i : Nat), i < n → F (k + c + 1) i = if p i = true then F k ((i + 1 : Nat) : Int) else some false) (he : ∀ k, F (k + 1) n = some true) :
    ∀ k, n * (c + 1) < k → F k 0 = some (allB n p) := by
  have key : ∀ d k (i : Nat), i + d = n → d * (c + 1) < k → (∀ j, j < i → p j = true) → F k i = some (allB n p) := by
    intro d
    induction d with
    | zero =>
      intro k i hi hk hj
      obtain ⟨k, rfl⟩ : ∃ m, k = m + 1 := ⟨k - 1, by omega⟩
      rw [show i = n by omega, he, (allB_iff.2 fun j hjn => hj j (by omega) : allB n p = true)]
    | succ d ih =>
      intro k i hi hk hj
      have e : (d + 1) * (c + 1) = d * (c + 1) + (c + 1) := Nat.succ_mul d (c + 1)
      obtain ⟨k, rfl⟩ : ∃ m, k = m + c + 1 := ⟨k - c - 1, by omega⟩
      rw [hs k i (by omega)]
      rcases hp : p i with _ | _
      · rw [if_neg (by decide), allB_false.2 ⟨i, by omega, hp⟩]
      · rw [if_pos rfl]
        exact ih k (i + 1) (by omega) (by omega) fun j hji => by
          by_cases h : j = i
          · rw [h, hp]
          · exact hj j (by omega)
  intro k hk
  exact key n k 0 (by omega) hk fun j hj => by omega
/-- The list of f's first n values. -/
def tab (n : Nat) (f : Nat → Int) : List Int := (List.range n).map f
theorem tab_length (n : Nat) (f : Nat → Int) : (tab n f).length = n := by simp [tab]
theorem tab_congr {n : Nat} {f g : Nat → Int} (h : ∀ i, i < n → f i = g i) : tab n f = tab n g := by
  unfold tab
  exact List.map_congr_left fun i hi => h i (by simpa using hi)
theorem tab_succ (n : Nat) (f : Nat → Int) : tab (n + 1) f = tab n f ++ [f n] := by simp [tab, List.range_succ]
theorem tab_get {n : Nat} {f : Nat → Int} {i : Nat} (h : i < n) : (tab n f).getD i 0 = f i := by simp [tab, List.getD, h]
theorem mem_tab {n : Nat} {f : Nat → Int} {x : Int} (h : x ∈ tab n f) : ∃ i, i < n ∧ x = f i := by
  simp only [tab, List.mem_map, List.mem_range] at h
  obtain ⟨i, hi, rfl⟩ := h
  exact ⟨i, hi, rfl⟩
theorem tab_self (l : List Int) : tab l.length (fun i => l.getD i 0) = l := by
  refine List.ext_getElem (by simp [tab]) fun i h1 h2 => ?_
  simp [tab, List.getD, h2]
/-- A loop that sets place after place. -/
theorem fill_loop {β : Type} {F : Nat → List Int → Int → Option β} {f : Nat → Int} {g : List Int → β} {n c : Nat} (hs : ∀ k out (i : Nat), out.length = n → i < n → F (k + c + 1) out i = F k (out.set i (f i)) ((i + 1 : Nat) : Int)) (he : ∀ k out, out.length = n → F (k + 1) out n = some (g out)) :
    ∀ k, n * (c + 1) < k → ∀ out, out.length = n → F k out 0 = some (g (tab n f)) := by
  have key : ∀ d k (i : Nat) out, out.length = n → i + d = n → d * (c + 1) < k → out.take i = tab i f → F k out i = some (g (tab n f)) := by
    intro d
    induction d with
    | zero =>
      intro k i out ho hi hk ht
      obtain ⟨k, rfl⟩ : ∃ m, k = m + 1 := ⟨k - 1, by omega⟩
      obtain rfl : i = n := by omega
      rw [he k out ho, ← ht, List.take_of_length_le (by omega)]
    | succ d ih =>
      intro k i out ho hi hk ht
      have e : (d + 1) * (c + 1) = d * (c + 1) + (c + 1) := Nat.succ_mul d (c + 1)
      obtain ⟨k, rfl⟩ : ∃ m, k = m + c + 1 := ⟨k - c - 1, by omega⟩
      rw [hs k out i ho (by omega)]
      exact ih k (i + 1) _ (by simpa using ho) (by omega) (by omega) (by rw [take_set_succ _ _ _ (by omega), ht, tab_succ])
  intro k hk out ho
  exact key n k 0 out ho (by omega) hk (by simp [tab])
/-- A loop that appends. -/
theorem push_loop {β : Type} {F : Nat → List Int → Int → Option β} {f : Nat → Int} {g : List Int → β} {n c : Nat} (hs : ∀ k out (i : Nat), out.length = i → i < n → F (k + c + 1) out i = F k (out ++ [f i]) ((i + 1 : Nat) : Int)) (he : ∀ k out, out.length = n → F (k + 1) out n = some (g out)) :
    ∀ k, n * (c + 1) < k → F k [] 0 = some (g (tab n f)) := by
  have key : ∀ d k (i : Nat), i + d = n → d * (c + 1) < k → F k (tab i f) i = some (g (tab n f)) := by
    intro d
    induction d with
    | zero =>
      intro k i hi hk
      obtain ⟨k, rfl⟩ : ∃ m, k = m + 1 := ⟨k - 1, by omega⟩
      obtain rfl : i = n := by omega
      exact he k _ (tab_length _ _)
    | succ d ih =>
      intro k i hi hk
      have e : (d + 1) * (c + 1) = d * (c + 1) + (c + 1) := Nat.succ_mul d (c + 1)
      obtain ⟨k, rfl⟩ : ∃ m, k = m + c + 1 := ⟨k - c - 1, by omega⟩
      rw [hs k _ i (tab_length _ _) (by omega), ← tab_succ]
      exact ih k (i + 1) (by omega) (by omega)
  intro k hk
  exact key n k 0 (by omega) hk
/-- Whether the number at place i lies between lo and hi. -/
def inR (lo hi : Int) (l : List Int) (i : Nat) : Bool := decide (lo ≤ l.getD i 0) && decide (l.getD i 0 ≤ hi)
/-- Whether all numbers of a list lie between lo and hi. -/
def inB (lo hi : Int) (l : List Int) : Bool := allB l.length (inR lo hi l)
theorem inB_iff {lo hi : Int} {l : List Int} : inB lo hi l = true ↔ ∀ i, i < l.length → lo ≤ l.getD i 0 ∧ l.getD i 0 ≤ hi := by
  unfold inB
  rw [allB_iff]
  simp only [inR, Bool.and_eq_true, decide_eq_true_eq]
/-- A loop that asks of each number whether it lies between lo and hi. -/
theorem range_loop {F : Nat → Int → Option Bool} {lo hi : Int} {l : List Int} {b : Bool} {c : Nat} (hs : ∀ k (i : Nat), i < l.length → F (k + c + 1) i = if l.getD i 0 < lo then some false else if l.getD i 0 > hi then some false else F k ((i + 1 : Nat) : Int)) (he : ∀ k, F (k + 1) l.length = some b) :
    ∀ k, l.length * (c + 1) < k → F k 0 = some (inB lo hi l && b) := by
  have key : ∀ d k (i : Nat), i + d = l.length → d * (c + 1) < k → (∀ j, j < i → inR lo hi l j = true) → F k i = some (inB lo hi l && b) := by
    intro d
    induction d with
    | zero =>
      intro k i hi hk hj
      obtain ⟨k, rfl⟩ : ∃ m, k = m + 1 := ⟨k - 1, by omega⟩
      rw [show i = l.length by omega, he, show inB lo _ l = true from allB_iff.2 fun j hjn => hj j (by omega), Bool.true_and]
    | succ d ih =>
      intro k i hi' hk hj
      have e : (d + 1) * (c + 1) = d * (c + 1) + (c + 1) := Nat.succ_mul d (c + 1)
      obtain ⟨k, rfl⟩ : ∃ m, k = m + c + 1 := ⟨k - c - 1, by omega⟩
      rw [hs k i (by omega)]
      have bad : inR lo hi l i = false → some false = some (inB lo hi l && b) := fun h => by
        rw [show inB lo hi l = false from allB_false.2 ⟨i, by omega, h⟩, Bool.false_and]
      by_cases h1 : l.getD i 0 < lo
      · rw [if_pos h1]
        exact bad (by unfold inR; rw [decide_eq_false (by omega), Bool.false_and])
      by_cases h2 : l.getD i 0 > hi
      · rw [if_neg h1, if_pos h2]
        exact bad (by unfold inR; rw [decide_eq_false (p := l.getD i 0 ≤ hi) (by omega), Bool.and_false])
      rw [if_neg h1, if_neg h2]
      refine ih k (i + 1) (by omega) (by omega) fun j hji => ?_
      by_cases h : j = i
      · subst h
        unfold inR
        rw [decide_eq_true (by omega), decide_eq_true (by omega), Bool.true_and]
      · exact hj j (by omega)
  intro k hk
  exact key l.length k 0 (by omega) hk fun j hj => by omega
/-- A loop over the places 0 to n - 1 that keeps P. -/
theorem inv_after {σ β : Type} {F : Nat → σ → Int → Option β} {P : Nat → σ → Prop} {r : β} {n c : Nat} (m : Nat) (hs : ∀ k s (i : Nat), i < n → P i s → ∃ s', P (i + 1) s' ∧ F (k + c + 1) s i = F k s' ((i + 1 : Nat) : Int)) (he : ∀ k s, m ≤ k → P n s → F (k + 1) s n = some r) :
    ∀ k (i : Nat) s, i ≤ n → n * (c + 1) + m < k → P i s → F k s i = some r := by
  have key : ∀ d k (i : Nat) s, i + d = n → d * (c + 1) + m < k → P i s → F k s i = some r := by
    intro d
    induction d with
    | zero =>
      intro k i s hi hk hP
      obtain ⟨k, rfl⟩ : ∃ m, k = m + 1 := ⟨k - 1, by omega⟩
      obtain rfl : i = n := by omega
      exact he k s (by omega) hP
    | succ d ih =>
      intro k i s hi hk hP
      have e : (d + 1) * (c + 1) = d * (c + 1) + (c + 1) := Nat.succ_mul d (c + 1)
      obtain ⟨k, rfl⟩ : ∃ m, k = m + c + 1 := ⟨k - c - 1, by omega⟩
      obtain ⟨s', hP', e'⟩ := hs k s i (by omega) hP
      rw [e']
      exact ih k (i + 1) s' (by omega) (by omega) hP'
  intro k i s hi hk hP
  obtain ⟨d, hd⟩ : ∃ d, i + d = n := ⟨n - i, by omega⟩
  have hm : d * (c + 1) ≤ n * (c + 1) := Nat.mul_le_mul_right _ (by omega)
  exact key d k i s hd (by omega) hP
theorem inv_from {σ β : Type} {F : Nat → σ → Int → Option β} {P : Nat → σ → Prop} {r : β} {n c : Nat} (hs : ∀ k s (i : Nat), i < n → P i s → ∃ s', P (i + 1) s' ∧ F (k + c + 1) s i = F k s' ((i + 1 : Nat) : Int)) (he : ∀ k s, P n s → F (k + 1) s n = some r) :
    ∀ k (i : Nat) s, i ≤ n → n * (c + 1) < k → P i s → F k s i = some r := fun k i s hi hk hP => inv_after 0 hs (fun k s _ hP => he k s hP) k i s hi (by omega) hP
/-- A loop that stops at the first place where p does not hold. -/
theorem stop_loop {σ β : Type} {F : Nat → σ → Int → Option β} {p : Nat → Bool} {r : β} {n c : Nat} (I : σ → Prop) (hs : ∀ k s (i : Nat), i < n → I s → p i = true → ∃ s', I s' ∧ F (k + c + 1) s i = F k s' ((i + 1 : Nat) : Int)) (hb : ∀ k s (i : Nat), i < n → I s → p i = false → F (k + c + 1) s i = some r) (j : Nat) (hj : j < n) (hp : p j = false) :
    ∀ k, n * (c + 1) < k → ∀ s, I s → F k s 0 = some r := by
  have key : ∀ d k (i : Nat) s, i + d = j → (d + 1) * (c + 1) < k → I s → F k s i = some r := by
    intro d
    induction d with
    | zero =>
      intro k i s hi hk hI
      obtain ⟨k, rfl⟩ : ∃ m, k = m + c + 1 := ⟨k - c - 1, by omega⟩
      obtain rfl : i = j := by omega
      exact hb k s i hj hI hp
    | succ d ih =>
      intro k i s hi hk hI
      have e : (d + 1 + 1) * (c + 1) = (d + 1) * (c + 1) + (c + 1) := Nat.succ_mul (d + 1) (c + 1)
      obtain ⟨k, rfl⟩ : ∃ m, k = m + c + 1 := ⟨k - c - 1, by omega⟩
      rcases hpi : p i with _ | _
      · exact hb k s i (by omega) hI hpi
      · obtain ⟨s', hI', e'⟩ := hs k s i (by omega) hI hpi
        rw [e']
        exact ih k (i + 1) s' (by omega) (by omega) hI'
  intro k hk s hI
  have hm : (j + 1) * (c + 1) ≤ n * (c + 1) := Nat.mul_le_mul_right _ (by omega)
  exact key j k 0 s (by omega) (by omega) hI
theorem inv_loop {σ β : Type} {F : Nat → σ → Int → Option β} {P : Nat → σ → Prop} {r : β} {n c : Nat} (hs : ∀ k s (i : Nat), i < n → P i s → ∃ s', P (i + 1) s' ∧ F (k + c + 1) s i = F k s' ((i + 1 : Nat) : Int)) (he : ∀ k s, P n s → F (k + 1) s n = some r) :
    ∀ k, n * (c + 1) < k → ∀ s, P 0 s → F k s 0 = some r := fun k hk s hP => inv_from hs he k 0 s (by omega) hk hP
/-- A list of n numbers, f's values ahead of place i, g's behind it. -/
def Part (n i : Nat) (x : List Int) (f g : Nat → Int) : Prop := x.length = n ∧ (∀ j, j < i → x.getD j 0 = f j) ∧ ∀ j, i ≤ j → j < n → x.getD j 0 = g j
theorem Part.start {n : Nat} {x : List Int} (f : Nat → Int) (h : x.length = n) : Part n 0 x f (fun j => x.getD j 0) := ⟨h, fun j hj => by omega, fun j _ _ => rfl⟩
theorem Part.zeros (n : Nat) (f : Nat → Int) : Part n 0 (List.replicate n 0) f (fun _ => 0) := ⟨by simp, fun j hj => by omega, fun j _ hj => by simp [List.getD, hj]⟩
theorem Part.set {n i : Nat} {x : List Int} {f g : Nat → Int} {v : Int} (h : Part n i x f g) (hi : i < n) (hv : v = f i) : Part n (i + 1) (x.set i v) f g := by
  obtain ⟨h1, h2, h3⟩ := h
  refine ⟨by simpa using h1, fun j hj => ?_, fun j hj hn => ?_⟩
  · by_cases e : j = i
    · subst e
      simp [List.getD, h1, hi, hv]
    · rw [show (x.set i v).getD j 0 = x.getD j 0 from by simp [List.getD, List.getElem?_set_ne (Ne.symm e)]]
      exact h2 j (by omega)
  · rw [show (x.set i v).getD j 0 = x.getD j 0 from by simp [List.getD, List.getElem?_set_ne (show i ≠ j by omega)]]
    exact h3 j (by omega) hn
theorem Part.skip {n i : Nat} {x : List Int} {f g : Nat → Int} (h : Part n i x f g) (hi : i < n) (hv : g i = f i) : Part n (i + 1) x f g := by
  obtain ⟨h1, h2, h3⟩ := h
  refine ⟨h1, fun j hj => ?_, fun j hj hn => h3 j (by omega) hn⟩
  by_cases e : j = i
  · subst e
    rw [h3 j (by omega) hi, hv]
  · exact h2 j (by omega)
theorem Part.done {n : Nat} {x : List Int} {f g : Nat → Int} (h : Part n n x f g) : x = tab n f := by
  obtain ⟨h1, h2, _⟩ := h
  refine List.ext_getElem (by rw [h1, tab_length]) fun i hi hi' => ?_
  have := h2 i (by omega)
  rw [getD_lt hi] at this
  rw [this]
  simp [tab]
theorem zrange_eq (k : Nat) (l : List Int) (lo hi most : Int) (hl : l.length ≤ 1048576) (hk : l.length < k) : impl_zrange.f k l lo hi most = some (decide ((l.length : Int) ≤ most) && inB lo hi l) := by
  unfold impl_zrange.f
  by_cases h : (l.length : Int) > most
  · rw [if_pos h, decide_eq_false (by omega), Bool.false_and]
  rw [if_neg h, decide_eq_true (by omega), Bool.true_and, ← Bool.and_true (inB lo hi l)]
  refine range_loop (F := fun k i => impl_zrange.l0 k lo hi l (l.length : Int) i) (c := 0) (fun k i hi => ?_) (fun k => ?_) k (by omega)
  · simp only [impl_zrange.l0, rd_nat]
    rw [wrap64_nat (by omega)]
    simp (disch := omega) only [if_pos, if_neg, decide_eq_true, decide_eq_false, if_true, Bool.false_eq_true, if_false, wrap64_id, u64_id, Option.bind_some]
  · simp only [impl_zrange.l0]
    rw [if_neg (by omega)]
theorem l10List_eq (k : Nat) (l : List Int) (hl : l.length ≤ 1048576) (hk : l.length < k) : spec_l10List.f k l = some (inB (-67108864) 67108863 l && decide ((l.length : Int) ≤ 4000)) := by
  refine range_loop (F := fun k i => spec_l10List.l0 k l l (l.length : Int) i) (c := 0) (fun k i hi => ?_) (fun k => ?_) k (by omega)
  · simp only [spec_l10List.l0, rd_nat]
    rw [wrap64_nat (by omega)]
    simp (disch := omega) only [if_pos, if_neg, decide_eq_true, decide_eq_false, if_true, Bool.false_eq_true, if_false, wrap64_id, u64_id, Option.bind_some]
  · simp only [spec_l10List.l0]
    rw [if_neg (by omega)]
theorem zlist_eq (k : Nat) (l : List Int) (hl : l.length ≤ 1048576) (hk : l.length < k) : impl_zlist.f k l = some (inB (-67108864) 67108863 l && decide ((l.length : Int) ≤ 4000)) := by
  unfold impl_zlist.f
  rw [zrange_eq k l _ _ _ hl hk, Option.bind_some, Bool.and_comm]
theorem zcopy_eq (l : List Int) (hl : l.length ≤ 1048576) : impl_zcopy.f l = some l := by
  unfold impl_zcopy.f
  rw [Option.bind_some, if_pos (by simp; omega)]
  rfl
def inQ (a : List Int) (i : Nat) : Bool := inR (-268435456) 268435455 a i
theorem inQ_of {a : List Int} {i : Nat} (h : inQ a i = true) : -268435456 ≤ a.getD i 0 ∧ a.getD i 0 ≤ 268435455 := by
  simpa only [inQ, inR, Bool.and_eq_true, decide_eq_true_eq] using h
theorem inQ_not {a : List Int} {i : Nat} (h : inQ a i = false) : a.getD i 0 < -268435456 ∨ a.getD i 0 > 268435455 := by
  simp only [inQ, inR, Bool.and_eq_false_iff, decide_eq_false_iff_not] at h
  omega
def fx (w : Int) (a b : List Int) (i : Nat) : Int := if w = 2 then (2 * a.getD i 0 + b.getD i 0 % 2 + b.getD i 0) / 2 else a.getD i 0
def fy (w : Int) (a b : List Int) (i : Nat) : Int := if w > 0 then fx w a b i - b.getD i 0 else b.getD i 0
theorem set_get {x : List Int} {i : Nat} {v : Int} (h : i < x.length) : (x.set i v).getD i 0 = v := by simp [List.getD, h]
/-- What both tell of the two lists that they have come to. -/
def ends (x y : List Int) : List Int × List Int := if (inB (-67108864) 67108863 x && decide ((x.length : Int) ≤ 4000)) = true then (if (inB (-67108864) 67108863 y && decide ((y.length : Int) ≤ 4000)) = true then (x, y) else ([], [])) else ([], [])
theorem unturn_step {w : Int} {a b x y : List Int} (h0 : 0 ≤ w) (h2 : w ≤ 2) (hn : a.length = b.length) (hl : a.length ≤ 4000) (l1 : x.length = a.length) (l2 : y.length = a.length) (i : Nat) (hi : i < a.length) (qa : inQ a i = true) (qb : inQ b i = true) (k : Nat) :
    spec_l10Unturn.l0 (k + 2) w a b x y (a.length : Int) i = spec_l10Unturn.l0 k w a b (x.set i (fx w a b i)) (y.set i (fy w a b i)) (a.length : Int) ((i + 1 : Nat) : Int) := by
  have ba := inQ_of qa
  have bb := inQ_of qb
  simp only [spec_l10Unturn.l0, spec_l10Unturn.j1, rd_nat, and_i64_one]
  rw [wrap64_nat (by omega)]
  have e3 : Int.tdiv (2 * a.getD i 0 + b.getD i 0 % 2 + b.getD i 0) 2 = (2 * a.getD i 0 + b.getD i 0 % 2 + b.getD i 0) / 2 := Int.tdiv_eq_ediv_of_dvd (by omega)
  have e4 : ∀ u v : Int, ((x.set i u).set i v).getD i 0 = v := fun u v => set_get (by simp; omega)
  by_cases h4 : w = 2
  · have e5 : fx w a b i = (2 * a.getD i 0 + b.getD i 0 % 2 + b.getD i 0) / 2 := if_pos h4
    have e6 : fy w a b i = (2 * a.getD i 0 + b.getD i 0 % 2 + b.getD i 0) / 2 - b.getD i 0 := by unfold fy; rw [if_pos (by omega), e5]
    rw [e5, e6]
    simp (disch := omega) only [if_pos, if_neg, decide_eq_true, decide_eq_false, if_true, Bool.false_eq_true, if_false, wrap64_id, u64_id, Option.bind_some, Int.toNat_natCast, List.set_set, e3, e4, set_get]
  · have e5 : fx w a b i = a.getD i 0 := if_neg h4
    rw [e5]
    by_cases h3 : w = 1
    · have e6 : fy w a b i = a.getD i 0 - b.getD i 0 := by unfold fy; rw [if_pos (by omega), e5]
      rw [e6]
      simp (disch := omega) only [if_pos, if_neg, decide_eq_true, decide_eq_false, if_true, Bool.false_eq_true, if_false, wrap64_id, u64_id, Option.bind_some, Int.toNat_natCast, List.set_set]
    · have e6 : fy w a b i = b.getD i 0 := by unfold fy; rw [if_neg (by omega)]
      rw [e6]
      simp (disch := omega) only [if_pos, if_neg, decide_eq_true, decide_eq_false, if_true, Bool.false_eq_true, if_false, wrap64_id, u64_id, Option.bind_some, Int.toNat_natCast, List.set_set]
theorem unturn_spec {w : Int} {a b : List Int} (h0 : 0 ≤ w) (h2' : w ≤ 2) (hn : a.length = b.length) (hl : a.length ≤ 4000) (ha : ∀ i, i < a.length → inQ a i = true) (hb : ∀ i, i < b.length → inQ b i = true) (k : Nat) (hk : 20000 < k) : spec_l10Unturn.f k w a b = some (ends (tab a.length (fx w a b)) (tab a.length (fy w a b))) := by
  unfold spec_l10Unturn.f
  rw [if_pos (by omega), if_pos (by omega), Int.toNat_natCast]
  refine inv_after (F := fun k (s : List Int × List Int) i => spec_l10Unturn.l0 k w a b s.1 s.2 (a.length : Int) i) (P := fun i s => Part a.length i s.1 (fx w a b) (fun _ => 0) ∧ Part a.length i s.2 (fy w a b) (fun _ => 0)) (n := a.length) (c := 1) 5000 ?_ ?_ k 0 (_, _) (by omega) (by omega) ⟨Part.zeros _ _, Part.zeros _ _⟩
  · rintro k ⟨x, y⟩ i hi ⟨h1, h2⟩
    have l1 : x.length = a.length := h1.1
    have l2 : y.length = a.length := h2.1
    exact ⟨(x.set i (fx w a b i), y.set i (fy w a b i)), ⟨h1.set hi rfl, h2.set hi rfl⟩, unturn_step h0 h2' hn hl l1 l2 i hi (ha i hi) (hb i (by omega)) k⟩
  · rintro k ⟨x, y⟩ hk ⟨h1, h2⟩
    have e1 : x = _ := h1.done
    have e2 : y = _ := h2.done
    have l1 : x.length = a.length := h1.1
    have l2 : y.length = a.length := h2.1
    simp only [spec_l10Unturn.l0]
    rw [if_neg (by omega), l10List_eq _ _ (by omega) (by omega), Option.bind_some, l10List_eq _ _ (by omega) (by omega), Option.bind_some, ← e1, ← e2]
    unfold ends
    split
    · split <;> rfl
    · rfl
theorem unturn_impl {w : Int} {a b : List Int} (h0 : 0 ≤ w) (h2 : w ≤ 2) (hn : a.length = b.length) (hl : a.length ≤ 4000) (ha : ∀ i, i < a.length → inQ a i = true) (hb : ∀ i, i < b.length → inQ b i = true) (k : Nat) (hk : 20000 < k) : impl_Unturn.l0 k w a b a b (a.length : Int) 0 = some (ends (tab a.length (fx w a b)) (tab a.length (fy w a b))) := by
  refine inv_after (F := fun k (s : List Int × List Int) i => impl_Unturn.l0 k w a b s.1 s.2 (a.length : Int) i) (P := fun i s => Part a.length i s.1 (fx w a b) (fun j => a.getD j 0) ∧ Part a.length i s.2 (fy w a b) (fun j => b.getD j 0)) (n := a.length) (c := 0) 5000 ?_ ?_ k 0 (a, b) (by omega) (by omega) ⟨Part.start _ rfl, Part.start _ hn.symm⟩
  · rintro k ⟨x, y⟩ i hi ⟨h1, h2⟩
    have l1 : x.length = a.length := h1.1
    have l2 : y.length = a.length := h2.1
    have ba := inQ_of (ha i (by omega))
    have bb := inQ_of (hb i (by omega))
    have xi : x.getD i 0 = a.getD i 0 := h1.2.2 i (by omega) hi
    simp only [impl_Unturn.l0, rd_nat, and_i64_one]
    rw [wrap64_nat (by omega)]
    have e4 : ∀ u : Int, (x.set i u).getD i 0 = u := fun u => set_get (by omega)
    by_cases h4 : w = 2
    · have e5 : fx w a b i = (2 * a.getD i 0 + b.getD i 0 % 2 + b.getD i 0) / 2 := if_pos h4
      have e6 : fy w a b i = (2 * a.getD i 0 + b.getD i 0 % 2 + b.getD i 0) / 2 - b.getD i 0 := by unfold fy; rw [if_pos (by omega), e5]
      refine ⟨(x.set i (fx w a b i), y.set i (fy w a b i)), ⟨h1.set hi rfl, h2.set hi rfl⟩, ?_⟩
      rw [e5, e6]
      simp (disch := omega) only [if_pos, if_neg, decide_eq_true, decide_eq_false, if_true, Bool.false_eq_true, if_false, wrap64_id, u64_id, Option.bind_some, Int.toNat_natCast, e4]
    · have e5 : fx w a b i = a.getD i 0 := if_neg h4
      by_cases h3 : w > 0
      · have e6 : fy w a b i = a.getD i 0 - b.getD i 0 := by unfold fy; rw [if_pos (by omega), e5]
        refine ⟨(x, y.set i (fy w a b i)), ⟨h1.skip hi e5.symm, h2.set hi rfl⟩, ?_⟩
        rw [e6]
        simp (disch := omega) only [if_pos, if_neg, decide_eq_true, decide_eq_false, if_true, Bool.false_eq_true, if_false, wrap64_id, u64_id, Option.bind_some, Int.toNat_natCast, xi]
      · have e6 : fy w a b i = b.getD i 0 := by unfold fy; rw [if_neg (by omega)]
        refine ⟨(x, y), ⟨h1.skip hi e5.symm, h2.skip hi e6.symm⟩, ?_⟩
        simp (disch := omega) only [if_pos, if_neg, decide_eq_true, decide_eq_false, if_true, Bool.false_eq_true, if_false, wrap64_id, u64_id, Option.bind_some, Int.toNat_natCast]
  · rintro k ⟨x, y⟩ hk ⟨h1, h2⟩
    have e1 : x = _ := h1.done
    have e2 : y = _ := h2.done
    have l1 : x.length = a.length := h1.1
    have l2 : y.length = a.length := h2.1
    simp only [impl_Unturn.l0]
    rw [if_neg (by omega), zlist_eq _ _ (by omega) (by omega), Option.bind_some, zlist_eq _ _ (by omega) (by omega), Option.bind_some, ← e1, ← e2]
    unfold ends
    split
    · split <;> rfl
    · rfl
theorem unturn_stop {w : Int} {a b : List Int} (h0 : 0 ≤ w) (h2 : w ≤ 2) (hn : a.length = b.length) (hl : a.length ≤ 4000) (j : Nat) (hj : j < a.length) (hp : (inQ a j && inQ b j) = false) (k : Nat) (hk : 20000 < k) : spec_l10Unturn.f k w a b = some ([], []) := by
  unfold spec_l10Unturn.f
  rw [if_pos (by omega), if_pos (by omega), Int.toNat_natCast]
  refine stop_loop (F := fun k (s : List Int × List Int) i => spec_l10Unturn.l0 k w a b s.1 s.2 (a.length : Int) i) (p := fun i => inQ a i && inQ b i) (n := a.length) (c := 1) (fun s => s.1.length = a.length ∧ s.2.length = a.length) ?_ ?_ j hj hp k (by omega) (_, _) ⟨by simp, by simp⟩
  · rintro k ⟨x, y⟩ i hi ⟨l1, l2⟩ hp
    have l1 : x.length = a.length := l1
    have l2 : y.length = a.length := l2
    obtain ⟨pa, pb⟩ := Bool.and_eq_true_iff.1 hp
    exact ⟨(x.set i (fx w a b i), y.set i (fy w a b i)), ⟨by simpa using l1, by simpa using l2⟩, unturn_step h0 h2 hn hl l1 l2 i hi pa pb k⟩
  · rintro k ⟨x, y⟩ i hi ⟨l1, l2⟩ hp
    simp only [spec_l10Unturn.l0, spec_l10Unturn.j1, rd_nat]
    rcases Bool.and_eq_false_iff.1 hp with h | h
    · rcases inQ_not h with h | h
      · simp (disch := omega) only [if_pos, if_neg, decide_eq_true, decide_eq_false, if_true, Bool.false_eq_true, if_false, wrap64_id, u64_id, Option.bind_some]
      · simp (disch := omega) only [if_pos, if_neg, decide_eq_true, decide_eq_false, if_true, Bool.false_eq_true, if_false, wrap64_id, u64_id, Option.bind_some]
    · by_cases h3 : a.getD i 0 < -268435456
      · simp (disch := omega) only [if_pos, if_neg, decide_eq_true, decide_eq_false, if_true, Bool.false_eq_true, if_false, wrap64_id, u64_id, Option.bind_some]
      by_cases h4 : a.getD i 0 > 268435455
      · simp (disch := omega) only [if_pos, if_neg, decide_eq_true, decide_eq_false, if_true, Bool.false_eq_true, if_false, wrap64_id, u64_id, Option.bind_some]
      rcases inQ_not h with h | h
      · simp (disch := omega) only [if_pos, if_neg, decide_eq_true, decide_eq_false, if_true, Bool.false_eq_true, if_false, wrap64_id, u64_id, Option.bind_some]
      · simp (disch := omega) only [if_pos, if_neg, decide_eq_true, decide_eq_false, if_true, Bool.false_eq_true, if_false, wrap64_id, u64_id, Option.bind_some]
theorem unturn_all (w : Int) (a b : List Int) (hla : a.length ≤ 1048576) (hlb : b.length ≤ 1048576) : ∃ x y, x.length ≤ 4000 ∧ y.length ≤ 4000 ∧ (∀ k, 1048580 < k → spec_Unturn.f k w a b = some (x, y)) ∧ ∀ k, 1048580 < k → impl_Unturn.f k w a b = some (x, y) := by
  by_cases hw0 : w < 0
  · refine ⟨[], [], by simp, by simp, fun k hk => by unfold spec_Unturn.f; simp (disch := omega) only [if_pos, if_neg, decide_eq_true, decide_eq_false, if_true, Bool.false_eq_true, if_false, wrap64_id, u64_id, Option.bind_some], fun k hk => ?_⟩
    obtain ⟨k, rfl⟩ : ∃ m, k = m + 1 := ⟨k - 1, by omega⟩
    unfold impl_Unturn.f
    rw [zrange_eq _ _ _ _ _ hla (by omega), zrange_eq _ _ _ _ _ hlb (by omega)]
    rcases decide ((a.length : Int) ≤ 4000) && inB (-268435456) 268435455 a with _ | _
    · simp (disch := omega) only [if_pos, if_neg, decide_eq_true, decide_eq_false, if_true, Bool.false_eq_true, if_false, wrap64_id, u64_id, Option.bind_some, impl_Unturn.j0]
    rcases decide ((b.length : Int) ≤ 4000) && inB (-268435456) 268435455 b with _ | _
    · simp (disch := omega) only [if_pos, if_neg, decide_eq_true, decide_eq_false, if_true, Bool.false_eq_true, if_false, wrap64_id, u64_id, Option.bind_some, impl_Unturn.j0]
    by_cases hn : (a.length : Int) = (b.length : Int)
    · simp (disch := omega) only [if_pos, if_neg, decide_eq_true, decide_eq_false, if_true, Bool.false_eq_true, if_false, wrap64_id, u64_id, Option.bind_some, impl_Unturn.j0]
    · simp (disch := omega) only [if_pos, if_neg, decide_eq_true, decide_eq_false, if_true, Bool.false_eq_true, if_false, wrap64_id, u64_id, Option.bind_some, impl_Unturn.j0]
  by_cases hw2 : w > 2
  · refine ⟨[], [], by simp, by simp, fun k hk => by unfold spec_Unturn.f; simp (disch := omega) only [if_pos, if_neg, decide_eq_true, decide_eq_false, if_true, Bool.false_eq_true, if_false, wrap64_id, u64_id, Option.bind_some], fun k hk => ?_⟩
    obtain ⟨k, rfl⟩ : ∃ m, k = m + 1 := ⟨k - 1, by omega⟩
    unfold impl_Unturn.f
    rw [zrange_eq _ _ _ _ _ hla (by omega), zrange_eq _ _ _ _ _ hlb (by omega)]
    rcases decide ((a.length : Int) ≤ 4000) && inB (-268435456) 268435455 a with _ | _
    · simp (disch := omega) only [if_pos, if_neg, decide_eq_true, decide_eq_false, if_true, Bool.false_eq_true, if_false, wrap64_id, u64_id, Option.bind_some, impl_Unturn.j0]
    rcases decide ((b.length : Int) ≤ 4000) && inB (-268435456) 268435455 b with _ | _
    · simp (disch := omega) only [if_pos, if_neg, decide_eq_true, decide_eq_false, if_true, Bool.false_eq_true, if_false, wrap64_id, u64_id, Option.bind_some, impl_Unturn.j0]
    by_cases hn : (a.length : Int) = (b.length : Int)
    · simp (disch := omega) only [if_pos, if_neg, decide_eq_true, decide_eq_false, if_true, Bool.false_eq_true, if_false, wrap64_id, u64_id, Option.bind_some, impl_Unturn.j0]
    · simp (disch := omega) only [if_pos, if_neg, decide_eq_true, decide_eq_false, if_true, Bool.false_eq_true, if_false, wrap64_id, u64_id, Option.bind_some, impl_Unturn.j0]
  by_cases hn : (a.length : Int) = (b.length : Int)
  · by_cases h4 : (a.length : Int) > 4000
    · refine ⟨[], [], by simp, by simp, fun k hk => by unfold spec_Unturn.f; simp (disch := omega) only [if_pos, if_neg, decide_eq_true, decide_eq_false, if_true, Bool.false_eq_true, if_false, wrap64_id, u64_id, Option.bind_some], fun k hk => ?_⟩
      obtain ⟨k, rfl⟩ : ∃ m, k = m + 1 := ⟨k - 1, by omega⟩
      unfold impl_Unturn.f
      rw [zrange_eq _ _ _ _ _ hla (by omega), decide_eq_false (by omega), Bool.false_and]
      simp (disch := omega) only [if_pos, if_neg, decide_eq_true, decide_eq_false, if_true, Bool.false_eq_true, if_false, wrap64_id, u64_id, Option.bind_some, impl_Unturn.j0]
    rcases ha : inB (-268435456) 268435455 a with _ | _
    · obtain ⟨j, hj, hp⟩ := allB_false.1 ha
      refine ⟨[], [], by simp, by simp, fun k hk => ?_, fun k hk => ?_⟩
      · have e := unturn_stop (w := w) (a := a) (b := b) (by omega) (by omega) (by omega) (by omega) j hj (by rw [show inQ a j = false from hp, Bool.false_and]) k (by omega)
        unfold spec_Unturn.f
        simp (disch := omega) only [if_pos, if_neg, decide_eq_true, decide_eq_false, if_true, Bool.false_eq_true, if_false, wrap64_id, u64_id, Option.bind_some, e]
      · obtain ⟨k, rfl⟩ : ∃ m, k = m + 1 := ⟨k - 1, by omega⟩
        unfold impl_Unturn.f
        simp (disch := omega) only [if_pos, if_neg, decide_eq_true, decide_eq_false, if_true, Bool.false_eq_true, if_false, wrap64_id, u64_id, Option.bind_some, zrange_eq, ha, Bool.and_false, impl_Unturn.j0]
    rcases hb : inB (-268435456) 268435455 b with _ | _
    · obtain ⟨j, hj, hp⟩ := allB_false.1 hb
      refine ⟨[], [], by simp, by simp, fun k hk => ?_, fun k hk => ?_⟩
      · have e := unturn_stop (w := w) (a := a) (b := b) (by omega) (by omega) (by omega) (by omega) j (by omega) (by rw [show inQ b j = false from hp, Bool.and_false]) k (by omega)
        unfold spec_Unturn.f
        simp (disch := omega) only [if_pos, if_neg, decide_eq_true, decide_eq_false, if_true, Bool.false_eq_true, if_false, wrap64_id, u64_id, Option.bind_some, e]
      · obtain ⟨k, rfl⟩ : ∃ m, k = m + 1 := ⟨k - 1, by omega⟩
        unfold impl_Unturn.f
        simp (disch := omega) only [if_pos, if_neg, decide_eq_true, decide_eq_false, if_true, Bool.false_eq_true, if_false, wrap64_id, u64_id, Option.bind_some, zrange_eq, ha, hb, Bool.and_false, Bool.and_true, impl_Unturn.j0]
    have e1 := fun k hk => unturn_spec (w := w) (a := a) (b := b) (by omega) (by omega) (by omega) (by omega) (allB_iff.1 ha) (allB_iff.1 hb) k hk
    have e2 := fun k hk => unturn_impl (w := w) (a := a) (b := b) (by omega) (by omega) (by omega) (by omega) (allB_iff.1 ha) (allB_iff.1 hb) k hk
    obtain ⟨x, y, hx, hy, e⟩ : ∃ x y, x.length ≤ 4000 ∧ y.length ≤ 4000 ∧ ends (tab a.length (fx w a b)) (tab a.length (fy w a b)) = (x, y) := by
      unfold ends
      split
      · split
        · exact ⟨_, _, by rw [tab_length]; omega, by rw [tab_length]; omega, rfl⟩
        · exact ⟨[], [], by simp, by simp, rfl⟩
      · exact ⟨[], [], by simp, by simp, rfl⟩
    rw [e] at e1 e2
    refine ⟨x, y, hx, hy, fun k hk => ?_, fun k hk => ?_⟩
    · unfold spec_Unturn.f
      simp (disch := omega) only [if_pos, if_neg, decide_eq_true, decide_eq_false, if_true, Bool.false_eq_true, if_false, wrap64_id, u64_id, Option.bind_some, e1]
    · obtain ⟨k, rfl⟩ : ∃ m, k = m + 1 := ⟨k - 1, by omega⟩
      unfold impl_Unturn.f
      simp (disch := omega) only [if_pos, if_neg, decide_eq_true, decide_eq_false, if_true, Bool.false_eq_true, if_false, wrap64_id, u64_id, Option.bind_some, zrange_eq, ha, hb, Bool.and_true, impl_Unturn.j0, zcopy_eq, e2]
  · refine ⟨[], [], by simp, by simp, fun k hk => by unfold spec_Unturn.f; simp (disch := omega) only [if_pos, if_neg, decide_eq_true, decide_eq_false, if_true, Bool.false_eq_true, if_false, wrap64_id, u64_id, Option.bind_some], fun k hk => ?_⟩
    obtain ⟨k, rfl⟩ : ∃ m, k = m + 1 := ⟨k - 1, by omega⟩
    unfold impl_Unturn.f
    rw [zrange_eq _ _ _ _ _ hla (by omega), zrange_eq _ _ _ _ _ hlb (by omega)]
    rcases decide ((a.length : Int) ≤ 4000) && inB (-268435456) 268435455 a with _ | _
    · simp (disch := omega) only [if_pos, if_neg, decide_eq_true, decide_eq_false, if_true, Bool.false_eq_true, if_false, wrap64_id, u64_id, Option.bind_some, impl_Unturn.j0]
    rcases decide ((b.length : Int) ≤ 4000) && inB (-268435456) 268435455 b with _ | _
    · simp (disch := omega) only [if_pos, if_neg, decide_eq_true, decide_eq_false, if_true, Bool.false_eq_true, if_false, wrap64_id, u64_id, Option.bind_some, impl_Unturn.j0]
    simp (disch := omega) only [if_pos, if_neg, decide_eq_true, decide_eq_false, if_true, Bool.false_eq_true, if_false, wrap64_id, u64_id, Option.bind_some, impl_Unturn.j0]
theorem FnExactUnturn : laws_FnExactUnturn.Pure := by
  intro w a b _ _ _ _ _ _ _
  obtain ⟨K, hK⟩ : ∃ K : Nat, 1048600 < K := ⟨_, Nat.lt_succ_self _⟩
  refine ⟨K + 5, ?_⟩
  unfold laws_FnExactUnturn.f
  by_cases h1 : (a.length : Int) > 1048576
  · simp (disch := omega) only [if_pos, if_neg, decide_eq_true, decide_eq_false, if_true, Bool.false_eq_true, if_false, wrap64_id, u64_id, Option.bind_some]
  by_cases h2 : (b.length : Int) > 1048576
  · simp (disch := omega) only [if_pos, if_neg, decide_eq_true, decide_eq_false, if_true, Bool.false_eq_true, if_false, wrap64_id, u64_id, Option.bind_some]
  obtain ⟨x, y, hx, hy, e1, e2⟩ := unturn_all w a b (by omega) (by omega)
  simp (disch := omega) only [if_pos, if_neg, decide_eq_true, decide_eq_false, if_true, Bool.false_eq_true, if_false, wrap64_id, u64_id, Option.bind_some, toIntS_eq, e1, e2, eqIntS_eq, markIntS_eq, heldIntS_eq, laws_FnExactUnturn.j0, laws_FnExactUnturn.j1, laws_FnExactUnturn.j2, Bool.not_true]

end Go.Proofs.Ytflgalojbebfmaa.Pure
