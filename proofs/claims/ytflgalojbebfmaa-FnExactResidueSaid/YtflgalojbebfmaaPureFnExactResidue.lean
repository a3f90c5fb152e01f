/- Proved: the program's Residue tells what the reference's tells, in memory of its own, for every order and every list of at most 1048576 numbers (for a longer one the statement says nothing). -/
import Derived.Test.YtflgalojbebfmaaPFnExactResiduex4
import Derived.Test.YtflgalojbebfmaaMy
namespace Go.Proofs.Ytflgalojbebfmaa.Pure
open Go.RowKit Go.Proofs.Ytflgalojbebfmaa.PFnExactResidue Go.Proofs.YtflgalojbebfmaaW.PrintWords Go.Proofs.YtflgalojbebfmaaW.PrintLast Go.Proofs.YtflgalojbebfmaaW.PrintMore Go.Proofs.Ytflgalojbebfmaa.My
set_option linter.unusedVariables false
set_option linter.unusedSimpArgs false
attribute [local congr] bind_left ite_left

theorem toIntS_l0 (x0 : List Int) (hl : x0.length ≤ 1152921504606846976) (d : Nat) : ∀ (k : Nat) (x3 : List Int) (i : Nat), x3.length = x0.length → i + d = x0.length → d < k → (∀ j, j < i → x3[j]? = x0[j]?) →
    laws_toIntS.l0 k x0 x3 (i : Int) = some x0 := by
  induction d with
  | zero =>
    intro k x3 i h3 hi hk hj
    obtain ⟨k, rfl⟩ : ∃ m, k = m + 1 := ⟨k - 1, by omega⟩
    simp only [laws_toIntS.l0]
    rw [if_neg (by omega)]
    congr 1
    refine List.ext_getElem? fun j => ?_
    by_cases h : j < i
    · exact hj j h
    · rw [List.getElem?_eq_none (by omega), List.getElem?_eq_none (by omega)]
  | succ d ih =>
    intro k x3 i h3 hi hk hj
    obtain ⟨k, rfl⟩ : ∃ m, k = m + 1 := ⟨k - 1, by omega⟩
    simp only [laws_toIntS.l0]
    rw [if_pos (by omega), if_pos (by omega), if_pos (by omega), wrap64_nat (by omega)]
    refine ih k _ (i + 1) (by simpa using h3) (by omega) (by omega) fun j hji => ?_
    rw [rd_lt (show i < x0.length by omega), Int.toNat_natCast, List.getElem?_set]
    split
    · rename_i h
      subst h
      rw [if_pos (by omega), List.getElem?_eq_getElem (by omega)]
    · exact hj j (by omega)
/-- The copy reads as the list. -/
theorem toIntS_eq (k : Nat) (l : List Int) (hl : l.length ≤ 1048576) (hk : l.length < k) : laws_toIntS.f k l = some l := by
  unfold laws_toIntS.f
  rw [if_pos (by omega), if_pos (by omega)]
  exact toIntS_l0 l (by omega) l.length k _ 0 (by simp) (by omega) hk (by omega)
theorem eqIntS_l0 (x : List Int) (hl : x.length ≤ 1152921504606846976) (d : Nat) : ∀ (k : Nat) (i : Nat), i + d = x.length → d < k → laws_eqIntS.l0 k x x (i : Int) = some true := by
  induction d with
  | zero =>
    intro k i hi hk
    obtain ⟨k, rfl⟩ : ∃ m, k = m + 1 := ⟨k - 1, by omega⟩
    simp only [laws_eqIntS.l0]
    rw [if_neg (by omega)]
  | succ d ih =>
    intro k i hi hk
    obtain ⟨k, rfl⟩ : ∃ m, k = m + 1 := ⟨k - 1, by omega⟩
    simp only [laws_eqIntS.l0]
    rw [if_pos (by omega), if_pos (by omega), if_pos (by omega), if_pos trivial, wrap64_nat (by omega)]
    exact ih k (i + 1) (by omega) (by omega)
theorem eqIntS_eq (k : Nat) (l : List Int) (hl : l.length ≤ 1152921504606846976) (hk : l.length < k) : laws_eqIntS.f k l l = some true := by
  unfold laws_eqIntS.f
  rw [if_pos rfl]
  exact eqIntS_l0 l hl l.length k 0 (by omega) hk
theorem markIntS_l0 (n : Nat) (hn : n ≤ 1152921504606846976) (d : Nat) : ∀ (k : Nat) (x : List Int) (a : Int) (i : Nat), x.length = n → i + d = n → d < k → 0 ≤ a → a + d ≤ 9223372036854775806 →
    laws_markIntS.l0 k x a (i : Int) = some (a + d, x.take i ++ upI a d) := by
  induction d with
  | zero =>
    intro k x a i hx hi hk h0 ha
    obtain ⟨k, rfl⟩ : ∃ m, k = m + 1 := ⟨k - 1, by omega⟩
    simp only [laws_markIntS.l0]
    rw [if_neg (by omega), List.take_of_length_le (by omega)]
    simp [upI]
  | succ d ih =>
    intro k x a i hx hi hk h0 ha
    obtain ⟨k, rfl⟩ : ∃ m, k = m + 1 := ⟨k - 1, by omega⟩
    simp only [laws_markIntS.l0]
    rw [if_pos (by omega), if_pos (by omega), wrap64_nat (by omega), wrap64_id (n := a + 1) (by omega) (by omega), Int.toNat_natCast, ih k _ (a + 1) (i + 1) (by simpa using hx) (by omega) (by omega) (by omega) (by omega), take_set_succ _ _ _ (by omega)]
    rw [show a + 1 + (d : Int) = a + ((d + 1 : Nat) : Int) from by omega]
    simp [upI]
theorem markIntS_eq (k : Nat) (l : List Int) (a : Int) (hl : l.length ≤ 1152921504606846976) (hk : l.length < k) (h0 : 0 ≤ a) (ha : a ≤ 1152921504606846976) : laws_markIntS.f k l a = some (a + l.length, upI a l.length) := by
  unfold laws_markIntS.f
  exact markIntS_l0 l.length hl l.length k l a 0 rfl (by omega) hk h0 (by omega)
theorem heldIntS_l0 (n : Nat) (a : Int) (hn : n ≤ 1152921504606846976) (h0 : 0 ≤ a) (ha : a ≤ 1152921504606846976) (d : Nat) : ∀ (k : Nat) (i : Nat), i + d = n → d < k →
    laws_heldIntS.l0 k (upI a n) (a + (i : Int)) (i : Int) = some (a + n) := by
  induction d with
  | zero =>
    intro k i hi hk
    obtain ⟨k, rfl⟩ : ∃ m, k = m + 1 := ⟨k - 1, by omega⟩
    simp only [laws_heldIntS.l0]
    rw [if_neg (by rw [upI_length]; omega), show i = n by omega]
  | succ d ih =>
    intro k i hi hk
    obtain ⟨k, rfl⟩ : ∃ m, k = m + 1 := ⟨k - 1, by omega⟩
    simp only [laws_heldIntS.l0]
    rw [if_pos (by rw [upI_length]; omega), if_pos (by omega), rd_nat, upI_get n a i (by omega), if_pos rfl, wrap64_nat (by omega), wrap64_id (by omega) (by omega), show a + (i : Int) + 1 = a + ((i + 1 : Nat) : Int) from by omega]
    exact ih k (i + 1) (by omega) (by omega)
theorem heldIntS_eq (k n : Nat) (a : Int) (hn : n ≤ 1152921504606846976) (hk : n < k) (h0 : 0 ≤ a) (ha : a ≤ 1152921504606846976) : laws_heldIntS.f k (upI a n) a = some (a + n) := by
  unfold laws_heldIntS.f
  have h := heldIntS_l0 n a hn h0 ha n k 0 (by omega) hk
  rwa [show a + ((0 : Nat) : Int) = a from by omega] at h
/-- Whether something holds of each of the first n places. -/
def allB (n : Nat) (p : Nat → Bool) : Bool := (List.range n).all p
theorem allB_iff {n : Nat} {p : Nat → Bool} : allB n p = true ↔ ∀ i, i < n → p i = true := by simp [allB]
theorem allB_congr {n : Nat} {p q : Nat → Bool} (h : ∀ i, i < n → p i = q i) : allB n p = allB n q := by
  rw [Bool.eq_iff_iff, allB_iff, allB_iff]
  exact ⟨fun g i hi => by rw [← h i hi]; exact g i hi, fun g i hi => by rw [h i hi]; exact g i hi⟩
theorem allB_false {n : Nat} {p : Nat → Bool} : allB n p = false ↔ ∃ i, i < n ∧ p i = false := by
  rw [← Bool.not_eq_true, allB_iff]
  constructor
  · intro h
    refine Classical.byContradiction fun g => h fun i hi => ?_
    rcases hp : p i with _ | _
    · exact (g ⟨i, hi, hp⟩).elim
    · rfl
  · rintro ⟨i, hi, hp⟩ h
    rw [h i hi] at hp
    cases hp
/-- A loop that looks at each place and stops with 'no' at the first that does not do. -/
theorem scan_all {F : Nat → Int → Option Bool} {p : Nat → Bool} {n c : Nat} (hs : ∀ k (i : Nat), i < n → F (k + c + 1) i = if p i = true then F k ((i + 1 : Nat) : Int) else some false) (he : ∀ k, F (k + 1) n = some true) :
    ∀ k, n * (c + 1) < k → F k 0 = some (allB n p) := by
  have key : ∀ d k (i : Nat), i + d = n → d * (c + 1) < k → (∀ j, j < i → p j = true) → F k i = some (allB n p) := by
    intro d
    induction d with
    | zero =>
      intro k i hi hk hj
      obtain ⟨k, rfl⟩ : ∃ m, k = m + 1 := ⟨k - 1, by omega⟩
      rw [show i = n by omega, he, (allB_iff.2 fun j hjn => hj j (by omega) : allB n p = true)]
    | succ d ih =>
      intro k i hi hk hj
      have e : (d + 1) * (c + 1) = d * (c + 1) + (c + 1) := Nat.succ_mul d (c + 1)
      obtain ⟨k, rfl⟩ : ∃ m, k = m + c + 1 := ⟨k - c - 1, by omega⟩
      rw [hs k i (by omega)]
      rcases hp : p i with _ | _
      · rw [if_neg (by decide), allB_false.2 ⟨i, by omega, hp⟩]
      · rw [if_pos rfl]
        exact ih k (i + 1) (by omega) (by omega) fun j hji => by
          by_cases h : j = i
          · rw [h, hp]
          · exact hj j (by omega)
  intro k hk
  exact key n k 0 (by omega) hk fun j hj => by omega
/-- The list of f's first n values. -/
def tab (n : Nat) (f : Nat → Int) : List Int := (List.range n).map f
theorem tab_length (n : Nat) (f : Nat → Int) : (tab n f).length = n := by simp [tab]
theorem tab_congr {n : Nat} {f g : Nat → Int} (h : ∀ i, i < n → f i = g i) : tab n f = tab n g := by
  unfold tab
  exact List.map_congr_left fun i hi => h i (by simpa using hi)
theorem tab_succ (n : Nat) (f : Nat → Int) : tab (n + 1) f = tab n f ++ [f n] := by simp [tab, List.range_succ]
theorem tab_get {n : Nat} {f : Nat → Int} {i : Nat} (h : i < n) : (tab n f).getD i 0 = f i := by simp [tab, List.getD, h]
theorem mem_tab {n : Nat} {f : Nat → Int} {x : Int} (h : x ∈ tab n f) : ∃ i, i < n ∧ x = f i := by
  simp only [tab, List.mem_map, List.mem_range] at h
  obtain ⟨i, hi, rfl⟩ := h
  exact ⟨i, hi, rfl⟩
theorem tab_self (l : List Int) : tab l.length (fun i => l.getD i 0) = l := by
  refine List.ext_getElem (by simp [tab]) fun i h1 h2 => ?_
  simp [tab, List.getD, h2]
/-- A loop that sets place after place. -/
theorem fill_loop {β : Type} {F : Nat → List Int → Int → Option β} {f : Nat → Int} {g : List Int → β} {n c : Nat} (hs : ∀ k out (i : Nat), out.length = n → i < n → F (k + c + 1) out i = F k (out.set i (f i)) ((i + 1 : Nat) : Int)) (he : ∀ k out, out.length = n → F (k + 1) out n = some (g out)) :
    ∀ k, n * (c + 1) < k → ∀ out, out.length = n → F k out 0 = some (g (tab n f)) := by
  have key : ∀ d k (i : Nat) out, out.length = n → i + d = n → d * (c + 1) < k → out.take i = tab i f → F k out i = some (g (tab n f)) := by
    intro d
    induction d with
    | zero =>
      intro k i out ho hi hk ht
      obtain ⟨k, rfl⟩ : ∃ m, k = m + 1 := ⟨k - 1, by omega⟩
      obtain rfl : i = n := by omega
      rw [he k out ho, ← ht, List.take_of_length_le (by omega)]
    | succ d ih =>
      intro k i out ho hi hk ht
      have e : (d + 1) * (c + 1) = d * (c + 1) + (c + 1) := Nat.succ_mul d (c + 1)
      obtain ⟨k, rfl⟩ : ∃ m, k = m + c + 1 := ⟨k - c - 1, by omega⟩
      rw [hs k out i ho (by omega)]
      exact ih k (i + 1) _ (by simpa using ho) (by omega) (by omega) (by rw [take_set_succ _ _ _ (by omega), ht, tab_succ])
  intro k hk out ho
  exact key n k 0 out ho (by omega) hk (by simp [tab])
/-- A loop that appends. -/
theorem push_loop {β : Type} {F : Nat → List Int → Int → Option β} {f : Nat → Int} {g : List Int → β} {n c : Nat} (hs : ∀ k out (i : Nat), out.length = i → i < n → F (k + c + 1) out i = F k (out ++ [f i]) ((i + 1 : Nat) : Int)) (he : ∀ k out, out.length = n → F (k + 1) out n = some (g out)) :
    ∀ k, n * (c + 1) < k → F k [] 0 = some (g (tab n f)) := by
  have key : ∀ d k (i : Nat), i + d = n → d * (c + 1) < k → F k (tab i f) i = some (g (tab n f)) := by
    intro d
    induction d with
    | zero =>
      intro k i hi hk
      obtain ⟨k, rfl⟩ : ∃ m, k = m + 1 := ⟨k - 1, by omega⟩
      obtain rfl : i = n := by omega
      exact he k _ (tab_length _ _)
    | succ d ih =>
      intro k i hi hk
      have e : (d + 1) * (c + 1) = d * (c + 1) + (c + 1) := Nat.succ_mul d (c + 1)
      obtain ⟨k, rfl⟩ : ∃ m, k = m + c + 1 := ⟨k - c - 1, by omega⟩
      rw [hs k _ i (tab_length _ _) (by omega), ← tab_succ]
      exact ih k (i + 1) (by omega) (by omega)
  intro k hk
  exact key n k 0 (by omega) hk
/-- Whether the number at place i lies between lo and hi. -/
def inR (lo hi : Int) (l : List Int) (i : Nat) : Bool := decide (lo ≤ l.getD i 0) && decide (l.getD i 0 ≤ hi)
/-- Whether all numbers of a list lie between lo and hi. -/
def inB (lo hi : Int) (l : List Int) : Bool := allB l.length (inR lo hi l)
theorem inB_iff {lo hi : Int} {l : List Int} : inB lo hi l = true ↔ ∀ i, i < l.length → lo ≤ l.getD i 0 ∧ l.getD i 0 ≤ hi := by
  unfold inB
  rw [allB_iff]
  simp only [inR, Bool.and_eq_true, decide_eq_true_eq]
/-- A loop that asks of each number whether it lies between lo and hi. -/
theorem range_loop {F : Nat → Int → Option Bool} {lo hi : Int} {l : List Int} {b : Bool} {c : Nat} (hs : ∀ k (i : Nat), i < l.length → F (k + c + 1) i = if l.getD i 0 < lo then some false else if l.getD i 0 > hi then some false else F k ((i + 1 : Nat) : Int)) (he : ∀ k, F (k + 1) l.length = some b) :
    ∀ k, l.length * (c + 1) < k → F k 0 = some (inB lo hi l && b) := by
  have key : ∀ d k (i : Nat), i + d = l.length → d * (c + 1) < k → (∀ j, j < i → inR lo hi l j = true) → F k i = some (inB lo hi l && b) := by
    intro d
    induction d with
    | zero =>
      intro k i hi hk hj
      obtain ⟨k, rfl⟩ : ∃ m, k = m + 1 := ⟨k - 1, by omega⟩
      rw [show i = l.length by omega, he, show inB lo _ l = true from allB_iff.2 fun j hjn => hj j (by omega), Bool.true_and]
    | succ d ih =>
      intro k i hi' hk hj
      have e : (d + 1) * (c + 1) = d * (c + 1) + (c + 1) := Nat.succ_mul d (c + 1)
      obtain ⟨k, rfl⟩ : ∃ m, k = m + c + 1 := ⟨k - c - 1, by omega⟩
      rw [hs k i (by omega)]
      have bad : inR lo hi l i = false → some false = some (inB lo hi l && b) := fun h => by
        rw [show inB lo hi l = false from allB_false.2 ⟨i, by omega, h⟩, Bool.false_and]
      by_cases h1 : l.getD i 0 < lo
      · rw [if_pos h1]
        exact bad (by unfold inR; rw [decide_eq_false (by omega), Bool.false_and])
      by_cases h2 : l.getD i 0 > hi
      · rw [if_neg h1, if_pos h2]
        exact bad (by unfold inR; rw [decide_eq_false (p := l.getD i 0 ≤ hi) (by omega), Bool.and_false])
      rw [if_neg h1, if_neg h2]
      refine ih k (i + 1) (by omega) (by omega) fun j hji => ?_
      by_cases h : j = i
      · subst h
        unfold inR
        rw [decide_eq_true (by omega), decide_eq_true (by omega), Bool.true_and]
      · exact hj j (by omega)
  intro k hk
  exact key l.length k 0 (by omega) hk fun j hj => by omega
/-- A loop over the places 0 to n - 1 that keeps P. -/
theorem inv_from {σ β : Type} {F : Nat → σ → Int → Option β} {P : Nat → σ → Prop} {r : β} {n c : Nat} (hs : ∀ k s (i : Nat), i < n → P i s → ∃ s', P (i + 1) s' ∧ F (k + c + 1) s i = F k s' ((i + 1 : Nat) : Int)) (he : ∀ k s, P n s → F (k + 1) s n = some r) :
    ∀ k (i : Nat) s, i ≤ n → n * (c + 1) < k → P i s → F k s i = some r := by
  have key : ∀ d k (i : Nat) s, i + d = n → d * (c + 1) < k → P i s → F k s i = some r := by
    intro d
    induction d with
    | zero =>
      intro k i s hi hk hP
      obtain ⟨k, rfl⟩ : ∃ m, k = m + 1 := ⟨k - 1, by omega⟩
      obtain rfl : i = n := by omega
      exact he k s hP
    | succ d ih =>
      intro k i s hi hk hP
      have e : (d + 1) * (c + 1) = d * (c + 1) + (c + 1) := Nat.succ_mul d (c + 1)
      obtain ⟨k, rfl⟩ : ∃ m, k = m + c + 1 := ⟨k - c - 1, by omega⟩
      obtain ⟨s', hP', e'⟩ := hs k s i (by omega) hP
      rw [e']
      exact ih k (i + 1) s' (by omega) (by omega) hP'
  intro k i s hi hk hP
  obtain ⟨d, hd⟩ : ∃ d, i + d = n := ⟨n - i, by omega⟩
  exact key d k i s hd (Nat.lt_of_le_of_lt (Nat.mul_le_mul_right _ (by omega)) hk) hP
theorem inv_loop {σ β : Type} {F : Nat → σ → Int → Option β} {P : Nat → σ → Prop} {r : β} {n c : Nat} (hs : ∀ k s (i : Nat), i < n → P i s → ∃ s', P (i + 1) s' ∧ F (k + c + 1) s i = F k s' ((i + 1 : Nat) : Int)) (he : ∀ k s, P n s → F (k + 1) s n = some r) :
    ∀ k, n * (c + 1) < k → ∀ s, P 0 s → F k s 0 = some r := fun k hk s hP => inv_from hs he k 0 s (by omega) hk hP
/-- A list of n numbers, f's values ahead of place i, g's behind it. -/
def Part (n i : Nat) (x : List Int) (f g : Nat → Int) : Prop := x.length = n ∧ (∀ j, j < i → x.getD j 0 = f j) ∧ ∀ j, i ≤ j → j < n → x.getD j 0 = g j
theorem Part.start {n : Nat} {x : List Int} (f : Nat → Int) (h : x.length = n) : Part n 0 x f (fun j => x.getD j 0) := ⟨h, fun j hj => by omega, fun j _ _ => rfl⟩
theorem Part.zeros (n : Nat) (f : Nat → Int) : Part n 0 (List.replicate n 0) f (fun _ => 0) := ⟨by simp, fun j hj => by omega, fun j _ hj => by simp [List.getD, hj]⟩
theorem Part.set {n i : Nat} {x : List Int} {f g : Nat → Int} {v : Int} (h : Part n i x f g) (hi : i < n) (hv : v = f i) : Part n (i + 1) (x.set i v) f g := by
  obtain ⟨h1, h2, h3⟩ := h
  refine ⟨by simpa using h1, fun j hj => ?_, fun j hj hn => ?_⟩
  · by_cases e : j = i
    · subst e
      simp [List.getD, h1, hi, hv]
    · rw [show (x.set i v).getD j 0 = x.getD j 0 from by simp [List.getD, List.getElem?_set_ne (Ne.symm e)]]
      exact h2 j (by omega)
  · rw [show (x.set i v).getD j 0 = x.getD j 0 from by simp [List.getD, List.getElem?_set_ne (show i ≠ j by omega)]]
    exact h3 j (by omega) hn
theorem Part.skip {n i : Nat} {x : List Int} {f g : Nat → Int} (h : Part n i x f g) (hi : i < n) (hv : g i = f i) : Part n (i + 1) x f g := by
  obtain ⟨h1, h2, h3⟩ := h
  refine ⟨h1, fun j hj => ?_, fun j hj hn => h3 j (by omega) hn⟩
  by_cases e : j = i
  · subst e
    rw [h3 j (by omega) hi, hv]
  · exact h2 j (by omega)
theorem Part.done {n : Nat} {x : List Int} {f g : Nat → Int} (h : Part n n x f g) : x = tab n f := by
  obtain ⟨h1, h2, _⟩ := h
  refine List.ext_getElem (by rw [h1, tab_length]) fun i hi hi' => ?_
  have := h2 i (by omega)
  rw [getD_lt hi] at this
  rw [this]
  simp [tab]
theorem zrange_eq (k : Nat) (l : List Int) (lo hi most : Int) (hl : l.length ≤ 1048576) (hk : l.length < k) : impl_zrange.f k l lo hi most = some (decide ((l.length : Int) ≤ most) && inB lo hi l) := by
  unfold impl_zrange.f
  by_cases h : (l.length : Int) > most
  · rw [if_pos h, decide_eq_false (by omega), Bool.false_and]
  rw [if_neg h, decide_eq_true (by omega), Bool.true_and, ← Bool.and_true (inB lo hi l)]
  refine range_loop (F := fun k i => impl_zrange.l0 k lo hi l (l.length : Int) i) (c := 0) (fun k i hi => ?_) (fun k => ?_) k (by omega)
  · simp only [impl_zrange.l0, rd_nat]
    rw [wrap64_nat (by omega)]
    simp (disch := omega) only [if_pos, if_neg, decide_eq_true, decide_eq_false, if_true, Bool.false_eq_true, if_false, wrap64_id, u64_id, Option.bind_some]
  · simp only [impl_zrange.l0]
    rw [if_neg (by omega)]
theorem l10List_eq (k : Nat) (l : List Int) (hl : l.length ≤ 1048576) (hk : l.length < k) : spec_l10List.f k l = some (inB (-67108864) 67108863 l && decide ((l.length : Int) ≤ 4000)) := by
  refine range_loop (F := fun k i => spec_l10List.l0 k l l (l.length : Int) i) (c := 0) (fun k i hi => ?_) (fun k => ?_) k (by omega)
  · simp only [spec_l10List.l0, rd_nat]
    rw [wrap64_nat (by omega)]
    simp (disch := omega) only [if_pos, if_neg, decide_eq_true, decide_eq_false, if_true, Bool.false_eq_true, if_false, wrap64_id, u64_id, Option.bind_some]
  · simp only [spec_l10List.l0]
    rw [if_neg (by omega)]
theorem zlist_eq (k : Nat) (l : List Int) (hl : l.length ≤ 1048576) (hk : l.length < k) : impl_zlist.f k l = some (inB (-67108864) 67108863 l && decide ((l.length : Int) ≤ 4000)) := by
  unfold impl_zlist.f
  rw [zrange_eq k l _ _ _ hl hk, Option.bind_some, Bool.and_comm]
theorem zcopy_eq (l : List Int) (hl : l.length ≤ 1048576) : impl_zcopy.f l = some l := by
  unfold impl_zcopy.f
  rw [Option.bind_some, if_pos (by simp; omega)]
  rfl
theorem guess_eq : spec_l10Guess.f = impl_zguess.f := rfl
theorem guess_some (o : Int) (l : List Int) (i : Int) (h0 : 0 ≤ o) (h4 : o ≤ 4) (hi : o ≤ i) (hl : i < l.length) (hm : l.length ≤ 1048576) : ∃ g, impl_zguess.f o l i = some g := by
  unfold impl_zguess.f
  by_cases h : o = 1
  · exact ⟨_, by simp (disch := omega) only [if_pos, if_neg, decide_eq_true, decide_eq_false, if_true, Bool.false_eq_true, if_false, wrap64_id, u64_id, Option.bind_some]; rfl⟩
  by_cases h : o = 2
  · exact ⟨_, by simp (disch := omega) only [if_pos, if_neg, decide_eq_true, decide_eq_false, if_true, Bool.false_eq_true, if_false, wrap64_id, u64_id, Option.bind_some]; rfl⟩
  by_cases h : o = 3
  · exact ⟨_, by simp (disch := omega) only [if_pos, if_neg, decide_eq_true, decide_eq_false, if_true, Bool.false_eq_true, if_false, wrap64_id, u64_id, Option.bind_some]; rfl⟩
  by_cases h : o = 4
  · exact ⟨_, by simp (disch := omega) only [if_pos, if_neg, decide_eq_true, decide_eq_false, if_true, Bool.false_eq_true, if_false, wrap64_id, u64_id, Option.bind_some]; rfl⟩
  exact ⟨_, by simp (disch := omega) only [if_pos, if_neg, decide_eq_true, decide_eq_false, if_true, Bool.false_eq_true, if_false, wrap64_id, u64_id, Option.bind_some]; rfl⟩
/-- Number i of the residue. -/
def res (o : Int) (l : List Int) (i : Nat) : Int := if (i : Int) ≥ o then wrap64 (l.getD i 0 - (impl_zguess.f o l i).getD 0) else l.getD i 0
theorem res_spec {o : Int} {l : List Int} (h0 : 0 ≤ o) (h4 : o ≤ 4) (hl : l.length ≤ 4000) (k : Nat) (hk : 5000 < k) : spec_l10Residue.f k o l = some (tab l.length (res o l)) := by
  unfold spec_l10Residue.f
  rw [if_pos (by omega), if_pos (by omega), Int.toNat_natCast]
  refine inv_loop (F := fun k (s : List Int) i => spec_l10Residue.l0 k o l s (l.length : Int) i) (P := fun i s => Part l.length i s (res o l) (fun _ => 0)) (n := l.length) (c := 0) ?_ ?_ k (by omega) _ (Part.zeros _ _)
  · intro k x i hi h1
    have l1 : x.length = l.length := h1.1
    refine ⟨x.set i (res o l i), h1.set hi rfl, ?_⟩
    simp only [spec_l10Residue.l0, rd_nat, guess_eq]
    rw [wrap64_nat (by omega)]
    unfold res
    by_cases h : (i : Int) ≥ o
    · obtain ⟨g, e⟩ := guess_some o l i h0 h4 h (by omega) (by omega)
      rw [e]
      have e2 : (x.set i (l.getD i 0)).getD i 0 = l.getD i 0 := by simp [List.getD, l1, hi]
      simp (disch := omega) only [if_pos, if_neg, decide_eq_true, decide_eq_false, if_true, Bool.false_eq_true, if_false, wrap64_id, u64_id, Option.bind_some, Int.toNat_natCast, List.set_set, e2, Option.getD_some]
    · simp (disch := omega) only [if_pos, if_neg, decide_eq_true, decide_eq_false, if_true, Bool.false_eq_true, if_false, wrap64_id, u64_id, Option.bind_some, Int.toNat_natCast]
  · intro k x h1
    simp only [spec_l10Residue.l0]
    rw [if_neg (by omega), h1.done]
theorem res_impl {o : Int} {l : List Int} (h0 : 0 ≤ o) (h4 : o ≤ 4) (hl : l.length ≤ 4000) (k : Nat) (hk : 5000 < k) : impl_Residue.l0 k o l l o = some (tab l.length (res o l)) := by
  by_cases hs : o ≤ l.length
  · obtain ⟨m, rfl⟩ := Int.eq_ofNat_of_zero_le h0
    refine inv_from (F := fun k (s : List Int) i => impl_Residue.l0 k (m : Int) l s i) (P := fun i s => m ≤ i ∧ Part l.length i s (res m l) (fun j => l.getD j 0)) (n := l.length) (c := 0) ?_ ?_ k m l (by omega) (by omega) ⟨by omega, rfl, fun j hj => ?_, fun _ _ _ => rfl⟩
    · rintro k x i hi ⟨hm, h1⟩
      have l1 : x.length = l.length := h1.1
      refine ⟨x.set i (res m l i), ⟨by omega, h1.set hi rfl⟩, ?_⟩
      simp only [impl_Residue.l0, rd_nat]
      rw [wrap64_nat (by omega)]
      unfold res
      obtain ⟨g, e⟩ := guess_some m l i h0 h4 (by omega) (by omega) (by omega)
      rw [e]
      simp (disch := omega) only [if_pos, if_neg, decide_eq_true, decide_eq_false, if_true, Bool.false_eq_true, if_false, wrap64_id, u64_id, Option.bind_some, Int.toNat_natCast, Option.getD_some]
    · rintro k x ⟨_, h1⟩
      simp only [impl_Residue.l0]
      rw [if_neg (by omega), h1.done]
    · unfold res
      rw [if_neg (by omega)]
  · obtain ⟨k, rfl⟩ : ∃ m, k = m + 1 := ⟨k - 1, by omega⟩
    simp only [impl_Residue.l0]
    rw [if_neg (by omega), tab_congr (g := fun i => l.getD i 0) (fun i hi => by unfold res; rw [if_neg (by omega)]), tab_self]
theorem res_all (o : Int) (l : List Int) (hl : l.length ≤ 1048576) : ∃ x, x.length ≤ 4000 ∧ (∀ k, 1048580 < k → spec_Residue.f k o l = some x) ∧ ∀ k, 1048580 < k → impl_Residue.f k o l = some x := by
  have bad : (o < 0 ∨ o > 4 ∨ (inB (-67108864) 67108863 l && decide ((l.length : Int) ≤ 4000)) = false) → (∀ k, 1048580 < k → spec_Residue.f k o l = some []) ∧ ∀ k, 1048580 < k → impl_Residue.f k o l = some [] := by
    intro h
    refine ⟨fun k hk => ?_, fun k hk => ?_⟩
    · unfold spec_Residue.f
      by_cases h1 : o < 0
      · simp (disch := omega) only [if_pos, if_neg, decide_eq_true, decide_eq_false, if_true, Bool.false_eq_true, if_false, wrap64_id, u64_id, Option.bind_some]
      by_cases h2 : o > 4
      · simp (disch := omega) only [if_pos, if_neg, decide_eq_true, decide_eq_false, if_true, Bool.false_eq_true, if_false, wrap64_id, u64_id, Option.bind_some]
      have h3 : (inB (-67108864) 67108863 l && decide ((l.length : Int) ≤ 4000)) = false := by rcases h with h | h | h <;> first | omega | exact h
      simp (disch := omega) only [if_pos, if_neg, decide_eq_true, decide_eq_false, if_true, Bool.false_eq_true, if_false, wrap64_id, u64_id, Option.bind_some, l10List_eq, h3]
    · obtain ⟨k, rfl⟩ : ∃ m, k = m + 1 := ⟨k - 1, by omega⟩
      unfold impl_Residue.f
      rcases hv : inB (-67108864) 67108863 l && decide ((l.length : Int) ≤ 4000) with _ | _
      · simp (disch := omega) only [if_pos, if_neg, decide_eq_true, decide_eq_false, if_true, Bool.false_eq_true, if_false, wrap64_id, u64_id, Option.bind_some, zlist_eq, hv, impl_Residue.j0]
      rw [hv] at h
      by_cases h1 : o < 0
      · rw [zlist_eq _ _ hl (by omega), hv]
        simp (disch := omega) only [if_pos, if_neg, decide_eq_true, decide_eq_false, if_true, Bool.false_eq_true, if_false, wrap64_id, u64_id, Option.bind_some, impl_Residue.j0]
      have h2 : o > 4 := by rcases h with h | h | h <;> first | omega | cases h
      rw [zlist_eq _ _ hl (by omega), hv]
      simp (disch := omega) only [if_pos, if_neg, decide_eq_true, decide_eq_false, if_true, Bool.false_eq_true, if_false, wrap64_id, u64_id, Option.bind_some, impl_Residue.j0]
  by_cases h1 : o < 0
  · exact ⟨[], by simp, bad (.inl h1)⟩
  by_cases h2 : o > 4
  · exact ⟨[], by simp, bad (.inr (.inl h2))⟩
  rcases hv : inB (-67108864) 67108863 l && decide ((l.length : Int) ≤ 4000) with _ | _
  · exact ⟨[], by simp, bad (.inr (.inr hv))⟩
  obtain ⟨hv1, hv2⟩ := Bool.and_eq_true_iff.1 hv
  have hv2 := of_decide_eq_true hv2
  refine ⟨tab l.length (res o l), by rw [tab_length]; omega, fun k hk => ?_, fun k hk => ?_⟩
  · unfold spec_Residue.f
    simp (disch := omega) only [if_pos, if_neg, decide_eq_true, decide_eq_false, if_true, Bool.false_eq_true, if_false, wrap64_id, u64_id, Option.bind_some, l10List_eq, hv1, Bool.and_true, res_spec]
  · obtain ⟨k, rfl⟩ : ∃ m, k = m + 1 := ⟨k - 1, by omega⟩
    unfold impl_Residue.f
    simp (disch := omega) only [if_pos, if_neg, decide_eq_true, decide_eq_false, if_true, Bool.false_eq_true, if_false, wrap64_id, u64_id, Option.bind_some, zlist_eq, hv1, Bool.and_true, impl_Residue.j0, zcopy_eq, res_impl]
theorem FnExactResidue : laws_FnExactResidue.Pure := by
  intro o l _ _ _ _
  obtain ⟨K, hK⟩ : ∃ K : Nat, 1048600 < K := ⟨_, Nat.lt_succ_self _⟩
  refine ⟨K + 5, ?_⟩
  unfold laws_FnExactResidue.f
  by_cases h1 : (l.length : Int) > 1048576
  · simp (disch := omega) only [if_pos, if_neg, decide_eq_true, decide_eq_false, if_true, Bool.false_eq_true, if_false, wrap64_id, u64_id, Option.bind_some]
  obtain ⟨x, hx, e1, e2⟩ := res_all o l (by omega)
  simp (disch := omega) only [if_pos, if_neg, decide_eq_true, decide_eq_false, if_true, Bool.false_eq_true, if_false, wrap64_id, u64_id, Option.bind_some, toIntS_eq, e1, e2, eqIntS_eq, markIntS_eq, heldIntS_eq, laws_FnExactResidue.j0, Bool.not_true]

end Go.Proofs.Ytflgalojbebfmaa.Pure
