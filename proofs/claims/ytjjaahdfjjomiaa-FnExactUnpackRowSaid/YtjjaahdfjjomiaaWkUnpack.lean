/- Walks of this seat's own: what the two UnpackRow come to. -/
import Derived.Test.YtjjaahdfjjomiaaPFnExactTakeHighx2
import Derived.Test.YtjjaahdfjjomiaaMy
namespace Go.Proofs.Ytjjaahdfjjomiaa.Wk
open Go.RowKit Go.Proofs.YtjjaahdfjjomiaaW.PrintWords Go.Proofs.YtjjaahdfjjomiaaW.PrintLast Go.Proofs.YtjjaahdfjjomiaaW.PrintMore Go.Proofs.Ytjjaahdfjjomiaa.My
open Go.Proofs.Ytjjaahdfjjomiaa.PFnExactTakeHigh
set_option linter.unusedVariables false
set_option linter.unusedSimpArgs false
attribute [local congr] bind_left ite_left
/-- Whether something holds of each of the first n places. -/
def allB (n : Nat) (p : Nat → Bool) : Bool := (List.range n).all p
theorem allB_iff {n : Nat} {p : Nat → Bool} : allB n p = true ↔ ∀ i, i < n → p i = true := by simp [allB]
theorem allB_congr {n : Nat} {p q : Nat → Bool} (h : ∀ i, i < n → p i = q i) : allB n p = allB n q := by
  rw [Bool.eq_iff_iff, allB_iff, allB_iff]
  exact ⟨fun g i hi => by rw [← h i hi]; exact g i hi, fun g i hi => by rw [h i hi]; exact g i hi⟩
theorem allB_false {n : Nat} {p : Nat → Bool} : allB n p = false ↔ ∃ i, i < n ∧ p i = false := by
  rw [← Bool.not_eq_true, allB_iff]
  constructor
  · intro h
    refine Classical.byContradiction fun g => h fun i hi => ?_
    rcases hp : p i with _ | _
    · exact (g ⟨i, hi, hp⟩).elim
    · rfl
  · rintro ⟨i, hi, hp⟩ h
    rw [h i hi] at hp
    cases hp
/-- A loop that looks at each place and stops with 'no' at the first that does not do. -/
theorem scan_all {F : Nat → Int → Option Bool} {p : Nat → Bool} {n c : Nat} (hs : ∀ k (i : Nat), i < n → F (k + c + 1) i = if p i = true then F k ((i + 1 : Nat) : Int) else some false) (he : ∀ k, F (k + 1) n = some true) :
    ∀ k, n * (c + 1) < k → F k 0 = some (allB n p) := by
  have key : ∀ d k (i : Nat), i + d = n → d * (c + 1) < k → (∀ j, j < i → p j = true) → F k i = some (allB n p) := by
    intro d
    induction d with
    | zero =>
      intro k i hi hk hj
      obtain ⟨k, rfl⟩ : ∃ m, k = m + 1 := ⟨k - 1, by omega⟩
      rw [show i = n by omega, he, (allB_iff.2 fun j hjn => hj j (by omega) : allB n p = true)]
    | succ d ih =>
      intro k i hi hk hj
      have e : (d + 1) * (c + 1) = d * (c + 1) + (c + 1) := Nat.succ_mul d (c + 1)
      obtain ⟨k, rfl⟩ : ∃ m, k = m + c + 1 := ⟨k - c - 1, by omega⟩
      rw [hs k i (by omega)]
      rcases hp : p i with _ | _
      · rw [if_neg (by decide), allB_false.2 ⟨i, by omega, hp⟩]
      · rw [if_pos rfl]
        exact ih k (i + 1) (by omega) (by omega) fun j hji => by
          by_cases h : j = i
          · rw [h, hp]
          · exact hj j (by omega)
  intro k hk
  exact key n k 0 (by omega) hk fun j hj => by omega
/-- The list of f's first n values. -/
def tab (n : Nat) (f : Nat → Int) : List Int := (List.range n).map f
theorem tab_length (n : Nat) (f : Nat → Int) : (tab n f).length = n := by simp [tab]
theorem tab_congr {n : Nat} {f g : Nat → Int} (h : ∀ i, i < n → f i = g i) : tab n f = tab n g := by
  unfold tab
  exact List.map_congr_left fun i hi => h i (by simpa using hi)
theorem tab_succ (n : Nat) (f : Nat → Int) : tab (n + 1) f = tab n f ++ [f n] := by simp [tab, List.range_succ]
theorem tab_get {n : Nat} {f : Nat → Int} {i : Nat} (h : i < n) : (tab n f).getD i 0 = f i := by simp [tab, List.getD, h]
theorem mem_tab {n : Nat} {f : Nat → Int} {x : Int} (h : x ∈ tab n f) : ∃ i, i < n ∧ x = f i := by
  simp only [tab, List.mem_map, List.mem_range] at h
  obtain ⟨i, hi, rfl⟩ := h
  exact ⟨i, hi, rfl⟩
theorem tab_self (l : List Int) : tab l.length (fun i => l.getD i 0) = l := by
  refine List.ext_getElem (by simp [tab]) fun i h1 h2 => ?_
  simp [tab, List.getD, h2]
/-- A loop that sets place after place. -/
theorem fill_loop {β : Type} {F : Nat → List Int → Int → Option β} {f : Nat → Int} {g : List Int → β} {n c : Nat} (hs : ∀ k out (i : Nat), out.length = n → i < n → F (k + c + 1) out i = F k (out.set i (f i)) ((i + 1 : Nat) : Int)) (he : ∀ k out, out.length = n → F (k + 1) out n = some (g out)) :
    ∀ k, n * (c + 1) < k → ∀ out, out.length = n → F k out 0 = some (g (tab n f)) := by
  have key : ∀ d k (i : Nat) out, out.length = n → i + d = n → d * (c + 1) < k → out.take i = tab i f → F k out i = some (g (tab n f)) := by
    intro d
    induction d with
    | zero =>
      intro k i out ho hi hk ht
      obtain ⟨k, rfl⟩ : ∃ m, k = m + 1 := ⟨k - 1, by omega⟩
      obtain rfl : i = n := by omega
      rw [he k out ho, ← ht, List.take_of_length_le (by omega)]
    | succ d ih =>
      intro k i out ho hi hk ht
      have e : (d + 1) * (c + 1) = d * (c + 1) + (c + 1) := Nat.succ_mul d (c + 1)
      obtain ⟨k, rfl⟩ : ∃ m, k = m + c + 1 := ⟨k - c - 1, by omega⟩
      rw [hs k out i ho (by omega)]
      exact ih k (i + 1) _ (by simpa using ho) (by omega) (by omega) (by rw [take_set_succ _ _ _ (by omega), ht, tab_succ])
  intro k hk out ho
  exact key n k 0 out ho (by omega) hk (by simp [tab])
/-- A loop that appends. -/
theorem push_loop {β : Type} {F : Nat → List Int → Int → Option β} {f : Nat → Int} {g : List Int → β} {n c : Nat} (hs : ∀ k out (i : Nat), out.length = i → i < n → F (k + c + 1) out i = F k (out ++ [f i]) ((i + 1 : Nat) : Int)) (he : ∀ k out, out.length = n → F (k + 1) out n = some (g out)) :
    ∀ k, n * (c + 1) < k → F k [] 0 = some (g (tab n f)) := by
  have key : ∀ d k (i : Nat), i + d = n → d * (c + 1) < k → F k (tab i f) i = some (g (tab n f)) := by
    intro d
    induction d with
    | zero =>
      intro k i hi hk
      obtain ⟨k, rfl⟩ : ∃ m, k = m + 1 := ⟨k - 1, by omega⟩
      obtain rfl : i = n := by omega
      exact he k _ (tab_length _ _)
    | succ d ih =>
      intro k i hi hk
      have e : (d + 1) * (c + 1) = d * (c + 1) + (c + 1) := Nat.succ_mul d (c + 1)
      obtain ⟨k, rfl⟩ : ∃ m, k = m + c + 1 := ⟨k - c - 1, by omega⟩
      rw [hs k _ i (tab_length _ _) (by omega), ← tab_succ]
      exact ih k (i + 1) (by omega) (by omega)
  intro k hk
  exact key n k 0 (by omega) hk
/-- Whether the number at place i lies between lo and hi. -/
def inR (lo hi : Int) (l : List Int) (i : Nat) : Bool := decide (lo ≤ l.getD i 0) && decide (l.getD i 0 ≤ hi)
/-- Whether all numbers of a list lie between lo and hi. -/
def inB (lo hi : Int) (l : List Int) : Bool := allB l.length (inR lo hi l)
theorem inB_iff {lo hi : Int} {l : List Int} : inB lo hi l = true ↔ ∀ i, i < l.length → lo ≤ l.getD i 0 ∧ l.getD i 0 ≤ hi := by
  unfold inB
  rw [allB_iff]
  simp only [inR, Bool.and_eq_true, decide_eq_true_eq]
/-- A loop that asks of each number whether it lies between lo and hi. -/
theorem range_loop {F : Nat → Int → Option Bool} {lo hi : Int} {l : List Int} {b : Bool} {c : Nat} (hs : ∀ k (i : Nat), i < l.length → F (k + c + 1) i = if l.getD i 0 < lo then some false else if l.getD i 0 > hi then some false else F k ((i + 1 : Nat) : Int)) (he : ∀ k, F (k + 1) l.length = some b) :
    ∀ k, l.length * (c + 1) < k → F k 0 = some (inB lo hi l && b) := by
  have key : ∀ d k (i : Nat), i + d = l.length → d * (c + 1) < k → (∀ j, j < i → inR lo hi l j = true) → F k i = some (inB lo hi l && b) := by
    intro d
    induction d with
    | zero =>
      intro k i hi hk hj
      obtain ⟨k, rfl⟩ : ∃ m, k = m + 1 := ⟨k - 1, by omega⟩
      rw [show i = l.length by omega, he, show inB lo _ l = true from allB_iff.2 fun j hjn => hj j (by omega), Bool.true_and]
    | succ d ih =>
      intro k i hi' hk hj
      have e : (d + 1) * (c + 1) = d * (c + 1) + (c + 1) := Nat.succ_mul d (c + 1)
      obtain ⟨k, rfl⟩ : ∃ m, k = m + c + 1 := ⟨k - c - 1, by omega⟩
      rw [hs k i (by omega)]
      have bad : inR lo hi l i = false → some false = some (inB lo hi l && b) := fun h => by
        rw [show inB lo hi l = false from allB_false.2 ⟨i, by omega, h⟩, Bool.false_and]
      by_cases h1 : l.getD i 0 < lo
      · rw [if_pos h1]
        exact bad (by unfold inR; rw [decide_eq_false (by omega), Bool.false_and])
      by_cases h2 : l.getD i 0 > hi
      · rw [if_neg h1, if_pos h2]
        exact bad (by unfold inR; rw [decide_eq_false (p := l.getD i 0 ≤ hi) (by omega), Bool.and_false])
      rw [if_neg h1, if_neg h2]
      refine ih k (i + 1) (by omega) (by omega) fun j hji => ?_
      by_cases h : j = i
      · subst h
        unfold inR
        rw [decide_eq_true (by omega), decide_eq_true (by omega), Bool.true_and]
      · exact hj j (by omega)
  intro k hk
  exact key l.length k 0 (by omega) hk fun j hj => by omega
/-- A loop over the places 0 to n - 1 that keeps P. -/
theorem inv_after {σ β : Type} {F : Nat → σ → Int → Option β} {P : Nat → σ → Prop} {r : β} {n c : Nat} (m : Nat) (hs : ∀ k s (i : Nat), i < n → P i s → ∃ s', P (i + 1) s' ∧ F (k + c + 1) s i = F k s' ((i + 1 : Nat) : Int)) (he : ∀ k s, m ≤ k → P n s → F (k + 1) s n = some r) :
    ∀ k (i : Nat) s, i ≤ n → n * (c + 1) + m < k → P i s → F k s i = some r := by
  have key : ∀ d k (i : Nat) s, i + d = n → d * (c + 1) + m < k → P i s → F k s i = some r := by
    intro d
    induction d with
    | zero =>
      intro k i s hi hk hP
      obtain ⟨k, rfl⟩ : ∃ m, k = m + 1 := ⟨k - 1, by omega⟩
      obtain rfl : i = n := by omega
      exact he k s (by omega) hP
    | succ d ih =>
      intro k i s hi hk hP
      have e : (d + 1) * (c + 1) = d * (c + 1) + (c + 1) := Nat.succ_mul d (c + 1)
      obtain ⟨k, rfl⟩ : ∃ m, k = m + c + 1 := ⟨k - c - 1, by omega⟩
      obtain ⟨s', hP', e'⟩ := hs k s i (by omega) hP
      rw [e']
      exact ih k (i + 1) s' (by omega) (by omega) hP'
  intro k i s hi hk hP
  obtain ⟨d, hd⟩ : ∃ d, i + d = n := ⟨n - i, by omega⟩
  have hm : d * (c + 1) ≤ n * (c + 1) := Nat.mul_le_mul_right _ (by omega)
  exact key d k i s hd (by omega) hP
theorem inv_from {σ β : Type} {F : Nat → σ → Int → Option β} {P : Nat → σ → Prop} {r : β} {n c : Nat} (hs : ∀ k s (i : Nat), i < n → P i s → ∃ s', P (i + 1) s' ∧ F (k + c + 1) s i = F k s' ((i + 1 : Nat) : Int)) (he : ∀ k s, P n s → F (k + 1) s n = some r) :
    ∀ k (i : Nat) s, i ≤ n → n * (c + 1) < k → P i s → F k s i = some r := fun k i s hi hk hP => inv_after 0 hs (fun k s _ hP => he k s hP) k i s hi (by omega) hP
/-- A loop that stops at the first place where p does not hold. -/
theorem stop_loop {σ β : Type} {F : Nat → σ → Int → Option β} {p : Nat → Bool} {r : β} {n c : Nat} (I : σ → Prop) (hs : ∀ k s (i : Nat), i < n → I s → p i = true → ∃ s', I s' ∧ F (k + c + 1) s i = F k s' ((i + 1 : Nat) : Int)) (hb : ∀ k s (i : Nat), i < n → I s → p i = false → F (k + c + 1) s i = some r) (j : Nat) (hj : j < n) (hp : p j = false) :
    ∀ k, n * (c + 1) < k → ∀ s, I s → F k s 0 = some r := by
  have key : ∀ d k (i : Nat) s, i + d = j → (d + 1) * (c + 1) < k → I s → F k s i = some r := by
    intro d
    induction d with
    | zero =>
      intro k i s hi hk hI
      obtain ⟨k, rfl⟩ : ∃ m, k = m + c + 1 := ⟨k - c - 1, by omega⟩
      obtain rfl : i = j := by omega
      exact hb k s i hj hI hp
    | succ d ih =>
      intro k i s hi hk hI
      have e : (d + 1 + 1) * (c + 1) = (d + 1) * (c + 1) + (c + 1) := Nat.succ_mul (d + 1) (c + 1)
      obtain ⟨k, rfl⟩ : ∃ m, k = m + c + 1 := ⟨k - c - 1, by omega⟩
      rcases hpi : p i with _ | _
      · exact hb k s i (by omega) hI hpi
      · obtain ⟨s', hI', e'⟩ := hs k s i (by omega) hI hpi
        rw [e']
        exact ih k (i + 1) s' (by omega) (by omega) hI'
  intro k hk s hI
  have hm : (j + 1) * (c + 1) ≤ n * (c + 1) := Nat.mul_le_mul_right _ (by omega)
  exact key j k 0 s (by omega) (by omega) hI
theorem inv_loop {σ β : Type} {F : Nat → σ → Int → Option β} {P : Nat → σ → Prop} {r : β} {n c : Nat} (hs : ∀ k s (i : Nat), i < n → P i s → ∃ s', P (i + 1) s' ∧ F (k + c + 1) s i = F k s' ((i + 1 : Nat) : Int)) (he : ∀ k s, P n s → F (k + 1) s n = some r) :
    ∀ k, n * (c + 1) < k → ∀ s, P 0 s → F k s 0 = some r := fun k hk s hP => inv_from hs he k 0 s (by omega) hk hP
/-- A list of n numbers, f's values ahead of place i, g's behind it. -/
def Part (n i : Nat) (x : List Int) (f g : Nat → Int) : Prop := x.length = n ∧ (∀ j, j < i → x.getD j 0 = f j) ∧ ∀ j, i ≤ j → j < n → x.getD j 0 = g j
theorem Part.start {n : Nat} {x : List Int} (f : Nat → Int) (h : x.length = n) : Part n 0 x f (fun j => x.getD j 0) := ⟨h, fun j hj => by omega, fun j _ _ => rfl⟩
theorem Part.zeros (n : Nat) (f : Nat → Int) : Part n 0 (List.replicate n 0) f (fun _ => 0) := ⟨by simp, fun j hj => by omega, fun j _ hj => by simp [List.getD, hj]⟩
theorem Part.set {n i : Nat} {x : List Int} {f g : Nat → Int} {v : Int} (h : Part n i x f g) (hi : i < n) (hv : v = f i) : Part n (i + 1) (x.set i v) f g := by
  obtain ⟨h1, h2, h3⟩ := h
  refine ⟨by simpa using h1, fun j hj => ?_, fun j hj hn => ?_⟩
  · by_cases e : j = i
    · subst e
      simp [List.getD, h1, hi, hv]
    · rw [show (x.set i v).getD j 0 = x.getD j 0 from by simp [List.getD, List.getElem?_set_ne (Ne.symm e)]]
      exact h2 j (by omega)
  · rw [show (x.set i v).getD j 0 = x.getD j 0 from by simp [List.getD, List.getElem?_set_ne (show i ≠ j by omega)]]
    exact h3 j (by omega) hn
theorem Part.skip {n i : Nat} {x : List Int} {f g : Nat → Int} (h : Part n i x f g) (hi : i < n) (hv : g i = f i) : Part n (i + 1) x f g := by
  obtain ⟨h1, h2, h3⟩ := h
  refine ⟨h1, fun j hj => ?_, fun j hj hn => h3 j (by omega) hn⟩
  by_cases e : j = i
  · subst e
    rw [h3 j (by omega) hi, hv]
  · exact h2 j (by omega)
theorem Part.done {n : Nat} {x : List Int} {f g : Nat → Int} (h : Part n n x f g) : x = tab n f := by
  obtain ⟨h1, h2, _⟩ := h
  refine List.ext_getElem (by rw [h1, tab_length]) fun i hi hi' => ?_
  have := h2 i (by omega)
  rw [getD_lt hi] at this
  rw [this]
  simp [tab]
/-- Bit p of a byte string, in low order. -/
def bitL (l : List Int) (p : Int) : Int := shr .u8 (rd l (p / 8)) (p % 8) % 2
/-- Bit p of a byte string, in high order. -/
def bitH (l : List Int) (p : Int) : Int := shr .u8 (rd l (p / 8)) (7 - p % 8) % 2
theorem bitL_range (l : List Int) (p : Int) : 0 ≤ bitL l p ∧ bitL l p < 2 := by unfold bitL; omega
theorem bitH_range (l : List Int) (p : Int) : 0 ≤ bitH l p ∧ bitH l p < 2 := by unfold bitH; omega
theorem l1Bit_low {l : List Int} (hb : ∀ x ∈ l, (Lit.int .u8 x).wf = true) (hl : l.length ≤ 1048576) {p : Int} (h0 : 0 ≤ p) (h1 : p < 8 * l.length) : spec_l1Bit.f l p false = some (bitL l p) := by
  have hr := rd_byte hb (p / 8)
  have hs := shr_le .u8 (y := p % 8) hr.1
  unfold spec_l1Bit.f
  rw [if_neg (by decide), Int.tdiv_eq_ediv_of_nonneg h0, Int.tmod_eq_emod_of_nonneg h0, wrap64_id (n := p / 8) (by omega) (by omega), u64_id (n := p % 8) (by omega) (by omega), if_pos (by omega), if_pos (by omega), if_pos (by omega), u64_id (by omega) (by omega), and_u64_one]
  rfl
theorem l1Bit_high {l : List Int} (hb : ∀ x ∈ l, (Lit.int .u8 x).wf = true) (hl : l.length ≤ 1048576) {p : Int} (h0 : 0 ≤ p) (h1 : p < 8 * l.length) : spec_l1Bit.f l p true = some (bitH l p) := by
  have hr := rd_byte hb (p / 8)
  have hs := shr_le .u8 (y := 7 - p % 8) hr.1
  unfold spec_l1Bit.f
  rw [if_pos rfl, Int.tdiv_eq_ediv_of_nonneg h0, Int.tmod_eq_emod_of_nonneg h0, wrap64_id (n := p / 8) (by omega) (by omega), wrap64_id (n := 7 - p % 8) (by omega) (by omega), u64_id (n := 7 - p % 8) (by omega) (by omega), if_pos (by omega), if_pos (by omega), if_pos (by omega), u64_id (by omega) (by omega), and_u64_one]
  rfl
theorem high_l0 {l : List Int} (hb : ∀ x ∈ l, (Lit.int .u8 x).wf = true) (hl : l.length ≤ 1048576) (a n : Int) (ha : 0 ≤ a) (hn : n ≤ 64) (ht : a + n ≤ 8 * l.length) (d : Nat) : ∀ (k : Nat) (v i : Int), 0 ≤ i → i + d = n → d < k →
    ∃ r, spec_l1Take.l0 k l a n true v i = some (true, r, a + n) ∧ impl_TakeHigh.l0 k l a n i true v (a + n) = some (true, r, a + n) := by
  induction d with
  | zero =>
    intro k v i hi0 hi hk
    obtain ⟨k, rfl⟩ : ∃ m, k = m + 1 := ⟨k - 1, by omega⟩
    simp only [spec_l1Take.l0, impl_TakeHigh.l0]
    rw [if_neg (by omega), if_neg (by omega), wrap64_id (by omega) (by omega)]
    exact ⟨_, rfl, rfl⟩
  | succ d ih =>
    intro k v i hi0 hi hk
    obtain ⟨k, rfl⟩ : ∃ m, k = m + 1 := ⟨k - 1, by omega⟩
    have hr := rd_byte hb ((a + i) / 8)
    have hs := shr_le .u8 (y := 7 - (a + i) % 8) hr.1
    have hbit := bitH_range l (a + i)
    simp only [spec_l1Take.l0, impl_TakeHigh.l0]
    rw [wrap64_id (n := a + i) (by omega) (by omega), l1Bit_high hb hl (by omega) (by omega), Int.tdiv_eq_ediv_of_nonneg (by omega), Int.tmod_eq_emod_of_nonneg (by omega), wrap64_id (n := (a + i) / 8) (by omega) (by omega), wrap64_id (n := 7 - (a + i) % 8) (by omega) (by omega), and_u8_one hs.1 (by omega)]
    have e : Go.bits .or .u64 (IntKind.u64.wrap (v * 2)) (shr .u8 (rd l ((a + i) / 8)) (7 - (a + i) % 8) % 2) = IntKind.u64.wrap (IntKind.u64.wrap (v * 2) + bitH l (a + i)) := by
      rw [u64_wrap (v * 2), or_u64_add (by omega) (by omega) (by omega) (by omega) (by omega), u64_id (n := v * 2 % 18446744073709551616 + bitH l (a + i)) (by omega) (by omega)]
      rfl
    simp (disch := omega) only [if_pos, if_neg, decide_eq_true, decide_eq_false, if_true, Bool.false_eq_true, if_false, wrap64_id, u64_id, Option.bind_some, e]
    exact ih k _ (i + 1) (by omega) (by omega) (by omega)
/-- The number of n bits at bit a, the highest first. -/
def valH (l : List Int) (a n : Int) : Int := ((spec_l1Take.f 1000 l a n true).getD (false, 0, 0)).2.1
theorem valH_eq {l : List Int} (hb : ∀ x ∈ l, (Lit.int .u8 x).wf = true) (hl : l.length ≤ 1048576) (a n : Int) (ha : 0 ≤ a) (hn0 : 0 ≤ n) (hn : n ≤ 64) (ht : a + n ≤ 8 * l.length) :
    spec_l1Take.f 1000 l a n true = some (true, valH l a n, a + n) ∧ impl_TakeHigh.f 1000 l a n = some (true, valH l a n, a + n) := by
  obtain ⟨r, e1, _⟩ := high_l0 hb hl a n ha hn ht n.toNat 999 0 0 (by omega) (by omega) (by omega)
  obtain ⟨r', e1', e2⟩ := high_l0 hb hl a n ha hn ht n.toNat 1000 0 0 (by omega) (by omega) (by omega)
  have e := (spec_l1Take.mono_l 999).2 l a n true 0 0 _ e1
  rw [e1'] at e
  cases e
  have h1 : spec_l1Take.f 1000 l a n true = some (true, r, a + n) := by
    unfold spec_l1Take.f
    simp only [spec_l1Take.j0]
    simp (disch := omega) only [if_pos, if_neg, decide_eq_true, decide_eq_false, if_true, Bool.false_eq_true, if_false, wrap64_id, u64_id, Option.bind_some, e1]
  have h2 : impl_TakeHigh.f 1000 l a n = some (true, r, a + n) := by
    unfold impl_TakeHigh.f impl_hasBits.f
    simp (disch := omega) only [if_pos, if_neg, decide_eq_true, decide_eq_false, if_true, Bool.false_eq_true, if_false, wrap64_id, u64_id, Option.bind_some, e2]
  unfold valH
  rw [h1]
  exact ⟨rfl, h2⟩
/-- Whether a depth is one of the five. -/
def depthB (d : Int) : Bool := decide (d = 1) || decide (d = 2) || decide (d = 4) || decide (d = 8) || decide (d = 16)
theorem depthB_iff {d : Int} : depthB d = true ↔ d = 1 ∨ d = 2 ∨ d = 4 ∨ d = 8 ∨ d = 16 := by simp only [depthB, Bool.or_eq_true, decide_eq_true_eq, or_assoc]
theorem R_span {α : Type} {d : Kd α} {e : Nat} {w1 : World} {base : Nat} {ok : Nat → Prop} {v : Value} {xs : List α} (h : d.R e w1 base ok v xs) : d.R e w1 base (fun k => base ≤ k ∧ k < w1.heap.size) v xs :=
  Kd.R_mono (Kd.R_bound h) (fun k hk => ⟨hk.2.1, hk.2.2.1⟩)
theorem R_cells {α : Type} {d : Kd α} {e : Nat} {w1 : World} {base : Nat} {ok : Nat → Prop} {A : Option Addr} {n c : Nat} {xs : List α} (h : d.R e w1 base ok (.slice A n c) xs) : n = xs.length ∧ n ≤ c ∧ d.C w1 A xs.length xs := Kd.R_reads' h
theorem size_le {B : Nat} {w w1 : World} (h : Below B w w1) : w.heap.size ≤ w1.heap.size := h.size
/-- A cell of old memory. -/
theorem cell_stay {w w1 : World} (hb : Below w.heap.size w w1) {a : Addr} {v : Value} (h : w.cell? a = some v) : w1.cell? a = some v := pw_cell_below hb h
theorem R_slice_n {α : Type} {d : Kd α} {e : Nat} {w : World} {base n : Nat} {ok : Nat → Prop} {v : Value} {xs : List α} (h : d.R e w base ok v xs) (hl : xs.length = n) : ∃ A c, v = .slice A n c := by
  obtain ⟨A, c, e⟩ := Kd.R_slice h
  exact ⟨A, c, by rw [e, hl]⟩
theorem info3 : (Try.prog.info? 3).map (fun i => (i.zero, i.size, i.bytes)) = some (some (.int .i64 0), 1, 8) := by kernel_rfl
theorem field1 (b : Bool) (x y : Int) (w : World) : Sem.run Try.prog (Instr.field 38 (.agg #[.bool b, .int .u64 x, .int .i64 y]) 1) w = .ok (.int .u64 x) w := by kernel_rfl
set_option maxHeartbeats 2000000 in
/-- The reference's l4Unpack. -/
theorem l4Unpack_calls (A : Option Addr) (c : Nat) (l : List Int) (m : Nat) (d : Int) (hm : m ≤ 4096) (d0 : 1 ≤ d) (d1 : d ≤ 64) (hmd : (m : Int) * d ≤ 8 * (l.length : Int)) (hl : l.length ≤ 1048576) (hby : ∀ x ∈ l, (Lit.int .u8 x).wf = true) (w : World) (hc : l.length ≤ c) (hr : Kd.C (Kd.int .u8) w A l.length l) :
    Calls Try.prog 50 #[.slice A l.length c, .int .i64 m, .int .i64 d] w fun e w' => ∃ v : Value, e = .returned v ∧ Kd.R (Kd.int .i64) 3 w' w.heap.size (fun _ => True) v (tab m fun i : Nat => wrap64 (valH l ((i : Int) * d) d)) ∧ Below w.heap.size w w' := by
  have HR := Aside0.mk hr
  have HBY := Aside0.mk hby
  have HMD := Aside0.mk hmd
  clear hr hby hmd
  obtain ⟨f, hf⟩ : ∃ f : Nat → Int, f = fun i : Nat => wrap64 (valH l ((i : Int) * d) d) := ⟨_, rfl⟩
  rw [← hf]
  have HF := Aside0.mk hf
  clear hf
  have hfl := field1
  go_enter Try.func50, Try.ntmps50
  go_wp2_with ((with_reducible refine gate_dst (N := 10) rfl ?_); (refine Kd.R_make (Kd.int .i64) (w0 := w) w.heap.size 3 rfl (N := 10) rfl 45 _ _ rfl (m : Int) rfl rfl Try.underlying45 (.int .i64 0) 8 info3 rfl (by decide) (by omega) 0 (ok := fun _ => True) (okp := fun _ => True) rfl (fun _ hk => hk) trivial (by omega) (by omega) (Below.refl _ _) (Nat.le_refl _) ?_); intro v1 w1 ho hb hg hn; rw [Int.toNat_natCast] at ho; obtain ⟨A1, c1, rfl⟩ := R_slice_n (n := m) ho (by simp); have HO := Aside0.mk ho; have HB := Aside0.mk hb; clear ho hb hg hn)
  go_loopg [13] m (fun q v13 w' => ∃ (i : Nat) (x : List Int), v13 = .int .i64 (i : Int) ∧ Aside0 (i + q = m) ∧ Aside0 (Part m i x f (fun _ => 0)) ∧ Aside0 (Kd.R (Kd.int .i64) 3 w' w.heap.size (fun _ => True) (.slice A1 m c1) x) ∧ Aside0 (Below w.heap.size w w'))
  case atStart => exact ⟨0, _, rfl, ⟨by omega⟩, ⟨Part.zeros _ _⟩, HO, HB⟩
  case round =>
    clear HO HB
    obtain ⟨i, x, rfl, Q, PT, HO, HB⟩ := hrel
    by_cases c0 : i < m
    · obtain ⟨q, rfl⟩ : ∃ q, gk = q + 1 := ⟨gk - 1, by have := Q.out; omega⟩
      have ix : (i : Int) * d + d ≤ 8 * (l.length : Int) := by
        have h1 : ((i + 1 : Nat) : Int) * d ≤ (m : Int) * d := Int.mul_le_mul_of_nonneg_right (by omega) (by omega)
        have h2 := HMD.out
        rw [show ((i + 1 : Nat) : Int) * d = (i : Int) * d + d by rw [Int.natCast_add, Int.add_mul]; simp] at h1
        omega
      have ix0 : 0 ≤ (i : Int) * d := Int.mul_nonneg (by omega) (by omega)
      have E := Aside0.mk (valH_eq HBY.out hl ((i : Int) * d) d ix0 (by omega) d1 ix).1
      go_wp2_with fail
      refine (spec_l1Take.calls 1000 A c l _ _ true _ _ _ _ (Kd.C_below HR.out HB.out) hc E.out).mono ?_
      rintro e w2 ⟨rfl, hb⟩
      have HO2 := Aside0.mk (Kd.R_below HO.out hb)
      have HB2 := Aside0.mk (below_step HB.out hb)
      clear hb HO HB
      have xl : x.length = m := PT.out.1
      obtain ⟨g, cap, e1, gb, gl, cl, hg⟩ := Kd.R_form HO2.out (by omega)
      rw [xl] at e1
      cases e1
      obtain ⟨hx, hfz⟩ := Kd.R_celln 0 HO2.out (i : Int) (by omega) (by omega)
      rw [Int.toNat_natCast] at hx hfz
      have GB := Aside0.mk gb
      have HP := Aside0.mk (Kd.R_putn HO2.out (i : Int) (wrap64 (valH l ((i : Int) * d) d)))
      have PT2 := Aside0.mk (PT.out.set c0 (v := wrap64 (valH l ((i : Int) * d) d)) (by rw [HF.out]))
      clear gb gl hg
      go_wp2
      go_roundg q
      case measure => omega
      case rel => exact ⟨i + 1, _, by go_num, ⟨by have := Q.out; omega⟩, PT2, HP, ⟨below_set HB2.out GB.out⟩⟩
    · have e : m = i := by have := Q.out; omega
      have E := Aside0.mk e
      clear e
      have E2 : Aside0 (x = tab m f) := ⟨by have h := PT.out; rw [← E.out] at h; exact h.done⟩
      go_wp2
      go_ret
      rw [E2.out] at HO
      exact ⟨_, rfl, HO.out, HB.out⟩
theorem beqs (d k : Int) : (d == k) = decide (d = k) := by
  by_cases h : d = k
  · rw [decide_eq_true h, beq_iff_eq.2 h]
  · rw [decide_eq_false h, beq_eq_false_iff_ne.2 h]
set_option maxHeartbeats 2000000 in
theorem depth_calls (f : Nat) (hf : f = 49 ∨ f = 51) (d : Int) (w : World) : Calls Try.prog f #[.int .i64 d] w fun e w' => e = .returned (.bool (depthB d)) ∧ Drawn0 w w' := by
  have key : ∀ b1 b2 b3 b4 b5 : Bool, (d == 1) = b1 → (d == 2) = b2 → (d == 4) = b3 → (d == 8) = b4 → (d == 16) = b5 → Calls Try.prog f #[.int .i64 d] w fun e w' => e = .returned (.bool (b1 || b2 || b3 || b4 || b5)) ∧ Drawn0 w w' := by
    intro b1 b2 b3 b4 b5 h1 h2 h3 h4 h5
    rcases hf with rfl | rfl
    · go_enter Try.func49, Try.ntmps49
      rcases b1 with _ | _ <;> rcases b2 with _ | _ <;> rcases b3 with _ | _ <;> rcases b4 with _ | _ <;> rcases b5 with _ | _
      all_goals
        go_wp2
        go_ret
        exact ⟨rfl, by repeat (first | exact Drawn0.refl _ | apply Drawn0.step)⟩
    · go_enter Try.func51, Try.ntmps51
      rcases b1 with _ | _ <;> rcases b2 with _ | _ <;> rcases b3 with _ | _ <;> rcases b4 with _ | _ <;> rcases b5 with _ | _
      all_goals
        go_wp2
        go_ret
        exact ⟨rfl, by repeat (first | exact Drawn0.refl _ | apply Drawn0.step)⟩
  have := key _ _ _ _ _ rfl rfl rfl rfl rfl
  unfold depthB
  simpa only [beqs] using this
/-- What both tell. -/
def unpack (l : List Int) (m d : Int) : List Int :=
  if depthB d = true ∧ 0 ≤ m ∧ m ≤ 4096 ∧ m * d ≤ 8 * (l.length : Int) then tab m.toNat (fun i : Nat => wrap64 (valH l ((i : Int) * d) d)) else []
theorem unpack_length (l : List Int) (m d : Int) : (unpack l m d).length ≤ 4096 := by
  unfold unpack
  split
  · rw [tab_length]; omega
  · simp
set_option maxHeartbeats 2000000 in
theorem unpack_spec (A : Option Addr) (c : Nat) (l : List Int) (m d : Int) (hl : l.length ≤ 1048576) (hby : ∀ x ∈ l, (Lit.int .u8 x).wf = true) (w : World) (hc : l.length ≤ c) (hr : Kd.C (Kd.int .u8) w A l.length l) :
    Calls Try.prog 39 #[.slice A l.length c, .int .i64 m, .int .i64 d] w fun e w' => ∃ v : Value, e = .returned v ∧ Kd.R (Kd.int .i64) 3 w' w.heap.size (fun _ => True) v (unpack l m d) ∧ Below w.heap.size w w' := by
  have HR := Aside0.mk hr
  have HBY := Aside0.mk hby
  clear hr hby
  obtain ⟨r, hr⟩ : ∃ r, r = unpack l m d := ⟨_, rfl⟩
  rw [← hr]
  have HU := Aside0.mk hr
  clear hr
  rcases hd : depthB d with _ | _
  · have E : Aside0 (r = []) := ⟨by rw [HU.out]; unfold unpack; rw [if_neg (by rw [hd]; simp)]⟩
    have HD := Aside0.mk hd
    clear hd
    go_enter Try.func39, Try.ntmps39
    go_wp2_with fail
    refine (depth_calls 49 (.inl rfl) d _).mono ?_
    rw [HD.out]
    rintro e w1 ⟨rfl, ⟨nd, rfl⟩⟩
    go_wp2
    go_ret
    rw [E.out]
    exact ⟨_, rfl, Kd.R_nil _ _ _ _ _, pw_below_drewN (Below.refl _ _) _⟩
  have HD := Aside0.mk hd
  have d0 : 1 ≤ d := by rcases depthB_iff.1 hd with h | h | h | h | h <;> omega
  have d1 : d ≤ 16 := by rcases depthB_iff.1 hd with h | h | h | h | h <;> omega
  clear hd
  by_cases c1 : m < 0
  · have E : Aside0 (r = []) := ⟨by rw [HU.out]; unfold unpack; rw [if_neg (by omega)]⟩
    go_enter Try.func39, Try.ntmps39
    go_wp2_with fail
    refine (depth_calls 49 (.inl rfl) d _).mono ?_
    rw [HD.out]
    rintro e w1 ⟨rfl, ⟨nd, rfl⟩⟩
    go_wp2
    go_ret
    rw [E.out]
    exact ⟨_, rfl, Kd.R_nil _ _ _ _ _, pw_below_drewN (Below.refl _ _) _⟩
  by_cases c2 : 4096 < m
  · have E : Aside0 (r = []) := ⟨by rw [HU.out]; unfold unpack; rw [if_neg (by omega)]⟩
    go_enter Try.func39, Try.ntmps39
    go_wp2_with fail
    refine (depth_calls 49 (.inl rfl) d _).mono ?_
    rw [HD.out]
    rintro e w1 ⟨rfl, ⟨nd, rfl⟩⟩
    go_wp2
    go_ret
    rw [E.out]
    exact ⟨_, rfl, Kd.R_nil _ _ _ _ _, pw_below_drewN (Below.refl _ _) _⟩
  have e0 : 0 ≤ m * d := Int.mul_nonneg (by omega) (by omega)
  have e1 : m * d ≤ 65536 := by
    have h1 : m * d ≤ 4096 * d := Int.mul_le_mul_of_nonneg_right (by omega) (by omega)
    omega
  by_cases c3 : 8 * (l.length : Int) < m * d
  · have E : Aside0 (r = []) := ⟨by rw [HU.out]; unfold unpack; rw [if_neg (by omega)]⟩
    go_enter Try.func39, Try.ntmps39
    go_wp2_with fail
    refine (depth_calls 49 (.inl rfl) d _).mono ?_
    rw [HD.out]
    rintro e w1 ⟨rfl, ⟨nd, rfl⟩⟩
    go_wp2
    go_ret
    rw [E.out]
    exact ⟨_, rfl, Kd.R_nil _ _ _ _ _, pw_below_drewN (Below.refl _ _) _⟩
  obtain ⟨n, rfl⟩ := Int.eq_ofNat_of_zero_le (show 0 ≤ m by omega)
  have E : Aside0 (r = tab n (fun i : Nat => wrap64 (valH l ((i : Int) * d) d))) := ⟨by rw [HU.out]; unfold unpack; rw [if_pos ⟨HD.out, by omega, by omega, by omega⟩, Int.toNat_natCast]⟩
  have C3 := Aside0.mk (show (n : Int) * d ≤ 8 * (l.length : Int) by omega)
  go_enter Try.func39, Try.ntmps39
  go_wp2_with fail
  refine (depth_calls 49 (.inl rfl) d _).mono ?_
  rw [HD.out]
  rintro e w1 ⟨rfl, ⟨nd, rfl⟩⟩
  go_wp2_with fail
  refine (l4Unpack_calls A c l n d (by omega) d0 (by omega) C3.out hl HBY.out _ hc (Kd.C_drewN HR.out _)).mono ?_
  rintro e w2 ⟨v, rfl, ho, hb⟩
  rw [← E.out] at ho
  have HO := Aside0.mk ho
  have HB := Aside0.mk hb
  clear ho hb
  go_wp2
  go_ret
  exact ⟨_, rfl, HO.out, below_step (pw_below_drewN (Below.refl _ _) nd) HB.out⟩
set_option maxHeartbeats 2000000 in
theorem unpack_impl (A : Option Addr) (c : Nat) (l : List Int) (m d : Int) (hl : l.length ≤ 1048576) (hby : ∀ x ∈ l, (Lit.int .u8 x).wf = true) (w : World) (hc : l.length ≤ c) (hr : Kd.C (Kd.int .u8) w A l.length l) :
    Calls Try.prog 40 #[.slice A l.length c, .int .i64 m, .int .i64 d] w fun e w' => ∃ v : Value, e = .returned v ∧ Kd.R (Kd.int .i64) 3 w' w.heap.size (fun _ => True) v (unpack l m d) ∧ Below w.heap.size w w' := by
  have HR := Aside0.mk hr
  have HBY := Aside0.mk hby
  clear hr hby
  obtain ⟨r, hr⟩ : ∃ r, r = unpack l m d := ⟨_, rfl⟩
  rw [← hr]
  have HU := Aside0.mk hr
  clear hr
  rcases hd : depthB d with _ | _
  · have E : Aside0 (r = []) := ⟨by rw [HU.out]; unfold unpack; rw [if_neg (by rw [hd]; simp)]⟩
    have HD := Aside0.mk hd
    clear hd
    go_enter Try.func40, Try.ntmps40
    go_wp2_with fail
    refine (depth_calls 51 (.inr rfl) d _).mono ?_
    rw [HD.out]
    rintro e w1 ⟨rfl, ⟨nd, rfl⟩⟩
    go_wp2
    go_ret
    rw [E.out]
    exact ⟨_, rfl, Kd.R_nil _ _ _ _ _, pw_below_drewN (Below.refl _ _) _⟩
  have HD := Aside0.mk hd
  have d0 : 1 ≤ d := by rcases depthB_iff.1 hd with h | h | h | h | h <;> omega
  have d1 : d ≤ 16 := by rcases depthB_iff.1 hd with h | h | h | h | h <;> omega
  clear hd
  by_cases c1 : m < 0
  · have E : Aside0 (r = []) := ⟨by rw [HU.out]; unfold unpack; rw [if_neg (by omega)]⟩
    go_enter Try.func40, Try.ntmps40
    go_wp2_with fail
    refine (depth_calls 51 (.inr rfl) d _).mono ?_
    rw [HD.out]
    rintro e w1 ⟨rfl, ⟨nd, rfl⟩⟩
    go_wp2
    go_ret
    rw [E.out]
    exact ⟨_, rfl, Kd.R_nil _ _ _ _ _, pw_below_drewN (Below.refl _ _) _⟩
  by_cases c2 : 4096 < m
  · have E : Aside0 (r = []) := ⟨by rw [HU.out]; unfold unpack; rw [if_neg (by omega)]⟩
    go_enter Try.func40, Try.ntmps40
    go_wp2_with fail
    refine (depth_calls 51 (.inr rfl) d _).mono ?_
    rw [HD.out]
    rintro e w1 ⟨rfl, ⟨nd, rfl⟩⟩
    go_wp2
    go_ret
    rw [E.out]
    exact ⟨_, rfl, Kd.R_nil _ _ _ _ _, pw_below_drewN (Below.refl _ _) _⟩
  have e0 : 0 ≤ m * d := Int.mul_nonneg (by omega) (by omega)
  have e1 : m * d ≤ 65536 := by
    have h1 : m * d ≤ 4096 * d := Int.mul_le_mul_of_nonneg_right (by omega) (by omega)
    omega
  by_cases c3 : 8 * (l.length : Int) < m * d
  · have E : Aside0 (r = []) := ⟨by rw [HU.out]; unfold unpack; rw [if_neg (by omega)]⟩
    go_enter Try.func40, Try.ntmps40
    go_wp2_with fail
    refine (depth_calls 51 (.inr rfl) d _).mono ?_
    rw [HD.out]
    rintro e w1 ⟨rfl, ⟨nd, rfl⟩⟩
    go_wp2
    go_ret
    rw [E.out]
    exact ⟨_, rfl, Kd.R_nil _ _ _ _ _, pw_below_drewN (Below.refl _ _) _⟩
  obtain ⟨n, rfl⟩ := Int.eq_ofNat_of_zero_le (show 0 ≤ m by omega)
  have E : Aside0 (r = tab n (fun i : Nat => wrap64 (valH l ((i : Int) * d) d))) := ⟨by rw [HU.out]; unfold unpack; rw [if_pos ⟨HD.out, by omega, by omega, by omega⟩, Int.toNat_natCast]⟩
  have C3 := Aside0.mk (show (n : Int) * d ≤ 8 * (l.length : Int) by omega)
  go_enter Try.func40, Try.ntmps40
  go_wp2_with fail
  refine (depth_calls 51 (.inr rfl) d _).mono ?_
  rw [HD.out]
  rintro e w1 ⟨rfl, ⟨nd, rfl⟩⟩
  go_wp2
  obtain ⟨f, hf⟩ : ∃ f : Nat → Int, f = fun i : Nat => wrap64 (valH l ((i : Int) * d) d) := ⟨_, rfl⟩
  rw [← hf] at E
  have HF := Aside0.mk hf
  clear hf
  have n1 : n ≤ 4096 := by omega
  have hfl := field1
  go_loopg [7, 30] n (fun q v7 v30 w' => ∃ (i : Nat), v30 = .int .i64 (i : Int) ∧ Aside0 (i + q = n) ∧ Aside0 (Kd.R (Kd.int .i64) 3 w' w.heap.size (fun _ => True) v7 (tab i f)) ∧ Aside0 (Below w.heap.size w w'))
  case atStart => exact ⟨0, rfl, ⟨by omega⟩, ⟨Kd.R_nil _ _ _ _ _⟩, ⟨by repeat (first | exact Below.refl _ _ | apply pw_below_drewN | apply below_drew)⟩⟩
  case round =>
    obtain ⟨i, rfl, Q, HO, HB⟩ := hrel
    by_cases c0 : i < n
    · obtain ⟨q, rfl⟩ : ∃ q, gk = q + 1 := ⟨gk - 1, by have := Q.out; omega⟩
      have ix : (i : Int) * d + d ≤ 8 * (l.length : Int) := by
        have h1 : ((i + 1 : Nat) : Int) * d ≤ (n : Int) * d := Int.mul_le_mul_of_nonneg_right (by omega) (by omega)
        have h2 := C3.out
        rw [show ((i + 1 : Nat) : Int) * d = (i : Int) * d + d by rw [Int.natCast_add, Int.add_mul]; simp] at h1
        omega
      have ix0 : 0 ≤ (i : Int) * d := Int.mul_nonneg (by omega) (by omega)
      have EV := Aside0.mk (valH_eq HBY.out hl ((i : Int) * d) d ix0 (by omega) (by omega) ix).2
      go_wp2_with fail
      refine (impl_TakeHigh.calls 1000 A c l _ _ true _ _ _ (Kd.C_below HR.out HB.out) hc EV.out).mono ?_
      rintro e w2 ⟨rfl, hb⟩
      have HO2 := Aside0.mk (Kd.R_below HO.out hb)
      have HB2 := Aside0.mk (below_step HB.out hb)
      clear hb HO HB
      have HO := HO2
      have HB := HB2
      have TL : (tab i f).length = i := tab_length i f
      have FE := Aside0.mk (show f i = wrap64 (valH l ((i : Int) * d) d) by rw [HF.out])
      clear HO2 HB2
      go_wp2_with (at_builtin; refine Kd.R_append (Kd.int .i64) (w0 := w) w.heap.size rfl (.tmp 33) (.tmp 42) 45 3 (.int .i64 0) 8 rfl Try.underlying45 info3 rfl (by decide) (by omega) u7 (tab i f) (wrap64 (valH l ((i : Int) * d) d)) [.int .i64 (wrap64 (valH l ((i : Int) * d) d))] (fun _ => True) (fun _ => False) rfl rfl ?aP (fun _ hk => hk.elim) ?aF ?aO ?aB ?aS ?aL ?_; (case aP => exact rfl); (case aB => exact HB.out); (case aF => exact fun _ _ => trivial); (case aO => exact HO.out); (case aS => exact below_size (HB.out)); (case aL => rw [TL]; omega); intro v1 w1 ho hb hg hat; have HO2 := Aside0.mk ho; have HB2 := Aside0.mk hb; clear ho hb hg hat HO HB)
      go_roundg q
      case measure => omega
      case rel => exact ⟨i + 1, by go_num, ⟨by have := Q.out; omega⟩, ⟨by have h := HO2.out; rw [← FE.out, ← tab_succ] at h; exact h⟩, HB2⟩
    · have e : i = n := by have := Q.out; omega
      have E2 := Aside0.mk e
      clear e
      go_wp2
      go_ret
      rw [E2.out, ← E.out] at HO
      exact ⟨_, rfl, HO.out, HB.out⟩
end Go.Proofs.Ytjjaahdfjjomiaa.Wk
