/- Walks of this seat's own: what toIntS, eqIntS, markIntS, heldIntS come to. -/
import Derived.Test.YtdijjadoneeadaaDoorPFnExactPowersx0
import Derived.Test.YtdijjadoneeadaaDoorMy
import Derived.Outline
import Derived.BigQuiet
namespace Go.Proofs.YtdijjadoneeadaaDoor.Wk
open Go.RowKit Go.Proofs.YtdijjadoneeadaaDoorW.PrintWords Go.Proofs.YtdijjadoneeadaaDoorW.PrintLast Go.Proofs.YtdijjadoneeadaaDoorW.PrintMore Go.Proofs.YtdijjadoneeadaaDoor.My
set_option linter.unusedVariables false
set_option linter.unusedSimpArgs false
attribute [local congr] bind_left ite_left
/-- Whether something holds of each of the first n places. -/
def allB (n : Nat) (p : Nat → Bool) : Bool := (List.range n).all p
theorem allB_iff {n : Nat} {p : Nat → Bool} : allB n p = true ↔ ∀ i, i < n → p i = true := by simp [allB]
theorem allB_congr {n : Nat} {p q : Nat → Bool} (h : ∀ i, i < n → p i = q i) : allB n p = allB n q := by
  rw [Bool.eq_iff_iff, allB_iff, allB_iff]
  exact ⟨fun g i hi => by rw [← h i hi]; exact g i hi, fun g i hi => by rw [h i hi]; exact g i hi⟩
theorem allB_false {n : Nat} {p : Nat → Bool} : allB n p = false ↔ ∃ i, i < n ∧ p i = false := by
  rw [← Bool.not_eq_true, allB_iff]
  constructor
  · intro h
    refine Classical.byContradiction fun g => h fun i hi => ?_
    rcases hp : p i with _ | _
    · exact (g ⟨i, hi, hp⟩).elim
    · rfl
  · rintro ⟨i, hi, hp⟩ h
    rw [h i hi] at hp
    cases hp
/-- A loop that looks at each place and stops with 'no' at the first that does not do. -/
theorem scan_all {F : Nat → Int → Option Bool} {p : Nat → Bool} {n c : Nat} (hs : ∀ k (i : Nat), i < n → F (k + c + 1) i = if p i = true then F k ((i + 1 : Nat) : Int) else some false) (he : ∀ k, F (k + 1) n = some true) :
    ∀ k, n * (c + 1) < k → F k 0 = some (allB n p) := by
  have key : ∀ d k (i : Nat), i + d = n → d * (c + 1) < k → (∀ j, j < i → p j = true) → F k i = some (allB n p) := by
    intro d
    induction d with
    | zero =>
      intro k i hi hk hj
      obtain ⟨k, rfl⟩ : ∃ m, k = m + 1 := ⟨k - 1, by omega⟩
      rw [show i = n by omega, he, (allB_iff.2 fun j hjn => hj j (by omega) : allB n p = true)]
    | succ d ih =>
      intro k i hi hk hj
      have e : (d + 1) * (c + 1) = d * (c + 1) + (c + 1) := Nat.succ_mul d (c + 1)
      obtain ⟨k, rfl⟩ : ∃ m, k = m + c + 1 := ⟨k - c - 1, by omega⟩
      rw [hs k i (by omega)]
      rcases hp : p i with _ | _
      · rw [if_neg (by decide), allB_false.2 ⟨i, by omega, hp⟩]
      · rw [if_pos rfl]
        exact ih k (i + 1) (by omega) (by omega) fun j hji => by
          by_cases h : j = i
          · rw [h, hp]
          · exact hj j (by omega)
  intro k hk
  exact key n k 0 (by omega) hk fun j hj => by omega
/-- The list of f's first n values. -/
def tab (n : Nat) (f : Nat → Int) : List Int := (List.range n).map f
theorem tab_length (n : Nat) (f : Nat → Int) : (tab n f).length = n := by simp [tab]
theorem tab_congr {n : Nat} {f g : Nat → Int} (h : ∀ i, i < n → f i = g i) : tab n f = tab n g := by
  unfold tab
  exact List.map_congr_left fun i hi => h i (by simpa using hi)
theorem tab_succ (n : Nat) (f : Nat → Int) : tab (n + 1) f = tab n f ++ [f n] := by simp [tab, List.range_succ]
theorem tab_get {n : Nat} {f : Nat → Int} {i : Nat} (h : i < n) : (tab n f).getD i 0 = f i := by simp [tab, List.getD, h]
theorem mem_tab {n : Nat} {f : Nat → Int} {x : Int} (h : x ∈ tab n f) : ∃ i, i < n ∧ x = f i := by
  simp only [tab, List.mem_map, List.mem_range] at h
  obtain ⟨i, hi, rfl⟩ := h
  exact ⟨i, hi, rfl⟩
theorem tab_self (l : List Int) : tab l.length (fun i => l.getD i 0) = l := by
  refine List.ext_getElem (by simp [tab]) fun i h1 h2 => ?_
  simp [tab, List.getD, h2]
/-- A loop that sets place after place. -/
theorem fill_loop {β : Type} {F : Nat → List Int → Int → Option β} {f : Nat → Int} {g : List Int → β} {n c : Nat} (hs : ∀ k out (i : Nat), out.length = n → i < n → F (k + c + 1) out i = F k (out.set i (f i)) ((i + 1 : Nat) : Int)) (he : ∀ k out, out.length = n → F (k + 1) out n = some (g out)) :
    ∀ k, n * (c + 1) < k → ∀ out, out.length = n → F k out 0 = some (g (tab n f)) := by
  have key : ∀ d k (i : Nat) out, out.length = n → i + d = n → d * (c + 1) < k → out.take i = tab i f → F k out i = some (g (tab n f)) := by
    intro d
    induction d with
    | zero =>
      intro k i out ho hi hk ht
      obtain ⟨k, rfl⟩ : ∃ m, k = m + 1 := ⟨k - 1, by omega⟩
      obtain rfl : i = n := by omega
      rw [he k out ho, ← ht, List.take_of_length_le (by omega)]
    | succ d ih =>
      intro k i out ho hi hk ht
      have e : (d + 1) * (c + 1) = d * (c + 1) + (c + 1) := Nat.succ_mul d (c + 1)
      obtain ⟨k, rfl⟩ : ∃ m, k = m + c + 1 := ⟨k - c - 1, by omega⟩
      rw [hs k out i ho (by omega)]
      exact ih k (i + 1) _ (by simpa using ho) (by omega) (by omega) (by rw [take_set_succ _ _ _ (by omega), ht, tab_succ])
  intro k hk out ho
  exact key n k 0 out ho (by omega) hk (by simp [tab])
/-- A loop that appends. -/
theorem push_loop {β : Type} {F : Nat → List Int → Int → Option β} {f : Nat → Int} {g : List Int → β} {n c : Nat} (hs : ∀ k out (i : Nat), out.length = i → i < n → F (k + c + 1) out i = F k (out ++ [f i]) ((i + 1 : Nat) : Int)) (he : ∀ k out, out.length = n → F (k + 1) out n = some (g out)) :
    ∀ k, n * (c + 1) < k → F k [] 0 = some (g (tab n f)) := by
  have key : ∀ d k (i : Nat), i + d = n → d * (c + 1) < k → F k (tab i f) i = some (g (tab n f)) := by
    intro d
    induction d with
    | zero =>
      intro k i hi hk
      obtain ⟨k, rfl⟩ : ∃ m, k = m + 1 := ⟨k - 1, by omega⟩
      obtain rfl : i = n := by omega
      exact he k _ (tab_length _ _)
    | succ d ih =>
      intro k i hi hk
      have e : (d + 1) * (c + 1) = d * (c + 1) + (c + 1) := Nat.succ_mul d (c + 1)
      obtain ⟨k, rfl⟩ : ∃ m, k = m + c + 1 := ⟨k - c - 1, by omega⟩
      rw [hs k _ i (tab_length _ _) (by omega), ← tab_succ]
      exact ih k (i + 1) (by omega) (by omega)
  intro k hk
  exact key n k 0 (by omega) hk
/-- Whether the number at place i lies between lo and hi. -/
def inR (lo hi : Int) (l : List Int) (i : Nat) : Bool := decide (lo ≤ l.getD i 0) && decide (l.getD i 0 ≤ hi)
/-- Whether all numbers of a list lie between lo and hi. -/
def inB (lo hi : Int) (l : List Int) : Bool := allB l.length (inR lo hi l)
theorem inB_iff {lo hi : Int} {l : List Int} : inB lo hi l = true ↔ ∀ i, i < l.length → lo ≤ l.getD i 0 ∧ l.getD i 0 ≤ hi := by
  unfold inB
  rw [allB_iff]
  simp only [inR, Bool.and_eq_true, decide_eq_true_eq]
/-- A loop that asks of each number whether it lies between lo and hi. -/
theorem range_loop {F : Nat → Int → Option Bool} {lo hi : Int} {l : List Int} {b : Bool} {c : Nat} (hs : ∀ k (i : Nat), i < l.length → F (k + c + 1) i = if l.getD i 0 < lo then some false else if l.getD i 0 > hi then some false else F k ((i + 1 : Nat) : Int)) (he : ∀ k, F (k + 1) l.length = some b) :
    ∀ k, l.length * (c + 1) < k → F k 0 = some (inB lo hi l && b) := by
  have key : ∀ d k (i : Nat), i + d = l.length → d * (c + 1) < k → (∀ j, j < i → inR lo hi l j = true) → F k i = some (inB lo hi l && b) := by
    intro d
    induction d with
    | zero =>
      intro k i hi hk hj
      obtain ⟨k, rfl⟩ : ∃ m, k = m + 1 := ⟨k - 1, by omega⟩
      rw [show i = l.length by omega, he, show inB lo _ l = true from allB_iff.2 fun j hjn => hj j (by omega), Bool.true_and]
    | succ d ih =>
      intro k i hi' hk hj
      have e : (d + 1) * (c + 1) = d * (c + 1) + (c + 1) := Nat.succ_mul d (c + 1)
      obtain ⟨k, rfl⟩ : ∃ m, k = m + c + 1 := ⟨k - c - 1, by omega⟩
      rw [hs k i (by omega)]
      have bad : inR lo hi l i = false → some false = some (inB lo hi l && b) := fun h => by
        rw [show inB lo hi l = false from allB_false.2 ⟨i, by omega, h⟩, Bool.false_and]
      by_cases h1 : l.getD i 0 < lo
      · rw [if_pos h1]
        exact bad (by unfold inR; rw [decide_eq_false (by omega), Bool.false_and])
      by_cases h2 : l.getD i 0 > hi
      · rw [if_neg h1, if_pos h2]
        exact bad (by unfold inR; rw [decide_eq_false (p := l.getD i 0 ≤ hi) (by omega), Bool.and_false])
      rw [if_neg h1, if_neg h2]
      refine ih k (i + 1) (by omega) (by omega) fun j hji => ?_
      by_cases h : j = i
      · subst h
        unfold inR
        rw [decide_eq_true (by omega), decide_eq_true (by omega), Bool.true_and]
      · exact hj j (by omega)
  intro k hk
  exact key l.length k 0 (by omega) hk fun j hj => by omega
/-- A loop over the places 0 to n - 1 that keeps P. -/
theorem inv_after {σ β : Type} {F : Nat → σ → Int → Option β} {P : Nat → σ → Prop} {r : β} {n c : Nat} (m : Nat) (hs : ∀ k s (i : Nat), i < n → P i s → ∃ s', P (i + 1) s' ∧ F (k + c + 1) s i = F k s' ((i + 1 : Nat) : Int)) (he : ∀ k s, m ≤ k → P n s → F (k + 1) s n = some r) :
    ∀ k (i : Nat) s, i ≤ n → n * (c + 1) + m < k → P i s → F k s i = some r := by
  have key : ∀ d k (i : Nat) s, i + d = n → d * (c + 1) + m < k → P i s → F k s i = some r := by
    intro d
    induction d with
    | zero =>
      intro k i s hi hk hP
      obtain ⟨k, rfl⟩ : ∃ m, k = m + 1 := ⟨k - 1, by omega⟩
      obtain rfl : i = n := by omega
      exact he k s (by omega) hP
    | succ d ih =>
      intro k i s hi hk hP
      have e : (d + 1) * (c + 1) = d * (c + 1) + (c + 1) := Nat.succ_mul d (c + 1)
      obtain ⟨k, rfl⟩ : ∃ m, k = m + c + 1 := ⟨k - c - 1, by omega⟩
      obtain ⟨s', hP', e'⟩ := hs k s i (by omega) hP
      rw [e']
      exact ih k (i + 1) s' (by omega) (by omega) hP'
  intro k i s hi hk hP
  obtain ⟨d, hd⟩ : ∃ d, i + d = n := ⟨n - i, by omega⟩
  have hm : d * (c + 1) ≤ n * (c + 1) := Nat.mul_le_mul_right _ (by omega)
  exact key d k i s hd (by omega) hP
theorem inv_from {σ β : Type} {F : Nat → σ → Int → Option β} {P : Nat → σ → Prop} {r : β} {n c : Nat} (hs : ∀ k s (i : Nat), i < n → P i s → ∃ s', P (i + 1) s' ∧ F (k + c + 1) s i = F k s' ((i + 1 : Nat) : Int)) (he : ∀ k s, P n s → F (k + 1) s n = some r) :
    ∀ k (i : Nat) s, i ≤ n → n * (c + 1) < k → P i s → F k s i = some r := fun k i s hi hk hP => inv_after 0 hs (fun k s _ hP => he k s hP) k i s hi (by omega) hP
/-- A loop that stops at the first place where p does not hold. -/
theorem stop_loop {σ β : Type} {F : Nat → σ → Int → Option β} {p : Nat → Bool} {r : β} {n c : Nat} (I : σ → Prop) (hs : ∀ k s (i : Nat), i < n → I s → p i = true → ∃ s', I s' ∧ F (k + c + 1) s i = F k s' ((i + 1 : Nat) : Int)) (hb : ∀ k s (i : Nat), i < n → I s → p i = false → F (k + c + 1) s i = some r) (j : Nat) (hj : j < n) (hp : p j = false) :
    ∀ k, n * (c + 1) < k → ∀ s, I s → F k s 0 = some r := by
  have key : ∀ d k (i : Nat) s, i + d = j → (d + 1) * (c + 1) < k → I s → F k s i = some r := by
    intro d
    induction d with
    | zero =>
      intro k i s hi hk hI
      obtain ⟨k, rfl⟩ : ∃ m, k = m + c + 1 := ⟨k - c - 1, by omega⟩
      obtain rfl : i = j := by omega
      exact hb k s i hj hI hp
    | succ d ih =>
      intro k i s hi hk hI
      have e : (d + 1 + 1) * (c + 1) = (d + 1) * (c + 1) + (c + 1) := Nat.succ_mul (d + 1) (c + 1)
      obtain ⟨k, rfl⟩ : ∃ m, k = m + c + 1 := ⟨k - c - 1, by omega⟩
      rcases hpi : p i with _ | _
      · exact hb k s i (by omega) hI hpi
      · obtain ⟨s', hI', e'⟩ := hs k s i (by omega) hI hpi
        rw [e']
        exact ih k (i + 1) s' (by omega) (by omega) hI'
  intro k hk s hI
  have hm : (j + 1) * (c + 1) ≤ n * (c + 1) := Nat.mul_le_mul_right _ (by omega)
  exact key j k 0 s (by omega) (by omega) hI
theorem inv_loop {σ β : Type} {F : Nat → σ → Int → Option β} {P : Nat → σ → Prop} {r : β} {n c : Nat} (hs : ∀ k s (i : Nat), i < n → P i s → ∃ s', P (i + 1) s' ∧ F (k + c + 1) s i = F k s' ((i + 1 : Nat) : Int)) (he : ∀ k s, P n s → F (k + 1) s n = some r) :
    ∀ k, n * (c + 1) < k → ∀ s, P 0 s → F k s 0 = some r := fun k hk s hP => inv_from hs he k 0 s (by omega) hk hP
/-- A list of n numbers, f's values ahead of place i, g's behind it. -/
def Part (n i : Nat) (x : List Int) (f g : Nat → Int) : Prop := x.length = n ∧ (∀ j, j < i → x.getD j 0 = f j) ∧ ∀ j, i ≤ j → j < n → x.getD j 0 = g j
theorem Part.start {n : Nat} {x : List Int} (f : Nat → Int) (h : x.length = n) : Part n 0 x f (fun j => x.getD j 0) := ⟨h, fun j hj => by omega, fun j _ _ => rfl⟩
theorem Part.zeros (n : Nat) (f : Nat → Int) : Part n 0 (List.replicate n 0) f (fun _ => 0) := ⟨by simp, fun j hj => by omega, fun j _ hj => by simp [List.getD, hj]⟩
theorem Part.set {n i : Nat} {x : List Int} {f g : Nat → Int} {v : Int} (h : Part n i x f g) (hi : i < n) (hv : v = f i) : Part n (i + 1) (x.set i v) f g := by
  obtain ⟨h1, h2, h3⟩ := h
  refine ⟨by simpa using h1, fun j hj => ?_, fun j hj hn => ?_⟩
  · by_cases e : j = i
    · subst e
      simp [List.getD, h1, hi, hv]
    · rw [show (x.set i v).getD j 0 = x.getD j 0 from by simp [List.getD, List.getElem?_set_ne (Ne.symm e)]]
      exact h2 j (by omega)
  · rw [show (x.set i v).getD j 0 = x.getD j 0 from by simp [List.getD, List.getElem?_set_ne (show i ≠ j by omega)]]
    exact h3 j (by omega) hn
theorem Part.skip {n i : Nat} {x : List Int} {f g : Nat → Int} (h : Part n i x f g) (hi : i < n) (hv : g i = f i) : Part n (i + 1) x f g := by
  obtain ⟨h1, h2, h3⟩ := h
  refine ⟨h1, fun j hj => ?_, fun j hj hn => h3 j (by omega) hn⟩
  by_cases e : j = i
  · subst e
    rw [h3 j (by omega) hi, hv]
  · exact h2 j (by omega)
theorem Part.done {n : Nat} {x : List Int} {f g : Nat → Int} (h : Part n n x f g) : x = tab n f := by
  obtain ⟨h1, h2, _⟩ := h
  refine List.ext_getElem (by rw [h1, tab_length]) fun i hi hi' => ?_
  have := h2 i (by omega)
  rw [getD_lt hi] at this
  rw [this]
  simp [tab]
theorem R_span {α : Type} {d : Kd α} {e : Nat} {w1 : World} {base : Nat} {ok : Nat → Prop} {v : Value} {xs : List α} (h : d.R e w1 base ok v xs) : d.R e w1 base (fun k => base ≤ k ∧ k < w1.heap.size) v xs :=
  Kd.R_mono (Kd.R_bound h) (fun k hk => ⟨hk.2.1, hk.2.2.1⟩)
theorem R_cells {α : Type} {d : Kd α} {e : Nat} {w1 : World} {base : Nat} {ok : Nat → Prop} {A : Option Addr} {n c : Nat} {xs : List α} (h : d.R e w1 base ok (.slice A n c) xs) : n = xs.length ∧ n ≤ c ∧ d.C w1 A xs.length xs := Kd.R_reads' h
theorem size_le {B : Nat} {w w1 : World} (h : Below B w w1) : w.heap.size ≤ w1.heap.size := h.size
/-- A cell of old memory. -/
theorem cell_stay {w w1 : World} (hb : Below w.heap.size w w1) {a : Addr} {v : Value} (h : w.cell? a = some v) : w1.cell? a = some v := pw_cell_below hb h
theorem R_slice_n {α : Type} {d : Kd α} {e : Nat} {w : World} {base n : Nat} {ok : Nat → Prop} {v : Value} {xs : List α} (h : d.R e w base ok v xs) (hl : xs.length = n) : ∃ A c, v = .slice A n c := by
  obtain ⟨A, c, e⟩ := Kd.R_slice h
  exact ⟨A, c, by rw [e, hl]⟩
theorem info3 : (Tryd.prog.info? 3).map (fun i => (i.zero, i.size, i.bytes)) = some (some (.int .i64 0), 1, 8) := by kernel_rfl
theorem ret_int' {k : IntKind} {a b : Int} (h : a = b) : Ending.returned (.int k a) = Ending.returned (.int k b) := by rw [h]
theorem kept_set {w w1 : World} {S : Nat → Prop} (h : Kept w w1 S) {g : Nat} (hg : S g) (j : Nat) (u : Value) : Kept w (w1.setCell ⟨g, j, none⟩ u) S :=
  ⟨by simpa [World.setCell] using h.1, fun i hi hn => (Below.heap_setCell w1 ⟨g, j, none⟩ u i (fun e => hn (e ▸ hg))).trans (h.2 i hi hn)⟩
set_option maxHeartbeats 1000000 in
/-- eqIntS of two slices that read alike. -/
theorem eqI_calls (A1 A2 : Option Addr) (c1 c2 : Nat) (l : List Int) (w : World) (hl : l.length ≤ 1000000000) (hr1 : Kd.C (Kd.int .i64) w A1 l.length l) (hr2 : Kd.C (Kd.int .i64) w A2 l.length l) :
    Calls Tryd.prog 8 #[.slice A1 l.length c1, .slice A2 l.length c2] w fun e w' => e = .returned (.bool true) ∧ Drawn0 w w' := by
  have H1 := Aside0.mk hr1
  have H2 := Aside0.mk hr2
  clear hr1 hr2
  obtain ⟨n, hn⟩ : ∃ n, n = l.length := ⟨_, rfl⟩
  rw [← hn] at H1 H2 hl ⊢
  clear hn
  go_enter Tryd.func8, Tryd.ntmps8
  go_wp2
  go_loopg [5] n (fun q v5 w' => ∃ i : Nat, v5 = .int .i64 (i : Int) ∧ Aside0 (i + q = n) ∧ Drawn0 w w')
  case atStart => exact ⟨0, rfl, ⟨by omega⟩, by repeat (first | exact Drawn0.refl _ | apply Drawn0.step)⟩
  case round =>
    obtain ⟨i, rfl, Q, ⟨nd, rfl⟩⟩ := hrel
    by_cases c : i < n
    · obtain ⟨q, rfl⟩ : ∃ q, gk = q + 1 := ⟨gk - 1, by have := Q.out; omega⟩
      obtain ⟨ad1, e1, hx1⟩ := Kd.at_int H1.out (i : Int) (by omega) (by omega)
      obtain ⟨ad2, e2, hx2⟩ := Kd.at_int H2.out (i : Int) (by omega) (by omega)
      rw [Int.toNat_natCast] at hx1 hx2
      obtain ⟨b, hb⟩ : ∃ b, b = rd l (i : Int) := ⟨_, rfl⟩
      rw [← hb] at hx1 hx2
      clear hb
      subst e1 e2
      have p1 : 0 ≤ (i : Int) := by omega
      have p2 : (i : Int) < (n : Int) := by omega
      go_wp2
      repeat (go_quiet (fail); try go_wp2)
      go_roundg q
      case measure => omega
      case rel => exact ⟨i + 1, by go_num, ⟨by have := Q.out; omega⟩, by repeat (first | exact Drawn0.refl _ | apply Drawn0.step)⟩
    · go_wp2
      go_ret
      exact ⟨rfl, by repeat (first | exact Drawn0.refl _ | apply Drawn0.step)⟩
set_option maxHeartbeats 1000000 in
/-- markIntS of a slice of our own: it reads a, a + 1, .. behind it; nothing but its block is touched. -/
theorem markI_calls (base : Nat) (S : Nat → Prop) (A : Option Addr) (c : Nat) (l : List Int) (a : Int) (w0 w : World) (h0 : 0 ≤ a) (ha : a ≤ 1000000000) (hl : l.length ≤ 1000000000) (hr : Kd.R (Kd.int .i64) 3 w base S (.slice A l.length c) l) (hb : Below w0.heap.size w0 w) (hS : ∀ k, S k → w0.heap.size ≤ k) :
    Calls Tryd.prog 9 #[.slice A l.length c, .int .i64 a] w fun e w' => e = .returned (.int .i64 (a + l.length)) ∧ Kd.R (Kd.int .i64) 3 w' base S (.slice A l.length c) (upI a l.length) ∧ Kept w w' S ∧ Below w0.heap.size w0 w' := by
  obtain ⟨n, hn⟩ : ∃ n, n = l.length := ⟨_, rfl⟩
  rw [← hn] at hr hl ⊢
  have PS := Aside0.mk (Part.start (fun j : Nat => a + (j : Int)) hn.symm)
  obtain ⟨gl, hgl⟩ : ∃ f : Nat → Int, f = fun j => l.getD j 0 := ⟨_, rfl⟩
  rw [← hgl] at PS
  have HR := Aside0.mk hr
  have HB := Aside0.mk hb
  have HS := Aside0.mk hS
  clear hr hb hS hn hgl
  go_enter Tryd.func9, Tryd.ntmps9
  go_wp2
  go_loopg [1, 5] n (fun q v1 v5 w' => ∃ (i : Nat) (x : List Int), v1 = .int .i64 (a + (i : Int)) ∧ v5 = .int .i64 (i : Int) ∧ Aside0 (i + q = n) ∧ Aside0 (Part n i x (fun j : Nat => a + (j : Int)) gl) ∧ Aside0 (Kd.R (Kd.int .i64) 3 w' base S (.slice A n c) x) ∧ Aside0 (Kept w w' S) ∧ Aside0 (Below w0.heap.size w0 w'))
  case atStart => exact ⟨0, l, by simp, rfl, ⟨by omega⟩, PS, HR, ⟨Kept.refl _ _⟩, HB⟩
  case round =>
    clear PS HR HB
    obtain ⟨i, x, rfl, rfl, Q, P, HR, HK, HB⟩ := hrel
    by_cases c0 : i < n
    · obtain ⟨q, rfl⟩ : ∃ q, gk = q + 1 := ⟨gk - 1, by have := Q.out; omega⟩
      have xl : x.length = n := P.out.1
      obtain ⟨g, cap, e1, gb, gl2, cl, hg⟩ := Kd.R_form HR.out (by omega)
      rw [xl] at e1
      cases e1
      have SG : Aside0 (S g) := ⟨HR.out.1 g rfl⟩
      obtain ⟨hx, hfz⟩ := Kd.R_celln 0 HR.out (i : Int) (by omega) (by omega)
      rw [Int.toNat_natCast] at hx hfz
      have HP := Aside0.mk (Kd.R_putn HR.out (i : Int) (a + (i : Int)))
      have PT2 := Aside0.mk (P.out.set c0 (v := a + (i : Int)) rfl)
      clear gb gl2 hg HR xl
      go_wp2
      go_roundg q
      case measure => omega
      case rel => exact ⟨i + 1, _, by rw [show a + ((i + 1 : Nat) : Int) = a + (i : Int) + 1 by omega], by go_num, ⟨by have := Q.out; omega⟩, PT2, HP, ⟨kept_set HK.out SG.out _ _⟩, ⟨below_set HB.out (HS.out _ SG.out)⟩⟩
    · have e : i = n := by have := Q.out; omega
      have E := Aside0.mk e
      have E2 : Aside0 (x = upI a n) := ⟨by
        have h := P.out
        rw [E.out] at h
        rw [h.done]
        refine List.ext_getElem (by rw [tab_length, upI_length]) fun j h1 h2 => ?_
        rw [upI_length] at h2
        have := upI_get n a j h2
        rw [getD_lt (by rw [upI_length]; exact h2)] at this
        rw [this]
        simp [tab]⟩
      clear e
      go_wp2
      go_ret
      rw [E2.out] at HR
      exact ⟨ret_int' (show a + (i : Int) = a + (n : Int) by rw [E.out]), HR.out, HK.out, HB.out⟩
set_option maxHeartbeats 1000000 in
/-- heldIntS of the numbers a, a + 1, ..: the number behind the last. -/
theorem heldI_calls (A : Option Addr) (c n : Nat) (a : Int) (h0 : 0 ≤ a) (h1 : a ≤ 1000000000) (hn : n ≤ 1000000000) (w : World) (hr : Kd.C (Kd.int .i64) w A n (upI a n)) :
    Calls Tryd.prog 10 #[.slice A n c, .int .i64 a] w fun e w' => e = .returned (.int .i64 (a + n)) ∧ Drawn0 w w' := by
  have HR := Aside0.mk hr
  clear hr
  go_enter Tryd.func10, Tryd.ntmps10
  go_wp2
  go_loopg [1, 5] n (fun q v1 v5 w' => ∃ i : Nat, v1 = .int .i64 (a + (i : Int)) ∧ v5 = .int .i64 (i : Int) ∧ Aside0 (i + q = n) ∧ Drawn0 w w')
  case atStart => exact ⟨0, by simp, rfl, ⟨by omega⟩, by repeat (first | exact Drawn0.refl _ | apply Drawn0.step)⟩
  case round =>
    obtain ⟨i, rfl, rfl, Q, ⟨nd, rfl⟩⟩ := hrel
    by_cases c : i < n
    · obtain ⟨q, rfl⟩ : ∃ q, gk = q + 1 := ⟨gk - 1, by have := Q.out; omega⟩
      obtain ⟨ad, e1, hx⟩ := Kd.at_int HR.out (i : Int) (by omega) (by omega)
      rw [rd_nat, upI_get n a i c, Int.toNat_natCast] at hx
      subst e1
      go_wp2
      go_roundg q
      case measure => omega
      case rel => exact ⟨i + 1, by rw [show a + ((i + 1 : Nat) : Int) = a + (i : Int) + 1 by omega], by go_num, ⟨by have := Q.out; omega⟩, by repeat (first | exact Drawn0.refl _ | apply Drawn0.step)⟩
    · have E := Aside0.mk (show i = n by have := Q.out; omega)
      go_wp2
      go_ret
      exact ⟨ret_int' (show a + (i : Int) = a + (n : Int) by rw [E.out]), by repeat (first | exact Drawn0.refl _ | apply Drawn0.step)⟩
set_option maxHeartbeats 1000000 in
/-- The copy that toIntS makes. -/
theorem toI_calls (A : Option Addr) (c : Nat) (l : List Int) (w : World) (hl : l.length ≤ 1048576) (hc : l.length ≤ c) (hr : Kd.C (Kd.int .i64) w A l.length l) :
    Calls Tryd.prog 6 #[.slice A l.length c] w fun e w' => ∃ v : Value, e = .returned v ∧ Kd.R (Kd.int .i64) 3 w' w.heap.size (fun _ => True) v l ∧ Below w.heap.size w w' := by
  have HR := Aside0.mk hr
  clear hr
  obtain ⟨n, hn⟩ : ∃ n, n = l.length := ⟨_, rfl⟩
  rw [← hn] at HR hl hc ⊢
  have HN := Aside0.mk hn
  clear hn
  go_enter Tryd.func6, Tryd.ntmps6
  go_wp2_with ((with_reducible refine gate_dst (N := 7) rfl ?_); (refine Kd.R_make (Kd.int .i64) (w0 := w) w.heap.size 3 rfl (N := 7) rfl 22 _ _ rfl (n : Int) rfl rfl Tryd.underlying22 (.int .i64 0) 8 info3 rfl (by decide) (by omega) 0 (ok := fun _ => True) (okp := fun _ => True) rfl (fun _ hk => hk) trivial (by omega) (by omega) ?mB1 ?mS1 ?_); (case mB1 => first | exact Below.refl _ _ | exact HB.out); (case mS1 => first | exact Nat.le_refl _ | exact below_size HB.out); intro v1 w1 ho hb hg hn; (try rw [Int.toNat_natCast] at ho); obtain ⟨A1, c1, rfl⟩ := R_slice_n (n := n) ho (by simp); have HO := Aside0.mk ho; have HB := Aside0.mk hb; clear ho hb hg hn)
  go_loopg [4] n (fun q v4 w' => ∃ (i : Nat) (x : List Int), v4 = .int .i64 (i : Int) ∧ Aside0 (i + q = n) ∧ Aside0 (Part n i x (fun j => l.getD j 0) (fun _ => 0)) ∧ Aside0 (Kd.R (Kd.int .i64) 3 w' w.heap.size (fun _ => True) (.slice A1 n c1) x) ∧ Aside0 (Below w.heap.size w w'))
  case atStart => exact ⟨0, _, rfl, ⟨by omega⟩, ⟨Part.zeros _ _⟩, HO, HB⟩
  case round =>
    clear HO HB
    obtain ⟨i, x, rfl, Q, PT, HO, HB⟩ := hrel
    by_cases c0 : i < n
    · obtain ⟨q, rfl⟩ : ∃ q, gk = q + 1 := ⟨gk - 1, by have := Q.out; omega⟩
      have xl : x.length = n := PT.out.1
      have HR2 := Aside0.mk (Kd.C_below HR.out HB.out)
      obtain ⟨ad1, e1, hx1⟩ := Kd.at_int HR2.out (i : Int) (by omega) (by omega)
      rw [Int.toNat_natCast] at hx1
      obtain ⟨b, hb⟩ : ∃ b, b = rd l (i : Int) := ⟨_, rfl⟩
      rw [← hb] at hx1
      subst e1
      obtain ⟨g, cap, e2, gb, gl, cl, hg⟩ := Kd.R_form HO.out (by omega)
      rw [xl] at e2
      cases e2
      obtain ⟨hx, hfz⟩ := Kd.R_celln 0 HO.out (i : Int) (by omega) (by omega)
      rw [Int.toNat_natCast] at hx hfz
      have GB := Aside0.mk gb
      have HP := Aside0.mk (Kd.R_putn HO.out (i : Int) b)
      have PT2 := Aside0.mk (PT.out.set c0 (v := b) (by rw [hb, rd_nat]))
      clear gb gl hg hb xl
      go_wp2
      go_roundg q
      case measure => omega
      case rel => exact ⟨i + 1, _, by go_num, ⟨by have := Q.out; omega⟩, PT2, HP, ⟨below_set HB.out GB.out⟩⟩
    · have E2 : Aside0 (x = l) := ⟨by
        have h := PT.out
        rw [show i = n by have := Q.out; omega] at h
        rw [h.done, HN.out]
        exact tab_self l⟩
      go_wp2
      go_ret
      rw [E2.out] at HO
      exact ⟨_, rfl, HO.out, HB.out⟩
end Go.Proofs.YtdijjadoneeadaaDoor.Wk
