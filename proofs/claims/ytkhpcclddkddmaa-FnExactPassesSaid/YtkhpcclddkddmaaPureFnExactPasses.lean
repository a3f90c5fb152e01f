/- Proved: the program's Passes tells what the reference's tells, in memory of its own, for every two numbers. -/
import Derived.Test.YtkhpcclddkddmaaPas4
import Derived.Test.YtkhpcclddkddmaaMy
namespace Go.Proofs.Ytkhpcclddkddmaa.Pure
open Go.RowKit Go.Proofs.Ytkhpcclddkddmaa.PFnExactPasses Go.Proofs.YtkhpcclddkddmaaW.PrintWords Go.Proofs.YtkhpcclddkddmaaW.PrintLast Go.Proofs.YtkhpcclddkddmaaW.PrintMore Go.Proofs.Ytkhpcclddkddmaa.My
set_option linter.unusedVariables false
set_option linter.unusedSimpArgs false
attribute [local congr] bind_left ite_left

theorem rd_nat58 (l : List S58) (i : Nat) : rd_T58 l (i : Int) = l.getD i z58 := by simp [rd_T58]
/-- The passes (a, .., a + 5), (a + 6, .., a + 11), .. -/
def upP : Int → Nat → List S58
  | _, 0 => []
  | a, n + 1 => ⟨a, a + 1, a + 2, a + 3, a + 4, a + 5⟩ :: upP (a + 6) n
theorem upP_length (n : Nat) : ∀ a : Int, (upP a n).length = n := by
  induction n with
  | zero => intro a; rfl
  | succ n ih => intro a; simp [upP, ih]
theorem upP_get (n : Nat) : ∀ (a : Int) (i : Nat), i < n → (upP a n).getD i z58 = ⟨a + 6 * (i : Int), a + 6 * (i : Int) + 1, a + 6 * (i : Int) + 2, a + 6 * (i : Int) + 3, a + 6 * (i : Int) + 4, a + 6 * (i : Int) + 5⟩ := by
  induction n with
  | zero => intro a i h; omega
  | succ n ih =>
    intro a i h
    rcases i with _ | i
    · simp [upP]
    · rw [show (upP a (n + 1)).getD (i + 1) z58 = (upP (a + 6) n).getD i z58 from by simp [upP, List.getD], ih (a + 6) i (by omega)]
      rw [show a + 6 + 6 * (i : Int) = a + 6 * ((i + 1 : Nat) : Int) from by omega]
theorem eqPassS_l0 (x : List S58) (hl : x.length ≤ 1048576) (d : Nat) : ∀ (k : Nat) (i : Nat), i + d = x.length → d < k → laws_eqPassS.l0 k x x (i : Int) = some true := by
  induction d with
  | zero =>
    intro k i hi hk
    obtain ⟨k, rfl⟩ : ∃ m, k = m + 1 := ⟨k - 1, by omega⟩
    simp only [laws_eqPassS.l0]
    rw [if_neg (by omega)]
  | succ d ih =>
    intro k i hi hk
    obtain ⟨k, rfl⟩ : ∃ m, k = m + 1 := ⟨k - 1, by omega⟩
    simp only [laws_eqPassS.l0, laws_eqPass.f, if_true, Option.bind_some]
    rw [if_pos (by omega), if_pos (by omega), if_pos (by omega), wrap64_nat (by omega)]
    exact ih k (i + 1) (by omega) (by omega)
theorem eqPassS_eq (k : Nat) (l : List S58) (hl : l.length ≤ 1048576) (hk : l.length < k) : laws_eqPassS.f k l l = some true := by
  unfold laws_eqPassS.f
  rw [if_pos rfl]
  exact eqPassS_l0 l hl l.length k 0 (by omega) hk
theorem takeS_set_succ (l : List S58) (i : Nat) (x : S58) (h : i < l.length) : (l.set i x).take (i + 1) = l.take i ++ [x] := by
  rw [List.take_succ_eq_append_getElem (by simpa using h), List.take_set, List.getElem_set_self, List.set_eq_of_length_le (by simp; omega)]
theorem getD_set58 (l : List S58) (i : Nat) (x : S58) (h : i < l.length) : (l.set i x).getD i z58 = x := by simp [List.getD, h]
theorem markPassS_l0 (n : Nat) (hn : n ≤ 1048576) (d : Nat) : ∀ (k : Nat) (x : List S58) (a : Int) (i : Nat), x.length = n → i + d = n → d < k → 0 ≤ a → a + 6 * d ≤ 1000000000000 →
    laws_markPassS.l0 k x a (i : Int) = some (a + 6 * d, x.take i ++ upP a d) := by
  induction d with
  | zero =>
    intro k x a i hx hi hk h0 ha
    obtain ⟨k, rfl⟩ : ∃ m, k = m + 1 := ⟨k - 1, by omega⟩
    simp only [laws_markPassS.l0]
    rw [if_neg (by omega), List.take_of_length_le (by omega)]
    simp [upP]
  | succ d ih =>
    intro k x a i hx hi hk h0 ha
    obtain ⟨k, rfl⟩ : ∃ m, k = m + 1 := ⟨k - 1, by omega⟩
    have w1 : wrap64 (a + 1) = a + 1 := wrap64_id (by omega) (by omega)
    have w2 : wrap64 (a + 1 + 1) = a + 2 := by rw [wrap64_id (by omega) (by omega)]; omega
    have w3 : wrap64 (a + 2 + 1) = a + 3 := by rw [wrap64_id (by omega) (by omega)]; omega
    have w4 : wrap64 (a + 3 + 1) = a + 4 := by rw [wrap64_id (by omega) (by omega)]; omega
    have w5 : wrap64 (a + 4 + 1) = a + 5 := by rw [wrap64_id (by omega) (by omega)]; omega
    have w6 : wrap64 (a + 5 + 1) = a + 6 := by rw [wrap64_id (by omega) (by omega)]; omega
    have e : ∀ y : S58, (x.set i y).getD i z58 = y := fun y => getD_set58 x i y (by omega)
    simp only [laws_markPassS.l0, Option.bind_some, Int.toNat_natCast, rd_nat58, e, List.set_set, w1, w2, w3, w4, w5, w6]
    rw [if_pos (by omega), if_pos (by omega), wrap64_nat (by omega), ih k _ (a + 6) (i + 1) (by simpa using hx) (by omega) (by omega) (by omega) (by omega), takeS_set_succ _ _ _ (by omega)]
    rw [show a + 6 + 6 * (d : Int) = a + 6 * ((d + 1 : Nat) : Int) from by omega]
    simp [upP]
theorem markPassS_eq (k : Nat) (l : List S58) (a : Int) (hl : l.length ≤ 1048576) (hk : l.length < k) (h0 : 0 ≤ a) (ha : a ≤ 1048576) : laws_markPassS.f k l a = some (a + 6 * l.length, upP a l.length) := by
  unfold laws_markPassS.f
  exact markPassS_l0 l.length hl l.length k l a 0 rfl (by omega) hk h0 (by omega)
theorem heldPassS_l0 (n : Nat) (a : Int) (hn : n ≤ 1048576) (h0 : 0 ≤ a) (ha : a ≤ 1048576) (d : Nat) : ∀ (k : Nat) (i : Nat), i + d = n → d < k →
    laws_heldPassS.l0 k (upP a n) (a + 6 * (i : Int)) (i : Int) = some (a + 6 * n) := by
  induction d with
  | zero =>
    intro k i hi hk
    obtain ⟨k, rfl⟩ : ∃ m, k = m + 1 := ⟨k - 1, by omega⟩
    simp only [laws_heldPassS.l0]
    rw [if_neg (by rw [upP_length]; omega), show i = n by omega]
  | succ d ih =>
    intro k i hi hk
    obtain ⟨k, rfl⟩ : ∃ m, k = m + 1 := ⟨k - 1, by omega⟩
    obtain ⟨b, hb⟩ : ∃ b : Int, b = a + 6 * (i : Int) := ⟨_, rfl⟩
    have w1 : wrap64 (b + 1) = b + 1 := wrap64_id (by omega) (by omega)
    have w2 : wrap64 (b + 1 + 1) = b + 2 := by rw [wrap64_id (by omega) (by omega)]; omega
    have w3 : wrap64 (b + 2 + 1) = b + 3 := by rw [wrap64_id (by omega) (by omega)]; omega
    have w4 : wrap64 (b + 3 + 1) = b + 4 := by rw [wrap64_id (by omega) (by omega)]; omega
    have w5 : wrap64 (b + 4 + 1) = b + 5 := by rw [wrap64_id (by omega) (by omega)]; omega
    have w6 : wrap64 (b + 5 + 1) = b + 6 := by rw [wrap64_id (by omega) (by omega)]; omega
    simp only [laws_heldPassS.l0, rd_nat58, upP_get n a i (by omega), ← hb, w1, w2, w3, w4, w5, w6, if_true]
    rw [if_pos (by rw [upP_length]; omega), if_pos (by omega), wrap64_nat (by omega), show b + 6 = a + 6 * ((i + 1 : Nat) : Int) from by omega]
    exact ih k (i + 1) (by omega) (by omega)
theorem heldPassS_eq (k n : Nat) (a : Int) (hn : n ≤ 1048576) (hk : n < k) (h0 : 0 ≤ a) (ha : a ≤ 1048576) : laws_heldPassS.f k (upP a n) a = some (a + 6 * n) := by
  unfold laws_heldPassS.f
  have h := heldPassS_l0 n a hn h0 ha n k 0 (by omega) hk
  rwa [show a + 6 * ((0 : Nat) : Int) = a from by omega] at h
/-- How many places a pass has on a side. -/
def cnt (a x s : Int) : Int := if a ≤ x then 0 else Int.tdiv (a - x + s - 1) s
theorem tdiv_small (n s : Int) (h0 : 0 ≤ n) (h1 : n < s) : Int.tdiv n s = 0 := Int.tdiv_eq_zero_of_lt h0 h1
theorem tdiv_rng (n s : Int) (h0 : 0 ≤ n) (hs : 1 ≤ s) : 0 ≤ Int.tdiv n s ∧ Int.tdiv n s ≤ n := by
  rw [Int.tdiv_eq_ediv_of_nonneg h0]
  exact ⟨Int.ediv_nonneg h0 (by omega), Int.ediv_le_self _ h0⟩
theorem count_eq (a x s : Int) (ha : 1 ≤ a) (ha' : a ≤ 512) (hx : 0 ≤ x) (hs : 1 ≤ s) (hs' : s ≤ 8) (hx' : x ≤ s) : spec_l4Count.f a x s = some (cnt a x s) := by
  unfold spec_l4Count.f cnt
  by_cases h : a ≤ x
  · rw [if_pos h, if_pos h]
  · have hr := tdiv_rng (a - x + s - 1) s (by omega) hs
    rw [if_neg h, if_neg h, if_neg (by omega), wrap64_id (n := a - x) (by omega) (by omega), wrap64_id (n := a - x + s) (by omega) (by omega), wrap64_id (n := a - x + s - 1) (by omega) (by omega), wrap64_id (by omega) (by omega)]
theorem impl_cnt (a x s : Int) (ha : 1 ≤ a) (ha' : a ≤ 512) (hx : 0 ≤ x) (hs : 1 ≤ s) (hs' : s ≤ 8) (hx' : x ≤ s) : wrap64 (Int.tdiv (wrap64 ((wrap64 ((wrap64 (a - x)) + s)) - 1)) s) = cnt a x s := by
  unfold cnt
  have hr := tdiv_rng (a - x + s - 1) s (by omega) hs
  rw [wrap64_id (n := a - x) (by omega) (by omega), wrap64_id (n := a - x + s) (by omega) (by omega), wrap64_id (n := a - x + s - 1) (by omega) (by omega), wrap64_id (by omega) (by omega)]
  by_cases h : a ≤ x
  · rw [if_pos h, tdiv_small _ _ (by omega) (by omega)]
  · rw [if_neg h]
/-- One pass, if it has a place. -/
def one (a b x y s t : Int) : List S58 := if cnt a x s > 0 then (if cnt b y t > 0 then [⟨x, y, s, t, cnt a x s, cnt b y t⟩] else []) else []
theorem one_len (a b x y s t : Int) : (one a b x y s t).length ≤ 1 := by
  unfold one
  split
  · split <;> simp
  · simp
theorem spec_step (k : Nat) (a b : Int) (T : List Int) (acc : List S58) (i x y s t : Int) (hacc : acc.length < 100) (ha : 1 ≤ a) (ha' : a ≤ 512) (hb : 1 ≤ b) (hb' : b ≤ 512)
    (hi : 0 ≤ i) (hT : i + 3 < T.length) (hT' : T.length ≤ 100) (e0 : rd T i = x) (e1 : rd T (i + 1) = y) (e2 : rd T (i + 2) = s) (e3 : rd T (i + 3) = t)
    (hx : 0 ≤ x) (hs : 1 ≤ s) (hs' : s ≤ 8) (hx' : x ≤ s) (hy : 0 ≤ y) (ht : 1 ≤ t) (ht' : t ≤ 8) (hy' : y ≤ t) :
    spec_l4Passes.l0 (k + 1) a b T acc i = spec_l4Passes.l0 k a b T (acc ++ one a b x y s t) (i + 4) := by
  simp only [spec_l4Passes.l0]
  rw [wrap64_id (n := i + 1) (by omega) (by omega), wrap64_id (n := i + 2) (by omega) (by omega), wrap64_id (n := i + 3) (by omega) (by omega), wrap64_id (n := i + 4) (by omega) (by omega)]
  rw [if_pos (by omega), if_pos (by omega), if_pos (by omega), if_pos (by omega), if_pos (by omega), if_pos (by omega), if_pos (by omega), if_pos (by omega)]
  rw [e0, e1, e2, e3, count_eq a x s ha ha' hx hs hs' hx', count_eq b y t hb hb' hy ht ht' hy']
  simp only [Option.bind_some]
  unfold one
  by_cases h : cnt a x s > 0
  · rw [if_pos h, if_pos h]
    by_cases h2 : cnt b y t > 0
    · rw [if_pos h2, if_pos h2, if_pos (by omega)]
    · rw [if_neg h2, if_neg h2, List.append_nil]
  · rw [if_neg h, if_neg h, List.append_nil]
theorem impl_step (k : Nat) (a b : Int) (T : List S58) (acc : List S58) (i x y s t : Int) (hacc : acc.length < 100) (ha : 1 ≤ a) (ha' : a ≤ 512) (hb : 1 ≤ b) (hb' : b ≤ 512)
    (hi : 0 ≤ i) (hT : i < T.length) (hT' : T.length ≤ 100) (e : rd_T58 T i = ⟨x, y, s, t, 0, 0⟩)
    (hx : 0 ≤ x) (hs : 1 ≤ s) (hs' : s ≤ 8) (hx' : x ≤ s) (hy : 0 ≤ y) (ht : 1 ≤ t) (ht' : t ≤ 8) (hy' : y ≤ t) :
    impl_Passes.l0 (k + 1) a b acc T (T.length : Int) i = impl_Passes.l0 k a b (acc ++ one a b x y s t) T (T.length : Int) (i + 1) := by
  simp only [impl_Passes.l0]
  rw [wrap64_id (n := i + 1) (by omega) (by omega)]
  rw [if_pos (by omega), if_pos (by omega), if_pos (by omega)]
  simp only [e]
  rw [if_neg (by omega), if_neg (by omega), impl_cnt a x s ha ha' hx hs hs' hx', impl_cnt b y t hb hb' hy ht ht' hy']
  unfold one
  by_cases h : cnt a x s > 0
  · rw [if_pos h, if_pos h]
    by_cases h2 : cnt b y t > 0
    · rw [if_pos h2, if_pos h2, if_pos (by omega)]
    · rw [if_neg h2, if_neg h2, List.append_nil]
  · rw [if_neg h, if_neg h, List.append_nil]
/-- What both sides answer. -/
def all (a b : Int) : List S58 := [] ++ one a b 0 0 8 8 ++ one a b 4 0 8 8 ++ one a b 0 4 4 8 ++ one a b 2 0 4 4 ++ one a b 0 2 2 4 ++ one a b 1 0 2 2 ++ one a b 0 1 1 2
theorem all_len (a b : Int) : (all a b).length ≤ 7 := by
  have h1 := one_len a b 0 0 8 8
  have h2 := one_len a b 4 0 8 8
  have h3 := one_len a b 0 4 4 8
  have h4 := one_len a b 2 0 4 4
  have h5 := one_len a b 0 2 2 4
  have h6 := one_len a b 1 0 2 2
  have h7 := one_len a b 0 1 1 2
  simp only [all, List.length_append, List.length_nil]
  omega
theorem spec_all (k : Nat) (hk : 9 ≤ k) (a b : Int) (ha : 1 ≤ a) (ha' : a ≤ 512) (hb : 1 ≤ b) (hb' : b ≤ 512) : spec_l4Passes.f k a b = some (all a b) := by
  obtain ⟨k, rfl⟩ : ∃ m, k = m + 8 := ⟨k - 8, by omega⟩
  have h1 := one_len a b 0 0 8 8
  have h2 := one_len a b 4 0 8 8
  have h3 := one_len a b 0 4 4 8
  have h4 := one_len a b 2 0 4 4
  have h5 := one_len a b 0 2 2 4
  have h6 := one_len a b 1 0 2 2
  have h7 := one_len a b 0 1 1 2
  unfold spec_l4Passes.f
  rw [spec_step (k + 7) a b _ _ 0 0 0 8 8 (by simp) ha ha' hb hb' (by omega) (by simp) (by simp) rfl rfl rfl rfl (by omega) (by omega) (by omega) (by omega) (by omega) (by omega) (by omega) (by omega)]
  rw [spec_step (k + 6) a b _ _ (0 + 4) 4 0 8 8 (by simp only [List.length_append, List.length_nil]; omega) ha ha' hb hb' (by omega) (by simp) (by simp) rfl rfl rfl rfl (by omega) (by omega) (by omega) (by omega) (by omega) (by omega) (by omega) (by omega)]
  rw [spec_step (k + 5) a b _ _ (0 + 4 + 4) 0 4 4 8 (by simp only [List.length_append, List.length_nil]; omega) ha ha' hb hb' (by omega) (by simp) (by simp) rfl rfl rfl rfl (by omega) (by omega) (by omega) (by omega) (by omega) (by omega) (by omega) (by omega)]
  rw [spec_step (k + 4) a b _ _ (0 + 4 + 4 + 4) 2 0 4 4 (by simp only [List.length_append, List.length_nil]; omega) ha ha' hb hb' (by omega) (by simp) (by simp) rfl rfl rfl rfl (by omega) (by omega) (by omega) (by omega) (by omega) (by omega) (by omega) (by omega)]
  rw [spec_step (k + 3) a b _ _ (0 + 4 + 4 + 4 + 4) 0 2 2 4 (by simp only [List.length_append, List.length_nil]; omega) ha ha' hb hb' (by omega) (by simp) (by simp) rfl rfl rfl rfl (by omega) (by omega) (by omega) (by omega) (by omega) (by omega) (by omega) (by omega)]
  rw [spec_step (k + 2) a b _ _ (0 + 4 + 4 + 4 + 4 + 4) 1 0 2 2 (by simp only [List.length_append, List.length_nil]; omega) ha ha' hb hb' (by omega) (by simp) (by simp) rfl rfl rfl rfl (by omega) (by omega) (by omega) (by omega) (by omega) (by omega) (by omega) (by omega)]
  rw [spec_step (k + 1) a b _ _ (0 + 4 + 4 + 4 + 4 + 4 + 4) 0 1 1 2 (by simp only [List.length_append, List.length_nil]; omega) ha ha' hb hb' (by omega) (by simp) (by simp) rfl rfl rfl rfl (by omega) (by omega) (by omega) (by omega) (by omega) (by omega) (by omega) (by omega)]
  simp only [spec_l4Passes.l0]
  rw [if_neg (by simp)]
  rfl
theorem impl_all (k : Nat) (hk : 8 ≤ k) (a b : Int) (ha : 1 ≤ a) (ha' : a ≤ 512) (hb : 1 ≤ b) (hb' : b ≤ 512) (T : List S58)
    (hT : T = ([(⟨0, 0, 8, 8, 0, 0⟩ : S58), (⟨4, 0, 8, 8, 0, 0⟩ : S58), (⟨0, 4, 4, 8, 0, 0⟩ : S58), (⟨2, 0, 4, 4, 0, 0⟩ : S58), (⟨0, 2, 2, 4, 0, 0⟩ : S58), (⟨1, 0, 2, 2, 0, 0⟩ : S58), (⟨0, 1, 1, 2, 0, 0⟩ : S58)] : List (S58))) :
    impl_Passes.l0 k a b [] T (T.length : Int) 0 = some (all a b) := by
  obtain ⟨k, rfl⟩ : ∃ m, k = m + 8 := ⟨k - 8, by omega⟩
  have h1 := one_len a b 0 0 8 8
  have h2 := one_len a b 4 0 8 8
  have h3 := one_len a b 0 4 4 8
  have h4 := one_len a b 2 0 4 4
  have h5 := one_len a b 0 2 2 4
  have h6 := one_len a b 1 0 2 2
  have h7 := one_len a b 0 1 1 2
  have hl : T.length = 7 := by rw [hT]; rfl
  rw [impl_step (k + 7) a b T _ 0 0 0 8 8 (by simp) ha ha' hb hb' (by omega) (by omega) (by omega) (by rw [hT]; rfl) (by omega) (by omega) (by omega) (by omega) (by omega) (by omega) (by omega) (by omega)]
  rw [impl_step (k + 6) a b T _ (0 + 1) 4 0 8 8 (by simp only [List.length_append, List.length_nil]; omega) ha ha' hb hb' (by omega) (by omega) (by omega) (by rw [hT]; rfl) (by omega) (by omega) (by omega) (by omega) (by omega) (by omega) (by omega) (by omega)]
  rw [impl_step (k + 5) a b T _ (0 + 1 + 1) 0 4 4 8 (by simp only [List.length_append, List.length_nil]; omega) ha ha' hb hb' (by omega) (by omega) (by omega) (by rw [hT]; rfl) (by omega) (by omega) (by omega) (by omega) (by omega) (by omega) (by omega) (by omega)]
  rw [impl_step (k + 4) a b T _ (0 + 1 + 1 + 1) 2 0 4 4 (by simp only [List.length_append, List.length_nil]; omega) ha ha' hb hb' (by omega) (by omega) (by omega) (by rw [hT]; rfl) (by omega) (by omega) (by omega) (by omega) (by omega) (by omega) (by omega) (by omega)]
  rw [impl_step (k + 3) a b T _ (0 + 1 + 1 + 1 + 1) 0 2 2 4 (by simp only [List.length_append, List.length_nil]; omega) ha ha' hb hb' (by omega) (by omega) (by omega) (by rw [hT]; rfl) (by omega) (by omega) (by omega) (by omega) (by omega) (by omega) (by omega) (by omega)]
  rw [impl_step (k + 2) a b T _ (0 + 1 + 1 + 1 + 1 + 1) 1 0 2 2 (by simp only [List.length_append, List.length_nil]; omega) ha ha' hb hb' (by omega) (by omega) (by omega) (by rw [hT]; rfl) (by omega) (by omega) (by omega) (by omega) (by omega) (by omega) (by omega) (by omega)]
  rw [impl_step (k + 1) a b T _ (0 + 1 + 1 + 1 + 1 + 1 + 1) 0 1 1 2 (by simp only [List.length_append, List.length_nil]; omega) ha ha' hb hb' (by omega) (by omega) (by omega) (by rw [hT]; rfl) (by omega) (by omega) (by omega) (by omega) (by omega) (by omega) (by omega) (by omega)]
  simp only [impl_Passes.l0]
  rw [if_neg (by omega)]
  rfl
theorem passes_all (a b : Int) (k : Nat) (hk : 20 ≤ k) : ∃ r : List S58, r.length ≤ 7 ∧ spec_Passes.f k a b = some r ∧ impl_Passes.f k a b = some r := by
  obtain ⟨k, rfl⟩ : ∃ m, k = m + 1 := ⟨k - 1, by omega⟩
  by_cases h1 : a ≥ 1
  · by_cases h2 : a ≤ 512
    · by_cases h3 : b ≥ 1
      · by_cases h4 : b ≤ 512
        · refine ⟨all a b, all_len a b, ?_, ?_⟩
          · unfold spec_Passes.f spec_l4Sides.f
            rw [if_pos h1, if_pos h2, if_pos h3, decide_eq_true h4]
            simp only [Option.bind_some, if_true]
            rw [spec_all (k + 1) (by omega) a b h1 h2 h3 h4]
            rfl
          · unfold impl_Passes.f impl_goodSide.f
            rw [if_pos h1, if_pos h3, decide_eq_true h2, decide_eq_true h4]
            simp only [Option.bind_some, if_true, Bool.not_true, impl_Passes.j0, Bool.false_eq_true, if_false]
            exact impl_all k (by omega) a b h1 h2 h3 h4 _ rfl
        · refine ⟨[], by simp, ?_, ?_⟩
          · unfold spec_Passes.f spec_l4Sides.f
            rw [if_pos h1, if_pos h2, if_pos h3, decide_eq_false h4]
            rfl
          · unfold impl_Passes.f impl_goodSide.f
            rw [if_pos h1, if_pos h3, decide_eq_true h2, decide_eq_false h4]
            simp only [Option.bind_some, if_true, Bool.not_false, impl_Passes.j0]
      · refine ⟨[], by simp, ?_, ?_⟩
        · unfold spec_Passes.f spec_l4Sides.f
          rw [if_pos h1, if_pos h2, if_neg h3]
          rfl
        · unfold impl_Passes.f impl_goodSide.f
          rw [if_pos h1, if_neg h3, decide_eq_true h2]
          simp only [Option.bind_some, if_true, Bool.not_false, impl_Passes.j0]
    · refine ⟨[], by simp, ?_, ?_⟩
      · unfold spec_Passes.f spec_l4Sides.f
        rw [if_pos h1, if_neg h2]
        rfl
      · unfold impl_Passes.f impl_goodSide.f
        rw [if_pos h1, decide_eq_false h2]
        simp only [Option.bind_some, if_true, Bool.false_eq_true, if_false, impl_Passes.j0]
  · refine ⟨[], by simp, ?_, ?_⟩
    · unfold spec_Passes.f spec_l4Sides.f
      rw [if_neg h1]
      rfl
    · unfold impl_Passes.f impl_goodSide.f
      rw [if_neg h1]
      simp only [Option.bind_some, if_true, Bool.false_eq_true, if_false, impl_Passes.j0]
theorem FnExactPasses : laws_FnExactPasses.Pure := by
  intro a b _ _
  refine ⟨20, ?_⟩
  obtain ⟨r, hr, e1, e2⟩ := passes_all a b 20 (Nat.le_refl _)
  have e3 := eqPassS_eq 20 r (by omega) (by omega)
  have e4 := markPassS_eq 20 r 1 (by omega) (by omega) (by omega) (by omega)
  have e5 := heldPassS_eq 20 r.length 1 (by omega) (by omega) (by omega) (by omega)
  unfold laws_FnExactPasses.f
  simp (disch := omega) only [if_pos, if_neg, decide_eq_true, decide_eq_false, if_true, Bool.false_eq_true, if_false, wrap64_id, u64_id, Option.bind_some, e1, e2, e3, e4, e5]

end Go.Proofs.Ytkhpcclddkddmaa.Pure
