/- Walks of this seat's own: the parts of FilterRow and UnfilterRow. -/
import Derived.Test.YtkhpcclddkddmaaWkHD
namespace Go.Proofs.Ytkhpcclddkddmaa.Wk
open Go.RowKit Go.Proofs.YtkhpcclddkddmaaW.PrintWords Go.Proofs.YtkhpcclddkddmaaW.PrintLast Go.Proofs.YtkhpcclddkddmaaW.PrintMore Go.Proofs.Ytkhpcclddkddmaa.My
set_option linter.unusedVariables false
set_option linter.unusedSimpArgs false
attribute [local go_sem] max2_int min2_int max_two min_two
def okF (k s : Int) (la lr : Nat) : Bool := decide (0 ≤ k) && (decide (k ≤ 4) && (decide (1 ≤ s) && (decide (s ≤ 8) && (decide (lr ≤ 4096) && (decide (la = 0) || decide (la = lr))))))
theorem okF_iff {k s : Int} {la lr : Nat} : okF k s la lr = true ↔ 0 ≤ k ∧ k ≤ 4 ∧ 1 ≤ s ∧ s ≤ 8 ∧ lr ≤ 4096 ∧ (la = 0 ∨ la = lr) := by
  unfold okF
  simp only [Bool.and_eq_true, Bool.or_eq_true, decide_eq_true_eq]
theorem beq0 (n : Nat) : ((n : Int) == 0) = decide (n = 0) := by rw [Bool.eq_iff_iff]; simp
theorem beqN (n m : Nat) : ((n : Int) == (m : Int)) = decide (n = m) := by rw [Bool.eq_iff_iff]; simp; omega
set_option maxHeartbeats 4000000 in
theorem filterOk_calls (k s : Int) (Aa Ar : Option Addr) (na ca nr cr : Nat) (ha : na ≤ 1048576) (hr : nr ≤ 1048576) (w : World) :
    Calls Try.prog 33 #[.int .i64 k, .int .i64 s, .slice Aa na ca, .slice Ar nr cr] w fun e w' => e = .returned (.bool (okF k s na nr)) ∧ w' = w := by
  obtain ⟨r, hr⟩ : ∃ r, r = okF k s na nr := ⟨_, rfl⟩
  rw [← hr]
  have HR := Aside0.mk hr
  clear hr
  by_cases h1 : 0 ≤ k
  case neg =>
    have t1 : decide (0 ≤ k) = false := decide_eq_false h1
    have E : Aside0 (r = false) := ⟨by rw [HR.out]; unfold okF; rw [t1]; rfl⟩
    go_enter Try.func33, Try.ntmps33
    go_wp2
    go_ret
    exact ⟨by rw [E.out]; rfl, rfl⟩
  have t1 : decide (0 ≤ k) = true := decide_eq_true h1
  by_cases h2 : k ≤ 4
  case neg =>
    have t2 : decide (k ≤ 4) = false := decide_eq_false h2
    have E : Aside0 (r = false) := ⟨by rw [HR.out]; unfold okF; rw [t1, t2]; rfl⟩
    go_enter Try.func33, Try.ntmps33
    go_wp2
    go_ret
    exact ⟨by rw [E.out]; rfl, rfl⟩
  have t2 : decide (k ≤ 4) = true := decide_eq_true h2
  by_cases h3 : 1 ≤ s
  case neg =>
    have t3 : decide (1 ≤ s) = false := decide_eq_false h3
    have E : Aside0 (r = false) := ⟨by rw [HR.out]; unfold okF; rw [t1, t2, t3]; rfl⟩
    go_enter Try.func33, Try.ntmps33
    go_wp2
    go_ret
    exact ⟨by rw [E.out]; rfl, rfl⟩
  have t3 : decide (1 ≤ s) = true := decide_eq_true h3
  by_cases h4 : s ≤ 8
  case neg =>
    have t4 : decide (s ≤ 8) = false := decide_eq_false h4
    have E : Aside0 (r = false) := ⟨by rw [HR.out]; unfold okF; rw [t1, t2, t3, t4]; rfl⟩
    go_enter Try.func33, Try.ntmps33
    go_wp2
    go_ret
    exact ⟨by rw [E.out]; rfl, rfl⟩
  have t4 : decide (s ≤ 8) = true := decide_eq_true h4
  by_cases h5 : nr ≤ 4096
  case neg =>
    have t5 : decide ((nr : Int) ≤ 4096) = false := decide_eq_false (by omega)
    have E : Aside0 (r = false) := ⟨by rw [HR.out]; unfold okF; rw [t1, t2, t3, t4, decide_eq_false h5]; rfl⟩
    go_enter Try.func33, Try.ntmps33
    go_wp2
    go_ret
    exact ⟨by rw [E.out]; rfl, rfl⟩
  have t5 : decide ((nr : Int) ≤ 4096) = true := decide_eq_true (by omega)
  have R1 : Aside0 (r = (decide (na = 0) || decide (na = nr))) := ⟨by rw [HR.out]; unfold okF; rw [t1, t2, t3, t4, decide_eq_true h5]; rfl⟩
  by_cases h6 : na = 0
  · have E : Aside0 (r = true) := ⟨by rw [R1.out, decide_eq_true h6]; rfl⟩
    have t6 : ((na : Int) == 0) = true := by rw [beq0, decide_eq_true h6]
    clear h6 R1
    go_enter Try.func33, Try.ntmps33
    go_wp2
    go_ret
    exact ⟨by rw [E.out]; rfl, rfl⟩
  · have E : Aside0 (r = decide (na = nr)) := ⟨by rw [R1.out, decide_eq_false h6]; rfl⟩
    have t6 : ((na : Int) == 0) = false := by rw [beq0, decide_eq_false h6]
    clear h6 R1
    go_enter Try.func33, Try.ntmps33
    go_wp2
    go_ret
    exact ⟨by rw [E.out, ← beqN]; rfl, rfl⟩
set_option maxHeartbeats 4000000 in
theorem goodRow_calls (k s : Int) (Aa Ar : Option Addr) (na ca nr cr : Nat) (ha : na ≤ 1048576) (hr : nr ≤ 1048576) (w : World) :
    Calls Try.prog 36 #[.int .i64 k, .int .i64 s, .slice Aa na ca, .slice Ar nr cr] w fun e w' => e = .returned (.bool (okF k s na nr)) ∧ w' = w := by
  obtain ⟨r, hr⟩ : ∃ r, r = okF k s na nr := ⟨_, rfl⟩
  rw [← hr]
  have HR := Aside0.mk hr
  clear hr
  by_cases h1 : 0 ≤ k
  case neg =>
    have t1 : decide (0 ≤ k) = false := decide_eq_false h1
    have E : Aside0 (r = false) := ⟨by rw [HR.out]; unfold okF; rw [t1]; rfl⟩
    go_enter Try.func36, Try.ntmps36
    go_wp2
    go_ret
    exact ⟨by rw [E.out]; rfl, rfl⟩
  have t1 : decide (0 ≤ k) = true := decide_eq_true h1
  by_cases h2 : k ≤ 4
  case neg =>
    have t2 : decide (k ≤ 4) = false := decide_eq_false h2
    have E : Aside0 (r = false) := ⟨by rw [HR.out]; unfold okF; rw [t1, t2]; rfl⟩
    go_enter Try.func36, Try.ntmps36
    go_wp2
    go_ret
    exact ⟨by rw [E.out]; rfl, rfl⟩
  have t2 : decide (k ≤ 4) = true := decide_eq_true h2
  by_cases h3 : 1 ≤ s
  case neg =>
    have t3 : decide (1 ≤ s) = false := decide_eq_false h3
    have E : Aside0 (r = false) := ⟨by rw [HR.out]; unfold okF; rw [t1, t2, t3]; rfl⟩
    go_enter Try.func36, Try.ntmps36
    go_wp2
    go_ret
    exact ⟨by rw [E.out]; rfl, rfl⟩
  have t3 : decide (1 ≤ s) = true := decide_eq_true h3
  by_cases h4 : s ≤ 8
  case neg =>
    have t4 : decide (s ≤ 8) = false := decide_eq_false h4
    have E : Aside0 (r = false) := ⟨by rw [HR.out]; unfold okF; rw [t1, t2, t3, t4]; rfl⟩
    go_enter Try.func36, Try.ntmps36
    go_wp2
    go_ret
    exact ⟨by rw [E.out]; rfl, rfl⟩
  have t4 : decide (s ≤ 8) = true := decide_eq_true h4
  by_cases h5 : nr ≤ 4096
  case neg =>
    have t5 : decide ((nr : Int) ≤ 4096) = false := decide_eq_false (by omega)
    have E : Aside0 (r = false) := ⟨by rw [HR.out]; unfold okF; rw [t1, t2, t3, t4, decide_eq_false h5]; rfl⟩
    go_enter Try.func36, Try.ntmps36
    go_wp2
    go_ret
    exact ⟨by rw [E.out]; rfl, rfl⟩
  have t5 : decide ((nr : Int) ≤ 4096) = true := decide_eq_true (by omega)
  have R1 : Aside0 (r = (decide (na = 0) || decide (na = nr))) := ⟨by rw [HR.out]; unfold okF; rw [t1, t2, t3, t4, decide_eq_true h5]; rfl⟩
  by_cases h6 : na = 0
  · have E : Aside0 (r = true) := ⟨by rw [R1.out, decide_eq_true h6]; rfl⟩
    have t6 : ((na : Int) == 0) = true := by rw [beq0, decide_eq_true h6]
    clear h6 R1
    go_enter Try.func36, Try.ntmps36
    go_wp2
    go_ret
    exact ⟨by rw [E.out]; rfl, rfl⟩
  · have E : Aside0 (r = decide (na = nr)) := ⟨by rw [R1.out, decide_eq_false h6]; rfl⟩
    have t6 : ((na : Int) == 0) = false := by rw [beq0, decide_eq_false h6]
    clear h6 R1
    go_enter Try.func36, Try.ntmps36
    go_wp2
    go_ret
    exact ⟨by rw [E.out, ← beqN]; rfl, rfl⟩
def iabs (n : Int) : Int := if n < 0 then -n else n
def atV (l : List Int) (i : Int) : Int := if i < 0 then 0 else rd l i
theorem atV_byte {l : List Int} (h : ∀ x ∈ l, (Lit.int .u8 x).wf = true) (i : Int) : 0 ≤ atV l i ∧ atV l i ≤ 255 := by
  unfold atV
  split
  · omega
  · exact rd_byte h i
def gs (k a b c : Int) : Int :=
  if k = 1 then a else if k = 2 then b else if k = 3 then (a + b) / 2 else if k = 4 then
    (if iabs (a + b - c - a) ≤ iabs (a + b - c - b) ∧ iabs (a + b - c - a) ≤ iabs (a + b - c - c) then a else if iabs (a + b - c - b) ≤ iabs (a + b - c - c) then b else c) else 0
theorem gs_byte {k a b c : Int} (ha : 0 ≤ a ∧ a ≤ 255) (hb : 0 ≤ b ∧ b ≤ 255) (hc : 0 ≤ c ∧ c ≤ 255) : 0 ≤ gs k a b c ∧ gs k a b c ≤ 255 := by
  unfold gs
  repeat' split
  all_goals omega
set_option maxHeartbeats 1000000 in
theorem abs_calls (n : Int) (h : -1000 ≤ n ∧ n ≤ 1000) (w : World) : Calls Try.prog 52 #[.int .i64 n] w fun e w' => e = .returned (.int .i64 (iabs n)) ∧ w' = w := by
  by_cases h0 : n < 0
  · have E : Aside0 (iabs n = -n) := ⟨by unfold iabs; rw [if_pos h0]⟩
    go_enter Try.func52, Try.ntmps52
    go_wp2
    go_ret
    exact ⟨by rw [E.out]; rfl, rfl⟩
  · have E : Aside0 (iabs n = n) := ⟨by unfold iabs; rw [if_neg h0]⟩
    go_enter Try.func52, Try.ntmps52
    go_wp2
    go_ret
    exact ⟨by rw [E.out]; rfl, rfl⟩
set_option maxHeartbeats 1000000 in
theorem away_calls (a b : Int) (ha : -1000 ≤ a ∧ a ≤ 1000) (hb : -1000 ≤ b ∧ b ≤ 1000) (w : World) : Calls Try.prog 53 #[.int .i64 a, .int .i64 b] w fun e w' => e = .returned (.int .i64 (iabs (a - b))) ∧ w' = w := by
  by_cases h0 : a - b < b - a
  · have E : Aside0 (iabs (a - b) = b - a) := ⟨by unfold iabs; split <;> omega⟩
    go_enter Try.func53, Try.ntmps53
    go_wp2
    go_ret
    exact ⟨by rw [E.out]; rfl, rfl⟩
  · have E : Aside0 (iabs (a - b) = a - b) := ⟨by unfold iabs; split <;> omega⟩
    go_enter Try.func53, Try.ntmps53
    go_wp2
    go_ret
    exact ⟨by rw [E.out]; rfl, rfl⟩
set_option maxHeartbeats 1000000 in
theorem at_calls (A : Option Addr) (c : Nat) (l : List Int) (i : Int) (hi : -100 ≤ i ∧ i ≤ 1048576) (hl : l.length ≤ 1048576) (hw : ∀ x ∈ l, (Lit.int .u8 x).wf = true) (w : World) (hr : Kd.C (Kd.int .u8) w A l.length l) :
    Calls Try.prog 35 #[.slice A l.length c, .int .i64 i] w fun e w' => e = .returned (.int .i64 (atV l i)) ∧ w' = w := by
  have HR := Aside0.mk hr
  have HW := Aside0.mk hw
  clear hr hw
  by_cases h0 : i < 0
  · have E : Aside0 (atV l i = 0) := ⟨by unfold atV; rw [if_pos h0]⟩
    have t1 : decide (i < 0) = true := decide_eq_true h0
    go_enter Try.func35, Try.ntmps35
    go_wp2
    go_ret
    exact ⟨by rw [E.out]; rfl, rfl⟩
  have t1 : decide (i < 0) = false := decide_eq_false h0
  by_cases h1 : (l.length : Int) ≤ i
  · have E : Aside0 (atV l i = 0) := ⟨by unfold atV; rw [if_neg h0]; simp [rd, List.getD, List.getElem?_eq_none (show l.length ≤ i.toNat by omega)]⟩
    have t2 : decide ((l.length : Int) ≤ i) = true := decide_eq_true h1
    go_enter Try.func35, Try.ntmps35
    go_wp2
    go_ret
    exact ⟨by rw [E.out]; rfl, rfl⟩
  have t2 : decide ((l.length : Int) ≤ i) = false := decide_eq_false h1
  have E : Aside0 (atV l i = rd l i) := ⟨by unfold atV; rw [if_neg h0]⟩
  obtain ⟨ad1, e1, hx1⟩ := Kd.at_int HR.out i (by omega) (by omega)
  obtain ⟨b, hb⟩ : ∃ b, b = rd l i := ⟨_, rfl⟩
  rw [← hb] at hx1
  have bb := rd_byte HW.out i
  rw [← hb] at bb
  have HB := Aside0.mk hb
  clear hb
  subst e1
  go_enter Try.func35, Try.ntmps35
  go_wp2
  go_ret
  exact ⟨by rw [E.out, ← HB.out]; rfl, rfl⟩
end Go.Proofs.Ytkhpcclddkddmaa.Wk
