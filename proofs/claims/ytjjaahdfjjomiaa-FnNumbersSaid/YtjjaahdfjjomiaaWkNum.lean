/- Walks of this seat's own: what the two PutNumber and heldByteS come to, each for every input that its hypotheses allow. -/
import Derived.Test.YtjjaahdfjjomiaaPFnExactUnpackRowx0
import Derived.Test.YtjjaahdfjjomiaaMy
namespace Go.Proofs.Ytjjaahdfjjomiaa.Wk
open Go.RowKit Go.Proofs.YtjjaahdfjjomiaaW.PrintWords Go.Proofs.YtjjaahdfjjomiaaW.PrintLast Go.Proofs.YtjjaahdfjjomiaaW.PrintMore
set_option linter.unusedVariables false
theorem info5 : (Try.prog.info? 5).map (fun i => (i.zero, i.size, i.bytes)) = some (some (.int .u8 0), 1, 1) := by kernel_rfl
theorem ret_int {k : IntKind} {a b : Int} (h : a = b) : Ending.returned (.int k a) = Ending.returned (.int k b) := by rw [h]
/-- The groups of seven bits of n, as bytes, m at most. -/
def groups : Nat → Int → List Int
  | 0, _ => []
  | m + 1, n => if n < 128 then [n] else (n % 128 + 128) :: groups m (n / 128)
theorem groups_length (m : Nat) : ∀ n, (groups m n).length ≤ m := by
  induction m with
  | zero => intro n; simp [groups]
  | succ m ih =>
    intro n
    unfold groups
    split
    · simp
    · simpa using ih (n / 128)
set_option maxHeartbeats 1000000 in
/-- The reference's PutNumber. -/
theorem put_spec (m : Nat) (n : Int) (h0 : 0 ≤ n) (hm : n < 128 ^ (m + 1)) (hm2 : m ≤ 20) (hu : n < 18446744073709551616) (w : World) :
    Calls Try.prog 26 #[.int .u64 n] w fun e w' => ∃ v : Value, e = .returned v ∧ Kd.R (Kd.int .u8) 5 w' w.heap.size (fun _ => True) v (groups (m + 1) n) ∧ Below w.heap.size w w' := by
  have HU := Aside0.mk hu
  clear hu
  go_enter Try.func26, Try.ntmps26
  go_wp2
  go_loopg [0, 3] m (fun q v0 v3 w' => ∃ (x : Int) (out : List Int), v0 = .int .u64 x ∧ Aside0 (0 ≤ x) ∧ Aside0 (x < 128 ^ (q + 1)) ∧ Aside0 (x < 18446744073709551616) ∧ Aside0 (out.length + q = m) ∧ Aside0 (out ++ groups (q + 1) x = groups (m + 1) n) ∧ Aside0 (Kd.R (Kd.int .u8) 5 w' w.heap.size (fun _ => True) v3 out) ∧ Aside0 (Below w.heap.size w w'))
  case atStart => exact ⟨n, [], rfl, ⟨h0⟩, ⟨hm⟩, HU, ⟨by simp⟩, ⟨rfl⟩, ⟨Kd.R_nil _ _ _ _ _⟩, ⟨Below.refl _ _⟩⟩
  case round =>
    obtain ⟨x, out, rfl, X0, X1, XU, L, G, HO, HB⟩ := hrel
    have x0 := X0.out
    clear h0 hm HU
    by_cases c : 128 ≤ x
    · obtain ⟨q, rfl⟩ : ∃ q, gk = q + 1 := ⟨gk - 1, by
        rcases gk with _ | q
        · have := X1.out
          rw [Int.pow_succ] at this
          omega
        · rfl⟩
      have c1 : decide (128 ≤ x) = true := decide_eq_true c
      have G2 : Aside0 (out ++ [x % 128 + 128] ++ groups (q + 1) (x / 128) = groups (m + 1) n) := ⟨by rw [← G.out]; simp [groups, show ¬ x < 128 by omega]⟩
      have X2 : Aside0 (x / 128 < 128 ^ (q + 1)) := ⟨by have := X1.out; rw [Int.pow_succ] at this; omega⟩
      have E := Aside0.mk (show IntKind.u64.wrap (x.tdiv 128) = x / 128 by rw [Int.tdiv_eq_ediv_of_nonneg x0, My.u64_id (by omega) (by have := XU.out; omega)])
      clear c G
      go_wp2_with (at_builtin; refine Kd.R_append (Kd.int .u8) (w0 := w) w.heap.size rfl (.tmp 6) (.tmp 11) 28 5 (.int .u8 0) 1 rfl Try.underlying28 info5 rfl (by decide) (by omega) u3 (out) (x % 128 + 128) [.int .u8 (x % 128 + 128)] (fun _ => True) (fun _ => False) rfl rfl ?aP (fun _ hk => hk.elim) ?aF ?aO ?aB ?aS ?aL ?_; (case aP => exact rfl); (case aB => exact HB.out); (case aF => exact fun _ _ => trivial); (case aO => exact HO.out); (case aS => exact below_size (HB.out)); (case aL => have := L.out; omega); intro v1 w1 ho hb hg hat; have HO2 := Aside0.mk ho; have HB2 := Aside0.mk hb; clear ho hb hg hat HO HB)
      go_roundg q
      case measure => omega
      case rel => exact ⟨x / 128, _, by rw [E.out], ⟨by omega⟩, X2, ⟨by have := XU.out; omega⟩, ⟨by have := L.out; simp; omega⟩, G2, HO2, HB2⟩
    · have c1 : decide (128 ≤ x) = false := decide_eq_false c
      have G2 : Aside0 (out ++ [x] = groups (m + 1) n) := ⟨by rw [← G.out]; simp [groups, show x < 128 by omega]⟩
      have x1 : x < 128 := by omega
      clear c G
      go_wp2_with (at_builtin; refine Kd.R_append (Kd.int .u8) (w0 := w) w.heap.size rfl (.tmp 15) (.tmp 18) 28 5 (.int .u8 0) 1 rfl Try.underlying28 info5 rfl (by decide) (by omega) u3 (out) (x) [.int .u8 (x)] (fun _ => True) (fun _ => False) rfl rfl ?aP (fun _ hk => hk.elim) ?aF ?aO ?aB ?aS ?aL ?_; (case aP => exact rfl); (case aB => exact HB.out); (case aF => exact fun _ _ => trivial); (case aO => exact HO.out); (case aS => exact below_size (HB.out)); (case aL => have := L.out; omega); intro v1 w1 ho hb hg hat; have HO2 := Aside0.mk ho; have HB2 := Aside0.mk hb; clear ho hb hg hat HO HB)
      go_ret
      rw [G2.out] at HO2
      exact ⟨_, rfl, HO2.out, HB2.out⟩
theorem or_128 {x : Int} (h : 0 ≤ x) : bits .or .u8 (x % 256) 128 = x % 128 + 128 := by
  have e : x % 256 = x % 128 ∨ x % 256 = x % 128 + 128 := by omega
  have key : ∀ b : Fin 256, bits .or .u8 ((b : Nat) : Int) 128 = ((b : Nat) : Int) % 128 + 128 := by decide +kernel
  have := key ⟨(x % 256).toNat, by omega⟩
  simp only [] at this
  rw [show (((x % 256).toNat : Nat) : Int) = x % 256 from Int.toNat_of_nonneg (by omega)] at this
  rw [this]
  omega
set_option maxHeartbeats 1000000 in
/-- The program's PutNumber. -/
theorem put_impl (m : Nat) (n : Int) (h0 : 0 ≤ n) (hm : n < 128 ^ (m + 1)) (hm2 : m ≤ 20) (w : World) :
    Calls Try.prog 27 #[.int .u64 n] w fun e w' => ∃ v : Value, e = .returned v ∧ Kd.R (Kd.int .u8) 5 w' w.heap.size (fun _ => True) v (groups (m + 1) n) ∧ Below w.heap.size w w' := by
  go_enter Try.func27, Try.ntmps27
  go_wp2
  go_loopg [0, 3] m (fun q v0 v3 w' => ∃ (x : Int) (out : List Int), v0 = .int .u64 x ∧ Aside0 (0 ≤ x) ∧ Aside0 (x < 128 ^ (q + 1)) ∧ Aside0 (out.length + q = m) ∧ Aside0 (out ++ groups (q + 1) x = groups (m + 1) n) ∧ Aside0 (Kd.R (Kd.int .u8) 5 w' w.heap.size (fun _ => True) v3 out) ∧ Aside0 (Below w.heap.size w w'))
  case atStart => exact ⟨n, [], rfl, ⟨h0⟩, ⟨hm⟩, ⟨by simp⟩, ⟨rfl⟩, ⟨Kd.R_nil _ _ _ _ _⟩, ⟨Below.refl _ _⟩⟩
  case round =>
    obtain ⟨x, out, rfl, X0, X1, L, G, HO, HB⟩ := hrel
    have x0 := X0.out
    clear h0 hm
    by_cases c : 127 < x
    · obtain ⟨q, rfl⟩ : ∃ q, gk = q + 1 := ⟨gk - 1, by
        rcases gk with _ | q
        · have := X1.out
          rw [Int.pow_succ] at this
          omega
        · rfl⟩
      have c1 : decide (127 < x) = true := decide_eq_true c
      have G2 : Aside0 (out ++ [bits .or .u8 (x % 256) 128] ++ groups (q + 1) (x / 128) = groups (m + 1) n) := ⟨by rw [← G.out, or_128 x0]; simp [groups, show ¬ x < 128 by omega]⟩
      have X2 : Aside0 (x / 128 < 128 ^ (q + 1)) := ⟨by have := X1.out; rw [Int.pow_succ] at this; omega⟩
      clear c G
      go_wp2_with (at_builtin; refine Kd.R_append (Kd.int .u8) (w0 := w) w.heap.size rfl (.tmp 6) (.tmp 10) 28 5 (.int .u8 0) 1 rfl Try.underlying28 info5 rfl (by decide) (by omega) u3 (out) (bits .or .u8 (x % 256) 128) [.int .u8 (bits .or .u8 (x % 256) 128)] (fun _ => True) (fun _ => False) rfl rfl ?aP (fun _ hk => hk.elim) ?aF ?aO ?aB ?aS ?aL ?_; (case aP => exact rfl); (case aB => exact HB.out); (case aF => exact fun _ _ => trivial); (case aO => exact HO.out); (case aS => exact below_size (HB.out)); (case aL => have := L.out; omega); intro v1 w1 ho hb hg hat; have HO2 := Aside0.mk ho; have HB2 := Aside0.mk hb; clear ho hb hg hat HO HB)
      go_roundg q
      case measure => omega
      case rel => exact ⟨x / 128, _, rfl, ⟨by omega⟩, X2, ⟨by have := L.out; simp; omega⟩, G2, HO2, HB2⟩
    · have c1 : decide (127 < x) = false := decide_eq_false c
      have G2 : Aside0 (out ++ [x] = groups (m + 1) n) := ⟨by rw [← G.out]; simp [groups, show x < 128 by omega]⟩
      have x1 : x < 128 := by omega
      clear c G
      go_wp2_with (at_builtin; refine Kd.R_append (Kd.int .u8) (w0 := w) w.heap.size rfl (.tmp 14) (.tmp 17) 28 5 (.int .u8 0) 1 rfl Try.underlying28 info5 rfl (by decide) (by omega) u3 (out) (x) [.int .u8 (x)] (fun _ => True) (fun _ => False) rfl rfl ?aP (fun _ hk => hk.elim) ?aF ?aO ?aB ?aS ?aL ?_; (case aP => exact rfl); (case aB => exact HB.out); (case aF => exact fun _ _ => trivial); (case aO => exact HO.out); (case aS => exact below_size (HB.out)); (case aL => have := L.out; omega); intro v1 w1 ho hb hg hat; have HO2 := Aside0.mk ho; have HB2 := Aside0.mk hb; clear ho hb hg hat HO HB)
      go_ret
      rw [G2.out] at HO2
      exact ⟨_, rfl, HO2.out, HB2.out⟩
set_option maxHeartbeats 1000000 in
/-- heldByteS of the bytes a, a + 1, ..: the number behind the last. -/
theorem held_calls (A : Option Addr) (c n : Nat) (a : Int) (h0 : 0 ≤ a) (h1 : a ≤ 1000000000) (hn : n ≤ 1000000000) (w : World) (hc : n ≤ c) (hr : Kd.C (Kd.int .u8) w A n (My.upB a n)) :
    Calls Try.prog 29 #[.slice A n c, .int .i64 a] w fun e w' => e = .returned (.int .i64 (a + n)) ∧ Drawn0 w w' := by
  have HR := Aside0.mk hr
  clear hr
  go_enter Try.func29, Try.ntmps29
  go_wp2
  go_loopg [1, 5] n (fun q v1 v5 w' => ∃ i : Nat, v1 = .int .i64 (a + (i : Int)) ∧ v5 = .int .i64 (i : Int) ∧ Aside0 (i + q = n) ∧ Drawn0 w w')
  case atStart => exact ⟨0, by simp, rfl, ⟨by omega⟩, Drawn0.refl _⟩
  case round =>
    obtain ⟨i, rfl, rfl, Q, ⟨nd, rfl⟩⟩ := hrel
    by_cases c : i < n
    · obtain ⟨q, rfl⟩ : ∃ q, gk = q + 1 := ⟨gk - 1, by have := Q.out; omega⟩
      have c1 : decide (i < n) = true := decide_eq_true c
      obtain ⟨ad, e1, hx⟩ := Kd.at_int HR.out (i : Int) (by omega) (by omega)
      rw [My.rd_nat, My.upB_get n a i c, Int.toNat_natCast] at hx
      subst e1
      go_wp2
      go_roundg q
      case measure => omega
      case rel => exact ⟨i + 1, by rw [show a + ((i + 1 : Nat) : Int) = a + (i : Int) + 1 by omega], by go_num, ⟨by have := Q.out; omega⟩, by repeat (first | exact Drawn0.refl _ | apply Drawn0.step)⟩
    · have c1 : decide (i < n) = false := decide_eq_false c
      have E := Aside0.mk (show i = n by have := Q.out; omega)
      go_wp2
      go_ret
      exact ⟨ret_int (show a + (i : Int) = a + (n : Int) by rw [E.out]), by repeat (first | exact Drawn0.refl _ | apply Drawn0.step)⟩
end Go.Proofs.Ytjjaahdfjjomiaa.Wk
