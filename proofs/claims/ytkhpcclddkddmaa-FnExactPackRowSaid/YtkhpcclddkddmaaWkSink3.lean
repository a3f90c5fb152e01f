/- Walks of this seat's own: what putting a number's bits comes to. -/
import Derived.Test.YtkhpcclddkddmaaWkSink2
namespace Go.Proofs.Ytkhpcclddkddmaa.Wk
open Go.RowKit Go.Proofs.YtkhpcclddkddmaaW.PrintWords Go.Proofs.YtkhpcclddkddmaaW.PrintLast Go.Proofs.YtkhpcclddkddmaaW.PrintMore Go.Proofs.Ytkhpcclddkddmaa.My
set_option linter.unusedVariables false
set_option linter.unusedSimpArgs false
theorem bits8 (x y : Int) : 0 ≤ bits .or .u8 x y ∧ bits .or .u8 x y ≤ 255 := by
  have h := (BitVec.ofInt 8 x ||| BitVec.ofInt 8 y).isLt
  have e : bits .or .u8 x y = ((BitVec.ofInt 8 x ||| BitVec.ofInt 8 y).toNat : Int) := by
    show IntKind.u8.wrap (((BitVec.ofInt 8 x ||| BitVec.ofInt 8 y).toNat : Nat) : Int) = _
    have w : ∀ z : Int, IntKind.u8.wrap z = z % 256 := fun z => by simp [IntKind.wrap, IntKind.bits, IntKind.signed]
    rw [w]; omega
  rw [e]; omega
theorem bitL_bytes {l : List Int} (n : Nat) (b : Int) (h : ∀ x ∈ l, 0 ≤ x ∧ x ≤ 255) : ∀ x ∈ bitL l n b, 0 ≤ x ∧ x ≤ 255 := by
  unfold bitL
  split
  · intro x hx
    rcases List.mem_or_eq_of_mem_set hx with h1 | h1
    · exact grow_bytes n h x h1
    · rw [h1]; exact bits8 _ _
  · exact grow_bytes n h
/-- The bytes behind the first i bits of v's d bits. -/
def PB (l : List Int) (n : Nat) (v : Int) (d : Nat) : Nat → List Int
  | 0 => l
  | i + 1 => bitL (PB l n v d i) (n + i) (v / 2 ^ (d - 1 - i) % 2)
theorem PB_length {l : List Int} {n : Nat} (v : Int) (d : Nat) (h : l.length = (n + 7) / 8) (i : Nat) : (PB l n v d i).length = (n + i + 7) / 8 := by
  induction i with
  | zero => exact h
  | succ i ih => rw [PB, bitL_length _ ih]; rfl
theorem PB_bytes {l : List Int} (n : Nat) (v : Int) (d : Nat) (h : ∀ x ∈ l, 0 ≤ x ∧ x ≤ 255) (i : Nat) : ∀ x ∈ PB l n v d i, 0 ≤ x ∧ x ≤ 255 := by
  induction i with
  | zero => exact h
  | succ i ih => rw [PB]; exact bitL_bytes _ _ ih
theorem bit_specN (w0 w : World) (gs : Nat) (sl : Value) (l : List Int) (n : Nat) (b' b n' n'' : Int) (hb' : b' = b) (hn' : n' = (n : Int)) (hn'' : n'' = ((n + 1 : Nat) : Int)) (hb : b = 0 ∨ b = 1) (hn : n ≤ 1000000) (hl : l.length = (n + 7) / 8) (hg : w0.heap.size ≤ gs)
    (hv : w.heap[gs]? = some (.cells #[.bool true, sl, .int .i64 n'] 69 (0, 0))) (hr : Kd.R (Kd.int .u8) 5 w w0.heap.size (fun k => k ≠ gs) sl l) (hB : Below w0.heap.size w0 w) :
    Calls Try.prog 58 #[.pointer (some ⟨gs, 0, none⟩), .int .u64 b'] w fun e w' => e = .returned (.tuple #[]) ∧ ∃ sl' : Value, w'.heap[gs]? = some (.cells #[.bool true, sl', .int .i64 n''] 69 (0, 0)) ∧ Kd.R (Kd.int .u8) 5 w' w0.heap.size (fun k => k ≠ gs) sl' (bitL l n b) ∧ Below w0.heap.size w0 w' := by
  subst hb' hn' hn''
  exact bit_spec w0 w gs sl l n b' hb hn hl hg hv hr hB
theorem bit_implN (w0 w : World) (gs : Nat) (sl : Value) (l : List Int) (n : Nat) (v0 b n' n'' : Int) (hn' : n' = (n : Int)) (hn'' : n'' = ((n + 1 : Nat) : Int)) (hb : b = v0 % 2) (hby : ∀ x ∈ l, 0 ≤ x ∧ x ≤ 255) (hn : n ≤ 1000000) (hl : l.length = (n + 7) / 8) (hg : w0.heap.size ≤ gs)
    (hv : w.heap[gs]? = some (.cells #[sl, .int .i64 n', .bool true] 54 (0, 0))) (hr : Kd.R (Kd.int .u8) 5 w w0.heap.size (fun k => k ≠ gs) sl l) (hB : Below w0.heap.size w0 w) :
    Calls Try.prog 55 #[.pointer (some ⟨gs, 0, none⟩), .int .u64 v0] w fun e w' => e = .returned (.tuple #[]) ∧ ∃ sl' : Value, w'.heap[gs]? = some (.cells #[sl', .int .i64 n'', .bool true] 54 (0, 0)) ∧ Kd.R (Kd.int .u8) 5 w' w0.heap.size (fun k => k ≠ gs) sl' (bitL l n b) ∧ Below w0.heap.size w0 w' := by
  subst hn' hn''
  exact bit_impl w0 w gs sl l n v0 b hb hby hn hl hg hv hr hB
set_option maxHeartbeats 40000000 in
theorem put_spec (w0 w : World) (gs : Nat) (sl : Value) (l : List Int) (n d : Nat) (v : Int) (hd : d ≤ 16) (v0 : 0 ≤ v) (v1 : v ≤ 65535) (hn : n ≤ 900000) (hl : l.length = (n + 7) / 8) (hg : w0.heap.size ≤ gs)
    (hv : w.heap[gs]? = some (.cells #[.bool true, sl, .int .i64 (n : Int)] 69 (0, 0))) (hr : Kd.R (Kd.int .u8) 5 w w0.heap.size (fun k => k ≠ gs) sl l) (hB : Below w0.heap.size w0 w) :
    Calls Try.prog 54 #[.pointer (some ⟨gs, 0, none⟩), .int .i64 (d : Int), .int .u64 v] w fun e w' => e = .returned (.tuple #[]) ∧ ∃ sl' : Value, w'.heap[gs]? = some (.cells #[.bool true, sl', .int .i64 ((n + d : Nat) : Int)] 69 (0, 0)) ∧ Kd.R (Kd.int .u8) 5 w' w0.heap.size (fun k => k ≠ gs) sl' (PB l n v d d) ∧ Below w0.heap.size w0 w' := by
  have HV := Aside0.mk hv
  have HO := Aside0.mk hr
  have HB := Aside0.mk hB
  have HLn := Aside0.mk hl
  clear hv hr hB hl
  go_enter Try.func54, Try.ntmps54
  go_wp2
  go_loopg [6] d (fun q v6 w' => ∃ (i : Nat) (sl' : Value), v6 = .int .i64 (i : Int) ∧ Aside0 (i + q = d) ∧ Aside0 (w'.heap[gs]? = some (.cells #[.bool true, sl', .int .i64 ((n + i : Nat) : Int)] 69 (0, 0))) ∧ Aside0 (Kd.R (Kd.int .u8) 5 w' w0.heap.size (fun k => k ≠ gs) sl' (PB l n v d i)) ∧ Aside0 (Below w0.heap.size w0 w'))
  case atStart => exact ⟨0, _, rfl, ⟨by omega⟩, HV, HO, HB⟩
  case round =>
    clear HV HO HB
    obtain ⟨i, sl', rfl, Q, HV, HO, HB⟩ := hrel
    by_cases ci : i < d
    · obtain ⟨q, rfl⟩ : ∃ q, gk = q + 1 := ⟨gk - 1, by have := Q.out; omega⟩
      have f0 : wr.cell? ⟨gs, 0, none⟩ = some (.bool true) := (blk_cell HV.out 0).trans rfl
      obtain ⟨e, he⟩ : ∃ e : Nat, e = d - 1 - i := ⟨_, rfl⟩
      have ee : (d : Int) - 1 - (i : Int) = (e : Int) := by omega
      have eb : e ≤ 15 := by omega
      have HE := Aside0.mk he
      clear he
      go_wp2_with fail
      refine (bit_specN w0 _ gs _ _ (n + i) _ (v / 2 ^ e % 2) _ ((n + (i + 1) : Nat) : Int) (and_u64_one _) rfl rfl (by omega) (by omega) (PB_length v d HLn.out i) hg HV.out HO.out HB.out).mono ?_
      rintro e' w5 ⟨rfl, sl5, hv5, ho5, hb5⟩
      rw [HE.out] at ho5
      have HV5 := Aside0.mk hv5
      have HO5 := Aside0.mk ho5
      have HB5 := Aside0.mk hb5
      clear hv5 ho5 hb5 HV HO HB
      go_wp2
      go_roundg q
      case measure => omega
      case rel => exact ⟨i + 1, _, by go_num, ⟨by have := Q.out; omega⟩, HV5, HO5, HB5⟩
    · have E1 : Aside0 (i = d) := ⟨by have := Q.out; omega⟩
      rw [E1.out] at HV HO
      go_wp2
      go_end0
      exact ⟨rfl, _, HV.out, HO.out, HB.out⟩
set_option maxHeartbeats 40000000 in
theorem high_impl (w0 w : World) (gs : Nat) (sl : Value) (l : List Int) (n d : Nat) (v : Int) (hd : d ≤ 16) (v0 : 0 ≤ v) (v1 : v ≤ 65535) (hn : n ≤ 900000) (hl : l.length = (n + 7) / 8) (hby : ∀ x ∈ l, 0 ≤ x ∧ x ≤ 255) (hg : w0.heap.size ≤ gs)
    (hv : w.heap[gs]? = some (.cells #[sl, .int .i64 (n : Int), .bool true] 54 (0, 0))) (hr : Kd.R (Kd.int .u8) 5 w w0.heap.size (fun k => k ≠ gs) sl l) (hB : Below w0.heap.size w0 w) :
    Calls Try.prog 42 #[.pointer (some ⟨gs, 0, none⟩), .int .u64 v, .int .i64 (d : Int)] w fun e w' => e = .returned (.tuple #[]) ∧ ∃ sl' : Value, w'.heap[gs]? = some (.cells #[sl', .int .i64 ((n + d : Nat) : Int), .bool true] 54 (0, 0)) ∧ Kd.R (Kd.int .u8) 5 w' w0.heap.size (fun k => k ≠ gs) sl' (PB l n v d d) ∧ Below w0.heap.size w0 w' := by
  have HV := Aside0.mk hv
  have HO := Aside0.mk hr
  have HB := Aside0.mk hB
  have HLn := Aside0.mk hl
  clear hv hr hB hl
  go_enter Try.func42, Try.ntmps42
  go_wp2
  go_loopg [6] d (fun q v6 w' => ∃ (i : Nat) (sl' : Value), v6 = .int .i64 ((d : Int) - 1 - (i : Int)) ∧ Aside0 (i + q = d) ∧ Aside0 (w'.heap[gs]? = some (.cells #[sl', .int .i64 ((n + i : Nat) : Int), .bool true] 54 (0, 0))) ∧ Aside0 (Kd.R (Kd.int .u8) 5 w' w0.heap.size (fun k => k ≠ gs) sl' (PB l n v d i)) ∧ Aside0 (Below w0.heap.size w0 w'))
  case atStart => exact ⟨0, _, by simp, ⟨by omega⟩, HV, HO, HB⟩
  case round =>
    clear HV HO HB
    obtain ⟨i, sl', rfl, Q, HV, HO, HB⟩ := hrel
    by_cases ci : i < d
    · obtain ⟨q, rfl⟩ : ∃ q, gk = q + 1 := ⟨gk - 1, by have := Q.out; omega⟩
      have t0 : decide (0 ≤ (d : Int) - 1 - (i : Int)) = true := decide_eq_true (by omega)
      obtain ⟨e, he⟩ : ∃ e : Nat, e = d - 1 - i := ⟨_, rfl⟩
      have ee : (d : Int) - 1 - (i : Int) = (e : Int) := by omega
      rw [ee] at t0 ⊢
      have eb : e ≤ 15 := by omega
      have HE := Aside0.mk he
      clear he
      go_wp2_with fail
      refine (bit_implN w0 _ gs _ _ (n + i) _ (v / 2 ^ e % 2) _ ((n + (i + 1) : Nat) : Int) rfl rfl rfl (PB_bytes n v d hby i) (by omega) (PB_length v d HLn.out i) hg HV.out HO.out HB.out).mono ?_
      rintro e' w5 ⟨rfl, sl5, hv5, ho5, hb5⟩
      rw [HE.out] at ho5
      have HV5 := Aside0.mk hv5
      have HO5 := Aside0.mk ho5
      have HB5 := Aside0.mk hb5
      clear hv5 ho5 hb5 HV HO HB
      go_wp2
      go_roundg q
      case measure => omega
      case rel => exact ⟨i + 1, _, congrArg (Value.int .i64) (by omega), ⟨by have := Q.out; omega⟩, HV5, HO5, HB5⟩
    · have E1 : Aside0 (i = d) := ⟨by have := Q.out; omega⟩
      have t0 : decide (0 ≤ (d : Int) - 1 - (i : Int)) = false := decide_eq_false (by omega)
      rw [E1.out] at HV HO
      go_wp2
      go_end0
      exact ⟨rfl, _, HV.out, HO.out, HB.out⟩
end Go.Proofs.Ytkhpcclddkddmaa.Wk
