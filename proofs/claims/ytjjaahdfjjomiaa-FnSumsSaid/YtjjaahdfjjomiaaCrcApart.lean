/- A byte turned turns the sum: plain facts on the sum that the two Crc come to. -/
import Derived.Test.YtjjaahdfjjomiaaWkCrc
namespace Go.Proofs.Ytjjaahdfjjomiaa.Wk
open Go.RowKit Go.Proofs.YtjjaahdfjjomiaaW.PrintWords Go.Proofs.YtjjaahdfjjomiaaW.PrintLast Go.Proofs.YtjjaahdfjjomiaaW.PrintMore Go.Proofs.Ytjjaahdfjjomiaa.My
theorem bv_xor_cancel {n : Nat} {a a' b : BitVec n} (h : a ^^^ b = a' ^^^ b) : a = a' := by
  have := congrArg (· ^^^ b) h
  simpa [BitVec.xor_assoc] using this
theorem ofInt_inj {x y : Int} (hx : 0 ≤ x) (hx1 : x < 4294967296) (hy : 0 ≤ y) (hy1 : y < 4294967296) (h : BitVec.ofInt 32 x = BitVec.ofInt 32 y) : x = y := by
  have := congrArg BitVec.toNat h
  rw [BitVec.toNat_ofInt, BitVec.toNat_ofInt] at this
  omega
theorem xor_u32_inj {x y c : Int} (hx : 0 ≤ x) (hx1 : x < 4294967296) (hy : 0 ≤ y) (hy1 : y < 4294967296) (h : bits .xor .u32 x c = bits .xor .u32 y c) : x = y := by
  rw [bits_u32_xor, bits_u32_xor] at h
  have e : BitVec.ofInt 32 x ^^^ BitVec.ofInt 32 c = BitVec.ofInt 32 y ^^^ BitVec.ofInt 32 c := BitVec.eq_of_toNat_eq (by omega)
  exact ofInt_inj hx hx1 hy hy1 (bv_xor_cancel e)
theorem xor_u32_comm (x c : Int) : bits .xor .u32 x c = bits .xor .u32 c x := by rw [bits_u32_xor, bits_u32_xor, BitVec.xor_comm]
theorem xor_u32_inj' {x y c : Int} (hx : 0 ≤ x) (hx1 : x < 4294967296) (hy : 0 ≤ y) (hy1 : y < 4294967296) (h : bits .xor .u32 c x = bits .xor .u32 c y) : x = y := by
  rw [xor_u32_comm c x, xor_u32_comm c y] at h
  exact xor_u32_inj hx hx1 hy hy1 h
theorem poly_high {x : Int} (h0 : 0 ≤ x) (h1 : x < 2147483648) : 2147483648 ≤ bits .xor .u32 x 3988292384 := by
  rw [bits_u32_xor]
  have hx : (BitVec.ofInt 32 x).msb = false := by
    rw [BitVec.msb_eq_false_iff_two_mul_lt, BitVec.toNat_ofInt]
    omega
  have hp : (BitVec.ofInt 32 (3988292384 : Int)).msb = true := by decide
  have h : (BitVec.ofInt 32 x ^^^ BitVec.ofInt 32 3988292384).msb = true := by rw [BitVec.msb_xor, hx, hp]; rfl
  rw [BitVec.msb_eq_true_iff_two_mul_ge] at h
  omega
theorem crcBit_inj {x y : Int} (hx : 0 ≤ x) (hx1 : x < 4294967296) (hy : 0 ≤ y) (hy1 : y < 4294967296) (h : crcBit x = crcBit y) : x = y := by
  unfold crcBit at h
  by_cases px : x % 2 = 1
  · by_cases py : y % 2 = 1
    · rw [if_pos px, if_pos py] at h
      have := xor_u32_inj (by omega) (by omega) (by omega) (by omega) h
      omega
    · rw [if_pos px, if_neg py] at h
      have := poly_high (x := x / 2) (by omega) (by omega)
      omega
  · by_cases py : y % 2 = 1
    · rw [if_neg px, if_pos py] at h
      have := poly_high (x := y / 2) (by omega) (by omega)
      omega
    · rw [if_neg px, if_neg py] at h
      omega
theorem crcBits_inj (n : Nat) : ∀ {x y : Int}, 0 ≤ x → x < 4294967296 → 0 ≤ y → y < 4294967296 → crcBits n x = crcBits n y → x = y := by
  induction n with
  | zero => intro x y _ _ _ _ h; exact h
  | succ n ih =>
    intro x y hx hx1 hy hy1 h
    have bx := crcBit_range hx hx1
    have by_ := crcBit_range hy hy1
    exact crcBit_inj hx hx1 hy hy1 (ih bx.1 bx.2 by_.1 by_.2 h)
theorem crcByte_inj {x y c : Int} (hx : 0 ≤ x) (hx1 : x < 4294967296) (hy : 0 ≤ y) (hy1 : y < 4294967296) (h : crcByte x c = crcByte y c) : x = y :=
  xor_u32_inj hx hx1 hy hy1 (crcBits_inj 8 (xor_u32_range _ _).1 (xor_u32_range _ _).2 (xor_u32_range _ _).1 (xor_u32_range _ _).2 h)
theorem crcRun_inj (l : List Int) : ∀ {x y : Int}, 0 ≤ x → x < 4294967296 → 0 ≤ y → y < 4294967296 → crcRun x l = crcRun y l → x = y := by
  induction l with
  | nil => intro x y _ _ _ _ h; exact h
  | cons c l ih =>
    intro x y hx hx1 hy hy1 h
    exact crcByte_inj hx hx1 hy hy1 (ih (crcByte_range _ _).1 (crcByte_range _ _).2 (crcByte_range _ _).1 (crcByte_range _ _).2 h)
theorem crcRun_range (l : List Int) : ∀ {r : Int}, 0 ≤ r → r < 4294967296 → 0 ≤ crcRun r l ∧ crcRun r l < 4294967296 := by
  induction l with
  | nil => intro r h0 h1; exact ⟨h0, h1⟩
  | cons c l ih => intro r _ _; exact ih (crcByte_range _ _).1 (crcByte_range _ _).2
theorem crc_set_ne : ∀ (l : List Int) (r : Int) (i : Nat) (b : Int), 0 ≤ r → r < 4294967296 → (∀ x ∈ l, 0 ≤ x ∧ x ≤ 255) → (h : i < l.length) → 0 ≤ b → b ≤ 255 → b ≠ l[i] → crcRun r (l.set i b) ≠ crcRun r l := by
  intro l
  induction l with
  | nil => intro r i b _ _ _ h; simp at h
  | cons c l ih =>
    intro r i b hr hr1 hl h hb hb1 hne he
    rcases i with _ | i
    · have h1 := crcRun_inj l (crcByte_range _ _).1 (crcByte_range _ _).2 (crcByte_range _ _).1 (crcByte_range _ _).2 (show crcRun (crcByte r b) l = crcRun (crcByte r c) l from he)
      have h2 := crcBits_inj 8 (xor_u32_range _ _).1 (xor_u32_range _ _).2 (xor_u32_range _ _).1 (xor_u32_range _ _).2 h1
      have hc := hl c (by simp)
      have h3 : b = c := xor_u32_inj' (c := r) (by omega) (by omega) (by omega) (by omega) h2
      exact hne h3
    · exact ih (crcByte r c) i b (crcByte_range _ _).1 (crcByte_range _ _).2 (fun x hx => hl x (by simp [hx])) (by simpa using h) hb hb1 (by simpa using hne) he
theorem crc_apart {l : List Int} (hl : ∀ x ∈ l, (Lit.int .u8 x).wf = true) (i : Nat) (h : i < l.length) (b : Int) (hb : 0 ≤ b) (hb1 : b ≤ 255) (hne : b ≠ l[i]) : crcOf (l.set i b) ≠ crcOf l := by
  intro he
  unfold crcOf at he
  have r1 := crcRun_range (l.set i b) (r := 4294967295) (by omega) (by omega)
  have r2 := crcRun_range l (r := 4294967295) (by omega) (by omega)
  exact crc_set_ne l 4294967295 i b (by omega) (by omega) (fun x hx => bounds_u8 (hl x hx)) h hb hb1 hne (xor_u32_inj' r1.1 r1.2 r2.1 r2.2 he)
/-- A byte with one bit turned is another byte. -/
theorem turn_ne (b k : Int) (h0 : 0 ≤ b) (h1 : b ≤ 255) (k0 : 0 ≤ k) (k1 : k < 8) : bits .xor .u8 b (2 ^ k.toNat) ≠ b ∧ 0 ≤ bits .xor .u8 b (2 ^ k.toNat) ∧ bits .xor .u8 b (2 ^ k.toNat) ≤ 255 := by
  have key : ∀ (x : Fin 256) (j : Fin 8), bits .xor .u8 ((x : Nat) : Int) (2 ^ (j : Nat)) ≠ ((x : Nat) : Int) ∧ 0 ≤ bits .xor .u8 ((x : Nat) : Int) (2 ^ (j : Nat)) ∧ bits .xor .u8 ((x : Nat) : Int) (2 ^ (j : Nat)) ≤ 255 := by decide +kernel
  have := key ⟨b.toNat, by omega⟩ ⟨k.toNat, by omega⟩
  simp only [] at this
  rwa [show ((b.toNat : Nat) : Int) = b from Int.toNat_of_nonneg h0] at this
end Go.Proofs.Ytjjaahdfjjomiaa.Wk
