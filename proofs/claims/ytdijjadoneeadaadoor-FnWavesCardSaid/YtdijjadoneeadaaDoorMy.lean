/- Plain facts on whole numbers, bits and lists that the proofs of this seat's statements share; nothing of the program stands in them. -/
import Derived.OpenShut
import Derived.Laws.BitsLemmas
import Derived.Test.YtdijjadoneeadaaDoorWMore
import Derived.Test.YtdijjadoneeadaaDoorWSized
/- The printed rows name a word of the print by this shorter name. -/
namespace Go.Proofs.YtdijjadoneeadaaDoor.PrintWords
abbrev sized_ints := @Go.Proofs.YtdijjadoneeadaaDoorW.PrintWords.sized_ints
end Go.Proofs.YtdijjadoneeadaaDoor.PrintWords
namespace Go.Proofs.YtdijjadoneeadaaDoor.My
open Go Go.RowKit Go.Proofs.YtdijjadoneeadaaDoorW.PrintWords Go.Proofs.YtdijjadoneeadaaDoorW.PrintLast Go.Proofs.YtdijjadoneeadaaDoorW.PrintMore

theorem wrap64_id {n : Int} (h0 : -9223372036854775808 ≤ n) (h1 : n ≤ 9223372036854775807) : wrap64 n = n := by
  unfold wrap64
  omega
theorem wrap64_nat {n : Nat} (h1 : n ≤ 9223372036854775806) : wrap64 ((n : Int) + 1) = ((n + 1 : Nat) : Int) := by
  unfold wrap64
  omega
theorem u64_wrap (n : Int) : IntKind.u64.wrap n = n % 18446744073709551616 := by simp [IntKind.wrap, IntKind.bits, IntKind.signed]
theorem i64_wrap (n : Int) : IntKind.i64.wrap n = wrap64 n := by rw [IntKind.wrap_i64]; unfold wrap64; rfl
theorem u64_nat (b : BitVec 64) : IntKind.u64.wrap (b.toNat : Int) = (b.toNat : Int) := by
  rw [u64_wrap]
  have := b.isLt
  omega
theorem bits_u64_xor (x y : Int) : bits .xor .u64 x y = ((BitVec.ofInt 64 x ^^^ BitVec.ofInt 64 y).toNat : Int) := u64_nat _
theorem bits_u64_and (x y : Int) : bits .and .u64 x y = ((BitVec.ofInt 64 x &&& BitVec.ofInt 64 y).toNat : Int) := u64_nat _
theorem bits_u64_or (x y : Int) : bits .or .u64 x y = ((BitVec.ofInt 64 x ||| BitVec.ofInt 64 y).toNat : Int) := u64_nat _
theorem bits_i64_xor (x y : Int) : bits .xor .i64 x y = wrap64 ((BitVec.ofInt 64 x ^^^ BitVec.ofInt 64 y).toNat : Int) := i64_wrap _
theorem bits_i64_and (x y : Int) : bits .and .i64 x y = wrap64 ((BitVec.ofInt 64 x &&& BitVec.ofInt 64 y).toNat : Int) := i64_wrap _
theorem bits_i64_or (x y : Int) : bits .or .i64 x y = wrap64 ((BitVec.ofInt 64 x ||| BitVec.ofInt 64 y).toNat : Int) := i64_wrap _
theorem xor_u64_zero {x : Int} (h0 : 0 ≤ x) (h1 : x < 18446744073709551616) : bits .xor .u64 x 0 = x := by
  rw [bits_u64_xor, show BitVec.ofInt 64 (0 : Int) = 0#64 from rfl, BitVec.xor_zero, BitVec.toNat_ofInt]
  omega
theorem xor_u64_ones {x : Int} (h0 : 0 ≤ x) (h1 : x < 18446744073709551616) : bits .xor .u64 x 18446744073709551615 = 18446744073709551615 - x := by
  rw [bits_u64_xor, show BitVec.ofInt 64 (18446744073709551615 : Int) = BitVec.allOnes 64 from by decide, BitVec.xor_allOnes, BitVec.toNat_not, BitVec.toNat_ofInt]
  omega
theorem xor_i64_zero {x : Int} (h0 : -9223372036854775808 ≤ x) (h1 : x ≤ 9223372036854775807) : bits .xor .i64 x 0 = x := by
  rw [bits_i64_xor, show BitVec.ofInt 64 (0 : Int) = 0#64 from rfl, BitVec.xor_zero, BitVec.toNat_ofInt]
  unfold wrap64
  omega
theorem xor_i64_ones {x : Int} (h0 : -9223372036854775808 ≤ x) (h1 : x ≤ 9223372036854775807) : bits .xor .i64 x (-1) = -1 - x := by
  rw [bits_i64_xor, show BitVec.ofInt 64 (-1 : Int) = BitVec.allOnes 64 from by decide, BitVec.xor_allOnes, BitVec.toNat_not, BitVec.toNat_ofInt]
  unfold wrap64
  omega
theorem mask_nat (x : Int) (i : Nat) (hi : i ≤ 64) : ((BitVec.ofInt 64 x &&& BitVec.ofInt 64 (2 ^ i - 1)).toNat : Int) = x % 2 ^ i := by
  have hp : (2 : Nat) ^ i ≤ 2 ^ 64 := Nat.pow_le_pow_right (by decide) hi
  have hpos : 0 < 2 ^ i := Nat.two_pow_pos i
  have hc : ((2 : Int) ^ i - 1) = ((2 ^ i - 1 : Nat) : Int) := by rw [Int.natCast_sub hpos]; simp
  rw [hc, BitVec.toNat_and, BitVec.toNat_ofInt, BitVec.ofInt_natCast, BitVec.toNat_ofNat, Nat.mod_eq_of_lt (a := 2 ^ i - 1) (by omega), Nat.and_two_pow_sub_one_eq_mod]
  rw [Int.natCast_emod, Int.toNat_of_nonneg (Int.emod_nonneg _ (by decide)), show ((2 ^ i : Nat) : Int) = 2 ^ i from by rw [Int.natCast_pow]; rfl]
  exact Int.emod_emod_of_dvd x ⟨2 ^ (64 - i), by rw [← Int.pow_add, show i + (64 - i) = 64 from by omega]; rfl⟩
theorem and_u64_mask (x : Int) (i : Nat) (hi : i ≤ 64) : bits .and .u64 x (2 ^ i - 1) = x % 2 ^ i := by rw [bits_u64_and, mask_nat x i hi]
theorem pow_cast (i : Nat) : ((2 ^ i : Nat) : Int) = 2 ^ i := by rw [Int.natCast_pow]; rfl
theorem pow_pos (i : Nat) : (0 : Int) < 2 ^ i := by rw [← pow_cast]; exact Int.ofNat_lt.2 (Nat.two_pow_pos i)
theorem pow_le (i : Nat) (h : i ≤ 63) : (2 : Int) ^ i ≤ 9223372036854775808 := by
  rw [← pow_cast]
  exact Int.ofNat_le.2 (show 2 ^ i ≤ 2 ^ 63 from Nat.pow_le_pow_right (by decide) h)
theorem and_i64_mask (x : Int) (i : Nat) (hi : i ≤ 63) : bits .and .i64 x (2 ^ i - 1) = x % 2 ^ i := by
  have hp' : (2 : Int) ^ i ≤ 9223372036854775808 := pow_le i hi
  have h2 : (0 : Int) < 2 ^ i := pow_pos i
  have h0 : 0 ≤ x % 2 ^ i := Int.emod_nonneg _ (by omega)
  have h1 : x % 2 ^ i < 2 ^ i := Int.emod_lt_of_pos _ h2
  rw [bits_i64_and, mask_nat x i (by omega)]
  unfold wrap64
  omega
theorem and_u64_one (x : Int) : bits .and .u64 x 1 = x % 2 := and_u64_mask x 1 (by omega)
theorem and_i64_one (x : Int) : bits .and .i64 x 1 = x % 2 := and_i64_mask x 1 (by omega)
theorem and_i64_127 (x : Int) : bits .and .i64 x 127 = x % 128 := and_i64_mask x 7 (by omega)
theorem and_i64_255 (x : Int) : bits .and .i64 x 255 = x % 256 := and_i64_mask x 8 (by omega)
theorem and_u8_one {x : Int} (h0 : 0 ≤ x) (h1 : x < 256) : bits .and .u8 x 1 = x % 2 := bits_mask .u8 8 (by decide) wraps_u8 1 (by decide) x h0 h1
/-- A sum without a carry. -/
theorem or_u64_add {x y : Int} (hx : 0 ≤ x) (hx1 : x < 18446744073709551616) (he : x % 2 = 0) (hy : 0 ≤ y) (hy1 : y < 2) : bits .or .u64 x y = x + y :=
  bits_join .u64 64 (by decide) (fun n h0 h1 => by rw [u64_wrap]; omega) 1 x y hx he hx1 hy hy1 (by omega)
theorem shr_le (k : IntKind) {x y : Int} (h : 0 ≤ x) : 0 ≤ shr k x y ∧ shr k x y ≤ x := by
  unfold shr
  have hp : (0 : Int) < 2 ^ min y.toNat k.bits := pow_pos _
  exact ⟨Int.ediv_nonneg h (by omega), Int.ediv_le_self _ h⟩
theorem rd_byte {l : List Int} (h : ∀ x ∈ l, (Lit.int .u8 x).wf = true) (i : Int) : 0 ≤ rd l i ∧ rd l i ≤ 255 := by
  have := range_u8 h i.toNat
  simpa [rd, List.getD] using this
theorem u64_id {n : Int} (h0 : 0 ≤ n) (h1 : n < 18446744073709551616) : IntKind.u64.wrap n = n := by rw [u64_wrap]; omega
theorem rd_nat (l : List Int) (i : Nat) : rd l (i : Int) = l.getD i 0 := by simp [rd]
theorem getD_lt {l : List Int} {i : Nat} (h : i < l.length) : l.getD i 0 = l[i] := by simp [List.getD, h]
theorem rd_lt {l : List Int} {i : Nat} (h : i < l.length) : rd l (i : Int) = l[i] := by rw [rd_nat, getD_lt h]

/-- The numbers a, a + 1, .. -/
def upI : Int → Nat → List Int
  | _, 0 => []
  | a, n + 1 => a :: upI (a + 1) n
theorem upI_length (n : Nat) : ∀ a : Int, (upI a n).length = n := by
  induction n with
  | zero => intro a; rfl
  | succ n ih => intro a; simp [upI, ih]
theorem upI_get (n : Nat) : ∀ (a : Int) (i : Nat), i < n → (upI a n).getD i 0 = a + (i : Int) := by
  induction n with
  | zero => intro a i h; omega
  | succ n ih =>
    intro a i h
    rcases i with _ | i
    · simp [upI]
    · rw [show (upI a (n + 1)).getD (i + 1) 0 = (upI (a + 1) n).getD i 0 from by simp [upI, List.getD], ih (a + 1) i (by omega)]
      omega
/-- The same, as bytes. -/
def upB : Int → Nat → List Int
  | _, 0 => []
  | a, n + 1 => (a % 256) :: upB (a + 1) n
theorem upB_length (n : Nat) : ∀ a : Int, (upB a n).length = n := by
  induction n with
  | zero => intro a; rfl
  | succ n ih => intro a; simp [upB, ih]
theorem upB_get (n : Nat) : ∀ (a : Int) (i : Nat), i < n → (upB a n).getD i 0 = (a + (i : Int)) % 256 := by
  induction n with
  | zero => intro a i h; omega
  | succ n ih =>
    intro a i h
    rcases i with _ | i
    · simp [upB]
    · rw [show (upB a (n + 1)).getD (i + 1) 0 = (upB (a + 1) n).getD i 0 from by simp [upB, List.getD], ih (a + 1) i (by omega), show a + 1 + (i : Int) = a + ((i + 1 : Nat) : Int) from by omega]
theorem take_set_succ (l : List Int) (i : Nat) (x : Int) (h : i < l.length) : (l.set i x).take (i + 1) = l.take i ++ [x] := by
  rw [List.take_succ_eq_append_getElem (by simpa using h), List.take_set, List.getElem_set_self, List.set_eq_of_length_le (by simp; omega)]
/-- Two congruences that keep simp out of what stands behind a call and behind a test. -/
theorem bind_left {α β : Type} {o o' : Option α} (f : α → Option β) (h : o = o') : o.bind f = o'.bind f := by rw [h]
theorem ite_left {α : Type} {c c' : Prop} {_ : Decidable c} [Decidable c'] (a b : α) (h : c = c') : (if c then a else b) = (if c' then a else b) := by
  subst h
  congr

end Go.Proofs.YtdijjadoneeadaaDoor.My
