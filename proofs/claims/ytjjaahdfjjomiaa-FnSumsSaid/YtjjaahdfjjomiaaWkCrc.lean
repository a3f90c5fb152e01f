/- Walks of this seat's own: what the two Crc come to, for every byte string of at most 1048576 bytes. -/
import Derived.Test.YtjjaahdfjjomiaaPFnExactUnpackRowx0
import Derived.Test.YtjjaahdfjjomiaaMy
namespace Go.Proofs.Ytjjaahdfjjomiaa.Wk
open Go.RowKit Go.Proofs.YtjjaahdfjjomiaaW.PrintWords Go.Proofs.YtjjaahdfjjomiaaW.PrintLast Go.Proofs.YtjjaahdfjjomiaaW.PrintMore Go.Proofs.Ytjjaahdfjjomiaa.My
set_option linter.unusedVariables false
theorem u32_nat (b : BitVec 32) : IntKind.u32.wrap (b.toNat : Int) = (b.toNat : Int) := by
  rw [IntKind.wrap_u32]
  have := b.isLt
  omega
theorem bits_u32_xor (x y : Int) : bits .xor .u32 x y = ((BitVec.ofInt 32 x ^^^ BitVec.ofInt 32 y).toNat : Int) := u32_nat _
theorem xor_u32_range (x y : Int) : 0 ≤ bits .xor .u32 x y ∧ bits .xor .u32 x y < 4294967296 := by
  rw [bits_u32_xor]
  have := (BitVec.ofInt 32 x ^^^ BitVec.ofInt 32 y).isLt
  omega
theorem xor_u32_zero {x : Int} (h0 : 0 ≤ x) (h1 : x < 4294967296) : bits .xor .u32 x 0 = x := by
  rw [bits_u32_xor, show BitVec.ofInt 32 (0 : Int) = 0#32 from rfl, BitVec.xor_zero, BitVec.toNat_ofInt]
  omega
theorem and_u32_one {x : Int} (h0 : 0 ≤ x) (h1 : x < 4294967296) : bits .and .u32 x 1 = x % 2 := bits_mask .u32 32 (by decide) (fun n h0 h1 => by rw [IntKind.wrap_u32]; omega) 1 (by decide) x h0 h1
/-- One bit of the sum. -/
def crcBit (r : Int) : Int := if r % 2 = 1 then bits .xor .u32 (r / 2) 3988292384 else r / 2
theorem crcBit_range {r : Int} (h0 : 0 ≤ r) (h1 : r < 4294967296) : 0 ≤ crcBit r ∧ crcBit r < 4294967296 := by
  unfold crcBit
  split
  · exact xor_u32_range _ _
  · omega
def crcBits : Nat → Int → Int
  | 0, r => r
  | n + 1, r => crcBits n (crcBit r)
theorem crcBits_range (n : Nat) : ∀ {r : Int}, 0 ≤ r → r < 4294967296 → 0 ≤ crcBits n r ∧ crcBits n r < 4294967296 := by
  induction n with
  | zero => intro r h0 h1; exact ⟨h0, h1⟩
  | succ n ih => intro r h0 h1; exact ih (crcBit_range h0 h1).1 (crcBit_range h0 h1).2
/-- One byte of the sum. -/
def crcByte (r c : Int) : Int := crcBits 8 (bits .xor .u32 r c)
theorem crcByte_range (r c : Int) : 0 ≤ crcByte r c ∧ crcByte r c < 4294967296 := crcBits_range 8 (xor_u32_range _ _).1 (xor_u32_range _ _).2
def crcRun (r : Int) (l : List Int) : Int := l.foldl crcByte r
def crcOf (l : List Int) : Int := bits .xor .u32 IntKind.u32.max (crcRun 4294967295 l)
theorem ret_u {k : IntKind} {a b : Int} (h : a = b) : Ending.returned (.int k a) = Ending.returned (.int k b) := by rw [h]
theorem impl_bit {r : Int} (h0 : 0 ≤ r) (h1 : r < 4294967296) : bits .xor .u32 (r / 2) (3988292384 * (r % 2) % 4294967296) = crcBit r := by
  unfold crcBit
  by_cases h : r % 2 = 1
  · rw [if_pos h, h]
    rfl
  · rw [if_neg h, show r % 2 = 0 by omega]
    exact xor_u32_zero (by omega) (by omega)
set_option maxHeartbeats 2000000 in
/-- The reference's Crc. -/
theorem crc_spec (A : Option Addr) (c : Nat) (l : List Int) (hl : l.length ≤ 1048576) (hby : ∀ x ∈ l, (Lit.int .u8 x).wf = true) (w : World) (hr : Kd.C (Kd.int .u8) w A l.length l) :
    Calls Try.prog 23 #[.slice A l.length c] w fun e w' => e = .returned (.int .u32 (crcOf l)) ∧ Drawn0 w w' := by
  have HR := Aside0.mk hr
  have HBY := Aside0.mk hby
  clear hr hby
  obtain ⟨R, hR⟩ : ∃ R, R = crcRun 4294967295 l := ⟨_, rfl⟩
  have HRR := Aside0.mk hR
  have hR2 : crcOf l = bits .xor .u32 IntKind.u32.max R := by rw [hR]; rfl
  rw [hR2]
  clear hR hR2
  go_enter Try.func23, Try.ntmps23
  go_wp2
  go_loopg [3, 10] l.length (fun q v3 v10 w' => ∃ (i : Nat) (r : Int), v3 = .int .u32 r ∧ v10 = .int .i64 (i : Int) ∧ Aside0 (i + q = l.length) ∧ Aside0 (0 ≤ r ∧ r < 4294967296) ∧ Aside0 (crcRun r (l.drop i) = R) ∧ Drawn0 w w')
  case atStart => exact ⟨0, 4294967295, rfl, rfl, ⟨by omega⟩, ⟨by decide⟩, ⟨HRR.out.symm⟩, by repeat (first | exact Drawn0.refl _ | apply Drawn0.step)⟩
  case round =>
    obtain ⟨i, r, rfl, rfl, Q, RB, G, ⟨nd, rfl⟩⟩ := hrel
    by_cases c0 : i < l.length
    · obtain ⟨q, rfl⟩ : ∃ q, gk = q + 1 := ⟨gk - 1, by have := Q.out; omega⟩
      obtain ⟨ad, e1, hx⟩ := Kd.at_int HR.out (i : Int) (by omega) (by omega)
      rw [Int.toNat_natCast] at hx
      obtain ⟨b, hb⟩ : ∃ b, b = rd l (i : Int) := ⟨_, rfl⟩
      have hbb := rd_byte HBY.out (i : Int)
      rw [← hb] at hx hbb
      have HBV := Aside0.mk hb
      clear hb
      obtain ⟨b0, b1⟩ := hbb
      cases e1
      go_wp2
      have D1 : Aside0 (crcRun (crcByte r b) (l.drop (i + 1)) = R) := ⟨by
        have h := G.out
        rw [List.drop_eq_getElem_cons c0] at h
        rw [← h, HBV.out, rd_lt c0]
        rfl⟩
      have R1 := Aside0.mk (xor_u32_range r b)
      obtain ⟨r1, hr1⟩ : ∃ r1, r1 = bits .xor .u32 r b := ⟨_, rfl⟩
      have R2 : Aside0 (crcByte r b = crcBits 8 r1) := ⟨by rw [hr1]; rfl⟩
      rw [← hr1] at R1 ⊢
      clear hr1
      obtain ⟨wo, hwo⟩ : ∃ wo : World, wo = w.drewN nd := ⟨_, rfl⟩
      rw [← hwo]
      have WO := Aside0.mk hwo
      clear hwo
      go_loopg [3, 6] 8 (fun p v3 v6 w' => ∃ (j : Nat) (s : Int), v3 = .int .u32 s ∧ v6 = .int .i64 (j : Int) ∧ Aside0 (j + p = 8) ∧ Aside0 (0 ≤ s ∧ s < 4294967296) ∧ Aside0 (crcBits p s = crcBits 8 r1) ∧ Drawn0 wo w')
      case atStart => exact ⟨0, r1, rfl, rfl, ⟨by omega⟩, R1, ⟨rfl⟩, by repeat (first | exact Drawn0.refl _ | apply Drawn0.step)⟩
      case round =>
        obtain ⟨j, s, rfl, rfl, Q2, SB, G2, ⟨n2, rfl⟩⟩ := hrel
        obtain ⟨s0, s1⟩ := SB.out
        by_cases c2 : j < 8
        · obtain ⟨p, rfl⟩ : ∃ p, gk = p + 1 := ⟨gk - 1, by have := Q2.out; omega⟩
          have G3 : Aside0 (crcBits p (crcBit s) = crcBits 8 r1) := ⟨G2.out⟩
          have SB2 := Aside0.mk (crcBit_range s0 s1)
          have AN := and_u32_one s0 s1
          by_cases c3 : s % 2 = 1
          · have CB := Aside0.mk (show crcBit s = bits .xor .u32 (s / 2) 3988292384 from if_pos c3)
            have d3 : (bits .and .u32 s 1 == 1) = true := beq_iff_eq.2 (by rw [AN, c3])
            clear AN c3
            go_wp2
            go_roundg p
            case measure => omega
            case rel => exact ⟨j + 1, _, rfl, by go_num, ⟨by have := Q2.out; omega⟩, ⟨by rw [← CB.out]; exact SB2.out⟩, ⟨by rw [← CB.out]; exact G3.out⟩, by repeat (first | exact Drawn0.refl _ | apply Drawn0.step)⟩
          · have CB := Aside0.mk (show crcBit s = s / 2 from if_neg c3)
            have d3 : (bits .and .u32 s 1 == 1) = false := beq_eq_false_iff_ne.2 (by rw [AN]; exact c3)
            clear AN c3
            go_wp2
            go_roundg p
            case measure => omega
            case rel => exact ⟨j + 1, _, rfl, by go_num, ⟨by have := Q2.out; omega⟩, ⟨by rw [← CB.out]; exact SB2.out⟩, ⟨by rw [← CB.out]; exact G3.out⟩, by repeat (first | exact Drawn0.refl _ | apply Drawn0.step)⟩
        · have e : gk = 0 := by have := Q2.out; omega
          have E2 : Aside0 (crcByte r b = s) := ⟨by rw [R2.out, ← G2.out, e]; rfl⟩
          clear e
          go_wp2
          go_roundg q
          case measure => omega
          case rel => exact ⟨i + 1, s, rfl, by go_num, ⟨by have := Q.out; omega⟩, SB, ⟨by rw [← E2.out]; exact D1.out⟩, by rw [WO.out]; repeat (first | exact Drawn0.refl _ | apply Drawn0.step)⟩
    · have e : i = l.length := by have := Q.out; omega
      have E2 : Aside0 (r = R) := ⟨by rw [← G.out, e, List.drop_length]; rfl⟩
      clear e
      go_wp2
      go_ret
      exact ⟨ret_u (show bits .xor .u32 IntKind.u32.max r = bits .xor .u32 IntKind.u32.max R by rw [E2.out]), by repeat (first | exact Drawn0.refl _ | apply Drawn0.step)⟩
set_option maxHeartbeats 2000000 in
/-- The program's Crc. -/
theorem crc_impl (A : Option Addr) (c : Nat) (l : List Int) (hl : l.length ≤ 1048576) (hby : ∀ x ∈ l, (Lit.int .u8 x).wf = true) (w : World) (hr : Kd.C (Kd.int .u8) w A l.length l) :
    Calls Try.prog 24 #[.slice A l.length c] w fun e w' => e = .returned (.int .u32 (crcOf l)) ∧ Drawn0 w w' := by
  have HR := Aside0.mk hr
  have HBY := Aside0.mk hby
  clear hr hby
  obtain ⟨R, hR⟩ : ∃ R, R = crcRun 4294967295 l := ⟨_, rfl⟩
  have HRR := Aside0.mk hR
  have hR2 : crcOf l = bits .xor .u32 IntKind.u32.max R := by rw [hR]; rfl
  rw [hR2]
  clear hR hR2
  go_enter Try.func24, Try.ntmps24
  go_wp2
  go_loopg [3, 8] l.length (fun q v3 v8 w' => ∃ (i : Nat) (r : Int), v3 = .int .u32 r ∧ v8 = .int .i64 (i : Int) ∧ Aside0 (i + q = l.length) ∧ Aside0 (0 ≤ r ∧ r < 4294967296) ∧ Aside0 (crcRun r (l.drop i) = R) ∧ Drawn0 w w')
  case atStart => exact ⟨0, 4294967295, rfl, rfl, ⟨by omega⟩, ⟨by decide⟩, ⟨HRR.out.symm⟩, by repeat (first | exact Drawn0.refl _ | apply Drawn0.step)⟩
  case round =>
    obtain ⟨i, r, rfl, rfl, Q, RB, G, ⟨nd, rfl⟩⟩ := hrel
    by_cases c0 : i < l.length
    · obtain ⟨q, rfl⟩ : ∃ q, gk = q + 1 := ⟨gk - 1, by have := Q.out; omega⟩
      obtain ⟨ad, e1, hx⟩ := Kd.at_int HR.out (i : Int) (by omega) (by omega)
      rw [Int.toNat_natCast] at hx
      obtain ⟨b, hb⟩ : ∃ b, b = rd l (i : Int) := ⟨_, rfl⟩
      have hbb := rd_byte HBY.out (i : Int)
      rw [← hb] at hx hbb
      have HBV := Aside0.mk hb
      clear hb
      obtain ⟨b0, b1⟩ := hbb
      cases e1
      go_wp2
      have D1 : Aside0 (crcRun (crcByte r b) (l.drop (i + 1)) = R) := ⟨by
        have h := G.out
        rw [List.drop_eq_getElem_cons c0] at h
        rw [← h, HBV.out, rd_lt c0]
        rfl⟩
      have R1 := Aside0.mk (xor_u32_range r b)
      obtain ⟨r1, hr1⟩ : ∃ r1, r1 = bits .xor .u32 r b := ⟨_, rfl⟩
      have R2 : Aside0 (crcByte r b = crcBits 8 r1) := ⟨by rw [hr1]; rfl⟩
      rw [← hr1] at R1 ⊢
      clear hr1
      obtain ⟨wo, hwo⟩ : ∃ wo : World, wo = w.drewN nd := ⟨_, rfl⟩
      rw [← hwo]
      have WO := Aside0.mk hwo
      clear hwo
      go_loopg [3, 16] 8 (fun p v3 v16 w' => ∃ (j : Nat) (s : Int), v3 = .int .u32 s ∧ v16 = .int .i64 (j : Int) ∧ Aside0 (j + p = 8) ∧ Aside0 (0 ≤ s ∧ s < 4294967296) ∧ Aside0 (crcBits p s = crcBits 8 r1) ∧ Drawn0 wo w')
      case atStart => exact ⟨0, r1, rfl, rfl, ⟨by omega⟩, R1, ⟨rfl⟩, by repeat (first | exact Drawn0.refl _ | apply Drawn0.step)⟩
      case round =>
        obtain ⟨j, s, rfl, rfl, Q2, SB, G2, ⟨n2, rfl⟩⟩ := hrel
        obtain ⟨s0, s1⟩ := SB.out
        by_cases c2 : j < 8
        · obtain ⟨p, rfl⟩ : ∃ p, gk = p + 1 := ⟨gk - 1, by have := Q2.out; omega⟩
          have G3 : Aside0 (crcBits p (crcBit s) = crcBits 8 r1) := ⟨G2.out⟩
          have SB2 := Aside0.mk (crcBit_range s0 s1)
          have AN := and_u32_one s0 s1
          have CB := Aside0.mk (show bits .xor .u32 (s / 2) (3988292384 * bits .and .u32 s 1 % 4294967296) = crcBit s by rw [AN]; exact impl_bit s0 s1)
          clear AN
          go_wp2
          go_roundg p
          case measure => omega
          case rel => exact ⟨j + 1, _, rfl, by go_num, ⟨by have := Q2.out; omega⟩, ⟨by rw [CB.out]; exact SB2.out⟩, ⟨by rw [CB.out]; exact G3.out⟩, by repeat (first | exact Drawn0.refl _ | apply Drawn0.step)⟩
        · have e : gk = 0 := by have := Q2.out; omega
          have E2 : Aside0 (crcByte r b = s) := ⟨by rw [R2.out, ← G2.out, e]; rfl⟩
          clear e
          go_wp2
          go_roundg q
          case measure => omega
          case rel => exact ⟨i + 1, s, rfl, by go_num, ⟨by have := Q.out; omega⟩, SB, ⟨by rw [← E2.out]; exact D1.out⟩, by rw [WO.out]; repeat (first | exact Drawn0.refl _ | apply Drawn0.step)⟩
    · have e : i = l.length := by have := Q.out; omega
      have E2 : Aside0 (r = R) := ⟨by rw [← G.out, e, List.drop_length]; rfl⟩
      clear e
      go_wp2
      go_ret
      exact ⟨ret_u (show bits .xor .u32 IntKind.u32.max r = bits .xor .u32 IntKind.u32.max R by rw [E2.out]), by repeat (first | exact Drawn0.refl _ | apply Drawn0.step)⟩
end Go.Proofs.Ytjjaahdfjjomiaa.Wk
