/- A walk of this seat's own: the law FnExactPutNumber returns true for every number of 64 bits without a sign. -/
import Derived.Test.YtjjaahdfjjomiaaWkNum
import Derived.Test.YtjjaahdfjjomiaaPFnExactUnpackRowx1
namespace Go.Proofs.Ytjjaahdfjjomiaa.Wk
open Go.RowKit Go.Proofs.YtjjaahdfjjomiaaW.PrintWords Go.Proofs.YtjjaahdfjjomiaaW.PrintLast Go.Proofs.YtjjaahdfjjomiaaW.PrintMore Go.Proofs.Ytjjaahdfjjomiaa.My
open Go.Proofs.Ytjjaahdfjjomiaa.PFnExactUnpackRow
set_option linter.unusedVariables false
set_option linter.unusedSimpArgs false
attribute [local congr] bind_left ite_left
theorem eqByteS_l0 (x : List Int) (hl : x.length ≤ 1152921504606846976) (d : Nat) : ∀ (k : Nat) (i : Nat), i + d = x.length → d < k → laws_eqByteS.l0 k x x (i : Int) = some true := by
  induction d with
  | zero =>
    intro k i hi hk
    obtain ⟨k, rfl⟩ : ∃ m, k = m + 1 := ⟨k - 1, by omega⟩
    simp only [laws_eqByteS.l0]
    rw [if_neg (by omega)]
  | succ d ih =>
    intro k i hi hk
    obtain ⟨k, rfl⟩ : ∃ m, k = m + 1 := ⟨k - 1, by omega⟩
    simp only [laws_eqByteS.l0]
    rw [if_pos (by omega), if_pos (by omega), if_pos (by omega), if_pos trivial, wrap64_nat (by omega)]
    exact ih k (i + 1) (by omega) (by omega)
theorem eqByteS_eq (k : Nat) (l : List Int) (hl : l.length ≤ 1152921504606846976) (hk : l.length < k) : laws_eqByteS.f k l l = some true := by
  unfold laws_eqByteS.f
  rw [if_pos rfl]
  exact eqByteS_l0 l hl l.length k 0 (by omega) hk
theorem markByteS_l0 (n : Nat) (hn : n ≤ 1152921504606846976) (d : Nat) : ∀ (k : Nat) (x : List Int) (a : Int) (i : Nat), x.length = n → i + d = n → d < k → 0 ≤ a → a + d ≤ 9223372036854775806 →
    laws_markByteS.l0 k x a (i : Int) = some (a + d, x.take i ++ upB a d) := by
  induction d with
  | zero =>
    intro k x a i hx hi hk h0 ha
    obtain ⟨k, rfl⟩ : ∃ m, k = m + 1 := ⟨k - 1, by omega⟩
    simp only [laws_markByteS.l0]
    rw [if_neg (by omega), List.take_of_length_le (by omega)]
    simp [upB]
  | succ d ih =>
    intro k x a i hx hi hk h0 ha
    obtain ⟨k, rfl⟩ : ∃ m, k = m + 1 := ⟨k - 1, by omega⟩
    simp only [laws_markByteS.l0]
    rw [if_pos (by omega), if_pos (by omega), wrap64_nat (by omega), wrap64_id (n := a + 1) (by omega) (by omega), Int.toNat_natCast, ih k _ (a + 1) (i + 1) (by simpa using hx) (by omega) (by omega) (by omega) (by omega), take_set_succ _ _ _ (by omega)]
    rw [show a + 1 + (d : Int) = a + ((d + 1 : Nat) : Int) from by omega]
    simp [upB]
theorem markByteS_eq (k : Nat) (l : List Int) (a : Int) (hl : l.length ≤ 1152921504606846976) (hk : l.length < k) (h0 : 0 ≤ a) (ha : a ≤ 1152921504606846976) : laws_markByteS.f k l a = some (a + l.length, upB a l.length) := by
  unfold laws_markByteS.f
  exact markByteS_l0 l.length hl l.length k l a 0 rfl (by omega) hk h0 (by omega)
theorem R_span {α : Type} {d : Kd α} {e : Nat} {w1 : World} {base : Nat} {ok : Nat → Prop} {v : Value} {xs : List α} (h : d.R e w1 base ok v xs) : d.R e w1 base (fun k => base ≤ k ∧ k < w1.heap.size) v xs :=
  Kd.R_mono (Kd.R_bound h) (fun k hk => ⟨hk.2.1, hk.2.2.1⟩)
theorem R_cells {α : Type} {d : Kd α} {e : Nat} {w1 : World} {base : Nat} {ok : Nat → Prop} {A : Option Addr} {n c : Nat} {xs : List α} (h : d.R e w1 base ok (.slice A n c) xs) : n = xs.length ∧ n ≤ c ∧ d.C w1 A xs.length xs := Kd.R_reads' h
theorem size_le {B : Nat} {w w1 : World} (h : Below B w w1) : w.heap.size ≤ w1.heap.size := h.size
set_option maxHeartbeats 2000000 in
theorem law_put (n : Int) (h0 : 0 ≤ n) (hu : n < 18446744073709551616) (w : World) : Calls Try.prog 9 #[.int .u64 n] w fun e w' => e = .returned (.bool true) ∧ Below w.heap.size w w' := by
  have hm : n < 128 ^ (9 + 1) := Int.lt_of_lt_of_le hu (by decide)
  obtain ⟨G, hG⟩ : ∃ G, G = groups (9 + 1) n := ⟨_, rfl⟩
  have hl : G.length ≤ 10 := by rw [hG]; exact groups_length 10 n
  have HG := Aside0.mk hG
  have HL := Aside0.mk hl
  have HU := Aside0.mk hu
  have HM := Aside0.mk hm
  have H0 := Aside0.mk h0
  have bl : (G.length : Int) ≤ 10 := by omega
  clear hG hu hm h0 hl
  go_enter Try.func9, Try.ntmps9
  go_wp2_with fail
  refine (put_spec 9 n H0.out HM.out (by decide) HU.out _).mono ?_
  rintro e w1 ⟨v3, rfl, ho, hb⟩
  rw [← HG.out] at ho
  obtain ⟨A3, c3, rfl⟩ := Kd.R_slice ho
  have S3 := Aside0.mk (R_span ho)
  have B1 := Aside0.mk hb
  clear ho hb
  go_wp2_with fail
  refine (put_impl 9 n H0.out HM.out (by decide) _).mono ?_
  rintro e w2 ⟨v4, rfl, ho, hb⟩
  rw [← HG.out] at ho
  obtain ⟨A4, c4, rfl⟩ := Kd.R_slice ho
  have S4 := Aside0.mk (R_span ho)
  have T3 := Aside0.mk (Kd.R_below S3.out hb)
  have B2 := Aside0.mk hb
  clear ho hb S3
  go_wp2_with fail
  refine (laws_eqByteS.calls 100 A4 c4 G A3 c3 G true _ (R_cells S4.out).2.2 (R_cells S4.out).2.1 (R_cells T3.out).2.2 (R_cells T3.out).2.1 (eqByteS_eq _ _ (by have := HL.out; omega) (by have := HL.out; omega))).mono ?_
  rintro e w3 ⟨rfl, ⟨nd, rfl⟩⟩
  go_wp2_with fail
  refine (laws_markByteS.calls 100 (fun k => w1.heap.size ≤ k ∧ k < w2.heap.size) _ G 1 _ _ w _ ?b ?r (markByteS_eq _ _ _ (by have := HL.out; omega) (by have := HL.out; omega) (by decide) (by decide))).mono ?_
  case b => exact pw_below_drewN (B1.out.trans (B2.out.mono (size_le B1.out))) _
  case r => exact Kd.R_drewN (Kd.R_lower S4.out (size_le B1.out)) _
  rintro e w4 ⟨rfl, ho, hb, hk⟩
  have U4 := Aside0.mk (R_span ho)
  have T3' := Aside0.mk (Kd.R_kept (Kd.R_drewN T3.out nd) hk (fun k h => by omega))
  have B4 := Aside0.mk hb
  clear ho hb hk S4 T3
  go_wp2_with fail
  refine (held_calls A4 c4 G.length 1 (by decide) (by decide) (by have := HL.out; omega) _ (R_cells U4.out).2.1 (by have := (R_cells U4.out).2.2; rwa [upB_length] at this)).mono ?_
  rintro e w5 ⟨rfl, ⟨nd2, rfl⟩⟩
  go_wp2_with fail
  refine (put_impl 9 n H0.out HM.out (by decide) _).mono ?_
  rintro e w6 ⟨v7, rfl, ho, hb⟩
  rw [← HG.out] at ho
  obtain ⟨A7, c7, rfl⟩ := Kd.R_slice ho
  have S7 := Aside0.mk ho
  have T3 := Aside0.mk (Kd.R_below (Kd.R_drewN T3'.out nd2) hb)
  have T4 := Aside0.mk (Kd.R_below (Kd.R_drewN U4.out nd2) hb)
  have B6 := Aside0.mk (Below.trans (pw_below_drewN B4.out nd2) (hb.mono (size_le (pw_below_drewN B4.out nd2))))
  clear ho hb T3' U4 B4
  go_wp2_with fail
  refine (laws_eqByteS.calls 100 A7 c7 G A3 c3 G true _ (R_cells S7.out).2.2 (R_cells S7.out).2.1 (R_cells T3.out).2.2 (R_cells T3.out).2.1 (eqByteS_eq _ _ (by have := HL.out; omega) (by have := HL.out; omega))).mono ?_
  rintro e w7 ⟨rfl, ⟨nd3, rfl⟩⟩
  go_wp2_with fail
  refine (held_calls A4 c4 G.length 1 (by decide) (by decide) (by have := HL.out; omega) _ (R_cells T4.out).2.1 (by have := (R_cells (Kd.R_drewN T4.out nd3)).2.2; rwa [upB_length] at this)).mono ?_
  rintro e w8 ⟨rfl, ⟨nd4, rfl⟩⟩
  go_wp2_with fail
  go_ret
  exact ⟨rfl, pw_below_drewN B6.out _⟩
end Go.Proofs.Ytjjaahdfjjomiaa.Wk
