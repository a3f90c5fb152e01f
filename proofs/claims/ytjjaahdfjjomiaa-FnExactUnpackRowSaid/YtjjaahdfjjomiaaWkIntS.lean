/- Walks of this seat's own: what eqIntS, markIntS and heldIntS come to, at slices of our own. -/
import Derived.Test.YtjjaahdfjjomiaaWkUnpack
namespace Go.Proofs.Ytjjaahdfjjomiaa.Wk
open Go.RowKit Go.Proofs.YtjjaahdfjjomiaaW.PrintWords Go.Proofs.YtjjaahdfjjomiaaW.PrintLast Go.Proofs.YtjjaahdfjjomiaaW.PrintMore Go.Proofs.Ytjjaahdfjjomiaa.My
set_option linter.unusedVariables false
theorem ret_int' {k : IntKind} {a b : Int} (h : a = b) : Ending.returned (.int k a) = Ending.returned (.int k b) := by rw [h]
set_option maxHeartbeats 1000000 in
/-- eqIntS of two slices that read alike. -/
theorem eqI_calls (A1 A2 : Option Addr) (c1 c2 : Nat) (l : List Int) (w : World) (hl : l.length ≤ 1000000000) (hr1 : Kd.C (Kd.int .i64) w A1 l.length l) (hr2 : Kd.C (Kd.int .i64) w A2 l.length l) :
    Calls Try.prog 41 #[.slice A1 l.length c1, .slice A2 l.length c2] w fun e w' => e = .returned (.bool true) ∧ Drawn0 w w' := by
  have H1 := Aside0.mk hr1
  have H2 := Aside0.mk hr2
  clear hr1 hr2
  obtain ⟨n, hn⟩ : ∃ n, n = l.length := ⟨_, rfl⟩
  rw [← hn] at H1 H2 hl ⊢
  clear hn
  go_enter Try.func41, Try.ntmps41
  go_wp2
  go_loopg [5] n (fun q v5 w' => ∃ i : Nat, v5 = .int .i64 (i : Int) ∧ Aside0 (i + q = n) ∧ Drawn0 w w')
  case atStart => exact ⟨0, rfl, ⟨by omega⟩, by repeat (first | exact Drawn0.refl _ | apply Drawn0.step)⟩
  case round =>
    obtain ⟨i, rfl, Q, ⟨nd, rfl⟩⟩ := hrel
    by_cases c : i < n
    · obtain ⟨q, rfl⟩ : ∃ q, gk = q + 1 := ⟨gk - 1, by have := Q.out; omega⟩
      obtain ⟨ad1, e1, hx1⟩ := Kd.at_int H1.out (i : Int) (by omega) (by omega)
      obtain ⟨ad2, e2, hx2⟩ := Kd.at_int H2.out (i : Int) (by omega) (by omega)
      rw [Int.toNat_natCast] at hx1 hx2
      obtain ⟨b, hb⟩ : ∃ b, b = rd l (i : Int) := ⟨_, rfl⟩
      rw [← hb] at hx1 hx2
      clear hb
      subst e1 e2
      have p1 : 0 ≤ (i : Int) := by omega
      have p2 : (i : Int) < (n : Int) := by omega
      go_wp2
      repeat (go_quiet (fail); try go_wp2)
      go_roundg q
      case measure => omega
      case rel => exact ⟨i + 1, by go_num, ⟨by have := Q.out; omega⟩, by repeat (first | exact Drawn0.refl _ | apply Drawn0.step)⟩
    · go_wp2
      go_ret
      exact ⟨rfl, by repeat (first | exact Drawn0.refl _ | apply Drawn0.step)⟩
theorem kept_set {w w1 : World} {S : Nat → Prop} (h : Kept w w1 S) {g : Nat} (hg : S g) (j : Nat) (u : Value) : Kept w (w1.setCell ⟨g, j, none⟩ u) S :=
  ⟨by simpa [World.setCell] using h.1, fun i hi hn => (Below.heap_setCell w1 ⟨g, j, none⟩ u i (fun e => hn (e ▸ hg))).trans (h.2 i hi hn)⟩
set_option maxHeartbeats 1000000 in
/-- markIntS of a slice of our own: it reads a, a + 1, .. behind it; nothing but its block is touched. -/
theorem markI_calls (base : Nat) (S : Nat → Prop) (A : Option Addr) (c : Nat) (l : List Int) (a : Int) (w0 w : World) (h0 : 0 ≤ a) (ha : a ≤ 1000000000) (hl : l.length ≤ 1000000000) (hr : Kd.R (Kd.int .i64) 3 w base S (.slice A l.length c) l) (hb : Below w0.heap.size w0 w) (hS : ∀ k, S k → w0.heap.size ≤ k) :
    Calls Try.prog 42 #[.slice A l.length c, .int .i64 a] w fun e w' => e = .returned (.int .i64 (a + l.length)) ∧ Kd.R (Kd.int .i64) 3 w' base S (.slice A l.length c) (upI a l.length) ∧ Kept w w' S ∧ Below w0.heap.size w0 w' := by
  obtain ⟨n, hn⟩ : ∃ n, n = l.length := ⟨_, rfl⟩
  rw [← hn] at hr hl ⊢
  have PS := Aside0.mk (Part.start (fun j : Nat => a + (j : Int)) hn.symm)
  obtain ⟨gl, hgl⟩ : ∃ f : Nat → Int, f = fun j => l.getD j 0 := ⟨_, rfl⟩
  rw [← hgl] at PS
  have HR := Aside0.mk hr
  have HB := Aside0.mk hb
  have HS := Aside0.mk hS
  clear hr hb hS hn hgl
  go_enter Try.func42, Try.ntmps42
  go_wp2
  go_loopg [1, 5] n (fun q v1 v5 w' => ∃ (i : Nat) (x : List Int), v1 = .int .i64 (a + (i : Int)) ∧ v5 = .int .i64 (i : Int) ∧ Aside0 (i + q = n) ∧ Aside0 (Part n i x (fun j : Nat => a + (j : Int)) gl) ∧ Aside0 (Kd.R (Kd.int .i64) 3 w' base S (.slice A n c) x) ∧ Aside0 (Kept w w' S) ∧ Aside0 (Below w0.heap.size w0 w'))
  case atStart => exact ⟨0, l, by simp, rfl, ⟨by omega⟩, PS, HR, ⟨Kept.refl _ _⟩, HB⟩
  case round =>
    clear PS HR HB
    obtain ⟨i, x, rfl, rfl, Q, P, HR, HK, HB⟩ := hrel
    by_cases c0 : i < n
    · obtain ⟨q, rfl⟩ : ∃ q, gk = q + 1 := ⟨gk - 1, by have := Q.out; omega⟩
      have xl : x.length = n := P.out.1
      obtain ⟨g, cap, e1, gb, gl2, cl, hg⟩ := Kd.R_form HR.out (by omega)
      rw [xl] at e1
      cases e1
      have SG : Aside0 (S g) := ⟨HR.out.1 g rfl⟩
      obtain ⟨hx, hfz⟩ := Kd.R_celln 0 HR.out (i : Int) (by omega) (by omega)
      rw [Int.toNat_natCast] at hx hfz
      have HP := Aside0.mk (Kd.R_putn HR.out (i : Int) (a + (i : Int)))
      have PT2 := Aside0.mk (P.out.set c0 (v := a + (i : Int)) rfl)
      clear gb gl2 hg HR xl
      go_wp2
      go_roundg q
      case measure => omega
      case rel => exact ⟨i + 1, _, by rw [show a + ((i + 1 : Nat) : Int) = a + (i : Int) + 1 by omega], by go_num, ⟨by have := Q.out; omega⟩, PT2, HP, ⟨kept_set HK.out SG.out _ _⟩, ⟨below_set HB.out (HS.out _ SG.out)⟩⟩
    · have e : i = n := by have := Q.out; omega
      have E := Aside0.mk e
      have E2 : Aside0 (x = upI a n) := ⟨by
        have h := P.out
        rw [E.out] at h
        rw [h.done]
        refine List.ext_getElem (by rw [tab_length, upI_length]) fun j h1 h2 => ?_
        rw [upI_length] at h2
        have := upI_get n a j h2
        rw [getD_lt (by rw [upI_length]; exact h2)] at this
        rw [this]
        simp [tab]⟩
      clear e
      go_wp2
      go_ret
      rw [E2.out] at HR
      exact ⟨ret_int' (show a + (i : Int) = a + (n : Int) by rw [E.out]), HR.out, HK.out, HB.out⟩
set_option maxHeartbeats 1000000 in
/-- heldIntS of the numbers a, a + 1, ..: the number behind the last. -/
theorem heldI_calls (A : Option Addr) (c n : Nat) (a : Int) (h0 : 0 ≤ a) (h1 : a ≤ 1000000000) (hn : n ≤ 1000000000) (w : World) (hr : Kd.C (Kd.int .i64) w A n (upI a n)) :
    Calls Try.prog 43 #[.slice A n c, .int .i64 a] w fun e w' => e = .returned (.int .i64 (a + n)) ∧ Drawn0 w w' := by
  have HR := Aside0.mk hr
  clear hr
  go_enter Try.func43, Try.ntmps43
  go_wp2
  go_loopg [1, 5] n (fun q v1 v5 w' => ∃ i : Nat, v1 = .int .i64 (a + (i : Int)) ∧ v5 = .int .i64 (i : Int) ∧ Aside0 (i + q = n) ∧ Drawn0 w w')
  case atStart => exact ⟨0, by simp, rfl, ⟨by omega⟩, by repeat (first | exact Drawn0.refl _ | apply Drawn0.step)⟩
  case round =>
    obtain ⟨i, rfl, rfl, Q, ⟨nd, rfl⟩⟩ := hrel
    by_cases c : i < n
    · obtain ⟨q, rfl⟩ : ∃ q, gk = q + 1 := ⟨gk - 1, by have := Q.out; omega⟩
      obtain ⟨ad, e1, hx⟩ := Kd.at_int HR.out (i : Int) (by omega) (by omega)
      rw [rd_nat, upI_get n a i c, Int.toNat_natCast] at hx
      subst e1
      go_wp2
      go_roundg q
      case measure => omega
      case rel => exact ⟨i + 1, by rw [show a + ((i + 1 : Nat) : Int) = a + (i : Int) + 1 by omega], by go_num, ⟨by have := Q.out; omega⟩, by repeat (first | exact Drawn0.refl _ | apply Drawn0.step)⟩
    · have E := Aside0.mk (show i = n by have := Q.out; omega)
      go_wp2
      go_ret
      exact ⟨ret_int' (show a + (i : Int) = a + (n : Int) by rw [E.out]), by repeat (first | exact Drawn0.refl _ | apply Drawn0.step)⟩
end Go.Proofs.Ytjjaahdfjjomiaa.Wk
