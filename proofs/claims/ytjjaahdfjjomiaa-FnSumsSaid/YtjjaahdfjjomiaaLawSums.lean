/- Walks of this seat's own: wByte tells a byte; the law FnSums returns true for every two byte strings. -/
import Derived.Test.YtjjaahdfjjomiaaCrcApart
import Derived.Test.YtjjaahdfjjomiaaPFnExactAdlerx1
import Derived.Deep.RegionWith
namespace Go.Proofs.Ytjjaahdfjjomiaa.Wk
open Go.RowKit Go.Proofs.YtjjaahdfjjomiaaW.PrintWords Go.Proofs.YtjjaahdfjjomiaaW.PrintLast Go.Proofs.YtjjaahdfjjomiaaW.PrintMore Go.Proofs.Ytjjaahdfjjomiaa.My
open Go.Proofs.Ytjjaahdfjjomiaa.PFnExactAdler
set_option linter.unusedVariables false
set_option linter.unusedSimpArgs false
attribute [local congr] bind_left ite_left
theorem adler_or {a b : Int} (ha0 : 0 ≤ a) (ha : a < 65521) : Go.bits .or .u32 ((b * 65536) % 4294967296) a = (((65536 * b) % 4294967296) + a) % 4294967296 := by
  rw [bits_join .u32 32 (by decide) (fun n h0 h1 => by rw [IntKind.wrap_u32]; omega) 16 _ _ (by omega) (by omega) (by omega) ha0 (by omega) (by omega)]
  omega
theorem adler_l0 (l : List Int) (hl : l.length ≤ 1048576) (d : Nat) : ∀ (k : Nat) (a b : Int) (i : Nat), 0 ≤ a → a < 65521 → 0 ≤ b → b < 65521 → i + d = l.length → d < k →
    ∃ r, spec_Adler.l0 k a b l (l.length : Int) (i : Int) = some r ∧ impl_Adler.l0 k a b l (l.length : Int) (i : Int) = some r := by
  induction d with
  | zero =>
    intro k a b i ha0 ha hb0 hb hi hk
    obtain ⟨k, rfl⟩ : ∃ m, k = m + 1 := ⟨k - 1, by omega⟩
    simp only [spec_Adler.l0, impl_Adler.l0]
    rw [if_neg (by omega), if_neg (by omega), adler_or ha0 ha]
    exact ⟨_, rfl, rfl⟩
  | succ d ih =>
    intro k a b i ha0 ha hb0 hb hi hk
    obtain ⟨k, rfl⟩ : ∃ m, k = m + 1 := ⟨k - 1, by omega⟩
    simp only [spec_Adler.l0, impl_Adler.l0]
    rw [if_pos (by omega), if_pos (by omega), if_pos (by omega), if_pos (by omega), if_pos (by omega), if_pos (by omega), wrap64_nat (by omega)]
    exact ih k _ _ (i + 1) (by omega) (by omega) (by omega) (by omega) (by omega) (by omega)
theorem R_span {α : Type} {d : Kd α} {e : Nat} {w1 : World} {base : Nat} {ok : Nat → Prop} {v : Value} {xs : List α} (h : d.R e w1 base ok v xs) : d.R e w1 base (fun k => base ≤ k ∧ k < w1.heap.size) v xs :=
  Kd.R_mono (Kd.R_bound h) (fun k hk => ⟨hk.2.1, hk.2.2.1⟩)
theorem R_cells {α : Type} {d : Kd α} {e : Nat} {w1 : World} {base : Nat} {ok : Nat → Prop} {A : Option Addr} {n c : Nat} {xs : List α} (h : d.R e w1 base ok (.slice A n c) xs) : n = xs.length ∧ n ≤ c ∧ d.C w1 A xs.length xs := Kd.R_reads' h
theorem size_le {B : Nat} {w w1 : World} (h : Below B w w1) : w.heap.size ≤ w1.heap.size := h.size
/-- A cell of old memory. -/
theorem cell_stay {w w1 : World} (hb : Below w.heap.size w w1) {a : Addr} {v : Value} (h : w.cell? a = some v) : w1.cell? a = some v := pw_cell_below hb h
theorem R_slice_n {α : Type} {d : Kd α} {e : Nat} {w : World} {base n : Nat} {ok : Nat → Prop} {v : Value} {xs : List α} (h : d.R e w base ok v xs) (hl : xs.length = n) : ∃ A c, v = .slice A n c := by
  obtain ⟨A, c, e⟩ := Kd.R_slice h
  exact ⟨A, c, by rw [e, hl]⟩
theorem wf_u8 {z : Int} (h0 : 0 ≤ z) (h1 : z ≤ 255) : (Lit.int .u8 z).wf = true := by
  simp [Lit.wf, IntKind.min, IntKind.max, IntKind.bits, IntKind.signed]
  omega
def ByteInt (w : World) (e : Ending) (w' : World) : Prop := ∃ v : Int, 0 ≤ v ∧ v ≤ 255 ∧ e = .returned (.int .i64 v) ∧ Drawn0 w w'
set_option maxHeartbeats 1000000 in
theorem wbyte_calls (A : Option Addr) (c : Nat) (l : List Int) (j : Int) (j0 : 0 ≤ j) (j1 : j ≤ 1000) (hl : l.length ≤ 1048576) (hby : ∀ x ∈ l, (Lit.int .u8 x).wf = true) (w : World) (hr : Kd.C (Kd.int .u8) w A l.length l) :
    Calls Try.prog 25 #[.slice A l.length c, .int .i64 j] w (ByteInt w) := by
  by_cases h : l.length = 0
  · have h0 : ((l.length : Int) == 0) = true := beq_iff_eq.2 (by omega)
    have H := Aside0.mk h
    clear h
    go_enter Try.func25, Try.ntmps25
    go_wp2
    go_ret
    exact ⟨0, by decide, by decide, rfl, Drawn0.refl _⟩
  · have h0 : ((l.length : Int) == 0) = false := beq_eq_false_iff_ne.2 (by omega)
    have p0 : 0 ≤ j % (l.length : Int) := Int.emod_nonneg _ (by omega)
    have p1 : j % (l.length : Int) < l.length := Int.emod_lt_of_pos _ (by omega)
    obtain ⟨ad, e1, hx⟩ := Kd.at_int hr (j % (l.length : Int)) p0 p1
    have hbb := rd_byte hby (j % (l.length : Int))
    obtain ⟨b, hb⟩ : ∃ b, b = rd l (j % (l.length : Int)) := ⟨_, rfl⟩
    rw [← hb] at hx hbb
    clear hb hby hr
    obtain ⟨b0, b1⟩ := hbb
    subst e1
    have lp : 0 < l.length := by omega
    clear h
    go_enter Try.func25, Try.ntmps25
    go_wp2
    go_ret
    exact ⟨b, b0, b1, rfl, by repeat (first | exact Drawn0.refl _ | apply Drawn0.step)⟩
theorem info5 : (Try.prog.info? 5).map (fun i => (i.zero, i.size, i.bytes)) = some (some (.int .u8 0), 1, 1) := by kernel_rfl
set_option maxHeartbeats 8000000 in
set_option maxRecDepth 100000 in
theorem law_sums_at (A B : Option Addr) (c cB : Nat) (l m : List Int) (hl : l.length ≤ 1048576) (hm : m.length ≤ 1048576) (hp : 0 < l.length) (hby : ∀ x ∈ l, (Lit.int .u8 x).wf = true) (hbm : ∀ x ∈ m, (Lit.int .u8 x).wf = true) (w : World) (hc : l.length ≤ c) (hr : Kd.C (Kd.int .u8) w A l.length l) (hrB : Kd.C (Kd.int .u8) w B m.length m) :
    Calls Try.prog 8 #[.slice A l.length c, .slice B m.length cB] w fun e w' => e = .returned (.bool true) ∧ Below w.heap.size w w' := by
  obtain ⟨r, h1, h2⟩ := adler_l0 l hl l.length 1048577 1 0 0 (by omega) (by omega) (by omega) (by omega) (by omega) (by omega)
  have HR := Aside0.mk hr
  have HRB := Aside0.mk hrB
  have HBY := Aside0.mk hby
  have HBM := Aside0.mk hbm
  have AS := Aside0.mk (show spec_Adler.f 1048577 l = some r from h1)
  have AI := Aside0.mk (show impl_Adler.f 1048577 l = some r from h2)
  obtain ⟨x, hx⟩ : ∃ x, x = crcOf l := ⟨_, rfl⟩
  have HX := Aside0.mk hx
  have z0 : ((l.length : Int) == 0) = false := beq_eq_false_iff_ne.2 (by omega)
  clear hr hrB hby hbm h1 h2 hx
  go_enter Try.func8, Try.ntmps8
  go_wp2_with fail
  refine (crc_impl A c l hl HBY.out _ HR.out).mono ?_
  rw [← HX.out]
  rintro e w1 ⟨rfl, ⟨n1, rfl⟩⟩
  go_wp2_with fail
  refine (crc_spec A c l hl HBY.out _ (Kd.C_drewN HR.out _)).mono ?_
  rw [← HX.out]
  rintro e w2 ⟨rfl, ⟨n2, rfl⟩⟩
  go_wp2_with fail
  refine (impl_Adler.calls _ A c l r _ ?h hc AI.out).mono ?_
  case h => repeat (first | exact HR.out | (with_reducible refine Kd.C_drewN ?_ _))
  rintro e w3 ⟨rfl, ⟨n3, rfl⟩⟩
  go_wp2_with fail
  refine (spec_Adler.calls _ A c l r _ ?h hc AS.out).mono ?_
  case h => repeat (first | exact HR.out | (with_reducible refine Kd.C_drewN ?_ _))
  rintro e w4 ⟨rfl, ⟨n4, rfl⟩⟩
  clear AS AI
  go_wp2_with (first | ((with_reducible refine gate_dst (N := 30) rfl ?_); refine Kd.R_lit (Kd.int .u8) _ 5 ?hg (N := 30) ?hd (xs := ([] : List Int)) (inner := []) (ok := fun _ => True) (okp := fun _ => True) ?hr ?hp (fun _ hk => hk) trivial (Below.refl _ _) (Nat.le_refl _) (by simp) ?_; (case hd => rfl); (case hg => rfl); (case hr => first | (go_simp; done) | (go_simp; rfl)); (case hp => exact (Reps.none _ _)); intro v5 w5 ho hb hg_ hn_; have HO := Aside0.mk (Kd.R_lower ho (show w.heap.size ≤ _ by simp)); have HB := Aside0.mk (show Below w.heap.size w w5 from below_step (by repeat (first | exact Below.refl _ _ | apply pw_below_drewN)) hb); clear ho hb hg_ hn_) | ((with_reducible refine gate_builtin (b := .append) (xs := #[.tmp 30, .tmp 31]) rfl ?_); at_builtin; refine Kd.R_append_rows (Kd.int .u8) (w0 := w) w.heap.size rfl (.tmp 30) (.tmp 31) 28 5 (.int .u8 0) 1 rfl Try.underlying28 info5 rfl (by decide) (by omega) v5 [] l _ _ _ (fun _ => True) (fun _ => False) rfl rfl ?aO ?aR (fun _ _ h => h) (fun _ h => h.elim) ?aF ?aB ?aS ?aL ?_; (case aR => exact Kd.C_below HR.out HB.out); (case aB => exact HB.out); (case aF => exact fun _ _ => trivial); (case aO => exact HO.out); (case aS => exact below_size HB.out); (case aL => simp; omega); intro v6 w6 ho hb hg hat; rw [List.nil_append] at ho; obtain ⟨A6, c6, rfl⟩ := Kd.R_slice ho; have HO6 := Aside0.mk (R_span ho); have HB6 := Aside0.mk hb; clear ho hb hg hat HO HB))
  refine (wbyte_calls B cB m 0 (by decide) (by decide) hm HBM.out _ (Kd.C_below HRB.out HB6.out)).mono ?_
  rintro e w7 ⟨k0, k00, k01, rfl, ⟨n7, rfl⟩⟩
  go_wp2_with fail
  refine (wbyte_calls B cB m 1 (by decide) (by decide) hm HBM.out _ (Kd.C_drewN (Kd.C_below HRB.out HB6.out) _)).mono ?_
  rintro e w8 ⟨k1, k10, k11, rfl, ⟨n8, rfl⟩⟩
  go_wp2_with fail
  refine (wbyte_calls B cB m 2 (by decide) (by decide) hm HBM.out _ ?h).mono ?_
  case h => repeat (first | exact Kd.C_below HRB.out HB6.out | (with_reducible refine Kd.C_drewN ?_ _))
  rintro e w9 ⟨k2, k20, k21, rfl, ⟨n9, rfl⟩⟩
  go_wp2_with fail
  have e0 : 0 ≤ (k0 + 256 * k1 + 65536 * k2) % (l.length : Int) := Int.emod_nonneg _ (by omega)
  have e1 : (k0 + 256 * k1 + 65536 * k2) % (l.length : Int) < l.length := Int.emod_lt_of_pos _ (by omega)
  obtain ⟨p, hp'⟩ := Int.eq_ofNat_of_zero_le e0
  rw [hp'] at e1 ⊢
  clear e0 hp'
  have pl : p < l.length := by omega
  obtain ⟨g, cap, e2, gb, gl, cl, hg⟩ := Kd.R_form HO6.out hp
  cases e2
  obtain ⟨hx, hfz⟩ := Kd.R_celln 0 HO6.out (p : Int) (by omega) (by omega)
  rw [Int.toNat_natCast] at hx hfz
  have gb' := Aside0.mk gb
  have gl' := Aside0.mk gl
  obtain ⟨b, hb⟩ : ∃ b, b = rdOf 0 l (p : Int) := ⟨_, rfl⟩
  rw [← hb] at hx
  have HBV : Aside0 (b = l[p]) := ⟨by rw [hb]; simp [rdOf, List.getD, pl]⟩
  have hbb := bounds_u8 (HBY.out _ (List.getElem_mem pl))
  rw [← HBV.out] at hbb
  obtain ⟨hb0, hb1⟩ := hbb
  clear gb gl hg hb
  go_region_with (go_at_call 25; refine (wbyte_calls B cB m 3 (by decide) (by decide) hm HBM.out _ ?h).mono ?_; (case h => repeat (first | exact Kd.C_below HRB.out HB6.out | (with_reducible refine Kd.C_drewN ?_ _) | (with_reducible refine Kd.C_drew ?_))); rintro e w10 ⟨k3, k30, k31, rfl, ⟨n10, rfl⟩⟩)
  all_goals
    have kb := turn_ne b (k3 % 8) hb0 hb1 (by omega) (by omega)
    have kv : (2 : Int) ^ min (k3 % 8).toNat 8 % 256 = 2 ^ (k3 % 8).toNat := by
      rw [Nat.min_eq_left (by omega)]
      have h1 := pow_pos (k3 % 8).toNat
      have h2 : (2 : Int) ^ (k3 % 8).toNat ≤ 2 ^ 7 := by
        rw [← pow_cast, ← pow_cast]
        exact Int.ofNat_le.2 (Nat.pow_le_pow_right (by decide) (by omega))
      rw [show (2 : Int) ^ 7 = 128 from rfl] at h2
      exact Int.emod_eq_of_lt (by omega) (by omega)
    obtain ⟨nb, hnb⟩ : ∃ nb, nb = bits .xor .u8 b (2 ^ min (k3 % 8).toNat 8 % 256) := ⟨_, rfl⟩
    rw [← kv, ← hnb] at kb
    have NB := Aside0.mk hnb
    have KB := Aside0.mk kb
    clear kb kv hnb
    go_wp2_with fail
    rw [← NB.out]
    have hlen : (l.set p nb).length = l.length := List.length_set
    obtain ⟨y, hy⟩ : ∃ y, y = crcOf (l.set p nb) := ⟨_, rfl⟩
    have NE : (y != x) = true := bne_iff_ne.2 (by rw [hy, HX.out]; exact crc_apart HBY.out p pl nb KB.out.2.1 KB.out.2.2 (by rw [← HBV.out]; exact KB.out.1))
    have WF : ∀ z ∈ l.set p nb, (Lit.int .u8 z).wf = true := by
      intro z hz
      rcases List.mem_or_eq_of_mem_set hz with h | h
      · exact HBY.out z h
      · rw [h]
        have h1 := KB.out.2.1
        have h2 := KB.out.2.2
        exact wf_u8 h1 h2
    have PR := Kd.R_putn (Kd.R_drewN HO6.out (n7 + n8 + n9 + 1 + n10)) (p : Int) nb
    rw [Int.toNat_natCast] at PR
    have K := crc_impl (some ⟨g, 0, none⟩) c6 (l.set p nb) (by rw [hlen]; exact hl) WF _ (R_cells PR).2.2
    rw [hlen, ← hy] at K
    refine K.mono ?_
    rintro e w11 ⟨rfl, ⟨n11, rfl⟩⟩
    have B11 := Aside0.mk (below_set (pw_below_drewN HB6.out (n7 + n8 + n9 + 1 + n10)) gb'.out (j := p) (v := .int .u8 nb))
    clear K PR WF hlen hy
    go_wp2_with fail
    refine (crc_impl A c l hl HBY.out _ (Kd.C_drewN (Kd.C_below HR.out B11.out) _)).mono ?_
    rw [← HX.out]
    rintro e w12 ⟨rfl, ⟨n12, rfl⟩⟩
    go_wp2_with fail
    go_ret
    exact ⟨rfl, pw_below_drewN B11.out _⟩
set_option maxHeartbeats 2000000 in
theorem law_sums (A B : Option Addr) (c cB : Nat) (l m : List Int) (hlm : l.length ≤ maxLen) (hmm : m.length ≤ maxLen) (hby : ∀ x ∈ l, (Lit.int .u8 x).wf = true) (hbm : ∀ x ∈ m, (Lit.int .u8 x).wf = true) (w : World) (hc : l.length ≤ c) (hr : Kd.C (Kd.int .u8) w A l.length l) (hrB : Kd.C (Kd.int .u8) w B m.length m) :
    Calls Try.prog 8 #[.slice A l.length c, .slice B m.length cB] w fun e w' => e = .returned (.bool true) ∧ Below w.heap.size w w' := by
  by_cases h1 : 1048576 < l.length
  · go_enter Try.func8, Try.ntmps8
    go_wp2
    go_ret
    exact ⟨rfl, Below.refl _ _⟩
  by_cases h2 : 1048576 < m.length
  · go_enter Try.func8, Try.ntmps8
    go_wp2
    go_ret
    exact ⟨rfl, Below.refl _ _⟩
  by_cases h3 : 0 < l.length
  · exact law_sums_at A B c cB l m (by omega) (by omega) h3 hby hbm w hc hr hrB
  · have hl : l.length ≤ 1048576 := by omega
    obtain ⟨r, e1, e2⟩ := adler_l0 l hl l.length 1048577 1 0 0 (by omega) (by omega) (by omega) (by omega) (by omega) (by omega)
    have HR := Aside0.mk hr
    have HBY := Aside0.mk hby
    have AS := Aside0.mk (show spec_Adler.f 1048577 l = some r from e1)
    have AI := Aside0.mk (show impl_Adler.f 1048577 l = some r from e2)
    obtain ⟨x, hx⟩ : ∃ x, x = crcOf l := ⟨_, rfl⟩
    have HX := Aside0.mk hx
    have z0 : ((l.length : Int) == 0) = true := beq_iff_eq.2 (by omega)
    clear hr hrB hby hbm e1 e2 hx h3
    go_enter Try.func8, Try.ntmps8
    go_wp2_with fail
    refine (crc_impl A c l hl HBY.out _ HR.out).mono ?_
    rw [← HX.out]
    rintro e w1 ⟨rfl, ⟨n1, rfl⟩⟩
    go_wp2_with fail
    refine (crc_spec A c l hl HBY.out _ (Kd.C_drewN HR.out _)).mono ?_
    rw [← HX.out]
    rintro e w2 ⟨rfl, ⟨n2, rfl⟩⟩
    go_wp2_with fail
    refine (impl_Adler.calls _ A c l r _ ?h hc AI.out).mono ?_
    case h => repeat (first | exact HR.out | (with_reducible refine Kd.C_drewN ?_ _))
    rintro e w3 ⟨rfl, ⟨n3, rfl⟩⟩
    go_wp2_with fail
    refine (spec_Adler.calls _ A c l r _ ?h hc AS.out).mono ?_
    case h => repeat (first | exact HR.out | (with_reducible refine Kd.C_drewN ?_ _))
    rintro e w4 ⟨rfl, ⟨n4, rfl⟩⟩
    clear AS AI
    go_wp2
    go_ret
    exact ⟨rfl, by repeat (first | exact Below.refl _ _ | apply pw_below_drewN)⟩
end Go.Proofs.Ytjjaahdfjjomiaa.Wk
