/- A walk of this seat's own: the law FnWaves returns true for all arguments. -/
import Derived.Test.YtdijjadoneeadaaDoorWkDraw2
import Derived.Test.YtdijjadoneeadaaDoorWkPow2
import Derived.Test.YtdijjadoneeadaaDoorWvErr
namespace Go.Proofs.YtdijjadoneeadaaDoor.Wk
open Go.RowKit Go.Proofs.YtdijjadoneeadaaDoorW.PrintWords Go.Proofs.YtdijjadoneeadaaDoorW.PrintLast Go.Proofs.YtdijjadoneeadaaDoorW.PrintMore Go.Proofs.YtdijjadoneeadaaDoor.My Go.Proofs.YtdijjadoneeadaaDoor.Wv
set_option linter.unusedVariables false
set_option linter.unusedSimpArgs false
attribute [local congr] bind_left ite_left
attribute [local go_sem] run_store_float
theorem okL_sm {x : List Int} (h : x.length = 16) : okL (smL x) :=
  ⟨inB_iff.2 fun i _ => by have := smL_b x i; omega, by rw [smL_length, h]⟩
theorem not_okL {x : List Int} (h : ¬ x.length = 16) : ¬ okL (smL x) := fun k => h (by rw [← smL_length]; exact k.2)
set_option maxRecDepth 100000 in
set_option maxHeartbeats 40000000 in
theorem law_LawWv (A0 : Option Addr) (c0 : Nat) (l0 : List Int) (A1 : Option Addr) (c1 : Nat) (l1 : List Int) (hw0 : ∀ x ∈ l0, (Lit.int .u8 x).wf = true) (hw1 : ∀ x ∈ l1, (Lit.int .u8 x).wf = true) (w : World) (hc0 : l0.length ≤ c0) (hr0 : Kd.C (Kd.int .u8) w A0 l0.length l0) (hc1 : l1.length ≤ c1) (hr1 : Kd.C (Kd.int .u8) w A1 l1.length l1) (hT : PT w) :
    Calls Tryd.prog 4 #[.slice A0 l0.length c0, .slice A1 l1.length c1] w fun e w' => e = .returned (.bool true) ∧ Below w.heap.size w w' := by
  by_cases h0 : 1048576 < l0.length
  · go_enter Tryd.func4, Tryd.ntmps4
    go_wp2
    go_ret
    exact ⟨rfl, Below.refl _ _⟩
  by_cases h1 : 1048576 < l1.length
  · go_enter Tryd.func4, Tryd.ntmps4
    go_wp2
    go_ret
    exact ⟨rfl, Below.refl _ _⟩
  have HR0 := Aside0.mk hr0
  have HR1 := Aside0.mk hr1
  have HW0 := Aside0.mk hw0
  have HW1 := Aside0.mk hw1
  have HT := Aside0.mk hT
  clear hr0 hr1 hw0 hw1 hT
  go_enter Tryd.func4, Tryd.ntmps4
  go_wp2_with fail
  refine (draw_calls _ A0 c0 l0 hc0 HR0.out HW0.out).mono ?_
  rintro e w1 ⟨A2, c2, x, rfl, x16, xc, xw, hr2, hb1⟩
  have H2 := Aside0.mk hr2
  have B1 := Aside0.mk hb1
  have X16 := Aside0.mk x16
  clear hr2 hb1 xw
  go_wp2_with fail
  refine (small_calls A2 c2 x x16 _ xc H2.out).mono ?_
  rintro e w2 ⟨va, rfl, ho, hb⟩
  obtain ⟨A3, c3, rfl⟩ := Kd.R_slice ho
  have C3 := Aside0.mk (R_cells ho)
  have B2 := Aside0.mk (below_step B1.out hb)
  clear ho hb B1 H2 x16 xc
  go_wp2_with fail
  refine (draw_calls _ A1 c1 l1 hc1 (Kd.C_below HR1.out B2.out) HW1.out).mono ?_
  rintro e w3 ⟨A4, c4, y, rfl, y16, yc, yw, hr4, hb3⟩
  have H4 := Aside0.mk hr4
  have B3 := Aside0.mk (below_step B2.out hb3)
  have D3 := Aside0.mk (Kd.C_below C3.out.2.2 hb3)
  have Y16 := Aside0.mk y16
  clear hr4 hb3 yw B2
  go_wp2_with fail
  refine (small_calls A4 c4 y y16 _ yc H4.out).mono ?_
  rintro e w4 ⟨vb, rfl, ho, hb⟩
  obtain ⟨A5, c5, rfl⟩ := Kd.R_slice ho
  have C5 := Aside0.mk (R_cells ho)
  have B4 := Aside0.mk (below_step B3.out hb)
  have D4 := Aside0.mk (Kd.C_below D3.out hb)
  clear ho hb H4 y16 yc D3 B3
  by_cases hx : x.length = 16
  · have OA := Aside0.mk (okL_sm hx)
    have LA := Aside0.mk OA.out.2
    go_wp2_with fail
    refine (waves_impl A3 c3 (smL x) (by rw [OA.out.2]; decide) _ C3.out.2.1 D4.out (HT.out.stay B4.out) OA.out).mono ?_
    rintro e w5 ⟨gx, cx, rfl, gxge, hrx, hb⟩
    have WX := Aside0.mk hrx
    have B5 := Aside0.mk (below_step B4.out hb)
    have D5 := Aside0.mk (Kd.C_below D4.out hb)
    have E5 := Aside0.mk (Kd.C_below C5.out.2.2 hb)
    clear hrx hb D4 B4 gxge
    by_cases hy : y.length = 16
    · have OB := Aside0.mk (okL_sm hy)
      have LB := Aside0.mk OB.out.2
      go_wp2_with fail
      refine (waves_impl A5 c5 (smL y) (by rw [OB.out.2]; decide) _ C5.out.2.1 E5.out (HT.out.stay B5.out) OB.out).mono ?_
      rintro e w6 ⟨gy, cy, rfl, gyge, hry, hb⟩
      have B6 := Aside0.mk (below_step B5.out hb)
      obtain ⟨a, ha⟩ : ∃ a, a = smL x := ⟨_, rfl⟩
      obtain ⟨b, hb'⟩ : ∃ b, b = smL y := ⟨_, rfl⟩
      have AB : Aside0 (∀ i, -16383 ≤ a.getD i 0 ∧ a.getD i 0 ≤ 16383) := ⟨by rw [ha]; exact smL_b x⟩
      have BB : Aside0 (∀ i, -16383 ≤ b.getD i 0 ∧ b.getD i 0 ≤ 16383) := ⟨by rw [hb']; exact smL_b y⟩
      have WX6 : Aside0 (WRow w6 gx 16 (waves a)) := ⟨by rw [ha]; exact WX.out.below hb⟩
      have WY6 : Aside0 (WRow w6 gy 16 (waves b)) := ⟨by rw [hb']; exact hry⟩
      have D6 : Aside0 (Kd.C (Kd.int .i64) w6 A3 16 a) := ⟨by rw [ha]; have := Kd.C_below D5.out hb; rwa [LA.out] at this⟩
      have E6 : Aside0 (Kd.C (Kd.int .i64) w6 A5 16 b) := ⟨by rw [hb']; have := Kd.C_below E5.out hb; rwa [LB.out] at this⟩
      rw [LA.out, LB.out]
      clear hry hb gyge hx hy ha hb' WX D5 E5 B5 C3 C5 OA OB LA LB X16 Y16
      go_wp2_with ((with_reducible refine gate_dst (N := 51) rfl ?_); (refine Kd.R_make (Kd.int .i64) (w0 := w6) w6.heap.size 3 rfl (N := 51) rfl 22 _ _ rfl (16 : Int) rfl rfl Tryd.underlying22 (.int .i64 0) 8 info3 rfl (by decide) (by omega) 0 (ok := fun _ => True) (okp := fun _ => True) rfl (fun _ hk => hk) trivial (by omega) (by omega) ?mB1 ?mS1 ?_); (case mB1 => first | exact Below.refl _ _ | exact HB.out); (case mS1 => first | exact Nat.le_refl _ | exact below_size HB.out); intro v1 w1 ho hb hg hn; (try rw [Int.toNat_natCast] at ho); obtain ⟨A1, c1, rfl⟩ := R_slice_n (n := 16) ho (by simp); have HO := Aside0.mk ho; have HB := Aside0.mk hb; clear ho hb hg hn)
      go_loopg [10, 11, 54] 16 (fun q v10 v11 v54 w' => ∃ (i : Nat) (su tu : Int) (z : List Int), v10 = .int .i64 su ∧ v11 = .int .i64 tu ∧ v54 = .int .i64 (i : Int) ∧ Aside0 (i + q = 16) ∧ Aside0 (su = sumTo a i) ∧ Aside0 (tu = turnTo a i) ∧ Aside0 (Part 16 i z (fun k => a.getD k 0 + b.getD k 0) (fun _ => 0)) ∧ Aside0 (Kd.R (Kd.int .i64) 3 w' w6.heap.size (fun _ => True) (.slice A1 16 c1) z) ∧ Aside0 (Below w6.heap.size w6 w'))
      case atStart => exact ⟨0, 0, 0, _, rfl, rfl, rfl, ⟨by omega⟩, ⟨rfl⟩, ⟨rfl⟩, ⟨Part.zeros _ _⟩, HO, HB⟩
      case round =>
        clear HO HB
        obtain ⟨i, su, tu, z, rfl, rfl, rfl, Q, SU, TU, PZ, HO, HB⟩ := hrel
        by_cases c0 : i < 16
        · obtain ⟨q, rfl⟩ : ∃ q, gk = q + 1 := ⟨gk - 1, by have := Q.out; omega⟩
          have zl : z.length = 16 := PZ.out.1
          obtain ⟨gb, cap, e2, gbb, gl, cl, hg⟩ := Kd.R_form HO.out (by omega)
          rw [zl] at e2
          cases e2
          obtain ⟨hx, hfz⟩ := Kd.R_celln 0 HO.out (i : Int) (by omega) (by omega)
          rw [Int.toNat_natCast] at hx hfz
          have GB := Aside0.mk gbb
          obtain ⟨ada, ea, hxa⟩ := Kd.at_int (Kd.C_below D6.out HB.out) (i : Int) (by omega) (by omega)
          obtain ⟨adb, eb, hxb⟩ := Kd.at_int (Kd.C_below E6.out HB.out) (i : Int) (by omega) (by omega)
          rw [rd_nat, Int.toNat_natCast] at hxa hxb
          have ab := AB.out i
          have bb := BB.out i
          have sb := sumTo_b AB.out i
          have tb := turnTo_b AB.out i
          rw [← SU.out] at sb
          rw [← TU.out] at tb
          obtain ⟨u, hu⟩ : ∃ u, u = a.getD i 0 := ⟨_, rfl⟩
          obtain ⟨v, hv⟩ : ∃ v, v = b.getD i 0 := ⟨_, rfl⟩
          rw [← hu] at hxa ab
          rw [← hv] at hxb bb
          subst ea eb
          have i0 : (0 : Int) ≤ (i : Int) := by omega
          have i16 : (i : Int) < 16 := by omega
          have PT2 := Aside0.mk (PZ.out.set c0 (v := u + v) (by rw [hu, hv]))
          have SU2 : Aside0 (su + u = sumTo a (i + 1)) := ⟨by rw [SU.out, hu]; rfl⟩
          have HU := Aside0.mk hu
          clear hu hv gbb gl cl hg zl
          go_wp2
          go_region
          obtain ⟨w7, h7⟩ : ∃ w7, w7 = (wr.setCell ⟨gb, i, none⟩ (.int .i64 (u + v))).drew := ⟨_, rfl⟩
          rw [← h7]
          have HO7 : Aside0 (Kd.R (Kd.int .i64) 3 w7 w6.heap.size (fun _ => True) (.slice (some ⟨gb, 0, none⟩) 16 c1) (z.set i (u + v))) := ⟨by rw [h7]; exact Kd.R_drew (Kd.R_putn HO.out (i : Int) (u + v))⟩
          have HB7 : Aside0 (Below w6.heap.size w6 w7) := ⟨by rw [h7]; exact below_drew (below_set HB.out GB.out)⟩
          clear h7 hx hfz hxa hxb HO HB
          obtain ⟨ada', ea, hxa⟩ := Kd.at_int (Kd.C_below D6.out HB7.out) (i : Int) (by omega) (by omega)
          rw [rd_nat, Int.toNat_natCast, ← HU.out] at hxa
          cases ea
          by_cases pe : i % 2 = 0
          · have TU2 : Aside0 (tu + u = turnTo a (i + 1)) := ⟨by unfold turnTo; rw [if_pos pe, TU.out, HU.out]⟩
            go_wp2
            go_roundg q
            case measure => omega
            case rel => exact ⟨i + 1, su + u, tu + u, _, rfl, rfl, by go_num, ⟨by have := Q.out; omega⟩, SU2, TU2, PT2, HO7, HB7⟩
          · have TU2 : Aside0 (tu - u = turnTo a (i + 1)) := ⟨by unfold turnTo; rw [if_neg pe, TU.out, HU.out]⟩
            go_wp2
            go_roundg q
            case measure => omega
            case rel => exact ⟨i + 1, su + u, tu - u, _, rfl, rfl, by go_num, ⟨by have := Q.out; omega⟩, SU2, TU2, PT2, HO7, HB7⟩
        · have i16 : i = 16 := by have := Q.out; omega
          have ZE : Aside0 (z = tab 16 (fun k => a.getD k 0 + b.getD k 0)) := ⟨by have h := PZ.out; rw [i16] at h; exact h.done⟩
          have ZL : Aside0 (z.length = 16) := ⟨PZ.out.1⟩
          have ZG : Aside0 (∀ k, k < 16 → z.getD k 0 = a.getD k 0 + b.getD k 0) := ⟨fun k hk => by rw [ZE.out, tab_get hk]⟩
          have OZ : Aside0 (okL z) := ⟨inB_iff.2 fun k hk => by
            have := ZG.out k (by have := ZL.out; omega)
            have := AB.out k
            have := BB.out k
            omega, ZL.out⟩
          have EX := Aside0.mk (waves_exact AB.out)
          have S16 : Aside0 (su = sumTo a 16) := ⟨by rw [SU.out, i16]⟩
          have T16 : Aside0 (tu = turnTo a 16) := ⟨by rw [TU.out, i16]⟩
          have HZ := Aside0.mk (R_cells HO.out)
          have ERR := Aside0.mk (waves_err AB.out BB.out ZG.out)
          have B8 := Aside0.mk (below_step B6.out HB.out)
          clear i16 PZ SU TU Q
          go_wp2_with fail
          have wz := waves_impl A1 c1 z (by rw [ZL.out]; decide) wr (by have := HZ.out.2.1; rw [ZL.out]; exact this) (by have := HZ.out.2.2; exact this) (HT.out.stay B8.out) OZ.out
          rw [ZL.out] at wz
          refine wz.mono ?_
          clear wz
          rintro e w9 ⟨gz, cz, rfl, gzge, hrz, hb⟩
          have WZ := Aside0.mk hrz
          have WX9 := Aside0.mk ((WX6.out.below HB.out).below hb)
          have WY9 := Aside0.mk ((WY6.out.below HB.out).below hb)
          have B9 := Aside0.mk (below_step B8.out hb)
          clear hrz gzge hb B8 HO HB HZ
          have sb := sumTo_b AB.out 16
          have tb := turnTo_b AB.out 16
          rw [← S16.out] at sb
          rw [← T16.out] at tb
          obtain ⟨x00, _, _, _⟩ := WX9.out.cell 0 (by omega)
          obtain ⟨x80, _, _, _⟩ := WX9.out.cell 8 (by omega)
          obtain ⟨P0, hP0⟩ : ∃ P, P = waves a 0 := ⟨_, rfl⟩
          obtain ⟨P8, hP8⟩ : ∃ P, P = waves a 8 := ⟨_, rfl⟩
          have X0 : w9.cell? ⟨gx, 0, none⟩ = some (.float .f64 P0.1) := by rw [hP0]; exact x00
          have X8 : w9.cell? ⟨gx, 16, none⟩ = some (.float .f64 P8.1) := by rw [hP8]; exact x80
          have n0 : (FloatKind.f64.format.order P0.1 (floatOfInt .f64 su) != some .eq) = false := by
            rw [hP0, S16.out]
            exact exact_eq EX.out.1 (by have := sumTo_b AB.out 16; omega) (by have := sumTo_b AB.out 16; omega)
          have n8 : (FloatKind.f64.format.order P8.1 (floatOfInt .f64 tu) != some .eq) = false := by
            rw [hP8, T16.out]
            exact exact_eq EX.out.2 (by have := turnTo_b AB.out 16; omega) (by have := turnTo_b AB.out 16; omega)
          clear x00 x80 hP0 hP8
          go_wp2
          go_loopg [126] 16 (fun q v126 w' => ∃ i : Nat, v126 = .int .i64 (i : Int) ∧ Aside0 (i + q = 16) ∧ Aside0 (Below w9.heap.size w9 w'))
          case atStart => exact ⟨0, rfl, ⟨by omega⟩, ⟨Below.refl _ _⟩⟩
          case round =>
            obtain ⟨j, rfl, Q, HB⟩ := hrel
            by_cases cj : j < 16
            · obtain ⟨q, rfl⟩ : ∃ q, gk = q + 1 := ⟨gk - 1, by have := Q.out; omega⟩
              obtain ⟨z1, z2, _, _⟩ := (WZ.out.below HB.out).cell j cj
              obtain ⟨x1, x2, _, _⟩ := (WX9.out.below HB.out).cell j cj
              obtain ⟨y1, y2, _, _⟩ := (WY9.out.below HB.out).cell j cj
              have ER := ERR.out j cj
              obtain ⟨X, hX⟩ : ∃ X, X = waves a j := ⟨_, rfl⟩
              obtain ⟨Y, hY⟩ : ∃ Y, Y = waves b j := ⟨_, rfl⟩
              obtain ⟨Z, hZ⟩ : ∃ Z, Z = waves z j := ⟨_, rfl⟩
              rw [← hX] at x1 x2 ER
              rw [← hY] at y1 y2 ER
              rw [← hZ] at z1 z2 ER
              obtain ⟨r1, r2, r3, r4⟩ := near ER.1
              obtain ⟨i1, i2, i3, i4⟩ := near ER.2
              have f1 := fop (op := .sub) r1
              have f2 := fop (op := .sub) r2
              have f3 := fop (op := .sub) i1
              have f4 := fop (op := .sub) i2
              have g3 : (FloatKind.f64.format.order (subT (subT Z.1 X.1) Y.1) 13830554455654793216 == some .lt) = false := r3
              have g4 : (FloatKind.f64.format.order (subT (subT Z.1 X.1) Y.1) 4607182418800017408 == some .gt) = false := r4
              have g5 : (FloatKind.f64.format.order (subT (subT Z.2 X.2) Y.2) 13830554455654793216 == some .lt) = false := i3
              have g6 : (FloatKind.f64.format.order (subT (subT Z.2 X.2) Y.2) 4607182418800017408 == some .gt) = false := i4
              have j0 : (0 : Int) ≤ (j : Int) := by omega
              have j16 : (j : Int) < 16 := by omega
              clear hX hY hZ ER r1 r2 r3 r4 i1 i2 i3 i4
              go_wp2
              go_quiet (fail)
              go_wp2
              go_quiet (fail)
              go_wp2
              go_roundg q
              case measure => omega
              case rel => exact ⟨j + 1, by go_num, ⟨by have := Q.out; omega⟩, ⟨by repeat (first | exact HB.out | apply pw_below_drewN | apply below_drew)⟩⟩
            · go_wp2
              go_ret
              exact ⟨rfl, below_step B9.out HB.out⟩
    · have NB := Aside0.mk (not_okL hy)
      have lb : ((smL y).length : Int) ≠ 16 := by rw [smL_length]; omega
      have la : ((smL x).length : Int) = 16 := by rw [smL_length]; omega
      have ly : (smL y).length ≤ 1048576 := by rw [smL_length]; have := Y16.out; omega
      go_wp2_with fail
      refine (waves_none A5 c5 (smL y) ly _ C5.out.2.1 E5.out NB.out).mono ?_
      rintro e w6 ⟨rfl, hb⟩
      have B6 := Aside0.mk (below_step B5.out hb)
      clear hb
      go_wp2
      go_ret
      exact ⟨rfl, B6.out⟩
  · have NA := Aside0.mk (not_okL hx)
    have la : ((smL x).length : Int) ≠ 16 := by rw [smL_length]; omega
    have lx : (smL x).length ≤ 1048576 := by rw [smL_length]; have := X16.out; omega
    have ly : (smL y).length ≤ 1048576 := by rw [smL_length]; have := Y16.out; omega
    go_wp2_with fail
    refine (waves_none A3 c3 (smL x) lx _ C3.out.2.1 D4.out NA.out).mono ?_
    rintro e w5 ⟨rfl, hb⟩
    have B5 := Aside0.mk (below_step B4.out hb)
    have E5 := Aside0.mk (Kd.C_below C5.out.2.2 hb)
    clear hb B4 D4
    by_cases hy : y.length = 16
    · have OB := Aside0.mk (okL_sm hy)
      go_wp2_with fail
      refine (waves_impl A5 c5 (smL y) ly _ C5.out.2.1 E5.out (HT.out.stay B5.out) OB.out).mono ?_
      rintro e w6 ⟨gy, cy, rfl, gyge, hry, hb⟩
      have B6 := Aside0.mk (below_step B5.out hb)
      clear hb hry
      go_wp2
      go_ret
      exact ⟨rfl, B6.out⟩
    · have NB := Aside0.mk (not_okL hy)
      go_wp2_with fail
      refine (waves_none A5 c5 (smL y) ly _ C5.out.2.1 E5.out NB.out).mono ?_
      rintro e w6 ⟨rfl, hb⟩
      have B6 := Aside0.mk (below_step B5.out hb)
      clear hb
      go_wp2
      go_ret
      exact ⟨rfl, B6.out⟩
end Go.Proofs.YtdijjadoneeadaaDoor.Wk
