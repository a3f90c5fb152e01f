/- Proved: the statement FnExactGoodTonesSaid: for all tones (three numbers and two lists of lists of numbers) the law FnExactGoodTones returns true, and its argument reads behind the call as it read before. -/
import Derived.Test.YtflgalojbebfmaaRows
import Derived.Test.YtflgalojbebfmaaPureFnExactGoodTones
import Derived.WalkKit
import Derived.ProofKit
import Derived.OpenShut
import Derived.ChangeOld
import Derived.Below
import Derived.SizedLaws
import Derived.Lib.SmallJoins
import Derived.Deep.Matrix
namespace Go.Proofs.Ytflgalojbebfmaa.rowFnExactGoodTones
open Go.ChangeShapes Go.WideShapes Go.ChangeAt Go.RowKit Go.Joins Go.Deep Go.Proofs.YtflgalojbebfmaaW.PrintWords
theorem own : ownKnob Try.prog.godebug = none := by kernel_rfl
theorem laidOut : laidOutB Try.prog = true := by kernel_rfl
theorem cells48 : Try.prog.cellsOf 48 = 5 := by kernel_rfl
/-- A slice of slices of int out of its reading. -/
theorem rows_of {H : Type} {enc : TypeId × Value → H} {W : World} {fuel : Nat} {v : Value} {y : DataW H × List MemPlace} (h : DataW.trod enc Try.prog W 0 (fun _ => true) true fuel 38 [v] = some y) :
    ∃ (A : Option Addr) (c : Nat) (l : List (List Int)), v = .slice A l.length c ∧ l.length ≤ c ∧ l.length ≤ 9223372036854775807 ∧ (∀ x ∈ l, x.length ≤ 9223372036854775807) ∧ Kd.C (Kd.slice 3 (Kd.int .i64)) W A l.length l := by
  have hM : maxLen = 9223372036854775807 := by decide
  rcases open_int_rows Try.underlying38 Try.underlying22 Try.underlying3 (by kernel_rfl) (by kernel_rfl) h with ⟨hcs, _⟩ | ⟨a, len, cap, A, L, C, Z, hcs, _, hl, hm, _, hrows⟩
  · obtain rfl : v = .slice none 0 0 := by simpa using hcs
    exact ⟨none, 0, [], rfl, by simp, by simp, by simp, rfl, by simp, fun hn => absurd hn (by simp)⟩
  · obtain rfl : v = .slice (some a) len cap := by simpa using hcs
    have hlen : ((List.range len).map fun r => (Z r).take (L r)).length = len := by simp
    have hrow : ∀ r, r < len → ((Z r).take (L r)).length = L r := by
      intro r hr
      obtain ⟨_, h1, _, h2, _⟩ := hrows r (by omega)
      rw [List.length_take]
      omega
    refine ⟨some a, cap, (List.range len).map fun r => (Z r).take (L r), by rw [hlen], by rw [hlen]; exact hl, by rw [hlen]; omega, ?_, rfl, by rw [hlen]; omega, fun hn => ⟨a, rfl, fun j p hj => ?_⟩⟩
    · intro x hx
      obtain ⟨r, hr, rfl⟩ := List.mem_map.1 hx
      have hr' := List.mem_range.1 hr
      obtain ⟨_, h1, h2, _⟩ := hrows r (by omega)
      rw [hrow r hr']
      omega
    · obtain ⟨hj1, hj2⟩ := List.getElem?_eq_some_iff.1 hj
      rw [hlen] at hj1
      have hp : p = (Z j).take (L j) := by rw [← hj2]; simp
      obtain ⟨hc, h1, h2, h3, _, h5, h6⟩ := hrows j (by omega)
      have hLj := hrow j hj1
      subst hp
      refine ⟨[.slice (A j) (L j) (C j)], rfl, ⟨A j, C j, by rw [hLj], by rw [hLj]; exact h1, ?_⟩, ?_⟩
      · refine Kd.C_of_reads (d := (0 : Int)) (h1 := fun _ => rfl) ⟨rfl, by rw [hLj]; omega, fun hn => ?_⟩
        rw [hLj] at hn
        rcases hA : A j with _ | ad
        · have := h5 hA
          omega
        · refine ⟨ad, rfl, fun i hi => ?_⟩
          rw [hLj] at hi
          rw [(h6 ad hA).2 i (by omega)]
          simp [List.getD, hi]
      · intro i u hu
        cases i with
        | zero =>
          obtain rfl : Value.slice (A j) (L j) (C j) = u := by simpa using hu
          rw [show j * (Kd.slice 3 (Kd.int .i64)).sz + 0 = j from by simp [show (Kd.slice 3 (Kd.int .i64)).sz = 1 from rfl]]
          exact hc
        | succ i => simp at hu
/-- A struct of five fields of one cell each, by value. -/
theorem open_five {H : Type} {enc : TypeId × Value → H} {P : Program} {w : World} {base : Nat} {spare : Nat → Bool} {held : Bool} {r : Reach} {b0 : Nat} {t : TypeId} {f0 f1 f2 f3 f4 : Field} {v : Value} {d : DataW H} {p : List MemPlace} (hs : P.underlying t = some (.struct #[f0, f1, f2, f3, f4])) (hone : oneCellFields P #[f0, f1, f2, f3, f4] = true) (hC : P.cellsOf t = 5)
    (hv : Value.okWide P w r b0 t v) (h : DataW.Trod enc P w base spare held t v d p) :
    ∃ (v0 v1 v2 v3 v4 : Value) (y0 y1 y2 y3 y4 : DataW H × List MemPlace) (n : Nat), v = .agg #[v0, v1, v2, v3, v4] ∧ d = .agg [y0.1, y1.1, y2.1, y3.1, y4.1] ∧
      DataW.trod enc P w base spare held n f0.type [v0] = some y0 ∧ DataW.trod enc P w base spare held n f1.type [v1] = some y1 ∧ DataW.trod enc P w base spare held n f2.type [v2] = some y2 ∧ DataW.trod enc P w base spare held n f3.type [v3] = some y3 ∧ DataW.trod enc P w base spare held n f4.type [v4] = some y4 := by
  obtain ⟨cs, rfl, hsz⟩ := okWide_struct hs hv
  obtain ⟨l⟩ := cs
  match l, hsz.trans hC with
  | [c0, c1, c2, c3, c4], _ =>
    obtain ⟨fuel, hf⟩ := h
    obtain ⟨xs, n, _, hx, _, hlen, hg⟩ := DataW.trod_struct hs hf
    have one := fun (j : Nat) (f : Field) (hj : #[f0, f1, f2, f3, f4][j]? = some f) => hone_of hone j f hj
    match xs, hlen with
    | [y0, y1, y2, y3, y4], _ =>
      simp only [Prod.mk.injEq] at hx
      refine ⟨c0, c1, c2, c3, c4, y0, y1, y2, y3, y4, n, rfl, by simpa using hx.1, ?_, ?_, ?_, ?_, ?_⟩
      · simpa [Value.cells, (one 0 f0 rfl).1, (one 0 f0 rfl).2] using hg 0 f0 rfl
      · simpa [Value.cells, (one 1 f1 rfl).1, (one 1 f1 rfl).2] using hg 1 f1 rfl
      · simpa [Value.cells, (one 2 f2 rfl).1, (one 2 f2 rfl).2] using hg 2 f2 rfl
      · simpa [Value.cells, (one 3 f3 rfl).1, (one 3 f3 rfl).2] using hg 3 f3 rfl
      · simpa [Value.cells, (one 4 f4 rfl).1, (one 4 f4 rfl).2] using hg 4 f4 rfl
set_option linter.unusedVariables false
set_option maxRecDepth 100000 in
theorem lifted (os : Os) (started : os.Started) (H : Type) (enc : TypeId × Value → H) :
    ReturnsInHanded {} Try.checked os 14 .any (Rows.fnExactGoodTonesSpec.pre6 enc Try.prog Try.f14 Rows.fnExactGoodTonesRow.domain false) (Rows.fnExactGoodTonesSpec.post enc Try.prog Try.f14 false true false false) := by
  refine returnsInHanded_of_change_sized (C := Try.checked) own started (by kernel_rfl) Try.func14
    (ChangeSpec.witness6 (enc := enc) (C := Try.checked) false ⟨#[], #[.agg #[.int .i64 0, .int .i64 0, .int .i64 0, .slice none 0 0, .slice none 0 0]], []⟩ 8 (by kernel_rfl) (by kernel_rfl) (by kernel_rfl) (by kernel_rfl)) ?_
  intro W base args ds gs before hval0 hW hcnd _ _
  have hval : ∀ (j : Nat) t v, Try.f14.params[j]? = some t → args[j]? = some v → Value.okWide Try.prog W .any base t v := hval0
  have hW' := hW
  obtain ⟨p, q, hA0, hV, rfl, _, _⟩ := hW
  have hA : DataW.TrodAll enc Try.prog W 0 (fun _ => true) true Try.f14.params.toList args.toList ds p := hA0
  rw [Try.params14] at hA hval
  obtain ⟨v0, d0, rfl, rfl, h0⟩ := trodAll_one hA
  obtain ⟨rfl, rfl⟩ := trodVars_none hV
  have k0 := h0
  have lt0 : ∀ x ∈ p, x.block < W.heap.size := by obtain ⟨m, hm⟩ := k0; exact DataW.trod_lt m _ _ _ hm
  obtain ⟨c0, c1, c2, c3, c4, y0, y1, y2, y3, y4, m, rfl, rfl, hy0, hy1, hy2, hy3, hy4⟩ := open_five Try.underlying48 (by kernel_rfl) cells48 (hval 0 48 v0 rfl rfl) h0
  obtain ⟨a, e0, rfl, wa⟩ := DataW.trod_int Try.underlying3 hy0
  obtain ⟨b, e1, rfl, wb⟩ := DataW.trod_int Try.underlying3 hy1
  obtain ⟨c, e2, rfl, wc⟩ := DataW.trod_int Try.underlying3 hy2
  obtain ⟨A, cap, l0, rfl, hc0, hm0, hx0, hr0⟩ := rows_of hy3
  obtain ⟨A1, cap1, l1, rfl, hc1, hm1, hx1, hr1⟩ := rows_of hy4
  simp at e0 e1 e2
  subst e0 e1 e2
  clear hA0 hval0
  obtain ⟨k, hk⟩ := Pure.FnExactGoodTones a b c l0 l1 hm0 hx0 hm1 hx1
  refine (PFnExactGoodTones.laws_FnExactGoodTones.calls k a b c _ _ l0 _ _ l1 true W hr0 hc0 hr1 hc1 hk).mono fun e W' ⟨he, bel⟩ => ?_
  subst he
  exact ⟨_, rfl, _, _, _, [], _, [], hW', trodAll_mk1 (shut_bool Try.underlying4 _), trodAll_mk1 (Below.trod laidOut (by kernel_rfl) (of_decide_eq_true (by kernel_rfl)) k0 bel lt0), rfl, bel.frame _, fun h => by cases h⟩
theorem over : Rows.fnExactGoodTonesRow.holds Try.pinned (OpenSpec.ofChange Rows.fnExactGoodTonesSpec) :=
  OpenClaim.holds_of_wide 14 Try.f14 rfl rfl rfl rfl rfl rfl rfl ⟨rfl, rfl, rfl, rfl, rfl⟩ rfl rfl rfl rfl rfl (by kernel_rfl) Try.func14 (by kernel_rfl)
    (of_decide_eq_true (by kernel_rfl)) (by unfold Func.isWrapper; first | (rw [if_pos (by decide +kernel)]; kernel_rfl) | (rw [if_neg (by decide +kernel)]; exact ⟨rfl, rfl⟩))
    (fun os started H enc _ => lifted os started H enc)
theorem proved : Rows.FnExactGoodTonesSaid := over
#print axioms proved
end Go.Proofs.Ytflgalojbebfmaa.rowFnExactGoodTones
