/- Proved: the statement FnExactSeekToSaid: for every list of entries, every track and every time the law FnExactSeekTo returns true, and its argument reads behind the call as it read before. -/
import Derived.Test.YtbfcilailhcanaaRows
import Derived.Test.YtbfcilailhcanaaPureFnExactSeekTo
import Derived.WalkKit
import Derived.ProofKit
import Derived.OpenShut
import Derived.ChangeOld
import Derived.Below
import Derived.SizedLaws
import Derived.Lib.SmallJoins
import Derived.Deep.Slices
import Derived.Deep.Fields
namespace Go.Proofs.Ytbfcilailhcanaa.rowFnExactSeekTo
open Go.ChangeShapes Go.WideShapes Go.ChangeAt Go.RowKit Go.Joins Go.Deep Go.Proofs.YtbfcilailhcanaaW.PrintWords
theorem own : ownKnob Try.prog.godebug = none := by kernel_rfl
theorem laidOut : laidOutB Try.prog = true := by kernel_rfl
theorem cells76 : Try.prog.cellsOf 76 = 3 := by kernel_rfl
instance : Inhabited PFnExactSeekTo.S76 := ⟨PFnExactSeekTo.z76⟩
/-- A slice of entries out of its reading. -/
theorem entries_of {H : Type} {enc : TypeId × Value → H} {W : World} {fuel : Nat} {v : Value} {y : DataW H × List MemPlace} (h : DataW.trod enc Try.prog W 0 (fun _ => true) true fuel 58 [v] = some y) : ∃ A cap, ∃ l : List PFnExactSeekTo.S76, v = .slice A l.length cap ∧ l.length ≤ cap ∧ l.length ≤ maxLen ∧ Kd.C PFnExactSeekTo.k76 W A l.length l := by
  rcases open_slice Try.underlying58 h with ⟨hcs, _⟩ | ⟨a, len, cap, m, n, D, Pl, hcs, _, hl, hm, hmm, _, hx⟩
  · obtain rfl : v = .slice none 0 0 := by simpa using hcs
    exact ⟨none, 0, [], rfl, Nat.le_refl _, Nat.zero_le _, rfl, Nat.zero_le _, fun h => absurd h (Nat.lt_irrefl 0)⟩
  · obtain rfl : v = .slice (some a) len cap := by simpa using hcs
    obtain rfl : m = cap := by simpa using hmm
    have cellAt : ∀ i, i < len → ∃ x : PFnExactSeekTo.S76, ∀ j u, [Value.int .i64 x.f0, Value.int .i64 x.f1, Value.int .i64 x.f2][j]? = some u → W.cell? (a.add (i * 3 + j)) = some u := by
      intro i hi
      obtain ⟨cs', hc, ht⟩ := hx i (by omega)
      rw [cells76] at hc
      obtain ⟨_, hcl, hat⟩ := World.cells?_some hc
      obtain ⟨c0, c1, c2, rfl⟩ : ∃ c0 c1 c2, cs' = [c0, c1, c2] := by
        match cs', hcl with
        | [c0, c1, c2], _ => exact ⟨c0, c1, c2, rfl⟩
      obtain ⟨y0, y1, y2, n', _, _, t0, t1, t2⟩ := trod_struct3 Try.underlying76 ht
      have o3 : Try.prog.cellsOf 3 = 1 := by kernel_rfl
      obtain ⟨f0, e0, _, _⟩ := DataW.trod_int Try.underlying3 (by simpa [o3] using t0)
      obtain ⟨f1, e1, _, _⟩ := DataW.trod_int Try.underlying3 (by simpa [o3] using t1)
      obtain ⟨f2, e2, _, _⟩ := DataW.trod_int Try.underlying3 (by simpa [o3] using t2)
      simp at e0 e1 e2
      subst e0 e1 e2
      refine ⟨⟨f0, f1, f2⟩, fun j u hu => ?_⟩
      have hj : j < 3 := (List.getElem?_eq_some_iff.1 hu).1
      have := hat j hj
      rw [Go.Deep.add_add] at this
      rw [this]
      exact hu
    obtain ⟨V, hV⟩ := choose_lt (α := PFnExactSeekTo.S76) (p := fun i x => ∀ j u, [Value.int .i64 x.f0, Value.int .i64 x.f1, Value.int .i64 x.f2][j]? = some u → W.cell? (a.add (i * 3 + j)) = some u) cellAt
    have hlen : ((List.range len).map V).length = len := by simp
    refine ⟨some a, m, (List.range len).map V, by rw [hlen], by omega, by omega, rfl, by rw [hlen]; unfold maxLen at hm; omega, fun _ => ⟨a, rfl, fun j p hp => ?_⟩⟩
    have hj : j < len := by have := (List.getElem?_eq_some_iff.1 hp).1; omega
    obtain rfl : V j = p := by simpa [hj] using hp
    exact ⟨_, rfl, ⟨[.int .i64 (V j).f0], [.int .i64 (V j).f1, .int .i64 (V j).f2], rfl, rfl, [.int .i64 (V j).f1], [.int .i64 (V j).f2], rfl, rfl, rfl⟩, fun i u hu => hV j hj i u hu⟩
set_option linter.unusedVariables false
set_option maxRecDepth 100000 in
theorem lifted (os : Os) (started : os.Started) (H : Type) (enc : TypeId × Value → H) :
    ReturnsInHanded {} Try.checked os 14 .any (Rows.fnExactSeekToSpec.pre6 enc Try.prog Try.f14 Rows.fnExactSeekToRow.domain false) (Rows.fnExactSeekToSpec.post enc Try.prog Try.f14 false true false false) := by
  refine returnsInHanded_of_change_sized (C := Try.checked) own started (by kernel_rfl) Try.func14
    (ChangeSpec.witness6 (enc := enc) (C := Try.checked) false ⟨#[], #[.slice none 0 0, .int .i64 0, .int .i64 0], []⟩ 8 (by kernel_rfl) (by kernel_rfl) (by kernel_rfl) (by kernel_rfl)) ?_
  intro W base args ds gs before hval0 hW hcnd _ _
  have hval : ∀ (j : Nat) t v, Try.f14.params[j]? = some t → args[j]? = some v → Value.okWide Try.prog W .any base t v := hval0
  have hW' := hW
  obtain ⟨p, q, hA0, hV, rfl, _, _⟩ := hW
  have hA : DataW.TrodAll enc Try.prog W 0 (fun _ => true) true Try.f14.params.toList args.toList ds p := hA0
  rw [Try.params14] at hA hval
  obtain ⟨v0, v1, v2, d0, d1, d2, p0, p1, p2, rfl, rfl, rfl, h0, h1, h2⟩ := trodAll_three hA
  obtain ⟨rfl, rfl⟩ := trodVars_none hV
  have k0 := h0
  have lt0 : ∀ x ∈ p0, x.block < W.heap.size := by obtain ⟨m, hm⟩ := k0; exact DataW.trod_lt m _ _ _ hm
  obtain ⟨a0, len0, cap0, rfl⟩ := okWide_slice Try.underlying58 (hval 0 58 v0 rfl rfl)
  obtain ⟨b, rfl, rfl, rfl, w1⟩ := open_int Try.underlying3 (hval 1 3 v1 rfl rfl) h1
  obtain ⟨c, rfl, rfl, rfl, w2⟩ := open_int Try.underlying3 (hval 2 3 v2 rfl rfl) h2
  obtain ⟨fuel, hf⟩ := h0
  obtain ⟨A, cap, l, e0, hc0, hm0, hr0⟩ := entries_of (v := .slice a0 len0 cap0) (by simpa [Value.cells] using hf)
  simp only [Value.slice.injEq] at e0
  obtain ⟨rfl, rfl, rfl⟩ := e0
  clear hA0 hval0
  refine (PFnExactSeekTo.laws_FnExactSeekTo.calls _ _ _ l b c true W hr0 hc0 (Pure.FnExactSeekTo l hm0 b c)).mono fun e W' ⟨he, bel⟩ => ?_
  subst he
  exact ⟨_, rfl, _, _, _, [], _, [], hW', trodAll_mk1 (shut_bool Try.underlying4 _), (trodAll_cons_mk (Below.trod laidOut (by kernel_rfl) (of_decide_eq_true (by kernel_rfl)) k0 bel lt0) (trodAll_cons_mk (shut_int Try.underlying3 w1) (trodAll_cons_mk (shut_int Try.underlying3 w2) trodAll_mk0))), rfl, bel.frame _, fun h => by cases h⟩
theorem over : Rows.fnExactSeekToRow.holds Try.pinned (OpenSpec.ofChange Rows.fnExactSeekToSpec) :=
  OpenClaim.holds_of_wide 14 Try.f14 rfl rfl rfl rfl rfl rfl rfl ⟨rfl, rfl, rfl, rfl, rfl⟩ rfl rfl rfl rfl rfl (by kernel_rfl) Try.func14 (by kernel_rfl)
    (of_decide_eq_true (by kernel_rfl)) (by unfold Func.isWrapper; first | (rw [if_pos (by decide +kernel)]; kernel_rfl) | (rw [if_neg (by decide +kernel)]; exact ⟨rfl, rfl⟩))
    (fun os started H enc _ => lifted os started H enc)
theorem proved : Rows.FnExactSeekToSaid := over
#print axioms proved
end Go.Proofs.Ytbfcilailhcanaa.rowFnExactSeekTo
