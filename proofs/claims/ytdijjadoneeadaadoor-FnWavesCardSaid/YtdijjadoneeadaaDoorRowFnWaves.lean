/- Proved: the tied card of the statement FnWaves: whatever its arguments, where the program's table reads as its text lays it, the law FnWaves returns true, and each argument reads behind the call as it read before. -/
import Derived.Test.YtdijjadoneeadaaDoorRows
import Derived.Test.YtdijjadoneeadaaDoorCards
import Derived.Test.YtdijjadoneeadaaDoorTie
import Derived.Test.YtdijjadoneeadaaDoorLawWv
import Derived.WalkKit
import Derived.ProofKit
import Derived.OpenShut
import Derived.ChangeOld
import Derived.ChangeVars
import Derived.Below
import Derived.WalkSmall
import Derived.SizedLaws
import Derived.LaidMore
import Derived.Lib.LaidTab
import Derived.Stop.Joined
import Derived.SevenTiedAt
namespace Go.Proofs.YtdijjadoneeadaaDoor.rowFnWaves
open Go.ChangeShapes Go.WideShapes Go.ChangeAt Go.RowKit Go.Proofs.YtdijjadoneeadaaDoorW.PrintWords
set_option linter.unusedVariables false
theorem own : ownKnob Tryd.prog.godebug = none := by kernel_rfl
theorem laidOut : laidOutB Tryd.prog = true := by kernel_rfl
theorem gNo : Tryd.prog.globalNamed "loop.example/g00016/impl.zpairs" = some 0 := by kernel_rfl
theorem tyNo : (Tryd.prog.globals[0]?).map (·.type) = some 44 := by kernel_rfl
abbrev laid1 : List (String × DataW Unit) := [("loop.example/g00016/impl.zpairs", Rows.laid_loop_example_g00016_impl_zpairs)]
/-- A slice of whole numbers as it lies in memory: nil, or a row of cells. -/
def IsRow (k : IntKind) (w : World) (a : Option Addr) (len cap : Nat) (zs : List Int) : Prop :=
  (a = none ∧ len = 0 ∧ cap = 0 ∧ zs = []) ∨
  ∃ x, a = some x ∧ len ≤ cap ∧ cap ≤ maxLen ∧ zs.length = cap ∧ (∀ i, i < zs.length → w.cell? (x.add i) = some (.int k (zs.getD i 0))) ∧ ∀ n ∈ zs, (Lit.int k n).wf = true
theorem row_of {H : Type} {enc : TypeId × Value → H} {W : World} {t e : TypeId} {k : IntKind} {a : Option Addr} {len cap : Nat} {d : DataW H} {p : List MemPlace} (ht : Tryd.prog.underlying t = some (.slice e)) (he : Tryd.prog.underlying e = some (.int k)) (hc : Tryd.prog.cellsOf e = 1)
    (h : DataW.Trod enc Tryd.prog W 0 (fun _ => true) true t (.slice a len cap) d p) : ∃ zs, IsRow k W a len cap zs := by
  obtain ⟨fuel, hf⟩ := h
  rcases open_ints ht he hc hf with ⟨hcs, _⟩ | ⟨x, l, c, zs, hcs, _, hl, hm, hz, _, hcell, hwz⟩
  · simp [Value.cells] at hcs
    obtain ⟨rfl, rfl, rfl⟩ := hcs
    exact ⟨[], .inl ⟨rfl, rfl, rfl, rfl⟩⟩
  · simp [Value.cells] at hcs
    obtain ⟨rfl, rfl, rfl⟩ := hcs
    exact ⟨zs, .inr ⟨_, rfl, hl, hm, by simpa using hz, hcell, hwz⟩⟩
/-- A table of floats as a row lists it. -/
def tabF {H : Type} (zs : List Nat) : DataW H := .agg (zs.map fun z => .lit (.float .f64 z))
theorem trod_float {H : Type} {enc : TypeId × Value → H} {P : Program} {w : World} {base : Nat} {sp : Nat → Bool} {held : Bool} {fuel : Nat} {t : TypeId} {k : FloatKind} {cs : List Value} {x : DataW H × List MemPlace} (ht : P.underlying t = some (.float k)) (h : DataW.trod enc P w base sp held fuel t cs = some x) : ∃ n, cs = [.float k n] ∧ x = (.lit (.float k n), []) ∧ (Lit.float k n).wf = true := by
  cases fuel with
  | zero => simp [DataW.trod] at h
  | succ n =>
    unfold DataW.trod at h
    rw [ht] at h
    split at h <;> simp_all
theorem cells_of_tabF {H : Type} {enc : TypeId × Value → H} {P : Program} {w : World} {base : Nat} {sp : Nat → Bool} {held : Bool} {fuel : Nat} {t e : TypeId} {n : Nat} {cs : List Value} {zs : List Nat} {p : List MemPlace}
    (ht : P.underlying t = some (.array n e)) (he : P.underlying e = some (.float .f64)) (hce : P.cellsOf e = 1) (hct : P.cellsOf t = n)
    (h : DataW.trod enc P w base sp held fuel t cs = some (tabF zs, p)) : cs = zs.map fun z => Value.float .f64 z := by
  cases fuel with
  | zero => simp [DataW.trod] at h
  | succ fuel =>
    simp only [DataW.trod, ht, hce, hct, Nat.mul_one] at h
    split at h
    · rename_i hl
      obtain ⟨xs, hm, hx⟩ := Option.map_eq_some_iff.1 h
      have hxs : xs.map (·.1) = zs.map fun z => (DataW.lit (.float .f64 z) : DataW H) := by
        have := congrArg Prod.fst hx
        simpa [tabF] using this
      have hxl : xs.length = n := by simpa using Go.Lib.mapM_length hm
      have hzl : zs.length = n := by
        have := congrArg List.length hxs
        simp at this
        omega
      apply List.ext_getElem?
      intro i
      by_cases hi : i < n
      · obtain ⟨b, hb, hf⟩ := Go.Lib.mapM_at hm i i (by simp [hi])
        obtain ⟨z, hc, rfl, _⟩ := trod_float he hf
        have h1 : cs[i]? = some (.float .f64 z) := by
          have := congrArg (·[0]?) hc
          simpa [List.getElem?_take, List.getElem?_drop] using this
        have h2 : (xs.map (·.1))[i]? = some (DataW.lit (.float .f64 z) : DataW H) := by simp [hb]
        rw [hxs] at h2
        simp only [List.getElem?_map, Option.map_eq_some_iff, DataW.lit.injEq, Lit.float.injEq, true_and] at h2
        obtain ⟨z', hz', rfl⟩ := h2
        simp [h1, hz']
      · rw [List.getElem?_eq_none (by omega), List.getElem?_eq_none (by simp; omega)]
    · cases h
def twFRows : List (List Nat) := Wv.twL.map fun p => [p.1, p.2]
def twF : List Nat := twFRows.flatten
/-- An array of arrays of floats that reads as a table holds the table's numbers, cell for cell. -/
theorem cells2 {H : Type} {enc : TypeId × Value → H} {P : Program} {w : World} {base : Nat} {sp : Nat → Bool} {held : Bool} {fuel : Nat} {t e i : TypeId} {n m : Nat} {cs : List Value} {p : List MemPlace}
    (ht : P.underlying t = some (.array n e)) (he : P.underlying e = some (.array m i)) (hi : P.underlying i = some (.float .f64)) (hci : P.cellsOf i = 1) (hce : P.cellsOf e = m) (hct : P.cellsOf t = n * m) (rows : List (List Nat)) {zs : List Nat} (hz : rows.flatten = zs) {d : DataW H} (hdd : d = .agg (rows.map fun r => tabF r))
    (h : DataW.trod enc P w base sp held fuel t cs = some (d, p)) : cs = zs.map fun z => Value.float .f64 z := by
  subst hz hdd
  cases fuel with
  | zero => simp [DataW.trod] at h
  | succ fuel =>
    simp only [DataW.trod, ht, hce, hct] at h
    split at h
    · rename_i hl
      obtain ⟨xs, hm, hx⟩ := Option.map_eq_some_iff.1 h
      have hxs : xs.map (·.1) = rows.map fun r => (tabF r : DataW H) := by
        have := congrArg Prod.fst hx
        simpa using this
      have hxl : xs.length = n := by simpa using Go.Lib.mapM_length hm
      have hrl : rows.length = n := by
        have := congrArg List.length hxs
        simp at this
        omega
      have key : ∀ (j : Nat) (r : List Nat), rows[j]? = some r → (cs.drop (j * m)).take m = r.map fun z => Value.float .f64 z := by
        intro j r hr
        have hj : j < n := by
          rw [← hrl]
          exact (List.getElem?_eq_some_iff.1 hr).1
        obtain ⟨b, hb, hf⟩ := Go.Lib.mapM_at hm j j (by simp [hj])
        have h2 : (xs.map (·.1))[j]? = some b.1 := by simp [hb]
        rw [hxs] at h2
        simp only [List.getElem?_map, hr, Option.map_some, Option.some.injEq] at h2
        exact cells_of_tabF (zs := r) (p := b.2) he hi hci hce (by rw [h2]; exact hf)
      clear h hm hx hxs hxl
      have gen : ∀ (rows : List (List Nat)) (cs : List Value), cs.length = rows.length * m → (∀ (j : Nat) (r : List Nat), rows[j]? = some r → (cs.drop (j * m)).take m = r.map fun z => Value.float .f64 z) → cs = rows.flatten.map fun z => Value.float .f64 z := by
        intro rows
        induction rows with
        | nil => intro cs hc _; simp at hc; simp [hc]
        | cons r rows ih =>
          intro cs hc hk
          have h0 := hk 0 r rfl
          simp only [Nat.zero_mul, List.drop_zero] at h0
          have h1 := ih (cs.drop m) (by rw [List.length_drop, hc, List.length_cons, Nat.succ_mul]; omega) (fun j r' hr => by
            have := hk (j + 1) r' (by simpa using hr)
            rw [List.drop_drop, show m + j * m = (j + 1) * m by rw [Nat.succ_mul]; omega]
            exact this)
          rw [List.flatten_cons, List.map_append, ← h0, ← h1, List.take_append_drop]
      exact gen rows cs (by rw [hl, hrl]) key
    · cases h
theorem var_of_laid {W : World} (h : laidMetH Tryd.prog laid1 W) : W.var? Tryd.prog "loop.example/g00016/impl.zpairs" = some ((twF.map fun z => Value.float .f64 z).toArray) := by
  rw [MakeChecks.laidMetH_plain _ _ _ (by kernel_rfl)] at h
  obtain ⟨ps, ⟨g', t', cs, fuel, p, q, hg', ht', hvar, hd, _, _⟩, _⟩ := h
  obtain rfl := Option.some.inj (gNo.symm.trans hg')
  obtain rfl := Option.some.inj (tyNo.symm.trans ht')
  rw [hvar]
  congr 1
  obtain ⟨l⟩ := cs
  congr 1
  exact cells2 (n := 8) (m := 2) Tryd.underlying44 Tryd.underlying43 Tryd.underlying32 (by kernel_rfl) (by kernel_rfl) (by kernel_rfl) twFRows rfl rfl hd
theorem tab_of_var {W : World} (h : W.var? Tryd.prog "loop.example/g00016/impl.zpairs" = some ((twF.map fun z => Value.float .f64 z).toArray)) : Wk.PT W := fun i hi => by
  rw [World.var?_cell gNo h (i * 2), World.var?_cell gNo h (i * 2 + 1)]
  have : i = 0 ∨ i = 1 ∨ i = 2 ∨ i = 3 ∨ i = 4 ∨ i = 5 ∨ i = 6 ∨ i = 7 := by omega
  rcases this with rfl | rfl | rfl | rfl | rfl | rfl | rfl | rfl <;> exact ⟨rfl, rfl⟩
theorem door_met (os : Os) (args : Array Value) : laidMetH Tryd.prog laid1 ((World.doorLaid Tryd.prog 400 os).forCall (fun _ _ => 0) ⟨#[], args, []⟩).memory :=
  laidMetH_of_parts3 (fuel := 8) (laidMet_of_run' 8 (by kernel_rfl) (by kernel_rfl)) (by kernel_rfl) (by kernel_rfl)
abbrev tabH {H : Type} : DataW H := Rows.laid_loop_example_g00016_impl_zpairs
theorem reads_table {H : Type} (enc : TypeId × Value → H) (W : World) (sp : Nat → Bool) : DataW.trod enc Tryd.prog W 0 sp true 5 44 ((twF.map fun z => Value.float .f64 z).toArray).toList = some (tabH, []) := by kernel_rfl
set_option maxRecDepth 100000 in
theorem lifted (os : Os) (started : os.Started) (H : Type) (enc : TypeId × Value → H) :
    ReturnsInHanded {} Tryd.checked os 4 .any (fun w args => (Rows.fnWavesSpec.pre enc Tryd.prog Tryd.f4 [] false w args ∧ laidMetH Tryd.prog laid1 w) ∧ sizedMet enc Tryd.prog Tryd.f4 (OpenSpec.ofChange Rows.fnWavesSpec) false w args)
      (Rows.fnWavesSpec.post enc Tryd.prog Tryd.f4 false true false false) := by
  refine returnsInHanded_of_change_and (C := Tryd.checked) (X := fun w _ => laidMetH Tryd.prog laid1 w) (fun _ _ _ hh h => h.of_heap hh) own started (by kernel_rfl) Tryd.func4
    (ChangeSpec.witness_shaped (enc := enc) (C := Tryd.checked) (os := os) (X := fun w _ => laidMetH Tryd.prog laid1 w) false (World.doorLaid Tryd.prog 400 os) #[.slice none 0 0, .slice none 0 0] 8 rfl (World.shaped_of_RefB (by kernel_rfl) (by kernel_rfl)) (by kernel_rfl) (by kernel_rfl) (by kernel_rfl) (door_met os _)) ?_
  intro W base args ds gs before hval0 hW _ _ hL _
  have hval : ∀ (j : Nat) t v, Tryd.f4.params[j]? = some t → args[j]? = some v → Value.okWide Tryd.prog W .any base t v := hval0
  have hW' := hW
  obtain ⟨p, q, hA0, hV0, rfl, _, _⟩ := hW
  have hA : DataW.TrodAll enc Tryd.prog W 0 (fun _ => true) true Tryd.f4.params.toList args.toList ds p := hA0
  have hV : DataW.TrodVars enc Tryd.prog W (fun _ => true) ["loop.example/g00016/impl.zpairs"] gs q := hV0
  rw [Tryd.params4] at hA hval
  obtain ⟨v0, vs0, d0, ds0, p0, q0, hargs, rfl, rfl, h0, r0⟩ := trodAll_cons hA
  obtain ⟨v1, vs1, d1, ds1, p1, q1, rfl, rfl, rfl, h1, r1⟩ := trodAll_cons r0
  obtain ⟨rfl, rfl, rfl⟩ := trodAll_nil r1
  obtain rfl : args = #[v0, v1] := by cases args; simp_all
  obtain ⟨g, t, cs, fuel, d, p', rfl, hg, ht, hvar, hd, rfl⟩ := trodVars_one hV
  obtain rfl := Option.some.inj (gNo.symm.trans hg)
  obtain rfl := Option.some.inj (tyNo.symm.trans ht)
  obtain rfl := Option.some.inj (hvar.symm.trans (var_of_laid hL))
  obtain ⟨rfl, rfl⟩ := DataW.Trod.unique (v := .agg ((twF.map fun z => Value.float .f64 z).toArray)) ⟨fuel, hd⟩ ⟨5, reads_table enc W _⟩
  have HT : Wk.PT W := tab_of_var hvar
  have glt : 0 < W.heap.size := block_lt_of_cell (HT 0 (by decide)).1
  obtain ⟨A0, len0, c0, rfl⟩ := okWide_slice Tryd.underlying27 (hval 0 27 v0 rfl rfl)
  have k0 := h0
  have lt0 : ∀ x ∈ p0, x.block < W.heap.size := by obtain ⟨m, hm⟩ := k0; exact DataW.trod_lt m _ _ _ hm
  obtain ⟨z0, w0⟩ : ∃ zs, IsRow .u8 W A0 len0 c0 zs := row_of (e := 5) Tryd.underlying27 Tryd.underlying5 (by kernel_rfl) h0
  obtain ⟨l0, rfl, hq0, hm0, hw0, hc0⟩ := ReadsInt.ofRowC w0
  have hr0 : Kd.C (Kd.int .u8) W A0 l0.length l0 := Kd.C_of_reads (d := (0 : Int)) (h1 := fun _ => rfl) hq0
  obtain ⟨A1, len1, c1, rfl⟩ := okWide_slice Tryd.underlying27 (hval 1 27 v1 rfl rfl)
  have k1 := h1
  have lt1 : ∀ x ∈ p1, x.block < W.heap.size := by obtain ⟨m, hm⟩ := k1; exact DataW.trod_lt m _ _ _ hm
  obtain ⟨z1, w1⟩ : ∃ zs, IsRow .u8 W A1 len1 c1 zs := row_of (e := 5) Tryd.underlying27 Tryd.underlying5 (by kernel_rfl) h1
  obtain ⟨l1, rfl, hq1, hm1, hw1, hc1⟩ := ReadsInt.ofRowC w1
  have hr1 : Kd.C (Kd.int .u8) W A1 l1.length l1 := Kd.C_of_reads (d := (0 : Int)) (h1 := fun _ => rfl) hq1
  clear hA0 hV0 hval0
  refine (Wk.law_LawWv A0 c0 l0 A1 c1 l1 hw0 hw1 W hc0 hr0 hc1 hr1 HT).mono fun e W' ⟨he, bel⟩ => ?_
  subst he
  exact ⟨_, rfl, _, _, _, [], _, _, hW', trodAll_mk1 (shut_bool Tryd.underlying4 _), (trodAll_cons_mk (Below.trod laidOut (by kernel_rfl) (of_decide_eq_true (by kernel_rfl)) k0 bel lt0) (trodAll_cons_mk (Below.trod laidOut (by kernel_rfl) (of_decide_eq_true (by kernel_rfl)) k1 bel lt1) trodAll_mk0)), trodVars_mk1 hg ht (var?_below bel hg glt hvar) (reads_table enc W' _), bel.frame _, fun h => by cases h⟩
theorem over : Rows.fnWavesRow.holds Tryd.pinned (OpenSpec.ofChange Rows.fnWavesSpec) :=
  OpenClaim.holds_of_wide 4 Tryd.f4 rfl rfl rfl rfl rfl rfl rfl ⟨rfl, rfl, rfl, rfl, rfl⟩ rfl rfl rfl rfl rfl (by kernel_rfl) Tryd.func4 (by kernel_rfl)
    (of_decide_eq_true (by kernel_rfl)) (by unfold Func.isWrapper; first | (rw [if_pos (by decide +kernel)]; kernel_rfl) | (rw [if_neg (by decide +kernel)]; exact ⟨rfl, rfl⟩))
    (fun os started H enc _ => lifted os started H enc)
theorem proved : Rows.FnWavesCardSaid :=
  Claim7.holds_tied_plain_at .later [] [.data] true (true, "ac8bc6776149e296ff624d7914c8e9c6f07b589e3f9b5aaae0d252e2ae65602d") false
    over (fun _ h => by cases h) (by kernel_rfl) (fun _ h => by cases h) fnWaves_row_tie rfl ⟨rfl, rfl⟩ (by kernel_rfl) rfl
    (fun f fn hf hfn => by
      obtain rfl : f = 4 := Option.some.inj ((show Tryd.prog.funcNamed "loop.example/g00016/laws.FnWaves" = some 4 by kernel_rfl).symm.trans hf) |>.symm
      obtain rfl : fn = Tryd.f4 := (Option.some.inj (Tryd.func4.symm.trans hfn)).symm
      exact ⟨by kernel_rfl, fun j t ht => by
        rw [Tryd.params4] at ht
        have hm : t ∈ [27, 27] := by simpa using Array.mem_of_getElem? ht
        have hall : ([27, 27].all fun u => !Tryd.prog.wantsStandIn u) = true := by kernel_rfl
        exact (show Tryd.prog.wantsStandIn t = false by simpa using List.all_eq_true.1 hall t hm)⟩)
    (by kernel_rfl)
#print axioms proved
end Go.Proofs.YtdijjadoneeadaaDoor.rowFnWaves
