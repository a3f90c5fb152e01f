/- Proved: the tied card of the statement FnExactUnlap: whatever its arguments, where the program's table reads as its text lays it, the law FnExactUnlap returns true, and each argument reads behind the call as it read before. -/
import Derived.Test.YtkhpcclddkddmaaDoorRows
import Derived.Test.YtkhpcclddkddmaaDoorCards
import Derived.Test.YtkhpcclddkddmaaDoorTie
import Derived.Test.YtkhpcclddkddmaaDoorLawUnl
import Derived.WalkKit
import Derived.ProofKit
import Derived.OpenShut
import Derived.ChangeOld
import Derived.ChangeVars
import Derived.Below
import Derived.WalkSmall
import Derived.SizedLaws
import Derived.LaidMore
import Derived.Lib.LaidTab
import Derived.Stop.Joined
import Derived.SevenTiedAt
namespace Go.Proofs.YtkhpcclddkddmaaDoor.rowFnExactUnlap
open Go.ChangeShapes Go.WideShapes Go.ChangeAt Go.RowKit Go.Proofs.YtkhpcclddkddmaaDoorW.PrintWords
set_option linter.unusedVariables false
theorem own : ownKnob Tryd.prog.godebug = none := by kernel_rfl
theorem laidOut : laidOutB Tryd.prog = true := by kernel_rfl
theorem gNo : Tryd.prog.globalNamed "loop.example/g00016/impl.zk" = some 3 := by kernel_rfl
theorem tyNo : (Tryd.prog.globals[3]?).map (·.type) = some 40 := by kernel_rfl
abbrev laid1 : List (String × DataW Unit) := [("loop.example/g00016/impl.zk", Rows.laid_loop_example_g00016_impl_zk)]
/-- A slice of whole numbers as it lies in memory: nil, or a row of cells. -/
def IsRow (k : IntKind) (w : World) (a : Option Addr) (len cap : Nat) (zs : List Int) : Prop :=
  (a = none ∧ len = 0 ∧ cap = 0 ∧ zs = []) ∨
  ∃ x, a = some x ∧ len ≤ cap ∧ cap ≤ maxLen ∧ zs.length = cap ∧ (∀ i, i < zs.length → w.cell? (x.add i) = some (.int k (zs.getD i 0))) ∧ ∀ n ∈ zs, (Lit.int k n).wf = true
theorem row_of {H : Type} {enc : TypeId × Value → H} {W : World} {t e : TypeId} {k : IntKind} {a : Option Addr} {len cap : Nat} {d : DataW H} {p : List MemPlace} (ht : Tryd.prog.underlying t = some (.slice e)) (he : Tryd.prog.underlying e = some (.int k)) (hc : Tryd.prog.cellsOf e = 1)
    (h : DataW.Trod enc Tryd.prog W 0 (fun _ => true) true t (.slice a len cap) d p) : ∃ zs, IsRow k W a len cap zs := by
  obtain ⟨fuel, hf⟩ := h
  rcases open_ints ht he hc hf with ⟨hcs, _⟩ | ⟨x, l, c, zs, hcs, _, hl, hm, hz, _, hcell, hwz⟩
  · simp [Value.cells] at hcs
    obtain ⟨rfl, rfl, rfl⟩ := hcs
    exact ⟨[], .inl ⟨rfl, rfl, rfl, rfl⟩⟩
  · simp [Value.cells] at hcs
    obtain ⟨rfl, rfl, rfl⟩ := hcs
    exact ⟨zs, .inr ⟨_, rfl, hl, hm, by simpa using hz, hcell, hwz⟩⟩
theorem var_of_laid {W : World} (h : laidMetH Tryd.prog laid1 W) : W.var? Tryd.prog "loop.example/g00016/impl.zk" = some ((Wk.zkT.map fun z => Value.int .i64 z).toArray) := by
  rw [MakeChecks.laidMetH_plain _ _ _ (by kernel_rfl)] at h
  exact Go.Lib.tabIs_of_head (k := .i64) (zs := Wk.zkT) (rest := []) gNo tyNo Tryd.underlying40 Tryd.underlying3 (by kernel_rfl) (by kernel_rfl) h
theorem tab_of_var {W : World} (h : W.var? Tryd.prog "loop.example/g00016/impl.zk" = some ((Wk.zkT.map fun z => Value.int .i64 z).toArray)) : Wk.KT W := fun i hi => by
  have := World.var?_cell gNo h i
  rw [this]
  simp [List.getD, show i < Wk.zkT.length from hi]
theorem door_met (os : Os) (args : Array Value) : laidMetH Tryd.prog laid1 ((World.doorLaid Tryd.prog 400 os).forCall (fun _ _ => 0) ⟨#[], args, []⟩).memory :=
  laidMetH_of_parts3 (fuel := 8) (laidMet_of_run' 8 (by kernel_rfl) (by kernel_rfl)) (by kernel_rfl) (by kernel_rfl)
abbrev tabH {H : Type} : DataW H := Rows.laid_loop_example_g00016_impl_zk
theorem reads_table {H : Type} (enc : TypeId × Value → H) (W : World) (sp : Nat → Bool) : DataW.trod enc Tryd.prog W 0 sp true 5 40 ((Wk.zkT.map fun z => Value.int .i64 z).toArray).toList = some (tabH, []) := by kernel_rfl
set_option maxRecDepth 100000 in
theorem lifted (os : Os) (started : os.Started) (H : Type) (enc : TypeId × Value → H) :
    ReturnsInHanded {} Tryd.checked os 7 .any (fun w args => (Rows.fnExactUnlapSpec.pre enc Tryd.prog Tryd.f7 [] false w args ∧ laidMetH Tryd.prog laid1 w) ∧ sizedMet enc Tryd.prog Tryd.f7 (OpenSpec.ofChange Rows.fnExactUnlapSpec) false w args)
      (Rows.fnExactUnlapSpec.post enc Tryd.prog Tryd.f7 false true false false) := by
  refine returnsInHanded_of_change_and (C := Tryd.checked) (X := fun w _ => laidMetH Tryd.prog laid1 w) (fun _ _ _ hh h => h.of_heap hh) own started (by kernel_rfl) Tryd.func7
    (ChangeSpec.witness_shaped (enc := enc) (C := Tryd.checked) (os := os) (X := fun w _ => laidMetH Tryd.prog laid1 w) false (World.doorLaid Tryd.prog 400 os) #[.slice none 0 0] 8 rfl (World.shaped_of_RefB (by kernel_rfl) (by kernel_rfl)) (by kernel_rfl) (by kernel_rfl) (by kernel_rfl) (door_met os _)) ?_
  intro W base args ds gs before hval0 hW _ _ hL _
  have hval : ∀ (j : Nat) t v, Tryd.f7.params[j]? = some t → args[j]? = some v → Value.okWide Tryd.prog W .any base t v := hval0
  have hW' := hW
  obtain ⟨p, q, hA0, hV0, rfl, _, _⟩ := hW
  have hA : DataW.TrodAll enc Tryd.prog W 0 (fun _ => true) true Tryd.f7.params.toList args.toList ds p := hA0
  have hV : DataW.TrodVars enc Tryd.prog W (fun _ => true) ["loop.example/g00016/impl.zk"] gs q := hV0
  rw [Tryd.params7] at hA hval
  obtain ⟨v0, vs0, d0, ds0, p0, q0, hargs, rfl, rfl, h0, r0⟩ := trodAll_cons hA
  obtain ⟨rfl, rfl, rfl⟩ := trodAll_nil r0
  obtain rfl : args = #[v0] := by cases args; simp_all
  obtain ⟨g, t, cs, fuel, d, p', rfl, hg, ht, hvar, hd, rfl⟩ := trodVars_one hV
  obtain rfl := Option.some.inj (gNo.symm.trans hg)
  obtain rfl := Option.some.inj (tyNo.symm.trans ht)
  obtain rfl := Option.some.inj (hvar.symm.trans (var_of_laid hL))
  obtain ⟨rfl, rfl⟩ := DataW.Trod.unique (v := .agg ((Wk.zkT.map fun z => Value.int .i64 z).toArray)) ⟨fuel, hd⟩ ⟨5, reads_table enc W _⟩
  have HT : Wk.KT W := tab_of_var hvar
  have glt : 3 < W.heap.size := block_lt_of_cell (HT 0 (by decide))
  obtain ⟨A0, len0, c0, rfl⟩ := okWide_slice Tryd.underlying22 (hval 0 22 v0 rfl rfl)
  have k0 := h0
  have lt0 : ∀ x ∈ p0, x.block < W.heap.size := by obtain ⟨m, hm⟩ := k0; exact DataW.trod_lt m _ _ _ hm
  obtain ⟨z0, w0⟩ : ∃ zs, IsRow .i64 W A0 len0 c0 zs := row_of (e := 3) Tryd.underlying22 Tryd.underlying3 (by kernel_rfl) h0
  obtain ⟨l0, rfl, hq0, hm0, hw0, hc0⟩ := ReadsInt.ofRowC w0
  have hr0 : Kd.C (Kd.int .i64) W A0 l0.length l0 := Kd.C_of_reads (d := (0 : Int)) (h1 := fun _ => rfl) hq0
  clear hA0 hV0 hval0
  refine (Wk.law_LawUnl A0 c0 l0 hm0 hw0 W hc0 hr0 HT).mono fun e W' ⟨he, bel⟩ => ?_
  subst he
  exact ⟨_, rfl, _, _, _, [], _, _, hW', trodAll_mk1 (shut_bool Tryd.underlying4 _), (trodAll_cons_mk (Below.trod laidOut (by kernel_rfl) (of_decide_eq_true (by kernel_rfl)) k0 bel lt0) trodAll_mk0), trodVars_mk1 hg ht (var?_below bel hg glt hvar) (reads_table enc W' _), bel.frame _, fun h => by cases h⟩
theorem over : Rows.fnExactUnlapRow.holds Tryd.pinned (OpenSpec.ofChange Rows.fnExactUnlapSpec) :=
  OpenClaim.holds_of_wide 7 Tryd.f7 rfl rfl rfl rfl rfl rfl rfl ⟨rfl, rfl, rfl, rfl, rfl⟩ rfl rfl rfl rfl rfl (by kernel_rfl) Tryd.func7 (by kernel_rfl)
    (of_decide_eq_true (by kernel_rfl)) (by unfold Func.isWrapper; first | (rw [if_pos (by decide +kernel)]; kernel_rfl) | (rw [if_neg (by decide +kernel)]; exact ⟨rfl, rfl⟩))
    (fun os started H enc _ => lifted os started H enc)
theorem proved : Rows.FnExactUnlapCardSaid :=
  Claim7.holds_tied_plain_at .later [] [.data] true (true, "dbd46858a45db6eede1dfc363a05063d63de02f385829abd63eabb4d70cba514") false
    over (fun _ h => by cases h) (by kernel_rfl) (fun _ h => by cases h) fnExactUnlap_row_tie rfl ⟨rfl, rfl⟩ (by kernel_rfl) rfl
    (fun f fn hf hfn => by
      obtain rfl : f = 7 := Option.some.inj ((show Tryd.prog.funcNamed "loop.example/g00016/laws.FnExactUnlap" = some 7 by kernel_rfl).symm.trans hf) |>.symm
      obtain rfl : fn = Tryd.f7 := (Option.some.inj (Tryd.func7.symm.trans hfn)).symm
      exact ⟨by kernel_rfl, fun j t ht => by
        rw [Tryd.params7] at ht
        have hm : t ∈ [22] := by simpa using Array.mem_of_getElem? ht
        have hall : ([22].all fun u => !Tryd.prog.wantsStandIn u) = true := by kernel_rfl
        exact (show Tryd.prog.wantsStandIn t = false by simpa using List.all_eq_true.1 hall t hm)⟩)
    (by kernel_rfl)
#print axioms proved
end Go.Proofs.YtkhpcclddkddmaaDoor.rowFnExactUnlap
