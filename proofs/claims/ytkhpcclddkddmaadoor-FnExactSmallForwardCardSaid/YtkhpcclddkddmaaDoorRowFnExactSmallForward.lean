/- Proved: the tied card of the statement FnExactSmallForward: whatever its arguments, where the program's table reads as its text lays it, the law FnExactSmallForward returns true, and each argument reads behind the call as it read before. -/
import Derived.Test.YtkhpcclddkddmaaDoorRows
import Derived.Test.YtkhpcclddkddmaaDoorCards
import Derived.Test.YtkhpcclddkddmaaDoorTie
import Derived.Test.YtkhpcclddkddmaaDoorLawFwd
import Derived.WalkKit
import Derived.ProofKit
import Derived.OpenShut
import Derived.ChangeOld
import Derived.ChangeVars
import Derived.Below
import Derived.WalkSmall
import Derived.SizedLaws
import Derived.LaidMore
import Derived.Lib.LaidTab
import Derived.Stop.Joined
import Derived.SevenTiedAt
namespace Go.Proofs.YtkhpcclddkddmaaDoor.rowFnExactSmallForward
open Go.ChangeShapes Go.WideShapes Go.ChangeAt Go.RowKit Go.Proofs.YtkhpcclddkddmaaDoorW.PrintWords
set_option linter.unusedVariables false
theorem own : ownKnob Tryd.prog.godebug = none := by kernel_rfl
theorem laidOut : laidOutB Tryd.prog = true := by kernel_rfl
theorem gNo : Tryd.prog.globalNamed "loop.example/g00016/impl.zrows" = some 0 := by kernel_rfl
theorem tyNo : (Tryd.prog.globals[0]?).map (·.type) = some 33 := by kernel_rfl
abbrev laid1 : List (String × DataW Unit) := [("loop.example/g00016/impl.zrows", Rows.laid_loop_example_g00016_impl_zrows)]
/-- A slice of whole numbers as it lies in memory: nil, or a row of cells. -/
def IsRow (k : IntKind) (w : World) (a : Option Addr) (len cap : Nat) (zs : List Int) : Prop :=
  (a = none ∧ len = 0 ∧ cap = 0 ∧ zs = []) ∨
  ∃ x, a = some x ∧ len ≤ cap ∧ cap ≤ maxLen ∧ zs.length = cap ∧ (∀ i, i < zs.length → w.cell? (x.add i) = some (.int k (zs.getD i 0))) ∧ ∀ n ∈ zs, (Lit.int k n).wf = true
theorem row_of {H : Type} {enc : TypeId × Value → H} {W : World} {t e : TypeId} {k : IntKind} {a : Option Addr} {len cap : Nat} {d : DataW H} {p : List MemPlace} (ht : Tryd.prog.underlying t = some (.slice e)) (he : Tryd.prog.underlying e = some (.int k)) (hc : Tryd.prog.cellsOf e = 1)
    (h : DataW.Trod enc Tryd.prog W 0 (fun _ => true) true t (.slice a len cap) d p) : ∃ zs, IsRow k W a len cap zs := by
  obtain ⟨fuel, hf⟩ := h
  rcases open_ints ht he hc hf with ⟨hcs, _⟩ | ⟨x, l, c, zs, hcs, _, hl, hm, hz, _, hcell, hwz⟩
  · simp [Value.cells] at hcs
    obtain ⟨rfl, rfl, rfl⟩ := hcs
    exact ⟨[], .inl ⟨rfl, rfl, rfl, rfl⟩⟩
  · simp [Value.cells] at hcs
    obtain ⟨rfl, rfl, rfl⟩ := hcs
    exact ⟨zs, .inr ⟨_, rfl, hl, hm, by simpa using hz, hcell, hwz⟩⟩
/-- An array of arrays of whole numbers that reads as a table holds the table's numbers, cell for cell. -/
theorem cells2 {H : Type} {enc : TypeId × Value → H} {P : Program} {w : World} {base : Nat} {sp : Nat → Bool} {held : Bool} {fuel : Nat} {t e i : TypeId} {n m : Nat} {cs : List Value} {p : List MemPlace}
    (ht : P.underlying t = some (.array n e)) (he : P.underlying e = some (.array m i)) (hi : P.underlying i = some (.int .i64)) (hci : P.cellsOf i = 1) (hce : P.cellsOf e = m) (hct : P.cellsOf t = n * m) (rows : List (List Int)) {zs : List Int} (hz : rows.flatten = zs) {d : DataW H} (hdd : d = .agg (rows.map fun r => Go.Lib.tabData .i64 r))
    (h : DataW.trod enc P w base sp held fuel t cs = some (d, p)) : cs = zs.map fun z => Value.int .i64 z := by
  subst hz hdd
  cases fuel with
  | zero => simp [DataW.trod] at h
  | succ fuel =>
    simp only [DataW.trod, ht, hce, hct] at h
    split at h
    · rename_i hl
      obtain ⟨xs, hm, hx⟩ := Option.map_eq_some_iff.1 h
      have hxs : xs.map (·.1) = rows.map fun r => (Go.Lib.tabData .i64 r : DataW H) := by
        have := congrArg Prod.fst hx
        simpa using this
      have hxl : xs.length = n := by simpa using Go.Lib.mapM_length hm
      have hrl : rows.length = n := by
        have := congrArg List.length hxs
        simp at this
        omega
      have key : ∀ (j : Nat) (r : List Int), rows[j]? = some r → (cs.drop (j * m)).take m = r.map fun z => Value.int .i64 z := by
        intro j r hr
        have hj : j < n := by
          rw [← hrl]
          exact (List.getElem?_eq_some_iff.1 hr).1
        obtain ⟨b, hb, hf⟩ := Go.Lib.mapM_at hm j j (by simp [hj])
        have h2 : (xs.map (·.1))[j]? = some b.1 := by simp [hb]
        rw [hxs] at h2
        simp only [List.getElem?_map, hr, Option.map_some, Option.some.injEq] at h2
        exact Go.Lib.cells_of_tab (k := .i64) (zs := r) (p := b.2) he hi hci hce (by rw [h2]; exact hf)
      clear h hm hx hxs hxl
      have gen : ∀ (rows : List (List Int)) (cs : List Value), cs.length = rows.length * m → (∀ (j : Nat) (r : List Int), rows[j]? = some r → (cs.drop (j * m)).take m = r.map fun z => Value.int .i64 z) → cs = rows.flatten.map fun z => Value.int .i64 z := by
        intro rows
        induction rows with
        | nil => intro cs hc _; simp at hc; simp [hc]
        | cons r rows ih =>
          intro cs hc hk
          have h0 := hk 0 r rfl
          simp only [Nat.zero_mul, List.drop_zero] at h0
          have h1 := ih (cs.drop m) (by rw [List.length_drop, hc, List.length_cons, Nat.succ_mul]; omega) (fun j r' hr => by
            have := hk (j + 1) r' (by simpa using hr)
            rw [List.drop_drop, show m + j * m = (j + 1) * m by rw [Nat.succ_mul]; omega]
            exact this)
          rw [List.flatten_cons, List.map_append, ← h0, ← h1, List.take_append_drop]
      exact gen rows cs (by rw [hl, hrl]) key
    · cases h
theorem var_of_laid {W : World} (h : laidMetH Tryd.prog laid1 W) : W.var? Tryd.prog "loop.example/g00016/impl.zrows" = some ((Wk.zrT.map fun z => Value.int .i64 z).toArray) := by
  rw [MakeChecks.laidMetH_plain _ _ _ (by kernel_rfl)] at h
  obtain ⟨ps, ⟨g', t', cs, fuel, p, q, hg', ht', hvar, hd, _, _⟩, _⟩ := h
  obtain rfl := Option.some.inj (gNo.symm.trans hg')
  obtain rfl := Option.some.inj (tyNo.symm.trans ht')
  rw [hvar]
  congr 1
  obtain ⟨l⟩ := cs
  congr 1
  exact cells2 (n := 4) (m := 4) Tryd.underlying33 Tryd.underlying32 Tryd.underlying3 (by kernel_rfl) (by kernel_rfl) (by kernel_rfl) Wk.zrTRows rfl rfl hd
theorem tab_of_var {W : World} (h : W.var? Tryd.prog "loop.example/g00016/impl.zrows" = some ((Wk.zrT.map fun z => Value.int .i64 z).toArray)) : Wk.RT W := fun i hi => by
  have := World.var?_cell gNo h i
  rw [this]
  simp [List.getD, show i < Wk.zrT.length from hi]
theorem door_met (os : Os) (args : Array Value) : laidMetH Tryd.prog laid1 ((World.doorLaid Tryd.prog 400 os).forCall (fun _ _ => 0) ⟨#[], args, []⟩).memory :=
  laidMetH_of_parts3 (fuel := 8) (laidMet_of_run' 8 (by kernel_rfl) (by kernel_rfl)) (by kernel_rfl) (by kernel_rfl)
abbrev tabH {H : Type} : DataW H := Rows.laid_loop_example_g00016_impl_zrows
theorem reads_table {H : Type} (enc : TypeId × Value → H) (W : World) (sp : Nat → Bool) : DataW.trod enc Tryd.prog W 0 sp true 5 33 ((Wk.zrT.map fun z => Value.int .i64 z).toArray).toList = some (tabH, []) := by kernel_rfl
set_option maxRecDepth 100000 in
theorem lifted (os : Os) (started : os.Started) (H : Type) (enc : TypeId × Value → H) :
    ReturnsInHanded {} Tryd.checked os 3 .any (fun w args => (Rows.fnExactSmallForwardSpec.pre enc Tryd.prog Tryd.f3 [] false w args ∧ laidMetH Tryd.prog laid1 w) ∧ sizedMet enc Tryd.prog Tryd.f3 (OpenSpec.ofChange Rows.fnExactSmallForwardSpec) false w args)
      (Rows.fnExactSmallForwardSpec.post enc Tryd.prog Tryd.f3 false true false false) := by
  refine returnsInHanded_of_change_and (C := Tryd.checked) (X := fun w _ => laidMetH Tryd.prog laid1 w) (fun _ _ _ hh h => h.of_heap hh) own started (by kernel_rfl) Tryd.func3
    (ChangeSpec.witness_shaped (enc := enc) (C := Tryd.checked) (os := os) (X := fun w _ => laidMetH Tryd.prog laid1 w) false (World.doorLaid Tryd.prog 400 os) #[.slice none 0 0] 8 rfl (World.shaped_of_RefB (by kernel_rfl) (by kernel_rfl)) (by kernel_rfl) (by kernel_rfl) (by kernel_rfl) (door_met os _)) ?_
  intro W base args ds gs before hval0 hW _ _ hL _
  have hval : ∀ (j : Nat) t v, Tryd.f3.params[j]? = some t → args[j]? = some v → Value.okWide Tryd.prog W .any base t v := hval0
  have hW' := hW
  obtain ⟨p, q, hA0, hV0, rfl, _, _⟩ := hW
  have hA : DataW.TrodAll enc Tryd.prog W 0 (fun _ => true) true Tryd.f3.params.toList args.toList ds p := hA0
  have hV : DataW.TrodVars enc Tryd.prog W (fun _ => true) ["loop.example/g00016/impl.zrows"] gs q := hV0
  rw [Tryd.params3] at hA hval
  obtain ⟨v0, vs0, d0, ds0, p0, q0, hargs, rfl, rfl, h0, r0⟩ := trodAll_cons hA
  obtain ⟨rfl, rfl, rfl⟩ := trodAll_nil r0
  obtain rfl : args = #[v0] := by cases args; simp_all
  obtain ⟨g, t, cs, fuel, d, p', rfl, hg, ht, hvar, hd, rfl⟩ := trodVars_one hV
  obtain rfl := Option.some.inj (gNo.symm.trans hg)
  obtain rfl := Option.some.inj (tyNo.symm.trans ht)
  obtain rfl := Option.some.inj (hvar.symm.trans (var_of_laid hL))
  obtain ⟨rfl, rfl⟩ := DataW.Trod.unique (v := .agg ((Wk.zrT.map fun z => Value.int .i64 z).toArray)) ⟨fuel, hd⟩ ⟨5, reads_table enc W _⟩
  have HT : Wk.RT W := tab_of_var hvar
  have glt : 0 < W.heap.size := block_lt_of_cell (HT 0 (by decide))
  obtain ⟨A0, len0, c0, rfl⟩ := okWide_slice Tryd.underlying22 (hval 0 22 v0 rfl rfl)
  have k0 := h0
  have lt0 : ∀ x ∈ p0, x.block < W.heap.size := by obtain ⟨m, hm⟩ := k0; exact DataW.trod_lt m _ _ _ hm
  obtain ⟨z0, w0⟩ : ∃ zs, IsRow .i64 W A0 len0 c0 zs := row_of (e := 3) Tryd.underlying22 Tryd.underlying3 (by kernel_rfl) h0
  obtain ⟨l0, rfl, hq0, hm0, hw0, hc0⟩ := ReadsInt.ofRowC w0
  have hr0 : Kd.C (Kd.int .i64) W A0 l0.length l0 := Kd.C_of_reads (d := (0 : Int)) (h1 := fun _ => rfl) hq0
  clear hA0 hV0 hval0
  refine (Wk.law_LawFwd A0 c0 l0 hm0 hw0 W hc0 hr0 HT).mono fun e W' ⟨he, bel⟩ => ?_
  subst he
  exact ⟨_, rfl, _, _, _, [], _, _, hW', trodAll_mk1 (shut_bool Tryd.underlying4 _), (trodAll_cons_mk (Below.trod laidOut (by kernel_rfl) (of_decide_eq_true (by kernel_rfl)) k0 bel lt0) trodAll_mk0), trodVars_mk1 hg ht (var?_below bel hg glt hvar) (reads_table enc W' _), bel.frame _, fun h => by cases h⟩
theorem over : Rows.fnExactSmallForwardRow.holds Tryd.pinned (OpenSpec.ofChange Rows.fnExactSmallForwardSpec) :=
  OpenClaim.holds_of_wide 3 Tryd.f3 rfl rfl rfl rfl rfl rfl rfl ⟨rfl, rfl, rfl, rfl, rfl⟩ rfl rfl rfl rfl rfl (by kernel_rfl) Tryd.func3 (by kernel_rfl)
    (of_decide_eq_true (by kernel_rfl)) (by unfold Func.isWrapper; first | (rw [if_pos (by decide +kernel)]; kernel_rfl) | (rw [if_neg (by decide +kernel)]; exact ⟨rfl, rfl⟩))
    (fun os started H enc _ => lifted os started H enc)
theorem proved : Rows.FnExactSmallForwardCardSaid :=
  Claim7.holds_tied_plain_at .later [] [.data] true (true, "dbd46858a45db6eede1dfc363a05063d63de02f385829abd63eabb4d70cba514") false
    over (fun _ h => by cases h) (by kernel_rfl) (fun _ h => by cases h) fnExactSmallForward_row_tie rfl ⟨rfl, rfl⟩ (by kernel_rfl) rfl
    (fun f fn hf hfn => by
      obtain rfl : f = 3 := Option.some.inj ((show Tryd.prog.funcNamed "loop.example/g00016/laws.FnExactSmallForward" = some 3 by kernel_rfl).symm.trans hf) |>.symm
      obtain rfl : fn = Tryd.f3 := (Option.some.inj (Tryd.func3.symm.trans hfn)).symm
      exact ⟨by kernel_rfl, fun j t ht => by
        rw [Tryd.params3] at ht
        have hm : t ∈ [22] := by simpa using Array.mem_of_getElem? ht
        have hall : ([22].all fun u => !Tryd.prog.wantsStandIn u) = true := by kernel_rfl
        exact (show Tryd.prog.wantsStandIn t = false by simpa using List.all_eq_true.1 hall t hm)⟩)
    (by kernel_rfl)
#print axioms proved
end Go.Proofs.YtkhpcclddkddmaaDoor.rowFnExactSmallForward
