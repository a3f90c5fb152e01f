/-
  DERIVED. GIVEN WITH THE SEED: THE PROGRAM's TIES (one call each: nine closed facts by the kernel) AND EACH ROW's TIE, after the 31st guide's Derived/Test/Toyas{Tie, Card}.lean. No idea stands in it: it is a product of the set-up. Laid BY PROGRAM, IN A SANDBOX (cutbox-door.mjs). By AI agents, Wed Nov 11 2026. No macro, syntax, notation, axiom, sorry.
-/
import Derived.Test.YtkhpcclddkddmaaDoorRows
import Derived.LaidByTextLater
import Derived.SevenTiedAt
import Derived.LaidSub
import Derived.LaidOnce
namespace Go.Proofs.YtkhpcclddkddmaaDoor
open Go
set_option maxRecDepth 100000
theorem seatTie1 : Tryd.prog.laidByTextLater [("loop.example/g00016/impl.zk", Rows.laid_loop_example_g00016_impl_zk), ("loop.example/g00016/impl.zrows", Rows.laid_loop_example_g00016_impl_zrows), ("loop.example/g00016/impl.zm", Rows.laid_loop_example_g00016_impl_zm), ("loop.example/g00016/impl.zv", Rows.laid_loop_example_g00016_impl_zv)] [.data, .data, .data, .data] true :=
  Program.laidByTextLater_by_one 45 8 34 (by kernel_rfl) (by kernel_rfl) (by kernel_rfl) (by kernel_rfl) (by kernel_rfl) (by kernel_rfl) (fun _ _ => by kernel_rfl)
theorem noOwnUnsafe : Tryd.pinned.checked.prog.headLifts.contains "ownunsafe" = false := by kernel_rfl
theorem tie : Tryd.prog.laidByTextLater [("loop.example/g00016/impl.zrows", Rows.laid_loop_example_g00016_impl_zrows)] [.data] true :=
  Program.laidByTextLater.sub seatTie1 ["loop.example/g00016/impl.zrows"] (by kernel_rfl) (by kernel_rfl)
theorem fnExactSmallForward_row_tie : Rows.fnExactSmallForwardRow.laidByTextAt .later Tryd.pinned [.data] true :=
  OpenClaim.laidByTextAt_later rfl rfl tie noOwnUnsafe
theorem tie2 : Tryd.prog.laidByTextLater [("loop.example/g00016/impl.zv", Rows.laid_loop_example_g00016_impl_zv)] [.data] true :=
  Program.laidByTextLater.sub seatTie1 ["loop.example/g00016/impl.zv"] (by kernel_rfl) (by kernel_rfl)
theorem fnExactSmallFine_row_tie : Rows.fnExactSmallFineRow.laidByTextAt .later Tryd.pinned [.data] true :=
  OpenClaim.laidByTextAt_later rfl rfl tie2 noOwnUnsafe
theorem tie3 : Tryd.prog.laidByTextLater [("loop.example/g00016/impl.zm", Rows.laid_loop_example_g00016_impl_zm)] [.data] true :=
  Program.laidByTextLater.sub seatTie1 ["loop.example/g00016/impl.zm"] (by kernel_rfl) (by kernel_rfl)
theorem fnExactSmallCoarse_row_tie : Rows.fnExactSmallCoarseRow.laidByTextAt .later Tryd.pinned [.data] true :=
  OpenClaim.laidByTextAt_later rfl rfl tie3 noOwnUnsafe
theorem tie4 : Tryd.prog.laidByTextLater [("loop.example/g00016/impl.zk", Rows.laid_loop_example_g00016_impl_zk)] [.data] true :=
  Program.laidByTextLater.sub seatTie1 ["loop.example/g00016/impl.zk"] (by kernel_rfl) (by kernel_rfl)
theorem fnExactWindow_row_tie : Rows.fnExactWindowRow.laidByTextAt .later Tryd.pinned [.data] true :=
  OpenClaim.laidByTextAt_later rfl rfl tie4 noOwnUnsafe
theorem fnExactUnlap_row_tie : Rows.fnExactUnlapRow.laidByTextAt .later Tryd.pinned [.data] true :=
  OpenClaim.laidByTextAt_later rfl rfl tie4 noOwnUnsafe
theorem fnExactSmallForwardUpto_row_tie : Rows.fnExactSmallForwardUptoRow.laidByTextAt .later Tryd.pinned [.data] true :=
  OpenClaim.laidByTextAt_later rfl rfl tie noOwnUnsafe
theorem fnExactSmallFineUpto_row_tie : Rows.fnExactSmallFineUptoRow.laidByTextAt .later Tryd.pinned [.data] true :=
  OpenClaim.laidByTextAt_later rfl rfl tie2 noOwnUnsafe
theorem fnExactSmallCoarseUpto_row_tie : Rows.fnExactSmallCoarseUptoRow.laidByTextAt .later Tryd.pinned [.data] true :=
  OpenClaim.laidByTextAt_later rfl rfl tie3 noOwnUnsafe
theorem fnExactWindowUpto_row_tie : Rows.fnExactWindowUptoRow.laidByTextAt .later Tryd.pinned [.data] true :=
  OpenClaim.laidByTextAt_later rfl rfl tie4 noOwnUnsafe
theorem fnExactUnlapUpto_row_tie : Rows.fnExactUnlapUptoRow.laidByTextAt .later Tryd.pinned [.data] true :=
  OpenClaim.laidByTextAt_later rfl rfl tie4 noOwnUnsafe
end Go.Proofs.YtkhpcclddkddmaaDoor
