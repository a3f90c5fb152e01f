/-
  DERIVED. GIVEN WITH THE SEED: THE CARDS: each row of YtkhpcclddkddmaaDoorRows.lean that lists a variable, with what it lists TIED to the program's text (the seventh form; the later family's looks); each row that meets fmt, with fmt's text TOLD by the authors' own Lean function (tested against real Go, not proved from fmt's source: count such statements apart). THE CARD IS WHAT COUNTS. Prove the row's statement (the work); the ties are given (YtkhpcclddkddmaaDoorTie.lean); close each card by the builder's one call (the guide's Derived/Test/ToyasCard.lean, 'card_holds'). Laid BY PROGRAM, IN A SANDBOX (cutbox-door.mjs). By AI agents, Wed Nov 11 2026. No macro, syntax, notation, axiom, sorry.
-/
import Derived.Test.YtkhpcclddkddmaaDoorRows
import GoSem.ClaimSeven
namespace Go.Proofs.YtkhpcclddkddmaaDoor
namespace Rows

/-- THE TIED CARD OF 'laws.FnExactSmallForward'. -/
def fnExactSmallForwardCard : Claim7 := { stood := { row := fnExactSmallForwardRow, standIns := [], harness := (true, "dbd46858a45db6eede1dfc363a05063d63de02f385829abd63eabb4d70cba514"), looks := false }, kinds := [], alts := [], laidByText := true, laidKinds := [.data], laidTests := true, laidLooks := .later }
def FnExactSmallForwardCardSaid : Prop := Claim7.holds Tryd.pinned (.plain (OpenSpec.ofChange fnExactSmallForwardSpec)) fnExactSmallForwardCard

/-- THE TIED CARD OF 'laws.FnExactSmallFine'. -/
def fnExactSmallFineCard : Claim7 := { stood := { row := fnExactSmallFineRow, standIns := [], harness := (true, "dbd46858a45db6eede1dfc363a05063d63de02f385829abd63eabb4d70cba514"), looks := false }, kinds := [], alts := [], laidByText := true, laidKinds := [.data], laidTests := true, laidLooks := .later }
def FnExactSmallFineCardSaid : Prop := Claim7.holds Tryd.pinned (.plain (OpenSpec.ofChange fnExactSmallFineSpec)) fnExactSmallFineCard

/-- THE TIED CARD OF 'laws.FnExactSmallCoarse'. -/
def fnExactSmallCoarseCard : Claim7 := { stood := { row := fnExactSmallCoarseRow, standIns := [], harness := (true, "dbd46858a45db6eede1dfc363a05063d63de02f385829abd63eabb4d70cba514"), looks := false }, kinds := [], alts := [], laidByText := true, laidKinds := [.data], laidTests := true, laidLooks := .later }
def FnExactSmallCoarseCardSaid : Prop := Claim7.holds Tryd.pinned (.plain (OpenSpec.ofChange fnExactSmallCoarseSpec)) fnExactSmallCoarseCard

/-- THE TIED CARD OF 'laws.FnExactWindow'. -/
def fnExactWindowCard : Claim7 := { stood := { row := fnExactWindowRow, standIns := [], harness := (true, "dbd46858a45db6eede1dfc363a05063d63de02f385829abd63eabb4d70cba514"), looks := false }, kinds := [], alts := [], laidByText := true, laidKinds := [.data], laidTests := true, laidLooks := .later }
def FnExactWindowCardSaid : Prop := Claim7.holds Tryd.pinned (.plain (OpenSpec.ofChange fnExactWindowSpec)) fnExactWindowCard

/-- THE TIED CARD OF 'laws.FnExactUnlap'. -/
def fnExactUnlapCard : Claim7 := { stood := { row := fnExactUnlapRow, standIns := [], harness := (true, "dbd46858a45db6eede1dfc363a05063d63de02f385829abd63eabb4d70cba514"), looks := false }, kinds := [], alts := [], laidByText := true, laidKinds := [.data], laidTests := true, laidLooks := .later }
def FnExactUnlapCardSaid : Prop := Claim7.holds Tryd.pinned (.plain (OpenSpec.ofChange fnExactUnlapSpec)) fnExactUnlapCard

/-- THE SECOND FORM's CARD OF 'laws.FnExactSmallForward'. -/
def fnExactSmallForwardUptoCard : Claim7 := { stood := { row := fnExactSmallForwardUptoRow, standIns := [], harness := (true, "dbd46858a45db6eede1dfc363a05063d63de02f385829abd63eabb4d70cba514"), looks := false }, kinds := [], alts := [], laidByText := true, laidKinds := [.data], laidTests := true, laidLooks := .later }
def FnExactSmallForwardUptoCardSaid : Prop := Claim7.holds Tryd.pinned (.plain (OpenSpec.upto fnExactSmallForwardSpec)) fnExactSmallForwardUptoCard

/-- THE SECOND FORM's CARD OF 'laws.FnExactSmallFine'. -/
def fnExactSmallFineUptoCard : Claim7 := { stood := { row := fnExactSmallFineUptoRow, standIns := [], harness := (true, "dbd46858a45db6eede1dfc363a05063d63de02f385829abd63eabb4d70cba514"), looks := false }, kinds := [], alts := [], laidByText := true, laidKinds := [.data], laidTests := true, laidLooks := .later }
def FnExactSmallFineUptoCardSaid : Prop := Claim7.holds Tryd.pinned (.plain (OpenSpec.upto fnExactSmallFineSpec)) fnExactSmallFineUptoCard

/-- THE SECOND FORM's CARD OF 'laws.FnExactSmallCoarse'. -/
def fnExactSmallCoarseUptoCard : Claim7 := { stood := { row := fnExactSmallCoarseUptoRow, standIns := [], harness := (true, "dbd46858a45db6eede1dfc363a05063d63de02f385829abd63eabb4d70cba514"), looks := false }, kinds := [], alts := [], laidByText := true, laidKinds := [.data], laidTests := true, laidLooks := .later }
def FnExactSmallCoarseUptoCardSaid : Prop := Claim7.holds Tryd.pinned (.plain (OpenSpec.upto fnExactSmallCoarseSpec)) fnExactSmallCoarseUptoCard

/-- THE SECOND FORM's CARD OF 'laws.FnExactWindow'. -/
def fnExactWindowUptoCard : Claim7 := { stood := { row := fnExactWindowUptoRow, standIns := [], harness := (true, "dbd46858a45db6eede1dfc363a05063d63de02f385829abd63eabb4d70cba514"), looks := false }, kinds := [], alts := [], laidByText := true, laidKinds := [.data], laidTests := true, laidLooks := .later }
def FnExactWindowUptoCardSaid : Prop := Claim7.holds Tryd.pinned (.plain (OpenSpec.upto fnExactWindowSpec)) fnExactWindowUptoCard

/-- THE SECOND FORM's CARD OF 'laws.FnExactUnlap'. -/
def fnExactUnlapUptoCard : Claim7 := { stood := { row := fnExactUnlapUptoRow, standIns := [], harness := (true, "dbd46858a45db6eede1dfc363a05063d63de02f385829abd63eabb4d70cba514"), looks := false }, kinds := [], alts := [], laidByText := true, laidKinds := [.data], laidTests := true, laidLooks := .later }
def FnExactUnlapUptoCardSaid : Prop := Claim7.holds Tryd.pinned (.plain (OpenSpec.upto fnExactUnlapSpec)) fnExactUnlapUptoCard
end Rows
end Go.Proofs.YtkhpcclddkddmaaDoor
