/-
  DERIVED. GIVEN WITH THE SEED: THE CARDS: each row of YtdijjadoneeadaaDoorRows.lean that lists a variable, with what it lists TIED to the program's text (the seventh form; the later family's looks); each row that meets fmt, with fmt's text TOLD by the authors' own Lean function (tested against real Go, not proved from fmt's source: count such statements apart). THE CARD IS WHAT COUNTS. Prove the row's statement (the work); the ties are given (YtdijjadoneeadaaDoorTie.lean); close each card by the builder's one call (the guide's Derived/Test/ToyasCard.lean, 'card_holds'). Laid BY PROGRAM, IN A SANDBOX (cutbox-door.mjs). By AI agents, Wed Nov 11 2026. No macro, syntax, notation, axiom, sorry.
-/
import Derived.Test.YtdijjadoneeadaaDoorRows
import GoSem.ClaimSeven
namespace Go.Proofs.YtdijjadoneeadaaDoor
namespace Rows

/-- THE TIED CARD OF 'laws.FnExactPowers'. -/
def fnExactPowersCard : Claim7 := { stood := { row := fnExactPowersRow, standIns := [], harness := (true, "ac8bc6776149e296ff624d7914c8e9c6f07b589e3f9b5aaae0d252e2ae65602d"), looks := false }, kinds := [], alts := [], laidByText := true, laidKinds := [.data], laidTests := true, laidLooks := .later }
def FnExactPowersCardSaid : Prop := Claim7.holds Tryd.pinned (.plain (OpenSpec.ofChange fnExactPowersSpec)) fnExactPowersCard

/-- THE TIED CARD OF 'laws.FnWaves'. -/
def fnWavesCard : Claim7 := { stood := { row := fnWavesRow, standIns := [], harness := (true, "ac8bc6776149e296ff624d7914c8e9c6f07b589e3f9b5aaae0d252e2ae65602d"), looks := false }, kinds := [], alts := [], laidByText := true, laidKinds := [.data], laidTests := true, laidLooks := .later }
def FnWavesCardSaid : Prop := Claim7.holds Tryd.pinned (.plain (OpenSpec.ofChange fnWavesSpec)) fnWavesCard

/-- THE SECOND FORM's CARD OF 'laws.FnExactPowers'. -/
def fnExactPowersUptoCard : Claim7 := { stood := { row := fnExactPowersUptoRow, standIns := [], harness := (true, "ac8bc6776149e296ff624d7914c8e9c6f07b589e3f9b5aaae0d252e2ae65602d"), looks := false }, kinds := [], alts := [], laidByText := true, laidKinds := [.data], laidTests := true, laidLooks := .later }
def FnExactPowersUptoCardSaid : Prop := Claim7.holds Tryd.pinned (.plain (OpenSpec.upto fnExactPowersSpec)) fnExactPowersUptoCard

/-- THE SECOND FORM's CARD OF 'laws.FnWaves'. -/
def fnWavesUptoCard : Claim7 := { stood := { row := fnWavesUptoRow, standIns := [], harness := (true, "ac8bc6776149e296ff624d7914c8e9c6f07b589e3f9b5aaae0d252e2ae65602d"), looks := false }, kinds := [], alts := [], laidByText := true, laidKinds := [.data], laidTests := true, laidLooks := .later }
def FnWavesUptoCardSaid : Prop := Claim7.holds Tryd.pinned (.plain (OpenSpec.upto fnWavesSpec)) fnWavesUptoCard
end Rows
end Go.Proofs.YtdijjadoneeadaaDoor
