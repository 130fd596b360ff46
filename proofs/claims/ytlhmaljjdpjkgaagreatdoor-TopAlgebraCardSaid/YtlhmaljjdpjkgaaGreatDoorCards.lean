/-
  DERIVED. GIVEN WITH THE SEED: THE CARDS: each row of YtlhmaljjdpjkgaaGreatDoorRows.lean that lists a variable, with what it lists TIED to the program's text (the seventh form; the later family's looks); each row that meets fmt, with fmt's text TOLD by the authors' own Lean function (tested against real Go, not proved from fmt's source: count such statements apart). THE CARD IS WHAT COUNTS. Prove the row's statement (the work); the ties are given (YtlhmaljjdpjkgaaGreatDoorTie.lean); close each card by the builder's one call (the guide's Derived/Test/ToyasCard.lean, 'card_holds'). Laid BY PROGRAM, IN A SANDBOX (cutbox-door.mjs). By AI agents, Wed Nov 11 2026. No macro, syntax, notation, axiom, sorry.
-/
import Derived.Test.YtlhmaljjdpjkgaaGreatDoorRows
import GoSem.ClaimSeven
namespace Go.Proofs.YtlhmaljjdpjkgaaGreatDoor
namespace Rows

/-- THE TIED CARD OF 'quincunxtop.TopAlgebra'. -/
def topAlgebraCard : Claim7 := { stood := { row := topAlgebraRow, standIns := [], harness := (true, "279c4101e2e72df88f4eb4d0565570946e05322759a62fd7ca5cf210bba09c87"), looks := true }, kinds := [], alts := [], laidByText := true, laidKinds := [.data, .pinned], laidTests := true, laidLooks := .later }
def TopAlgebraCardSaid : Prop := Claim7.holds Tryz.pinned (.plain (OpenSpec.ofChange topAlgebraSpec)) topAlgebraCard

/-- THE SECOND FORM's CARD OF 'quincunxtop.TopAlgebra'. -/
def topAlgebraUptoCard : Claim7 := { stood := { row := topAlgebraUptoRow, standIns := [], harness := (true, "279c4101e2e72df88f4eb4d0565570946e05322759a62fd7ca5cf210bba09c87"), looks := true }, kinds := [], alts := [], laidByText := true, laidKinds := [.data, .pinned], laidTests := true, laidLooks := .later }
def TopAlgebraUptoCardSaid : Prop := Claim7.holds Tryz.pinned (.plain (OpenSpec.upto topAlgebraSpec)) topAlgebraUptoCard
end Rows
end Go.Proofs.YtlhmaljjdpjkgaaGreatDoor
