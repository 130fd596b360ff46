/-
  DERIVED. GIVEN WITH THE SEED: THE CARDS: each row of YtnnidjhhcnmnnaaDoorRows.lean that lists a variable, with what it lists TIED to the program's text (the seventh form; the later family's looks); each row that meets fmt, with fmt's text TOLD by the authors' own Lean function (tested against real Go, not proved from fmt's source: count such statements apart). THE CARD IS WHAT COUNTS. Prove the row's statement (the work); the ties are given (YtnnidjhhcnmnnaaDoorTie.lean); close each card by the builder's one call (the guide's Derived/Test/ToyasCard.lean, 'card_holds'). Laid BY PROGRAM, IN A SANDBOX (cutbox-door.mjs). By AI agents, Wed Nov 11 2026. No macro, syntax, notation, axiom, sorry.
-/
import Derived.Test.YtnnidjhhcnmnnaaDoorRows
import GoSem.ClaimSeven
namespace Go.Proofs.YtnnidjhhcnmnnaaDoor
namespace Rows

/-- THE TIED CARD OF 'quincunxlaw01.NatBits'. -/
def natBitsCard : Claim7 := { stood := { row := natBitsRow, standIns := [], harness := (true, "ba49b9c0bd37c816ef0bb723b5729277e01abeb21be7bec0e277b2730cd19962"), looks := false }, kinds := [], alts := [], laidByText := true, laidKinds := [.data], laidTests := true, laidLooks := .later }
def NatBitsCardSaid : Prop := Claim7.holds Tryd.pinned (.plain (OpenSpec.ofChange natBitsSpec)) natBitsCard

/-- THE SECOND FORM's CARD OF 'quincunxlaw01.NatBits'. -/
def natBitsUptoCard : Claim7 := { stood := { row := natBitsUptoRow, standIns := [], harness := (true, "ba49b9c0bd37c816ef0bb723b5729277e01abeb21be7bec0e277b2730cd19962"), looks := false }, kinds := [], alts := [], laidByText := true, laidKinds := [.data], laidTests := true, laidLooks := .later }
def NatBitsUptoCardSaid : Prop := Claim7.holds Tryd.pinned (.plain (OpenSpec.upto natBitsSpec)) natBitsUptoCard
end Rows
end Go.Proofs.YtnnidjhhcnmnnaaDoor
