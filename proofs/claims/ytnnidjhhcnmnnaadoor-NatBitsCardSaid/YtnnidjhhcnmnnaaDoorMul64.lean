/- The shelf's contract for bits.Mul64 at this translation. -/
import Derived.Shelf.Bits.Mul64
import Derived.Test.YtnnidjhhcnmnnaaDoorProg
namespace Go.Proofs.YtnnidjhhcnmnnaaDoor
open Go.Shelf
end Go.Proofs.YtnnidjhhcnmnnaaDoor
