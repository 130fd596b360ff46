/- Package fmat: Norm, Identity, Add, Scale, Mul, Transpose. -/
import Derived.Test.YthghdjpjbngllaaZfFmade
namespace Go.Proofs.Ythghdjpjbngllaa
open Go.RowKit

/-- An error and a zero matrix are returned. -/
def RetFX (w : World) (ec : Int) (e : Ending) (w' : World) : Prop := e = .returned (.tuple #[.agg #[.int .i64 0, .int .i64 0, .slice none 0 0], .int .i64 ec]) ∧ Below w.heap.size w w'

end Go.Proofs.Ythghdjpjbngllaa
