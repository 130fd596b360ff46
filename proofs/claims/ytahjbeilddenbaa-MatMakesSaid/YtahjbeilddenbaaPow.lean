/- Package mul: Square, Pow. -/
import Derived.Test.YtahjbeilddenbaaKar2
import Derived.Test.YtahjbeilddenbaaBits
namespace Go.Proofs.Ytahjbeilddenbaa
open Go.RowKit

theorem mul_Mul (v u : Value) (xs ys : List Nat) (w : World) (hv : Sl .u64 w v xs) (hu : Sl .u64 w u ys) (hm : xs.length ≤ 50000) (hn : ys.length ≤ 50000) (hx : wf W64 xs) (hy : wf W64 ys) :
    Calls Try.prog 51 #[v, u] w (RetN w (xs.length + ys.length) (nv W64 xs * nv W64 ys)) :=
  mul_Mul_aux (xs.length + ys.length) v u xs ys w hv hu (by omega) (by omega) (by omega) hx hy

end Go.Proofs.Ytahjbeilddenbaa
