/- What the row says of the program by its cells. -/
import Derived.Test.YtlhmaljjdpjkgaaGreatDoorTaCells
set_option maxRecDepth 100000
set_option maxHeartbeats 20000000
namespace Go.Proofs.YtlhmaljjdpjkgaaGreatDoor.topAlgebra
theorem and_t {a b : Bool} (h : a = true) (k : b = true) : (a && b) = true:=by rw [h,k]; rfl
theorem closed : joinedFacts Tryz.pinned.checked.prog 3 Tryz.f3 (OpenSpec.ofChange Rows.topAlgebraSpec).bare Rows.topAlgebraRow = true:=by
 unfold joinedFacts
 repeat' (with_reducible refine and_t ?_ ?_)
 all_goals first
  | with_reducible exact f_inPlace
  | with_reducible exact f_unfollowed
  | with_reducible exact f_recurses
  | with_reducible exact f_named
  | as_aux_lemma=>kernel_rfl
end Go.Proofs.YtlhmaljjdpjkgaaGreatDoor.topAlgebra
