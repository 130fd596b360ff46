/- What the law reaches: the row's cells. -/
import Derived.JoinedCond
import Derived.KernelRfl
import Derived.Test.YtlhmaljjdpjkgaaGreatDoorTaClo
set_option maxRecDepth 100000
namespace Go.Proofs.YtlhmaljjdpjkgaaGreatDoor.topAlgebra
theorem f_inPlace : (Rows.topAlgebraRow.inPlace == Tryz.pinned.checked.prog.inPlace 3) = true:=by
 unfold Program.inPlace
 rw [clo]; kernel_rfl
theorem f_unf : Tryz.pinned.checked.prog.unfollowed 3 = true:=by
 unfold Program.unfollowed
 rw [clo]; kernel_rfl
theorem f_unfollowed : (Rows.topAlgebraRow.unfollowed == Tryz.pinned.checked.prog.unfollowed 3) = true:=by rw [f_unf]; rfl
theorem f_recurses : (Rows.topAlgebraRow.recurses == Tryz.pinned.checked.prog.recurses 3) = true:=by
 have h : Tryz.pinned.checked.prog.recurses 3 = true:=by
  unfold Program.recurses
  rw [f_unf]; rfl
 rw [h]; rfl
theorem f_named : (Rows.topAlgebraRow.named == Tryz.pinned.checked.prog.varsNamed 3) = true:=by
 unfold Program.varsNamed
 rw [clo]; kernel_rfl
theorem f_name : Tryz.pinned.checked.prog.funcNamed Rows.topAlgebraRow.func = some 3:=by kernel_rfl
theorem f_goes : Tryz.pinned.checked.prog.goes 3 = false:=by
 unfold Program.goes
 rw [clo,f_unf]; kernel_rfl
theorem goes_of {P : Program} {c : OpenClaim} {f : FuncId} (hs : c.start = .entering) (hn : P.funcNamed c.func = some f) (hg : P.goes f = false) : false = c.goesBy P:=by
 unfold OpenClaim.goesBy Program.goesAt Program.goesFrom
 rw [hs,hn]
 show false = (P.goes f || false)
 rw [hg]; rfl
theorem f_goesBy : false = Rows.topAlgebraRow.goesBy Tryz.pinned.checked.prog:=goes_of rfl f_name f_goes
end Go.Proofs.YtlhmaljjdpjkgaaGreatDoor.topAlgebra
