/- For all two matrices of whole numbers the law TopAlgebra returns true, whatever they are; what the tables of unicode/utf8 hold is tied to the program's text. -/
import Derived.Test.YtlhmaljjdpjkgaaGreatDoorTie
import Derived.Test.YtlhmaljjdpjkgaaGreatDoorTaSaid
namespace Go.Proofs.YtlhmaljjdpjkgaaGreatDoor.topAlgebra
theorem plain (f : FuncId) (fn : Func) (hf : Tryz.pinned.checked.prog.funcNamed "quincunx/quincunxtop.TopAlgebra" = some f) (hfn : Tryz.pinned.checked.prog.funcs[f]? = some fn) :
  true = Tryz.pinned.checked.prog.looks [] ∧ ∀ (j : Nat) t,fn.params[j]? = some t → Tryz.pinned.checked.prog.wantsStandIn t = false:=by
 obtain rfl : f = 3:=Option.some.inj (f_name.symm.trans hf) |>.symm
 obtain rfl : fn = Tryz.f3:=(Option.some.inj (Tryz.func3.symm.trans hfn)).symm
 refine ⟨by kernel_rfl,fun j t ht=>?_⟩
 rw [Tryz.params3] at ht
 have h1 : t = 24:=by have:=Array.mem_of_getElem? ht; simpa using this
 subst h1
 exact (show Tryz.prog.wantsStandIn 24 = false by kernel_rfl)
theorem proved : Rows.TopAlgebraCardSaid:=
 Claim7.holds_tied_plain_at .later [] _ _ _ _ said (fun _ h=>by cases h) (by kernel_rfl) (fun _ h=>by cases h) topAlgebra_row_tie rfl ⟨rfl,rfl⟩ (by kernel_rfl) rfl plain f_goesBy
#print axioms proved
end Go.Proofs.YtlhmaljjdpjkgaaGreatDoor.topAlgebra
