/- xmat.made: a matrix of polynomials, place by place. -/
import Derived.Shelf.Abstract
import Derived.Test.YthghdjpjbngllaaZdFmade
import Derived.Test.YthghdjpjbngllaaZdXdz
namespace Go.Proofs.Ythghdjpjbngllaa
open Go.RowKit

section
variable {p : Nat} {w w' : World} {base n L : Nat} {bv : Value} {us : List Value} {F : Nat → Pol (Zp p)}
end
end Go.Proofs.Ythghdjpjbngllaa
/- Package xmat: the functions that give a matrix's places. -/
namespace Go.Proofs.Ythghdjpjbngllaa
open Go.RowKit

end Go.Proofs.Ythghdjpjbngllaa
/- Package xmat: alike, Norm, Identity, Add, Transpose. -/
namespace Go.Proofs.Ythghdjpjbngllaa
open Go.RowKit

end Go.Proofs.Ythghdjpjbngllaa
/- xmat: what has no determinant; what is not formed. -/
namespace Go.Proofs.Ythghdjpjbngllaa
open Go.RowKit

theorem xm_Det_no (p : Nat) (a : Value) (R C : Int) (xs : List (List Nat)) (w : World) (hA : Xm w a R C xs) (hno : ¬ (Fd R C xs.length ∧ R = C)) :
    Calls Try.prog 19 #[.agg #[.int .u64 p], a] w (fun e w' => e = .returned (.tuple #[.slice none 0 0, .int .i64 2]) ∧ Below w.heap.size w w') := by
  obtain ⟨aA, cA, rfl⟩ := hA.agg
  obtain ⟨wb, ew, KF, KA, B0, hsz⟩ := boxes2 w 29 24 [.int .u64 p] [.int .i64 R, .int .i64 C, .slice aA xs.length cA]
  clear hsz
  replace hA := hA.next B0
  have f1 := KA.cell 0; have f2 := KA.cell 1; have f3 := KA.cell 2
  by_cases hF : Fd R C xs.length
  · have hne : (R != C) = true := by
      have h1 : R ≠ C := fun e => hno ⟨hF, e⟩
      simpa using h1
    go_enter Try.func19, Try.ntmps19
    go_upto_region 1 with (fail)
    rw [← ew]
    clear ew
    go_wp2_with fail
    refine (xm_Formed_yes _ R C xs _ hA hF).mono ?_; rintro e w2 ⟨rfl, b2⟩
    have KA2 := KA.next b2
    clear f1 f2 f3
    have f1 := KA2.cell 0; have f2 := KA2.cell 1; have f3 := KA2.cell 2
    go_wp2
    exact bodyPost_ret (v := .tuple #[.slice none 0 0, .int .i64 2]) (by simp [results, Try.results19, go_sem]) rfl ⟨rfl, B0.trans (b2.mono B0.size)⟩
  · go_enter Try.func19, Try.ntmps19
    go_upto_region 1 with (fail)
    rw [← ew]
    clear ew
    go_wp2_with fail
    refine (xm_Formed_no _ R C xs _ hA hF).mono ?_; rintro e w2 ⟨rfl, b2⟩
    go_wp2
    exact bodyPost_ret (v := .tuple #[.slice none 0 0, .int .i64 2]) (by simp [results, Try.results19, go_sem]) rfl ⟨rfl, B0.trans (b2.mono B0.size)⟩

end Go.Proofs.Ythghdjpjbngllaa
/- xmat.Mul. -/
namespace Go.Proofs.Ythghdjpjbngllaa
open Go.RowKit

end Go.Proofs.Ythghdjpjbngllaa
/- xmat.From. -/
namespace Go.Proofs.Ythghdjpjbngllaa
open Go.RowKit

end Go.Proofs.Ythghdjpjbngllaa
/- xmat.Char: the function that gives its places. -/
namespace Go.Proofs.Ythghdjpjbngllaa
open Go.RowKit

end Go.Proofs.Ythghdjpjbngllaa
/- slices.EqualFunc over polynomials, with the function of xmat.Same. -/
namespace Go.Proofs.Ythghdjpjbngllaa
open Go.RowKit

end Go.Proofs.Ythghdjpjbngllaa
/- xmat: Eval, Degree, At; Char, Mul, Eval of what has none. -/
namespace Go.Proofs.Ythghdjpjbngllaa
open Go.RowKit

end Go.Proofs.Ythghdjpjbngllaa
