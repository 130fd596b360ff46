/- Package zmat: products and sums of whatever matrices; few numbers of few words, as the law of rings asks. -/
import Derived.Test.YtahjbeilddenbaaZalg
import Derived.Test.YtahjbeilddenbaaZsame
namespace Go.Proofs.Ytahjbeilddenbaa
open Go.RowKit

theorem MtN.mono {w : World} {v : Value} {r c : Nat} {zs : List Int} {L M : Nat} (h : MtN w v r c zs L) (hl : L ≤ M) : MtN w v r c zs M := by
  obtain ⟨u, es, base, e, hz⟩ := h
  exact ⟨u, es, base, e, hz.len, hz.own, fun j hj => (hz.num j hj).mono hl, hz.off⟩

/-- Some formed matrix is returned, and some word. -/
def RetA (w : World) (L : Nat) (e : Ending) (w' : World) : Prop := ∃ v r c zs ec, e = .returned (.tuple #[v, .int .i64 ec]) ∧ MtN w' v r c zs L ∧ Below w.heap.size w w' ∧ r ≤ 64 ∧ c ≤ 64 ∧ zs.length = r * c
theorem RetE.any {w : World} {L M : Nat} {r c : Nat} {zs : List Int} {ec : Int} {e : Ending} {w' : World} (h : RetE w L r c zs ec e w') (hr : r ≤ 64) (hc : c ≤ 64) (hz : zs.length = r * c) (hL : L ≤ M) : RetA w M e w' := by
  obtain ⟨v, e1, h1, b⟩ := h
  exact ⟨v, r, c, zs, ec, e1, h1.mono hL, b, hr, hc, hz⟩

theorem zmat_Mul_any (a b : Value) (R1 C1 R2 C2 : Int) (xs ys : List Int) (L M : Nat) (w : World) (hA : Mt w a R1 C1 xs L) (hB : Mt w b R2 C2 ys M) (hC : C1 ≤ 4) (hL : L ≤ 500) (hM : M ≤ 500) :
    Calls Try.prog 11 #[a, b] w (RetA w (4 * (L + M + 1))) := by
  by_cases h : Fm R1 C1 xs.length ∧ Fm R2 C2 ys.length ∧ C1 = R2
  · obtain ⟨h1, h2, rfl⟩ := h
    obtain ⟨r, m, rfl, rfl, hr, hm, hx⟩ := h1.nat
    obtain ⟨m', c, e, rfl, -, hc, hy⟩ := h2.nat
    obtain rfl : m = m' := by omega
    exact (zmat_Mul a b r m c xs ys L M w hA hB hr hm hc hx hy hL hM).mono fun e w' h => h.any hr hc (tab_length _ _ _) (Nat.mul_le_mul_right _ (by omega))
  · exact (zmat_Mul_bad a b R1 C1 R2 C2 xs ys L M w hA hB h).mono fun e w' h => h.any (by omega) (by omega) rfl (by omega)

theorem zmat_Add_any (a b : Value) (R1 C1 R2 C2 : Int) (xs ys : List Int) (L M : Nat) (w : World) (hA : Mt w a R1 C1 xs L) (hB : Mt w b R2 C2 ys M) (hL : L ≤ 500) (hM : M ≤ 500) :
    Calls Try.prog 20 #[a, b] w (RetA w (L + M + 1)) := by
  by_cases h : Al R1 C1 R2 C2 xs.length ys.length
  · obtain ⟨h1, h2, rfl, rfl⟩ := h
    obtain ⟨r, c, rfl, rfl, hr, hc, hx⟩ := h1.nat
    obtain ⟨r', c', e1, e2, -, -, hy⟩ := h2.nat
    obtain rfl : r = r' := by omega
    obtain rfl : c = c' := by omega
    exact (zmat_Add a b r c xs ys L M w hA hB hr hc hx hy hL hM).mono fun e w' h => h.any hr hc (tab_length _ _ _) (Nat.le_refl _)
  · exact (zmat_Add_bad a b R1 C1 R2 C2 xs ys L M w hA hB h).mono fun e w' h => h.any (by omega) (by omega) rfl (by omega)

theorem ref11_Few42 (v : Value) (R C : Int) (ps : List (Bool × List Nat)) (β : Bool) (hβ : β = true ↔ Fx R C ps 4 2) (w : World) (hv : Mw w v R C ps) :
    Calls Try.prog 26 #[v, .int .i64 4, .int .i64 2] w (RetW w (.bool β)) :=
  ref11_Few v R C ps 4 2 β hβ w hv

end Go.Proofs.Ytahjbeilddenbaa
