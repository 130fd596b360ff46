/- Package zint. -/
import Derived.Test.YtahjbeilddenbaaPow
import Derived.Test.YtahjbeilddenbaaFblk
import Derived.Test.YtahjbeilddenbaaPeel
namespace Go.Proofs.Ytahjbeilddenbaa
open Go.RowKit

theorem set_far (w : World) (a : Addr) (v : Value) (p : Addr) (h : p.block ≠ a.block) : (w.setCell a v).cell? p = w.cell? p :=
  World.cell?_of_block (w := w) (Below.heap_setCell w a v p.block h)

theorem Cs.set_far {k : IntKind} {w : World} {ao : Option Addr} {b off : Nat} {xs : List Nat} (h : Cs k w ao b off xs) {a : Addr} (ha : b ≠ a.block) (v : Value) : Cs k (w.setCell a v) ao b off xs :=
  ⟨h.ao, fun j hj => (Go.Proofs.Ytahjbeilddenbaa.set_far _ _ _ ⟨b, off + j, none⟩ ha).trans (h.cell j hj)⟩

theorem Own.far {k : IntKind} {e : TypeId} {w : World} {base : Nat} {v : Value} {xs : List Nat} (h : Own k e w base v xs) {a : Addr} (ha : a.block < base) (u : Value) : Own k e (w.setCell a u) base v xs := by
  refine ⟨h.1, ?_⟩
  rcases h.2 with h | ⟨g', cap', cur, e0, b0, c0, d0⟩
  · exact .inl h
  · refine .inr ⟨g', cap', cur, e0, b0, ?_, d0⟩
    rw [Below.heap_setCell w a u g' (by omega)]; exact c0

/-- A number with a sign. -/
def sg (s : Bool) (n : Nat) : Int := if s then -(n : Int) else n

/-- A value reads as a whole number of so many words. -/
def Iv (w : World) (v : Value) (z : Int) (L : Nat) : Prop := ∃ s u xs, v = .agg #[.bool s, u] ∧ Sl .u64 w u xs ∧ wf W64 xs ∧ xs.length ≤ L ∧ z = sg s (nv W64 xs)
/-- The same, normal. -/
def IvN (w : World) (v : Value) (z : Int) (L : Nat) : Prop := ∃ s u xs, v = .agg #[.bool s, u] ∧ Sl .u64 w u xs ∧ Nrm W64 xs ∧ xs.length ≤ L ∧ z = sg s (nv W64 xs) ∧ (s = true → xs ≠ [])

theorem IvN.iv {w : World} {v : Value} {z : Int} {L : Nat} (h : IvN w v z L) : Iv w v z L := by
  obtain ⟨s, u, xs, e, hs, hn, hl, hz, -⟩ := h; exact ⟨s, u, xs, e, hs, hn.1, hl, hz⟩
theorem Iv.next {w w' : World} {v : Value} {z : Int} {L : Nat} (h : Iv w v z L) (b : Below w.heap.size w w') : Iv w' v z L := by
  obtain ⟨s, u, xs, e, hs, r⟩ := h; exact ⟨s, u, xs, e, hs.next b, r⟩
theorem IvN.next {w w' : World} {v : Value} {z : Int} {L : Nat} (h : IvN w v z L) (b : Below w.heap.size w w') : IvN w' v z L := by
  obtain ⟨s, u, xs, e, hs, r⟩ := h; exact ⟨s, u, xs, e, hs.next b, r⟩
theorem Iv.mono {w : World} {v : Value} {z : Int} {L M : Nat} (h : Iv w v z L) (hl : L ≤ M) : Iv w v z M := by
  obtain ⟨s, u, xs, e, hs, hw, hL, hz⟩ := h; exact ⟨s, u, xs, e, hs, hw, by omega, hz⟩

/-- A number whose words lie in blocks from B on. -/
def Fresh (B : Nat) (v : Value) : Prop := ∀ s a n c, v = .agg #[.bool s, .slice (some a) n c] → 0 < n → B ≤ a.block
theorem Fresh.mono {B C : Nat} {v : Value} (h : Fresh B v) (hC : C ≤ B) : Fresh C v := fun s a n c e hn => Nat.le_trans hC (h s a n c e hn)

/-- A whole number is returned. -/
def RetI (w : World) (L : Nat) (z : Int) (e : Ending) (w' : World) : Prop := ∃ v, e = .returned v ∧ IvN w' v z L ∧ Below w.heap.size w w' ∧ Fresh w.heap.size v

theorem zint_From (s : Bool) (u : Value) (xs : List Nat) (w : World) (hu : Sl .u64 w u xs) (hm : xs.length ≤ 1000000) (hx : wf W64 xs) :
    Calls Try.prog 50 #[u, .bool s] w (RetI w xs.length (sg s (nv W64 xs))) := by
  have K0 : Blk 36 (w.alloc (.cells #[.bool false, .slice none 0 0] 36)) w.heap.size [.bool false, .slice none 0 0] := Blk.lit w 36 [.bool false, .slice none 0 0]
  have B0 : Below w.heap.size w (w.alloc (.cells #[.bool false, .slice none 0 0] 36)) := (Below.refl _ _).alloc (Nat.le_refl _) _
  go_enter Try.func50, Try.ntmps50
  go_wp2_with fail
  generalize w.alloc (.cells #[.bool false, .slice none 0 0] 36) = wb at *
  obtain ⟨g, eg⟩ : ∃ g, g = w.heap.size := ⟨_, rfl⟩
  rw [← eg] at K0 ⊢
  have hgw : w.heap.size ≤ g := by omega
  clear eg
  refine (nat_Norm u xs _ (hu.next B0) (by omega) hx).mono ?_; rintro e w2 ⟨r, zs, rfl, o2, m2, v2, l2, b2⟩
  have hg := K0.lt
  have K1 := K0.next b2
  have V2 := Lib.hid v2
  have fre : ∀ s' : Bool, ∀ ao ca, r = .slice ao zs.length ca → Fresh w.heap.size (.agg #[.bool s', .slice ao zs.length ca]) := by
    intro s' ao ca er s0 a n c e hn
    simp only [Value.agg.injEq, Array.mk.injEq, List.cons.injEq, Value.bool.injEq, Value.slice.injEq, and_true] at e
    obtain ⟨-, rfl, rfl, rfl⟩ := e
    rcases o2.shape with ⟨h1, h2⟩ | ⟨g', cap', h1, h2, -⟩
    · rw [h2] at hn; simp at hn
    · rw [h1] at er
      simp only [Value.slice.injEq, Option.some.injEq] at er
      rw [← er.1]; exact Nat.le_trans B0.size h2
  obtain ⟨ao, ba, oa, ca, er, -, -⟩ := o2.sl
  have fr : ∀ s' : Bool, Fresh w.heap.size (.agg #[.bool s', .slice ao zs.length ca]) := fun s' => fre s' _ _ er
  subst er
  clear fre
  have FRE := Lib.hid fr; clear fr
  have c0 := K1.cell 0; have c1 := K1.cell 1; have f0 := K1.free 0; have f1 := K1.free 1
  have fin : ∀ s' : Bool, sg s' (nv W64 zs) = sg s (nv W64 xs) → (s' = true → zs ≠ []) → IvN ((w2.setCell ⟨g, 0, none⟩ (.bool s')).setCell ⟨g, 1, none⟩ (.slice ao zs.length ca)) (.agg #[.bool s', .slice ao zs.length ca]) (sg s (nv W64 xs)) xs.length :=
    fun s' h1 h2 => ⟨s', _, zs, rfl, ((o2.far (a := ⟨g, 0, none⟩) hg _).far (a := ⟨g, 1, none⟩) hg _).sl, m2, l2, h1.symm, h2⟩
  have bel : ∀ s' : Bool, Below w.heap.size w ((w2.setCell ⟨g, 0, none⟩ (.bool s')).setCell ⟨g, 1, none⟩ (.slice ao zs.length ca)) :=
    fun s' => ((B0.trans (b2.mono B0.size)).setCell (p := ⟨g, 0, none⟩) hgw _).setCell (p := ⟨g, 1, none⟩) hgw _
  have FIN := Lib.hid fin; have BEL := Lib.hid bel
  clear v2 b2 fin bel B0 o2 K0
  cases s with
  | false =>
    have KF := ((K1.set 0 (.bool false)).set 1 (.slice ao zs.length ca))
    have d0 := KF.cell 0; have d1 := KF.cell 1
    have F := Lib.hid (FIN.out false (by rw [V2.out]) (fun h => by cases h))
    clear KF K1
    go_wp2
    exact bodyPost_ret (v := .agg #[.bool false, .slice ao zs.length ca]) (by simp [results, Try.results50, go_sem, d0, d1]) rfl ⟨_, rfl, F.out, BEL.out false, FRE.out false⟩
  | true =>
    by_cases hz : 0 < zs.length
    · have KF := ((K1.set 0 (.bool true)).set 1 (.slice ao zs.length ca))
      have d0 := KF.cell 0; have d1 := KF.cell 1
      have F := Lib.hid (FIN.out true (by rw [V2.out]) (fun _ => List.length_pos_iff.1 hz))
      clear KF K1
      go_wp2
      exact bodyPost_ret (v := .agg #[.bool true, .slice ao zs.length ca]) (by simp [results, Try.results50, go_sem, d0, d1]) rfl ⟨_, rfl, F.out, BEL.out true, FRE.out true⟩
    · have hzn : zs = [] := List.length_eq_zero_iff.mp (by omega)
      have KF := ((K1.set 0 (.bool false)).set 1 (.slice ao zs.length ca))
      have d0 := KF.cell 0; have d1 := KF.cell 1
      have F := Lib.hid (FIN.out false (by rw [← V2.out, hzn]; rfl) (fun h => by cases h))
      clear KF K1 hzn
      go_wp2
      exact bodyPost_ret (v := .agg #[.bool false, .slice ao zs.length ca]) (by simp [results, Try.results50, go_sem, d0, d1]) rfl ⟨_, rfl, F.out, BEL.out false, FRE.out false⟩

end Go.Proofs.Ytahjbeilddenbaa
