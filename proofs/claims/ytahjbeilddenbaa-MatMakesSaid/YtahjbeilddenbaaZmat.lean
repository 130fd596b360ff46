/- Package zmat: what a matrix reads as; the number at a place. -/
import Derived.Test.YtahjbeilddenbaaZint3
import Derived.Deep.AppendLies
namespace Go.Proofs.Ytahjbeilddenbaa
open Go.RowKit

/-- The cells of a list of whole numbers. -/
structure Zc (w : World) (ao : Option Addr) (b off : Nat) (zs : List Int) (L : Nat) : Prop where
  ao : zs ≠ [] → ao = some ⟨b, off, none⟩
  cell : ∀ j, j < zs.length → ∃ s u, w.cell? ⟨b, off + j * 2, none⟩ = some (.bool s) ∧ w.cell? ⟨b, off + j * 2 + 1, none⟩ = some u ∧ Iv w (.agg #[.bool s, u]) (zs.getD j 0) L

/-- A slice value reads as a list of whole numbers. -/
def Zs (w : World) (v : Value) (zs : List Int) (L : Nat) : Prop := ∃ ao b off cap, v = .slice ao zs.length cap ∧ zs.length ≤ cap ∧ Zc w ao b off zs L

theorem Zc.next {w w' : World} {ao : Option Addr} {b off : Nat} {zs : List Int} {L : Nat} (h : Zc w ao b off zs L) (hb : Below w.heap.size w w') : Zc w' ao b off zs L := by
  refine ⟨h.ao, fun j hj => ?_⟩
  obtain ⟨s, u, h1, h2, h3⟩ := h.cell j hj
  exact ⟨s, u, (hb.cell (World.block_lt_of_cell? w _ h1)).trans h1, (hb.cell (World.block_lt_of_cell? w _ h2)).trans h2, h3.next hb⟩
theorem Zs.next {w w' : World} {v : Value} {zs : List Int} {L : Nat} (h : Zs w v zs L) (hb : Below w.heap.size w w') : Zs w' v zs L := by
  obtain ⟨ao, b, off, cap, e, hc, hz⟩ := h
  exact ⟨ao, b, off, cap, e, hc, hz.next hb⟩
theorem Zs.nil (w : World) (L : Nat) : Zs w (.slice none 0 0) [] L := ⟨none, 0, 0, 0, rfl, Nat.le_refl _, fun h => absurd rfl h, fun j hj => by simp at hj⟩

/-- A value reads as a matrix (formed or not). -/
def Mt (w : World) (v : Value) (R C : Int) (zs : List Int) (L : Nat) : Prop := ∃ u, v = .agg #[.int .i64 R, .int .i64 C, u] ∧ Zs w u zs L
theorem Mt.next {w w' : World} {v : Value} {R C : Int} {zs : List Int} {L : Nat} (h : Mt w v R C zs L) (hb : Below w.heap.size w w') : Mt w' v R C zs L := by
  obtain ⟨u, e, hz⟩ := h; exact ⟨u, e, hz.next hb⟩
theorem Mt.agg {w : World} {v : Value} {R C : Int} {zs : List Int} {L : Nat} (h : Mt w v R C zs L) : ∃ ao c, v = .agg #[.int .i64 R, .int .i64 C, .slice ao zs.length c] := by
  obtain ⟨u, e, ao, b, off, cap, rfl, -⟩ := h; exact ⟨ao, cap, e⟩

/-- A whole number, normal or not, is returned. -/
def RetJ (w : World) (L : Nat) (z : Int) (e : Ending) (w' : World) : Prop := ∃ v, e = .returned v ∧ Iv w' v z L ∧ Below w.heap.size w w'
theorem RetI.j {w : World} {L : Nat} {z : Int} {e : Ending} {w' : World} (h : RetI w L z e w') : RetJ w L z e w' := by
  obtain ⟨v, e, h1, h2, -⟩ := h; exact ⟨v, e, h1.iv, h2⟩

theorem Iv.put {w : World} {v : Value} {z : Int} {L : Nat} (h : Iv w v z L) {e : TypeId} {g : Nat} {p : Bool} {a : Option Addr} {n c : Nat} (K : Blk e w g [.bool p, .slice a n c]) (p' : Bool) (y : Value) :
    Iv ((w.setCell ⟨g, 0, none⟩ (.bool p')).setCell ⟨g, 1, none⟩ y) v z L := by
  obtain ⟨s, u, xs, e, hs, r⟩ := h
  exact ⟨s, u, xs, e, (hs.off K 0 _).off (K.set 0 (.bool p')) 1 y, r⟩

theorem zmat_get (v : Value) (R : Int) (c i k : Nat) (zs : List Int) (L : Nat) (w : World) (hm : Mt w v R c zs L) (hi : i ≤ 100000) (hc : c ≤ 100000) (hk : k ≤ 100000) (hj : i * c + k < zs.length) :
    Calls Try.prog 43 #[v, .int .i64 i, .int .i64 k] w (RetJ w L (zs.getD (i * c + k) 0)) := by
  obtain ⟨u, rfl, ao, b, off, cap, rfl, hcap, hz⟩ := hm
  have hne : zs ≠ [] := by intro h; subst h; simp at hj
  have ha := hz.ao hne
  subst ha
  obtain ⟨wb, ew, KA, KC, B0, hsz⟩ := boxes1' w 24 36 [.int .i64 R, .int .i64 c, .slice (some ⟨b, off, none⟩) zs.length cap] [.bool false, .slice none 0 0]
  clear hsz
  have hw : i * c ≤ 100000 * 100000 := Nat.mul_le_mul hi hc
  have h1 : IntKind.i64.wrap ((i : Int) * (c : Int)) = ((i * c : Nat) : Int) := by rw [← Int.natCast_mul]; exact IntWalk.i64_in _ ⟨by omega, by omega⟩
  have h2 : IntKind.i64.wrap ((k : Int) + ((i * c : Nat) : Int)) = ((i * c + k : Nat) : Int) := by rw [← Int.natCast_add, Nat.add_comm]; exact IntWalk.i64_in _ ⟨by omega, by omega⟩
  have h2' : IntKind.i64.wrap (((i * c : Nat) : Int) + (k : Int)) = ((i * c + k : Nat) : Int) := by rw [← Int.natCast_add]; exact IntWalk.i64_in _ ⟨by omega, by omega⟩
  obtain ⟨s, x, q1, q2, q3⟩ := (hz.next B0).cell _ hj
  obtain ⟨s', p, n, d, eqx⟩ := q3.agg
  simp only [Value.agg.injEq, Array.mk.injEq, List.cons.injEq, and_true] at eqx
  obtain ⟨-, rfl⟩ := eqx
  obtain ⟨Z, eZ⟩ : ∃ Z, Z = zs.getD (i * c + k) 0 := ⟨_, rfl⟩
  rw [← eZ] at q3 ⊢
  clear eZ
  go_enter Try.func43, Try.ntmps43
  go_upto_region 1 with (fail)
  rw [← ew]
  obtain ⟨g, eg⟩ : ∃ g, g = w.heap.size + 1 := ⟨_, rfl⟩
  rw [← eg] at KC ⊢
  have hgw : w.heap.size ≤ g := by omega
  clear eg ew h2
  have f0 := KC.free 0; have f1 := KC.free 1
  have k0 := KC.cell 0; have k1 := KC.cell 1
  have c1 := KA.cell 1; have c2 := KA.cell 2
  have KF := (KC.set 0 (.bool s)).set 1 (.slice p n d)
  have d0 := KF.cell 0; have d1 := KF.cell 1
  have FR := Lib.hid (show RetJ w L Z (.returned (.agg #[.bool s, .slice p n d])) ((wb.setCell ⟨g, 0, none⟩ (.bool s)).setCell ⟨g, 1, none⟩ (.slice p n d)) from ⟨_, rfl, q3.put KC s (.slice p n d), (B0.setCell (p := ⟨g, 0, none⟩) hgw (.bool s)).setCell (p := ⟨g, 1, none⟩) hgw (.slice p n d)⟩)
  clear KF KC KA
  go_wp2
  exact bodyPost_ret (v := .agg #[.bool s, .slice p n d]) (by simp [results, Try.results43, go_sem, d0, d1]) rfl FR.out

end Go.Proofs.Ytahjbeilddenbaa
