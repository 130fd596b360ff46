/- Three lists of whole numbers that a function makes side by side. -/
import Derived.Test.YtpfonckdejjfnaaZawake
namespace Go.Proofs.Ytpfonckdejjfnaa
open Go.RowKit

/-- A list's block is not the other's, nor holds words of the other's numbers. -/
def Apart (v v' : Value) (es' : List (Bool × Value)) : Prop := ∀ g, v.ownBlock = some g → v'.ownBlock ≠ some g ∧ ∀ j (h : j < es'.length), Offb (es'[j]'h).2 g
theorem Apart.nil (v' : Value) (es' : List (Bool × Value)) : Apart (.slice none 0 0) v' es' := fun g h => by simp [Value.ownBlock] at h

theorem ZO.other {w w' : World} {base : Nat} {v v' : Value} {zs : List Int} {L : Nat} {es : List (Bool × Value)} (h : ZO w base v' zs L es) (hg : w.grownBy w' v.ownBlock) (ha : Apart v v' es) : ZO w' base v' zs L es := by
  refine ⟨h.len, ⟨h.own.1, ?_⟩, fun j hj => (h.num j hj).grown hg (fun g hg' => (ha g hg').2 j hj), h.off⟩
  have hlt := World.ownsRow.lt h.own
  rcases h.own.2 with h2 | ⟨g', cap, cur, a, b, c, d⟩
  · exact .inl h2
  · refine .inr ⟨g', cap, cur, a, b, ?_, d⟩
    have e : v'.ownBlock = some g' := by rw [a]; rfl
    rw [hg.block g' (hlt g' e).2 (fun hh => (ha g' hh.symm).1 e)]; exact c

theorem Apart.step {w : World} {base g n cap : Nat} {v v' : Value} {zs : List Int} {L : Nat} {es : List (Bool × Value)} (ha : Apart v v' es) (h : ZO w base v' zs L es) (hgi : v.ownBlock = some g ∨ w.heap.size ≤ g) :
    Apart (.slice (some ⟨g, 0, none⟩) n cap) v' es := by
  intro g0 hg0
  have e : g0 = g := by simp [Value.ownBlock] at hg0; exact hg0.symm
  subst e
  rcases hgi with hgi | hgi
  · exact ha g0 hgi
  · exact ⟨fun hh => by have := (World.ownsRow.lt h.own g0 hh).2; omega, fun j hj => (h.num j hj).offb hgi⟩

theorem Apart.more {w : World} {base g n cap : Nat} {v v' : Value} {zs : List Int} {L : Nat} {es es' : List (Bool × Value)} {sb : Bool} {u : Value} (ha : Apart v' v es) (h : ZO w base v' zs L es') (hgi : v.ownBlock = some g ∨ w.heap.size ≤ g)
    (hu : ∀ g', v'.ownBlock = some g' → Offb u g') : Apart v' (.slice (some ⟨g, 0, none⟩) n cap) (es ++ [(sb, u)]) := by
  intro g' hg'
  refine ⟨fun hh => ?_, fun j hj => ?_⟩
  · have e : g' = g := by simp [Value.ownBlock] at hh; exact hh.symm
    subst e
    rcases hgi with hgi | hgi
    · exact (ha g' hg').1 hgi
    · have := (World.ownsRow.lt h.own g' hg').2; omega
  · by_cases hlt : j < es.length
    · rw [List.getElem_append_left hlt]; exact (ha g' hg').2 j hlt
    · have hj2 : j = es.length := by simp at hj; omega
      subst hj2
      simp only [List.getElem_append_right (Nat.le_refl _), Nat.sub_self, List.getElem_cons_zero]
      exact hu g' hg'

/-- Three lists, side by side. -/
def Z3 (w : World) (base L : Nat) (vx : Value) (xs : List Int) (vy : Value) (ys : List Int) (vz : Value) (zs : List Int) : Prop := ∃ ex ey ez,
  ZO w base vx xs L ex ∧ ZO w base vy ys L ey ∧ ZO w base vz zs L ez ∧ Apart vx vy ey ∧ Apart vx vz ez ∧ Apart vy vx ex ∧ Apart vy vz ez ∧ Apart vz vx ex ∧ Apart vz vy ey
theorem Z3.rot {w : World} {base L : Nat} {vx vy vz : Value} {xs ys zs : List Int} (h : Z3 w base L vx xs vy ys vz zs) : Z3 w base L vy ys vz zs vx xs := by
  obtain ⟨ex, ey, ez, h1, h2, h3, a, b, c, d, e, f⟩ := h
  exact ⟨ey, ez, ex, h2, h3, h1, d, c, f, e, a, b⟩
theorem Z3.nil (w : World) (base L : Nat) : Z3 w base L (.slice none 0 0) [] (.slice none 0 0) [] (.slice none 0 0) [] :=
  ⟨[], [], [], ZO.nil _ _ _, ZO.nil _ _ _, ZO.nil _ _ _, Apart.nil _ _, Apart.nil _ _, Apart.nil _ _, Apart.nil _ _, Apart.nil _ _, Apart.nil _ _⟩
theorem Z3.next {w w' : World} {base L : Nat} {vx vy vz : Value} {xs ys zs : List Int} (h : Z3 w base L vx xs vy ys vz zs) (hb : Below w.heap.size w w') : Z3 w' base L vx xs vy ys vz zs := by
  obtain ⟨ex, ey, ez, h1, h2, h3, r⟩ := h
  exact ⟨ex, ey, ez, h1.next hb, h2.next hb, h3.next hb, r⟩
theorem Z3.zs {w : World} {base L : Nat} {vx vy vz : Value} {xs ys zs : List Int} (h : Z3 w base L vx xs vy ys vz zs) : Zs w vx xs L ∧ Zs w vy ys L ∧ Zs w vz zs L := by
  obtain ⟨ex, ey, ez, h1, h2, h3, -⟩ := h; exact ⟨h1.zs, h2.zs, h3.zs⟩

/-- 'x = append(x, z)' beside two other lists. -/
theorem zap3 {P : Program} {o : Oper} {a : Act} {K : Act → World → Prop} {Q : Exit → Act → World → Prop} (T bytes : Nat) (z0 : Value)
    (hu : P.underlying T = some (.slice 36)) (hi : (P.info? 36).map (fun i => (i.zero, i.size, i.bytes)) = some (some z0, 2, bytes)) (hby : bytes ≤ 32) (hz0 : z0.cells.size = 2)
    (s x : Operand) (ho : o.op = .call { callee := .builtin .append, args := #[s, x], argTypes := #[T, T] })
    (wd w : World) (base : Nat) (vx vy vz : Value) (xs ys zs : List Int) (L : Nat) (z : Int) (sb : Bool) (p : Option Addr) (n c : Nat) (bw : Below wd.heap.size wd w)
    (hown : Z3 wd base L vx xs vy ys vz zs) (hnum : IvN w (.agg #[.bool sb, .slice p n c]) z L) (hfr : Fresh wd.heap.size (.agg #[.bool sb, .slice p n c]))
    (hlen : xs.length ≤ 1000000000) (hbase : base ≤ w.heap.size)
    (hs : a.eval s = vx) (hx : a.eval x = .slice (some ⟨w.heap.size, 0, none⟩) 1 1)
    (h : ∀ (g cap : Nat) (w' : World), Z3 w' base L (.slice (some ⟨g, 0, none⟩) (xs.length + 1) cap) (xs ++ [z]) vy ys vz zs → Below base w w' → K (a.put o.dst (.slice (some ⟨g, 0, none⟩) (xs.length + 1) cap)) w') :
    Oper.wp P o a (w.alloc (.cells #[.bool sb, .slice p n c] 36)) K Q := by
  obtain ⟨ex, ey, ez, h1, h2, h3, axy, axz, ayx, ayz, azx, azy⟩ := hown
  have ox := h1.offrow (Nat.le_refl _) hfr
  have oy := h2.offrow (Nat.le_refl _) hfr
  have oz := h3.offrow (Nat.le_refl _) hfr
  have k1 := h1.next bw; have k2 := h2.next bw; have k3 := h3.next bw
  refine zapI T bytes z0 hu hi hby hz0 s x ho w base vx xs L ex z sb (.slice p n c) k1 hnum ox hlen hbase hs hx fun g cap w' j1 j2 j3 j4 => h g cap w' ?_ j2
  exact ⟨_, ey, ez, j1, k2.other j3 axy, k3.other j3 axz, axy.step k2 j4, axz.step k3 j4, ayx.more k2 j4 oy, ayz, azx.more k3 j4 oz, azy⟩

end Go.Proofs.Ytpfonckdejjfnaa
