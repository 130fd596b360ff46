/- Appends inside a region that draws its order. -/
import Derived.Test.YtnnidjhhcnmnnaaLib
import Derived.Deep.AppendLies
namespace Go.Proofs.Ytnnidjhhcnmnnaa
open Go.RowKit

/-- 'out = append(out, y)' as one step of a region that draws: y has just been laid in a block of its own. -/
theorem step_app1 {P : Program} {ops : Array Oper} {o : Oper} {a : Act} {K : Act → World → Prop} {Q : Exit → Act → World → Prop} {E : Prop} (k : IntKind) (T e bytes : Nat)
    (hu : P.underlying T = some (.slice e)) (hi : (P.info? e).map (fun i => (i.zero, i.size, i.bytes)) = some (some (.int k 0), 1, bytes)) (hby : bytes ≤ 8)
    (hgd : o.guard = none) (s x : Operand) (ho : o.op = .call { callee := .builtin .append, args := #[s, x], argTypes := #[T, T] })
    (w : World) (base : Nat) (v : Value) (xs : List Nat) (y : Nat) (yv : Int) (hy : yv = y) (hown : Own k e w base v xs) (hlen : xs.length ≤ 1000000000) (hbase : base ≤ w.heap.size)
    (hs : a.eval s = v) (hx : a.eval x = .slice (some ⟨w.heap.size, 0, none⟩) 1 1)
    (h : ∀ (g cap : Nat) (w' : World), Own k e w' base (.slice (some ⟨g, 0, none⟩) (xs.length + 1) cap) (xs ++ [y]) → Below base w w' → K (a.put o.dst (.slice (some ⟨g, 0, none⟩) (xs.length + 1) cap)) w') :
    if Go.Region.wanted o (Go.yielded ops a.tmps) = true then Go.Oper.wp P o a (w.alloc (.cells #[.int k yv] e)).drew K Q else E := by
  subst hy
  obtain ⟨i0, h1, h2, h3, h4⟩ := info_parts hi
  refine step_append_lies _ hgd s x T ho base e i0 (.int k 0) 1 bytes hu h1 h2 h3 h4 rfl (by decide) v xs.length (vs k xs) hs (World.ownsRow.drew (World.ownsRow.alloc hown _)) ⟨w.heap.size, 0, none⟩ 1 1 (vs k [y]) hx rfl ?_ ?_ (by decide) ?_ ?_ ?_ (w.heap.size + 1) ?_ ?_
  · intro j u hj
    match j, hj with
    | 0, hj => simp [vs] at hj; subst hj; simp [Addr.add]
  · intro u hu; simp [vs] at hu; subst hu; rfl
  · unfold maxLen; omega
  · have : (xs.length + 1) * bytes ≤ (xs.length + 1) * 8 := Nat.mul_le_mul_left _ hby
    omega
  · simp; omega
  · simp
  · intro g cap w' h1 h2 _ _
    have hg : w.grownBy w' v.ownBlock := by
      have e0 := World.grownBy_alloc w (.cells #[.int k (y : Int)] e) v.ownBlock
      exact ⟨h2.os.trans e0.os, h2.tape.trans e0.tape, h2.output.trans e0.output, Nat.le_trans e0.size h2.size, fun i hi hne => (h2.block i (Nat.lt_of_lt_of_le hi e0.size) hne).trans (e0.block i hi hne)⟩
    refine h g cap w' ?_ (below_grown hg hbase hown.block_ge)
    unfold Own; rw [vs_append, List.length_append]; exact h1

end Go.Proofs.Ytnnidjhhcnmnnaa
