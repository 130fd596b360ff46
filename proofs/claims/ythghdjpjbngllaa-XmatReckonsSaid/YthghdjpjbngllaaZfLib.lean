/- What a slice of words reads as, what a call owns, and how both go through later worlds. -/
import Derived.BigQuiet
import Derived.BigRegion
import Derived.Deep.DeepCutAuto
import Derived.Deep.QuietTactic
import Derived.Deep.RegionHeld3
import Derived.Deep.RegionLaw
import Derived.Deep.RegionWith
import Derived.Lib.Hide
import Derived.WalkKit
import Derived.WalkLawsBesides
import Derived.WalkSpells
import Derived.Test.YthghdjpjbngllaaZfNum
namespace Go.Proofs.Ythghdjpjbngllaa
open Go.RowKit

/-- Numbers as values of a kind. -/
def vs (k : IntKind) (xs : List Nat) : List Value := xs.map fun (x : Nat) => .int k (x : Int)

theorem vs_append (k : IntKind) (xs ys : List Nat) : vs k (xs ++ ys) = vs k xs ++ vs k ys := by simp [vs]
theorem vs_take (k : IntKind) (xs : List Nat) (n : Nat) : (vs k xs).take n = vs k (xs.take n) := by simp [vs, List.map_take]
theorem vs_set (k : IntKind) (xs : List Nat) (i x : Nat) : (vs k xs).set i (.int k (x : Int)) = vs k (xs.set i x) := by simp [vs, List.map_set]
theorem vs_get (k : IntKind) (xs : List Nat) (i : Nat) (h : i < xs.length) : (vs k xs)[i]? = some (.int k (xs.getD i 0 : Nat)) := by
  simp [vs, List.getElem?_eq_getElem h]
theorem vs_replicate (k : IntKind) (n x : Nat) : vs k (List.replicate n x) = List.replicate n (.int k (x : Int)) := by simp [vs]

/-- The cells of a slice's places. -/
structure Cs (k : IntKind) (w : World) (ao : Option Addr) (b off : Nat) (xs : List Nat) : Prop where
  ao : xs ≠ [] → ao = some ⟨b, off, none⟩
  cell : ∀ j, j < xs.length → w.cell? ⟨b, off + j, none⟩ = some (.int k (xs.getD j 0 : Nat))

/-- A slice value reads as a list of numbers. -/
def Sl (k : IntKind) (w : World) (v : Value) (xs : List Nat) : Prop :=
  ∃ ao b off cap, v = .slice ao xs.length cap ∧ xs.length ≤ cap ∧ Cs k w ao b off xs

theorem Cs.lt {k : IntKind} {w : World} {ao : Option Addr} {b off : Nat} {xs : List Nat} (h : Cs k w ao b off xs) (hx : xs ≠ []) : b < w.heap.size :=
  World.block_lt_of_cell? w _ (h.cell 0 (List.length_pos_iff.2 hx))

theorem Cs.below {k : IntKind} {w w' : World} {ao : Option Addr} {b off : Nat} {xs : List Nat} (h : Cs k w ao b off xs) {B : Nat} (hb : Below B w w') (hB : w.heap.size ≤ B) : Cs k w' ao b off xs :=
  ⟨h.ao, fun j hj => by rw [hb.cell (by have := World.block_lt_of_cell? w _ (h.cell j hj); simp at this ⊢; omega)]; exact h.cell j hj⟩

theorem Sl.below {k : IntKind} {w w' : World} {v : Value} {xs : List Nat} (h : Sl k w v xs) {B : Nat} (hb : Below B w w') (hB : w.heap.size ≤ B) : Sl k w' v xs := by
  obtain ⟨ao, b, off, cap, e, hc, hcs⟩ := h
  exact ⟨ao, b, off, cap, e, hc, hcs.below hb hB⟩

theorem Sl.next {k : IntKind} {w w' : World} {v : Value} {xs : List Nat} (h : Sl k w v xs) (hb : Below w.heap.size w w') : Sl k w' v xs := h.below hb (Nat.le_refl _)

theorem Sl.nil (k : IntKind) (w : World) : Sl k w (.slice none 0 0) [] := ⟨none, 0, 0, 0, rfl, Nat.le_refl _, fun h => absurd rfl h, fun j hj => by simp at hj⟩

/-- Nothing but draws has happened. -/
def Drawn (w w' : World) : Prop := ∃ n, w' = w.drewN n

theorem Drawn.refl (w : World) : Drawn w w := ⟨0, rfl⟩
theorem Drawn.add {w w' : World} (h : Drawn w w') (n : Nat) : Drawn w (w'.drewN n) := by
  obtain ⟨m, rfl⟩ := h; exact ⟨m + n, by rw [World.drewN_drewN]⟩
theorem Drawn.trans {a b c : World} (h : Drawn a b) (k : Drawn b c) : Drawn a c := by
  obtain ⟨m, rfl⟩ := k; exact h.add m
theorem Drawn.below {w w' : World} (h : Drawn w w') (B : Nat) : Below B w w' := by
  obtain ⟨n, rfl⟩ := h; exact below_drewN (Below.refl _ _) n
theorem Cs.drawn {k : IntKind} {w w' : World} {ao : Option Addr} {b off : Nat} {xs : List Nat} (h : Cs k w ao b off xs) (hq : Drawn w w') : Cs k w' ao b off xs :=
  h.below (hq.below w.heap.size) (Nat.le_refl _)

/-- A value is returned; nothing but draws has happened. -/
def RetQ (w : World) (v : Value) (e : Ending) (w' : World) : Prop := e = .returned v ∧ Drawn w w'

/-- A slice value that the call has made: it owns the numbers xs. -/
def Own (k : IntKind) (e : TypeId) (w : World) (base : Nat) (v : Value) (xs : List Nat) : Prop := w.ownsRow base e 1 v xs.length (vs k xs)

theorem Own.nil (k : IntKind) (e : TypeId) (w : World) (base : Nat) : Own k e w base (.slice none 0 0) [] := World.ownsRow_nil _ _ _ _

theorem Own.mono {k : IntKind} {e : TypeId} {w : World} {base base' : Nat} {v : Value} {xs : List Nat} (h : Own k e w base v xs) (hb : base' ≤ base) : Own k e w base' v xs := by
  refine ⟨h.1, ?_⟩
  rcases h.2 with h | ⟨g, cap, cur, a, b, c⟩
  · exact .inl h
  · exact .inr ⟨g, cap, cur, a, Nat.le_trans hb b, c⟩

/-- The two shapes of what is owned. -/
theorem Own.shape {k : IntKind} {e : TypeId} {w : World} {base : Nat} {v : Value} {xs : List Nat} (h : Own k e w base v xs) :
    (v = .slice none 0 0 ∧ xs = []) ∨ ∃ g cap, v = .slice (some ⟨g, 0, none⟩) xs.length cap ∧ base ≤ g ∧ g < w.heap.size ∧ xs.length ≤ cap ∧ cap ≤ maxLen := by
  rcases h.2 with ⟨a, b⟩ | ⟨g, cap, cur, rfl, hb, hg, hn, hm, _⟩
  · exact .inl ⟨a, List.length_eq_zero_iff.1 b⟩
  · exact .inr ⟨g, cap, rfl, hb, (Array.getElem?_eq_some_iff.1 hg).1, hn, hm⟩

theorem Own.sl {k : IntKind} {e : TypeId} {w : World} {base : Nat} {v : Value} {xs : List Nat} (h : Own k e w base v xs) : Sl k w v xs := by
  rcases h.shape with ⟨rfl, rfl⟩ | ⟨g, cap, rfl, _, _, hn, _⟩
  · exact Sl.nil _ _
  · refine ⟨_, g, 0, cap, rfl, hn, fun _ => rfl, fun j hj => ?_⟩
    have := World.ownsRow.cellAt h j (by simpa using hj)
    rw [Nat.zero_add, this, vs_get k xs j hj]

theorem Own.below {k : IntKind} {e : TypeId} {w w' : World} {base : Nat} {v : Value} {xs : List Nat} (h : Own k e w base v xs) {B : Nat} (hb : Below B w w') (hB : w.heap.size ≤ B) : Own k e w' base v xs := by
  refine ⟨h.1, ?_⟩
  rcases h.2 with h | ⟨g, cap, cur, a, b, c, d⟩
  · exact .inl h
  · refine .inr ⟨g, cap, cur, a, b, ?_, d⟩
    rw [hb.block g (by have := (Array.getElem?_eq_some_iff.1 c).1; omega)]; exact c

theorem Own.next {k : IntKind} {e : TypeId} {w w' : World} {base : Nat} {v : Value} {xs : List Nat} (h : Own k e w base v xs) (hb : Below w.heap.size w w') : Own k e w' base v xs := h.below hb (Nat.le_refl _)

/-- A store into what is owned. -/
theorem Own.store {k : IntKind} {e : TypeId} {w : World} {base g cap n : Nat} {xs : List Nat} (h : Own k e w base (.slice (some ⟨g, 0, none⟩) n cap) xs) (j x : Nat) :
    Own k e (w.setCell ⟨g, j, none⟩ (.int k (x : Int))) base (.slice (some ⟨g, 0, none⟩) n cap) (xs.set j x) ∧ w.grownBy (w.setCell ⟨g, j, none⟩ (.int k (x : Int))) (some g) := by
  have hn : n = xs.length := by
    rcases h.shape with ⟨h, _⟩ | ⟨g', cap', h, _⟩ <;> simp at h
    exact h.2.1
  subst hn
  have := World.ownsRow.stored h j (.int k (x : Int))
  rw [vs_set] at this
  refine ⟨?_, this.2⟩
  unfold Own; rw [List.length_set]; exact this.1

theorem Own.cellAt {k : IntKind} {e : TypeId} {w : World} {base g cap n : Nat} {xs : List Nat} (h : Own k e w base (.slice (some ⟨g, 0, none⟩) n cap) xs) (j : Nat) (hj : j < xs.length) :
    w.cell? ⟨g, j, none⟩ = some (.int k (xs.getD j 0 : Nat)) := by
  have hn : n = xs.length := by
    rcases h.shape with ⟨h, _⟩ | ⟨g', cap', h, _⟩ <;> simp at h
    exact h.2.1
  subst hn
  rw [World.ownsRow.cellAt h j (by simpa using hj), vs_get k xs j hj]

theorem Own.frozenAt {k : IntKind} {e : TypeId} {w : World} {base g cap n : Nat} {xs : List Nat} (h : Own k e w base (.slice (some ⟨g, 0, none⟩) n cap) xs) (j : Nat) :
    w.frozen? ⟨g, j, none⟩ = false := by
  have hn : n = xs.length := by
    rcases h.shape with ⟨h, _⟩ | ⟨g', cap', h, _⟩ <;> simp at h
    exact h.2.1
  subst hn
  exact World.ownsRow.frozenAt h j

/-- What is owned, cut to its first places. -/
theorem Own.take {k : IntKind} {e : TypeId} {w : World} {base g cap n : Nat} {xs : List Nat} (h : Own k e w base (.slice (some ⟨g, 0, none⟩) n cap) xs) (m : Nat) (hm : m ≤ xs.length) :
    Own k e w base (.slice (some ⟨g, 0, none⟩) m cap) (xs.take m) := by
  have hl : (xs.take m).length = m := by simp; omega
  refine ⟨by simp [vs], ?_⟩
  rcases h.2 with ⟨h, _⟩ | ⟨g', cap', cur, h0, h1, h2, h3, h4, h5, h6⟩
  · simp at h
  · simp only [Value.slice.injEq, Option.some.injEq, Addr.mk.injEq] at h0
    obtain ⟨⟨rfl, -⟩, rfl, rfl⟩ := h0
    refine .inr ⟨g, cap, cur, by rw [hl], h1, h2, by omega, h4, h5, ?_⟩
    rw [hl, ← vs_take, ← h6, List.take_take]; congr 1; omega

/-- What is owned, nil or not, cut to its first places. -/
theorem Own.take' {k : IntKind} {e : TypeId} {w : World} {base cap n : Nat} {ao : Option Addr} {xs : List Nat} (h : Own k e w base (.slice ao n cap) xs) (m : Nat) (hm : m ≤ xs.length) :
    Own k e w base (.slice ao m cap) (xs.take m) := by
  rcases h.shape with ⟨h1, rfl⟩ | ⟨g, c, h1, _⟩
  · simp at h1; obtain ⟨rfl, rfl, rfl⟩ := h1
    simp at hm; subst hm; exact Own.nil _ _ _ _
  · simp only [Value.slice.injEq] at h1
    obtain ⟨rfl, rfl, rfl⟩ := h1
    exact h.take m hm

theorem Own.cs {k : IntKind} {e : TypeId} {w : World} {base g cap n : Nat} {xs : List Nat} (h : Own k e w base (.slice (some ⟨g, 0, none⟩) n cap) xs) : Cs k w (some ⟨g, 0, none⟩) g 0 xs :=
  ⟨fun _ => rfl, fun j hj => by rw [Nat.zero_add]; exact h.cellAt j hj⟩

theorem Own.drawn {k : IntKind} {e : TypeId} {w w' : World} {base : Nat} {v : Value} {xs : List Nat} (h : Own k e w base v xs) (hq : Drawn w w') : Own k e w' base v xs :=
  h.below (hq.below w.heap.size) (Nat.le_refl _)
theorem Sl.drawn {k : IntKind} {w w' : World} {v : Value} {xs : List Nat} (h : Sl k w v xs) (hq : Drawn w w') : Sl k w' v xs :=
  h.below (hq.below w.heap.size) (Nat.le_refl _)

/-- What an append or a make leaves of old memory. -/
theorem below_grown {w w' : World} {base : Nat} {v : Value} (hg : w.grownBy w' v.ownBlock) (hb : base ≤ w.heap.size) (hv : ∀ k, v.ownBlock = some k → base ≤ k) : Below base w w' :=
  (Below.refl base w).grown hg hb hv

theorem Own.block_ge {k : IntKind} {e : TypeId} {w : World} {base : Nat} {v : Value} {xs : List Nat} (h : Own k e w base v xs) : ∀ j, v.ownBlock = some j → base ≤ j := fun j hj => (World.ownsRow.lt h j hj).1

/-- 'out = append(out, y)': out is the call's own; y has just been laid in a block of its own. -/
theorem wp_app1 {P : Program} {ops : Array Oper} {rest : List Oper} {o : Oper} {a : Act} {Q : Exit → Act → World → Prop} (k : IntKind) (T e bytes : Nat)
    (hu : P.underlying T = some (.slice e)) (hi : (P.info? e).map (fun i => (i.zero, i.size, i.bytes)) = some (some (.int k 0), 1, bytes)) (hby : bytes ≤ 8)
    (hgd : o.guard = none) (s x : Operand) (ho : o.op = .call { callee := .builtin .append, args := #[s, x], argTypes := #[T, T] })
    (w : World) (base : Nat) (v : Value) (xs : List Nat) (y : Nat) (yv : Int) (hy : yv = y) (hown : Own k e w base v xs) (hlen : xs.length ≤ 1000000000) (hbase : base ≤ w.heap.size)
    (hs : a.eval s = v) (hx : a.eval x = .slice (some ⟨w.heap.size, 0, none⟩) 1 1)
    (h : ∀ (v' : Value) (w' : World), Own k e w' base v' (xs ++ [y]) → Below base w w' → w.grownBy w' v.ownBlock → (v' = .slice none 0 0 → False) → wpList P ops Q rest (a.put o.dst v') w') :
    wpList P ops Q (o :: rest) a (w.alloc (.cells #[.int k yv] e)) := by
  subst hy
  obtain ⟨i0, h1, h2, h3, h4⟩ := info_parts hi
  refine wpList_append_own _ hgd s x T ho base e i0 (.int k 0) 1 bytes hu h1 h2 h3 h4 rfl (by decide) v xs.length (vs k xs) hs (World.ownsRow.alloc hown _) ⟨w.heap.size, 0, none⟩ 1 1 (vs k [y]) hx rfl ?_ ?_ ?_ ?_ ?_ ?_
  · intro j u hj
    match j, hj with
    | 0, hj => simp [vs] at hj; subst hj; simp [Addr.add]
  · intro u hu; simp [vs] at hu; subst hu; rfl
  · unfold maxLen; omega
  · have : (xs.length + 1) * bytes ≤ (xs.length + 1) * 8 := Nat.mul_le_mul_left _ hby
    omega
  · simp; omega
  · intro v' w' h1 h2 h3
    have hg : w.grownBy w' v.ownBlock := by
      have e0 := World.grownBy_alloc w (.cells #[.int k (y : Int)] e) v.ownBlock
      exact ⟨h2.os.trans e0.os, h2.tape.trans e0.tape, h2.output.trans e0.output, Nat.le_trans e0.size h2.size, fun i hi hne => (h2.block i (Nat.lt_of_lt_of_le hi e0.size) hne).trans (e0.block i hi hne)⟩
    refine h v' w' ?_ (below_grown hg hbase hown.block_ge) hg (fun e0 => by have := h3.1 e0; omega)
    unfold Own; rw [vs_append, List.length_append]; exact h1

/-- 'make([]T, n)'. -/
theorem wp_make {P : Program} {ops : Array Oper} {rest : List Oper} {o : Oper} {a : Act} {Q : Exit → Act → World → Prop} (k : IntKind) (T e bytes : Nat)
    (hu : P.underlying T = some (.slice e)) (hi : (P.info? e).map (fun i => (i.zero, i.size, i.bytes)) = some (some (.int k 0), 1, bytes)) (hby : bytes ≤ 8)
    (hgd : o.guard = none) (l c : Operand) (ho : o.op = .makeSlice T l c) (kl kc : IntKind) (n : Nat) (hn : n ≤ 1000000000)
    (w : World) (L C : Int) (hl : a.eval l = .int kl L) (hc : a.eval c = .int kc C) (hL : L = n) (hC : C = n)
    (h : ∀ (w' : World), Own k e w' w.heap.size (.slice (some ⟨w.heap.size, 0, none⟩) n n) (List.replicate n 0) → Below w.heap.size w w' → w.heap.size < w'.heap.size → wpList P ops Q rest (a.put o.dst (.slice (some ⟨w.heap.size, 0, none⟩) n n)) w') :
    wpList P ops Q (o :: rest) a w := by
  obtain ⟨i0, h1, h2, h3, h4⟩ := info_parts hi
  subst h4
  refine wpList_make_full w hgd l c T ho w.heap.size e i0 (.int k 0) 1 hu h1 h2 h3 kl kc L C n hl hc hL hC ?_ ?_ (Nat.le_refl _) ?_
  · have : i0.bytes * n ≤ 8 * n := Nat.mul_le_mul_right _ hby
    omega
  · unfold maxLen; omega
  · intro w' h5 h6
    refine h w' ?_ ((Below.refl _ w).grown h6 (Nat.le_refl _) (fun k hk => by simp at hk)) ?_
    · unfold Own
      rw [List.length_replicate, vs_replicate]
      simpa [Value.cells, toList_madeCells_one] using h5
    · rcases h5.2 with ⟨h, _⟩ | ⟨g, cap, cur, hv, _, hg, _⟩
      · simp at h
      · simp only [Value.slice.injEq, Option.some.injEq, Addr.mk.injEq] at hv
        obtain ⟨⟨rfl, -⟩, -⟩ := hv
        exact (Array.getElem?_eq_some_iff.1 hg).1

end Go.Proofs.Ythghdjpjbngllaa
