
import Derived.BigQuiet
import Derived.BigRegion
import Derived.Deep.DeepCutAuto
import Derived.Deep.QuietTactic
import Derived.Deep.RegionHeld3
import Derived.Deep.RegionLaw
import Derived.Deep.RegionWith
import Derived.Lib.Hide
import Derived.WalkKit
import Derived.WalkLawsBesides
import Derived.WalkSpells
import Derived.OpenShut
import Derived.ProofKit
/- Plain facts on lists of digits, in any base: their value, noughts at the end, and that a list without them is known by its value. No program is in sight. -/
namespace Go.Proofs.Ytkmfhabgempjiaa
def W64 : Nat := 18446744073709551616
def wf (B : Nat) (xs : List Nat) : Prop := ∀ x, x ∈ xs → x < B
def tr : List Nat → List Nat
 | [] => []
 | x :: xs => match tr xs with
  | [] => if x = 0 then [] else [x]
  | y :: ys => x :: y :: ys
def Nrm (B : Nat) (xs : List Nat) : Prop := wf B xs ∧ tr xs = xs
theorem tr_cons (x : Nat) (xs : List Nat) : tr (x :: xs) = if tr xs = [] ∧ x = 0 then [] else x :: tr xs := by
 simp only [tr]
 cases h : tr xs with
 | nil => by_cases hx : x = 0 <;> simp [hx]
 | cons y ys => simp
theorem tr_snoc0 (xs : List Nat) : tr (xs ++ [0]) = tr xs := by
 induction xs with
 | nil => rfl
 | cons x xs ih => simp [tr_cons, ih]
theorem tr_snoc (xs : List Nat) (x : Nat) (h : x ≠ 0) : tr (xs ++ [x]) = xs ++ [x] := by
 induction xs with
 | nil => simp [tr, h]
 | cons y xs ih => simp [tr_cons, ih]
theorem getD_lt (xs : List Nat) (k : Nat) (hk : k < xs.length) : xs.getD k 0 = xs[k] := by
 unfold List.getD; rw [List.getElem?_eq_getElem hk]; rfl
theorem take_snoc (xs : List Nat) (k : Nat) (hk : k < xs.length) : xs.take (k + 1) = xs.take k ++ [xs.getD k 0] := by
 rw [List.take_succ_eq_append_getElem hk, getD_lt xs k hk]
theorem last_split (xs : List Nat) (hx : xs ≠ []) : xs = xs.take (xs.length - 1) ++ [xs.getD (xs.length - 1) 0] := by
 have hl : 0 < xs.length := List.length_pos_iff.2 hx
 rw [← take_snoc xs _ (by omega), Nat.sub_add_cancel hl, List.take_length]
theorem tr_idem (xs : List Nat) : tr (tr xs) = tr xs := by
 induction xs with
 | nil => rfl
 | cons x xs ih =>
  rw [tr_cons]
  split
  ·rfl
  ·rename_i h
   rw [tr_cons, ih, if_neg h]
theorem tr_len (xs : List Nat) : (tr xs).length ≤ xs.length := by
 induction xs with
 | nil => simp [tr]
 | cons x xs ih => rw [tr_cons]; split <;> simp <;> omega
theorem tr_take (xs : List Nat) : tr xs = xs.take (tr xs).length := by
 induction xs with
 | nil => rfl
 | cons x xs ih =>
  rw [tr_cons]
  split
  ·simp
  ·simp only [List.length_cons, List.take_succ_cons]; rw [← ih]
theorem tr_mem (xs : List Nat) {x : Nat} (h : x ∈ tr xs) : x ∈ xs := by
 rw [tr_take] at h; exact List.mem_of_mem_take h
theorem wf_tr {B : Nat} {xs : List Nat} (h : wf B xs) : wf B (tr xs) := fun _ hx => h _ (tr_mem xs hx)
theorem wf_nil (B : Nat) : wf B [] := by intro x hx; simp at hx
theorem wf_cons {B x : Nat} {xs : List Nat} (h : x < B) (hs : wf B xs) : wf B (x :: xs) := by
 intro y hy; rcases List.mem_cons.1 hy with rfl | hy
 ·exact h
 ·exact hs _ hy
theorem wf_getD {B : Nat} {xs : List Nat} (h : wf B xs) (hB : 0 < B) (j : Nat) : xs.getD j 0 < B := by
 by_cases hj : j < xs.length
 ·simp [List.getD, List.getElem?_eq_getElem hj]; exact h _ (List.getElem_mem hj)
 ·simp [List.getD, List.getElem?_eq_none (Nat.le_of_not_lt hj)]; exact hB
theorem nrm_tr {B : Nat} {xs : List Nat} (h : wf B xs) : Nrm B (tr xs) := ⟨wf_tr h, tr_idem xs⟩
theorem nrm_nil (B : Nat) : Nrm B [] := ⟨wf_nil B, rfl⟩
theorem nrm_last {B : Nat} {xs : List Nat} (h : Nrm B xs) (hx : xs ≠ []) : xs.getD (xs.length - 1) 0 ≠ 0 := by
 intro h0
 have e := last_split xs hx
 rw [h0] at e
 have h2 := h.2
 rw [e, tr_snoc0] at h2
 have := tr_len (xs.take (xs.length - 1))
 rw [h2] at this
 simp at this
 have hl : 0 < xs.length := List.length_pos_iff.2 hx
 omega
theorem take_set_succ (zs : List Nat) (k x : Nat) (hk : k < zs.length) : (zs.set k x).take (k + 1) = zs.take k ++ [x] := by
 rw [List.take_set, take_snoc zs k hk, List.set_append_right _ _ (by simp; omega)]
 simp [Nat.min_eq_left (Nat.le_of_lt hk)]
end Go.Proofs.Ytkmfhabgempjiaa
/- What a slice of words reads as, what a call owns, and how both go through later worlds. -/
namespace Go.Proofs.Ytkmfhabgempjiaa
open Go.RowKit
def vs (k : IntKind) (xs : List Nat) : List Value := xs.map fun (x : Nat) => .int k (x : Int)
theorem vs_length (k : IntKind) (xs : List Nat) : (vs k xs).length = xs.length := by simp [vs]
theorem vs_append (k : IntKind) (xs ys : List Nat) : vs k (xs ++ ys) = vs k xs ++ vs k ys := by simp [vs]
theorem vs_take (k : IntKind) (xs : List Nat) (n : Nat) : (vs k xs).take n = vs k (xs.take n) := by simp [vs, List.map_take]
theorem vs_set (k : IntKind) (xs : List Nat) (i x : Nat) : (vs k xs).set i (.int k (x : Int)) = vs k (xs.set i x) := by simp [vs, List.map_set]
theorem vs_get (k : IntKind) (xs : List Nat) (i : Nat) (h : i < xs.length) : (vs k xs)[i]? = some (.int k (xs.getD i 0 : Nat)) := by
 simp [vs, List.getElem?_eq_getElem h]
theorem vs_replicate (k : IntKind) (n x : Nat) : vs k (List.replicate n x) = List.replicate n (.int k (x : Int)) := by simp [vs]
structure Cs (k : IntKind) (w : World) (ao : Option Addr) (b off : Nat) (xs : List Nat) : Prop where
 ao : xs ≠ [] → ao = some ⟨b, off, none⟩
 cell : ∀ j, j < xs.length → w.cell? ⟨b, off + j, none⟩ = some (.int k (xs.getD j 0 : Nat))
def Sl (k : IntKind) (w : World) (v : Value) (xs : List Nat) : Prop :=
 ∃ ao b off cap, v = .slice ao xs.length cap ∧ xs.length ≤ cap ∧ Cs k w ao b off xs
theorem Cs.lt {k : IntKind} {w : World} {ao : Option Addr} {b off : Nat} {xs : List Nat} (h : Cs k w ao b off xs) (hx : xs ≠ []) : b < w.heap.size :=
 World.block_lt_of_cell? w _ (h.cell 0 (List.length_pos_iff.2 hx))
theorem Cs.below {k : IntKind} {w w' : World} {ao : Option Addr} {b off : Nat} {xs : List Nat} (h : Cs k w ao b off xs) {B : Nat} (hb : Below B w w') (hB : w.heap.size ≤ B) : Cs k w' ao b off xs :=
 ⟨h.ao, fun j hj => by rw [hb.cell (by have := World.block_lt_of_cell? w _ (h.cell j hj); simp at this ⊢; omega)]; exact h.cell j hj⟩
theorem Sl.below {k : IntKind} {w w' : World} {v : Value} {xs : List Nat} (h : Sl k w v xs) {B : Nat} (hb : Below B w w') (hB : w.heap.size ≤ B) : Sl k w' v xs := by
 obtain ⟨ao, b, off, cap, e, hc, hcs⟩ := h
 exact ⟨ao, b, off, cap, e, hc, hcs.below hb hB⟩
theorem Sl.next {k : IntKind} {w w' : World} {v : Value} {xs : List Nat} (h : Sl k w v xs) (hb : Below w.heap.size w w') : Sl k w' v xs := h.below hb (Nat.le_refl _)
theorem Sl.nil (k : IntKind) (w : World) : Sl k w (.slice none 0 0) [] := ⟨none, 0, 0, 0, rfl, Nat.le_refl _, fun h => absurd rfl h, fun j hj => by simp at hj⟩
def Drawn (w w' : World) : Prop := ∃ n, w' = w.drewN n
theorem Drawn.refl (w : World) : Drawn w w := ⟨0, rfl⟩
theorem Drawn.add {w w' : World} (h : Drawn w w') (n : Nat) : Drawn w (w'.drewN n) := by
 obtain ⟨m, rfl⟩ := h; exact ⟨m + n, by rw [World.drewN_drewN]⟩
theorem Drawn.below {w w' : World} (h : Drawn w w') (B : Nat) : Below B w w' := by
 obtain ⟨n, rfl⟩ := h; exact below_drewN (Below.refl _ _) n
theorem dw (w : World) : Below w.heap.size w w.drew := Drawn.below (w' := w.drew) ⟨1, rfl⟩ w.heap.size
theorem Cs.drawn {k : IntKind} {w w' : World} {ao : Option Addr} {b off : Nat} {xs : List Nat} (h : Cs k w ao b off xs) (hq : Drawn w w') : Cs k w' ao b off xs :=
 h.below (hq.below w.heap.size) (Nat.le_refl _)
def RetQ (w : World) (v : Value) (e : Ending) (w' : World) : Prop := e = .returned v ∧ Drawn w w'
def Own (k : IntKind) (e : TypeId) (w : World) (base : Nat) (v : Value) (xs : List Nat) : Prop := w.ownsRow base e 1 v xs.length (vs k xs)
theorem Own.nil (k : IntKind) (e : TypeId) (w : World) (base : Nat) : Own k e w base (.slice none 0 0) [] := World.ownsRow_nil _ _ _ _
theorem Own.mono {k : IntKind} {e : TypeId} {w : World} {base base' : Nat} {v : Value} {xs : List Nat} (h : Own k e w base v xs) (hb : base' ≤ base) : Own k e w base' v xs := by
 refine ⟨h.1, ?_⟩
 rcases h.2 with h | ⟨g, cap, cur, a, b, c⟩
 ·exact .inl h
 ·exact .inr ⟨g, cap, cur, a, Nat.le_trans hb b, c⟩
theorem Own.shape {k : IntKind} {e : TypeId} {w : World} {base : Nat} {v : Value} {xs : List Nat} (h : Own k e w base v xs) :
  (v = .slice none 0 0 ∧ xs = []) ∨ ∃ g cap, v = .slice (some ⟨g, 0, none⟩) xs.length cap ∧ base ≤ g ∧ g < w.heap.size ∧ xs.length ≤ cap ∧ cap ≤ maxLen := by
 rcases h.2 with ⟨a, b⟩ | ⟨g, cap, cur, rfl, hb, hg, hn, hm, _⟩
 ·exact .inl ⟨a, List.length_eq_zero_iff.1 b⟩
 ·exact .inr ⟨g, cap, rfl, hb, (Array.getElem?_eq_some_iff.1 hg).1, hn, hm⟩
theorem Own.sl {k : IntKind} {e : TypeId} {w : World} {base : Nat} {v : Value} {xs : List Nat} (h : Own k e w base v xs) : Sl k w v xs := by
 rcases h.shape with ⟨rfl, rfl⟩ | ⟨g, cap, rfl, _, _, hn, _⟩
 ·exact Sl.nil _ _
 ·refine ⟨_, g, 0, cap, rfl, hn, fun _ => rfl, fun j hj => ?_⟩
  have := World.ownsRow.cellAt h j (by simpa using hj)
  rw [Nat.zero_add, this, vs_get k xs j hj]
theorem Own.below {k : IntKind} {e : TypeId} {w w' : World} {base : Nat} {v : Value} {xs : List Nat} (h : Own k e w base v xs) {B : Nat} (hb : Below B w w') (hB : w.heap.size ≤ B) : Own k e w' base v xs := by
 refine ⟨h.1, ?_⟩
 rcases h.2 with h | ⟨g, cap, cur, a, b, c, d⟩
 ·exact .inl h
 ·refine .inr ⟨g, cap, cur, a, b, ?_, d⟩
  rw [hb.block g (by have := (Array.getElem?_eq_some_iff.1 c).1; omega)]; exact c
theorem Own.next {k : IntKind} {e : TypeId} {w w' : World} {base : Nat} {v : Value} {xs : List Nat} (h : Own k e w base v xs) (hb : Below w.heap.size w w') : Own k e w' base v xs := h.below hb (Nat.le_refl _)
theorem Own.store {k : IntKind} {e : TypeId} {w : World} {base g cap n : Nat} {xs : List Nat} (h : Own k e w base (.slice (some ⟨g, 0, none⟩) n cap) xs) (j x : Nat) :
  Own k e (w.setCell ⟨g, j, none⟩ (.int k (x : Int))) base (.slice (some ⟨g, 0, none⟩) n cap) (xs.set j x) ∧ w.grownBy (w.setCell ⟨g, j, none⟩ (.int k (x : Int))) (some g) := by
 have hn : n = xs.length := by
  rcases h.shape with ⟨h, _⟩ | ⟨g', cap', h, _⟩ <;> simp at h
  exact h.2.1
 subst hn
 have := World.ownsRow.stored h j (.int k (x : Int))
 rw [vs_set] at this
 refine ⟨?_, this.2⟩
 unfold Own; rw [List.length_set]; exact this.1
theorem Own.cellAt {k : IntKind} {e : TypeId} {w : World} {base g cap n : Nat} {xs : List Nat} (h : Own k e w base (.slice (some ⟨g, 0, none⟩) n cap) xs) (j : Nat) (hj : j < xs.length) :
  w.cell? ⟨g, j, none⟩ = some (.int k (xs.getD j 0 : Nat)) := by
 have hn : n = xs.length := by
  rcases h.shape with ⟨h, _⟩ | ⟨g', cap', h, _⟩ <;> simp at h
  exact h.2.1
 subst hn
 rw [World.ownsRow.cellAt h j (by simpa using hj), vs_get k xs j hj]
theorem Own.frozenAt {k : IntKind} {e : TypeId} {w : World} {base g cap n : Nat} {xs : List Nat} (h : Own k e w base (.slice (some ⟨g, 0, none⟩) n cap) xs) (j : Nat) :
  w.frozen? ⟨g, j, none⟩ = false := by
 have hn : n = xs.length := by
  rcases h.shape with ⟨h, _⟩ | ⟨g', cap', h, _⟩ <;> simp at h
  exact h.2.1
 subst hn
 exact World.ownsRow.frozenAt h j
theorem Own.take {k : IntKind} {e : TypeId} {w : World} {base g cap n : Nat} {xs : List Nat} (h : Own k e w base (.slice (some ⟨g, 0, none⟩) n cap) xs) (m : Nat) (hm : m ≤ xs.length) :
  Own k e w base (.slice (some ⟨g, 0, none⟩) m cap) (xs.take m) := by
 have hl : (xs.take m).length = m := by simp; omega
 refine ⟨by simp [vs], ?_⟩
 rcases h.2 with ⟨h, _⟩ | ⟨g', cap', cur, h0, h1, h2, h3, h4, h5, h6⟩
 ·simp at h
 ·simp only [Value.slice.injEq, Option.some.injEq, Addr.mk.injEq] at h0
  obtain ⟨⟨rfl, -⟩, rfl, rfl⟩ := h0
  refine .inr ⟨g, cap, cur, by rw [hl], h1, h2, by omega, h4, h5, ?_⟩
  rw [hl, ← vs_take, ← h6, List.take_take]; congr 1; omega
theorem Own.take' {k : IntKind} {e : TypeId} {w : World} {base cap n : Nat} {ao : Option Addr} {xs : List Nat} (h : Own k e w base (.slice ao n cap) xs) (m : Nat) (hm : m ≤ xs.length) :
  Own k e w base (.slice ao m cap) (xs.take m) := by
 rcases h.shape with ⟨h1, rfl⟩ | ⟨g, c, h1, _⟩
 ·simp at h1; obtain ⟨rfl, rfl, rfl⟩ := h1
  simp at hm; subst hm; exact Own.nil _ _ _ _
 ·simp only [Value.slice.injEq] at h1
  obtain ⟨rfl, rfl, rfl⟩ := h1
  exact h.take m hm
theorem Own.cs {k : IntKind} {e : TypeId} {w : World} {base g cap n : Nat} {xs : List Nat} (h : Own k e w base (.slice (some ⟨g, 0, none⟩) n cap) xs) : Cs k w (some ⟨g, 0, none⟩) g 0 xs :=
 ⟨fun _ => rfl, fun j hj => by rw [Nat.zero_add]; exact h.cellAt j hj⟩
theorem Own.drawn {k : IntKind} {e : TypeId} {w w' : World} {base : Nat} {v : Value} {xs : List Nat} (h : Own k e w base v xs) (hq : Drawn w w') : Own k e w' base v xs :=
 h.below (hq.below w.heap.size) (Nat.le_refl _)
theorem Sl.drawn {k : IntKind} {w w' : World} {v : Value} {xs : List Nat} (h : Sl k w v xs) (hq : Drawn w w') : Sl k w' v xs :=
 h.below (hq.below w.heap.size) (Nat.le_refl _)
theorem below_grown {w w' : World} {base : Nat} {v : Value} (hg : w.grownBy w' v.ownBlock) (hb : base ≤ w.heap.size) (hv : ∀ k, v.ownBlock = some k → base ≤ k) : Below base w w' :=
 (Below.refl base w).grown hg hb hv
theorem Own.block_ge {k : IntKind} {e : TypeId} {w : World} {base : Nat} {v : Value} {xs : List Nat} (h : Own k e w base v xs) : ∀ j, v.ownBlock = some j → base ≤ j := fun j hj => (World.ownsRow.lt h j hj).1
theorem wp_app1 {P : Program} {ops : Array Oper} {rest : List Oper} {o : Oper} {a : Act} {Q : Exit → Act → World → Prop} (k : IntKind) (T e bytes : Nat)
  (hu : P.underlying T = some (.slice e)) (hi : (P.info? e).map (fun i => (i.zero, i.size, i.bytes)) = some (some (.int k 0), 1, bytes)) (hby : bytes ≤ 8)
  (hgd : o.guard = none) (s x : Operand) (ho : o.op = .call { callee := .builtin .append, args := #[s, x], argTypes := #[T, T] })
  (w : World) (base : Nat) (v : Value) (xs : List Nat) (y : Nat) (yv : Int) (hy : yv = y) (hown : Own k e w base v xs) (hlen : xs.length ≤ 10000000000000) (hbase : base ≤ w.heap.size)
  (hs : a.eval s = v) (hx : a.eval x = .slice (some ⟨w.heap.size, 0, none⟩) 1 1)
  (h : ∀ (v' : Value) (w' : World), Own k e w' base v' (xs ++ [y]) → Below base w w' → w.grownBy w' v.ownBlock → (v' = .slice none 0 0 → False) → wpList P ops Q rest (a.put o.dst v') w') :
  wpList P ops Q (o :: rest) a (w.alloc (.cells #[.int k yv] e)) := by
 subst hy
 obtain ⟨i0, h1, h2, h3, h4⟩ := info_parts hi
 refine wpList_append_own _ hgd s x T ho base e i0 (.int k 0) 1 bytes hu h1 h2 h3 h4 rfl (by decide) v xs.length (vs k xs) hs (World.ownsRow.alloc hown _) ⟨w.heap.size, 0, none⟩ 1 1 (vs k [y]) hx rfl ?_ ?_ ?_ ?_ ?_ ?_
 ·intro j u hj
  match j, hj with
  | 0, hj => simp [vs] at hj; subst hj; simp [Addr.add]
 ·intro u hu; simp [vs] at hu; subst hu; rfl
 ·unfold maxLen; omega
 ·have : (xs.length + 1) * bytes ≤ (xs.length + 1) * 8 := Nat.mul_le_mul_left _ hby
  omega
 ·simp; omega
 ·intro v' w' h1 h2 h3
  have hg : w.grownBy w' v.ownBlock := by
   have e0 := World.grownBy_alloc w (.cells #[.int k (y : Int)] e) v.ownBlock
   exact ⟨h2.os.trans e0.os, h2.tape.trans e0.tape, h2.output.trans e0.output, Nat.le_trans e0.size h2.size, fun i hi hne => (h2.block i (Nat.lt_of_lt_of_le hi e0.size) hne).trans (e0.block i hi hne)⟩
  refine h v' w' ?_ (below_grown hg hbase hown.block_ge) hg (fun e0 => by have := h3.1 e0; omega)
  unfold Own; rw [vs_append, List.length_append]; exact h1
theorem wp_make {P : Program} {ops : Array Oper} {rest : List Oper} {o : Oper} {a : Act} {Q : Exit → Act → World → Prop} (k : IntKind) (T e bytes : Nat)
  (hu : P.underlying T = some (.slice e)) (hi : (P.info? e).map (fun i => (i.zero, i.size, i.bytes)) = some (some (.int k 0), 1, bytes)) (hby : bytes ≤ 8)
  (hgd : o.guard = none) (l c : Operand) (ho : o.op = .makeSlice T l c) (kl kc : IntKind) (n : Nat) (hn : n ≤ 10000000000000)
  (w : World) (L C : Int) (hl : a.eval l = .int kl L) (hc : a.eval c = .int kc C) (hL : L = n) (hC : C = n)
  (h : ∀ (w' : World), Own k e w' w.heap.size (.slice (some ⟨w.heap.size, 0, none⟩) n n) (List.replicate n 0) → Below w.heap.size w w' → w.heap.size < w'.heap.size → wpList P ops Q rest (a.put o.dst (.slice (some ⟨w.heap.size, 0, none⟩) n n)) w') :
  wpList P ops Q (o :: rest) a w := by
 obtain ⟨i0, h1, h2, h3, h4⟩ := info_parts hi
 subst h4
 refine wpList_make_full w hgd l c T ho w.heap.size e i0 (.int k 0) 1 hu h1 h2 h3 kl kc L C n hl hc hL hC ?_ ?_ (Nat.le_refl _) ?_
 ·have : i0.bytes * n ≤ 8 * n := Nat.mul_le_mul_right _ hby
  omega
 ·unfold maxLen; omega
 ·intro w' h5 h6
  refine h w' ?_ ((Below.refl _ w).grown h6 (Nat.le_refl _) (fun k hk => by simp at hk)) ?_
  ·unfold Own
   rw [List.length_replicate, vs_replicate]
   simpa [Value.cells, toList_madeCells_one] using h5
  ·rcases h5.2 with ⟨h, _⟩ | ⟨g, cap, cur, hv, _, hg, _⟩
   ·simp at h
   ·simp only [Value.slice.injEq, Option.some.injEq, Addr.mk.injEq] at hv
    obtain ⟨⟨rfl, -⟩, -⟩ := hv
    exact (Array.getElem?_eq_some_iff.1 hg).1
end Go.Proofs.Ytkmfhabgempjiaa
/- What comes in, opened: a slice of words reads as a list of numbers. -/
namespace Go.Proofs.Ytkmfhabgempjiaa
open Go.ChangeShapes Go.WideShapes Go.ChangeAt Go.RowKit
theorem wf_u64_bounds {n : Int} (h : (Lit.int .u64 n).wf = true) : 0 ≤ n ∧ n < 18446744073709551616 := by
 simp only [Lit.wf, Bool.and_eq_true, decide_eq_true_eq] at h
 have h1 : IntKind.u64.min = 0 := rfl
 have h2 : IntKind.u64.max = 18446744073709551615 := rfl
 rw [h1, h2] at h; omega
theorem wf_u8_bounds {n : Int} (h : (Lit.int .u8 n).wf = true) : 0 ≤ n ∧ n < 256 := by
 simp only [Lit.wf, Bool.and_eq_true, decide_eq_true_eq] at h
 have h1 : IntKind.u8.min = 0 := rfl
 have h2 : IntKind.u8.max = 255 := rfl
 rw [h1, h2] at h; omega
end Go.Proofs.Ytkmfhabgempjiaa
/- Plain algebra: commutative rings, identities by computing, sums. -/
namespace Go.Proofs.Ytkmfhabgempjiaa
class CR (R : Type) extends Add R, Mul R, Neg R, Sub R, Zero R, One R where
 add_assoc : ∀ a b c : R, a + b + c = a + (b + c)
 add_comm : ∀ a b : R, a + b = b + a
 zero_add : ∀ a : R, 0 + a = a
 neg_add : ∀ a : R, -a + a = 0
 sub_eq : ∀ a b : R, a - b = a + -b
 mul_assoc : ∀ a b c : R, a * b * c = a * (b * c)
 mul_comm : ∀ a b : R, a * b = b * a
 one_mul : ∀ a : R, 1 * a = a
 mul_add : ∀ a b c : R, a * (b + c) = a * b + a * c
namespace CR
variable {R : Type} [CR R]
theorem add_zero (a : R) : a + 0 = a := by rw [add_comm, zero_add]
theorem add_neg (a : R) : a + -a = 0 := by rw [add_comm, neg_add]
theorem mul_one (a : R) : a * 1 = a := by rw [mul_comm, one_mul]
theorem add_mul (a b c : R) : (a + b) * c = a * c + b * c := by rw [mul_comm, mul_add, mul_comm c, mul_comm c]
theorem add_left_cancel {a b c : R} (h : a + b = a + c) : b = c := by
 have h1 : -a + (a + b) = -a + (a + c) := by rw [h]
 rwa [← add_assoc, ← add_assoc, neg_add, zero_add, zero_add] at h1
theorem mul_zero (a : R) : a * 0 = 0 := by
 apply add_left_cancel (a := a * 0)
 rw [← mul_add, zero_add, add_zero]
theorem zero_mul (a : R) : 0 * a = 0 := by rw [mul_comm, mul_zero]
theorem neg_unique {a b : R} (h : a + b = 0) : b = -a := by
 apply add_left_cancel (a := a); rw [h, add_neg]
theorem neg_neg (a : R) : - -a = a := (neg_unique (neg_add a)).symm
theorem neg_mul (a b : R) : -a * b = -(a * b) := by
 apply neg_unique; rw [← add_mul, add_neg, zero_mul]
theorem mul_neg (a b : R) : a * -b = -(a * b) := by rw [mul_comm, neg_mul, mul_comm]
theorem neg_zero : -(0 : R) = 0 := (neg_unique (zero_add 0)).symm
theorem neg_distrib (a b : R) : -(a + b) = -a + -b := by
 symm; apply neg_unique
 rw [add_assoc, ← add_assoc b, add_comm b, add_assoc (-a), add_neg, add_zero, add_neg]
theorem sub_self (a : R) : a - a = 0 := by rw [sub_eq, add_neg]
theorem sub_zero (a : R) : a - 0 = a := by rw [sub_eq, neg_zero, add_zero]
theorem zero_sub (a : R) : 0 - a = -a := by rw [sub_eq, zero_add]
theorem add_sub_cancel (a b : R) : a + b - b = a := by rw [sub_eq, add_assoc, add_neg, add_zero]
theorem sub_add_cancel (a b : R) : a - b + b = a := by rw [sub_eq, add_assoc, neg_add, add_zero]
theorem add_left_comm (a b c : R) : a + (b + c) = b + (a + c) := by rw [← add_assoc, add_comm a, add_assoc]
theorem mul_left_comm (a b c : R) : a * (b * c) = b * (a * c) := by rw [← mul_assoc, mul_comm a, mul_assoc]
theorem sub_eq_zero {a b : R} (h : a - b = 0) : a = b := by
 have := sub_add_cancel a b
 rw [h, zero_add] at this; exact this.symm
end CR
inductive RE where
 | v (i : Nat) | zero | one | add (a b : RE) | mul (a b : RE) | neg (a : RE) | sub (a b : RE)
instance : Add RE := ⟨.add⟩
instance : Mul RE := ⟨.mul⟩
instance : Neg RE := ⟨.neg⟩
instance : Sub RE := ⟨.sub⟩
instance : Zero RE := ⟨.zero⟩
instance : One RE := ⟨.one⟩
def RE.den {R : Type} [CR R] (r : List R) : RE → R
 | .v i => r.getD i 0
 | .zero => 0
 | .one => 1
 | .add a b => a.den r + b.den r
 | .mul a b => a.den r * b.den r
 | .neg a => -a.den r
 | .sub a b => a.den r - b.den r
def insV (i : Nat) : List Nat → List Nat
 | [] => [i]
 | j :: l => if i ≤ j then i :: j :: l else j :: insV i l
def leM : List Nat → List Nat → Bool
 | [], _ => true
 | _ :: _, [] => false
 | a :: l, b :: m => if a < b then true else if b < a then false else leM l m
def insT (s : Bool) (t : List Nat) : List (Bool × List Nat) → List (Bool × List Nat)
 | [] => [(s, t)]
 | u :: us => if t = u.2 then (if s = u.1 then (s, t) :: u :: us else us) else if leM t u.2 then (s, t) :: u :: us else u :: insT s t us
def RE.nf : RE → List (Bool × List Nat)
 | .v i => [(true, [i])]
 | .zero => []
 | .one => [(true, [])]
 | .add a b => a.nf.foldr (fun t acc => insT t.1 t.2 acc) b.nf
 | .sub a b => a.nf.foldr (fun t acc => insT t.1 t.2 acc) (b.nf.map fun t => (!t.1, t.2))
 | .neg a => a.nf.map fun t => (!t.1, t.2)
 | .mul a b => a.nf.foldr (fun t acc => b.nf.foldr (fun u acc => insT (t.1 == u.1) (t.2.foldr insV u.2) acc) acc) []
section
variable {R : Type} [CR R] (r : List R)
open CR
def denM : List Nat → R
 | [] => 1
 | i :: l => r.getD i 0 * denM l
def denT (t : Bool × List Nat) : R := if t.1 then denM r t.2 else -denM r t.2
def denS : List (Bool × List Nat) → R
 | [] => 0
 | t :: ts => denT r t + denS ts
theorem denM_insV (i : Nat) : ∀ l, denM r (insV i l) = r.getD i 0 * denM r l
 | [] => rfl
 | j :: l => by
  unfold insV; split
  ·rfl
  ·simp only [denM]; rw [denM_insV i l, mul_left_comm]
theorem denM_foldr (m : List Nat) : ∀ l, denM r (l.foldr insV m) = denM r l * denM r m
 | [] => by simp only [List.foldr, denM]; rw [one_mul]
 | i :: l => by simp only [List.foldr, denM]; rw [denM_insV, denM_foldr m l, mul_assoc]
theorem denS_insT (s : Bool) (t : List Nat) : ∀ us, denS r (insT s t us) = denT r (s, t) + denS r us
 | [] => rfl
 | u :: us => by
  unfold insT; split
  ·rename_i h
   split
   ·rfl
   ·rename_i h2
    simp only [denS]
    have e : denT r (s, t) + denT r u = 0 := by
     unfold denT; rw [← h]
     cases s <;> cases hu : u.1 <;> simp_all [neg_add, add_neg]
    rw [← add_assoc, e, zero_add]
  ·split
   ·rfl
   ·simp only [denS]; rw [denS_insT s t us, add_left_comm]
theorem denS_add (us : List (Bool × List Nat)) : ∀ ts, denS r (ts.foldr (fun t acc => insT t.1 t.2 acc) us) = denS r ts + denS r us
 | [] => by simp only [List.foldr, denS]; rw [zero_add]
 | t :: ts => by simp only [List.foldr, denS]; rw [denS_insT, denS_add us ts, add_assoc]
theorem denT_not (t : Bool × List Nat) : denT r (!t.1, t.2) = -denT r t := by
 unfold denT; cases t.1 <;> simp [neg_neg]
theorem denS_neg : ∀ ts, denS r (ts.map fun t => (!t.1, t.2)) = -denS r ts
 | [] => by simp only [List.map, denS]; rw [neg_zero]
 | t :: ts => by simp only [List.map, denS]; rw [denS_neg ts, denT_not, neg_distrib]
theorem denT_mul (t u : Bool × List Nat) : denT r (t.1 == u.1, t.2.foldr insV u.2) = denT r t * denT r u := by
 unfold denT; rw [denM_foldr]
 cases t.1 <;> cases u.1 <;> simp [neg_mul, mul_neg, neg_neg]
theorem denS_mul1 (t : Bool × List Nat) (us : List (Bool × List Nat)) : ∀ ts, denS r (ts.foldr (fun u acc => insT (t.1 == u.1) (t.2.foldr insV u.2) acc) us) = denT r t * denS r ts + denS r us
 | [] => by simp only [List.foldr, denS]; rw [mul_zero, zero_add]
 | u :: ts => by simp only [List.foldr, denS]; rw [denS_insT, denS_mul1 t us ts, denT_mul, mul_add, add_assoc]
theorem denS_mul (us : List (Bool × List Nat)) : ∀ ts, denS r (ts.foldr (fun t acc => us.foldr (fun u acc => insT (t.1 == u.1) (t.2.foldr insV u.2) acc) acc) []) = denS r ts * denS r us
 | [] => by simp only [List.foldr, denS]; rw [zero_mul]
 | t :: ts => by simp only [List.foldr, denS]; rw [denS_mul1, denS_mul us ts, add_mul]
theorem den_nf : ∀ e : RE, e.den r = denS r e.nf
 | .v i => by simp only [RE.den, RE.nf, denS, denT, denM, if_true]; rw [mul_one, add_zero]
 | .zero => rfl
 | .one => by simp only [RE.den, RE.nf, denS, denT, denM, if_true]; rw [add_zero]
 | .add a b => by simp only [RE.den, RE.nf]; rw [denS_add, den_nf a, den_nf b]
 | .mul a b => by simp only [RE.den, RE.nf]; rw [denS_mul, den_nf a, den_nf b]
 | .neg a => by simp only [RE.den, RE.nf]; rw [denS_neg, den_nf a]
 | .sub a b => by simp only [RE.den, RE.nf]; rw [denS_add, denS_neg, den_nf a, den_nf b, sub_eq]
theorem by_ring (a b : RE) (h : a.nf = b.nf) : a.den r = b.den r := by rw [den_nf, den_nf, h]
end
abbrev X0 : RE := .v 0
abbrev X1 : RE := .v 1
abbrev X2 : RE := .v 2
abbrev X3 : RE := .v 3
abbrev X4 : RE := .v 4
abbrev X5 : RE := .v 5
abbrev X6 : RE := .v 6
def sm {R : Type} [CR R] : Nat → (Nat → R) → R
 | 0, _ => 0
 | n + 1, f => sm n f + f n
section
variable {R : Type} [CR R]
open CR
theorem sm_congr {n : Nat} {f g : Nat → R} (h : ∀ i, i < n → f i = g i) : sm n f = sm n g := by
 induction n with
 | zero => rfl
 | succ n ih => simp only [sm]; rw [ih (fun i hi => h i (by omega)), h n (by omega)]
theorem sm_zero (n : Nat) : sm n (fun _ => (0 : R)) = 0 := by
 induction n with
 | zero => rfl
 | succ n ih => simp only [sm]; rw [ih, zero_add]
theorem sm_zero' {n : Nat} {f : Nat → R} (h : ∀ i, i < n → f i = 0) : sm n f = 0 := by
 rw [sm_congr h, sm_zero]
theorem sm_add (n : Nat) (f g : Nat → R) : sm n (fun i => f i + g i) = sm n f + sm n g := by
 induction n with
 | zero => simp only [sm]; rw [zero_add]
 | succ n ih => simp only [sm]; rw [ih]; exact by_ring [sm n f, sm n g, f n, g n] (X0 + X1 + (X2 + X3)) (X0 + X2 + (X1 + X3)) rfl
theorem sm_mul (n : Nat) (c : R) (f : Nat → R) : sm n (fun i => c * f i) = c * sm n f := by
 induction n with
 | zero => simp only [sm]; rw [mul_zero]
 | succ n ih => simp only [sm]; rw [ih, mul_add]
theorem sm_neg (n : Nat) (f : Nat → R) : sm n (fun i => -f i) = -sm n f := by
 induction n with
 | zero => simp only [sm]; rw [neg_zero]
 | succ n ih => simp only [sm]; rw [ih, neg_distrib]
theorem sm_swap (n m : Nat) (f : Nat → Nat → R) : sm n (fun i => sm m (f i)) = sm m (fun j => sm n (fun i => f i j)) := by
 induction n with
 | zero => simp only [sm]; rw [sm_zero]
 | succ n ih => simp only [sm]; rw [ih, sm_add]
theorem sm_split (n m : Nat) (f : Nat → R) : sm (n + m) f = sm n f + sm m (fun i => f (n + i)) := by
 induction m with
 | zero => simp only [sm, Nat.add_zero]; rw [add_zero]
 | succ m ih => rw [← Nat.add_assoc]; simp only [sm]; rw [ih, add_assoc]
theorem sm_head (n : Nat) (f : Nat → R) : sm (n + 1) f = f 0 + sm n (fun i => f (i + 1)) := by
 rw [Nat.add_comm, sm_split]; simp only [sm]; rw [zero_add]
 congr 1; exact sm_congr fun i _ => by rw [Nat.add_comm]
theorem sm_one {n k : Nat} {f : Nat → R} (hk : k < n) (h : ∀ i, i < n → i ≠ k → f i = 0) : sm n f = f k := by
 induction n with
 | zero => omega
 | succ n ih =>
  simp only [sm]
  by_cases e : k = n
  ·subst e; rw [sm_zero' (fun i hi => h i (by omega) (by omega)), zero_add]
  ·rw [ih (by omega) (fun i hi => h i (by omega)), h n (by omega) (by omega), add_zero]
theorem sm_rev (n : Nat) (f : Nat → R) : sm n (fun i => f (n - 1 - i)) = sm n f := by
 induction n with
 | zero => rfl
 | succ n ih =>
  rw [sm_head]
  simp only [sm]
  rw [add_comm]
  congr 1
  rw [← ih]; exact sm_congr fun i hi => by congr 1; omega
end
end Go.Proofs.Ytkmfhabgempjiaa
/- Plain algebra: polynomials over a commutative ring. -/
namespace Go.Proofs.Ytkmfhabgempjiaa
open CR
structure Pol (R : Type) [CR R] where
 c : Nat → R
 fin : ∃ n, ∀ i, n ≤ i → c i = 0
section
variable {R : Type} [CR R]
theorem Pol.ext {f g : Pol R} (h : ∀ i, f.c i = g.c i) : f = g := by
 obtain ⟨c, hf⟩ := f; obtain ⟨d, hg⟩ := g
 obtain rfl : c = d := funext h
 rfl
def Pol.zero : Pol R := ⟨fun _ => 0, 0, fun _ _ => rfl⟩
def mon (a : R) (k : Nat) : Pol R := ⟨fun i => if i = k then a else 0, k + 1, fun i h => if_neg (by omega)⟩
def Pol.add (f g : Pol R) : Pol R := ⟨fun i => f.c i + g.c i, by
 obtain ⟨n, hn⟩ := f.fin; obtain ⟨m, hm⟩ := g.fin
 exact ⟨n + m, fun i h => by rw [hn i (by omega), hm i (by omega), zero_add]⟩⟩
def Pol.neg (f : Pol R) : Pol R := ⟨fun i => -f.c i, by
 obtain ⟨n, hn⟩ := f.fin
 exact ⟨n, fun i h => by rw [hn i h, neg_zero]⟩⟩
def Pol.mul (f g : Pol R) : Pol R := ⟨fun n => sm (n + 1) (fun i => f.c i * g.c (n - i)), by
 obtain ⟨n, hn⟩ := f.fin; obtain ⟨m, hm⟩ := g.fin
 refine ⟨n + m, fun k hk => sm_zero' fun i hi => ?_⟩
 by_cases h : n ≤ i
 ·rw [hn i h, zero_mul]
 ·rw [hm (k - i) (by omega), mul_zero]⟩
instance : Zero (Pol R) := ⟨Pol.zero⟩
instance : One (Pol R) := ⟨mon 1 0⟩
instance : Add (Pol R) := ⟨Pol.add⟩
instance : Neg (Pol R) := ⟨Pol.neg⟩
instance : Mul (Pol R) := ⟨Pol.mul⟩
instance : Sub (Pol R) := ⟨fun f g => f + -g⟩
theorem Pol.c_zero (i : Nat) : (0 : Pol R).c i = 0 := rfl
theorem Pol.c_add (f g : Pol R) (i : Nat) : (f + g).c i = f.c i + g.c i := rfl
theorem Pol.c_neg (f : Pol R) (i : Nat) : (-f).c i = -f.c i := rfl
theorem Pol.c_sub (f g : Pol R) (i : Nat) : (f - g).c i = f.c i - g.c i := by rw [sub_eq]; rfl
theorem Pol.c_mul (f g : Pol R) (n : Nat) : (f * g).c n = sm (n + 1) (fun i => f.c i * g.c (n - i)) := rfl
theorem c_mon (a : R) (k i : Nat) : (mon a k).c i = if i = k then a else 0 := rfl
theorem Pol.one_def : (1 : Pol R) = mon 1 0 := rfl
theorem Pol.add_assoc' (f g h : Pol R) : f + g + h = f + (g + h) := Pol.ext fun i => by simp only [Pol.c_add]; rw [add_assoc]
theorem Pol.add_comm' (f g : Pol R) : f + g = g + f := Pol.ext fun i => by simp only [Pol.c_add]; rw [add_comm]
theorem Pol.zero_add' (f : Pol R) : 0 + f = f := Pol.ext fun i => by rw [Pol.c_add, Pol.c_zero, zero_add]
theorem Pol.mul_add' (f g h : Pol R) : f * (g + h) = f * g + f * h := Pol.ext fun n => by
 rw [Pol.c_add]; simp only [Pol.c_mul]; rw [← sm_add]; exact sm_congr fun i _ => by rw [Pol.c_add, mul_add]
theorem Pol.mul_comm' (f g : Pol R) : f * g = g * f := Pol.ext fun n => by
 simp only [Pol.c_mul]
 rw [← sm_rev (n + 1) (fun i => f.c i * g.c (n - i))]
 exact sm_congr fun i hi => by
  show f.c (n + 1 - 1 - i) * g.c (n - (n + 1 - 1 - i)) = _
  rw [show n - (n + 1 - 1 - i) = i by omega, show n + 1 - 1 - i = n - i by omega, mul_comm]
theorem Pol.add_mul' (f g h : Pol R) : (f + g) * h = f * h + g * h := by rw [Pol.mul_comm', Pol.mul_add', Pol.mul_comm' h, Pol.mul_comm' h]
theorem Pol.mul_zero' (f : Pol R) : f * 0 = 0 := Pol.ext fun n => by
 rw [Pol.c_mul, Pol.c_zero]; exact sm_zero' fun i _ => by rw [Pol.c_zero, mul_zero]
theorem Pol.zero_mul' (f : Pol R) : 0 * f = 0 := by rw [Pol.mul_comm', Pol.mul_zero']
theorem mon_mul (a b : R) (k l : Nat) : mon a k * mon b l = mon (a * b) (k + l) := Pol.ext fun n => by
 rw [Pol.c_mul]
 simp only [c_mon]
 by_cases h : n = k + l
 ·rw [if_pos h, sm_one (k := k) (by omega) (fun i _ hi => by rw [if_neg hi, zero_mul]), if_pos rfl, if_pos (by omega)]
 ·rw [if_neg h]
  refine sm_zero' fun i hi => ?_
  by_cases h1 : i = k
  ·rw [if_neg (show ¬ n - i = l by omega), mul_zero]
  ·rw [if_neg h1, zero_mul]
theorem mon_add (a b : R) (k : Nat) : mon (a + b) k = mon a k + mon b k := Pol.ext fun i => by
 rw [Pol.c_add]; simp only [c_mon]; split
 ·rfl
 ·rw [zero_add]
theorem mon_zero (k : Nat) : mon (0 : R) k = 0 := Pol.ext fun i => by rw [c_mon, Pol.c_zero]; split <;> rfl
theorem mon_neg (a : R) (k : Nat) : mon (-a) k = -mon a k := Pol.ext fun i => by
 rw [Pol.c_neg]; simp only [c_mon]; split
 ·rfl
 ·rw [neg_zero]
theorem Pol.ind (P : Pol R → Prop) (h0 : P 0) (hm : ∀ a k, P (mon a k)) (ha : ∀ f g, P f → P g → P (f + g)) (f : Pol R) : P f := by
 obtain ⟨n, hn⟩ := f.fin
 have key : ∀ (n : Nat) (f : Pol R), (∀ i, n ≤ i → f.c i = 0) → P f := by
  intro n
  induction n with
  | zero => intro f h; rw [show f = 0 from Pol.ext fun i => h i (by omega)]; exact h0
  | succ n ih =>
   intro f h
   have e : f = (f + -mon (f.c n) n) + mon (f.c n) n := Pol.ext fun i => by
    simp only [Pol.c_add, Pol.c_neg]; rw [add_assoc, neg_add, add_zero]
   rw [e]
   refine ha _ _ (ih _ fun i hi => ?_) (hm _ _)
   rw [Pol.c_add, Pol.c_neg, c_mon]
   by_cases h2 : i = n
   ·subst h2; rw [if_pos rfl, add_neg]
   ·rw [if_neg h2, h i (by omega), neg_zero, zero_add]
 exact key n f hn
theorem Pol.mul_assoc' (f g h : Pol R) : f * g * h = f * (g * h) := by
 refine Pol.ind (fun f => f * g * h = f * (g * h)) ?_ ?_ ?_ f
 ·simp only [Pol.zero_mul']
 ·intro a k
  refine Pol.ind (fun g => mon a k * g * h = mon a k * (g * h)) ?_ ?_ ?_ g
  ·simp only [Pol.zero_mul', Pol.mul_zero']
  ·intro b l
   refine Pol.ind (fun h => mon a k * mon b l * h = mon a k * (mon b l * h)) ?_ ?_ ?_ h
   ·simp only [Pol.mul_zero']
   ·intro c m; simp only [mon_mul]; rw [mul_assoc, Nat.add_assoc]
   ·intro f g h1 h2; simp only [Pol.mul_add']; rw [h1, h2]
  ·intro f g h1 h2; simp only [Pol.mul_add', Pol.add_mul']; rw [h1, h2]
 ·intro f g h1 h2; simp only [Pol.add_mul']; rw [h1, h2]
theorem Pol.one_mul' (f : Pol R) : 1 * f = f := by
 refine Pol.ind (fun f => 1 * f = f) (Pol.mul_zero' _) ?_ ?_ f
 ·intro a k; rw [Pol.one_def, mon_mul, one_mul, Nat.zero_add]
 ·intro f g h1 h2; rw [Pol.mul_add', h1, h2]
instance : CR (Pol R) where
 add_assoc := Pol.add_assoc'
 add_comm := Pol.add_comm'
 zero_add := Pol.zero_add'
 neg_add f := Pol.ext fun i => by rw [Pol.c_add, Pol.c_neg, neg_add]; rfl
 sub_eq _ _ := rfl
 mul_assoc := Pol.mul_assoc'
 mul_comm := Pol.mul_comm'
 one_mul := Pol.one_mul'
 mul_add := Pol.mul_add'
def nn : Nat → R
 | 0 => 0
 | n + 1 => nn n + 1
theorem nn_add (a b : Nat) : (nn (a + b) : R) = nn a + nn b := by
 induction b with
 | zero => simp only [nn, Nat.add_zero]; rw [add_zero]
 | succ b ih => rw [← Nat.add_assoc]; simp only [nn]; rw [ih, add_assoc]
theorem nn_mul (a b : Nat) : (nn (a * b) : R) = nn a * nn b := by
 induction b with
 | zero => simp only [nn, Nat.mul_zero]; rw [mul_zero]
 | succ b ih => rw [Nat.mul_succ, nn_add, ih]; simp only [nn]; rw [mul_add, mul_one]
def pw (x : R) : Nat → R
 | 0 => 1
 | n + 1 => pw x n * x
end
end Go.Proofs.Ytkmfhabgempjiaa
/- Plain algebra: whole numbers by a modulus; lists of words as polynomials over them. -/
namespace Go.Proofs.Ytkmfhabgempjiaa
open CR
structure Zp (p : Nat) where
 val : Nat
 lt : val < p - 1 + 1
theorem Zp.ext {p : Nat} {a b : Zp p} (h : a.val = b.val) : a = b := by
 cases a; cases b; simp at h; subst h; rfl
def Zp.of (p x : Nat) : Zp p := ⟨x % (p - 1 + 1), Nat.mod_lt _ (by omega)⟩
theorem Zp.val_of (p x : Nat) : (Zp.of p x).val = x % (p - 1 + 1) := rfl
instance (p : Nat) : Zero (Zp p) := ⟨Zp.of p 0⟩
instance (p : Nat) : One (Zp p) := ⟨Zp.of p 1⟩
instance (p : Nat) : Add (Zp p) := ⟨fun a b => Zp.of p (a.val + b.val)⟩
instance (p : Nat) : Mul (Zp p) := ⟨fun a b => Zp.of p (a.val * b.val)⟩
instance (p : Nat) : Neg (Zp p) := ⟨fun a => Zp.of p (p - 1 + 1 - a.val)⟩
instance (p : Nat) : Sub (Zp p) := ⟨fun a b => a + -b⟩
theorem Zp.add_val {p : Nat} (a b : Zp p) : (a + b).val = (a.val + b.val) % (p - 1 + 1) := rfl
theorem Zp.mul_val {p : Nat} (a b : Zp p) : (a * b).val = (a.val * b.val) % (p - 1 + 1) := rfl
theorem Zp.neg_val {p : Nat} (a : Zp p) : (-a).val = (p - 1 + 1 - a.val) % (p - 1 + 1) := rfl
theorem Zp.zero_val (p : Nat) : (0 : Zp p).val = 0 := Nat.zero_mod _
instance (p : Nat) : CR (Zp p) where
 add_assoc a b c := Zp.ext (by simp only [Zp.add_val, Nat.mod_add_mod, Nat.add_mod_mod, Nat.add_assoc])
 add_comm a b := Zp.ext (by simp only [Zp.add_val, Nat.add_comm])
 zero_add a := Zp.ext (by rw [Zp.add_val, Zp.zero_val, Nat.zero_add, Nat.mod_eq_of_lt a.lt])
 neg_add a := Zp.ext (by
  have := a.lt
  rw [Zp.add_val, Zp.neg_val, Zp.zero_val, Nat.mod_add_mod, Nat.sub_add_cancel (by omega), Nat.mod_self])
 sub_eq _ _ := rfl
 mul_assoc a b c := Zp.ext (by simp only [Zp.mul_val, Nat.mod_mul_mod, Nat.mul_mod_mod, Nat.mul_assoc])
 mul_comm a b := Zp.ext (by simp only [Zp.mul_val, Nat.mul_comm])
 one_mul a := Zp.ext (by
  show ((1 % (p - 1 + 1)) * a.val) % (p - 1 + 1) = a.val
  rw [Nat.mod_mul_mod, Nat.one_mul, Nat.mod_eq_of_lt a.lt])
 mul_add a b c := Zp.ext (by simp only [Zp.mul_val, Zp.add_val, Nat.mul_mod_mod, Nat.mod_add_mod, Nat.add_mod_mod, Nat.mul_add])
theorem Zp.of_add (p x y : Nat) : Zp.of p (x + y) = Zp.of p x + Zp.of p y := Zp.ext (by simp only [Zp.add_val, Zp.val_of, Nat.mod_add_mod, Nat.add_mod_mod])
theorem Zp.of_mul (p x y : Nat) : Zp.of p (x * y) = Zp.of p x * Zp.of p y := Zp.ext (by simp only [Zp.mul_val, Zp.val_of, Nat.mod_mul_mod, Nat.mul_mod_mod])
theorem Zp.of_zero (p : Nat) : Zp.of p 0 = 0 := rfl
theorem Zp.of_one (p : Nat) : Zp.of p 1 = 1 := rfl
theorem Zp.of_val {p : Nat} (a : Zp p) : Zp.of p a.val = a := Zp.ext (Nat.mod_eq_of_lt a.lt)
theorem Zp.of_mod (p x : Nat) : Zp.of p (x % p) = Zp.of p x := Zp.ext (by
 rw [Zp.val_of, Zp.val_of]
 by_cases h : p = 0
 ·subst h; simp [Nat.mod_one]
 ·rw [show p - 1 + 1 = p by omega, Nat.mod_mod])
theorem Zp.of_inj {p x y : Nat} (hx : x < p) (hy : y < p) (h : Zp.of p x = Zp.of p y) : x = y := by
 have := congrArg Zp.val h
 rw [Zp.val_of, Zp.val_of, show p - 1 + 1 = p by omega, Nat.mod_eq_of_lt hx, Nat.mod_eq_of_lt hy] at this
 exact this
theorem Zp.of_eq_zero {p x : Nat} (hp : 0 < p) : Zp.of p x = 0 ↔ x % p = 0 := by
 constructor
 ·intro h
  have := congrArg Zp.val h
  rw [Zp.val_of, Zp.zero_val, show p - 1 + 1 = p by omega] at this; exact this
 ·intro h; rw [← Zp.of_mod, h]; rfl
theorem Zp.of_sub (p x y : Nat) (hp : 0 < p) : Zp.of p (x % p + p - y % p) = Zp.of p x - Zp.of p y := by
 have h1 : Zp.of p (x % p + p - y % p) + Zp.of p y = Zp.of p x := by
  have := Nat.mod_lt y hp
  rw [← Zp.of_mod p y, ← Zp.of_add, show x % p + p - y % p + y % p = x % p + p by omega, ← Zp.of_mod, Nat.add_mod_right, Zp.of_mod, Zp.of_mod]
 rw [← h1, CR.sub_eq, CR.add_assoc, CR.add_neg, CR.add_zero]
theorem Zp.nn_of (p n : Nat) : (nn n : Zp p) = Zp.of p n := by
 induction n with
 | zero => rfl
 | succ n ih => show nn n + 1 = _; rw [ih, Zp.of_add]; rfl
def pl (p : Nat) (xs : List Nat) : Pol (Zp p) := ⟨fun i => Zp.of p (xs.getD i 0), xs.length, fun i h => by
 rw [List.getD, List.getElem?_eq_none h]; rfl⟩
theorem pl_c (p : Nat) (xs : List Nat) (i : Nat) : (pl p xs).c i = Zp.of p (xs.getD i 0) := rfl
theorem pl_nil (p : Nat) : pl p [] = 0 := Pol.ext fun i => by rw [pl_c]; rfl
theorem getD_snoc (xs : List Nat) (x i : Nat) : (xs ++ [x]).getD i 0 = if i = xs.length then x else xs.getD i 0 := by
 simp only [List.getD]
 by_cases h : i < xs.length
 ·rw [List.getElem?_append_left h, if_neg (by omega)]
 ·rw [List.getElem?_append_right (by omega)]
  by_cases h2 : i = xs.length
  ·subst h2; simp
  ·rw [if_neg h2, List.getElem?_eq_none (by simp; omega), List.getElem?_eq_none (by omega)]
theorem getD_take (xs : List Nat) (k i : Nat) : (xs.take k).getD i 0 = if i < k then xs.getD i 0 else 0 := by
 simp only [List.getD]
 split
 ·rw [List.getElem?_take_of_lt (by assumption)]
 ·rw [List.getElem?_eq_none (by simp; omega)]; rfl
theorem getD_set (xs : List Nat) (k y i : Nat) (hk : k < xs.length) : (xs.set k y).getD i 0 = if i = k then y else xs.getD i 0 := by
 simp only [List.getD, List.getElem?_set]
 by_cases h : k = i
 ·subst h; simp [hk]
 ·rw [if_neg h, if_neg (fun e => h e.symm)]
theorem pl_snoc (p : Nat) (xs : List Nat) (x : Nat) : pl p (xs ++ [x]) = pl p xs + mon (Zp.of p x) xs.length := Pol.ext fun i => by
 rw [Pol.c_add, c_mon, pl_c, pl_c, getD_snoc]
 split
 ·rename_i h; subst h
  rw [List.getD, List.getElem?_eq_none (by omega)]; show _ = Zp.of p 0 + _
  rw [Zp.of_zero, zero_add]
 ·rw [add_zero]
theorem pl_take_succ (p : Nat) (xs : List Nat) (k : Nat) : pl p (xs.take (k + 1)) = pl p (xs.take k) + mon (Zp.of p (xs.getD k 0)) k := Pol.ext fun i => by
 rw [Pol.c_add, c_mon, pl_c, pl_c, getD_take, getD_take]
 by_cases h : i = k
 ·subst h; rw [if_pos (by omega), if_neg (by omega), if_pos rfl, Zp.of_zero, zero_add]
 ·rw [if_neg h, add_zero]
  by_cases h2 : i < k
  ·rw [if_pos h2, if_pos (by omega)]
  ·rw [if_neg h2, if_neg (by omega)]
theorem pl_set (p : Nat) (xs : List Nat) (k y : Nat) (hk : k < xs.length) : pl p (xs.set k y) = pl p xs + mon (Zp.of p y - Zp.of p (xs.getD k 0)) k := Pol.ext fun i => by
 rw [Pol.c_add, c_mon, pl_c, pl_c, getD_set xs k y i hk]
 split
 ·rename_i h; subst h; rw [add_comm, sub_add_cancel]
 ·rw [add_zero]
theorem pl_replicate0 (p k : Nat) : pl p (List.replicate k 0) = 0 := Pol.ext fun i => by
 rw [pl_c, Pol.c_zero]
 have : (List.replicate k 0).getD i 0 = 0 := by
  simp only [List.getD, List.getElem?_replicate]; split <;> rfl
 rw [this]; rfl
theorem getD_tr (xs : List Nat) (i : Nat) : (tr xs).getD i 0 = xs.getD i 0 := by
 induction xs generalizing i with
 | nil => rfl
 | cons x xs ih =>
  rw [tr_cons]
  split
  ·rename_i h
   cases i with
   | zero => rw [h.2]; rfl
   | succ i => have := ih i; rw [h.1] at this; exact this
  ·cases i with
   | zero => rfl
   | succ i => exact ih i
theorem pl_tr (p : Nat) (xs : List Nat) : pl p (tr xs) = pl p xs := Pol.ext fun i => by rw [pl_c, pl_c, getD_tr]
theorem pl_map_mod (p : Nat) (xs : List Nat) : pl p (xs.map (· % p)) = pl p xs := Pol.ext fun i => by
 rw [pl_c, pl_c]
 have : (xs.map (· % p)).getD i 0 = xs.getD i 0 % p := by
  simp only [List.getD, List.getElem?_map]
  cases h : xs[i]? <;> simp
 rw [this, Zp.of_mod]
def Pol.dlt {R : Type} [CR R] (f : Pol R) (n : Nat) : Prop := ∀ i, n ≤ i → f.c i = 0
theorem pl_dlt (p : Nat) (xs : List Nat) : (pl p xs).dlt xs.length := fun i h => by
 rw [pl_c, List.getD, List.getElem?_eq_none h]; rfl
theorem pl_len {p : Nat} {xs : List Nat} (hp : 0 < p) (h : Nrm p xs) {n : Nat} (hd : (pl p xs).dlt n) : xs.length ≤ n := by
 rcases Nat.lt_or_ge n xs.length with hn | hn
 ·exfalso
  have hx : xs ≠ [] := by intro e; subst e; simp at hn
  have h1 := hd (xs.length - 1) (by omega)
  rw [pl_c, Zp.of_eq_zero hp, Nat.mod_eq_of_lt (wf_getD h.1 hp _)] at h1
  exact nrm_last h hx h1
 ·exact hn
theorem pl_inj {p : Nat} {xs ys : List Nat} (hp : 0 < p) (hx : Nrm p xs) (hy : Nrm p ys) (h : pl p xs = pl p ys) : xs = ys := by
 have h1 : xs.length ≤ ys.length := pl_len hp hx (by rw [h]; exact pl_dlt p ys)
 have h2 : ys.length ≤ xs.length := pl_len hp hy (by rw [← h]; exact pl_dlt p xs)
 refine List.ext_getElem (by omega) fun i hi hj => ?_
 have h3 : (pl p xs).c i = (pl p ys).c i := by rw [h]
 rw [pl_c, pl_c] at h3
 have h4 := Zp.of_inj (wf_getD hx.1 hp i) (wf_getD hy.1 hp i) h3
 rwa [getD_lt xs i hi, getD_lt ys i hj] at h4
theorem pl_zero {p : Nat} {xs : List Nat} (hp : 0 < p) (hx : Nrm p xs) (h : pl p xs = 0) : xs = [] :=
 pl_inj hp hx (nrm_nil p) (by rw [h, pl_nil])
end Go.Proofs.Ytkmfhabgempjiaa
/- Plain algebra: primes, and inverses by a prime. -/
namespace Go.Proofs.Ytkmfhabgempjiaa
open CR
def Trial (p : Nat) : Prop := p = 2 ∨ (p % 2 = 1 ∧ 2 < p ∧ ∀ d, d % 2 = 1 → 3 ≤ d → d * d ≤ p → p % d ≠ 0)
def trialFrom (p : Nat) : Nat → Nat → Bool
 | 0, k => decide (p < (2 * k + 3) * (2 * k + 3)) || decide (p % (2 * k + 3) ≠ 0)
 | l + 1, k => trialFrom p l k && trialFrom p l (k + 2 ^ l)
theorem trialFrom_spec (p : Nat) : ∀ l k, trialFrom p l k = true → ∀ j, k ≤ j → j < k + 2 ^ l → (2 * j + 3) * (2 * j + 3) ≤ p → p % (2 * j + 3) ≠ 0
 | 0, k => by
  intro h j h1 h2 h3
  obtain rfl : j = k := by simp at h2; omega
  simp [trialFrom] at h
  rcases h with h | h
  ·omega
  ·exact h
 | l + 1, k => by
  intro h j h1 h2 h3
  simp only [trialFrom, Bool.and_eq_true] at h
  by_cases hj : j < k + 2 ^ l
  ·exact trialFrom_spec p l k h.1 j h1 hj h3
  ·exact trialFrom_spec p l (k + 2 ^ l) h.2 j (by omega) (by rw [Nat.pow_succ] at h2; omega) h3
theorem trial_of {p l : Nat} (h : (decide (p % 2 = 1 ∧ 2 < p ∧ p < (2 * 2 ^ l + 3) * (2 * 2 ^ l + 3)) && trialFrom p l 0) = true) : Trial p := by
 rw [Bool.and_eq_true] at h
 obtain ⟨h1, h2⟩ := h
 obtain ⟨a, b, c⟩ := of_decide_eq_true h1
 refine Or.inr ⟨a, b, fun d hd h3 hs => ?_⟩
 obtain ⟨j, rfl⟩ : ∃ j, d = 2 * j + 3 := ⟨(d - 3) / 2, by omega⟩
 have hj : j < 2 ^ l := by
  rcases Nat.lt_or_ge j (2 ^ l) with h | h
  ·exact h
  ·exfalso
   have : (2 * 2 ^ l + 3) * (2 * 2 ^ l + 3) ≤ (2 * j + 3) * (2 * j + 3) := Nat.mul_le_mul (by omega) (by omega)
   omega
 exact trialFrom_spec p l 0 h2 j (by omega) (by omega) hs
theorem trial_div {p d : Nat} (h : Trial p) (hd : d ∣ p) : d = 1 ∨ d = p := by
 have key : ∀ d, Trial p → d ∣ p → d * d ≤ p → d = 1 ∨ d = p := by
  intro d h hd hs
  rcases h with rfl | ⟨h1, h2, h3⟩
  ·have : d ≤ 2 := Nat.le_of_dvd (by decide) hd
   rcases (show d = 0 ∨ d = 1 ∨ d = 2 by omega) with rfl | rfl | rfl
   ·simp at hd
   ·exact Or.inl rfl
   ·exact Or.inr rfl
  ·by_cases hd1 : d = 1
   ·exact Or.inl hd1
   ·exfalso
    obtain ⟨c, hc⟩ := hd
    have hodd : d % 2 = 1 := by
     rcases (show d % 2 = 0 ∨ d % 2 = 1 by omega) with h | h
     ·exfalso; rw [hc, Nat.mul_mod, h] at h1; simp at h1
     ·exact h
    exact h3 d hodd (by omega) hs (by rw [hc]; exact Nat.mul_mod_right _ _)
 have hp : 0 < p := by rcases h with rfl | ⟨_, h2, _⟩ <;> omega
 obtain ⟨c, hc⟩ := hd
 by_cases hs : d * d ≤ p
 ·exact key d h ⟨c, hc⟩ hs
 ·have hcd : c < d := by
   rcases Nat.lt_or_ge c d with h | h
   ·exact h
   ·exfalso; apply hs; rw [hc]; exact Nat.mul_le_mul_left _ h
  have hcs : c * c ≤ p := by rw [hc]; exact Nat.mul_le_mul_right _ (Nat.le_of_lt hcd)
  rcases key c h ⟨d, by rw [hc, Nat.mul_comm]⟩ hcs with rfl | h2
  ·exact Or.inr (by omega)
  ·have : d = 1 := by
    rw [← h2] at hc
    have : c * d = c * 1 := by rw [Nat.mul_comm, ← hc]; simp
    exact Nat.eq_of_mul_eq_mul_left (by omega) this
   exact Or.inl this
theorem trial_gt {p : Nat} (h : Trial p) : 2 ≤ p := by rcases h with rfl | ⟨_, h2, _⟩ <;> omega
theorem trial_mul {p a b : Nat} (h : Trial p) (hd : p ∣ a * b) : p ∣ a ∨ p ∣ b := by
 rcases trial_div h (Nat.gcd_dvd_left p a) with h1 | h1
 ·exact Or.inr (Nat.Coprime.dvd_of_dvd_mul_left h1 hd)
 ·exact Or.inl (by have := Nat.gcd_dvd_right p a; rwa [h1] at this)
theorem Zp.no_zero {p : Nat} (h : Trial p) {a b : Zp p} (hab : a * b = 0) : a = 0 ∨ b = 0 := by
 have hp := trial_gt h
 have h1 := congrArg Zp.val hab
 rw [Zp.mul_val, Zp.zero_val, show p - 1 + 1 = p by omega] at h1
 have h2 := trial_mul h (Nat.dvd_of_mod_eq_zero h1)
 have key : ∀ c : Zp p, p ∣ c.val → c = 0 := by
  intro c hc
  refine Zp.ext ?_
  rw [Zp.zero_val]
  exact Nat.eq_zero_of_dvd_of_lt hc (by have := c.lt; omega)
 exact h2.imp (key a) (key b)
def choose : Nat → Nat → Nat
 | _, 0 => 1
 | 0, _ + 1 => 0
 | n + 1, k + 1 => choose n k + choose n (k + 1)
theorem choose_zero (n : Nat) : choose n 0 = 1 := by cases n <;> rfl
theorem choose_gt : ∀ n k, n < k → choose n k = 0
 | 0, 0 => by omega
 | 0, k + 1 => fun _ => rfl
 | n + 1, 0 => by omega
 | n + 1, k + 1 => fun h => by simp only [choose]; rw [choose_gt n k (by omega), choose_gt n (k + 1) (by omega)]
theorem choose_self (n : Nat) : choose n n = 1 := by
 induction n with
 | zero => rfl
 | succ n ih => simp only [choose]; rw [ih, choose_gt n (n + 1) (by omega)]
theorem choose_mul : ∀ n k, (k + 1) * choose (n + 1) (k + 1) = (n + 1) * choose n k
 | 0, 0 => rfl
 | 0, k + 1 => by simp [choose]
 | n + 1, 0 => by
  have := choose_mul n 0
  simp only [choose, choose_zero] at *
  omega
 | n + 1, k + 1 => by
  have h1 := choose_mul n k
  have h2 := choose_mul n (k + 1)
  rw [show choose (n + 1 + 1) (k + 1 + 1) = choose (n + 1) (k + 1) + choose (n + 1) (k + 1 + 1) from rfl]
  rw [Nat.mul_add, h2, show k + 1 + 1 = (k + 1) + 1 from rfl, Nat.add_mul (k + 1) 1, h1]
  rw [show (n + 1 + 1) * choose (n + 1) (k + 1) = (n + 1) * choose (n + 1) (k + 1) + choose (n + 1) (k + 1) by rw [Nat.add_mul, Nat.one_mul]]
  have e2 : (n + 1) * choose (n + 1) (k + 1) = (n + 1) * choose n k + (n + 1) * choose n (k + 1) := by
   rw [show choose (n + 1) (k + 1) = choose n k + choose n (k + 1) from rfl, Nat.mul_add]
  omega
section
variable {R : Type} [CR R]
theorem pw_succ (x : R) (n : Nat) : pw x (n + 1) = pw x n * x := rfl
theorem pw_dbl (x : R) (n : Nat) : pw (x * x) n = pw x (2 * n) := by
 induction n with
 | zero => rfl
 | succ n ih => rw [pw_succ, ih, Nat.mul_succ, pw_succ, pw_succ, mul_assoc]
theorem binom (x : R) (n : Nat) : pw (x + 1) n = sm (n + 1) (fun k => nn (choose n k) * pw x k) := by
 induction n with
 | zero => simp only [sm, choose, pw, nn]; rw [mul_one, zero_add, zero_add]
 | succ n ih =>
  rw [pw_succ, ih, mul_add, mul_one, mul_comm, ← sm_mul]
  rw [sm_head (n + 1) (fun k => nn (choose (n + 1) k) * pw x k)]
  have e : sm (n + 1) (fun i => nn (choose (n + 1) (i + 1)) * pw x (i + 1)) = sm (n + 1) (fun i => x * (nn (choose n i) * pw x i)) + sm (n + 1) (fun i => nn (choose n (i + 1)) * pw x (i + 1)) := by
   rw [← sm_add]; refine sm_congr fun i _ => ?_
   rw [show choose (n + 1) (i + 1) = choose n i + choose n (i + 1) from rfl, nn_add, pw_succ]
   exact by_ring [nn (choose n i), nn (choose n (i + 1)), pw x i, x] ((X0 + X1) * (X2 * X3)) (X3 * (X0 * X2) + X1 * (X2 * X3)) rfl
  rw [e]
  have e2 : sm (n + 1) (fun k => nn (choose n k) * pw x k) = nn (choose (n + 1) 0) * pw x 0 + sm (n + 1) (fun i => nn (choose n (i + 1)) * pw x (i + 1)) := by
   rw [sm_head n]
   show _ = _ + (sm n (fun i => nn (choose n (i + 1)) * pw x (i + 1)) + nn (choose n (n + 1)) * pw x (n + 1))
   rw [choose_gt n (n + 1) (by omega), choose_zero, choose_zero]
   simp only [nn]; rw [zero_mul, add_zero]
  rw [e2, add_left_comm]
theorem frobenius {p : Nat} (h : Trial p) (hp : (nn p : R) = 0) (x : R) : pw (x + 1) p = pw x p + 1 := by
 have h2 := trial_gt h
 obtain ⟨q, rfl⟩ : ∃ q, p = q + 1 := ⟨p - 1, by omega⟩
 rw [binom, show q + 1 + 1 = (q + 1) + 1 from rfl]
 show sm (q + 1) _ + nn (choose (q + 1) (q + 1)) * pw x (q + 1) = _
 rw [choose_self, sm_head, choose_zero]
 have hz : sm q (fun i => nn (choose (q + 1) (i + 1)) * pw x (i + 1)) = (0 : R) := by
  refine sm_zero' fun i hi => ?_
  have hd : (q + 1) ∣ choose (q + 1) (i + 1) := by
   have h3 := choose_mul q i
   rcases trial_mul h (show (q + 1) ∣ (i + 1) * choose (q + 1) (i + 1) from ⟨_, h3⟩) with h4 | h4
   ·have := Nat.le_of_dvd (by omega) h4; omega
   ·exact h4
  obtain ⟨c, hc⟩ := hd
  rw [hc, nn_mul, hp, zero_mul, zero_mul]
 rw [hz]
 simp only [nn]
 show (0 + 1) * (1 : R) + 0 + (0 + 1) * pw x (q + 1) = _
 rw [zero_add, one_mul, one_mul, add_zero, add_comm]
end
theorem Zp.nn_self (p : Nat) (h : 0 < p) : (nn p : Zp p) = 0 := by rw [Zp.nn_of, Zp.of_eq_zero h, Nat.mod_self]
theorem Zp.fermat {p : Nat} (h : Trial p) (a : Zp p) : pw a p = a := by
 have hp := trial_gt h
 have key : ∀ n, pw (nn n : Zp p) p = nn n := by
  intro n
  induction n with
  | zero =>
   obtain ⟨q, rfl⟩ : ∃ q, p = q + 1 := ⟨p - 1, by omega⟩
   show pw 0 q * 0 = 0; rw [mul_zero]
  | succ n ih => show pw (nn n + 1) p = nn n + 1; rw [frobenius h (Zp.nn_self p (by omega)), ih]
 rw [← Zp.of_val a, ← Zp.nn_of, key]
theorem Zp.inv {p : Nat} (h : Trial p) {a : Zp p} (ha : a ≠ 0) : pw a (p - 2) * a = 1 := by
 have hp := trial_gt h
 have h1 := Zp.fermat h a
 have h2 : pw a p = pw a (p - 2) * a * a := by
  have key : ∀ m, m = p - 2 + 1 + 1 → pw a m = pw a (p - 2) * a * a := by rintro m rfl; rfl
  exact key p (by omega)
 rw [h2] at h1
 have h3 : (pw a (p - 2) * a - 1) * a = 0 := by
  have : (pw a (p - 2) * a - 1) * a = pw a (p - 2) * a * a - a := by_ring [pw a (p - 2), a] ((X0 * X1 - 1) * X1) (X0 * X1 * X1 - X1) rfl
  rw [this, h1, sub_self]
 rcases Zp.no_zero h h3 with h4 | h4
 ·exact sub_eq_zero h4
 ·exact absurd h4 ha
end Go.Proofs.Ytkmfhabgempjiaa
/- Plain algebra: degrees of polynomials over the numbers mod a prime; division; divisors; the greatest common divisor. -/
namespace Go.Proofs.Ytkmfhabgempjiaa
open CR
def Ln {R : Type} [CR R] (f : Pol R) (n : Nat) : Prop := f.dlt n ∧ ∀ m, n = m + 1 → f.c m ≠ 0
section
variable {R : Type} [CR R]
theorem dlt_mono {f : Pol R} {m n : Nat} (h : f.dlt m) (hn : m ≤ n) : f.dlt n := fun i hi => h i (by omega)
theorem dlt_zero (n : Nat) : (0 : Pol R).dlt n := fun _ _ => rfl
theorem dlt_add {f g : Pol R} {n : Nat} (hf : f.dlt n) (hg : g.dlt n) : (f + g).dlt n := fun i hi => by rw [Pol.c_add, hf i hi, hg i hi, add_zero]
theorem dlt_neg {f : Pol R} {n : Nat} (hf : f.dlt n) : (-f).dlt n := fun i hi => by rw [Pol.c_neg, hf i hi, neg_zero]
theorem dlt_sub {f g : Pol R} {n : Nat} (hf : f.dlt n) (hg : g.dlt n) : (f - g).dlt n := fun i hi => by rw [Pol.c_sub, hf i hi, hg i hi, sub_zero]
theorem dlt_nil {f : Pol R} (h : f.dlt 0) : f = 0 := Pol.ext fun i => h i (Nat.zero_le _)
theorem mul_dlt' {f g : Pol R} {a b : Nat} (hf : f.dlt (a + 1)) (hg : g.dlt (b + 1)) : (f * g).dlt (a + b + 1) := by
 intro n hn
 rw [Pol.c_mul]
 refine sm_zero' fun j hj => ?_
 by_cases h : a + 1 ≤ j
 ·rw [hf j h, zero_mul]
 ·rw [hg (n - j) (by omega), mul_zero]
theorem mul_top {f g : Pol R} {a b : Nat} (hf : f.dlt (a + 1)) (hg : g.dlt (b + 1)) : (f * g).c (a + b) = f.c a * g.c b := by
 rw [Pol.c_mul, sm_one (k := a) (by omega) (fun i hi hne => ?_), show a + b - a = b by omega]
 by_cases h : a + 1 ≤ i
 ·rw [hf i h, zero_mul]
 ·rw [hg (a + b - i) (by omega), mul_zero]
theorem Ln.exists (f : Pol R) : ∃ n, Ln f n := by
  obtain ⟨n, hn⟩ := f.fin
  have hd : f.dlt n := hn
  clear hn
  induction n with
  | zero => exact ⟨0, hd, fun m hm => by omega⟩
  | succ n ih =>
    by_cases h : f.c n = 0
    · exact ih fun i hi => by
        by_cases e : i = n
        · rw [e]; exact h
        · exact hd i (by omega)
    · exact ⟨n + 1, hd, fun m hm => by obtain rfl : m = n := by omega
                                       exact h⟩
theorem Ln.le {f : Pol R} {n m : Nat} (h : Ln f n) (hd : f.dlt m) : n ≤ m := by
 rcases Nat.lt_or_ge m n with hl | hl
 ·exact absurd (hd (n - 1) (by omega)) (h.2 (n - 1) (by omega))
 ·exact hl
theorem Ln.unique {f : Pol R} {n m : Nat} (h : Ln f n) (k : Ln f m) : n = m := Nat.le_antisymm (h.le k.1) (k.le h.1)
theorem Ln.zero : Ln (0 : Pol R) 0 := ⟨dlt_zero 0, fun m hm => by omega⟩
theorem Ln.nil {f : Pol R} (h : Ln f 0) : f = 0 := dlt_nil h.1
theorem Ln.pos {f : Pol R} {n : Nat} (h : Ln f n) (h0 : f ≠ 0) : ∃ m, n = m + 1 := by
 cases n with
 | zero => exact absurd h.nil h0
 | succ m => exact ⟨m, rfl⟩
theorem Ln.ne {f : Pol R} {n : Nat} (h : Ln f (n + 1)) : f ≠ 0 := fun e => h.2 n rfl (by rw [e]; rfl)
def Dv (a b : Pol R) : Prop := ∃ c, b = a * c
theorem Dv.refl (a : Pol R) : Dv a a := ⟨1, (mul_one a).symm⟩
theorem Dv.zero (a : Pol R) : Dv a 0 := ⟨0, (mul_zero a).symm⟩
theorem Dv.mul {a b : Pol R} (h : Dv a b) (c : Pol R) : Dv a (c * b) := by
 obtain ⟨x, rfl⟩ := h; exact ⟨c * x, mul_left_comm _ _ _⟩
theorem Dv.mul' {a b : Pol R} (h : Dv a b) (c : Pol R) : Dv a (b * c) := by rw [mul_comm]; exact h.mul c
theorem Dv.add {a b c : Pol R} (h : Dv a b) (k : Dv a c) : Dv a (b + c) := by
 obtain ⟨x, rfl⟩ := h; obtain ⟨y, rfl⟩ := k; exact ⟨x + y, (mul_add _ _ _).symm⟩
theorem Dv.neg {a b : Pol R} (h : Dv a b) : Dv a (-b) := by
 obtain ⟨x, rfl⟩ := h; exact ⟨-x, (mul_neg _ _).symm⟩
theorem Dv.of_zero {b : Pol R} (h : Dv 0 b) : b = 0 := by obtain ⟨x, rfl⟩ := h; exact zero_mul x
end
section
variable {p : Nat}
theorem Zp.one_ne (ht : Trial p) : (1 : Zp p) ≠ 0 := fun h => by
 have h1 := congrArg Zp.val h
 rw [Zp.zero_val, ← Zp.of_one, Zp.val_of] at h1
 have := trial_gt ht
 rw [Nat.mod_eq_of_lt (by omega)] at h1
 omega
theorem Ln.mul (ht : Trial p) {f g : Pol (Zp p)} {m n : Nat} (hf : Ln f (m + 1)) (hg : Ln g (n + 1)) : Ln (f * g) (m + n + 1) :=
 ⟨mul_dlt' hf.1 hg.1, fun k hk => by
  obtain rfl : k = m + n := by omega
  rw [mul_top hf.1 hg.1]
  intro h
  rcases Zp.no_zero ht h with h | h
  ·exact hf.2 m rfl h
  ·exact hg.2 n rfl h⟩
theorem no_zero (ht : Trial p) {f g : Pol (Zp p)} (h : f * g = 0) : f = 0 ∨ g = 0 := by
 obtain ⟨m, hm⟩ := Ln.exists f
 obtain ⟨n, hn⟩ := Ln.exists g
 cases m with
 | zero => exact Or.inl hm.nil
 | succ m =>
  cases n with
  | zero => exact Or.inr hn.nil
  | succ n => exact absurd h (hm.mul ht hn).ne
theorem mul_ne (ht : Trial p) {f g : Pol (Zp p)} (hf : f ≠ 0) (hg : g ≠ 0) : f * g ≠ 0 := fun h => (no_zero ht h).elim hf hg
theorem mul_cancel (ht : Trial p) {f g h : Pol (Zp p)} (hf : f ≠ 0) (e : f * g = f * h) : g = h := by
 refine sub_eq_zero ((no_zero ht (f := f) ?_).resolve_left hf)
 rw [sub_eq, mul_add, mul_neg, e, add_neg]
theorem div_unique (ht : Trial p) {b q q' r r' : Pol (Zp p)} {n : Nat} (hb : Ln b (n + 1)) (hr : r.dlt n) (hr' : r'.dlt n) (h : q * b + r = q' * b + r') : q = q' ∧ r = r' := by
 have e : (q - q') * b = r' - r := by
  have h1 : (q - q') * b = (q * b + r) - (q' * b + r) := by_ring [q, q', b, r] ((X0 - X1) * X2) (X0 * X2 + X3 - (X1 * X2 + X3)) rfl
  rw [h1, h]
  exact by_ring [q', b, r, r'] (X0 * X1 + X3 - (X0 * X1 + X2)) (X3 - X2) rfl
 have hq : q - q' = 0 := by
  obtain ⟨m, hm⟩ := Ln.exists (q - q')
  cases m with
  | zero => exact hm.nil
  | succ m =>
   have h1 := hm.mul ht hb
   rw [e] at h1
   have := h1.le (dlt_sub hr' hr)
   omega
 refine ⟨sub_eq_zero hq, ?_⟩
 rw [hq, zero_mul] at e
 exact (sub_eq_zero e.symm).symm
theorem Dv.len (ht : Trial p) {a b : Pol (Zp p)} {m n : Nat} (h : Dv a b) (hb : b ≠ 0) (ha : Ln a m) (hl : Ln b n) : m ≤ n := by
 obtain ⟨c, rfl⟩ := h
 obtain ⟨k, hk⟩ := Ln.exists c
 cases m with
 | zero => exact Nat.zero_le _
 | succ m =>
  cases k with
  | zero => exact absurd (by rw [hk.nil, mul_zero]) hb
  | succ k => have := (ha.mul ht hk).unique hl; omega
def Mo {R : Type} [CR R] (f : Pol R) : Prop := f = 0 ∨ ∃ n, f.dlt (n + 1) ∧ f.c n = 1
theorem Mo.ln (ht : Trial p) {f : Pol (Zp p)} {n : Nat} (hd : f.dlt (n + 1)) (h1 : f.c n = 1) : Ln f (n + 1) :=
  ⟨hd, fun m hm => by obtain rfl : m = n := by omega
                      rw [h1]; exact Zp.one_ne ht⟩
theorem Mo.unique (ht : Trial p) {g g' : Pol (Zp p)} (h : Mo g) (h' : Mo g') (d : Dv g g') (d' : Dv g' g) : g = g' := by
 rcases h with rfl | ⟨n, hd, h1⟩
 ·exact d.of_zero.symm
 ·rcases h' with rfl | ⟨n', hd', h1'⟩
  ·exact d'.of_zero
  ·have l := Mo.ln ht hd h1
   have l' := Mo.ln ht hd' h1'
   have a := d.len ht l'.ne l l'
   have b := d'.len ht l.ne l' l
   obtain rfl : n = n' := by omega
   obtain ⟨c, rfl⟩ := d
   obtain ⟨k, hk⟩ := Ln.exists c
   have hc0 : c ≠ 0 := fun e => l'.ne (by rw [e, mul_zero])
   obtain ⟨m, rfl⟩ := hk.pos hc0
   have hu := (l.mul ht hk).unique l'
   obtain rfl : m = 0 := by omega
   have h2 := mul_top hd hk.1
   rw [Nat.add_zero, h1', h1, one_mul] at h2
   have : c = 1 := Pol.ext fun i => by
    rw [Pol.one_def, c_mon]
    by_cases hi : i = 0
    ·rw [if_pos hi, hi, ← h2]
    ·rw [if_neg hi]; exact hk.1 i (by omega)
   rw [this, mul_one]
def IsGcd (g f h : Pol (Zp p)) : Prop := Mo g ∧ Dv g f ∧ Dv g h ∧ ∃ s t, g = s * f + t * h
theorem nrm_ln {xs : List Nat} (hp : 0 < p) (h : Nrm p xs) : Ln (pl p xs) xs.length :=
 ⟨pl_dlt p xs, fun m hm hc => by
  have : xs.length ≤ m := pl_len hp h fun i hi => by
   by_cases e : i = m
   ·rw [e]; exact hc
   ·exact pl_dlt p xs i (by omega)
  omega⟩
theorem mo_scale {f : Pol (Zp p)} {n : Nat} {u : Zp p} (hf : Ln f (n + 1)) (hu : u * f.c n = 1) : Mo (f * mon u 0) := by
 right
 refine ⟨n, ?_, ?_⟩
 ·have := mul_dlt' (f := f) (g := mon u 0) (a := n) (b := 0) hf.1 (fun i hi => by rw [c_mon, if_neg (by omega)])
  rwa [Nat.add_zero] at this
 ·have := mul_top (f := f) (g := mon u 0) (a := n) (b := 0) hf.1 (fun i hi => by rw [c_mon, if_neg (by omega)])
  rw [Nat.add_zero] at this
  rw [this, c_mon, if_pos rfl, mul_comm, hu]
theorem dv_scale {f : Pol (Zp p)} {u v : Zp p} (h : u * v = 1) : Dv (f * mon u 0) f :=
 ⟨mon v 0, by rw [mul_assoc, mon_mul, h, Nat.add_zero, ← Pol.one_def, mul_one]⟩
end
end Go.Proofs.Ytkmfhabgempjiaa
/- Plain algebra: determinants over a commutative ring, by the first row: they are linear in each row, nought where two rows are the same, and go with products. -/
namespace Go.Proofs.Ytkmfhabgempjiaa
open CR
section
variable {R : Type}
def rows : Nat → (Nat → Nat → R) → List (Nat → R)
 | 0, _ => []
 | n + 1, A => A 0 :: rows n (fun i => A (i + 1))
theorem rows_len : ∀ (n : Nat) (A : Nat → Nat → R), (rows n A).length = n
 | 0, _ => rfl
 | n + 1, A => by simp [rows, rows_len n]
theorem rows_get : ∀ (n : Nat) (A : Nat → Nat → R) (i : Nat), i < n → (rows n A)[i]? = some (A i)
 | 0, _, _, h => by omega
 | n + 1, A, 0, _ => rfl
 | n + 1, A, i + 1, h => by simp only [rows, List.getElem?_cons_succ]; exact rows_get n _ i (by omega)
theorem rows_ext {n : Nat} {A : Nat → Nat → R} {rs : List (Nat → R)} (hl : rs.length = n) (h : ∀ i, i < n → rs[i]? = some (A i)) : rs = rows n A := by
 refine List.ext_getElem? fun i => ?_
 by_cases hi : i < n
 ·rw [h i hi, rows_get n A i hi]
 ·rw [List.getElem?_eq_none (by omega), List.getElem?_eq_none (by rw [rows_len]; omega)]
def upd (A : Nat → Nat → R) (i : Nat) (r : Nat → R) : Nat → Nat → R := fun a => if a = i then r else A a
theorem upd_same (A : Nat → Nat → R) (i : Nat) (r : Nat → R) : upd A i r i = r := if_pos rfl
theorem upd_ne (A : Nat → Nat → R) {i a : Nat} (r : Nat → R) (h : a ≠ i) : upd A i r a = A a := if_neg h
theorem upd_self (A : Nat → Nat → R) (i : Nat) : upd A i (A i) = A := by
 funext a; unfold upd; split
 ·rename_i h; rw [h]
 ·rfl
theorem rows_upd (n : Nat) (A : Nat → Nat → R) (i : Nat) (hi : i < n) (r : Nat → R) : rows n (upd A i r) = (rows n A).set i r := by
 refine (rows_ext (by rw [List.length_set, rows_len]) fun a ha => ?_).symm
 rw [List.getElem?_set]
 by_cases h : i = a
 ·subst h; rw [if_pos rfl, upd_same, if_pos (by rw [rows_len]; exact hi)]
 ·rw [if_neg h, upd_ne _ _ (fun e => h e.symm), rows_get n A a ha]
theorem upd_comm (A : Nat → Nat → R) {i j : Nat} (h : i ≠ j) (r s : Nat → R) : upd (upd A i r) j s = upd (upd A j s) i r := by
 funext a; unfold upd
 by_cases h1 : a = j
 ·rw [if_pos h1, if_neg (fun e => h (e.symm.trans h1)), if_pos h1]
 ·rw [if_neg h1]; split <;> simp_all
theorem rows_map (g : (Nat → R) → Nat → R) : ∀ (n : Nat) (A : Nat → Nat → R), (rows n A).map g = rows n (fun i => g (A i))
 | 0, _ => rfl
 | n + 1, A => by simp only [rows, List.map_cons, rows_map g n]
theorem range_map_rows (n : Nat) (B : Nat → Nat → R) : (List.range n).map B = rows n B := by
 refine rows_ext (by simp) fun i hi => ?_
 rw [List.getElem?_map, List.getElem?_range hi]; rfl
end
section
variable {R : Type} [CR R]
def io (r : Nat → R) : List Nat → (List Nat → R) → R
 | [], _ => 0
 | c :: cs, F => r c * F cs - io r cs (fun l => F (c :: l))
theorem io_congr {r s : Nat → R} : ∀ (cs : List Nat) {F G : List Nat → R}, (∀ c, c ∈ cs → r c = s c) → (∀ l : List Nat, (∀ x, x ∈ l → x ∈ cs) → F l = G l) → io r cs F = io s cs G
 | [], _, _, _, _ => rfl
 | c :: cs, F, G, h, k => by
  simp only [io]
  rw [h c (by simp), k cs (fun x hx => by simp [hx]), io_congr cs (F := fun l => F (c :: l)) (G := fun l => G (c :: l)) (fun c hc => h c (by simp [hc])) (fun l hl => k (c :: l) (fun x hx => by
   rcases List.mem_cons.1 hx with rfl | hx
   ·simp
   ·simp [hl x hx]))]
theorem io_add (r s : Nat → R) : ∀ (cs : List Nat) (F : List Nat → R), io (fun c => r c + s c) cs F = io r cs F + io s cs F
 | [], _ => by simp only [io]; rw [add_zero]
 | c :: cs, F => by
  simp only [io]; rw [io_add r s cs]
  exact by_ring [r c, s c, F cs, io r cs (fun l => F (c :: l)), io s cs (fun l => F (c :: l))] ((X0 + X1) * X2 - (X3 + X4)) (X0 * X2 - X3 + (X1 * X2 - X4)) rfl
theorem io_mul (x : R) (r : Nat → R) : ∀ (cs : List Nat) (F : List Nat → R), io (fun c => x * r c) cs F = x * io r cs F
 | [], _ => by simp only [io]; rw [mul_zero]
 | c :: cs, F => by
  simp only [io]; rw [io_mul x r cs]
  exact by_ring [x, r c, F cs, io r cs (fun l => F (c :: l))] (X0 * X1 * X2 - X0 * X3) (X0 * (X1 * X2 - X3)) rfl
theorem io_zero (cs : List Nat) (F : List Nat → R) : io (fun _ => (0 : R)) cs F = 0 := by
 exact (io_congr cs (fun c _ => (zero_mul (0 : R)).symm) (fun _ _ => rfl)).trans ((io_mul (0 : R) (fun _ => 0) cs F).trans (zero_mul _))
theorem io_addF (r : Nat → R) : ∀ (cs : List Nat) (F G : List Nat → R), io r cs (fun l => F l + G l) = io r cs F + io r cs G
 | [], _, _ => by simp only [io]; rw [add_zero]
 | c :: cs, F, G => by
  simp only [io]; rw [io_addF r cs (fun l => F (c :: l)) (fun l => G (c :: l))]
  exact by_ring [r c, F cs, G cs, io r cs (fun l => F (c :: l)), io r cs (fun l => G (c :: l))] (X0 * (X1 + X2) - (X3 + X4)) (X0 * X1 - X3 + (X0 * X2 - X4)) rfl
theorem io_mulF (r : Nat → R) (x : R) : ∀ (cs : List Nat) (F : List Nat → R), io r cs (fun l => x * F l) = x * io r cs F
 | [], _ => by simp only [io]; rw [mul_zero]
 | c :: cs, F => by
  simp only [io]; rw [io_mulF r x cs (fun l => F (c :: l))]
  exact by_ring [r c, x, F cs, io r cs (fun l => F (c :: l))] (X0 * (X1 * X2) - X1 * X3) (X1 * (X0 * X2 - X3)) rfl
theorem io_zeroF (r : Nat → R) (cs : List Nat) : io r cs (fun _ => (0 : R)) = 0 := by
 exact (io_congr cs (fun c _ => rfl) (fun _ _ => (zero_mul (0 : R)).symm)).trans ((io_mulF r (0 : R) cs (fun _ => 0)).trans (zero_mul _))
theorem io_negF (r : Nat → R) (cs : List Nat) (F : List Nat → R) : io r cs (fun l => -F l) = -io r cs F := by
 rw [io_congr cs (G := fun l => -1 * F l) (fun _ _ => rfl) (fun l _ => by rw [neg_mul, one_mul]), io_mulF, neg_mul, one_mul]
theorem io_subF (r : Nat → R) (cs : List Nat) (F G : List Nat → R) : io r cs (fun l => F l - G l) = io r cs F - io r cs G := by
 rw [io_congr cs (G := fun l => F l + -G l) (fun _ _ => rfl) (fun l _ => sub_eq _ _), io_addF, io_negF, ← sub_eq]
theorem io_anti (r s : Nat → R) : ∀ (cs : List Nat) (F : List Nat → R), io r cs (fun l => io s l F) = -io s cs (fun l => io r l F)
 | [], _ => by simp only [io]; rw [neg_zero]
 | c :: cs, F => by
  have h := io_anti r s cs (fun l => F (c :: l))
  simp only [io]
  rw [io_subF, io_mulF, io_subF, io_mulF, h]
  exact by_ring [r c, s c, io s cs F, io r cs F, io s cs (fun l => io r l fun l => F (c :: l))] (X0 * X2 - (X1 * X3 - -X4)) (-(X1 * X3 - (X0 * X2 - X4))) rfl
theorem io_self (r : Nat → R) : ∀ (cs : List Nat) (F : List Nat → R), io r cs (fun l => io r l F) = 0
 | [], _ => by simp only [io]
 | c :: cs, F => by
  have h := io_self r cs (fun l => F (c :: l))
  simp only [io]
  rw [io_subF, io_mulF, h]
  exact by_ring [r c, io r cs F] (X0 * X1 - (X0 * X1 - 0)) 0 rfl
def ops : List (Nat → R) → (List Nat → R) → List Nat → R
 | [], F, cs => F cs
 | r :: rs, F, cs => io r cs (ops rs F)
theorem ops_kill (r : Nat → R) : ∀ (rs : List (Nat → R)), r ∈ rs → ∀ (F : List Nat → R) (cs : List Nat), io r cs (ops rs F) = 0
 | [], h, _, _ => by simp at h
 | s :: rs, h, F, cs => by
  show io r cs (fun l => io s l (ops rs F)) = 0
  rcases List.mem_cons.1 h with rfl | h
  ·exact io_self _ _ _
  ·rw [io_anti, io_congr cs (G := fun _ => 0) (fun _ _ => rfl) (fun l _ => ops_kill r rs h F l), io_zeroF, neg_zero]
theorem ops_same : ∀ (rs : List (Nat → R)) (i j : Nat) (r : Nat → R), i < j → rs[i]? = some r → rs[j]? = some r → ∀ (F : List Nat → R) (cs : List Nat), ops rs F cs = 0
 | [], i, j, r, _, h, _, _, _ => by simp at h
 | s :: rs, 0, j + 1, r, _, h, k, F, cs => by
  simp at h; subst h
  exact ops_kill s rs (List.mem_of_getElem? (by simpa using k)) F cs
 | s :: rs, i + 1, j + 1, r, hij, h, k, F, cs => by
  simp only [ops]
  rw [io_congr cs (G := fun _ => 0) (fun _ _ => rfl) (fun l _ => ops_same rs i j r (by omega) (by simpa using h) (by simpa using k) F l), io_zeroF]
theorem ops_lin (x y : R) (r s : Nat → R) : ∀ (rs : List (Nat → R)) (i : Nat), i < rs.length → ∀ (F : List Nat → R) (cs : List Nat),
  ops (rs.set i (fun c => x * r c + y * s c)) F cs = x * ops (rs.set i r) F cs + y * ops (rs.set i s) F cs
 | [], i, h, _, _ => by simp at h
 | t :: rs, 0, _, F, cs => by simp only [List.set_cons_zero, ops]; rw [io_add, io_mul, io_mul]
 | t :: rs, i + 1, h, F, cs => by
  simp only [List.set_cons_succ, ops]
  rw [← io_mulF, ← io_mulF, ← io_addF]
  exact io_congr cs (fun _ _ => rfl) (fun l _ => ops_lin x y r s rs i (by simpa using h) F l)
def sg (k : Nat) (x : R) : R := if k % 2 = 1 then -x else x
theorem sg_zero (x : R) : sg 0 x = x := rfl
theorem sg_succ (k : Nat) (x : R) : sg (k + 1) x = -sg k x := by
 unfold sg
 rcases Nat.mod_two_eq_zero_or_one k with h | h
 ·rw [if_pos (by omega), if_neg (by omega)]
 ·rw [if_neg (by omega), if_pos h, neg_neg]
theorem sg_mul (k : Nat) (x y : R) : sg k (x * y) = x * sg k y := by unfold sg; split <;> simp [mul_neg]
theorem sg_mul' (k : Nat) (x y : R) : sg k (x * y) = sg k x * y := by unfold sg; split <;> simp [neg_mul]
theorem io_sum (r : Nat → R) : ∀ (cs : List Nat) (F : List Nat → R), io r cs F = sm cs.length (fun k => sg k (r (cs.getD k 0) * F (cs.eraseIdx k)))
 | [], _ => rfl
 | c :: cs, F => by
  simp only [io, List.length_cons]
  rw [sm_head, io_sum r cs (fun l => F (c :: l)), sub_eq, ← sm_neg]
  congr 1
  exact sm_congr fun i _ => by rw [sg_succ]; simp
def mnr (A : Nat → Nat → R) (k : Nat) : Nat → Nat → R := fun i j => A (i + 1) (if j < k then j else j + 1)
def dn : Nat → (Nat → Nat → R) → R
 | 0, _ => 1
 | n + 1, A => sm (n + 1) (fun k => sg k (A 0 k * dn n (mnr A k)))
theorem dn_congr : ∀ (n : Nat) {A B : Nat → Nat → R}, (∀ i j, i < n → j < n → A i j = B i j) → dn n A = dn n B
 | 0, _, _, _ => rfl
 | n + 1, A, B, h => by
  simp only [dn]
  refine sm_congr fun k hk => ?_
  rw [h 0 k (by omega) hk, dn_congr n (A := mnr A k) (B := mnr B k) (fun i j hi hj => h _ _ (by omega) (by split <;> omega))]
theorem ops_dn : ∀ (n : Nat) (A : Nat → Nat → R) (cs : List Nat), cs.length = n → ops (rows n A) (fun _ => 1) cs = dn n (fun i j => A i (cs.getD j 0))
 | 0, _, _, _ => rfl
 | n + 1, A, cs, h => by
  simp only [rows, ops, dn]
  rw [io_sum, h]
  refine sm_congr fun k hk => ?_
  rw [ops_dn n _ _ (by rw [List.length_eraseIdx, if_pos (by omega)]; omega)]
  congr 2
  refine dn_congr n fun i j _ hj => ?_
  unfold mnr
  congr 1
  simp only [List.getD, List.getElem?_eraseIdx]
  split <;> rfl
theorem dn_ops (n : Nat) (A : Nat → Nat → R) : dn n A = ops (rows n A) (fun _ => 1) (List.range n) := by
 rw [ops_dn n A _ (by simp)]
 exact dn_congr n fun i j _ hj => by simp [List.getD, hj]
theorem dn_lin (n : Nat) (A : Nat → Nat → R) (i : Nat) (hi : i < n) (x y : R) (r s : Nat → R) :
  dn n (upd A i (fun c => x * r c + y * s c)) = x * dn n (upd A i r) + y * dn n (upd A i s) := by
 rw [dn_ops, dn_ops, dn_ops, rows_upd n A i hi, rows_upd n A i hi, rows_upd n A i hi]
 exact ops_lin x y r s _ i (by rw [rows_len]; exact hi) _ _
theorem dn_rep {n : Nat} {A : Nat → Nat → R} {i j : Nat} (hij : i < j) (hj : j < n) (h : A i = A j) : dn n A = 0 := by
 rw [dn_ops]
 exact ops_same _ i j (A i) hij (rows_get n A i (by omega)) (by rw [rows_get n A j hj, h]) _ _
theorem dn_rep' {n : Nat} {A : Nat → Nat → R} {i j : Nat} (hij : i ≠ j) (hi : i < n) (hj : j < n) (h : A i = A j) : dn n A = 0 := by
 rcases Nat.lt_or_gt_of_ne hij with hl | hl
 ·exact dn_rep hl hj h
 ·exact dn_rep hl hi h.symm
theorem dn_scale (n : Nat) (A : Nat → Nat → R) (i : Nat) (hi : i < n) (x : R) (r : Nat → R) : dn n (upd A i (fun c => x * r c)) = x * dn n (upd A i r) := by
 refine (dn_congr n fun a j _ _ => ?_).trans ((dn_lin n A i hi x 0 r r).trans (by rw [zero_mul, add_zero]))
 unfold upd; split
 ·show x * r j = x * r j + 0 * r j
  rw [zero_mul, add_zero]
 ·rfl
theorem dn_mix (n : Nat) (A : Nat → Nat → R) {i j : Nat} (h : i ≠ j) (hi : i < n) (hj : j < n) (a b c d : R) :
  dn n (upd (upd A i (fun k => a * A i k + b * A j k)) j (fun k => c * A i k + d * A j k)) = (a * d - b * c) * dn n A := by
 have lin2 : ∀ r s t x y, dn n (upd (upd A i r) j (fun k => x * s k + y * t k)) = x * dn n (upd (upd A i r) j s) + y * dn n (upd (upd A i r) j t) :=
  fun r s t x y => dn_lin n _ j hj x y s t
 have lin1 : ∀ r s t x y, dn n (upd (upd A i (fun k => x * s k + y * t k)) j r) = x * dn n (upd (upd A i s) j r) + y * dn n (upd (upd A i t) j r) := by
  intro r s t x y
  rw [upd_comm A h, upd_comm A h, upd_comm A h]; exact dn_lin n _ i hi x y s t
 have rep : ∀ r, dn n (upd (upd A i r) j r) = 0 := fun r => dn_rep' h hi hj (by rw [upd_same, upd_ne _ _ h, upd_same])
 have e : upd (upd A i (A i)) j (A j) = A := by rw [upd_self, upd_self]
 have sw : dn n A + dn n (upd (upd A i (A j)) j (A i)) = 0 := by
  have h1 := rep (fun k => 1 * A i k + 1 * A j k)
  rw [lin1, lin2, lin2, rep, rep, e] at h1
  rw [← h1]
  exact by_ring [dn n A, dn n (upd (upd A i (A j)) j (A i))] (X0 + X1) (1 * (1 * 0 + 1 * X0) + 1 * (1 * X1 + 1 * 0)) rfl
 rw [lin1, lin2, lin2, rep, rep, e, neg_unique sw]
 exact by_ring [a, b, c, d, dn n A] (X0 * (X2 * 0 + X3 * X4) + X1 * (X2 * -X4 + X3 * 0)) ((X0 * X3 - X1 * X2) * X4) rfl
def ls : List Nat → (Nat → R) → R
 | [], _ => 0
 | j :: js, f => f j + ls js f
theorem ls_range_aux (f : Nat → R) : ∀ n k, ls (List.range' k n) f = sm n (fun i => f (k + i))
 | 0, _ => rfl
 | n + 1, k => by
  rw [List.range'_succ, sm_head]; simp only [ls]
  rw [ls_range_aux f n (k + 1)]
  congr 1
  exact sm_congr fun i _ => by rw [show k + 1 + i = k + (i + 1) by omega]
theorem ls_range (f : Nat → R) (n : Nat) : ls (List.range n) f = sm n f := by
 rw [List.range_eq_range', ls_range_aux]; exact sm_congr fun i _ => by rw [Nat.zero_add]
theorem ls_erase (f : Nat → R) : ∀ (js : List Nat) (k : Nat), k < js.length → ls js f = f (js.getD k 0) + ls (js.eraseIdx k) f
 | [], _, h => by simp at h
 | j :: js, 0, _ => rfl
 | j :: js, k + 1, h => by
  simp only [ls, List.eraseIdx_cons_succ]
  rw [ls_erase f js k (by simpa using h), add_left_comm]; simp
theorem ops_blind (b : Nat → R) (x : (Nat → R) → R) (g : (Nat → R) → Nat → R) : ∀ (as : List (Nat → R)) (F : List Nat → R) (cs : List Nat),
  io b cs (ops (as.map fun a => fun c => g a c + x a * b c) F) = io b cs (ops (as.map g) F)
 | [], _, _ => rfl
 | a :: as, F, cs => by
  simp only [List.map_cons]
  show io b cs (fun l => io (fun c => g a c + x a * b c) l (ops (as.map fun a => fun c => g a c + x a * b c) F)) = io b cs (fun l => io (g a) l (ops (as.map g) F))
  have h : ∀ G : List Nat → R, io b cs (fun l => io (fun c => g a c + x a * b c) l G) = io b cs (fun l => io (g a) l G) := by
   intro G
   rw [io_congr cs (G := fun l => io (g a) l G + x a * io b l G) (fun _ _ => rfl) (fun l _ => by rw [io_add, io_mul]), io_addF, io_mulF, io_self, mul_zero, add_zero]
  rw [h, io_anti, io_anti b]
  exact congrArg (fun z => -z) (io_congr cs (fun _ _ => rfl) (fun l _ => ops_blind b x g as F l))
theorem ops_front (B : Nat → Nat → R) : ∀ (js : List Nat) (k : Nat), k < js.length → ∀ (F : List Nat → R) (cs : List Nat),
  io (B (js.getD k 0)) cs (ops ((js.eraseIdx k).map B) F) = sg k (ops (js.map B) F cs)
 | [], _, h, _, _ => by simp at h
 | j :: js, 0, _, F, cs => rfl
 | j :: js, k + 1, h, F, cs => by
  simp only [List.eraseIdx_cons_succ, List.map_cons, List.getD_cons_succ]
  show io (B (js.getD k 0)) cs (fun l => io (B j) l (ops ((js.eraseIdx k).map B) F)) = sg (k + 1) (io (B j) cs (ops (js.map B) F))
  rw [io_anti, io_congr cs (G := fun l => sg k (ops (js.map B) F l)) (fun _ _ => rfl) (fun l _ => ops_front B js k (by simpa using h) F l), sg_succ]
  congr 1
  unfold sg
  split
  ·exact io_negF _ _ _
  ·rfl
theorem io_sums (f : Nat → R) (B : Nat → Nat → R) (cs : List Nat) (F : List Nat → R) : ∀ n, io (fun c => sm n (fun k => f k * B k c)) cs F = sm n (fun k => f k * io (B k) cs F)
 | 0 => io_zero cs F
 | n + 1 => by simp only [sm]; rw [io_add, io_mul, io_sums f B cs F n]
theorem ls_sm (f : Nat → R) : ∀ js : List Nat, ls js f = sm js.length (fun k => f (js.getD k 0))
 | [] => rfl
 | j :: js => by
  simp only [ls, List.length_cons]; rw [sm_head, ls_sm f js]
  rfl
theorem ops_comb (B : Nat → Nat → R) : ∀ (as : List (Nat → R)) (js : List Nat), as.length = js.length → ∀ (F : List Nat → R) (cs : List Nat),
  ops (as.map fun a => fun c => ls js fun j => a j * B j c) F cs = ops as (fun _ => 1) js * ops (js.map B) F cs
 | [], [], _, F, cs => by simp only [List.map_nil, ops]; rw [one_mul]
 | [], _ :: _, h, _, _ => by simp at h
 | _ :: _, [], h, _, _ => by simp at h
 | a :: as, j0 :: js0, h, F, cs => by
  generalize hjs : j0 :: js0 = js at h ⊢
  simp only [List.map_cons, ops]
  rw [io_congr cs (s := fun c => sm js.length (fun k => a (js.getD k 0) * B (js.getD k 0) c)) (F := ops (as.map fun a => fun c => ls js fun j => a j * B j c) F) (fun c _ => ls_sm _ js) (fun _ _ => rfl),
   io_sums (fun k => a (js.getD k 0)) (fun k => B (js.getD k 0)), io_sum, mul_comm, ← sm_mul]
  refine sm_congr fun k hk => ?_
  have e1 : (fun (a : Nat → R) => fun c => ls js fun j => a j * B j c) = (fun a => fun c => (fun c => ls (js.eraseIdx k) fun j => a j * B j c) c + (fun a : Nat → R => a (js.getD k 0)) a * B (js.getD k 0) c) := by
   funext a c; rw [ls_erase _ js k hk, add_comm]
  rw [e1, ops_blind (B (js.getD k 0)) (fun a => a (js.getD k 0)) (fun a => fun c => ls (js.eraseIdx k) fun j => a j * B j c) as F cs]
  have e2 := fun l => ops_comb B as (js.eraseIdx k) (by rw [List.length_eraseIdx, if_pos hk]; simp at h; omega) F l
  rw [io_congr cs (G := fun l => ops as (fun _ => 1) (js.eraseIdx k) * ops ((js.eraseIdx k).map B) F l) (fun _ _ => rfl) (fun l _ => e2 l), io_mulF, ops_front B js k hk]
  unfold sg
  split
  ·exact by_ring [a (js.getD k 0), ops as (fun _ => 1) (js.eraseIdx k), ops (js.map B) F cs] (X0 * (X1 * -X2)) (X2 * -(X0 * X1)) rfl
  ·exact by_ring [a (js.getD k 0), ops as (fun _ => 1) (js.eraseIdx k), ops (js.map B) F cs] (X0 * (X1 * X2)) (X2 * (X0 * X1)) rfl
def mm (n : Nat) (A B : Nat → Nat → R) : Nat → Nat → R := fun i k => sm n (fun j => A i j * B j k)
def one1 : Nat → Nat → R := fun i k => if i = k then 1 else 0
theorem dn_mul (n : Nat) (A B : Nat → Nat → R) : dn n (mm n A B) = dn n A * dn n B := by
 rw [dn_ops n (mm n A B), dn_ops n A, dn_ops n B, ← range_map_rows n B, ← ops_comb B (rows n A) (List.range n) (by rw [rows_len]; simp), rows_map]
 congr 2
 funext i c
 rw [ls_range]; rfl
theorem mm_assoc (n m : Nat) (A B C : Nat → Nat → R) : mm m (mm n A B) C = mm n A (mm m B C) := by
 funext i k
 show sm m (fun j => sm n (fun t => A i t * B t j) * C j k) = sm n (fun t => A i t * sm m (fun j => B t j * C j k))
 rw [sm_congr (g := fun j => sm n (fun t => A i t * (B t j * C j k))) (fun j _ => by
  rw [mul_comm, ← sm_mul]; exact sm_congr fun t _ => by rw [mul_comm, mul_assoc]), sm_swap]
 exact sm_congr fun t _ => by rw [← sm_mul]
theorem dn_one : ∀ n : Nat, dn n (one1 : Nat → Nat → R) = 1
 | 0 => rfl
 | n + 1 => by
  simp only [dn]
  rw [sm_one (k := 0) (by omega) (fun i _ hi => by
   unfold one1; rw [if_neg (fun e => hi e.symm), zero_mul]; unfold sg; split
   ·exact neg_zero
   ·rfl), sg_zero]
  show (if (0 : Nat) = 0 then (1 : R) else 0) * _ = 1
  rw [if_pos rfl, one_mul, ← dn_one n]
  refine dn_congr n fun i j _ _ => ?_
  unfold mnr one1
  rw [if_neg (Nat.not_lt_zero _)]
  by_cases h : i = j
  ·rw [if_pos h, if_pos (by omega)]
  ·rw [if_neg h, if_neg (by omega)]
end
end Go.Proofs.Ytkmfhabgempjiaa
/- Plain algebra: matrices with sides, over a commutative ring: sums, products, powers, inverses. -/
namespace Go.Proofs.Ytkmfhabgempjiaa
open CR
structure MT (R : Type) [CR R] (n m : Nat) where
 e : Nat → Nat → R
 out : ∀ i k, n ≤ i ∨ m ≤ k → e i k = 0
section
variable {R : Type} [CR R] {n m l q : Nat}
theorem MT.ext {A B : MT R n m} (h : ∀ i k, i < n → k < m → A.e i k = B.e i k) : A = B := by
 obtain ⟨a, ha⟩ := A; obtain ⟨b, hb⟩ := B
 have : a = b := by
  funext i k
  by_cases hi : i < n
  ·by_cases hk : k < m
   ·exact h i k hi hk
   ·rw [ha i k (.inr (by omega)), hb i k (.inr (by omega))]
  ·rw [ha i k (.inl (by omega)), hb i k (.inl (by omega))]
 subst this; rfl
def MT.of (n m : Nat) (f : Nat → Nat → R) : MT R n m := ⟨fun i k => if i < n ∧ k < m then f i k else 0, fun _ _ h => if_neg (by omega)⟩
theorem MT.of_e (f : Nat → Nat → R) {i k : Nat} (hi : i < n) (hk : k < m) : (MT.of n m f).e i k = f i k := if_pos ⟨hi, hk⟩
theorem MT.of_congr {f g : Nat → Nat → R} (h : ∀ i k, i < n → k < m → f i k = g i k) : MT.of n m f = MT.of n m g :=
 MT.ext fun i k hi hk => by rw [MT.of_e f hi hk, MT.of_e g hi hk, h i k hi hk]
instance : Zero (MT R n m) := ⟨⟨fun _ _ => 0, fun _ _ _ => rfl⟩⟩
instance : Add (MT R n m) := ⟨fun A B => ⟨fun i k => A.e i k + B.e i k, fun i k h => by rw [A.out i k h, B.out i k h, zero_add]⟩⟩
instance : HMul (MT R n m) (MT R m l) (MT R n l) := ⟨fun A B => ⟨mm m A.e B.e, fun i k h => sm_zero' fun j _ => by
 rcases h with h | h
 ·rw [A.out i j (.inl h), zero_mul]
 ·rw [B.out j k (.inr h), mul_zero]⟩⟩
def MT.one (n : Nat) : MT R n n := MT.of n n one1
theorem MT.e_zero (i k : Nat) : (0 : MT R n m).e i k = 0 := rfl
theorem MT.e_add (A B : MT R n m) (i k : Nat) : (A + B).e i k = A.e i k + B.e i k := rfl
theorem MT.e_mul (A : MT R n m) (B : MT R m l) (i k : Nat) : (A * B).e i k = sm m (fun j => A.e i j * B.e j k) := rfl
theorem MT.e_one {i k : Nat} (hi : i < n) (hk : k < n) : (MT.one n : MT R n n).e i k = if i = k then 1 else 0 := MT.of_e one1 hi hk
theorem MT.mul_assoc (A : MT R n m) (B : MT R m l) (C : MT R l q) : A * B * C = A * (B * C) := MT.ext fun i k _ _ => congrFun (congrFun (mm_assoc m l A.e B.e C.e) i) k
theorem MT.mul_one (A : MT R n m) : A * (MT.one m : MT R m m) = A := MT.ext fun i k _ hk => by
 rw [MT.e_mul, sm_one hk (fun j hj hn => by rw [MT.e_one hj hk, if_neg hn, mul_zero]), MT.e_one hk hk, if_pos rfl, CR.mul_one]
theorem MT.one_mul (A : MT R n m) : (MT.one n : MT R n n) * A = A := MT.ext fun i k hi _ => by
 rw [MT.e_mul, sm_one hi (fun j hj hn => by rw [MT.e_one hi hj, if_neg (fun e => hn e.symm), zero_mul]), MT.e_one hi hi, if_pos rfl, CR.one_mul]
theorem MT.mul_add (A : MT R n m) (B C : MT R m l) : A * (B + C) = A * B + A * C := MT.ext fun i k _ _ => by
 rw [MT.e_add, MT.e_mul, MT.e_mul, MT.e_mul, ← sm_add]; exact sm_congr fun j _ => by rw [MT.e_add, CR.mul_add]
theorem MT.mul_zero (A : MT R n m) : A * (0 : MT R m l) = 0 := MT.ext fun i k _ _ => by
 rw [MT.e_mul, MT.e_zero]; exact sm_zero' fun j _ => by rw [MT.e_zero, CR.mul_zero]
theorem MT.add_assoc (A B C : MT R n m) : A + B + C = A + (B + C) := MT.ext fun i k _ _ => by simp only [MT.e_add]; rw [CR.add_assoc]
theorem MT.add_comm (A B : MT R n m) : A + B = B + A := MT.ext fun i k _ _ => by simp only [MT.e_add]; rw [CR.add_comm]
theorem MT.zero_add (A : MT R n m) : 0 + A = A := MT.ext fun i k _ _ => by rw [MT.e_add, MT.e_zero, CR.zero_add]
theorem MT.add_zero (A : MT R n m) : A + 0 = A := by rw [MT.add_comm, MT.zero_add]
theorem MT.zero_of {A : MT R n m} (h : ∀ i k, i < n → k < m → A.e i k = 0) : A = 0 := MT.ext h
def MT.det (A : MT R n n) : R := dn n A.e
theorem MT.det_mul (A B : MT R n n) : (A * B).det = A.det * B.det := dn_mul n A.e B.e
theorem MT.det_one : (MT.one n : MT R n n).det = 1 := by
 refine (dn_congr n fun i k hi hk => ?_).trans (dn_one n)
 rw [MT.e_one hi hk]; rfl
def MT.tr (A : MT R n m) : MT R m n := ⟨fun i k => A.e k i, fun i k h => A.out k i h.symm⟩
theorem MT.e_tr (A : MT R n m) (i k : Nat) : A.tr.e i k = A.e k i := rfl
theorem MT.tr_mul (A : MT R n m) (B : MT R m l) : (A * B).tr = B.tr * A.tr := MT.ext fun i k _ _ => by
 rw [MT.e_tr, MT.e_mul, MT.e_mul]; exact sm_congr fun j _ => by rw [MT.e_tr, MT.e_tr, CR.mul_comm]
theorem MT.tr_one : (MT.one n : MT R n n).tr = MT.one n := MT.ext fun i k hi hk => by
 rw [MT.e_tr, MT.e_one hk hi, MT.e_one hi hk]
 by_cases h : i = k
 ·rw [if_pos h, if_pos h.symm]
 ·rw [if_neg h, if_neg (fun e => h e.symm)]
def Inv (A : MT R n m) (B : MT R m n) : Prop := A * B = MT.one n ∧ B * A = MT.one m
theorem Inv.symm {A : MT R n m} {B : MT R m n} (h : Inv A B) : Inv B A := ⟨h.2, h.1⟩
theorem Inv.one : Inv (MT.one n : MT R n n) (MT.one n) := ⟨MT.mul_one _, MT.mul_one _⟩
theorem Inv.mul {A : MT R n m} {B : MT R m n} {C : MT R m l} {D : MT R l m} (h : Inv A B) (k : Inv C D) : Inv (A * C) (D * B) := by
 constructor
 ·rw [MT.mul_assoc, ← MT.mul_assoc C, k.1, MT.one_mul, h.1]
 ·rw [MT.mul_assoc, ← MT.mul_assoc B, h.2, MT.one_mul, k.2]
theorem Inv.det {A B : MT R n n} (h : Inv A B) : A.det * B.det = 1 := by rw [← MT.det_mul, h.1, MT.det_one]
theorem dn_row0 {A : Nat → Nat → R} {i : Nat} (hi : i < n) (h : ∀ k, k < n → A i k = 0) : dn n A = 0 := by
 refine (dn_congr n fun a k _ hk => ?_).trans ((dn_scale n A i hi 0 (A i)).trans (CR.zero_mul _))
 unfold upd; split
 ·rename_i h1; subst h1; rw [h k hk]; exact (CR.zero_mul _).symm
 ·rfl
def MT.pow (A : MT R n n) : Nat → MT R n n
 | 0 => MT.one n
 | k + 1 => A.pow k * A
theorem MT.pow_succ (A : MT R n n) (k : Nat) : A.pow (k + 1) = A.pow k * A := rfl
theorem MT.pow_add (A : MT R n n) (a : Nat) : ∀ b, A.pow (a + b) = A.pow a * A.pow b
 | 0 => (MT.mul_one _).symm
 | b + 1 => by rw [← Nat.add_assoc, MT.pow_succ, MT.pow_add A a b, MT.pow_succ, MT.mul_assoc]
def ms : Nat → (Nat → MT R n m) → MT R n m
 | 0, _ => 0
 | k + 1, f => ms k f + f k
theorem ms_e (f : Nat → MT R n m) (i k : Nat) : ∀ N, (ms N f).e i k = sm N (fun j => (f j).e i k)
 | 0 => rfl
 | N + 1 => by simp only [ms, sm]; rw [MT.e_add, ms_e f i k N]
theorem ms_congr {N : Nat} {f g : Nat → MT R n m} (h : ∀ j, j < N → f j = g j) : ms N f = ms N g :=
 MT.ext fun i k _ _ => by rw [ms_e, ms_e]; exact sm_congr fun j hj => by rw [h j hj]
theorem ms_mul (A : MT R l n) (f : Nat → MT R n m) : ∀ N, A * ms N f = ms N (fun j => A * f j)
 | 0 => MT.mul_zero A
 | N + 1 => by simp only [ms]; rw [MT.mul_add, ms_mul A f N]
end
end Go.Proofs.Ytkmfhabgempjiaa
/- Plain algebra: rows that are reduced, over the whole numbers by a prime. -/
namespace Go.Proofs.Ytkmfhabgempjiaa
open CR
section
variable {R : Type} [CR R] {n m l : Nat}
def scl (W : Nat → Nat → R) (t : Nat) (c : R) : Nat → Nat → R := fun r k => if r = t then W r k * c else W r k
def Rq (n m : Nat) (W V : Nat → Nat → R) : Prop := ∃ T T' : MT R n n, Inv T T' ∧ MT.of n m V = T * MT.of n m W
theorem Rq.refl (W : Nat → Nat → R) : Rq n m W W := ⟨_, _, Inv.one, (MT.one_mul _).symm⟩
theorem Rq.trans {W V U : Nat → Nat → R} (h : Rq n m W V) (k : Rq n m V U) : Rq n m W U := by
 obtain ⟨T, T', h1, h2⟩ := h
 obtain ⟨S, S', k1, k2⟩ := k
 exact ⟨S * T, T' * S', k1.mul h1, by rw [k2, h2, MT.mul_assoc]⟩
theorem Rq.of {W V : Nat → Nat → R} {f g : Nat → Nat → R} (h1 : Inv (MT.of n n f) (MT.of n n g)) (h : ∀ i k, i < n → k < m → V i k = sm n (fun j => f i j * W j k)) : Rq n m W V :=
 ⟨_, _, h1, MT.ext fun i k hi hk => by
  rw [MT.of_e _ hi hk, MT.e_mul, h i k hi hk]
  exact sm_congr fun j hj => by rw [MT.of_e _ hi hj, MT.of_e _ hj hk]⟩
theorem inv_of {f g : Nat → Nat → R} (h : ∀ i k, i < n → k < n → sm n (fun j => f i j * g j k) = if i = k then 1 else 0) (h' : ∀ i k, i < n → k < n → sm n (fun j => g i j * f j k) = if i = k then 1 else 0) :
  Inv (MT.of n n f) (MT.of n n g) := by
 constructor
 ·refine MT.ext fun i k hi hk => ?_
  rw [MT.e_mul, MT.e_one hi hk, ← h i k hi hk]
  exact sm_congr fun j hj => by rw [MT.of_e _ hi hj, MT.of_e _ hj hk]
 ·refine MT.ext fun i k hi hk => ?_
  rw [MT.e_mul, MT.e_one hi hk, ← h' i k hi hk]
  exact sm_congr fun j hj => by rw [MT.of_e _ hi hj, MT.of_e _ hj hk]
theorem sm_two {N a b : Nat} {f : Nat → R} (ha : a < N) (hb : b < N) (hab : a ≠ b) (h : ∀ i, i < N → i ≠ a → i ≠ b → f i = 0) : sm N f = f a + f b := by
 have e : sm N f = sm N (fun i => (if i = a then f a else 0) + (if i = b then f b else 0)) := by
  refine sm_congr fun i hi => ?_
  by_cases h1 : i = a
  ·subst h1; rw [if_pos rfl, if_neg hab, add_zero]
  ·by_cases h2 : i = b
   ·subst h2; rw [if_neg h1, if_pos rfl, zero_add]
   ·rw [if_neg h1, if_neg h2, zero_add, h i hi h1 h2]
 rw [e, sm_add, sm_one ha (fun i _ hi => if_neg hi), if_pos rfl, sm_one hb (fun i _ hi => if_neg hi), if_pos rfl]
theorem Rq.scl {W : Nat → Nat → R} {t : Nat} {c d : R} (h : c * d = 1) : Rq n m W (scl W t c) := by
 have h' : d * c = 1 := by rw [mul_comm]; exact h
 have dg : ∀ (a b : R), a * b = 1 → ∀ r k, r < n → k < n → sm n (fun j => (if r = j then (if r = t then a else 1) else 0) * (if j = k then (if j = t then b else 1) else 0)) = if r = k then 1 else 0 := by
  intro a b hab r k hr hk
  rw [sm_one hr (fun j _ hj => by rw [if_neg (fun e => hj e.symm), zero_mul]), if_pos rfl]
  by_cases e : r = k
  ·subst e; rw [if_pos rfl, if_pos rfl]
   split
   ·exact hab
   ·exact mul_one _
  ·rw [if_neg e, if_neg e, mul_zero]
 refine Rq.of (inv_of (dg c d h) (dg d c h')) (fun r k hr hk => ?_)
 rw [sm_one hr (fun j _ hj => by rw [if_neg (fun e => hj e.symm), zero_mul]), if_pos rfl]
 unfold Go.Proofs.Ytkmfhabgempjiaa.scl
 split
 ·exact mul_comm _ _
 ·rw [one_mul]
end
end Go.Proofs.Ytkmfhabgempjiaa
/- Plain algebra: the reduced form, column by column; what it tells of rank, determinant, inverse, solutions, kernel. -/
namespace Go.Proofs.Ytkmfhabgempjiaa
open CR
section
variable {p : Nat} {n m : Nat}
theorem getD_app {P : List Nat} {x t : Nat} (h : t < (P ++ [x]).length) : (t < P.length ∧ (P ++ [x]).getD t 0 = P.getD t 0) ∨ (t = P.length ∧ (P ++ [x]).getD t 0 = x) := by
 by_cases e : t < P.length
 ·exact .inl ⟨e, by simp [List.getD, List.getElem?_append_left e]⟩
 ·have : t = P.length := by simp at h; omega
  subst this; exact .inr ⟨rfl, by simp [List.getD]⟩
section
variable {C : Nat} {W0 W : Nat → Nat → Zp p} {P : List Nat} {d : Zp p}
def Incr (P : List Nat) (C : Nat) : Prop := (∀ t, t < P.length → P.getD t 0 < C) ∧ ∀ s t, s < t → t < P.length → P.getD s 0 < P.getD t 0
end
end
end Go.Proofs.Ytkmfhabgempjiaa
/- Plain algebra: inverses, solutions and kernels by the reduced form. -/
namespace Go.Proofs.Ytkmfhabgempjiaa
open CR
section
variable {p : Nat} {n m C : Nat} {W0 W : Nat → Nat → Zp p} {P : List Nat} {d : Zp p}
def free (C : Nat) (P : List Nat) : List Nat := (List.range C).filter fun k => !P.contains k
end
end Go.Proofs.Ytkmfhabgempjiaa
/- Plain algebra: polynomials at matrices; every matrix makes noughts of its characteristic polynomial. -/
namespace Go.Proofs.Ytkmfhabgempjiaa
open CR
section
variable {R : Type} [CR R] {n m l : Nat}
theorem sm_c (f : Nat → Pol R) (t : Nat) : ∀ N, (sm N f).c t = sm N (fun j => (f j).c t)
 | 0 => rfl
 | N + 1 => by simp only [sm]; rw [Pol.c_add, sm_c f t N]
def XA (A : MT R n n) : MT (Pol R) n n := MT.of n n fun i k => (if i = k then mon 1 1 else 0) - mon (A.e i k) 0
def chi (A : MT R n n) : Pol R := (XA A).det
def cf (B : MT (Pol R) n m) (t : Nat) : MT R n m := ⟨fun i k => (B.e i k).c t, fun i k h => by rw [B.out i k h]; rfl⟩
theorem cf_e (B : MT (Pol R) n m) (t i k : Nat) : (cf B t).e i k = (B.e i k).c t := rfl
theorem c_mon1 (f : Pol R) (t : Nat) : (mon (1 : R) 1 * f).c t = if t = 0 then 0 else f.c (t - 1) := by
 rw [Pol.c_mul]
 cases t with
 | zero => rw [if_pos rfl]; simp only [sm]; rw [c_mon, if_neg (by omega), zero_mul, zero_add]
 | succ t =>
  rw [if_neg (by omega), sm_one (k := 1) (by omega) (fun i _ hi => by rw [c_mon, if_neg hi, zero_mul]), c_mon, if_pos rfl, one_mul]
theorem MT.bound (B : MT (Pol R) n m) : ∃ N, ∀ t, N ≤ t → cf B t = 0 := by
 have H : ∀ a b, ∃ N, ∀ t, N ≤ t → ∀ i k, i < a → k < b → (B.e i k).c t = 0 := by
  intro a b
  induction a with
  | zero => exact ⟨0, fun t _ i k h => by omega⟩
  | succ a ih =>
   obtain ⟨N1, h1⟩ := ih
   have : ∃ N, ∀ t, N ≤ t → ∀ k, k < b → (B.e a k).c t = 0 := by
    induction b with
    | zero => exact ⟨0, fun t _ k h => by omega⟩
    | succ b ihb =>
     obtain ⟨N2, h2⟩ := ihb (fun t ht i k hi hk => h1 t ht i k hi (by omega))
     obtain ⟨N3, h3⟩ := (B.e a b).fin
     refine ⟨N2 + N3, fun t ht k hk => ?_⟩
     by_cases e : k = b
     ·rw [e]; exact h3 t (by omega)
     ·exact h2 t (by omega) k (by omega)
   obtain ⟨N2, h2⟩ := this
   refine ⟨N1 + N2, fun t ht i k hi hk => ?_⟩
   by_cases e : i = a
   ·rw [e]; exact h2 t (by omega) k hk
   ·exact h1 t (by omega) i k (by omega) hk
 obtain ⟨N, hN⟩ := H n m
 exact ⟨N, fun t ht => MT.zero_of fun i k hi hk => hN t ht i k hi hk⟩
end
end Go.Proofs.Ytkmfhabgempjiaa
/- Plain algebra: division with a rest, greatest common divisors exist. -/
namespace Go.Proofs.Ytkmfhabgempjiaa
open CR
section
variable {p : Nat}
end
end Go.Proofs.Ytkmfhabgempjiaa
/- Plain algebra: the order of a column, the minimal polynomial, least common multiples. -/
namespace Go.Proofs.Ytkmfhabgempjiaa
open CR
section
variable {p : Nat} {n m : Nat}
def pof {R : Type} [CR R] (j : Nat) (x : Nat → R) : Pol R := ⟨fun t => if t < j then x t else 0, j, fun i h => if_neg (by omega)⟩
end
end Go.Proofs.Ytkmfhabgempjiaa
