/- Rows of rows: a slice of slices whose cells may be stored to. -/
import Derived.Deep.AppendLies
import Derived.Test.YthghdjpjbngllaaZfBoxes
namespace Go.Proofs.Ythghdjpjbngllaa
open Go.RowKit

theorem rowOwn_next {w w' : World} {base : Nat} {e : TypeId} {size n : Nat} {v : Value} {xs : List Value} (h : w.ownsRow base e size v n xs) {B : Nat} (hb : Below B w w') (hB : w.heap.size ≤ B) : w'.ownsRow base e size v n xs := by
  refine ⟨h.1, ?_⟩
  rcases h.2 with h | ⟨g, cap, cur, a, b, c, d⟩
  · exact .inl h
  · refine .inr ⟨g, cap, cur, a, b, ?_, d⟩
    rw [hb.block g (by have := (Array.getElem?_eq_some_iff.1 c).1; omega)]; exact c
theorem rowOwn_mono {w : World} {base base' : Nat} {e : TypeId} {size n : Nat} {v : Value} {xs : List Value} (h : w.ownsRow base e size v n xs) (hb : base' ≤ base) : w.ownsRow base' e size v n xs := by
  refine ⟨h.1, ?_⟩
  rcases h.2 with h | ⟨g, cap, cur, a, b, c⟩
  · exact .inl h
  · exact .inr ⟨g, cap, cur, a, Nat.le_trans hb b, c⟩
/-- What is owned lies in blocks of its own type. -/
theorem rowOwn_ne {w : World} {base : Nat} {e e' : TypeId} {size n b : Nat} {v : Value} {xs : List Value} {cur : Array Value} (h : w.ownsRow base e size v n xs) (hb : w.heap[b]? = some (.cells cur e' (0, 0))) (he : e ≠ e') : v.ownBlock ≠ some b := by
  intro hv
  rcases h.2 with ⟨rfl, _⟩ | ⟨g, cap, cur', rfl, _, hg, _⟩
  · simp [Value.ownBlock] at hv
  · simp [Value.ownBlock] at hv
    subst hv
    rw [hb] at hg
    simp at hg
    exact he hg.2.symm
theorem rowOwn_shape {w : World} {base : Nat} {e : TypeId} {n : Nat} {v : Value} {xs : List Value} (h : w.ownsRow base e 1 v n xs) :
    (v = .slice none 0 0 ∧ n = 0) ∨ ∃ g cap, v = .slice (some ⟨g, 0, none⟩) n cap ∧ base ≤ g ∧ g < w.heap.size ∧ n ≤ cap := by
  rcases h.2 with ⟨a, b⟩ | ⟨g, cap, cur, rfl, hb, hg, hn, _⟩
  · exact .inl ⟨a, b⟩
  · exact .inr ⟨g, cap, rfl, hb, (Array.getElem?_eq_some_iff.1 hg).1, hn⟩

/-- 'out = append(out, y)' of values of one cell: y has just been laid in a block of its own. -/
theorem apV {P : Program} {o : Oper} {a : Act} {K : Act → World → Prop} {Q : Exit → Act → World → Prop} (T e bytes : Nat) (z0 : Value)
    (hu : P.underlying T = some (.slice e)) (hi : (P.info? e).map (fun i => (i.zero, i.size, i.bytes)) = some (some z0, 1, bytes)) (hby : bytes ≤ 32) (hz0 : z0.cells.size = 1)
    (s x : Operand) (ho : o.op = .call { callee := .builtin .append, args := #[s, x], argTypes := #[T, T] })
    (w : World) (base : Nat) (v : Value) (n : Nat) (vs : List Value) (y : Value) (hy : y.oneCell' = true) (hown : w.ownsRow base e 1 v n vs)
    (hlen : n ≤ 1000000000) (hbase : base ≤ w.heap.size)
    (hs : a.eval s = v) (hx : a.eval x = .slice (some ⟨w.heap.size, 0, none⟩) 1 1)
    (h : ∀ (g cap : Nat) (w' : World), w'.ownsRow base e 1 (.slice (some ⟨g, 0, none⟩) (n + 1) cap) (n + 1) (vs ++ [y]) → Below base w w' → w.grownBy w' v.ownBlock → (v.ownBlock = some g ∨ w.heap.size ≤ g) → K (a.put o.dst (.slice (some ⟨g, 0, none⟩) (n + 1) cap)) w') :
    Oper.wp P o a (w.alloc (.cells #[y] e)) K Q := by
  obtain ⟨i0, h1, h2, h3, h4⟩ := info_parts hi
  have hB := Blk.lit w e [y]
  refine wp_append_lies _ s x T ho base e i0 z0 1 bytes hu h1 h2 h3 h4 hz0 (by decide) v n vs hs (World.ownsRow.alloc hown _) ⟨w.heap.size, 0, none⟩ 1 1 [y] hx rfl ?_ ?_ (by decide) ?_ ?_ ?_ (w.heap.size + 1) ?_ ?_
  · intro j u hj
    have e : (⟨w.heap.size, 0, none⟩ : Addr).add j = ⟨w.heap.size, j, none⟩ := by
      unfold Addr.add; split
      · rename_i h; subst h; rfl
      · simp
    rw [e]
    exact (hB.cell j).trans hj
  · intro u hu
    rw [List.mem_singleton.1 hu]; exact hy
  · unfold maxLen; omega
  · have : (n + 1) * bytes ≤ (n + 1) * 32 := Nat.mul_le_mul_left _ hby
    omega
  · simp; omega
  · simp
  · intro g cap w' k1 k2 k3 k4
    have hg : w.grownBy w' v.ownBlock := by
      have e0 := World.grownBy_alloc w (.cells #[y] e) v.ownBlock
      exact ⟨k2.os.trans e0.os, k2.tape.trans e0.tape, k2.output.trans e0.output, Nat.le_trans e0.size k2.size, fun i hi hne => (k2.block i (Nat.lt_of_lt_of_le hi e0.size) hne).trans (e0.block i hi hne)⟩
    have hge : ∀ k, v.ownBlock = some k → base ≤ k := fun j hj => (World.ownsRow.lt hown j hj).1
    exact h g cap w' k1 (below_grown hg hbase hge) hg (k3.imp id (fun e => by omega))
/-- The same in a region that does not draw. -/
theorem apVl {P : Program} {ops : Array Oper} {rest : List Oper} {o : Oper} {a : Act} {Q : Exit → Act → World → Prop} (T e bytes : Nat) (z0 : Value)
    (hu : P.underlying T = some (.slice e)) (hi : (P.info? e).map (fun i => (i.zero, i.size, i.bytes)) = some (some z0, 1, bytes)) (hby : bytes ≤ 32) (hz0 : z0.cells.size = 1)
    (hgd : o.guard = none) (s x : Operand) (ho : o.op = .call { callee := .builtin .append, args := #[s, x], argTypes := #[T, T] })
    (w : World) (base : Nat) (v : Value) (n : Nat) (vs : List Value) (y : Value) (hy : y.oneCell' = true) (hown : w.ownsRow base e 1 v n vs)
    (hlen : n ≤ 1000000000) (hbase : base ≤ w.heap.size)
    (hs : a.eval s = v) (hx : a.eval x = .slice (some ⟨w.heap.size, 0, none⟩) 1 1)
    (h : ∀ (g cap : Nat) (w' : World), w'.ownsRow base e 1 (.slice (some ⟨g, 0, none⟩) (n + 1) cap) (n + 1) (vs ++ [y]) → Below base w w' → w.grownBy w' v.ownBlock → (v.ownBlock = some g ∨ w.heap.size ≤ g) → wpList P ops Q rest (a.put o.dst (.slice (some ⟨g, 0, none⟩) (n + 1) cap)) w') :
    wpList P ops Q (o :: rest) a (w.alloc (.cells #[y] e)) :=
  wpList_plain hgd fun _ hK => apV T e bytes z0 hu hi hby hz0 s x ho w base v n vs y hy hown hlen hbase hs hx fun g cap w' h1 h2 h3 h4 => hK _ _ (h g cap w' h1 h2 h3 h4)

section
variable {α : Type}

/-- A row whose cells lie in a block of type e. -/
def RowAt (V : World → Value → α → Prop) (e : TypeId) (w : World) (base N : Nat) (v : Value) (r : Nat → α) : Prop :=
  ∃ ao cap b o cur, v = .slice ao N cap ∧ N ≤ cap ∧ (0 < N → ao = some ⟨b, o, none⟩ ∧ base ≤ b ∧ w.heap[b]? = some (.cells cur e (0, 0)) ∧ ∀ k, k < N → ∃ u, cur[o + k]? = some u ∧ V w u (r k))
/-- Two rows don't share a cell. -/
def Apart (N : Nat) (u v : Value) : Prop := ∀ b o c b' o' c', u = .slice (some ⟨b, o, none⟩) N c → v = .slice (some ⟨b', o', none⟩) N c' → ∀ k l, k < N → l < N → ¬ (b = b' ∧ o + k = o' + l)

/-- Rows of rows. -/
structure Rws (V : World → Value → α → Prop) (e er : TypeId) (w : World) (base : Nat) (rv : Value) (vs : List Value) (n N : Nat) (W : Nat → Nat → α) : Prop where
  len : vs.length = n
  own : w.ownsRow base er 1 rv n vs
  row : ∀ (i : Nat) (v : Value), vs[i]? = some v → RowAt V e w base N v (W i)
  sep : ∀ (i j : Nat) (u v : Value), i ≠ j → vs[i]? = some u → vs[j]? = some v → Apart N u v

/-- One place of rows is another one. -/
def updE (W : Nat → Nat → α) (i k : Nat) (x : α) : Nat → Nat → α := fun a c => if a = i ∧ c = k then x else W a c
def swpA (W : Nat → Nat → α) (i j : Nat) : Nat → Nat → α := fun a => if a = i then W j else if a = j then W i else W a

variable {V : World → Value → α → Prop} {e er : TypeId} {w w' : World} {base n N : Nat} {rv : Value} {vs : List Value} {W : Nat → Nat → α}

theorem RowAt.next {v : Value} {r : Nat → α} (h : RowAt V e w base N v r) (hb : Below w.heap.size w w') (hV : ∀ u x, V w u x → V w' u x) : RowAt V e w' base N v r := by
  obtain ⟨ao, cap, b, o, cur, e1, h1, h2⟩ := h
  refine ⟨ao, cap, b, o, cur, e1, h1, fun hN => ?_⟩
  obtain ⟨h3, h4, h5, h6⟩ := h2 hN
  refine ⟨h3, h4, (hb.block b (Array.getElem?_eq_some_iff.1 h5).1).trans h5, fun k hk => ?_⟩
  obtain ⟨u, h7, h8⟩ := h6 k hk
  exact ⟨u, h7, hV u _ h8⟩
theorem RowAt.slice {v : Value} {r : Nat → α} (h : RowAt V e w base N v r) : ∃ ao cap, v = .slice ao N cap ∧ N ≤ cap := by
  obtain ⟨ao, cap, b, o, cur, e1, h1, -⟩ := h; exact ⟨ao, cap, e1, h1⟩
theorem Rws.next (h : Rws V e er w base rv vs n N W) (hb : Below w.heap.size w w') (hV : ∀ u x, V w u x → V w' u x) : Rws V e er w' base rv vs n N W :=
  ⟨h.len, rowOwn_next h.own hb (Nat.le_refl _), fun i v hv => (h.row i v hv).next hb hV, h.sep⟩
theorem Rws.hdr (h : Rws V e er w base rv vs n N W) {i : Nat} (hi : i < n) : ∃ v, vs[i]? = some v := ⟨_, List.getElem?_eq_getElem (by rw [h.len]; exact hi)⟩
theorem Rws.shape (h : Rws V e er w base rv vs n N W) : (rv = .slice none 0 0 ∧ n = 0) ∨ ∃ g cap, rv = .slice (some ⟨g, 0, none⟩) n cap ∧ base ≤ g ∧ g < w.heap.size ∧ n ≤ cap := rowOwn_shape h.own
theorem Rws.head (h : Rws V e er w base rv vs n N W) {g cap : Nat} (hr : rv = .slice (some ⟨g, 0, none⟩) n cap) {i : Nat} (hi : i < n) : w.cell? ⟨g, i, none⟩ = vs[i]? := by
  have := h.own; rw [hr] at this
  exact World.ownsRow.cellAt this i (by omega)
theorem Rws.headfree (h : Rws V e er w base rv vs n N W) {g cap : Nat} (hr : rv = .slice (some ⟨g, 0, none⟩) n cap) (i : Nat) : w.frozen? ⟨g, i, none⟩ = false := by
  have := h.own; rw [hr] at this
  exact World.ownsRow.frozenAt this i

/-- A store into a row. -/
theorem Rws.store (h : Rws V e er w base rv vs n N W) (hne : er ≠ e) {i k b o cap : Nat} (hv : vs[i]? = some (.slice (some ⟨b, o, none⟩) N cap)) (hk : k < N) {y : Value} {x : α}
    (hV : ∀ u x, V w u x → V (w.setCell ⟨b, o + k, none⟩ y) u x) (hy : V (w.setCell ⟨b, o + k, none⟩ y) y x) : Rws V e er (w.setCell ⟨b, o + k, none⟩ y) base rv vs n N (updE W i k x) := by
  have hN : 0 < N := by omega
  obtain ⟨ao, cp, b0, o0, cur, e1, h1, h2⟩ := h.row i _ hv
  obtain ⟨rfl, h4, h5, h6⟩ := h2 hN
  simp only [Value.slice.injEq, Option.some.injEq, Addr.mk.injEq, and_true, true_and] at e1
  obtain ⟨⟨rfl, rfl⟩, rfl⟩ := e1
  refine ⟨h.len, ownsRow_setCell_other h.own (rowOwn_ne h.own h5 hne) y, fun j v hj => ?_, h.sep⟩
  obtain ⟨aj, cj, bj, oj, curj, e2, k1, k2⟩ := h.row j v hj
  have hb := heap_setCell_same w b (o + k) cur e y h5
  by_cases hbb : bj = b
  · subst hbb
    refine ⟨aj, cj, bj, oj, cur.setIfInBounds (o + k) y, e2, k1, fun hN => ?_⟩
    obtain ⟨k3, k4, k5, k6⟩ := k2 hN
    obtain rfl : cur = curj := by rw [h5] at k5; simpa using k5
    refine ⟨k3, k4, hb, fun l hl => ?_⟩
    by_cases hij : j = i
    · subst hij
      have hoj : oj = o := by
        rw [hv] at hj
        simp only [Option.some.injEq] at hj
        rw [← hj, k3] at e2
        simp at e2
        exact e2.1.symm
      subst hoj
      by_cases hlk : l = k
      · subst hlk
        refine ⟨y, ?_, ?_⟩
        · obtain ⟨u, hu, _⟩ := h6 l hl
          have := (Array.getElem?_eq_some_iff.1 hu).1
          simp [this]
        · unfold updE; rw [if_pos ⟨rfl, rfl⟩]; exact hy
      · obtain ⟨u, hu, hvu⟩ := k6 l hl
        refine ⟨u, ?_, ?_⟩
        · rw [Array.getElem?_setIfInBounds, if_neg (by omega)]; exact hu
        · unfold updE; rw [if_neg (fun h => hlk h.2)]; exact hV u _ hvu
    · obtain ⟨u, hu, hvu⟩ := k6 l hl
      have hs := h.sep i j _ _ (fun e => hij e.symm) hv hj bj o cap bj oj cj rfl (by rw [e2, k3]) k l hk hl
      refine ⟨u, ?_, ?_⟩
      · rw [Array.getElem?_setIfInBounds, if_neg (fun e => hs ⟨rfl, e⟩)]; exact hu
      · unfold updE; rw [if_neg (fun h => hij h.1)]; exact hV u _ hvu
  · refine ⟨aj, cj, bj, oj, curj, e2, k1, fun hN => ?_⟩
    obtain ⟨k3, k4, k5, k6⟩ := k2 hN
    refine ⟨k3, k4, (heap_setCell_other w ⟨b, o + k, none⟩ bj y hbb).trans k5, fun l hl => ?_⟩
    obtain ⟨u, hu, hvu⟩ := k6 l hl
    refine ⟨u, hu, ?_⟩
    have hij : j ≠ i := by
      intro hij; subst hij
      rw [hv] at hj
      simp only [Option.some.injEq] at hj
      rw [← hj, k3] at e2
      simp only [Value.slice.injEq, Option.some.injEq, Addr.mk.injEq] at e2
      exact hbb e2.1.1.symm
    unfold updE; rw [if_neg (fun h => hij h.1)]; exact hV u _ hvu

/-- A row's header is stored. -/
theorem Rws.cellH (h : Rws V e er w base rv vs n N W) {g cap : Nat} (hr : rv = .slice (some ⟨g, 0, none⟩) n cap) : ∃ cur, w.heap[g]? = some (.cells cur er (0, 0)) := by
  rcases h.own.2 with ⟨h', _⟩ | ⟨g', cap', cur, h', _, hg, _⟩
  · rw [hr] at h'; simp at h'
  · rw [hr] at h'
    simp only [Value.slice.injEq, Option.some.injEq, Addr.mk.injEq, and_true, true_and] at h'
    obtain ⟨rfl, rfl⟩ := h'
    exact ⟨cur, hg⟩
theorem Apart.symm {u v : Value} (h : Apart N u v) : Apart N v u := fun b o c b' o' c' e1 e2 k l hk hl hh => h b' o' c' b o c e2 e1 l k hl hk ⟨hh.1.symm, hh.2.symm⟩

end

end Go.Proofs.Ythghdjpjbngllaa
