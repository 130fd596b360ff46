/- A row of slices of words that are stored into; what came in appended to what is owned. -/
import Derived.Maps.AppendAt
import Derived.Test.YtnnidjhhcnmnnaaRws
namespace Go.Proofs.Ytnnidjhhcnmnnaa
open Go.RowKit

/-- Nothing is appended from a slice that lies nowhere. -/
theorem run_app_nowhere {P : Program} (w : World) (base : Nat) (t ty e : TypeId) (i : TypeInfo) (ht : P.underlying t = some (.slice e)) (hi : P.info? e = some i)
    (v : Value) (n : Nat) (xs : List Value) (hown : w.ownsRow base e 1 v n xs) (c : Nat) : (Builtin.append_ #[t, t] ty #[v, .slice none 0 c]).run P w = .ok v w := by
  rcases hown.2 with ⟨rfl, rfl⟩ | ⟨g, cap, cur, rfl, _, _, hnc, _⟩
  · simp [Builtin.append_, run_underlying ht, sizeOf, typeInfo, hi, Builtin.lenOf, Builtin.firstCells]
  · simp [Builtin.append_, run_underlying ht, sizeOf, typeInfo, hi, Builtin.lenOf, Builtin.firstCells, hnc, storeCells]
theorem addr_add (b off j : Nat) : (⟨b, off, none⟩ : Addr).add j = ⟨b, off + j, none⟩ := by
  unfold Addr.add; split
  · rename_i h; subst h; rfl
  · rfl
/-- 'x = append(x, a...)': a reads as a list of words. -/
theorem apSl {P : Program} {ops : Array Oper} {rest : List Oper} {o : Oper} {a : Act} {Q : Exit → Act → World → Prop} (T e : Nat)
    (hu : P.underlying T = some (.slice e)) (hi : (P.info? e).map (fun i => (i.zero, i.size, i.bytes)) = some (some (.int .u64 0), 1, 8))
    (hgd : o.guard = none) (s x : Operand) (ho : o.op = .call { callee := .builtin .append, args := #[s, x], argTypes := #[T, T] })
    (w : World) (base : Nat) (v u : Value) (ys xs : List Nat) (hown : Own .u64 e w base v ys) (hbase : base ≤ w.heap.size) (hs : a.eval s = v) (hx : a.eval x = u) (hsl : Sl .u64 w u xs) (hlen : ys.length + xs.length ≤ 1000000000)
    (h : ∀ (v' : Value) (w' : World), Own .u64 e w' base v' (ys ++ xs) → Below base w w' → wpList P ops Q rest (a.put o.dst v') w') : wpList P ops Q (o :: rest) a w := by
  refine wpList_plain hgd fun K hK => ?_
  obtain ⟨i0, h1, h2, h3, h4⟩ := info_parts hi
  obtain ⟨ao, b, off, cap, rfl, hc, hcs⟩ := hsl
  unfold Own at hown
  cases ao with
  | none =>
    have hn : xs = [] := Classical.byContradiction fun hne => by have := hcs.ao hne; cases this
    subst hn
    have hrun := run_app_nowhere (P := P) w base T o.type e i0 hu h1 v ys.length (vs .u64 ys) hown cap
    have hlst : a.eval x = .slice none 0 cap := hx
    unfold Oper.wp execOp
    simp only [ho, resolve, invoke, builtin, Sem.run_bind, Sem.run_pure, Result.andThen_ok, List.map_toArray, List.map_cons, List.map_nil, hs, hlst, hrun]
    refine hK _ _ (h v w ?_ (Below.refl _ _))
    unfold Own; rw [List.append_nil]; exact hown
  | some ad =>
    have hcell : ∀ j u, (vs .u64 xs)[j]? = some u → w.cell? (ad.add j) = some u := by
      intro j u hj
      have hj2 : j < xs.length := by have := (List.getElem?_eq_some_iff.1 hj).1; rwa [vs_length] at this
      have := hcs.ao (by intro e; rw [e] at hj2; simp at hj2)
      injection this with this
      subst this
      rw [addr_add, hcs.cell j hj2, ← hj, vs_get .u64 xs j hj2]
    obtain ⟨v', w', hr, k1, k2, _, k4⟩ := run_append_own_at (P := P) w base T o.type e i0 (.int .u64 0) 1 8 hu h1 h2 h3 h4 rfl (by decide) v ys.length (vs .u64 ys) hown ad xs.length cap (vs .u64 xs) (by rw [vs_length, Nat.mul_one]) hcell (fun u hu => by simp only [vs, List.mem_map] at hu; obtain ⟨q, _, rfl⟩ := hu; rfl) (by unfold maxLen; omega) (by omega) hbase
    unfold Oper.wp execOp
    simp only [ho, resolve, invoke, builtin, Sem.run_bind, Sem.run_pure, Result.andThen_ok, List.map_toArray, List.map_cons, List.map_nil, hs, hx, hr]
    refine hK _ _ (h v' w' ?_ (below_grown k2 hbase fun k hk => (World.ownsRow.lt hown k hk).1))
    unfold Own; rw [List.length_append, vs_append]; exact k1
/-- 'l = append(l, r...)': values of one cell that lie at the head of a block. -/
theorem apVs {P : Program} {ops : Array Oper} {rest : List Oper} {o : Oper} {a : Act} {Q : Exit → Act → World → Prop} (T e bytes : Nat) (z0 : Value)
    (hu : P.underlying T = some (.slice e)) (hi : (P.info? e).map (fun i => (i.zero, i.size, i.bytes)) = some (some z0, 1, bytes)) (hby : bytes ≤ 32) (hz0 : z0.cells.size = 1)
    (hgd : o.guard = none) (s x : Operand) (ho : o.op = .call { callee := .builtin .append, args := #[s, x], argTypes := #[T, T] })
    (w : World) (base : Nat) (v : Value) (n : Nat) (vs : List Value) (hown : w.ownsRow base e 1 v n vs) (hbase : base ≤ w.heap.size)
    (g m c : Nat) (news : List Value) (hs : a.eval s = v) (hx : a.eval x = .slice (some ⟨g, 0, none⟩) m c)
    (hl : news.length = m) (hnews : ∀ j u, news[j]? = some u → w.cell? ⟨g, j, none⟩ = some u) (h1 : ∀ u ∈ news, u.oneCell' = true) (hlen : n + m ≤ 1000000000)
    (h : ∀ (v' : Value) (w' : World), w'.ownsRow base e 1 v' (n + m) (vs ++ news) → Below base w w' → w.grownBy w' v.ownBlock → wpList P ops Q rest (a.put o.dst v') w') :
    wpList P ops Q (o :: rest) a w := by
  refine wpList_plain hgd fun K hK => ?_
  obtain ⟨i0, e1, e2, e3, e4⟩ := info_parts hi
  have hb : (n + m) * bytes ≤ (n + m) * 32 := Nat.mul_le_mul_left _ hby
  obtain ⟨v', w', hr, k1, k2, _, k4⟩ := run_append_own_at (P := P) w base T o.type e i0 z0 1 bytes hu e1 e2 e3 e4 hz0 (by decide) v n vs hown ⟨g, 0, none⟩ m c news (by rw [hl, Nat.mul_one]) (fun j u hj => by rw [addr_add, Nat.zero_add]; exact hnews j u hj) h1 (by unfold maxLen; omega) (by omega) hbase
  unfold Oper.wp execOp
  simp only [ho, resolve, invoke, builtin, Sem.run_bind, Sem.run_pure, Result.andThen_ok, List.map_toArray, List.map_cons, List.map_nil, hs, hx, hr]
  exact hK _ _ (h v' w' k1 (below_grown k2 hbase fun k hk => (World.ownsRow.lt hown k hk).1) k2)

/-- What is owned stays, where a slice of another type has grown. -/
theorem Own.kept_row {w w' : World} {base b1 n0 : Nat} {e e0 : TypeId} {v v0 : Value} {xs : List Nat} {xs0 : List Value} (h : Own .u64 e w base v xs) (ho : w.ownsRow b1 e0 1 v0 n0 xs0) (hg : w.grownBy w' v0.ownBlock) (he : e0 ≠ e) : Own .u64 e w' base v xs := by
  refine World.ownsRow.kept h hg ?_
  rcases h.2 with ⟨h1, _⟩ | ⟨g, cap, cur, h1, _, h2, _⟩
  · left; rw [h1]; rfl
  · right
    intro e1
    rw [h1] at e1
    exact rowOwn_ne ho h2 he e1.symm
theorem Own.slc {e : TypeId} {w : World} {base : Nat} {v : Value} {xs : List Nat} (h : Own .u64 e w base v xs) : ∃ ao c, v = .slice ao xs.length c := by
  rcases h.shape with ⟨rfl, rfl⟩ | ⟨g, cap, rfl, _⟩
  · exact ⟨none, 0, rfl⟩
  · exact ⟨_, _, rfl⟩
theorem Own.blk {e : TypeId} {w : World} {base : Nat} {v : Value} {xs : List Nat} {g : Nat} (h : Own .u64 e w base v xs) (hv : v.ownBlock = some g) : base ≤ g ∧ g < w.heap.size ∧ ∃ cur, w.heap[g]? = some (.cells cur e (0, 0)) := by
  rcases h.2 with ⟨rfl, _⟩ | ⟨g', cap, cur, rfl, h1, h2, _⟩
  · simp [Value.ownBlock] at hv
  · simp [Value.ownBlock] at hv
    subst hv
    exact ⟨h1, (Array.getElem?_eq_some_iff.1 h2).1, cur, h2⟩
/-- A word is stored into one of them. -/
theorem Own.some_store {e : TypeId} {w : World} {base g : Nat} {v : Value} {xs : List Nat} (h : Own .u64 e w base v xs) (j x : Nat) : ∃ ys, ys.length = xs.length ∧ Own .u64 e (w.setCell ⟨g, j, none⟩ (.int .u64 (x : Int))) base v ys := by
  by_cases hb : v.ownBlock = some g
  · rcases h.shape with ⟨rfl, _⟩ | ⟨g', cap, rfl, _⟩
    · simp [Value.ownBlock] at hb
    · have : g' = g := by simpa [Value.ownBlock] using hb
      subst this
      exact ⟨_, List.length_set .., (h.store j x).1⟩
  · exact ⟨xs, rfl, ownsRow_setCell_other h hb _⟩

/-- Slices l that are stored into, and others, x, that stay. -/
structure Fam (W w : World) (e : TypeId) (base : Nat) (vl : Value) (l : List Value) (x : List (Value × List Nat)) : Prop where
  row : w.ownsRow base e 1 vl l.length l
  each : ∀ v, v ∈ l → ∃ zs, Own .u64 32 w W.heap.size v zs
  stay : ∀ y, y ∈ x → Own .u64 32 w W.heap.size y.1 y.2
  apart : ∀ v, v ∈ l → ∀ y, y ∈ x → ∀ g, v.ownBlock = some g → y.1.ownBlock ≠ some g
  below : Below W.heap.size W w
theorem Fam.store {W w : World} {e : TypeId} {base g n c : Nat} {vl : Value} {l : List Value} {x : List (Value × List Nat)} (h : Fam W w e base vl l x) (he : e ≠ 32) (hv : Value.slice (some ⟨g, 0, none⟩) n c ∈ l) (j z : Nat) :
    Fam W (w.setCell ⟨g, j, none⟩ (.int .u64 (z : Int))) e base vl l x := by
  obtain ⟨zs, ho⟩ := h.each _ hv
  have hb : (Value.slice (some ⟨g, 0, none⟩) n c).ownBlock = some g := rfl
  obtain ⟨k1, k2, cur, k3⟩ := ho.blk hb
  exact ⟨ownsRow_setCell_other h.row (rowOwn_ne h.row k3 he) _, fun v hv2 => by
    obtain ⟨ys, hy⟩ := h.each v hv2
    obtain ⟨us, _, hu⟩ := hy.some_store (g := g) j z
    exact ⟨us, hu⟩, fun y hy => ownsRow_setCell_other (h.stay y hy) (h.apart _ hv y hy g hb) _, h.apart, h.below.setCell k1 _⟩
end Go.Proofs.Ytnnidjhhcnmnnaa
