/- Rows of rows of polynomials, that are read; an append of a window. -/
import Derived.ChangeSame
import Derived.Lib.SmallJoins
import Derived.Test.YthghdjpjbngllaaZfOpen
import Derived.Test.YthghdjpjbngllaaZfFm
import Derived.Test.YthghdjpjbngllaaZfQz
import Derived.Test.YthghdjpjbngllaaZfHz
namespace Go.Proofs.Ythghdjpjbngllaa
open Go.RowKit

/-- A slice whose cells hold the values U. -/
def VsF (w : World) (v : Value) (n : Nat) (U : Nat → Value) : Prop := ∃ ao b o cap, v = .slice ao n cap ∧ n ≤ cap ∧ (0 < n → ao = some ⟨b, o, none⟩ ∧ b < w.heap.size) ∧ ∀ k, k < n → w.cell? ⟨b, o + k, none⟩ = some (U k)
theorem VsF.slice {w : World} {v : Value} {n : Nat} {U : Nat → Value} (h : VsF w v n U) : ∃ ao cap, v = .slice ao n cap := by
  obtain ⟨ao, b, o, cap, e, h1, h2, h3⟩ := h
  exact ⟨ao, cap, e⟩
/-- The list of a row's values. -/
def rowL (n : Nat) (U : Nat → Value) : List Value := (List.range n).map U
theorem rowL_length (n : Nat) (U : Nat → Value) : (rowL n U).length = n := by simp [rowL]
theorem rowL_get {n : Nat} {U : Nat → Value} {k : Nat} (hk : k < n) : (rowL n U)[k]? = some (U k) := by simp [rowL, hk]
theorem rowL_get' {n : Nat} {U : Nat → Value} {k : Nat} {u : Value} (h : (rowL n U)[k]? = some u) : k < n ∧ u = U k := by
  have hk : k < n := by have := (List.getElem?_eq_some_iff.1 h).1; rwa [rowL_length] at this
  rw [rowL_get hk] at h
  exact ⟨hk, (Option.some.inj h).symm⟩
theorem rowL_snoc (n : Nat) (U : Nat → Value) : rowL (n + 1) U = rowL n U ++ [U n] := by simp [rowL, List.range_succ]
theorem VsF.of_own {w : World} {base n : Nat} {e : TypeId} {v : Value} {U : Nat → Value} (h : w.ownsRow base e 1 v n (rowL n U)) : VsF w v n U := by
  rcases rowOwn_shape h with ⟨rfl, rfl⟩ | ⟨g, cap, rfl, h1, h2, h3⟩
  · exact ⟨none, 0, 0, 0, rfl, Nat.le_refl _, fun h => absurd h (by omega), fun k hk => absurd hk (by omega)⟩
  · refine ⟨_, g, 0, cap, rfl, h3, fun _ => ⟨rfl, h2⟩, fun k hk => ?_⟩
    rw [Nat.zero_add, World.ownsRow.cellAt h k (by omega), rowL_get hk]
/-- 'append(out, row[lo:hi]...)': what was owned, and the window's values. -/
theorem apW {P : Program} {o : Oper} {a : Act} {K : Act → World → Prop} {Q : Exit → Act → World → Prop} (T e bytes : Nat) (z0 : Value)
    (hu : P.underlying T = some (.slice e)) (hi : (P.info? e).map (fun i => (i.zero, i.size, i.bytes)) = some (some z0, 1, bytes)) (hby : bytes ≤ 32) (hz0 : z0.cells.size = 1)
    (s x : Operand) (ho : o.op = .call { callee := .builtin .append, args := #[s, x], argTypes := #[T, T] })
    (w : World) (base : Nat) (v : Value) (n : Nat) (vs : List Value) (hown : w.ownsRow base e 1 v n vs) (hbase : base ≤ w.heap.size)
    (ad : Addr) (m c : Nat) (news : List Value) (hs : a.eval s = v) (hx : a.eval x = .slice (some ad) m c)
    (hl : news.length = m) (hnews : ∀ j u, news[j]? = some u → w.cell? (ad.add j) = some u) (h1 : ∀ u ∈ news, u.oneCell' = true) (hlen : n + m ≤ 1000000000)
    (h : ∀ (v' : Value) (w' : World), w'.ownsRow base e 1 v' (n + m) (vs ++ news) → Below base w w' → w.grownBy w' v.ownBlock → K (a.put o.dst v') w') :
    Oper.wp P o a w K Q := by
  obtain ⟨i0, e1, e2, e3, e4⟩ := info_parts hi
  have hb : (n + m) * bytes ≤ (n + m) * 32 := Nat.mul_le_mul_left _ hby
  obtain ⟨v', w', hr, k1, k2, _, k4⟩ := run_append_own_at (P := P) w base T o.type e i0 z0 1 bytes hu e1 e2 e3 e4 hz0 (by decide) v n vs hown ad m c news (by rw [hl, Nat.mul_one]) hnews h1 (by unfold maxLen; omega) (by omega) hbase
  unfold Oper.wp execOp
  simp only [ho, resolve, invoke, builtin, Sem.run_bind, Sem.run_pure, Result.andThen_ok, List.map_toArray, List.map_cons, List.map_nil, hs, hx, hr]
  exact h v' w' k1 (below_grown k2 hbase fun k hk => (World.ownsRow.lt hown k hk).1) k2
theorem apWl {P : Program} {ops : Array Oper} {rest : List Oper} {o : Oper} {a : Act} {Q : Exit → Act → World → Prop} (T e bytes : Nat) (z0 : Value)
    (hu : P.underlying T = some (.slice e)) (hi : (P.info? e).map (fun i => (i.zero, i.size, i.bytes)) = some (some z0, 1, bytes)) (hby : bytes ≤ 32) (hz0 : z0.cells.size = 1)
    (hgd : o.guard = none) (s x : Operand) (ho : o.op = .call { callee := .builtin .append, args := #[s, x], argTypes := #[T, T] })
    (w : World) (base : Nat) (v : Value) (n : Nat) (vs : List Value) (hown : w.ownsRow base e 1 v n vs) (hbase : base ≤ w.heap.size)
    (ad : Addr) (m c : Nat) (news : List Value) (hs : a.eval s = v) (hx : a.eval x = .slice (some ad) m c)
    (hl : news.length = m) (hnews : ∀ j u, news[j]? = some u → w.cell? (ad.add j) = some u) (h1 : ∀ u ∈ news, u.oneCell' = true) (hlen : n + m ≤ 1000000000)
    (h : ∀ (v' : Value) (w' : World), w'.ownsRow base e 1 v' (n + m) (vs ++ news) → Below base w w' → w.grownBy w' v.ownBlock → wpList P ops Q rest (a.put o.dst v') w') :
    wpList P ops Q (o :: rest) a w :=
  wpList_plain hgd fun _ hK => apW T e bytes z0 hu hi hby hz0 s x ho w base v n vs hown hbase ad m c news hs hx hl hnews h1 hlen fun v' w' h1 h2 h3 => hK _ _ (h v' w' h1 h2 h3)
section
variable {p : Nat}
/-- A polynomial's list, of at most B elements. -/
def Pe (p B : Nat) (w : World) (v : Value) (f : Pol (Zp p)) : Prop := ∃ zs, Sl .u64 w v zs ∧ zs.length ≤ B ∧ pl p zs = f
theorem Pe.next {B : Nat} {w w' : World} {v : Value} {f : Pol (Zp p)} (h : Pe p B w v f) (hb : Below w.heap.size w w') : Pe p B w' v f := by
  obtain ⟨zs, h1, h2⟩ := h; exact ⟨zs, h1.next hb, h2⟩
end

end Go.Proofs.Ythghdjpjbngllaa
