/- Rows of rows of polynomials, that are read; an append of a window. -/
import Derived.ChangeSame
import Derived.Lib.SmallJoins
import Derived.Test.YthghdjpjbngllaaZdOpen
import Derived.Test.YthghdjpjbngllaaZdFm
import Derived.Test.YthghdjpjbngllaaZdQz
import Derived.Test.YthghdjpjbngllaaZdHz
namespace Go.Proofs.Ythghdjpjbngllaa
open Go.RowKit

/-- A slice whose cells hold the values U. -/
def VsF (w : World) (v : Value) (n : Nat) (U : Nat → Value) : Prop := ∃ ao b o cap, v = .slice ao n cap ∧ n ≤ cap ∧ (0 < n → ao = some ⟨b, o, none⟩ ∧ b < w.heap.size) ∧ ∀ k, k < n → w.cell? ⟨b, o + k, none⟩ = some (U k)
theorem VsF.below {w w' : World} {v : Value} {n B : Nat} {U : Nat → Value} (h : VsF w v n U) (hb : Below B w w') (hB : w.heap.size ≤ B) : VsF w' v n U := by
  obtain ⟨ao, b, o, cap, e, h1, h2, h3⟩ := h
  exact ⟨ao, b, o, cap, e, h1, fun h0 => ⟨(h2 h0).1, Nat.lt_of_lt_of_le (h2 h0).2 hb.size⟩, fun k hk => ((hb.mono hB).cell (p := ⟨b, o + k, none⟩) (h2 (by omega)).2).trans (h3 k hk)⟩
theorem VsF.next {w w' : World} {v : Value} {n : Nat} {U : Nat → Value} (h : VsF w v n U) (hb : Below w.heap.size w w') : VsF w' v n U := h.below hb (Nat.le_refl _)
theorem VsF.pos {w : World} {v : Value} {n : Nat} {U : Nat → Value} (h : VsF w v n U) (hn : 0 < n) : ∃ b o cap, v = .slice (some ⟨b, o, none⟩) n cap ∧ n ≤ cap ∧ b < w.heap.size ∧ ∀ k, k < n → w.cell? ⟨b, o + k, none⟩ = some (U k) := by
  obtain ⟨ao, b, o, cap, e, h1, h2, h3⟩ := h
  obtain ⟨rfl, h4⟩ := h2 hn
  exact ⟨b, o, cap, e, h1, h4, h3⟩
theorem VsF.slice {w : World} {v : Value} {n : Nat} {U : Nat → Value} (h : VsF w v n U) : ∃ ao cap, v = .slice ao n cap := by
  obtain ⟨ao, b, o, cap, e, h1, h2, h3⟩ := h
  exact ⟨ao, cap, e⟩
/-- The list of a row's values. -/
def rowL (n : Nat) (U : Nat → Value) : List Value := (List.range n).map U
theorem rowL_length (n : Nat) (U : Nat → Value) : (rowL n U).length = n := by simp [rowL]
theorem rowL_get {n : Nat} {U : Nat → Value} {k : Nat} (hk : k < n) : (rowL n U)[k]? = some (U k) := by simp [rowL, hk]
theorem rowL_get' {n : Nat} {U : Nat → Value} {k : Nat} {u : Value} (h : (rowL n U)[k]? = some u) : k < n ∧ u = U k := by
  have hk : k < n := by have := (List.getElem?_eq_some_iff.1 h).1; rwa [rowL_length] at this
  rw [rowL_get hk] at h
  exact ⟨hk, (Option.some.inj h).symm⟩
theorem rowL_snoc (n : Nat) (U : Nat → Value) : rowL (n + 1) U = rowL n U ++ [U n] := by simp [rowL, List.range_succ]
theorem rowL_congr {n : Nat} {U V : Nat → Value} (h : ∀ k, k < n → U k = V k) : rowL n U = rowL n V := List.map_congr_left fun k hk => h k (List.mem_range.1 hk)
/-- A row without its place k. -/
theorem rowL_cut {n k N : Nat} (U : Nat → Value) (hN : N = n + 1) (hk : k < N) : rowL k U ++ rowL (N - (k + 1)) (fun j => U (k + 1 + j)) = rowL n (fun j => U (if j < k then j else j + 1)) := by
  refine List.ext_getElem? fun i => ?_
  by_cases h1 : i < k
  · rw [List.getElem?_append_left (by rw [rowL_length]; exact h1), rowL_get h1, rowL_get (by omega), if_pos h1]
  · rw [List.getElem?_append_right (by rw [rowL_length]; omega), rowL_length]
    by_cases h2 : i < n
    · rw [rowL_get (by omega), rowL_get h2, if_neg h1, show k + 1 + (i - k) = i + 1 by omega]
    · rw [List.getElem?_eq_none (by rw [rowL_length]; omega), List.getElem?_eq_none (by rw [rowL_length]; omega)]
theorem VsF.of_own {w : World} {base n : Nat} {e : TypeId} {v : Value} {U : Nat → Value} (h : w.ownsRow base e 1 v n (rowL n U)) : VsF w v n U := by
  rcases rowOwn_shape h with ⟨rfl, rfl⟩ | ⟨g, cap, rfl, h1, h2, h3⟩
  · exact ⟨none, 0, 0, 0, rfl, Nat.le_refl _, fun h => absurd h (by omega), fun k hk => absurd hk (by omega)⟩
  · refine ⟨_, g, 0, cap, rfl, h3, fun _ => ⟨rfl, h2⟩, fun k hk => ?_⟩
    rw [Nat.zero_add, World.ownsRow.cellAt h k (by omega), rowL_get hk]
theorem rowOwn_cast {w : World} {base n m : Nat} {e : TypeId} {v : Value} {xs : List Value} (h : w.ownsRow base e 1 v n xs) (hn : n = m) : w.ownsRow base e 1 v m xs := hn ▸ h
/-- What is owned stays, where a slice of another type has grown. -/
theorem rowOwn_kept {w w' : World} {base b1 n n0 : Nat} {e e0 : TypeId} {v v0 : Value} {xs xs0 : List Value} (h : w.ownsRow base e 1 v n xs) (ho : w.ownsRow b1 e0 1 v0 n0 xs0) (hg : w.grownBy w' v0.ownBlock) (he : e0 ≠ e) : w'.ownsRow base e 1 v n xs := by
  refine World.ownsRow.kept h hg ?_
  rcases h.2 with ⟨h1, _⟩ | ⟨g, cap, cur, h1, _, h2, _⟩
  · left; rw [h1]; rfl
  · right
    intro e1
    rw [h1] at e1
    exact rowOwn_ne ho h2 he e1.symm
/-- 'append(out, row[lo:hi]...)': what was owned, and the window's values. -/
theorem apW {P : Program} {o : Oper} {a : Act} {K : Act → World → Prop} {Q : Exit → Act → World → Prop} (T e bytes : Nat) (z0 : Value)
    (hu : P.underlying T = some (.slice e)) (hi : (P.info? e).map (fun i => (i.zero, i.size, i.bytes)) = some (some z0, 1, bytes)) (hby : bytes ≤ 32) (hz0 : z0.cells.size = 1)
    (s x : Operand) (ho : o.op = .call { callee := .builtin .append, args := #[s, x], argTypes := #[T, T] })
    (w : World) (base : Nat) (v : Value) (n : Nat) (vs : List Value) (hown : w.ownsRow base e 1 v n vs) (hbase : base ≤ w.heap.size)
    (ad : Addr) (m c : Nat) (news : List Value) (hs : a.eval s = v) (hx : a.eval x = .slice (some ad) m c)
    (hl : news.length = m) (hnews : ∀ j u, news[j]? = some u → w.cell? (ad.add j) = some u) (h1 : ∀ u ∈ news, u.oneCell' = true) (hlen : n + m ≤ 1000000000)
    (h : ∀ (v' : Value) (w' : World), w'.ownsRow base e 1 v' (n + m) (vs ++ news) → Below base w w' → w.grownBy w' v.ownBlock → K (a.put o.dst v') w') :
    Oper.wp P o a w K Q := by
  obtain ⟨i0, e1, e2, e3, e4⟩ := info_parts hi
  have hb : (n + m) * bytes ≤ (n + m) * 32 := Nat.mul_le_mul_left _ hby
  obtain ⟨v', w', hr, k1, k2, _, k4⟩ := run_append_own_at (P := P) w base T o.type e i0 z0 1 bytes hu e1 e2 e3 e4 hz0 (by decide) v n vs hown ad m c news (by rw [hl, Nat.mul_one]) hnews h1 (by unfold maxLen; omega) (by omega) hbase
  unfold Oper.wp execOp
  simp only [ho, resolve, invoke, builtin, Sem.run_bind, Sem.run_pure, Result.andThen_ok, List.map_toArray, List.map_cons, List.map_nil, hs, hx, hr]
  exact h v' w' k1 (below_grown k2 hbase fun k hk => (World.ownsRow.lt hown k hk).1) k2
theorem apWl {P : Program} {ops : Array Oper} {rest : List Oper} {o : Oper} {a : Act} {Q : Exit → Act → World → Prop} (T e bytes : Nat) (z0 : Value)
    (hu : P.underlying T = some (.slice e)) (hi : (P.info? e).map (fun i => (i.zero, i.size, i.bytes)) = some (some z0, 1, bytes)) (hby : bytes ≤ 32) (hz0 : z0.cells.size = 1)
    (hgd : o.guard = none) (s x : Operand) (ho : o.op = .call { callee := .builtin .append, args := #[s, x], argTypes := #[T, T] })
    (w : World) (base : Nat) (v : Value) (n : Nat) (vs : List Value) (hown : w.ownsRow base e 1 v n vs) (hbase : base ≤ w.heap.size)
    (ad : Addr) (m c : Nat) (news : List Value) (hs : a.eval s = v) (hx : a.eval x = .slice (some ad) m c)
    (hl : news.length = m) (hnews : ∀ j u, news[j]? = some u → w.cell? (ad.add j) = some u) (h1 : ∀ u ∈ news, u.oneCell' = true) (hlen : n + m ≤ 1000000000)
    (h : ∀ (v' : Value) (w' : World), w'.ownsRow base e 1 v' (n + m) (vs ++ news) → Below base w w' → w.grownBy w' v.ownBlock → wpList P ops Q rest (a.put o.dst v') w') :
    wpList P ops Q (o :: rest) a w :=
  wpList_plain hgd fun _ hK => apW T e bytes z0 hu hi hby hz0 s x ho w base v n vs hown hbase ad m c news hs hx hl hnews h1 hlen fun v' w' h1 h2 h3 => hK _ _ (h v' w' h1 h2 h3)
/-- The window's values lie where they should. -/
theorem win_news {w : World} {b o n : Nat} {U : Nat → Value} (h : ∀ k, k < n → w.cell? ⟨b, o + k, none⟩ = some (U k)) (lo m : Nat) (hm : lo + m ≤ n) : ∀ j u, (rowL m (fun j => U (lo + j)))[j]? = some u → w.cell? ((⟨b, o + lo, none⟩ : Addr).add j) = some u := by
  intro j u hj
  obtain ⟨h1, rfl⟩ := rowL_get' hj
  have e : (⟨b, o + lo, none⟩ : Addr).add j = ⟨b, o + (lo + j), none⟩ := by
    unfold Addr.add; split
    · rename_i h; subst h; rfl
    · simp [Nat.add_assoc]
  rw [e]
  exact h (lo + j) (by omega)

section
variable {p : Nat}
/-- A polynomial's list, of at most B elements. -/
def Pe (p B : Nat) (w : World) (v : Value) (f : Pol (Zp p)) : Prop := ∃ zs, Sl .u64 w v zs ∧ zs.length ≤ B ∧ pl p zs = f
theorem Pe.next {B : Nat} {w w' : World} {v : Value} {f : Pol (Zp p)} (h : Pe p B w v f) (hb : Below w.heap.size w w') : Pe p B w' v f := by
  obtain ⟨zs, h1, h2⟩ := h; exact ⟨zs, h1.next hb, h2⟩
theorem Pe.one {B : Nat} {w : World} {v : Value} {f : Pol (Zp p)} (h : Pe p B w v f) : v.oneCell' = true := by
  obtain ⟨zs, ⟨ao, b, o, c, rfl, _⟩, _⟩ := h; rfl
/-- Rows of rows of polynomials: U the rows, E their elements. -/
structure Pm (p B : Nat) (w : World) (v : Value) (n m : Nat) (M : Nat → Nat → Pol (Zp p)) (U : Nat → Value) (E : Nat → Nat → Value) : Prop where
  hd : VsF w v n U
  row : ∀ i, i < n → VsF w (U i) m (E i)
  el : ∀ i k, i < n → k < m → Pe p B w (E i k) (M i k)
theorem Pm.next {B n m : Nat} {w w' : World} {v : Value} {M : Nat → Nat → Pol (Zp p)} {U : Nat → Value} {E : Nat → Nat → Value} (h : Pm p B w v n m M U E) (hb : Below w.heap.size w w') : Pm p B w' v n m M U E :=
  ⟨h.hd.next hb, fun i hi => (h.row i hi).next hb, fun i k hi hk => (h.el i k hi hk).next hb⟩
/-- Where the rest's rows stand. -/
def DeR (w0 wr : World) (n k : Nat) (E : Nat → Nat → Value) (rv : Value) (cnt : Nat) : Prop :=
  ∃ U : Nat → Value, wr.ownsRow w0.heap.size 99 1 rv cnt (rowL cnt U) ∧ (∀ i, i < cnt → wr.ownsRow w0.heap.size 32 1 (U i) n (rowL n (fun j => E (i + 1) (if j < k then j else j + 1)))) ∧ Below w0.heap.size w0 wr
theorem DeR.start (w : World) (n k : Nat) (E : Nat → Nat → Value) : DeR w w n k E (.slice none 0 0) 0 := ⟨fun _ => .slice none 0 0, World.ownsRow_nil _ _ _ _, fun i hi => absurd hi (by omega), Below.refl _ _⟩
theorem DeR.push {w0 w1 w2 w3 : World} {n k cnt : Nat} {E : Nat → Nat → Value} {rv rv' u : Value} {U : Nat → Value} (h1 : w1.ownsRow w0.heap.size 99 1 rv cnt (rowL cnt U))
    (h2 : ∀ i, i < cnt → w1.ownsRow w0.heap.size 32 1 (U i) n (rowL n (fun j => E (i + 1) (if j < k then j else j + 1)))) (h3 : Below w0.heap.size w0 w1) (b1 : Below w1.heap.size w1 w2)
    (hu : w2.ownsRow w0.heap.size 32 1 u n (rowL n (fun j => E (cnt + 1) (if j < k then j else j + 1))))
    (b2 : Below w0.heap.size w2 w3) (hg : w2.grownBy w3 rv.ownBlock) (hrv : w3.ownsRow w0.heap.size 99 1 rv' (cnt + 1) (rowL cnt U ++ [u])) : DeR w0 w3 n k E rv' (cnt + 1) := by
  have h1' := rowOwn_next h1 b1 (Nat.le_refl _)
  refine ⟨fun i => if i < cnt then U i else u, ?_, fun i hi => ?_, (h3.trans (b1.mono h3.size)).trans b2⟩
  · rw [rowL_snoc, if_neg (by omega), rowL_congr (V := U) (fun k hk => by simp [hk])]
    exact hrv
  · by_cases hc : i < cnt
    · show w3.ownsRow _ _ _ (if i < cnt then U i else u) _ _
      rw [if_pos hc]
      exact rowOwn_kept (rowOwn_next (h2 i hc) b1 (Nat.le_refl _)) h1' hg (by decide)
    · obtain rfl : i = cnt := by omega
      show w3.ownsRow _ _ _ (if i < i then U i else u) _ _
      rw [if_neg (by omega)]
      exact rowOwn_kept hu h1' hg (by decide)
theorem DeR.fin {B : Nat} {w0 wr : World} {n N k : Nat} {M : Nat → Nat → Pol (Zp p)} {U : Nat → Value} {E : Nat → Nat → Value} {v rv : Value} (h : DeR w0 wr n k E rv n) (hN : N = n + 1) (hm : Pm p B w0 v N N M U E) : ∃ U2, Pm p B wr rv n n (mnr M k) U2 (fun i j => E (i + 1) (if j < k then j else j + 1)) := by
  obtain ⟨U2, h1, h2, h3⟩ := h
  refine ⟨U2, VsF.of_own h1, fun i hi => VsF.of_own (h2 i hi), fun i j hi hj => ?_⟩
  have := hm.el (i + 1) (if j < k then j else j + 1) (by omega) (by split <;> omega)
  exact this.next h3
end

end Go.Proofs.Ythghdjpjbngllaa
