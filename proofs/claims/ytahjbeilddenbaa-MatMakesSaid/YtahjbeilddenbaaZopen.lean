/- What comes in: matrices and whole numbers, opened. -/
import Derived.Test.YtahjbeilddenbaaZops2
import Derived.Test.YtahjbeilddenbaaOpen
import Derived.Lib.SmallJoins
import Derived.ChangeSame
namespace Go.Proofs.Ytahjbeilddenbaa
open Go.ChangeShapes Go.WideShapes Go.ChangeAt Go.RowKit Go.Deep Go.Joins

section
variable {H : Type} {enc : TypeId × Value → H} {P : Program} {w : World} {base : Nat} {spare : Nat → Bool} {held : Bool}
theorem open_slice_fields {t e : TypeId} {fs : Array Field} {fuel : Nat} {cs : List Value} {x : DataW H × List MemPlace} (ht : P.underlying t = some (.slice e)) (he : P.underlying e = some (.struct fs))
    (hone : oneCellFields P fs = true) (hC : P.cellsOf e = fs.size) (h : DataW.trod enc P w base spare held fuel t cs = some x) :
    (cs = [.slice none 0 0] ∧ x = (.nil, [])) ∨
    ∃ (a : Addr) (len cap m : Nat) (D : Nat → DataW H) (Pl : Nat → List MemPlace), cs = [.slice (some a) len cap] ∧ base ≤ a.block ∧ len ≤ cap ∧ cap ≤ maxLen ∧ m = (if spare a.block then cap else len) ∧
      x = (.slice ((List.range len).map D) ((List.range (m - len)).map fun j => D (len + j)), MemPlace.row a (m * fs.size) ++ (List.range m).flatMap Pl) ∧
      ∀ i, i < m → ∃ (ys : List (DataW H × List MemPlace)) (n : Nat), D i = .agg (ys.map (·.1)) ∧ Pl i = ys.flatMap (·.2) ∧ ys.length = fs.size ∧
        ∀ (j : Nat) (f : Field), fs[j]? = some f → ∃ (v : Value) (y : DataW H × List MemPlace), w.cell? (a.add (i * fs.size + j)) = some v ∧ ys[j]? = some y ∧ DataW.trod enc P w base spare held n f.type [v] = some y := by
  rcases open_slice ht h with h0 | ⟨a, len, cap, m, n, D, Pl, hcs, hb, hl, hm, hmm, hx, hi⟩
  · exact .inl h0
  · refine .inr ⟨a, len, cap, m, D, Pl, hcs, hb, hl, hm, hmm, by rw [hC] at hx; exact hx, fun i him => ?_⟩
    obtain ⟨cs', hc, ht'⟩ := hi i him
    rw [hC] at hc
    obtain ⟨ys, n', hn', hy, hlen, hyl, hf⟩ := DataW.trod_struct he ht'
    obtain ⟨_, hcl, hat⟩ := World.cells?_some hc
    simp only [Prod.mk.injEq] at hy
    refine ⟨ys, n', hy.1, hy.2, hyl, fun j f hj => ?_⟩
    obtain ⟨ho, hk⟩ := hone_of hone j f hj
    have hjl : j < fs.size := (Array.getElem?_eq_some_iff.1 hj).1
    have hcell := hat j hjl
    have hv : cs'[j]? = some (cs'[j]'(by omega)) := List.getElem?_eq_getElem (by omega)
    have h1 := hf j f hj
    rw [ho, hk] at h1
    have hone' : (cs'.drop j).take 1 = [cs'[j]'(by omega)] := by
      rw [List.drop_eq_getElem_cons (by omega)]
      rfl
    rw [hone'] at h1
    have hys : ys[j]? = some (ys[j]'(by omega)) := List.getElem?_eq_getElem (by omega)
    refine ⟨_, _, ?_, hys, h1.trans hys⟩
    rw [← Go.Deep.add_add, hcell, hv]

/-- A cell that holds a slice of words, opened. -/
theorem trod_words {t e : TypeId} {fuel : Nat} {v : Value} {x : DataW H × List MemPlace} (ht : P.underlying t = some (.slice e)) (he : P.underlying e = some (.int .u64)) (hc : P.cellsOf e = 1)
    (hf : DataW.trod enc P w base spare held fuel t [v] = some x) : ∃ xs, Sl .u64 w v xs ∧ wf W64 xs := by
  rcases open_ints ht he hc hf with ⟨hcs, _⟩ | ⟨x, l, c, zs, hcs, _, hl, hm, hz, _, hcell, hwz⟩
  · simp at hcs
    subst hcs
    exact ⟨[], Sl.nil _ _, wf_nil _⟩
  · simp at hcs
    subst hcs
    have hlz : l ≤ zs.length := by rw [hz]; split <;> omega
    have hlen : ((zs.take l).map Int.toNat).length = l := by simp; omega
    have hget : ∀ j, j < l → ((zs.take l).map Int.toNat).getD j 0 = (zs.getD j 0).toNat := by
      intro j hj
      simp [List.getD, hj]
      cases zs[j]? <;> rfl
    refine ⟨(zs.take l).map Int.toNat, ⟨some x, x.block, x.off, c, by rw [hlen], by rw [hlen]; exact hl, ?_, ?_⟩, ?_⟩
    · intro hne
      have h0 : 0 < zs.length := by
        by_cases h : zs = []
        · subst h; simp at hne
        · exact List.length_pos_iff.2 h
      have := World.cell?_spot (hcell 0 h0)
      simp [Addr.add] at this
      obtain ⟨b, o, s⟩ := x
      simp at this; rw [this]
    · intro j hj
      rw [hlen] at hj
      have hjz : j < zs.length := by omega
      have h1 := hcell j hjz
      have hwj := wf_u64_bounds (hwz (zs.getD j 0) (by simp [List.getD, List.getElem?_eq_getElem hjz]))
      rw [hget j hj]
      have e1 : (((zs.getD j 0).toNat : Nat) : Int) = zs.getD j 0 := by omega
      rw [e1, ← h1]
      congr 1
      have h0 : 0 < zs.length := by omega
      have := World.cell?_spot (hcell 0 h0)
      simp [Addr.add] at this
      obtain ⟨b, o, s⟩ := x
      simp at this; subst this
      unfold Addr.add; split
      · rename_i h; subst h; rfl
      · rfl
    · intro y hy
      simp only [List.mem_map] at hy
      obtain ⟨z, hz1, rfl⟩ := hy
      have := wf_u64_bounds (hwz z (List.mem_of_mem_take hz1))
      unfold W64; omega
end

/-- The cells of numbers, word by word. -/
structure Zd (w : World) (ao : Option Addr) (b off : Nat) (ps : List (Bool × List Nat)) : Prop where
  ao : ps ≠ [] → ao = some ⟨b, off, none⟩
  cell : ∀ j, j < ps.length → ∃ u, w.cell? ⟨b, off + j * 2, none⟩ = some (.bool (ps.getD j (false, [])).1) ∧ w.cell? ⟨b, off + j * 2 + 1, none⟩ = some u ∧ Sl .u64 w u (ps.getD j (false, [])).2 ∧ wf W64 (ps.getD j (false, [])).2

theorem Zd.next {w w' : World} {ao : Option Addr} {b off : Nat} {ps : List (Bool × List Nat)} (h : Zd w ao b off ps) (hb : Below w.heap.size w w') : Zd w' ao b off ps := by
  refine ⟨h.ao, fun j hj => ?_⟩
  obtain ⟨u, h1, h2, h3, h4⟩ := h.cell j hj
  exact ⟨u, (hb.cell (World.block_lt_of_cell? w _ h1)).trans h1, (hb.cell (World.block_lt_of_cell? w _ h2)).trans h2, h3.next hb, h4⟩

/-- A slice value reads as numbers, word by word. -/
def Zw (w : World) (v : Value) (ps : List (Bool × List Nat)) : Prop := ∃ ao b off cap, v = .slice ao ps.length cap ∧ ps.length ≤ cap ∧ Zd w ao b off ps
theorem Zw.next {w w' : World} {v : Value} {ps : List (Bool × List Nat)} (h : Zw w v ps) (hb : Below w.heap.size w w') : Zw w' v ps := by
  obtain ⟨ao, b, off, cap, e, hl, hz⟩ := h; exact ⟨ao, b, off, cap, e, hl, hz.next hb⟩
/-- The number of a sign and words. -/
def pv (p : Bool × List Nat) : Int := sg p.1 (nv W64 p.2)
theorem Zw.zs {w : World} {v : Value} {ps : List (Bool × List Nat)} (h : Zw w v ps) {L : Nat} (hL : ∀ p ∈ ps, p.2.length ≤ L) : Zs w v (ps.map pv) L := by
  obtain ⟨ao, b, off, cap, rfl, hl, hz⟩ := h
  refine ⟨ao, b, off, cap, by rw [List.length_map], by rw [List.length_map]; exact hl, fun hne => hz.ao (fun e => hne (by rw [e]; rfl)), fun j hj => ?_⟩
  rw [List.length_map] at hj
  obtain ⟨u, h1, h2, h3, h4⟩ := hz.cell j hj
  have e1 : ps.getD j (false, []) = ps[j] := by simp [List.getD, List.getElem?_eq_getElem hj]
  rw [e1] at h1 h3 h4
  have e2 : (ps.map pv).getD j 0 = pv ps[j] := by simp [List.getD, List.getElem?_eq_getElem hj]
  exact ⟨_, u, h1, h2, _, u, _, rfl, h3, h4, hL _ (List.getElem_mem hj), by rw [e2]; rfl⟩
/-- A value reads as a matrix, word by word. -/
def Mw (w : World) (v : Value) (R C : Int) (ps : List (Bool × List Nat)) : Prop := ∃ u, v = .agg #[.int .i64 R, .int .i64 C, u] ∧ Zw w u ps
theorem Mw.next {w w' : World} {v : Value} {R C : Int} {ps : List (Bool × List Nat)} (h : Mw w v R C ps) (hb : Below w.heap.size w w') : Mw w' v R C ps := by
  obtain ⟨u, e, hz⟩ := h; exact ⟨u, e, hz.next hb⟩
theorem Mw.mt {w : World} {v : Value} {R C : Int} {ps : List (Bool × List Nat)} (h : Mw w v R C ps) {L : Nat} (hL : ∀ p ∈ ps, p.2.length ≤ L) : Mt w v R C (ps.map pv) L := by
  obtain ⟨u, e, hz⟩ := h; exact ⟨u, e, hz.zs hL⟩
theorem Mw.agg {w : World} {v : Value} {R C : Int} {ps : List (Bool × List Nat)} (h : Mw w v R C ps) : ∃ ao c, v = .agg #[.int .i64 R, .int .i64 C, .slice ao ps.length c] := by
  obtain ⟨u, e, ao, b, off, cap, rfl, -⟩ := h; exact ⟨ao, cap, e⟩

section
variable {H : Type} {enc : TypeId × Value → H} {w : World} {base : Nat} {spare : Nat → Bool} {held : Bool}
theorem open_zs {fuel : Nat} {v : Value} {x : DataW H × List MemPlace} (h : DataW.trod enc Try.prog w base spare held fuel 22 [v] = some x) : ∃ ps, Zw w v ps := by
  rcases open_slice_fields Try.underlying22 Try.underlying36 (by kernel_rfl) (by kernel_rfl) h with ⟨hcs, -⟩ | ⟨a, len, cap, m, D, Pl, hcs, hb, hl, hm, hmm, -, hi⟩
  · simp at hcs; subst hcs
    exact ⟨[], none, 0, 0, 0, rfl, Nat.le_refl _, fun h => absurd rfl h, fun j hj => absurd hj (Nat.not_lt_zero _)⟩
  · simp at hcs; subst hcs
    have hlm : len ≤ m := by rw [hmm]; split <;> omega
    have key : ∀ j, ∃ p : Bool × List Nat, j < len → ∃ u, w.cell? (a.add (j * 2)) = some (.bool p.1) ∧ w.cell? (a.add (j * 2 + 1)) = some u ∧ Sl .u64 w u p.2 ∧ wf W64 p.2 := by
      intro j
      by_cases hj : j < len
      · obtain ⟨ys, n, -, -, hys, hf⟩ := hi j (by omega)
        obtain ⟨v0, y0, hc0, -, ht0⟩ := hf 0 _ rfl
        obtain ⟨v1, y1, hc1, -, ht1⟩ := hf 1 _ rfl
        obtain ⟨b, hb0, -⟩ := DataW.trod_bool Try.underlying4 ht0
        simp at hb0; subst hb0
        obtain ⟨xs, hxs, hwx⟩ := trod_words Try.underlying34 Try.underlying61 (by kernel_rfl) ht1
        exact ⟨(b, xs), fun _ => ⟨v1, hc0, hc1, hxs, hwx⟩⟩
      · exact ⟨(false, []), fun h => absurd h hj⟩
    have spot : len ≠ 0 → ∃ b off, a = ⟨b, off, none⟩ := by
      intro h0
      obtain ⟨p, hp⟩ := key 0
      obtain ⟨u, h1, -⟩ := hp (by omega)
      have := World.cell?_spot h1
      obtain ⟨b, o, s⟩ := a
      simp [Addr.add] at this
      exact ⟨b, o, by rw [this]⟩
    refine ⟨(List.range len).map fun j => Classical.choose (key j), some a, a.block, a.off, cap, by simp, by simpa using hl, fun hne => ?_, fun j hj => ?_⟩
    · obtain ⟨b, off, rfl⟩ := spot (by intro h; subst h; simp at hne)
      rfl
    · simp at hj
      have e1 : ((List.range len).map fun j => Classical.choose (key j)).getD j (false, []) = Classical.choose (key j) := by simp [List.getD, hj]
      rw [e1]
      have ch := Classical.choose_spec (key j) hj
      have sp := spot (by omega)
      generalize Classical.choose (key j) = q at ch ⊢
      clear key e1 spot
      obtain ⟨b, off, rfl⟩ := sp
      obtain ⟨u, h1, h2, h3, h4⟩ := ch
      have ad : ∀ k, (⟨b, off, none⟩ : Addr).add k = ⟨b, off + k, none⟩ := by
        intro k; unfold Addr.add; split
        · rename_i h; subst h; rfl
        · rfl
      rw [ad] at h1 h2
      exact ⟨u, h1, by rw [← h2, Nat.add_assoc], h3, h4⟩

theorem open_mat {r : Reach} {b0 : Nat} {v : Value} {d : DataW H} {p : List MemPlace} (hv : Value.okWide Try.prog w r b0 24 v) (h : DataW.Trod enc Try.prog w base spare held 24 v d p) :
    ∃ (R C : Int) (ps : List (Bool × List Nat)), Mw w v R C ps ∧ (-9223372036854775808 ≤ R ∧ R ≤ 9223372036854775807) ∧ (-9223372036854775808 ≤ C ∧ C ≤ 9223372036854775807) := by
  obtain ⟨v0, v1, v2, y0, y1, y2, n, rfl, -, -, h0, h1, h2⟩ := open_agg3 Try.underlying24 (by kernel_rfl) (by kernel_rfl) hv h
  obtain ⟨R, e0, -, w0⟩ := DataW.trod_int Try.underlying3 h0
  obtain ⟨C, e1, -, w1⟩ := DataW.trod_int Try.underlying3 h1
  obtain ⟨ps, hps⟩ := open_zs h2
  simp at e0 e1; subst e0 e1
  exact ⟨R, C, ps, ⟨v2, rfl, hps⟩, wf_i64_bounds w0, wf_i64_bounds w1⟩

theorem open_zint {r : Reach} {b0 : Nat} {v : Value} {d : DataW H} {p : List MemPlace} (hv : Value.okWide Try.prog w r b0 36 v) (h : DataW.Trod enc Try.prog w base spare held 36 v d p) :
    ∃ (s : Bool) (u : Value) (xs : List Nat), v = .agg #[.bool s, u] ∧ Sl .u64 w u xs ∧ wf W64 xs := by
  obtain ⟨v0, v1, y0, y1, n, rfl, -, -, h0, h1⟩ := open_agg2 Try.underlying36 (by kernel_rfl) (by kernel_rfl) hv h
  obtain ⟨b, e0, -⟩ := DataW.trod_bool Try.underlying4 h0
  obtain ⟨xs, hxs, hwx⟩ := trod_words Try.underlying34 Try.underlying61 (by kernel_rfl) h1
  simp at e0; subst e0
  exact ⟨b, v1, xs, rfl, hxs, hwx⟩
end

end Go.Proofs.Ytahjbeilddenbaa
