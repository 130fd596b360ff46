/- zmat.made: a matrix, place by place. -/
import Derived.Test.YtahjbeilddenbaaZmat
namespace Go.Proofs.Ytahjbeilddenbaa
open Go.RowKit

/-- The cells of numbers that lie side by side. -/
def flat (es : List (Bool × Value)) : List Value := es.flatMap fun p => [.bool p.1, p.2]
theorem flat_nil : flat [] = [] := rfl
theorem flat_cons (p : Bool × Value) (es : List (Bool × Value)) : flat (p :: es) = .bool p.1 :: p.2 :: flat es := rfl
theorem flat_append (es ds : List (Bool × Value)) : flat (es ++ ds) = flat es ++ flat ds := by simp [flat]
theorem flat_length (es : List (Bool × Value)) : (flat es).length = es.length * 2 := by
  induction es with
  | nil => rfl
  | cons p es ih => rw [flat_cons]; simp only [List.length_cons, ih]; omega
theorem flat_get (es : List (Bool × Value)) : ∀ j (h : j < es.length), (flat es)[j * 2]? = some (.bool (es[j]'h).1) ∧ (flat es)[j * 2 + 1]? = some (es[j]'h).2 := by
  induction es with
  | nil => intro j h; simp at h
  | cons p es ih =>
    intro j h
    rw [flat_cons]
    cases j with
    | zero => exact ⟨rfl, rfl⟩
    | succ j =>
      have := ih j (by simpa using h)
      rw [show (j + 1) * 2 = j * 2 + 2 by omega]
      simpa using this

/-- A slice value of words does not lie in a block. -/
def Offb (u : Value) (g : Nat) : Prop := ∀ a n c, u = .slice (some a) n c → 0 < n → a.block ≠ g

theorem Cs.far_of {k : IntKind} {w w' : World} {ao : Option Addr} {b off : Nat} {xs : List Nat} (h : Cs k w ao b off xs) (hh : xs ≠ [] → w'.heap[b]? = w.heap[b]?) : Cs k w' ao b off xs :=
  ⟨h.ao, fun j hj => (World.cell?_of_block (w := w) (hh (by intro e; subst e; simp at hj))).trans (h.cell j hj)⟩

theorem IvN.grown {w w' : World} {s : Bool} {u : Value} {z : Int} {L : Nat} {ro : Option Nat} (h : IvN w (.agg #[.bool s, u]) z L) (hg : w.grownBy w' ro) (ho : ∀ g, ro = some g → Offb u g) : IvN w' (.agg #[.bool s, u]) z L := by
  obtain ⟨s', u', xs, e, ⟨ao, b, off, cap, rfl, hl, hcs⟩, r⟩ := h
  simp only [Value.agg.injEq, Array.mk.injEq, List.cons.injEq, and_true] at e
  obtain ⟨e1, rfl⟩ := e
  refine ⟨s', _, xs, by rw [e1], ⟨ao, b, off, cap, rfl, hl, hcs.far_of fun hx => hg.block b (hcs.lt hx) ?_⟩, r⟩
  intro hb
  have := hcs.ao hx
  subst this
  exact ho b hb.symm _ _ _ rfl (List.length_pos_iff.2 hx) rfl

/-- A list of whole numbers, normal ones, that the call owns. -/
structure ZO (w : World) (base : Nat) (v : Value) (zs : List Int) (L : Nat) (es : List (Bool × Value)) : Prop where
  len : es.length = zs.length
  own : w.ownsRow base 36 2 v es.length (flat es)
  num : ∀ j (h : j < es.length), IvN w (.agg #[.bool (es[j]'h).1, (es[j]'h).2]) (zs.getD j 0) L
  off : ∀ j (h : j < es.length), ∀ g, v.ownBlock = some g → Offb (es[j]'h).2 g

theorem ZO.nil (w : World) (base L : Nat) : ZO w base (.slice none 0 0) [] L [] :=
  ⟨rfl, World.ownsRow_nil _ _ _ _, fun j h => by simp at h, fun j h => by simp at h⟩

theorem ownsRow_next {w w' : World} {base : Nat} {e : TypeId} {size n : Nat} {v : Value} {xs : List Value} (h : w.ownsRow base e size v n xs) {B : Nat} (hb : Below B w w') (hB : w.heap.size ≤ B) : w'.ownsRow base e size v n xs := by
  refine ⟨h.1, ?_⟩
  rcases h.2 with h | ⟨g, cap, cur, a, b, c, d⟩
  · exact .inl h
  · refine .inr ⟨g, cap, cur, a, b, ?_, d⟩
    rw [hb.block g (by have := (Array.getElem?_eq_some_iff.1 c).1; omega)]; exact c

theorem ZO.next {w w' : World} {base : Nat} {v : Value} {zs : List Int} {L : Nat} {es : List (Bool × Value)} (h : ZO w base v zs L es) (hb : Below w.heap.size w w') : ZO w' base v zs L es :=
  ⟨h.len, ownsRow_next h.own hb (Nat.le_refl _), fun j hj => (h.num j hj).next hb, h.off⟩

theorem ZO.shape {w : World} {base : Nat} {v : Value} {zs : List Int} {L : Nat} {es : List (Bool × Value)} (h : ZO w base v zs L es) :
    (v = .slice none 0 0 ∧ zs = []) ∨ ∃ g cap, v = .slice (some ⟨g, 0, none⟩) zs.length cap ∧ base ≤ g ∧ g < w.heap.size ∧ zs.length ≤ cap := by
  rcases h.own.2 with ⟨a, b⟩ | ⟨g, cap, cur, rfl, hb, hg, hn, hm, _⟩
  · exact .inl ⟨a, List.length_eq_zero_iff.1 (by rw [← h.len]; exact b)⟩
  · exact .inr ⟨g, cap, by rw [h.len], hb, (Array.getElem?_eq_some_iff.1 hg).1, by rw [← h.len]; exact hn⟩

theorem ZO.zs {w : World} {base : Nat} {v : Value} {zs : List Int} {L : Nat} {es : List (Bool × Value)} (h : ZO w base v zs L es) : Zs w v zs L := by
  rcases h.shape with ⟨rfl, rfl⟩ | ⟨g, cap, rfl, _, _, hn⟩
  · exact Zs.nil _ _
  · refine ⟨_, g, 0, cap, rfl, hn, fun _ => rfl, fun j hj => ?_⟩
    have hj' : j < es.length := by rw [h.len]; exact hj
    have e := h.own
    rw [← h.len] at e
    obtain ⟨f1, f2⟩ := flat_get es j hj'
    have hl := flat_length es
    refine ⟨(es[j]'hj').1, (es[j]'hj').2, ?_, ?_, (h.num j hj').iv⟩
    · rw [Nat.zero_add, World.ownsRow.cellAt e (j * 2) (show j * 2 < es.length * 2 by omega)]; exact f1
    · rw [Nat.zero_add, World.ownsRow.cellAt e (j * 2 + 1) (show j * 2 + 1 < es.length * 2 by omega)]; exact f2

theorem ZO.drew {w : World} {base : Nat} {v : Value} {zs : List Int} {L : Nat} {es : List (Bool × Value)} (h : ZO w base v zs L es) : ZO w.drew base v zs L es := h.next (Drawn.below ⟨1, rfl⟩ _)

theorem IvN.offb {w : World} {s : Bool} {u : Value} {z : Int} {L : Nat} (h : IvN w (.agg #[.bool s, u]) z L) {g : Nat} (hg : w.heap.size ≤ g) : Offb u g := by
  obtain ⟨s', u', xs, e, ⟨ao, b, off, cap, rfl, hl, hcs⟩, r⟩ := h
  simp only [Value.agg.injEq, Array.mk.injEq, List.cons.injEq, and_true] at e
  obtain ⟨-, rfl⟩ := e
  intro a n c e hn hb
  simp only [Value.slice.injEq] at e
  obtain ⟨rfl, rfl, rfl⟩ := e
  have hx := List.length_pos_iff.1 hn
  have := hcs.ao hx
  simp only [Option.some.injEq] at this
  subst this
  have h2 := hcs.lt hx
  simp only at hb
  omega

theorem Fresh.offb {B g : Nat} {s : Bool} {ao : Option Addr} {n c : Nat} (h : Fresh B (.agg #[.bool s, .slice ao n c])) (hg : g < B) : Offb (.slice ao n c) g := by
  intro a n' c' e hn hb
  simp only [Value.slice.injEq] at e
  obtain ⟨rfl, rfl, rfl⟩ := e
  have := h s a _ _ rfl hn
  omega

/-- 'out = append(out, x)' of whole numbers: x has just been laid in a block of its own. -/
theorem zapI {P : Program} {o : Oper} {a : Act} {K : Act → World → Prop} {Q : Exit → Act → World → Prop} (T bytes : Nat) (z0 : Value)
    (hu : P.underlying T = some (.slice 36)) (hi : (P.info? 36).map (fun i => (i.zero, i.size, i.bytes)) = some (some z0, 2, bytes)) (hby : bytes ≤ 32) (hz0 : z0.cells.size = 2)
    (s x : Operand) (ho : o.op = .call { callee := .builtin .append, args := #[s, x], argTypes := #[T, T] })
    (w : World) (base : Nat) (v : Value) (zs : List Int) (L : Nat) (es : List (Bool × Value)) (z : Int) (sb : Bool) (u : Value)
    (hown : ZO w base v zs L es) (hnum : IvN w (.agg #[.bool sb, u]) z L) (hfr : ∀ g, v.ownBlock = some g → Offb u g)
    (hlen : zs.length ≤ 1000000000) (hbase : base ≤ w.heap.size)
    (hs : a.eval s = v) (hx : a.eval x = .slice (some ⟨w.heap.size, 0, none⟩) 1 1)
    (h : ∀ (g cap : Nat) (w' : World), ZO w' base (.slice (some ⟨g, 0, none⟩) (zs.length + 1) cap) (zs ++ [z]) L (es ++ [(sb, u)]) → Below base w w' → w.grownBy w' v.ownBlock → (v.ownBlock = some g ∨ w.heap.size ≤ g) → K (a.put o.dst (.slice (some ⟨g, 0, none⟩) (zs.length + 1) cap)) w') :
    Oper.wp P o a (w.alloc (.cells #[.bool sb, u] 36)) K Q := by
  obtain ⟨i0, h1, h2, h3, h4⟩ := info_parts hi
  have hle := hown.len
  obtain ⟨s', u', xs, e, ⟨ao, b, off, cap, hu', hl, hcs⟩, r⟩ := id hnum
  simp only [Value.agg.injEq, Array.mk.injEq, List.cons.injEq, and_true] at e
  obtain ⟨-, rfl⟩ := e
  have hnum' : IvN (w.alloc (.cells #[.bool sb, u] 36)) (.agg #[.bool sb, u]) z L := hnum.next ((Below.refl _ _).alloc (Nat.le_refl _) _)
  have hB := Blk.lit w 36 [.bool sb, u]
  refine wp_append_lies _ s x T ho base 36 i0 z0 2 bytes hu h1 h2 h3 h4 hz0 (by decide) v es.length (flat es) hs (World.ownsRow.alloc hown.own _) ⟨w.heap.size, 0, none⟩ 1 1 (flat [(sb, u)]) hx rfl ?_ ?_ (by decide) ?_ ?_ ?_ (w.heap.size + 1) ?_ ?_
  · intro j y hj
    have e : (⟨w.heap.size, 0, none⟩ : Addr).add j = ⟨w.heap.size, j, none⟩ := by
      unfold Addr.add; split
      · rename_i h; subst h; rfl
      · simp
    rw [e]
    exact (hB.cell j).trans hj
  · intro y hy; simp [flat] at hy; rcases hy with rfl | rfl
    · rfl
    · rw [hu']; rfl
  · unfold maxLen; omega
  · have : (es.length + 1) * bytes ≤ (es.length + 1) * 32 := Nat.mul_le_mul_left _ hby
    omega
  · simp; omega
  · simp
  · intro g cap w' k1 k2 k3 k4
    have hg : w.grownBy w' v.ownBlock := by
      have e0 := World.grownBy_alloc w (.cells #[.bool sb, u] 36) v.ownBlock
      exact ⟨k2.os.trans e0.os, k2.tape.trans e0.tape, k2.output.trans e0.output, Nat.le_trans e0.size k2.size, fun i hi hne => (k2.block i (Nat.lt_of_lt_of_le hi e0.size) hne).trans (e0.block i hi hne)⟩
    have hge : ∀ k, v.ownBlock = some k → base ≤ k := fun j hj => (World.ownsRow.lt hown.own j hj).1
    rw [hle] at k1 ⊢
    refine h g cap w' ⟨by simp [hle], ?_, ?_, ?_⟩ (below_grown hg hbase hge) hg (k3.imp id (fun e => by omega))
    · rw [flat_append, List.length_append, hle]; exact k1
    · intro j hj
      by_cases hlt : j < es.length
      · rw [List.getElem_append_left hlt]
        have := (hown.num j hlt).grown hg (fun g' hg' => hown.off j hlt g' hg')
        have e2 : (zs ++ [z]).getD j 0 = zs.getD j 0 := by
          simp [List.getD, List.getElem?_append_left (show j < zs.length by omega)]
        rw [e2]; exact this
      · have hj2 : j = es.length := by simp at hj; omega
        subst hj2
        have e2 : (zs ++ [z]).getD es.length 0 = z := by simp [List.getD, hle]
        rw [e2]
        simp only [List.getElem_append_right (Nat.le_refl _), Nat.sub_self, List.getElem_cons_zero]
        exact hnum.grown hg hfr
    · intro j hj g' hg'
      have hg2 : g' = g := by simp [Value.ownBlock] at hg'; exact hg'.symm
      subst hg2
      by_cases hlt : j < es.length
      · rw [List.getElem_append_left hlt]
        rcases k3 with k3 | k3
        · exact hown.off j hlt _ k3
        · exact (hown.num j hlt).offb (by omega)
      · have hj2 : j = es.length := by simp at hj; omega
        subst hj2
        simp only [List.getElem_append_right (Nat.le_refl _), Nat.sub_self, List.getElem_cons_zero]
        rcases k3 with k3 | k3
        · exact hfr _ k3
        · exact hnum.offb (by omega)

/-- 'out = append(out, x)' of whole numbers: x has just been laid in a block of its own. -/
theorem zap {P : Program} {o : Oper} {a : Act} {K : Act → World → Prop} {Q : Exit → Act → World → Prop} (T bytes : Nat) (z0 : Value)
    (hu : P.underlying T = some (.slice 36)) (hi : (P.info? 36).map (fun i => (i.zero, i.size, i.bytes)) = some (some z0, 2, bytes)) (hby : bytes ≤ 32) (hz0 : z0.cells.size = 2)
    (s x : Operand) (ho : o.op = .call { callee := .builtin .append, args := #[s, x], argTypes := #[T, T] })
    (w : World) (base : Nat) (v : Value) (zs : List Int) (L : Nat) (es : List (Bool × Value)) (z : Int) (sb : Bool) (u : Value)
    (hown : ZO w base v zs L es) (hnum : IvN w (.agg #[.bool sb, u]) z L) (hfr : ∀ g, v.ownBlock = some g → Offb u g)
    (hlen : zs.length ≤ 1000000000) (hbase : base ≤ w.heap.size)
    (hs : a.eval s = v) (hx : a.eval x = .slice (some ⟨w.heap.size, 0, none⟩) 1 1)
    (h : ∀ (g cap : Nat) (w' : World), ZO w' base (.slice (some ⟨g, 0, none⟩) (zs.length + 1) cap) (zs ++ [z]) L (es ++ [(sb, u)]) → Below base w w' → w.grownBy w' v.ownBlock → K (a.put o.dst (.slice (some ⟨g, 0, none⟩) (zs.length + 1) cap)) w') :
    Oper.wp P o a (w.alloc (.cells #[.bool sb, u] 36)) K Q :=
  zapI T bytes z0 hu hi hby hz0 s x ho w base v zs L es z sb u hown hnum hfr hlen hbase hs hx fun g cap w' h1 h2 h3 _ => h g cap w' h1 h2 h3

end Go.Proofs.Ytahjbeilddenbaa
