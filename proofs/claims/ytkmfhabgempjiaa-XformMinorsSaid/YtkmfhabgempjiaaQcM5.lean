/- fmat.made: a matrix, place by place. -/
import Derived.Shelf.Abstract
import Derived.ChangeSame
import Derived.Lib.SmallJoins
import Derived.Test.YtkmfhabgempjiaaQcM2
import Derived.Test.YtkmfhabgempjiaaQcM4
import Derived.Test.YtkmfhabgempjiaaQcM1
namespace Go.Proofs.Ytkmfhabgempjiaa
open Go.RowKit

theorem Own.sliced {k : IntKind} {e : TypeId} {w : World} {base : Nat} {v : Value} {xs : List Nat} (h : Own k e w base v xs) : ∃ ao c, v = .slice ao xs.length c := by
  rcases h.shape with ⟨rfl, rfl⟩ | ⟨g, cap, rfl, -⟩
  · exact ⟨none, 0, rfl⟩
  · exact ⟨_, _, rfl⟩

end Go.Proofs.Ytkmfhabgempjiaa
/- A region that draws its order and stores twice: one condition on the world ahead of the first store, none behind it. -/
namespace Go.Proofs.Ytkmfhabgempjiaa
open Go

section
variable {P : Program} {ops : Array Oper} {Q : Exit → Act → World → Prop} {S : World → Prop} {m : Nat}

/-- The condition at hand: S ahead of operation m. -/
def SSc (S : World → Prop) (m : Nat) (l : Array Bool) (w : World) : Prop := l.getD m false = false → S w

/-- Whatever order is picked; S holds ahead of operation m. -/
def wpAnyD (P : Program) (ops : Array Oper) (Q : Exit → Act → World → Prop) (S : World → Prop) (m : Nat) : Nat → Array Bool → Act → World → Prop
  | 0, listed, a, w => Region.ready .any ops listed = [] ∧ Q .normal a w
  | fuel + 1, listed, a, w =>
    (Region.ready .any ops listed = [] → Q .normal a w) ∧
    ∀ i ∈ Region.ready .any ops listed, wpOp P ops Q i (fun a' w' => SSc S m (listed.setIfInBounds i true) w' ∧ wpAnyD P ops Q S m fuel (listed.setIfInBounds i true) a' w') a w

theorem wpAny_of_D : ∀ (fuel : Nat) (listed : Array Bool) (a : Act) (w : World), wpAnyD P ops Q S m fuel listed a w → wpAny P .any ops Q fuel listed a w
  | 0, _, _, _, h => h
  | fuel + 1, _, _, _, h => ⟨h.1, fun i hi => wpOp_mono (fun a' w' h' => wpAny_of_D fuel _ a' w' h'.2) (h.2 i hi)⟩

/-- Behind m there is no condition. -/
theorem D_of_H : ∀ (fuel : Nat) (listed : Array Bool) (a : Act) (w : World), listed.getD m false = true → wpAnyH P .any ops Q (fun _ => True) fuel listed a w → wpAnyD P ops Q S m fuel listed a w
  | 0, _, _, _, _, h => h
  | fuel + 1, listed, _, _, hm, h => ⟨h.1, fun i hi => wpOp_mono (fun a' w' h' => ⟨fun e => (by have := getD_set_true (i := i) hm; rw [this] at e; cases e), D_of_H fuel _ a' w' (getD_set_true hm) h'.2⟩) (h.2 i hi)⟩

theorem not_ready {listed : Array Bool} {i j : Nat} {oj : Oper} (hr : i ∈ Region.ready .any ops listed) (hj : j ∈ Region.ready .any ops listed) (ho : ops[j]? = some oj) : ∀ e ∈ oj.after, Region.binds .any e = true → e.on ≠ i := by
  obtain ⟨_, o, hoj, hall⟩ := mem_ready.1 hj
  obtain rfl : o = oj := Option.some.inj (hoj.symm.trans ho)
  intro e he hb heq
  have h1 := hall e he hb
  have h0 := (mem_ready.1 hr).1
  rw [heq] at h1
  rcases Nat.lt_or_ge i listed.size with h' | h'
  · simp [h'] at h0 h1; rw [h0] at h1; cases h1
  · simp [Array.getElem?_eq_none h'] at h1

theorem SSc.set {i : Nat} (him : i ≠ m) {l : Array Bool} {w : World} : SSc S m (l.setIfInBounds i true) w ↔ SSc S m l w := by
  unfold SSc; rw [getD_set_ne false him]

theorem firstD {i : Nat} {oi : Oper} {v : Value} {U : World → Prop} (hi : ops[i]? = some oi) (hsel : ∀ (j : Nat) (o : Oper) cs b, ops[j]? = some o → o.op ≠ .select cs b)
    (hQ : ∀ c a w, Q (.panic c) (a.put oi.dst v) w → Q (.panic c) a w) (him : i ≠ m)
    (hU : (∀ w, U w) ∨ ((∀ w, S w → U w) ∧ ∃ om, ops[m]? = some om ∧ ∃ e ∈ om.after, Region.binds .any e = true ∧ e.on = i)) :
    ∀ (fuel : Nat) (listed : Array Bool) (a : Act) (w : World),
      (∀ j oj, ops[j]? = some oj → j ≠ i → listed.getD j true = false → (∀ e ∈ oj.after, Region.binds .any e = true → e.on ≠ i) → oi.apart ops oj = true) →
      i ∈ Region.ready .any ops listed → ((∀ w, U w) ∨ listed.getD m false = false) → YieldsIf P ops U oi v a → SSc S m listed w →
      wpAnyD P ops Q S m fuel (listed.setIfInBounds i true) (a.put oi.dst v) w → wpAnyD P ops Q S m (fuel + 1) listed a w := by
  intro fuel
  induction fuel with
  | zero =>
    intro listed a w _ hr hl hy hS H
    have hUw : U w := hl.elim (fun h => h w) (fun h => hU.elim (fun k => k w) (fun k => k.1 w (hS h)))
    refine ⟨fun h => (by rw [h] at hr; cases hr), fun j hj => ?_⟩
    by_cases hji : j = i
    · subst hji; exact hy.wpOp hi hUw ⟨(SSc.set him).2 hS, H⟩
    · have := ready_mono hj hji
      rw [H.1] at this
      cases this
  | succ fuel ih =>
    intro listed a w hfree hr hl hy hS H
    have hUw : U w := hl.elim (fun h => h w) (fun h => hU.elim (fun k => k w) (fun k => k.1 w (hS h)))
    refine ⟨fun h => (by rw [h] at hr; cases hr), fun j hj => ?_⟩
    by_cases hji : j = i
    · subst hji; exact hy.wpOp hi hUw ⟨(SSc.set him).2 hS, H⟩
    · have h1 := H.2 j (ready_mono hj hji)
      obtain ⟨hjun, oj, hoj, hall⟩ := mem_ready.1 hj
      have hnot := not_ready hr hj hoj
      have h2 := wpOp_putIf hoj (hfree j oj hoj hji hjun hnot) (fun cs b => hsel i oi cs b hi) (fun cs b => hsel j oj cs b hoj) hQ hy h1
      have hfree' : ∀ k ok, ops[k]? = some ok → k ≠ i → (listed.setIfInBounds j true).getD k true = false →
          (∀ e ∈ ok.after, Region.binds .any e = true → e.on ≠ i) → oi.apart ops ok = true := fun k ok hk hki hun hno => by
        refine hfree k ok hk hki ?_ hno
        by_cases hjk : j = k
        · subst hjk; exact hjun
        · rw [getD_set_ne true hjk] at hun; exact hun
      have hl' : (∀ w, U w) ∨ (listed.setIfInBounds j true).getD m false = false := by
        rcases hl with h | h
        · exact .inl h
        · rcases hU with hU | ⟨_, om, hom, e, he, hb, heq⟩
          · exact .inl hU
          · have hjm : j ≠ m := by
              intro hjm; subst hjm
              obtain rfl : oj = om := Option.some.inj (hoj.symm.trans hom)
              exact hnot e he hb heq
            exact .inr (by rw [getD_set_ne false hjm]; exact h)
      refine wpOp_mono (fun a' w' h3 => ?_) h2
      have h4 := h3.2.1
      have h5 := h3.2.2
      rw [← Array.setIfInBounds_comm _ _ hji] at h4 h5
      have hSw := (SSc.set him).1 h4
      exact ⟨hSw, ih (listed.setIfInBounds j true) a' w' hfree' (ready_mono hr (Ne.symm hji)) hl' h3.1 hSw h5⟩
end

section
variable {P : Program} {l : List Oper} {Q : Exit → Act → World → Prop} {S : World → Prop} {m : Nat}

theorem startD {id : Nat} {a : Act} {w : World} (m : Nat) (hm : P.follows .mixedOrders = true) (hS : S w.drew)
    (h : S w.drew → wpAnyD P l.toArray Q S m l.length (Array.replicate l.length false) a w.drew) : (Code.region id l.toArray true).wp P Q a w := by
  refine wp_region_any hm (wpAny_of_D (S := S) (m := m) _ _ _ _ ?_)
  simpa using h hS

/-- An operation that yields in whatever world. -/
theorem takeDA {fuel : Nat} {listed : Array Bool} {a : Act} {w : World} (i : Nat) {oi : Oper} {v : Value} (hi : l[i]? = some oi)
    (hs : Region.noSelect l.toArray = true) (hf : Region.free .any l.toArray listed i = true) (hr : (Region.ready .any l.toArray listed).contains i = true)
    (hQ : ∀ c a w, Q (.panic c) (a.put oi.dst v) w → Q (.panic c) a w) (him : i ≠ m) (hy : Region.wanted oi (yielded l.toArray a.tmps) = true ∧ ∀ w, (execOp a.eval oi).run P w = .ok (.value v) w) (hS : S w)
    (h : wpAnyD P l.toArray Q S m fuel (listed.setIfInBounds i true) (a.put oi.dst v) w) : wpAnyD P l.toArray Q S m (fuel + 1) listed a w :=
  firstD (U := fun _ => True) (by simpa using hi) (Region.noSelect_spec hs) hQ him (.inl fun _ => trivial) fuel listed a w (Region.free_spec (by simpa using hi) hf) (by simpa using hr) (.inl fun _ => trivial) (.inl ⟨hy.1, fun w _ => hy.2 w⟩) (fun _ => hS) h

/-- Operation m waits for operation i. -/
def waitsB (l : List Oper) (m i : Nat) : Bool := match l[m]? with
  | some o => o.after.toList.any fun e => Region.binds .any e && e.on == i
  | none => false
theorem waits_spec {i : Nat} (h : waitsB l m i = true) : ∃ om, l.toArray[m]? = some om ∧ ∃ e ∈ om.after, Region.binds .any e = true ∧ e.on = i := by
  unfold waitsB at h
  cases ho : l[m]? with
  | none => rw [ho] at h; cases h
  | some o =>
    rw [ho] at h
    obtain ⟨e, he, hb⟩ := List.any_eq_true.1 h
    simp only [Bool.and_eq_true, beq_iff_eq] at hb
    exact ⟨o, by simpa using ho, e, Array.mem_toList_iff.1 he, hb.1, hb.2⟩

/-- An operation that m waits for. -/
theorem takeD0 {fuel : Nat} {listed : Array Bool} {a : Act} {w : World} (i : Nat) {oi : Oper} {v : Value} (hi : l[i]? = some oi)
    (hs : Region.noSelect l.toArray = true) (hf : Region.free .any l.toArray listed i = true) (hr : (Region.ready .any l.toArray listed).contains i = true)
    (hQ : ∀ c a w, Q (.panic c) (a.put oi.dst v) w → Q (.panic c) a w) (him : i ≠ m) (hw : waitsB l m i = true) (hl : listed.getD m false = false)
    (hy : Region.wanted oi (yielded l.toArray a.tmps) = true ∧ ∀ w, S w → (execOp a.eval oi).run P w = .ok (.value v) w) (hS : S w)
    (h : wpAnyD P l.toArray Q S m fuel (listed.setIfInBounds i true) (a.put oi.dst v) w) : wpAnyD P l.toArray Q S m (fuel + 1) listed a w :=
  firstD (U := S) (by simpa using hi) (Region.noSelect_spec hs) hQ him (.inr ⟨fun _ h => h, waits_spec hw⟩) fuel listed a w (Region.free_spec (by simpa using hi) hf) (by simpa using hr) (.inr hl) (.inl hy) (fun _ => hS) h

/-- The one operation that may come up, ahead of m. -/
theorem oneD {fuel : Nat} {listed : Array Bool} {a : Act} {w : World} (i : Nat) {o : Oper} (hi : l[i]? = some o) (hr : Region.ready .any l.toArray listed = [i])
    (hw : Region.wanted o (yielded l.toArray a.tmps) = true)
    (h : ∀ K' : Act → World → Prop, Shut (∀ a w, S w → (S w → wpAnyD P l.toArray Q S m fuel (listed.setIfInBounds i true) a w) → K' a w) → Oper.wp P o a w K' Q) : wpAnyD P l.toArray Q S m (fuel + 1) listed a w := by
  refine ⟨fun h0 => (by rw [hr] at h0; cases h0), fun j hj => ?_⟩
  rw [hr] at hj
  obtain rfl := List.mem_singleton.1 hj
  refine wpOp_step (by simpa using hi) (fun K' hK => ?_)
  rw [if_pos hw]
  exact h K' (fun a w hS hW => hK a w ⟨fun _ => hS, hW hS⟩)

/-- Operation m. -/
theorem oneM {fuel : Nat} {listed : Array Bool} {a : Act} {w : World} {o : Oper} (hi : l[m]? = some o) (hr : Region.ready .any l.toArray listed = [m]) (hl : m < listed.size)
    (hw : Region.wanted o (yielded l.toArray a.tmps) = true)
    (h : ∀ K' : Act → World → Prop, Shut (∀ a w, wpAnyH P .any l.toArray Q (fun _ => True) fuel (listed.setIfInBounds m true) a w → K' a w) → Oper.wp P o a w K' Q) : wpAnyD P l.toArray Q S m (fuel + 1) listed a w := by
  refine ⟨fun h0 => (by rw [hr] at h0; cases h0), fun j hj => ?_⟩
  rw [hr] at hj
  obtain rfl := List.mem_singleton.1 hj
  have hm : (listed.setIfInBounds j true).getD j false = true := by simp [hl]
  refine wpOp_step (by simpa using hi) (fun K' hK => ?_)
  rw [if_pos hw]
  exact h K' (fun a w hW => hK a w ⟨fun e => (by rw [hm] at e; cases e), D_of_H _ _ _ _ hm hW⟩)
end

end Go.Proofs.Ytkmfhabgempjiaa
/- Plain algebra: matrices made of each other have one characteristic polynomial; Hessenberg's form, step by step; its characteristic polynomial. -/
namespace Go.Proofs.Ytkmfhabgempjiaa
open CR

section
variable {R : Type} [CR R] {n m : Nat}

/-- A multiple of the row k is taken out of the row i; as many of the column i are put to the column k. -/
def rcl (H : Nat → Nat → R) (i k : Nat) (c : R) : Nat → Nat → R := fun a b => if a = i then H a b - c * H k b else H a b
def hcl (H : Nat → Nat → R) (i k : Nat) (c : R) : Nat → Nat → R := fun a b => if b = k then rcl H i k c a k + c * rcl H i k c a i else rcl H i k c a b

end

end Go.Proofs.Ytkmfhabgempjiaa
/- hess.work: rows and columns change places. -/
namespace Go.Proofs.Ytkmfhabgempjiaa
open Go.RowKit

section
variable {α : Type} {V : World → Value → α → Prop} {e er : TypeId} {w : World} {base n N : Nat} {rv : Value} {vs : List Value} {W : Nat → Nat → α}
end
section
variable {p : Nat} {w : World} {base gW n : Nat} {H P H' P' : Nat → Nat → Zp p} {hs ps : List Value} {gh ch gp cp : Nat}
end

theorem cell_set_some {w : World} {p q : Addr} {x v : Value} (h : w.cell? q = some v) : ∃ v', (w.setCell p x).cell? q = some v' := by
  by_cases e : p = q
  · subst e; exact ⟨x, World.cell?_setCell_same _ _ _ h⟩
  · exact ⟨v, (World.cell?_setCell_other _ _ _ _ e).trans h⟩
end Go.Proofs.Ytkmfhabgempjiaa
/- hess.work: the characteristic polynomial of one row and column more. -/
namespace Go.Proofs.Ytkmfhabgempjiaa
open Go.RowKit

theorem pl1 {p : Nat} : pl p [1] = 1 := Pol.ext fun i => by rw [pl_c, Pol.one_def, c_mon]; cases i <;> rfl
end Go.Proofs.Ytkmfhabgempjiaa
/- hess: the characteristic polynomial. -/
namespace Go.Proofs.Ytkmfhabgempjiaa
open Go.RowKit

theorem Own.keptP {w w' : World} {base : Nat} {v : Value} {xs : List Nat} (h : Own .u64 27 w base v xs) {b1 n0 : Nat} {v0 : Value} {xs0 : List Value} (ho : w.ownsRow b1 43 1 v0 n0 xs0) (hg : w.grownBy w' v0.ownBlock) : Own .u64 27 w' base v xs := by
  refine World.ownsRow.kept h hg ?_
  rcases h.2 with ⟨h1, _⟩ | ⟨g, cap, cur, h1, _, h2, _⟩
  · left; rw [h1]; rfl
  · right
    intro e
    rw [h1] at e
    exact rowOwn_ne ho h2 (by decide) e.symm
theorem nrm_1 {p : Nat} (hp : FP p) : Nrm p [1] := ⟨wf_cons (by have := hp.1; omega) (wf_nil _), rfl⟩
end Go.Proofs.Ytkmfhabgempjiaa
/- hess: Hessenberg. -/
namespace Go.Proofs.Ytkmfhabgempjiaa
open Go.RowKit

end Go.Proofs.Ytkmfhabgempjiaa
/- hess: Companion. -/
namespace Go.Proofs.Ytkmfhabgempjiaa
open Go.RowKit

end Go.Proofs.Ytkmfhabgempjiaa
/- hess: the characteristic polynomial of a companion; the awake of law 22. -/
namespace Go.Proofs.Ytkmfhabgempjiaa
open Go.RowKit

section
variable {p n : Nat} {zs : List Nat}
end

theorem own_lit3 (w : World) (x y z : Nat) : Own .u64 27 (w.alloc (.cells #[.int .u64 x, .int .u64 y, .int .u64 z] 27)) w.heap.size (.slice (some ⟨w.heap.size, 0, none⟩) 3 3) [x, y, z] :=
  World.ownsRow_lit w #[.int .u64 x, .int .u64 y, .int .u64 z] 3 (Nat.le_refl _) (by unfold maxLen; omega) rfl
theorem own_lit101 (w : World) : Own .u64 27 (w.alloc (.cells #[.int .u64 1, .int .u64 0, .int .u64 1] 27)) w.heap.size (.slice (some ⟨w.heap.size, 0, none⟩) 3 3) [1, 0, 1] := own_lit3 w 1 0 1

end Go.Proofs.Ytkmfhabgempjiaa
/- Rows of rows of polynomials, that are read; an append of a window. -/
namespace Go.Proofs.Ytkmfhabgempjiaa
open Go.RowKit

/-- A slice whose cells hold the values U. -/
def VsF (w : World) (v : Value) (n : Nat) (U : Nat → Value) : Prop := ∃ ao b o cap, v = .slice ao n cap ∧ n ≤ cap ∧ (0 < n → ao = some ⟨b, o, none⟩ ∧ b < w.heap.size) ∧ ∀ k, k < n → w.cell? ⟨b, o + k, none⟩ = some (U k)
theorem VsF.below {w w' : World} {v : Value} {n B : Nat} {U : Nat → Value} (h : VsF w v n U) (hb : Below B w w') (hB : w.heap.size ≤ B) : VsF w' v n U := by
  obtain ⟨ao, b, o, cap, e, h1, h2, h3⟩ := h
  exact ⟨ao, b, o, cap, e, h1, fun h0 => ⟨(h2 h0).1, Nat.lt_of_lt_of_le (h2 h0).2 hb.size⟩, fun k hk => ((hb.mono hB).cell (p := ⟨b, o + k, none⟩) (h2 (by omega)).2).trans (h3 k hk)⟩
theorem VsF.next {w w' : World} {v : Value} {n : Nat} {U : Nat → Value} (h : VsF w v n U) (hb : Below w.heap.size w w') : VsF w' v n U := h.below hb (Nat.le_refl _)
theorem VsF.pos {w : World} {v : Value} {n : Nat} {U : Nat → Value} (h : VsF w v n U) (hn : 0 < n) : ∃ b o cap, v = .slice (some ⟨b, o, none⟩) n cap ∧ n ≤ cap ∧ b < w.heap.size ∧ ∀ k, k < n → w.cell? ⟨b, o + k, none⟩ = some (U k) := by
  obtain ⟨ao, b, o, cap, e, h1, h2, h3⟩ := h
  obtain ⟨rfl, h4⟩ := h2 hn
  exact ⟨b, o, cap, e, h1, h4, h3⟩
theorem VsF.slice {w : World} {v : Value} {n : Nat} {U : Nat → Value} (h : VsF w v n U) : ∃ ao cap, v = .slice ao n cap := by
  obtain ⟨ao, b, o, cap, e, h1, h2, h3⟩ := h
  exact ⟨ao, cap, e⟩
/-- The list of a row's values. -/
def rowL (n : Nat) (U : Nat → Value) : List Value := (List.range n).map U
theorem rowL_length (n : Nat) (U : Nat → Value) : (rowL n U).length = n := by simp [rowL]
theorem rowL_get {n : Nat} {U : Nat → Value} {k : Nat} (hk : k < n) : (rowL n U)[k]? = some (U k) := by simp [rowL, hk]
theorem rowL_get' {n : Nat} {U : Nat → Value} {k : Nat} {u : Value} (h : (rowL n U)[k]? = some u) : k < n ∧ u = U k := by
  have hk : k < n := by have := (List.getElem?_eq_some_iff.1 h).1; rwa [rowL_length] at this
  rw [rowL_get hk] at h
  exact ⟨hk, (Option.some.inj h).symm⟩
theorem rowL_snoc (n : Nat) (U : Nat → Value) : rowL (n + 1) U = rowL n U ++ [U n] := by simp [rowL, List.range_succ]
theorem rowL_congr {n : Nat} {U V : Nat → Value} (h : ∀ k, k < n → U k = V k) : rowL n U = rowL n V := List.map_congr_left fun k hk => h k (List.mem_range.1 hk)
/-- A row without its place k. -/
theorem rowL_cut {n k N : Nat} (U : Nat → Value) (hN : N = n + 1) (hk : k < N) : rowL k U ++ rowL (N - (k + 1)) (fun j => U (k + 1 + j)) = rowL n (fun j => U (if j < k then j else j + 1)) := by
  refine List.ext_getElem? fun i => ?_
  by_cases h1 : i < k
  · rw [List.getElem?_append_left (by rw [rowL_length]; exact h1), rowL_get h1, rowL_get (by omega), if_pos h1]
  · rw [List.getElem?_append_right (by rw [rowL_length]; omega), rowL_length]
    by_cases h2 : i < n
    · rw [rowL_get (by omega), rowL_get h2, if_neg h1, show k + 1 + (i - k) = i + 1 by omega]
    · rw [List.getElem?_eq_none (by rw [rowL_length]; omega), List.getElem?_eq_none (by rw [rowL_length]; omega)]
theorem VsF.of_own {w : World} {base n : Nat} {e : TypeId} {v : Value} {U : Nat → Value} (h : w.ownsRow base e 1 v n (rowL n U)) : VsF w v n U := by
  rcases rowOwn_shape h with ⟨rfl, rfl⟩ | ⟨g, cap, rfl, h1, h2, h3⟩
  · exact ⟨none, 0, 0, 0, rfl, Nat.le_refl _, fun h => absurd h (by omega), fun k hk => absurd hk (by omega)⟩
  · refine ⟨_, g, 0, cap, rfl, h3, fun _ => ⟨rfl, h2⟩, fun k hk => ?_⟩
    rw [Nat.zero_add, World.ownsRow.cellAt h k (by omega), rowL_get hk]
theorem rowOwn_cast {w : World} {base n m : Nat} {e : TypeId} {v : Value} {xs : List Value} (h : w.ownsRow base e 1 v n xs) (hn : n = m) : w.ownsRow base e 1 v m xs := hn ▸ h
/-- What is owned stays, where a slice of another type has grown. -/
theorem rowOwn_kept {w w' : World} {base b1 n n0 : Nat} {e e0 : TypeId} {v v0 : Value} {xs xs0 : List Value} (h : w.ownsRow base e 1 v n xs) (ho : w.ownsRow b1 e0 1 v0 n0 xs0) (hg : w.grownBy w' v0.ownBlock) (he : e0 ≠ e) : w'.ownsRow base e 1 v n xs := by
  refine World.ownsRow.kept h hg ?_
  rcases h.2 with ⟨h1, _⟩ | ⟨g, cap, cur, h1, _, h2, _⟩
  · left; rw [h1]; rfl
  · right
    intro e1
    rw [h1] at e1
    exact rowOwn_ne ho h2 he e1.symm
/-- 'append(out, row[lo:hi]...)': what was owned, and the window's values. -/
theorem apW {P : Program} {o : Oper} {a : Act} {K : Act → World → Prop} {Q : Exit → Act → World → Prop} (T e bytes : Nat) (z0 : Value)
    (hu : P.underlying T = some (.slice e)) (hi : (P.info? e).map (fun i => (i.zero, i.size, i.bytes)) = some (some z0, 1, bytes)) (hby : bytes ≤ 32) (hz0 : z0.cells.size = 1)
    (s x : Operand) (ho : o.op = .call { callee := .builtin .append, args := #[s, x], argTypes := #[T, T] })
    (w : World) (base : Nat) (v : Value) (n : Nat) (vs : List Value) (hown : w.ownsRow base e 1 v n vs) (hbase : base ≤ w.heap.size)
    (ad : Addr) (m c : Nat) (news : List Value) (hs : a.eval s = v) (hx : a.eval x = .slice (some ad) m c)
    (hl : news.length = m) (hnews : ∀ j u, news[j]? = some u → w.cell? (ad.add j) = some u) (h1 : ∀ u ∈ news, u.oneCell' = true) (hlen : n + m ≤ 1000000000)
    (h : ∀ (v' : Value) (w' : World), w'.ownsRow base e 1 v' (n + m) (vs ++ news) → Below base w w' → w.grownBy w' v.ownBlock → K (a.put o.dst v') w') :
    Oper.wp P o a w K Q := by
  obtain ⟨i0, e1, e2, e3, e4⟩ := info_parts hi
  have hb : (n + m) * bytes ≤ (n + m) * 32 := Nat.mul_le_mul_left _ hby
  obtain ⟨v', w', hr, k1, k2, _, k4⟩ := run_append_own_at (P := P) w base T o.type e i0 z0 1 bytes hu e1 e2 e3 e4 hz0 (by decide) v n vs hown ad m c news (by rw [hl, Nat.mul_one]) hnews h1 (by unfold maxLen; omega) (by omega) hbase
  unfold Oper.wp execOp
  simp only [ho, resolve, invoke, builtin, Sem.run_bind, Sem.run_pure, Result.andThen_ok, List.map_toArray, List.map_cons, List.map_nil, hs, hx, hr]
  exact h v' w' k1 (below_grown k2 hbase fun k hk => (World.ownsRow.lt hown k hk).1) k2
theorem apWl {P : Program} {ops : Array Oper} {rest : List Oper} {o : Oper} {a : Act} {Q : Exit → Act → World → Prop} (T e bytes : Nat) (z0 : Value)
    (hu : P.underlying T = some (.slice e)) (hi : (P.info? e).map (fun i => (i.zero, i.size, i.bytes)) = some (some z0, 1, bytes)) (hby : bytes ≤ 32) (hz0 : z0.cells.size = 1)
    (hgd : o.guard = none) (s x : Operand) (ho : o.op = .call { callee := .builtin .append, args := #[s, x], argTypes := #[T, T] })
    (w : World) (base : Nat) (v : Value) (n : Nat) (vs : List Value) (hown : w.ownsRow base e 1 v n vs) (hbase : base ≤ w.heap.size)
    (ad : Addr) (m c : Nat) (news : List Value) (hs : a.eval s = v) (hx : a.eval x = .slice (some ad) m c)
    (hl : news.length = m) (hnews : ∀ j u, news[j]? = some u → w.cell? (ad.add j) = some u) (h1 : ∀ u ∈ news, u.oneCell' = true) (hlen : n + m ≤ 1000000000)
    (h : ∀ (v' : Value) (w' : World), w'.ownsRow base e 1 v' (n + m) (vs ++ news) → Below base w w' → w.grownBy w' v.ownBlock → wpList P ops Q rest (a.put o.dst v') w') :
    wpList P ops Q (o :: rest) a w :=
  wpList_plain hgd fun _ hK => apW T e bytes z0 hu hi hby hz0 s x ho w base v n vs hown hbase ad m c news hs hx hl hnews h1 hlen fun v' w' h1 h2 h3 => hK _ _ (h v' w' h1 h2 h3)
/-- The window's values lie where they should. -/
theorem win_news {w : World} {b o n : Nat} {U : Nat → Value} (h : ∀ k, k < n → w.cell? ⟨b, o + k, none⟩ = some (U k)) (lo m : Nat) (hm : lo + m ≤ n) : ∀ j u, (rowL m (fun j => U (lo + j)))[j]? = some u → w.cell? ((⟨b, o + lo, none⟩ : Addr).add j) = some u := by
  intro j u hj
  obtain ⟨h1, rfl⟩ := rowL_get' hj
  have e : (⟨b, o + lo, none⟩ : Addr).add j = ⟨b, o + (lo + j), none⟩ := by
    unfold Addr.add; split
    · rename_i h; subst h; rfl
    · simp [Nat.add_assoc]
  rw [e]
  exact h (lo + j) (by omega)

section
variable {p : Nat}
/-- A polynomial's list, of at most B elements. -/
def Pe (p B : Nat) (w : World) (v : Value) (f : Pol (Zp p)) : Prop := ∃ zs, Sl .u64 w v zs ∧ zs.length ≤ B ∧ pl p zs = f
theorem Pe.next {B : Nat} {w w' : World} {v : Value} {f : Pol (Zp p)} (h : Pe p B w v f) (hb : Below w.heap.size w w') : Pe p B w' v f := by
  obtain ⟨zs, h1, h2⟩ := h; exact ⟨zs, h1.next hb, h2⟩
theorem Pe.one {B : Nat} {w : World} {v : Value} {f : Pol (Zp p)} (h : Pe p B w v f) : v.oneCell' = true := by
  obtain ⟨zs, ⟨ao, b, o, c, rfl, _⟩, _⟩ := h; rfl
/-- Rows of rows of polynomials: U the rows, E their elements. -/
structure Pm (p B : Nat) (w : World) (v : Value) (n m : Nat) (M : Nat → Nat → Pol (Zp p)) (U : Nat → Value) (E : Nat → Nat → Value) : Prop where
  hd : VsF w v n U
  row : ∀ i, i < n → VsF w (U i) m (E i)
  el : ∀ i k, i < n → k < m → Pe p B w (E i k) (M i k)
theorem Pm.next {B n m : Nat} {w w' : World} {v : Value} {M : Nat → Nat → Pol (Zp p)} {U : Nat → Value} {E : Nat → Nat → Value} (h : Pm p B w v n m M U E) (hb : Below w.heap.size w w') : Pm p B w' v n m M U E :=
  ⟨h.hd.next hb, fun i hi => (h.row i hi).next hb, fun i k hi hk => (h.el i k hi hk).next hb⟩
/-- Where the rest's rows stand. -/
def DeR (w0 wr : World) (n k : Nat) (E : Nat → Nat → Value) (rv : Value) (cnt : Nat) : Prop :=
  ∃ U : Nat → Value, wr.ownsRow w0.heap.size 68 1 rv cnt (rowL cnt U) ∧ (∀ i, i < cnt → wr.ownsRow w0.heap.size 41 1 (U i) n (rowL n (fun j => E (i + 1) (if j < k then j else j + 1)))) ∧ Below w0.heap.size w0 wr
theorem DeR.start (w : World) (n k : Nat) (E : Nat → Nat → Value) : DeR w w n k E (.slice none 0 0) 0 := ⟨fun _ => .slice none 0 0, World.ownsRow_nil _ _ _ _, fun i hi => absurd hi (by omega), Below.refl _ _⟩
theorem DeR.push {w0 w1 w2 w3 : World} {n k cnt : Nat} {E : Nat → Nat → Value} {rv rv' u : Value} {U : Nat → Value} (h1 : w1.ownsRow w0.heap.size 68 1 rv cnt (rowL cnt U))
    (h2 : ∀ i, i < cnt → w1.ownsRow w0.heap.size 41 1 (U i) n (rowL n (fun j => E (i + 1) (if j < k then j else j + 1)))) (h3 : Below w0.heap.size w0 w1) (b1 : Below w1.heap.size w1 w2)
    (hu : w2.ownsRow w0.heap.size 41 1 u n (rowL n (fun j => E (cnt + 1) (if j < k then j else j + 1))))
    (b2 : Below w0.heap.size w2 w3) (hg : w2.grownBy w3 rv.ownBlock) (hrv : w3.ownsRow w0.heap.size 68 1 rv' (cnt + 1) (rowL cnt U ++ [u])) : DeR w0 w3 n k E rv' (cnt + 1) := by
  have h1' := rowOwn_next h1 b1 (Nat.le_refl _)
  refine ⟨fun i => if i < cnt then U i else u, ?_, fun i hi => ?_, (h3.trans (b1.mono h3.size)).trans b2⟩
  · rw [rowL_snoc, if_neg (by omega), rowL_congr (V := U) (fun k hk => by simp [hk])]
    exact hrv
  · by_cases hc : i < cnt
    · show w3.ownsRow _ _ _ (if i < cnt then U i else u) _ _
      rw [if_pos hc]
      exact rowOwn_kept (rowOwn_next (h2 i hc) b1 (Nat.le_refl _)) h1' hg (by decide)
    · obtain rfl : i = cnt := by omega
      show w3.ownsRow _ _ _ (if i < i then U i else u) _ _
      rw [if_neg (by omega)]
      exact rowOwn_kept hu h1' hg (by decide)
theorem DeR.fin {B : Nat} {w0 wr : World} {n N k : Nat} {M : Nat → Nat → Pol (Zp p)} {U : Nat → Value} {E : Nat → Nat → Value} {v rv : Value} (h : DeR w0 wr n k E rv n) (hN : N = n + 1) (hm : Pm p B w0 v N N M U E) : ∃ U2, Pm p B wr rv n n (mnr M k) U2 (fun i j => E (i + 1) (if j < k then j else j + 1)) := by
  obtain ⟨U2, h1, h2, h3⟩ := h
  refine ⟨U2, VsF.of_own h1, fun i hi => VsF.of_own (h2 i hi), fun i j hi hj => ?_⟩
  have := hm.el (i + 1) (if j < k then j else j + 1) (by omega) (by split <;> omega)
  exact this.next h3
end

end Go.Proofs.Ytkmfhabgempjiaa
/- The reference of chapter 22: determinants of polynomials. -/
namespace Go.Proofs.Ytkmfhabgempjiaa
open Go.RowKit

/-- A determinant's summand. -/
def ddG {p : Nat} (n : Nat) (M : Nat → Nat → Pol (Zp p)) : Nat → Pol (Zp p) := fun k => sg k (M 0 k * dn n (mnr M k))
theorem ddG_even {p n k : Nat} {M : Nat → Nat → Pol (Zp p)} (h : k % 2 = 0) : sm (k + 1) (ddG n M) = sm k (ddG n M) + M 0 k * dn n (mnr M k) := by
  show _ + ddG n M k = _
  unfold ddG sg; rw [if_neg (by omega)]
theorem ddG_odd {p n k : Nat} {M : Nat → Nat → Pol (Zp p)} (h : k % 2 = 1) : sm (k + 1) (ddG n M) = sm k (ddG n M) + -(M 0 k * dn n (mnr M k)) := by
  show _ + ddG n M k = _
  unfold ddG sg; rw [if_pos h]

set_option maxRecDepth 20000 in
set_option maxHeartbeats 4000000 in
theorem rf22_Det_step (p B n L0 L : Nat) (hp : FP p) (hn : n < 8) (hL : L = B + L0) (hL2 : L ≤ 100000) (ih : ∀ (v : Value) (M : Nat → Nat → Pol (Zp p)) (U : Nat → Value) (E : Nat → Nat → Value) (w : World), Pm p B w v n n M U E → Calls Try.prog 133 #[v, .int .u64 p] w (RetP p w L0 (dn n M)))
    (v : Value) (M : Nat → Nat → Pol (Zp p)) (U : Nat → Value) (E : Nat → Nat → Value) (w : World) (N : Nat) (hN : N = n + 1) (hm : Pm p B w v N N M U E) :
    Calls Try.prog 133 #[v, .int .u64 p] w (RetP p w L (sm N (ddG n M))) := by
  obtain ⟨bl, ol, cl, rfl, hcl, hbl, hcell⟩ := hm.hd.pos (by omega)
  have HP := Lib.hid hp; clear hp
  have IH := Lib.hid ih; clear ih
  have hp1 := HP.out.1; have hp2 := HP.out.2
  have hN0 : ((N : Int) == 0) = false := by simpa using (show N ≠ 0 by omega)
  have hN8 : N ≤ 8 := by omega
  have hnN : n < N := by omega
  have HN := Lib.hid hN; clear hN
  have HL := Lib.hid hL; clear hL
  have hm0 := hm
  have HM := Lib.hid hm0; clear hm0 hm
  have HC := Lib.hid hcell; clear hcell
  go_enter Try.func133, Try.ntmps133
  go_wp2
  go_loopw [6, 5] (fun kv ov wr => ∃ (k : Nat) (zs : List Nat), k ≤ N ∧ kv = .int .i64 k ∧ Own .u64 27 wr w.heap.size ov zs ∧ Nrm p zs ∧ pl p zs = sm k (ddG n M) ∧ zs.length ≤ L ∧ Below w.heap.size w wr) (fun kv _ _ => N - (intOf kv).toNat)
  case atStart => exact ⟨0, [], by omega, rfl, Own.nil _ _ _ _, ⟨wf_nil _, rfl⟩, pl_nil p, Nat.zero_le _, Below.refl _ _⟩
  case round =>
    obtain ⟨k, zs, hk, rfl, ho, hnz, hval, hzl, B1⟩ := hrel
    have HV := Lib.hid (And.intro hnz (And.intro hval hzl)); clear hnz hval hzl
    obtain ⟨wk, hwk⟩ : ∃ wk, wk = wr := ⟨_, rfl⟩
    subst hwk
    by_cases hkN : k < N
    · have hmk := HM.out.next B1
      go_wp2
      go_loopw [8, 7] (fun iv rv wr => ∃ ii : Nat, 1 ≤ ii ∧ ii ≤ N ∧ iv = .int .i64 ii ∧ DeR wk wr n k E rv (ii - 1)) (fun iv _ _ => N - (intOf iv).toNat)
      case atStart => exact ⟨1, by omega, by omega, rfl, DeR.start _ _ _ _⟩
      case round =>
        obtain ⟨ii, hi1, hi, rfl, st⟩ := hrel
        by_cases hin : ii < N
        · obtain ⟨U', s1, s2, hB2⟩ := st
          have hr := hmk.row ii hin
          obtain ⟨bi, oi, ci, eui, hci, hbi, hcelli⟩ := hr.pos (by omega)
          have q1 : wr.cell? ⟨bl, ol + ii, none⟩ = some (.slice (some ⟨bi, oi, none⟩) N ci) := by
            rw [← eui]
            exact (((B1.trans (hB2.mono B1.size)).cell (p := ⟨bl, ol + ii, none⟩) hbl)).trans (HC.out ii hin)
          have hbs : wk.heap.size ≤ wr.heap.size := hB2.size
          have hbi2 : bi < wr.heap.size := Nat.lt_of_lt_of_le hbi hbs
          have hbl2 : bl < wr.heap.size := Nat.lt_of_lt_of_le hbl (Nat.le_trans B1.size hbs)
          have hcr : ∀ j, j < N → wr.cell? ⟨bi, oi + j, none⟩ = some (E ii j) := fun j hj => (hB2.cell (p := ⟨bi, oi + j, none⟩) hbi).trans (hcelli j hj)
          have hone : ∀ j, j < N → (E ii j).oneCell' = true := fun j hj => (hmk.el ii j hin hj).one
          have hki : k ≤ ci := by omega
          have hk1 : k + 1 ≤ N := by omega
          have HCR := Lib.hid hcr; have HONE := Lib.hid hone; have HBI := Lib.hid (And.intro hbi2 hbl2)
          clear hcr hone hr hcelli hbi2 hbl2
          obtain ⟨i, ei⟩ : ∃ i, ii = i + 1 := ⟨ii - 1, by omega⟩
          have HI := Lib.hid ei
          rw [show ii - 1 = i by omega] at s1 s2
          clear ei
          go_wp2_with (at_builtin; refine apWl 68 41 24 (.slice none 0 0) Try.underlying68 (by kernel_rfl) (by decide) rfl rfl _ _ rfl wr wr.heap.size (.slice none 0 0) 0 [] (World.ownsRow_nil _ _ _ _) (Nat.le_refl _) _ _ _ (rowL k (E ii)) rfl rfl ?_ ?_ ?_ ?_ ?_)
          · simp [rowL_length]
          · intro j u hj
            have h := win_news HCR.out 0 k (by omega) j u (by simpa using hj)
            simpa using h
          · intro u hu
            obtain ⟨j, hj, rfl⟩ := List.mem_map.1 hu
            exact HONE.out j (by have := List.mem_range.1 hj; omega)
          · omega
          intro r1 w4 ho4 hb4 hg4
          clear hg4
          have q4 : w4.cell? ⟨bl, ol + ii, none⟩ = some (.slice (some ⟨bi, oi, none⟩) N ci) := (hb4.cell (p := ⟨bl, ol + ii, none⟩) HBI.out.2).trans q1
          have ho4' : w4.ownsRow wr.heap.size 41 1 r1 k (rowL k (E ii)) := by
            have h := ho4
            simpa using h
          clear ho4 q1
          have hb4s := hb4.size
          rcases Nat.lt_or_ge (k + 1) ci with hkc | hkc
          · go_wp2_with (at_builtin; refine apWl 68 41 24 (.slice none 0 0) Try.underlying68 (by kernel_rfl) (by decide) rfl rfl _ _ rfl w4 wr.heap.size r1 k (rowL k (E ii)) ho4' hb4s _ _ _ (rowL (N - (k + 1)) (fun j => E ii (k + 1 + j))) rfl rfl ?_ ?_ ?_ ?_ ?_)
            · rw [rowL_length]
            · intro j u hj
              have h := win_news (fun j hj => (hb4.cell (p := ⟨bi, oi + j, none⟩) HBI.out.1).trans (HCR.out j hj)) (k + 1) (N - (k + 1)) (by omega) j u hj
              exact h
            · intro u hu
              obtain ⟨j, hj, rfl⟩ := List.mem_map.1 hu
              exact HONE.out _ (by have := List.mem_range.1 hj; omega)
            · omega
            intro r2 w5 ho5 hb5 hg5
            clear hg5 q4 ho4'
            rw [rowL_cut (E ii) HN.out hkN, HI.out] at ho5
            replace ho5 := rowOwn_cast (m := n) ho5 (by have := HN.out; omega)
            have b5 := hb4.trans hb5
            clear hb4 hb5 hb4s
            have hb5s : wk.heap.size ≤ w5.heap.size := Nat.le_trans hbs b5.size
            obtain ⟨a2, c2, rfl⟩ : ∃ a c, r2 = .slice a n c := by
              rcases rowOwn_shape ho5 with ⟨rfl, e⟩ | ⟨g, c, rfl, _⟩
              · exact ⟨_, _, by rw [e]⟩
              · exact ⟨_, _, rfl⟩
            have s15 := rowOwn_next s1 b5 (Nat.le_refl _)
            have ho5' := rowOwn_mono ho5 hbs
            clear ho5
            go_wp2_with (at_builtin; refine apVl 154 68 24 (.slice none 0 0) Try.underlying154 (by kernel_rfl) (by decide) rfl rfl _ _ rfl w5 wk.heap.size _ i (rowL i U') (.slice a2 n c2) rfl s15 (by have := HI.out; omega) hb5s rfl rfl ?_; intro g6 cap6 w6 ho6 hb6 hg6 _)
            have st := Lib.hid (show DeR wk w6 n k E (.slice (some ⟨g6, 0, none⟩) (i + 1) cap6) (ii + 1 - 1) by
              rw [Nat.add_sub_cancel, HI.out]
              exact DeR.push s1 s2 hB2 b5 ho5' hb6 hg6 ho6)
            clear s1 s2 hB2 b5 ho5' hb6 hg6 ho6 s15 hmk ho B1
            go_wp2
            go_roundw
            case rel => exact ⟨ii + 1, by omega, by omega, by go_num, st.out⟩
            case measure => simp [intOf] <;> omega
          · obtain rfl : ci = k + 1 := by omega
            have hz0 : N - (k + 1) = 0 := by omega
            go_wp2_with (at_builtin; refine apWl 68 41 24 (.slice none 0 0) Try.underlying68 (by kernel_rfl) (by decide) rfl rfl _ _ rfl w4 wr.heap.size r1 k (rowL k (E ii)) ho4' hb4s _ _ _ (rowL (N - (k + 1)) (fun j => E ii (k + 1 + j))) rfl rfl ?_ ?_ ?_ ?_ ?_)
            · rw [rowL_length]; omega
            · intro j u hj
              have := (rowL_get' hj).1; omega
            · intro u hu
              obtain ⟨j, hj, rfl⟩ := List.mem_map.1 hu
              exact HONE.out _ (by have := List.mem_range.1 hj; omega)
            · omega
            intro r2 w5 ho5 hb5 hg5
            clear hg5 q4 ho4'
            have hc5 := rowL_cut (E ii) HN.out hkN
            rw [hz0] at hc5
            rw [hc5, HI.out] at ho5
            clear hc5
            replace ho5 := rowOwn_cast (m := n) ho5 (by have := HN.out; omega)
            have b5 := hb4.trans hb5
            clear hb4 hb5 hb4s
            have hb5s : wk.heap.size ≤ w5.heap.size := Nat.le_trans hbs b5.size
            obtain ⟨a2, c2, rfl⟩ : ∃ a c, r2 = .slice a n c := by
              rcases rowOwn_shape ho5 with ⟨rfl, e⟩ | ⟨g, c, rfl, _⟩
              · exact ⟨_, _, by rw [e]⟩
              · exact ⟨_, _, rfl⟩
            have s15 := rowOwn_next s1 b5 (Nat.le_refl _)
            have ho5' := rowOwn_mono ho5 hbs
            clear ho5
            go_wp2_with (at_builtin; refine apVl 154 68 24 (.slice none 0 0) Try.underlying154 (by kernel_rfl) (by decide) rfl rfl _ _ rfl w5 wk.heap.size _ i (rowL i U') (.slice a2 n c2) rfl s15 (by have := HI.out; omega) hb5s rfl rfl ?_; intro g6 cap6 w6 ho6 hb6 hg6 _)
            have st := Lib.hid (show DeR wk w6 n k E (.slice (some ⟨g6, 0, none⟩) (i + 1) cap6) (ii + 1 - 1) by
              rw [Nat.add_sub_cancel, HI.out]
              exact DeR.push s1 s2 hB2 b5 ho5' hb6 hg6 ho6)
            clear s1 s2 hB2 b5 ho5' hb6 hg6 ho6 s15 hmk ho B1
            go_wp2
            go_roundw
            case rel => exact ⟨ii + 1, by omega, by omega, by go_num, st.out⟩
            case measure => simp [intOf] <;> omega
        · obtain rfl : ii = N := by omega
          rw [show ii - 1 = n by have := HN.out; omega] at st
          have hB2 : Below wk.heap.size wk wr := by obtain ⟨_, _, _, h⟩ := st; exact h
          obtain ⟨U2, hpm⟩ := st.fin HN.out hmk
          obtain ⟨E2, eE2⟩ : ∃ E2 : Nat → Nat → Value, E2 = fun i j => E (i + 1) (if j < k then j else j + 1) := ⟨_, rfl⟩
          rw [← eE2] at hpm
          clear st eE2
          have hr := hmk.row 0 (by omega)
          obtain ⟨b0, o0, c0, eu0, hc0, hb0, hcell0⟩ := hr.pos (by omega)
          have q1 : wr.cell? ⟨bl, ol, none⟩ = some (.slice (some ⟨b0, o0, none⟩) ii c0) := by
            rw [← eu0]
            exact (((B1.trans (hB2.mono B1.size)).cell (p := ⟨bl, ol, none⟩) hbl)).trans (HC.out 0 (by omega))
          obtain ⟨x0, ex0⟩ : ∃ x, x = E 0 k := ⟨_, rfl⟩
          have q2 : wr.cell? ⟨b0, o0 + k, none⟩ = some x0 := (hB2.cell (p := ⟨b0, o0 + k, none⟩) hb0).trans (by rw [ex0]; exact hcell0 k hkN)
          have hpe := hmk.el 0 k (by omega) hkN
          rw [← ex0] at hpe
          replace hpe := hpe.next hB2
          obtain ⟨zx, sx, hlx, hvx⟩ := hpe
          have hbl2 : bl < wr.heap.size := Nat.lt_of_lt_of_le hbl (Nat.le_trans B1.size hB2.size)
          have hb02 : b0 < wr.heap.size := Nat.lt_of_lt_of_le hb0 hB2.size
          have HVX := Lib.hid (And.intro hlx hvx)
          replace ho := ho.next hB2
          replace B1 := B1.trans (hB2.mono B1.size)
          clear hr hcell0 eu0 hmk hB2 ex0 hlx hvx hbl hb0
          have h0ii : 0 < ii := by omega
          go_upto_region 15 with (fail)
          have bd := Drawn.below (w' := wr.drew) ⟨1, rfl⟩ wr.heap.size
          replace ho := ho.next bd; replace sx := sx.next bd; replace hpm := hpm.next bd
          replace B1 := B1.trans (bd.mono B1.size)
          replace q1 := (bd.cell (p := ⟨bl, ol, none⟩) hbl2).trans q1
          replace q2 := (bd.cell (p := ⟨b0, o0 + k, none⟩) hb02).trans q2
          replace hbl2 : bl < wr.drew.heap.size := hbl2
          replace hb02 : b0 < wr.drew.heap.size := hb02
          clear bd
          refine startL (S := (fun w' => Below (wr.drew).heap.size (wr.drew) w')) (by kernel_rfl) (Below.refl _ _) (fun hHeld => ?_)
          refine takeL 0 (v := ?_) rfl (by kernel_rfl) (by kernel_rfl) (by kernel_rfl) (fun _ _ _ h => h) ⟨by rfl, ?_⟩ (by assumption) ?_
          rotate_left
          · intro w hS; go_simp <;> with_reducible rfl
          simp only [Act.put, List.setIfInBounds_toArray, List.set_cons_zero, List.set_cons_succ]
          refine takeL 1 (v := ?_) rfl (by kernel_rfl) (by kernel_rfl) (by kernel_rfl) (fun _ _ _ h => h) ⟨by rfl, ?_⟩ (by assumption) ?_
          rotate_left
          · intro w hS; go_simp <;> with_reducible rfl
          simp only [Act.put, List.setIfInBounds_toArray, List.set_cons_zero, List.set_cons_succ]
          refine takeL 2 (v := ?_) rfl (by kernel_rfl) (by kernel_rfl) (by kernel_rfl) (fun _ _ _ h => h) ⟨by rfl, ?_⟩ (by assumption) ?_
          rotate_left
          · intro w hS; have f1 := (hS.cell (p := ⟨bl, ol, none⟩) hbl2).trans q1; have f2 := (hS.cell (p := ⟨b0, o0 + k, none⟩) hb02).trans q2; go_simp <;> with_reducible rfl
          simp only [Act.put, List.setIfInBounds_toArray, List.set_cons_zero, List.set_cons_succ]
          refine takeL 3 (v := ?_) rfl (by kernel_rfl) (by kernel_rfl) (by kernel_rfl) (fun _ _ _ h => h) ⟨by rfl, ?_⟩ (by assumption) ?_
          rotate_left
          · intro w hS; go_simp <;> with_reducible rfl
          simp only [Act.put, List.setIfInBounds_toArray, List.set_cons_zero, List.set_cons_succ]
          refine takeL 4 (v := ?_) rfl (by kernel_rfl) (by kernel_rfl) (by kernel_rfl) (fun _ _ _ h => h) ⟨by rfl, ?_⟩ (by assumption) ?_
          rotate_left
          · intro w hS; go_simp <;> with_reducible rfl
          simp only [Act.put, List.setIfInBounds_toArray, List.set_cons_zero, List.set_cons_succ]
          refine takeL 5 (v := ?_) rfl (by kernel_rfl) (by kernel_rfl) (by kernel_rfl) (fun _ _ _ h => h) ⟨by rfl, ?_⟩ (by assumption) ?_
          rotate_left
          · intro w hS; have f1 := (hS.cell (p := ⟨bl, ol, none⟩) hbl2).trans q1; have f2 := (hS.cell (p := ⟨b0, o0 + k, none⟩) hb02).trans q2; go_simp <;> with_reducible rfl
          simp only [Act.put, List.setIfInBounds_toArray, List.set_cons_zero, List.set_cons_succ]
          refine takeL 6 (v := ?_) rfl (by kernel_rfl) (by kernel_rfl) (by kernel_rfl) (fun _ _ _ h => h) ⟨by rfl, ?_⟩ (by assumption) ?_
          rotate_left
          · intro w hS; go_simp <;> with_reducible rfl
          simp only [Act.put, List.setIfInBounds_toArray, List.set_cons_zero, List.set_cons_succ]
          refine takeL 7 (v := ?_) rfl (by kernel_rfl) (by kernel_rfl) (by kernel_rfl) (fun _ _ _ h => h) ⟨by rfl, ?_⟩ (by assumption) ?_
          rotate_left
          · intro w hS; go_simp <;> with_reducible rfl
          simp only [Act.put, List.setIfInBounds_toArray, List.set_cons_zero, List.set_cons_succ]
          refine takeL 9 (v := ?_) rfl (by kernel_rfl) (by kernel_rfl) (by kernel_rfl) (fun _ _ _ h => h) ⟨by rfl, ?_⟩ (by assumption) ?_
          rotate_left
          · intro w hS; go_simp <;> with_reducible rfl
          simp only [Act.put, List.setIfInBounds_toArray, List.set_cons_zero, List.set_cons_succ]
          refine oneL 8 rfl (by kernel_rfl) (by rfl) (fun K hK => ?_)
          go_simp
          go_at_call 133
          (with_reducible refine (IH.out _ (mnr M k) U2 E2 _ (hpm.next hHeld)).mono ?_); rintro e y1 ⟨r8, z8, rfl, o8, n8, v8, l8, c8⟩; have V8 := Lib.hid (And.intro v8 l8); clear v8 l8 n8
          refine hK.out _ _ (hHeld.trans (c8.mono hHeld.size)) (fun hHeld => ?_)
          clear hK K
          try simp only [Act.put, List.setIfInBounds_toArray, List.set_cons_zero, List.set_cons_succ]
          refine oneL 10 rfl (by kernel_rfl) (by rfl) (fun K hK => ?_)
          go_simp
          go_at_call 27
          (with_reducible refine (ref9_Mul p _ _ zx z8 _ HP.out (sx.next hHeld) o8.sl (by have := HL.out; have := HVX.out.1; omega) (by have := HL.out; have := V8.out.2; omega)).mono ?_); rintro e y2 ⟨r10, z10, rfl, o10, n10, v10, l10, c10⟩
          refine hK.out _ _ (hHeld.trans (c10.mono hHeld.size)) (fun hHeld => ?_)
          clear hK K
          try simp only [Act.put, List.setIfInBounds_toArray, List.set_cons_zero, List.set_cons_succ]
          refine takeL 11 (v := ?_) rfl (by kernel_rfl) (by kernel_rfl) (by kernel_rfl) (fun _ _ _ h => h) ⟨by rfl, ?_⟩ (by assumption) ?_
          rotate_left
          · intro w hS; go_simp <;> with_reducible rfl
          simp only [Act.put, List.setIfInBounds_toArray, List.set_cons_zero, List.set_cons_succ]
          refine doneL (by kernel_rfl) ?_ _
          have V10 := Lib.hid (show Nrm p z10 ∧ pl p z10 = M 0 k * dn n (mnr M k) ∧ z10.length ≤ L from ⟨n10, by rw [v10, HVX.out.2, V8.out.1], by have := HL.out; have := HVX.out.1; have := V8.out.2; omega⟩)
          clear n10 v10 l10
          replace ho := ho.next hHeld
          replace B1 := B1.trans (hHeld.mono B1.size)
          clear hHeld q1 q2 sx hpm c10 c8 o8
          rcases Nat.mod_two_eq_zero_or_one k with hpar | hpar
          · have hp0 : (k : Int).tmod 2 = 0 := (show (k : Int) % 2 = 0 by omega)
            have hp0' : (k : Int) % 2 = 0 := by omega
            go_wp2_with fail
            refine (ref9_Add p _ _ zs z10 _ HP.out ho.sl o10.sl (by have := HV.out.2.2; omega) (by have := V10.out.2.2; omega)).mono ?_; rintro e w9 ⟨r9, z9, rfl, o9, n9, v9, l9, b9⟩
            have V9 := Lib.hid (show Nrm p z9 ∧ pl p z9 = sm (k + 1) (ddG n M) ∧ z9.length ≤ L from ⟨n9, by rw [v9, HV.out.2.1, V10.out.2.1, ddG_even hpar], Nat.le_trans l9 (Nat.max_le.2 ⟨HV.out.2.2, V10.out.2.2⟩)⟩)
            replace o9 := o9.mono B1.size
            replace B1 := B1.trans (b9.mono B1.size)
            clear n9 v9 l9 b9 ho o10
            go_wp2
            go_roundw
            case rel => exact ⟨k + 1, z9, by omega, by go_num, o9, V9.out.1, V9.out.2.1, V9.out.2.2, B1⟩
            case measure => simp [intOf] <;> omega
          · have hp1' : (k : Int).tmod 2 = 1 := (show (k : Int) % 2 = 1 by omega)
            have hp1'' : (k : Int) % 2 = 1 := by omega
            go_wp2_with fail
            refine (ref9_Neg p _ z10 _ HP.out o10.sl (by have := V10.out.2.2; omega)).mono ?_; rintro e w7 ⟨r7, z7, rfl, o7, n7, v7, l7, b7⟩
            have V7 := Lib.hid (show Nrm p z7 ∧ pl p z7 = -(M 0 k * dn n (mnr M k)) ∧ z7.length ≤ L from ⟨n7, by rw [v7, V10.out.2.1], Nat.le_trans l7 V10.out.2.2⟩)
            replace ho := ho.next b7
            replace B1 := B1.trans (b7.mono B1.size)
            clear n7 v7 l7 b7 o10
            go_wp2_with fail
            refine (ref9_Add p _ _ zs z7 _ HP.out ho.sl o7.sl (by have := HV.out.2.2; omega) (by have := V7.out.2.2; omega)).mono ?_; rintro e w9 ⟨r9, z9, rfl, o9, n9, v9, l9, b9⟩
            have V9 := Lib.hid (show Nrm p z9 ∧ pl p z9 = sm (k + 1) (ddG n M) ∧ z9.length ≤ L from ⟨n9, by rw [v9, HV.out.2.1, V7.out.2.1, ddG_odd hpar], Nat.le_trans l9 (Nat.max_le.2 ⟨HV.out.2.2, V7.out.2.2⟩)⟩)
            replace o9 := o9.mono B1.size
            replace B1 := B1.trans (b9.mono B1.size)
            clear n9 v9 l9 b9 ho o7
            go_wp2
            go_roundw
            case rel => exact ⟨k + 1, z9, by omega, by go_num, o9, V9.out.1, V9.out.2.1, V9.out.2.2, B1⟩
            case measure => simp [intOf] <;> omega
    · obtain rfl : k = N := by omega
      go_wp2
      go_ret
      exact ⟨_, zs, rfl, ho, HV.out.1, HV.out.2.1, HV.out.2.2, B1⟩

theorem rf22_Det (p B : Nat) (hp : FP p) : ∀ n : Nat, n ≤ 8 → n * B + 1 ≤ 100000 → ∀ (v : Value) (M : Nat → Nat → Pol (Zp p)) (U : Nat → Value) (E : Nat → Nat → Value) (w : World), Pm p B w v n n M U E → Calls Try.prog 133 #[v, .int .u64 p] w (RetP p w (n * B + 1) (dn n M))
  | 0, _, _, v, M, U, E, w, hm => by
    obtain ⟨ao, c, rfl⟩ := hm.hd.slice
    clear hm
    have hn1 : Nrm p [1] := nrm_1 hp
    have h1 : pl p [1] = (1 : Pol (Zp p)) := pl1
    clear hp
    have HW := Lib.hid (own_lit1 w 1)
    go_enter Try.func133, Try.ntmps133
    go_wp2
    go_ret
    exact ⟨_, [1], rfl, HW.out, hn1, h1, by simp, (Below.refl _ _).alloc (Nat.le_refl _) _⟩
  | n + 1, hn, hB, v, M, U, E, w, hm => rf22_Det_step p B n (n * B + 1) ((n + 1) * B + 1) hp (by omega) (by rw [Nat.succ_mul]; omega) hB (fun v M U E w h => rf22_Det p B hp n (by omega) (by rw [Nat.succ_mul] at hB; omega) v M U E w h) v M U E w (n + 1) rfl hm

end Go.Proofs.Ytkmfhabgempjiaa
