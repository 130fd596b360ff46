/- Package mul: numbers in a heap: what it reads as; the methods of factors. -/
import Derived.Test.YtnnidjhhcnmnnaaOwns
import Derived.Test.YtnnidjhhcnmnnaaPeel2
import Derived.Test.YtnnidjhhcnmnnaaLaw1
namespace Go.Proofs.Ytnnidjhhcnmnnaa
open Go.RowKit

/-- The product of numbers. -/
def prd : List (Value × List Nat) → Nat
  | [] => 1
  | p :: ps => nv W64 p.2 * prd ps
/-- The sum of their lengths. -/
def lns : List (Value × List Nat) → Nat
  | [] => 0
  | p :: ps => p.2.length + lns ps
theorem prd_perm {a b : List (Value × List Nat)} (h : a.Perm b) : prd a = prd b := by
  induction h with
  | nil => rfl
  | cons x _ ih => simp only [prd, ih]
  | swap x y l => simp only [prd]; exact Nat.mul_left_comm _ _ _
  | trans _ _ h1 h2 => exact h1.trans h2
theorem lns_perm {a b : List (Value × List Nat)} (h : a.Perm b) : lns a = lns b := by
  induction h with
  | nil => rfl
  | cons x _ ih => simp only [lns, ih]
  | swap x y l => simp only [lns]; omega
  | trans _ _ h1 h2 => exact h1.trans h2
theorem prd_append (a b : List (Value × List Nat)) : prd (a ++ b) = prd a * prd b := by
  induction a with
  | nil => simp [prd]
  | cons x xs ih => simp only [List.cons_append, prd, ih, Nat.mul_assoc]
theorem lns_append (a b : List (Value × List Nat)) : lns (a ++ b) = lns a + lns b := by
  induction a with
  | nil => simp [lns]
  | cons x xs ih => simp only [List.cons_append, lns, ih, Nat.add_assoc]
theorem lns_mem {a : List (Value × List Nat)} {x : Value × List Nat} (h : x ∈ a) : x.2.length ≤ lns a := by
  induction a with
  | nil => cases h
  | cons y ys ih =>
    simp only [lns]
    rcases List.mem_cons.1 h with rfl | h
    · omega
    · have := ih h; omega

/-- Numbers in a heap: the cell g holds a slice of them; each is owned. -/
structure Hp (w : World) (base g : Nat) (fv : Value) (ps : List (Value × List Nat)) : Prop where
  ptr : Blk 67 w g [fv]
  row : w.ownsRow base 23 1 fv ps.length (ps.map (·.1))
  each : ∀ x, x ∈ ps → Own .u64 32 w base x.1 x.2 ∧ Nrm W64 x.2
theorem Hp.next {w w' : World} {base g : Nat} {fv : Value} {ps : List (Value × List Nat)} (h : Hp w base g fv ps) (hb : Below w.heap.size w w') : Hp w' base g fv ps :=
  ⟨h.ptr.next hb, rowOwn_next h.row hb (Nat.le_refl _), fun x hx => ⟨(h.each x hx).1.next hb, (h.each x hx).2⟩⟩
theorem Hp.form {w : World} {base g : Nat} {fv : Value} {ps : List (Value × List Nat)} (h : Hp w base g fv ps) (hp : 0 < ps.length) : ∃ r cap, fv = .slice (some ⟨r, 0, none⟩) ps.length cap ∧ base ≤ r ∧ ps.length ≤ cap := by
  rcases rowOwn_shape h.row with ⟨_, h1⟩ | ⟨r, cap, h1, h2, _, h3⟩
  · omega
  · exact ⟨r, cap, h1, h2, h3⟩
theorem Hp.slc {w : World} {base g : Nat} {fv : Value} {ps : List (Value × List Nat)} (h : Hp w base g fv ps) : ∃ ao cap, fv = .slice ao ps.length cap := by
  rcases rowOwn_shape h.row with ⟨h1, h2⟩ | ⟨r, cap, h1, _⟩
  · exact ⟨none, 0, by rw [h1, h2]⟩
  · exact ⟨_, _, h1⟩
theorem Hp.cell {w : World} {base g r cap : Nat} {ps : List (Value × List Nat)} (h : Hp w base g (.slice (some ⟨r, 0, none⟩) ps.length cap) ps) {i : Nat} (hi : i < ps.length) : w.cell? ⟨r, i, none⟩ = some (ps[i]'hi).1 := by
  rw [World.ownsRow.cellAt h.row i (by omega), List.getElem?_map, List.getElem?_eq_getElem hi]; rfl
theorem Hp.free {w : World} {base g r cap : Nat} {ps : List (Value × List Nat)} (h : Hp w base g (.slice (some ⟨r, 0, none⟩) ps.length cap) ps) (i : Nat) : w.frozen? ⟨r, i, none⟩ = false := World.ownsRow.frozenAt h.row i
theorem Hp.small {w : World} {base g : Nat} {fv : Value} {ps : List (Value × List Nat)} (h : Hp w base g fv ps) : ps.length ≤ maxLen := by
  rcases h.row.2 with ⟨_, h1⟩ | ⟨_, cap, _, _, _, _, h1, h2, _⟩ <;> omega
/-- What is owned stays owned. -/
def KO (base : Nat) (w w' : World) : Prop := ∀ (v : Value) (xs : List Nat), Own .u64 32 w base v xs → Own .u64 32 w' base v xs
theorem KO.refl (base : Nat) (w : World) : KO base w w := fun _ _ h => h
theorem KO.trans {base : Nat} {a b c : World} (h : KO base a b) (k : KO base b c) : KO base a c := fun v xs ho => k v xs (h v xs ho)
theorem KO.drawn {base : Nat} {a b c : World} (h : KO base a b) (k : Drawn b c) : KO base a c := fun v xs ho => (h v xs ho).next (k.below _)
/-- Two change places. -/
theorem Hp.swap {w : World} {base g r cap : Nat} {ps : List (Value × List Nat)} (h : Hp w base g (.slice (some ⟨r, 0, none⟩) ps.length cap) ps) {i j : Nat} (hi : i < ps.length) (hj : j < ps.length) :
    ∃ ps', ps'.Perm ps ∧ Hp ((w.setCell ⟨r, i, none⟩ (ps[j]'hj).1).setCell ⟨r, j, none⟩ (ps[i]'hi).1) base g (.slice (some ⟨r, 0, none⟩) ps.length cap) ps' ∧ KO base w ((w.setCell ⟨r, i, none⟩ (ps[j]'hj).1).setCell ⟨r, j, none⟩ (ps[i]'hi).1) := by
  refine ⟨_, List.set_set_perm hi hj, ?_⟩
  have hr : base ≤ r ∧ ∃ cur, w.heap[r]? = some (.cells cur 23 (0, 0)) := by
    rcases h.row.2 with ⟨e, _⟩ | ⟨r', _, cur, e, h1, h2, _⟩
    · cases e
    · simp only [Value.slice.injEq, Option.some.injEq, Addr.mk.injEq, and_true] at e
      obtain ⟨rfl, -⟩ := e
      exact ⟨h1, cur, h2⟩
  obtain ⟨hb, cur, hc⟩ := hr
  have hne : g ≠ r := by
    intro e
    have := h.ptr
    unfold Blk at this
    rw [e, hc] at this
    simp at this
  have o1 := (World.ownsRow.stored h.row i (ps[j]'hj).1).1
  have o2 := (World.ownsRow.stored o1 j (ps[i]'hi).1).1
  refine ⟨⟨(h.ptr.far hne _).far hne _, ?_, fun x hx => ?_⟩, fun v xs ho => ownsRow_setCell_other (a := ⟨r, j, none⟩) (ownsRow_setCell_other (a := ⟨r, i, none⟩) ho (rowOwn_ne ho hc (by decide)) _) (rowOwn_ne ho hc (by decide)) _⟩
  · have e : (((ps.set i ps[j]).set j ps[i]).map (·.1)) = ((ps.map (·.1)).set i (ps[j]'hj).1).set j (ps[i]'hi).1 := by
      rw [List.map_set, List.map_set]
    rw [e]
    have e2 : ((ps.set i ps[j]).set j ps[i]).length = ps.length := by simp
    rw [e2]; exact o2
  · have hx2 := (List.set_set_perm hi hj).mem_iff.1 hx
    obtain ⟨k1, k2⟩ := h.each x hx2
    have k3 : x.1.ownBlock ≠ some r := rowOwn_ne k1 hc (by decide)
    exact ⟨ownsRow_setCell_other (a := ⟨r, j, none⟩) (ownsRow_setCell_other (a := ⟨r, i, none⟩) k1 k3 _) k3 _, k2⟩
/-- The last one is taken off. -/
theorem Hp.cut {w : World} {base g r cap m : Nat} {ps : List (Value × List Nat)} (h : Hp w base g (.slice (some ⟨r, 0, none⟩) (m + 1) cap) ps) (hm : ps.length = m + 1) :
    Hp (w.setCell ⟨g, 0, none⟩ (.slice (some ⟨r, 0, none⟩) m cap)) base g (.slice (some ⟨r, 0, none⟩) m cap) (ps.take m) := by
  have hl : (ps.take m).length = m := by rw [List.length_take]; omega
  rcases h.row.2 with ⟨e, _⟩ | ⟨r', cap', cur, e, h1, h2, h3, h4, h5, h6⟩
  · cases e
  simp only [Value.slice.injEq, Option.some.injEq, Addr.mk.injEq, and_true] at e
  obtain ⟨rfl, -, rfl⟩ := e
  have hne : r ≠ g := by
    intro e
    have := h.ptr
    unfold Blk at this
    rw [← e, h2] at this
    simp at this
  refine ⟨by have := h.ptr.set 0 (.slice (some ⟨r, 0, none⟩) m cap); exact this, ?_, fun x hx => ?_⟩
  · rw [hl]
    refine ⟨by rw [List.length_map, hl, Nat.mul_one], .inr ⟨r, cap, cur, rfl, h1, ?_, by omega, h4, h5, ?_⟩⟩
    · rw [heap_setCell_other w ⟨g, 0, none⟩ r _ hne]; exact h2
    · rw [Nat.mul_one, List.map_take, ← h6, List.take_take]
      congr 1; omega
  · obtain ⟨k1, k2⟩ := h.each x (List.mem_of_mem_take hx)
    have k3 : x.1.ownBlock ≠ some g := rowOwn_ne k1 h.ptr (by decide)
    exact ⟨ownsRow_setCell_other (a := ⟨g, 0, none⟩) k1 k3 _, k2⟩

theorem Len_any (ao : Option Addr) (n cap : Nat) (w : World) : Calls Try.prog 63 #[.slice ao n cap] w fun e w' => e = .returned (.int .i64 n) ∧ w = w' := by
  go_enter Try.func63, Try.ntmps63
  go_wp2
  go_ret
  exact ⟨rfl, rfl⟩
def RetB (w : World) (e : Ending) (w' : World) : Prop := ∃ b, e = .returned (.bool b) ∧ Drawn w w'
theorem Less_any (base g r cap i j : Nat) (ps : List (Value × List Nat)) (w : World) (h : Hp w base g (.slice (some ⟨r, 0, none⟩) ps.length cap) ps) (hi : i < ps.length) (hj : j < ps.length) (hl : lns ps ≤ 1000000) :
    Calls Try.prog 86 #[.slice (some ⟨r, 0, none⟩) ps.length cap, .int .i64 i, .int .i64 j] w (RetB w) := by
  have ci := h.cell hi
  have cj := h.cell hj
  obtain ⟨oi, ni⟩ := h.each _ (List.getElem_mem hi)
  obtain ⟨oj, nj⟩ := h.each _ (List.getElem_mem hj)
  have li := lns_mem (List.getElem_mem hi)
  have lj := lns_mem (List.getElem_mem hj)
  obtain ⟨vi, xi, ei⟩ : ∃ v x, (v, x) = ps[i]'hi := ⟨_, _, rfl⟩
  obtain ⟨vj, xj, ej⟩ : ∃ v x, (v, x) = ps[j]'hj := ⟨_, _, rfl⟩
  rw [← ei] at ci oi ni li; rw [← ej] at cj oj nj lj
  dsimp only at ci oi ni li cj oj nj lj
  have wi : wf W64 xi := ni.1
  have wj : wf W64 xj := nj.1
  have bi := World.block_lt_of_cell? w _ ci; have bj := World.block_lt_of_cell? w _ cj
  obtain ⟨b0, eb0⟩ : ∃ b, b = w.heap.size := ⟨_, rfl⟩
  rw [← eb0] at bi bj
  obtain ⟨n, en⟩ : ∃ n, n = ps.length := ⟨_, rfl⟩
  have hn := h.small
  unfold maxLen at hn
  rw [← en] at hi hj hn ⊢
  clear ei ej en h
  go_enter Try.func86, Try.ntmps86
  go_upto_region 1 with (fail)
  refine startL (S := (fun w' => Drawn w w')) (by kernel_rfl) (Drawn.add (Drawn.refl w) 1) (fun hHeld => ?_)
  refine takeL 0 (v := ?_) rfl (by kernel_rfl) (by kernel_rfl) (by kernel_rfl) (fun _ _ _ h => h) ⟨by rfl, ?_⟩ (by assumption) ?_
  rotate_left
  · intro w hS; go_simp <;> with_reducible rfl
  simp only [Act.put, List.setIfInBounds_toArray, List.set_cons_zero, List.set_cons_succ]
  refine takeL 1 (v := ?_) rfl (by kernel_rfl) (by kernel_rfl) (by kernel_rfl) (fun _ _ _ h => h) ⟨by rfl, ?_⟩ (by assumption) ?_
  rotate_left
  · intro w hS; go_simp <;> with_reducible rfl
  simp only [Act.put, List.setIfInBounds_toArray, List.set_cons_zero, List.set_cons_succ]
  refine takeL 2 (v := ?_) rfl (by kernel_rfl) (by kernel_rfl) (by kernel_rfl) (fun _ _ _ h => h) ⟨by rfl, ?_⟩ (by assumption) ?_
  rotate_left
  · intro w hS; go_simp <;> with_reducible rfl
  simp only [Act.put, List.setIfInBounds_toArray, List.set_cons_zero, List.set_cons_succ]
  refine takeL 3 (v := ?_) rfl (by kernel_rfl) (by kernel_rfl) (by kernel_rfl) (fun _ _ _ h => h) ⟨by rfl, ?_⟩ (by assumption) ?_
  rotate_left
  · intro w hS; have hbx := hS.below b0; have f1 := (hbx.cell (p := ⟨r, i, none⟩) bi).trans ci; have f2 := (hbx.cell (p := ⟨r, j, none⟩) bj).trans cj; go_simp <;> with_reducible rfl
  simp only [Act.put, List.setIfInBounds_toArray, List.set_cons_zero, List.set_cons_succ]
  refine takeL 4 (v := ?_) rfl (by kernel_rfl) (by kernel_rfl) (by kernel_rfl) (fun _ _ _ h => h) ⟨by rfl, ?_⟩ (by assumption) ?_
  rotate_left
  · intro w hS; go_simp <;> with_reducible rfl
  simp only [Act.put, List.setIfInBounds_toArray, List.set_cons_zero, List.set_cons_succ]
  refine takeL 5 (v := ?_) rfl (by kernel_rfl) (by kernel_rfl) (by kernel_rfl) (fun _ _ _ h => h) ⟨by rfl, ?_⟩ (by assumption) ?_
  rotate_left
  · intro w hS; go_simp <;> with_reducible rfl
  simp only [Act.put, List.setIfInBounds_toArray, List.set_cons_zero, List.set_cons_succ]
  refine takeL 6 (v := ?_) rfl (by kernel_rfl) (by kernel_rfl) (by kernel_rfl) (fun _ _ _ h => h) ⟨by rfl, ?_⟩ (by assumption) ?_
  rotate_left
  · intro w hS; go_simp <;> with_reducible rfl
  simp only [Act.put, List.setIfInBounds_toArray, List.set_cons_zero, List.set_cons_succ]
  refine takeL 7 (v := ?_) rfl (by kernel_rfl) (by kernel_rfl) (by kernel_rfl) (fun _ _ _ h => h) ⟨by rfl, ?_⟩ (by assumption) ?_
  rotate_left
  · intro w hS; have hbx := hS.below b0; have f1 := (hbx.cell (p := ⟨r, i, none⟩) bi).trans ci; have f2 := (hbx.cell (p := ⟨r, j, none⟩) bj).trans cj; go_simp <;> with_reducible rfl
  simp only [Act.put, List.setIfInBounds_toArray, List.set_cons_zero, List.set_cons_succ]
  refine oneL 8 rfl (by kernel_rfl) (by rfl) (fun K hK => ?_)
  go_simp
  go_at_call 29
  (with_reducible refine (nat_Cmp vi vj xi xj _ (oi.below (hHeld.below _) (Nat.le_refl _)).sl (oj.below (hHeld.below _) (Nat.le_refl _)).sl (by omega) (by omega) wi wj).mono ?_); rintro e w1 ⟨rfl, q1⟩
  refine hK.out _ _ (hHeld.trans q1) (fun hHeld => ?_)
  clear hK K
  try simp only [Act.put, List.setIfInBounds_toArray, List.set_cons_zero, List.set_cons_succ]
  refine takeL 9 (v := ?_) rfl (by kernel_rfl) (by kernel_rfl) (by kernel_rfl) (fun _ _ _ h => h) ⟨by rfl, ?_⟩ (by assumption) ?_
  rotate_left
  · intro w hS; go_simp <;> with_reducible rfl
  simp only [Act.put, List.setIfInBounds_toArray, List.set_cons_zero, List.set_cons_succ]
  refine takeL 10 (v := ?_) rfl (by kernel_rfl) (by kernel_rfl) (by kernel_rfl) (fun _ _ _ h => h) ⟨by rfl, ?_⟩ (by assumption) ?_
  rotate_left
  · intro w hS; go_simp <;> with_reducible rfl
  simp only [Act.put, List.setIfInBounds_toArray, List.set_cons_zero, List.set_cons_succ]
  refine doneL (by kernel_rfl) ?_ _
  go_wp2
  go_ret
  exact ⟨_, rfl, hHeld⟩

theorem cell_set_some {w : World} {p q : Addr} {x v : Value} (h : w.cell? q = some v) : ∃ v', (w.setCell p x).cell? q = some v' := by
  by_cases e : p = q
  · subst e; exact ⟨x, World.cell?_setCell_same _ _ _ h⟩
  · exact ⟨v, (World.cell?_setCell_other _ _ _ _ e).trans h⟩
/-- The heap has its numbers in another order. -/
def HpTo (w : World) (base g : Nat) (fv : Value) (ps : List (Value × List Nat)) (w' : World) : Prop := ∃ ps', ps'.Perm ps ∧ Hp w' base g fv ps' ∧ Below base w w' ∧ KO base w w'
def RetH1 (w : World) (base g : Nat) (fv : Value) (ps : List (Value × List Nat)) (e : Ending) (w' : World) : Prop := e = .returned (.tuple #[]) ∧ HpTo w base g fv ps w'
set_option maxHeartbeats 400000 in
theorem Swap_any (base g r cap i j : Nat) (ps : List (Value × List Nat)) (w : World) (h : Hp w base g (.slice (some ⟨r, 0, none⟩) ps.length cap) ps) (hi : i < ps.length) (hj : j < ps.length) (hr : base ≤ r) (hb : base ≤ w.heap.size) :
    Calls Try.prog 89 #[.slice (some ⟨r, 0, none⟩) ps.length cap, .int .i64 i, .int .i64 j] w (RetH1 w base g (.slice (some ⟨r, 0, none⟩) ps.length cap) ps) := by
  have hn := h.small
  unfold maxLen at hn
  obtain ⟨n, en⟩ : ∃ n, n = ps.length := ⟨_, rfl⟩
  rw [← en]
  have EN := Lib.hid en
  have hi2 : i < n := by omega
  have hj2 : j < n := by omega
  have hn2 : (n : Int) ≤ 9223372036854775807 := by omega
  have HI := Lib.hid hi; have HJ := Lib.hid hj
  clear hn en hi hj
  go_enter Try.func89, Try.ntmps89
  go_upto_region 0 with (fail)
  have bd := Drawn.below (w' := w.drew) ⟨1, rfl⟩ w.heap.size
  replace h := h.next bd
  have B0 := bd.mono hb
  have K0 := Lib.hid (show KO base w w.drew from (KO.refl base w).drawn ⟨1, rfl⟩)
  have ci := h.cell HI.out
  have cj := h.cell HJ.out
  have H := Lib.hid h
  have bl := World.block_lt_of_cell? _ _ ci
  clear bd
  obtain ⟨ai, ki, evi⟩ := (h.each _ (List.getElem_mem HI.out)).1.slc
  obtain ⟨aj, kj, evj⟩ := (h.each _ (List.getElem_mem HJ.out)).1.slc
  obtain ⟨mi, emi⟩ : ∃ m, m = (ps[i]'HI.out).2.length := ⟨_, rfl⟩
  obtain ⟨mj, emj⟩ : ∃ m, m = (ps[j]'HJ.out).2.length := ⟨_, rfl⟩
  rw [← emi] at evi; rw [← emj] at evj
  rw [evi] at ci; rw [evj] at cj
  have EI := Lib.hid evi; have EJ := Lib.hid evj
  have fi := h.free i; have fj := h.free j
  clear h evi evj emi emj
  refine startD (S := (fun w' => Below (w.drew).heap.size (w.drew) w')) 13 (by kernel_rfl) (Below.refl _ _) (fun hHeld => ?_)
  generalize w.drew = wd at *
  refine takeDA 0 (v := ?_) rfl (by kernel_rfl) (by kernel_rfl) (by kernel_rfl) (fun _ _ _ h => h) (by decide) ⟨by rfl, ?_⟩ (by assumption) ?_
  rotate_left
  · intro w; go_simp <;> with_reducible rfl
  simp only [Act.put, List.setIfInBounds_toArray, List.set_cons_zero, List.set_cons_succ]
  refine takeDA 1 (v := ?_) rfl (by kernel_rfl) (by kernel_rfl) (by kernel_rfl) (fun _ _ _ h => h) (by decide) ⟨by rfl, ?_⟩ (by assumption) ?_
  rotate_left
  · intro w; go_simp <;> with_reducible rfl
  simp only [Act.put, List.setIfInBounds_toArray, List.set_cons_zero, List.set_cons_succ]
  refine takeDA 2 (v := ?_) rfl (by kernel_rfl) (by kernel_rfl) (by kernel_rfl) (fun _ _ _ h => h) (by decide) ⟨by rfl, ?_⟩ (by assumption) ?_
  rotate_left
  · intro w; go_simp <;> with_reducible rfl
  simp only [Act.put, List.setIfInBounds_toArray, List.set_cons_zero, List.set_cons_succ]
  refine takeDA 3 (v := ?_) rfl (by kernel_rfl) (by kernel_rfl) (by kernel_rfl) (fun _ _ _ h => h) (by decide) ⟨by rfl, ?_⟩ (by assumption) ?_
  rotate_left
  · intro w; go_simp <;> with_reducible rfl
  simp only [Act.put, List.setIfInBounds_toArray, List.set_cons_zero, List.set_cons_succ]
  refine takeDA 4 (v := ?_) rfl (by kernel_rfl) (by kernel_rfl) (by kernel_rfl) (fun _ _ _ h => h) (by decide) ⟨by rfl, ?_⟩ (by assumption) ?_
  rotate_left
  · intro w; go_simp <;> with_reducible rfl
  simp only [Act.put, List.setIfInBounds_toArray, List.set_cons_zero, List.set_cons_succ]
  refine takeDA 5 (v := ?_) rfl (by kernel_rfl) (by kernel_rfl) (by kernel_rfl) (fun _ _ _ h => h) (by decide) ⟨by rfl, ?_⟩ (by assumption) ?_
  rotate_left
  · intro w; go_simp <;> with_reducible rfl
  simp only [Act.put, List.setIfInBounds_toArray, List.set_cons_zero, List.set_cons_succ]
  refine takeDA 6 (v := ?_) rfl (by kernel_rfl) (by kernel_rfl) (by kernel_rfl) (fun _ _ _ h => h) (by decide) ⟨by rfl, ?_⟩ (by assumption) ?_
  rotate_left
  · intro w; go_simp <;> with_reducible rfl
  simp only [Act.put, List.setIfInBounds_toArray, List.set_cons_zero, List.set_cons_succ]
  refine takeD0 7 (v := ?_) rfl (by kernel_rfl) (by kernel_rfl) (by kernel_rfl) (fun _ _ _ h => h) (by decide) (by kernel_rfl) (by kernel_rfl) ⟨by rfl, ?_⟩ (by assumption) ?_
  rotate_left
  · intro w hS; have f1 := (hS.cell (p := ⟨r, i, none⟩) bl).trans ci; have f2 := (hS.cell (p := ⟨r, j, none⟩) bl).trans cj; go_simp <;> with_reducible rfl
  simp only [Act.put, List.setIfInBounds_toArray, List.set_cons_zero, List.set_cons_succ]
  refine takeDA 8 (v := ?_) rfl (by kernel_rfl) (by kernel_rfl) (by kernel_rfl) (fun _ _ _ h => h) (by decide) ⟨by rfl, ?_⟩ (by assumption) ?_
  rotate_left
  · intro w; go_simp <;> with_reducible rfl
  simp only [Act.put, List.setIfInBounds_toArray, List.set_cons_zero, List.set_cons_succ]
  refine takeDA 9 (v := ?_) rfl (by kernel_rfl) (by kernel_rfl) (by kernel_rfl) (fun _ _ _ h => h) (by decide) ⟨by rfl, ?_⟩ (by assumption) ?_
  rotate_left
  · intro w; go_simp <;> with_reducible rfl
  simp only [Act.put, List.setIfInBounds_toArray, List.set_cons_zero, List.set_cons_succ]
  refine takeDA 10 (v := ?_) rfl (by kernel_rfl) (by kernel_rfl) (by kernel_rfl) (fun _ _ _ h => h) (by decide) ⟨by rfl, ?_⟩ (by assumption) ?_
  rotate_left
  · intro w; go_simp <;> with_reducible rfl
  simp only [Act.put, List.setIfInBounds_toArray, List.set_cons_zero, List.set_cons_succ]
  refine takeD0 11 (v := ?_) rfl (by kernel_rfl) (by kernel_rfl) (by kernel_rfl) (fun _ _ _ h => h) (by decide) (by kernel_rfl) (by kernel_rfl) ⟨by rfl, ?_⟩ (by assumption) ?_
  rotate_left
  · intro w hS; have f1 := (hS.cell (p := ⟨r, i, none⟩) bl).trans ci; have f2 := (hS.cell (p := ⟨r, j, none⟩) bl).trans cj; go_simp <;> with_reducible rfl
  simp only [Act.put, List.setIfInBounds_toArray, List.set_cons_zero, List.set_cons_succ]
  refine takeDA 12 (v := ?_) rfl (by kernel_rfl) (by kernel_rfl) (by kernel_rfl) (fun _ _ _ h => h) (by decide) ⟨by rfl, ?_⟩ (by assumption) ?_
  rotate_left
  · intro w; go_simp <;> with_reducible rfl
  simp only [Act.put, List.setIfInBounds_toArray, List.set_cons_zero, List.set_cons_succ]
  have fz1 := fi
  have fz2 := fj
  obtain ⟨zz, qz⟩ := cell_set_some (p := ⟨r, i, none⟩) (x := .slice aj mj kj) cj
  refine oneM rfl (by kernel_rfl) (of_decide_eq_true (by kernel_rfl)) (by rfl) (fun K hK => ?_)
  go_simp
  refine hK.out _ _ ?_
  clear hK K
  try simp only [Act.put, List.setIfInBounds_toArray, List.set_cons_zero, List.set_cons_succ]
  clear fz1
  refine takeL 14 (v := ?_) rfl (by kernel_rfl) (by kernel_rfl) (by kernel_rfl) (fun _ _ _ h => h) ⟨by rfl, ?_⟩ trivial ?_
  rotate_left
  · intro w _; go_simp <;> with_reducible rfl
  simp only [Act.put, List.setIfInBounds_toArray, List.set_cons_zero, List.set_cons_succ]
  refine oneL 15 rfl (by kernel_rfl) (by rfl) (fun K hK => ?_)
  go_simp
  refine hK.out _ _ trivial (fun _ => ?_)
  clear hK K
  try simp only [Act.put, List.setIfInBounds_toArray, List.set_cons_zero, List.set_cons_succ]
  refine doneL (by kernel_rfl) ?_ _
  have st : HpTo w base g (.slice (some ⟨r, 0, none⟩) n cap) ps ((wd.setCell ⟨r, i, none⟩ (.slice aj mj kj)).setCell ⟨r, j, none⟩ (.slice ai mi ki)) := by
    have k := H.out.swap HI.out HJ.out
    rw [EI.out, EJ.out, ← EN.out] at k
    obtain ⟨ps', k1, k2, k3⟩ := k
    refine ⟨ps', k1, k2, ?_, K0.out.trans k3⟩
    exact (B0.setCell (p := ⟨r, i, none⟩) hr (.slice aj mj kj)).setCell (p := ⟨r, j, none⟩) hr (.slice ai mi ki)
  have ST := Lib.hid st
  clear st ci cj fi fj bl B0
  go_wp2
  go_end0
  exact ⟨rfl, ST.out⟩

/-- The last number is handed out. -/
def RetPop (w : World) (base g : Nat) (x : Value × List Nat) (ps : List (Value × List Nat)) (e : Ending) (w' : World) : Prop := e = .returned (.iface 23 x.1) ∧ Own .u64 32 w' base x.1 x.2 ∧ KO base w w' ∧ ∃ fv, Hp w' base g fv ps ∧ Below base w w'
theorem Pop_any (base g m : Nat) (fv : Value) (ps : List (Value × List Nat)) (x : Value × List Nat) (w : World) (h : Hp w base g fv ps) (hm : ps.length = m + 1) (hx : ps[m]? = some x) (hg : base ≤ g) :
    Calls Try.prog 87 #[.pointer (some ⟨g, 0, none⟩)] w (RetPop w base g x (ps.take m)) := by
  have hn := h.small
  unfold maxLen at hn
  obtain ⟨r, cap, rfl, hr, hc⟩ := h.form (by omega)
  have c0 := h.cell (i := m) (by omega)
  have hx2 : (ps[m]'(by omega)).1 = x.1 := by
    rw [List.getElem?_eq_getElem (by omega)] at hx
    rw [Option.some.inj hx]
  rw [hx2] at c0
  have hxm := List.mem_of_getElem? hx
  obtain ⟨v, zs⟩ := x
  dsimp only at c0
  have HO := Lib.hid (show Own .u64 32 (w.setCell ⟨g, 0, none⟩ (.slice (some ⟨r, 0, none⟩) m cap)) base v zs from ownsRow_setCell_other (a := ⟨g, 0, none⟩) (h.each _ hxm).1 (rowOwn_ne (h.each _ hxm).1 h.ptr (by decide)) _)
  have HK := Lib.hid (show KO base w (w.setCell ⟨g, 0, none⟩ (.slice (some ⟨r, 0, none⟩) m cap)) from fun v xs ho => ownsRow_setCell_other (a := ⟨g, 0, none⟩) ho (rowOwn_ne ho h.ptr (by decide)) _)
  rw [hm] at h hc
  have q0 := h.ptr.cell 0
  have f0 := h.ptr.free 0
  simp only [List.getElem?_cons_zero] at q0
  have H := Lib.hid (h.cut hm)
  have hw : (m : Int) + 1 ≤ 9223372036854775807 := by omega
  clear hn
  have hmc : (m : Int) ≤ (cap : Int) := by omega
  have B := Lib.hid ((Below.refl base w).setCell (p := ⟨g, 0, none⟩) hg (.slice (some ⟨r, 0, none⟩) m cap))
  clear hx hx2 hxm hm h
  go_enter Try.func87, Try.ntmps87
  go_wp2
  go_ret
  exact ⟨rfl, HO.out, HK.out, _, H.out, B.out⟩

/-- A natural out of an interface. -/
theorem assert_nat (ao : Option Addr) (n k : Nat) (w : World) : (Instr.typeAssert (.iface 23 (.slice ao n k)) 20 23 true).run Try.prog w = .ok (.tuple #[.slice ao n k, .bool true]) w := by kernel_rfl
/-- A number has come into the heap. -/
def RetPush (w : World) (base g : Nat) (ps : List (Value × List Nat)) (e : Ending) (w' : World) : Prop := e = .returned (.tuple #[]) ∧ ∃ fv, Hp w' base g fv ps ∧ Below base w w'
theorem Push_any (base g : Nat) (fv v : Value) (zs : List Nat) (ps : List (Value × List Nat)) (w : World) (h : Hp w base g fv ps) (hv : Own .u64 32 w base v zs) (hz : Nrm W64 zs) (hg : base ≤ g) (hb : base ≤ w.heap.size) (hl : ps.length ≤ 1000000) :
    Calls Try.prog 88 #[.pointer (some ⟨g, 0, none⟩), .iface 23 v] w (RetPush w base g (ps ++ [(v, zs)])) := by
  obtain ⟨ao, k, rfl⟩ := hv.slc
  obtain ⟨bo, cap, rfl⟩ := h.slc
  have q0 := h.ptr.cell 0
  have f0 := h.ptr.free 0
  have hlt := h.ptr.lt
  simp only [List.getElem?_cons_zero] at q0
  have hrow := h.row
  have H := Lib.hid h
  obtain ⟨n, en⟩ : ∃ n, n = ps.length := ⟨_, rfl⟩
  have EN := Lib.hid en
  have p1 := H.out.ptr
  rw [← en] at q0 hrow hl p1
  have HP1 := Lib.hid p1; clear p1
  have HV := Lib.hid hv
  have ta := fun w => assert_nat ao zs.length k w
  clear h hv en
  go_enter Try.func88, Try.ntmps88
  go_wp2_with (at_builtin; refine apVl 67 23 24 (.slice none 0 0) Try.underlying67 (by kernel_rfl) (by decide) rfl rfl _ _ rfl w base (.slice bo n cap) n _ (.slice ao zs.length k) rfl hrow (by omega) hb rfl rfl ?_; intro g2 cap2 w2 hrow2 hbel2 hgr2 _; have GR := Lib.hid hgr2; clear hgr2; have HR := Lib.hid hrow; clear hrow; have HR2 := Lib.hid hrow2; clear hrow2; have hb2 : w2.heap[g]? = w.heap[g]? := GR.out.block g hlt (fun e => rowOwn_ne HR.out H.out.ptr (by decide) e.symm); have P2 : Blk 67 w2 g [.slice bo n cap] := hb2.trans HP1.out; clear hb2; have f2 := P2.free 0; have q2 := P2.cell 0; simp only [List.getElem?_cons_zero] at q2; clear q0 f0)
  go_end0
  refine ⟨rfl, .slice (some ⟨g2, 0, none⟩) (n + 1) cap2, ⟨P2.set 0 _, ?_, fun x hx => ?_⟩, hbel2.setCell (p := ⟨g, 0, none⟩) hg _⟩
  · have hne : (Value.slice (some ⟨g2, 0, none⟩) (n + 1) cap2).ownBlock ≠ some g := rowOwn_ne HR2.out P2 (by decide)
    have k1 := ownsRow_setCell_other (a := ⟨g, 0, none⟩) HR2.out hne (.slice (some ⟨g2, 0, none⟩) (n + 1) cap2)
    rw [List.map_append, List.length_append, ← EN.out]
    exact k1
  · have k2 : Own .u64 32 w base x.1 x.2 ∧ Nrm W64 x.2 := by
      rcases List.mem_append.1 hx with hx | hx
      · exact H.out.each x hx
      · rw [List.mem_singleton.1 hx]; exact ⟨HV.out, hz⟩
    have k3 := k2.1.kept_row HR.out GR.out (by decide)
    exact ⟨ownsRow_setCell_other (a := ⟨g, 0, none⟩) k3 (rowOwn_ne k3 P2 (by decide)) _, k2.2⟩
end Go.Proofs.Ytnnidjhhcnmnnaa
