/- hess.work: rows and columns change places. -/
import Derived.Test.YthghdjpjbngllaaZePeel2
import Derived.Test.YthghdjpjbngllaaZeColumn
import Derived.Test.YthghdjpjbngllaaZeHmat
import Derived.Test.YthghdjpjbngllaaZeHes
namespace Go.Proofs.Ythghdjpjbngllaa
open Go.RowKit

section
variable {α : Type} {V : World → Value → α → Prop} {e er : TypeId} {w : World} {base n N : Nat} {rv : Value} {vs : List Value} {W : Nat → Nat → α}
/-- A store into a block that the rows don't use. -/
theorem Rws.beside (h : Rws V e er w base rv vs n N W) {a : Addr} {y : Value} (hr : ∀ (i b o c : Nat), vs[i]? = some (.slice (some ⟨b, o, none⟩) N c) → 0 < N → b ≠ a.block) (hh : rv.ownBlock ≠ some a.block) (hV : ∀ u x, V w u x → V (w.setCell a y) u x) :
    Rws V e er (w.setCell a y) base rv vs n N W := by
  refine ⟨h.len, ownsRow_setCell_other h.own hh y, fun i v hv => ?_, h.sep⟩
  obtain ⟨aj, cj, bj, oj, curj, e2, k1, k2⟩ := h.row i v hv
  refine ⟨aj, cj, bj, oj, curj, e2, k1, fun hN => ?_⟩
  obtain ⟨k3, k4, k5, k6⟩ := k2 hN
  subst k3 e2
  refine ⟨rfl, k4, (heap_setCell_other w a bj y (hr i bj oj cj hv hN)).trans k5, fun l hl => ?_⟩
  obtain ⟨u, hu, hvu⟩ := k6 l hl
  exact ⟨u, hu, hV u _ hvu⟩
theorem Rws.typ (h : Rws V e er w base rv vs n N W) {i b o c : Nat} (hv : vs[i]? = some (.slice (some ⟨b, o, none⟩) N c)) (hN : 0 < N) : ∃ cur, w.heap[b]? = some (.cells cur e (0, 0)) := h.atc hv hN
end
section
variable {p : Nat} {w : World} {base gW n : Nat} {H P H' P' : Nat → Nat → Zp p} {hs ps : List Value} {gh ch gp cp : Nat}
theorem ne_typ {w : World} {a b : Nat} {c1 c2 : Array Value} {e1 e2 : TypeId} (h1 : w.heap[a]? = some (.cells c1 e1 (0, 0))) (h2 : w.heap[b]? = some (.cells c2 e2 (0, 0))) (he : e1 ≠ e2) : a ≠ b := by
  intro e; rw [e, h2] at h1; simp at h1; exact he h1.2.symm
theorem Hk.congr {hv pv : Value} (h : Hk p w base gW n H P hv pv hs ps) (hH : ∀ i k, i < n → k < n → H i k = H' i k) (hP : ∀ i k, i < n → k < n → P i k = P' i k) : Hk p w base gW n H' P' hv pv hs ps := ⟨h.blk, h.gw, h.h.congr hH, h.p.congr hP, h.sep, h.hd⟩
theorem Hk.swapH (h : Hk p w base gW n H P (.slice (some ⟨gh, 0, none⟩) n ch) (.slice (some ⟨gp, 0, none⟩) n cp) hs ps) {i j : Nat} {u v : Value} (hu : hs[i]? = some u) (hv : hs[j]? = some v) :
    Hk p ((w.setCell ⟨gh, i, none⟩ v).setCell ⟨gh, j, none⟩ u) base gW n (swpA H i j) P (.slice (some ⟨gh, 0, none⟩) n ch) (.slice (some ⟨gp, 0, none⟩) n cp) ((hs.set i v).set j u) ps := by
  obtain ⟨cur, hc⟩ := h.h.cellH rfl
  have hne : gW ≠ gh := ne_typ h.blk hc (by decide)
  have hp1 : ∀ (i b o c : Nat), ps[i]? = some (.slice (some ⟨b, o, none⟩) n c) → 0 < n → b ≠ gh := fun i b o c h1 h2 => by
    obtain ⟨c2, hc2⟩ := h.p.typ h1 h2
    exact ne_typ hc2 hc (by decide)
  have hp2 : (Value.slice (some ⟨gp, 0, none⟩) n cp).ownBlock ≠ some gh := fun e => h.hd gh rfl e
  refine ⟨(h.blk.far (a := ⟨gh, i, none⟩) hne v).far (a := ⟨gh, j, none⟩) hne u, h.gw, h.h.swap (by decide) rfl hu hv (fun _ _ _ _ _ _ _ _ h => h),
    (h.p.beside (a := ⟨gh, i, none⟩) hp1 hp2 (fun _ _ h => h)).beside (a := ⟨gh, j, none⟩) hp1 hp2 (fun _ _ h => h), fun a c b o k b' o' k' h1 h2 => ?_, h.hd⟩
  rw [List.getElem?_set] at h1
  split at h1
  · split at h1
    · simp only [Option.some.injEq] at h1; rw [h1] at hu; exact h.sep i c b o k b' o' k' hu h2
    · cases h1
  · rw [List.getElem?_set] at h1
    split at h1
    · split at h1
      · simp only [Option.some.injEq] at h1; rw [h1] at hv; exact h.sep j c b o k b' o' k' hv h2
      · cases h1
    · exact h.sep a c b o k b' o' k' h1 h2
theorem Hk.swapP (h : Hk p w base gW n H P (.slice (some ⟨gh, 0, none⟩) n ch) (.slice (some ⟨gp, 0, none⟩) n cp) hs ps) {i j : Nat} {u v : Value} (hu : ps[i]? = some u) (hv : ps[j]? = some v) :
    Hk p ((w.setCell ⟨gp, i, none⟩ v).setCell ⟨gp, j, none⟩ u) base gW n H (swpA P i j) (.slice (some ⟨gh, 0, none⟩) n ch) (.slice (some ⟨gp, 0, none⟩) n cp) hs ((ps.set i v).set j u) := by
  obtain ⟨cur, hc⟩ := h.p.cellH rfl
  have hne : gW ≠ gp := ne_typ h.blk hc (by decide)
  have hp1 : ∀ (i b o c : Nat), hs[i]? = some (.slice (some ⟨b, o, none⟩) n c) → 0 < n → b ≠ gp := fun i b o c h1 h2 => by
    obtain ⟨c2, hc2⟩ := h.h.typ h1 h2
    exact ne_typ hc2 hc (by decide)
  have hp2 : (Value.slice (some ⟨gh, 0, none⟩) n ch).ownBlock ≠ some gp := fun e => h.hd gp e rfl
  refine ⟨(h.blk.far (a := ⟨gp, i, none⟩) hne v).far (a := ⟨gp, j, none⟩) hne u, h.gw, (h.h.beside (a := ⟨gp, i, none⟩) hp1 hp2 (fun _ _ h => h)).beside (a := ⟨gp, j, none⟩) hp1 hp2 (fun _ _ h => h),
    h.p.swap (by decide) rfl hu hv (fun _ _ _ _ _ _ _ _ h => h), fun a c b o k b' o' k' h1 h2 => ?_, h.hd⟩
  rw [List.getElem?_set] at h2
  split at h2
  · split at h2
    · simp only [Option.some.injEq] at h2; rw [h2] at hu; exact h.sep a i b o k b' o' k' h1 hu
    · cases h2
  · rw [List.getElem?_set] at h2
    split at h2
    · split at h2
      · simp only [Option.some.injEq] at h2; rw [h2] at hv; exact h.sep a j b o k b' o' k' h1 hv
      · cases h2
    · exact h.sep a c b o k b' o' k' h1 h2
theorem Hk.storeH {hv pv : Value} (h : Hk p w base gW n H P hv pv hs ps) {i k b o cap : Nat} (hr : hs[i]? = some (.slice (some ⟨b, o, none⟩) n cap)) (hk : k < n) {x : Zp p} {z : Int} (hz : z = (x.val : Nat)) :
    Hk p (w.setCell ⟨b, o + k, none⟩ (.int .u64 z)) base gW n (updE H i k x) P hv pv hs ps := by
  subst hz
  obtain ⟨cur, hc⟩ := h.h.atc hr hk
  exact ⟨h.blk.far (ne_typ h.blk hc (by decide)) _, h.gw, h.h.store (by decide) hr hk (fun _ _ h => h) rfl,
    h.p.beside (fun a b' o' c' h1 _ e => h.sep i a b o cap b' o' c' hr h1 e.symm) (rowOwn_ne h.p.own hc (by decide)) (fun _ _ h => h), h.sep, h.hd⟩
theorem Hk.storeP {hv pv : Value} (h : Hk p w base gW n H P hv pv hs ps) {i k b o cap : Nat} (hr : ps[i]? = some (.slice (some ⟨b, o, none⟩) n cap)) (hk : k < n) {x : Zp p} {z : Int} (hz : z = (x.val : Nat)) :
    Hk p (w.setCell ⟨b, o + k, none⟩ (.int .u64 z)) base gW n H (updE P i k x) hv pv hs ps := by
  subst hz
  obtain ⟨cur, hc⟩ := h.p.atc hr hk
  exact ⟨h.blk.far (ne_typ h.blk hc (by decide)) _, h.gw, h.h.beside (fun a b' o' c' h1 _ e => h.sep a i b' o' c' b o cap h1 hr e) (rowOwn_ne h.h.own hc (by decide)) (fun _ _ h => h),
    h.p.store (by decide) hr hk (fun _ _ h => h) rfl, h.sep, h.hd⟩
end

theorem cell_set_some {w : World} {p q : Addr} {x v : Value} (h : w.cell? q = some v) : ∃ v', (w.setCell p x).cell? q = some v' := by
  by_cases e : p = q
  · subst e; exact ⟨x, World.cell?_setCell_same _ _ _ h⟩
  · exact ⟨v, (World.cell?_setCell_other _ _ _ _ e).trans h⟩
/-- A work of hess has gone on. -/
def HkTo (p : Nat) (w : World) (base gW n : Nat) (H' P' : Nat → Nat → Zp p) (hv pv : Value) (w' : World) : Prop := ∃ hs' ps', Hk p w' base gW n H' P' hv pv hs' ps' ∧ Below base w w'
def HkPost (p : Nat) (w : World) (base gW n : Nat) (H' P' : Nat → Nat → Zp p) (hv pv : Value) (e : Ending) (w' : World) : Prop := e = .returned (.tuple #[]) ∧ HkTo p w base gW n H' P' hv pv w'

set_option maxRecDepth 20000 in
set_option maxHeartbeats 4000000 in
theorem hs_swap (p : Nat) (w : World) (base gW n : Nat) (H P : Nat → Nat → Zp p) (hv pv : Value) (hs ps : List Value) (h : Hk p w base gW n H P hv pv hs ps)
    (i k : Nat) (hi : i < n) (hk : k < n) (hn : n ≤ 1000) (hbase : base ≤ w.heap.size) :
    Calls Try.prog 146 #[.pointer (some ⟨gW, 0, none⟩), .int .i64 i, .int .i64 k] w (HkPost p w base gW n (hsw H i k) (psw P i k) hv pv) := by
  obtain ⟨gh, ch, rfl, hgh, hghl, hnch⟩ : ∃ g cap, hv = .slice (some ⟨g, 0, none⟩) n cap ∧ base ≤ g ∧ g < w.heap.size ∧ n ≤ cap := by
    rcases h.h.shape with ⟨_, h0⟩ | h0
    · omega
    · exact h0
  obtain ⟨gp, cp, rfl, hgp, hgpl, hncp⟩ : ∃ g cap, pv = .slice (some ⟨g, 0, none⟩) n cap ∧ base ≤ g ∧ g < w.heap.size ∧ n ≤ cap := by
    rcases h.p.shape with ⟨_, h0⟩ | h0
    · omega
    · exact h0
  obtain ⟨vi, hvi⟩ := h.h.hdr hi
  obtain ⟨vk, hvk⟩ := h.h.hdr hk
  obtain ⟨ui, hui⟩ := h.p.hdr hi
  obtain ⟨uk, huk⟩ := h.p.hdr hk
  obtain ⟨ai, ci, rfl, -⟩ := (h.h.row i vi hvi).slice
  obtain ⟨ak, ck, rfl, -⟩ := (h.h.row k vk hvk).slice
  obtain ⟨ai', ci', rfl, -⟩ := (h.p.row i ui hui).slice
  obtain ⟨ak', ck', rfl, -⟩ := (h.p.row k uk huk).slice
  go_enter Try.func146, Try.ntmps146
  go_upto_region 0 with (fail)
  have bd := Drawn.below (w' := w.drew) ⟨1, rfl⟩ w.heap.size
  replace h := h.next bd
  have B0 := bd.mono hbase
  have hbw : base ≤ w.drew.heap.size := hbase
  have hghl : gh < w.drew.heap.size := hghl
  have hgpl : gp < w.drew.heap.size := hgpl
  clear bd
  have q1 := h.blk.cell 1
  have qi := h.h.head rfl hi; rw [hvi] at qi
  have qk := h.h.head rfl hk; rw [hvk] at qk
  have hl1 := h.blk.lt
  refine startD (S := (fun w' => Below (w.drew).heap.size (w.drew) w')) 25 (by kernel_rfl) (Below.refl _ _) (fun hHeld => ?_)
  generalize w.drew = wd at *
  refine takeDA 0 (v := ?_) rfl (by kernel_rfl) (by kernel_rfl) (by kernel_rfl) (fun _ _ _ h => h) (by decide) ⟨by rfl, ?_⟩ (by assumption) ?_
  rotate_left
  · intro w; go_simp <;> with_reducible rfl
  simp only [Act.put, List.setIfInBounds_toArray, List.set_cons_zero, List.set_cons_succ]
  refine takeDA 1 (v := ?_) rfl (by kernel_rfl) (by kernel_rfl) (by kernel_rfl) (fun _ _ _ h => h) (by decide) ⟨by rfl, ?_⟩ (by assumption) ?_
  rotate_left
  · intro w; go_simp <;> with_reducible rfl
  simp only [Act.put, List.setIfInBounds_toArray, List.set_cons_zero, List.set_cons_succ]
  refine takeDA 2 (v := ?_) rfl (by kernel_rfl) (by kernel_rfl) (by kernel_rfl) (fun _ _ _ h => h) (by decide) ⟨by rfl, ?_⟩ (by assumption) ?_
  rotate_left
  · intro w; go_simp <;> with_reducible rfl
  simp only [Act.put, List.setIfInBounds_toArray, List.set_cons_zero, List.set_cons_succ]
  refine takeD0 3 (v := ?_) rfl (by kernel_rfl) (by kernel_rfl) (by kernel_rfl) (fun _ _ _ h => h) (by decide) (by kernel_rfl) (by kernel_rfl) ⟨by rfl, ?_⟩ (by assumption) ?_
  rotate_left
  · intro w hS; have f1 := (hS.cell (p := ⟨gW, 1, none⟩) hl1).trans q1; have f2 := (hS.cell (p := ⟨gh, i, none⟩) hghl).trans qi; have f3 := (hS.cell (p := ⟨gh, k, none⟩) hghl).trans qk; go_simp <;> with_reducible rfl
  simp only [Act.put, List.setIfInBounds_toArray, List.set_cons_zero, List.set_cons_succ]
  refine takeDA 4 (v := ?_) rfl (by kernel_rfl) (by kernel_rfl) (by kernel_rfl) (fun _ _ _ h => h) (by decide) ⟨by rfl, ?_⟩ (by assumption) ?_
  rotate_left
  · intro w; go_simp <;> with_reducible rfl
  simp only [Act.put, List.setIfInBounds_toArray, List.set_cons_zero, List.set_cons_succ]
  refine takeDA 5 (v := ?_) rfl (by kernel_rfl) (by kernel_rfl) (by kernel_rfl) (fun _ _ _ h => h) (by decide) ⟨by rfl, ?_⟩ (by assumption) ?_
  rotate_left
  · intro w; go_simp <;> with_reducible rfl
  simp only [Act.put, List.setIfInBounds_toArray, List.set_cons_zero, List.set_cons_succ]
  refine takeDA 6 (v := ?_) rfl (by kernel_rfl) (by kernel_rfl) (by kernel_rfl) (fun _ _ _ h => h) (by decide) ⟨by rfl, ?_⟩ (by assumption) ?_
  rotate_left
  · intro w; go_simp <;> with_reducible rfl
  simp only [Act.put, List.setIfInBounds_toArray, List.set_cons_zero, List.set_cons_succ]
  refine takeDA 7 (v := ?_) rfl (by kernel_rfl) (by kernel_rfl) (by kernel_rfl) (fun _ _ _ h => h) (by decide) ⟨by rfl, ?_⟩ (by assumption) ?_
  rotate_left
  · intro w; go_simp <;> with_reducible rfl
  simp only [Act.put, List.setIfInBounds_toArray, List.set_cons_zero, List.set_cons_succ]
  refine takeD0 8 (v := ?_) rfl (by kernel_rfl) (by kernel_rfl) (by kernel_rfl) (fun _ _ _ h => h) (by decide) (by kernel_rfl) (by kernel_rfl) ⟨by rfl, ?_⟩ (by assumption) ?_
  rotate_left
  · intro w hS; have f1 := (hS.cell (p := ⟨gW, 1, none⟩) hl1).trans q1; have f2 := (hS.cell (p := ⟨gh, i, none⟩) hghl).trans qi; have f3 := (hS.cell (p := ⟨gh, k, none⟩) hghl).trans qk; go_simp <;> with_reducible rfl
  simp only [Act.put, List.setIfInBounds_toArray, List.set_cons_zero, List.set_cons_succ]
  refine takeDA 9 (v := ?_) rfl (by kernel_rfl) (by kernel_rfl) (by kernel_rfl) (fun _ _ _ h => h) (by decide) ⟨by rfl, ?_⟩ (by assumption) ?_
  rotate_left
  · intro w; go_simp <;> with_reducible rfl
  simp only [Act.put, List.setIfInBounds_toArray, List.set_cons_zero, List.set_cons_succ]
  refine takeDA 10 (v := ?_) rfl (by kernel_rfl) (by kernel_rfl) (by kernel_rfl) (fun _ _ _ h => h) (by decide) ⟨by rfl, ?_⟩ (by assumption) ?_
  rotate_left
  · intro w; go_simp <;> with_reducible rfl
  simp only [Act.put, List.setIfInBounds_toArray, List.set_cons_zero, List.set_cons_succ]
  refine takeDA 11 (v := ?_) rfl (by kernel_rfl) (by kernel_rfl) (by kernel_rfl) (fun _ _ _ h => h) (by decide) ⟨by rfl, ?_⟩ (by assumption) ?_
  rotate_left
  · intro w; go_simp <;> with_reducible rfl
  simp only [Act.put, List.setIfInBounds_toArray, List.set_cons_zero, List.set_cons_succ]
  refine takeDA 12 (v := ?_) rfl (by kernel_rfl) (by kernel_rfl) (by kernel_rfl) (fun _ _ _ h => h) (by decide) ⟨by rfl, ?_⟩ (by assumption) ?_
  rotate_left
  · intro w; go_simp <;> with_reducible rfl
  simp only [Act.put, List.setIfInBounds_toArray, List.set_cons_zero, List.set_cons_succ]
  refine takeD0 13 (v := ?_) rfl (by kernel_rfl) (by kernel_rfl) (by kernel_rfl) (fun _ _ _ h => h) (by decide) (by kernel_rfl) (by kernel_rfl) ⟨by rfl, ?_⟩ (by assumption) ?_
  rotate_left
  · intro w hS; have f1 := (hS.cell (p := ⟨gW, 1, none⟩) hl1).trans q1; have f2 := (hS.cell (p := ⟨gh, i, none⟩) hghl).trans qi; have f3 := (hS.cell (p := ⟨gh, k, none⟩) hghl).trans qk; go_simp <;> with_reducible rfl
  simp only [Act.put, List.setIfInBounds_toArray, List.set_cons_zero, List.set_cons_succ]
  refine takeDA 14 (v := ?_) rfl (by kernel_rfl) (by kernel_rfl) (by kernel_rfl) (fun _ _ _ h => h) (by decide) ⟨by rfl, ?_⟩ (by assumption) ?_
  rotate_left
  · intro w; go_simp <;> with_reducible rfl
  simp only [Act.put, List.setIfInBounds_toArray, List.set_cons_zero, List.set_cons_succ]
  refine takeDA 15 (v := ?_) rfl (by kernel_rfl) (by kernel_rfl) (by kernel_rfl) (fun _ _ _ h => h) (by decide) ⟨by rfl, ?_⟩ (by assumption) ?_
  rotate_left
  · intro w; go_simp <;> with_reducible rfl
  simp only [Act.put, List.setIfInBounds_toArray, List.set_cons_zero, List.set_cons_succ]
  refine takeD0 16 (v := ?_) rfl (by kernel_rfl) (by kernel_rfl) (by kernel_rfl) (fun _ _ _ h => h) (by decide) (by kernel_rfl) (by kernel_rfl) ⟨by rfl, ?_⟩ (by assumption) ?_
  rotate_left
  · intro w hS; have f1 := (hS.cell (p := ⟨gW, 1, none⟩) hl1).trans q1; have f2 := (hS.cell (p := ⟨gh, i, none⟩) hghl).trans qi; have f3 := (hS.cell (p := ⟨gh, k, none⟩) hghl).trans qk; go_simp <;> with_reducible rfl
  simp only [Act.put, List.setIfInBounds_toArray, List.set_cons_zero, List.set_cons_succ]
  refine takeDA 17 (v := ?_) rfl (by kernel_rfl) (by kernel_rfl) (by kernel_rfl) (fun _ _ _ h => h) (by decide) ⟨by rfl, ?_⟩ (by assumption) ?_
  rotate_left
  · intro w; go_simp <;> with_reducible rfl
  simp only [Act.put, List.setIfInBounds_toArray, List.set_cons_zero, List.set_cons_succ]
  refine takeDA 18 (v := ?_) rfl (by kernel_rfl) (by kernel_rfl) (by kernel_rfl) (fun _ _ _ h => h) (by decide) ⟨by rfl, ?_⟩ (by assumption) ?_
  rotate_left
  · intro w; go_simp <;> with_reducible rfl
  simp only [Act.put, List.setIfInBounds_toArray, List.set_cons_zero, List.set_cons_succ]
  refine takeDA 19 (v := ?_) rfl (by kernel_rfl) (by kernel_rfl) (by kernel_rfl) (fun _ _ _ h => h) (by decide) ⟨by rfl, ?_⟩ (by assumption) ?_
  rotate_left
  · intro w; go_simp <;> with_reducible rfl
  simp only [Act.put, List.setIfInBounds_toArray, List.set_cons_zero, List.set_cons_succ]
  refine takeD0 20 (v := ?_) rfl (by kernel_rfl) (by kernel_rfl) (by kernel_rfl) (fun _ _ _ h => h) (by decide) (by kernel_rfl) (by kernel_rfl) ⟨by rfl, ?_⟩ (by assumption) ?_
  rotate_left
  · intro w hS; have f1 := (hS.cell (p := ⟨gW, 1, none⟩) hl1).trans q1; have f2 := (hS.cell (p := ⟨gh, i, none⟩) hghl).trans qi; have f3 := (hS.cell (p := ⟨gh, k, none⟩) hghl).trans qk; go_simp <;> with_reducible rfl
  simp only [Act.put, List.setIfInBounds_toArray, List.set_cons_zero, List.set_cons_succ]
  refine takeDA 21 (v := ?_) rfl (by kernel_rfl) (by kernel_rfl) (by kernel_rfl) (fun _ _ _ h => h) (by decide) ⟨by rfl, ?_⟩ (by assumption) ?_
  rotate_left
  · intro w; go_simp <;> with_reducible rfl
  simp only [Act.put, List.setIfInBounds_toArray, List.set_cons_zero, List.set_cons_succ]
  refine takeDA 22 (v := ?_) rfl (by kernel_rfl) (by kernel_rfl) (by kernel_rfl) (fun _ _ _ h => h) (by decide) ⟨by rfl, ?_⟩ (by assumption) ?_
  rotate_left
  · intro w; go_simp <;> with_reducible rfl
  simp only [Act.put, List.setIfInBounds_toArray, List.set_cons_zero, List.set_cons_succ]
  refine takeD0 23 (v := ?_) rfl (by kernel_rfl) (by kernel_rfl) (by kernel_rfl) (fun _ _ _ h => h) (by decide) (by kernel_rfl) (by kernel_rfl) ⟨by rfl, ?_⟩ (by assumption) ?_
  rotate_left
  · intro w hS; have f1 := (hS.cell (p := ⟨gW, 1, none⟩) hl1).trans q1; have f2 := (hS.cell (p := ⟨gh, i, none⟩) hghl).trans qi; have f3 := (hS.cell (p := ⟨gh, k, none⟩) hghl).trans qk; go_simp <;> with_reducible rfl
  simp only [Act.put, List.setIfInBounds_toArray, List.set_cons_zero, List.set_cons_succ]
  refine takeDA 24 (v := ?_) rfl (by kernel_rfl) (by kernel_rfl) (by kernel_rfl) (fun _ _ _ h => h) (by decide) ⟨by rfl, ?_⟩ (by assumption) ?_
  rotate_left
  · intro w; go_simp <;> with_reducible rfl
  simp only [Act.put, List.setIfInBounds_toArray, List.set_cons_zero, List.set_cons_succ]
  have fz1 := h.h.headfree rfl i
  have fz2 := h.h.headfree rfl k
  obtain ⟨zz, qz⟩ := cell_set_some (p := ⟨gh, i, none⟩) (x := .slice ak n ck) qk
  refine oneM rfl (by kernel_rfl) (of_decide_eq_true (by kernel_rfl)) (by rfl) (fun K hK => ?_)
  go_simp
  refine hK.out _ _ ?_
  clear hK K
  try simp only [Act.put, List.setIfInBounds_toArray, List.set_cons_zero, List.set_cons_succ]
  clear fz1
  refine takeL 26 (v := ?_) rfl (by kernel_rfl) (by kernel_rfl) (by kernel_rfl) (fun _ _ _ h => h) ⟨by rfl, ?_⟩ trivial ?_
  rotate_left
  · intro w _; go_simp <;> with_reducible rfl
  simp only [Act.put, List.setIfInBounds_toArray, List.set_cons_zero, List.set_cons_succ]
  refine oneL 27 rfl (by kernel_rfl) (by rfl) (fun K hK => ?_)
  go_simp
  refine hK.out _ _ trivial (fun _ => ?_)
  clear hK K
  try simp only [Act.put, List.setIfInBounds_toArray, List.set_cons_zero, List.set_cons_succ]
  refine doneL (by kernel_rfl) ?_ _
  have B1 := (B0.setCell (p := ⟨gh, i, none⟩) hgh (.slice ak n ck)).setCell (p := ⟨gh, k, none⟩) hgh (.slice ai n ci)
  replace h := h.swapH hvi hvk
  generalize hw1 : (wd.setCell ⟨gh, i, none⟩ (.slice ak n ck)).setCell ⟨gh, k, none⟩ (.slice ai n ci) = w1 at *
  have hbw1 : base ≤ w1.heap.size := by rw [← hw1]; simpa using hbw
  have hgp1 : gp < w1.heap.size := by rw [← hw1]; simpa using hgpl
  clear q1 qi qk hl1 qz hw1 fz2 hHeld B0 hbw hgpl hghl
  go_upto_region 1 with (fail)
  have bd := Drawn.below (w' := w1.drew) ⟨1, rfl⟩ w1.heap.size
  replace h := h.next bd
  have B2 := B1.trans (bd.mono hbw1)
  have hbw2 : base ≤ w1.drew.heap.size := hbw1
  have hgp2 : gp < w1.drew.heap.size := hgp1
  clear bd B1
  have q1 := h.blk.cell 2
  have qi := h.p.head rfl hi; rw [hui] at qi
  have qk := h.p.head rfl hk; rw [huk] at qk
  have hl1 := h.blk.lt
  refine startD (S := (fun w' => Below (w1.drew).heap.size (w1.drew) w')) 25 (by kernel_rfl) (Below.refl _ _) (fun hHeld => ?_)
  generalize w1.drew = we at *
  refine takeDA 0 (v := ?_) rfl (by kernel_rfl) (by kernel_rfl) (by kernel_rfl) (fun _ _ _ h => h) (by decide) ⟨by rfl, ?_⟩ (by assumption) ?_
  rotate_left
  · intro w; go_simp <;> with_reducible rfl
  simp only [Act.put, List.setIfInBounds_toArray, List.set_cons_zero, List.set_cons_succ]
  refine takeDA 1 (v := ?_) rfl (by kernel_rfl) (by kernel_rfl) (by kernel_rfl) (fun _ _ _ h => h) (by decide) ⟨by rfl, ?_⟩ (by assumption) ?_
  rotate_left
  · intro w; go_simp <;> with_reducible rfl
  simp only [Act.put, List.setIfInBounds_toArray, List.set_cons_zero, List.set_cons_succ]
  refine takeDA 2 (v := ?_) rfl (by kernel_rfl) (by kernel_rfl) (by kernel_rfl) (fun _ _ _ h => h) (by decide) ⟨by rfl, ?_⟩ (by assumption) ?_
  rotate_left
  · intro w; go_simp <;> with_reducible rfl
  simp only [Act.put, List.setIfInBounds_toArray, List.set_cons_zero, List.set_cons_succ]
  refine takeD0 3 (v := ?_) rfl (by kernel_rfl) (by kernel_rfl) (by kernel_rfl) (fun _ _ _ h => h) (by decide) (by kernel_rfl) (by kernel_rfl) ⟨by rfl, ?_⟩ (by assumption) ?_
  rotate_left
  · intro w hS; have f1 := (hS.cell (p := ⟨gW, 2, none⟩) hl1).trans q1; have f2 := (hS.cell (p := ⟨gp, i, none⟩) hgp2).trans qi; have f3 := (hS.cell (p := ⟨gp, k, none⟩) hgp2).trans qk; go_simp <;> with_reducible rfl
  simp only [Act.put, List.setIfInBounds_toArray, List.set_cons_zero, List.set_cons_succ]
  refine takeDA 4 (v := ?_) rfl (by kernel_rfl) (by kernel_rfl) (by kernel_rfl) (fun _ _ _ h => h) (by decide) ⟨by rfl, ?_⟩ (by assumption) ?_
  rotate_left
  · intro w; go_simp <;> with_reducible rfl
  simp only [Act.put, List.setIfInBounds_toArray, List.set_cons_zero, List.set_cons_succ]
  refine takeDA 5 (v := ?_) rfl (by kernel_rfl) (by kernel_rfl) (by kernel_rfl) (fun _ _ _ h => h) (by decide) ⟨by rfl, ?_⟩ (by assumption) ?_
  rotate_left
  · intro w; go_simp <;> with_reducible rfl
  simp only [Act.put, List.setIfInBounds_toArray, List.set_cons_zero, List.set_cons_succ]
  refine takeDA 6 (v := ?_) rfl (by kernel_rfl) (by kernel_rfl) (by kernel_rfl) (fun _ _ _ h => h) (by decide) ⟨by rfl, ?_⟩ (by assumption) ?_
  rotate_left
  · intro w; go_simp <;> with_reducible rfl
  simp only [Act.put, List.setIfInBounds_toArray, List.set_cons_zero, List.set_cons_succ]
  refine takeDA 7 (v := ?_) rfl (by kernel_rfl) (by kernel_rfl) (by kernel_rfl) (fun _ _ _ h => h) (by decide) ⟨by rfl, ?_⟩ (by assumption) ?_
  rotate_left
  · intro w; go_simp <;> with_reducible rfl
  simp only [Act.put, List.setIfInBounds_toArray, List.set_cons_zero, List.set_cons_succ]
  refine takeD0 8 (v := ?_) rfl (by kernel_rfl) (by kernel_rfl) (by kernel_rfl) (fun _ _ _ h => h) (by decide) (by kernel_rfl) (by kernel_rfl) ⟨by rfl, ?_⟩ (by assumption) ?_
  rotate_left
  · intro w hS; have f1 := (hS.cell (p := ⟨gW, 2, none⟩) hl1).trans q1; have f2 := (hS.cell (p := ⟨gp, i, none⟩) hgp2).trans qi; have f3 := (hS.cell (p := ⟨gp, k, none⟩) hgp2).trans qk; go_simp <;> with_reducible rfl
  simp only [Act.put, List.setIfInBounds_toArray, List.set_cons_zero, List.set_cons_succ]
  refine takeDA 9 (v := ?_) rfl (by kernel_rfl) (by kernel_rfl) (by kernel_rfl) (fun _ _ _ h => h) (by decide) ⟨by rfl, ?_⟩ (by assumption) ?_
  rotate_left
  · intro w; go_simp <;> with_reducible rfl
  simp only [Act.put, List.setIfInBounds_toArray, List.set_cons_zero, List.set_cons_succ]
  refine takeDA 10 (v := ?_) rfl (by kernel_rfl) (by kernel_rfl) (by kernel_rfl) (fun _ _ _ h => h) (by decide) ⟨by rfl, ?_⟩ (by assumption) ?_
  rotate_left
  · intro w; go_simp <;> with_reducible rfl
  simp only [Act.put, List.setIfInBounds_toArray, List.set_cons_zero, List.set_cons_succ]
  refine takeDA 11 (v := ?_) rfl (by kernel_rfl) (by kernel_rfl) (by kernel_rfl) (fun _ _ _ h => h) (by decide) ⟨by rfl, ?_⟩ (by assumption) ?_
  rotate_left
  · intro w; go_simp <;> with_reducible rfl
  simp only [Act.put, List.setIfInBounds_toArray, List.set_cons_zero, List.set_cons_succ]
  refine takeDA 12 (v := ?_) rfl (by kernel_rfl) (by kernel_rfl) (by kernel_rfl) (fun _ _ _ h => h) (by decide) ⟨by rfl, ?_⟩ (by assumption) ?_
  rotate_left
  · intro w; go_simp <;> with_reducible rfl
  simp only [Act.put, List.setIfInBounds_toArray, List.set_cons_zero, List.set_cons_succ]
  refine takeD0 13 (v := ?_) rfl (by kernel_rfl) (by kernel_rfl) (by kernel_rfl) (fun _ _ _ h => h) (by decide) (by kernel_rfl) (by kernel_rfl) ⟨by rfl, ?_⟩ (by assumption) ?_
  rotate_left
  · intro w hS; have f1 := (hS.cell (p := ⟨gW, 2, none⟩) hl1).trans q1; have f2 := (hS.cell (p := ⟨gp, i, none⟩) hgp2).trans qi; have f3 := (hS.cell (p := ⟨gp, k, none⟩) hgp2).trans qk; go_simp <;> with_reducible rfl
  simp only [Act.put, List.setIfInBounds_toArray, List.set_cons_zero, List.set_cons_succ]
  refine takeDA 14 (v := ?_) rfl (by kernel_rfl) (by kernel_rfl) (by kernel_rfl) (fun _ _ _ h => h) (by decide) ⟨by rfl, ?_⟩ (by assumption) ?_
  rotate_left
  · intro w; go_simp <;> with_reducible rfl
  simp only [Act.put, List.setIfInBounds_toArray, List.set_cons_zero, List.set_cons_succ]
  refine takeDA 15 (v := ?_) rfl (by kernel_rfl) (by kernel_rfl) (by kernel_rfl) (fun _ _ _ h => h) (by decide) ⟨by rfl, ?_⟩ (by assumption) ?_
  rotate_left
  · intro w; go_simp <;> with_reducible rfl
  simp only [Act.put, List.setIfInBounds_toArray, List.set_cons_zero, List.set_cons_succ]
  refine takeD0 16 (v := ?_) rfl (by kernel_rfl) (by kernel_rfl) (by kernel_rfl) (fun _ _ _ h => h) (by decide) (by kernel_rfl) (by kernel_rfl) ⟨by rfl, ?_⟩ (by assumption) ?_
  rotate_left
  · intro w hS; have f1 := (hS.cell (p := ⟨gW, 2, none⟩) hl1).trans q1; have f2 := (hS.cell (p := ⟨gp, i, none⟩) hgp2).trans qi; have f3 := (hS.cell (p := ⟨gp, k, none⟩) hgp2).trans qk; go_simp <;> with_reducible rfl
  simp only [Act.put, List.setIfInBounds_toArray, List.set_cons_zero, List.set_cons_succ]
  refine takeDA 17 (v := ?_) rfl (by kernel_rfl) (by kernel_rfl) (by kernel_rfl) (fun _ _ _ h => h) (by decide) ⟨by rfl, ?_⟩ (by assumption) ?_
  rotate_left
  · intro w; go_simp <;> with_reducible rfl
  simp only [Act.put, List.setIfInBounds_toArray, List.set_cons_zero, List.set_cons_succ]
  refine takeDA 18 (v := ?_) rfl (by kernel_rfl) (by kernel_rfl) (by kernel_rfl) (fun _ _ _ h => h) (by decide) ⟨by rfl, ?_⟩ (by assumption) ?_
  rotate_left
  · intro w; go_simp <;> with_reducible rfl
  simp only [Act.put, List.setIfInBounds_toArray, List.set_cons_zero, List.set_cons_succ]
  refine takeDA 19 (v := ?_) rfl (by kernel_rfl) (by kernel_rfl) (by kernel_rfl) (fun _ _ _ h => h) (by decide) ⟨by rfl, ?_⟩ (by assumption) ?_
  rotate_left
  · intro w; go_simp <;> with_reducible rfl
  simp only [Act.put, List.setIfInBounds_toArray, List.set_cons_zero, List.set_cons_succ]
  refine takeD0 20 (v := ?_) rfl (by kernel_rfl) (by kernel_rfl) (by kernel_rfl) (fun _ _ _ h => h) (by decide) (by kernel_rfl) (by kernel_rfl) ⟨by rfl, ?_⟩ (by assumption) ?_
  rotate_left
  · intro w hS; have f1 := (hS.cell (p := ⟨gW, 2, none⟩) hl1).trans q1; have f2 := (hS.cell (p := ⟨gp, i, none⟩) hgp2).trans qi; have f3 := (hS.cell (p := ⟨gp, k, none⟩) hgp2).trans qk; go_simp <;> with_reducible rfl
  simp only [Act.put, List.setIfInBounds_toArray, List.set_cons_zero, List.set_cons_succ]
  refine takeDA 21 (v := ?_) rfl (by kernel_rfl) (by kernel_rfl) (by kernel_rfl) (fun _ _ _ h => h) (by decide) ⟨by rfl, ?_⟩ (by assumption) ?_
  rotate_left
  · intro w; go_simp <;> with_reducible rfl
  simp only [Act.put, List.setIfInBounds_toArray, List.set_cons_zero, List.set_cons_succ]
  refine takeDA 22 (v := ?_) rfl (by kernel_rfl) (by kernel_rfl) (by kernel_rfl) (fun _ _ _ h => h) (by decide) ⟨by rfl, ?_⟩ (by assumption) ?_
  rotate_left
  · intro w; go_simp <;> with_reducible rfl
  simp only [Act.put, List.setIfInBounds_toArray, List.set_cons_zero, List.set_cons_succ]
  refine takeD0 23 (v := ?_) rfl (by kernel_rfl) (by kernel_rfl) (by kernel_rfl) (fun _ _ _ h => h) (by decide) (by kernel_rfl) (by kernel_rfl) ⟨by rfl, ?_⟩ (by assumption) ?_
  rotate_left
  · intro w hS; have f1 := (hS.cell (p := ⟨gW, 2, none⟩) hl1).trans q1; have f2 := (hS.cell (p := ⟨gp, i, none⟩) hgp2).trans qi; have f3 := (hS.cell (p := ⟨gp, k, none⟩) hgp2).trans qk; go_simp <;> with_reducible rfl
  simp only [Act.put, List.setIfInBounds_toArray, List.set_cons_zero, List.set_cons_succ]
  refine takeDA 24 (v := ?_) rfl (by kernel_rfl) (by kernel_rfl) (by kernel_rfl) (fun _ _ _ h => h) (by decide) ⟨by rfl, ?_⟩ (by assumption) ?_
  rotate_left
  · intro w; go_simp <;> with_reducible rfl
  simp only [Act.put, List.setIfInBounds_toArray, List.set_cons_zero, List.set_cons_succ]
  have fz1 := h.p.headfree rfl i
  have fz2 := h.p.headfree rfl k
  obtain ⟨zz, qz⟩ := cell_set_some (p := ⟨gp, i, none⟩) (x := .slice ak' n ck') qk
  refine oneM rfl (by kernel_rfl) (of_decide_eq_true (by kernel_rfl)) (by rfl) (fun K hK => ?_)
  go_simp
  refine hK.out _ _ ?_
  clear hK K
  try simp only [Act.put, List.setIfInBounds_toArray, List.set_cons_zero, List.set_cons_succ]
  clear fz1
  refine takeL 26 (v := ?_) rfl (by kernel_rfl) (by kernel_rfl) (by kernel_rfl) (fun _ _ _ h => h) ⟨by rfl, ?_⟩ trivial ?_
  rotate_left
  · intro w _; go_simp <;> with_reducible rfl
  simp only [Act.put, List.setIfInBounds_toArray, List.set_cons_zero, List.set_cons_succ]
  refine oneL 27 rfl (by kernel_rfl) (by rfl) (fun K hK => ?_)
  go_simp
  refine hK.out _ _ trivial (fun _ => ?_)
  clear hK K
  try simp only [Act.put, List.setIfInBounds_toArray, List.set_cons_zero, List.set_cons_succ]
  refine doneL (by kernel_rfl) ?_ _
  have B3 := (B2.setCell (p := ⟨gp, i, none⟩) hgp (.slice ak' n ck')).setCell (p := ⟨gp, k, none⟩) hgp (.slice ai' n ci')
  replace h := h.swapP hui huk
  generalize hw2 : (we.setCell ⟨gp, i, none⟩ (.slice ak' n ck')).setCell ⟨gp, k, none⟩ (.slice ai' n ci') = w2 at *
  have hbw3 : base ≤ w2.heap.size := by rw [← hw2]; simpa using hbw2
  clear q1 qi qk hl1 qz hw2 fz2 hHeld hvi hvk hui huk hgp1 hgp2 B2
  have q1 := h.blk.cell 1
  generalize ehs : (hs.set i (.slice ak n ck)).set k (.slice ai n ci) = hs1 at *
  generalize eps : (ps.set i (.slice ak' n ck')).set k (.slice ai' n ci') = ps1 at *
  clear ehs eps
  obtain ⟨S, eS⟩ : ∃ S, S = swpA H i k := ⟨_, rfl⟩
  rw [← eS] at h
  have HS := Lib.hid eS; clear eS
  have st : HkTo p w base gW n (fun a b => if a < 0 then S a (tsp i k b) else S a b) (swpA P i k) (.slice (some ⟨gh, 0, none⟩) n ch) (.slice (some ⟨gp, 0, none⟩) n cp) w2 := ⟨_, _, h.congr (fun a b _ _ => by rw [if_neg (by omega)]) (fun _ _ _ _ => rfl), B3⟩
  clear h B3
  go_wp2
  clear q1
  go_loopw [65] (fun rv wr => ∃ r : Nat, r ≤ n ∧ rv = .int .i64 r ∧ HkTo p w base gW n (fun a b => if a < r then S a (tsp i k b) else S a b) (swpA P i k) (.slice (some ⟨gh, 0, none⟩) n ch) (.slice (some ⟨gp, 0, none⟩) n cp) wr) (fun rv _ => n - (intOf rv).toNat)
  case atStart => exact ⟨0, by omega, rfl, st⟩
  case round =>
    clear st hbw3
    obtain ⟨r, hr, rfl, hs2, ps2, h, B0⟩ := hrel
    by_cases hrn : r < n
    · obtain ⟨v, hv⟩ := h.h.hdr hrn
      have qr := h.h.head rfl hrn; rw [hv] at qr
      obtain ⟨ao, cr, rfl, hcr⟩ := (h.h.row r v hv).slice
      obtain ⟨b, o, rfl⟩ := h.h.ao hv (by omega)
      have hbw : base ≤ wr.heap.size := Nat.le_trans hbase B0.size
      go_upto_region 5 with (fail)
      have bd := Drawn.below (w' := wr.drew) ⟨1, rfl⟩ wr.heap.size
      replace h := h.next bd
      replace B0 := B0.trans (bd.mono hbw)
      clear bd
      obtain ⟨⟨x, q1, hx⟩, f1, b1, s1⟩ := h.h.at hv hi
      obtain ⟨⟨y, q2, hy⟩, f2, b2, s2⟩ := h.h.at hv hk
      have hx : x = .int .u64 ((S r i).val : Nat) := by rw [hx, if_neg (by omega)]
      have hy : y = .int .u64 ((S r k).val : Nat) := by rw [hy, if_neg (by omega)]
      subst hx hy
      refine startD (S := (fun w' => Below (wr.drew).heap.size (wr.drew) w')) 13 (by kernel_rfl) (Below.refl _ _) (fun hHeld => ?_)
      generalize wr.drew = wd at *
      refine takeDA 0 (v := ?_) rfl (by kernel_rfl) (by kernel_rfl) (by kernel_rfl) (fun _ _ _ h => h) (by decide) ⟨by rfl, ?_⟩ (by assumption) ?_
      rotate_left
      · intro w; go_simp <;> with_reducible rfl
      simp only [Act.put, List.setIfInBounds_toArray, List.set_cons_zero, List.set_cons_succ]
      refine takeDA 1 (v := ?_) rfl (by kernel_rfl) (by kernel_rfl) (by kernel_rfl) (fun _ _ _ h => h) (by decide) ⟨by rfl, ?_⟩ (by assumption) ?_
      rotate_left
      · intro w; go_simp <;> with_reducible rfl
      simp only [Act.put, List.setIfInBounds_toArray, List.set_cons_zero, List.set_cons_succ]
      refine takeDA 2 (v := ?_) rfl (by kernel_rfl) (by kernel_rfl) (by kernel_rfl) (fun _ _ _ h => h) (by decide) ⟨by rfl, ?_⟩ (by assumption) ?_
      rotate_left
      · intro w; go_simp <;> with_reducible rfl
      simp only [Act.put, List.setIfInBounds_toArray, List.set_cons_zero, List.set_cons_succ]
      refine takeDA 3 (v := ?_) rfl (by kernel_rfl) (by kernel_rfl) (by kernel_rfl) (fun _ _ _ h => h) (by decide) ⟨by rfl, ?_⟩ (by assumption) ?_
      rotate_left
      · intro w; go_simp <;> with_reducible rfl
      simp only [Act.put, List.setIfInBounds_toArray, List.set_cons_zero, List.set_cons_succ]
      refine takeDA 4 (v := ?_) rfl (by kernel_rfl) (by kernel_rfl) (by kernel_rfl) (fun _ _ _ h => h) (by decide) ⟨by rfl, ?_⟩ (by assumption) ?_
      rotate_left
      · intro w; go_simp <;> with_reducible rfl
      simp only [Act.put, List.setIfInBounds_toArray, List.set_cons_zero, List.set_cons_succ]
      refine takeDA 5 (v := ?_) rfl (by kernel_rfl) (by kernel_rfl) (by kernel_rfl) (fun _ _ _ h => h) (by decide) ⟨by rfl, ?_⟩ (by assumption) ?_
      rotate_left
      · intro w; go_simp <;> with_reducible rfl
      simp only [Act.put, List.setIfInBounds_toArray, List.set_cons_zero, List.set_cons_succ]
      refine takeDA 6 (v := ?_) rfl (by kernel_rfl) (by kernel_rfl) (by kernel_rfl) (fun _ _ _ h => h) (by decide) ⟨by rfl, ?_⟩ (by assumption) ?_
      rotate_left
      · intro w; go_simp <;> with_reducible rfl
      simp only [Act.put, List.setIfInBounds_toArray, List.set_cons_zero, List.set_cons_succ]
      refine takeD0 7 (v := ?_) rfl (by kernel_rfl) (by kernel_rfl) (by kernel_rfl) (fun _ _ _ h => h) (by decide) (by kernel_rfl) (by kernel_rfl) ⟨by rfl, ?_⟩ (by assumption) ?_
      rotate_left
      · intro w hS; have f3 := (hS.cell (p := ⟨b, o + i, none⟩) s1).trans q1; have f4 := (hS.cell (p := ⟨b, o + k, none⟩) s2).trans q2; go_simp <;> with_reducible rfl
      simp only [Act.put, List.setIfInBounds_toArray, List.set_cons_zero, List.set_cons_succ]
      refine takeDA 8 (v := ?_) rfl (by kernel_rfl) (by kernel_rfl) (by kernel_rfl) (fun _ _ _ h => h) (by decide) ⟨by rfl, ?_⟩ (by assumption) ?_
      rotate_left
      · intro w; go_simp <;> with_reducible rfl
      simp only [Act.put, List.setIfInBounds_toArray, List.set_cons_zero, List.set_cons_succ]
      refine takeDA 9 (v := ?_) rfl (by kernel_rfl) (by kernel_rfl) (by kernel_rfl) (fun _ _ _ h => h) (by decide) ⟨by rfl, ?_⟩ (by assumption) ?_
      rotate_left
      · intro w; go_simp <;> with_reducible rfl
      simp only [Act.put, List.setIfInBounds_toArray, List.set_cons_zero, List.set_cons_succ]
      refine takeDA 10 (v := ?_) rfl (by kernel_rfl) (by kernel_rfl) (by kernel_rfl) (fun _ _ _ h => h) (by decide) ⟨by rfl, ?_⟩ (by assumption) ?_
      rotate_left
      · intro w; go_simp <;> with_reducible rfl
      simp only [Act.put, List.setIfInBounds_toArray, List.set_cons_zero, List.set_cons_succ]
      refine takeD0 11 (v := ?_) rfl (by kernel_rfl) (by kernel_rfl) (by kernel_rfl) (fun _ _ _ h => h) (by decide) (by kernel_rfl) (by kernel_rfl) ⟨by rfl, ?_⟩ (by assumption) ?_
      rotate_left
      · intro w hS; have f3 := (hS.cell (p := ⟨b, o + i, none⟩) s1).trans q1; have f4 := (hS.cell (p := ⟨b, o + k, none⟩) s2).trans q2; go_simp <;> with_reducible rfl
      simp only [Act.put, List.setIfInBounds_toArray, List.set_cons_zero, List.set_cons_succ]
      refine takeDA 12 (v := ?_) rfl (by kernel_rfl) (by kernel_rfl) (by kernel_rfl) (fun _ _ _ h => h) (by decide) ⟨by rfl, ?_⟩ (by assumption) ?_
      rotate_left
      · intro w; go_simp <;> with_reducible rfl
      simp only [Act.put, List.setIfInBounds_toArray, List.set_cons_zero, List.set_cons_succ]
      have fz1 := f1
      have fz2 := f2
      obtain ⟨zz, qz⟩ := cell_set_some (p := ⟨b, o + i, none⟩) (x := .int .u64 ((S r k).val : Nat)) q2
      refine oneM rfl (by kernel_rfl) (of_decide_eq_true (by kernel_rfl)) (by rfl) (fun K hK => ?_)
      go_simp
      refine hK.out _ _ ?_
      clear hK K
      try simp only [Act.put, List.setIfInBounds_toArray, List.set_cons_zero, List.set_cons_succ]
      clear fz1
      refine takeL 14 (v := ?_) rfl (by kernel_rfl) (by kernel_rfl) (by kernel_rfl) (fun _ _ _ h => h) ⟨by rfl, ?_⟩ trivial ?_
      rotate_left
      · intro w _; go_simp <;> with_reducible rfl
      simp only [Act.put, List.setIfInBounds_toArray, List.set_cons_zero, List.set_cons_succ]
      refine oneL 15 rfl (by kernel_rfl) (by rfl) (fun K hK => ?_)
      go_simp
      refine hK.out _ _ trivial (fun _ => ?_)
      clear hK K
      try simp only [Act.put, List.setIfInBounds_toArray, List.set_cons_zero, List.set_cons_succ]
      refine doneL (by kernel_rfl) ?_ _
      have h1 := h.storeH hv hi (x := S r k) (z := ((S r k).val : Nat)) rfl
      have h2 := h1.storeH hv hk (x := S r i) (z := ((S r i).val : Nat)) rfl
      have B1 := (B0.setCell (p := ⟨b, o + i, none⟩) b1 (.int .u64 ((S r k).val : Nat))).setCell (p := ⟨b, o + k, none⟩) b1 (.int .u64 ((S r i).val : Nat))
      have st := Lib.hid (show HkTo p w base gW n (fun a b => if a < r + 1 then S a (tsp i k b) else S a b) (swpA P i k) (.slice (some ⟨gh, 0, none⟩) n ch) (.slice (some ⟨gp, 0, none⟩) n cp) ((wd.setCell ⟨b, o + i, none⟩ (.int .u64 ((S r k).val : Nat))).setCell ⟨b, o + k, none⟩ (.int .u64 ((S r i).val : Nat))) from
        ⟨_, _, h2.congr (fun a c _ _ => by
          unfold updE tsp; dsimp only
          by_cases h1 : a = r
          · subst h1
            rw [if_pos (show a < a + 1 by omega), if_neg (show ¬ a < a by omega)]
            by_cases h3 : c = k
            · subst h3
              rw [if_pos ⟨rfl, rfl⟩]
              split
              · rename_i h4; rw [h4]
              · rw [if_pos rfl]
            · rw [if_neg (fun h => h3 h.2), if_neg h3]
              by_cases h4 : c = i
              · rw [if_pos ⟨rfl, h4⟩, if_pos h4]
              · rw [if_neg (fun h => h4 h.2), if_neg h4]
          · rw [if_neg (fun h => h1 h.1), if_neg (fun h => h1 h.1)]
            by_cases h5 : a < r
            · rw [if_pos h5, if_pos (show a < r + 1 by omega)]
            · rw [if_neg h5, if_neg (show ¬ a < r + 1 by omega)]) (fun _ _ _ _ => rfl), B1⟩)
      clear h h1 h2 B0 B1 q1 q2 qz f1 f2 s1 s2 b1 b2 hHeld fz2 hv hbw
      go_wp2
      go_roundw
      case rel => exact ⟨r + 1, by omega, by go_num, st.out⟩
      case measure => simp [intOf] <;> omega
    · obtain rfl : r = n := by omega
      go_wp2
      go_end0
      exact ⟨rfl, _, _, h.congr (fun a b ha _ => by
        show (if a < r then S a (tsp i k b) else S a b) = H (tsp i k a) (tsp i k b)
        rw [if_pos ha, HS.out]; unfold swpA
        show (if a = i then H k else if a = k then H i else H a) (tsp i k b) = H (if a = i then k else if a = k then i else a) (tsp i k b)
        split
        · rfl
        · split <;> rfl) (fun a b _ _ => by
        show (if a = i then P k else if a = k then P i else P a) b = P (if a = i then k else if a = k then i else a) b
        split
        · rfl
        · split <;> rfl), B0⟩

end Go.Proofs.Ythghdjpjbngllaa
