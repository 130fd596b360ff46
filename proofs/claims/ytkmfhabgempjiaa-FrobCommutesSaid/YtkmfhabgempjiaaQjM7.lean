/- fmat.work: reduction by a column. -/
import Derived.ChangeSame
import Derived.Lib.SmallJoins
import Derived.Test.YtkmfhabgempjiaaQjM6
import Derived.Test.YtkmfhabgempjiaaQjM2
import Derived.Test.YtkmfhabgempjiaaQjM5
import Derived.Test.YtkmfhabgempjiaaQjM1
import Derived.Test.YtkmfhabgempjiaaQjM3
namespace Go.Proofs.Ytkmfhabgempjiaa
set_option maxHeartbeats 4000000
open Go.RowKit
def ColR {p : Nat} (n : Nat) (W : Nat → Nat → Zp p) (P : List Nat) (d : Zp p) (col : Nat) (W' : Nat → Nat → Zp p) (P' : List Nat) (d' : Zp p) : Prop :=
 (W' = W ∧ P' = P ∧ d' = d ∧ ∀ i, P.length ≤ i → i < n → W i col = 0) ∨
 ∃ i c, P.length ≤ i ∧ i < n ∧ W i col * c = 1 ∧ W' = elm W P.length i col c ∧ P' = P ++ [col] ∧ d' = (if i = P.length then d else -d) * W i col
theorem ColR.red {p n m col : Nat} {W0 W W' : Nat → Nat → Zp p} {P P' : List Nat} {d d' : Zp p} (h : RedI n m col W0 W P d) (k : ColR n W P d col W' P' d') : RedI n m (col + 1) W0 W' P' d' := by
 rcases k with ⟨rfl, rfl, rfl, h0⟩ | ⟨i, c, h1, h2, h3, rfl, rfl, rfl⟩
 ·exact h.none h0
 ·exact h.step h1 h2 h3
theorem Rws.kept {α : Type} {V : World → Value → α → Prop} {e er eo : TypeId} {w w' : World} {base b1 n N n0 : Nat} {rv v0 : Value} {vs xs0 : List Value} {W : Nat → Nat → α} (h : Rws V e er w base rv vs n N W) (ho : w.ownsRow b1 eo 1 v0 n0 xs0) (hg : w.grownBy w' v0.ownBlock)
  (he : eo ≠ e) (her : eo ≠ er) (hV : ∀ u x, V w u x → V w' u x) : Rws V e er w' base rv vs n N W := by
 refine ⟨h.len, World.ownsRow.kept h.own hg ?_, fun i v hv => (h.row i v hv).kept hg hV (fun b cur hb => rowOwn_ne ho hb he), h.sep⟩
 rcases h.own.2 with ⟨h1, _⟩ | ⟨g, cap, cur, h1, _, h2, _⟩
 ·left; rw [h1]; rfl
 ·right
  intro e
  rw [h1] at e
  exact rowOwn_ne ho h2 her e.symm
theorem zp0 {p : Nat} {x : Zp p} (h : x.val = 0) : x = 0 := Zp.ext (by rw [h, Zp.zero_val])
def ColCut (p : Nat) (w wx : World) (base gW n N : Nat) (W : Nat → Nat → Zp p) (P : List Nat) (d : Zp p) (rv pv : Value) (g col i : Nat) : Prop :=
 ∃ vs1, Wk p wx base gW n N (swp W P.length i) P (if i = P.length then d else -d) rv pv vs1 ∧ Blk 3 wx g [.int .i64 col] ∧ Below base w wx ∧ g < wx.heap.size
theorem Wk.swap {p : Nat} {w : World} {base gW n N : Nat} {W : Nat → Nat → Zp p} {P : List Nat} {d : Zp p} {pv : Value} {vs : List Value} {gr cr i j : Nat} {u v : Value} (h : Wk p w base gW n N W P d (.slice (some ⟨gr, 0, none⟩) n cr) pv vs) (hu : vs[i]? = some u) (hv : vs[j]? = some v) :
  Wk p ((w.setCell ⟨gr, i, none⟩ v).setCell ⟨gr, j, none⟩ u) base gW n N (swp W i j) P d (.slice (some ⟨gr, 0, none⟩) n cr) pv ((vs.set i v).set j u) := by
 obtain ⟨cur, hc⟩ := h.rows.cellH rfl
 have hne : gW ≠ gr := by
  intro e
  have := h.blk
  unfold Blk at this
  rw [e, hc] at this
  simp at this
 have hc2 := heap_setCell_same w gr i cur 41 v hc
 exact ⟨(h.blk.far (a := ⟨gr, i, none⟩) hne v).far (a := ⟨gr, j, none⟩) hne u, h.gw, h.rows.swap (by decide) rfl hu hv (fun _ _ _ _ _ _ _ _ h => h),
  ownsRow_setCell_other (ownsRow_setCell_other h.piv (rowOwn_ne h.piv hc (by decide)) _) (rowOwn_ne (ownsRow_setCell_other h.piv (rowOwn_ne h.piv hc (by decide)) _) hc2 (by decide)) _⟩
theorem Wk.det {p : Nat} {w : World} {base gW n N : Nat} {W : Nat → Nat → Zp p} {P : List Nat} {d : Zp p} {rv pv : Value} {vs : List Value} (h : Wk p w base gW n N W P d rv pv vs) {d' : Zp p} {z : Int} (hz : z = (d'.val : Nat)) :
  Wk p (w.setCell ⟨gW, 3, none⟩ (.int .u64 z)) base gW n N W P d' rv pv vs := by
 subst hz
 have hb : w.heap[gW]? = some (.cells (([.int .u64 (p : Int), rv, pv, .int .u64 (d.val : Nat)] : List Value).toArray) 136 (0, 0)) := h.blk
 exact ⟨h.blk.set 3 _, h.gw, h.rows.far (a := ⟨gW, 3, none⟩) hb (by decide) (by decide) (fun _ _ h => h), ownsRow_setCell_other h.piv (rowOwn_ne h.piv hb (by decide)) _⟩
theorem Wk.push {p : Nat} {w w' : World} {base gW n N : Nat} {W : Nat → Nat → Zp p} {P : List Nat} {d : Zp p} {rv pv : Value} {hs : List Value} (h : Wk p w base gW n N W P d rv pv hs) {gg cap col : Nat} (hg : w.grownBy w' pv.ownBlock)
  (ho : w'.ownsRow base 3 1 (.slice (some ⟨gg, 0, none⟩) (P.length + 1) cap) (P.length + 1) (vs .i64 P ++ [.int .i64 (col : Nat)])) :
  Wk p (w'.setCell ⟨gW, 2, none⟩ (.slice (some ⟨gg, 0, none⟩) (P.length + 1) cap)) base gW n N W (P ++ [col]) d rv (.slice (some ⟨gg, 0, none⟩) (P.length + 1) cap) hs := by
 have hb := h.blk.kept hg (rowOwn_ne h.piv h.blk (by decide))
 have hb' : w'.heap[gW]? = some (.cells (([.int .u64 (p : Int), rv, pv, .int .u64 (d.val : Nat)] : List Value).toArray) 136 (0, 0)) := hb
 have hr := h.rows.kept h.piv hg (by decide) (by decide) (fun _ _ h => h)
 refine ⟨hb.set 2 _, h.gw, hr.far (a := ⟨gW, 2, none⟩) hb' (by decide) (by decide) (fun _ _ h => h), ?_⟩
 have := ownsRow_setCell_other ho (a := ⟨gW, 2, none⟩) (rowOwn_ne ho hb' (by decide)) (.slice (some ⟨gg, 0, none⟩) (P.length + 1) cap)
 unfold Own
 rw [vs_append, List.length_append]
 exact this
def SclR (p : Nat) (w wr : World) (base gW n N : Nat) (S : Nat → Nat → Zp p) (P : List Nat) (d : Zp p) (rv pv : Value) (vs : List Value) (g col top : Nat) (C : Zp p) (k : Nat) : Prop :=
 Wk p wr base gW n N (fun a j => if a = top ∧ j < k then S a j * C else S a j) P d rv pv vs ∧ Blk 3 wr g [.int .i64 col] ∧ Below base w wr
def TksR (p : Nat) (w wr : World) (base gW n N : Nat) (B : Nat → Nat → Zp p) (P : List Nat) (d : Zp p) (rv pv : Value) (vs : List Value) (g col top r : Nat) : Prop :=
 Wk p wr base gW n N (fun a j => if a ≠ top ∧ a < r then B a j - B a col * B top j else B a j) P d rv pv vs ∧ Blk 3 wr g [.int .i64 col] ∧ Below base w wr
def ColPost (p : Nat) (w : World) (base gW n N : Nat) (W : Nat → Nat → Zp p) (P : List Nat) (d : Zp p) (col : Nat) (e : Ending) (w' : World) : Prop :=
 e = .returned (.tuple #[]) ∧ ∃ W' P' d' rv' pv' vs', Wk p w' base gW n N W' P' d' rv' pv' vs' ∧ ColR n W P d col W' P' d' ∧ Below base w w'
set_option maxRecDepth 20000 in
theorem fw_column (p : Nat) (w : World) (hp : FP p) (ht : Trial p) (base gW n N : Nat) (W : Nat → Nat → Zp p) (P : List Nat) (d : Zp p) (rv pv : Value) (vs : List Value) (h : Wk p w base gW n N W P d rv pv vs)
  (col : Nat) (hcol : col < N) (hP : P.length < n) (hn : n ≤ 1000) (hN : N ≤ 1000) (hbase : base ≤ w.heap.size) :
  Calls Try.prog 144 #[.pointer (some ⟨gW, 0, none⟩), .int .i64 col] w (ColPost p w base gW n N W P d col) := by
 have HP := Lib.hid hp; clear hp
 have HTR := Lib.hid ht; clear ht
 obtain ⟨top, etop⟩ : ∃ top, top = P.length := ⟨_, rfl⟩
 rw [← etop] at hP
 obtain ⟨wb, ew, KC, B0, hsz⟩ := boxes1 w 3 [.int .i64 col]
 clear hsz
 have hpiv0 := h.piv
 have hblk0 := h.blk
 replace h := h.next B0
 obtain ⟨gr, cr, er, hgr, hgrl, hncr⟩ : ∃ g cap, rv = .slice (some ⟨g, 0, none⟩) n cap ∧ base ≤ g ∧ g < wb.heap.size ∧ n ≤ cap := by
  rcases h.rows.shape with ⟨_, h0⟩ | h0
  ·omega
  ·exact h0
 obtain ⟨pa, pc, epv⟩ := h.piv.sliced
 have hrows : ∀ (j : Nat) (u : Value), (vs.drop top)[j]? = some u → wb.cell? ⟨gr, top + j, none⟩ = some u := by
  intro j u hj
  rw [List.getElem?_drop] at hj
  have hlt : top + j < n := by rw [← h.rows.len]; exact (List.getElem?_eq_some_iff.1 hj).1
  rw [h.rows.head er hlt]; exact hj
 obtain ⟨β, eβ⟩ : ∃ β : Nat → Bool, β = fun j => decide ((W (top + j) col).val ≠ 0) := ⟨_, rfl⟩
 obtain ⟨g, eg⟩ : ∃ g, g = w.heap.size := ⟨_, rfl⟩
 rw [← eg] at KC
 have hfun : ∀ (j : Nat) (u : Value), (vs.drop top)[j]? = some u → Calls Try.prog 169 (u :: [.pointer (some ⟨g, 0, none⟩)]).toArray wb (fun e w' => e = .returned (.bool (β j)) ∧ wb = w') := by
  intro j u hj
  rw [List.getElem?_drop] at hj
  obtain ⟨ao, cp, rfl, -⟩ := (h.rows.row _ u hj).slice
  obtain ⟨b, o, rfl⟩ := h.rows.ao hj (by omega)
  obtain ⟨⟨u, q1, rfl⟩, -⟩ := h.rows.at hj hcol
  exact fw_column1 g wb b o N cp col _ (KC.cell 0) hcol q1 _ (by rw [eβ])
 obtain ⟨R, hR⟩ := IxR.ex β (n - top)
 have HT := Lib.hid etop; have HRW := Lib.hid hrows; have HFN := Lib.hid hfun; have HBE := Lib.hid eβ; have HRR := Lib.hid hR
 have HEG := Lib.hid eg
 have hpg : pv.ownBlock ≠ some g := fun e => by have := (World.ownsRow.lt hpiv0 g e).2; omega
 have HPG := Lib.hid hpg; clear hpg
 have HGW := Lib.hid (show gW < g by have := hblk0.lt; omega)
 have hdl : (vs.drop top).length = n - top := by rw [List.length_drop, h.rows.len]
 have HDL := Lib.hid hdl
 subst er epv
 rw [← etop] at h
 have hggr : g ≠ gr := by
  obtain ⟨cur, hc⟩ := h.rows.cellH rfl
  intro e
  have hk := KC
  unfold Blk at hk
  rw [e, hc] at hk
  simp at hk
 clear etop hrows hfun eβ hR hdl
 have q0 := h.blk.cell 0; have q1 := h.blk.cell 1; have q2 := h.blk.cell 2; have q3 := h.blk.cell 3
 have htc : top < cr := by omega
 go_enter Try.func144, Try.ntmps144
 go_upto_region 1 with (fail)
 rw [← ew]
 clear ew eg
 go_wp2_with fail
 rw [← HEG.out]
 refine (ixf_rows 169 (enters_of Try.func169 rfl rfl) [.pointer (some ⟨g, 0, none⟩)] gr top (n - top) (cr - top) (vs.drop top) wb HDL.out (by omega) HRW.out β HFN.out R HRR.out).mono ?_; rintro e w' ⟨rfl, rfl⟩
 rcases HRR.out with ⟨j, rfl, hj, h1, -⟩ | ⟨rfl, h2⟩
 rotate_left
 ·have HZ := Lib.hid (show ∀ i, P.length ≤ i → i < n → W i col = 0 from fun i h3 h4 => by
   have := h2 (i - top) (by omega)
   rw [HBE.out] at this
   have := of_decide_eq_false this
   rw [show top + (i - top) = i by have := HT.out; omega] at this
   exact zp0 (Classical.byContradiction this))
  clear h2
  go_wp2
  go_end0
  exact ⟨rfl, _, _, _, _, _, _, h, .inl ⟨rfl, rfl, rfl, HZ.out⟩, B0.mono hbase⟩
 obtain ⟨i, ei⟩ : ∃ i, i = top + j := ⟨_, rfl⟩
 have hin : i < n := by omega
 have hi0 : (W i col).val ≠ 0 := by
  rw [HBE.out] at h1
  rw [ei]; exact of_decide_eq_true h1
 have HI0 := Lib.hid hi0
 clear h1 hi0
 have hs1 : IntKind.i64.wrap ((top : Int) + (j : Int)) = ((i : Nat) : Int) := by rw [ei, ← Int.natCast_add]; exact IntWalk.i64_in _ ⟨by omega, by omega⟩
 have hs2 : (top : Int) + (j : Int) = (i : Int) := by omega
 have HS1 := Lib.hid hs1; have HS2 := Lib.hid hs2; have HEI := Lib.hid ei
 clear hs1 hs2
 go_upto_if 27 with (fail)
 go_cut [] (fun wx => ColCut p w wx base gW n N W P d (.slice (some ⟨gr, 0, none⟩) n cr) (.slice pa top pc) g col i)
 case first =>
  by_cases hj0 : j = 0
  ·have hz : ((j : Int) > 0) = False := by simp; omega
   have st := Lib.hid (show ColCut p w wb base gW n N W P d (.slice (some ⟨gr, 0, none⟩) n cr) (.slice pa top pc) g col i from ⟨vs, by
    have e : i = P.length := by have := HEI.out; have := HT.out; omega
    rw [e, swp_self, if_pos rfl]; exact h, KC, B0.mono hbase, KC.lt⟩)
   subst hj0
   clear h hz
   go_wp2
   go_meet
   exact st.out
  ·have hjp : (j : Int) > 0 := by omega
   obtain rfl := HEI.out
   have hti : top < top + j := by omega
   go_upto_region 5 with (fail)
   have bd := dw wb
   replace h := h.next bd
   replace KC := KC.next bd
   replace B0 := B0.trans (bd.mono B0.size)
   clear bd q0 q1 q2 q3 hj0
   obtain ⟨u, hu⟩ := h.rows.hdr hP
   obtain ⟨v, hv⟩ := h.rows.hdr hin
   have q1 := h.blk.cell 1
   have qt := h.rows.head rfl hP; rw [hu] at qt
   have qi := h.rows.head rfl hin; rw [hv] at qi
   have hl1 := h.blk.lt
   have hl2 : gr < wb.drew.heap.size := (Array.getElem?_eq_some_iff.1 (h.rows.cellH rfl).choose_spec).1
   have HU := Lib.hid hu; have HV := Lib.hid hv
   obtain ⟨au, cu, eu, -⟩ := (h.rows.row _ u hu).slice
   obtain ⟨av, cv, ev, -⟩ := (h.rows.row _ v hv).slice
   subst eu ev
   clear hu hv
   have k0 : 0 ≤ (top : Int) + (j : Int) := by omega
   have k1 : (top : Int) + (j : Int) < (n : Int) := by have := HS2.out; omega
   have k2 : ((top : Int) + (j : Int)).toNat = top + j := by omega
   have k3 : IntKind.i64.wrap ((top : Int) + (j : Int)) = (top : Int) + (j : Int) := IntWalk.i64_in _ ⟨by omega, by omega⟩
   refine startD (S := (fun w' => Below (wb.drew).heap.size (wb.drew) w')) 29 (by kernel_rfl) (Below.refl _ _) (fun hHeld => ?_)
   generalize wb.drew = wd at *
   refine takeDA 0 (v := ?_) rfl (by kernel_rfl) (by kernel_rfl) (by kernel_rfl) (fun _ _ _ h => h) (by decide) ⟨by rfl, ?_⟩ (by assumption) ?_
   rotate_left
   ·intro w; go_simp <;> with_reducible rfl
   simp only [Act.put, zq1, zq2, zq3]
   refine takeDA 1 (v := ?_) rfl (by kernel_rfl) (by kernel_rfl) (by kernel_rfl) (fun _ _ _ h => h) (by decide) ⟨by rfl, ?_⟩ (by assumption) ?_
   rotate_left
   ·intro w; go_simp <;> with_reducible rfl
   simp only [Act.put, zq1, zq2, zq3]
   refine takeDA 2 (v := ?_) rfl (by kernel_rfl) (by kernel_rfl) (by kernel_rfl) (fun _ _ _ h => h) (by decide) ⟨by rfl, ?_⟩ (by assumption) ?_
   rotate_left
   ·intro w; go_simp <;> with_reducible rfl
   simp only [Act.put, zq1, zq2, zq3]
   refine takeD0 3 (v := ?_) rfl (by kernel_rfl) (by kernel_rfl) (by kernel_rfl) (fun _ _ _ h => h) (by decide) (by kernel_rfl) (by kernel_rfl) ⟨by rfl, ?_⟩ (by assumption) ?_
   rotate_left
   ·intro w hS; have f1 := (hS.cell (p := ⟨gW, 1, none⟩) hl1).trans q1; have f2 := (hS.cell (p := ⟨gr, top + j, none⟩) hl2).trans qi; have f3 := (hS.cell (p := ⟨gr, top, none⟩) hl2).trans qt; go_simp <;> with_reducible rfl
   simp only [Act.put, zq1, zq2, zq3]
   refine takeDA 4 (v := ?_) rfl (by kernel_rfl) (by kernel_rfl) (by kernel_rfl) (fun _ _ _ h => h) (by decide) ⟨by rfl, ?_⟩ (by assumption) ?_
   rotate_left
   ·intro w; go_simp <;> with_reducible rfl
   simp only [Act.put, zq1, zq2, zq3]
   refine takeDA 5 (v := ?_) rfl (by kernel_rfl) (by kernel_rfl) (by kernel_rfl) (fun _ _ _ h => h) (by decide) ⟨by rfl, ?_⟩ (by assumption) ?_
   rotate_left
   ·intro w; go_simp <;> with_reducible rfl
   simp only [Act.put, zq1, zq2, zq3]
   refine takeDA 6 (v := ?_) rfl (by kernel_rfl) (by kernel_rfl) (by kernel_rfl) (fun _ _ _ h => h) (by decide) ⟨by rfl, ?_⟩ (by assumption) ?_
   rotate_left
   ·intro w; go_simp <;> with_reducible rfl
   simp only [Act.put, zq1, zq2, zq3]
   refine takeDA 7 (v := ?_) rfl (by kernel_rfl) (by kernel_rfl) (by kernel_rfl) (fun _ _ _ h => h) (by decide) ⟨by rfl, ?_⟩ (by assumption) ?_
   rotate_left
   ·intro w; go_simp <;> with_reducible rfl
   simp only [Act.put, zq1, zq2, zq3]
   refine takeD0 8 (v := ?_) rfl (by kernel_rfl) (by kernel_rfl) (by kernel_rfl) (fun _ _ _ h => h) (by decide) (by kernel_rfl) (by kernel_rfl) ⟨by rfl, ?_⟩ (by assumption) ?_
   rotate_left
   ·intro w hS; have f1 := (hS.cell (p := ⟨gW, 1, none⟩) hl1).trans q1; have f2 := (hS.cell (p := ⟨gr, top + j, none⟩) hl2).trans qi; have f3 := (hS.cell (p := ⟨gr, top, none⟩) hl2).trans qt; go_simp <;> with_reducible rfl
   simp only [Act.put, zq1, zq2, zq3]
   refine takeDA 9 (v := ?_) rfl (by kernel_rfl) (by kernel_rfl) (by kernel_rfl) (fun _ _ _ h => h) (by decide) ⟨by rfl, ?_⟩ (by assumption) ?_
   rotate_left
   ·intro w; go_simp <;> with_reducible rfl
   simp only [Act.put, zq1, zq2, zq3]
   refine takeDA 10 (v := ?_) rfl (by kernel_rfl) (by kernel_rfl) (by kernel_rfl) (fun _ _ _ h => h) (by decide) ⟨by rfl, ?_⟩ (by assumption) ?_
   rotate_left
   ·intro w; go_simp <;> with_reducible rfl
   simp only [Act.put, zq1, zq2, zq3]
   refine takeDA 11 (v := ?_) rfl (by kernel_rfl) (by kernel_rfl) (by kernel_rfl) (fun _ _ _ h => h) (by decide) ⟨by rfl, ?_⟩ (by assumption) ?_
   rotate_left
   ·intro w; go_simp <;> with_reducible rfl
   simp only [Act.put, zq1, zq2, zq3]
   refine takeDA 12 (v := ?_) rfl (by kernel_rfl) (by kernel_rfl) (by kernel_rfl) (fun _ _ _ h => h) (by decide) ⟨by rfl, ?_⟩ (by assumption) ?_
   rotate_left
   ·intro w; go_simp <;> with_reducible rfl
   simp only [Act.put, zq1, zq2, zq3]
   refine takeDA 13 (v := ?_) rfl (by kernel_rfl) (by kernel_rfl) (by kernel_rfl) (fun _ _ _ h => h) (by decide) ⟨by rfl, ?_⟩ (by assumption) ?_
   rotate_left
   ·intro w; go_simp <;> with_reducible rfl
   simp only [Act.put, zq1, zq2, zq3]
   refine takeDA 14 (v := ?_) rfl (by kernel_rfl) (by kernel_rfl) (by kernel_rfl) (fun _ _ _ h => h) (by decide) ⟨by rfl, ?_⟩ (by assumption) ?_
   rotate_left
   ·intro w; go_simp <;> with_reducible rfl
   simp only [Act.put, zq1, zq2, zq3]
   refine takeD0 15 (v := ?_) rfl (by kernel_rfl) (by kernel_rfl) (by kernel_rfl) (fun _ _ _ h => h) (by decide) (by kernel_rfl) (by kernel_rfl) ⟨by rfl, ?_⟩ (by assumption) ?_
   rotate_left
   ·intro w hS; have f1 := (hS.cell (p := ⟨gW, 1, none⟩) hl1).trans q1; have f2 := (hS.cell (p := ⟨gr, top + j, none⟩) hl2).trans qi; have f3 := (hS.cell (p := ⟨gr, top, none⟩) hl2).trans qt; go_simp <;> with_reducible rfl
   simp only [Act.put, zq1, zq2, zq3]
   refine takeDA 16 (v := ?_) rfl (by kernel_rfl) (by kernel_rfl) (by kernel_rfl) (fun _ _ _ h => h) (by decide) ⟨by rfl, ?_⟩ (by assumption) ?_
   rotate_left
   ·intro w; go_simp <;> with_reducible rfl
   simp only [Act.put, zq1, zq2, zq3]
   refine takeDA 17 (v := ?_) rfl (by kernel_rfl) (by kernel_rfl) (by kernel_rfl) (fun _ _ _ h => h) (by decide) ⟨by rfl, ?_⟩ (by assumption) ?_
   rotate_left
   ·intro w; go_simp <;> with_reducible rfl
   simp only [Act.put, zq1, zq2, zq3]
   refine takeDA 18 (v := ?_) rfl (by kernel_rfl) (by kernel_rfl) (by kernel_rfl) (fun _ _ _ h => h) (by decide) ⟨by rfl, ?_⟩ (by assumption) ?_
   rotate_left
   ·intro w; go_simp <;> with_reducible rfl
   simp only [Act.put, zq1, zq2, zq3]
   refine takeDA 19 (v := ?_) rfl (by kernel_rfl) (by kernel_rfl) (by kernel_rfl) (fun _ _ _ h => h) (by decide) ⟨by rfl, ?_⟩ (by assumption) ?_
   rotate_left
   ·intro w; go_simp <;> with_reducible rfl
   simp only [Act.put, zq1, zq2, zq3]
   refine takeD0 20 (v := ?_) rfl (by kernel_rfl) (by kernel_rfl) (by kernel_rfl) (fun _ _ _ h => h) (by decide) (by kernel_rfl) (by kernel_rfl) ⟨by rfl, ?_⟩ (by assumption) ?_
   rotate_left
   ·intro w hS; have f1 := (hS.cell (p := ⟨gW, 1, none⟩) hl1).trans q1; have f2 := (hS.cell (p := ⟨gr, top + j, none⟩) hl2).trans qi; have f3 := (hS.cell (p := ⟨gr, top, none⟩) hl2).trans qt; go_simp <;> with_reducible rfl
   simp only [Act.put, zq1, zq2, zq3]
   refine takeDA 21 (v := ?_) rfl (by kernel_rfl) (by kernel_rfl) (by kernel_rfl) (fun _ _ _ h => h) (by decide) ⟨by rfl, ?_⟩ (by assumption) ?_
   rotate_left
   ·intro w; go_simp <;> with_reducible rfl
   simp only [Act.put, zq1, zq2, zq3]
   refine takeDA 22 (v := ?_) rfl (by kernel_rfl) (by kernel_rfl) (by kernel_rfl) (fun _ _ _ h => h) (by decide) ⟨by rfl, ?_⟩ (by assumption) ?_
   rotate_left
   ·intro w; go_simp <;> with_reducible rfl
   simp only [Act.put, zq1, zq2, zq3]
   refine takeDA 23 (v := ?_) rfl (by kernel_rfl) (by kernel_rfl) (by kernel_rfl) (fun _ _ _ h => h) (by decide) ⟨by rfl, ?_⟩ (by assumption) ?_
   rotate_left
   ·intro w; go_simp <;> with_reducible rfl
   simp only [Act.put, zq1, zq2, zq3]
   refine takeD0 24 (v := ?_) rfl (by kernel_rfl) (by kernel_rfl) (by kernel_rfl) (fun _ _ _ h => h) (by decide) (by kernel_rfl) (by kernel_rfl) ⟨by rfl, ?_⟩ (by assumption) ?_
   rotate_left
   ·intro w hS; have f1 := (hS.cell (p := ⟨gW, 1, none⟩) hl1).trans q1; have f2 := (hS.cell (p := ⟨gr, top + j, none⟩) hl2).trans qi; have f3 := (hS.cell (p := ⟨gr, top, none⟩) hl2).trans qt; go_simp <;> with_reducible rfl
   simp only [Act.put, zq1, zq2, zq3]
   refine takeDA 25 (v := ?_) rfl (by kernel_rfl) (by kernel_rfl) (by kernel_rfl) (fun _ _ _ h => h) (by decide) ⟨by rfl, ?_⟩ (by assumption) ?_
   rotate_left
   ·intro w; go_simp <;> with_reducible rfl
   simp only [Act.put, zq1, zq2, zq3]
   refine takeDA 26 (v := ?_) rfl (by kernel_rfl) (by kernel_rfl) (by kernel_rfl) (fun _ _ _ h => h) (by decide) ⟨by rfl, ?_⟩ (by assumption) ?_
   rotate_left
   ·intro w; go_simp <;> with_reducible rfl
   simp only [Act.put, zq1, zq2, zq3]
   refine takeD0 27 (v := ?_) rfl (by kernel_rfl) (by kernel_rfl) (by kernel_rfl) (fun _ _ _ h => h) (by decide) (by kernel_rfl) (by kernel_rfl) ⟨by rfl, ?_⟩ (by assumption) ?_
   rotate_left
   ·intro w hS; have f1 := (hS.cell (p := ⟨gW, 1, none⟩) hl1).trans q1; have f2 := (hS.cell (p := ⟨gr, top + j, none⟩) hl2).trans qi; have f3 := (hS.cell (p := ⟨gr, top, none⟩) hl2).trans qt; go_simp <;> with_reducible rfl
   simp only [Act.put, zq1, zq2, zq3]
   refine takeDA 28 (v := ?_) rfl (by kernel_rfl) (by kernel_rfl) (by kernel_rfl) (fun _ _ _ h => h) (by decide) ⟨by rfl, ?_⟩ (by assumption) ?_
   rotate_left
   ·intro w; go_simp <;> with_reducible rfl
   simp only [Act.put, zq1, zq2, zq3]
   have fz1 := h.rows.headfree rfl top
   have fz2 := h.rows.headfree rfl (top + j)
   refine oneM rfl (by kernel_rfl) (of_decide_eq_true (by kernel_rfl)) (by rfl) (fun K hK => ?_)
   go_simp
   refine hK.out _ _ ?_
   clear hK K
   try simp only [Act.put, zq1, zq2, zq3]
   clear fz1
   refine takeL 30 (v := ?_) rfl (by kernel_rfl) (by kernel_rfl) (by kernel_rfl) (fun _ _ _ h => h) ⟨by rfl, ?_⟩ trivial ?_
   rotate_left
   ·intro w _; go_simp <;> with_reducible rfl
   simp only [Act.put, zq1, zq2, zq3]
   refine on 31 fun K hK => ?_
   go_simp
   refine hK.out _ _ trivial (fun _ => ?_)
   clear hK K
   try simp only [Act.put, zq1, zq2, zq3]
   refine doneL (by kernel_rfl) ?_ _
   clear k0 k1 k2 k3 q1 qt qi
   have h2 := h.swap (i := top) (j := top + j) HU.out HV.out
   clear h
   have BS := ((B0.mono hbase).setCell (p := ⟨gr, top, none⟩) hgr (.slice av N cv)).setCell (p := ⟨gr, top + j, none⟩) hgr (.slice au N cu)
   have KS := (KC.far (a := ⟨gr, top, none⟩) hggr (.slice av N cv)).far (a := ⟨gr, top + j, none⟩) hggr (.slice au N cu)
   generalize ((wd.setCell ⟨gr, top, none⟩ (.slice av N cv)).setCell ⟨gr, top + j, none⟩ (.slice au N cu)) = ws at *
   generalize ((vs.set top (.slice av N cv)).set (top + j) (.slice au N cu)) = vs1 at *
   clear KC B0
   have hbs : base ≤ ws.heap.size := Nat.le_trans hbase BS.size
   go_upto_region 6 with (fail)
   have bd := dw ws
   replace h2 := h2.next bd
   replace KS := KS.next bd
   replace BS := BS.trans (bd.mono hbs)
   have hbs : base ≤ ws.drew.heap.size := hbs
   clear bd
   have q0 := h2.blk.cell 0
   have q3 := h2.blk.cell 3
   have hl1 := h2.blk.lt
   obtain ⟨x, ex⟩ : ∃ x, x = d.val := ⟨_, rfl⟩
   obtain ⟨z, ez⟩ : ∃ z, z = (-Zp.of p x).val := ⟨_, rfl⟩
   have hz2 : ((z : Nat) : Int) = ((-d).val : Nat) := by rw [ez, ex, Zp.of_val]
   have HZ2 := Lib.hid hz2; have EZ := Lib.hid ez
   simp only [List.getElem?_cons_succ, List.getElem?_cons_zero] at q0 q3
   rw [← ex] at q3
   clear hz2 ez ex
   have zF0 := Lib.hid fun (w : World) (hS : Below (ws.drew).heap.size (ws.drew) w) => And.intro ((hS.cell (p := ⟨gW, 0, none⟩) hl1).trans q0) ((hS.cell (p := ⟨gW, 3, none⟩) hl1).trans q3)
   refine startP (S := (fun w' => Below (ws.drew).heap.size (ws.drew) w')) (by kernel_rfl) _ rfl rfl rfl (by kernel_rfl) (Below.refl _ _) (fun hHeld => ?_)
   refine tk 0 ?_
   refine tk 1 ?_
   refine tk 2 ?_
   refine tk 3 ?_
   refine tf 4 zF0.out ?_
   refine tk 5 ?_
   refine tk 6 ?_
   refine tk 7 ?_
   refine tf 8 zF0.out ?_
   refine on 9 fun K hK => ?_
   go_simp
   go_at_call 110
   (with_reducible refine (gfp_Neg p x z _ HP.out EZ.out).mono ?_); rintro e w9 ⟨rfl, b9⟩
   refine hK.out _ _ (hHeld.trans (b9.mono hHeld.size)) (fun hHeld => ?_)
   clear hK K
   try simp only [Act.put, zq1, zq2, zq3]
   refine tk 10 ?_
   refine tk 11 ?_
   clear zF0; refine doneL (by kernel_rfl) ?_ _
   refine lastL rfl (by rfl) ?_
   have h3 := (h2.next hHeld).det (d' := -d) HZ2.out
   have B3 := (BS.trans (hHeld.mono hbs)).setCell (p := ⟨gW, 3, none⟩) h2.gw (.int .u64 z)
   have K3 := (KS.next hHeld).far (a := ⟨gW, 3, none⟩) (show g ≠ gW by have := HGW.out; omega) (.int .u64 z)
   have qq3 := (h2.next hHeld).blk.cell 3
   have qf3 := (h2.next hHeld).blk.free 3
   have hlt3 : g < (w9.setCell ⟨gW, 3, none⟩ (.int .u64 z)).heap.size := by simpa [World.setCell] using (KS.next hHeld).lt
   have st := Lib.hid (show ColCut p w (w9.setCell ⟨gW, 3, none⟩ (.int .u64 z)) base gW n N W P d (.slice (some ⟨gr, 0, none⟩) n cr) (.slice pa top pc) g col (top + j) from
    ⟨vs1, by rw [if_neg (by have := HT.out; omega), ← HT.out]; exact h3, K3, B3, hlt3⟩)
   clear h3 B3 K3 h2 BS KS hHeld b9 q0 q3 hlt3
   go_wp2
   go_meet
   exact st.out
 case rest =>
  clear h q0 q1 q2 q3 B0 KC
  obtain ⟨vs1, h1, KC1, B1, hg1⟩ := hcut
  rw [← HT.out] at h1
  obtain ⟨S, eS⟩ : ∃ S, S = swp W top i := ⟨_, rfl⟩
  have hSt : S top col = W i col := by rw [eS]; unfold swp; rw [if_pos rfl]
  rw [← eS] at h1
  obtain ⟨d1, ed1⟩ : ∃ d1, d1 = if i = top then d else -d := ⟨_, rfl⟩
  rw [← ed1] at h1
  have ES := Lib.hid eS; have ED1 := Lib.hid ed1; have HST := Lib.hid hSt
  clear eS ed1 hSt
  have hbw : base ≤ wc.heap.size := Nat.le_trans hbase B1.size
  obtain ⟨vt, hvt⟩ := h1.rows.hdr hP
  obtain ⟨at', ct, rfl, -⟩ := (h1.rows.row _ vt hvt).slice
  obtain ⟨bt, ot, rfl⟩ := h1.rows.ao hvt (by omega)
  have q1 := h1.blk.cell 1
  have qt := h1.rows.head rfl hP; rw [hvt] at qt
  have HVT := Lib.hid hvt; clear hvt
  go_upto_region 8 with (fail)
  clear q1 qt
  have bd := dw wc
  replace h1 := h1.next bd; replace KC1 := KC1.next bd
  replace B1 := B1.trans (bd.mono hbw)
  have hbw : base ≤ wc.drew.heap.size := hbw
  clear bd
  have hl1 := h1.blk.lt
  have q0 := h1.blk.cell 0; have q3 := h1.blk.cell 3; have qc := KC1.cell 0
  obtain ⟨⟨u, qx, hu⟩, -, -, hl2⟩ := h1.rows.at HVT.out hcol
  obtain ⟨x, ex⟩ : ∃ x, x = (S top col).val := ⟨_, rfl⟩
  rw [hu, ← ex] at qx
  obtain ⟨y, ey⟩ : ∃ y, y = d1.val := ⟨_, rfl⟩
  simp only [List.getElem?_cons_succ, List.getElem?_cons_zero] at q0 q3 qc
  rw [← ey] at q3
  obtain ⟨z, ez⟩ : ∃ z, z = (Zp.of p y * Zp.of p x).val := ⟨_, rfl⟩
  have hz2 : ((z : Nat) : Int) = ((d1 * W i col).val : Nat) := by rw [ez, ey, ex, Zp.of_val, Zp.of_val, HST.out]
  have HZ2 := Lib.hid hz2; have EZ := Lib.hid ez; have EX := Lib.hid ex
  clear hz2 ez ex ey hu
  have zF0 := Lib.hid fun (w : World) (hS : Below (wc.drew).heap.size (wc.drew) w) => And.intro ((hS.cell (p := ⟨gW, 0, none⟩) hl1).trans q0) (And.intro ((hS.cell (p := ⟨gW, 3, none⟩) hl1).trans q3) (And.intro ((hS.cell (p := ⟨g, 0, none⟩) KC1.lt).trans qc) ((hS.cell (p := ⟨bt, ot + col, none⟩) hl2).trans qx)))
  refine startP (S := (fun w' => Below (wc.drew).heap.size (wc.drew) w')) (by kernel_rfl) _ rfl rfl rfl (by kernel_rfl) (Below.refl _ _) (fun hHeld => ?_)
  refine tk 0 ?_
  refine tk 1 ?_
  refine tk 2 ?_
  refine tk 3 ?_
  refine tf 4 zF0.out ?_
  refine tk 5 ?_
  refine tk 6 ?_
  refine tk 7 ?_
  refine tf 8 zF0.out ?_
  refine tk 9 ?_
  refine tf 10 zF0.out ?_
  refine tk 11 ?_
  refine tf 12 zF0.out ?_
  refine on 13 fun K hK => ?_
  go_simp
  go_at_call 118
  (with_reducible refine (gfp_Mul p y x z _ HP.out EZ.out).mono ?_); rintro e w8 ⟨rfl, b8⟩
  refine hK.out _ _ (hHeld.trans (b8.mono hHeld.size)) (fun hHeld => ?_)
  clear hK K
  try simp only [Act.put, zq1, zq2, zq3]
  refine tk 14 ?_
  refine tk 15 ?_
  clear zF0; refine doneL (by kernel_rfl) ?_ _
  refine lastL rfl (by rfl) ?_
  have h2 := (h1.next hHeld).det (d' := d1 * W i col) HZ2.out
  have B2 := (B1.trans (hHeld.mono hbw)).setCell (p := ⟨gW, 3, none⟩) h1.gw (.int .u64 z)
  have K2 := (KC1.next hHeld).far (a := ⟨gW, 3, none⟩) (show g ≠ gW by have := HGW.out; omega) (.int .u64 z)
  have qq3 := (h1.next hHeld).blk.cell 3
  have qf3 := (h1.next hHeld).blk.free 3
  clear h1 KC1 B1 hHeld b8 q0 q3 qc qx hl1 hl2 hbw
  go_upto_region 9 with (fail)
  clear qq3 qf3
  generalize (w8.setCell ⟨gW, 3, none⟩ (.int .u64 z)) = wd at *
  have hbw : base ≤ wd.heap.size := Nat.le_trans hbase B2.size
  have bd := dw wd
  replace h2 := h2.next bd; replace K2 := K2.next bd
  replace B2 := B2.trans (bd.mono hbw)
  have hbw : base ≤ wd.drew.heap.size := hbw
  clear bd
  have hl1 := h2.blk.lt; have hlg := K2.lt
  have q0 := h2.blk.cell 0; have qc := K2.cell 0
  obtain ⟨⟨u, qx, hu⟩, -, -, hl2⟩ := h2.rows.at HVT.out hcol
  rw [hu, ← EX.out] at qx
  simp only [List.getElem?_cons_zero] at q0 qc
  obtain ⟨c, ec⟩ : ∃ c, c = (Zp.of p x).iv.val := ⟨_, rfl⟩
  obtain ⟨C, eC⟩ : ∃ C, C = (W i col).iv := ⟨_, rfl⟩
  have hcC : c = C.val := by rw [ec, eC, EX.out, Zp.of_val, HST.out]
  have hCi : W i col * C = 1 := by
   rw [eC, CR.mul_comm]
   refine Zp.iv_mul HTR.out (fun e => HI0.out ?_)
   rw [e]; exact Zp.zero_val p
  have EC := Lib.hid ec; have HCC := Lib.hid hcC; have HCI := Lib.hid hCi
  clear ec eC hcC hCi hu
  have zF0 := Lib.hid fun (w : World) (hS : Below (wd.drew).heap.size (wd.drew) w) => And.intro ((hS.cell (p := ⟨gW, 0, none⟩) hl1).trans q0) (And.intro ((hS.cell (p := ⟨g, 0, none⟩) hlg).trans qc) ((hS.cell (p := ⟨bt, ot + col, none⟩) hl2).trans qx))
  refine startL (S := (fun w' => Below (wd.drew).heap.size (wd.drew) w')) (by kernel_rfl) (Below.refl _ _) (fun hHeld => ?_)
  refine tk 0 ?_
  refine tk 1 ?_
  refine tk 2 ?_
  refine tf 3 zF0.out ?_
  refine tk 4 ?_
  refine tf 5 zF0.out ?_
  refine tk 6 ?_
  refine tf 7 zF0.out ?_
  refine on 8 fun K hK => ?_
  go_simp
  go_at_call 131
  (with_reducible refine (gfp_Inv p x c _ HP.out EC.out).mono ?_); rintro e w9 ⟨rfl, b9⟩
  refine hK.out _ _ (hHeld.trans (b9.mono hHeld.size)) (fun hHeld => ?_)
  clear hK K
  try simp only [Act.put, zq1, zq2, zq3]
  refine tk 9 ?_
  clear zF0; refine doneL (by kernel_rfl) ?_ _
  replace h2 := h2.next hHeld; replace K2 := K2.next hHeld; replace B2 := B2.trans (hHeld.mono hbw)
  clear hHeld b9 q0 qc qx hl1 hl2 hbw hlg
  have st := Lib.hid (show SclR p w w9 base gW n N S P (d1 * W i col) (.slice (some ⟨gr, 0, none⟩) n cr) (.slice pa top pc) vs1 g col top C 0 from ⟨h2.congr fun a j _ _ => by rw [if_neg (by omega)], K2, B2⟩)
  clear h2 K2 B2
  go_wp2
  go_loopw [104] (fun kv wr => ∃ k : Nat, k ≤ N ∧ kv = .int .i64 k ∧ SclR p w wr base gW n N S P (d1 * W i col) (.slice (some ⟨gr, 0, none⟩) n cr) (.slice pa top pc) vs1 g col top C k) (fun kv _ => N - (intOf kv).toNat)
  case atStart => exact ⟨0, by omega, rfl, st.out⟩
  case round =>
   clear st
   obtain ⟨k, hk, rfl, h3, K3, B3⟩ := hrel
   by_cases hkN : k < N
   ·have hbw : base ≤ wr.heap.size := Nat.le_trans hbase B3.size
    go_upto_region 13 with (fail)
    have bd := dw wr
    replace h3 := h3.next bd; replace K3 := K3.next bd
    replace B3 := B3.trans (bd.mono hbw)
    have hbw : base ≤ wr.drew.heap.size := hbw
    clear bd
    have hl1 := h3.blk.lt
    have q0 := h3.blk.cell 0
    obtain ⟨⟨u, qx, hu⟩, f1, b1, hl2⟩ := h3.rows.at HVT.out hkN
    have hu : u = .int .u64 ((S top k).val : Nat) := by rw [hu, if_neg (by omega)]
    obtain ⟨x2, ex2⟩ : ∃ x2, x2 = (S top k).val := ⟨_, rfl⟩
    rw [hu, ← ex2] at qx
    simp only [List.getElem?_cons_zero] at q0
    obtain ⟨z2, ez2⟩ : ∃ z2, z2 = (Zp.of p x2 * Zp.of p c).val := ⟨_, rfl⟩
    have hz3 : ((z2 : Nat) : Int) = ((S top k * C).val : Nat) := by rw [ez2, ex2, HCC.out, Zp.of_val, Zp.of_val]
    have HZ3 := Lib.hid hz3; have EZ2 := Lib.hid ez2
    clear hz3 ez2 ex2 hu f1
    have zF0 := Lib.hid fun (w : World) (hS : Below (wr.drew).heap.size (wr.drew) w) => And.intro ((hS.cell (p := ⟨gW, 0, none⟩) hl1).trans q0) ((hS.cell (p := ⟨bt, ot + k, none⟩) hl2).trans qx)
    refine startP (S := (fun w' => Below (wr.drew).heap.size (wr.drew) w')) (by kernel_rfl) _ rfl rfl rfl (by kernel_rfl) (Below.refl _ _) (fun hHeld => ?_)
    refine tk 0 ?_
    refine tk 1 ?_
    refine tk 2 ?_
    refine tk 3 ?_
    refine tk 4 ?_
    refine tf 5 zF0.out ?_
    refine tk 6 ?_
    refine tk 7 ?_
    refine tk 8 ?_
    refine tf 9 zF0.out ?_
    refine tk 10 ?_
    refine on 11 fun K hK => ?_
    go_simp
    go_at_call 118
    (with_reducible refine (gfp_Mul p x2 c z2 _ HP.out EZ2.out).mono ?_); rintro e w13 ⟨rfl, b13⟩
    refine hK.out _ _ (hHeld.trans (b13.mono hHeld.size)) (fun hHeld => ?_)
    clear hK K
    try simp only [Act.put, zq1, zq2, zq3]
    refine tk 12 ?_
    clear zF0; refine doneL (by kernel_rfl) ?_ _
    refine lastL rfl (by rfl) ?_
    have h4 := h3.next hHeld
    have B4 := (B3.trans (hHeld.mono hbw)).setCell (p := ⟨bt, ot + k, none⟩) b1 (.int .u64 (z2 : Nat))
    obtain ⟨⟨u, q3, -⟩, f3, -, -⟩ := h4.rows.at HVT.out hkN
    obtain ⟨cur, hcur⟩ := h4.rows.atc HVT.out hkN
    have hgb : g ≠ bt := by
     intro e
     have hk4 := K3.next hHeld
     unfold Blk at hk4
     rw [e, hcur] at hk4
     simp at hk4
    have K4 := (K3.next hHeld).far (a := ⟨bt, ot + k, none⟩) hgb (.int .u64 (z2 : Nat))
    have st := Lib.hid (show SclR p w (w13.setCell ⟨bt, ot + k, none⟩ (.int .u64 (z2 : Nat))) base gW n N S P (d1 * W i col) (.slice (some ⟨gr, 0, none⟩) n cr) (.slice pa top pc) vs1 g col top C (k + 1) from
     ⟨(h4.store HVT.out hkN (x := S top k * C) HZ3.out).congr fun a j _ _ => by
      unfold updE; dsimp only
      by_cases e1 : a = top
      ·subst e1
       by_cases e2 : j = k
       ·subst e2; rw [if_pos ⟨rfl, rfl⟩, if_pos ⟨rfl, by omega⟩]
       ·rw [if_neg (fun h => e2 h.2)]
        by_cases e3 : j < k
        ·rw [if_pos ⟨rfl, e3⟩, if_pos ⟨rfl, by omega⟩]
        ·rw [if_neg (fun h => e3 h.2), if_neg (by omega)]
      ·rw [if_neg (fun h => e1 h.1), if_neg (fun h => e1 h.1), if_neg (fun h => e1 h.1)], K4, B4⟩)
    clear h3 h4 K3 K4 B3 B4 hHeld b13 q0 qx hl1 hl2 b1 hcur hgb
    go_wp2
    go_roundw
    case rel => exact ⟨k + 1, by omega, by go_num, st.out⟩
    case measure => simp [intOf] <;> omega
   ·obtain rfl : k = N := by omega
    have q1 := h3.blk.cell 1
    obtain ⟨B, eB⟩ : ∃ B, B = scl S top C := ⟨_, rfl⟩
    have h3 := h3.congr (W' := B) fun a j _ hj => by
     rw [eB]; unfold scl
     by_cases e1 : a = top
     ·rw [if_pos ⟨e1, hj⟩, if_pos e1]
     ·rw [if_neg (fun h => e1 h.1), if_neg e1]
    have EB := Lib.hid eB; clear eB
    have st := Lib.hid (show TksR p w wr base gW n k B P (d1 * W i col) (.slice (some ⟨gr, 0, none⟩) n cr) (.slice pa top pc) vs1 g col top 0 from ⟨h3.congr fun a j _ _ => by rw [if_neg (by omega)], K3, B3⟩)
    clear h3 K3 B3
    go_wp2
    clear q1
    go_loopw [126] (fun kv wr => ∃ r : Nat, r ≤ n ∧ kv = .int .i64 r ∧ TksR p w wr base gW n k B P (d1 * W i col) (.slice (some ⟨gr, 0, none⟩) n cr) (.slice pa top pc) vs1 g col top r) (fun kv _ => n - (intOf kv).toNat)
    case atStart => exact ⟨0, by omega, rfl, st.out⟩
    case round =>
     clear st
     obtain ⟨r, hr, rfl, h5, K5, B5⟩ := hrel
     by_cases hrn : r < n
     ·have hbw : base ≤ wr.heap.size := Nat.le_trans hbase B5.size
      obtain ⟨vr, hvr⟩ := h5.rows.hdr hrn
      obtain ⟨ar, cr2, rfl, -⟩ := (h5.rows.row _ vr hvr).slice
      obtain ⟨br, or2, rfl⟩ := h5.rows.ao hvr (by omega)
      have qr := h5.rows.head rfl hrn; rw [hvr] at qr
      have HVR := Lib.hid hvr; clear hvr
      by_cases hrt : r = top
      ·have st := Lib.hid (show TksR p w wr base gW n k B P (d1 * W i col) (.slice (some ⟨gr, 0, none⟩) n cr) (.slice pa top pc) vs1 g col top (r + 1) from ⟨h5.congr fun a j _ _ => by
        by_cases e1 : a ≠ top ∧ a < r
        ·rw [if_pos e1, if_pos ⟨e1.1, by omega⟩]
        ·rw [if_neg e1, if_neg (by omega)], K5, B5⟩)
       have hne : ((r : Int) != (top : Int)) = false := by simp [hrt]
       clear h5 K5 B5 hrt
       go_wp2
       go_roundw
       case rel => exact ⟨r + 1, by omega, by go_num, st.out⟩
       case measure => simp [intOf] <;> omega
      ·have hne : ((r : Int) != (top : Int)) = true := by simpa using fun e : (r : Int) = (top : Int) => hrt (Int.ofNat.inj e)
       have qc := K5.cell 0
       obtain ⟨⟨u, qx, hu⟩, -, -, -⟩ := h5.rows.at HVR.out hcol
       have hu : u = .int .u64 ((B r col).val : Nat) := by rw [hu, if_neg (by omega)]
       obtain ⟨x5, ex5⟩ : ∃ x5, x5 = (B r col).val := ⟨_, rfl⟩
       rw [hu, ← ex5] at qx
       simp only [List.getElem?_cons_zero] at qc
       have EX5 := Lib.hid ex5
       clear hu ex5
       go_wp2_with fail
       refine (fw_take p wr HP.out base gW n k _ P _ _ _ vs1 h5 r top _ _ HVR.out HVT.out hrt x5 (B r col) EX5.out hN hbw).mono ?_; rintro e w5 ⟨rfl, h6, b6, k6⟩
       have st := Lib.hid (show TksR p w w5 base gW n k B P (d1 * W i col) (.slice (some ⟨gr, 0, none⟩) n cr) (.slice pa top pc) vs1 g col top (r + 1) from ⟨h6.congr fun a j _ _ => by
        by_cases e0 : a = r
        ·subst e0
         rw [if_pos rfl, if_neg (by omega), if_neg (by omega), if_pos ⟨hrt, by omega⟩]
        ·rw [if_neg e0]
         by_cases e1 : a ≠ top ∧ a < r
         ·rw [if_pos e1, if_pos ⟨e1.1, by omega⟩]
         ·rw [if_neg e1, if_neg (by omega)], k6 _ _ _ (by decide) K5, B5.trans b6⟩)
       clear h5 h6 K5 k6 B5 b6 qr qx qc hrt hbw
       go_wp2
       go_roundw
       case rel => exact ⟨r + 1, by omega, by go_num, st.out⟩
       case measure => simp [intOf] <;> omega
     ·obtain rfl : r = n := by omega
      have hlb : base ≤ wr.heap.size := Nat.le_trans hbase B5.size
      have h5 := h5.congr (W' := elm W top i col C) fun a j _ _ => by
       rw [EB.out]; unfold elm tks
       by_cases e1 : a = top
       ·rw [if_neg (fun h => h.1 e1), if_pos e1, ES.out]
       ·rw [if_pos ⟨e1, by assumption⟩, if_neg e1, ES.out]
        have e2 : scl (swp W top i) top C a col = swp W top i a col := by unfold scl; rw [if_neg e1]
        rw [e2]
      go_upto_region 21 with (fail)
      have bd := dw wr
      replace h5 := h5.next bd; replace K5 := K5.next bd
      replace B5 := B5.trans (bd.mono hlb)
      have hlb : base ≤ wr.drew.heap.size := hlb
      clear bd
      have qp := h5.blk.cell 2; have qc := K5.cell 0
      simp only [List.getElem?_cons_succ, List.getElem?_cons_zero] at qp qc
      have hpl : P.length ≤ 1000 := by have := HT.out; omega
      have hS0 : Blk 136 wr.drew gW [.int .u64 p, .slice (some ⟨gr, 0, none⟩) r cr, .slice pa top pc, .int .u64 ((d1 * W i col).val : Nat)] ∧ Blk 3 wr.drew g [.int .i64 col] := ⟨h5.blk, K5⟩
      have zF0 := Lib.hid fun (w : World) (hS : Blk 136 w gW [.int .u64 p, .slice (some ⟨gr, 0, none⟩) r cr, .slice pa top pc, .int .u64 ((d1 * W i col).val : Nat)] ∧ Blk 3 w g [.int .i64 col]) => And.intro (hS.1.cell 2) (hS.2.cell 0)
      refine startP (S := (fun w' => Blk 136 w' gW [.int .u64 p, .slice (some ⟨gr, 0, none⟩) r cr, .slice pa top pc, .int .u64 ((d1 * W i col).val : Nat)] ∧ Blk 3 w' g [.int .i64 col])) (by kernel_rfl) _ rfl rfl rfl (by kernel_rfl) hS0 (fun hHeld => ?_)
      refine tk 0 ?_
      refine tk 1 ?_
      refine tk 2 ?_
      refine tk 3 ?_
      refine tf 4 zF0.out ?_
      refine tf 5 zF0.out ?_
      refine on 6 fun K hK => ?_
      go_simp
      have hd := hHeld
      refine hK.out _ _ ⟨hHeld.1.alloc _, hHeld.2.alloc _⟩ (fun hHeld => ?_)
      clear hK K
      try simp only [Act.put, zq1, zq2, zq3]
      refine on 7 fun K hK => ?_
      refine apV 112 3 8 (.int .i64 0) Try.underlying112 (by kernel_rfl) (by decide) rfl _ _ rfl wr.drew base (.slice pa top pc) P.length (Go.Proofs.Ytkmfhabgempjiaa.vs .i64 P) (.int .i64 col) rfl h5.piv (by omega) hlb (by rw [HT.out]; rfl) rfl ?_
      intro gg cap1 wz hown' hbel' hgr' hor'
      refine hK.out _ _ ⟨hd.1.kept hgr' (rowOwn_ne h5.piv h5.blk (by decide)), hd.2.kept hgr' (by rw [HT.out]; exact HPG.out)⟩ (fun hHeld => ?_)
      clear hK K
      try simp only [Act.put, zq1, zq2, zq3]
      refine tk 8 ?_
      refine tk 9 ?_
      clear zF0; refine doneL (by kernel_rfl) ?_ _
      refine lastL rfl (by rfl) ?_
      have f2 := hHeld.1.cell 2; have z2 := hHeld.1.free 2
      have h6 := h5.push hgr' hown'
      have B6 := (B5.trans hbel').setCell (p := ⟨gW, 2, none⟩) h5.gw (.slice (some ⟨gg, 0, none⟩) (P.length + 1) cap1)
      have FR := Lib.hid (show ColPost p w base gW r k W P d col (.returned (.tuple #[])) (wz.setCell ⟨gW, 2, none⟩ (.slice (some ⟨gg, 0, none⟩) (P.length + 1) cap1)) from
       ⟨rfl, _, _, _, _, _, _, h6, .inr ⟨i, C, by have := HT.out; have := HEI.out; omega, by have := HEI.out; omega, HCI.out, by rw [← HT.out], rfl, by rw [ED1.out, ← HT.out]⟩, B6⟩)
      clear h5 h6 K5 B5 B6 hown' hbel' hgr' hor' hd hHeld hS0 qp qc hlb hpl
      go_wp2
      go_end0
      exact FR.out
end Go.Proofs.Ytkmfhabgempjiaa
/- fmat.reduced: rows reduced as far as a column, or as far as they go. -/
namespace Go.Proofs.Ytkmfhabgempjiaa
set_option maxHeartbeats 4000000
open Go.RowKit
def RdR (p : Nat) (w wb wr : World) (gW n C D g : Nat) (mat : List Value) (W0 : Nat → Nat → Zp p) (col : Nat) : Prop :=
 ∃ W P d rv pv vs, Wk p wr wb.heap.size gW n (C + D) W P d rv pv vs ∧ RedI n (C + D) col W0 W P d ∧ Blk 63 wr g mat ∧ g < wb.heap.size ∧ Below wb.heap.size wb wr ∧ Below w.heap.size w wr
def RetRed (p : Nat) (w : World) (n C D : Nat) (W0 : Nat → Nat → Zp p) (e : Ending) (w' : World) : Prop :=
 ∃ gW W P d rv pv vs, e = .returned (.pointer (some ⟨gW, 0, none⟩)) ∧ Wk p w' w.heap.size gW n (C + D) W P d rv pv vs ∧ RedF n (C + D) C W0 W P d ∧ Below w.heap.size w w'
theorem Wk.mono {p : Nat} {w : World} {base base' gW n N : Nat} {W : Nat → Nat → Zp p} {P : List Nat} {d : Zp p} {rv pv : Value} {vs : List Value} (h : Wk p w base gW n N W P d rv pv vs) (hb : base' ≤ base) : Wk p w base' gW n N W P d rv pv vs :=
 ⟨h.blk, Nat.le_trans hb h.gw, h.rows.mono hb, h.piv.mono hb⟩
set_option maxRecDepth 20000 in
theorem fw_reduced (p : Nat) (a b : Value) (n C D : Nat) (xs ys : List Nat) (w : World) (hp : FP p) (ht : Trial p) (hA : Fm w a n C xs) (hB : Fm w b n D ys) (hn : n ≤ 64) (hC : C ≤ 64) (hD : D ≤ 64) (hx : xs.length = n * C) (hy : ys.length = n * D) :
  Calls Try.prog 105 #[.agg #[.int .u64 p], a, b] w (RetRed p w n C D (beside C (mx p n C xs).e (mx p n D ys).e)) := by
 obtain ⟨aA, cA, rfl⟩ := hA.agg
 obtain ⟨aB, cB, rfl⟩ := hB.agg
 obtain ⟨wb, ew, KF, KA, KB, B0, hsz⟩ := boxes3 w 29 63 63 [.int .u64 p] [.int .i64 n, .int .i64 C, .slice aA xs.length cA] [.int .i64 n, .int .i64 D, .slice aB ys.length cB]
 clear hsz
 have HP := Lib.hid hp; clear hp
 have HTR := Lib.hid ht; clear ht
 replace hA := hA.next B0; replace hB := hB.next B0
 have HX := Lib.hid hx; have HY := Lib.hid hy; clear hx hy
 obtain ⟨W0, eW0⟩ : ∃ W0, W0 = beside C (mx p n C xs).e (mx p n D ys).e := ⟨_, rfl⟩
 rw [← eW0]
 have EW0 := Lib.hid eW0; clear eW0
 go_enter Try.func105, Try.ntmps105
 go_upto_region 1 with (fail)
 rw [← ew]
 obtain ⟨g, eg⟩ : ∃ g, g = w.heap.size := ⟨_, rfl⟩
 rw [← eg] at KF KA KB ⊢
 have hgw : w.heap.size ≤ g := by omega
 clear eg ew
 have f0 := KF.cell 0; have f1 := KA.cell 0; have f2 := KA.cell 1; have f3 := KA.cell 2; have f4 := KB.cell 0; have f5 := KB.cell 1; have f6 := KB.cell 2
 go_wp2_with fail
 refine (fw_begun p _ _ n C D xs ys _ HP.out hA hB hn hC hD HX.out HY.out).mono ?_; rintro e w2 ⟨gW, W, P, d, rv, pv, vs, rfl, h1, ⟨eW, eP, ed⟩, b2⟩
 rw [← EW0.out] at eW
 subst eW eP ed
 have st : RdR p w wb w2 gW n C D (g + 1) [.int .i64 n, .int .i64 C, .slice aA xs.length cA] W 0 := ⟨_, _, _, _, _, _, h1, RedI.start W, KA.next b2, KA.lt, b2, B0.trans (b2.mono B0.size)⟩
 clear h1 b2 KF KA KB hA hB f0 f1 f2 f3 f4 f5 f6
 have hBs := B0.size
 clear B0
 go_wp2
 go_loopw [8] (fun kv wr => ∃ col : Nat, col ≤ C ∧ kv = .int .i64 col ∧ RdR p w wb wr gW n C D (g + 1) [.int .i64 n, .int .i64 C, .slice aA xs.length cA] W col) (fun kv _ => C - (intOf kv).toNat)
 case atStart => exact ⟨0, by omega, rfl, st⟩
 case round =>
  clear st
  obtain ⟨col, hcol, rfl, V, P, d, rv, pv, vs, h, hr, KA, hg, B1, B2⟩ := hrel
  have hbw := B1.size
  by_cases hc : col < C
  ·obtain ⟨pa, pc, epv⟩ := h.piv.sliced
   obtain ⟨ra, rc, erv⟩ : ∃ ra rc, rv = .slice ra n rc := by
    rcases h.rows.shape with ⟨e, e2⟩ | ⟨g, cap, e, -⟩
    ·exact ⟨_, _, by rw [e, e2]⟩
    ·exact ⟨_, _, e⟩
   subst epv erv
   go_upto_region 3 with (fail)
   have bd := dw wr
   replace h := h.next bd
   replace KA := KA.next bd
   replace B1 := B1.trans (bd.mono hbw); replace B2 := B2.trans (bd.mono B2.size)
   have hbw : wb.heap.size ≤ wr.drew.heap.size := hbw
   clear bd
   obtain ⟨m, em⟩ : ∃ m, m = P.length := ⟨_, rfl⟩
   have hml : m ≤ n := by rw [em]; exact hr.len
   have hblk := h.blk
   rw [← em] at hblk
   have EM := Lib.hid em; clear em
   have z0 := Lib.hid fun (w : World) (hS : Below (wr.drew).heap.size (wr.drew) w) => And.intro ((KA.at hS) 1) (And.intro ((hblk.at hS) 1) ((hblk.at hS) 2))
   refine startL (S := (fun w' => Below (wr.drew).heap.size (wr.drew) w')) (by kernel_rfl) (Below.refl _ _) (fun hHeld => ?_)
   refine tk 0 ?_
   refine tk 1 ?_
   refine tf 2 z0.out ?_
   refine tk 3 ?_
   refine tk 4 ?_
   refine tk 5 ?_
   refine tk 6 ?_
   refine tk 7 ?_
   refine tf 8 z0.out ?_
   refine tk 9 ?_
   refine tk 10 ?_
   refine tk 11 ?_
   refine tk 12 ?_
   refine tf 13 z0.out ?_
   refine tk 14 ?_
   refine tk 15 ?_
   refine tk 16 ?_
   clear z0; refine doneL (by kernel_rfl) ?_ _
   clear hHeld hblk
   by_cases hm : m < n
   ·go_wp2_with fail
    refine (fw_column p _ HP.out HTR.out wb.heap.size gW n (C + D) V P d _ _ vs h col (by omega) (by rw [← EM.out]; exact hm) (by omega) (by omega) hbw).mono ?_; rintro e w5 ⟨rfl, W', P', d', rv', pv', vs', h6, k6, b6⟩
    have st := Lib.hid (show RdR p w wb w5 gW n C D (g + 1) [.int .i64 n, .int .i64 C, .slice aA xs.length cA] W (col + 1) from ⟨_, _, _, _, _, _, h6, k6.red hr, KA.below b6 hg, hg, B1.trans b6, B2.trans (b6.mono hBs)⟩)
    clear h h6 k6 b6 hr KA B1 B2
    go_wp2
    go_roundw
    case rel => exact ⟨col + 1, by omega, by go_num, st.out⟩
    case measure => simp [intOf] <;> omega
   ·have st := Lib.hid (show RedF n (C + D) C W V P d from ⟨col, by omega, hr, .inl (by have := EM.out; omega)⟩)
    have h := Lib.hid (h.mono hBs); have B2 := Lib.hid B2
    clear hr KA B1
    go_wp2
    go_ret
    exact ⟨gW, _, _, _, _, _, _, rfl, h.out, st.out, B2.out⟩
  ·obtain rfl : col = C := by omega
   go_upto_region 3 with (fail)
   have bd := dw wr
   replace h := h.next bd
   replace KA := KA.next bd
   replace B2 := B2.trans (bd.mono B2.size)
   clear bd
   refine startL (S := (fun w' => Below (wr.drew).heap.size (wr.drew) w')) (by kernel_rfl) (Below.refl _ _) (fun hHeld => ?_)
   refine tk 0 ?_
   refine tk 1 ?_
   refine tg 2 rfl (fun w hS => by have fa := KA.at hS; have f1 := fa 1; clear fa; go_simp <;> with_reducible rfl) ?_
   refine tk 3 ?_
   refine tk 4 ?_
   refine skipL 5 rfl (by kernel_rfl) (by kernel_rfl) (by kernel_rfl) (fun _ _ _ h => h) (by rfl) (by assumption) ?_
   simp only [Act.put, zq1, zq2, zq3]
   refine skipL 6 rfl (by kernel_rfl) (by kernel_rfl) (by kernel_rfl) (fun _ _ _ h => h) (by rfl) (by assumption) ?_
   simp only [Act.put, zq1, zq2, zq3]
   refine skipL 7 rfl (by kernel_rfl) (by kernel_rfl) (by kernel_rfl) (fun _ _ _ h => h) (by rfl) (by assumption) ?_
   simp only [Act.put, zq1, zq2, zq3]
   refine skipL 8 rfl (by kernel_rfl) (by kernel_rfl) (by kernel_rfl) (fun _ _ _ h => h) (by rfl) (by assumption) ?_
   simp only [Act.put, zq1, zq2, zq3]
   refine skipL 9 rfl (by kernel_rfl) (by kernel_rfl) (by kernel_rfl) (fun _ _ _ h => h) (by rfl) (by assumption) ?_
   simp only [Act.put, zq1, zq2, zq3]
   refine skipL 10 rfl (by kernel_rfl) (by kernel_rfl) (by kernel_rfl) (fun _ _ _ h => h) (by rfl) (by assumption) ?_
   simp only [Act.put, zq1, zq2, zq3]
   refine skipL 11 rfl (by kernel_rfl) (by kernel_rfl) (by kernel_rfl) (fun _ _ _ h => h) (by rfl) (by assumption) ?_
   simp only [Act.put, zq1, zq2, zq3]
   refine skipL 12 rfl (by kernel_rfl) (by kernel_rfl) (by kernel_rfl) (fun _ _ _ h => h) (by rfl) (by assumption) ?_
   simp only [Act.put, zq1, zq2, zq3]
   refine skipL 13 rfl (by kernel_rfl) (by kernel_rfl) (by kernel_rfl) (fun _ _ _ h => h) (by rfl) (by assumption) ?_
   simp only [Act.put, zq1, zq2, zq3]
   refine skipL 14 rfl (by kernel_rfl) (by kernel_rfl) (by kernel_rfl) (fun _ _ _ h => h) (by rfl) (by assumption) ?_
   simp only [Act.put, zq1, zq2, zq3]
   refine skipL 15 rfl (by kernel_rfl) (by kernel_rfl) (by kernel_rfl) (fun _ _ _ h => h) (by rfl) (by assumption) ?_
   simp only [Act.put, zq1, zq2, zq3]
   refine tk 16 ?_
   refine doneL (by kernel_rfl) ?_ _
   clear hHeld
   have st := Lib.hid (show RedF n (col + D) col W V P d from ⟨col, by omega, hr, .inr rfl⟩)
   have h := Lib.hid (h.mono hBs); have B2 := Lib.hid B2
   clear hr KA B1
   go_wp2
   go_ret
   exact ⟨gW, _, _, _, _, _, _, rfl, h.out, st.out, B2.out⟩
end Go.Proofs.Ytkmfhabgempjiaa
/- Plain algebra: matrices made of each other have one characteristic polynomial; Hessenberg's form, step by step; its characteristic polynomial. -/
namespace Go.Proofs.Ytkmfhabgempjiaa
set_option maxHeartbeats 4000000
open CR
section
variable {R : Type} [CR R] {n m : Nat}
def rcl (H : Nat → Nat → R) (i k : Nat) (c : R) : Nat → Nat → R := fun a b => if a = i then H a b - c * H k b else H a b
def hcl (H : Nat → Nat → R) (i k : Nat) (c : R) : Nat → Nat → R := fun a b => if b = k then rcl H i k c a k + c * rcl H i k c a i else rcl H i k c a b
def xh (H : Nat → Nat → R) : Nat → Nat → Pol R := fun i k => (if i = k then mon 1 1 else 0) - mon (H i k) 0
theorem chi_xh (A : MT R n n) : chi A = dn n (xh A.e) := dn_congr n fun i k hi hk => by unfold XA; rw [MT.of_e _ hi hk]; rfl
end
end Go.Proofs.Ytkmfhabgempjiaa
/- hess.work: rows and columns change places. -/
namespace Go.Proofs.Ytkmfhabgempjiaa
set_option maxHeartbeats 4000000
open Go.RowKit
section
variable {α : Type} {V : World → Value → α → Prop} {e er : TypeId} {w : World} {base n N : Nat} {rv : Value} {vs : List Value} {W : Nat → Nat → α}
end
section
variable {p : Nat} {w : World} {base gW n : Nat} {H P H' P' : Nat → Nat → Zp p} {hs ps : List Value} {gh ch gp cp : Nat}
end
theorem cell_set_some {w : World} {p q : Addr} {x v : Value} (h : w.cell? q = some v) : ∃ v', (w.setCell p x).cell? q = some v' := by
 by_cases e : p = q
 ·subst e; exact ⟨x, World.cell?_setCell_same _ _ _ h⟩
 ·exact ⟨v, (World.cell?_setCell_other _ _ _ _ e).trans h⟩
end Go.Proofs.Ytkmfhabgempjiaa
/- hess.work: the characteristic polynomial of one row and column more. -/
namespace Go.Proofs.Ytkmfhabgempjiaa
set_option maxHeartbeats 4000000
open Go.RowKit
theorem pl1 {p : Nat} : pl p [1] = 1 := Pol.ext fun i => by rw [pl_c, Pol.one_def, c_mon]; cases i <;> rfl
end Go.Proofs.Ytkmfhabgempjiaa
/- hess: the characteristic polynomial. -/
namespace Go.Proofs.Ytkmfhabgempjiaa
set_option maxHeartbeats 4000000
open Go.RowKit
theorem Own.keptP {w w' : World} {base : Nat} {v : Value} {xs : List Nat} (h : Own .u64 27 w base v xs) {b1 n0 : Nat} {v0 : Value} {xs0 : List Value} (ho : w.ownsRow b1 43 1 v0 n0 xs0) (hg : w.grownBy w' v0.ownBlock) : Own .u64 27 w' base v xs := by
 refine World.ownsRow.kept h hg ?_
 rcases h.2 with ⟨h1, _⟩ | ⟨g, cap, cur, h1, _, h2, _⟩
 ·left; rw [h1]; rfl
 ·right
  intro e
  rw [h1] at e
  exact rowOwn_ne ho h2 (by decide) e.symm
end Go.Proofs.Ytkmfhabgempjiaa
/- hess: Hessenberg. -/
namespace Go.Proofs.Ytkmfhabgempjiaa
set_option maxHeartbeats 4000000
open Go.RowKit
end Go.Proofs.Ytkmfhabgempjiaa
/- hess: Companion. -/
namespace Go.Proofs.Ytkmfhabgempjiaa
set_option maxHeartbeats 4000000
open Go.RowKit
theorem getD_set1 (es : List Nat) (j x i : Nat) (hj : j < es.length) : (es.set j x).getD i 0 = if i = j then x else es.getD i 0 := by
 simp only [List.getD, List.getElem?_set]
 by_cases h : j = i
 ·subst h; simp [hj]
 ·rw [if_neg h, if_neg (fun e => h e.symm)]
theorem Own.headlt {k : IntKind} {e : TypeId} {w : World} {base g n cap : Nat} {xs : List Nat} (h : Own k e w base (.slice (some ⟨g, 0, none⟩) n cap) xs) : g < w.heap.size := by
 have := World.ownsRow.lt h g rfl
 exact this.2
end Go.Proofs.Ytkmfhabgempjiaa
/- hess: the characteristic polynomial of a companion; the awake of law 22. -/
namespace Go.Proofs.Ytkmfhabgempjiaa
set_option maxHeartbeats 4000000
open Go.RowKit
section
variable {p n : Nat} {zs : List Nat}
end
end Go.Proofs.Ytkmfhabgempjiaa
/- The reference of chapter 21: places, forms. -/
namespace Go.Proofs.Ytkmfhabgempjiaa
set_option maxHeartbeats 4000000
open Go.RowKit
theorem rf21_At (v : Value) (R : Int) (c i k p : Nat) (xs : List Nat) (w : World) (hp : 0 < p) (hm : Fm w v R c xs) (hi : i ≤ 1000) (hc : c ≤ 1000) (hk : k ≤ 1000) (hj : i * c + k < xs.length) (x : Nat) (hx : x = xs.getD (i * c + k) 0 % p) :
  Calls Try.prog 112 #[v, .int .i64 i, .int .i64 k, .int .u64 p] w (RetW w (.int .u64 (x : Nat))) := by
 obtain ⟨u, rfl, ao, b, off, cap, rfl, hcap, hz⟩ := hm
 have ha := hz.ao (by intro h; subst h; simp at hj)
 subst ha
 obtain ⟨wb, ew, KA, B0, hsz⟩ := boxes1 w 63 [.int .i64 R, .int .i64 c, .slice (some ⟨b, off, none⟩) xs.length cap]
 clear hsz
 have hw : i * c ≤ 1000 * 1000 := Nat.mul_le_mul hi hc
 obtain ⟨lo, elo⟩ : ∃ lo, lo = i * c := ⟨_, rfl⟩
 obtain ⟨ix, eix⟩ : ∃ ix, ix = lo + k := ⟨_, rfl⟩
 have h1 : IntKind.i64.wrap ((i : Int) * (c : Int)) = (lo : Int) := by rw [elo, ← Int.natCast_mul]; exact IntWalk.i64_in _ ⟨by omega, by omega⟩
 have h2 : IntKind.i64.wrap ((lo : Int) + (k : Int)) = (ix : Int) := by rw [eix, ← Int.natCast_add]; exact IntWalk.i64_in _ ⟨by omega, by omega⟩
 rw [← elo, ← eix] at hj hx
 have q1 := (hz.below B0 (Nat.le_refl _)).cell _ hj
 obtain ⟨y, ey⟩ : ∃ y, y = xs.getD ix 0 := ⟨_, rfl⟩
 rw [← ey] at hx q1
 have hz0 : ((p : Int) == 0) = false := by simpa using (show p ≠ 0 by omega)
 have hz1 : ¬ p = 0 := by omega
 have hr : (y : Int).tmod (p : Int) = (x : Int) := by rw [hx]; rfl
 have hr2 : (y : Int) % (p : Int) = (x : Int) := by rw [hx]; rfl
 clear hx ey elo eix hw hp
 go_enter Try.func112, Try.ntmps112
 go_upto_region 1 with (fail)
 rw [← ew]
 clear ew
 have c1 := KA.cell 1; have c2 := KA.cell 2
 clear KA
 go_wp2
 go_ret
 exact ⟨rfl, B0⟩
theorem rf21_Formed (v : Value) (R C : Int) (xs : List Nat) (w : World) (hm : Fm w v R C xs) (b : Bool) (hb : b = decide (Fd R C xs.length)) :
  Calls Try.prog 103 #[v] w (RetW w (.bool b)) := by
 obtain ⟨ao, ca, rfl⟩ := hm.agg
 obtain ⟨wb, ew, KA, B0, hsz⟩ := boxes1 w 63 [.int .i64 R, .int .i64 C, .slice ao xs.length ca]
 clear hsz hm
 by_cases h0 : R ≥ 0
 rotate_left
 ·obtain rfl : b = false := by rw [hb]; exact decide_eq_false (fun h => h0 h.1.1)
  clear hb
  have d0 : decide (R ≥ 0) = false := decide_eq_false (by omega)
  go_enter Try.func103, Try.ntmps103
  go_upto_region 1 with (fail)
  rw [← ew]
  clear ew
  have c0 := KA.cell 0; have c1 := KA.cell 1; have c2 := KA.cell 2
  go_wp2
  go_ret
  exact ⟨rfl, B0⟩
 by_cases h1 : R ≤ 64
 rotate_left
 ·obtain rfl : b = false := by rw [hb]; exact decide_eq_false (fun h => h1 h.1.2)
  clear hb
  have d0 : decide (R ≥ 0) = true := decide_eq_true (by omega)
  have d1 : decide (R ≤ 64) = false := decide_eq_false (by omega)
  go_enter Try.func103, Try.ntmps103
  go_upto_region 1 with (fail)
  rw [← ew]
  clear ew
  have c0 := KA.cell 0; have c1 := KA.cell 1; have c2 := KA.cell 2
  go_wp2
  go_ret
  exact ⟨rfl, B0⟩
 by_cases h2 : C ≥ 0
 rotate_left
 ·obtain rfl : b = false := by rw [hb]; exact decide_eq_false (fun h => h2 h.2.1.1)
  clear hb
  have d0 : decide (R ≥ 0) = true := decide_eq_true (by omega)
  have d1 : decide (R ≤ 64) = true := decide_eq_true (by omega)
  have d2 : decide (C ≥ 0) = false := decide_eq_false (by omega)
  go_enter Try.func103, Try.ntmps103
  go_upto_region 1 with (fail)
  rw [← ew]
  clear ew
  have c0 := KA.cell 0; have c1 := KA.cell 1; have c2 := KA.cell 2
  go_wp2
  go_ret
  exact ⟨rfl, B0⟩
 by_cases h3 : C ≤ 64
 rotate_left
 ·obtain rfl : b = false := by rw [hb]; exact decide_eq_false (fun h => h3 h.2.1.2)
  clear hb
  have d0 : decide (R ≥ 0) = true := decide_eq_true (by omega)
  have d1 : decide (R ≤ 64) = true := decide_eq_true (by omega)
  have d2 : decide (C ≥ 0) = true := decide_eq_true (by omega)
  have d3 : decide (C ≤ 64) = false := decide_eq_false (by omega)
  go_enter Try.func103, Try.ntmps103
  go_upto_region 1 with (fail)
  rw [← ew]
  clear ew
  have c0 := KA.cell 0; have c1 := KA.cell 1; have c2 := KA.cell 2
  go_wp2
  go_ret
  exact ⟨rfl, B0⟩
 by_cases h4 : (xs.length : Int) = R * C
 rotate_left
 ·obtain rfl : b = false := by rw [hb]; exact decide_eq_false (fun h => h4 h.2.2)
  clear hb
  have d0 : decide (R ≥ 0) = true := decide_eq_true (by omega)
  have d1 : decide (R ≤ 64) = true := decide_eq_true (by omega)
  have d2 : decide (C ≥ 0) = true := decide_eq_true (by omega)
  have d3 : decide (C ≤ 64) = true := decide_eq_true (by omega); have hw : IntKind.i64.wrap (R * C) = R * C := Sd.mul ⟨h0, h1⟩ ⟨h2, h3⟩
  have d4 : ((xs.length : Int) == R * C) = false := by simp [h4]
  go_enter Try.func103, Try.ntmps103
  go_upto_region 1 with (fail)
  rw [← ew]
  clear ew
  have c0 := KA.cell 0; have c1 := KA.cell 1; have c2 := KA.cell 2
  go_wp2
  go_ret
  exact ⟨rfl, B0⟩
 obtain rfl : b = true := by rw [hb]; exact decide_eq_true ⟨⟨h0, h1⟩, ⟨h2, h3⟩, h4⟩
 clear hb
 have d0 : decide (R ≥ 0) = true := decide_eq_true (by omega)
 have d1 : decide (R ≤ 64) = true := decide_eq_true (by omega)
 have d2 : decide (C ≥ 0) = true := decide_eq_true (by omega)
 have d3 : decide (C ≤ 64) = true := decide_eq_true (by omega); have hw : IntKind.i64.wrap (R * C) = R * C := Sd.mul ⟨h0, h1⟩ ⟨h2, h3⟩
 have d4 : ((xs.length : Int) == R * C) = true := by simp [h4]
 go_enter Try.func103, Try.ntmps103
 go_upto_region 1 with (fail)
 rw [← ew]
 clear ew
 have c0 := KA.cell 0; have c1 := KA.cell 1; have c2 := KA.cell 2
 go_wp2
 go_ret
 exact ⟨rfl, B0⟩
theorem rf21_Few (v : Value) (R C s : Int) (xs : List Nat) (w : World) (hm : Fm w v R C xs) (b : Bool) (hb : b = decide (R ≤ s ∧ C ≤ s ∧ xs.length ≤ 100)) :
  Calls Try.prog 52 #[v, .int .i64 s] w (RetW w (.bool b)) := by
 obtain ⟨ao, ca, rfl⟩ := hm.agg
 obtain ⟨wb, ew, KA, B0, hsz⟩ := boxes1 w 63 [.int .i64 R, .int .i64 C, .slice ao xs.length ca]
 clear hsz hm
 by_cases h0 : R ≤ s
 rotate_left
 ·obtain rfl : b = false := by rw [hb]; exact decide_eq_false (fun h => h0 h.1)
  clear hb
  have d0 : decide (R ≤ s) = false := decide_eq_false (by omega)
  go_enter Try.func52, Try.ntmps52
  go_upto_region 1 with (fail)
  rw [← ew]
  clear ew
  have c0 := KA.cell 0; have c1 := KA.cell 1; have c2 := KA.cell 2
  go_wp2
  go_ret
  exact ⟨rfl, B0⟩
 by_cases h1 : C ≤ s
 rotate_left
 ·obtain rfl : b = false := by rw [hb]; exact decide_eq_false (fun h => h1 h.2.1)
  clear hb
  have d0 : decide (R ≤ s) = true := decide_eq_true (by omega)
  have d1 : decide (C ≤ s) = false := decide_eq_false (by omega)
  go_enter Try.func52, Try.ntmps52
  go_upto_region 1 with (fail)
  rw [← ew]
  clear ew
  have c0 := KA.cell 0; have c1 := KA.cell 1; have c2 := KA.cell 2
  go_wp2
  go_ret
  exact ⟨rfl, B0⟩
 by_cases h2 : xs.length ≤ 100
 rotate_left
 ·obtain rfl : b = false := by rw [hb]; exact decide_eq_false (fun h => h2 h.2.2)
  clear hb
  have d0 : decide (R ≤ s) = true := decide_eq_true (by omega)
  have d1 : decide (C ≤ s) = true := decide_eq_true (by omega)
  have d2 : decide (((xs.length : Nat) : Int) ≤ 100) = false := decide_eq_false (by omega)
  go_enter Try.func52, Try.ntmps52
  go_upto_region 1 with (fail)
  rw [← ew]
  clear ew
  have c0 := KA.cell 0; have c1 := KA.cell 1; have c2 := KA.cell 2
  go_wp2
  go_ret
  exact ⟨rfl, B0⟩
 obtain rfl : b = true := by rw [hb]; exact decide_eq_true ⟨h0, h1, h2⟩
 clear hb
 have d0 : decide (R ≤ s) = true := decide_eq_true (by omega)
 have d1 : decide (C ≤ s) = true := decide_eq_true (by omega)
 have d2 : decide (((xs.length : Nat) : Int) ≤ 100) = true := decide_eq_true (by omega)
 go_enter Try.func52, Try.ntmps52
 go_upto_region 1 with (fail)
 rw [← ew]
 clear ew
 have c0 := KA.cell 0; have c1 := KA.cell 1; have c2 := KA.cell 2
 go_wp2
 go_ret
 exact ⟨rfl, B0⟩
end Go.Proofs.Ytkmfhabgempjiaa
/- The reference of chapter 21: matrices of one reading; Hessenberg's form. -/
namespace Go.Proofs.Ytkmfhabgempjiaa
set_option maxHeartbeats 4000000
open Go.RowKit
end Go.Proofs.Ytkmfhabgempjiaa
/- The reference of chapter 21: products. -/
namespace Go.Proofs.Ytkmfhabgempjiaa
set_option maxHeartbeats 4000000
open Go.RowKit
end Go.Proofs.Ytkmfhabgempjiaa
/- The reference of chapter 21: determinants. -/
namespace Go.Proofs.Ytkmfhabgempjiaa
set_option maxHeartbeats 4000000
open Go.RowKit
end Go.Proofs.Ytkmfhabgempjiaa
/- What comes in: matrices of words, opened. -/
namespace Go.Proofs.Ytkmfhabgempjiaa
set_option maxHeartbeats 4000000
open Go.ChangeShapes Go.WideShapes Go.ChangeAt Go.RowKit Go.Deep Go.Joins
section
variable {H : Type} {enc : TypeId × Value → H} {P : Program} {w : World} {base : Nat} {spare : Nat → Bool} {held : Bool}
theorem trod_words {t e : TypeId} {fuel : Nat} {v : Value} {x : DataW H × List MemPlace} (ht : P.underlying t = some (.slice e)) (he : P.underlying e = some (.int .u64)) (hc : P.cellsOf e = 1)
  (hf : DataW.trod enc P w base spare held fuel t [v] = some x) : ∃ xs, Sl .u64 w v xs ∧ wf W64 xs := by
 rcases open_ints ht he hc hf with ⟨hcs, _⟩ | ⟨x, l, c, zs, hcs, _, hl, hm, hz, _, hcell, hwz⟩
 ·simp at hcs
  subst hcs
  exact ⟨[], Sl.nil _ _, wf_nil _⟩
 ·simp at hcs
  subst hcs
  have hlz : l ≤ zs.length := by rw [hz]; split <;> omega
  have hlen : ((zs.take l).map Int.toNat).length = l := by simp; omega
  have hget : ∀ j, j < l → ((zs.take l).map Int.toNat).getD j 0 = (zs.getD j 0).toNat := by
   intro j hj
   simp [List.getD, hj]
   cases zs[j]? <;> rfl
  refine ⟨(zs.take l).map Int.toNat, ⟨some x, x.block, x.off, c, by rw [hlen], by rw [hlen]; exact hl, ?_, ?_⟩, ?_⟩
  ·intro hne
   have h0 : 0 < zs.length := by
    by_cases h : zs = []
    ·subst h; simp at hne
    ·exact List.length_pos_iff.2 h
   have := World.cell?_spot (hcell 0 h0)
   simp [Addr.add] at this
   obtain ⟨b, o, s⟩ := x
   simp at this; rw [this]
  ·intro j hj
   rw [hlen] at hj
   have hjz : j < zs.length := by omega
   have h1 := hcell j hjz
   have hwj := wf_u64_bounds (hwz (zs.getD j 0) (by simp [List.getD, List.getElem?_eq_getElem hjz]))
   rw [hget j hj]
   have e1 : (((zs.getD j 0).toNat : Nat) : Int) = zs.getD j 0 := by omega
   rw [e1, ← h1]
   congr 1
   have h0 : 0 < zs.length := by omega
   have := World.cell?_spot (hcell 0 h0)
   simp [Addr.add] at this
   obtain ⟨b, o, s⟩ := x
   simp at this; subst this
   unfold Addr.add; split
   ·rename_i h; subst h; rfl
   ·rfl
  ·intro y hy
   simp only [List.mem_map] at hy
   obtain ⟨z, hz1, rfl⟩ := hy
   have := wf_u64_bounds (hwz z (List.mem_of_mem_take hz1))
   unfold W64; omega
end
section
variable {H : Type} {enc : TypeId × Value → H} {w : World} {base : Nat} {spare : Nat → Bool} {held : Bool}
set_option maxRecDepth 100000 in
theorem open_fm {r : Reach} {b0 : Nat} {v : Value} {d : DataW H} {p : List MemPlace} (hv : Value.okWide Try.prog w r b0 63 v) (h : DataW.Trod enc Try.prog w base spare held 63 v d p) :
  ∃ (R C : Int) (xs : List Nat), Fm w v R C xs ∧ (-9223372036854775808 ≤ R ∧ R ≤ 9223372036854775807) ∧ (-9223372036854775808 ≤ C ∧ C ≤ 9223372036854775807) := by
 obtain ⟨v0, v1, v2, y0, y1, y2, n, rfl, -, -, h0, h1, h2⟩ := open_agg3 Try.underlying63 (by kernel_rfl) (by kernel_rfl) hv h
 obtain ⟨R, e0, -, w0⟩ := DataW.trod_int Try.underlying3 h0
 obtain ⟨C, e1, -, w1⟩ := DataW.trod_int Try.underlying3 h1
 obtain ⟨xs, hxs, -⟩ := trod_words Try.underlying41 Try.underlying27 (by kernel_rfl) h2
 simp at e0 e1; subst e0 e1
 exact ⟨R, C, xs, ⟨v2, rfl, hxs⟩, wf_i64_bounds w0, wf_i64_bounds w1⟩
end
end Go.Proofs.Ytkmfhabgempjiaa
/- Rows of rows of polynomials, that are read; an append of a window. -/
namespace Go.Proofs.Ytkmfhabgempjiaa
set_option maxHeartbeats 4000000
open Go.RowKit
def rowL (n : Nat) (U : Nat → Value) : List Value := (List.range n).map U
theorem rowL_length (n : Nat) (U : Nat → Value) : (rowL n U).length = n := by simp [rowL]
theorem rowL_get {n : Nat} {U : Nat → Value} {k : Nat} (hk : k < n) : (rowL n U)[k]? = some (U k) := by simp [rowL, hk]
theorem rowL_get' {n : Nat} {U : Nat → Value} {k : Nat} {u : Value} (h : (rowL n U)[k]? = some u) : k < n ∧ u = U k := by
 have hk : k < n := by have := (List.getElem?_eq_some_iff.1 h).1; rwa [rowL_length] at this
 rw [rowL_get hk] at h
 exact ⟨hk, (Option.some.inj h).symm⟩
theorem rowL_snoc (n : Nat) (U : Nat → Value) : rowL (n + 1) U = rowL n U ++ [U n] := by simp [rowL, List.range_succ]
theorem rowL_congr {n : Nat} {U V : Nat → Value} (h : ∀ k, k < n → U k = V k) : rowL n U = rowL n V := List.map_congr_left fun k hk => h k (List.mem_range.1 hk)
theorem win_news {w : World} {b o n : Nat} {U : Nat → Value} (h : ∀ k, k < n → w.cell? ⟨b, o + k, none⟩ = some (U k)) (lo m : Nat) (hm : lo + m ≤ n) : ∀ j u, (rowL m (fun j => U (lo + j)))[j]? = some u → w.cell? ((⟨b, o + lo, none⟩ : Addr).add j) = some u := by
 intro j u hj
 obtain ⟨h1, rfl⟩ := rowL_get' hj
 have e : (⟨b, o + lo, none⟩ : Addr).add j = ⟨b, o + (lo + j), none⟩ := by
  unfold Addr.add; split
  ·rename_i h; subst h; rfl
  ·simp [Nat.add_assoc]
 rw [e]
 exact h (lo + j) (by omega)
section
variable {p : Nat}
end
end Go.Proofs.Ytkmfhabgempjiaa
