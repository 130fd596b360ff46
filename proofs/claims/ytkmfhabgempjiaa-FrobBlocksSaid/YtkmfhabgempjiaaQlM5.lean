/- Package fmat: Norm, Identity, Add, Scale, Mul, Transpose. -/
import Derived.ChangeSame
import Derived.Lib.SmallJoins
import Derived.Test.YtkmfhabgempjiaaQlM4
import Derived.Test.YtkmfhabgempjiaaQlM1
import Derived.Test.YtkmfhabgempjiaaQlM2
namespace Go.Proofs.Ytkmfhabgempjiaa
set_option maxHeartbeats 1000000
open Go.RowKit
def RetFE (p : Nat) (w : World) (r c : Nat) (M : MT (Zp p) r c) (e : Ending) (w' : World) : Prop :=
 ∃ ao k, e = .returned (.tuple #[.agg #[.int .i64 r, .int .i64 c, .slice ao (tbv M).length k], .int .i64 0]) ∧ Own .u64 27 w' w.heap.size (.slice ao (tbv M).length k) (tbv M) ∧ Below w.heap.size w w'
def RetFX (w : World) (ec : Int) (e : Ending) (w' : World) : Prop := e = .returned (.tuple #[.agg #[.int .i64 0, .int .i64 0, .slice none 0 0], .int .i64 ec]) ∧ Below w.heap.size w w'
theorem fm_Mul (p : Nat) (a b : Value) (r m c : Nat) (xs ys : List Nat) (w : World) (hp : FP p) (hA : Fm w a r m xs) (hB : Fm w b m c ys) (hr : r ≤ 64) (hm : m ≤ 64) (hc : c ≤ 64) (hx : xs.length = r * m) (hy : ys.length = m * c) :
  Calls Try.prog 116 #[.agg #[.int .u64 p], a, b] w (RetFE p w r c (mx p r m xs * mx p m c ys)) := by
 obtain ⟨aA, cA, rfl⟩ := hA.agg
 obtain ⟨aB, cB, rfl⟩ := hB.agg
 obtain ⟨wb, ew, KF, KA, KB, KR, B0, hsz⟩ := boxes4 w 29 63 63 63 [.int .u64 p] [.int .i64 r, .int .i64 m, .slice aA xs.length cA] [.int .i64 m, .int .i64 c, .slice aB ys.length cB] [.int .i64 0, .int .i64 0, .slice none 0 0]
 clear hsz
 replace hA := hA.next B0; replace hB := hB.next B0
 have HX := Lib.hid hx; have HY := Lib.hid hy; clear hx hy
 have HP := Lib.hid hp; clear hp
 obtain ⟨M, eM⟩ : ∃ M, M = mx p r m xs * mx p m c ys := ⟨_, rfl⟩
 rw [← eM]
 have HZ := Lib.hid (show ∀ i k, i < r → k < c → (M.e i k).val = (dotp p xs ys m c i k m).val from fun i k hi hk => by
  rw [eM, MT.e_mul]; unfold dotp; rw [sm_congr fun j hj => by rw [mx_e _ hi hj, mx_e _ hj hk]])
 have EM := Lib.hid (mt_val M).symm
 clear eM
 have hmm : ((m : Int) != (m : Int)) = false := by simp
 go_enter Try.func116, Try.ntmps116
 go_wp2_with fail
 rw [← ew]
 obtain ⟨g, eg⟩ : ∃ g, g = w.heap.size + 1 + 1 + 1 := ⟨_, rfl⟩
 rw [← eg] at KR ⊢
 have hgw : w.heap.size ≤ g := by omega
 clear ew eg
 refine (fm_Formed_yes _ r m xs _ hA (Fd.of hr hm HX.out)).mono ?_; rintro e w2 ⟨rfl, b2⟩
 replace hA := hA.next b2; replace hB := hB.next b2; replace KF := KF.next b2; replace KA := KA.next b2; replace KB := KB.next b2; replace KR := KR.next b2
 replace B0 := B0.trans (b2.mono B0.size)
 clear b2
 have fKB0 := KB.cell 0; have fKB1 := KB.cell 1; have fKB2 := KB.cell 2
 go_wp2_with fail
 refine (fm_Formed_yes _ m c ys _ hB (Fd.of hm hc HY.out)).mono ?_; rintro e w4 ⟨rfl, b4⟩
 replace hA := hA.next b4; replace hB := hB.next b4; replace KF := KF.next b4; replace KA := KA.next b4; replace KB := KB.next b4; replace KR := KR.next b4
 replace B0 := B0.trans (b4.mono B0.size)
 clear b4
 clear fKB0 fKB1 fKB2
 have fKF0 := KF.cell 0; have fKA0 := KA.cell 0; have fKA1 := KA.cell 1; have fKB0 := KB.cell 0; have fKB1 := KB.cell 1
 go_wp2_with fail
 refine (fm_made p r c HP.out (by omega) (by omega) 149 (enters_of Try.func149 rfl rfl) [.pointer (some ⟨w.heap.size + 1, 0, none⟩), .pointer (some ⟨w.heap.size, 0, none⟩), .pointer (some ⟨w.heap.size + 1 + 1, 0, none⟩)] (fun i k => (M.e i k).val) _ (fun i k w' hi hk hb =>
  fm_Mul1 p i k w' HP.out (by omega) (by omega) r m m c xs ys _ (KF.next hb) _ _ _ (KA.next hb) (hA.next hb) _ _ _ (KB.next hb) (hB.next hb) hm (by omega) (fun j hj => at_lt HX.out hi hj) (fun j hj => at_lt HY.out hj hk) _ (HZ.out i k hi hk))).mono ?_; rintro e w3 ⟨a3, k3, rfl, o3, b3⟩
 clear fKF0 fKA0 fKA1 fKB0 fKB1
 clear KF KA KB hA hB
 rw [← EM.out] at o3 ⊢
 have hgb := KR.lt
 replace KR := KR.next b3
 replace B0 := B0.trans (b3.mono B0.size)
 clear b3
 have f0 := KR.free 0; have f1 := KR.free 1; have f2 := KR.free 2
 have c0 := KR.cell 0; have c1 := KR.cell 1; have c2 := KR.cell 2
 have KF := ((KR.set 0 (.int .i64 (r : Nat))).set 1 (.int .i64 (c : Nat))).set 2 (.slice a3 (tbv M).length k3)
 have d0 := KF.cell 0; have d1 := KF.cell 1; have d2 := KF.cell 2
 have of := ((o3.low (a := ⟨g, 0, none⟩) hgb (.int .i64 (r : Nat))).low (a := ⟨g, 1, none⟩) hgb (.int .i64 (c : Nat))).low (a := ⟨g, 2, none⟩) hgb (.slice a3 (tbv M).length k3)
 have BF := ((B0.setCell (p := ⟨g, 0, none⟩) hgw (.int .i64 (r : Nat))).setCell (p := ⟨g, 1, none⟩) hgw (.int .i64 (c : Nat))).setCell (p := ⟨g, 2, none⟩) hgw (.slice a3 (tbv M).length k3)
 have FR := Lib.hid (show RetFE p w r c M (.returned (.tuple #[.agg #[.int .i64 (r : Nat), .int .i64 (c : Nat), .slice a3 (tbv M).length k3], .int .i64 0])) (((w3.setCell ⟨g, 0, none⟩ (.int .i64 (r : Nat))).setCell ⟨g, 1, none⟩ (.int .i64 (c : Nat))).setCell ⟨g, 2, none⟩ (.slice a3 (tbv M).length k3)) from ⟨_, _, rfl, of.mono (by omega), BF⟩)
 clear KF KR of BF B0 o3
 go_wp2
 exact bodyPost_ret (v := .tuple #[.agg #[.int .i64 (r : Nat), .int .i64 (c : Nat), .slice a3 (tbv M).length k3], .int .i64 0]) (by simp [results, Try.results116, go_sem, d0, d1, d2]) rfl FR.out
end Go.Proofs.Ytkmfhabgempjiaa
/- slices.IndexFunc of rows; which row has something in a column. -/
namespace Go.Proofs.Ytkmfhabgempjiaa
set_option maxHeartbeats 1000000
open Go.RowKit
theorem gfp_Sub0 (p a z : Nat) (w : World) (hp : FP p) (hz : z = (-Zp.of p a).val) : Calls Try.prog 136 #[.agg #[.int .u64 p], .int .u64 0, .int .u64 a] w (RetW w (.int .u64 (z : Nat))) :=
 gfp_Sub p 0 a z w hp (by rw [hz, Zp.of_zero, CR.zero_sub])
theorem gfp_Neg (p a z : Nat) (w : World) (hp : FP p) (hz : z = (-Zp.of p a).val) : Calls Try.prog 110 #[.agg #[.int .u64 p], .int .u64 a] w (RetW w (.int .u64 (z : Nat))) := by
 obtain ⟨wb, ew, KF, B0, hsz⟩ := boxes1 w 29 [.int .u64 p]
 clear hsz
 have HP := Lib.hid hp; have HZ := Lib.hid hz; clear hp hz
 have f0 := KF.cell 0
 go_enter Try.func110, Try.ntmps110
 go_upto_region 1 with (fail)
 rw [← ew]
 clear ew KF
 go_wp2_with fail
 refine (gfp_Sub0 p a z _ HP.out HZ.out).mono ?_; rintro e w2 ⟨rfl, b2⟩
 go_wp2
 go_ret
 exact ⟨rfl, B0.trans (b2.mono B0.size)⟩
end Go.Proofs.Ytkmfhabgempjiaa
/- A region that draws its order and stores twice: one condition on the world ahead of the first store, none behind it. -/
namespace Go.Proofs.Ytkmfhabgempjiaa
set_option maxHeartbeats 1000000
open Go
section
variable {P : Program} {ops : Array Oper} {Q : Exit → Act → World → Prop} {S : World → Prop} {m : Nat}
def SSc (S : World → Prop) (m : Nat) (l : Array Bool) (w : World) : Prop := l.getD m false = false → S w
def wpAnyD (P : Program) (ops : Array Oper) (Q : Exit → Act → World → Prop) (S : World → Prop) (m : Nat) : Nat → Array Bool → Act → World → Prop
 | 0, listed, a, w => Region.ready .any ops listed = [] ∧ Q .normal a w
 | fuel + 1, listed, a, w =>
  (Region.ready .any ops listed = [] → Q .normal a w) ∧
  ∀ i ∈ Region.ready .any ops listed, wpOp P ops Q i (fun a' w' => SSc S m (listed.setIfInBounds i true) w' ∧ wpAnyD P ops Q S m fuel (listed.setIfInBounds i true) a' w') a w
theorem wpAny_of_D : ∀ (fuel : Nat) (listed : Array Bool) (a : Act) (w : World), wpAnyD P ops Q S m fuel listed a w → wpAny P .any ops Q fuel listed a w
 | 0, _, _, _, h => h
 | fuel + 1, _, _, _, h => ⟨h.1, fun i hi => wpOp_mono (fun a' w' h' => wpAny_of_D fuel _ a' w' h'.2) (h.2 i hi)⟩
theorem D_of_H : ∀ (fuel : Nat) (listed : Array Bool) (a : Act) (w : World), listed.getD m false = true → wpAnyH P .any ops Q (fun _ => True) fuel listed a w → wpAnyD P ops Q S m fuel listed a w
 | 0, _, _, _, _, h => h
 | fuel + 1, listed, _, _, hm, h => ⟨h.1, fun i hi => wpOp_mono (fun a' w' h' => ⟨fun e => (by have := getD_set_true (i := i) hm; rw [this] at e; cases e), D_of_H fuel _ a' w' (getD_set_true hm) h'.2⟩) (h.2 i hi)⟩
theorem not_ready {listed : Array Bool} {i j : Nat} {oj : Oper} (hr : i ∈ Region.ready .any ops listed) (hj : j ∈ Region.ready .any ops listed) (ho : ops[j]? = some oj) : ∀ e ∈ oj.after, Region.binds .any e = true → e.on ≠ i := by
 obtain ⟨_, o, hoj, hall⟩ := mem_ready.1 hj
 obtain rfl : o = oj := Option.some.inj (hoj.symm.trans ho)
 intro e he hb heq
 have h1 := hall e he hb
 have h0 := (mem_ready.1 hr).1
 rw [heq] at h1
 rcases Nat.lt_or_ge i listed.size with h' | h'
 ·simp [h'] at h0 h1; rw [h0] at h1; cases h1
 ·simp [Array.getElem?_eq_none h'] at h1
theorem SSc.set {i : Nat} (him : i ≠ m) {l : Array Bool} {w : World} : SSc S m (l.setIfInBounds i true) w ↔ SSc S m l w := by
 unfold SSc; rw [getD_set_ne false him]
theorem firstD {i : Nat} {oi : Oper} {v : Value} {U : World → Prop} (hi : ops[i]? = some oi) (hsel : ∀ (j : Nat) (o : Oper) cs b, ops[j]? = some o → o.op ≠ .select cs b)
  (hQ : ∀ c a w, Q (.panic c) (a.put oi.dst v) w → Q (.panic c) a w) (him : i ≠ m)
  (hU : (∀ w, U w) ∨ ((∀ w, S w → U w) ∧ ∃ om, ops[m]? = some om ∧ ∃ e ∈ om.after, Region.binds .any e = true ∧ e.on = i)) :
  ∀ (fuel : Nat) (listed : Array Bool) (a : Act) (w : World),
   (∀ j oj, ops[j]? = some oj → j ≠ i → listed.getD j true = false → (∀ e ∈ oj.after, Region.binds .any e = true → e.on ≠ i) → oi.apart ops oj = true) →
   i ∈ Region.ready .any ops listed → ((∀ w, U w) ∨ listed.getD m false = false) → YieldsIf P ops U oi v a → SSc S m listed w →
   wpAnyD P ops Q S m fuel (listed.setIfInBounds i true) (a.put oi.dst v) w → wpAnyD P ops Q S m (fuel + 1) listed a w := by
 intro fuel
 induction fuel with
 | zero =>
  intro listed a w _ hr hl hy hS H
  have hUw : U w := hl.elim (fun h => h w) (fun h => hU.elim (fun k => k w) (fun k => k.1 w (hS h)))
  refine ⟨fun h => (by rw [h] at hr; cases hr), fun j hj => ?_⟩
  by_cases hji : j = i
  ·subst hji; exact hy.wpOp hi hUw ⟨(SSc.set him).2 hS, H⟩
  ·have := ready_mono hj hji
   rw [H.1] at this
   cases this
 | succ fuel ih =>
  intro listed a w hfree hr hl hy hS H
  have hUw : U w := hl.elim (fun h => h w) (fun h => hU.elim (fun k => k w) (fun k => k.1 w (hS h)))
  refine ⟨fun h => (by rw [h] at hr; cases hr), fun j hj => ?_⟩
  by_cases hji : j = i
  ·subst hji; exact hy.wpOp hi hUw ⟨(SSc.set him).2 hS, H⟩
  ·have h1 := H.2 j (ready_mono hj hji)
   obtain ⟨hjun, oj, hoj, hall⟩ := mem_ready.1 hj
   have hnot := not_ready hr hj hoj
   have h2 := wpOp_putIf hoj (hfree j oj hoj hji hjun hnot) (fun cs b => hsel i oi cs b hi) (fun cs b => hsel j oj cs b hoj) hQ hy h1
   have hfree' : ∀ k ok, ops[k]? = some ok → k ≠ i → (listed.setIfInBounds j true).getD k true = false →
     (∀ e ∈ ok.after, Region.binds .any e = true → e.on ≠ i) → oi.apart ops ok = true := fun k ok hk hki hun hno => by
    refine hfree k ok hk hki ?_ hno
    by_cases hjk : j = k
    ·subst hjk; exact hjun
    ·rw [getD_set_ne true hjk] at hun; exact hun
   have hl' : (∀ w, U w) ∨ (listed.setIfInBounds j true).getD m false = false := by
    rcases hl with h | h
    ·exact .inl h
    ·rcases hU with hU | ⟨_, om, hom, e, he, hb, heq⟩
     ·exact .inl hU
     ·have hjm : j ≠ m := by
       intro hjm; subst hjm
       obtain rfl : oj = om := Option.some.inj (hoj.symm.trans hom)
       exact hnot e he hb heq
      exact .inr (by rw [getD_set_ne false hjm]; exact h)
   refine wpOp_mono (fun a' w' h3 => ?_) h2
   have h4 := h3.2.1
   have h5 := h3.2.2
   rw [← Array.setIfInBounds_comm _ _ hji] at h4 h5
   have hSw := (SSc.set him).1 h4
   exact ⟨hSw, ih (listed.setIfInBounds j true) a' w' hfree' (ready_mono hr (Ne.symm hji)) hl' h3.1 hSw h5⟩
end
section
variable {P : Program} {l : List Oper} {Q : Exit → Act → World → Prop} {S : World → Prop} {m : Nat}
theorem startD {id : Nat} {a : Act} {w : World} (m : Nat) (hm : P.follows .mixedOrders = true) (hS : S w.drew)
  (h : S w.drew → wpAnyD P l.toArray Q S m l.length (Array.replicate l.length false) a w.drew) : (Code.region id l.toArray true).wp P Q a w := by
 refine wp_region_any hm (wpAny_of_D (S := S) (m := m) _ _ _ _ ?_)
 simpa using h hS
theorem takeDA {fuel : Nat} {listed : Array Bool} {a : Act} {w : World} (i : Nat) {oi : Oper} {v : Value} (hi : l[i]? = some oi)
  (hs : Region.noSelect l.toArray = true) (hf : Region.free .any l.toArray listed i = true) (hr : (Region.ready .any l.toArray listed).contains i = true)
  (hQ : ∀ c a w, Q (.panic c) (a.put oi.dst v) w → Q (.panic c) a w) (him : i ≠ m) (hy : Region.wanted oi (yielded l.toArray a.tmps) = true ∧ ∀ w, (execOp a.eval oi).run P w = .ok (.value v) w) (hS : S w)
  (h : wpAnyD P l.toArray Q S m fuel (listed.setIfInBounds i true) (a.put oi.dst v) w) : wpAnyD P l.toArray Q S m (fuel + 1) listed a w :=
 firstD (U := fun _ => True) (by simpa using hi) (Region.noSelect_spec hs) hQ him (.inl fun _ => trivial) fuel listed a w (Region.free_spec (by simpa using hi) hf) (by simpa using hr) (.inl fun _ => trivial) (.inl ⟨hy.1, fun w _ => hy.2 w⟩) (fun _ => hS) h
def waitsB (l : List Oper) (m i : Nat) : Bool := match l[m]? with
 | some o => o.after.toList.any fun e => Region.binds .any e && e.on == i
 | none => false
theorem waits_spec {i : Nat} (h : waitsB l m i = true) : ∃ om, l.toArray[m]? = some om ∧ ∃ e ∈ om.after, Region.binds .any e = true ∧ e.on = i := by
 unfold waitsB at h
 cases ho : l[m]? with
 | none => rw [ho] at h; cases h
 | some o =>
  rw [ho] at h
  obtain ⟨e, he, hb⟩ := List.any_eq_true.1 h
  simp only [Bool.and_eq_true, beq_iff_eq] at hb
  exact ⟨o, by simpa using ho, e, Array.mem_toList_iff.1 he, hb.1, hb.2⟩
theorem takeD0 {fuel : Nat} {listed : Array Bool} {a : Act} {w : World} (i : Nat) {oi : Oper} {v : Value} (hi : l[i]? = some oi)
  (hs : Region.noSelect l.toArray = true) (hf : Region.free .any l.toArray listed i = true) (hr : (Region.ready .any l.toArray listed).contains i = true)
  (hQ : ∀ c a w, Q (.panic c) (a.put oi.dst v) w → Q (.panic c) a w) (him : i ≠ m) (hw : waitsB l m i = true) (hl : listed.getD m false = false)
  (hy : Region.wanted oi (yielded l.toArray a.tmps) = true ∧ ∀ w, S w → (execOp a.eval oi).run P w = .ok (.value v) w) (hS : S w)
  (h : wpAnyD P l.toArray Q S m fuel (listed.setIfInBounds i true) (a.put oi.dst v) w) : wpAnyD P l.toArray Q S m (fuel + 1) listed a w :=
 firstD (U := S) (by simpa using hi) (Region.noSelect_spec hs) hQ him (.inr ⟨fun _ h => h, waits_spec hw⟩) fuel listed a w (Region.free_spec (by simpa using hi) hf) (by simpa using hr) (.inr hl) (.inl hy) (fun _ => hS) h
theorem oneD {fuel : Nat} {listed : Array Bool} {a : Act} {w : World} (i : Nat) {o : Oper} (hi : l[i]? = some o) (hr : Region.ready .any l.toArray listed = [i])
  (hw : Region.wanted o (yielded l.toArray a.tmps) = true)
  (h : ∀ K' : Act → World → Prop, Shut (∀ a w, S w → (S w → wpAnyD P l.toArray Q S m fuel (listed.setIfInBounds i true) a w) → K' a w) → Oper.wp P o a w K' Q) : wpAnyD P l.toArray Q S m (fuel + 1) listed a w := by
 refine ⟨fun h0 => (by rw [hr] at h0; cases h0), fun j hj => ?_⟩
 rw [hr] at hj
 obtain rfl := List.mem_singleton.1 hj
 refine wpOp_step (by simpa using hi) (fun K' hK => ?_)
 rw [if_pos hw]
 exact h K' (fun a w hS hW => hK a w ⟨fun _ => hS, hW hS⟩)
theorem oneM {fuel : Nat} {listed : Array Bool} {a : Act} {w : World} {o : Oper} (hi : l[m]? = some o) (hr : Region.ready .any l.toArray listed = [m]) (hl : m < listed.size)
  (hw : Region.wanted o (yielded l.toArray a.tmps) = true)
  (h : ∀ K' : Act → World → Prop, Shut (∀ a w, wpAnyH P .any l.toArray Q (fun _ => True) fuel (listed.setIfInBounds m true) a w → K' a w) → Oper.wp P o a w K' Q) : wpAnyD P l.toArray Q S m (fuel + 1) listed a w := by
 refine ⟨fun h0 => (by rw [hr] at h0; cases h0), fun j hj => ?_⟩
 rw [hr] at hj
 obtain rfl := List.mem_singleton.1 hj
 have hm : (listed.setIfInBounds j true).getD j false = true := by simp [hl]
 refine wpOp_step (by simpa using hi) (fun K' hK => ?_)
 rw [if_pos hw]
 exact h K' (fun a w hW => hK a w ⟨fun e => (by rw [hm] at e; cases e), D_of_H _ _ _ _ hm hW⟩)
end
end Go.Proofs.Ytkmfhabgempjiaa
/- Plain algebra: matrices made of each other have one characteristic polynomial; Hessenberg's form, step by step; its characteristic polynomial. -/
namespace Go.Proofs.Ytkmfhabgempjiaa
set_option maxHeartbeats 1000000
open CR
section
variable {R : Type} [CR R] {n m : Nat}
def rcl (H : Nat → Nat → R) (i k : Nat) (c : R) : Nat → Nat → R := fun a b => if a = i then H a b - c * H k b else H a b
def hcl (H : Nat → Nat → R) (i k : Nat) (c : R) : Nat → Nat → R := fun a b => if b = k then rcl H i k c a k + c * rcl H i k c a i else rcl H i k c a b
def xh (H : Nat → Nat → R) : Nat → Nat → Pol R := fun i k => (if i = k then mon 1 1 else 0) - mon (H i k) 0
theorem chi_xh (A : MT R n n) : chi A = dn n (xh A.e) := dn_congr n fun i k hi hk => by unfold XA; rw [MT.of_e _ hi hk]; rfl
end
end Go.Proofs.Ytkmfhabgempjiaa
/- hess.work: rows and columns change places. -/
namespace Go.Proofs.Ytkmfhabgempjiaa
set_option maxHeartbeats 1000000
open Go.RowKit
section
variable {α : Type} {V : World → Value → α → Prop} {e er : TypeId} {w : World} {base n N : Nat} {rv : Value} {vs : List Value} {W : Nat → Nat → α}
end
section
variable {p : Nat} {w : World} {base gW n : Nat} {H P H' P' : Nat → Nat → Zp p} {hs ps : List Value} {gh ch gp cp : Nat}
end
theorem cell_set_some {w : World} {p q : Addr} {x v : Value} (h : w.cell? q = some v) : ∃ v', (w.setCell p x).cell? q = some v' := by
 by_cases e : p = q
 ·subst e; exact ⟨x, World.cell?_setCell_same _ _ _ h⟩
 ·exact ⟨v, (World.cell?_setCell_other _ _ _ _ e).trans h⟩
end Go.Proofs.Ytkmfhabgempjiaa
/- hess.work: the characteristic polynomial of one row and column more. -/
namespace Go.Proofs.Ytkmfhabgempjiaa
set_option maxHeartbeats 1000000
open Go.RowKit
theorem pl1 {p : Nat} : pl p [1] = 1 := Pol.ext fun i => by rw [pl_c, Pol.one_def, c_mon]; cases i <;> rfl
end Go.Proofs.Ytkmfhabgempjiaa
/- hess: the characteristic polynomial. -/
namespace Go.Proofs.Ytkmfhabgempjiaa
set_option maxHeartbeats 1000000
open Go.RowKit
theorem Own.keptP {w w' : World} {base : Nat} {v : Value} {xs : List Nat} (h : Own .u64 27 w base v xs) {b1 n0 : Nat} {v0 : Value} {xs0 : List Value} (ho : w.ownsRow b1 43 1 v0 n0 xs0) (hg : w.grownBy w' v0.ownBlock) : Own .u64 27 w' base v xs := by
 refine World.ownsRow.kept h hg ?_
 rcases h.2 with ⟨h1, _⟩ | ⟨g, cap, cur, h1, _, h2, _⟩
 ·left; rw [h1]; rfl
 ·right
  intro e
  rw [h1] at e
  exact rowOwn_ne ho h2 (by decide) e.symm
end Go.Proofs.Ytkmfhabgempjiaa
/- hess: Hessenberg. -/
namespace Go.Proofs.Ytkmfhabgempjiaa
set_option maxHeartbeats 1000000
open Go.RowKit
end Go.Proofs.Ytkmfhabgempjiaa
/- hess: Companion. -/
namespace Go.Proofs.Ytkmfhabgempjiaa
set_option maxHeartbeats 1000000
open Go.RowKit
theorem ix_inj {n a b c d : Nat} (hb : b < n) (hd : d < n) (h : a * n + b = c * n + d) : a = c ∧ b = d := by
 have h1 : a = c := by
  rcases Nat.lt_trichotomy a c with h' | h' | h'
  ·have := Nat.mul_le_mul_right n (show a + 1 ≤ c from h'); rw [Nat.succ_mul] at this; omega
  ·exact h'
  ·have := Nat.mul_le_mul_right n (show c + 1 ≤ a from h'); rw [Nat.succ_mul] at this; omega
 subst h1; exact ⟨rfl, by omega⟩
theorem getD_set1 (es : List Nat) (j x i : Nat) (hj : j < es.length) : (es.set j x).getD i 0 = if i = j then x else es.getD i 0 := by
 simp only [List.getD, List.getElem?_set]
 by_cases h : j = i
 ·subst h; simp [hj]
 ·rw [if_neg h, if_neg (fun e => h e.symm)]
def cmp (p n : Nat) (zs : List Nat) : MT (Zp p) n n := MT.of n n fun i k => if k + 1 = n then -Zp.of p (zs.getD i 0) else if k + 1 = i then 1 else 0
theorem Own.headlt {k : IntKind} {e : TypeId} {w : World} {base g n cap : Nat} {xs : List Nat} (h : Own k e w base (.slice (some ⟨g, 0, none⟩) n cap) xs) : g < w.heap.size := by
 have := World.ownsRow.lt h g rfl
 exact this.2
def CoL (p n : Nat) (zs : List Nat) (i : Nat) (es : List Nat) : Prop := es.length = n * n ∧ ∀ a b, a < n → b < n → es.getD (a * n + b) 0 = if a < i then ((cmp p n zs).e a b).val else 0
def CoL1 (n i : Nat) (T : Nat → Nat → Nat) (es : List Nat) : Prop := es.length = n * n ∧ ∀ a b, a < n → b < n → es.getD (a * n + b) 0 = if a < i then T a b else if a = i ∧ b + 1 = i then 1 else 0
theorem CoL.sub {p n : Nat} {zs : List Nat} {i : Nat} {es : List Nat} (h : CoL p n zs i es) (hi : i < n) {l : Nat} (hl : i = l + 1) : CoL1 n i (fun a b => ((cmp p n zs).e a b).val) (es.set (i * n + l) 1) := by
 have hlt := at_lt (n := es.length) h.1 hi (show l < n by omega)
 refine ⟨by rw [List.length_set]; exact h.1, fun a b ha hb => ?_⟩
 rw [getD_set1 _ _ _ _ hlt, h.2 a b ha hb]
 by_cases e : a = i ∧ b = l
 ·rw [if_pos (by rw [e.1, e.2]), if_neg (by omega), if_pos (by omega)]
 ·rw [if_neg (fun h => e (ix_inj hb (by omega) h))]
  by_cases e2 : a < i
  ·rw [if_pos e2, if_pos e2]
  ·rw [if_neg e2, if_neg e2, if_neg (by omega)]
theorem CoL.zero {p n : Nat} {zs : List Nat} {es : List Nat} (h : CoL p n zs 0 es) : CoL1 n 0 (fun a b => ((cmp p n zs).e a b).val) es :=
 ⟨h.1, fun a b ha hb => by rw [h.2 a b ha hb, if_neg (by omega), if_neg (by omega), if_neg (by omega)]⟩
theorem CoL1.read {n i : Nat} {T : Nat → Nat → Nat} {es : List Nat} (h : CoL1 n i T es) (hi : i < n) {m : Nat} (hm : n = m + 1) : es.getD (i * n + m) 0 = 0 := by
 rw [h.2 i m hi (by omega), if_neg (by omega), if_neg (by omega)]
theorem CoL1.last {p n : Nat} {zs : List Nat} {i : Nat} {es : List Nat} (hp : FP p) (h : CoL1 n i (fun a b => ((cmp p n zs).e a b).val) es) (hi : i < n) {m : Nat} (hm : n = m + 1) {z : Nat} (hz : z = (-Zp.of p (zs.getD i 0)).val) : CoL p n zs (i + 1) (es.set (i * n + m) z) := by
 have hlt := at_lt (n := es.length) h.1 hi (show m < n by omega)
 refine ⟨by rw [List.length_set]; exact h.1, fun a b ha hb => ?_⟩
 rw [getD_set1 _ _ _ _ hlt, h.2 a b ha hb]
 by_cases e : a = i ∧ b = m
 ·obtain ⟨rfl, rfl⟩ := e
  rw [if_pos rfl, if_pos (by omega)]
  unfold cmp
  rw [MT.of_e _ ha hb, if_pos hm.symm, hz]
 ·rw [if_neg (fun h => e (ix_inj hb (by omega) h))]
  by_cases e2 : a < i
  ·rw [if_pos e2, if_pos (by omega)]
  ·rw [if_neg e2]
   by_cases e3 : a = i
   ·subst e3
    rw [if_pos (show a < a + 1 by omega)]
    unfold cmp
    rw [MT.of_e _ ha hb, if_neg (show ¬ b + 1 = n by omega)]
    by_cases e4 : b + 1 = a
    ·rw [if_pos ⟨rfl, e4⟩, if_pos e4]
     rw [← Zp.of_one, Zp.val_of, Nat.mod_eq_of_lt (by have := hp.1; omega)]
    ·rw [if_neg (fun h => e4 h.2), if_neg e4]; rfl
   ·rw [if_neg (fun h => e3 h.1), if_neg (show ¬ a < i + 1 by omega)]
theorem CoL.start (p n : Nat) (zs : List Nat) : CoL p n zs 0 (List.replicate (n * n) 0) := ⟨by simp, fun a b _ _ => by
 rw [if_neg (by omega)]
 simp only [List.getD, List.getElem?_replicate]
 split <;> rfl⟩
theorem CoL.all {p n : Nat} {zs es : List Nat} (h : CoL p n zs n es) : es = tbv (cmp p n zs) := by
 rw [list_ftab h.1]
 unfold tbv
 exact ftab_congr fun i k hi hk => by rw [h.2 i k hi hk, if_pos hi]
theorem gfp_Add0 (p b z : Nat) (w : World) (hp : FP p) (hz : z = (Zp.of p 0 + Zp.of p b).val) : Calls Try.prog 117 #[.agg #[.int .u64 p], .int .u64 0, .int .u64 b] w fun e w' => e = .returned (.int .u64 (z : Nat)) ∧ Below w.heap.size w w' := gfp_Add p 0 b z w hp hz
def CoR (w1 wr : World) (n N gE gM : Nat) (Q : List Nat → Prop) : Prop := ∃ es, Own .u64 27 wr gE (.slice (some ⟨gE, 0, none⟩) N N) es ∧ es.length = N ∧ Q es ∧ Blk 63 wr gM [.int .i64 n, .int .i64 n, .slice (some ⟨gE, 0, none⟩) N N] ∧ Below gE w1 wr
set_option maxRecDepth 20000 in
theorem hs_Companion (p : Nat) (v : Value) (gs zs : List Nat) (n : Nat) (w : World) (hp : FP p) (hv : Sl .u64 w v gs) (hg : gs.length ≤ 60) (hz : zs = nl p gs) (hn : zs.length = n + 1) (h1 : zs.getD n 0 = 1) :
  Calls Try.prog 99 #[.agg #[.int .u64 p], v] w (RetFE p w n n (cmp p n zs)) := by
 obtain ⟨wb, ew, KF, KR, B0, hsz⟩ := boxes2 w 29 63 [.int .u64 p] [.int .i64 0, .int .i64 0, .slice none 0 0]
 clear hsz
 have HP := Lib.hid hp; clear hp
 replace hv := hv.next B0
 have HZ := Lib.hid hz; clear hz
 have H1 := Lib.hid h1; clear h1
 have HN := Lib.hid hn
 have hn60 : n ≤ 60 := by
  have := HZ.out; have := nl_len p gs; rw [← HZ.out] at this; omega
 clear hn
 go_enter Try.func99, Try.ntmps99
 go_upto_region 1 with (fail)
 rw [← ew]
 obtain ⟨g, eg⟩ : ∃ g, g = w.heap.size + 1 := ⟨_, rfl⟩
 rw [← eg] at KR ⊢
 have hgw : w.heap.size ≤ g := by omega
 clear ew eg
 obtain ⟨gF, egF⟩ : ∃ gF, gF = w.heap.size := ⟨_, rfl⟩
 rw [← egF] at KF ⊢
 clear egF
 have f0 := KF.cell 0
 go_wp2_with fail
 refine (fp_Norm p v gs _ HP.out hv (by omega)).mono ?_; rintro e w2 ⟨r, zs', rfl, o2, m2, v2, l2, b2⟩
 obtain rfl : zs' = zs := by rw [HZ.out]; exact nl_is HP.out.pos m2 v2
 obtain ⟨gz, cz, rfl⟩ : ∃ g cap, r = .slice (some ⟨g, 0, none⟩) zs'.length cap := by
  rcases o2.shape with ⟨_, h⟩ | ⟨g, cap, h, _⟩
  ·have := HN.out; rw [h] at this; simp at this
  ·exact ⟨g, cap, h⟩
 replace B0 := B0.trans (b2.mono B0.size)
 replace KR := KR.next b2; replace KF := KF.next b2
 clear f0 hv v2 m2 b2 HZ
 have q := o2.cellAt n (by have := HN.out; omega)
 rw [H1.out] at q
 obtain ⟨L, hL⟩ : ∃ L, L = zs'.length := ⟨_, rfl⟩
 rw [← hL] at o2 ⊢
 have hLn : L = n + 1 := by rw [hL, HN.out]
 have HL := Lib.hid hL; clear hL
 have s1 : IntKind.i64.wrap ((L : Int) - 1) = (n : Int) := by rw [IntWalk.i64_in _ ⟨by omega, by omega⟩]; omega
 have hnn : n * n ≤ 60 * 60 := Nat.mul_le_mul hn60 hn60
 obtain ⟨N, eN⟩ : ∃ N, N = n * n := ⟨_, rfl⟩
 have s2 : IntKind.i64.wrap ((n : Int) * (n : Int)) = (N : Int) := by rw [eN, ← Int.natCast_mul]; exact IntWalk.i64_in _ ⟨by omega, by omega⟩
 have HEN := Lib.hid eN
 have hN : N ≤ 3600 := by omega
 clear eN hnn
 have hnL : n < L := by omega
 have HLN := Lib.hid hLn; clear hLn
 go_upto_region 7 with (fail)
 clear q
 go_wp2_with (at_make; refine wp_make .u64 41 27 8 Try.underlying41 (by kernel_rfl) (by decide) rfl _ _ rfl .i64 .i64 N (by omega) _ _ _ rfl rfl (by omega) (by omega) ?_; intro w3 hq hbel hsz)
 obtain ⟨w4, ew4, KM, B4, hs4⟩ := boxes1 w3 63 [.int .i64 n, .int .i64 n, .slice (some ⟨w2.heap.size, 0, none⟩) N N]
 clear hs4
 rw [← ew4]
 clear ew4
 obtain ⟨gE, egE⟩ : ∃ g, g = w2.heap.size := ⟨_, rfl⟩
 obtain ⟨gM, egM⟩ : ∃ g, g = w3.heap.size := ⟨_, rfl⟩
 have HEM := Lib.hid (show gE < gM by omega)
 have HBE := Lib.hid (show w.heap.size ≤ gE by rw [egE]; exact B0.size)
 have HGE := Lib.hid egE
 rw [← egE] at hq hbel KM ⊢
 rw [← egM] at KM B4 ⊢
 have B4' := hbel.trans (B4.mono (by omega))
 have st : CoR w2 w4 n N gE gM (CoL p n zs' 0) := ⟨_, (hq.below B4 (by omega)), by simp, by rw [HEN.out]; exact CoL.start p n zs', KM, B4'⟩
 have hsE : gE ≤ w2.heap.size := by omega
 have hlE : w2.heap.size ≤ gE := by omega
 clear hq hbel KM B4 B4' egE egM hsz
 have HB0 := Lib.hid B0; have HKF := Lib.hid KF; have HKR := Lib.hid KR; have HO2 := Lib.hid o2
 clear B0 KF KR o2
 go_wp2
 go_loopw [38] (fun iv wr => ∃ i : Nat, i ≤ n ∧ iv = .int .i64 i ∧ CoR w2 wr n N gE gM (CoL p n zs' i)) (fun iv _ => n - (intOf iv).toNat)
 case atStart => exact ⟨0, by omega, rfl, st⟩
 case round =>
  clear st
  obtain ⟨i, hi, rfl, es, ho, hlen, hq, KM, B1⟩ := hrel
  by_cases hin : i < n
  ·have hii : i * n + n ≤ N := by
    have := Nat.mul_le_mul_right n (show i + 1 ≤ n from hin); rw [Nat.succ_mul] at this
    rw [HEN.out]; exact this
   obtain ⟨lo, elo⟩ : ∃ lo, lo = i * n := ⟨_, rfl⟩
   rw [← elo] at hii
   have a1 : IntKind.i64.wrap ((i : Int) * (n : Int)) = (lo : Int) := by rw [elo, ← Int.natCast_mul]; exact IntWalk.i64_in _ ⟨by omega, by omega⟩
   obtain ⟨l, hl⟩ : ∃ l, n = l + 1 := ⟨n - 1, by omega⟩
   obtain ⟨mi, emi⟩ : ∃ mi, mi = lo + n := ⟨_, rfl⟩
   obtain ⟨ix, eix⟩ : ∃ ix, ix = lo + l := ⟨_, rfl⟩
   have a2 : IntKind.i64.wrap ((lo : Int) + (n : Int)) = (mi : Int) := by rw [emi, ← Int.natCast_add]; exact IntWalk.i64_in _ ⟨by omega, by omega⟩
   have a3 : IntKind.i64.wrap ((mi : Int) - 1) = (ix : Int) := by rw [IntWalk.i64_in _ ⟨by omega, by omega⟩]; omega
   have hixN : ix < N := by omega
   have HLO := Lib.hid elo; have HLL := Lib.hid hl; have HIX := Lib.hid eix
   clear elo hl emi eix
   go_upto_if 42 with (fail)
   go_cut [] (fun wx => CoR w2 wx n N gE gM (CoL1 n i (fun a b => ((cmp p n zs').e a b).val)))
   case first =>
    by_cases h0 : i = 0
    ·have st := Lib.hid (show CoR w2 wr n N gE gM (CoL1 n i (fun a b => ((cmp p n zs').e a b).val)) from ⟨es, ho, hlen, by subst h0; exact hq.zero, KM, B1⟩)
     have hn0 : ¬ (i : Int) > 0 := by omega
     clear ho hq KM B1 h0
     go_wp2
     go_meet
     exact st.out
    ·obtain ⟨k, hk⟩ : ∃ k, i = k + 1 := ⟨i - 1, by omega⟩
     have hp0 : (i : Int) > 0 := by omega
     obtain ⟨mj, emj⟩ : ∃ mj, mj = lo + i := ⟨_, rfl⟩
     obtain ⟨jx, ejx⟩ : ∃ jx, jx = lo + k := ⟨_, rfl⟩
     have c2 : IntKind.i64.wrap ((lo : Int) + (i : Int)) = (mj : Int) := by rw [emj, ← Int.natCast_add]; exact IntWalk.i64_in _ ⟨by omega, by omega⟩
     have c3 : IntKind.i64.wrap ((mj : Int) - 1) = (jx : Int) := by rw [IntWalk.i64_in _ ⟨by omega, by omega⟩]; omega
     have hjN : jx < N := by omega
     have q1 := ho.cellAt jx (by omega); have z1 := ho.frozenAt jx
     have q2 := KM.cell 2
     have st := Lib.hid (show CoR w2 (wr.setCell ⟨gE, jx, none⟩ (.int .u64 1)) n N gE gM (CoL1 n i (fun a b => ((cmp p n zs').e a b).val)) from
      ⟨es.set jx 1, (ho.store jx 1).1, by rw [List.length_set]; exact hlen, by rw [ejx, HLO.out]; exact hq.sub hin hk, KM.far (a := ⟨gE, jx, none⟩) (Nat.ne_of_gt HEM.out) _, B1.setCell (p := ⟨gE, jx, none⟩) (Nat.le_refl _) _⟩)
     clear ho hq KM B1 h0 hk emj ejx
     go_wp2
     go_meet
     exact st.out
   case rest =>
    clear ho hq KM B1 hlen
    obtain ⟨es1, ho, hlen, hq, KM, B1⟩ := hcut
    have hsr : gE ≤ wc.heap.size := Nat.le_trans hsE (B1.size)
    go_upto_region 13 with (fail)
    have bd := dw wc
    replace ho := ho.next bd; replace KM := KM.next bd
    replace B1 := B1.trans (bd.mono hsr)
    have hsr : gE ≤ wc.drew.heap.size := hsr
    clear bd
    have KF := HKF.out.below B1 (Nat.lt_of_lt_of_le HKF.out.lt hlE)
    have o2 := HO2.out.below B1 hlE
    have q1 := ho.cellAt ix (by omega)
    rw [show es1.getD ix 0 = 0 by rw [HIX.out, HLO.out]; exact hq.read hin HLL.out] at q1
    have hiL : i < L := by omega
    have q3 := o2.cellAt i (by have := HL.out; omega)
    obtain ⟨x, ex⟩ : ∃ x, x = zs'.getD i 0 := ⟨_, rfl⟩
    rw [← ex] at q3
    obtain ⟨y, ey⟩ : ∃ y, y = (-Zp.of p x).val := ⟨_, rfl⟩
    obtain ⟨z, ez⟩ : ∃ z, z = (Zp.of p 0 + Zp.of p y).val := ⟨_, rfl⟩
    have ez2 : z = (-Zp.of p (zs'.getD i 0)).val := by rw [ez, ey, ex, Zp.of_zero, CR.zero_add, Zp.of_val]
    have hlE2 : gE < wc.drew.heap.size := Own.headlt ho
    have hlz : gz < wc.drew.heap.size := Own.headlt o2
    have EY := Lib.hid ey; have EZ := Lib.hid ez; have EZ2 := Lib.hid ez2
    clear ex ey ez ez2
    have HQ := Lib.hid hq; have HO := Lib.hid ho; have HO3 := Lib.hid o2; have HB1 := Lib.hid B1; have HSR := Lib.hid hsr; have HII := Lib.hid hii; have HNX := Lib.hid (And.intro hg (And.intro hn60 hN))
    clear hq ho o2 B1 hsr hii hg hn60 hN
    have zF0 := Lib.hid fun (w : World) (hS : Below (wc.drew).heap.size (wc.drew) w) => And.intro ((hS.cell (p := ⟨gM, 2, none⟩) KM.lt).trans (KM.cell 2)) (And.intro ((hS.cell (p := ⟨gF, 0, none⟩) KF.lt).trans (KF.cell 0)) (And.intro ((hS.cell (p := ⟨gE, ix, none⟩) hlE2).trans q1) ((hS.cell (p := ⟨gz, i, none⟩) hlz).trans q3)))
    refine startP (S := (fun w' => Below (wc.drew).heap.size (wc.drew) w')) (by kernel_rfl) _ rfl rfl rfl (by kernel_rfl) (Below.refl _ _) (fun hHeld => ?_)
    refine tk 0 ?_
    refine tf 1 zF0.out ?_
    refine tk 2 ?_
    refine tk 3 ?_
    refine tk 4 ?_
    refine tk 5 ?_
    refine tk 6 ?_
    refine tk 7 ?_
    refine tf 8 zF0.out ?_
    refine tk 9 ?_
    refine tf 10 zF0.out ?_
    refine tk 11 ?_
    refine tk 12 ?_
    refine tk 13 ?_
    refine tk 14 ?_
    refine tk 15 ?_
    refine tk 16 ?_
    refine tk 17 ?_
    refine tf 18 zF0.out ?_
    refine tf 19 zF0.out ?_
    refine tk 20 ?_
    refine tk 21 ?_
    refine tk 22 ?_
    refine tf 23 zF0.out ?_
    refine on 24 fun K hK => ?_
    go_simp
    go_at_call 110
    (with_reducible refine (gfp_Neg p x y _ HP.out EY.out).mono ?_); rintro e w5 ⟨rfl, b5⟩
    refine hK.out _ _ (hHeld.trans (b5.mono hHeld.size)) (fun hHeld => ?_)
    clear hK K
    try simp only [Act.put, zq1, zq2, zq3]
    refine on 25 fun K hK => ?_
    go_simp
    go_at_call 117
    (with_reducible refine (gfp_Add0 p y z _ HP.out EZ.out).mono ?_); rintro e w6 ⟨rfl, b6⟩
    refine hK.out _ _ (hHeld.trans (b6.mono hHeld.size)) (fun hHeld => ?_)
    clear hK K
    try simp only [Act.put, zq1, zq2, zq3]
    refine tk 26 ?_
    clear zF0; refine doneL (by kernel_rfl) ?_ _
    refine lastL rfl (by rfl) ?_
    have hq := HQ.out; have ho := HO.out; have o2 := HO3.out; have B1 := HB1.out; have hsr := HSR.out; obtain ⟨hg, hn60, hN⟩ := HNX.out
    have ho2 := ho.next hHeld
    have qc := ho2.cellAt ix (by omega); have zc := ho2.frozenAt ix
    have KM2 := KM.next hHeld
    have st := Lib.hid (show CoR w2 (w6.setCell ⟨gE, ix, none⟩ (.int .u64 z)) n N gE gM (CoL p n zs' (i + 1)) from
     ⟨es1.set ix z, (ho2.store ix z).1, by rw [List.length_set]; exact hlen, by rw [HIX.out, HLO.out]; exact hq.last HP.out hin HLL.out EZ2.out, KM2.far (a := ⟨gE, ix, none⟩) (Nat.ne_of_gt HEM.out) _, (B1.trans (hHeld.mono hsr)).setCell (p := ⟨gE, ix, none⟩) (Nat.le_refl _) _⟩)
    clear ho ho2 hq KM KM2 KF o2 B1 hHeld q1 q3 hlE2 hlz b6 b5
    go_wp2
    go_roundw
    case rel => exact ⟨i + 1, by omega, by go_num, st.out⟩
    case measure => simp [intOf] <;> omega
  ·obtain rfl : i = n := by omega
   have hes := hq.all
   subst hes
   obtain ⟨M, eM⟩ : ∃ M, M = cmp p i zs' := ⟨_, rfl⟩
   rw [← eM] at ho hlen
   have EM := Lib.hid eM; clear eM
   have KR := HKR.out.below B1 (Nat.lt_of_lt_of_le HKR.out.lt hlE)
   have hgE : g < gE := Nat.lt_of_lt_of_le HKR.out.lt hlE
   have k0 := KM.cell 0; have k1 := KM.cell 1; have k2 := KM.cell 2
   have f0 := KR.free 0; have f1 := KR.free 1; have f2 := KR.free 2
   have c0 := KR.cell 0; have c1 := KR.cell 1; have c2 := KR.cell 2
   have KF := ((KR.set 0 (.int .i64 i)).set 1 (.int .i64 i)).set 2 (.slice (some ⟨gE, 0, none⟩) N N)
   have d0 := KF.cell 0; have d1 := KF.cell 1; have d2 := KF.cell 2
   have of := ((ho.low (a := ⟨g, 0, none⟩) hgE (.int .i64 i)).low (a := ⟨g, 1, none⟩) hgE (.int .i64 i)).low (a := ⟨g, 2, none⟩) hgE (.slice (some ⟨gE, 0, none⟩) N N)
   have B2 := HB0.out.trans (B1.mono HBE.out)
   have BF := ((B2.setCell (p := ⟨g, 0, none⟩) hgw (.int .i64 i)).setCell (p := ⟨g, 1, none⟩) hgw (.int .i64 i)).setCell (p := ⟨g, 2, none⟩) hgw (.slice (some ⟨gE, 0, none⟩) N N)
   have FR := Lib.hid (show RetFE p w i i (cmp p i zs') (.returned (.tuple #[.agg #[.int .i64 i, .int .i64 i, .slice (some ⟨gE, 0, none⟩) N N], .int .i64 0])) (((wr.setCell ⟨g, 0, none⟩ (.int .i64 i)).setCell ⟨g, 1, none⟩ (.int .i64 i)).setCell ⟨g, 2, none⟩ (.slice (some ⟨gE, 0, none⟩) N N)) from
    by rw [← EM.out]; exact ⟨some ⟨gE, 0, none⟩, N, by rw [hlen], by rw [hlen]; exact of.mono HBE.out, BF⟩)
   clear KF KR of BF B1 B2 ho KM
   go_wp2
   exact bodyPost_ret (v := .tuple #[.agg #[.int .i64 i, .int .i64 i, .slice (some ⟨gE, 0, none⟩) N N], .int .i64 0]) (by simp [results, Try.results99, go_sem, d0, d1, d2]) rfl FR.out
end Go.Proofs.Ytkmfhabgempjiaa
/- hess: the characteristic polynomial of a companion; the awake of law 22. -/
namespace Go.Proofs.Ytkmfhabgempjiaa
set_option maxHeartbeats 1000000
open Go.RowKit
section
variable {p n : Nat} {zs : List Nat}
end
end Go.Proofs.Ytkmfhabgempjiaa
/- The reference of chapter 21: places, forms. -/
namespace Go.Proofs.Ytkmfhabgempjiaa
set_option maxHeartbeats 1000000
open Go.RowKit
theorem rf21_Formed (v : Value) (R C : Int) (xs : List Nat) (w : World) (hm : Fm w v R C xs) (b : Bool) (hb : b = decide (Fd R C xs.length)) :
  Calls Try.prog 103 #[v] w (RetW w (.bool b)) := by
 obtain ⟨ao, ca, rfl⟩ := hm.agg
 obtain ⟨wb, ew, KA, B0, hsz⟩ := boxes1 w 63 [.int .i64 R, .int .i64 C, .slice ao xs.length ca]
 clear hsz hm
 by_cases h0 : R ≥ 0
 rotate_left
 ·obtain rfl : b = false := by rw [hb]; exact decide_eq_false (fun h => h0 h.1.1)
  clear hb
  have d0 : decide (R ≥ 0) = false := decide_eq_false (by omega)
  go_enter Try.func103, Try.ntmps103
  go_upto_region 1 with (fail)
  rw [← ew]
  clear ew
  have c0 := KA.cell 0; have c1 := KA.cell 1; have c2 := KA.cell 2
  go_wp2
  go_ret
  exact ⟨rfl, B0⟩
 by_cases h1 : R ≤ 64
 rotate_left
 ·obtain rfl : b = false := by rw [hb]; exact decide_eq_false (fun h => h1 h.1.2)
  clear hb
  have d0 : decide (R ≥ 0) = true := decide_eq_true (by omega)
  have d1 : decide (R ≤ 64) = false := decide_eq_false (by omega)
  go_enter Try.func103, Try.ntmps103
  go_upto_region 1 with (fail)
  rw [← ew]
  clear ew
  have c0 := KA.cell 0; have c1 := KA.cell 1; have c2 := KA.cell 2
  go_wp2
  go_ret
  exact ⟨rfl, B0⟩
 by_cases h2 : C ≥ 0
 rotate_left
 ·obtain rfl : b = false := by rw [hb]; exact decide_eq_false (fun h => h2 h.2.1.1)
  clear hb
  have d0 : decide (R ≥ 0) = true := decide_eq_true (by omega)
  have d1 : decide (R ≤ 64) = true := decide_eq_true (by omega)
  have d2 : decide (C ≥ 0) = false := decide_eq_false (by omega)
  go_enter Try.func103, Try.ntmps103
  go_upto_region 1 with (fail)
  rw [← ew]
  clear ew
  have c0 := KA.cell 0; have c1 := KA.cell 1; have c2 := KA.cell 2
  go_wp2
  go_ret
  exact ⟨rfl, B0⟩
 by_cases h3 : C ≤ 64
 rotate_left
 ·obtain rfl : b = false := by rw [hb]; exact decide_eq_false (fun h => h3 h.2.1.2)
  clear hb
  have d0 : decide (R ≥ 0) = true := decide_eq_true (by omega)
  have d1 : decide (R ≤ 64) = true := decide_eq_true (by omega)
  have d2 : decide (C ≥ 0) = true := decide_eq_true (by omega)
  have d3 : decide (C ≤ 64) = false := decide_eq_false (by omega)
  go_enter Try.func103, Try.ntmps103
  go_upto_region 1 with (fail)
  rw [← ew]
  clear ew
  have c0 := KA.cell 0; have c1 := KA.cell 1; have c2 := KA.cell 2
  go_wp2
  go_ret
  exact ⟨rfl, B0⟩
 by_cases h4 : (xs.length : Int) = R * C
 rotate_left
 ·obtain rfl : b = false := by rw [hb]; exact decide_eq_false (fun h => h4 h.2.2)
  clear hb
  have d0 : decide (R ≥ 0) = true := decide_eq_true (by omega)
  have d1 : decide (R ≤ 64) = true := decide_eq_true (by omega)
  have d2 : decide (C ≥ 0) = true := decide_eq_true (by omega)
  have d3 : decide (C ≤ 64) = true := decide_eq_true (by omega); have hw : IntKind.i64.wrap (R * C) = R * C := Sd.mul ⟨h0, h1⟩ ⟨h2, h3⟩
  have d4 : ((xs.length : Int) == R * C) = false := by simp [h4]
  go_enter Try.func103, Try.ntmps103
  go_upto_region 1 with (fail)
  rw [← ew]
  clear ew
  have c0 := KA.cell 0; have c1 := KA.cell 1; have c2 := KA.cell 2
  go_wp2
  go_ret
  exact ⟨rfl, B0⟩
 obtain rfl : b = true := by rw [hb]; exact decide_eq_true ⟨⟨h0, h1⟩, ⟨h2, h3⟩, h4⟩
 clear hb
 have d0 : decide (R ≥ 0) = true := decide_eq_true (by omega)
 have d1 : decide (R ≤ 64) = true := decide_eq_true (by omega)
 have d2 : decide (C ≥ 0) = true := decide_eq_true (by omega)
 have d3 : decide (C ≤ 64) = true := decide_eq_true (by omega); have hw : IntKind.i64.wrap (R * C) = R * C := Sd.mul ⟨h0, h1⟩ ⟨h2, h3⟩
 have d4 : ((xs.length : Int) == R * C) = true := by simp [h4]
 go_enter Try.func103, Try.ntmps103
 go_upto_region 1 with (fail)
 rw [← ew]
 clear ew
 have c0 := KA.cell 0; have c1 := KA.cell 1; have c2 := KA.cell 2
 go_wp2
 go_ret
 exact ⟨rfl, B0⟩
theorem rf21_None (ao : Option Addr) (k : Nat) (w : World) : Calls Try.prog 47 #[.agg #[.int .i64 0, .int .i64 0, .slice ao 0 k]] w (RetW w (.bool true)) := by
 obtain ⟨wb, ew, KA, B0, hsz⟩ := boxes1 w 63 [.int .i64 0, .int .i64 0, .slice ao 0 k]
 clear hsz
 go_enter Try.func47, Try.ntmps47
 go_upto_region 1 with (fail)
 rw [← ew]
 clear ew
 have c0 := KA.cell 0; have c1 := KA.cell 1; have c2 := KA.cell 2
 go_wp2
 go_ret
 exact ⟨rfl, B0⟩
theorem rf21_Normal (v : Value) (R C : Int) (p : Nat) (xs : List Nat) (w : World) (hm : Fm w v R C xs) (hF : Fd R C xs.length) (hx : wf p xs) (hl : xs.length ≤ 1000000000000) :
  Calls Try.prog 58 #[v, .int .u64 p] w (RetW w (.bool true)) := by
 have hm0 := hm
 obtain ⟨u, rfl, ao, b, off, cap, rfl, hcap, hz⟩ := hm
 obtain ⟨wb, ew, KA, B0, hsz⟩ := boxes1 w 63 [.int .i64 R, .int .i64 C, .slice ao xs.length cap]
 clear hsz
 have hA := hm0.next B0
 replace hz := hz.below B0 (Nat.le_refl _)
 have HF := Lib.hid hF; have HX := Lib.hid hx; clear hF hx hm0
 have c0 := KA.cell 0; have c1 := KA.cell 1; have c2 := KA.cell 2
 go_enter Try.func58, Try.ntmps58
 go_upto_region 1 with (fail)
 rw [← ew]
 clear ew
 go_wp2
 go_loop [5] (fun iv => ∃ i : Nat, i ≤ xs.length ∧ iv = .int .i64 i) (fun iv => xs.length - (intOf iv).toNat)
 case atStart => exact ⟨0, by omega, rfl⟩
 case round =>
  obtain ⟨i, hi, rfl⟩ := hrel
  by_cases hil : i < xs.length
  ·obtain rfl := hz.ao (by intro h; subst h; simp at hil)
   have q1 := hz.cell _ hil
   obtain ⟨x, ex⟩ : ∃ x, x = xs.getD i 0 := ⟨_, rfl⟩
   rw [← ex] at q1
   have hlt : ¬ ((x : Int) ≥ (p : Int)) := by
    have : x < p := by rw [ex]; exact HX.out _ (by
     simp only [List.getD, List.getElem?_eq_getElem hil, Option.getD_some]; exact List.getElem_mem hil)
    omega
   clear ex
   go_wp2
   go_round
   case rel => exact ⟨i + 1, by omega, by go_num⟩
   case measure => simp [intOf] <;> omega
  ·obtain rfl : i = xs.length := by omega
   go_wp2_with fail
   refine (rf21_Formed _ R C xs _ hA true (decide_eq_true HF.out).symm).mono ?_; rintro e w2 ⟨rfl, b2⟩
   go_wp2
   go_ret
   exact ⟨rfl, B0.trans (b2.mono B0.size)⟩
end Go.Proofs.Ytkmfhabgempjiaa
/- The reference of chapter 21: matrices of one reading; Hessenberg's form. -/
namespace Go.Proofs.Ytkmfhabgempjiaa
set_option maxHeartbeats 1000000
open Go.RowKit
theorem Fm.open {w : World} {v : Value} {R C : Int} {xs : List Nat} (h : Fm w v R C xs) : ∃ ao b off cap, v = .agg #[.int .i64 R, .int .i64 C, .slice ao xs.length cap] ∧ xs.length ≤ cap ∧ Cs .u64 w ao b off xs := by
 obtain ⟨u, rfl, ao, b, off, cap, rfl, hcap, hz⟩ := h
 exact ⟨ao, b, off, cap, rfl, hcap, hz⟩
theorem rf21_Same (a b : Value) (R C : Int) (p : Nat) (xs ys : List Nat) (w : World) (hp : 0 < p) (hA : Fm w a R C xs) (hB : Fm w b R C ys) (hl : xs.length = ys.length) (hs : ∀ i, i < xs.length → xs.getD i 0 % p = ys.getD i 0 % p) (hm : xs.length ≤ 1000000000000) :
  Calls Try.prog 60 #[a, b, .int .u64 p] w (RetW w (.bool true)) := by
 obtain ⟨aA, bA, oA, cA, rfl, hcA, zA⟩ := hA.open
 obtain ⟨aB, bB, oB, cB, rfl, hcB, zB⟩ := hB.open
 obtain ⟨wb, ew, KA, KB, B0, hsz⟩ := boxes2 w 63 63 [.int .i64 R, .int .i64 C, .slice aA xs.length cA] [.int .i64 R, .int .i64 C, .slice aB ys.length cB]
 clear hsz
 replace zA := zA.below B0 (Nat.le_refl _); replace zB := zB.below B0 (Nat.le_refl _)
 have HS := Lib.hid hs; clear hs
 have hz0 : ((p : Int) == 0) = false := by simpa using (show p ≠ 0 by omega)
 have hz1 : ¬ p = 0 := by omega
 have hz2 : ¬ (p : Int) = 0 := by omega
 rw [← hl] at KB hcB ew ⊢
 obtain ⟨n, en⟩ : ∃ n, n = xs.length := ⟨_, rfl⟩
 rw [← en] at KA KB hcA hcB hm ew ⊢
 have HL := Lib.hid (And.intro en hl); clear en hl hp hA hB
 obtain ⟨g, eg⟩ : ∃ g, g = w.heap.size := ⟨_, rfl⟩
 rw [← eg] at KA KB
 have hRR : (R != R) = false := by simp
 have hCC : (C != C) = false := by simp
 have hNN : ((n : Int) != (n : Int)) = false := by simp
 have c0 := KA.cell 0; have c1 := KA.cell 1; have c2 := KA.cell 2
 have d0 := KB.cell 0; have d1 := KB.cell 1; have d2 := KB.cell 2
 have hzA := Lib.hid zA; have hzB := Lib.hid zB
 clear zA zB
 go_enter Try.func60, Try.ntmps60
 go_upto_region 1 with (fail)
 rw [← ew, ← eg]
 clear ew eg
 have st : Below w.heap.size w wb := B0
 go_wp2
 clear c0 c1 c2 d0 d1 d2
 go_loopw [7] (fun iv wr => ∃ i : Nat, i ≤ n ∧ iv = .int .i64 i ∧ Below wb.heap.size wb wr) (fun iv _ => n - (intOf iv).toNat)
 case atStart => exact ⟨0, by omega, rfl, Below.refl _ _⟩
 case round =>
  obtain ⟨i, hi, rfl, B1⟩ := hrel
  have KA1 := KA.next B1; have KB1 := KB.next B1
  have c2 := KA1.cell 2
  by_cases hin : i < n
  ·have zA := hzA.out.below B1 (Nat.le_refl _); have zB := hzB.out.below B1 (Nat.le_refl _)
   have hiA : i < xs.length := by have := HL.out.1; omega
   have hiB : i < ys.length := by have := HL.out.1; have := HL.out.2; omega
   obtain rfl := zA.ao (by intro h; subst h; simp at hiA)
   obtain rfl := zB.ao (by intro h; subst h; simp at hiB)
   have q1 := zA.cell _ hiA; have q2 := zB.cell _ hiB
   have l1 : bA < wr.heap.size := zA.lt (by intro h; subst h; simp at hiA)
   have l2 : bB < wr.heap.size := zB.lt (by intro h; subst h; simp at hiB)
   obtain ⟨x, ex⟩ : ∃ x, x = xs.getD i 0 := ⟨_, rfl⟩
   obtain ⟨y, ey⟩ : ∃ y, y = ys.getD i 0 := ⟨_, rfl⟩
   obtain ⟨z, ez⟩ : ∃ z, z = x % p := ⟨_, rfl⟩
   have ez2 : z = y % p := by rw [ez, ex, ey]; exact HS.out i hiA
   rw [← ex] at q1; rw [← ey] at q2
   have r1 : (x : Int).tmod (p : Int) = (z : Int) := by rw [ez]; rfl
   have r1' : (x : Int) % (p : Int) = (z : Int) := by rw [ez]; rfl
   have r2 : (y : Int).tmod (p : Int) = (z : Int) := by rw [ez2]; rfl
   have r2' : (y : Int) % (p : Int) = (z : Int) := by rw [ez2]; rfl
   clear ex ey ez ez2 zA zB hiA hiB
   go_upto_region 6 with (fail)
   clear c2
   have bd := dw wr
   replace KA1 := KA1.next bd; replace KB1 := KB1.next bd
   have q1 : wr.drew.cell? ⟨bA, oA + i, none⟩ = some (.int .u64 x) := (bd.cell (p := ⟨bA, oA + i, none⟩) l1).trans q1
   have q2 : wr.drew.cell? ⟨bB, oB + i, none⟩ = some (.int .u64 y) := (bd.cell (p := ⟨bB, oB + i, none⟩) l2).trans q2
   have l1 : bA < wr.drew.heap.size := l1
   have l2 : bB < wr.drew.heap.size := l2
   replace B1 := B1.trans (bd.mono B1.size)
   clear bd
   have z0 := Lib.hid fun (w : World) (hS : Below (wr.drew).heap.size (wr.drew) w) => And.intro ((KA1.at hS) 2) (And.intro ((KB1.at hS) 2) (And.intro ((hS.cell (p := ⟨bA, oA + i, none⟩) l1).trans q1) ((hS.cell (p := ⟨bB, oB + i, none⟩) l2).trans q2)))
   refine startL (S := (fun w' => Below (wr.drew).heap.size (wr.drew) w')) (by kernel_rfl) (Below.refl _ _) (fun hHeld => ?_)
   refine tk 0 ?_
   refine tf 1 z0.out ?_
   refine tk 2 ?_
   refine tk 3 ?_
   refine tf 4 z0.out ?_
   refine tk 5 ?_
   refine tk 6 ?_
   refine tk 7 ?_
   refine tf 8 z0.out ?_
   refine tk 9 ?_
   refine tk 10 ?_
   refine tf 11 z0.out ?_
   refine tk 12 ?_
   refine tk 13 ?_
   refine tk 14 ?_
   clear z0; refine doneL (by kernel_rfl) ?_ _
   replace B1 := B1
   clear q1 q2 KA1 KB1 hHeld
   go_wp2
   go_roundw
   case rel => exact ⟨i + 1, by omega, by go_num, B1⟩
   case measure => simp [intOf] <;> omega
  ·obtain rfl : i = n := by omega
   go_wp2
   go_ret
   exact ⟨rfl, B0.trans (B1.mono B0.size)⟩
theorem rf21_Is (a b : Value) (R C : Int) (p : Nat) (xs ys : List Nat) (w : World) (hp : 0 < p) (hA : Fm w a R C xs) (hB : Fm w b R C ys) (hF : Fd R C xs.length) (hw : wf p xs) (hl : xs.length = ys.length) (hs : ∀ i, i < xs.length → xs.getD i 0 % p = ys.getD i 0 % p) (hm : xs.length ≤ 1000000000000) :
  Calls Try.prog 48 #[a, b, .int .u64 p] w (RetW w (.bool true)) := by
 obtain ⟨aA, cA, rfl⟩ := hA.agg
 obtain ⟨aB, cB, rfl⟩ := hB.agg
 obtain ⟨wb, ew, KA, KB, B0, hsz⟩ := boxes2 w 63 63 [.int .i64 R, .int .i64 C, .slice aA xs.length cA] [.int .i64 R, .int .i64 C, .slice aB ys.length cB]
 clear hsz
 replace hA := hA.next B0; replace hB := hB.next B0
 have HS := Lib.hid hs; have HW := Lib.hid hw; have HF := Lib.hid hF; have HL := Lib.hid hl; clear hs hw hF hl
 have c0 := KA.cell 0; have c1 := KA.cell 1; have c2 := KA.cell 2
 go_enter Try.func48, Try.ntmps48
 go_upto_region 1 with (fail)
 rw [← ew]
 clear ew
 go_wp2_with fail
 refine (rf21_Normal _ R C p xs _ hA HF.out HW.out hm).mono ?_; rintro e w2 ⟨rfl, b2⟩
 replace hA := hA.next b2; replace hB := hB.next b2
 replace KA := KA.next b2; replace KB := KB.next b2
 clear c0 c1 c2
 have c0 := KA.cell 0; have c1 := KA.cell 1; have c2 := KA.cell 2
 have d0 := KB.cell 0; have d1 := KB.cell 1; have d2 := KB.cell 2
 go_wp2_with fail
 refine (rf21_Same _ _ R C p xs ys _ hp hA hB HL.out HS.out hm).mono ?_; rintro e w3 ⟨rfl, b3⟩
 go_wp2
 go_ret
 exact ⟨rfl, (B0.trans (b2.mono B0.size)).trans (b3.mono (B0.trans (b2.mono B0.size)).size)⟩
end Go.Proofs.Ytkmfhabgempjiaa
/- The reference of chapter 21: products. -/
namespace Go.Proofs.Ytkmfhabgempjiaa
set_option maxHeartbeats 1000000
open Go.RowKit
end Go.Proofs.Ytkmfhabgempjiaa
/- The reference of chapter 21: determinants. -/
namespace Go.Proofs.Ytkmfhabgempjiaa
set_option maxHeartbeats 1000000
open Go.RowKit
end Go.Proofs.Ytkmfhabgempjiaa
/- What comes in: matrices of words, opened. -/
namespace Go.Proofs.Ytkmfhabgempjiaa
set_option maxHeartbeats 1000000
open Go.ChangeShapes Go.WideShapes Go.ChangeAt Go.RowKit Go.Deep Go.Joins
section
variable {H : Type} {enc : TypeId × Value → H} {P : Program} {w : World} {base : Nat} {spare : Nat → Bool} {held : Bool}
end
section
variable {H : Type} {enc : TypeId × Value → H} {w : World} {base : Nat} {spare : Nat → Bool} {held : Bool}
end
end Go.Proofs.Ytkmfhabgempjiaa
/- Rows of rows of polynomials, that are read; an append of a window. -/
namespace Go.Proofs.Ytkmfhabgempjiaa
set_option maxHeartbeats 1000000
open Go.RowKit
def rowL (n : Nat) (U : Nat → Value) : List Value := (List.range n).map U
theorem rowL_length (n : Nat) (U : Nat → Value) : (rowL n U).length = n := by simp [rowL]
theorem rowL_get {n : Nat} {U : Nat → Value} {k : Nat} (hk : k < n) : (rowL n U)[k]? = some (U k) := by simp [rowL, hk]
theorem rowL_get' {n : Nat} {U : Nat → Value} {k : Nat} {u : Value} (h : (rowL n U)[k]? = some u) : k < n ∧ u = U k := by
 have hk : k < n := by have := (List.getElem?_eq_some_iff.1 h).1; rwa [rowL_length] at this
 rw [rowL_get hk] at h
 exact ⟨hk, (Option.some.inj h).symm⟩
theorem rowL_snoc (n : Nat) (U : Nat → Value) : rowL (n + 1) U = rowL n U ++ [U n] := by simp [rowL, List.range_succ]
theorem rowL_congr {n : Nat} {U V : Nat → Value} (h : ∀ k, k < n → U k = V k) : rowL n U = rowL n V := List.map_congr_left fun k hk => h k (List.mem_range.1 hk)
theorem win_news {w : World} {b o n : Nat} {U : Nat → Value} (h : ∀ k, k < n → w.cell? ⟨b, o + k, none⟩ = some (U k)) (lo m : Nat) (hm : lo + m ≤ n) : ∀ j u, (rowL m (fun j => U (lo + j)))[j]? = some u → w.cell? ((⟨b, o + lo, none⟩ : Addr).add j) = some u := by
 intro j u hj
 obtain ⟨h1, rfl⟩ := rowL_get' hj
 have e : (⟨b, o + lo, none⟩ : Addr).add j = ⟨b, o + (lo + j), none⟩ := by
  unfold Addr.add; split
  ·rename_i h; subst h; rfl
  ·simp [Nat.add_assoc]
 rw [e]
 exact h (lo + j) (by omega)
section
variable {p : Nat}
end
end Go.Proofs.Ytkmfhabgempjiaa
