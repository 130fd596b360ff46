/- Package fpoly: DivMod. -/
import Derived.Test.YthghdjpjbngllaaFpoly5
namespace Go.Proofs.Ythghdjpjbngllaa
open Go.RowKit

theorem Own.set_far {k : IntKind} {e : TypeId} {w : World} {base g n cap : Nat} {xs : List Nat} (h : Own k e w base (.slice (some ⟨g, 0, none⟩) n cap) xs) {a : Addr} (ha : g ≠ a.block) (v : Value) :
    Own k e (w.setCell a v) base (.slice (some ⟨g, 0, none⟩) n cap) xs := by
  refine ⟨h.1, ?_⟩
  rcases h.2 with h | ⟨g', cap', cur, e0, b0, c0, d0⟩
  · exact .inl h
  · refine .inr ⟨g', cap', cur, e0, b0, ?_, d0⟩
    simp only [Value.slice.injEq, Option.some.injEq, Addr.mk.injEq] at e0
    obtain ⟨⟨rfl, -⟩, -⟩ := e0
    rw [Below.heap_setCell w a v g ha]; exact c0

theorem Cs.set_far {k : IntKind} {w : World} {ao : Option Addr} {b off : Nat} {xs : List Nat} (h : Cs k w ao b off xs) {a : Addr} (ha : b ≠ a.block) (v : Value) : Cs k (w.setCell a v) ao b off xs :=
  ⟨h.ao, fun j hj => (Go.Proofs.Ythghdjpjbngllaa.set_far _ _ _ ⟨b, off + j, none⟩ ha).trans (h.cell j hj)⟩

theorem c_mon_mul {R : Type} [CR R] (a : R) (k : Nat) (g : Pol R) (n : Nat) : (mon a k * g).c n = if k ≤ n then a * g.c (n - k) else 0 := by
  rw [Pol.c_mul]
  by_cases h : k ≤ n
  · rw [if_pos h, sm_one (k := k) (by omega) (fun i _ hi => by rw [c_mon, if_neg hi, CR.zero_mul]), c_mon, if_pos rfl]
  · rw [if_neg h]
    exact sm_zero' fun i hi => by rw [c_mon, if_neg (by omega), CR.zero_mul]

theorem div_dlt {R : Type} [CR R] {f g : Pol R} {q u : R} {i l : Nat} (hf : f.dlt (i + l + 1)) (hg : g.dlt (l + 1)) (hu : u * g.c l = 1) (hq : q = f.c (i + l) * u) : (f - mon q i * g).dlt (i + l) := by
  intro n hn
  rw [Pol.c_sub, c_mon_mul, if_pos (by omega)]
  by_cases h : n = i + l
  · subst h
    rw [show i + l - i = l by omega, hq, CR.mul_assoc, hu, CR.mul_one, CR.sub_self]
  · rw [hf n (by omega), hg (n - i) (by omega), CR.mul_zero, CR.sub_zero]

/-- Where the inner loop stands: a multiple of so many places has been taken away. -/
theorem div_inner {p i k z m q y : Nat} {C zs : List Nat} {f : Pol (Zp p)} (hl : i + k < zs.length) (hv : pl p zs = f - mon (Zp.of p q) i * pl p (C.take k)) (hy : y = C.getD k 0)
    (hm : Zp.of p m = Zp.of p q * Zp.of p y) (hz : Zp.of p z = Zp.of p (zs.getD (i + k) 0) - Zp.of p m) :
    pl p (zs.set (i + k) z) = f - mon (Zp.of p q) i * pl p (C.take (k + 1)) := by
  rw [pl_set p zs (i + k) z hl, hv, hz, hm, pl_take_succ, ← hy, CR.mul_add, mon_mul]
  have e : Zp.of p (zs.getD (i + k) 0) - Zp.of p q * Zp.of p y - Zp.of p (zs.getD (i + k) 0) = -(Zp.of p q * Zp.of p y) :=
    by_ring [Zp.of p (zs.getD (i + k) 0), Zp.of p q, Zp.of p y] (X0 - X1 * X2 - X0) (-(X1 * X2)) rfl
  rw [e, mon_neg]
  exact by_ring [f, mon (Zp.of p q) i * pl p (C.take k), mon (Zp.of p q * Zp.of p y) (i + k)] (X0 - X1 + -X2) (X0 - (X1 + X2)) rfl

theorem div_outer {p i q : Nat} {A C zs zs' qs : List Nat} (hi : i < qs.length) (h0 : qs.getD i 0 = 0) (hv : pl p A = pl p qs * pl p C + pl p zs) (hz : pl p zs' = pl p zs - mon (Zp.of p q) i * pl p C) :
    pl p A = pl p (qs.set i q) * pl p C + pl p zs' := by
  rw [pl_set p qs i q hi, h0, Zp.of_zero, CR.sub_zero, hz, hv]
  exact by_ring [pl p qs, pl p C, pl p zs, mon (Zp.of p q) i] (X0 * X1 + X2) ((X0 + X3) * X1 + (X2 - X3 * X1)) rfl

/-- The greatest element of a normal list has an inverse. -/
theorem lead_inv {p l : Nat} {C : List Nat} (ht : Trial p) (hC : Nrm p C) (hl : C.length = l + 1) : (Zp.of p (C.getD l 0)).iv * (pl p C).c l = 1 := by
  rw [pl_c]
  refine Zp.iv_mul ht fun h => ?_
  have hp := trial_gt ht
  have h1 : C.length ≤ l := pl_len (by omega) hC (n := l) fun i hi => by
    rw [pl_c]
    by_cases e : i = l
    · subst e; exact h
    · rw [List.getD, List.getElem?_eq_none (by omega)]; rfl
  omega

/-- Two results, and whether there are any. -/
def RetDiv (p : Nat) (w : World) (xs ys : List Nat) (e : Ending) (w' : World) : Prop :=
  ∃ rq rr zq zr, e = .returned (.tuple #[rq, rr, .bool true]) ∧ Own .u64 27 w' w.heap.size rq zq ∧ Own .u64 27 w' w.heap.size rr zr ∧ Nrm p zq ∧ Nrm p zr ∧
    pl p xs = pl p zq * pl p ys + pl p zr ∧ zr.length < (nl p ys).length ∧ zq.length ≤ xs.length ∧ zr.length ≤ xs.length ∧ Below w.heap.size w w'

/-- Where the division stands. -/
structure DivRel (p : Nat) (w wr : World) (g ga ca gq gc : Nat) (A C zs qs : List Nat) (n i : Nat) : Prop where
  fx : Fx p w wr g
  own : Own .u64 27 wr w.heap.size (.slice (some ⟨ga, 0, none⟩) A.length ca) zs
  ownq : Own .u64 27 wr w.heap.size (.slice (some ⟨gq, 0, none⟩) n n) qs
  len : zs.length = A.length
  lenq : qs.length = n
  lt : ga < wr.heap.size
  ltq : gq < wr.heap.size
  zero : ∀ j, j < i → qs.getD j 0 = 0
  val : pl p A = pl p qs * pl p C + pl p zs
  dlt : (pl p zs).dlt (i + C.length - 1)
  cs : Cs .u64 wr (some ⟨gc, 0, none⟩) gc 0 C

/-- Where the inner loop stands. -/
structure DivIn (p : Nat) (w wr : World) (g ga ca gq gc : Nat) (A C z0 zs qs : List Nat) (n i q k : Nat) : Prop where
  fx : Fx p w wr g
  own : Own .u64 27 wr w.heap.size (.slice (some ⟨ga, 0, none⟩) A.length ca) zs
  ownq : Own .u64 27 wr w.heap.size (.slice (some ⟨gq, 0, none⟩) n n) qs
  len : zs.length = A.length
  lt : ga < wr.heap.size
  ltq : gq < wr.heap.size
  val : pl p zs = pl p z0 - mon (Zp.of p q) i * pl p (C.take k)
  cs : Cs .u64 wr (some ⟨gc, 0, none⟩) gc 0 C

set_option maxHeartbeats 1000000 in
theorem fp_DivMod_no (p : Nat) (v u : Value) (xs ys : List Nat) (w : World) (hp : FP p) (s0 : Sl .u64 w v xs) (s1 : Sl .u64 w u ys) (hm : xs.length ≤ 1000000) (hn : ys.length ≤ 1000000) (h0 : nl p ys = []) :
    Calls Try.prog 63 #[.agg #[.int .u64 p], v, u] w fun e w' => e = .returned (.tuple #[.slice none 0 0, .slice none 0 0, .bool false]) ∧ Below w.heap.size w w' := by
  have H0 := Lib.hid h0; clear h0
  have HP := Lib.hid hp; clear hp
  have fx := Fx.box (p := p) (Below.refl w.heap.size w)
  go_enter Try.func63, Try.ntmps63
  go_upto_region 1 with (fail)
  generalize w.alloc (.cells #[.int .u64 p] 29) = wb at *
  obtain ⟨g, eg⟩ : ∃ g, g = w.heap.size := ⟨_, rfl⟩
  rw [← eg] at fx ⊢
  have hgw : w.heap.size ≤ g := by omega
  clear eg
  have fd := fx.drew
  have t0 := s0.next fd.below
  have t1 := s1.next fd.below
  refine startL (S := (fun w' => Below wb.drew.heap.size wb.drew w')) (by kernel_rfl) (Below.refl _ _) (fun hHeld => ?_)
  refine takeL 0 (v := ?_) rfl (by kernel_rfl) (by kernel_rfl) (by kernel_rfl) (fun _ _ _ h => h) ⟨by rfl, ?_⟩ (by assumption) ?_
  rotate_left
  · intro w hS; have f1 := fd.at hS; go_simp <;> with_reducible rfl
  simp only [Act.put, List.setIfInBounds_toArray, List.set_cons_zero, List.set_cons_succ]
  refine takeL 1 (v := ?_) rfl (by kernel_rfl) (by kernel_rfl) (by kernel_rfl) (fun _ _ _ h => h) ⟨by rfl, ?_⟩ (by assumption) ?_
  rotate_left
  · intro w hS; go_simp <;> with_reducible rfl
  simp only [Act.put, List.setIfInBounds_toArray, List.set_cons_zero, List.set_cons_succ]
  refine takeL 3 (v := ?_) rfl (by kernel_rfl) (by kernel_rfl) (by kernel_rfl) (fun _ _ _ h => h) ⟨by rfl, ?_⟩ (by assumption) ?_
  rotate_left
  · intro w hS; have f1 := fd.at hS; go_simp <;> with_reducible rfl
  simp only [Act.put, List.setIfInBounds_toArray, List.set_cons_zero, List.set_cons_succ]
  refine takeL 4 (v := ?_) rfl (by kernel_rfl) (by kernel_rfl) (by kernel_rfl) (fun _ _ _ h => h) ⟨by rfl, ?_⟩ (by assumption) ?_
  rotate_left
  · intro w hS; go_simp <;> with_reducible rfl
  simp only [Act.put, List.setIfInBounds_toArray, List.set_cons_zero, List.set_cons_succ]
  refine oneL 2 rfl (by kernel_rfl) (by rfl) (fun K hK => ?_)
  go_simp
  go_at_call 80
  refine (fp_Norm p v xs _ HP.out (t0.next hHeld) (by omega)).mono ?_; rintro e w2 ⟨r2, A, rfl, oA, mA, vA, lA, b2⟩
  skip
  refine hK.out _ _ (hHeld.trans (b2.mono hHeld.size)) (fun hHeld => ?_)
  clear hK K
  try simp only [Act.put, List.setIfInBounds_toArray, List.set_cons_zero, List.set_cons_succ]
  refine oneL 5 rfl (by kernel_rfl) (by rfl) (fun K hK => ?_)
  go_simp
  go_at_call 80
  refine (fp_Norm p u ys _ HP.out (t1.next hHeld) (by omega)).mono ?_; rintro e w3 ⟨r3, C, rfl, oC, mC, vC, lC, b3⟩
  refine hK.out _ _ (hHeld.trans (b3.mono hHeld.size)) (fun hHeld => ?_)
  clear hK K
  try simp only [Act.put, List.setIfInBounds_toArray, List.set_cons_zero, List.set_cons_succ]
  refine takeL 6 (v := ?_) rfl (by kernel_rfl) (by kernel_rfl) (by kernel_rfl) (fun _ _ _ h => h) ⟨by rfl, ?_⟩ (by assumption) ?_
  rotate_left
  · intro w hS; go_simp <;> with_reducible rfl
  simp only [Act.put, List.setIfInBounds_toArray, List.set_cons_zero, List.set_cons_succ]
  refine takeL 7 (v := ?_) rfl (by kernel_rfl) (by kernel_rfl) (by kernel_rfl) (fun _ _ _ h => h) ⟨by rfl, ?_⟩ (by assumption) ?_
  rotate_left
  · intro w hS; go_simp <;> with_reducible rfl
  simp only [Act.put, List.setIfInBounds_toArray, List.set_cons_zero, List.set_cons_succ]
  refine doneL (by kernel_rfl) ?_ _
  obtain rfl : C = [] := (nl_is HP.out.pos mC vC).trans H0.out
  obtain ⟨ao, bo, oo, co, rfl, hc, cs⟩ := oC.sl
  clear vA vC
  go_wp2
  refine bodyPost_ret (v := .tuple #[.slice none 0 0, .slice none 0 0, .bool false]) (by simp [results, Try.results63, go_sem]) rfl ⟨rfl, fd.below.trans (hHeld.mono fd.below.size)⟩

set_option maxRecDepth 20000 in
set_option maxHeartbeats 2000000 in
theorem fp_DivMod (p : Nat) (v u : Value) (xs ys : List Nat) (w : World) (hp : FP p) (ht : Trial p) (s0 : Sl .u64 w v xs) (s1 : Sl .u64 w u ys) (hm : xs.length ≤ 1000000) (hn : ys.length ≤ 1000000) (h0 : nl p ys ≠ []) :
    Calls Try.prog 63 #[.agg #[.int .u64 p], v, u] w (RetDiv p w xs ys) := by
  have H0 := Lib.hid h0; clear h0
  have HT := Lib.hid ht; clear ht
  have HP := Lib.hid hp; clear hp
  have fx := Fx.box (p := p) (Below.refl w.heap.size w)
  go_enter Try.func63, Try.ntmps63
  go_upto_region 1 with (fail)
  generalize w.alloc (.cells #[.int .u64 p] 29) = wb at *
  obtain ⟨g, eg⟩ : ∃ g, g = w.heap.size := ⟨_, rfl⟩
  rw [← eg] at fx ⊢
  have hgw : w.heap.size ≤ g := by omega
  clear eg
  have fd := fx.drew
  have t0 := s0.next fd.below
  have t1 := s1.next fd.below
  clear s0 s1 fx
  refine startL (S := (fun w' => Below wb.drew.heap.size wb.drew w')) (by kernel_rfl) (Below.refl _ _) (fun hHeld => ?_)
  refine takeL 0 (v := ?_) rfl (by kernel_rfl) (by kernel_rfl) (by kernel_rfl) (fun _ _ _ h => h) ⟨by rfl, ?_⟩ (by assumption) ?_
  rotate_left
  · intro w hS; have f1 := fd.at hS; go_simp <;> with_reducible rfl
  simp only [Act.put, List.setIfInBounds_toArray, List.set_cons_zero, List.set_cons_succ]
  refine takeL 1 (v := ?_) rfl (by kernel_rfl) (by kernel_rfl) (by kernel_rfl) (fun _ _ _ h => h) ⟨by rfl, ?_⟩ (by assumption) ?_
  rotate_left
  · intro w hS; go_simp <;> with_reducible rfl
  simp only [Act.put, List.setIfInBounds_toArray, List.set_cons_zero, List.set_cons_succ]
  refine takeL 3 (v := ?_) rfl (by kernel_rfl) (by kernel_rfl) (by kernel_rfl) (fun _ _ _ h => h) ⟨by rfl, ?_⟩ (by assumption) ?_
  rotate_left
  · intro w hS; have f1 := fd.at hS; go_simp <;> with_reducible rfl
  simp only [Act.put, List.setIfInBounds_toArray, List.set_cons_zero, List.set_cons_succ]
  refine takeL 4 (v := ?_) rfl (by kernel_rfl) (by kernel_rfl) (by kernel_rfl) (fun _ _ _ h => h) ⟨by rfl, ?_⟩ (by assumption) ?_
  rotate_left
  · intro w hS; go_simp <;> with_reducible rfl
  simp only [Act.put, List.setIfInBounds_toArray, List.set_cons_zero, List.set_cons_succ]
  refine oneL 2 rfl (by kernel_rfl) (by rfl) (fun K hK => ?_)
  go_simp
  go_at_call 80
  refine (fp_Norm p v xs _ HP.out (t0.next hHeld) (by omega)).mono ?_; rintro e w2 ⟨r2, A, rfl, oA, mA, vA, lA, b2⟩
  skip
  refine hK.out _ _ (hHeld.trans (b2.mono hHeld.size)) (fun hHeld => ?_)
  clear hK K
  try simp only [Act.put, List.setIfInBounds_toArray, List.set_cons_zero, List.set_cons_succ]
  refine oneL 5 rfl (by kernel_rfl) (by rfl) (fun K hK => ?_)
  go_simp
  go_at_call 80
  refine (fp_Norm p u ys _ HP.out (t1.next hHeld) (by omega)).mono ?_; rintro e w3 ⟨r3, C, rfl, oC, mC, vC, lC, b3⟩
  refine hK.out _ _ (hHeld.trans (b3.mono hHeld.size)) (fun hHeld => ?_)
  clear hK K
  try simp only [Act.put, List.setIfInBounds_toArray, List.set_cons_zero, List.set_cons_succ]
  refine takeL 6 (v := ?_) rfl (by kernel_rfl) (by kernel_rfl) (by kernel_rfl) (fun _ _ _ h => h) ⟨by rfl, ?_⟩ (by assumption) ?_
  rotate_left
  · intro w hS; go_simp <;> with_reducible rfl
  simp only [Act.put, List.setIfInBounds_toArray, List.set_cons_zero, List.set_cons_succ]
  refine takeL 7 (v := ?_) rfl (by kernel_rfl) (by kernel_rfl) (by kernel_rfl) (fun _ _ _ h => h) ⟨by rfl, ?_⟩ (by assumption) ?_
  rotate_left
  · intro w hS; go_simp <;> with_reducible rfl
  simp only [Act.put, List.setIfInBounds_toArray, List.set_cons_zero, List.set_cons_succ]
  refine doneL (by kernel_rfl) ?_ _
  have hgl := fd.lt
  have hwl := fd.below.size
  have eC := nl_is HP.out.pos mC vC
  have HC := Lib.hid eC
  have hC0 : C ≠ [] := by rw [eC]; exact H0.out
  have VA := Lib.hid vA; have VC := Lib.hid vC
  replace fd := fd.next hHeld
  have hAsz := b3.size
  have hoA := (oA.next b3).mono (Nat.le_trans hwl (show wb.drew.heap.size ≤ wb.drew.heap.size from Nat.le_refl _))
  have hgC := oC.shape
  rcases hgC with ⟨_, h⟩ | ⟨gc, cc, rfl, hgc1, hgc2, hcc, _⟩
  · exact absurd h hC0
  have hCl : 0 < C.length := List.length_pos_iff.mpr hC0
  have hz0 : ((C.length : Int) == 0) = false := beq_eq_false_iff_ne.mpr (by omega)
  clear eC vA vC t0 t1 hC0
  by_cases hlt : A.length < C.length
  · obtain ⟨ao, bo, oo, co, rfl, -, -⟩ := hoA.sl
    have h1 : decide ((A.length : Int) < (C.length : Int)) = true := decide_eq_true (by omega)
    clear hHeld b3 b2 oA
    go_wp2
    refine bodyPost_ret (v := .tuple #[.slice none 0 0, .slice ao A.length co, .bool true]) (by simp [results, Try.results63, go_sem]) rfl ⟨_, _, [], A, rfl, Own.nil _ _ _ _, hoA, nrm_nil _, mA, ?_, ?_, by simp, lA, fd.below⟩
    · rw [pl_nil, CR.zero_mul, CR.zero_add, VA.out]
    · rw [← HC.out]; exact hlt
  · rcases oA.shape with ⟨_, h⟩ | ⟨ga, ca, rfl, hga1, hga2, hca, _⟩
    · exfalso; rw [h] at hlt; exact hlt hCl
    have h1 : decide ((A.length : Int) < (C.length : Int)) = false := decide_eq_false (by omega)
    have hgac : gc ≠ ga := by omega
    have hgg : g < w3.heap.size := fd.lt
    obtain ⟨l, hl⟩ : ∃ l, C.length = l + 1 := ⟨C.length - 1, by omega⟩
    obtain ⟨n, hn'⟩ : ∃ n, A.length + 1 = n + C.length := ⟨A.length + 1 - C.length, by omega⟩
    have csC : Cs .u64 w3 (some ⟨gc, 0, none⟩) gc 0 C := oC.cs
    obtain ⟨x, ex⟩ : ∃ x, x = C.getD l 0 := ⟨_, rfl⟩
    obtain ⟨u, eu⟩ : ∃ u, u = (Zp.of p x).iv.val := ⟨_, rfl⟩
    have hinv : Zp.of p u * (pl p C).c l = 1 := by
      rw [(Zp.fact HP.out eu).2, ex]; exact lead_inv HT.out mC hl
    have HI := Lib.hid hinv
    have CI := Lib.hid (fun w => gfp_Inv p x u w HP.out eu)
    have hcx := csC.drawn (w' := w3.drew) ⟨1, rfl⟩ |>.cell l (by omega)
    rw [← ex, Nat.zero_add] at hcx
    have i1 : IntKind.i64.wrap (l : Int) = (l : Int) := IntWalk.i64_in _ ⟨by omega, by omega⟩
    have i2 : (C.length : Int) - 1 = (l : Int) := by omega
    have i3 : (l : Int) < (C.length : Int) := by omega
    have i4 : (0 : Int) ≤ (l : Int) := Int.natCast_nonneg _
    have HL := Lib.hid hl
    have hga3 : ga < w3.heap.size := Nat.lt_of_lt_of_le hga2 hAsz
    clear hinv ex eu hHeld b3 b2 oA oC hga2
    have fe := fd.drew
    have hgc3 : gc < w3.drew.heap.size := hgc2
    clear hl
    go_upto_region 6 with (fail)
    refine startL (S := (fun w' => Below w3.drew.heap.size w3.drew w')) (by kernel_rfl) (Below.refl _ _) (fun hHeld => ?_)
    refine takeL 0 (v := ?_) rfl (by kernel_rfl) (by kernel_rfl) (by kernel_rfl) (fun _ _ _ h => h) ⟨by rfl, ?_⟩ (by assumption) ?_
    rotate_left
    · intro w hS; have f1 := fe.at hS; have f2 := (hS.cell (p := ⟨gc, l, none⟩) hgc3).trans hcx; go_simp <;> with_reducible rfl
    simp only [Act.put, List.setIfInBounds_toArray, List.set_cons_zero, List.set_cons_succ]
    refine takeL 1 (v := ?_) rfl (by kernel_rfl) (by kernel_rfl) (by kernel_rfl) (fun _ _ _ h => h) ⟨by rfl, ?_⟩ (by assumption) ?_
    rotate_left
    · intro w hS; go_simp <;> with_reducible rfl
    simp only [Act.put, List.setIfInBounds_toArray, List.set_cons_zero, List.set_cons_succ]
    refine takeL 2 (v := ?_) rfl (by kernel_rfl) (by kernel_rfl) (by kernel_rfl) (fun _ _ _ h => h) ⟨by rfl, ?_⟩ (by assumption) ?_
    rotate_left
    · intro w hS; go_simp <;> with_reducible rfl
    simp only [Act.put, List.setIfInBounds_toArray, List.set_cons_zero, List.set_cons_succ]
    refine takeL 3 (v := ?_) rfl (by kernel_rfl) (by kernel_rfl) (by kernel_rfl) (fun _ _ _ h => h) ⟨by rfl, ?_⟩ (by assumption) ?_
    rotate_left
    · intro w hS; go_simp <;> with_reducible rfl
    simp only [Act.put, List.setIfInBounds_toArray, List.set_cons_zero, List.set_cons_succ]
    refine takeL 4 (v := ?_) rfl (by kernel_rfl) (by kernel_rfl) (by kernel_rfl) (fun _ _ _ h => h) ⟨by rfl, ?_⟩ (by assumption) ?_
    rotate_left
    · intro w hS; go_simp <;> with_reducible rfl
    simp only [Act.put, List.setIfInBounds_toArray, List.set_cons_zero, List.set_cons_succ]
    refine takeL 5 (v := ?_) rfl (by kernel_rfl) (by kernel_rfl) (by kernel_rfl) (fun _ _ _ h => h) ⟨by rfl, ?_⟩ (by assumption) ?_
    rotate_left
    · intro w hS; go_simp <;> with_reducible rfl
    simp only [Act.put, List.setIfInBounds_toArray, List.set_cons_zero, List.set_cons_succ]
    refine takeL 6 (v := ?_) rfl (by kernel_rfl) (by kernel_rfl) (by kernel_rfl) (fun _ _ _ h => h) ⟨by rfl, ?_⟩ (by assumption) ?_
    rotate_left
    · intro w hS; have f1 := fe.at hS; have f2 := (hS.cell (p := ⟨gc, l, none⟩) hgc3).trans hcx; go_simp <;> with_reducible rfl
    simp only [Act.put, List.setIfInBounds_toArray, List.set_cons_zero, List.set_cons_succ]
    refine oneL 7 rfl (by kernel_rfl) (by rfl) (fun K hK => ?_)
    go_simp
    go_at_call 118
    refine (CI.out _).mono ?_; rintro e w4 ⟨rfl, b4⟩
    refine hK.out _ _ (hHeld.trans (b4.mono hHeld.size)) (fun hHeld => ?_)
    clear hK K
    try simp only [Act.put, List.setIfInBounds_toArray, List.set_cons_zero, List.set_cons_succ]
    refine takeL 8 (v := ?_) rfl (by kernel_rfl) (by kernel_rfl) (by kernel_rfl) (fun _ _ _ h => h) ⟨by rfl, ?_⟩ (by assumption) ?_
    rotate_left
    · intro w hS; go_simp <;> with_reducible rfl
    simp only [Act.put, List.setIfInBounds_toArray, List.set_cons_zero, List.set_cons_succ]
    refine doneL (by kernel_rfl) ?_ _
    replace fe := fe.next hHeld
    have hoA2 := (hoA.drawn (w' := w3.drew) ⟨1, rfl⟩).next hHeld
    have csC2 := (csC.drawn (w' := w3.drew) ⟨1, rfl⟩).below hHeld (Nat.le_refl _)
    have hgc4 : gc < w4.heap.size := Nat.lt_of_lt_of_le hgc3 hHeld.size
    have hsz4 : w3.heap.size ≤ w4.heap.size := hHeld.size
    clear hHeld b4 hoA csC fd hcx i1 i2 i3 i4 hgc3
    go_wp2_with (at_make; refine wp_make .u64 33 27 8 Try.underlying33 (by kernel_rfl) (by decide) rfl _ _ rfl .i64 .i64 n (by omega) _ _ _ rfl rfl (by omega) (by omega) ?_; intro w5 hq hbel hsz)
    obtain ⟨gq, egq⟩ : ∃ gq, gq = w4.heap.size := ⟨_, rfl⟩
    have hgqc : gc ≠ gq := by omega
    have hgqa : ga ≠ gq := by omega
    have hgqg : g ≠ gq := by have := fe.lt; omega
    have hgag : g ≠ ga := by omega
    have hgq1 : w.heap.size ≤ gq := by have := fe.below.size; omega
    have hga1' : w.heap.size ≤ ga := by omega
    have ltq5 : gq < w5.heap.size := by omega
    have lta5 : ga < w5.heap.size := by omega
    rw [← egq] at hq ⊢
    have st : DivRel p w w5 g ga ca gq gc A C A (List.replicate n 0) n n :=
      ⟨fe.next hbel, hoA2.next hbel, hq.mono (by omega), rfl, by simp, lta5, ltq5, fun j hj => by simp [List.getD, hj], by rw [pl_replicate0, CR.zero_mul, CR.zero_add], (fun i hi => pl_dlt p A i (by omega)), csC2.below hbel (Nat.le_refl _)⟩
    clear hq hbel hsz fe hoA2 csC2 egq ltq5 lta5 hgc4 hsz4 hz0 h1
    have HN := Lib.hid hn'
    clear hn'
    go_wp2_with fail
    go_loopw [11] (fun iv wr => ∃ (i : Nat) (zs qs : List Nat), i ≤ n ∧ iv = .int .i64 ((i : Int) - 1) ∧ DivRel p w wr g ga ca gq gc A C zs qs n i) (fun iv _ => (intOf iv + 1).toNat)
    case atStart => exact ⟨n, _, _, Nat.le_refl _, rfl, st⟩
    case round =>
      clear st
      obtain ⟨i, zs, qs, hi, rfl, st⟩ := hrel
      by_cases h0 : 0 < i
      · obtain ⟨j, rfl⟩ : ∃ j, i = j + 1 := ⟨i - 1, by omega⟩
        have hl := HL.out
        have hn' := HN.out
        have hct := (st.own.drawn (w' := wr.drew) ⟨1, rfl⟩).cellAt (j + l) (by have := st.len; omega)
        obtain ⟨x, ex⟩ : ∃ x, x = zs.getD (j + l) 0 := ⟨_, rfl⟩
        rw [← ex] at hct
        obtain ⟨q, eq⟩ : ∃ q, q = (Zp.of p x * Zp.of p u).val := ⟨_, rfl⟩
        have CM := Lib.hid (fun w => gfp_Mul p x u q w HP.out eq)
        have hq1 : Zp.of p q = (pl p zs).c (j + l) * Zp.of p u := by rw [(Zp.fact HP.out eq).2, pl_c, ← ex]
        have hdl := div_dlt (f := pl p zs) (g := pl p C) (i := j) (l := l) (by have := st.dlt; rwa [show j + 1 + C.length - 1 = j + l + 1 by omega] at this) (by have := pl_dlt p C; rwa [hl] at this) HI.out hq1
        have HD := Lib.hid hdl
        have hij : ((j : Int) + (l : Int)).toNat = j + l := by omega
        have HIJ := Lib.hid hij
        replace hct : wr.drew.cell? ⟨ga, ((j : Int) + (l : Int)).toNat, none⟩ = some (.int .u64 (x : Int)) := by rw [hij]; exact hct
        have HL2 := st.lt
        have a1 : IntKind.i64.wrap ((j : Int) + (C.length : Int)) = (j : Int) + (C.length : Int) := IntWalk.i64_in _ ⟨by omega, by omega⟩
        have a2 : (j : Int) + (C.length : Int) - 1 = (j : Int) + (l : Int) := by omega
        have a3 : IntKind.i64.wrap ((j : Int) + (l : Int)) = (j : Int) + (l : Int) := IntWalk.i64_in _ ⟨by omega, by omega⟩
        have a4 : (0 : Int) ≤ (j : Int) + (l : Int) := by omega
        have a5 : (j : Int) + (l : Int) < (A.length : Int) := by omega
        have a6 : ((j + 1 : Nat) : Int) - 1 = (j : Int) := by omega
        have a7 : (0 : Int) ≤ (j : Int) := Int.natCast_nonneg _
        have a8 : (j : Int) < (n : Int) := by omega
        rw [a6]
        have fe := st.fx.drew
        have HI2 := Lib.hid hi
        clear hij ex eq hq1 hdl a6 hi hl hn'
        go_upto_region 11 with (fail)
        refine startP (S := (fun w' => Below wr.drew.heap.size wr.drew w')) (by kernel_rfl) _ rfl rfl rfl (by kernel_rfl) (Below.refl _ _) (fun hHeld => ?_)
        refine takeL 0 (v := ?_) rfl (by kernel_rfl) (by kernel_rfl) (by kernel_rfl) (fun _ _ _ h => h) ⟨by rfl, ?_⟩ (by assumption) ?_
        rotate_left
        · intro w hS; go_simp <;> with_reducible rfl
        simp only [Act.put, List.setIfInBounds_toArray, List.set_cons_zero, List.set_cons_succ]
        refine takeL 1 (v := ?_) rfl (by kernel_rfl) (by kernel_rfl) (by kernel_rfl) (fun _ _ _ h => h) ⟨by rfl, ?_⟩ (by assumption) ?_
        rotate_left
        · intro w hS; go_simp <;> with_reducible rfl
        simp only [Act.put, List.setIfInBounds_toArray, List.set_cons_zero, List.set_cons_succ]
        refine takeL 2 (v := ?_) rfl (by kernel_rfl) (by kernel_rfl) (by kernel_rfl) (fun _ _ _ h => h) ⟨by rfl, ?_⟩ (by assumption) ?_
        rotate_left
        · intro w hS; have f1 := fe.at hS; have f2 := (hS.cell (p := ⟨ga, ((j : Int) + (l : Int)).toNat, none⟩) HL2).trans hct; go_simp <;> with_reducible rfl
        simp only [Act.put, List.setIfInBounds_toArray, List.set_cons_zero, List.set_cons_succ]
        refine takeL 3 (v := ?_) rfl (by kernel_rfl) (by kernel_rfl) (by kernel_rfl) (fun _ _ _ h => h) ⟨by rfl, ?_⟩ (by assumption) ?_
        rotate_left
        · intro w hS; go_simp <;> with_reducible rfl
        simp only [Act.put, List.setIfInBounds_toArray, List.set_cons_zero, List.set_cons_succ]
        refine takeL 4 (v := ?_) rfl (by kernel_rfl) (by kernel_rfl) (by kernel_rfl) (fun _ _ _ h => h) ⟨by rfl, ?_⟩ (by assumption) ?_
        rotate_left
        · intro w hS; go_simp <;> with_reducible rfl
        simp only [Act.put, List.setIfInBounds_toArray, List.set_cons_zero, List.set_cons_succ]
        refine takeL 5 (v := ?_) rfl (by kernel_rfl) (by kernel_rfl) (by kernel_rfl) (fun _ _ _ h => h) ⟨by rfl, ?_⟩ (by assumption) ?_
        rotate_left
        · intro w hS; go_simp <;> with_reducible rfl
        simp only [Act.put, List.setIfInBounds_toArray, List.set_cons_zero, List.set_cons_succ]
        refine takeL 6 (v := ?_) rfl (by kernel_rfl) (by kernel_rfl) (by kernel_rfl) (fun _ _ _ h => h) ⟨by rfl, ?_⟩ (by assumption) ?_
        rotate_left
        · intro w hS; go_simp <;> with_reducible rfl
        simp only [Act.put, List.setIfInBounds_toArray, List.set_cons_zero, List.set_cons_succ]
        refine takeL 7 (v := ?_) rfl (by kernel_rfl) (by kernel_rfl) (by kernel_rfl) (fun _ _ _ h => h) ⟨by rfl, ?_⟩ (by assumption) ?_
        rotate_left
        · intro w hS; go_simp <;> with_reducible rfl
        simp only [Act.put, List.setIfInBounds_toArray, List.set_cons_zero, List.set_cons_succ]
        refine takeL 8 (v := ?_) rfl (by kernel_rfl) (by kernel_rfl) (by kernel_rfl) (fun _ _ _ h => h) ⟨by rfl, ?_⟩ (by assumption) ?_
        rotate_left
        · intro w hS; go_simp <;> with_reducible rfl
        simp only [Act.put, List.setIfInBounds_toArray, List.set_cons_zero, List.set_cons_succ]
        refine takeL 9 (v := ?_) rfl (by kernel_rfl) (by kernel_rfl) (by kernel_rfl) (fun _ _ _ h => h) ⟨by rfl, ?_⟩ (by assumption) ?_
        rotate_left
        · intro w hS; go_simp <;> with_reducible rfl
        simp only [Act.put, List.setIfInBounds_toArray, List.set_cons_zero, List.set_cons_succ]
        refine takeL 10 (v := ?_) rfl (by kernel_rfl) (by kernel_rfl) (by kernel_rfl) (fun _ _ _ h => h) ⟨by rfl, ?_⟩ (by assumption) ?_
        rotate_left
        · intro w hS; have f1 := fe.at hS; have f2 := (hS.cell (p := ⟨ga, ((j : Int) + (l : Int)).toNat, none⟩) HL2).trans hct; go_simp <;> with_reducible rfl
        simp only [Act.put, List.setIfInBounds_toArray, List.set_cons_zero, List.set_cons_succ]
        refine takeL 11 (v := ?_) rfl (by kernel_rfl) (by kernel_rfl) (by kernel_rfl) (fun _ _ _ h => h) ⟨by rfl, ?_⟩ (by assumption) ?_
        rotate_left
        · intro w hS; go_simp <;> with_reducible rfl
        simp only [Act.put, List.setIfInBounds_toArray, List.set_cons_zero, List.set_cons_succ]
        refine oneL 12 rfl (by kernel_rfl) (by rfl) (fun K hK => ?_)
        go_simp
        go_at_call 96
        refine (CM.out _).mono ?_; rintro e w6 ⟨rfl, b6⟩
        refine hK.out _ _ (hHeld.trans (b6.mono hHeld.size)) (fun hHeld => ?_)
        clear hK K
        try simp only [Act.put, List.setIfInBounds_toArray, List.set_cons_zero, List.set_cons_succ]
        refine takeL 13 (v := ?_) rfl (by kernel_rfl) (by kernel_rfl) (by kernel_rfl) (fun _ _ _ h => h) ⟨by rfl, ?_⟩ (by assumption) ?_
        rotate_left
        · intro w hS; go_simp <;> with_reducible rfl
        simp only [Act.put, List.setIfInBounds_toArray, List.set_cons_zero, List.set_cons_succ]
        refine doneL (by kernel_rfl) ?_ _
        refine lastL rfl (by rfl) ?_
        have oq := (st.ownq.drawn (w' := wr.drew) ⟨1, rfl⟩).next hHeld
        have oa := (st.own.drawn (w' := wr.drew) ⟨1, rfl⟩).next hHeld
        have cc := (st.cs.drawn (w' := wr.drew) ⟨1, rfl⟩).below hHeld (Nat.le_refl _)
        have hlq := st.lenq
        have hcq := oq.cellAt j (by omega)
        have hfq := oq.frozenAt j
        have s6 : DivIn p w (w6.setCell ⟨gq, j, none⟩ (.int .u64 (q : Int))) g ga ca gq gc A C zs zs (qs.set j q) n j q 0 :=
          ⟨(fe.next hHeld).set hgq1 hgqg _, oa.set_far hgqa _, (oq.store j q).1, st.len, by simpa [World.setCell] using Nat.lt_of_lt_of_le st.lt hHeld.size, by simpa [World.setCell] using Nat.lt_of_lt_of_le st.ltq hHeld.size,
            by rw [List.take_zero, pl_nil, CR.mul_zero, CR.sub_zero], cc.set_far hgqc _⟩
        have hqj : (qs.set j q).getD j 0 = q := by rw [getD_set qs j q j (by omega), if_pos rfl]
        have HQJ := Lib.hid hqj
        have st2 := Lib.hid (show qs.length = n ∧ (∀ k, k < j + 1 → qs.getD k 0 = 0) ∧ pl p A = pl p qs * pl p C + pl p zs from ⟨st.lenq, st.zero, st.val⟩)
        clear hct b6 hHeld st fe oa cc HL2 oq hlq a1 a2 a3 a4 a5 hqj
        obtain ⟨wo, rfl⟩ : ∃ wo : World, wo = wr := ⟨_, rfl⟩
        go_wp2
        clear hcq hfq
        go_loopw [67] (fun kv wr => ∃ (k : Nat) (zk : List Nat), k ≤ C.length ∧ kv = .int .i64 k ∧ DivIn p w wr g ga ca gq gc A C zs zk (qs.set j q) n j q k) (fun kv _ => C.length - (intOf kv).toNat)
        case atStart => exact ⟨0, zs, by omega, rfl, s6⟩
        case round =>
          clear s6
          obtain ⟨k, zk, hk, rfl, s6⟩ := hrel
          by_cases hltk : k < C.length
          · have hcy := s6.cs.cell k hltk
            rw [Nat.zero_add] at hcy
            obtain ⟨y, ey⟩ : ∃ y, y = C.getD k 0 := ⟨_, rfl⟩
            rw [← ey] at hcy
            have hjk : j + k < zk.length := by have := s6.len; have := HN.out; have := HI2.out; omega
            have hct := (s6.own.drawn (w' := wr.drew) ⟨1, rfl⟩).cellAt (j + k) hjk
            obtain ⟨t, et⟩ : ∃ t, t = zk.getD (j + k) 0 := ⟨_, rfl⟩
            rw [← et] at hct
            have hcq := (s6.ownq.drawn (w' := wr.drew) ⟨1, rfl⟩).cellAt j (by rw [List.length_set]; have := st2.out.1; have := HI2.out; omega)
            rw [HQJ.out] at hcq
            obtain ⟨m, em⟩ : ∃ m, m = (Zp.of p q * Zp.of p y).val := ⟨_, rfl⟩
            obtain ⟨z, ez⟩ : ∃ z, z = (Zp.of p t - Zp.of p m).val := ⟨_, rfl⟩
            have CM1 := Lib.hid (fun w => gfp_Mul p q y m w HP.out em)
            have CS := Lib.hid (fun w => gfp_Sub p t m z w HP.out ez)
            have ar := div_inner (z := z) (m := m) hjk s6.val ey (Zp.fact HP.out em).2 (by rw [← et]; exact (Zp.fact HP.out ez).2)
            have AR := Lib.hid ar
            have hij : ((j : Int) + (k : Int)).toNat = j + k := by omega
            have HJK := Lib.hid hij
            have HKL := Lib.hid hjk
            replace hct : wr.drew.cell? ⟨ga, ((j : Int) + (k : Int)).toNat, none⟩ = some (.int .u64 (t : Int)) := by rw [hij]; exact hct
            have HL2 := s6.lt
            have HL3 := s6.ltq
            have a1 : IntKind.i64.wrap ((j : Int) + (k : Int)) = (j : Int) + (k : Int) := IntWalk.i64_in _ ⟨by omega, by have := HN.out; have := HI2.out; omega⟩
            have a4 : (0 : Int) ≤ (j : Int) + (k : Int) := by omega
            have a5 : (j : Int) + (k : Int) < (A.length : Int) := by have := HN.out; have := HI2.out; omega
            have k0 : (0 : Int) ≤ (k : Int) := Int.natCast_nonneg _
            have k1 : (k : Int) < (C.length : Int) := by omega
            have fe := s6.fx.drew
            clear ey et em ez ar hij hjk
            go_upto_region 15 with (fail)
            clear hcy
            refine startP (S := (fun w' => Below wr.drew.heap.size wr.drew w')) (by kernel_rfl) _ rfl rfl rfl (by kernel_rfl) (Below.refl _ _) (fun hHeld => ?_)
            refine takeL 0 (v := ?_) rfl (by kernel_rfl) (by kernel_rfl) (by kernel_rfl) (fun _ _ _ h => h) ⟨by rfl, ?_⟩ (by assumption) ?_
            rotate_left
            · intro w hS; go_simp <;> with_reducible rfl
            simp only [Act.put, List.setIfInBounds_toArray, List.set_cons_zero, List.set_cons_succ]
            refine takeL 1 (v := ?_) rfl (by kernel_rfl) (by kernel_rfl) (by kernel_rfl) (fun _ _ _ h => h) ⟨by rfl, ?_⟩ (by assumption) ?_
            rotate_left
            · intro w hS; go_simp <;> with_reducible rfl
            simp only [Act.put, List.setIfInBounds_toArray, List.set_cons_zero, List.set_cons_succ]
            refine takeL 2 (v := ?_) rfl (by kernel_rfl) (by kernel_rfl) (by kernel_rfl) (fun _ _ _ h => h) ⟨by rfl, ?_⟩ (by assumption) ?_
            rotate_left
            · intro w hS; go_simp <;> with_reducible rfl
            simp only [Act.put, List.setIfInBounds_toArray, List.set_cons_zero, List.set_cons_succ]
            refine takeL 3 (v := ?_) rfl (by kernel_rfl) (by kernel_rfl) (by kernel_rfl) (fun _ _ _ h => h) ⟨by rfl, ?_⟩ (by assumption) ?_
            rotate_left
            · intro w hS; go_simp <;> with_reducible rfl
            simp only [Act.put, List.setIfInBounds_toArray, List.set_cons_zero, List.set_cons_succ]
            refine takeL 4 (v := ?_) rfl (by kernel_rfl) (by kernel_rfl) (by kernel_rfl) (fun _ _ _ h => h) ⟨by rfl, ?_⟩ (by assumption) ?_
            rotate_left
            · intro w hS; have f1 := fe.at hS; have f2 := (hS.cell (p := ⟨ga, ((j : Int) + (k : Int)).toNat, none⟩) HL2).trans hct; have f3 := (hS.cell (p := ⟨gq, j, none⟩) HL3).trans hcq; go_simp <;> with_reducible rfl
            simp only [Act.put, List.setIfInBounds_toArray, List.set_cons_zero, List.set_cons_succ]
            refine takeL 5 (v := ?_) rfl (by kernel_rfl) (by kernel_rfl) (by kernel_rfl) (fun _ _ _ h => h) ⟨by rfl, ?_⟩ (by assumption) ?_
            rotate_left
            · intro w hS; go_simp <;> with_reducible rfl
            simp only [Act.put, List.setIfInBounds_toArray, List.set_cons_zero, List.set_cons_succ]
            refine takeL 6 (v := ?_) rfl (by kernel_rfl) (by kernel_rfl) (by kernel_rfl) (fun _ _ _ h => h) ⟨by rfl, ?_⟩ (by assumption) ?_
            rotate_left
            · intro w hS; go_simp <;> with_reducible rfl
            simp only [Act.put, List.setIfInBounds_toArray, List.set_cons_zero, List.set_cons_succ]
            refine takeL 7 (v := ?_) rfl (by kernel_rfl) (by kernel_rfl) (by kernel_rfl) (fun _ _ _ h => h) ⟨by rfl, ?_⟩ (by assumption) ?_
            rotate_left
            · intro w hS; go_simp <;> with_reducible rfl
            simp only [Act.put, List.setIfInBounds_toArray, List.set_cons_zero, List.set_cons_succ]
            refine takeL 8 (v := ?_) rfl (by kernel_rfl) (by kernel_rfl) (by kernel_rfl) (fun _ _ _ h => h) ⟨by rfl, ?_⟩ (by assumption) ?_
            rotate_left
            · intro w hS; go_simp <;> with_reducible rfl
            simp only [Act.put, List.setIfInBounds_toArray, List.set_cons_zero, List.set_cons_succ]
            refine takeL 9 (v := ?_) rfl (by kernel_rfl) (by kernel_rfl) (by kernel_rfl) (fun _ _ _ h => h) ⟨by rfl, ?_⟩ (by assumption) ?_
            rotate_left
            · intro w hS; go_simp <;> with_reducible rfl
            simp only [Act.put, List.setIfInBounds_toArray, List.set_cons_zero, List.set_cons_succ]
            refine takeL 10 (v := ?_) rfl (by kernel_rfl) (by kernel_rfl) (by kernel_rfl) (fun _ _ _ h => h) ⟨by rfl, ?_⟩ (by assumption) ?_
            rotate_left
            · intro w hS; have f1 := fe.at hS; have f2 := (hS.cell (p := ⟨ga, ((j : Int) + (k : Int)).toNat, none⟩) HL2).trans hct; have f3 := (hS.cell (p := ⟨gq, j, none⟩) HL3).trans hcq; go_simp <;> with_reducible rfl
            simp only [Act.put, List.setIfInBounds_toArray, List.set_cons_zero, List.set_cons_succ]
            refine takeL 11 (v := ?_) rfl (by kernel_rfl) (by kernel_rfl) (by kernel_rfl) (fun _ _ _ h => h) ⟨by rfl, ?_⟩ (by assumption) ?_
            rotate_left
            · intro w hS; have f1 := fe.at hS; have f2 := (hS.cell (p := ⟨ga, ((j : Int) + (k : Int)).toNat, none⟩) HL2).trans hct; have f3 := (hS.cell (p := ⟨gq, j, none⟩) HL3).trans hcq; go_simp <;> with_reducible rfl
            simp only [Act.put, List.setIfInBounds_toArray, List.set_cons_zero, List.set_cons_succ]
            refine takeL 12 (v := ?_) rfl (by kernel_rfl) (by kernel_rfl) (by kernel_rfl) (fun _ _ _ h => h) ⟨by rfl, ?_⟩ (by assumption) ?_
            rotate_left
            · intro w hS; go_simp <;> with_reducible rfl
            simp only [Act.put, List.setIfInBounds_toArray, List.set_cons_zero, List.set_cons_succ]
            refine takeL 13 (v := ?_) rfl (by kernel_rfl) (by kernel_rfl) (by kernel_rfl) (fun _ _ _ h => h) ⟨by rfl, ?_⟩ (by assumption) ?_
            rotate_left
            · intro w hS; go_simp <;> with_reducible rfl
            simp only [Act.put, List.setIfInBounds_toArray, List.set_cons_zero, List.set_cons_succ]
            refine takeL 14 (v := ?_) rfl (by kernel_rfl) (by kernel_rfl) (by kernel_rfl) (fun _ _ _ h => h) ⟨by rfl, ?_⟩ (by assumption) ?_
            rotate_left
            · intro w hS; go_simp <;> with_reducible rfl
            simp only [Act.put, List.setIfInBounds_toArray, List.set_cons_zero, List.set_cons_succ]
            refine takeL 15 (v := ?_) rfl (by kernel_rfl) (by kernel_rfl) (by kernel_rfl) (fun _ _ _ h => h) ⟨by rfl, ?_⟩ (by assumption) ?_
            rotate_left
            · intro w hS; have f1 := fe.at hS; have f2 := (hS.cell (p := ⟨ga, ((j : Int) + (k : Int)).toNat, none⟩) HL2).trans hct; have f3 := (hS.cell (p := ⟨gq, j, none⟩) HL3).trans hcq; go_simp <;> with_reducible rfl
            simp only [Act.put, List.setIfInBounds_toArray, List.set_cons_zero, List.set_cons_succ]
            refine takeL 16 (v := ?_) rfl (by kernel_rfl) (by kernel_rfl) (by kernel_rfl) (fun _ _ _ h => h) ⟨by rfl, ?_⟩ (by assumption) ?_
            rotate_left
            · intro w hS; go_simp <;> with_reducible rfl
            simp only [Act.put, List.setIfInBounds_toArray, List.set_cons_zero, List.set_cons_succ]
            refine oneL 17 rfl (by kernel_rfl) (by rfl) (fun K hK => ?_)
            go_simp
            go_at_call 96
            refine (CM1.out _).mono ?_; rintro e w7 ⟨rfl, b7⟩
            refine hK.out _ _ (hHeld.trans (b7.mono hHeld.size)) (fun hHeld => ?_)
            clear hK K
            try simp only [Act.put, List.setIfInBounds_toArray, List.set_cons_zero, List.set_cons_succ]
            refine oneL 18 rfl (by kernel_rfl) (by rfl) (fun K hK => ?_)
            go_simp
            go_at_call 119
            refine (CS.out _).mono ?_; rintro e w8 ⟨rfl, b8⟩
            refine hK.out _ _ (hHeld.trans (b8.mono hHeld.size)) (fun hHeld => ?_)
            clear hK K
            try simp only [Act.put, List.setIfInBounds_toArray, List.set_cons_zero, List.set_cons_succ]
            refine takeL 19 (v := ?_) rfl (by kernel_rfl) (by kernel_rfl) (by kernel_rfl) (fun _ _ _ h => h) ⟨by rfl, ?_⟩ (by assumption) ?_
            rotate_left
            · intro w hS; go_simp <;> with_reducible rfl
            simp only [Act.put, List.setIfInBounds_toArray, List.set_cons_zero, List.set_cons_succ]
            refine doneL (by kernel_rfl) ?_ _
            refine lastL rfl (by rfl) ?_
            have oq := (s6.ownq.drawn (w' := wr.drew) ⟨1, rfl⟩).next hHeld
            have oa := (s6.own.drawn (w' := wr.drew) ⟨1, rfl⟩).next hHeld
            have cc := (s6.cs.drawn (w' := wr.drew) ⟨1, rfl⟩).below hHeld (Nat.le_refl _)
            have hc8 := oa.cellAt (j + k) HKL.out
            have hf8 := oa.frozenAt (j + k)
            rw [← HJK.out] at hc8 hf8
            have s8 : DivIn p w (w8.setCell ⟨ga, j + k, none⟩ (.int .u64 (z : Int))) g ga ca gq gc A C zs (zk.set (j + k) z) (qs.set j q) n j q (k + 1) :=
              ⟨(fe.next hHeld).set hga1' hgag _, (oa.store (j + k) z).1, oq.set_far (fun h => hgqa h.symm) _, by rw [List.length_set]; exact s6.len, by simpa [World.setCell] using Nat.lt_of_lt_of_le s6.lt hHeld.size, by simpa [World.setCell] using Nat.lt_of_lt_of_le s6.ltq hHeld.size,
                AR.out, cc.set_far hgac _⟩
            clear hct hcq b7 b8 hHeld s6 fe oa cc HL2 HL3 oq
            go_wp2
            go_roundw
            case rel => exact ⟨k + 1, _, by omega, by go_num, s8⟩
            case measure => simp [intOf] <;> omega
          · obtain rfl : k = C.length := by omega
            have hv := s6.val
            rw [List.take_length] at hv
            have hqs := st2.out.1
            have hi2 := HI2.out
            have hjb : j ≤ 1000001 := by have := HN.out; omega
            have hD := HD.out
            rw [← hv] at hD
            have st3 : DivRel p w wr g ga ca gq gc A C zk (qs.set j q) n j :=
              ⟨s6.fx, s6.own, s6.ownq, s6.len, by rw [List.length_set]; exact hqs, s6.lt, s6.ltq, fun k hk => by rw [getD_set qs j q k (by omega), if_neg (by omega)]; exact st2.out.2.1 k (by omega),
                div_outer (by omega) (st2.out.2.1 j (by omega)) st2.out.2.2 hv, by rw [show j + C.length - 1 = j + l by have := HL.out; omega]; exact hD, s6.cs⟩
            clear hv hqs hD s6
            go_wp2
            go_roundw
            case rel => exact ⟨j, _, _, by have := HI2.out; omega, by go_num, st3⟩
            case measure => simp [intOf] <;> omega
      · obtain rfl : i = 0 := by omega
        have fe := st.fx.drew
        have ownq := (st.ownq.drawn (w' := wr.drew) ⟨1, rfl⟩)
        have own := (st.own.drawn (w' := wr.drew) ⟨1, rfl⟩)
        have hz1 := st.len
        have hz2 := st.lenq
        have hn2 := HN.out
        have fin := Lib.hid (show pl p A = pl p qs * pl p C + pl p zs ∧ (pl p zs).dlt (C.length - 1) from ⟨st.val, by have := st.dlt; rwa [Nat.zero_add] at this⟩)
        clear st
        go_upto_region 17 with (fail)
        refine startL (S := (fun w' => Below wr.drew.heap.size wr.drew w')) (by kernel_rfl) (Below.refl _ _) (fun hHeld => ?_)
        refine takeL 0 (v := ?_) rfl (by kernel_rfl) (by kernel_rfl) (by kernel_rfl) (fun _ _ _ h => h) ⟨by rfl, ?_⟩ (by assumption) ?_
        rotate_left
        · intro w hS; have f1 := fe.at hS; go_simp <;> with_reducible rfl
        simp only [Act.put, List.setIfInBounds_toArray, List.set_cons_zero, List.set_cons_succ]
        refine takeL 1 (v := ?_) rfl (by kernel_rfl) (by kernel_rfl) (by kernel_rfl) (fun _ _ _ h => h) ⟨by rfl, ?_⟩ (by assumption) ?_
        rotate_left
        · intro w hS; go_simp <;> with_reducible rfl
        simp only [Act.put, List.setIfInBounds_toArray, List.set_cons_zero, List.set_cons_succ]
        refine takeL 3 (v := ?_) rfl (by kernel_rfl) (by kernel_rfl) (by kernel_rfl) (fun _ _ _ h => h) ⟨by rfl, ?_⟩ (by assumption) ?_
        rotate_left
        · intro w hS; have f1 := fe.at hS; go_simp <;> with_reducible rfl
        simp only [Act.put, List.setIfInBounds_toArray, List.set_cons_zero, List.set_cons_succ]
        refine takeL 4 (v := ?_) rfl (by kernel_rfl) (by kernel_rfl) (by kernel_rfl) (fun _ _ _ h => h) ⟨by rfl, ?_⟩ (by assumption) ?_
        rotate_left
        · intro w hS; go_simp <;> with_reducible rfl
        simp only [Act.put, List.setIfInBounds_toArray, List.set_cons_zero, List.set_cons_succ]
        refine oneL 2 rfl (by kernel_rfl) (by rfl) (fun K hK => ?_)
        go_simp
        go_at_call 80
        refine (fp_Norm p _ qs _ HP.out (ownq.next hHeld).sl (by omega)).mono ?_; rintro e w6 ⟨r6, z6, rfl, o6, m6, v6, l6, b6⟩
        have V6 := Lib.hid v6; clear v6; replace o6 := o6.mono (Nat.le_trans fe.below.size hHeld.size)
        refine hK.out _ _ (hHeld.trans (b6.mono hHeld.size)) (fun hHeld => ?_)
        clear hK K
        try simp only [Act.put, List.setIfInBounds_toArray, List.set_cons_zero, List.set_cons_succ]
        refine oneL 5 rfl (by kernel_rfl) (by rfl) (fun K hK => ?_)
        go_simp
        go_at_call 80
        refine (fp_Norm p _ zs _ HP.out (own.next hHeld).sl (by omega)).mono ?_; rintro e w7 ⟨r7, z7, rfl, o7, m7, v7, l7, b7⟩
        have V7 := Lib.hid v7; clear v7; replace o7 := o7.mono (Nat.le_trans fe.below.size hHeld.size); replace o6 := o6.next b7
        refine hK.out _ _ (hHeld.trans (b7.mono hHeld.size)) (fun hHeld => ?_)
        clear hK K
        try simp only [Act.put, List.setIfInBounds_toArray, List.set_cons_zero, List.set_cons_succ]
        refine takeL 6 (v := ?_) rfl (by kernel_rfl) (by kernel_rfl) (by kernel_rfl) (fun _ _ _ h => h) ⟨by rfl, ?_⟩ (by assumption) ?_
        rotate_left
        · intro w hS; go_simp <;> with_reducible rfl
        simp only [Act.put, List.setIfInBounds_toArray, List.set_cons_zero, List.set_cons_succ]
        refine takeL 7 (v := ?_) rfl (by kernel_rfl) (by kernel_rfl) (by kernel_rfl) (fun _ _ _ h => h) ⟨by rfl, ?_⟩ (by assumption) ?_
        rotate_left
        · intro w hS; go_simp <;> with_reducible rfl
        simp only [Act.put, List.setIfInBounds_toArray, List.set_cons_zero, List.set_cons_succ]
        refine takeL 8 (v := ?_) rfl (by kernel_rfl) (by kernel_rfl) (by kernel_rfl) (fun _ _ _ h => h) ⟨by rfl, ?_⟩ (by assumption) ?_
        rotate_left
        · intro w hS; go_simp <;> with_reducible rfl
        simp only [Act.put, List.setIfInBounds_toArray, List.set_cons_zero, List.set_cons_succ]
        refine doneL (by kernel_rfl) ?_ _
        go_wp2
        refine bodyPost_ret (v := .tuple #[r6, r7, .bool true]) (by simp [results, Try.results63, go_sem]) rfl ⟨r6, r7, z6, z7, rfl, o6, o7, m6, m7, ?_, ?_, by omega, by omega, fe.below.trans (hHeld.mono fe.below.size)⟩
        · rw [V6.out, V7.out, ← VA.out, ← VC.out]; exact fin.out.1
        · rw [← HC.out]
          have : z7.length ≤ C.length - 1 := pl_len HP.out.pos m7 (by rw [V7.out]; exact fin.out.2)
          omega

end Go.Proofs.Ythghdjpjbngllaa
