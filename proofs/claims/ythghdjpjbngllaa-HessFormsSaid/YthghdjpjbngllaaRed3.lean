/- Plain algebra: inverses, solutions and kernels by the reduced form. -/
import Derived.Test.YthghdjpjbngllaaRed2
namespace Go.Proofs.Ythghdjpjbngllaa
open CR

section
variable {p : Nat} {n m C : Nat} {W0 W : Nat → Nat → Zp p} {P : List Nat} {d : Zp p}

/-- Two matrices side by side. -/
def beside (a : Nat) (A B : Nat → Nat → Zp p) : Nat → Nat → Zp p := fun i k => if k < a then A i k else B i (k - a)
theorem beside_l {a : Nat} {A B : Nat → Nat → Zp p} {i k : Nat} (h : k < a) : beside a A B i k = A i k := if_pos h
theorem beside_r {a : Nat} {A B : Nat → Nat → Zp p} {i k : Nat} : beside a A B i (a + k) = B i k := by
  unfold beside; rw [if_neg (by omega), Nat.add_sub_cancel_left]

theorem inv_full {A : MT (Zp p) n n} (h : RedF n (n + n) n (beside n A.e one1) W P d) (hl : P.length = n) : Inv A (MT.of n n (fun i k => W i (n + k))) := by
  obtain ⟨T, T', hi, hr⟩ := rq_row h.rq
  have e1 : T = MT.of n n (fun i k => W i (n + k)) := MT.ext fun i k hi hk => by
    rw [MT.of_e _ hi hk, hr i (n + k) hi (by omega), sm_congr (g := fun j => T.e i j * one1 j k) (fun j _ => by rw [beside_r])]
    exact (mm_one T.e hk).symm
  have e2 : T * A = MT.one n := MT.ext fun i k hi hk => by
    rw [MT.e_mul, MT.e_one hi hk, sm_congr (g := fun j => T.e i j * beside n A.e one1 j k) (fun j _ => by rw [beside_l hk]), ← hr i k hi (by omega)]
    have h1 := h.unit k i (by omega) hi
    rw [h.incr.full hl k hk] at h1
    exact h1
  rw [← e1]
  have e3 : A = T' := hi.unique e2
  rw [e3]; exact hi.symm
theorem inv_less {A : MT (Zp p) n n} (h : RedF n (n + n) n (beside n A.e one1) W P d) (hl : P.length ≠ n) : A.det = 0 := by
  have h1 := h.len
  have e : dn n (beside n A.e one1) = A.det := dn_congr n fun i k _ hk => beside_l hk
  rw [← e, h.det, dn_row0 (i := P.length) (by omega) (fun k hk => h.low P.length k (Nat.le_refl _) (by omega) hk), mul_zero]
theorem inv_det (h01 : (1 : Zp p) ≠ 0) {A B : MT (Zp p) n n} (h : Inv A B) : A.det ≠ 0 := fun e => h01 (by rw [← h.det, e, zero_mul])

/-- A solution, by the reduced form: what stands at a pivot's place, or 0. -/
def solv (C : Nat) (W : Nat → Nat → Zp p) (P : List Nat) : Nat → Nat → Zp p := fun i k => if i ∈ P then W (P.idxOf i) (C + k) else 0
theorem Incr.idx {P : List Nat} {C t : Nat} (h : Incr P C) (ht : t < P.length) : P.idxOf (P.getD t 0) = t := by
  have e : P.getD t 0 = P[t] := by simp [List.getD, List.getElem?_eq_getElem ht]
  have hm : P.getD t 0 ∈ P := by rw [e]; exact List.getElem_mem ht
  have hlt := List.idxOf_lt_length_of_mem hm
  refine h.inj hlt ht ?_
  have : P[P.idxOf (P.getD t 0)] = P.getD t 0 := List.getElem_idxOf hlt
  rw [getD_lt P _ hlt]; exact this
theorem mem_getD {P : List Nat} {i : Nat} (h : i ∈ P) : ∃ t, t < P.length ∧ P.getD t 0 = i := by
  obtain ⟨t, ht, e⟩ := List.getElem_of_mem h
  exact ⟨t, ht, by simp [List.getD, List.getElem?_eq_getElem ht, e]⟩
theorem getD_mem {P : List Nat} {t : Nat} (ht : t < P.length) : P.getD t 0 ∈ P := by
  have e : P.getD t 0 = P[t] := by simp [List.getD, List.getElem?_eq_getElem ht]
  rw [e]; exact List.getElem_mem ht

theorem solv_ok {q : Nat} {A : MT (Zp p) n C} {B : MT (Zp p) n q} (h : RedF n (C + q) C (beside C A.e B.e) W P d) (h0 : ∀ r k, P.length ≤ r → r < n → k < q → W r (C + k) = 0) :
    A * MT.of C q (solv C W P) = B := by
  obtain ⟨T, T', hi, hr⟩ := rq_row h.rq
  refine hi.cancel (MT.ext fun r k hrn hk => ?_)
  rw [← MT.mul_assoc]
  have eA : ∀ i, i < C → (T * A).e r i = W r i := fun i hiC => by
    rw [hr r i hrn (by omega), MT.e_mul]; exact sm_congr fun j _ => by rw [beside_l hiC]
  have eB : (T * B).e r k = W r (C + k) := by
    rw [hr r (C + k) hrn (by omega), MT.e_mul]; exact sm_congr fun j _ => by rw [beside_r]
  rw [eB, MT.e_mul, sm_congr (g := fun i => W r i * solv C W P i k) (fun i hiC => by rw [eA i hiC, MT.of_e _ hiC hk]),
    h.incr.sum C (fun i _ hn => by
      unfold solv; rw [if_neg (fun hm => by obtain ⟨t, ht, e⟩ := mem_getD hm; exact hn t ht e), mul_zero])]
  rw [sm_congr (g := fun t => (if r = t then 1 else 0) * W t (C + k)) (fun t ht => by
    unfold solv; rw [h.unit t r ht hrn, if_pos (getD_mem ht), h.incr.idx ht])]
  by_cases hl : r < P.length
  · rw [sm_one hl (fun t _ hn => by rw [if_neg (fun e => hn e.symm), zero_mul]), if_pos rfl, one_mul]
  · rw [sm_zero' (fun t ht => by rw [if_neg (by omega), zero_mul]), h0 r k (by omega) hrn hk]
theorem solv_no {q r k : Nat} {A : MT (Zp p) n C} {B : MT (Zp p) n q} (h : RedF n (C + q) C (beside C A.e B.e) W P d) (hr0 : P.length ≤ r) (hrn : r < n) (hk : k < q) (h0 : W r (C + k) ≠ 0) (X : MT (Zp p) C q) : A * X ≠ B := by
  intro e
  obtain ⟨T, T', hi, hr⟩ := rq_row h.rq
  apply h0
  have eB : (T * B).e r k = W r (C + k) := by
    rw [hr r (C + k) hrn (by omega), MT.e_mul]; exact sm_congr fun j _ => by rw [beside_r]
  rw [← eB, ← e, ← MT.mul_assoc, MT.e_mul]
  refine sm_zero' fun i hiC => ?_
  have eA : (T * A).e r i = W r i := by
    rw [hr r i hrn (by omega), MT.e_mul]; exact sm_congr fun j _ => by rw [beside_l hiC]
  rw [eA, h.low r i hr0 hrn hiC, zero_mul]

/-- The columns without a pivot. -/
def free (C : Nat) (P : List Nat) : List Nat := (List.range C).filter fun k => !P.contains k
theorem free_mem {C k : Nat} {P : List Nat} : k ∈ free C P ↔ k < C ∧ k ∉ P := by
  unfold free; rw [List.mem_filter]; simp
theorem free_succ (C : Nat) (P : List Nat) : free (C + 1) P = free C P ++ (if C ∈ P then [] else [C]) := by
  unfold free; rw [List.range_succ, List.filter_append]
  congr 1
  by_cases h : C ∈ P <;> simp [h]
theorem free_incr (C : Nat) (P : List Nat) : Incr (free C P) C := by
  induction C with
  | zero => exact ⟨fun t h => by simp [free] at h, fun s t _ h => by simp [free] at h⟩
  | succ C ih =>
    rw [free_succ]
    by_cases h : C ∈ P
    · rw [if_pos h, List.append_nil]; exact ⟨fun t ht => by have := ih.1 t ht; omega, ih.2⟩
    · rw [if_neg h]
      refine ⟨fun t ht => ?_, fun s t hst ht => ?_⟩
      · rcases getD_app ht with ⟨h1, h2⟩ | ⟨h1, h2⟩
        · rw [h2]; have := ih.1 t h1; omega
        · rw [h2]; omega
      · rcases getD_app ht with ⟨h1, h2⟩ | ⟨h1, h2⟩
        · rcases getD_app (show s < (free C P ++ [C]).length by simp; omega) with ⟨k1, k2⟩ | ⟨k1, k2⟩
          · rw [h2, k2]; exact ih.2 s t hst h1
          · omega
        · rcases getD_app (show s < (free C P ++ [C]).length by simp; omega) with ⟨k1, k2⟩ | ⟨k1, k2⟩
          · rw [h2, k2]; exact ih.1 s k1
          · omega

theorem part_sum {R : Type} [CR R] {P : List Nat} (h : Incr P C) (f : Nat → R) : sm C f = sm P.length (fun t => f (P.getD t 0)) + sm (free C P).length (fun t => f ((free C P).getD t 0)) := by
  have e : sm C f = sm C (fun i => (if i ∈ P then f i else 0) + (if i ∈ P then 0 else f i)) := sm_congr fun i _ => by
    split
    · rw [add_zero]
    · rw [zero_add]
  rw [e, sm_add, h.sum C (fun i _ hn => if_neg (fun hm => by obtain ⟨t, ht, e⟩ := mem_getD hm; exact hn t ht e)),
    (free_incr C P).sum C (fun i hiC hn => by
      split
      · rfl
      · rename_i hm
        obtain ⟨t, ht, e⟩ := mem_getD (free_mem.2 ⟨hiC, hm⟩)
        exact (hn t ht e).elim)]
  congr 1
  · exact sm_congr fun t ht => if_pos (getD_mem ht)
  · exact sm_congr fun t ht => if_neg (free_mem.1 (getD_mem ht)).2

/-- The kernel's columns. -/
def kerM (W : Nat → Nat → Zp p) (C : Nat) (P : List Nat) : Nat → Nat → Zp p := fun i k => if i ∈ P then -W (P.idxOf i) ((free C P).getD k 0) else if i = (free C P).getD k 0 then 1 else 0
/-- What takes the places without a pivot. -/
def kerL (C : Nat) (P : List Nat) : MT (Zp p) (free C P).length C := MT.of _ _ fun k i => if i = (free C P).getD k 0 then 1 else 0

theorem kerL_mul {q : Nat} (V : MT (Zp p) C q) {t k : Nat} (ht : t < (free C P).length) : ((kerL C P : MT (Zp p) _ C) * V).e t k = V.e ((free C P).getD t 0) k := by
  have hC := (free_incr C P).1 t ht
  rw [MT.e_mul, sm_one hC (fun j hj hn => by unfold kerL; rw [MT.of_e _ ht hj, if_neg hn, zero_mul])]
  unfold kerL; rw [MT.of_e _ ht hC, if_pos rfl, one_mul]

theorem ker_left (P : List Nat) (W : Nat → Nat → Zp p) : (kerL C P : MT (Zp p) _ C) * MT.of C (free C P).length (kerM W C P) = MT.one _ := MT.ext fun t k ht hk => by
  have hC := (free_incr C P).1 t ht
  rw [kerL_mul _ ht, MT.of_e _ hC hk, MT.e_one ht hk]
  unfold kerM
  rw [if_neg (free_mem.1 (getD_mem ht)).2]
  by_cases e : t = k
  · rw [e, if_pos rfl, if_pos rfl]
  · rw [if_neg e, if_neg (fun h => e ((free_incr C P).inj ht hk h))]

theorem ker_all {A : MT (Zp p) n C} (h : RedF n C C A.e W P d) {q : Nat} {V : MT (Zp p) C q} (h0 : A * V = 0) : V = MT.of C (free C P).length (kerM W C P) * ((kerL C P : MT (Zp p) _ C) * V) := by
  obtain ⟨T, T', hi, hr⟩ := rq_row h.rq
  have hW : ∀ r k, r < n → k < q → sm C (fun i => W r i * V.e i k) = 0 := by
    intro r k hrn _
    have : (T * (A * V)).e r k = 0 := by rw [h0, MT.mul_zero]; rfl
    rw [← this, ← MT.mul_assoc, MT.e_mul]
    exact sm_congr fun i hiC => by rw [hr r i hrn hiC]; rfl
  refine MT.ext fun i k hiC hk => ?_
  rw [MT.e_mul, sm_congr (g := fun t => kerM W C P i t * V.e ((free C P).getD t 0) k) (fun t ht => by rw [MT.of_e _ hiC ht, kerL_mul V ht])]
  by_cases hm : i ∈ P
  · obtain ⟨r, hrP, e⟩ := mem_getD hm
    have hrn : r < n := by have := h.len; omega
    have hs := hW r k hrn hk
    rw [part_sum h.incr, sm_one (k := r) hrP (fun t ht hn => by rw [h.unit t r ht hrn, if_neg (fun e => hn e.symm), zero_mul]), h.unit r r hrP hrn, if_pos rfl, one_mul, e] at hs
    have e2 : sm (free C P).length (fun t => kerM W C P i t * V.e ((free C P).getD t 0) k) = -sm (free C P).length (fun t => W r ((free C P).getD t 0) * V.e ((free C P).getD t 0) k) := by
      rw [← sm_neg]
      refine sm_congr fun t _ => ?_
      unfold kerM; rw [if_pos hm, ← e, h.incr.idx hrP, neg_mul]
    rw [e2]
    exact neg_unique (by rw [add_comm]; exact hs)
  · obtain ⟨s, hs, e⟩ := mem_getD (free_mem.2 ⟨hiC, hm⟩)
    rw [sm_one hs (fun t ht hn => by
      unfold kerM; rw [if_neg hm, if_neg (fun h => hn ((free_incr C P).inj ht hs (by rw [e]; exact h.symm))), zero_mul])]
    unfold kerM; rw [if_neg hm, if_pos e.symm, one_mul, e]

theorem ker_zero {A : MT (Zp p) n C} (h : RedF n C C A.e W P d) : A * MT.of C (free C P).length (kerM W C P) = 0 := by
  obtain ⟨T, T', hi, hr⟩ := rq_row h.rq
  refine hi.cancel ?_
  rw [MT.mul_zero, ← MT.mul_assoc]
  refine MT.zero_of fun r k hrn hk => ?_
  have eA : ∀ i, i < C → (T * A).e r i = W r i := fun i hiC => by rw [hr r i hrn hiC]; rfl
  rw [MT.e_mul, sm_congr (g := fun i => W r i * kerM W C P i k) (fun i hiC => by rw [eA i hiC, MT.of_e _ hiC hk]), part_sum h.incr]
  by_cases hl : r < P.length
  · rw [sm_one (k := r) hl (fun t ht hn => by rw [h.unit t r ht hrn, if_neg (fun e => hn e.symm), zero_mul]), h.unit r r hl hrn, if_pos rfl, one_mul,
      sm_one hk (fun t ht hn => by
        unfold kerM; rw [if_neg (free_mem.1 (getD_mem ht)).2, if_neg (fun h => hn ((free_incr C P).inj ht hk h)), mul_zero])]
    unfold kerM
    rw [if_pos (getD_mem hl), h.incr.idx hl, if_neg (free_mem.1 (getD_mem hk)).2, if_pos rfl, mul_one, neg_add]
  · rw [sm_zero' (fun t ht => by rw [h.unit t r ht hrn, if_neg (by omega), zero_mul]), sm_zero' (fun t ht => by rw [h.low r _ (by omega) hrn ((free_incr C P).1 t ht), zero_mul]), add_zero]

/-- A kernel has one number of columns. -/
theorem ker_dim (h01 : (1 : Zp p) ≠ 0) {A : MT (Zp p) n C} (h : RedF n C C A.e W P d) {N : Nat} {M : MT (Zp p) C N} {L : MT (Zp p) N C} (h1 : L * M = MT.one N) (h2 : A * M = 0)
    (h3 : ∀ V : MT (Zp p) C (free C P).length, A * V = 0 → ∃ Z : MT (Zp p) N (free C P).length, V = M * Z) : (free C P).length = N := by
  obtain ⟨Z, hZ⟩ := h3 _ (ker_zero h)
  have hY := ker_all h h2
  refine Inv.same h01 (A := (kerL C P : MT (Zp p) _ C) * M) (B := Z) ⟨?_, ?_⟩
  · rw [MT.mul_assoc, ← hZ, ker_left]
  · have e : L * (M * (Z * ((kerL C P : MT (Zp p) _ C) * M))) = L * M := by
      congr 1
      rw [← MT.mul_assoc, ← hZ, ← hY]
    rw [← MT.mul_assoc, h1, MT.one_mul] at e
    exact e
end

end Go.Proofs.Ythghdjpjbngllaa
