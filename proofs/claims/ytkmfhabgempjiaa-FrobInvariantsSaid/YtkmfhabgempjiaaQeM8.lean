/- Plain algebra: matrices made of each other have one characteristic polynomial; Hessenberg's form, step by step; its characteristic polynomial. -/
import Derived.Test.YtkmfhabgempjiaaQeM2
import Derived.Test.YtkmfhabgempjiaaQeM6
import Derived.Test.YtkmfhabgempjiaaQeM7
namespace Go.Proofs.Ytkmfhabgempjiaa
set_option maxHeartbeats 4000000
open CR
section
variable {R : Type} [CR R] {n m : Nat}
def cst (A : MT R n m) : MT (Pol R) n m := ⟨fun i k => mon (A.e i k) 0, fun i k h => by rw [A.out i k h]; exact mon_zero 0⟩
theorem cst_e (A : MT R n m) (i k : Nat) : (cst A).e i k = mon (A.e i k) 0 := rfl
theorem mon_sm (f : Nat → R) : ∀ N, mon (sm N f) 0 = sm N (fun j => mon (f j) 0)
 | 0 => mon_zero 0
 | N + 1 => by simp only [sm]; rw [mon_add, mon_sm f N]
theorem cst_mul {l : Nat} (A : MT R n m) (B : MT R m l) : cst (A * B) = cst A * cst B := MT.ext fun i k _ _ => by
 rw [cst_e, MT.e_mul, MT.e_mul, mon_sm]; exact sm_congr fun j _ => by rw [cst_e, cst_e, mon_mul]
theorem cst_one : cst (MT.one n : MT R n n) = MT.one n := MT.ext fun i k hi hk => by
 rw [cst_e, MT.e_one hi hk, MT.e_one hi hk]
 split
 ·rfl
 ·exact mon_zero 0
theorem XA_eq (A : MT R n n) : XA A = (MT.one n).sc (mon 1 1) - cst A := MT.ext fun i k hi hk => by
 unfold XA; rw [MT.of_e _ hi hk, MT.e_sub, MT.e_sc, MT.e_one hi hk, cst_e]
 congr 1
 split
 ·rw [mul_one]
 ·rw [mul_zero]
theorem XA_conj {A H P : MT R n n} (h : P * A = H * P) : cst P * XA A = XA H * cst P := by
 rw [XA_eq, XA_eq, MT.mul_sub, MT.sub_mul, MT.mul_sc_one, MT.sc_one_mul, ← cst_mul, ← cst_mul, h]
theorem chi_conj {A H P X : MT R n n} (hi : Inv P X) (h : P * A = H * P) : chi A = chi H := by
 have e := congrArg MT.det (XA_conj h)
 rw [MT.det_mul, MT.det_mul] at e
 have hd : (cst P).det * (cst X).det = 1 := by rw [← MT.det_mul, ← cst_mul, hi.1, cst_one, MT.det_one]
 have e2 : (cst X).det * ((cst P).det * (XA A).det) = (cst X).det * ((XA H).det * (cst P).det) := by rw [e]
 have e3 : (cst X).det * ((cst P).det * (XA A).det) = (XA A).det := by
  rw [← mul_assoc, mul_comm (cst X).det, hd, one_mul]
 have e4 : (cst X).det * ((XA H).det * (cst P).det) = (XA H).det := by
  rw [mul_left_comm, mul_comm (cst X).det, hd, mul_one]
 unfold chi
 rw [← e3, e2, e4]
def tsp (i k a : Nat) : Nat := if a = i then k else if a = k then i else a
theorem tsp_lt {i k a : Nat} (hi : i < n) (hk : k < n) (ha : a < n) : tsp i k a < n := by
 unfold tsp; split
 ·exact hk
 ·split <;> assumption
theorem tsp_tsp (i k a : Nat) : tsp i k (tsp i k a) = a := by
 unfold tsp
 by_cases h1 : a = i
 ·subst h1; by_cases h2 : k = a
  ·subst h2; simp
  ·simp [h2]
 ·by_cases h2 : a = k
  ·subst h2; simp [h1]
  ·simp [h1, h2]
theorem tsp_eq (i k : Nat) {a b : Nat} : tsp i k a = b ↔ a = tsp i k b := ⟨fun h => by rw [← h, tsp_tsp], fun h => by rw [h, tsp_tsp]⟩
def hsw (H : Nat → Nat → R) (i k : Nat) : Nat → Nat → R := fun a b => H (tsp i k a) (tsp i k b)
def psw (P : Nat → Nat → R) (i k : Nat) : Nat → Nat → R := fun a b => P (tsp i k a) b
def rcl (H : Nat → Nat → R) (i k : Nat) (c : R) : Nat → Nat → R := fun a b => if a = i then H a b - c * H k b else H a b
def hcl (H : Nat → Nat → R) (i k : Nat) (c : R) : Nat → Nat → R := fun a b => if b = k then rcl H i k c a k + c * rcl H i k c a i else rcl H i k c a b
def Sim (A : MT R n n) (H P : Nat → Nat → R) : Prop := (∃ X, Inv (MT.of n n P) X) ∧ MT.of n n P * A = MT.of n n H * MT.of n n P
theorem Sim.step {A E F : MT R n n} {H P H' P' : Nat → Nat → R} (h : Sim A H P) (hE : Inv E F) (hP : MT.of n n P' = E * MT.of n n P) (hH : MT.of n n H' * E = E * MT.of n n H) : Sim A H' P' := by
 obtain ⟨⟨X, hX⟩, h2⟩ := h
 refine ⟨⟨_, by rw [hP]; exact hE.mul hX⟩, ?_⟩
 rw [hP, MT.mul_assoc, h2, ← MT.mul_assoc, ← hH, MT.mul_assoc]
theorem Sim.swap {A : MT R n n} {H P : Nat → Nat → R} (h : Sim A H P) {i k : Nat} (hi : i < n) (hk : k < n) : Sim A (hsw H i k) (psw P i k) := by
 have row : ∀ (V : Nat → Nat → R) a b, a < n → sm n (fun t => (if tsp i k a = t then (1 : R) else 0) * V t b) = V (tsp i k a) b := by
  intro V a b ha
  rw [sm_one (tsp_lt hi hk ha) (fun t _ ht => by rw [if_neg (fun e => ht e.symm), zero_mul]), if_pos rfl, one_mul]
 have I : Inv (MT.of n n fun a t => if tsp i k a = t then (1 : R) else 0) (MT.of n n fun a t => if tsp i k a = t then (1 : R) else 0) := by
  have e : (MT.of n n fun a t => if tsp i k a = t then (1 : R) else 0) * (MT.of n n fun a t => if tsp i k a = t then (1 : R) else 0) = MT.one n := MT.ext fun a b ha hb => by
   rw [MT.e_mul, MT.e_one ha hb]
   refine (sm_congr fun t ht => by rw [MT.of_e _ ha ht, MT.of_e _ ht hb]).trans ((row (fun t b => if tsp i k t = b then (1 : R) else 0) a b ha).trans ?_)
   show (if tsp i k (tsp i k a) = b then (1 : R) else 0) = _
   rw [tsp_tsp]
  exact ⟨e, e⟩
 refine h.step I (MT.ext fun a b ha hb => ?_) (MT.ext fun a b ha hb => ?_)
 ·rw [MT.of_e _ ha hb, MT.e_mul]
  exact ((sm_congr fun t ht => by rw [MT.of_e _ ha ht, MT.of_e _ ht hb]).trans (row P a b ha)).symm
 ·rw [MT.e_mul, MT.e_mul]
  have e1 : sm n (fun j => (MT.of n n fun a t => if tsp i k a = t then (1 : R) else 0 : MT R n n).e a j * (MT.of n n H).e j b) = H (tsp i k a) b :=
   (sm_congr fun t ht => by rw [MT.of_e _ ha ht, MT.of_e _ ht hb]).trans (row H a b ha)
  have e2 : sm n (fun j => (MT.of n n (hsw H i k)).e a j * (MT.of n n fun a t => if tsp i k a = t then (1 : R) else 0 : MT R n n).e j b) = hsw H i k a (tsp i k b) := by
   rw [sm_one (tsp_lt hi hk hb) (fun t htn ht => by rw [MT.of_e _ htn hb, if_neg (fun e => ht ((tsp_eq i k).1 e)), mul_zero]), MT.of_e _ ha (tsp_lt hi hk hb), MT.of_e _ (tsp_lt hi hk hb) hb, tsp_tsp, if_pos rfl, mul_one]
  rw [e1, e2]
  unfold hsw; rw [tsp_tsp]
theorem Sim.clear {A : MT R n n} {H P : Nat → Nat → R} (h : Sim A H P) {i k : Nat} (hi : i < n) (hk : k < n) (hik : i ≠ k) (c : R) : Sim A (hcl H i k c) (rcl P i k c) := by
 have row : ∀ (d : R) (V : Nat → Nat → R) a b, a < n → sm n (fun t => (one1 a t + (if a = i ∧ t = k then d else 0)) * V t b) = V a b + (if a = i then d * V k b else 0) := by
  intro d V a b ha
  have e : sm n (fun t => (one1 a t + (if a = i ∧ t = k then d else 0)) * V t b) = sm n (fun t => one1 a t * V t b + (if a = i ∧ t = k then d else 0) * V t b) := sm_congr fun t _ => add_mul _ _ _
  rw [e, sm_add, show sm n (fun t => one1 a t * V t b) = V a b from one_mm V ha]
  congr 1
  by_cases h1 : a = i
  ·rw [if_pos h1, sm_one hk (fun t _ ht => by rw [if_neg (fun h => ht h.2), zero_mul]), if_pos ⟨h1, rfl⟩]
  ·rw [if_neg h1]; exact sm_zero' fun t _ => by rw [if_neg (fun h => h1 h.1), zero_mul]
 have col : ∀ (d : R) (V : Nat → Nat → R) a b, b < n → sm n (fun t => V a t * (one1 t b + (if t = i ∧ b = k then d else 0))) = V a b + (if b = k then V a i * d else 0) := by
  intro d V a b hb
  have e : sm n (fun t => V a t * (one1 t b + (if t = i ∧ b = k then d else 0))) = sm n (fun t => V a t * one1 t b + V a t * (if t = i ∧ b = k then d else 0)) := sm_congr fun t _ => mul_add _ _ _
  rw [e, sm_add, show sm n (fun t => V a t * one1 t b) = V a b from mm_one V hb]
  congr 1
  by_cases h1 : b = k
  ·rw [if_pos h1, sm_one hi (fun t _ ht => by rw [if_neg (fun h => ht h.1), mul_zero]), if_pos ⟨rfl, h1⟩]
  ·rw [if_neg h1]; exact sm_zero' fun t _ => by rw [if_neg (fun h => h1 h.2), mul_zero]
 have II : ∀ d d' : R, d + d' = 0 → (MT.of n n fun a t => one1 a t + (if a = i ∧ t = k then d else 0)) * (MT.of n n fun a t => one1 a t + (if a = i ∧ t = k then d' else 0)) = MT.one n := by
  intro d d' hd
  refine MT.ext fun a b ha hb => ?_
  rw [MT.e_mul, MT.e_one ha hb]
  refine (sm_congr fun t ht => by rw [MT.of_e _ ha ht, MT.of_e _ ht hb]).trans ((row d (fun a t => one1 a t + (if a = i ∧ t = k then d' else 0)) a b ha).trans ?_)
  have e0 : (if k = i ∧ b = k then d' else 0) = 0 := if_neg (fun h => hik h.1.symm)
  rw [e0, add_zero]
  show one1 a b + _ + _ = one1 a b
  by_cases h1 : a = i
  ·by_cases h2 : b = k
   ·rw [if_pos ⟨h1, h2⟩, if_pos h1, h2]
    have : (one1 k k : R) = 1 := if_pos rfl
    rw [this, mul_one, add_assoc, add_comm d', hd, add_zero]
   ·rw [if_neg (fun h => h2 h.2), if_pos h1]
    have : (one1 k b : R) = 0 := if_neg (fun e => h2 e.symm)
    rw [this, mul_zero, add_zero, add_zero]
  ·rw [if_neg (fun h => h1 h.1), if_neg h1, add_zero, add_zero]
 have I : Inv (MT.of n n fun a t => one1 a t + (if a = i ∧ t = k then -c else 0)) (MT.of n n fun a t => one1 a t + (if a = i ∧ t = k then c else 0)) := ⟨II _ _ (neg_add c), II _ _ (add_neg c)⟩
 have sub : ∀ x y : R, x + -c * y = x - c * y := fun x y => by_ring [x, c, y] (X0 + -X1 * X2) (X0 - X1 * X2) rfl
 have rc : ∀ (V : Nat → Nat → R) a b, V a b + (if a = i then -c * V k b else 0) = rcl V i k c a b := by
  intro V a b
  unfold rcl
  split
  ·exact sub _ _
  ·exact add_zero _
 refine h.step I (MT.ext fun a b ha hb => ?_) (MT.ext fun a b ha hb => ?_)
 ·rw [MT.of_e _ ha hb, MT.e_mul, ← rc]
  exact ((sm_congr fun t ht => by rw [MT.of_e _ ha ht, MT.of_e _ ht hb]).trans (row (-c) P a b ha)).symm
 ·rw [MT.e_mul, MT.e_mul]
  have e1 : sm n (fun j => (MT.of n n fun a t => one1 a t + (if a = i ∧ t = k then -c else 0) : MT R n n).e a j * (MT.of n n H).e j b) = rcl H i k c a b :=
   ((sm_congr fun t ht => by rw [MT.of_e _ ha ht, MT.of_e _ ht hb]).trans (row (-c) H a b ha)).trans (rc H a b)
  have e2 : sm n (fun j => (MT.of n n (hcl H i k c)).e a j * (MT.of n n fun a t => one1 a t + (if a = i ∧ t = k then -c else 0) : MT R n n).e j b) = hcl H i k c a b + (if b = k then hcl H i k c a i * -c else 0) :=
   (sm_congr fun t ht => by rw [MT.of_e _ ha ht, MT.of_e _ ht hb]).trans (col (-c) (hcl H i k c) a b hb)
  rw [e1, e2]
  unfold hcl
  by_cases h1 : b = k
  ·rw [if_pos h1, if_pos h1, if_neg hik, h1]
   exact by_ring [rcl H i k c a k, c, rcl H i k c a i] (X0 + X1 * X2 + X2 * -X1) X0 rfl
  ·rw [if_neg h1, if_neg h1, add_zero]
theorem io_sgF (m : Nat) (s : Nat → R) (cs : List Nat) (F : List Nat → R) : io s cs (fun l => sg m (F l)) = sg m (io s cs F) := by
 unfold sg
 split
 ·exact io_negF s cs F
 ·rfl
theorem ops_last (r : Nat → R) : ∀ (rs : List (Nat → R)) (F : List Nat → R) (cs : List Nat), ops (rs ++ [r]) F cs = sg rs.length (io r cs (ops rs F))
 | [], F, cs => rfl
 | s :: rs, F, cs => by
  show io s cs (ops (rs ++ [r]) F) = sg (rs.length + 1) (io r cs (fun l => io s l (ops rs F)))
  rw [io_congr cs (G := fun l => sg rs.length (io r l (ops rs F))) (fun _ _ => rfl) (fun l _ => ops_last r rs F l), io_sgF, io_anti s r, sg_succ, sg_neg]
theorem rows_snoc {R : Type} : ∀ (n : Nat) (A : Nat → Nat → R), rows (n + 1) A = rows n A ++ [A n]
 | 0, _ => rfl
 | n + 1, A => by
  show A 0 :: rows (n + 1) (fun i => A (i + 1)) = A 0 :: rows n (fun i => A (i + 1)) ++ [A (n + 1)]
  rw [rows_snoc n]; rfl
def hesU (M : Nat → Nat → R) (j k : Nat) : R := ops (rows (j + 1) M) (fun _ => 1) (List.range j ++ [k])
theorem hesU_zero (M : Nat → Nat → R) (k : Nat) : hesU M 0 k = M 0 k := by
 show io (M 0) [k] (fun _ => 1) = _
 simp only [io]
 rw [mul_one, sub_zero]
theorem dn_hesU (M : Nat → Nat → R) (k : Nat) : dn (k + 1) M = hesU M k k := by
 rw [dn_ops, List.range_succ]; rfl
theorem sg_sg (m : Nat) (x : R) : sg m (sg m x) = x := by
 unfold sg; split
 ·exact neg_neg x
 ·rfl
theorem hesU_succ (M : Nat → Nat → R) (j k : Nat) (h0 : ∀ c, c < j → M (j + 1) c = 0) : hesU M (j + 1) k = M (j + 1) k * dn (j + 1) M - M (j + 1) j * hesU M j k := by
 unfold hesU
 rw [rows_snoc (j + 1), ops_last, rows_len, io_sum]
 have hl : (List.range (j + 1) ++ [k]).length = j + 1 + 1 := by simp
 have hg : ∀ t, t < j + 1 → (List.range (j + 1) ++ [k]).getD t 0 = t := fun t ht => by
  simp only [List.getD, List.getElem?_append_left (show t < (List.range (j + 1)).length by simpa using ht), List.getElem?_range ht]; rfl
 rw [hl, sm_two (a := j) (b := j + 1) (by omega) (by omega) (by omega) (fun t ht h1 h2 => by
  rw [hg t (by omega), h0 t (by omega), zero_mul]; unfold sg; split
  ·exact neg_zero
  ·rfl)]
 have e1 : (List.range (j + 1) ++ [k]).getD (j + 1) 0 = k := by simp [List.getD]
 have e2 : (List.range (j + 1) ++ [k]).eraseIdx j = List.range j ++ [k] := by
  rw [List.eraseIdx_append_of_lt_length (by simp), List.range_succ]
  congr 1
  rw [List.eraseIdx_append_of_length_le (by simp)]
  simp
 have e3 : (List.range (j + 1) ++ [k]).eraseIdx (j + 1) = List.range (j + 1) := by
  rw [List.eraseIdx_append_of_length_le (by simp)]; simp
 rw [e1, e2, e3, hg j (by omega), ← dn_ops]
 have hs : ∀ x y : R, sg (j + 1) (sg j x + sg (j + 1) y) = y - x := by
  intro x y
  rw [show sg j x = -sg (j + 1) x by rw [sg_succ, neg_neg]]
  have : sg (j + 1) (-sg (j + 1) x + sg (j + 1) y) = -sg (j + 1) (sg (j + 1) x) + sg (j + 1) (sg (j + 1) y) := by
   unfold sg; split
   ·exact by_ring [x, y] (-(- -X0 + -X1)) (-(- -X0) + - -X1) rfl
   ·rfl
  rw [this, sg_sg, sg_sg]
  exact by_ring [x, y] (-X0 + X1) (X1 - X0) rfl
 rw [hs]
def xh (H : Nat → Nat → R) : Nat → Nat → Pol R := fun i k => (if i = k then mon 1 1 else 0) - mon (H i k) 0
theorem chi_xh (A : MT R n n) : chi A = dn n (xh A.e) := dn_congr n fun i k hi hk => by unfold XA; rw [MT.of_e _ hi hk]; rfl
def Hes (n : Nat) (H : Nat → Nat → R) : Prop := ∀ i c, c + 1 < i → i < n → H i c = 0
def hesV (H : Nat → Nat → R) : Nat → Nat → Pol R
 | 0, _ => 0
 | j + 1, k => mon (H (j + 1) j) 0 * hesU (xh H) j k
theorem hesU_V {H : Nat → Nat → R} (hH : Hes n H) {j : Nat} (hj : j < n) (k : Nat) : hesU (xh H) j k = xh H j k * dn j (xh H) + hesV H j k := by
 cases j with
 | zero => rw [hesU_zero]; show _ = xh H 0 k * 1 + 0; rw [mul_one, add_zero]
 | succ j =>
  rw [hesU_succ (xh H) j k (fun c hc => by
   unfold xh; rw [if_neg (by omega), hH (j + 1) c (by omega) hj, mon_zero, sub_zero])]
  show _ = _ + mon (H (j + 1) j) 0 * hesU (xh H) j k
  have e : xh H (j + 1) j = -mon (H (j + 1) j) 0 := by unfold xh; rw [if_neg (by omega), zero_sub]
  rw [e]
  exact by_ring [xh H (j + 1) k, dn (j + 1) (xh H), mon (H (j + 1) j) 0, hesU (xh H) j k] (X0 * X1 - -X2 * X3) (X0 * X1 + X2 * X3) rfl
theorem hesV_step {H : Nat → Nat → R} (hH : Hes n H) {i k : Nat} (hik : i < k) (hk : k < n) {out : Pol R} {by_ : R} (h : dn (k + 1) (xh H) = out + mon by_ 0 * hesV H (i + 1) k) :
  dn (k + 1) (xh H) = (out - dn i (xh H) * mon (by_ * H (i + 1) i * H i k) 0) + mon (by_ * H (i + 1) i) 0 * hesV H i k := by
 rw [h]
 show out + mon by_ 0 * (mon (H (i + 1) i) 0 * hesU (xh H) i k) = _
 rw [hesU_V hH (by omega)]
 have e : xh H i k = -mon (H i k) 0 := by unfold xh; rw [if_neg (by omega), zero_sub]
 have e2 : mon (by_ * H (i + 1) i) 0 = mon by_ 0 * mon (H (i + 1) i) 0 := (mon_mul _ _ 0 0).symm
 have e3 : mon (by_ * H (i + 1) i * H i k) 0 = mon by_ 0 * mon (H (i + 1) i) 0 * mon (H i k) 0 := by rw [← e2, mon_mul]
 rw [e, e2, e3]
 exact by_ring [out, mon by_ 0, mon (H (i + 1) i) 0, mon (H i k) 0, dn i (xh H), hesV H i k] (X0 + X1 * (X2 * (-X3 * X4 + X5))) (X0 - X4 * (X1 * X2 * X3) + X1 * X2 * X5) rfl
theorem hesV_start {H : Nat → Nat → R} (hH : Hes n H) {k : Nat} (hk : k < n) : dn (k + 1) (xh H) = (mon 1 1 - mon (H k k) 0) * dn k (xh H) + mon 1 0 * hesV H k k := by
 rw [dn_hesU, hesU_V hH hk, show (mon 1 0 : Pol R) = 1 from rfl, one_mul]
 unfold xh; rw [if_pos rfl]
theorem hesV_end {H : Nat → Nat → R} {k : Nat} {out : Pol R} {by_ : R} (h : dn (k + 1) (xh H) = out + mon by_ 0 * hesV H 0 k) : dn (k + 1) (xh H) = out := by
 rw [h]; show out + mon by_ 0 * 0 = out; rw [mul_zero, add_zero]
end
end Go.Proofs.Ytkmfhabgempjiaa
/- hess.work: rows and columns change places. -/
namespace Go.Proofs.Ytkmfhabgempjiaa
set_option maxHeartbeats 4000000
open Go.RowKit
section
variable {α : Type} {V : World → Value → α → Prop} {e er : TypeId} {w : World} {base n N : Nat} {rv : Value} {vs : List Value} {W : Nat → Nat → α}
theorem Rws.beside (h : Rws V e er w base rv vs n N W) {a : Addr} {y : Value} (hr : ∀ (i b o c : Nat), vs[i]? = some (.slice (some ⟨b, o, none⟩) N c) → 0 < N → b ≠ a.block) (hh : rv.ownBlock ≠ some a.block) (hV : ∀ u x, V w u x → V (w.setCell a y) u x) :
  Rws V e er (w.setCell a y) base rv vs n N W := by
 refine ⟨h.len, ownsRow_setCell_other h.own hh y, fun i v hv => ?_, h.sep⟩
 obtain ⟨aj, cj, bj, oj, curj, e2, k1, k2⟩ := h.row i v hv
 refine ⟨aj, cj, bj, oj, curj, e2, k1, fun hN => ?_⟩
 obtain ⟨k3, k4, k5, k6⟩ := k2 hN
 subst k3 e2
 refine ⟨rfl, k4, (heap_setCell_other w a bj y (hr i bj oj cj hv hN)).trans k5, fun l hl => ?_⟩
 obtain ⟨u, hu, hvu⟩ := k6 l hl
 exact ⟨u, hu, hV u _ hvu⟩
theorem Rws.typ (h : Rws V e er w base rv vs n N W) {i b o c : Nat} (hv : vs[i]? = some (.slice (some ⟨b, o, none⟩) N c)) (hN : 0 < N) : ∃ cur, w.heap[b]? = some (.cells cur e (0, 0)) := h.atc hv hN
end
section
variable {p : Nat} {w : World} {base gW n : Nat} {H P H' P' : Nat → Nat → Zp p} {hs ps : List Value} {gh ch gp cp : Nat}
theorem ne_typ {w : World} {a b : Nat} {c1 c2 : Array Value} {e1 e2 : TypeId} (h1 : w.heap[a]? = some (.cells c1 e1 (0, 0))) (h2 : w.heap[b]? = some (.cells c2 e2 (0, 0))) (he : e1 ≠ e2) : a ≠ b := by
 intro e; rw [e, h2] at h1; simp at h1; exact he h1.2.symm
theorem Hk.congr {hv pv : Value} (h : Hk p w base gW n H P hv pv hs ps) (hH : ∀ i k, i < n → k < n → H i k = H' i k) (hP : ∀ i k, i < n → k < n → P i k = P' i k) : Hk p w base gW n H' P' hv pv hs ps := ⟨h.blk, h.gw, h.h.congr hH, h.p.congr hP, h.sep, h.hd⟩
theorem Hk.swapH (h : Hk p w base gW n H P (.slice (some ⟨gh, 0, none⟩) n ch) (.slice (some ⟨gp, 0, none⟩) n cp) hs ps) {i j : Nat} {u v : Value} (hu : hs[i]? = some u) (hv : hs[j]? = some v) :
  Hk p ((w.setCell ⟨gh, i, none⟩ v).setCell ⟨gh, j, none⟩ u) base gW n (swpA H i j) P (.slice (some ⟨gh, 0, none⟩) n ch) (.slice (some ⟨gp, 0, none⟩) n cp) ((hs.set i v).set j u) ps := by
 obtain ⟨cur, hc⟩ := h.h.cellH rfl
 have hne : gW ≠ gh := ne_typ h.blk hc (by decide)
 have hp1 : ∀ (i b o c : Nat), ps[i]? = some (.slice (some ⟨b, o, none⟩) n c) → 0 < n → b ≠ gh := fun i b o c h1 h2 => by
  obtain ⟨c2, hc2⟩ := h.p.typ h1 h2
  exact ne_typ hc2 hc (by decide)
 have hp2 : (Value.slice (some ⟨gp, 0, none⟩) n cp).ownBlock ≠ some gh := fun e => h.hd gh rfl e
 refine ⟨(h.blk.far (a := ⟨gh, i, none⟩) hne v).far (a := ⟨gh, j, none⟩) hne u, h.gw, h.h.swap (by decide) rfl hu hv (fun _ _ _ _ _ _ _ _ h => h),
  (h.p.beside (a := ⟨gh, i, none⟩) hp1 hp2 (fun _ _ h => h)).beside (a := ⟨gh, j, none⟩) hp1 hp2 (fun _ _ h => h), fun a c b o k b' o' k' h1 h2 => ?_, h.hd⟩
 rw [List.getElem?_set] at h1
 split at h1
 ·split at h1
  ·simp only [Option.some.injEq] at h1; rw [h1] at hu; exact h.sep i c b o k b' o' k' hu h2
  ·cases h1
 ·rw [List.getElem?_set] at h1
  split at h1
  ·split at h1
   ·simp only [Option.some.injEq] at h1; rw [h1] at hv; exact h.sep j c b o k b' o' k' hv h2
   ·cases h1
  ·exact h.sep a c b o k b' o' k' h1 h2
theorem Hk.swapP (h : Hk p w base gW n H P (.slice (some ⟨gh, 0, none⟩) n ch) (.slice (some ⟨gp, 0, none⟩) n cp) hs ps) {i j : Nat} {u v : Value} (hu : ps[i]? = some u) (hv : ps[j]? = some v) :
  Hk p ((w.setCell ⟨gp, i, none⟩ v).setCell ⟨gp, j, none⟩ u) base gW n H (swpA P i j) (.slice (some ⟨gh, 0, none⟩) n ch) (.slice (some ⟨gp, 0, none⟩) n cp) hs ((ps.set i v).set j u) := by
 obtain ⟨cur, hc⟩ := h.p.cellH rfl
 have hne : gW ≠ gp := ne_typ h.blk hc (by decide)
 have hp1 : ∀ (i b o c : Nat), hs[i]? = some (.slice (some ⟨b, o, none⟩) n c) → 0 < n → b ≠ gp := fun i b o c h1 h2 => by
  obtain ⟨c2, hc2⟩ := h.h.typ h1 h2
  exact ne_typ hc2 hc (by decide)
 have hp2 : (Value.slice (some ⟨gh, 0, none⟩) n ch).ownBlock ≠ some gp := fun e => h.hd gp e rfl
 refine ⟨(h.blk.far (a := ⟨gp, i, none⟩) hne v).far (a := ⟨gp, j, none⟩) hne u, h.gw, (h.h.beside (a := ⟨gp, i, none⟩) hp1 hp2 (fun _ _ h => h)).beside (a := ⟨gp, j, none⟩) hp1 hp2 (fun _ _ h => h),
  h.p.swap (by decide) rfl hu hv (fun _ _ _ _ _ _ _ _ h => h), fun a c b o k b' o' k' h1 h2 => ?_, h.hd⟩
 rw [List.getElem?_set] at h2
 split at h2
 ·split at h2
  ·simp only [Option.some.injEq] at h2; rw [h2] at hu; exact h.sep a i b o k b' o' k' h1 hu
  ·cases h2
 ·rw [List.getElem?_set] at h2
  split at h2
  ·split at h2
   ·simp only [Option.some.injEq] at h2; rw [h2] at hv; exact h.sep a j b o k b' o' k' h1 hv
   ·cases h2
  ·exact h.sep a c b o k b' o' k' h1 h2
theorem Hk.storeH {hv pv : Value} (h : Hk p w base gW n H P hv pv hs ps) {i k b o cap : Nat} (hr : hs[i]? = some (.slice (some ⟨b, o, none⟩) n cap)) (hk : k < n) {x : Zp p} {z : Int} (hz : z = (x.val : Nat)) :
  Hk p (w.setCell ⟨b, o + k, none⟩ (.int .u64 z)) base gW n (updE H i k x) P hv pv hs ps := by
 subst hz
 obtain ⟨cur, hc⟩ := h.h.atc hr hk
 exact ⟨h.blk.far (ne_typ h.blk hc (by decide)) _, h.gw, h.h.store (by decide) hr hk (fun _ _ h => h) rfl,
  h.p.beside (fun a b' o' c' h1 _ e => h.sep i a b o cap b' o' c' hr h1 e.symm) (rowOwn_ne h.p.own hc (by decide)) (fun _ _ h => h), h.sep, h.hd⟩
theorem Hk.storeP {hv pv : Value} (h : Hk p w base gW n H P hv pv hs ps) {i k b o cap : Nat} (hr : ps[i]? = some (.slice (some ⟨b, o, none⟩) n cap)) (hk : k < n) {x : Zp p} {z : Int} (hz : z = (x.val : Nat)) :
  Hk p (w.setCell ⟨b, o + k, none⟩ (.int .u64 z)) base gW n H (updE P i k x) hv pv hs ps := by
 subst hz
 obtain ⟨cur, hc⟩ := h.p.atc hr hk
 exact ⟨h.blk.far (ne_typ h.blk hc (by decide)) _, h.gw, h.h.beside (fun a b' o' c' h1 _ e => h.sep a i b' o' c' b o cap h1 hr e) (rowOwn_ne h.h.own hc (by decide)) (fun _ _ h => h),
  h.p.store (by decide) hr hk (fun _ _ h => h) rfl, h.sep, h.hd⟩
end
theorem cell_set_some {w : World} {p q : Addr} {x v : Value} (h : w.cell? q = some v) : ∃ v', (w.setCell p x).cell? q = some v' := by
 by_cases e : p = q
 ·subst e; exact ⟨x, World.cell?_setCell_same _ _ _ h⟩
 ·exact ⟨v, (World.cell?_setCell_other _ _ _ _ e).trans h⟩
def HkTo (p : Nat) (w : World) (base gW n : Nat) (H' P' : Nat → Nat → Zp p) (hv pv : Value) (w' : World) : Prop := ∃ hs' ps', Hk p w' base gW n H' P' hv pv hs' ps' ∧ Below base w w'
def HkPost (p : Nat) (w : World) (base gW n : Nat) (H' P' : Nat → Nat → Zp p) (hv pv : Value) (e : Ending) (w' : World) : Prop := e = .returned (.tuple #[]) ∧ HkTo p w base gW n H' P' hv pv w'
set_option maxRecDepth 20000 in
theorem hs_swap (p : Nat) (w : World) (base gW n : Nat) (H P : Nat → Nat → Zp p) (hv pv : Value) (hs ps : List Value) (h : Hk p w base gW n H P hv pv hs ps)
  (i k : Nat) (hi : i < n) (hk : k < n) (hn : n ≤ 1000) (hbase : base ≤ w.heap.size) :
  Calls Try.prog 174 #[.pointer (some ⟨gW, 0, none⟩), .int .i64 i, .int .i64 k] w (HkPost p w base gW n (hsw H i k) (psw P i k) hv pv) := by
 obtain ⟨gh, ch, rfl, hgh, hghl, hnch⟩ : ∃ g cap, hv = .slice (some ⟨g, 0, none⟩) n cap ∧ base ≤ g ∧ g < w.heap.size ∧ n ≤ cap := by
  rcases h.h.shape with ⟨_, h0⟩ | h0
  ·omega
  ·exact h0
 obtain ⟨gp, cp, rfl, hgp, hgpl, hncp⟩ : ∃ g cap, pv = .slice (some ⟨g, 0, none⟩) n cap ∧ base ≤ g ∧ g < w.heap.size ∧ n ≤ cap := by
  rcases h.p.shape with ⟨_, h0⟩ | h0
  ·omega
  ·exact h0
 obtain ⟨vi, hvi⟩ := h.h.hdr hi
 obtain ⟨vk, hvk⟩ := h.h.hdr hk
 obtain ⟨ui, hui⟩ := h.p.hdr hi
 obtain ⟨uk, huk⟩ := h.p.hdr hk
 obtain ⟨ai, ci, rfl, -⟩ := (h.h.row i vi hvi).slice
 obtain ⟨ak, ck, rfl, -⟩ := (h.h.row k vk hvk).slice
 obtain ⟨ai', ci', rfl, -⟩ := (h.p.row i ui hui).slice
 obtain ⟨ak', ck', rfl, -⟩ := (h.p.row k uk huk).slice
 go_enter Try.func174, Try.ntmps174
 go_upto_region 0 with (fail)
 have bd := dw w
 replace h := h.next bd
 have B0 := bd.mono hbase
 have hbw : base ≤ w.drew.heap.size := hbase
 have hghl : gh < w.drew.heap.size := hghl
 have hgpl : gp < w.drew.heap.size := hgpl
 clear bd
 have q1 := h.blk.cell 1
 have qi := h.h.head rfl hi; rw [hvi] at qi
 have qk := h.h.head rfl hk; rw [hvk] at qk
 have hl1 := h.blk.lt
 refine startD (S := (fun w' => Below (w.drew).heap.size (w.drew) w')) 25 (by kernel_rfl) (Below.refl _ _) (fun hHeld => ?_)
 generalize w.drew = wd at *
 refine takeDA 0 (v := ?_) rfl (by kernel_rfl) (by kernel_rfl) (by kernel_rfl) (fun _ _ _ h => h) (by decide) ⟨by rfl, ?_⟩ (by assumption) ?_
 rotate_left
 ·intro w; go_simp <;> with_reducible rfl
 simp only [Act.put, zq1, zq2, zq3]
 refine takeDA 1 (v := ?_) rfl (by kernel_rfl) (by kernel_rfl) (by kernel_rfl) (fun _ _ _ h => h) (by decide) ⟨by rfl, ?_⟩ (by assumption) ?_
 rotate_left
 ·intro w; go_simp <;> with_reducible rfl
 simp only [Act.put, zq1, zq2, zq3]
 refine takeDA 2 (v := ?_) rfl (by kernel_rfl) (by kernel_rfl) (by kernel_rfl) (fun _ _ _ h => h) (by decide) ⟨by rfl, ?_⟩ (by assumption) ?_
 rotate_left
 ·intro w; go_simp <;> with_reducible rfl
 simp only [Act.put, zq1, zq2, zq3]
 refine takeD0 3 (v := ?_) rfl (by kernel_rfl) (by kernel_rfl) (by kernel_rfl) (fun _ _ _ h => h) (by decide) (by kernel_rfl) (by kernel_rfl) ⟨by rfl, ?_⟩ (by assumption) ?_
 rotate_left
 ·intro w hS; have f1 := (hS.cell (p := ⟨gW, 1, none⟩) hl1).trans q1; have f2 := (hS.cell (p := ⟨gh, i, none⟩) hghl).trans qi; have f3 := (hS.cell (p := ⟨gh, k, none⟩) hghl).trans qk; go_simp <;> with_reducible rfl
 simp only [Act.put, zq1, zq2, zq3]
 refine takeDA 4 (v := ?_) rfl (by kernel_rfl) (by kernel_rfl) (by kernel_rfl) (fun _ _ _ h => h) (by decide) ⟨by rfl, ?_⟩ (by assumption) ?_
 rotate_left
 ·intro w; go_simp <;> with_reducible rfl
 simp only [Act.put, zq1, zq2, zq3]
 refine takeDA 5 (v := ?_) rfl (by kernel_rfl) (by kernel_rfl) (by kernel_rfl) (fun _ _ _ h => h) (by decide) ⟨by rfl, ?_⟩ (by assumption) ?_
 rotate_left
 ·intro w; go_simp <;> with_reducible rfl
 simp only [Act.put, zq1, zq2, zq3]
 refine takeDA 6 (v := ?_) rfl (by kernel_rfl) (by kernel_rfl) (by kernel_rfl) (fun _ _ _ h => h) (by decide) ⟨by rfl, ?_⟩ (by assumption) ?_
 rotate_left
 ·intro w; go_simp <;> with_reducible rfl
 simp only [Act.put, zq1, zq2, zq3]
 refine takeDA 7 (v := ?_) rfl (by kernel_rfl) (by kernel_rfl) (by kernel_rfl) (fun _ _ _ h => h) (by decide) ⟨by rfl, ?_⟩ (by assumption) ?_
 rotate_left
 ·intro w; go_simp <;> with_reducible rfl
 simp only [Act.put, zq1, zq2, zq3]
 refine takeD0 8 (v := ?_) rfl (by kernel_rfl) (by kernel_rfl) (by kernel_rfl) (fun _ _ _ h => h) (by decide) (by kernel_rfl) (by kernel_rfl) ⟨by rfl, ?_⟩ (by assumption) ?_
 rotate_left
 ·intro w hS; have f1 := (hS.cell (p := ⟨gW, 1, none⟩) hl1).trans q1; have f2 := (hS.cell (p := ⟨gh, i, none⟩) hghl).trans qi; have f3 := (hS.cell (p := ⟨gh, k, none⟩) hghl).trans qk; go_simp <;> with_reducible rfl
 simp only [Act.put, zq1, zq2, zq3]
 refine takeDA 9 (v := ?_) rfl (by kernel_rfl) (by kernel_rfl) (by kernel_rfl) (fun _ _ _ h => h) (by decide) ⟨by rfl, ?_⟩ (by assumption) ?_
 rotate_left
 ·intro w; go_simp <;> with_reducible rfl
 simp only [Act.put, zq1, zq2, zq3]
 refine takeDA 10 (v := ?_) rfl (by kernel_rfl) (by kernel_rfl) (by kernel_rfl) (fun _ _ _ h => h) (by decide) ⟨by rfl, ?_⟩ (by assumption) ?_
 rotate_left
 ·intro w; go_simp <;> with_reducible rfl
 simp only [Act.put, zq1, zq2, zq3]
 refine takeDA 11 (v := ?_) rfl (by kernel_rfl) (by kernel_rfl) (by kernel_rfl) (fun _ _ _ h => h) (by decide) ⟨by rfl, ?_⟩ (by assumption) ?_
 rotate_left
 ·intro w; go_simp <;> with_reducible rfl
 simp only [Act.put, zq1, zq2, zq3]
 refine takeDA 12 (v := ?_) rfl (by kernel_rfl) (by kernel_rfl) (by kernel_rfl) (fun _ _ _ h => h) (by decide) ⟨by rfl, ?_⟩ (by assumption) ?_
 rotate_left
 ·intro w; go_simp <;> with_reducible rfl
 simp only [Act.put, zq1, zq2, zq3]
 refine takeD0 13 (v := ?_) rfl (by kernel_rfl) (by kernel_rfl) (by kernel_rfl) (fun _ _ _ h => h) (by decide) (by kernel_rfl) (by kernel_rfl) ⟨by rfl, ?_⟩ (by assumption) ?_
 rotate_left
 ·intro w hS; have f1 := (hS.cell (p := ⟨gW, 1, none⟩) hl1).trans q1; have f2 := (hS.cell (p := ⟨gh, i, none⟩) hghl).trans qi; have f3 := (hS.cell (p := ⟨gh, k, none⟩) hghl).trans qk; go_simp <;> with_reducible rfl
 simp only [Act.put, zq1, zq2, zq3]
 refine takeDA 14 (v := ?_) rfl (by kernel_rfl) (by kernel_rfl) (by kernel_rfl) (fun _ _ _ h => h) (by decide) ⟨by rfl, ?_⟩ (by assumption) ?_
 rotate_left
 ·intro w; go_simp <;> with_reducible rfl
 simp only [Act.put, zq1, zq2, zq3]
 refine takeDA 15 (v := ?_) rfl (by kernel_rfl) (by kernel_rfl) (by kernel_rfl) (fun _ _ _ h => h) (by decide) ⟨by rfl, ?_⟩ (by assumption) ?_
 rotate_left
 ·intro w; go_simp <;> with_reducible rfl
 simp only [Act.put, zq1, zq2, zq3]
 refine takeD0 16 (v := ?_) rfl (by kernel_rfl) (by kernel_rfl) (by kernel_rfl) (fun _ _ _ h => h) (by decide) (by kernel_rfl) (by kernel_rfl) ⟨by rfl, ?_⟩ (by assumption) ?_
 rotate_left
 ·intro w hS; have f1 := (hS.cell (p := ⟨gW, 1, none⟩) hl1).trans q1; have f2 := (hS.cell (p := ⟨gh, i, none⟩) hghl).trans qi; have f3 := (hS.cell (p := ⟨gh, k, none⟩) hghl).trans qk; go_simp <;> with_reducible rfl
 simp only [Act.put, zq1, zq2, zq3]
 refine takeDA 17 (v := ?_) rfl (by kernel_rfl) (by kernel_rfl) (by kernel_rfl) (fun _ _ _ h => h) (by decide) ⟨by rfl, ?_⟩ (by assumption) ?_
 rotate_left
 ·intro w; go_simp <;> with_reducible rfl
 simp only [Act.put, zq1, zq2, zq3]
 refine takeDA 18 (v := ?_) rfl (by kernel_rfl) (by kernel_rfl) (by kernel_rfl) (fun _ _ _ h => h) (by decide) ⟨by rfl, ?_⟩ (by assumption) ?_
 rotate_left
 ·intro w; go_simp <;> with_reducible rfl
 simp only [Act.put, zq1, zq2, zq3]
 refine takeDA 19 (v := ?_) rfl (by kernel_rfl) (by kernel_rfl) (by kernel_rfl) (fun _ _ _ h => h) (by decide) ⟨by rfl, ?_⟩ (by assumption) ?_
 rotate_left
 ·intro w; go_simp <;> with_reducible rfl
 simp only [Act.put, zq1, zq2, zq3]
 refine takeD0 20 (v := ?_) rfl (by kernel_rfl) (by kernel_rfl) (by kernel_rfl) (fun _ _ _ h => h) (by decide) (by kernel_rfl) (by kernel_rfl) ⟨by rfl, ?_⟩ (by assumption) ?_
 rotate_left
 ·intro w hS; have f1 := (hS.cell (p := ⟨gW, 1, none⟩) hl1).trans q1; have f2 := (hS.cell (p := ⟨gh, i, none⟩) hghl).trans qi; have f3 := (hS.cell (p := ⟨gh, k, none⟩) hghl).trans qk; go_simp <;> with_reducible rfl
 simp only [Act.put, zq1, zq2, zq3]
 refine takeDA 21 (v := ?_) rfl (by kernel_rfl) (by kernel_rfl) (by kernel_rfl) (fun _ _ _ h => h) (by decide) ⟨by rfl, ?_⟩ (by assumption) ?_
 rotate_left
 ·intro w; go_simp <;> with_reducible rfl
 simp only [Act.put, zq1, zq2, zq3]
 refine takeDA 22 (v := ?_) rfl (by kernel_rfl) (by kernel_rfl) (by kernel_rfl) (fun _ _ _ h => h) (by decide) ⟨by rfl, ?_⟩ (by assumption) ?_
 rotate_left
 ·intro w; go_simp <;> with_reducible rfl
 simp only [Act.put, zq1, zq2, zq3]
 refine takeD0 23 (v := ?_) rfl (by kernel_rfl) (by kernel_rfl) (by kernel_rfl) (fun _ _ _ h => h) (by decide) (by kernel_rfl) (by kernel_rfl) ⟨by rfl, ?_⟩ (by assumption) ?_
 rotate_left
 ·intro w hS; have f1 := (hS.cell (p := ⟨gW, 1, none⟩) hl1).trans q1; have f2 := (hS.cell (p := ⟨gh, i, none⟩) hghl).trans qi; have f3 := (hS.cell (p := ⟨gh, k, none⟩) hghl).trans qk; go_simp <;> with_reducible rfl
 simp only [Act.put, zq1, zq2, zq3]
 refine takeDA 24 (v := ?_) rfl (by kernel_rfl) (by kernel_rfl) (by kernel_rfl) (fun _ _ _ h => h) (by decide) ⟨by rfl, ?_⟩ (by assumption) ?_
 rotate_left
 ·intro w; go_simp <;> with_reducible rfl
 simp only [Act.put, zq1, zq2, zq3]
 have fz1 := h.h.headfree rfl i
 have fz2 := h.h.headfree rfl k
 obtain ⟨zz, qz⟩ := cell_set_some (p := ⟨gh, i, none⟩) (x := .slice ak n ck) qk
 refine oneM rfl (by kernel_rfl) (of_decide_eq_true (by kernel_rfl)) (by rfl) (fun K hK => ?_)
 go_simp
 refine hK.out _ _ ?_
 clear hK K
 try simp only [Act.put, zq1, zq2, zq3]
 clear fz1
 refine takeL 26 (v := ?_) rfl (by kernel_rfl) (by kernel_rfl) (by kernel_rfl) (fun _ _ _ h => h) ⟨by rfl, ?_⟩ trivial ?_
 rotate_left
 ·intro w _; go_simp <;> with_reducible rfl
 simp only [Act.put, zq1, zq2, zq3]
 refine on 27 fun K hK => ?_
 go_simp
 refine hK.out _ _ trivial (fun _ => ?_)
 clear hK K
 try simp only [Act.put, zq1, zq2, zq3]
 refine doneL (by kernel_rfl) ?_ _
 have B1 := (B0.setCell (p := ⟨gh, i, none⟩) hgh (.slice ak n ck)).setCell (p := ⟨gh, k, none⟩) hgh (.slice ai n ci)
 replace h := h.swapH hvi hvk
 generalize hw1 : (wd.setCell ⟨gh, i, none⟩ (.slice ak n ck)).setCell ⟨gh, k, none⟩ (.slice ai n ci) = w1 at *
 have hbw1 : base ≤ w1.heap.size := by rw [← hw1]; simpa using hbw
 have hgp1 : gp < w1.heap.size := by rw [← hw1]; simpa using hgpl
 clear q1 qi qk hl1 qz hw1 fz2 hHeld B0 hbw hgpl hghl
 go_upto_region 1 with (fail)
 have bd := dw w1
 replace h := h.next bd
 have B2 := B1.trans (bd.mono hbw1)
 have hbw2 : base ≤ w1.drew.heap.size := hbw1
 have hgp2 : gp < w1.drew.heap.size := hgp1
 clear bd B1
 have q1 := h.blk.cell 2
 have qi := h.p.head rfl hi; rw [hui] at qi
 have qk := h.p.head rfl hk; rw [huk] at qk
 have hl1 := h.blk.lt
 refine startD (S := (fun w' => Below (w1.drew).heap.size (w1.drew) w')) 25 (by kernel_rfl) (Below.refl _ _) (fun hHeld => ?_)
 generalize w1.drew = we at *
 refine takeDA 0 (v := ?_) rfl (by kernel_rfl) (by kernel_rfl) (by kernel_rfl) (fun _ _ _ h => h) (by decide) ⟨by rfl, ?_⟩ (by assumption) ?_
 rotate_left
 ·intro w; go_simp <;> with_reducible rfl
 simp only [Act.put, zq1, zq2, zq3]
 refine takeDA 1 (v := ?_) rfl (by kernel_rfl) (by kernel_rfl) (by kernel_rfl) (fun _ _ _ h => h) (by decide) ⟨by rfl, ?_⟩ (by assumption) ?_
 rotate_left
 ·intro w; go_simp <;> with_reducible rfl
 simp only [Act.put, zq1, zq2, zq3]
 refine takeDA 2 (v := ?_) rfl (by kernel_rfl) (by kernel_rfl) (by kernel_rfl) (fun _ _ _ h => h) (by decide) ⟨by rfl, ?_⟩ (by assumption) ?_
 rotate_left
 ·intro w; go_simp <;> with_reducible rfl
 simp only [Act.put, zq1, zq2, zq3]
 refine takeD0 3 (v := ?_) rfl (by kernel_rfl) (by kernel_rfl) (by kernel_rfl) (fun _ _ _ h => h) (by decide) (by kernel_rfl) (by kernel_rfl) ⟨by rfl, ?_⟩ (by assumption) ?_
 rotate_left
 ·intro w hS; have f1 := (hS.cell (p := ⟨gW, 2, none⟩) hl1).trans q1; have f2 := (hS.cell (p := ⟨gp, i, none⟩) hgp2).trans qi; have f3 := (hS.cell (p := ⟨gp, k, none⟩) hgp2).trans qk; go_simp <;> with_reducible rfl
 simp only [Act.put, zq1, zq2, zq3]
 refine takeDA 4 (v := ?_) rfl (by kernel_rfl) (by kernel_rfl) (by kernel_rfl) (fun _ _ _ h => h) (by decide) ⟨by rfl, ?_⟩ (by assumption) ?_
 rotate_left
 ·intro w; go_simp <;> with_reducible rfl
 simp only [Act.put, zq1, zq2, zq3]
 refine takeDA 5 (v := ?_) rfl (by kernel_rfl) (by kernel_rfl) (by kernel_rfl) (fun _ _ _ h => h) (by decide) ⟨by rfl, ?_⟩ (by assumption) ?_
 rotate_left
 ·intro w; go_simp <;> with_reducible rfl
 simp only [Act.put, zq1, zq2, zq3]
 refine takeDA 6 (v := ?_) rfl (by kernel_rfl) (by kernel_rfl) (by kernel_rfl) (fun _ _ _ h => h) (by decide) ⟨by rfl, ?_⟩ (by assumption) ?_
 rotate_left
 ·intro w; go_simp <;> with_reducible rfl
 simp only [Act.put, zq1, zq2, zq3]
 refine takeDA 7 (v := ?_) rfl (by kernel_rfl) (by kernel_rfl) (by kernel_rfl) (fun _ _ _ h => h) (by decide) ⟨by rfl, ?_⟩ (by assumption) ?_
 rotate_left
 ·intro w; go_simp <;> with_reducible rfl
 simp only [Act.put, zq1, zq2, zq3]
 refine takeD0 8 (v := ?_) rfl (by kernel_rfl) (by kernel_rfl) (by kernel_rfl) (fun _ _ _ h => h) (by decide) (by kernel_rfl) (by kernel_rfl) ⟨by rfl, ?_⟩ (by assumption) ?_
 rotate_left
 ·intro w hS; have f1 := (hS.cell (p := ⟨gW, 2, none⟩) hl1).trans q1; have f2 := (hS.cell (p := ⟨gp, i, none⟩) hgp2).trans qi; have f3 := (hS.cell (p := ⟨gp, k, none⟩) hgp2).trans qk; go_simp <;> with_reducible rfl
 simp only [Act.put, zq1, zq2, zq3]
 refine takeDA 9 (v := ?_) rfl (by kernel_rfl) (by kernel_rfl) (by kernel_rfl) (fun _ _ _ h => h) (by decide) ⟨by rfl, ?_⟩ (by assumption) ?_
 rotate_left
 ·intro w; go_simp <;> with_reducible rfl
 simp only [Act.put, zq1, zq2, zq3]
 refine takeDA 10 (v := ?_) rfl (by kernel_rfl) (by kernel_rfl) (by kernel_rfl) (fun _ _ _ h => h) (by decide) ⟨by rfl, ?_⟩ (by assumption) ?_
 rotate_left
 ·intro w; go_simp <;> with_reducible rfl
 simp only [Act.put, zq1, zq2, zq3]
 refine takeDA 11 (v := ?_) rfl (by kernel_rfl) (by kernel_rfl) (by kernel_rfl) (fun _ _ _ h => h) (by decide) ⟨by rfl, ?_⟩ (by assumption) ?_
 rotate_left
 ·intro w; go_simp <;> with_reducible rfl
 simp only [Act.put, zq1, zq2, zq3]
 refine takeDA 12 (v := ?_) rfl (by kernel_rfl) (by kernel_rfl) (by kernel_rfl) (fun _ _ _ h => h) (by decide) ⟨by rfl, ?_⟩ (by assumption) ?_
 rotate_left
 ·intro w; go_simp <;> with_reducible rfl
 simp only [Act.put, zq1, zq2, zq3]
 refine takeD0 13 (v := ?_) rfl (by kernel_rfl) (by kernel_rfl) (by kernel_rfl) (fun _ _ _ h => h) (by decide) (by kernel_rfl) (by kernel_rfl) ⟨by rfl, ?_⟩ (by assumption) ?_
 rotate_left
 ·intro w hS; have f1 := (hS.cell (p := ⟨gW, 2, none⟩) hl1).trans q1; have f2 := (hS.cell (p := ⟨gp, i, none⟩) hgp2).trans qi; have f3 := (hS.cell (p := ⟨gp, k, none⟩) hgp2).trans qk; go_simp <;> with_reducible rfl
 simp only [Act.put, zq1, zq2, zq3]
 refine takeDA 14 (v := ?_) rfl (by kernel_rfl) (by kernel_rfl) (by kernel_rfl) (fun _ _ _ h => h) (by decide) ⟨by rfl, ?_⟩ (by assumption) ?_
 rotate_left
 ·intro w; go_simp <;> with_reducible rfl
 simp only [Act.put, zq1, zq2, zq3]
 refine takeDA 15 (v := ?_) rfl (by kernel_rfl) (by kernel_rfl) (by kernel_rfl) (fun _ _ _ h => h) (by decide) ⟨by rfl, ?_⟩ (by assumption) ?_
 rotate_left
 ·intro w; go_simp <;> with_reducible rfl
 simp only [Act.put, zq1, zq2, zq3]
 refine takeD0 16 (v := ?_) rfl (by kernel_rfl) (by kernel_rfl) (by kernel_rfl) (fun _ _ _ h => h) (by decide) (by kernel_rfl) (by kernel_rfl) ⟨by rfl, ?_⟩ (by assumption) ?_
 rotate_left
 ·intro w hS; have f1 := (hS.cell (p := ⟨gW, 2, none⟩) hl1).trans q1; have f2 := (hS.cell (p := ⟨gp, i, none⟩) hgp2).trans qi; have f3 := (hS.cell (p := ⟨gp, k, none⟩) hgp2).trans qk; go_simp <;> with_reducible rfl
 simp only [Act.put, zq1, zq2, zq3]
 refine takeDA 17 (v := ?_) rfl (by kernel_rfl) (by kernel_rfl) (by kernel_rfl) (fun _ _ _ h => h) (by decide) ⟨by rfl, ?_⟩ (by assumption) ?_
 rotate_left
 ·intro w; go_simp <;> with_reducible rfl
 simp only [Act.put, zq1, zq2, zq3]
 refine takeDA 18 (v := ?_) rfl (by kernel_rfl) (by kernel_rfl) (by kernel_rfl) (fun _ _ _ h => h) (by decide) ⟨by rfl, ?_⟩ (by assumption) ?_
 rotate_left
 ·intro w; go_simp <;> with_reducible rfl
 simp only [Act.put, zq1, zq2, zq3]
 refine takeDA 19 (v := ?_) rfl (by kernel_rfl) (by kernel_rfl) (by kernel_rfl) (fun _ _ _ h => h) (by decide) ⟨by rfl, ?_⟩ (by assumption) ?_
 rotate_left
 ·intro w; go_simp <;> with_reducible rfl
 simp only [Act.put, zq1, zq2, zq3]
 refine takeD0 20 (v := ?_) rfl (by kernel_rfl) (by kernel_rfl) (by kernel_rfl) (fun _ _ _ h => h) (by decide) (by kernel_rfl) (by kernel_rfl) ⟨by rfl, ?_⟩ (by assumption) ?_
 rotate_left
 ·intro w hS; have f1 := (hS.cell (p := ⟨gW, 2, none⟩) hl1).trans q1; have f2 := (hS.cell (p := ⟨gp, i, none⟩) hgp2).trans qi; have f3 := (hS.cell (p := ⟨gp, k, none⟩) hgp2).trans qk; go_simp <;> with_reducible rfl
 simp only [Act.put, zq1, zq2, zq3]
 refine takeDA 21 (v := ?_) rfl (by kernel_rfl) (by kernel_rfl) (by kernel_rfl) (fun _ _ _ h => h) (by decide) ⟨by rfl, ?_⟩ (by assumption) ?_
 rotate_left
 ·intro w; go_simp <;> with_reducible rfl
 simp only [Act.put, zq1, zq2, zq3]
 refine takeDA 22 (v := ?_) rfl (by kernel_rfl) (by kernel_rfl) (by kernel_rfl) (fun _ _ _ h => h) (by decide) ⟨by rfl, ?_⟩ (by assumption) ?_
 rotate_left
 ·intro w; go_simp <;> with_reducible rfl
 simp only [Act.put, zq1, zq2, zq3]
 refine takeD0 23 (v := ?_) rfl (by kernel_rfl) (by kernel_rfl) (by kernel_rfl) (fun _ _ _ h => h) (by decide) (by kernel_rfl) (by kernel_rfl) ⟨by rfl, ?_⟩ (by assumption) ?_
 rotate_left
 ·intro w hS; have f1 := (hS.cell (p := ⟨gW, 2, none⟩) hl1).trans q1; have f2 := (hS.cell (p := ⟨gp, i, none⟩) hgp2).trans qi; have f3 := (hS.cell (p := ⟨gp, k, none⟩) hgp2).trans qk; go_simp <;> with_reducible rfl
 simp only [Act.put, zq1, zq2, zq3]
 refine takeDA 24 (v := ?_) rfl (by kernel_rfl) (by kernel_rfl) (by kernel_rfl) (fun _ _ _ h => h) (by decide) ⟨by rfl, ?_⟩ (by assumption) ?_
 rotate_left
 ·intro w; go_simp <;> with_reducible rfl
 simp only [Act.put, zq1, zq2, zq3]
 have fz1 := h.p.headfree rfl i
 have fz2 := h.p.headfree rfl k
 obtain ⟨zz, qz⟩ := cell_set_some (p := ⟨gp, i, none⟩) (x := .slice ak' n ck') qk
 refine oneM rfl (by kernel_rfl) (of_decide_eq_true (by kernel_rfl)) (by rfl) (fun K hK => ?_)
 go_simp
 refine hK.out _ _ ?_
 clear hK K
 try simp only [Act.put, zq1, zq2, zq3]
 clear fz1
 refine takeL 26 (v := ?_) rfl (by kernel_rfl) (by kernel_rfl) (by kernel_rfl) (fun _ _ _ h => h) ⟨by rfl, ?_⟩ trivial ?_
 rotate_left
 ·intro w _; go_simp <;> with_reducible rfl
 simp only [Act.put, zq1, zq2, zq3]
 refine on 27 fun K hK => ?_
 go_simp
 refine hK.out _ _ trivial (fun _ => ?_)
 clear hK K
 try simp only [Act.put, zq1, zq2, zq3]
 refine doneL (by kernel_rfl) ?_ _
 have B3 := (B2.setCell (p := ⟨gp, i, none⟩) hgp (.slice ak' n ck')).setCell (p := ⟨gp, k, none⟩) hgp (.slice ai' n ci')
 replace h := h.swapP hui huk
 generalize hw2 : (we.setCell ⟨gp, i, none⟩ (.slice ak' n ck')).setCell ⟨gp, k, none⟩ (.slice ai' n ci') = w2 at *
 have hbw3 : base ≤ w2.heap.size := by rw [← hw2]; simpa using hbw2
 clear q1 qi qk hl1 qz hw2 fz2 hHeld hvi hvk hui huk hgp1 hgp2 B2
 have q1 := h.blk.cell 1
 generalize ehs : (hs.set i (.slice ak n ck)).set k (.slice ai n ci) = hs1 at *
 generalize eps : (ps.set i (.slice ak' n ck')).set k (.slice ai' n ci') = ps1 at *
 clear ehs eps
 obtain ⟨S, eS⟩ : ∃ S, S = swpA H i k := ⟨_, rfl⟩
 rw [← eS] at h
 have HS := Lib.hid eS; clear eS
 have st : HkTo p w base gW n (fun a b => if a < 0 then S a (tsp i k b) else S a b) (swpA P i k) (.slice (some ⟨gh, 0, none⟩) n ch) (.slice (some ⟨gp, 0, none⟩) n cp) w2 := ⟨_, _, h.congr (fun a b _ _ => by rw [if_neg (by omega)]) (fun _ _ _ _ => rfl), B3⟩
 clear h B3
 go_wp2
 clear q1
 go_loopw [65] (fun rv wr => ∃ r : Nat, r ≤ n ∧ rv = .int .i64 r ∧ HkTo p w base gW n (fun a b => if a < r then S a (tsp i k b) else S a b) (swpA P i k) (.slice (some ⟨gh, 0, none⟩) n ch) (.slice (some ⟨gp, 0, none⟩) n cp) wr) (fun rv _ => n - (intOf rv).toNat)
 case atStart => exact ⟨0, by omega, rfl, st⟩
 case round =>
  clear st hbw3
  obtain ⟨r, hr, rfl, hs2, ps2, h, B0⟩ := hrel
  by_cases hrn : r < n
  ·obtain ⟨v, hv⟩ := h.h.hdr hrn
   have qr := h.h.head rfl hrn; rw [hv] at qr
   obtain ⟨ao, cr, rfl, hcr⟩ := (h.h.row r v hv).slice
   obtain ⟨b, o, rfl⟩ := h.h.ao hv (by omega)
   have hbw : base ≤ wr.heap.size := Nat.le_trans hbase B0.size
   go_upto_region 5 with (fail)
   have bd := dw wr
   replace h := h.next bd
   replace B0 := B0.trans (bd.mono hbw)
   clear bd
   obtain ⟨⟨x, q1, hx⟩, f1, b1, s1⟩ := h.h.at hv hi
   obtain ⟨⟨y, q2, hy⟩, f2, b2, s2⟩ := h.h.at hv hk
   have hx : x = .int .u64 ((S r i).val : Nat) := by rw [hx, if_neg (by omega)]
   have hy : y = .int .u64 ((S r k).val : Nat) := by rw [hy, if_neg (by omega)]
   subst hx hy
   refine startD (S := (fun w' => Below (wr.drew).heap.size (wr.drew) w')) 13 (by kernel_rfl) (Below.refl _ _) (fun hHeld => ?_)
   generalize wr.drew = wd at *
   refine takeDA 0 (v := ?_) rfl (by kernel_rfl) (by kernel_rfl) (by kernel_rfl) (fun _ _ _ h => h) (by decide) ⟨by rfl, ?_⟩ (by assumption) ?_
   rotate_left
   ·intro w; go_simp <;> with_reducible rfl
   simp only [Act.put, zq1, zq2, zq3]
   refine takeDA 1 (v := ?_) rfl (by kernel_rfl) (by kernel_rfl) (by kernel_rfl) (fun _ _ _ h => h) (by decide) ⟨by rfl, ?_⟩ (by assumption) ?_
   rotate_left
   ·intro w; go_simp <;> with_reducible rfl
   simp only [Act.put, zq1, zq2, zq3]
   refine takeDA 2 (v := ?_) rfl (by kernel_rfl) (by kernel_rfl) (by kernel_rfl) (fun _ _ _ h => h) (by decide) ⟨by rfl, ?_⟩ (by assumption) ?_
   rotate_left
   ·intro w; go_simp <;> with_reducible rfl
   simp only [Act.put, zq1, zq2, zq3]
   refine takeDA 3 (v := ?_) rfl (by kernel_rfl) (by kernel_rfl) (by kernel_rfl) (fun _ _ _ h => h) (by decide) ⟨by rfl, ?_⟩ (by assumption) ?_
   rotate_left
   ·intro w; go_simp <;> with_reducible rfl
   simp only [Act.put, zq1, zq2, zq3]
   refine takeDA 4 (v := ?_) rfl (by kernel_rfl) (by kernel_rfl) (by kernel_rfl) (fun _ _ _ h => h) (by decide) ⟨by rfl, ?_⟩ (by assumption) ?_
   rotate_left
   ·intro w; go_simp <;> with_reducible rfl
   simp only [Act.put, zq1, zq2, zq3]
   refine takeDA 5 (v := ?_) rfl (by kernel_rfl) (by kernel_rfl) (by kernel_rfl) (fun _ _ _ h => h) (by decide) ⟨by rfl, ?_⟩ (by assumption) ?_
   rotate_left
   ·intro w; go_simp <;> with_reducible rfl
   simp only [Act.put, zq1, zq2, zq3]
   refine takeDA 6 (v := ?_) rfl (by kernel_rfl) (by kernel_rfl) (by kernel_rfl) (fun _ _ _ h => h) (by decide) ⟨by rfl, ?_⟩ (by assumption) ?_
   rotate_left
   ·intro w; go_simp <;> with_reducible rfl
   simp only [Act.put, zq1, zq2, zq3]
   refine takeD0 7 (v := ?_) rfl (by kernel_rfl) (by kernel_rfl) (by kernel_rfl) (fun _ _ _ h => h) (by decide) (by kernel_rfl) (by kernel_rfl) ⟨by rfl, ?_⟩ (by assumption) ?_
   rotate_left
   ·intro w hS; have f3 := (hS.cell (p := ⟨b, o + i, none⟩) s1).trans q1; have f4 := (hS.cell (p := ⟨b, o + k, none⟩) s2).trans q2; go_simp <;> with_reducible rfl
   simp only [Act.put, zq1, zq2, zq3]
   refine takeDA 8 (v := ?_) rfl (by kernel_rfl) (by kernel_rfl) (by kernel_rfl) (fun _ _ _ h => h) (by decide) ⟨by rfl, ?_⟩ (by assumption) ?_
   rotate_left
   ·intro w; go_simp <;> with_reducible rfl
   simp only [Act.put, zq1, zq2, zq3]
   refine takeDA 9 (v := ?_) rfl (by kernel_rfl) (by kernel_rfl) (by kernel_rfl) (fun _ _ _ h => h) (by decide) ⟨by rfl, ?_⟩ (by assumption) ?_
   rotate_left
   ·intro w; go_simp <;> with_reducible rfl
   simp only [Act.put, zq1, zq2, zq3]
   refine takeDA 10 (v := ?_) rfl (by kernel_rfl) (by kernel_rfl) (by kernel_rfl) (fun _ _ _ h => h) (by decide) ⟨by rfl, ?_⟩ (by assumption) ?_
   rotate_left
   ·intro w; go_simp <;> with_reducible rfl
   simp only [Act.put, zq1, zq2, zq3]
   refine takeD0 11 (v := ?_) rfl (by kernel_rfl) (by kernel_rfl) (by kernel_rfl) (fun _ _ _ h => h) (by decide) (by kernel_rfl) (by kernel_rfl) ⟨by rfl, ?_⟩ (by assumption) ?_
   rotate_left
   ·intro w hS; have f3 := (hS.cell (p := ⟨b, o + i, none⟩) s1).trans q1; have f4 := (hS.cell (p := ⟨b, o + k, none⟩) s2).trans q2; go_simp <;> with_reducible rfl
   simp only [Act.put, zq1, zq2, zq3]
   refine takeDA 12 (v := ?_) rfl (by kernel_rfl) (by kernel_rfl) (by kernel_rfl) (fun _ _ _ h => h) (by decide) ⟨by rfl, ?_⟩ (by assumption) ?_
   rotate_left
   ·intro w; go_simp <;> with_reducible rfl
   simp only [Act.put, zq1, zq2, zq3]
   have fz1 := f1
   have fz2 := f2
   obtain ⟨zz, qz⟩ := cell_set_some (p := ⟨b, o + i, none⟩) (x := .int .u64 ((S r k).val : Nat)) q2
   refine oneM rfl (by kernel_rfl) (of_decide_eq_true (by kernel_rfl)) (by rfl) (fun K hK => ?_)
   go_simp
   refine hK.out _ _ ?_
   clear hK K
   try simp only [Act.put, zq1, zq2, zq3]
   clear fz1
   refine takeL 14 (v := ?_) rfl (by kernel_rfl) (by kernel_rfl) (by kernel_rfl) (fun _ _ _ h => h) ⟨by rfl, ?_⟩ trivial ?_
   rotate_left
   ·intro w _; go_simp <;> with_reducible rfl
   simp only [Act.put, zq1, zq2, zq3]
   refine on 15 fun K hK => ?_
   go_simp
   refine hK.out _ _ trivial (fun _ => ?_)
   clear hK K
   try simp only [Act.put, zq1, zq2, zq3]
   refine doneL (by kernel_rfl) ?_ _
   have h1 := h.storeH hv hi (x := S r k) (z := ((S r k).val : Nat)) rfl
   have h2 := h1.storeH hv hk (x := S r i) (z := ((S r i).val : Nat)) rfl
   have B1 := (B0.setCell (p := ⟨b, o + i, none⟩) b1 (.int .u64 ((S r k).val : Nat))).setCell (p := ⟨b, o + k, none⟩) b1 (.int .u64 ((S r i).val : Nat))
   have st := Lib.hid (show HkTo p w base gW n (fun a b => if a < r + 1 then S a (tsp i k b) else S a b) (swpA P i k) (.slice (some ⟨gh, 0, none⟩) n ch) (.slice (some ⟨gp, 0, none⟩) n cp) ((wd.setCell ⟨b, o + i, none⟩ (.int .u64 ((S r k).val : Nat))).setCell ⟨b, o + k, none⟩ (.int .u64 ((S r i).val : Nat))) from
    ⟨_, _, h2.congr (fun a c _ _ => by
     unfold updE tsp; dsimp only
     by_cases h1 : a = r
     ·subst h1
      rw [if_pos (show a < a + 1 by omega), if_neg (show ¬ a < a by omega)]
      by_cases h3 : c = k
      ·subst h3
       rw [if_pos ⟨rfl, rfl⟩]
       split
       ·rename_i h4; rw [h4]
       ·rw [if_pos rfl]
      ·rw [if_neg (fun h => h3 h.2), if_neg h3]
       by_cases h4 : c = i
       ·rw [if_pos ⟨rfl, h4⟩, if_pos h4]
       ·rw [if_neg (fun h => h4 h.2), if_neg h4]
     ·rw [if_neg (fun h => h1 h.1), if_neg (fun h => h1 h.1)]
      by_cases h5 : a < r
      ·rw [if_pos h5, if_pos (show a < r + 1 by omega)]
      ·rw [if_neg h5, if_neg (show ¬ a < r + 1 by omega)]) (fun _ _ _ _ => rfl), B1⟩)
   clear h h1 h2 B0 B1 q1 q2 qz f1 f2 s1 s2 b1 b2 hHeld fz2 hv hbw
   go_wp2
   go_roundw
   case rel => exact ⟨r + 1, by omega, by go_num, st.out⟩
   case measure => simp [intOf] <;> omega
  ·obtain rfl : r = n := by omega
   go_wp2
   go_end0
   exact ⟨rfl, _, _, h.congr (fun a b ha _ => by
    show (if a < r then S a (tsp i k b) else S a b) = H (tsp i k a) (tsp i k b)
    rw [if_pos ha, HS.out]; unfold swpA
    show (if a = i then H k else if a = k then H i else H a) (tsp i k b) = H (if a = i then k else if a = k then i else a) (tsp i k b)
    split
    ·rfl
    ·split <;> rfl) (fun a b _ _ => by
    show (if a = i then P k else if a = k then P i else P a) b = P (if a = i then k else if a = k then i else a) b
    split
    ·rfl
    ·split <;> rfl), B0⟩
end Go.Proofs.Ytkmfhabgempjiaa
