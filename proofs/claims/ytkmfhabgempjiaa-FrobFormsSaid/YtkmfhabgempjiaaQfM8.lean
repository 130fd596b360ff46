/- hess: a matrix of rows; what a work begins with. -/
import Derived.Test.YtkmfhabgempjiaaQfM7
import Derived.Test.YtkmfhabgempjiaaQfM2
namespace Go.Proofs.Ytkmfhabgempjiaa
set_option maxHeartbeats 4000000
open Go.RowKit
theorem ftab_row (c i : Nat) (T : Nat → Nat → Nat) : ftab c T (i * c + c) = ftab c T (i * c) ++ (List.range c).map (T i) := by
 have H : ∀ k, k ≤ c → ftab c T (i * c + k) = ftab c T (i * c) ++ (List.range k).map (T i) := by
  intro k
  induction k with
  | zero => intro _; simp
  | succ k ih =>
   intro hk
   rw [ftab_at T (by omega), ih (by omega), List.range_succ, List.map_append, List.append_assoc]; rfl
 exact H c (Nat.le_refl _)
def RetHk (p : Nat) (w : World) (n : Nat) (Q : (Nat → Nat → Zp p) → (Nat → Nat → Zp p) → Prop) (e : Ending) (w' : World) : Prop :=
 ∃ gW H P hv pv hs ps, e = .returned (.pointer (some ⟨gW, 0, none⟩)) ∧ Hk p w' w.heap.size gW n H P hv pv hs ps ∧ Q H P ∧ Below w.heap.size w w'
set_option maxRecDepth 20000 in
theorem hs_begun (p : Nat) (a : Value) (n : Nat) (xs : List Nat) (w : World) (hp : FP p) (hA : Fm w a n n xs) (hn : n ≤ 64) (hx : xs.length = n * n) :
  Calls Try.prog 152 #[.agg #[.int .u64 p], a] w (RetHk p w n (fun H P => H = (mx p n n xs).e ∧ P = (MT.one n : MT (Zp p) n n).e)) := by
 obtain ⟨aA, cA, rfl⟩ := hA.agg
 obtain ⟨wb, ew, KF, KA, B0, hsz⟩ := boxes2 w 29 63 [.int .u64 p] [.int .i64 n, .int .i64 n, .slice aA xs.length cA]
 clear hsz
 have HP := Lib.hid hp; clear hp
 replace hA := hA.next B0
 have HX := Lib.hid hx; clear hx
 go_enter Try.func152, Try.ntmps152
 go_upto_region 1 with (fail)
 rw [← ew]
 obtain ⟨g0, eg0⟩ : ∃ g, g = w.heap.size := ⟨_, rfl⟩
 rw [← eg0] at KF KA ⊢
 clear ew eg0
 have f0 := KF.cell 0; have f1 := KA.cell 0
 go_wp2_with fail
 refine (fm_Identity p n _ HP.out hn).mono ?_; rintro e w2 ⟨ao, k, rfl, o2, b2⟩
 clear f0 f1
 have HL := Lib.hid (tbv_length (MT.one n : MT (Zp p) n n))
 obtain ⟨wc, ewc, KM, B2, hs2⟩ := boxes1 w2 63 [.int .i64 n, .int .i64 n, .slice ao (tbv (MT.one n : MT (Zp p) n n)).length k]
 clear hs2
 have bb := b2.trans (B2.mono b2.size)
 replace B0 := B0.trans (bb.mono B0.size)
 replace KF := KF.next bb; replace KA := KA.next bb; replace hA := hA.next bb
 have hI : Fm wc (.agg #[.int .i64 n, .int .i64 n, .slice ao (tbv (MT.one n : MT (Zp p) n n)).length k]) n n (tbv (MT.one n : MT (Zp p) n n)) := ⟨_, rfl, (o2.next B2).sl⟩
 have HI1 := Lib.hid (mx_tbv (MT.one n : MT (Zp p) n n))
 obtain ⟨I, eI⟩ : ∃ I, I = (MT.one n : MT (Zp p) n n) := ⟨_, rfl⟩
 rw [← eI] at HL KM hI HI1 ewc ⊢
 have EI := Lib.hid eI
 clear eI o2 b2 B2 bb
 go_upto_region 2 with (fail)
 rw [← ewc]
 obtain ⟨g, eg⟩ : ∃ g, g = w2.heap.size := ⟨_, rfl⟩
 rw [← eg] at KM ⊢
 clear ewc eg
 have bd := dw wc
 replace KF := KF.next bd; replace KA := KA.next bd; replace KM := KM.next bd; replace hA := hA.next bd; replace hI := hI.next bd
 replace B0 := B0.trans (bd.mono B0.size)
 have B00 := Lib.hid B0.size
 clear bd
 have z0 := Lib.hid fun (w : World) (hS : Below (wc.drew).heap.size (wc.drew) w) => And.intro ((KF.at hS) 0) (And.intro ((KA.at hS) 0) (And.intro ((KA.at hS) 1) (And.intro ((KA.at hS) 2) (And.intro ((KM.at hS) 0) (And.intro ((KM.at hS) 1) ((KM.at hS) 2))))))
 refine startL (S := (fun w' => Below (wc.drew).heap.size (wc.drew) w')) (by kernel_rfl) (Below.refl _ _) (fun hHeld => ?_)
 refine tf 0 z0.out ?_
 refine tf 1 z0.out ?_
 refine tf 2 z0.out ?_
 refine tf 4 z0.out ?_
 refine tf 5 z0.out ?_
 refine on 3 fun K hK => ?_
 go_simp
 go_at_call 173
 (with_reducible refine (hs_rowsOf p _ n xs _ HP.out (hA.next hHeld) hn HX.out).mono ?_); rintro e w5 ⟨hv, hs, rfl, R5, b5⟩; obtain ⟨ah, ch, rfl⟩ := R5.slice_of
 refine hK.out _ _ (hHeld.trans (b5.mono hHeld.size)) (fun hHeld => ?_)
 clear hK K
 try simp only [Act.put, zq1, zq2, zq3]
 refine on 6 fun K hK => ?_
 go_simp
 go_at_call 173
 (with_reducible refine (hs_rowsOf p _ n (tbv I) _ HP.out (hI.next hHeld) hn HL.out).mono ?_); rintro e w6 ⟨pv, ps, rfl, R6, b6⟩; obtain ⟨ap, cp, rfl⟩ := R6.slice_of; have sz2 := Lib.hid hHeld.size
 refine hK.out _ _ (hHeld.trans (b6.mono hHeld.size)) (fun hHeld => ?_)
 clear hK K
 try simp only [Act.put, zq1, zq2, zq3]
 refine tk 7 ?_
 refine on 8 fun K hK => ?_
 go_simp
 refine hK.out _ _ (hHeld.alloc hHeld.size _) (fun hHeld => ?_)
 clear hK K
 try simp only [Act.put, zq1, zq2, zq3]
 refine tk 9 ?_
 clear z0; refine doneL (by kernel_rfl) ?_ _
 obtain ⟨w7, e7, K7, b7, hs7⟩ := boxes1 w6 167 [.int .u64 p, .slice ah n ch, .slice ap n cp]
 rw [← e7] at hHeld ⊢
 replace B0 := B0.trans (hHeld.mono B0.size)
 have S5 : ∀ (i b o c : Nat), hs[i]? = some (.slice (some ⟨b, o, none⟩) n c) → 0 < n → b < w5.heap.size := fun i b o c h h0 => (R5.at h h0).2.2.2
 have S6 : ∀ (i b o c : Nat), ps[i]? = some (.slice (some ⟨b, o, none⟩) n c) → 0 < n → w5.heap.size ≤ b := fun i b o c h h0 => (R6.at h h0).2.2.1
 have hH5 : ∀ g, (Value.slice ah n ch).ownBlock = some g → g < w5.heap.size := fun g h => (World.ownsRow.lt R5.own g h).2
 have hH6 : ∀ g, (Value.slice ap n cp).ownBlock = some g → w5.heap.size ≤ g := fun g h => (World.ownsRow.lt R6.own g h).1
 have hb0 := B0.size
 have sz1 : w.heap.size ≤ wc.drew.heap.size := B00.out
 have FR := Lib.hid (show RetHk p w n (fun H P => H = (mx p n n xs).e ∧ P = (MT.one n : MT (Zp p) n n).e) (.returned (.pointer (some ⟨w6.heap.size, 0, none⟩))) w7 from
  ⟨w6.heap.size, (mx p n n xs).e, I.e, .slice ah n ch, .slice ap n cp, hs, ps, rfl, ⟨K7, by have := B00.out; have := sz2.out; have := b6.size; omega, ((R5.next (b6.trans (b7.mono b6.size)) (fun _ _ h => h)).mono sz1), by rw [HI1.out] at R6; exact (R6.next b7 (fun _ _ h => h)).mono (by have := b5.size; omega),
   fun i j b o c b' o' c' h1 h2 e => by
    by_cases h0 : 0 < n
    ·have := S5 i b o c h1 h0; have := S6 j b' o' c' h2 h0; omega
    ·have := R5.len; have := (List.getElem?_eq_some_iff.1 h1).1; omega,
   fun g h1 h2 => by have := hH5 g h1; have := hH6 g h2; omega⟩, ⟨rfl, by rw [EI.out]⟩, B0⟩)
 clear R5 R6 K7 b5 b6 b7 hs7 e7 hHeld S5 S6 hH5 hH6 hb0 sz1 B0 KF KA KM hA hI
 go_wp2
 go_ret
 exact FR.out
end Go.Proofs.Ytkmfhabgempjiaa
/- Plain algebra: matrices made of each other have one characteristic polynomial; Hessenberg's form, step by step; its characteristic polynomial. -/
namespace Go.Proofs.Ytkmfhabgempjiaa
set_option maxHeartbeats 4000000
open CR
section
variable {R : Type} [CR R] {n m : Nat}
def cst (A : MT R n m) : MT (Pol R) n m := ⟨fun i k => mon (A.e i k) 0, fun i k h => by rw [A.out i k h]; exact mon_zero 0⟩
theorem cst_e (A : MT R n m) (i k : Nat) : (cst A).e i k = mon (A.e i k) 0 := rfl
theorem mon_sm (f : Nat → R) : ∀ N, mon (sm N f) 0 = sm N (fun j => mon (f j) 0)
 | 0 => mon_zero 0
 | N + 1 => by simp only [sm]; rw [mon_add, mon_sm f N]
theorem cst_mul {l : Nat} (A : MT R n m) (B : MT R m l) : cst (A * B) = cst A * cst B := MT.ext fun i k _ _ => by
 rw [cst_e, MT.e_mul, MT.e_mul, mon_sm]; exact sm_congr fun j _ => by rw [cst_e, cst_e, mon_mul]
theorem cst_one : cst (MT.one n : MT R n n) = MT.one n := MT.ext fun i k hi hk => by
 rw [cst_e, MT.e_one hi hk, MT.e_one hi hk]
 split
 ·rfl
 ·exact mon_zero 0
theorem XA_eq (A : MT R n n) : XA A = (MT.one n).sc (mon 1 1) - cst A := MT.ext fun i k hi hk => by
 unfold XA; rw [MT.of_e _ hi hk, MT.e_sub, MT.e_sc, MT.e_one hi hk, cst_e]
 congr 1
 split
 ·rw [mul_one]
 ·rw [mul_zero]
theorem XA_conj {A H P : MT R n n} (h : P * A = H * P) : cst P * XA A = XA H * cst P := by
 rw [XA_eq, XA_eq, MT.mul_sub, MT.sub_mul, MT.mul_sc_one, MT.sc_one_mul, ← cst_mul, ← cst_mul, h]
theorem chi_conj {A H P X : MT R n n} (hi : Inv P X) (h : P * A = H * P) : chi A = chi H := by
 have e := congrArg MT.det (XA_conj h)
 rw [MT.det_mul, MT.det_mul] at e
 have hd : (cst P).det * (cst X).det = 1 := by rw [← MT.det_mul, ← cst_mul, hi.1, cst_one, MT.det_one]
 have e2 : (cst X).det * ((cst P).det * (XA A).det) = (cst X).det * ((XA H).det * (cst P).det) := by rw [e]
 have e3 : (cst X).det * ((cst P).det * (XA A).det) = (XA A).det := by
  rw [← mul_assoc, mul_comm (cst X).det, hd, one_mul]
 have e4 : (cst X).det * ((XA H).det * (cst P).det) = (XA H).det := by
  rw [mul_left_comm, mul_comm (cst X).det, hd, mul_one]
 unfold chi
 rw [← e3, e2, e4]
def tsp (i k a : Nat) : Nat := if a = i then k else if a = k then i else a
def hsw (H : Nat → Nat → R) (i k : Nat) : Nat → Nat → R := fun a b => H (tsp i k a) (tsp i k b)
def psw (P : Nat → Nat → R) (i k : Nat) : Nat → Nat → R := fun a b => P (tsp i k a) b
def rcl (H : Nat → Nat → R) (i k : Nat) (c : R) : Nat → Nat → R := fun a b => if a = i then H a b - c * H k b else H a b
def hcl (H : Nat → Nat → R) (i k : Nat) (c : R) : Nat → Nat → R := fun a b => if b = k then rcl H i k c a k + c * rcl H i k c a i else rcl H i k c a b
def Sim (A : MT R n n) (H P : Nat → Nat → R) : Prop := (∃ X, Inv (MT.of n n P) X) ∧ MT.of n n P * A = MT.of n n H * MT.of n n P
theorem io_sgF (m : Nat) (s : Nat → R) (cs : List Nat) (F : List Nat → R) : io s cs (fun l => sg m (F l)) = sg m (io s cs F) := by
 unfold sg
 split
 ·exact io_negF s cs F
 ·rfl
theorem ops_last (r : Nat → R) : ∀ (rs : List (Nat → R)) (F : List Nat → R) (cs : List Nat), ops (rs ++ [r]) F cs = sg rs.length (io r cs (ops rs F))
 | [], F, cs => rfl
 | s :: rs, F, cs => by
  show io s cs (ops (rs ++ [r]) F) = sg (rs.length + 1) (io r cs (fun l => io s l (ops rs F)))
  rw [io_congr cs (G := fun l => sg rs.length (io r l (ops rs F))) (fun _ _ => rfl) (fun l _ => ops_last r rs F l), io_sgF, io_anti s r, sg_succ, sg_neg]
theorem rows_snoc {R : Type} : ∀ (n : Nat) (A : Nat → Nat → R), rows (n + 1) A = rows n A ++ [A n]
 | 0, _ => rfl
 | n + 1, A => by
  show A 0 :: rows (n + 1) (fun i => A (i + 1)) = A 0 :: rows n (fun i => A (i + 1)) ++ [A (n + 1)]
  rw [rows_snoc n]; rfl
def hesU (M : Nat → Nat → R) (j k : Nat) : R := ops (rows (j + 1) M) (fun _ => 1) (List.range j ++ [k])
theorem hesU_zero (M : Nat → Nat → R) (k : Nat) : hesU M 0 k = M 0 k := by
 show io (M 0) [k] (fun _ => 1) = _
 simp only [io]
 rw [mul_one, sub_zero]
theorem dn_hesU (M : Nat → Nat → R) (k : Nat) : dn (k + 1) M = hesU M k k := by
 rw [dn_ops, List.range_succ]; rfl
theorem sg_sg (m : Nat) (x : R) : sg m (sg m x) = x := by
 unfold sg; split
 ·exact neg_neg x
 ·rfl
theorem hesU_succ (M : Nat → Nat → R) (j k : Nat) (h0 : ∀ c, c < j → M (j + 1) c = 0) : hesU M (j + 1) k = M (j + 1) k * dn (j + 1) M - M (j + 1) j * hesU M j k := by
 unfold hesU
 rw [rows_snoc (j + 1), ops_last, rows_len, io_sum]
 have hl : (List.range (j + 1) ++ [k]).length = j + 1 + 1 := by simp
 have hg : ∀ t, t < j + 1 → (List.range (j + 1) ++ [k]).getD t 0 = t := fun t ht => by
  simp only [List.getD, List.getElem?_append_left (show t < (List.range (j + 1)).length by simpa using ht), List.getElem?_range ht]; rfl
 rw [hl, sm_two (a := j) (b := j + 1) (by omega) (by omega) (by omega) (fun t ht h1 h2 => by
  rw [hg t (by omega), h0 t (by omega), zero_mul]; unfold sg; split
  ·exact neg_zero
  ·rfl)]
 have e1 : (List.range (j + 1) ++ [k]).getD (j + 1) 0 = k := by simp [List.getD]
 have e2 : (List.range (j + 1) ++ [k]).eraseIdx j = List.range j ++ [k] := by
  rw [List.eraseIdx_append_of_lt_length (by simp), List.range_succ]
  congr 1
  rw [List.eraseIdx_append_of_length_le (by simp)]
  simp
 have e3 : (List.range (j + 1) ++ [k]).eraseIdx (j + 1) = List.range (j + 1) := by
  rw [List.eraseIdx_append_of_length_le (by simp)]; simp
 rw [e1, e2, e3, hg j (by omega), ← dn_ops]
 have hs : ∀ x y : R, sg (j + 1) (sg j x + sg (j + 1) y) = y - x := by
  intro x y
  rw [show sg j x = -sg (j + 1) x by rw [sg_succ, neg_neg]]
  have : sg (j + 1) (-sg (j + 1) x + sg (j + 1) y) = -sg (j + 1) (sg (j + 1) x) + sg (j + 1) (sg (j + 1) y) := by
   unfold sg; split
   ·exact by_ring [x, y] (-(- -X0 + -X1)) (-(- -X0) + - -X1) rfl
   ·rfl
  rw [this, sg_sg, sg_sg]
  exact by_ring [x, y] (-X0 + X1) (X1 - X0) rfl
 rw [hs]
def xh (H : Nat → Nat → R) : Nat → Nat → Pol R := fun i k => (if i = k then mon 1 1 else 0) - mon (H i k) 0
theorem chi_xh (A : MT R n n) : chi A = dn n (xh A.e) := dn_congr n fun i k hi hk => by unfold XA; rw [MT.of_e _ hi hk]; rfl
def Hes (n : Nat) (H : Nat → Nat → R) : Prop := ∀ i c, c + 1 < i → i < n → H i c = 0
def hesV (H : Nat → Nat → R) : Nat → Nat → Pol R
 | 0, _ => 0
 | j + 1, k => mon (H (j + 1) j) 0 * hesU (xh H) j k
theorem hesU_V {H : Nat → Nat → R} (hH : Hes n H) {j : Nat} (hj : j < n) (k : Nat) : hesU (xh H) j k = xh H j k * dn j (xh H) + hesV H j k := by
 cases j with
 | zero => rw [hesU_zero]; show _ = xh H 0 k * 1 + 0; rw [mul_one, add_zero]
 | succ j =>
  rw [hesU_succ (xh H) j k (fun c hc => by
   unfold xh; rw [if_neg (by omega), hH (j + 1) c (by omega) hj, mon_zero, sub_zero])]
  show _ = _ + mon (H (j + 1) j) 0 * hesU (xh H) j k
  have e : xh H (j + 1) j = -mon (H (j + 1) j) 0 := by unfold xh; rw [if_neg (by omega), zero_sub]
  rw [e]
  exact by_ring [xh H (j + 1) k, dn (j + 1) (xh H), mon (H (j + 1) j) 0, hesU (xh H) j k] (X0 * X1 - -X2 * X3) (X0 * X1 + X2 * X3) rfl
theorem hesV_step {H : Nat → Nat → R} (hH : Hes n H) {i k : Nat} (hik : i < k) (hk : k < n) {out : Pol R} {by_ : R} (h : dn (k + 1) (xh H) = out + mon by_ 0 * hesV H (i + 1) k) :
  dn (k + 1) (xh H) = (out - dn i (xh H) * mon (by_ * H (i + 1) i * H i k) 0) + mon (by_ * H (i + 1) i) 0 * hesV H i k := by
 rw [h]
 show out + mon by_ 0 * (mon (H (i + 1) i) 0 * hesU (xh H) i k) = _
 rw [hesU_V hH (by omega)]
 have e : xh H i k = -mon (H i k) 0 := by unfold xh; rw [if_neg (by omega), zero_sub]
 have e2 : mon (by_ * H (i + 1) i) 0 = mon by_ 0 * mon (H (i + 1) i) 0 := (mon_mul _ _ 0 0).symm
 have e3 : mon (by_ * H (i + 1) i * H i k) 0 = mon by_ 0 * mon (H (i + 1) i) 0 * mon (H i k) 0 := by rw [← e2, mon_mul]
 rw [e, e2, e3]
 exact by_ring [out, mon by_ 0, mon (H (i + 1) i) 0, mon (H i k) 0, dn i (xh H), hesV H i k] (X0 + X1 * (X2 * (-X3 * X4 + X5))) (X0 - X4 * (X1 * X2 * X3) + X1 * X2 * X5) rfl
theorem hesV_start {H : Nat → Nat → R} (hH : Hes n H) {k : Nat} (hk : k < n) : dn (k + 1) (xh H) = (mon 1 1 - mon (H k k) 0) * dn k (xh H) + mon 1 0 * hesV H k k := by
 rw [dn_hesU, hesU_V hH hk, show (mon 1 0 : Pol R) = 1 from rfl, one_mul]
 unfold xh; rw [if_pos rfl]
theorem hesV_end {H : Nat → Nat → R} {k : Nat} {out : Pol R} {by_ : R} (h : dn (k + 1) (xh H) = out + mon by_ 0 * hesV H 0 k) : dn (k + 1) (xh H) = out := by
 rw [h]; show out + mon by_ 0 * 0 = out; rw [mul_zero, add_zero]
end
end Go.Proofs.Ytkmfhabgempjiaa
/- hess.work: rows and columns change places. -/
namespace Go.Proofs.Ytkmfhabgempjiaa
set_option maxHeartbeats 4000000
open Go.RowKit
section
variable {α : Type} {V : World → Value → α → Prop} {e er : TypeId} {w : World} {base n N : Nat} {rv : Value} {vs : List Value} {W : Nat → Nat → α}
end
section
variable {p : Nat} {w : World} {base gW n : Nat} {H P H' P' : Nat → Nat → Zp p} {hs ps : List Value} {gh ch gp cp : Nat}
end
theorem cell_set_some {w : World} {p q : Addr} {x v : Value} (h : w.cell? q = some v) : ∃ v', (w.setCell p x).cell? q = some v' := by
 by_cases e : p = q
 ·subst e; exact ⟨x, World.cell?_setCell_same _ _ _ h⟩
 ·exact ⟨v, (World.cell?_setCell_other _ _ _ _ e).trans h⟩
def HkTo (p : Nat) (w : World) (base gW n : Nat) (H' P' : Nat → Nat → Zp p) (hv pv : Value) (w' : World) : Prop := ∃ hs' ps', Hk p w' base gW n H' P' hv pv hs' ps' ∧ Below base w w'
def HkPost (p : Nat) (w : World) (base gW n : Nat) (H' P' : Nat → Nat → Zp p) (hv pv : Value) (e : Ending) (w' : World) : Prop := e = .returned (.tuple #[]) ∧ HkTo p w base gW n H' P' hv pv w'
set_option maxRecDepth 20000 in
theorem hs_swap (p : Nat) (w : World) (base gW n : Nat) (H P : Nat → Nat → Zp p) (hv pv : Value) (hs ps : List Value) (h : Hk p w base gW n H P hv pv hs ps)
  (i k : Nat) (hi : i < n) (hk : k < n) (hn : n ≤ 1000) (hbase : base ≤ w.heap.size) :
  Calls Try.prog 174 #[.pointer (some ⟨gW, 0, none⟩), .int .i64 i, .int .i64 k] w (HkPost p w base gW n (hsw H i k) (psw P i k) hv pv) := by
 obtain ⟨gh, ch, rfl, hgh, hghl, hnch⟩ : ∃ g cap, hv = .slice (some ⟨g, 0, none⟩) n cap ∧ base ≤ g ∧ g < w.heap.size ∧ n ≤ cap := by
  rcases h.h.shape with ⟨_, h0⟩ | h0
  ·omega
  ·exact h0
 obtain ⟨gp, cp, rfl, hgp, hgpl, hncp⟩ : ∃ g cap, pv = .slice (some ⟨g, 0, none⟩) n cap ∧ base ≤ g ∧ g < w.heap.size ∧ n ≤ cap := by
  rcases h.p.shape with ⟨_, h0⟩ | h0
  ·omega
  ·exact h0
 obtain ⟨vi, hvi⟩ := h.h.hdr hi
 obtain ⟨vk, hvk⟩ := h.h.hdr hk
 obtain ⟨ui, hui⟩ := h.p.hdr hi
 obtain ⟨uk, huk⟩ := h.p.hdr hk
 obtain ⟨ai, ci, rfl, -⟩ := (h.h.row i vi hvi).slice
 obtain ⟨ak, ck, rfl, -⟩ := (h.h.row k vk hvk).slice
 obtain ⟨ai', ci', rfl, -⟩ := (h.p.row i ui hui).slice
 obtain ⟨ak', ck', rfl, -⟩ := (h.p.row k uk huk).slice
 go_enter Try.func174, Try.ntmps174
 go_upto_region 0 with (fail)
 have bd := dw w
 replace h := h.next bd
 have B0 := bd.mono hbase
 have hbw : base ≤ w.drew.heap.size := hbase
 have hghl : gh < w.drew.heap.size := hghl
 have hgpl : gp < w.drew.heap.size := hgpl
 clear bd
 have q1 := h.blk.cell 1
 have qi := h.h.head rfl hi; rw [hvi] at qi
 have qk := h.h.head rfl hk; rw [hvk] at qk
 have hl1 := h.blk.lt
 refine startD (S := (fun w' => Below (w.drew).heap.size (w.drew) w')) 25 (by kernel_rfl) (Below.refl _ _) (fun hHeld => ?_)
 generalize w.drew = wd at *
 refine takeDA 0 (v := ?_) rfl (by kernel_rfl) (by kernel_rfl) (by kernel_rfl) (fun _ _ _ h => h) (by decide) ⟨by rfl, ?_⟩ (by assumption) ?_
 rotate_left
 ·intro w; go_simp <;> with_reducible rfl
 simp only [Act.put, zq1, zq2, zq3]
 refine takeDA 1 (v := ?_) rfl (by kernel_rfl) (by kernel_rfl) (by kernel_rfl) (fun _ _ _ h => h) (by decide) ⟨by rfl, ?_⟩ (by assumption) ?_
 rotate_left
 ·intro w; go_simp <;> with_reducible rfl
 simp only [Act.put, zq1, zq2, zq3]
 refine takeDA 2 (v := ?_) rfl (by kernel_rfl) (by kernel_rfl) (by kernel_rfl) (fun _ _ _ h => h) (by decide) ⟨by rfl, ?_⟩ (by assumption) ?_
 rotate_left
 ·intro w; go_simp <;> with_reducible rfl
 simp only [Act.put, zq1, zq2, zq3]
 refine takeD0 3 (v := ?_) rfl (by kernel_rfl) (by kernel_rfl) (by kernel_rfl) (fun _ _ _ h => h) (by decide) (by kernel_rfl) (by kernel_rfl) ⟨by rfl, ?_⟩ (by assumption) ?_
 rotate_left
 ·intro w hS; have f1 := (hS.cell (p := ⟨gW, 1, none⟩) hl1).trans q1; have f2 := (hS.cell (p := ⟨gh, i, none⟩) hghl).trans qi; have f3 := (hS.cell (p := ⟨gh, k, none⟩) hghl).trans qk; go_simp <;> with_reducible rfl
 simp only [Act.put, zq1, zq2, zq3]
 refine takeDA 4 (v := ?_) rfl (by kernel_rfl) (by kernel_rfl) (by kernel_rfl) (fun _ _ _ h => h) (by decide) ⟨by rfl, ?_⟩ (by assumption) ?_
 rotate_left
 ·intro w; go_simp <;> with_reducible rfl
 simp only [Act.put, zq1, zq2, zq3]
 refine takeDA 5 (v := ?_) rfl (by kernel_rfl) (by kernel_rfl) (by kernel_rfl) (fun _ _ _ h => h) (by decide) ⟨by rfl, ?_⟩ (by assumption) ?_
 rotate_left
 ·intro w; go_simp <;> with_reducible rfl
 simp only [Act.put, zq1, zq2, zq3]
 refine takeDA 6 (v := ?_) rfl (by kernel_rfl) (by kernel_rfl) (by kernel_rfl) (fun _ _ _ h => h) (by decide) ⟨by rfl, ?_⟩ (by assumption) ?_
 rotate_left
 ·intro w; go_simp <;> with_reducible rfl
 simp only [Act.put, zq1, zq2, zq3]
 refine takeDA 7 (v := ?_) rfl (by kernel_rfl) (by kernel_rfl) (by kernel_rfl) (fun _ _ _ h => h) (by decide) ⟨by rfl, ?_⟩ (by assumption) ?_
 rotate_left
 ·intro w; go_simp <;> with_reducible rfl
 simp only [Act.put, zq1, zq2, zq3]
 refine takeD0 8 (v := ?_) rfl (by kernel_rfl) (by kernel_rfl) (by kernel_rfl) (fun _ _ _ h => h) (by decide) (by kernel_rfl) (by kernel_rfl) ⟨by rfl, ?_⟩ (by assumption) ?_
 rotate_left
 ·intro w hS; have f1 := (hS.cell (p := ⟨gW, 1, none⟩) hl1).trans q1; have f2 := (hS.cell (p := ⟨gh, i, none⟩) hghl).trans qi; have f3 := (hS.cell (p := ⟨gh, k, none⟩) hghl).trans qk; go_simp <;> with_reducible rfl
 simp only [Act.put, zq1, zq2, zq3]
 refine takeDA 9 (v := ?_) rfl (by kernel_rfl) (by kernel_rfl) (by kernel_rfl) (fun _ _ _ h => h) (by decide) ⟨by rfl, ?_⟩ (by assumption) ?_
 rotate_left
 ·intro w; go_simp <;> with_reducible rfl
 simp only [Act.put, zq1, zq2, zq3]
 refine takeDA 10 (v := ?_) rfl (by kernel_rfl) (by kernel_rfl) (by kernel_rfl) (fun _ _ _ h => h) (by decide) ⟨by rfl, ?_⟩ (by assumption) ?_
 rotate_left
 ·intro w; go_simp <;> with_reducible rfl
 simp only [Act.put, zq1, zq2, zq3]
 refine takeDA 11 (v := ?_) rfl (by kernel_rfl) (by kernel_rfl) (by kernel_rfl) (fun _ _ _ h => h) (by decide) ⟨by rfl, ?_⟩ (by assumption) ?_
 rotate_left
 ·intro w; go_simp <;> with_reducible rfl
 simp only [Act.put, zq1, zq2, zq3]
 refine takeDA 12 (v := ?_) rfl (by kernel_rfl) (by kernel_rfl) (by kernel_rfl) (fun _ _ _ h => h) (by decide) ⟨by rfl, ?_⟩ (by assumption) ?_
 rotate_left
 ·intro w; go_simp <;> with_reducible rfl
 simp only [Act.put, zq1, zq2, zq3]
 refine takeD0 13 (v := ?_) rfl (by kernel_rfl) (by kernel_rfl) (by kernel_rfl) (fun _ _ _ h => h) (by decide) (by kernel_rfl) (by kernel_rfl) ⟨by rfl, ?_⟩ (by assumption) ?_
 rotate_left
 ·intro w hS; have f1 := (hS.cell (p := ⟨gW, 1, none⟩) hl1).trans q1; have f2 := (hS.cell (p := ⟨gh, i, none⟩) hghl).trans qi; have f3 := (hS.cell (p := ⟨gh, k, none⟩) hghl).trans qk; go_simp <;> with_reducible rfl
 simp only [Act.put, zq1, zq2, zq3]
 refine takeDA 14 (v := ?_) rfl (by kernel_rfl) (by kernel_rfl) (by kernel_rfl) (fun _ _ _ h => h) (by decide) ⟨by rfl, ?_⟩ (by assumption) ?_
 rotate_left
 ·intro w; go_simp <;> with_reducible rfl
 simp only [Act.put, zq1, zq2, zq3]
 refine takeDA 15 (v := ?_) rfl (by kernel_rfl) (by kernel_rfl) (by kernel_rfl) (fun _ _ _ h => h) (by decide) ⟨by rfl, ?_⟩ (by assumption) ?_
 rotate_left
 ·intro w; go_simp <;> with_reducible rfl
 simp only [Act.put, zq1, zq2, zq3]
 refine takeD0 16 (v := ?_) rfl (by kernel_rfl) (by kernel_rfl) (by kernel_rfl) (fun _ _ _ h => h) (by decide) (by kernel_rfl) (by kernel_rfl) ⟨by rfl, ?_⟩ (by assumption) ?_
 rotate_left
 ·intro w hS; have f1 := (hS.cell (p := ⟨gW, 1, none⟩) hl1).trans q1; have f2 := (hS.cell (p := ⟨gh, i, none⟩) hghl).trans qi; have f3 := (hS.cell (p := ⟨gh, k, none⟩) hghl).trans qk; go_simp <;> with_reducible rfl
 simp only [Act.put, zq1, zq2, zq3]
 refine takeDA 17 (v := ?_) rfl (by kernel_rfl) (by kernel_rfl) (by kernel_rfl) (fun _ _ _ h => h) (by decide) ⟨by rfl, ?_⟩ (by assumption) ?_
 rotate_left
 ·intro w; go_simp <;> with_reducible rfl
 simp only [Act.put, zq1, zq2, zq3]
 refine takeDA 18 (v := ?_) rfl (by kernel_rfl) (by kernel_rfl) (by kernel_rfl) (fun _ _ _ h => h) (by decide) ⟨by rfl, ?_⟩ (by assumption) ?_
 rotate_left
 ·intro w; go_simp <;> with_reducible rfl
 simp only [Act.put, zq1, zq2, zq3]
 refine takeDA 19 (v := ?_) rfl (by kernel_rfl) (by kernel_rfl) (by kernel_rfl) (fun _ _ _ h => h) (by decide) ⟨by rfl, ?_⟩ (by assumption) ?_
 rotate_left
 ·intro w; go_simp <;> with_reducible rfl
 simp only [Act.put, zq1, zq2, zq3]
 refine takeD0 20 (v := ?_) rfl (by kernel_rfl) (by kernel_rfl) (by kernel_rfl) (fun _ _ _ h => h) (by decide) (by kernel_rfl) (by kernel_rfl) ⟨by rfl, ?_⟩ (by assumption) ?_
 rotate_left
 ·intro w hS; have f1 := (hS.cell (p := ⟨gW, 1, none⟩) hl1).trans q1; have f2 := (hS.cell (p := ⟨gh, i, none⟩) hghl).trans qi; have f3 := (hS.cell (p := ⟨gh, k, none⟩) hghl).trans qk; go_simp <;> with_reducible rfl
 simp only [Act.put, zq1, zq2, zq3]
 refine takeDA 21 (v := ?_) rfl (by kernel_rfl) (by kernel_rfl) (by kernel_rfl) (fun _ _ _ h => h) (by decide) ⟨by rfl, ?_⟩ (by assumption) ?_
 rotate_left
 ·intro w; go_simp <;> with_reducible rfl
 simp only [Act.put, zq1, zq2, zq3]
 refine takeDA 22 (v := ?_) rfl (by kernel_rfl) (by kernel_rfl) (by kernel_rfl) (fun _ _ _ h => h) (by decide) ⟨by rfl, ?_⟩ (by assumption) ?_
 rotate_left
 ·intro w; go_simp <;> with_reducible rfl
 simp only [Act.put, zq1, zq2, zq3]
 refine takeD0 23 (v := ?_) rfl (by kernel_rfl) (by kernel_rfl) (by kernel_rfl) (fun _ _ _ h => h) (by decide) (by kernel_rfl) (by kernel_rfl) ⟨by rfl, ?_⟩ (by assumption) ?_
 rotate_left
 ·intro w hS; have f1 := (hS.cell (p := ⟨gW, 1, none⟩) hl1).trans q1; have f2 := (hS.cell (p := ⟨gh, i, none⟩) hghl).trans qi; have f3 := (hS.cell (p := ⟨gh, k, none⟩) hghl).trans qk; go_simp <;> with_reducible rfl
 simp only [Act.put, zq1, zq2, zq3]
 refine takeDA 24 (v := ?_) rfl (by kernel_rfl) (by kernel_rfl) (by kernel_rfl) (fun _ _ _ h => h) (by decide) ⟨by rfl, ?_⟩ (by assumption) ?_
 rotate_left
 ·intro w; go_simp <;> with_reducible rfl
 simp only [Act.put, zq1, zq2, zq3]
 have fz1 := h.h.headfree rfl i
 have fz2 := h.h.headfree rfl k
 obtain ⟨zz, qz⟩ := cell_set_some (p := ⟨gh, i, none⟩) (x := .slice ak n ck) qk
 refine oneM rfl (by kernel_rfl) (of_decide_eq_true (by kernel_rfl)) (by rfl) (fun K hK => ?_)
 go_simp
 refine hK.out _ _ ?_
 clear hK K
 try simp only [Act.put, zq1, zq2, zq3]
 clear fz1
 refine takeL 26 (v := ?_) rfl (by kernel_rfl) (by kernel_rfl) (by kernel_rfl) (fun _ _ _ h => h) ⟨by rfl, ?_⟩ trivial ?_
 rotate_left
 ·intro w _; go_simp <;> with_reducible rfl
 simp only [Act.put, zq1, zq2, zq3]
 refine on 27 fun K hK => ?_
 go_simp
 refine hK.out _ _ trivial (fun _ => ?_)
 clear hK K
 try simp only [Act.put, zq1, zq2, zq3]
 refine doneL (by kernel_rfl) ?_ _
 have B1 := (B0.setCell (p := ⟨gh, i, none⟩) hgh (.slice ak n ck)).setCell (p := ⟨gh, k, none⟩) hgh (.slice ai n ci)
 replace h := h.swapH hvi hvk
 generalize hw1 : (wd.setCell ⟨gh, i, none⟩ (.slice ak n ck)).setCell ⟨gh, k, none⟩ (.slice ai n ci) = w1 at *
 have hbw1 : base ≤ w1.heap.size := by rw [← hw1]; simpa using hbw
 have hgp1 : gp < w1.heap.size := by rw [← hw1]; simpa using hgpl
 clear q1 qi qk hl1 qz hw1 fz2 hHeld B0 hbw hgpl hghl
 go_upto_region 1 with (fail)
 have bd := dw w1
 replace h := h.next bd
 have B2 := B1.trans (bd.mono hbw1)
 have hbw2 : base ≤ w1.drew.heap.size := hbw1
 have hgp2 : gp < w1.drew.heap.size := hgp1
 clear bd B1
 have q1 := h.blk.cell 2
 have qi := h.p.head rfl hi; rw [hui] at qi
 have qk := h.p.head rfl hk; rw [huk] at qk
 have hl1 := h.blk.lt
 refine startD (S := (fun w' => Below (w1.drew).heap.size (w1.drew) w')) 25 (by kernel_rfl) (Below.refl _ _) (fun hHeld => ?_)
 generalize w1.drew = we at *
 refine takeDA 0 (v := ?_) rfl (by kernel_rfl) (by kernel_rfl) (by kernel_rfl) (fun _ _ _ h => h) (by decide) ⟨by rfl, ?_⟩ (by assumption) ?_
 rotate_left
 ·intro w; go_simp <;> with_reducible rfl
 simp only [Act.put, zq1, zq2, zq3]
 refine takeDA 1 (v := ?_) rfl (by kernel_rfl) (by kernel_rfl) (by kernel_rfl) (fun _ _ _ h => h) (by decide) ⟨by rfl, ?_⟩ (by assumption) ?_
 rotate_left
 ·intro w; go_simp <;> with_reducible rfl
 simp only [Act.put, zq1, zq2, zq3]
 refine takeDA 2 (v := ?_) rfl (by kernel_rfl) (by kernel_rfl) (by kernel_rfl) (fun _ _ _ h => h) (by decide) ⟨by rfl, ?_⟩ (by assumption) ?_
 rotate_left
 ·intro w; go_simp <;> with_reducible rfl
 simp only [Act.put, zq1, zq2, zq3]
 refine takeD0 3 (v := ?_) rfl (by kernel_rfl) (by kernel_rfl) (by kernel_rfl) (fun _ _ _ h => h) (by decide) (by kernel_rfl) (by kernel_rfl) ⟨by rfl, ?_⟩ (by assumption) ?_
 rotate_left
 ·intro w hS; have f1 := (hS.cell (p := ⟨gW, 2, none⟩) hl1).trans q1; have f2 := (hS.cell (p := ⟨gp, i, none⟩) hgp2).trans qi; have f3 := (hS.cell (p := ⟨gp, k, none⟩) hgp2).trans qk; go_simp <;> with_reducible rfl
 simp only [Act.put, zq1, zq2, zq3]
 refine takeDA 4 (v := ?_) rfl (by kernel_rfl) (by kernel_rfl) (by kernel_rfl) (fun _ _ _ h => h) (by decide) ⟨by rfl, ?_⟩ (by assumption) ?_
 rotate_left
 ·intro w; go_simp <;> with_reducible rfl
 simp only [Act.put, zq1, zq2, zq3]
 refine takeDA 5 (v := ?_) rfl (by kernel_rfl) (by kernel_rfl) (by kernel_rfl) (fun _ _ _ h => h) (by decide) ⟨by rfl, ?_⟩ (by assumption) ?_
 rotate_left
 ·intro w; go_simp <;> with_reducible rfl
 simp only [Act.put, zq1, zq2, zq3]
 refine takeDA 6 (v := ?_) rfl (by kernel_rfl) (by kernel_rfl) (by kernel_rfl) (fun _ _ _ h => h) (by decide) ⟨by rfl, ?_⟩ (by assumption) ?_
 rotate_left
 ·intro w; go_simp <;> with_reducible rfl
 simp only [Act.put, zq1, zq2, zq3]
 refine takeDA 7 (v := ?_) rfl (by kernel_rfl) (by kernel_rfl) (by kernel_rfl) (fun _ _ _ h => h) (by decide) ⟨by rfl, ?_⟩ (by assumption) ?_
 rotate_left
 ·intro w; go_simp <;> with_reducible rfl
 simp only [Act.put, zq1, zq2, zq3]
 refine takeD0 8 (v := ?_) rfl (by kernel_rfl) (by kernel_rfl) (by kernel_rfl) (fun _ _ _ h => h) (by decide) (by kernel_rfl) (by kernel_rfl) ⟨by rfl, ?_⟩ (by assumption) ?_
 rotate_left
 ·intro w hS; have f1 := (hS.cell (p := ⟨gW, 2, none⟩) hl1).trans q1; have f2 := (hS.cell (p := ⟨gp, i, none⟩) hgp2).trans qi; have f3 := (hS.cell (p := ⟨gp, k, none⟩) hgp2).trans qk; go_simp <;> with_reducible rfl
 simp only [Act.put, zq1, zq2, zq3]
 refine takeDA 9 (v := ?_) rfl (by kernel_rfl) (by kernel_rfl) (by kernel_rfl) (fun _ _ _ h => h) (by decide) ⟨by rfl, ?_⟩ (by assumption) ?_
 rotate_left
 ·intro w; go_simp <;> with_reducible rfl
 simp only [Act.put, zq1, zq2, zq3]
 refine takeDA 10 (v := ?_) rfl (by kernel_rfl) (by kernel_rfl) (by kernel_rfl) (fun _ _ _ h => h) (by decide) ⟨by rfl, ?_⟩ (by assumption) ?_
 rotate_left
 ·intro w; go_simp <;> with_reducible rfl
 simp only [Act.put, zq1, zq2, zq3]
 refine takeDA 11 (v := ?_) rfl (by kernel_rfl) (by kernel_rfl) (by kernel_rfl) (fun _ _ _ h => h) (by decide) ⟨by rfl, ?_⟩ (by assumption) ?_
 rotate_left
 ·intro w; go_simp <;> with_reducible rfl
 simp only [Act.put, zq1, zq2, zq3]
 refine takeDA 12 (v := ?_) rfl (by kernel_rfl) (by kernel_rfl) (by kernel_rfl) (fun _ _ _ h => h) (by decide) ⟨by rfl, ?_⟩ (by assumption) ?_
 rotate_left
 ·intro w; go_simp <;> with_reducible rfl
 simp only [Act.put, zq1, zq2, zq3]
 refine takeD0 13 (v := ?_) rfl (by kernel_rfl) (by kernel_rfl) (by kernel_rfl) (fun _ _ _ h => h) (by decide) (by kernel_rfl) (by kernel_rfl) ⟨by rfl, ?_⟩ (by assumption) ?_
 rotate_left
 ·intro w hS; have f1 := (hS.cell (p := ⟨gW, 2, none⟩) hl1).trans q1; have f2 := (hS.cell (p := ⟨gp, i, none⟩) hgp2).trans qi; have f3 := (hS.cell (p := ⟨gp, k, none⟩) hgp2).trans qk; go_simp <;> with_reducible rfl
 simp only [Act.put, zq1, zq2, zq3]
 refine takeDA 14 (v := ?_) rfl (by kernel_rfl) (by kernel_rfl) (by kernel_rfl) (fun _ _ _ h => h) (by decide) ⟨by rfl, ?_⟩ (by assumption) ?_
 rotate_left
 ·intro w; go_simp <;> with_reducible rfl
 simp only [Act.put, zq1, zq2, zq3]
 refine takeDA 15 (v := ?_) rfl (by kernel_rfl) (by kernel_rfl) (by kernel_rfl) (fun _ _ _ h => h) (by decide) ⟨by rfl, ?_⟩ (by assumption) ?_
 rotate_left
 ·intro w; go_simp <;> with_reducible rfl
 simp only [Act.put, zq1, zq2, zq3]
 refine takeD0 16 (v := ?_) rfl (by kernel_rfl) (by kernel_rfl) (by kernel_rfl) (fun _ _ _ h => h) (by decide) (by kernel_rfl) (by kernel_rfl) ⟨by rfl, ?_⟩ (by assumption) ?_
 rotate_left
 ·intro w hS; have f1 := (hS.cell (p := ⟨gW, 2, none⟩) hl1).trans q1; have f2 := (hS.cell (p := ⟨gp, i, none⟩) hgp2).trans qi; have f3 := (hS.cell (p := ⟨gp, k, none⟩) hgp2).trans qk; go_simp <;> with_reducible rfl
 simp only [Act.put, zq1, zq2, zq3]
 refine takeDA 17 (v := ?_) rfl (by kernel_rfl) (by kernel_rfl) (by kernel_rfl) (fun _ _ _ h => h) (by decide) ⟨by rfl, ?_⟩ (by assumption) ?_
 rotate_left
 ·intro w; go_simp <;> with_reducible rfl
 simp only [Act.put, zq1, zq2, zq3]
 refine takeDA 18 (v := ?_) rfl (by kernel_rfl) (by kernel_rfl) (by kernel_rfl) (fun _ _ _ h => h) (by decide) ⟨by rfl, ?_⟩ (by assumption) ?_
 rotate_left
 ·intro w; go_simp <;> with_reducible rfl
 simp only [Act.put, zq1, zq2, zq3]
 refine takeDA 19 (v := ?_) rfl (by kernel_rfl) (by kernel_rfl) (by kernel_rfl) (fun _ _ _ h => h) (by decide) ⟨by rfl, ?_⟩ (by assumption) ?_
 rotate_left
 ·intro w; go_simp <;> with_reducible rfl
 simp only [Act.put, zq1, zq2, zq3]
 refine takeD0 20 (v := ?_) rfl (by kernel_rfl) (by kernel_rfl) (by kernel_rfl) (fun _ _ _ h => h) (by decide) (by kernel_rfl) (by kernel_rfl) ⟨by rfl, ?_⟩ (by assumption) ?_
 rotate_left
 ·intro w hS; have f1 := (hS.cell (p := ⟨gW, 2, none⟩) hl1).trans q1; have f2 := (hS.cell (p := ⟨gp, i, none⟩) hgp2).trans qi; have f3 := (hS.cell (p := ⟨gp, k, none⟩) hgp2).trans qk; go_simp <;> with_reducible rfl
 simp only [Act.put, zq1, zq2, zq3]
 refine takeDA 21 (v := ?_) rfl (by kernel_rfl) (by kernel_rfl) (by kernel_rfl) (fun _ _ _ h => h) (by decide) ⟨by rfl, ?_⟩ (by assumption) ?_
 rotate_left
 ·intro w; go_simp <;> with_reducible rfl
 simp only [Act.put, zq1, zq2, zq3]
 refine takeDA 22 (v := ?_) rfl (by kernel_rfl) (by kernel_rfl) (by kernel_rfl) (fun _ _ _ h => h) (by decide) ⟨by rfl, ?_⟩ (by assumption) ?_
 rotate_left
 ·intro w; go_simp <;> with_reducible rfl
 simp only [Act.put, zq1, zq2, zq3]
 refine takeD0 23 (v := ?_) rfl (by kernel_rfl) (by kernel_rfl) (by kernel_rfl) (fun _ _ _ h => h) (by decide) (by kernel_rfl) (by kernel_rfl) ⟨by rfl, ?_⟩ (by assumption) ?_
 rotate_left
 ·intro w hS; have f1 := (hS.cell (p := ⟨gW, 2, none⟩) hl1).trans q1; have f2 := (hS.cell (p := ⟨gp, i, none⟩) hgp2).trans qi; have f3 := (hS.cell (p := ⟨gp, k, none⟩) hgp2).trans qk; go_simp <;> with_reducible rfl
 simp only [Act.put, zq1, zq2, zq3]
 refine takeDA 24 (v := ?_) rfl (by kernel_rfl) (by kernel_rfl) (by kernel_rfl) (fun _ _ _ h => h) (by decide) ⟨by rfl, ?_⟩ (by assumption) ?_
 rotate_left
 ·intro w; go_simp <;> with_reducible rfl
 simp only [Act.put, zq1, zq2, zq3]
 have fz1 := h.p.headfree rfl i
 have fz2 := h.p.headfree rfl k
 obtain ⟨zz, qz⟩ := cell_set_some (p := ⟨gp, i, none⟩) (x := .slice ak' n ck') qk
 refine oneM rfl (by kernel_rfl) (of_decide_eq_true (by kernel_rfl)) (by rfl) (fun K hK => ?_)
 go_simp
 refine hK.out _ _ ?_
 clear hK K
 try simp only [Act.put, zq1, zq2, zq3]
 clear fz1
 refine takeL 26 (v := ?_) rfl (by kernel_rfl) (by kernel_rfl) (by kernel_rfl) (fun _ _ _ h => h) ⟨by rfl, ?_⟩ trivial ?_
 rotate_left
 ·intro w _; go_simp <;> with_reducible rfl
 simp only [Act.put, zq1, zq2, zq3]
 refine on 27 fun K hK => ?_
 go_simp
 refine hK.out _ _ trivial (fun _ => ?_)
 clear hK K
 try simp only [Act.put, zq1, zq2, zq3]
 refine doneL (by kernel_rfl) ?_ _
 have B3 := (B2.setCell (p := ⟨gp, i, none⟩) hgp (.slice ak' n ck')).setCell (p := ⟨gp, k, none⟩) hgp (.slice ai' n ci')
 replace h := h.swapP hui huk
 generalize hw2 : (we.setCell ⟨gp, i, none⟩ (.slice ak' n ck')).setCell ⟨gp, k, none⟩ (.slice ai' n ci') = w2 at *
 have hbw3 : base ≤ w2.heap.size := by rw [← hw2]; simpa using hbw2
 clear q1 qi qk hl1 qz hw2 fz2 hHeld hvi hvk hui huk hgp1 hgp2 B2
 have q1 := h.blk.cell 1
 generalize ehs : (hs.set i (.slice ak n ck)).set k (.slice ai n ci) = hs1 at *
 generalize eps : (ps.set i (.slice ak' n ck')).set k (.slice ai' n ci') = ps1 at *
 clear ehs eps
 obtain ⟨S, eS⟩ : ∃ S, S = swpA H i k := ⟨_, rfl⟩
 rw [← eS] at h
 have HS := Lib.hid eS; clear eS
 have st : HkTo p w base gW n (fun a b => if a < 0 then S a (tsp i k b) else S a b) (swpA P i k) (.slice (some ⟨gh, 0, none⟩) n ch) (.slice (some ⟨gp, 0, none⟩) n cp) w2 := ⟨_, _, h.congr (fun a b _ _ => by rw [if_neg (by omega)]) (fun _ _ _ _ => rfl), B3⟩
 clear h B3
 go_wp2
 clear q1
 go_loopw [65] (fun rv wr => ∃ r : Nat, r ≤ n ∧ rv = .int .i64 r ∧ HkTo p w base gW n (fun a b => if a < r then S a (tsp i k b) else S a b) (swpA P i k) (.slice (some ⟨gh, 0, none⟩) n ch) (.slice (some ⟨gp, 0, none⟩) n cp) wr) (fun rv _ => n - (intOf rv).toNat)
 case atStart => exact ⟨0, by omega, rfl, st⟩
 case round =>
  clear st hbw3
  obtain ⟨r, hr, rfl, hs2, ps2, h, B0⟩ := hrel
  by_cases hrn : r < n
  ·obtain ⟨v, hv⟩ := h.h.hdr hrn
   have qr := h.h.head rfl hrn; rw [hv] at qr
   obtain ⟨ao, cr, rfl, hcr⟩ := (h.h.row r v hv).slice
   obtain ⟨b, o, rfl⟩ := h.h.ao hv (by omega)
   have hbw : base ≤ wr.heap.size := Nat.le_trans hbase B0.size
   go_upto_region 5 with (fail)
   have bd := dw wr
   replace h := h.next bd
   replace B0 := B0.trans (bd.mono hbw)
   clear bd
   obtain ⟨⟨x, q1, hx⟩, f1, b1, s1⟩ := h.h.at hv hi
   obtain ⟨⟨y, q2, hy⟩, f2, b2, s2⟩ := h.h.at hv hk
   have hx : x = .int .u64 ((S r i).val : Nat) := by rw [hx, if_neg (by omega)]
   have hy : y = .int .u64 ((S r k).val : Nat) := by rw [hy, if_neg (by omega)]
   subst hx hy
   refine startD (S := (fun w' => Below (wr.drew).heap.size (wr.drew) w')) 13 (by kernel_rfl) (Below.refl _ _) (fun hHeld => ?_)
   generalize wr.drew = wd at *
   refine takeDA 0 (v := ?_) rfl (by kernel_rfl) (by kernel_rfl) (by kernel_rfl) (fun _ _ _ h => h) (by decide) ⟨by rfl, ?_⟩ (by assumption) ?_
   rotate_left
   ·intro w; go_simp <;> with_reducible rfl
   simp only [Act.put, zq1, zq2, zq3]
   refine takeDA 1 (v := ?_) rfl (by kernel_rfl) (by kernel_rfl) (by kernel_rfl) (fun _ _ _ h => h) (by decide) ⟨by rfl, ?_⟩ (by assumption) ?_
   rotate_left
   ·intro w; go_simp <;> with_reducible rfl
   simp only [Act.put, zq1, zq2, zq3]
   refine takeDA 2 (v := ?_) rfl (by kernel_rfl) (by kernel_rfl) (by kernel_rfl) (fun _ _ _ h => h) (by decide) ⟨by rfl, ?_⟩ (by assumption) ?_
   rotate_left
   ·intro w; go_simp <;> with_reducible rfl
   simp only [Act.put, zq1, zq2, zq3]
   refine takeDA 3 (v := ?_) rfl (by kernel_rfl) (by kernel_rfl) (by kernel_rfl) (fun _ _ _ h => h) (by decide) ⟨by rfl, ?_⟩ (by assumption) ?_
   rotate_left
   ·intro w; go_simp <;> with_reducible rfl
   simp only [Act.put, zq1, zq2, zq3]
   refine takeDA 4 (v := ?_) rfl (by kernel_rfl) (by kernel_rfl) (by kernel_rfl) (fun _ _ _ h => h) (by decide) ⟨by rfl, ?_⟩ (by assumption) ?_
   rotate_left
   ·intro w; go_simp <;> with_reducible rfl
   simp only [Act.put, zq1, zq2, zq3]
   refine takeDA 5 (v := ?_) rfl (by kernel_rfl) (by kernel_rfl) (by kernel_rfl) (fun _ _ _ h => h) (by decide) ⟨by rfl, ?_⟩ (by assumption) ?_
   rotate_left
   ·intro w; go_simp <;> with_reducible rfl
   simp only [Act.put, zq1, zq2, zq3]
   refine takeDA 6 (v := ?_) rfl (by kernel_rfl) (by kernel_rfl) (by kernel_rfl) (fun _ _ _ h => h) (by decide) ⟨by rfl, ?_⟩ (by assumption) ?_
   rotate_left
   ·intro w; go_simp <;> with_reducible rfl
   simp only [Act.put, zq1, zq2, zq3]
   refine takeD0 7 (v := ?_) rfl (by kernel_rfl) (by kernel_rfl) (by kernel_rfl) (fun _ _ _ h => h) (by decide) (by kernel_rfl) (by kernel_rfl) ⟨by rfl, ?_⟩ (by assumption) ?_
   rotate_left
   ·intro w hS; have f3 := (hS.cell (p := ⟨b, o + i, none⟩) s1).trans q1; have f4 := (hS.cell (p := ⟨b, o + k, none⟩) s2).trans q2; go_simp <;> with_reducible rfl
   simp only [Act.put, zq1, zq2, zq3]
   refine takeDA 8 (v := ?_) rfl (by kernel_rfl) (by kernel_rfl) (by kernel_rfl) (fun _ _ _ h => h) (by decide) ⟨by rfl, ?_⟩ (by assumption) ?_
   rotate_left
   ·intro w; go_simp <;> with_reducible rfl
   simp only [Act.put, zq1, zq2, zq3]
   refine takeDA 9 (v := ?_) rfl (by kernel_rfl) (by kernel_rfl) (by kernel_rfl) (fun _ _ _ h => h) (by decide) ⟨by rfl, ?_⟩ (by assumption) ?_
   rotate_left
   ·intro w; go_simp <;> with_reducible rfl
   simp only [Act.put, zq1, zq2, zq3]
   refine takeDA 10 (v := ?_) rfl (by kernel_rfl) (by kernel_rfl) (by kernel_rfl) (fun _ _ _ h => h) (by decide) ⟨by rfl, ?_⟩ (by assumption) ?_
   rotate_left
   ·intro w; go_simp <;> with_reducible rfl
   simp only [Act.put, zq1, zq2, zq3]
   refine takeD0 11 (v := ?_) rfl (by kernel_rfl) (by kernel_rfl) (by kernel_rfl) (fun _ _ _ h => h) (by decide) (by kernel_rfl) (by kernel_rfl) ⟨by rfl, ?_⟩ (by assumption) ?_
   rotate_left
   ·intro w hS; have f3 := (hS.cell (p := ⟨b, o + i, none⟩) s1).trans q1; have f4 := (hS.cell (p := ⟨b, o + k, none⟩) s2).trans q2; go_simp <;> with_reducible rfl
   simp only [Act.put, zq1, zq2, zq3]
   refine takeDA 12 (v := ?_) rfl (by kernel_rfl) (by kernel_rfl) (by kernel_rfl) (fun _ _ _ h => h) (by decide) ⟨by rfl, ?_⟩ (by assumption) ?_
   rotate_left
   ·intro w; go_simp <;> with_reducible rfl
   simp only [Act.put, zq1, zq2, zq3]
   have fz1 := f1
   have fz2 := f2
   obtain ⟨zz, qz⟩ := cell_set_some (p := ⟨b, o + i, none⟩) (x := .int .u64 ((S r k).val : Nat)) q2
   refine oneM rfl (by kernel_rfl) (of_decide_eq_true (by kernel_rfl)) (by rfl) (fun K hK => ?_)
   go_simp
   refine hK.out _ _ ?_
   clear hK K
   try simp only [Act.put, zq1, zq2, zq3]
   clear fz1
   refine takeL 14 (v := ?_) rfl (by kernel_rfl) (by kernel_rfl) (by kernel_rfl) (fun _ _ _ h => h) ⟨by rfl, ?_⟩ trivial ?_
   rotate_left
   ·intro w _; go_simp <;> with_reducible rfl
   simp only [Act.put, zq1, zq2, zq3]
   refine on 15 fun K hK => ?_
   go_simp
   refine hK.out _ _ trivial (fun _ => ?_)
   clear hK K
   try simp only [Act.put, zq1, zq2, zq3]
   refine doneL (by kernel_rfl) ?_ _
   have h1 := h.storeH hv hi (x := S r k) (z := ((S r k).val : Nat)) rfl
   have h2 := h1.storeH hv hk (x := S r i) (z := ((S r i).val : Nat)) rfl
   have B1 := (B0.setCell (p := ⟨b, o + i, none⟩) b1 (.int .u64 ((S r k).val : Nat))).setCell (p := ⟨b, o + k, none⟩) b1 (.int .u64 ((S r i).val : Nat))
   have st := Lib.hid (show HkTo p w base gW n (fun a b => if a < r + 1 then S a (tsp i k b) else S a b) (swpA P i k) (.slice (some ⟨gh, 0, none⟩) n ch) (.slice (some ⟨gp, 0, none⟩) n cp) ((wd.setCell ⟨b, o + i, none⟩ (.int .u64 ((S r k).val : Nat))).setCell ⟨b, o + k, none⟩ (.int .u64 ((S r i).val : Nat))) from
    ⟨_, _, h2.congr (fun a c _ _ => by
     unfold updE tsp; dsimp only
     by_cases h1 : a = r
     ·subst h1
      rw [if_pos (show a < a + 1 by omega), if_neg (show ¬ a < a by omega)]
      by_cases h3 : c = k
      ·subst h3
       rw [if_pos ⟨rfl, rfl⟩]
       split
       ·rename_i h4; rw [h4]
       ·rw [if_pos rfl]
      ·rw [if_neg (fun h => h3 h.2), if_neg h3]
       by_cases h4 : c = i
       ·rw [if_pos ⟨rfl, h4⟩, if_pos h4]
       ·rw [if_neg (fun h => h4 h.2), if_neg h4]
     ·rw [if_neg (fun h => h1 h.1), if_neg (fun h => h1 h.1)]
      by_cases h5 : a < r
      ·rw [if_pos h5, if_pos (show a < r + 1 by omega)]
      ·rw [if_neg h5, if_neg (show ¬ a < r + 1 by omega)]) (fun _ _ _ _ => rfl), B1⟩)
   clear h h1 h2 B0 B1 q1 q2 qz f1 f2 s1 s2 b1 b2 hHeld fz2 hv hbw
   go_wp2
   go_roundw
   case rel => exact ⟨r + 1, by omega, by go_num, st.out⟩
   case measure => simp [intOf] <;> omega
  ·obtain rfl : r = n := by omega
   go_wp2
   go_end0
   exact ⟨rfl, _, _, h.congr (fun a b ha _ => by
    show (if a < r then S a (tsp i k b) else S a b) = H (tsp i k a) (tsp i k b)
    rw [if_pos ha, HS.out]; unfold swpA
    show (if a = i then H k else if a = k then H i else H a) (tsp i k b) = H (if a = i then k else if a = k then i else a) (tsp i k b)
    split
    ·rfl
    ·split <;> rfl) (fun a b _ _ => by
    show (if a = i then P k else if a = k then P i else P a) b = P (if a = i then k else if a = k then i else a) b
    split
    ·rfl
    ·split <;> rfl), B0⟩
end Go.Proofs.Ytkmfhabgempjiaa
