/- xform: Smith. -/
import Derived.Test.YtkmfhabgempjiaaQlM10
import Derived.Test.YtkmfhabgempjiaaQlM13
namespace Go.Proofs.Ytkmfhabgempjiaa
set_option maxHeartbeats 4000000
open Go.RowKit
theorem boxes5 (w : World) (e1 e2 e3 e4 e5 : TypeId) (A B C D E : List Value) : ∃ wb, wb = ((((w.alloc (.cells A.toArray e1)).alloc (.cells B.toArray e2)).alloc (.cells C.toArray e3)).alloc (.cells D.toArray e4)).alloc (.cells E.toArray e5) ∧
  Blk e1 wb w.heap.size A ∧ Blk e2 wb (w.heap.size + 1) B ∧ Blk e3 wb (w.heap.size + 1 + 1) C ∧ Blk e4 wb (w.heap.size + 1 + 1 + 1) D ∧ Blk e5 wb (w.heap.size + 1 + 1 + 1 + 1) E ∧ Below w.heap.size w wb ∧ wb.heap.size = w.heap.size + 1 + 1 + 1 + 1 + 1 := by
 obtain ⟨w2, rfl, b1, b2, b3, b4, hb, hs⟩ := boxes4 w e1 e2 e3 e4 A B C D
 obtain ⟨w3, e, b5, hb3, hs3⟩ := boxes1 ((((w.alloc (.cells A.toArray e1)).alloc (.cells B.toArray e2)).alloc (.cells C.toArray e3)).alloc (.cells D.toArray e4)) e5 E
 rw [hs] at b5 hs3
 exact ⟨w3, e, b1.next hb3, b2.next hb3, b3.next hb3, b4.next hb3, b5, hb.trans (hb3.mono hb.size), hs3⟩
def RetX3 (p : Nat) (w : World) (r c L : Nat) (A B C : Nat → Pol (Zp p)) (e : Ending) (w' : World) : Prop :=
 ∃ ao k us ao' k' us' ao2 k2 us2, e = .returned (.tuple #[.agg #[.int .i64 r, .int .i64 c, .slice ao (r * c) k], .agg #[.int .i64 r, .int .i64 r, .slice ao' (r * r) k'], .agg #[.int .i64 c, .int .i64 c, .slice ao2 (c * c) k2], .int .i64 0]) ∧ Qls p w' w.heap.size (.slice ao (r * c) k) us (r * c) L A ∧ Qls p w' w.heap.size (.slice ao' (r * r) k') us' (r * r) L B ∧ Qls p w' w.heap.size (.slice ao2 (c * c) k2) us2 (c * c) L C ∧ Below w.heap.size w w'
def Pst {p : Nat} (r c s : Nat) (W : (Nat → Nat → Pol (Zp p))) : Prop := r ≤ s ∨ c ≤ s ∨ ∀ a b, s ≤ a + 1 → a < r → s ≤ b + 1 → b < c → W a b = 0
def RetSmP (p : Nat) (w : World) (r c L : Nat) (A : Nat → Nat → Pol (Zp p)) (Φ : Nat → (Nat → Nat → Pol (Zp p)) → (Nat → Nat → Pol (Zp p)) → (Nat → Nat → Pol (Zp p)) → Prop) (e : Ending) (w' : World) : Prop :=
 ∃ (t : Nat) (W U V : (Nat → Nat → Pol (Zp p))), (∃ s, Φ s W U V ∧ Pst r c s W) ∧ t ≤ r ∧ t ≤ c ∧ SmR (MT.of r c A) U W V ∧ SmI t r c W ∧ (∀ a b, t ≤ a → a < r → t ≤ b → b < c → W a b = 0) ∧ RetX3 p w r c L (fun j => W (j / c) (0 + j % c)) (fun j => U (j / r) (0 + j % r)) (fun j => V (j / c) (0 + j % c)) e w'
theorem SmR.start {R : Type} [CR R] {n m : Nat} (A : Nat → Nat → R) {I J W : Nat → Nat → R} (hI : ∀ i k, i < n → k < n → I i k = if i = k then 1 else 0) (hJ : ∀ i k, i < m → k < m → J i k = if i = k then 1 else 0) (hW : ∀ i k, i < n → k < m → W i k = A i k) : SmR (MT.of n m A) I W J := by
 have h1 : MT.of n n I = MT.one n := MT.ext fun i k hi hk => by rw [MT.of_e _ hi hk, MT.e_one hi hk, hI i k hi hk]
 have h2 : MT.of m m J = MT.one m := MT.ext fun i k hi hk => by rw [MT.of_e _ hi hk, MT.e_one hi hk, hJ i k hi hk]
 exact ⟨⟨_, by rw [h1]; exact Inv.one⟩, ⟨_, by rw [h2]; exact Inv.one⟩, by rw [h1, h2, MT.one_mul, MT.mul_one]; exact MT.of_congr fun i k hi hk => hW i k hi hk⟩
def SmS (p r c : Nat) (A : MT (Pol (Zp p)) r c) (Φ : Nat → (Nat → Nat → Pol (Zp p)) → (Nat → Nat → Pol (Zp p)) → (Nat → Nat → Pol (Zp p)) → Prop) : Prop :=
 ∀ t W U V, t < r → t < c → Φ t W U V → SmI t r c W → SmR A U W V → ∃ (B C O : Nat → (Nat → Nat → Pol (Zp p)) → (Nat → Nat → Pol (Zp p)) → (Nat → Nat → Pol (Zp p)) → Prop) (F : (Nat → Nat → Pol (Zp p)) → (Nat → Nat → Pol (Zp p)) → (Nat → Nat → Pol (Zp p)) → Prop) (b : Nat), Stp p r c t B C O F ∧ B b W U V ∧ ∀ W' U' V', F W' U' V' → Φ (t + 1) W' U' V'
set_option maxRecDepth 20000 in
theorem xf_SmithP (p : Nat) (a : Value) (r c L LF : Nat) (xs : List (List Nat)) (w : World) (hp : FP p) (ht : Trial p) (hA : Xm w a r c xs) (hr : r ≤ 64) (hc : c ≤ 64) (hx : xs.length = r * c) (hl : ∀ j, j < r * c → (xs.getD j []).length ≤ L) (hL : L ≤ 1000000000000)
  {Φ : Nat → (Nat → Nat → Pol (Zp p)) → (Nat → Nat → Pol (Zp p)) → (Nat → Nat → Pol (Zp p)) → Prop} (hΦ : SmS p r c (MT.of r c (aT p c xs)) Φ) (h0 : ∀ W U V, (∀ i k, i < r → k < c → W i k = aT p c xs i k) → (∀ i k, i < r → k < r → U i k = if i = k then 1 else 0) → (∀ i k, i < c → k < c → V i k = if i = k then 1 else 0) → Φ 0 W U V) (hF : ∀ t W U V, Φ t W U V → Bds r c LF LF LF W U V) :
  Calls Try.prog 19 #[.agg #[.int .u64 p], a] w (RetSmP p w r c LF (aT p c xs) Φ) := by
 have HFd := Lib.hid (Fd.of hr hc hx)
 obtain ⟨aA, cA, rfl⟩ := hA.agg
 obtain ⟨wb, ew, KF, KA, KD, KU, KV, B0, hsz⟩ := boxes5 w 29 24 24 24 24 [.int .u64 p] [.int .i64 r, .int .i64 c, .slice aA xs.length cA] [.int .i64 0, .int .i64 0, .slice none 0 0] [.int .i64 0, .int .i64 0, .slice none 0 0] [.int .i64 0, .int .i64 0, .slice none 0 0]
 clear hsz
 replace hA := hA.next B0
 have HP := Lib.hid hp; have HTR := Lib.hid ht; have HX := Lib.hid hx; have HLL := Lib.hid hl; have HPH := Lib.hid hΦ; have H0 := Lib.hid h0; have HF := Lib.hid hF; clear hp ht hx hl hΦ h0 hF
 obtain ⟨PQ, ePQ⟩ : ∃ PQ : Ending → World → Prop, PQ = RetSmP p w r c LF (aT p c xs) Φ := ⟨_, rfl⟩
 rw [← ePQ]
 have EPQ := Lib.hid ePQ; clear ePQ
 go_enter Try.func19, Try.ntmps19
 go_upto_region 1 with (fail)
 rw [← ew]
 obtain ⟨g, eg⟩ : ∃ g, g = w.heap.size := ⟨_, rfl⟩
 rw [← eg] at KF KA KD KU KV ⊢
 have EG := Lib.hid eg
 clear ew eg
 have a0 := KA.cell 0; have a1 := KA.cell 1; have a2 := KA.cell 2
 go_wp2_with fail
 refine (xm_Formed_yes _ r c xs _ hA HFd.out).mono ?_; rintro e w1 ⟨rfl, b1⟩
 clear a0 a1 a2
 replace KF := KF.next b1; replace KA := KA.next b1; replace KD := KD.next b1; replace KU := KU.next b1; replace KV := KV.next b1; replace hA := hA.next b1
 have B1 := B0.trans (b1.mono B0.size)
 have f0 := KF.cell 0; have a0 := KA.cell 0
 clear b1 B0
 go_wp2_with fail
 clear f0 a0
 refine (xm_Identity p 1 r _ HP.out hr (by omega) (by omega) (fun j => if j / r = j % r then 1 else 0) (fun i k hi hk => by
  show (if (i * r + k) / r = (i * r + k) % r then (1 : Pol (Zp p)) else 0) = _
  rw [Nat.mul_comm, Nat.mul_add_div (by omega), Nat.div_eq_of_lt hk, Nat.mul_add_mod, Nat.mod_eq_of_lt hk, Nat.add_zero])).mono ?_; rintro e w2 ⟨aI, kI, us, rfl, hQ, b2⟩
 obtain ⟨qs, hql, hqn, hqv⟩ := hQ.ns HP.out
 have hI : Xm w2 (.agg #[.int .i64 r, .int .i64 r, .slice aI (r * r) kI]) r r qs := ⟨_, rfl, hqn⟩
 have B2 := B1.trans (b2.mono B1.size)
 replace KF := KF.next b2; replace KA := KA.next b2; replace KD := KD.next b2; replace KU := KU.next b2; replace KV := KV.next b2; replace hA := hA.next b2
 have HQV := Lib.hid hqv; have HQL := Lib.hid hql
 clear hQ b2 hqn B1 hqv hql
 have KI := Blk.lit w2 24 [.int .i64 r, .int .i64 r, .slice aI (r * r) kI]
 have ba : Below w2.heap.size w2 (w2.alloc (.cells #[.int .i64 r, .int .i64 r, .slice aI (r * r) kI] 24)) := (Below.refl w2.heap.size w2).alloc (Nat.le_refl _) _
 have f0 := (KF.next ba).cell 0; have a1 := (KA.next ba).cell 1
 go_wp2_with fail
 generalize w2.alloc (.cells #[.int .i64 r, .int .i64 r, .slice aI (r * r) kI] 24) = w3 at *
 have B3 := B2.trans (ba.mono B2.size)
 replace hI := hI.next ba
 replace KF := KF.next ba; replace KA := KA.next ba; replace KD := KD.next ba; replace KU := KU.next ba; replace KV := KV.next ba; replace hA := hA.next ba
 obtain ⟨gI, egI⟩ : ∃ gI, gI = w2.heap.size := ⟨_, rfl⟩
 rw [← egI] at KI ⊢
 clear ba B2 egI f0 a1
 refine (xm_Identity p 1 c _ HP.out hc (by omega) (by omega) (fun j => if j / c = j % c then 1 else 0) (fun i k hi hk => by
  show (if (i * c + k) / c = (i * c + k) % c then (1 : Pol (Zp p)) else 0) = _
  rw [Nat.mul_comm, Nat.mul_add_div (by omega), Nat.div_eq_of_lt hk, Nat.mul_add_mod, Nat.mod_eq_of_lt hk, Nat.add_zero])).mono ?_; rintro e w4 ⟨aJ, kJ, us, rfl, hQ, b4⟩
 obtain ⟨ps, hpl, hpn, hpv⟩ := hQ.ns HP.out
 have hJ : Xm w4 (.agg #[.int .i64 c, .int .i64 c, .slice aJ (c * c) kJ]) c c ps := ⟨_, rfl, hpn⟩
 have B4 := B3.trans (b4.mono B3.size)
 replace KI := KI.next b4; replace hI := hI.next b4
 replace KF := KF.next b4; replace KA := KA.next b4; replace KD := KD.next b4; replace KU := KU.next b4; replace KV := KV.next b4; replace hA := hA.next b4
 have HPV := Lib.hid hpv; have HPL := Lib.hid hpl
 clear hQ b4 hpn B3 hpv hpl
 have KJ := Blk.lit w4 24 [.int .i64 c, .int .i64 c, .slice aJ (c * c) kJ]
 have ba : Below w4.heap.size w4 (w4.alloc (.cells #[.int .i64 c, .int .i64 c, .slice aJ (c * c) kJ] 24)) := (Below.refl w4.heap.size w4).alloc (Nat.le_refl _) _
 go_upto_region 5 with (fail)
 generalize w4.alloc (.cells #[.int .i64 c, .int .i64 c, .slice aJ (c * c) kJ] 24) = w5 at *
 have bd := ba.trans (Drawn.below (w' := w5.drew) ⟨1, rfl⟩ w4.heap.size)
 have B5 := B4.trans (bd.mono B4.size)
 replace KI := KI.next bd; replace hI := hI.next bd
 replace KJ := KJ.drew; replace hJ := hJ.next bd
 replace KF := KF.next bd; replace KA := KA.next bd; replace KD := KD.next bd; replace KU := KU.next bd; replace KV := KV.next bd; replace hA := hA.next bd
 obtain ⟨gJ, egJ⟩ : ∃ gJ, gJ = w4.heap.size := ⟨_, rfl⟩
 rw [← egJ] at KJ ⊢
 clear ba bd B4 egJ
 have hgA : g + 1 < w5.drew.heap.size := KA.lt
 have hgD : g + 1 + 1 < w5.drew.heap.size := KD.lt
 have hgU : g + 1 + 1 + 1 < w5.drew.heap.size := KU.lt
 have hgV : g + 1 + 1 + 1 + 1 < w5.drew.heap.size := KV.lt
 have z0 := Lib.hid fun (w : World) (hS : Below (w5.drew).heap.size (w5.drew) w) => And.intro ((KF.at hS) 0) (And.intro ((KA.at hS) 0) (And.intro ((KA.at hS) 1) (And.intro ((KA.at hS) 2) (And.intro ((KI.at hS) 0) (And.intro ((KI.at hS) 1) (And.intro ((KI.at hS) 2) (And.intro ((KJ.at hS) 0) (And.intro ((KJ.at hS) 1) ((KJ.at hS) 2)))))))))
 refine startL (S := (fun w' => Below (w5.drew).heap.size (w5.drew) w')) (by kernel_rfl) (Below.refl _ _) (fun hHeld => ?_)
 generalize w5.drew = wd at *
 refine tf 0 z0.out ?_
 refine tf 1 z0.out ?_
 refine tf 2 z0.out ?_
 refine tf 4 z0.out ?_
 refine tf 5 z0.out ?_
 refine tf 7 z0.out ?_
 refine tf 8 z0.out ?_
 refine tk 10 ?_
 refine tf 11 z0.out ?_
 refine on 3 fun K hK => ?_
 go_simp
 go_at_call 71
 (with_reducible refine (xf_rowsOf p _ r c xs _ HP.out (hA.next hHeld) hr hc HX.out (fun j hj => by have := HLL.out j hj; omega)).mono ?_); rintro e w6 ⟨rv1, U1, E1, rfl, X1, b6⟩
 obtain ⟨a1, k1, er1⟩ := X1.slc
 subst er1
 refine hK.out _ _ (hHeld.trans (b6.mono hHeld.size)) (fun hHeld => ?_)
 clear hK K
 try simp only [Act.put, zq1, zq2, zq3]
 refine on 6 fun K hK => ?_
 go_simp
 go_at_call 71
 (with_reducible refine (xf_rowsOf p _ r r qs _ HP.out (hI.next hHeld) hr hr HQL.out (fun j hj => by have := (HQV.out j hj).2.2; omega)).mono ?_); rintro e w7 ⟨rv2, U2, E2, rfl, X2, b7⟩
 obtain ⟨a2, k2, er2⟩ := X2.slc
 subst er2
 refine hK.out _ _ (hHeld.trans (b7.mono hHeld.size)) (fun hHeld => ?_)
 clear hK K
 try simp only [Act.put, zq1, zq2, zq3]
 refine on 9 fun K hK => ?_
 go_simp
 go_at_call 71
 (with_reducible refine (xf_rowsOf p _ c c ps _ HP.out (hJ.next hHeld) hc hc HPL.out (fun j hj => by have := (HPV.out j hj).2.2; omega)).mono ?_); rintro e w8 ⟨rv3, U3, E3, rfl, X3, b8⟩
 obtain ⟨a3, k3, er3⟩ := X3.slc
 subst er3
 refine hK.out _ _ (hHeld.trans (b8.mono hHeld.size)) (fun hHeld => ?_)
 clear hK K
 try simp only [Act.put, zq1, zq2, zq3]
 refine tk 12 ?_
 refine on 13 fun K hK => ?_
 go_simp
 obtain ⟨gS, egS⟩ : ∃ gS, gS = w8.heap.size := ⟨_, rfl⟩
 have kS : Blk 101 (w8.alloc (.cells #[.int .u64 p, .slice a1 r k1, .slice a2 r k2, .slice a3 c k3, .int .i64 c] 101)) gS [.int .u64 p, .slice a1 r k1, .slice a2 r k2, .slice a3 c k3, .int .i64 c] := by rw [egS]; exact Blk.lit w8 101 [.int .u64 p, .slice a1 r k1, .slice a2 r k2, .slice a3 c k3, .int .i64 c]
 have hgS0 : w8.heap.size ≤ gS := by rw [egS]; exact Nat.le_refl _
 have btl : Below w8.heap.size w8 (w8.alloc (.cells #[.int .u64 p, .slice a1 r k1, .slice a2 r k2, .slice a3 c k3, .int .i64 c] 101)) := (Below.refl _ _).alloc (Nat.le_refl _) _
 rw [← egS]
 generalize w8.alloc (.cells #[.int .u64 p, .slice a1 r k1, .slice a2 r k2, .slice a3 c k3, .int .i64 c] 101) = w9 at *
 refine hK.out _ _ (hHeld.trans (btl.mono hHeld.size)) (fun hHeld => ?_)
 clear hK K egS
 try simp only [Act.put, zq1, zq2, zq3]
 refine tk 14 ?_
 clear z0; refine doneL (by kernel_rfl) ?_ _
 have R1 : Rw p w6 wd.heap.size w6.heap.size (.slice a1 r k1) r c U1 (aT p c xs) := ⟨E1, X1, fun b hb => (X1.blk hb).2.1, Nat.le_refl _⟩
 have R2 : Rw p w7 w6.heap.size w7.heap.size (.slice a2 r k2) r r U2 (aT p r qs) := ⟨E2, X2, fun b hb => (X2.blk hb).2.1, Nat.le_refl _⟩
 have R3 : Rw p w8 w7.heap.size w8.heap.size (.slice a3 c k3) c c U3 (aT p c ps) := ⟨E3, X3, fun b hb => (X3.blk hb).2.1, Nat.le_refl _⟩
 have SST : Sst p w9 wd.heap.size w6.heap.size w7.heap.size w8.heap.size gS (.slice a1 r k1) (.slice a2 r k2) (.slice a3 c k3) r c (aT p c xs) (aT p r qs) (aT p c ps) := ⟨kS, b6.size, b7.size, b8.size, hgS0, ⟨_, ((R1.next b7).next b8).next btl⟩, ⟨_, (R2.next b8).next btl⟩, ⟨_, R3.next btl⟩⟩
 have B9 := B5.trans (hHeld.mono B5.size)
 have hw0 : w.heap.size ≤ wd.heap.size := B5.size
 have hI1 := (show ∀ i k, i < r → k < r → aT p r qs i k = if i = k then 1 else 0 from fun a k ha hk => by
 have h1 := (HQV.out (a * r + k) (at_lt rfl ha hk)).2.1
 show pl p (qs.getD (a * r + k) []) = _
 rw [h1]
 show (if (a * r + k) / r = (a * r + k) % r then (1 : Pol (Zp p)) else 0) = _
 rw [Nat.mul_comm, Nat.mul_add_div (by omega), Nat.div_eq_of_lt hk, Nat.mul_add_mod, Nat.mod_eq_of_lt hk, Nat.add_zero])
 have hI2 := (show ∀ i k, i < c → k < c → aT p c ps i k = if i = k then 1 else 0 from fun a k ha hk => by
 have h1 := (HPV.out (a * c + k) (at_lt rfl ha hk)).2.1
 show pl p (ps.getD (a * c + k) []) = _
 rw [h1]
 show (if (a * c + k) / c = (a * c + k) % c then (1 : Pol (Zp p)) else 0) = _
 rw [Nat.mul_comm, Nat.mul_add_div (by omega), Nat.div_eq_of_lt hk, Nat.mul_add_mod, Nat.mod_eq_of_lt hk, Nat.add_zero])
 have HPH0 := Lib.hid (H0.out (aT p c xs) (aT p r qs) (aT p c ps) (fun _ _ _ _ => rfl) hI1 hI2)
 have HSM := Lib.hid (SmR.start (aT p c xs) (W := aT p c xs) hI1 hI2 (fun _ _ _ _ => rfl))
 replace KA := KA.next hHeld; replace KD := KD.next hHeld; replace KU := KU.next hHeld; replace KV := KV.next hHeld
 obtain ⟨l0, e0⟩ : ∃ l0, l0 = wd.heap.size := ⟨_, rfl⟩
 obtain ⟨l1, e1⟩ : ∃ l1, l1 = w6.heap.size := ⟨_, rfl⟩
 obtain ⟨l2, e2⟩ : ∃ l2, l2 = w7.heap.size := ⟨_, rfl⟩
 obtain ⟨l3, e3⟩ : ∃ l3, l3 = w8.heap.size := ⟨_, rfl⟩
 rw [← e0, ← e1, ← e2, ← e3] at SST
 rw [← e0] at hw0 hgA hgD hgU hgV
 have HSST := Lib.hid SST; have KA9 := Lib.hid KA; have KD9 := Lib.hid KD; have KU9 := Lib.hid KU; have KV9 := Lib.hid KV; have HB9 := Lib.hid B9
 have hl09 : l0 ≤ w9.heap.size := by rw [e0]; exact hHeld.size
 clear R1 R2 R3 X1 X2 X3 kS b6 b7 b8 btl hHeld hgS0 SST B9 B5 hI1 hI2 KA KD KU KV KF KI KJ hA hI hJ e0 e1 e2 e3 H0 HQV HQL HPV HPL
 go_wp2
 go_loopw [13] (fun iv wr => ∃ (t : Nat) (W U V : (Nat → Nat → Pol (Zp p))), t ≤ r ∧ t ≤ c ∧ iv = .int .i64 t ∧ Φ t W U V ∧ SmR (MT.of r c (aT p c xs)) U W V ∧ SmI t r c W ∧ Sst p wr l0 l1 l2 l3 gS (.slice a1 r k1) (.slice a2 r k2) (.slice a3 c k3) r c W U V ∧ Ch l0 l3 w9 wr) (fun iv _ => r - (intOf iv).toNat)
 case atStart => exact ⟨0, _, _, _, Nat.zero_le _, Nat.zero_le _, rfl, HPH0.out, HSM.out, SmI.start _ _ _, HSST.out, Ch.refl _ _ _⟩
 case round =>
  clear HPH0 HSM HSST
  obtain ⟨t, W, U, V, htr, htc, rfl, hP, hS, hI, h, C⟩ := hrel
  have KA := KA9.out.ch C (.inl hgA)
  have a0 := KA.cell 0; have a1' := KA.cell 1
  have HPP := Lib.hid hP; have HSR := Lib.hid hS; have HSI := Lib.hid hI; have HH := Lib.hid h; have HC := Lib.hid C
  clear hP hS hI h C KA
  by_cases hcr : c < r
  ·by_cases hltc : t < c
   ·have hltr : t < r := by omega
    obtain ⟨B, D, O, Q, b, hst, hB, hnx⟩ := HPH.out t W U V hltr hltc HPP.out HSI.out HSR.out
    have HST := Lib.hid hst; have HB := Lib.hid hB; have HNX := Lib.hid hnx
    clear hst hB hnx
    go_wp2_with fail
    refine (xf_place p wr l0 l1 l2 l3 gS (.slice a1 r k1) (.slice a2 r k2) (.slice a3 c k3) r c (MT.of r c (aT p c xs)) t b HP.out HTR.out HST.out ⟨W, U, V, HB.out, HSR.out, HSI.out, HH.out, Ch.refl _ _ _⟩ hltr hltc (by omega) (by omega)).mono ?_
    rintro e w2 ⟨bb, W2, U2, V2, rfl, hF2, hS, hf, hi2, h, C2⟩
    have hP := HNX.out W2 U2 V2 hF2
    have C := HC.out.trans C2
    clear C2 HC HST HB HNX HPP HSR HSI HH a0 a1'
    cases bb
    ·obtain ⟨hI, hz⟩ := hf rfl
     clear hf hi2 hF2
     have HPX := Lib.hid (show ∃ s, Φ s W2 U2 V2 ∧ Pst r c s W2 from ⟨_, hP, by first | exact .inl (by omega) | exact .inr (.inl (by omega)) | exact .inr (.inr fun a b h1 h2 h3 h4 => hz a b (by omega) h2 (by omega) h4)⟩)
     have hbd := HF.out _ _ _ _ hP
     have RES := Lib.hid (show ∃ (t' : Nat), t' ≤ r ∧ t' ≤ c ∧ SmR (MT.of r c (aT p c xs)) U2 W2 V2 ∧ SmI t' r c W2 ∧ (∀ a b, t' ≤ a → a < r → t' ≤ b → b < c → W2 a b = 0) from ⟨t, htr, htc, hS, hI, hz⟩)
     have KA := KA9.out.ch C (.inl hgA); have KD := KD9.out.ch C (.inl hgD); have KU := KU9.out.ch C (.inl hgU); have KV := KV9.out.ch C (.inl hgV)
     have BT := HB9.out.trans ((C.below hl09).mono hw0)
     have HBD := Lib.hid hbd
     clear hP hS hI hz hbd C
     go_upto_region 9 with (fail)
     have bd := dw w2
     have h9 := h.next bd
     replace KA := KA.next bd; replace KD := KD.next bd; replace KU := KU.next bd; replace KV := KV.next bd
     replace BT := BT.trans (bd.mono BT.size)
     have hsz := h9.size
     obtain ⟨RU1, RA⟩ := h9.a; obtain ⟨RU2, RB⟩ := h9.u; obtain ⟨RU3, RC⟩ := h9.v
     obtain ⟨RE1, XA, -, -⟩ := RA; obtain ⟨RE2, XB, -, -⟩ := RB; obtain ⟨RE3, XC, -, -⟩ := RC
     have KW := h9.blk
     have h01 := h9.o1; have h12 := h9.o2; have h23 := h9.o3
     have hgS9 := h9.gs
     have hA2 : gS ≠ g + 1 + 1 := by omega
     have hA3 : gS ≠ g + 1 + 1 + 1 := by omega
     have hA4 : gS ≠ g + 1 + 1 + 1 + 1 := by omega
     have hB2 : g + 1 ≠ g + 1 + 1 := by omega
     have hB3 : g + 1 ≠ g + 1 + 1 + 1 := by omega
     have hB4 : g + 1 ≠ g + 1 + 1 + 1 + 1 := by omega
     have hDU : g + 1 + 1 ≠ g + 1 + 1 + 1 := by omega
     have hDV : g + 1 + 1 ≠ g + 1 + 1 + 1 + 1 := by omega
     have hUD : g + 1 + 1 + 1 ≠ g + 1 + 1 := by omega
     have hUV : g + 1 + 1 + 1 ≠ g + 1 + 1 + 1 + 1 := by omega
     have hVD : g + 1 + 1 + 1 + 1 ≠ g + 1 + 1 := by omega
     have hVU : g + 1 + 1 + 1 + 1 ≠ g + 1 + 1 + 1 := by omega
     clear bd h h9
     have z0 := Lib.hid fun (w : World) (hS : Blk 101 w gS [.int .u64 p, .slice a1 r k1, .slice a2 r k2, .slice a3 c k3, .int .i64 c] ∧ Blk 24 w (g + 1) [.int .i64 r, .int .i64 c, .slice aA xs.length cA]) => And.intro (hS.1.cell 1) (And.intro (hS.1.cell 2) (And.intro (hS.1.cell 3) (And.intro (hS.2.cell 0) (hS.2.cell 1))))
     refine startL (S := (fun w' => Blk 101 w' gS [.int .u64 p, .slice a1 r k1, .slice a2 r k2, .slice a3 c k3, .int .i64 c] ∧ Blk 24 w' (g + 1) [.int .i64 r, .int .i64 c, .slice aA xs.length cA])) (by kernel_rfl) ⟨KW, KA⟩ (fun hHeld => ?_)
     refine tk 0 ?_
     refine tk 1 ?_
     refine tk 2 ?_
     refine tf 3 z0.out ?_
     refine tk 4 ?_
     refine tf 5 z0.out ?_
     refine tk 7 ?_
     refine tk 8 ?_
     refine tk 9 ?_
     refine tf 10 z0.out ?_
     refine tk 11 ?_
     refine tf 12 z0.out ?_
     refine tk 14 ?_
     refine tk 15 ?_
     refine tk 16 ?_
     refine tf 17 z0.out ?_
     refine tk 18 ?_
     refine tf 19 z0.out ?_
     refine on 6 fun K hK => ?_
     go_simp
     go_at_call 73
     (with_reducible refine (xf_matrixE p _ _ (.slice a1 r k1) r c 0 c RU1 RE1 W2 0 (c : Int) XA rfl (by omega) (by omega) (by omega) (by omega)).mono ?_); rintro e n1 ⟨aD, kD, rfl, q1, b1⟩
     refine hK.out _ _ (⟨hHeld.1.next b1, hHeld.2.next b1⟩) (fun hHeld => ?_)
     clear hK K
     try simp only [Act.put, zq1, zq2, zq3]
     refine on 13 fun K hK => ?_
     go_simp
     go_at_call 73
     (with_reducible refine (xf_matrixE p _ _ (.slice a2 r k2) r r 0 r RU2 RE2 U2 0 (r : Int) (XB.next b1) rfl (by omega) (by omega) (by omega) (by omega)).mono ?_); rintro e n2 ⟨aU, kU, rfl, q2, b2⟩
     refine hK.out _ _ (⟨hHeld.1.next b2, hHeld.2.next b2⟩) (fun hHeld => ?_)
     clear hK K
     try simp only [Act.put, zq1, zq2, zq3]
     refine on 20 fun K hK => ?_
     go_simp
     go_at_call 73
     (with_reducible refine (xf_matrixE p _ _ (.slice a3 c k3) c c 0 c RU3 RE3 V2 0 (c : Int) ((XC.next b1).next b2) rfl (by omega) (by omega) (by omega) (by omega)).mono ?_); rintro e n3 ⟨aV, kV, rfl, q3, b3⟩
     refine hK.out _ _ (⟨hHeld.1.next b3, hHeld.2.next b3⟩) (fun hHeld => ?_)
     clear hK K
     try simp only [Act.put, zq1, zq2, zq3]
     refine on 21 fun K hK => ?_
     have BN := ((BT.trans (b1.mono BT.size)).trans (b2.mono (Nat.le_trans BT.size b1.size))).trans (b3.mono (Nat.le_trans (Nat.le_trans BT.size b1.size) b2.size))
     have KD0 := ((KD.next b1).next b2).next b3; have KU0 := ((KU.next b1).next b2).next b3; have KV0 := ((KV.next b1).next b2).next b3
     have XA0 := ((XA.next b1).next b2).next b3; have XB0 := ((XB.next b1).next b2).next b3; have XC0 := ((XC.next b1).next b2).next b3
     have e0 := KD0.cell 0; have e1 := KD0.cell 1; have e2 := KD0.cell 2
     have f0 := KD0.free 0; have f1 := KD0.free 1; have f2 := KD0.free 2
     have e3 := KU0.cell 0; have e4 := KU0.cell 1; have e5 := KU0.cell 2
     have f3 := KU0.free 0; have f4 := KU0.free 1; have f5 := KU0.free 2
     have e6 := KV0.cell 0; have e7 := KV0.cell 1; have e8 := KV0.cell 2
     have f6 := KV0.free 0; have f7 := KV0.free 1; have f8 := KV0.free 2
     have D3 := (((((((((KD0.set 0 (.int .i64 r)).set 1 (.int .i64 c)).set 2 (.slice aD (r * c) kD)).far (a := ⟨g + 1 + 1 + 1, 0, none⟩) hDU (.int .i64 r)).far (a := ⟨g + 1 + 1 + 1, 1, none⟩) hDU (.int .i64 r)).far (a := ⟨g + 1 + 1 + 1, 2, none⟩) hDU (.slice aU (r * r) kU)).far (a := ⟨g + 1 + 1 + 1 + 1, 0, none⟩) hDV (.int .i64 c)).far (a := ⟨g + 1 + 1 + 1 + 1, 1, none⟩) hDV (.int .i64 c)).far (a := ⟨g + 1 + 1 + 1 + 1, 2, none⟩) hDV (.slice aV (c * c) kV))
     have U3 := (((((((((KU0.far (a := ⟨g + 1 + 1, 0, none⟩) hUD (.int .i64 r)).far (a := ⟨g + 1 + 1, 1, none⟩) hUD (.int .i64 c)).far (a := ⟨g + 1 + 1, 2, none⟩) hUD (.slice aD (r * c) kD)).set 0 (.int .i64 r)).set 1 (.int .i64 r)).set 2 (.slice aU (r * r) kU)).far (a := ⟨g + 1 + 1 + 1 + 1, 0, none⟩) hUV (.int .i64 c)).far (a := ⟨g + 1 + 1 + 1 + 1, 1, none⟩) hUV (.int .i64 c)).far (a := ⟨g + 1 + 1 + 1 + 1, 2, none⟩) hUV (.slice aV (c * c) kV))
     have V3 := ((((((((KV0.far (a := ⟨g + 1 + 1, 0, none⟩) hVD (.int .i64 r)).far (a := ⟨g + 1 + 1, 1, none⟩) hVD (.int .i64 c)).far (a := ⟨g + 1 + 1, 2, none⟩) hVD (.slice aD (r * c) kD)).far (a := ⟨g + 1 + 1 + 1, 0, none⟩) hVU (.int .i64 r)).far (a := ⟨g + 1 + 1 + 1, 1, none⟩) hVU (.int .i64 r)).far (a := ⟨g + 1 + 1 + 1, 2, none⟩) hVU (.slice aU (r * r) kU)).set 0 (.int .i64 c)).set 1 (.int .i64 c)).set 2 (.slice aV (c * c) kV)
     have d0 := D3.cell 0; have d1 := D3.cell 1; have d2 := D3.cell 2; have d3 := U3.cell 0; have d4 := U3.cell 1; have d5 := U3.cell 2; have d6 := V3.cell 0; have d7 := V3.cell 1; have d8 := V3.cell 2
     have Q1 := qls_of HP.out.pos XA0 (show 0 + c ≤ c by omega) HBD.out.1 (rowOwn_mono (rowOwn_next (rowOwn_next q1 b2 (Nat.le_refl _)) b3 (Nat.le_refl _)) (show l0 ≤ _ by omega)) (Nat.le_refl _)
     have Q2 := qls_of HP.out.pos XB0 (show 0 + r ≤ r by omega) HBD.out.2.1 (rowOwn_mono (rowOwn_next q2 b3 (Nat.le_refl _)) (show l0 ≤ _ by have := b1.size; omega)) h01
     have Q3 := qls_of HP.out.pos XC0 (show 0 + c ≤ c by omega) HBD.out.2.2 (rowOwn_mono q3 (show l0 ≤ _ by have := b1.size; have := b2.size; omega)) (Nat.le_trans h01 h12)
     obtain ⟨t', hr1, hr2, hr3, hr4, hr5⟩ := RES.out
     have hwg : w.heap.size ≤ g := by have := EG.out; omega
     have FIN := Lib.hid (show PQ (.returned (.tuple #[.agg #[.int .i64 r, .int .i64 c, .slice aD (r * c) kD], .agg #[.int .i64 r, .int .i64 r, .slice aU (r * r) kU], .agg #[.int .i64 c, .int .i64 c, .slice aV (c * c) kV], .int .i64 0])) (((((((((n3.setCell ⟨g + 1 + 1, 0, none⟩ (.int .i64 r)).setCell ⟨g + 1 + 1, 1, none⟩ (.int .i64 c)).setCell ⟨g + 1 + 1, 2, none⟩ (.slice aD (r * c) kD)).setCell ⟨g + 1 + 1 + 1, 0, none⟩ (.int .i64 r)).setCell ⟨g + 1 + 1 + 1, 1, none⟩ (.int .i64 r)).setCell ⟨g + 1 + 1 + 1, 2, none⟩ (.slice aU (r * r) kU)).setCell ⟨g + 1 + 1 + 1 + 1, 0, none⟩ (.int .i64 c)).setCell ⟨g + 1 + 1 + 1 + 1, 1, none⟩ (.int .i64 c)).setCell ⟨g + 1 + 1 + 1 + 1, 2, none⟩ (.slice aV (c * c) kV)) by
      rw [EPQ.out]
      exact ⟨t', W2, U2, V2, HPX.out, hr1, hr2, hr3, hr4, hr5, aD, kD, _, aU, kU, _, aV, kV, _, rfl, ((((((((((Q1.low (a := ⟨g + 1 + 1, 0, none⟩) hgD _).low (a := ⟨g + 1 + 1, 1, none⟩) hgD _).low (a := ⟨g + 1 + 1, 2, none⟩) hgD _).low (a := ⟨g + 1 + 1 + 1, 0, none⟩) hgU _).low (a := ⟨g + 1 + 1 + 1, 1, none⟩) hgU _).low (a := ⟨g + 1 + 1 + 1, 2, none⟩) hgU _).low (a := ⟨g + 1 + 1 + 1 + 1, 0, none⟩) hgV _).low (a := ⟨g + 1 + 1 + 1 + 1, 1, none⟩) hgV _).low (a := ⟨g + 1 + 1 + 1 + 1, 2, none⟩) hgV _)).mono hw0, ((((((((((Q2.low (a := ⟨g + 1 + 1, 0, none⟩) hgD _).low (a := ⟨g + 1 + 1, 1, none⟩) hgD _).low (a := ⟨g + 1 + 1, 2, none⟩) hgD _).low (a := ⟨g + 1 + 1 + 1, 0, none⟩) hgU _).low (a := ⟨g + 1 + 1 + 1, 1, none⟩) hgU _).low (a := ⟨g + 1 + 1 + 1, 2, none⟩) hgU _).low (a := ⟨g + 1 + 1 + 1 + 1, 0, none⟩) hgV _).low (a := ⟨g + 1 + 1 + 1 + 1, 1, none⟩) hgV _).low (a := ⟨g + 1 + 1 + 1 + 1, 2, none⟩) hgV _)).mono hw0, ((((((((((Q3.low (a := ⟨g + 1 + 1, 0, none⟩) hgD _).low (a := ⟨g + 1 + 1, 1, none⟩) hgD _).low (a := ⟨g + 1 + 1, 2, none⟩) hgD _).low (a := ⟨g + 1 + 1 + 1, 0, none⟩) hgU _).low (a := ⟨g + 1 + 1 + 1, 1, none⟩) hgU _).low (a := ⟨g + 1 + 1 + 1, 2, none⟩) hgU _).low (a := ⟨g + 1 + 1 + 1 + 1, 0, none⟩) hgV _).low (a := ⟨g + 1 + 1 + 1 + 1, 1, none⟩) hgV _).low (a := ⟨g + 1 + 1 + 1 + 1, 2, none⟩) hgV _)).mono hw0, (((((((((BN.setCell (p := ⟨g + 1 + 1, 0, none⟩) (by simp; omega) _).setCell (p := ⟨g + 1 + 1, 1, none⟩) (by simp; omega) _).setCell (p := ⟨g + 1 + 1, 2, none⟩) (by simp; omega) _).setCell (p := ⟨g + 1 + 1 + 1, 0, none⟩) (by simp; omega) _).setCell (p := ⟨g + 1 + 1 + 1, 1, none⟩) (by simp; omega) _).setCell (p := ⟨g + 1 + 1 + 1, 2, none⟩) (by simp; omega) _).setCell (p := ⟨g + 1 + 1 + 1 + 1, 0, none⟩) (by simp; omega) _).setCell (p := ⟨g + 1 + 1 + 1 + 1, 1, none⟩) (by simp; omega) _).setCell (p := ⟨g + 1 + 1 + 1 + 1, 2, none⟩) (by simp; omega) _)⟩)
     clear Q1 Q2 Q3 D3 U3 V3 KD0 KU0 KV0 XA0 XB0 XC0 XA XB XC KW BN BT hr3 hr4 hr5
     go_simp
     refine hK.out _ _ ⟨((hHeld.1.far (a := ⟨g + 1 + 1, 0, none⟩) hA2 _).far (a := ⟨g + 1 + 1, 1, none⟩) hA2 _).far (a := ⟨g + 1 + 1, 2, none⟩) hA2 _, ((hHeld.2.far (a := ⟨g + 1 + 1, 0, none⟩) hB2 _).far (a := ⟨g + 1 + 1, 1, none⟩) hB2 _).far (a := ⟨g + 1 + 1, 2, none⟩) hB2 _⟩ (fun hHeld => ?_)
     clear hK K e0 e1 e2 f0 f1 f2
     try simp only [Act.put, zq1, zq2, zq3]
     refine on 22 fun K hK => ?_
     go_simp
     refine hK.out _ _ ⟨((hHeld.1.far (a := ⟨g + 1 + 1 + 1, 0, none⟩) hA3 _).far (a := ⟨g + 1 + 1 + 1, 1, none⟩) hA3 _).far (a := ⟨g + 1 + 1 + 1, 2, none⟩) hA3 _, ((hHeld.2.far (a := ⟨g + 1 + 1 + 1, 0, none⟩) hB3 _).far (a := ⟨g + 1 + 1 + 1, 1, none⟩) hB3 _).far (a := ⟨g + 1 + 1 + 1, 2, none⟩) hB3 _⟩ (fun hHeld => ?_)
     clear hK K e3 e4 e5 f3 f4 f5
     try simp only [Act.put, zq1, zq2, zq3]
     refine on 23 fun K hK => ?_
     go_simp
     refine hK.out _ _ ⟨((hHeld.1.far (a := ⟨g + 1 + 1 + 1 + 1, 0, none⟩) hA4 _).far (a := ⟨g + 1 + 1 + 1 + 1, 1, none⟩) hA4 _).far (a := ⟨g + 1 + 1 + 1 + 1, 2, none⟩) hA4 _, ((hHeld.2.far (a := ⟨g + 1 + 1 + 1 + 1, 0, none⟩) hB4 _).far (a := ⟨g + 1 + 1 + 1 + 1, 1, none⟩) hB4 _).far (a := ⟨g + 1 + 1 + 1 + 1, 2, none⟩) hB4 _⟩ (fun hHeld => ?_)
     clear hK K
     try simp only [Act.put, zq1, zq2, zq3]
     refine tk 24 ?_
     clear z0; refine doneL (by kernel_rfl) ?_ _
     clear KA KD KU KV hHeld q1 q2 q3
     go_wp2
     exact bodyPost_ret (v := (.tuple #[.agg #[.int .i64 r, .int .i64 c, .slice aD (r * c) kD], .agg #[.int .i64 r, .int .i64 r, .slice aU (r * r) kU], .agg #[.int .i64 c, .int .i64 c, .slice aV (c * c) kV], .int .i64 0])) (by simp [results, Try.results19, go_sem, d0, d1, d2, d3, d4, d5, d6, d7, d8]) rfl FIN.out
    ·have hI := hi2 rfl
     have F1 := Lib.hid hP; have F2 := Lib.hid hS; have F3 := Lib.hid hI; have F4 := Lib.hid h; have F5 := Lib.hid C
     clear hf hi2 hF2 hP hS hI h C
     go_wp2
     go_roundw
     case rel => exact ⟨t + 1, _, _, _, by omega, by omega, by go_num, F1.out, F2.out, F3.out, F4.out, F5.out⟩
     case measure => simp [intOf] <;> omega
   ·have hltr : ¬ t < c := hltc
    have hS := HSR.out; have hI := HSI.out; have hP := HPP.out; have h := HH.out; have C := HC.out
    clear HSR HSI HPP HH HC
    have hz : ∀ a b, t ≤ a → a < r → t ≤ b → b < c → W a b = 0 := fun a b h1 h2 h3 h4 => by omega
    have HPX := Lib.hid (show ∃ s, Φ s W U V ∧ Pst r c s W from ⟨_, hP, by first | exact .inl (by omega) | exact .inr (.inl (by omega)) | exact .inr (.inr fun a b h1 h2 h3 h4 => hz a b (by omega) h2 (by omega) h4)⟩)
    have hbd := HF.out _ _ _ _ hP
    have RES := Lib.hid (show ∃ (t' : Nat), t' ≤ r ∧ t' ≤ c ∧ SmR (MT.of r c (aT p c xs)) U W V ∧ SmI t' r c W ∧ (∀ a b, t' ≤ a → a < r → t' ≤ b → b < c → W a b = 0) from ⟨t, htr, htc, hS, hI, hz⟩)
    have KA := KA9.out.ch C (.inl hgA); have KD := KD9.out.ch C (.inl hgD); have KU := KU9.out.ch C (.inl hgU); have KV := KV9.out.ch C (.inl hgV)
    have BT := HB9.out.trans ((C.below hl09).mono hw0)
    have HBD := Lib.hid hbd
    clear hP hS hI hz hbd C
    go_upto_region 9 with (fail)
    have bd := dw wr
    have h9 := h.next bd
    replace KA := KA.next bd; replace KD := KD.next bd; replace KU := KU.next bd; replace KV := KV.next bd
    replace BT := BT.trans (bd.mono BT.size)
    have hsz := h9.size
    obtain ⟨RU1, RA⟩ := h9.a; obtain ⟨RU2, RB⟩ := h9.u; obtain ⟨RU3, RC⟩ := h9.v
    obtain ⟨RE1, XA, -, -⟩ := RA; obtain ⟨RE2, XB, -, -⟩ := RB; obtain ⟨RE3, XC, -, -⟩ := RC
    have KW := h9.blk
    have h01 := h9.o1; have h12 := h9.o2; have h23 := h9.o3
    have hgS9 := h9.gs
    have hA2 : gS ≠ g + 1 + 1 := by omega
    have hA3 : gS ≠ g + 1 + 1 + 1 := by omega
    have hA4 : gS ≠ g + 1 + 1 + 1 + 1 := by omega
    have hB2 : g + 1 ≠ g + 1 + 1 := by omega
    have hB3 : g + 1 ≠ g + 1 + 1 + 1 := by omega
    have hB4 : g + 1 ≠ g + 1 + 1 + 1 + 1 := by omega
    have hDU : g + 1 + 1 ≠ g + 1 + 1 + 1 := by omega
    have hDV : g + 1 + 1 ≠ g + 1 + 1 + 1 + 1 := by omega
    have hUD : g + 1 + 1 + 1 ≠ g + 1 + 1 := by omega
    have hUV : g + 1 + 1 + 1 ≠ g + 1 + 1 + 1 + 1 := by omega
    have hVD : g + 1 + 1 + 1 + 1 ≠ g + 1 + 1 := by omega
    have hVU : g + 1 + 1 + 1 + 1 ≠ g + 1 + 1 + 1 := by omega
    clear bd h h9
    have z0 := Lib.hid fun (w : World) (hS : Blk 101 w gS [.int .u64 p, .slice a1 r k1, .slice a2 r k2, .slice a3 c k3, .int .i64 c] ∧ Blk 24 w (g + 1) [.int .i64 r, .int .i64 c, .slice aA xs.length cA]) => And.intro (hS.1.cell 1) (And.intro (hS.1.cell 2) (And.intro (hS.1.cell 3) (And.intro (hS.2.cell 0) (hS.2.cell 1))))
    refine startL (S := (fun w' => Blk 101 w' gS [.int .u64 p, .slice a1 r k1, .slice a2 r k2, .slice a3 c k3, .int .i64 c] ∧ Blk 24 w' (g + 1) [.int .i64 r, .int .i64 c, .slice aA xs.length cA])) (by kernel_rfl) ⟨KW, KA⟩ (fun hHeld => ?_)
    refine tk 0 ?_
    refine tk 1 ?_
    refine tk 2 ?_
    refine tf 3 z0.out ?_
    refine tk 4 ?_
    refine tf 5 z0.out ?_
    refine tk 7 ?_
    refine tk 8 ?_
    refine tk 9 ?_
    refine tf 10 z0.out ?_
    refine tk 11 ?_
    refine tf 12 z0.out ?_
    refine tk 14 ?_
    refine tk 15 ?_
    refine tk 16 ?_
    refine tf 17 z0.out ?_
    refine tk 18 ?_
    refine tf 19 z0.out ?_
    refine on 6 fun K hK => ?_
    go_simp
    go_at_call 73
    (with_reducible refine (xf_matrixE p _ _ (.slice a1 r k1) r c 0 c RU1 RE1 W 0 (c : Int) XA rfl (by omega) (by omega) (by omega) (by omega)).mono ?_); rintro e n1 ⟨aD, kD, rfl, q1, b1⟩
    refine hK.out _ _ (⟨hHeld.1.next b1, hHeld.2.next b1⟩) (fun hHeld => ?_)
    clear hK K
    try simp only [Act.put, zq1, zq2, zq3]
    refine on 13 fun K hK => ?_
    go_simp
    go_at_call 73
    (with_reducible refine (xf_matrixE p _ _ (.slice a2 r k2) r r 0 r RU2 RE2 U 0 (r : Int) (XB.next b1) rfl (by omega) (by omega) (by omega) (by omega)).mono ?_); rintro e n2 ⟨aU, kU, rfl, q2, b2⟩
    refine hK.out _ _ (⟨hHeld.1.next b2, hHeld.2.next b2⟩) (fun hHeld => ?_)
    clear hK K
    try simp only [Act.put, zq1, zq2, zq3]
    refine on 20 fun K hK => ?_
    go_simp
    go_at_call 73
    (with_reducible refine (xf_matrixE p _ _ (.slice a3 c k3) c c 0 c RU3 RE3 V 0 (c : Int) ((XC.next b1).next b2) rfl (by omega) (by omega) (by omega) (by omega)).mono ?_); rintro e n3 ⟨aV, kV, rfl, q3, b3⟩
    refine hK.out _ _ (⟨hHeld.1.next b3, hHeld.2.next b3⟩) (fun hHeld => ?_)
    clear hK K
    try simp only [Act.put, zq1, zq2, zq3]
    refine on 21 fun K hK => ?_
    have BN := ((BT.trans (b1.mono BT.size)).trans (b2.mono (Nat.le_trans BT.size b1.size))).trans (b3.mono (Nat.le_trans (Nat.le_trans BT.size b1.size) b2.size))
    have KD0 := ((KD.next b1).next b2).next b3; have KU0 := ((KU.next b1).next b2).next b3; have KV0 := ((KV.next b1).next b2).next b3
    have XA0 := ((XA.next b1).next b2).next b3; have XB0 := ((XB.next b1).next b2).next b3; have XC0 := ((XC.next b1).next b2).next b3
    have e0 := KD0.cell 0; have e1 := KD0.cell 1; have e2 := KD0.cell 2
    have f0 := KD0.free 0; have f1 := KD0.free 1; have f2 := KD0.free 2
    have e3 := KU0.cell 0; have e4 := KU0.cell 1; have e5 := KU0.cell 2
    have f3 := KU0.free 0; have f4 := KU0.free 1; have f5 := KU0.free 2
    have e6 := KV0.cell 0; have e7 := KV0.cell 1; have e8 := KV0.cell 2
    have f6 := KV0.free 0; have f7 := KV0.free 1; have f8 := KV0.free 2
    have D3 := (((((((((KD0.set 0 (.int .i64 r)).set 1 (.int .i64 c)).set 2 (.slice aD (r * c) kD)).far (a := ⟨g + 1 + 1 + 1, 0, none⟩) hDU (.int .i64 r)).far (a := ⟨g + 1 + 1 + 1, 1, none⟩) hDU (.int .i64 r)).far (a := ⟨g + 1 + 1 + 1, 2, none⟩) hDU (.slice aU (r * r) kU)).far (a := ⟨g + 1 + 1 + 1 + 1, 0, none⟩) hDV (.int .i64 c)).far (a := ⟨g + 1 + 1 + 1 + 1, 1, none⟩) hDV (.int .i64 c)).far (a := ⟨g + 1 + 1 + 1 + 1, 2, none⟩) hDV (.slice aV (c * c) kV))
    have U3 := (((((((((KU0.far (a := ⟨g + 1 + 1, 0, none⟩) hUD (.int .i64 r)).far (a := ⟨g + 1 + 1, 1, none⟩) hUD (.int .i64 c)).far (a := ⟨g + 1 + 1, 2, none⟩) hUD (.slice aD (r * c) kD)).set 0 (.int .i64 r)).set 1 (.int .i64 r)).set 2 (.slice aU (r * r) kU)).far (a := ⟨g + 1 + 1 + 1 + 1, 0, none⟩) hUV (.int .i64 c)).far (a := ⟨g + 1 + 1 + 1 + 1, 1, none⟩) hUV (.int .i64 c)).far (a := ⟨g + 1 + 1 + 1 + 1, 2, none⟩) hUV (.slice aV (c * c) kV))
    have V3 := ((((((((KV0.far (a := ⟨g + 1 + 1, 0, none⟩) hVD (.int .i64 r)).far (a := ⟨g + 1 + 1, 1, none⟩) hVD (.int .i64 c)).far (a := ⟨g + 1 + 1, 2, none⟩) hVD (.slice aD (r * c) kD)).far (a := ⟨g + 1 + 1 + 1, 0, none⟩) hVU (.int .i64 r)).far (a := ⟨g + 1 + 1 + 1, 1, none⟩) hVU (.int .i64 r)).far (a := ⟨g + 1 + 1 + 1, 2, none⟩) hVU (.slice aU (r * r) kU)).set 0 (.int .i64 c)).set 1 (.int .i64 c)).set 2 (.slice aV (c * c) kV)
    have d0 := D3.cell 0; have d1 := D3.cell 1; have d2 := D3.cell 2; have d3 := U3.cell 0; have d4 := U3.cell 1; have d5 := U3.cell 2; have d6 := V3.cell 0; have d7 := V3.cell 1; have d8 := V3.cell 2
    have Q1 := qls_of HP.out.pos XA0 (show 0 + c ≤ c by omega) HBD.out.1 (rowOwn_mono (rowOwn_next (rowOwn_next q1 b2 (Nat.le_refl _)) b3 (Nat.le_refl _)) (show l0 ≤ _ by omega)) (Nat.le_refl _)
    have Q2 := qls_of HP.out.pos XB0 (show 0 + r ≤ r by omega) HBD.out.2.1 (rowOwn_mono (rowOwn_next q2 b3 (Nat.le_refl _)) (show l0 ≤ _ by have := b1.size; omega)) h01
    have Q3 := qls_of HP.out.pos XC0 (show 0 + c ≤ c by omega) HBD.out.2.2 (rowOwn_mono q3 (show l0 ≤ _ by have := b1.size; have := b2.size; omega)) (Nat.le_trans h01 h12)
    obtain ⟨t', hr1, hr2, hr3, hr4, hr5⟩ := RES.out
    have hwg : w.heap.size ≤ g := by have := EG.out; omega
    have FIN := Lib.hid (show PQ (.returned (.tuple #[.agg #[.int .i64 r, .int .i64 c, .slice aD (r * c) kD], .agg #[.int .i64 r, .int .i64 r, .slice aU (r * r) kU], .agg #[.int .i64 c, .int .i64 c, .slice aV (c * c) kV], .int .i64 0])) (((((((((n3.setCell ⟨g + 1 + 1, 0, none⟩ (.int .i64 r)).setCell ⟨g + 1 + 1, 1, none⟩ (.int .i64 c)).setCell ⟨g + 1 + 1, 2, none⟩ (.slice aD (r * c) kD)).setCell ⟨g + 1 + 1 + 1, 0, none⟩ (.int .i64 r)).setCell ⟨g + 1 + 1 + 1, 1, none⟩ (.int .i64 r)).setCell ⟨g + 1 + 1 + 1, 2, none⟩ (.slice aU (r * r) kU)).setCell ⟨g + 1 + 1 + 1 + 1, 0, none⟩ (.int .i64 c)).setCell ⟨g + 1 + 1 + 1 + 1, 1, none⟩ (.int .i64 c)).setCell ⟨g + 1 + 1 + 1 + 1, 2, none⟩ (.slice aV (c * c) kV)) by
     rw [EPQ.out]
     exact ⟨t', W, U, V, HPX.out, hr1, hr2, hr3, hr4, hr5, aD, kD, _, aU, kU, _, aV, kV, _, rfl, ((((((((((Q1.low (a := ⟨g + 1 + 1, 0, none⟩) hgD _).low (a := ⟨g + 1 + 1, 1, none⟩) hgD _).low (a := ⟨g + 1 + 1, 2, none⟩) hgD _).low (a := ⟨g + 1 + 1 + 1, 0, none⟩) hgU _).low (a := ⟨g + 1 + 1 + 1, 1, none⟩) hgU _).low (a := ⟨g + 1 + 1 + 1, 2, none⟩) hgU _).low (a := ⟨g + 1 + 1 + 1 + 1, 0, none⟩) hgV _).low (a := ⟨g + 1 + 1 + 1 + 1, 1, none⟩) hgV _).low (a := ⟨g + 1 + 1 + 1 + 1, 2, none⟩) hgV _)).mono hw0, ((((((((((Q2.low (a := ⟨g + 1 + 1, 0, none⟩) hgD _).low (a := ⟨g + 1 + 1, 1, none⟩) hgD _).low (a := ⟨g + 1 + 1, 2, none⟩) hgD _).low (a := ⟨g + 1 + 1 + 1, 0, none⟩) hgU _).low (a := ⟨g + 1 + 1 + 1, 1, none⟩) hgU _).low (a := ⟨g + 1 + 1 + 1, 2, none⟩) hgU _).low (a := ⟨g + 1 + 1 + 1 + 1, 0, none⟩) hgV _).low (a := ⟨g + 1 + 1 + 1 + 1, 1, none⟩) hgV _).low (a := ⟨g + 1 + 1 + 1 + 1, 2, none⟩) hgV _)).mono hw0, ((((((((((Q3.low (a := ⟨g + 1 + 1, 0, none⟩) hgD _).low (a := ⟨g + 1 + 1, 1, none⟩) hgD _).low (a := ⟨g + 1 + 1, 2, none⟩) hgD _).low (a := ⟨g + 1 + 1 + 1, 0, none⟩) hgU _).low (a := ⟨g + 1 + 1 + 1, 1, none⟩) hgU _).low (a := ⟨g + 1 + 1 + 1, 2, none⟩) hgU _).low (a := ⟨g + 1 + 1 + 1 + 1, 0, none⟩) hgV _).low (a := ⟨g + 1 + 1 + 1 + 1, 1, none⟩) hgV _).low (a := ⟨g + 1 + 1 + 1 + 1, 2, none⟩) hgV _)).mono hw0, (((((((((BN.setCell (p := ⟨g + 1 + 1, 0, none⟩) (by simp; omega) _).setCell (p := ⟨g + 1 + 1, 1, none⟩) (by simp; omega) _).setCell (p := ⟨g + 1 + 1, 2, none⟩) (by simp; omega) _).setCell (p := ⟨g + 1 + 1 + 1, 0, none⟩) (by simp; omega) _).setCell (p := ⟨g + 1 + 1 + 1, 1, none⟩) (by simp; omega) _).setCell (p := ⟨g + 1 + 1 + 1, 2, none⟩) (by simp; omega) _).setCell (p := ⟨g + 1 + 1 + 1 + 1, 0, none⟩) (by simp; omega) _).setCell (p := ⟨g + 1 + 1 + 1 + 1, 1, none⟩) (by simp; omega) _).setCell (p := ⟨g + 1 + 1 + 1 + 1, 2, none⟩) (by simp; omega) _)⟩)
    clear Q1 Q2 Q3 D3 U3 V3 KD0 KU0 KV0 XA0 XB0 XC0 XA XB XC KW BN BT hr3 hr4 hr5
    go_simp
    refine hK.out _ _ ⟨((hHeld.1.far (a := ⟨g + 1 + 1, 0, none⟩) hA2 _).far (a := ⟨g + 1 + 1, 1, none⟩) hA2 _).far (a := ⟨g + 1 + 1, 2, none⟩) hA2 _, ((hHeld.2.far (a := ⟨g + 1 + 1, 0, none⟩) hB2 _).far (a := ⟨g + 1 + 1, 1, none⟩) hB2 _).far (a := ⟨g + 1 + 1, 2, none⟩) hB2 _⟩ (fun hHeld => ?_)
    clear hK K e0 e1 e2 f0 f1 f2
    try simp only [Act.put, zq1, zq2, zq3]
    refine on 22 fun K hK => ?_
    go_simp
    refine hK.out _ _ ⟨((hHeld.1.far (a := ⟨g + 1 + 1 + 1, 0, none⟩) hA3 _).far (a := ⟨g + 1 + 1 + 1, 1, none⟩) hA3 _).far (a := ⟨g + 1 + 1 + 1, 2, none⟩) hA3 _, ((hHeld.2.far (a := ⟨g + 1 + 1 + 1, 0, none⟩) hB3 _).far (a := ⟨g + 1 + 1 + 1, 1, none⟩) hB3 _).far (a := ⟨g + 1 + 1 + 1, 2, none⟩) hB3 _⟩ (fun hHeld => ?_)
    clear hK K e3 e4 e5 f3 f4 f5
    try simp only [Act.put, zq1, zq2, zq3]
    refine on 23 fun K hK => ?_
    go_simp
    refine hK.out _ _ ⟨((hHeld.1.far (a := ⟨g + 1 + 1 + 1 + 1, 0, none⟩) hA4 _).far (a := ⟨g + 1 + 1 + 1 + 1, 1, none⟩) hA4 _).far (a := ⟨g + 1 + 1 + 1 + 1, 2, none⟩) hA4 _, ((hHeld.2.far (a := ⟨g + 1 + 1 + 1 + 1, 0, none⟩) hB4 _).far (a := ⟨g + 1 + 1 + 1 + 1, 1, none⟩) hB4 _).far (a := ⟨g + 1 + 1 + 1 + 1, 2, none⟩) hB4 _⟩ (fun hHeld => ?_)
    clear hK K
    try simp only [Act.put, zq1, zq2, zq3]
    refine tk 24 ?_
    clear z0; refine doneL (by kernel_rfl) ?_ _
    clear KA KD KU KV hHeld q1 q2 q3
    go_wp2
    exact bodyPost_ret (v := (.tuple #[.agg #[.int .i64 r, .int .i64 c, .slice aD (r * c) kD], .agg #[.int .i64 r, .int .i64 r, .slice aU (r * r) kU], .agg #[.int .i64 c, .int .i64 c, .slice aV (c * c) kV], .int .i64 0])) (by simp [results, Try.results19, go_sem, d0, d1, d2, d3, d4, d5, d6, d7, d8]) rfl FIN.out
  ·by_cases hltr : t < r
   ·have hltc : t < c := by omega
    obtain ⟨B, D, O, Q, b, hst, hB, hnx⟩ := HPH.out t W U V hltr hltc HPP.out HSI.out HSR.out
    have HST := Lib.hid hst; have HB := Lib.hid hB; have HNX := Lib.hid hnx
    clear hst hB hnx
    go_wp2_with fail
    refine (xf_place p wr l0 l1 l2 l3 gS (.slice a1 r k1) (.slice a2 r k2) (.slice a3 c k3) r c (MT.of r c (aT p c xs)) t b HP.out HTR.out HST.out ⟨W, U, V, HB.out, HSR.out, HSI.out, HH.out, Ch.refl _ _ _⟩ hltr hltc (by omega) (by omega)).mono ?_
    rintro e w2 ⟨bb, W2, U2, V2, rfl, hF2, hS, hf, hi2, h, C2⟩
    have hP := HNX.out W2 U2 V2 hF2
    have C := HC.out.trans C2
    clear C2 HC HST HB HNX HPP HSR HSI HH a0 a1'
    cases bb
    ·obtain ⟨hI, hz⟩ := hf rfl
     clear hf hi2 hF2
     have HPX := Lib.hid (show ∃ s, Φ s W2 U2 V2 ∧ Pst r c s W2 from ⟨_, hP, by first | exact .inl (by omega) | exact .inr (.inl (by omega)) | exact .inr (.inr fun a b h1 h2 h3 h4 => hz a b (by omega) h2 (by omega) h4)⟩)
     have hbd := HF.out _ _ _ _ hP
     have RES := Lib.hid (show ∃ (t' : Nat), t' ≤ r ∧ t' ≤ c ∧ SmR (MT.of r c (aT p c xs)) U2 W2 V2 ∧ SmI t' r c W2 ∧ (∀ a b, t' ≤ a → a < r → t' ≤ b → b < c → W2 a b = 0) from ⟨t, htr, htc, hS, hI, hz⟩)
     have KA := KA9.out.ch C (.inl hgA); have KD := KD9.out.ch C (.inl hgD); have KU := KU9.out.ch C (.inl hgU); have KV := KV9.out.ch C (.inl hgV)
     have BT := HB9.out.trans ((C.below hl09).mono hw0)
     have HBD := Lib.hid hbd
     clear hP hS hI hz hbd C
     go_upto_region 9 with (fail)
     have bd := dw w2
     have h9 := h.next bd
     replace KA := KA.next bd; replace KD := KD.next bd; replace KU := KU.next bd; replace KV := KV.next bd
     replace BT := BT.trans (bd.mono BT.size)
     have hsz := h9.size
     obtain ⟨RU1, RA⟩ := h9.a; obtain ⟨RU2, RB⟩ := h9.u; obtain ⟨RU3, RC⟩ := h9.v
     obtain ⟨RE1, XA, -, -⟩ := RA; obtain ⟨RE2, XB, -, -⟩ := RB; obtain ⟨RE3, XC, -, -⟩ := RC
     have KW := h9.blk
     have h01 := h9.o1; have h12 := h9.o2; have h23 := h9.o3
     have hgS9 := h9.gs
     have hA2 : gS ≠ g + 1 + 1 := by omega
     have hA3 : gS ≠ g + 1 + 1 + 1 := by omega
     have hA4 : gS ≠ g + 1 + 1 + 1 + 1 := by omega
     have hB2 : g + 1 ≠ g + 1 + 1 := by omega
     have hB3 : g + 1 ≠ g + 1 + 1 + 1 := by omega
     have hB4 : g + 1 ≠ g + 1 + 1 + 1 + 1 := by omega
     have hDU : g + 1 + 1 ≠ g + 1 + 1 + 1 := by omega
     have hDV : g + 1 + 1 ≠ g + 1 + 1 + 1 + 1 := by omega
     have hUD : g + 1 + 1 + 1 ≠ g + 1 + 1 := by omega
     have hUV : g + 1 + 1 + 1 ≠ g + 1 + 1 + 1 + 1 := by omega
     have hVD : g + 1 + 1 + 1 + 1 ≠ g + 1 + 1 := by omega
     have hVU : g + 1 + 1 + 1 + 1 ≠ g + 1 + 1 + 1 := by omega
     clear bd h h9
     have z0 := Lib.hid fun (w : World) (hS : Blk 101 w gS [.int .u64 p, .slice a1 r k1, .slice a2 r k2, .slice a3 c k3, .int .i64 c] ∧ Blk 24 w (g + 1) [.int .i64 r, .int .i64 c, .slice aA xs.length cA]) => And.intro (hS.1.cell 1) (And.intro (hS.1.cell 2) (And.intro (hS.1.cell 3) (And.intro (hS.2.cell 0) (hS.2.cell 1))))
     refine startL (S := (fun w' => Blk 101 w' gS [.int .u64 p, .slice a1 r k1, .slice a2 r k2, .slice a3 c k3, .int .i64 c] ∧ Blk 24 w' (g + 1) [.int .i64 r, .int .i64 c, .slice aA xs.length cA])) (by kernel_rfl) ⟨KW, KA⟩ (fun hHeld => ?_)
     refine tk 0 ?_
     refine tk 1 ?_
     refine tk 2 ?_
     refine tf 3 z0.out ?_
     refine tk 4 ?_
     refine tf 5 z0.out ?_
     refine tk 7 ?_
     refine tk 8 ?_
     refine tk 9 ?_
     refine tf 10 z0.out ?_
     refine tk 11 ?_
     refine tf 12 z0.out ?_
     refine tk 14 ?_
     refine tk 15 ?_
     refine tk 16 ?_
     refine tf 17 z0.out ?_
     refine tk 18 ?_
     refine tf 19 z0.out ?_
     refine on 6 fun K hK => ?_
     go_simp
     go_at_call 73
     (with_reducible refine (xf_matrixE p _ _ (.slice a1 r k1) r c 0 c RU1 RE1 W2 0 (c : Int) XA rfl (by omega) (by omega) (by omega) (by omega)).mono ?_); rintro e n1 ⟨aD, kD, rfl, q1, b1⟩
     refine hK.out _ _ (⟨hHeld.1.next b1, hHeld.2.next b1⟩) (fun hHeld => ?_)
     clear hK K
     try simp only [Act.put, zq1, zq2, zq3]
     refine on 13 fun K hK => ?_
     go_simp
     go_at_call 73
     (with_reducible refine (xf_matrixE p _ _ (.slice a2 r k2) r r 0 r RU2 RE2 U2 0 (r : Int) (XB.next b1) rfl (by omega) (by omega) (by omega) (by omega)).mono ?_); rintro e n2 ⟨aU, kU, rfl, q2, b2⟩
     refine hK.out _ _ (⟨hHeld.1.next b2, hHeld.2.next b2⟩) (fun hHeld => ?_)
     clear hK K
     try simp only [Act.put, zq1, zq2, zq3]
     refine on 20 fun K hK => ?_
     go_simp
     go_at_call 73
     (with_reducible refine (xf_matrixE p _ _ (.slice a3 c k3) c c 0 c RU3 RE3 V2 0 (c : Int) ((XC.next b1).next b2) rfl (by omega) (by omega) (by omega) (by omega)).mono ?_); rintro e n3 ⟨aV, kV, rfl, q3, b3⟩
     refine hK.out _ _ (⟨hHeld.1.next b3, hHeld.2.next b3⟩) (fun hHeld => ?_)
     clear hK K
     try simp only [Act.put, zq1, zq2, zq3]
     refine on 21 fun K hK => ?_
     have BN := ((BT.trans (b1.mono BT.size)).trans (b2.mono (Nat.le_trans BT.size b1.size))).trans (b3.mono (Nat.le_trans (Nat.le_trans BT.size b1.size) b2.size))
     have KD0 := ((KD.next b1).next b2).next b3; have KU0 := ((KU.next b1).next b2).next b3; have KV0 := ((KV.next b1).next b2).next b3
     have XA0 := ((XA.next b1).next b2).next b3; have XB0 := ((XB.next b1).next b2).next b3; have XC0 := ((XC.next b1).next b2).next b3
     have e0 := KD0.cell 0; have e1 := KD0.cell 1; have e2 := KD0.cell 2
     have f0 := KD0.free 0; have f1 := KD0.free 1; have f2 := KD0.free 2
     have e3 := KU0.cell 0; have e4 := KU0.cell 1; have e5 := KU0.cell 2
     have f3 := KU0.free 0; have f4 := KU0.free 1; have f5 := KU0.free 2
     have e6 := KV0.cell 0; have e7 := KV0.cell 1; have e8 := KV0.cell 2
     have f6 := KV0.free 0; have f7 := KV0.free 1; have f8 := KV0.free 2
     have D3 := (((((((((KD0.set 0 (.int .i64 r)).set 1 (.int .i64 c)).set 2 (.slice aD (r * c) kD)).far (a := ⟨g + 1 + 1 + 1, 0, none⟩) hDU (.int .i64 r)).far (a := ⟨g + 1 + 1 + 1, 1, none⟩) hDU (.int .i64 r)).far (a := ⟨g + 1 + 1 + 1, 2, none⟩) hDU (.slice aU (r * r) kU)).far (a := ⟨g + 1 + 1 + 1 + 1, 0, none⟩) hDV (.int .i64 c)).far (a := ⟨g + 1 + 1 + 1 + 1, 1, none⟩) hDV (.int .i64 c)).far (a := ⟨g + 1 + 1 + 1 + 1, 2, none⟩) hDV (.slice aV (c * c) kV))
     have U3 := (((((((((KU0.far (a := ⟨g + 1 + 1, 0, none⟩) hUD (.int .i64 r)).far (a := ⟨g + 1 + 1, 1, none⟩) hUD (.int .i64 c)).far (a := ⟨g + 1 + 1, 2, none⟩) hUD (.slice aD (r * c) kD)).set 0 (.int .i64 r)).set 1 (.int .i64 r)).set 2 (.slice aU (r * r) kU)).far (a := ⟨g + 1 + 1 + 1 + 1, 0, none⟩) hUV (.int .i64 c)).far (a := ⟨g + 1 + 1 + 1 + 1, 1, none⟩) hUV (.int .i64 c)).far (a := ⟨g + 1 + 1 + 1 + 1, 2, none⟩) hUV (.slice aV (c * c) kV))
     have V3 := ((((((((KV0.far (a := ⟨g + 1 + 1, 0, none⟩) hVD (.int .i64 r)).far (a := ⟨g + 1 + 1, 1, none⟩) hVD (.int .i64 c)).far (a := ⟨g + 1 + 1, 2, none⟩) hVD (.slice aD (r * c) kD)).far (a := ⟨g + 1 + 1 + 1, 0, none⟩) hVU (.int .i64 r)).far (a := ⟨g + 1 + 1 + 1, 1, none⟩) hVU (.int .i64 r)).far (a := ⟨g + 1 + 1 + 1, 2, none⟩) hVU (.slice aU (r * r) kU)).set 0 (.int .i64 c)).set 1 (.int .i64 c)).set 2 (.slice aV (c * c) kV)
     have d0 := D3.cell 0; have d1 := D3.cell 1; have d2 := D3.cell 2; have d3 := U3.cell 0; have d4 := U3.cell 1; have d5 := U3.cell 2; have d6 := V3.cell 0; have d7 := V3.cell 1; have d8 := V3.cell 2
     have Q1 := qls_of HP.out.pos XA0 (show 0 + c ≤ c by omega) HBD.out.1 (rowOwn_mono (rowOwn_next (rowOwn_next q1 b2 (Nat.le_refl _)) b3 (Nat.le_refl _)) (show l0 ≤ _ by omega)) (Nat.le_refl _)
     have Q2 := qls_of HP.out.pos XB0 (show 0 + r ≤ r by omega) HBD.out.2.1 (rowOwn_mono (rowOwn_next q2 b3 (Nat.le_refl _)) (show l0 ≤ _ by have := b1.size; omega)) h01
     have Q3 := qls_of HP.out.pos XC0 (show 0 + c ≤ c by omega) HBD.out.2.2 (rowOwn_mono q3 (show l0 ≤ _ by have := b1.size; have := b2.size; omega)) (Nat.le_trans h01 h12)
     obtain ⟨t', hr1, hr2, hr3, hr4, hr5⟩ := RES.out
     have hwg : w.heap.size ≤ g := by have := EG.out; omega
     have FIN := Lib.hid (show PQ (.returned (.tuple #[.agg #[.int .i64 r, .int .i64 c, .slice aD (r * c) kD], .agg #[.int .i64 r, .int .i64 r, .slice aU (r * r) kU], .agg #[.int .i64 c, .int .i64 c, .slice aV (c * c) kV], .int .i64 0])) (((((((((n3.setCell ⟨g + 1 + 1, 0, none⟩ (.int .i64 r)).setCell ⟨g + 1 + 1, 1, none⟩ (.int .i64 c)).setCell ⟨g + 1 + 1, 2, none⟩ (.slice aD (r * c) kD)).setCell ⟨g + 1 + 1 + 1, 0, none⟩ (.int .i64 r)).setCell ⟨g + 1 + 1 + 1, 1, none⟩ (.int .i64 r)).setCell ⟨g + 1 + 1 + 1, 2, none⟩ (.slice aU (r * r) kU)).setCell ⟨g + 1 + 1 + 1 + 1, 0, none⟩ (.int .i64 c)).setCell ⟨g + 1 + 1 + 1 + 1, 1, none⟩ (.int .i64 c)).setCell ⟨g + 1 + 1 + 1 + 1, 2, none⟩ (.slice aV (c * c) kV)) by
      rw [EPQ.out]
      exact ⟨t', W2, U2, V2, HPX.out, hr1, hr2, hr3, hr4, hr5, aD, kD, _, aU, kU, _, aV, kV, _, rfl, ((((((((((Q1.low (a := ⟨g + 1 + 1, 0, none⟩) hgD _).low (a := ⟨g + 1 + 1, 1, none⟩) hgD _).low (a := ⟨g + 1 + 1, 2, none⟩) hgD _).low (a := ⟨g + 1 + 1 + 1, 0, none⟩) hgU _).low (a := ⟨g + 1 + 1 + 1, 1, none⟩) hgU _).low (a := ⟨g + 1 + 1 + 1, 2, none⟩) hgU _).low (a := ⟨g + 1 + 1 + 1 + 1, 0, none⟩) hgV _).low (a := ⟨g + 1 + 1 + 1 + 1, 1, none⟩) hgV _).low (a := ⟨g + 1 + 1 + 1 + 1, 2, none⟩) hgV _)).mono hw0, ((((((((((Q2.low (a := ⟨g + 1 + 1, 0, none⟩) hgD _).low (a := ⟨g + 1 + 1, 1, none⟩) hgD _).low (a := ⟨g + 1 + 1, 2, none⟩) hgD _).low (a := ⟨g + 1 + 1 + 1, 0, none⟩) hgU _).low (a := ⟨g + 1 + 1 + 1, 1, none⟩) hgU _).low (a := ⟨g + 1 + 1 + 1, 2, none⟩) hgU _).low (a := ⟨g + 1 + 1 + 1 + 1, 0, none⟩) hgV _).low (a := ⟨g + 1 + 1 + 1 + 1, 1, none⟩) hgV _).low (a := ⟨g + 1 + 1 + 1 + 1, 2, none⟩) hgV _)).mono hw0, ((((((((((Q3.low (a := ⟨g + 1 + 1, 0, none⟩) hgD _).low (a := ⟨g + 1 + 1, 1, none⟩) hgD _).low (a := ⟨g + 1 + 1, 2, none⟩) hgD _).low (a := ⟨g + 1 + 1 + 1, 0, none⟩) hgU _).low (a := ⟨g + 1 + 1 + 1, 1, none⟩) hgU _).low (a := ⟨g + 1 + 1 + 1, 2, none⟩) hgU _).low (a := ⟨g + 1 + 1 + 1 + 1, 0, none⟩) hgV _).low (a := ⟨g + 1 + 1 + 1 + 1, 1, none⟩) hgV _).low (a := ⟨g + 1 + 1 + 1 + 1, 2, none⟩) hgV _)).mono hw0, (((((((((BN.setCell (p := ⟨g + 1 + 1, 0, none⟩) (by simp; omega) _).setCell (p := ⟨g + 1 + 1, 1, none⟩) (by simp; omega) _).setCell (p := ⟨g + 1 + 1, 2, none⟩) (by simp; omega) _).setCell (p := ⟨g + 1 + 1 + 1, 0, none⟩) (by simp; omega) _).setCell (p := ⟨g + 1 + 1 + 1, 1, none⟩) (by simp; omega) _).setCell (p := ⟨g + 1 + 1 + 1, 2, none⟩) (by simp; omega) _).setCell (p := ⟨g + 1 + 1 + 1 + 1, 0, none⟩) (by simp; omega) _).setCell (p := ⟨g + 1 + 1 + 1 + 1, 1, none⟩) (by simp; omega) _).setCell (p := ⟨g + 1 + 1 + 1 + 1, 2, none⟩) (by simp; omega) _)⟩)
     clear Q1 Q2 Q3 D3 U3 V3 KD0 KU0 KV0 XA0 XB0 XC0 XA XB XC KW BN BT hr3 hr4 hr5
     go_simp
     refine hK.out _ _ ⟨((hHeld.1.far (a := ⟨g + 1 + 1, 0, none⟩) hA2 _).far (a := ⟨g + 1 + 1, 1, none⟩) hA2 _).far (a := ⟨g + 1 + 1, 2, none⟩) hA2 _, ((hHeld.2.far (a := ⟨g + 1 + 1, 0, none⟩) hB2 _).far (a := ⟨g + 1 + 1, 1, none⟩) hB2 _).far (a := ⟨g + 1 + 1, 2, none⟩) hB2 _⟩ (fun hHeld => ?_)
     clear hK K e0 e1 e2 f0 f1 f2
     try simp only [Act.put, zq1, zq2, zq3]
     refine on 22 fun K hK => ?_
     go_simp
     refine hK.out _ _ ⟨((hHeld.1.far (a := ⟨g + 1 + 1 + 1, 0, none⟩) hA3 _).far (a := ⟨g + 1 + 1 + 1, 1, none⟩) hA3 _).far (a := ⟨g + 1 + 1 + 1, 2, none⟩) hA3 _, ((hHeld.2.far (a := ⟨g + 1 + 1 + 1, 0, none⟩) hB3 _).far (a := ⟨g + 1 + 1 + 1, 1, none⟩) hB3 _).far (a := ⟨g + 1 + 1 + 1, 2, none⟩) hB3 _⟩ (fun hHeld => ?_)
     clear hK K e3 e4 e5 f3 f4 f5
     try simp only [Act.put, zq1, zq2, zq3]
     refine on 23 fun K hK => ?_
     go_simp
     refine hK.out _ _ ⟨((hHeld.1.far (a := ⟨g + 1 + 1 + 1 + 1, 0, none⟩) hA4 _).far (a := ⟨g + 1 + 1 + 1 + 1, 1, none⟩) hA4 _).far (a := ⟨g + 1 + 1 + 1 + 1, 2, none⟩) hA4 _, ((hHeld.2.far (a := ⟨g + 1 + 1 + 1 + 1, 0, none⟩) hB4 _).far (a := ⟨g + 1 + 1 + 1 + 1, 1, none⟩) hB4 _).far (a := ⟨g + 1 + 1 + 1 + 1, 2, none⟩) hB4 _⟩ (fun hHeld => ?_)
     clear hK K
     try simp only [Act.put, zq1, zq2, zq3]
     refine tk 24 ?_
     clear z0; refine doneL (by kernel_rfl) ?_ _
     clear KA KD KU KV hHeld q1 q2 q3
     go_wp2
     exact bodyPost_ret (v := (.tuple #[.agg #[.int .i64 r, .int .i64 c, .slice aD (r * c) kD], .agg #[.int .i64 r, .int .i64 r, .slice aU (r * r) kU], .agg #[.int .i64 c, .int .i64 c, .slice aV (c * c) kV], .int .i64 0])) (by simp [results, Try.results19, go_sem, d0, d1, d2, d3, d4, d5, d6, d7, d8]) rfl FIN.out
    ·have hI := hi2 rfl
     have F1 := Lib.hid hP; have F2 := Lib.hid hS; have F3 := Lib.hid hI; have F4 := Lib.hid h; have F5 := Lib.hid C
     clear hf hi2 hF2 hP hS hI h C
     go_wp2
     go_roundw
     case rel => exact ⟨t + 1, _, _, _, by omega, by omega, by go_num, F1.out, F2.out, F3.out, F4.out, F5.out⟩
     case measure => simp [intOf] <;> omega
   ·have hlt0 : ¬ t < r := hltr
    have hS := HSR.out; have hI := HSI.out; have hP := HPP.out; have h := HH.out; have C := HC.out
    clear HSR HSI HPP HH HC
    have hz : ∀ a b, t ≤ a → a < r → t ≤ b → b < c → W a b = 0 := fun a b h1 h2 h3 h4 => by omega
    have HPX := Lib.hid (show ∃ s, Φ s W U V ∧ Pst r c s W from ⟨_, hP, by first | exact .inl (by omega) | exact .inr (.inl (by omega)) | exact .inr (.inr fun a b h1 h2 h3 h4 => hz a b (by omega) h2 (by omega) h4)⟩)
    have hbd := HF.out _ _ _ _ hP
    have RES := Lib.hid (show ∃ (t' : Nat), t' ≤ r ∧ t' ≤ c ∧ SmR (MT.of r c (aT p c xs)) U W V ∧ SmI t' r c W ∧ (∀ a b, t' ≤ a → a < r → t' ≤ b → b < c → W a b = 0) from ⟨t, htr, htc, hS, hI, hz⟩)
    have KA := KA9.out.ch C (.inl hgA); have KD := KD9.out.ch C (.inl hgD); have KU := KU9.out.ch C (.inl hgU); have KV := KV9.out.ch C (.inl hgV)
    have BT := HB9.out.trans ((C.below hl09).mono hw0)
    have HBD := Lib.hid hbd
    clear hP hS hI hz hbd C
    go_upto_region 9 with (fail)
    have bd := dw wr
    have h9 := h.next bd
    replace KA := KA.next bd; replace KD := KD.next bd; replace KU := KU.next bd; replace KV := KV.next bd
    replace BT := BT.trans (bd.mono BT.size)
    have hsz := h9.size
    obtain ⟨RU1, RA⟩ := h9.a; obtain ⟨RU2, RB⟩ := h9.u; obtain ⟨RU3, RC⟩ := h9.v
    obtain ⟨RE1, XA, -, -⟩ := RA; obtain ⟨RE2, XB, -, -⟩ := RB; obtain ⟨RE3, XC, -, -⟩ := RC
    have KW := h9.blk
    have h01 := h9.o1; have h12 := h9.o2; have h23 := h9.o3
    have hgS9 := h9.gs
    have hA2 : gS ≠ g + 1 + 1 := by omega
    have hA3 : gS ≠ g + 1 + 1 + 1 := by omega
    have hA4 : gS ≠ g + 1 + 1 + 1 + 1 := by omega
    have hB2 : g + 1 ≠ g + 1 + 1 := by omega
    have hB3 : g + 1 ≠ g + 1 + 1 + 1 := by omega
    have hB4 : g + 1 ≠ g + 1 + 1 + 1 + 1 := by omega
    have hDU : g + 1 + 1 ≠ g + 1 + 1 + 1 := by omega
    have hDV : g + 1 + 1 ≠ g + 1 + 1 + 1 + 1 := by omega
    have hUD : g + 1 + 1 + 1 ≠ g + 1 + 1 := by omega
    have hUV : g + 1 + 1 + 1 ≠ g + 1 + 1 + 1 + 1 := by omega
    have hVD : g + 1 + 1 + 1 + 1 ≠ g + 1 + 1 := by omega
    have hVU : g + 1 + 1 + 1 + 1 ≠ g + 1 + 1 + 1 := by omega
    clear bd h h9
    have z0 := Lib.hid fun (w : World) (hS : Blk 101 w gS [.int .u64 p, .slice a1 r k1, .slice a2 r k2, .slice a3 c k3, .int .i64 c] ∧ Blk 24 w (g + 1) [.int .i64 r, .int .i64 c, .slice aA xs.length cA]) => And.intro (hS.1.cell 1) (And.intro (hS.1.cell 2) (And.intro (hS.1.cell 3) (And.intro (hS.2.cell 0) (hS.2.cell 1))))
    refine startL (S := (fun w' => Blk 101 w' gS [.int .u64 p, .slice a1 r k1, .slice a2 r k2, .slice a3 c k3, .int .i64 c] ∧ Blk 24 w' (g + 1) [.int .i64 r, .int .i64 c, .slice aA xs.length cA])) (by kernel_rfl) ⟨KW, KA⟩ (fun hHeld => ?_)
    refine tk 0 ?_
    refine tk 1 ?_
    refine tk 2 ?_
    refine tf 3 z0.out ?_
    refine tk 4 ?_
    refine tf 5 z0.out ?_
    refine tk 7 ?_
    refine tk 8 ?_
    refine tk 9 ?_
    refine tf 10 z0.out ?_
    refine tk 11 ?_
    refine tf 12 z0.out ?_
    refine tk 14 ?_
    refine tk 15 ?_
    refine tk 16 ?_
    refine tf 17 z0.out ?_
    refine tk 18 ?_
    refine tf 19 z0.out ?_
    refine on 6 fun K hK => ?_
    go_simp
    go_at_call 73
    (with_reducible refine (xf_matrixE p _ _ (.slice a1 r k1) r c 0 c RU1 RE1 W 0 (c : Int) XA rfl (by omega) (by omega) (by omega) (by omega)).mono ?_); rintro e n1 ⟨aD, kD, rfl, q1, b1⟩
    refine hK.out _ _ (⟨hHeld.1.next b1, hHeld.2.next b1⟩) (fun hHeld => ?_)
    clear hK K
    try simp only [Act.put, zq1, zq2, zq3]
    refine on 13 fun K hK => ?_
    go_simp
    go_at_call 73
    (with_reducible refine (xf_matrixE p _ _ (.slice a2 r k2) r r 0 r RU2 RE2 U 0 (r : Int) (XB.next b1) rfl (by omega) (by omega) (by omega) (by omega)).mono ?_); rintro e n2 ⟨aU, kU, rfl, q2, b2⟩
    refine hK.out _ _ (⟨hHeld.1.next b2, hHeld.2.next b2⟩) (fun hHeld => ?_)
    clear hK K
    try simp only [Act.put, zq1, zq2, zq3]
    refine on 20 fun K hK => ?_
    go_simp
    go_at_call 73
    (with_reducible refine (xf_matrixE p _ _ (.slice a3 c k3) c c 0 c RU3 RE3 V 0 (c : Int) ((XC.next b1).next b2) rfl (by omega) (by omega) (by omega) (by omega)).mono ?_); rintro e n3 ⟨aV, kV, rfl, q3, b3⟩
    refine hK.out _ _ (⟨hHeld.1.next b3, hHeld.2.next b3⟩) (fun hHeld => ?_)
    clear hK K
    try simp only [Act.put, zq1, zq2, zq3]
    refine on 21 fun K hK => ?_
    have BN := ((BT.trans (b1.mono BT.size)).trans (b2.mono (Nat.le_trans BT.size b1.size))).trans (b3.mono (Nat.le_trans (Nat.le_trans BT.size b1.size) b2.size))
    have KD0 := ((KD.next b1).next b2).next b3; have KU0 := ((KU.next b1).next b2).next b3; have KV0 := ((KV.next b1).next b2).next b3
    have XA0 := ((XA.next b1).next b2).next b3; have XB0 := ((XB.next b1).next b2).next b3; have XC0 := ((XC.next b1).next b2).next b3
    have e0 := KD0.cell 0; have e1 := KD0.cell 1; have e2 := KD0.cell 2
    have f0 := KD0.free 0; have f1 := KD0.free 1; have f2 := KD0.free 2
    have e3 := KU0.cell 0; have e4 := KU0.cell 1; have e5 := KU0.cell 2
    have f3 := KU0.free 0; have f4 := KU0.free 1; have f5 := KU0.free 2
    have e6 := KV0.cell 0; have e7 := KV0.cell 1; have e8 := KV0.cell 2
    have f6 := KV0.free 0; have f7 := KV0.free 1; have f8 := KV0.free 2
    have D3 := (((((((((KD0.set 0 (.int .i64 r)).set 1 (.int .i64 c)).set 2 (.slice aD (r * c) kD)).far (a := ⟨g + 1 + 1 + 1, 0, none⟩) hDU (.int .i64 r)).far (a := ⟨g + 1 + 1 + 1, 1, none⟩) hDU (.int .i64 r)).far (a := ⟨g + 1 + 1 + 1, 2, none⟩) hDU (.slice aU (r * r) kU)).far (a := ⟨g + 1 + 1 + 1 + 1, 0, none⟩) hDV (.int .i64 c)).far (a := ⟨g + 1 + 1 + 1 + 1, 1, none⟩) hDV (.int .i64 c)).far (a := ⟨g + 1 + 1 + 1 + 1, 2, none⟩) hDV (.slice aV (c * c) kV))
    have U3 := (((((((((KU0.far (a := ⟨g + 1 + 1, 0, none⟩) hUD (.int .i64 r)).far (a := ⟨g + 1 + 1, 1, none⟩) hUD (.int .i64 c)).far (a := ⟨g + 1 + 1, 2, none⟩) hUD (.slice aD (r * c) kD)).set 0 (.int .i64 r)).set 1 (.int .i64 r)).set 2 (.slice aU (r * r) kU)).far (a := ⟨g + 1 + 1 + 1 + 1, 0, none⟩) hUV (.int .i64 c)).far (a := ⟨g + 1 + 1 + 1 + 1, 1, none⟩) hUV (.int .i64 c)).far (a := ⟨g + 1 + 1 + 1 + 1, 2, none⟩) hUV (.slice aV (c * c) kV))
    have V3 := ((((((((KV0.far (a := ⟨g + 1 + 1, 0, none⟩) hVD (.int .i64 r)).far (a := ⟨g + 1 + 1, 1, none⟩) hVD (.int .i64 c)).far (a := ⟨g + 1 + 1, 2, none⟩) hVD (.slice aD (r * c) kD)).far (a := ⟨g + 1 + 1 + 1, 0, none⟩) hVU (.int .i64 r)).far (a := ⟨g + 1 + 1 + 1, 1, none⟩) hVU (.int .i64 r)).far (a := ⟨g + 1 + 1 + 1, 2, none⟩) hVU (.slice aU (r * r) kU)).set 0 (.int .i64 c)).set 1 (.int .i64 c)).set 2 (.slice aV (c * c) kV)
    have d0 := D3.cell 0; have d1 := D3.cell 1; have d2 := D3.cell 2; have d3 := U3.cell 0; have d4 := U3.cell 1; have d5 := U3.cell 2; have d6 := V3.cell 0; have d7 := V3.cell 1; have d8 := V3.cell 2
    have Q1 := qls_of HP.out.pos XA0 (show 0 + c ≤ c by omega) HBD.out.1 (rowOwn_mono (rowOwn_next (rowOwn_next q1 b2 (Nat.le_refl _)) b3 (Nat.le_refl _)) (show l0 ≤ _ by omega)) (Nat.le_refl _)
    have Q2 := qls_of HP.out.pos XB0 (show 0 + r ≤ r by omega) HBD.out.2.1 (rowOwn_mono (rowOwn_next q2 b3 (Nat.le_refl _)) (show l0 ≤ _ by have := b1.size; omega)) h01
    have Q3 := qls_of HP.out.pos XC0 (show 0 + c ≤ c by omega) HBD.out.2.2 (rowOwn_mono q3 (show l0 ≤ _ by have := b1.size; have := b2.size; omega)) (Nat.le_trans h01 h12)
    obtain ⟨t', hr1, hr2, hr3, hr4, hr5⟩ := RES.out
    have hwg : w.heap.size ≤ g := by have := EG.out; omega
    have FIN := Lib.hid (show PQ (.returned (.tuple #[.agg #[.int .i64 r, .int .i64 c, .slice aD (r * c) kD], .agg #[.int .i64 r, .int .i64 r, .slice aU (r * r) kU], .agg #[.int .i64 c, .int .i64 c, .slice aV (c * c) kV], .int .i64 0])) (((((((((n3.setCell ⟨g + 1 + 1, 0, none⟩ (.int .i64 r)).setCell ⟨g + 1 + 1, 1, none⟩ (.int .i64 c)).setCell ⟨g + 1 + 1, 2, none⟩ (.slice aD (r * c) kD)).setCell ⟨g + 1 + 1 + 1, 0, none⟩ (.int .i64 r)).setCell ⟨g + 1 + 1 + 1, 1, none⟩ (.int .i64 r)).setCell ⟨g + 1 + 1 + 1, 2, none⟩ (.slice aU (r * r) kU)).setCell ⟨g + 1 + 1 + 1 + 1, 0, none⟩ (.int .i64 c)).setCell ⟨g + 1 + 1 + 1 + 1, 1, none⟩ (.int .i64 c)).setCell ⟨g + 1 + 1 + 1 + 1, 2, none⟩ (.slice aV (c * c) kV)) by
     rw [EPQ.out]
     exact ⟨t', W, U, V, HPX.out, hr1, hr2, hr3, hr4, hr5, aD, kD, _, aU, kU, _, aV, kV, _, rfl, ((((((((((Q1.low (a := ⟨g + 1 + 1, 0, none⟩) hgD _).low (a := ⟨g + 1 + 1, 1, none⟩) hgD _).low (a := ⟨g + 1 + 1, 2, none⟩) hgD _).low (a := ⟨g + 1 + 1 + 1, 0, none⟩) hgU _).low (a := ⟨g + 1 + 1 + 1, 1, none⟩) hgU _).low (a := ⟨g + 1 + 1 + 1, 2, none⟩) hgU _).low (a := ⟨g + 1 + 1 + 1 + 1, 0, none⟩) hgV _).low (a := ⟨g + 1 + 1 + 1 + 1, 1, none⟩) hgV _).low (a := ⟨g + 1 + 1 + 1 + 1, 2, none⟩) hgV _)).mono hw0, ((((((((((Q2.low (a := ⟨g + 1 + 1, 0, none⟩) hgD _).low (a := ⟨g + 1 + 1, 1, none⟩) hgD _).low (a := ⟨g + 1 + 1, 2, none⟩) hgD _).low (a := ⟨g + 1 + 1 + 1, 0, none⟩) hgU _).low (a := ⟨g + 1 + 1 + 1, 1, none⟩) hgU _).low (a := ⟨g + 1 + 1 + 1, 2, none⟩) hgU _).low (a := ⟨g + 1 + 1 + 1 + 1, 0, none⟩) hgV _).low (a := ⟨g + 1 + 1 + 1 + 1, 1, none⟩) hgV _).low (a := ⟨g + 1 + 1 + 1 + 1, 2, none⟩) hgV _)).mono hw0, ((((((((((Q3.low (a := ⟨g + 1 + 1, 0, none⟩) hgD _).low (a := ⟨g + 1 + 1, 1, none⟩) hgD _).low (a := ⟨g + 1 + 1, 2, none⟩) hgD _).low (a := ⟨g + 1 + 1 + 1, 0, none⟩) hgU _).low (a := ⟨g + 1 + 1 + 1, 1, none⟩) hgU _).low (a := ⟨g + 1 + 1 + 1, 2, none⟩) hgU _).low (a := ⟨g + 1 + 1 + 1 + 1, 0, none⟩) hgV _).low (a := ⟨g + 1 + 1 + 1 + 1, 1, none⟩) hgV _).low (a := ⟨g + 1 + 1 + 1 + 1, 2, none⟩) hgV _)).mono hw0, (((((((((BN.setCell (p := ⟨g + 1 + 1, 0, none⟩) (by simp; omega) _).setCell (p := ⟨g + 1 + 1, 1, none⟩) (by simp; omega) _).setCell (p := ⟨g + 1 + 1, 2, none⟩) (by simp; omega) _).setCell (p := ⟨g + 1 + 1 + 1, 0, none⟩) (by simp; omega) _).setCell (p := ⟨g + 1 + 1 + 1, 1, none⟩) (by simp; omega) _).setCell (p := ⟨g + 1 + 1 + 1, 2, none⟩) (by simp; omega) _).setCell (p := ⟨g + 1 + 1 + 1 + 1, 0, none⟩) (by simp; omega) _).setCell (p := ⟨g + 1 + 1 + 1 + 1, 1, none⟩) (by simp; omega) _).setCell (p := ⟨g + 1 + 1 + 1 + 1, 2, none⟩) (by simp; omega) _)⟩)
    clear Q1 Q2 Q3 D3 U3 V3 KD0 KU0 KV0 XA0 XB0 XC0 XA XB XC KW BN BT hr3 hr4 hr5
    go_simp
    refine hK.out _ _ ⟨((hHeld.1.far (a := ⟨g + 1 + 1, 0, none⟩) hA2 _).far (a := ⟨g + 1 + 1, 1, none⟩) hA2 _).far (a := ⟨g + 1 + 1, 2, none⟩) hA2 _, ((hHeld.2.far (a := ⟨g + 1 + 1, 0, none⟩) hB2 _).far (a := ⟨g + 1 + 1, 1, none⟩) hB2 _).far (a := ⟨g + 1 + 1, 2, none⟩) hB2 _⟩ (fun hHeld => ?_)
    clear hK K e0 e1 e2 f0 f1 f2
    try simp only [Act.put, zq1, zq2, zq3]
    refine on 22 fun K hK => ?_
    go_simp
    refine hK.out _ _ ⟨((hHeld.1.far (a := ⟨g + 1 + 1 + 1, 0, none⟩) hA3 _).far (a := ⟨g + 1 + 1 + 1, 1, none⟩) hA3 _).far (a := ⟨g + 1 + 1 + 1, 2, none⟩) hA3 _, ((hHeld.2.far (a := ⟨g + 1 + 1 + 1, 0, none⟩) hB3 _).far (a := ⟨g + 1 + 1 + 1, 1, none⟩) hB3 _).far (a := ⟨g + 1 + 1 + 1, 2, none⟩) hB3 _⟩ (fun hHeld => ?_)
    clear hK K e3 e4 e5 f3 f4 f5
    try simp only [Act.put, zq1, zq2, zq3]
    refine on 23 fun K hK => ?_
    go_simp
    refine hK.out _ _ ⟨((hHeld.1.far (a := ⟨g + 1 + 1 + 1 + 1, 0, none⟩) hA4 _).far (a := ⟨g + 1 + 1 + 1 + 1, 1, none⟩) hA4 _).far (a := ⟨g + 1 + 1 + 1 + 1, 2, none⟩) hA4 _, ((hHeld.2.far (a := ⟨g + 1 + 1 + 1 + 1, 0, none⟩) hB4 _).far (a := ⟨g + 1 + 1 + 1 + 1, 1, none⟩) hB4 _).far (a := ⟨g + 1 + 1 + 1 + 1, 2, none⟩) hB4 _⟩ (fun hHeld => ?_)
    clear hK K
    try simp only [Act.put, zq1, zq2, zq3]
    refine tk 24 ?_
    clear z0; refine doneL (by kernel_rfl) ?_ _
    clear KA KD KU KV hHeld q1 q2 q3
    go_wp2
    exact bodyPost_ret (v := (.tuple #[.agg #[.int .i64 r, .int .i64 c, .slice aD (r * c) kD], .agg #[.int .i64 r, .int .i64 r, .slice aU (r * r) kU], .agg #[.int .i64 c, .int .i64 c, .slice aV (c * c) kV], .int .i64 0])) (by simp [results, Try.results19, go_sem, d0, d1, d2, d3, d4, d5, d6, d7, d8]) rfl FIN.out
end Go.Proofs.Ytkmfhabgempjiaa
