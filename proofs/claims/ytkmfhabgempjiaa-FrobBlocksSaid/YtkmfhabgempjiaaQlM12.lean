/- xform: a row and a column are cleared. -/
import Derived.Test.YtkmfhabgempjiaaQlM11
import Derived.Test.YtkmfhabgempjiaaQlM9
namespace Go.Proofs.Ytkmfhabgempjiaa
set_option maxHeartbeats 4000000
open Go.RowKit
section
variable {p : Nat}
def clR (t i : Nat) (q : Nat → Pol (Zp p)) (W : Nat → Nat → Pol (Zp p)) : Nat → Nat → Pol (Zp p) := fun a b => if t < a ∧ a < i then W a b + -q a * W t b else W a b
def clC (t k : Nat) (q : Nat → Pol (Zp p)) (W : Nat → Nat → Pol (Zp p)) : Nat → Nat → Pol (Zp p) := fun a b => if t < b ∧ b < k then W a b + -q b * W a t else W a b
def updq (q : Nat → Pol (Zp p)) (i : Nat) (x : Pol (Zp p)) : Nat → Pol (Zp p) := fun a => if a = i then x else q a
theorem clR_start (t : Nat) (q : Nat → Pol (Zp p)) (W : Nat → Nat → Pol (Zp p)) : clR t (t + 1) q W = W := by
 funext a b; unfold clR; rw [if_neg (by omega)]
theorem clC_start (t : Nat) (q : Nat → Pol (Zp p)) (W : Nat → Nat → Pol (Zp p)) : clC t (t + 1) q W = W := by
 funext a b; unfold clC; rw [if_neg (by omega)]
theorem clR_step {t i : Nat} (ht : t < i) (q : Nat → Pol (Zp p)) (x : Pol (Zp p)) (W : Nat → Nat → Pol (Zp p)) : clR t (i + 1) (updq q i x) W = adR (clR t i q W) i t (-x) := by
 funext a b
 unfold clR adR updq
 dsimp only
 by_cases h1 : a = i
 ·subst h1
  rw [if_pos ⟨ht, by omega⟩, if_pos rfl, if_pos rfl, if_neg (by omega), if_neg (by omega)]
 ·rw [if_neg h1, if_neg h1]
  by_cases h2 : t < a ∧ a < i
  ·rw [if_pos ⟨h2.1, by omega⟩, if_pos h2]
  ·rw [if_neg (by omega), if_neg h2]
theorem clC_step {t i : Nat} (ht : t < i) (q : Nat → Pol (Zp p)) (x : Pol (Zp p)) (W : Nat → Nat → Pol (Zp p)) : clC t (i + 1) (updq q i x) W = adC (clC t i q W) i t (-x) := by
 funext a b
 unfold clC adC updq
 dsimp only
 by_cases h1 : b = i
 ·subst h1
  rw [if_pos ⟨ht, by omega⟩, if_pos rfl, if_pos rfl, if_neg (by omega), if_neg (by omega)]
 ·rw [if_neg h1, if_neg h1]
  by_cases h2 : t < b ∧ b < i
  ·rw [if_pos ⟨h2.1, by omega⟩, if_pos h2]
  ·rw [if_neg (by omega), if_neg h2]
structure ClD (t i L : Nat) (g : Pol (Zp p)) (f q r : Nat → Pol (Zp p)) : Prop where
 div : ∀ a, t < a → a < i → f a = q a * g + r a
 rem : ∀ a, t < a → a < i → Dl (r a) g
 len : ∀ a, t < a → a < i → (q a).dlt L
theorem ClD.start (t L : Nat) (g : Pol (Zp p)) (f q r : Nat → Pol (Zp p)) : ClD t (t + 1) L g f q r := ⟨fun a h1 h2 => by omega, fun a h1 h2 => by omega, fun a h1 h2 => by omega⟩
theorem ClD.step {t i L : Nat} {g : Pol (Zp p)} {f q r : Nat → Pol (Zp p)} (h : ClD t i L g f q r) {x y : Pol (Zp p)} (h1 : f i = x * g + y) (h2 : Dl y g) (h3 : x.dlt L) : ClD t (i + 1) L g f (updq q i x) (updq r i y) := by
 unfold updq
 refine ⟨fun a a1 a2 => ?_, fun a a1 a2 => ?_, fun a a1 a2 => ?_⟩
 ·by_cases e : a = i
  ·rw [if_pos e, if_pos e, e]; exact h1
  ·rw [if_neg e, if_neg e]; exact h.div a a1 (by omega)
 ·by_cases e : a = i
  ·rw [if_pos e]; exact h2
  ·rw [if_neg e]; exact h.rem a a1 (by omega)
 ·by_cases e : a = i
  ·rw [if_pos e]; exact h3
  ·rw [if_neg e]; exact h.len a a1 (by omega)
theorem updq_zero {t i : Nat} {r : Nat → Pol (Zp p)} {y : Pol (Zp p)} (hi : t < i) : (∀ a, t < a → a < i + 1 → updq r i y a = 0) ↔ (∀ a, t < a → a < i → r a = 0) ∧ y = 0 := by
 unfold updq
 constructor
 ·intro h
  refine ⟨fun a a1 a2 => ?_, ?_⟩
  ·have := h a a1 (by omega)
   rwa [if_neg (by omega)] at this
  ·have := h i hi (by omega)
   rwa [if_pos rfl] at this
 ·rintro ⟨h1, h2⟩ a a1 a2
  by_cases e : a = i
  ·rw [if_pos e]; exact h2
  ·rw [if_neg e]; exact h1 a a1 (by omega)
theorem clR_dlt {t i n M L B : Nat} {g : Pol (Zp p)} {f q r : Nat → Pol (Zp p)} {W : Nat → Nat → Pol (Zp p)} (h : ClD t i L g f q r) (htn : t < n) (hb : ∀ a b, a < n → b < M → (W a b).dlt B) : ∀ a b, a < n → b < M → (clR t i q W a b).dlt (L + B) := fun a b ha hb' => by
 unfold clR
 split
 ·rename_i h1
  exact dlt_add (dlt_mono (hb a b ha hb') (by omega)) (mul_dlt (dlt_neg (h.len a h1.1 h1.2)) (hb t b htn hb'))
 ·exact dlt_mono (hb a b ha hb') (by omega)
theorem clC_dlt {t i n M L B : Nat} {g : Pol (Zp p)} {f q r : Nat → Pol (Zp p)} {W : Nat → Nat → Pol (Zp p)} (h : ClD t i L g f q r) (htm : t < M) (hb : ∀ a b, a < n → b < M → (W a b).dlt B) : ∀ a b, a < n → b < M → (clC t i q W a b).dlt (L + B) := fun a b ha hb' => by
 unfold clC
 split
 ·rename_i h1
  exact dlt_add (dlt_mono (hb a b ha hb') (by omega)) (mul_dlt (dlt_neg (h.len b h1.1 h1.2)) (hb a t ha htm))
 ·exact dlt_mono (hb a b ha hb') (by omega)
end
def RetClr (p : Nat) (w : World) (l0 l1 l2 l3 gS : Nat) (vA vU vV : Value) (n m : Nat) (WA WU WV : Nat → Nat → Pol (Zp p)) (t L : Nat) (Φ : (Nat → Nat → Pol (Zp p)) → (Nat → Nat → Pol (Zp p)) → (Nat → Nat → Pol (Zp p)) → Prop) (e : Ending) (w' : World) : Prop :=
 ∃ (b : Bool) (q r q' r' : Nat → Pol (Zp p)), e = .returned (.bool b) ∧ ClD t n L (WA t t) (fun a => WA a t) q r ∧ ClD t m L (WA t t) (fun c => WA t c) q' r' ∧ (b = true ↔ (∀ a, t < a → a < n → r a = 0) ∧ ∀ c, t < c → c < m → r' c = 0) ∧
  Φ (clC t m q' (clR t n q WA)) (clR t n q WU) (clC t m q' WV) ∧ Sst p w' l0 l1 l2 l3 gS vA vU vV n m (clC t m q' (clR t n q WA)) (clR t n q WU) (clC t m q' WV) ∧ Ch l0 l3 w w'
set_option maxRecDepth 20000 in
theorem xf_clear (p : Nat) (w : World) (l0 l1 l2 l3 gS : Nat) (vA vU vV : Value) (n m : Nat) (WA WU WV : Nat → Nat → Pol (Zp p)) (t L LU LV : Nat) (Φ : (Nat → Nat → Pol (Zp p)) → (Nat → Nat → Pol (Zp p)) → (Nat → Nat → Pol (Zp p)) → Prop) (hp : FP p) (ht : Trial p) (h : Sst p w l0 l1 l2 l3 gS vA vU vV n m WA WU WV) (htn : t < n) (htm : t < m) (hn : n ≤ 1000) (hm : m ≤ 1000) (hL : L ≤ 100000000000) (hLU : LU ≤ 100000000000) (hLV : LV ≤ 100000000000)
  (hb : ∀ i k, i < n → k < m → (WA i k).dlt L) (hbu : ∀ i k, i < n → k < n → (WU i k).dlt LU) (hbv : ∀ i k, i < m → k < m → (WV i k).dlt LV) (h0 : WA t t ≠ 0) (hΦ : Φ WA WU WV)
  (hΦR : ∀ A U V i c, t < i → i < n → Φ A U V → Φ (adR A i t c) (adR U i t c) V) (hΦC : ∀ A U V k c, t < k → k < m → Φ A U V → Φ (adC A k t c) U (adC V k t c)) :
  Calls Try.prog 128 #[.pointer (some ⟨gS, 0, none⟩), .int .i64 t] w (RetClr p w l0 l1 l2 l3 gS vA vU vV n m WA WU WV t L Φ) := by
 obtain ⟨PQ, ePQ⟩ : ∃ PQ : Ending → World → Prop, PQ = RetClr p w l0 l1 l2 l3 gS vA vU vV n m WA WU WV t L Φ := ⟨_, rfl⟩
 rw [← ePQ]
 have EPQ := Lib.hid ePQ; have HP := Lib.hid hp; have HTR := Lib.hid ht; have HB := Lib.hid hb; have HBU := Lib.hid hbu; have HBV := Lib.hid hbv; have H0 := Lib.hid h0; have HPR := Lib.hid hΦR; have HPC := Lib.hid hΦC
 obtain ⟨UA, RA⟩ := h.a
 obtain ⟨EA, XA, -, -⟩ := RA
 obtain ⟨gA, capA, rfl, -⟩ := XA.hdr htn
 obtain ⟨bT, cT, eT, -, -, -, -, hTc, -⟩ := XA.at htn (by omega)
 have q2 := (XA.cellU htn).1
 rw [eT] at q2
 obtain ⟨aY, nY, cY, zY, eY, lY, oY, mY, vY⟩ := Vn.open (XA.el t t htn htm)
 have q4 := hTc t htm
 rw [eY] at q4
 have hzY : zY.length ≤ L := nrm_len HP.out.pos mY (by rw [vY]; exact HB.out t t htn htm)
 have HY0 := Lib.hid (show nl p zY ≠ [] from fun e => H0.out (by rw [← vY]; exact (nl_nil HP.out.pos).1 e))
 have VY := Lib.hid vY
 obtain rfl : nY = zY.length := lY.symm
 have c1 := h.blk.cell 1
 have HST := Lib.hid h; have HPH := Lib.hid hΦ
 clear ePQ hp ht hb hbu hbv h0 hΦR hΦC h hΦ XA EA UA hTc eT eY mY vY lY
 go_enter Try.func128, Try.ntmps128
 go_wp2
 clear c1 q2 q4
 go_loopw [6, 7] (fun bv iv wr => ∃ (i : Nat) (b : Bool) (q r : Nat → Pol (Zp p)), t < i ∧ i ≤ n ∧ iv = .int .i64 i ∧ bv = .bool b ∧ ClD t i L (WA t t) (fun a => WA a t) q r ∧ (b = true ↔ ∀ a, t < a → a < i → r a = 0) ∧ Φ (clR t i q WA) (clR t i q WU) WV ∧ Sst p wr l0 l1 l2 l3 gS (.slice (some ⟨gA, 0, none⟩) n capA) vU vV n m (clR t i q WA) (clR t i q WU) WV ∧ Ch l0 l3 w wr) (fun _ iv _ => n - (intOf iv).toNat)
 case atStart => exact ⟨t + 1, true, fun _ => 0, fun _ => 0, by omega, by omega, by go_num, rfl, ClD.start _ _ _ _ _ _, ⟨fun _ a h1 h2 => by omega, fun _ => rfl⟩, by rw [clR_start, clR_start]; exact HPH.out, by rw [clR_start, clR_start]; exact HST.out, Ch.refl _ _ _⟩
 case round =>
  obtain ⟨i, b, q, r, hti, hi, rfl, rfl, hD, hz, hΦ, h, C⟩ := hrel
  have c1 := h.blk.cell 1
  by_cases hin : i < n
  ·have HD := Lib.hid hD; have HZ := Lib.hid hz; have HF := Lib.hid hΦ
   obtain ⟨UA, RA⟩ := h.a
   obtain ⟨EA, XA, -, -⟩ := RA
   obtain ⟨bI, cI, eI, -, hI2, -, -, hIc, -⟩ := XA.at hin (by omega)
   obtain ⟨q1, lg, -⟩ := XA.cellU hin
   rw [eI] at q1
   obtain ⟨aX, nX, cX, zX, eX, lX, oX, mX, vX⟩ := Vn.open (XA.el i t hin htm)
   have q3 := hIc t htm
   rw [eX] at q3
   have vX' : pl p zX = WA i t := by rw [vX]; exact if_neg (by omega)
   have hzX : zX.length ≤ L := nrm_len HP.out.pos mX (by rw [vX']; exact HB.out i t hin htm)
   have VX := Lib.hid vX'
   have tX := oX.sl
   have tY := (oY.ch C).sl
   obtain rfl : nX = zX.length := lX.symm
   have hsz : l3 ≤ wr.heap.size := h.size
   clear XA EA UA hIc eI eX oX mX vX vX' lX hD hz hΦ
   go_upto_region 5 with (fail)
   clear c1
   have bd := dw wr
   have h5 := h.next bd
   have KS := h5.blk
   replace tX := tX.next bd; replace tY := tY.next bd
   have C5 : Ch l0 l3 w wr.drew := C.trans (Ch.of bd)
   have q1' : wr.drew.cell? ⟨gA, i, none⟩ = some (.slice (some ⟨bI, 0, none⟩) m cI) := q1
   have q3' : wr.drew.cell? ⟨bI, t, none⟩ = some (.slice aX zX.length cX) := q3
   have l1' : gA < wr.drew.heap.size := lg
   have l2' : bI < wr.drew.heap.size := hI2
   clear bd q1 q3 lg hI2 C h
   have z0 := Lib.hid fun (w : World) (hS : Below (wr.drew).heap.size (wr.drew) w) => And.intro ((KS.at hS) 0) (And.intro ((KS.at hS) 1) (And.intro ((hS.cell (p := ⟨gA, i, none⟩) l1').trans q1') ((hS.cell (p := ⟨bI, t, none⟩) l2').trans q3')))
   refine startL (S := (fun w' => Below (wr.drew).heap.size (wr.drew) w')) (by kernel_rfl) (Below.refl _ _) (fun hHeld => ?_)
   refine tk 0 ?_
   refine tk 1 ?_
   refine tk 2 ?_
   refine tf 3 z0.out ?_
   refine tk 4 ?_
   refine tk 5 ?_
   refine tk 6 ?_
   refine tf 7 z0.out ?_
   refine tk 8 ?_
   refine tk 9 ?_
   refine tf 10 z0.out ?_
   refine tk 11 ?_
   refine tk 12 ?_
   refine tf 13 z0.out ?_
   refine tk 14 ?_
   refine on 15 fun K hK => ?_
   go_simp
   go_at_call 88
   (with_reducible refine (fp_DivMod p _ _ zX zY _ HP.out HTR.out (tX.next hHeld) (tY.next hHeld) (by omega) (by omega) HY0.out).mono ?_); rintro e w8 ⟨rq, rr, zq, zr, rfl, o8, p8, m8, n8, v8, d8, l8, k8, b8⟩
   have HDV := Lib.hid (show WA i t = pl p zq * WA t t + pl p zr ∧ Dl (pl p zr) (WA t t) ∧ (pl p zr = 0 ↔ zr.length = 0) by
    rw [VX.out, VY.out] at v8
    obtain ⟨d, hd⟩ : ∃ d, (nl p zY).length = d + 1 := ⟨(nl p zY).length - 1, by omega⟩
    refine ⟨v8, ⟨d, fun t ht => pl_dlt p zr t (by omega), ?_⟩, fun e => ?_, fun e => ?_⟩
    ·rw [← hd, ← VY.out, ← nl_pl p zY]; exact nrm_ln HP.out.pos (nl_nrm HP.out.pos zY)
    ·rw [pl_inj HP.out.pos n8 (nrm_nil p) (by rw [e, pl_nil])]; rfl
    ·rw [List.length_eq_zero_iff.1 e, pl_nil])
   obtain ⟨ar, cr, er⟩ := p8.sliced
   subst er
   have hlq : zq.length ≤ L := by omega
   clear p8 m8 n8 v8 d8 l8 k8
   refine hK.out _ _ (hHeld.trans (b8.mono hHeld.size)) (fun hHeld => ?_)
   clear hK K
   try simp only [Act.put, zq1, zq2, zq3]
   refine tk 16 ?_
   refine tk 17 ?_
   refine tk 18 ?_
   refine tk 19 ?_
   refine tk 20 ?_
   refine tk 21 ?_
   refine tk 22 ?_
   clear z0; refine doneL (by kernel_rfl) ?_ _
   have h6 := h5.next hHeld
   have C6 := C5.trans (Ch.of hHeld)
   clear KS q1' q3' l1' l2' tX tY b8 h5 C5 hHeld
   go_upto_region 6 with (fail)
   have bd := dw w8
   have h7 := h6.next bd
   have C7 := C6.trans (Ch.of bd)
   replace o8 := o8.next bd
   have KS := h7.blk
   obtain ⟨UA, RA⟩ := h7.a
   have hs7 := h7.size
   have hl13 : l1 ≤ l3 := Nat.le_trans h7.o2 h7.o3
   have hbA := clR_dlt (M := m) HD.out htn HB.out
   clear bd h6 C6
   refine startL (S := (fun w' => Blk 101 w' gS [.int .u64 p, .slice (some ⟨gA, 0, none⟩) n capA, vU, vV, .int .i64 m])) (by kernel_rfl) KS (fun hHeld => ?_)
   refine tk 0 ?_
   refine tk 1 ?_
   refine tk 2 ?_
   refine tk 3 ?_
   refine tg 4 rfl (fun w hS => by have f1 := hS.cell 1; go_simp <;> with_reducible rfl) ?_
   refine tk 5 ?_
   refine tk 6 ?_
   refine tk 7 ?_
   refine tk 8 ?_
   refine on 9 fun K hK => ?_
   go_simp
   go_at_call 158
   (with_reducible refine (xs_minus p gS _ _ zq _ HP.out hHeld o8.sl (by omega)).mono ?_); rintro e w9 ⟨r7, z7, rfl, o7, n7, v7, l7, b9⟩
   have V7 := Lib.hid v7; clear v7 n7
   refine hK.out _ _ (hHeld.next b9) (fun hHeld => ?_)
   clear hK K
   try simp only [Act.put, zq1, zq2, zq3]
   refine on 10 fun K hK => ?_
   go_simp
   go_at_call 130
   (with_reducible refine (xf_addRow p _ gS l0 l1 (L + L) _ _ r7 n m UA _ i t z7 HP.out hHeld (.inr (Nat.le_trans hl13 h7.gs)) (RA.next b9) hin htn (o7.mono (Nat.le_trans hl13 hs7)) (by omega) (by omega) hm hbA).mono ?_); rintro e w10 ⟨rfl, R10, C10⟩
   refine hK.out _ _ (hHeld.ch C10 (.inr (Nat.le_trans hl13 h7.gs))) (fun hHeld => ?_)
   clear hK K
   try simp only [Act.put, zq1, zq2, zq3]
   refine doneL (by kernel_rfl) ?_ _
   have h10 := (h7.next b9).setA R10 C10
   have C11 := (C7.trans (Ch.of b9)).trans (h7.wA C10)
   have o10 := (o8.next b9).ch C10
   clear h7 C7 R10 C10 RA UA hbA o7 l7 b9 o8 hHeld KS hs7
   go_upto_region 7 with (fail)
   have bd := dw w10
   have h11 := h10.next bd
   have C12 := C11.trans (Ch.of bd)
   replace o10 := o10.next bd
   have KS := h11.blk
   obtain ⟨UU, RU⟩ := h11.u
   have hs11 := h11.size
   have hl23 : l2 ≤ l3 := h11.o3
   have hbU := clR_dlt (M := n) HD.out htn HBU.out
   clear bd h10 C11
   refine startL (S := (fun w' => Blk 101 w' gS [.int .u64 p, .slice (some ⟨gA, 0, none⟩) n capA, vU, vV, .int .i64 m])) (by kernel_rfl) KS (fun hHeld => ?_)
   refine tk 0 ?_
   refine tk 1 ?_
   refine tk 2 ?_
   refine tk 3 ?_
   refine tg 4 rfl (fun w hS => by have f1 := hS.cell 2; go_simp <;> with_reducible rfl) ?_
   refine tk 5 ?_
   refine tk 6 ?_
   refine tk 7 ?_
   refine tk 8 ?_
   refine on 9 fun K hK => ?_
   go_simp
   go_at_call 158
   (with_reducible refine (xs_minus p gS _ _ zq _ HP.out hHeld o10.sl (by omega)).mono ?_); rintro e w12 ⟨r12, z12, rfl, o12, n12, v12, l12, b12⟩
   have V13 := Lib.hid v12; clear v12 n12
   refine hK.out _ _ (hHeld.next b12) (fun hHeld => ?_)
   clear hK K
   try simp only [Act.put, zq1, zq2, zq3]
   refine on 10 fun K hK => ?_
   go_simp
   go_at_call 130
   (with_reducible refine (xf_addRow p _ gS l1 l2 (L + LU) _ _ r12 n n UU _ i t z12 HP.out hHeld (.inr (Nat.le_trans hl23 h11.gs)) (RU.next b12) hin htn (o12.mono (Nat.le_trans hl23 hs11)) (by omega) (by omega) hn hbU).mono ?_); rintro e w13 ⟨rfl, R13, C13⟩
   refine hK.out _ _ (hHeld.ch C13 (.inr (Nat.le_trans hl23 h11.gs))) (fun hHeld => ?_)
   clear hK K
   try simp only [Act.put, zq1, zq2, zq3]
   refine doneL (by kernel_rfl) ?_ _
   have h13 := (h11.next b12).setU R13 C13
   have C14 := (C12.trans (Ch.of b12)).trans (h11.wU C13)
   rw [V13.out] at h13
   rw [V7.out] at h13
   clear h11 C12 R13 C13 RU UU hbU o12 l12 b12 o10 hHeld KS hs11
   have hD1 := HD.out.step HDV.out.1 HDV.out.2.1 (dlt_mono (pl_dlt p zq) hlq)
   have F1 := Lib.hid hD1
   have F2 := Lib.hid (show Φ (clR t (i + 1) (updq q i (pl p zq)) WA) (clR t (i + 1) (updq q i (pl p zq)) WU) WV by
    rw [clR_step hti, clR_step hti]; exact HPR.out _ _ _ _ _ hti hin HF.out)
   have F3 := Lib.hid (show Sst p w13 l0 l1 l2 l3 gS (.slice (some ⟨gA, 0, none⟩) n capA) vU vV n m (clR t (i + 1) (updq q i (pl p zq)) WA) (clR t (i + 1) (updq q i (pl p zq)) WU) WV by
    rw [clR_step hti, clR_step hti]; exact h13)
   have F4 := Lib.hid C14
   clear hD1 h13 C14
   have HZ2 := Lib.hid (updq_zero (t := t) (i := i) (r := r) (y := pl p zr) hti)
   cases b
   ·have F5 := Lib.hid (show (false = true ↔ ∀ a, t < a → a < i + 1 → updq r i (pl p zr) a = 0) from ⟨fun h => by simp at h, fun h => HZ.out.2 (HZ2.out.1 h).1⟩)
    go_wp2
    go_roundw
    case rel => exact ⟨i + 1, false, _, _, by omega, by omega, by go_num, by trivial, F1.out, F5.out, F2.out, F3.out, F4.out⟩
    case measure => simp [intOf] <;> omega
   ·by_cases hr0 : zr.length = 0
    ·have hr1 : ((zr.length : Int) == 0) = true := by simp [hr0]
     have F5 := Lib.hid (show (true = true ↔ ∀ a, t < a → a < i + 1 → updq r i (pl p zr) a = 0) from ⟨fun _ => HZ2.out.2 ⟨HZ.out.1 rfl, HDV.out.2.2.2 hr0⟩, fun _ => rfl⟩)
     clear hr0
     go_wp2
     go_roundw
     case rel => exact ⟨i + 1, true, _, _, by omega, by omega, by go_num, by trivial, F1.out, F5.out, F2.out, F3.out, F4.out⟩
     case measure => simp [intOf] <;> omega
    ·have hr1 : ((zr.length : Int) == 0) = false := by simp [hr0]
     have F5 := Lib.hid (show (false = true ↔ ∀ a, t < a → a < i + 1 → updq r i (pl p zr) a = 0) from ⟨fun h => by simp at h, fun h => absurd (HDV.out.2.2.1 (HZ2.out.1 h).2) hr0⟩)
     clear hr0
     go_wp2
     go_roundw
     case rel => exact ⟨i + 1, false, _, _, by omega, by omega, by go_num, by trivial, F1.out, F5.out, F2.out, F3.out, F4.out⟩
     case measure => simp [intOf] <;> omega
  ·obtain rfl : i = n := by omega
   have HD := Lib.hid hD; have HZ := Lib.hid hz
   have HF := Lib.hid hΦ; have HS1 := Lib.hid h; have HC1 := Lib.hid C
   obtain ⟨AR, eAR⟩ : ∃ AR, AR = clR t i q WA := ⟨_, rfl⟩
   have hbA : ∀ a c, a < i → c < m → (AR a c).dlt (L + L) := by rw [eAR]; exact clR_dlt (M := m) HD.out htn HB.out
   have HBA := Lib.hid hbA
   have hAt : ∀ c, AR t c = WA t c := fun c => by rw [eAR]; exact if_neg (by omega)
   have HAT := Lib.hid hAt
   have EAR := Lib.hid eAR
   rw [← eAR] at HF HS1
   clear hD hz hΦ h C hbA hAt eAR
   go_wp2
   clear c1
   go_loopw [6, 11] (fun bv kv wr => ∃ (k : Nat) (b' : Bool) (q' r' : Nat → Pol (Zp p)), t < k ∧ k ≤ m ∧ kv = .int .i64 k ∧ bv = .bool b' ∧ ClD t k L (WA t t) (fun c => WA t c) q' r' ∧ (b' = true ↔ b = true ∧ ∀ c, t < c → c < k → r' c = 0) ∧ Φ (clC t k q' AR) (clR t i q WU) (clC t k q' WV) ∧ Sst p wr l0 l1 l2 l3 gS (.slice (some ⟨gA, 0, none⟩) i capA) vU vV i m (clC t k q' AR) (clR t i q WU) (clC t k q' WV) ∧ Ch l0 l3 w wr) (fun _ kv _ => m - (intOf kv).toNat)
   case atStart => exact ⟨t + 1, b, fun _ => 0, fun _ => 0, by omega, by omega, by go_num, rfl, ClD.start _ _ _ _ _ _, ⟨fun h => ⟨h, fun a h1 h2 => by omega⟩, fun h => h.1⟩, by rw [clC_start, clC_start]; exact HF.out, by rw [clC_start, clC_start]; exact HS1.out, HC1.out⟩
   case round =>
    clear HF HS1 HC1
    obtain ⟨k, b', q', r', htk, hk, rfl, rfl, hD, hz, hΦ, h, C⟩ := hrel
    have c4 := h.blk.cell 4
    by_cases hkm : k < m
    ·have HD' := Lib.hid hD; have HZ' := Lib.hid hz; have HF := Lib.hid hΦ
     obtain ⟨UA, RA⟩ := h.a
     obtain ⟨EA, XA, -, -⟩ := RA
     obtain ⟨bI, cI, eI, -, hI2, -, -, hIc, -⟩ := XA.at htn (by omega)
     obtain ⟨q1, lg, -⟩ := XA.cellU htn
     rw [eI] at q1
     obtain ⟨aX, nX, cX, zX, eX, lX, oX, mX, vX⟩ := Vn.open (XA.el t k htn hkm)
     have q3 := hIc k hkm
     rw [eX] at q3
     have vX' : pl p zX = WA t k := by rw [vX, ← HAT.out k]; exact if_neg (by omega)
     have hzX : zX.length ≤ L := nrm_len HP.out.pos mX (by rw [vX']; exact HB.out t k htn hkm)
     have VX := Lib.hid vX'
     have tX := oX.sl
     have tY := (oY.ch C).sl
     obtain rfl : nX = zX.length := lX.symm
     clear XA EA UA hIc eI eX oX mX vX vX' lX hD hz hΦ
     go_upto_region 12 with (fail)
     clear c4
     have bd := dw wr
     have h5 := h.next bd
     have KS := h5.blk
     replace tX := tX.next bd; replace tY := tY.next bd
     have C5 : Ch l0 l3 w wr.drew := C.trans (Ch.of bd)
     have q1' : wr.drew.cell? ⟨gA, t, none⟩ = some (.slice (some ⟨bI, 0, none⟩) m cI) := q1
     have q3' : wr.drew.cell? ⟨bI, k, none⟩ = some (.slice aX zX.length cX) := q3
     have l1' : gA < wr.drew.heap.size := lg
     have l2' : bI < wr.drew.heap.size := hI2
     clear bd q1 q3 lg hI2 C h
     have z0 := Lib.hid fun (w : World) (hS : Below (wr.drew).heap.size (wr.drew) w) => And.intro ((KS.at hS) 0) (And.intro ((KS.at hS) 1) (And.intro ((hS.cell (p := ⟨gA, t, none⟩) l1').trans q1') ((hS.cell (p := ⟨bI, k, none⟩) l2').trans q3')))
     refine startL (S := (fun w' => Below (wr.drew).heap.size (wr.drew) w')) (by kernel_rfl) (Below.refl _ _) (fun hHeld => ?_)
     refine tk 0 ?_
     refine tk 1 ?_
     refine tk 2 ?_
     refine tf 3 z0.out ?_
     refine tk 4 ?_
     refine tk 5 ?_
     refine tk 6 ?_
     refine tf 7 z0.out ?_
     refine tk 8 ?_
     refine tk 9 ?_
     refine tf 10 z0.out ?_
     refine tk 11 ?_
     refine tk 12 ?_
     refine tf 13 z0.out ?_
     refine tk 14 ?_
     refine on 15 fun K hK => ?_
     go_simp
     go_at_call 88
     (with_reducible refine (fp_DivMod p _ _ zX zY _ HP.out HTR.out (tX.next hHeld) (tY.next hHeld) (by omega) (by omega) HY0.out).mono ?_); rintro e w8 ⟨rq, rr, zq, zr, rfl, o8, p8, m8, n8, v8, d8, l8, k8, b8⟩
     have HDV := Lib.hid (show WA t k = pl p zq * WA t t + pl p zr ∧ Dl (pl p zr) (WA t t) ∧ (pl p zr = 0 ↔ zr.length = 0) by
      rw [VX.out, VY.out] at v8
      obtain ⟨d, hd⟩ : ∃ d, (nl p zY).length = d + 1 := ⟨(nl p zY).length - 1, by omega⟩
      refine ⟨v8, ⟨d, fun t ht => pl_dlt p zr t (by omega), ?_⟩, fun e => ?_, fun e => ?_⟩
      ·rw [← hd, ← VY.out, ← nl_pl p zY]; exact nrm_ln HP.out.pos (nl_nrm HP.out.pos zY)
      ·rw [pl_inj HP.out.pos n8 (nrm_nil p) (by rw [e, pl_nil])]; rfl
      ·rw [List.length_eq_zero_iff.1 e, pl_nil])
     obtain ⟨ar, cr, er⟩ := p8.sliced
     subst er
     have hlq : zq.length ≤ L := by omega
     clear p8 m8 n8 v8 d8 l8 k8
     refine hK.out _ _ (hHeld.trans (b8.mono hHeld.size)) (fun hHeld => ?_)
     clear hK K
     try simp only [Act.put, zq1, zq2, zq3]
     refine tk 16 ?_
     refine tk 17 ?_
     refine tk 18 ?_
     refine tk 19 ?_
     refine tk 20 ?_
     refine tk 21 ?_
     refine tk 22 ?_
     clear z0; refine doneL (by kernel_rfl) ?_ _
     have h6 := h5.next hHeld
     have C6 := C5.trans (Ch.of hHeld)
     clear KS q1' q3' l1' l2' tX tY b8 h5 C5 hHeld
     go_upto_region 13 with (fail)
     have bd := dw w8
     have h7 := h6.next bd
     have C7 := C6.trans (Ch.of bd)
     replace o8 := o8.next bd
     have KS := h7.blk
     obtain ⟨UA, RA⟩ := h7.a
     have hs7 := h7.size
     have hl13 : l1 ≤ l3 := Nat.le_trans h7.o2 h7.o3
     have hbC := clC_dlt (n := i) HD'.out htm HBA.out
     clear bd h6 C6
     refine startL (S := (fun w' => Blk 101 w' gS [.int .u64 p, .slice (some ⟨gA, 0, none⟩) i capA, vU, vV, .int .i64 m])) (by kernel_rfl) KS (fun hHeld => ?_)
     refine tk 0 ?_
     refine tk 1 ?_
     refine tk 2 ?_
     refine tk 3 ?_
     refine tg 4 rfl (fun w hS => by have f1 := hS.cell 1; go_simp <;> with_reducible rfl) ?_
     refine tk 5 ?_
     refine tk 6 ?_
     refine tk 7 ?_
     refine tk 8 ?_
     refine on 9 fun K hK => ?_
     go_simp
     go_at_call 158
     (with_reducible refine (xs_minus p gS _ _ zq _ HP.out hHeld o8.sl (by omega)).mono ?_); rintro e w9 ⟨r7, z7, rfl, o7, n7, v7, l7, b9⟩
     have V7 := Lib.hid v7; clear v7 n7
     refine hK.out _ _ (hHeld.next b9) (fun hHeld => ?_)
     clear hK K
     try simp only [Act.put, zq1, zq2, zq3]
     refine on 10 fun K hK => ?_
     go_simp
     go_at_call 159
     (with_reducible refine (xf_addCol p _ gS l0 l1 (L + (L + L)) _ _ r7 i m UA _ k t z7 HP.out hHeld (.inr (Nat.le_trans hl13 h7.gs)) (RA.next b9) hkm htm (o7.mono (Nat.le_trans hl13 hs7)) (by omega) (by omega) hn hm hbC).mono ?_); rintro e w10 ⟨rfl, R10, C10⟩
     refine hK.out _ _ (hHeld.ch C10 (.inr (Nat.le_trans hl13 h7.gs))) (fun hHeld => ?_)
     clear hK K
     try simp only [Act.put, zq1, zq2, zq3]
     refine doneL (by kernel_rfl) ?_ _
     have h10 := (h7.next b9).setA R10 C10
     have C11 := (C7.trans (Ch.of b9)).trans (h7.wA C10)
     have o10 := (o8.next b9).ch C10
     clear h7 C7 R10 C10 RA UA hbC o7 l7 b9 o8 hHeld KS hs7
     go_upto_region 14 with (fail)
     have bd := dw w10
     have h11 := h10.next bd
     have C12 := C11.trans (Ch.of bd)
     replace o10 := o10.next bd
     have KS := h11.blk
     obtain ⟨UV, RV⟩ := h11.v
     have hs11 := h11.size
     have hbV := clC_dlt (n := m) HD'.out htm HBV.out
     clear bd h10 C11
     refine startL (S := (fun w' => Blk 101 w' gS [.int .u64 p, .slice (some ⟨gA, 0, none⟩) i capA, vU, vV, .int .i64 m])) (by kernel_rfl) KS (fun hHeld => ?_)
     refine tk 0 ?_
     refine tk 1 ?_
     refine tk 2 ?_
     refine tk 3 ?_
     refine tg 4 rfl (fun w hS => by have f1 := hS.cell 3; go_simp <;> with_reducible rfl) ?_
     refine tk 5 ?_
     refine tk 6 ?_
     refine tk 7 ?_
     refine tk 8 ?_
     refine on 9 fun K hK => ?_
     go_simp
     go_at_call 158
     (with_reducible refine (xs_minus p gS _ _ zq _ HP.out hHeld o10.sl (by omega)).mono ?_); rintro e w12 ⟨r12, z12, rfl, o12, n12, v12, l12, b12⟩
     have V13 := Lib.hid v12; clear v12 n12
     refine hK.out _ _ (hHeld.next b12) (fun hHeld => ?_)
     clear hK K
     try simp only [Act.put, zq1, zq2, zq3]
     refine on 10 fun K hK => ?_
     go_simp
     go_at_call 159
     (with_reducible refine (xf_addCol p _ gS l2 l3 (L + LV) _ _ r12 m m UV _ k t z12 HP.out hHeld (.inr h11.gs) (RV.next b12) hkm htm (o12.mono hs11) (by omega) (by omega) hm hm hbV).mono ?_); rintro e w13 ⟨rfl, R13, C13⟩
     refine hK.out _ _ (hHeld.ch C13 (.inr h11.gs)) (fun hHeld => ?_)
     clear hK K
     try simp only [Act.put, zq1, zq2, zq3]
     refine doneL (by kernel_rfl) ?_ _
     have h13 := (h11.next b12).setV R13 C13
     have C14 := (C12.trans (Ch.of b12)).trans (h11.wV C13)
     rw [V13.out] at h13
     rw [V7.out] at h13
     clear h11 C12 R13 C13 RV UV hbV o12 l12 b12 o10 hHeld KS hs11
     have F1 := Lib.hid (HD'.out.step HDV.out.1 HDV.out.2.1 (dlt_mono (pl_dlt p zq) hlq))
     have F2 := Lib.hid (show Φ (clC t (k + 1) (updq q' k (pl p zq)) AR) (clR t i q WU) (clC t (k + 1) (updq q' k (pl p zq)) WV) by
      rw [clC_step htk, clC_step htk]; exact HPC.out _ _ _ _ _ htk hkm HF.out)
     have F3 := Lib.hid (show Sst p w13 l0 l1 l2 l3 gS (.slice (some ⟨gA, 0, none⟩) i capA) vU vV i m (clC t (k + 1) (updq q' k (pl p zq)) AR) (clR t i q WU) (clC t (k + 1) (updq q' k (pl p zq)) WV) by
      rw [clC_step htk, clC_step htk]; exact h13)
     have F4 := Lib.hid C14
     clear h13 C14
     have HZ2 := Lib.hid (updq_zero (t := t) (i := k) (r := r') (y := pl p zr) htk)
     cases b'
     ·have F5 := Lib.hid (show (false = true ↔ b = true ∧ ∀ a, t < a → a < k + 1 → updq r' k (pl p zr) a = 0) from ⟨fun h => by simp at h, fun h => HZ'.out.2 ⟨h.1, (HZ2.out.1 h.2).1⟩⟩)
      go_wp2
      go_roundw
      case rel => exact ⟨k + 1, false, _, _, by omega, by omega, by go_num, by trivial, F1.out, F5.out, F2.out, F3.out, F4.out⟩
      case measure => simp [intOf] <;> omega
     ·by_cases hr0 : zr.length = 0
      ·have hr1 : ((zr.length : Int) == 0) = true := by simp [hr0]
       have F5 := Lib.hid (show (true = true ↔ b = true ∧ ∀ a, t < a → a < k + 1 → updq r' k (pl p zr) a = 0) from ⟨fun _ => ⟨(HZ'.out.1 rfl).1, HZ2.out.2 ⟨(HZ'.out.1 rfl).2, HDV.out.2.2.2 hr0⟩⟩, fun _ => rfl⟩)
       clear hr0
       go_wp2
       go_roundw
       case rel => exact ⟨k + 1, true, _, _, by omega, by omega, by go_num, by trivial, F1.out, F5.out, F2.out, F3.out, F4.out⟩
       case measure => simp [intOf] <;> omega
      ·have hr1 : ((zr.length : Int) == 0) = false := by simp [hr0]
       have F5 := Lib.hid (show (false = true ↔ b = true ∧ ∀ a, t < a → a < k + 1 → updq r' k (pl p zr) a = 0) from ⟨fun h => by simp at h, fun h => absurd (HDV.out.2.2.1 (HZ2.out.1 h.2).2) hr0⟩)
       clear hr0
       go_wp2
       go_roundw
       case rel => exact ⟨k + 1, false, _, _, by omega, by omega, by go_num, by trivial, F1.out, F5.out, F2.out, F3.out, F4.out⟩
       case measure => simp [intOf] <;> omega
    ·obtain rfl : k = m := by omega
     have FIN := Lib.hid (show PQ (.returned (.bool b')) wr by
      rw [EPQ.out]
      rw [EAR.out] at hΦ h
      exact ⟨b', q, r, q', r', rfl, HD.out, hD, hz.trans ⟨fun h => ⟨HZ.out.1 h.1, h.2⟩, fun h => ⟨HZ.out.2 h.1, h.2⟩⟩, hΦ, h, C⟩)
     clear hD hz hΦ h C
     go_wp2
     exact FIN.out
end Go.Proofs.Ytkmfhabgempjiaa
/- xform, plain: lengths behind clear. -/
namespace Go.Proofs.Ytkmfhabgempjiaa
set_option maxHeartbeats 4000000
open Go.RowKit
open CR
section
variable {p t n m L lb : Nat} {W U V : Nat → Nat → Pol (Zp p)} {g : Pol (Zp p)} {q r q' r' f : Nat → Pol (Zp p)}
theorem ClD.qlen (tr : Trial p) (h : ClD t n L g f q r) (hl : Ln g lb) (g0 : g ≠ 0) (hf : ∀ a, t < a → a < n → (f a).dlt L) {a : Nat} (h1 : t < a) (h2 : a < n) : (q a).dlt (L + 1 - lb) := by
 obtain ⟨d, h3, h4⟩ := h.rem a h1 h2
 have h5 := hl.unique h4
 exact divq_dlt tr (h.div a h1 h2) (hf a h1 h2) hl g0 (dlt_mono h3 (by omega))
theorem ClD.rlen (h : ClD t n L g f q r) (hl : Ln g lb) {a : Nat} (h1 : t < a) (h2 : a < n) : (r a).dlt (lb - 1) := by
 obtain ⟨d, h3, h4⟩ := h.rem a h1 h2
 have h5 := hl.unique h4
 exact dlt_mono h3 (by omega)
theorem clR_at (h : ClD t n L (W t t) (fun a => W a t) q r) {a : Nat} (h1 : t < a) (h2 : a < n) : clR t n q W a t = r a := by
 unfold clR
 rw [if_pos ⟨h1, h2⟩, h.div a h1 h2]
 exact by_ring [q a, W t t, r a] (X0 * X1 + X2 + -X0 * X1) X2 rfl
theorem clR_t (q : Nat → Pol (Zp p)) (W : Nat → Nat → Pol (Zp p)) (t n c : Nat) : clR t n q W t c = W t c := if_neg (by omega)
theorem clC_t (q : Nat → Pol (Zp p)) (W : Nat → Nat → Pol (Zp p)) (t m a : Nat) : clC t m q W a t = W a t := if_neg (by omega)
theorem clC_at (h : ClD t m L (W t t) (fun c => W t c) q' r') (q : Nat → Pol (Zp p)) {c : Nat} (h1 : t < c) (h2 : c < m) : clC t m q' (clR t n q W) t c = r' c := by
 unfold clC
 rw [if_pos ⟨h1, h2⟩, clR_t, clR_t, h.div c h1 h2]
 exact by_ring [q' c, W t t, r' c] (X0 * X1 + X2 + -X0 * X1) X2 rfl
theorem cl_bdA (tr : Trial p) (hD : ClD t n L (W t t) (fun a => W a t) q r) (hD' : ClD t m L (W t t) (fun c => W t c) q' r') (g0 : W t t ≠ 0) (hl : Ln (W t t) lb) (hI : SmI t n m W) (htn : t < n) (htm : t < m) (hb : ∀ a c, a < n → c < m → (W a c).dlt L) :
  ∀ a c, a < n → c < m → (clC t m q' (clR t n q W) a c).dlt (L + (L - lb)) := by
 have hlL : lb ≤ L := hl.le (hb t t htn htm)
 have hX : ∀ a c, a < n → c < m → (clR t n q W a c).dlt (L + (L - lb)) := fun a c ha hc => by
  unfold clR
  split
  ·rename_i h1
   have h2 := hD.qlen tr hl g0 (fun a _ h => hb a t h htm) h1.1 h1.2
   exact dlt_add (dlt_mono (hb a c ha hc) (by omega)) (dlt_mono (mul_dlt1 (dlt_neg h2) (hb t c htn hc)) (by omega))
  ·exact dlt_mono (hb a c ha hc) (by omega)
 intro a c ha hc
 by_cases h1 : t < c
 ·rcases Nat.lt_trichotomy a t with h2 | h2 | h2
  ·have e : clR t n q W a t = 0 := by
    unfold clR
    rw [if_neg (by omega)]; exact hI.off a t ha htm (by omega) (.inl h2)
   unfold clC
   rw [if_pos ⟨h1, hc⟩, e, mul_zero, add_zero]
   exact hX a c ha hc
  ·rw [h2, clC_at hD' q h1 hc]
   exact dlt_mono (hD'.rlen hl h1 hc) (by omega)
  ·have e := clR_at hD h2 ha
   unfold clC
   rw [if_pos ⟨h1, hc⟩, e]
   have h3 := hD'.qlen tr hl g0 (fun c _ h => hb t c htn h) h1 hc
   exact dlt_add (hX a c ha hc) (dlt_mono (mul_dlt1 (dlt_neg h3) (hD.rlen hl h2 ha)) (by omega))
 ·unfold clC
  rw [if_neg (by omega)]
  exact hX a c ha hc
theorem cl_bdU (tr : Trial p) {LU : Nat} (hD : ClD t n L (W t t) (fun a => W a t) q r) (g0 : W t t ≠ 0) (hl : Ln (W t t) lb) (htn : t < n) (htm : t < m) (hb : ∀ a c, a < n → c < m → (W a c).dlt L) (hu : ∀ a c, a < n → c < n → (U a c).dlt LU) :
  ∀ a c, a < n → c < n → (clR t n q U a c).dlt (LU + (L - lb)) := by
 have hlL : lb ≤ L := hl.le (hb t t htn htm)
 intro a c ha hc
 unfold clR
 split
 ·rename_i h1
  have h2 := hD.qlen tr hl g0 (fun a _ h => hb a t h htm) h1.1 h1.2
  exact dlt_add (dlt_mono (hu a c ha hc) (by omega)) (dlt_mono (mul_dlt1 (dlt_neg h2) (hu t c htn hc)) (by omega))
 ·exact dlt_mono (hu a c ha hc) (by omega)
theorem cl_bdV (tr : Trial p) {LV LT : Nat} (hD' : ClD t m L (W t t) (fun c => W t c) q' r') (g0 : W t t ≠ 0) (hl : Ln (W t t) lb) (htn : t < n) (htm : t < m) (hb : ∀ a c, a < n → c < m → (W a c).dlt L) (hv : ∀ a c, a < m → c < m → (V a c).dlt LV) (hvt : ∀ a, a < m → (V a t).dlt LT) :
  ∀ a c, a < m → c < m → (clC t m q' V a c).dlt (max LV (LT + (L - lb))) := by
 have hlL : lb ≤ L := hl.le (hb t t htn htm)
 intro a c ha hc
 unfold clC
 split
 ·rename_i h1
  have h2 := hD'.qlen tr hl g0 (fun c _ h => hb t c htn h) h1.1 h1.2
  exact dlt_add (dlt_mono (hv a c ha hc) (by omega)) (dlt_mono (mul_dlt1 (dlt_neg h2) (hvt a ha)) (by omega))
 ·exact dlt_mono (hv a c ha hc) (by omega)
theorem ClD.zero (tr : Trial p) (h : ClD t n L g f q r) (hl : Ln g lb) (g0 : g ≠ 0) {a : Nat} (h1 : t < a) (h2 : a < n) (hf : f a = 0) : q a = 0 ∧ r a = 0 := by
 obtain ⟨k, rfl⟩ := hl.pos g0
 have h3 := h.rlen hl h1 h2
 have h4 := h.div a h1 h2
 rw [hf] at h4
 exact div_unique tr hl h3 (dlt_zero _) (by rw [← h4, zero_mul, add_zero])
theorem clR_same (tr : Trial p) (hD : ClD t n L (W t t) (fun a => W a t) q r) (g0 : W t t ≠ 0) (hl : Ln (W t t) lb) (hz : ∀ a, t < a → a < n → W a t = 0) (X : Nat → Nat → Pol (Zp p)) (a c : Nat) : clR t n q X a c = X a c := by
 unfold clR
 split
 ·rename_i h1
  rw [(hD.zero tr hl g0 h1.1 h1.2 (hz a h1.1 h1.2)).1, neg_zero, zero_mul, add_zero]
 ·rfl
theorem cl_bd2 (tr : Trial p) {L1 : Nat} (hD : ClD t n L (W t t) (fun a => W a t) q r) (hD' : ClD t m L (W t t) (fun c => W t c) q' r') (g0 : W t t ≠ 0) (hl : Ln (W t t) lb) (hI : SmI t n m W) (htn : t < n) (htm : t < m) (hz : ∀ a, t < a → a < n → W a t = 0) (hb : ∀ a c, a < n → c < m → (W a c).dlt L1) :
  ∀ a c, a < n → c < m → (clC t m q' (clR t n q W) a c).dlt L1 := by
 have hlL : lb ≤ L1 := hl.le (hb t t htn htm)
 intro a c ha hc
 by_cases h1 : t < c
 ·by_cases h2 : a = t
  ·rw [h2, clC_at hD' q h1 hc]
   exact dlt_mono (hD'.rlen hl h1 hc) (by omega)
  ·have e : W a t = 0 := by
    by_cases h3 : a < t
    ·exact hI.off a t ha htm h2 (.inl h3)
    ·exact hz a (by omega) ha
   unfold clC
   rw [if_pos ⟨h1, hc⟩, clR_same tr hD g0 hl hz W, clR_same tr hD g0 hl hz W, e, mul_zero, add_zero]
   exact hb a c ha hc
 ·unfold clC
  rw [if_neg (by omega), clR_same tr hD g0 hl hz W]
  exact hb a c ha hc
end
end Go.Proofs.Ytkmfhabgempjiaa
/- xform, plain: the budget of a place. -/
namespace Go.Proofs.Ytkmfhabgempjiaa
set_option maxHeartbeats 4000000
open Go.RowKit
def pot (L b : Nat) : Nat := (L - b + 1) * 2 ^ b
theorem pot_mono {L a b : Nat} (h : a ≤ b) (hb : b ≤ L) : pot L a ≤ pot L b := by
  induction b with
  | zero => obtain rfl : a = 0 := by omega
            exact Nat.le_refl _
  | succ b ih =>
    by_cases e : a = b + 1
    · rw [e]; exact Nat.le_refl _
    · refine Nat.le_trans (ih (by omega) (by omega)) ?_
      unfold pot
      rw [Nat.pow_succ, Nat.mul_comm (2 ^ b) 2, ← Nat.mul_assoc]
      exact Nat.mul_le_mul_right _ (by omega)
theorem pot_next {L l : Nat} (h1 : 1 ≤ l) (hl : l ≤ L) : pot (L + (L - l)) (l - 1) = pot L l := by
 obtain ⟨k, rfl⟩ : ∃ k, l = k + 1 := ⟨l - 1, by omega⟩
 unfold pot
 rw [Nat.add_sub_cancel, Nat.pow_succ, Nat.mul_comm (2 ^ k) 2, ← Nat.mul_assoc]
 congr 1
 omega
theorem pot_le {L b : Nat} (hb : b ≤ L) : L + 1 ≤ pot L b := by
 unfold pot
 have h : b + 1 ≤ 2 ^ b := by
  induction b with
  | zero => exact Nat.le_refl _
  | succ b ih => have := ih (by omega); rw [Nat.pow_succ]; omega
 obtain ⟨x, rfl⟩ : ∃ x, L = b + x := ⟨L - b, by omega⟩
 rw [Nat.add_sub_cancel_left]
 calc b + x + 1 ≤ (x + 1) * (b + 1) := by rw [Nat.add_mul, Nat.mul_add, Nat.one_mul]; omega
  _ ≤ (x + 1) * 2 ^ b := Nat.mul_le_mul_left _ h
theorem pot_self (L : Nat) : pot L L = 2 ^ L := by unfold pot; rw [Nat.sub_self, Nat.zero_add, Nat.one_mul]
end Go.Proofs.Ytkmfhabgempjiaa
/- xform: a place of the diagonal is brought into form. -/
namespace Go.Proofs.Ytkmfhabgempjiaa
set_option maxHeartbeats 4000000
open Go.RowKit
structure PlB {p : Nat} (t n m L0 LU LV K L b : Nat) (W U V : Nat → Nat → Pol (Zp p)) : Prop where
 hb : b ≤ L
 h0 : L0 ≤ L
 pt : pot L b ≤ K ∨ (t + 1 = n ∧ t + 1 = m ∧ L = L0)
 w : ∀ a c, a < n → c < m → (W a c).dlt L
 u : ∀ a c, a < n → c < n → (U a c).dlt (LU + (L - L0))
 v : ∀ a c, a < m → c < m → (V a c).dlt (LV + 2 * (L - L0))
 least : (∀ a c, t ≤ a → a < n → t ≤ c → c < m → W a c = 0) ∨ ∃ a c, t ≤ a ∧ a < n ∧ t ≤ c ∧ c < m ∧ W a c ≠ 0 ∧ pln (W a c) ≤ b
section
variable {p t n m L0 LU LV K L b l : Nat} {W U V : Nat → Nat → Pol (Zp p)}
theorem PlB.start (h1 : ∀ a c, a < n → c < m → (W a c).dlt L0) (h2 : ∀ a c, a < n → c < n → (U a c).dlt LU) (h3 : ∀ a c, a < m → c < m → (V a c).dlt LV) (hK : 2 ^ L0 ≤ K ∨ (t + 1 = n ∧ t + 1 = m)) : PlB t n m L0 LU LV K L0 L0 W U V := by
 refine ⟨Nat.le_refl _, Nat.le_refl _, hK.imp (fun h => by rw [pot_self]; exact h) fun h => ⟨h.1, h.2, rfl⟩, h1, fun a c ha hc => dlt_mono (h2 a c ha hc) (by omega), fun a c ha hc => dlt_mono (h3 a c ha hc) (by omega), ?_⟩
 by_cases h : ∀ a c, t ≤ a → a < n → t ≤ c → c < m → W a c = 0
 ·exact .inl h
 ·right
  apply Classical.byContradiction
  intro hne
  refine h fun a c a1 a2 a3 a4 => ?_
  apply Classical.byContradiction
  intro hw
  exact hne ⟨a, c, a1, a2, a3, a4, hw, (pln_ln _).le (h1 a c a2 a4)⟩
theorem PlB.swp (h : PlB t n m L0 LU LV K L b W U V) {a c : Nat} (htn : t < n) (htm : t < m) (ha : a < n) (hc : c < m) :
  (∀ i k, i < n → k < m → (swC (swR W t a) t c i k).dlt L) ∧ (∀ i k, i < n → k < n → (swR U t a i k).dlt (LU + (L - L0))) ∧ ∀ i k, i < m → k < m → (swC V t c i k).dlt (LV + 2 * (L - L0)) := by
 have hR : ∀ {X : Nat → Nat → Pol (Zp p)} {M B : Nat}, (∀ i k, i < n → k < M → (X i k).dlt B) → ∀ i k, i < n → k < M → (swR X t a i k).dlt B := fun hX i k hi hk => by
  unfold swR; split
  ·exact hX a k ha hk
  ·split
   ·exact hX t k htn hk
   ·exact hX i k hi hk
 have hC : ∀ {X : Nat → Nat → Pol (Zp p)} {M B : Nat}, (∀ i k, i < M → k < m → (X i k).dlt B) → ∀ i k, i < M → k < m → (swC X t c i k).dlt B := fun hX i k hi hk => by
  unfold swC; split
  ·exact hX i c hi hc
  ·split
   ·exact hX i t hi htm
   ·exact hX i k hi hk
 exact ⟨hC (hR h.w), hR h.u, hC h.v⟩
theorem swp_tt (W : Nat → Nat → Pol (Zp p)) (t a c : Nat) : swC (swR W t a) t c t t = W a c := by
 unfold swC swR; rw [if_pos rfl, if_pos rfl]
theorem PlB.dirty {q r q' r' : Nat → Pol (Zp p)} {D : Nat} (tr : Trial p) (hL0 : L0 ≤ L) (hbL : b ≤ L) (hpt : pot L b ≤ K ∨ (t + 1 = n ∧ t + 1 = m ∧ L = L0)) (w1 : ∀ a c, a < n → c < m → (W a c).dlt L) (u1 : ∀ a c, a < n → c < n → (U a c).dlt (LU + (L - L0))) (v1 : ∀ a c, a < m → c < m → (V a c).dlt (LV + 2 * (L - L0)))
  (g0 : W t t ≠ 0) (hl : pln (W t t) = l) (hlb : l ≤ b) (hI : SmI t n m W) (htn : t < n) (htm : t < m) (hD : ClD t n L (W t t) (fun a => W a t) q r) (hD' : ClD t m L (W t t) (fun c => W t c) q' r')
  (hne : (∃ a, t < a ∧ a < n ∧ r a ≠ 0) ∨ ∃ c, t < c ∧ c < m ∧ r' c ≠ 0) (hDl : D = L + (L - l)) : PlB t n m L0 LU LV K D (l - 1) (clC t m q' (clR t n q W)) (clR t n q U) (clC t m q' V) := by
 have hLn : Ln (W t t) l := by rw [← hl]; exact pln_ln _
 have hl1 : 1 ≤ l := Nat.pos_of_ne_zero fun e => g0 (pln_zero.1 (hl.trans e))
 subst hDl
 refine ⟨by omega, by omega, .inl ?_, cl_bdA tr hD hD' g0 hLn hI htn htm w1, fun a c ha hc => dlt_mono (cl_bdU tr hD g0 hLn htn htm w1 u1 a c ha hc) (by omega), fun a c ha hc => dlt_mono (cl_bdV tr hD' g0 hLn htn htm w1 v1 (fun a ha => v1 a t ha htm) a c ha hc) (by omega), .inr ?_⟩
 ·rw [pot_next hl1 (by omega)]
  rcases hpt with h1 | ⟨h1, h2, _⟩
  ·exact Nat.le_trans (pot_mono hlb hbL) h1
  ·rcases hne with ⟨a, a1, a2, _⟩ | ⟨a, a1, a2, _⟩ <;> omega
 ·rcases hne with ⟨a, a1, a2, a3⟩ | ⟨c, a1, a2, a3⟩
  ·have e : clC t m q' (clR t n q W) a t = r a := by rw [clC_t, clR_at hD a1 a2]
   exact ⟨a, t, by omega, a2, Nat.le_refl _, htm, by rw [e]; exact a3, by rw [e]; exact (pln_ln _).le (hD.rlen hLn a1 a2)⟩
  ·have e : clC t m q' (clR t n q W) t c = r' c := clC_at hD' q a1 a2
   exact ⟨t, c, Nat.le_refl _, htn, by omega, a2, by rw [e]; exact a3, by rw [e]; exact (pln_ln _).le (hD'.rlen hLn a1 a2)⟩
theorem PlB.odd {q r q' r' : Nat → Pol (Zp p)} {D : Nat} (tr : Trial p) (hL0 : L0 ≤ L) (hbL : b ≤ L) (hpt : pot L b ≤ K ∨ (t + 1 = n ∧ t + 1 = m ∧ L = L0)) (hlL : l ≤ L) (hDl : D = L + (L - l)) (w1 : ∀ a c, a < n → c < m → (W a c).dlt D) (u1 : ∀ a c, a < n → c < n → (U a c).dlt (LU + (D - L0))) (v1 : ∀ a c, a < m → c < m → (V a c).dlt (LV + 2 * (L - L0) + (L - l))) (vt : ∀ a, a < m → (V a t).dlt (LV + 2 * (L - L0)))
  (g0 : W t t ≠ 0) (hl : pln (W t t) = l) (hlb : l ≤ b) (hI : SmI t n m W) (htn : t < n) (htm : t < m) (hz : ∀ a, t < a → a < n → W a t = 0) (hD : ClD t n D (W t t) (fun a => W a t) q r) (hD' : ClD t m D (W t t) (fun c => W t c) q' r')
  (hne : ∃ c, t < c ∧ c < m ∧ r' c ≠ 0) : PlB t n m L0 LU LV K D (l - 1) (clC t m q' (clR t n q W)) (clR t n q U) (clC t m q' V) := by
 have hLn : Ln (W t t) l := by rw [← hl]; exact pln_ln _
 have hl1 : 1 ≤ l := Nat.pos_of_ne_zero fun e => g0 (pln_zero.1 (hl.trans e))
 obtain ⟨c, a1, a2, a3⟩ := hne
 refine ⟨by omega, by omega, .inl ?_, cl_bd2 tr hD hD' g0 hLn hI htn htm hz w1, fun a k ha hk => by rw [clR_same tr hD g0 hLn hz U]; exact u1 a k ha hk, fun a k ha hk => dlt_mono (cl_bdV tr hD' g0 hLn htn htm w1 v1 vt a k ha hk) (by omega), .inr ?_⟩
 ·rw [hDl, pot_next hl1 hlL]
  rcases hpt with h1 | ⟨h1, h2, _⟩
  ·exact Nat.le_trans (pot_mono hlb hbL) h1
  ·omega
 ·have e : clC t m q' (clR t n q W) t c = r' c := clC_at hD' q a1 a2
  exact ⟨t, c, Nat.le_refl _, htn, by omega, a2, by rw [e]; exact a3, by rw [e]; exact (pln_ln _).le (hD'.rlen hLn a1 a2)⟩
end
end Go.Proofs.Ytkmfhabgempjiaa
/- xform, plain: the steps of a place. -/
namespace Go.Proofs.Ytkmfhabgempjiaa
set_option maxHeartbeats 4000000
open Go.RowKit
open CR
section
variable {p t n m L0 LU LV K L b l : Nat} {W U V : Nat → Nat → Pol (Zp p)}
structure PlC (n m t L0 LU LV K L b l : Nat) (W U V : Nat → Nat → Pol (Zp p)) : Prop where
 hl : pln (W t t) = l
 g0 : W t t ≠ 0
 hlb : l ≤ b
 hbL : b ≤ L
 h0 : L0 ≤ L
 pt : pot L b ≤ K ∨ (t + 1 = n ∧ t + 1 = m ∧ L = L0)
 w : ∀ a c, a < n → c < m → (W a c).dlt L
 u : ∀ a c, a < n → c < n → (U a c).dlt (LU + (L - L0))
 v : ∀ a c, a < m → c < m → (V a c).dlt (LV + 2 * (L - L0))
theorem PlC.l1 (h : PlC n m t L0 LU LV K L b l W U V) : 1 ≤ l := Nat.pos_of_ne_zero fun e => h.g0 (pln_zero.1 (h.hl.trans e))
theorem PlC.lL (h : PlC n m t L0 LU LV K L b l W U V) : l ≤ L := Nat.le_trans h.hlb h.hbL
theorem PlC.ln (h : PlC n m t L0 LU LV K L b l W U V) : Ln (W t t) l := by rw [← h.hl]; exact pln_ln _
theorem PlB.go (h : PlB t n m L0 LU LV K L b W U V) {a c : Nat} (ha : t ≤ a) (han : a < n) (hc : t ≤ c) (hcm : c < m) (hne : W a c ≠ 0) (hmin : ∀ i k, t ≤ i → i < n → t ≤ k → k < m → W i k ≠ 0 → pln (W a c) ≤ pln (W i k)) :
  PlC n m t L0 LU LV K L b (pln (W a c)) (swC (swR W t a) t c) (swR U t a) (swC V t c) := by
 have htn : t < n := by omega
 have htm : t < m := by omega
 obtain ⟨h1, h2, h3⟩ := h.swp htn htm han hcm
 refine ⟨by rw [swp_tt], by rw [swp_tt]; exact hne, ?_, h.hb, h.h0, h.pt, h1, h2, h3⟩
 rcases h.least with h4 | ⟨i, k, i1, i2, k1, k2, h5, h6⟩
 ·exact absurd (h4 a c ha han hc hcm) hne
 ·exact Nat.le_trans (hmin i k i1 i2 k1 k2 h5) h6
theorem PlC.dirty {q r q' r' : Nat → Pol (Zp p)} (tr : Trial p) (h : PlC n m t L0 LU LV K L b l W U V) (hI : SmI t n m W) (htn : t < n) (htm : t < m) (hD : ClD t n L (W t t) (fun a => W a t) q r) (hD' : ClD t m L (W t t) (fun c => W t c) q' r')
  (hne : ¬ ((∀ a, t < a → a < n → r a = 0) ∧ ∀ c, t < c → c < m → r' c = 0)) : PlB t n m L0 LU LV K (L + (L - l)) (l - 1) (clC t m q' (clR t n q W)) (clR t n q U) (clC t m q' V) := by
 refine PlB.dirty tr h.h0 h.hbL h.pt h.w h.u h.v h.g0 h.hl h.hlb hI htn htm hD hD' ?_ rfl
 apply Classical.byContradiction
 intro hno
 refine hne ⟨fun a h1 h2 => ?_, fun c h1 h2 => ?_⟩
 ·apply Classical.byContradiction
  intro h3; exact hno (.inl ⟨a, h1, h2, h3⟩)
 ·apply Classical.byContradiction
  intro h3; exact hno (.inr ⟨c, h1, h2, h3⟩)
structure PlO (n m t L0 LU LV K L b l : Nat) (W U V : Nat → Nat → Pol (Zp p)) : Prop where
 hl : pln (W t t) = l
 g0 : W t t ≠ 0
 hlb : l ≤ b
 hbL : b ≤ L
 h0 : L0 ≤ L
 pt : pot L b ≤ K ∨ (t + 1 = n ∧ t + 1 = m ∧ L = L0)
 w : ∀ a c, a < n → c < m → (W a c).dlt (L + (L - l))
 u : ∀ a c, a < n → c < n → (U a c).dlt (LU + (L + (L - l) - L0))
 v : ∀ a c, a < m → c < m → (V a c).dlt (LV + 2 * (L - L0) + (L - l))
 vt : ∀ a, a < m → (V a t).dlt (LV + 2 * (L - L0))
 one : t + 1 = n → t + 1 = m → (∀ a c, a < n → c < m → (W a c).dlt L) ∧ (∀ a c, a < n → c < n → (U a c).dlt (LU + (L - L0))) ∧ ∀ a c, a < m → c < m → (V a c).dlt (LV + 2 * (L - L0))
theorem PlO.l1 (h : PlO n m t L0 LU LV K L b l W U V) : 1 ≤ l := Nat.pos_of_ne_zero fun e => h.g0 (pln_zero.1 (h.hl.trans e))
theorem PlO.lL (h : PlO n m t L0 LU LV K L b l W U V) : l ≤ L := Nat.le_trans h.hlb h.hbL
theorem PlO.ln (h : PlO n m t L0 LU LV K L b l W U V) : Ln (W t t) l := by rw [← h.hl]; exact pln_ln _
theorem PlC.clean {q r q' r' : Nat → Pol (Zp p)} (tr : Trial p) (h : PlC n m t L0 LU LV K L b l W U V) (hI : SmI t n m W) (htn : t < n) (htm : t < m) (hD : ClD t n L (W t t) (fun a => W a t) q r) (hD' : ClD t m L (W t t) (fun c => W t c) q' r') :
  PlO n m t L0 LU LV K L b l (clC t m q' (clR t n q W)) (clR t n q U) (clC t m q' V) := by
 have ett : clC t m q' (clR t n q W) t t = W t t := by rw [clC_t, clR_t]
 have hlL := h.lL
 refine ⟨by rw [ett]; exact h.hl, by rw [ett]; exact h.g0, h.hlb, h.hbL, h.h0, h.pt, cl_bdA tr hD hD' h.g0 h.ln hI htn htm h.w, fun a c ha hc => dlt_mono (cl_bdU tr hD h.g0 h.ln htn htm h.w h.u a c ha hc) (by have := h.h0; omega), fun a c ha hc => dlt_mono (cl_bdV tr hD' h.g0 h.ln htn htm h.w h.v (fun a ha => h.v a t ha htm) a c ha hc) (by omega), fun a ha => by rw [clC_t]; exact h.v a t ha htm, ?_⟩
 intro e1 e2
 have eR : ∀ X : Nat → Nat → Pol (Zp p), clR t n q X = X := fun X => by rw [← e1]; exact clR_start t q X
 have eC : ∀ X : Nat → Nat → Pol (Zp p), clC t m q' X = X := fun X => by rw [← e2]; exact clC_start t q' X
 rw [eR, eR, eC, eC]
 exact ⟨h.w, h.u, h.v⟩
theorem PlO.fin (h : PlO n m t L0 LU LV K L b l W U V) : ∃ Lf, L0 ≤ Lf ∧ (Lf < K ∨ Lf = L0) ∧ (∀ a c, a < n → c < m → (W a c).dlt Lf) ∧ (∀ a c, a < n → c < n → (U a c).dlt (LU + (Lf - L0))) ∧ ∀ a c, a < m → c < m → (V a c).dlt (LV + 2 * (Lf - L0)) := by
 have h1 := h.l1; have h2 := h.lL; have h3 := h.h0
 rcases h.pt with k | ⟨k1, k2, k3⟩
 ·refine ⟨L + (L - l), by omega, .inl ?_, h.w, h.u, fun a c ha hc => dlt_mono (h.v a c ha hc) (by omega)⟩
  have k4 := pot_le (L := L + (L - l)) (b := l - 1) (by omega)
  rw [pot_next h1 h2] at k4
  have k5 := pot_mono h.hlb h.hbL
  omega
 ·obtain ⟨a1, a2, a3⟩ := h.one k1 k2
  exact ⟨L, by omega, .inr k3, a1, a2, a3⟩
theorem adt {i : Nat} (hzr : ∀ a, t < a → a < n → W a t = 0) (h1 : t < i) (h2 : i < n) : adR W t i 1 t t = W t t := by
 unfold adR; rw [if_pos rfl, hzr i h1 h2, mul_zero, add_zero]
theorem adz {i : Nat} (hzr : ∀ a, t < a → a < n → W a t = 0) : ∀ a, t < a → a < n → adR W t i 1 a t = 0 := fun a h3 h4 => by
 unfold adR; rw [if_neg (by omega)]; exact hzr a h3 h4
theorem ad_dlt {M B : Nat} {X : Nat → Nat → Pol (Zp p)} (hX : ∀ a c, a < n → c < M → (X a c).dlt B) (htn : t < n) {i : Nat} (h2 : i < n) : ∀ a c, a < n → c < M → (adR X t i 1 a c).dlt B := fun a c ha hc => by
 unfold adR; split
 ·rw [one_mul]; exact dlt_add (hX t c htn hc) (hX i c h2 hc)
 ·exact hX a c ha hc
theorem PlO.odd (tr : Trial p) (h : PlO n m t L0 LU LV K L b l W U V) (hI : SmI t n m W) (hzr : ∀ a, t < a → a < n → W a t = 0) (hzc : ∀ c, t < c → c < m → W t c = 0) {i k : Nat} (h1 : t < i) (h2 : i < n) (h3 : t < k) (h4 : k < m) (hnd : ¬ Dv (W t t) (W i k)) {q r q' r' : Nat → Pol (Zp p)}
  (hD : ClD t n (L + (L - l)) (adR W t i 1 t t) (fun a => adR W t i 1 a t) q r) (hD' : ClD t m (L + (L - l)) (adR W t i 1 t t) (fun c => adR W t i 1 t c) q' r') :
  PlB t n m L0 LU LV K (L + (L - l)) (l - 1) (clC t m q' (clR t n q (adR W t i 1))) (clR t n q (adR U t i 1)) (clC t m q' V) := by
 have htn : t < n := by omega
 have htm : t < m := by omega
 have ett := adt hzr h1 h2
 refine PlB.odd (l := l) tr h.h0 h.hbL h.pt h.lL rfl (ad_dlt h.w htn h2) (ad_dlt h.u htn h2) h.v h.vt (by rw [ett]; exact h.g0) (by rw [ett]; exact h.hl) h.hlb (hI.adR (by omega) (Nat.le_refl _) (by omega) (by omega) h2 (by omega) 1) htn htm (adz hzr) hD hD' ⟨k, h3, h4, fun e => hnd ?_⟩
 have e1 := hD'.div k h3 h4
 rw [e, add_zero, ett] at e1
 have e2 : adR W t i 1 t k = W i k := by unfold adR; rw [if_pos rfl, hzc k h3 h4, one_mul, zero_add]
 exact ⟨q' k, by rw [← e2, e1, mul_comm]⟩
theorem scl_dlt {M B : Nat} {X : Nat → Nat → Pol (Zp p)} (u : Zp p) (hX : ∀ a c, a < n → c < M → (X a c).dlt B) : ∀ a c, a < n → c < M → (scl X t (mon u 0) a c).dlt B := fun a c ha hc => by
 unfold scl; split
 ·exact mul_dlt1 (hX a c ha hc) (fun i hi => by rw [c_mon, if_neg (by omega)] : (mon u 0 : Pol (Zp p)).dlt 1)
 ·exact hX a c ha hc
theorem plc_done {A : MT (Pol (Zp p)) n m} (hS : SmR A U W V) (hI : SmI t n m W) (hzr : ∀ a, t < a → a < n → W a t = 0) (hzc : ∀ c, t < c → c < m → W t c = 0) (htn : t < n) (htm : t < m) (hd : ∀ i k, t < i → i < n → t < k → k < m → Dv (W t t) (W i k)) {u v : Zp p} (huv : u * v = 1) {d : Nat} (hl : Ln (W t t) (d + 1)) (hu : u * (W t t).c d = 1) :
  SmR A (scl U t (mon u 0)) (scl W t (mon u 0)) V ∧ SmI (t + 1) n m (scl W t (mon u 0)) := by
 have e1 : (mon u 0 : Pol (Zp p)) * mon v 0 = 1 := by rw [mon_mul, huv, Nat.add_zero, ← Pol.one_def]
 have ett : scl W t (mon u 0) t t = W t t * mon u 0 := if_pos rfl
 have eo : ∀ a c, a ≠ t → scl W t (mon u 0) a c = W a c := fun a c ha => if_neg ha
 refine ⟨hS.scl e1, (hI.scl (Nat.le_refl _) htn (by omega) _).next (by rw [ett]; exact mo_scale hl hu) (fun i h1 h2 => by rw [eo i t (by omega)]; exact hzr i h1 h2) (fun k h1 h2 => by
  show scl W t (mon u 0) t k = 0
  rw [show scl W t (mon u 0) t k = W t k * mon u 0 from if_pos rfl, hzc k h1 h2, zero_mul]) (fun a c h1 h2 h3 h4 => ?_)⟩
 rw [ett, eo a c (by omega)]
 obtain ⟨x, hx⟩ := hd a c h1 h2 h3 h4
 refine ⟨x * mon v 0, ?_⟩
 have e2 : (W t t * mon u 0) * (x * mon v 0) = (W t t * x) * (mon u 0 * mon v 0) := by_ring [x, mon v 0, W t t, mon u 0] ((X2 * X3) * (X0 * X1)) ((X2 * X0) * (X3 * X1)) rfl
 rw [e2, e1, mul_one]; exact hx
theorem ClD.re (tr : Trial p) {N L' lb : Nat} {g : Pol (Zp p)} {f q r : Nat → Pol (Zp p)} (h : ClD t N L' g f q r) (hl : Ln g lb) (g0 : g ≠ 0) (hf : ∀ a, t < a → a < N → (f a).dlt L) : ClD t N L g f q r :=
 ⟨h.div, h.rem, fun a h1 h2 => dlt_mono (divq_dlt tr (h.div a h1 h2) (hf a h1 h2) hl g0 (h.rlen hl h1 h2)) (by obtain ⟨k, rfl⟩ := hl.pos g0; omega)⟩
def Bds (n m L LU LV : Nat) (W U V : Nat → Nat → Pol (Zp p)) : Prop := (∀ a c, a < n → c < m → (W a c).dlt L) ∧ (∀ a c, a < n → c < n → (U a c).dlt LU) ∧ ∀ a c, a < m → c < m → (V a c).dlt LV
structure Stp (p n m t : Nat) (B C O : Nat → (Nat → Nat → Pol (Zp p)) → (Nat → Nat → Pol (Zp p)) → (Nat → Nat → Pol (Zp p)) → Prop) (F : (Nat → Nat → Pol (Zp p)) → (Nat → Nat → Pol (Zp p)) → (Nat → Nat → Pol (Zp p)) → Prop) : Prop where
 no : ∀ {b W U V}, B b W U V → (∀ a c, t ≤ a → a < n → t ≤ c → c < m → W a c = 0) → F W U V
 go : ∀ {b W U V a c}, B b W U V → t ≤ a → a < n → t ≤ c → c < m → W a c ≠ 0 → (∀ i k, t ≤ i → i < n → t ≤ k → k < m → W i k ≠ 0 → pln (W a c) ≤ pln (W i k) ∧ (Bf a c i k → pln (W a c) < pln (W i k))) → C b (swC (swR W t a) t c) (swR U t a) (swC V t c)
 cb : ∀ {b W U V}, C b W U V → ∃ L LU LV, L ≤ 100000000000 ∧ LU ≤ 100000000000 ∧ LV ≤ 100000000000 ∧ Bds n m L LU LV W U V
 dirty : ∀ {b W U V q r q' r' L}, C b W U V → W t t ≠ 0 → SmI t n m W → ClD t n L (W t t) (fun a => W a t) q r → ClD t m L (W t t) (fun c => W t c) q' r' → ¬ ((∀ a, t < a → a < n → r a = 0) ∧ ∀ c, t < c → c < m → r' c = 0) → ∃ b', b' < b ∧ B b' (clC t m q' (clR t n q W)) (clR t n q U) (clC t m q' V)
 clean : ∀ {b W U V q r q' r' L}, C b W U V → W t t ≠ 0 → SmI t n m W → ClD t n L (W t t) (fun a => W a t) q r → ClD t m L (W t t) (fun c => W t c) q' r' → (∀ a, t < a → a < n → r a = 0) → (∀ c, t < c → c < m → r' c = 0) → O b (clC t m q' (clR t n q W)) (clR t n q U) (clC t m q' V)
 ob : ∀ {b W U V}, O b W U V → ∃ L LU LV, L ≤ 100000000000 ∧ LU ≤ 100000000000 ∧ LV ≤ 100000000000 ∧ Bds n m L LU LV W U V
 odd : ∀ {b W U V i k q r q' r' L}, O b W U V → W t t ≠ 0 → SmI t n m W → (∀ a, t < a → a < n → W a t = 0) → (∀ c, t < c → c < m → W t c = 0) → t < i → i < n → t < k → k < m → ¬ Dv (W t t) (W i k) → ClD t n L (adR W t i 1 t t) (fun a => adR W t i 1 a t) q r → ClD t m L (adR W t i 1 t t) (fun c => adR W t i 1 t c) q' r' →
  ∃ b', b' < b ∧ B b' (clC t m q' (clR t n q (adR W t i 1))) (clR t n q (adR U t i 1)) (clC t m q' V)
 fin : ∀ {b W U V} (u : Zp p), O b W U V → F (scl W t (mon u 0)) (scl U t (mon u 0)) V
def PlF (n m L0 LU LV K : Nat) (W U V : Nat → Nat → Pol (Zp p)) : Prop := ∃ Lf, L0 ≤ Lf ∧ (Lf < K ∨ Lf = L0) ∧ Bds n m Lf (LU + (Lf - L0)) (LV + 2 * (Lf - L0)) W U V
theorem PlB.fin (h : PlB t n m L0 LU LV K L b W U V) : L < K ∨ L = L0 := by
 rcases h.pt with k | ⟨_, _, k⟩
 ·have := pot_le h.hb; omega
 ·exact .inr k
theorem PlC.lims (h : PlC n m t L0 LU LV K L b l W U V) : L < K ∨ L = L0 := by
 rcases h.pt with k | ⟨_, _, k⟩
 ·have := pot_le h.hbL; omega
 ·exact .inr k
theorem stp_pot (tr : Trial p) (htn : t < n) (htm : t < m) (hK : K ≤ 100000000000) (hL0 : L0 ≤ 100000000000) (hLU : LU + K ≤ 100000000000) (hLV : LV + 2 * K ≤ 100000000000) :
  Stp p n m t (fun b W U V => ∃ L, PlB t n m L0 LU LV K L b W U V) (fun b W U V => ∃ L l, PlC n m t L0 LU LV K L b l W U V) (fun b W U V => ∃ L l, PlO n m t L0 LU LV K L b l W U V) (PlF n m L0 LU LV K) where
 no := fun ⟨L, h⟩ _ => ⟨L, h.h0, h.fin, h.w, h.u, h.v⟩
 go := fun ⟨L, h⟩ h1 h2 h3 h4 h5 h6 => ⟨L, _, h.go h1 h2 h3 h4 h5 fun i k a1 a2 a3 a4 a5 => (h6 i k a1 a2 a3 a4 a5).1⟩
 cb := fun ⟨L, l, h⟩ => ⟨L, _, _, by have := h.lims; omega, by have := h.lims; omega, by have := h.lims; omega, h.w, h.u, h.v⟩
 dirty := fun {b W U V q r q' r' L'} ⟨L, l, h⟩ h0 hI hD hD' hne =>
  ⟨l - 1, by have := h.l1; have := h.hlb; omega, _, h.dirty tr hI htn htm (hD.re tr h.ln h0 fun a _ ha => h.w a t ha htm) (hD'.re tr h.ln h0 fun c _ hc => h.w t c htn hc) hne⟩
 clean := fun {b W U V q r q' r' L'} ⟨L, l, h⟩ h0 hI hD hD' h1 h2 =>
  ⟨L, l, h.clean tr hI htn htm (hD.re tr h.ln h0 fun a _ ha => h.w a t ha htm) (hD'.re tr h.ln h0 fun c _ hc => h.w t c htn hc)⟩
 ob := fun ⟨L, l, h⟩ => by
  obtain ⟨Lf, h1, h2, h3, h4, h5⟩ := h.fin
  exact ⟨Lf, _, _, by omega, by omega, by omega, h3, h4, h5⟩
 odd := fun {b W U V i k q r q' r' L'} ⟨L, l, h⟩ h0 hI hzr hzc h1 h2 h3 h4 h5 hD hD' => by
  have ett := adt hzr h1 h2
  have hw := ad_dlt h.w htn (i := i) h2
  have hln : Ln (adR W t i 1 t t) l := by rw [ett]; exact h.ln
  have h00 : adR W t i 1 t t ≠ 0 := by rw [ett]; exact h0
  exact ⟨l - 1, by have := h.l1; have := h.hlb; omega, _, h.odd tr hI hzr hzc h1 h2 h3 h4 h5 (hD.re tr hln h00 fun a _ ha => hw a t ha htm) (hD'.re tr hln h00 fun c _ hc => hw t c htn hc)⟩
 fin := fun u ⟨L, l, h⟩ => by
  obtain ⟨Lf, h1, h2, h3, h4, h5⟩ := h.fin
  exact ⟨Lf, h1, h2, scl_dlt u h3, scl_dlt u h4, h5⟩
end
end Go.Proofs.Ytkmfhabgempjiaa
