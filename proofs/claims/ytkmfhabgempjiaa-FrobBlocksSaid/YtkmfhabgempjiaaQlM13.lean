/- xform: a place of the diagonal is brought into form: the walk. -/
import Derived.Deep.LoopGhost
import Derived.WalkMore
import Derived.Test.YtkmfhabgempjiaaQlM12
namespace Go.Proofs.Ytkmfhabgempjiaa
set_option maxHeartbeats 4000000
open Go.RowKit
def RetPl (p : Nat) (w : World) (l0 l1 l2 l3 gS : Nat) (vA vU vV : Value) (n m : Nat) (A : MT (Pol (Zp p)) n m) (t : Nat) (F : (Nat → Nat → Pol (Zp p)) → (Nat → Nat → Pol (Zp p)) → (Nat → Nat → Pol (Zp p)) → Prop) (e : Ending) (w' : World) : Prop :=
 ∃ (b : Bool) (W U V : Nat → Nat → Pol (Zp p)), e = .returned (.bool b) ∧ F W U V ∧ SmR A U W V ∧ (b = false → SmI t n m W ∧ ∀ a c, t ≤ a → a < n → t ≤ c → c < m → W a c = 0) ∧ (b = true → SmI (t + 1) n m W) ∧ Sst p w' l0 l1 l2 l3 gS vA vU vV n m W U V ∧ Ch l0 l3 w w'
def PlR (p : Nat) (w : World) (l0 l1 l2 l3 gS : Nat) (vA vU vV : Value) (n m : Nat) (A : MT (Pol (Zp p)) n m) (t : Nat) (B : Nat → (Nat → Nat → Pol (Zp p)) → (Nat → Nat → Pol (Zp p)) → (Nat → Nat → Pol (Zp p)) → Prop) (b : Nat) (wr : World) : Prop :=
 ∃ (W U V : Nat → Nat → Pol (Zp p)), B b W U V ∧ SmR A U W V ∧ SmI t n m W ∧ Sst p wr l0 l1 l2 l3 gS vA vU vV n m W U V ∧ Ch l0 l3 w wr
theorem smp_r {p n m t : Nat} {A : MT (Pol (Zp p)) n m} (htn : t < n) : ∀ X U V i c, t < i → i < n → SmR A U X V ∧ SmI t n m X → t < m → SmR A (adR U i t c) (adR X i t c) V ∧ SmI t n m (adR X i t c) :=
 fun _ _ _ _ c h1 h2 h htm => ⟨h.1.adR (by omega) h2 htn c, h.2.adR (by omega) (by omega) h2 (Nat.le_refl _) htn (by omega) c⟩
theorem smp_c {p n m t : Nat} {A : MT (Pol (Zp p)) n m} (htm : t < m) : ∀ X U V i c, t < i → i < m → SmR A U X V ∧ SmI t n m X → t < n → SmR A U (adC X i t c) (adC V i t c) ∧ SmI t n m (adC X i t c) :=
 fun _ _ _ _ c h1 h2 h htn => ⟨h.1.adC (by omega) h2 htm c, h.2.adC (by omega) (by omega) h2 (Nat.le_refl _) htm (by omega) c⟩
set_option maxRecDepth 20000 in
theorem xf_place (p : Nat) (w : World) (l0 l1 l2 l3 gS : Nat) (vA vU vV : Value) (n m : Nat) (A : MT (Pol (Zp p)) n m) (t b0 : Nat) {B C O : Nat → (Nat → Nat → Pol (Zp p)) → (Nat → Nat → Pol (Zp p)) → (Nat → Nat → Pol (Zp p)) → Prop} {F : (Nat → Nat → Pol (Zp p)) → (Nat → Nat → Pol (Zp p)) → (Nat → Nat → Pol (Zp p)) → Prop} (hp : FP p) (ht : Trial p) (HS : Stp p n m t B C O F)
  (h : PlR p w l0 l1 l2 l3 gS vA vU vV n m A t B b0 w) (htn : t < n) (htm : t < m) (hn : n ≤ 1000) (hm : m ≤ 1000) :
  Calls Try.prog 72 #[.pointer (some ⟨gS, 0, none⟩), .int .i64 t] w (RetPl p w l0 l1 l2 l3 gS vA vU vV n m A t F) := by
 obtain ⟨PQ, ePQ⟩ : ∃ PQ : Ending → World → Prop, PQ = RetPl p w l0 l1 l2 l3 gS vA vU vV n m A t F := ⟨_, rfl⟩
 rw [← ePQ]
 have hl3 : l3 ≤ w.heap.size := by obtain ⟨_, _, _, _, _, _, hs, _⟩ := h; exact hs.size
 have tl : Own .u64 27 (w.alloc (.cells #[.int .u64 1] 27)) l3 (.slice (some ⟨w.heap.size, 0, none⟩) 1 1) [1] := (own_lit1 w 1).mono hl3
 have btl : Below w.heap.size w (w.alloc (.cells #[.int .u64 1] 27)) := (Below.refl _ _).alloc (Nat.le_refl _) _
 have EPQ := Lib.hid ePQ; have HP := Lib.hid hp; have HTR := Lib.hid ht; have HST := Lib.hid HS
 have START := Lib.hid (show PlR p (w.alloc (.cells #[.int .u64 1] 27)) l0 l1 l2 l3 gS vA vU vV n m A t B b0 (w.alloc (.cells #[.int .u64 1] 27)) from by
  obtain ⟨W, U, V, h1, h2, h3, h4, _⟩ := h; exact ⟨W, U, V, h1, h2, h3, h4.next btl, Ch.refl _ _ _⟩)
 have B1 := Lib.hid (Ch.of (lo := l0) (hi := l3) btl)
 clear ePQ hp ht h HS btl
 go_enter Try.func72, Try.ntmps72
 go_wp2
 go_step3
 go_wp2
 go_step3
 go_wp2
 generalize w.alloc (.cells #[.int .u64 1] 27) = w1 at *
 obtain ⟨g1, eg1⟩ : ∃ g1, g1 = w.heap.size := ⟨_, rfl⟩
 rw [← eg1] at tl ⊢
 clear eg1
 go_loopg [6] b0 (fun b iv wr => PlR p w1 l0 l1 l2 l3 gS vA vU vV n m A t B b wr)
 case atStart => exact START.out
 case round =>
  clear START
  obtain ⟨W, U, V, hB, hS, hI, h, C0⟩ := hrel
  have HB := Lib.hid hB; have HSR := Lib.hid hS; have HI := Lib.hid hI; have HH := Lib.hid h; have HC := Lib.hid C0
  clear hB hS hI h C0
  go_wp2_with fail
  refine (xf_least p wr l0 l1 l2 l3 gS vA vU vV n m W U V t HP.out.pos HH.out htn htm hn hm).mono ?_
  rintro e w2 (⟨rfl, hz, h2, C2⟩ | ⟨rfl, a, c, ha, han, hc, hcm, hne, hmin, h2, C2⟩)
  ·have FIN := Lib.hid (show PQ (.returned (.bool false)) w2 by
    rw [EPQ.out]
    exact ⟨false, W, U, V, rfl, HST.out.no HB.out hz, HSR.out, fun _ => ⟨HI.out, hz⟩, fun e => by simp at e, h2, B1.out.trans (HC.out.trans C2)⟩)
   clear hz h2 C2 HB HSR HI HH HC
   go_wp2
   exact FIN.out
  ·have hC := HST.out.go HB.out ha han hc hcm hne hmin
   have hI1 := (HI.out.swR (Nat.le_refl _) htn ha han (by omega)).swC (Nat.le_refl _) htm hc hcm (by omega)
   have hS1 := (HSR.out.swR htn han).swC htm hcm
   have hn1 : swC (swR W t a) t c t t ≠ 0 := by rw [swp_tt]; exact hne
   have HC2 := Lib.hid (HC.out.trans C2)
   generalize swC (swR W t a) t c = W1 at *
   generalize swR U t a = U1 at *
   generalize swC V t c = V1 at *
   obtain ⟨L, LU, LV, hL, hLU, hLV, hb1, hb2, hb3⟩ := HST.out.cb hC
   have HB1 := Lib.hid hb1; have HB2 := Lib.hid hb2; have HB3 := Lib.hid hb3; have H2 := Lib.hid h2; have HN1 := Lib.hid hn1; have HS1 := Lib.hid hS1; have HI1 := Lib.hid hI1; have HCC := Lib.hid hC
   clear hb1 hb2 hb3 h2 hn1 hS1 hI1 hC hmin hne C2 HB HSR HI HH HC ha han hc hcm
   go_wp2_with fail
   refine (xf_clear p w2 l0 l1 l2 l3 gS vA vU vV n m W1 U1 V1 t L LU LV (fun X Y Z => SmR A Y X Z ∧ SmI t n m X) HP.out HTR.out H2.out htn htm hn hm hL hLU hLV HB1.out HB2.out HB3.out HN1.out ⟨HS1.out, HI1.out⟩ (fun X Y Z i c h1 h2 h3 => smp_r htn X Y Z i c h1 h2 h3 htm) (fun X Y Z i c h1 h2 h3 => smp_c htm X Y Z i c h1 h2 h3 htn)).mono ?_
   rintro e w3 ⟨b, q, r, q', r', rfl, hD, hD', hbz, ⟨hS3, hI3⟩, h3, C3⟩
   have HC3 := Lib.hid (HC2.out.trans C3)
   cases b
   ·obtain ⟨b', hlt, hB'⟩ := HST.out.dirty HCC.out HN1.out HI1.out hD hD' (fun e => by have := hbz.2 e; simp at this)
    have F1 := Lib.hid hB'; have F2 := Lib.hid hS3; have F3 := Lib.hid hI3; have F4 := Lib.hid h3
    clear hB' hS3 hI3 h3 hD hD' hbz C3 HB1 HB2 HB3 H2 HN1 HS1 HI1 HCC HC2
    go_wp2
    go_roundg b'
    case measure => exact hlt
    case rel => exact ⟨_, _, _, F1.out, F2.out, F3.out, F4.out, HC3.out⟩
   ·have hz3 := hbz.1 rfl
    have hO := HST.out.clean HCC.out HN1.out HI1.out hD hD' hz3.1 hz3.2
    have hn3 : clC t m q' (clR t n q W1) t t ≠ 0 := by rw [clC_t, clR_t]; exact HN1.out
    have hzr : ∀ a, t < a → a < n → clC t m q' (clR t n q W1) a t = 0 := fun a h1 h2 => by rw [clC_t, clR_at hD h1 h2]; exact hz3.1 a h1 h2
    have hzc : ∀ c, t < c → c < m → clC t m q' (clR t n q W1) t c = 0 := fun c h1 h2 => by rw [clC_at hD' q h1 h2]; exact hz3.2 c h1 h2
    generalize clC t m q' (clR t n q W1) = W3 at *
    generalize clR t n q U1 = U3 at *
    generalize clC t m q' V1 = V3 at *
    obtain ⟨M, MU, MV, hM, hMU, hMV, hb1, hb2, hb3⟩ := HST.out.ob hO
    have HO := Lib.hid hO; have HN3 := Lib.hid hn3; have HZR := Lib.hid hzr; have HZC := Lib.hid hzc; have HM1 := Lib.hid hb1; have HM2 := Lib.hid hb2; have HM3 := Lib.hid hb3; have HS3 := Lib.hid hS3; have HI3 := Lib.hid hI3; have H3 := Lib.hid h3
    clear hO hn3 hzr hzc hb1 hb2 hb3 hS3 hI3 h3 hz3 hbz hD hD' C3 HB1 HB2 HB3 H2 HN1 HS1 HI1 HCC HC2
    clear q r q' r'
    go_wp2_with fail
    refine (xf_odd p w3 l0 l1 l2 l3 gS vA vU vV n m W3 U3 V3 t M HP.out HTR.out H3.out htn htm hn hm (by omega) HM1.out HN3.out).mono ?_
    rintro e w4 ⟨b4, (⟨i, k, rfl, hti, hin, htk, hkm, hnd⟩ | ⟨rfl, hall⟩)⟩
    ·have HND := Lib.hid hnd
     have h4 := H3.out.next b4
     have HC4 := HC3.out.trans (Ch.of b4)
     clear hnd b4 H3
     have hi0 : ¬ (i : Int) < 0 := by omega
     have hg0 : ¬ gS < l0 := by have := h4.o1; have := h4.o2; have := h4.o3; have := h4.gs; omega
     have h13 : l1 ≤ l3 := Nat.le_trans h4.o2 h4.o3
     have h23 : l2 ≤ l3 := h4.o3
     have hgs : l3 ≤ gS := h4.gs
     obtain ⟨UA, RA⟩ := h4.a
     have KS := h4.blk
     have c1 := KS.cell 1
     have t4 := tl.ch HC4
     have H4 := Lib.hid h4; have HRA := Lib.hid RA
     clear h4 RA
     go_wp2_with fail
     refine (xf_addRow p w4 gS l0 l1 M _ vA _ n m UA W3 t i [1] HP.out KS (.inr (Nat.le_trans h13 hgs)) HRA.out htn hin (t4.mono h13) (by simp) (by omega) hm HM1.out).mono ?_
     rintro e w5 ⟨rfl, R5, C5⟩
     rw [pl_sing1] at R5
     have h5 : Sst p w5 l0 l1 l2 l3 gS vA vU vV n m (adR W3 t i 1) U3 V3 := H4.out.setA R5 C5
     have HC5 := HC4.trans (h5.wA C5)
     have t5 := t4.ch C5
     clear R5 C5 HRA c1 KS H4 t4 HC4
     obtain ⟨UU, RU⟩ := h5.u
     have KS := h5.blk
     have c2 := KS.cell 2
     have H5 := Lib.hid h5; have HRU := Lib.hid RU
     clear h5 RU
     go_wp2_with fail
     refine (xf_addRow p w5 gS l1 l2 MU _ vU _ n n UU U3 t i [1] HP.out KS (.inr (Nat.le_trans h23 hgs)) HRU.out htn hin (t5.mono h23) (by simp) (by omega) hn HM2.out).mono ?_
     rintro e w6 ⟨rfl, R6, C6⟩
     rw [pl_sing1] at R6
     have h6 : Sst p w6 l0 l1 l2 l3 gS vA vU vV n m (adR W3 t i 1) (adR U3 t i 1) V3 := H5.out.setU R6 C6
     have HC6 := HC5.trans (h6.wU C6)
     clear R6 C6 HRU c2 KS H5 t5 HC5
     have H6 := Lib.hid h6; have H6C := Lib.hid HC6
     have HA1 := Lib.hid (ad_dlt HM1.out htn (i := i) hin); have HA2 := Lib.hid (ad_dlt HM2.out htn (i := i) hin)
     have HA3 := Lib.hid (show adR W3 t i 1 t t ≠ 0 by rw [adt HZR.out hti hin]; exact HN3.out)
     have HA4 := Lib.hid (show SmR A (adR U3 t i 1) (adR W3 t i 1) V3 ∧ SmI t n m (adR W3 t i 1) from ⟨HS3.out.adR (by omega) htn hin 1, HI3.out.adR (by omega) (Nat.le_refl _) htn (by omega) hin (by omega) 1⟩)
     clear h6 HC6
     go_wp2_with fail
     refine (xf_clear p w6 l0 l1 l2 l3 gS vA vU vV n m (adR W3 t i 1) (adR U3 t i 1) V3 t M MU MV (fun X Y Z => SmR A Y X Z ∧ SmI t n m X) HP.out HTR.out H6.out htn htm hn hm hM hMU hMV HA1.out HA2.out HM3.out HA3.out HA4.out (fun X Y Z i c h1 h2 h3 => smp_r htn X Y Z i c h1 h2 h3 htm) (fun X Y Z i c h1 h2 h3 => smp_c htm X Y Z i c h1 h2 h3 htn)).mono ?_
     rintro e w7 ⟨b, q, r, q', r', rfl, hD, hD', -, ⟨hS7, hI7⟩, h7, C7⟩
     obtain ⟨b', hlt, hB'⟩ := HST.out.odd HO.out HN3.out HI3.out HZR.out HZC.out hti hin htk hkm HND.out hD hD'
     have F1 := Lib.hid hB'; have F2 := Lib.hid hS7; have F3 := Lib.hid hI7; have F4 := Lib.hid h7; have F5 := Lib.hid (H6C.out.trans C7)
     clear hB' hS7 hI7 h7 hD hD' C7 H6 H6C HA1 HA2 HA3 HA4
     go_wp2
     go_roundg b'
     case measure => exact hlt
     case rel => exact ⟨_, _, _, F1.out, F2.out, F3.out, F4.out, F5.out⟩
    ·have h4 := H3.out.next b4
     have HC4 := HC3.out.trans (Ch.of b4)
     have KS := h4.blk
     have c1 := KS.cell 1
     obtain ⟨UA, EA, XA, -, -⟩ := id h4.a
     obtain ⟨gA, capA, rfl, -⟩ := XA.hdr htn
     obtain ⟨UU, EU, XU, -, -⟩ := id h4.u
     obtain ⟨gU, capU, rfl, -⟩ := XU.hdr htn
     clear XU EU UU
     obtain ⟨bT, cT, eT, -, lT, -, -, hTc, -⟩ := XA.at htn (by omega)
     have q2 := (XA.cellU htn).1
     rw [eT] at q2
     obtain ⟨aY, nY, cY, zY, eY, lY, oY, mY, vY⟩ := Vn.open (XA.el t t htn htm)
     have q4 := hTc t htm
     rw [eY] at q4
     have hzY : zY.length ≤ M := nrm_len HP.out.pos mY (by rw [vY]; exact HM1.out t t htn htm)
     have hz0 : zY.length ≠ 0 := fun e => HN3.out (by rw [← vY, List.length_eq_zero_iff.1 e, pl_nil])
     obtain ⟨jj, hjj⟩ : ∃ jj, nY = jj + 1 := ⟨nY - 1, by omega⟩
     obtain ⟨x, ex⟩ : ∃ x, x = zY.getD jj 0 := ⟨_, rfl⟩
     have hl0 : 0 < zY.length := by omega
     have tP := oY.sl
     obtain ⟨ao, bP, oP, cP', eP', hlP, hcsP⟩ := tP
     simp only [Value.slice.injEq] at eP'
     obtain ⟨rfl, -, rfl⟩ := eP'
     obtain rfl := hcsP.ao (by intro h; rw [h] at hl0; simp at hl0)
     have hxc := hcsP.cell jj (by omega)
     rw [← ex] at hxc
     have lP2 : bP < w4.heap.size := hcsP.lt (by intro h; rw [h] at hl0; simp at hl0)
     obtain ⟨y, ey⟩ : ∃ y, y = (Zp.of p x).iv.val := ⟨_, rfl⟩
     have EY := Lib.hid ey
     have hLn := nrm_ln HP.out.pos mY
     have hLe : zY.length = jj + 1 := by omega
     rw [vY, hLe] at hLn
     have hu := lead_inv (l := jj) HTR.out mY hLe
     rw [vY, ← ex] at hu
     have hx0 : Zp.of p x ≠ 0 := fun e => by
      have := hLn.2 jj rfl
      rw [← vY, pl_c, ← ex, e] at this
      exact this rfl
     have DONE := Lib.hid (plc_done HS3.out HI3.out HZR.out HZC.out htn htm hall (Zp.iv_mul HTR.out hx0) hLn hu)
     have hiy : Zp.of p y = (Zp.of p x).iv := by rw [ey, Zp.of_val]
     have FF := Lib.hid (HST.out.fin (Zp.of p x).iv HO.out)
     obtain ⟨u, eu⟩ : ∃ u, u = (Zp.of p x).iv := ⟨_, rfl⟩
     rw [← eu] at hiy DONE FF
     have HIY := Lib.hid hiy
     have hwr : IntKind.i64.wrap ((nY : Int) - 1) = (jj : Int) := by rw [IntWalk.i64_in _ ⟨by omega, by omega⟩]; omega
     have hj0 : (0 : Int) ≤ (jj : Int) := Int.natCast_nonneg _
     have hj1 : (jj : Int) < (nY : Int) := by omega
     have H4 := Lib.hid h4; have C4 := Lib.hid HC4
     clear hzY eu h4 HC4 hu hx0 hLn hLe ex ey hjj hz0 hl0 hcsP hlP lY oY mY vY eY eT hTc XA EA UA hall tl b4 hiy H3 HC3 HO HN3
     go_upto_region 11 with (fail)
     clear c1 q2 q4
     have bd := dw w4
     replace KS := KS.next bd
     have hxc3 : w4.drew.cell? ⟨bP, oP + jj, none⟩ = some (.int .u64 x) := hxc
     have lP3 : bP < w4.drew.heap.size := lP2
     have h5 := H4.out.next bd
     have C5 := C4.out.trans (Ch.of bd)
     clear bd hxc lP2 H4 C4
     have z0 := Lib.hid fun (w : World) (hS : Below (w4.drew).heap.size (w4.drew) w) => And.intro ((KS.at hS) 0) ((hS.cell (p := ⟨bP, oP + jj, none⟩) lP3).trans hxc3)
     refine startL (S := (fun w' => Below (w4.drew).heap.size (w4.drew) w')) (by kernel_rfl) (Below.refl _ _) (fun hHeld => ?_)
     refine tk 0 ?_
     refine tk 1 ?_
     refine tk 2 ?_
     refine tf 3 z0.out ?_
     refine tk 4 ?_
     refine tk 5 ?_
     refine tk 6 ?_
     refine tk 7 ?_
     refine tk 8 ?_
     refine tf 9 z0.out ?_
     refine on 10 fun K hK => ?_
     go_simp
     go_at_call 131
     (with_reducible refine (gfp_Inv p x y _ HP.out EY.out).mono ?_); rintro e w8 ⟨rfl, b8⟩
     refine hK.out _ _ (hHeld.trans (b8.mono hHeld.size)) (fun hHeld => ?_)
     clear hK K
     try simp only [Act.put, zq1, zq2, zq3]
     refine tk 11 ?_
     clear z0; refine doneL (by kernel_rfl) ?_ _
     have h6 := h5.next hHeld
     have C6 := C5.trans (Ch.of hHeld)
     clear KS hxc3 lP3 h5 C5 hHeld hj0 hj1 hwr EY b8
     go_upto_region 12 with (fail)
     have bd := dw w8
     have h7 := h6.next bd
     have C7 := C6.trans (Ch.of bd)
     have KS := h7.blk
     clear bd h6 C6
     have z0 := Lib.hid fun (w : World) (hS : Below (w8.drew).heap.size (w8.drew) w) => And.intro ((KS.at hS) 1) ((KS.at hS) 2)
     refine startL (S := (fun w' => Below (w8.drew).heap.size (w8.drew) w')) (by kernel_rfl) (Below.refl _ _) (fun hHeld => ?_)
     generalize w8.drew = wd at *
     refine tk 0 ?_
     refine tk 1 ?_
     refine tk 2 ?_
     refine tf 3 z0.out ?_
     refine tk 4 ?_
     refine tk 5 ?_
     refine tk 6 ?_
     refine tf 7 z0.out ?_
     refine tk 10 ?_
     refine on 8 fun K hK => ?_
     go_simp
     obtain ⟨gL, egL⟩ : ∃ gL, gL = wd.heap.size := ⟨_, rfl⟩
     have kL : Blk 98 (wd.alloc (.cells #[.slice (some ⟨gA, 0, none⟩) n capA, .slice (some ⟨gU, 0, none⟩) n capU] 98)) gL [.slice (some ⟨gA, 0, none⟩) n capA, .slice (some ⟨gU, 0, none⟩) n capU] := by rw [egL]; exact Blk.lit (wd) 98 [.slice (some ⟨gA, 0, none⟩) n capA, .slice (some ⟨gU, 0, none⟩) n capU]
     have hgL0 : l3 ≤ gL := by rw [egL]; exact h7.size
     have btl : Below wd.heap.size wd (wd.alloc (.cells #[.slice (some ⟨gA, 0, none⟩) n capA, .slice (some ⟨gU, 0, none⟩) n capU] 98)) := (Below.refl _ _).alloc (Nat.le_refl _) _
     rw [← egL]
     generalize wd.alloc (.cells #[.slice (some ⟨gA, 0, none⟩) n capA, .slice (some ⟨gU, 0, none⟩) n capU] 98) = w9 at *
     refine hK.out _ _ (hHeld.trans (btl.mono hHeld.size)) (fun hHeld => ?_)
     clear hK K btl egL
     try simp only [Act.put, zq1, zq2, zq3]
     refine tk 9 ?_
     clear z0; refine doneL (by kernel_rfl) ?_ _
     have h9 := h7.next hHeld
     have C9 := C7.trans (Ch.of hHeld)
     have hgL : l3 ≤ gL := hgL0
     have H9 := Lib.hid h9; have HC9 := Lib.hid C9; have HKL := Lib.hid kL
     clear h7 C7 KS hHeld h9 C9 kL hgL0
     go_wp2
     go_loopw [78] (fun iv wr => ∃ i : Nat, i ≤ 2 ∧ iv = .int .i64 i ∧ Sst p wr l0 l1 l2 l3 gS (.slice (some ⟨gA, 0, none⟩) n capA) (.slice (some ⟨gU, 0, none⟩) n capU) vV n m (if 1 ≤ i then scl W3 t (mon u 0) else W3) (if 2 ≤ i then scl U3 t (mon u 0) else U3) V3 ∧ Blk 98 wr gL [.slice (some ⟨gA, 0, none⟩) n capA, .slice (some ⟨gU, 0, none⟩) n capU] ∧ Ch l0 l3 w1 wr) (fun iv _ => 2 - (intOf iv).toNat)
     case atStart => exact ⟨0, by omega, rfl, H9.out, HKL.out, HC9.out⟩
     case round =>
      clear H9 HC9 HKL
      obtain ⟨i, hi2, rfl, h, kL, C⟩ := hrel
      by_cases hlt : i < 2
      ·rcases (show i = 0 ∨ i = 1 by omega) with rfl | rfl
       ·have c0 := kL.cell 0
        obtain ⟨UR, RR⟩ := h.a
        obtain ⟨ER, XR, -, -⟩ := id RR
        obtain ⟨bR, cR, eR, -, lR, -, -, -, -⟩ := XR.at htn (by omega)
        have q1 := (XR.cellU htn).1
        rw [eR] at q1
        have ER1 := Lib.hid eR
        have hlo0 : l0 ≤ l1 := h.o1
        have hlo1 : l1 ≤ l3 := Nat.le_trans h.o2 h.o3
        have hlo2 : l2 ≤ l3 := h.o3
        have hgs : l3 ≤ gS := h.gs
        have KS := h.blk
        have HSS := Lib.hid h; have HCC := Lib.hid C; have HKL := Lib.hid kL
        obtain ⟨W', eW'⟩ : ∃ W' : Nat → Nat → Nat → Pol (Zp p), W' = fun k a j => if a = t ∧ j < k then W3 t j * mon u 0 else W3 a j := ⟨_, rfl⟩
        have EW := Lib.hid eW'
        have ST := Lib.hid (RR.congr (V := W' 0) fun a j _ _ => by rw [EW.out]; exact if_neg (by omega))
        clear h C kL RR XR ER eR eW'
        obtain ⟨wo, ewo⟩ : ∃ wo, wo = wr := ⟨_, rfl⟩
        rw [← ewo] at HSS HCC HKL KS ST
        have EWO := Lib.hid ewo; clear ewo
        go_wp2
        clear c0 q1
        go_loopw [87] (fun jv ws => ∃ j : Nat, j ≤ m ∧ jv = .int .i64 j ∧ Rw p ws l0 l1 (.slice (some ⟨gA, 0, none⟩) n capA) n m UR (W' j) ∧ Ch l0 l1 wo ws) (fun jv _ => m - (intOf jv).toNat)
        case atStart => exact ⟨0, Nat.zero_le _, rfl, by rw [← EWO.out]; exact ST.out, by rw [← EWO.out]; exact Ch.refl _ _ _⟩
        case round =>
         clear ST
         obtain ⟨j, hj, rfl, R, C⟩ := hrel
         by_cases hjm : j < m
         ·obtain ⟨E, X, -, -⟩ := id R
          obtain ⟨bI, cI, eI, -, hI2, -, -, hIc, -⟩ := X.at htn (by omega)
          obtain ⟨aX, nX, cX, zX, eX, lX, oX, mX, vX⟩ := Vn.open (X.el t j htn hjm)
          have qi := hIc j hjm
          rw [eX] at qi
          obtain ⟨q1, lg, -⟩ := X.cellU htn
          rw [eI] at q1
          have vX' : pl p zX = W3 t j := by rw [vX, EW.out]; exact if_neg (by omega)
          have hzX : zX.length ≤ M := nrm_len HP.out.pos mX (by rw [vX']; exact HM1.out t j htn hjm)
          have tX := oX.sl
          replace KS := KS.ch C (.inr (by omega))
          obtain rfl : nX = zX.length := lX.symm
          have VX := Lib.hid vX'; have EI := Lib.hid eI
          clear X hIc vX vX' oX mX lX eX eI
          go_upto_region 18 with (fail)
          have bd := dw wr
          replace KS := KS.next bd; replace tX := tX.next bd
          have R3 := R.next bd
          have C3 := C.trans (Ch.of bd)
          have q1' : wr.drew.cell? ⟨gA, t, none⟩ = some (.slice (some ⟨bI, 0, none⟩) m cI) := q1
          have qi' : wr.drew.cell? ⟨bI, j, none⟩ = some (.slice aX zX.length cX) := qi
          have l1' : gA < wr.drew.heap.size := lg
          have l2' : bI < wr.drew.heap.size := hI2
          have hhw' : l1 ≤ wr.drew.heap.size := R3.choose_spec.2.2
          clear bd q1 qi lg hI2 C R
          have z0 := Lib.hid fun (w : World) (hS : Below (wr.drew).heap.size (wr.drew) w) => And.intro ((KS.at hS) 0) (And.intro ((hS.cell (p := ⟨gA, t, none⟩) l1').trans q1') ((hS.cell (p := ⟨bI, j, none⟩) l2').trans qi'))
          refine startP (S := (fun w' => Below (wr.drew).heap.size (wr.drew) w')) (by kernel_rfl) _ rfl rfl rfl (by kernel_rfl) (Below.refl _ _) (fun hHeld => ?_)
          refine tk 0 ?_
          refine tk 1 ?_
          refine tk 2 ?_
          refine tf 3 z0.out ?_
          refine tk 4 ?_
          refine tk 5 ?_
          refine tk 6 ?_
          refine tk 7 ?_
          refine tf 8 z0.out ?_
          refine tk 9 ?_
          refine tk 10 ?_
          refine tk 11 ?_
          refine tf 12 z0.out ?_
          refine tk 13 ?_
          refine tk 14 ?_
          refine tf 15 z0.out ?_
          refine tk 16 ?_
          refine on 17 fun K hK => ?_
          go_simp
          go_at_call 132
          (with_reducible refine (fp_Scale p y _ zX _ HP.out (tX.next hHeld) (by omega)).mono ?_); rintro e w5 ⟨r5, z5, rfl, o5, n5, v5, l5, b5⟩
          refine hK.out _ _ (hHeld.trans (b5.mono hHeld.size)) (fun hHeld => ?_)
          clear hK K
          try simp only [Act.put, zq1, zq2, zq3]
          refine tk 18 ?_
          clear z0; refine doneL (by kernel_rfl) ?_ _
          refine lastL rfl (by rfl) ?_
          obtain ⟨a5, c5, e5⟩ := o5.sliced
          subst e5
          have R5 := R3.next hHeld
          have c9 := (hHeld.cell (p := ⟨bI, j, none⟩) l2').trans qi'
          have fz9 : w5.frozen? ⟨bI, j, none⟩ = false := by
           obtain ⟨E5, X5, -, -⟩ := R5
           obtain ⟨b5', c5', e5', -, -, -, -, -, hf5⟩ := X5.at htn (by omega)
           rw [EI.out] at e5'
           simp only [Value.slice.injEq, Option.some.injEq, Addr.mk.injEq, and_true, true_and] at e5'
           rw [e5'.1]; exact hf5 j
          obtain ⟨R6, C6⟩ := R5.set htn hjm EI.out (y := .slice a5 z5.length c5) (f := W3 t j * mon u 0) ⟨z5, o5.mono (Nat.le_trans hlo0 hhw'), n5, by rw [v5, VX.out, HIY.out]⟩
          have F1 := Lib.hid (R6.congr (V := W' (j + 1)) fun a k _ _ => by
           rw [EW.out]
           show (if a = t ∧ k < j + 1 then _ else _) = if a = t ∧ k = j then _ else if a = t ∧ k < j then _ else _
           by_cases h1 : a = t
           ·by_cases h2 : k = j
            ·rw [if_pos ⟨h1, by omega⟩, if_pos ⟨h1, h2⟩, h2]
            ·by_cases h3 : k < j
             ·rw [if_pos ⟨h1, by omega⟩, if_neg (fun h => h2 h.2), if_pos ⟨h1, h3⟩]
             ·rw [if_neg (fun h => by have := h.2; omega), if_neg (fun h => h2 h.2), if_neg (fun h => h3 h.2)]
           ·rw [if_neg (fun h => h1 h.1), if_neg (fun h => h1 h.1), if_neg (fun h => h1 h.1)])
          have F2 := Lib.hid ((C3.trans (Ch.of hHeld)).trans C6)
          clear R3 R5 R6 C3 C6 o5 n5 v5 hHeld KS tX q1' qi' b5
          go_wp2
          refine ⟨?_, ?measure⟩
          refine ⟨_, _, _, _, _, _, _, _, _, _, _, _, _, _, _, _, _, _, _, _, _, _, _, _, ?rel, rfl⟩
          case rel => exact ⟨j + 1, by omega, by go_num, F1.out, F2.out⟩
          case measure => simp [intOf] <;> omega
         ·obtain rfl : j = m := by omega
          have RF := R.congr (V := scl W3 t (mon u 0)) fun a k _ hk => by
           rw [EW.out]
           unfold scl
           show (if a = t then _ else _) = if a = t ∧ k < _ then _ else _
           by_cases h1 : a = t
           ·rw [if_pos h1, if_pos ⟨h1, hk⟩, h1]
           ·rw [if_neg h1, if_neg (fun h => h1 h.1)]
          have F1 := Lib.hid (HSS.out.setA RF C)
          have F2 := Lib.hid (HKL.out.ch C (.inr (by omega)))
          have F3 := Lib.hid (HCC.out.trans (HSS.out.wA C))
          clear R C RF KS
          go_wp2
          go_roundw
          case rel => exact ⟨0 + 1, by omega, by go_num, F1.out, F2.out, F3.out⟩
          case measure => simp [intOf] <;> omega
       ·have c0 := kL.cell 1
        obtain ⟨UR, RR⟩ := h.u
        obtain ⟨ER, XR, -, -⟩ := id RR
        obtain ⟨bR, cR, eR, -, lR, -, -, -, -⟩ := XR.at htn (by omega)
        have q1 := (XR.cellU htn).1
        rw [eR] at q1
        have ER1 := Lib.hid eR
        have hlo0 : l1 ≤ l2 := h.o2
        have hlo1 : l1 ≤ l3 := Nat.le_trans h.o2 h.o3
        have hlo2 : l2 ≤ l3 := h.o3
        have hgs : l3 ≤ gS := h.gs
        have KS := h.blk
        have HSS := Lib.hid h; have HCC := Lib.hid C; have HKL := Lib.hid kL
        obtain ⟨W', eW'⟩ : ∃ W' : Nat → Nat → Nat → Pol (Zp p), W' = fun k a j => if a = t ∧ j < k then U3 t j * mon u 0 else U3 a j := ⟨_, rfl⟩
        have EW := Lib.hid eW'
        have ST := Lib.hid (RR.congr (V := W' 0) fun a j _ _ => by rw [EW.out]; exact if_neg (by omega))
        clear h C kL RR XR ER eR eW'
        obtain ⟨wo, ewo⟩ : ∃ wo, wo = wr := ⟨_, rfl⟩
        rw [← ewo] at HSS HCC HKL KS ST
        have EWO := Lib.hid ewo; clear ewo
        go_wp2
        clear c0 q1
        go_loopw [87] (fun jv ws => ∃ j : Nat, j ≤ n ∧ jv = .int .i64 j ∧ Rw p ws l1 l2 (.slice (some ⟨gU, 0, none⟩) n capU) n n UR (W' j) ∧ Ch l1 l2 wo ws) (fun jv _ => n - (intOf jv).toNat)
        case atStart => exact ⟨0, Nat.zero_le _, rfl, by rw [← EWO.out]; exact ST.out, by rw [← EWO.out]; exact Ch.refl _ _ _⟩
        case round =>
         clear ST
         obtain ⟨j, hj, rfl, R, C⟩ := hrel
         by_cases hjm : j < n
         ·obtain ⟨E, X, -, -⟩ := id R
          obtain ⟨bI, cI, eI, -, hI2, -, -, hIc, -⟩ := X.at htn (by omega)
          obtain ⟨aX, nX, cX, zX, eX, lX, oX, mX, vX⟩ := Vn.open (X.el t j htn hjm)
          have qi := hIc j hjm
          rw [eX] at qi
          obtain ⟨q1, lg, -⟩ := X.cellU htn
          rw [eI] at q1
          have vX' : pl p zX = U3 t j := by rw [vX, EW.out]; exact if_neg (by omega)
          have hzX : zX.length ≤ MU := nrm_len HP.out.pos mX (by rw [vX']; exact HM2.out t j htn hjm)
          have tX := oX.sl
          replace KS := KS.ch C (.inr (by omega))
          obtain rfl : nX = zX.length := lX.symm
          have VX := Lib.hid vX'; have EI := Lib.hid eI
          clear X hIc vX vX' oX mX lX eX eI
          go_upto_region 18 with (fail)
          have bd := dw wr
          replace KS := KS.next bd; replace tX := tX.next bd
          have R3 := R.next bd
          have C3 := C.trans (Ch.of bd)
          have q1' : wr.drew.cell? ⟨gU, t, none⟩ = some (.slice (some ⟨bI, 0, none⟩) n cI) := q1
          have qi' : wr.drew.cell? ⟨bI, j, none⟩ = some (.slice aX zX.length cX) := qi
          have l1' : gU < wr.drew.heap.size := lg
          have l2' : bI < wr.drew.heap.size := hI2
          have hhw' : l2 ≤ wr.drew.heap.size := R3.choose_spec.2.2
          clear bd q1 qi lg hI2 C R
          have z0 := Lib.hid fun (w : World) (hS : Below (wr.drew).heap.size (wr.drew) w) => And.intro ((KS.at hS) 0) (And.intro ((hS.cell (p := ⟨gU, t, none⟩) l1').trans q1') ((hS.cell (p := ⟨bI, j, none⟩) l2').trans qi'))
          refine startP (S := (fun w' => Below (wr.drew).heap.size (wr.drew) w')) (by kernel_rfl) _ rfl rfl rfl (by kernel_rfl) (Below.refl _ _) (fun hHeld => ?_)
          refine tk 0 ?_
          refine tk 1 ?_
          refine tk 2 ?_
          refine tf 3 z0.out ?_
          refine tk 4 ?_
          refine tk 5 ?_
          refine tk 6 ?_
          refine tk 7 ?_
          refine tf 8 z0.out ?_
          refine tk 9 ?_
          refine tk 10 ?_
          refine tk 11 ?_
          refine tf 12 z0.out ?_
          refine tk 13 ?_
          refine tk 14 ?_
          refine tf 15 z0.out ?_
          refine tk 16 ?_
          refine on 17 fun K hK => ?_
          go_simp
          go_at_call 132
          (with_reducible refine (fp_Scale p y _ zX _ HP.out (tX.next hHeld) (by omega)).mono ?_); rintro e w5 ⟨r5, z5, rfl, o5, n5, v5, l5, b5⟩
          refine hK.out _ _ (hHeld.trans (b5.mono hHeld.size)) (fun hHeld => ?_)
          clear hK K
          try simp only [Act.put, zq1, zq2, zq3]
          refine tk 18 ?_
          clear z0; refine doneL (by kernel_rfl) ?_ _
          refine lastL rfl (by rfl) ?_
          obtain ⟨a5, c5, e5⟩ := o5.sliced
          subst e5
          have R5 := R3.next hHeld
          have c9 := (hHeld.cell (p := ⟨bI, j, none⟩) l2').trans qi'
          have fz9 : w5.frozen? ⟨bI, j, none⟩ = false := by
           obtain ⟨E5, X5, -, -⟩ := R5
           obtain ⟨b5', c5', e5', -, -, -, -, -, hf5⟩ := X5.at htn (by omega)
           rw [EI.out] at e5'
           simp only [Value.slice.injEq, Option.some.injEq, Addr.mk.injEq, and_true, true_and] at e5'
           rw [e5'.1]; exact hf5 j
          obtain ⟨R6, C6⟩ := R5.set htn hjm EI.out (y := .slice a5 z5.length c5) (f := U3 t j * mon u 0) ⟨z5, o5.mono (Nat.le_trans hlo0 hhw'), n5, by rw [v5, VX.out, HIY.out]⟩
          have F1 := Lib.hid (R6.congr (V := W' (j + 1)) fun a k _ _ => by
           rw [EW.out]
           show (if a = t ∧ k < j + 1 then _ else _) = if a = t ∧ k = j then _ else if a = t ∧ k < j then _ else _
           by_cases h1 : a = t
           ·by_cases h2 : k = j
            ·rw [if_pos ⟨h1, by omega⟩, if_pos ⟨h1, h2⟩, h2]
            ·by_cases h3 : k < j
             ·rw [if_pos ⟨h1, by omega⟩, if_neg (fun h => h2 h.2), if_pos ⟨h1, h3⟩]
             ·rw [if_neg (fun h => by have := h.2; omega), if_neg (fun h => h2 h.2), if_neg (fun h => h3 h.2)]
           ·rw [if_neg (fun h => h1 h.1), if_neg (fun h => h1 h.1), if_neg (fun h => h1 h.1)])
          have F2 := Lib.hid ((C3.trans (Ch.of hHeld)).trans C6)
          clear R3 R5 R6 C3 C6 o5 n5 v5 hHeld KS tX q1' qi' b5
          go_wp2
          refine ⟨?_, ?measure⟩
          refine ⟨_, _, _, _, _, _, _, _, _, _, _, _, _, _, _, _, _, _, _, _, _, _, _, _, ?rel, rfl⟩
          case rel => exact ⟨j + 1, by omega, by go_num, F1.out, F2.out⟩
          case measure => simp [intOf] <;> omega
         ·obtain rfl : j = n := by omega
          have RF := R.congr (V := scl U3 t (mon u 0)) fun a k _ hk => by
           rw [EW.out]
           unfold scl
           show (if a = t then _ else _) = if a = t ∧ k < _ then _ else _
           by_cases h1 : a = t
           ·rw [if_pos h1, if_pos ⟨h1, hk⟩, h1]
           ·rw [if_neg h1, if_neg (fun h => h1 h.1)]
          have F1 := Lib.hid (HSS.out.setU RF C)
          have F2 := Lib.hid (HKL.out.ch C (.inr (by omega)))
          have F3 := Lib.hid (HCC.out.trans (HSS.out.wU C))
          clear R C RF KS
          go_wp2
          go_roundw
          case rel => exact ⟨1 + 1, by omega, by go_num, F1.out, F2.out, F3.out⟩
          case measure => simp [intOf] <;> omega
      ·obtain rfl : i = 2 := by omega
       have FIN := Lib.hid (show PQ (.returned (.bool true)) wr by
        rw [EPQ.out]
        exact ⟨true, _, _, V3, rfl, FF.out, DONE.out.1, fun e => by simp at e, fun _ => DONE.out.2, h, B1.out.trans C⟩)
       clear h kL C
       go_wp2
       exact FIN.out
end Go.Proofs.Ytkmfhabgempjiaa
