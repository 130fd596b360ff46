/- hess: the characteristic polynomial. -/
import Derived.ChangeSame
import Derived.Lib.SmallJoins
import Derived.Test.YtkmfhabgempjiaaQiM7
import Derived.Test.YtkmfhabgempjiaaQiM1
import Derived.Test.YtkmfhabgempjiaaQiM3
import Derived.Test.YtkmfhabgempjiaaQiM5
namespace Go.Proofs.Ytkmfhabgempjiaa
set_option maxHeartbeats 4000000
open Go.RowKit
theorem Own.keptP {w w' : World} {base : Nat} {v : Value} {xs : List Nat} (h : Own .u64 27 w base v xs) {b1 n0 : Nat} {v0 : Value} {xs0 : List Value} (ho : w.ownsRow b1 43 1 v0 n0 xs0) (hg : w.grownBy w' v0.ownBlock) : Own .u64 27 w' base v xs := by
 refine World.ownsRow.kept h hg ?_
 rcases h.2 with ⟨h1, _⟩ | ⟨g, cap, cur, h1, _, h2, _⟩
 ·left; rw [h1]; rfl
 ·right
  intro e
  rw [h1] at e
  exact rowOwn_ne ho h2 (by decide) e.symm
end Go.Proofs.Ytkmfhabgempjiaa
/- hess: Hessenberg. -/
namespace Go.Proofs.Ytkmfhabgempjiaa
set_option maxHeartbeats 4000000
open Go.RowKit
end Go.Proofs.Ytkmfhabgempjiaa
/- hess: Companion. -/
namespace Go.Proofs.Ytkmfhabgempjiaa
set_option maxHeartbeats 4000000
open Go.RowKit
theorem ix_inj {n a b c d : Nat} (hb : b < n) (hd : d < n) (h : a * n + b = c * n + d) : a = c ∧ b = d := by
 have h1 : a = c := by
  rcases Nat.lt_trichotomy a c with h' | h' | h'
  ·have := Nat.mul_le_mul_right n (show a + 1 ≤ c from h'); rw [Nat.succ_mul] at this; omega
  ·exact h'
  ·have := Nat.mul_le_mul_right n (show c + 1 ≤ a from h'); rw [Nat.succ_mul] at this; omega
 subst h1; exact ⟨rfl, by omega⟩
theorem getD_set1 (es : List Nat) (j x i : Nat) (hj : j < es.length) : (es.set j x).getD i 0 = if i = j then x else es.getD i 0 := by
 simp only [List.getD, List.getElem?_set]
 by_cases h : j = i
 ·subst h; simp [hj]
 ·rw [if_neg h, if_neg (fun e => h e.symm)]
def cmp (p n : Nat) (zs : List Nat) : MT (Zp p) n n := MT.of n n fun i k => if k + 1 = n then -Zp.of p (zs.getD i 0) else if k + 1 = i then 1 else 0
theorem Own.headlt {k : IntKind} {e : TypeId} {w : World} {base g n cap : Nat} {xs : List Nat} (h : Own k e w base (.slice (some ⟨g, 0, none⟩) n cap) xs) : g < w.heap.size := by
 have := World.ownsRow.lt h g rfl
 exact this.2
def CoL (p n : Nat) (zs : List Nat) (i : Nat) (es : List Nat) : Prop := es.length = n * n ∧ ∀ a b, a < n → b < n → es.getD (a * n + b) 0 = if a < i then ((cmp p n zs).e a b).val else 0
def CoL1 (n i : Nat) (T : Nat → Nat → Nat) (es : List Nat) : Prop := es.length = n * n ∧ ∀ a b, a < n → b < n → es.getD (a * n + b) 0 = if a < i then T a b else if a = i ∧ b + 1 = i then 1 else 0
theorem CoL.sub {p n : Nat} {zs : List Nat} {i : Nat} {es : List Nat} (h : CoL p n zs i es) (hi : i < n) {l : Nat} (hl : i = l + 1) : CoL1 n i (fun a b => ((cmp p n zs).e a b).val) (es.set (i * n + l) 1) := by
 have hlt := at_lt (n := es.length) h.1 hi (show l < n by omega)
 refine ⟨by rw [List.length_set]; exact h.1, fun a b ha hb => ?_⟩
 rw [getD_set1 _ _ _ _ hlt, h.2 a b ha hb]
 by_cases e : a = i ∧ b = l
 ·rw [if_pos (by rw [e.1, e.2]), if_neg (by omega), if_pos (by omega)]
 ·rw [if_neg (fun h => e (ix_inj hb (by omega) h))]
  by_cases e2 : a < i
  ·rw [if_pos e2, if_pos e2]
  ·rw [if_neg e2, if_neg e2, if_neg (by omega)]
theorem CoL.zero {p n : Nat} {zs : List Nat} {es : List Nat} (h : CoL p n zs 0 es) : CoL1 n 0 (fun a b => ((cmp p n zs).e a b).val) es :=
 ⟨h.1, fun a b ha hb => by rw [h.2 a b ha hb, if_neg (by omega), if_neg (by omega), if_neg (by omega)]⟩
theorem CoL1.read {n i : Nat} {T : Nat → Nat → Nat} {es : List Nat} (h : CoL1 n i T es) (hi : i < n) {m : Nat} (hm : n = m + 1) : es.getD (i * n + m) 0 = 0 := by
 rw [h.2 i m hi (by omega), if_neg (by omega), if_neg (by omega)]
theorem CoL1.last {p n : Nat} {zs : List Nat} {i : Nat} {es : List Nat} (hp : FP p) (h : CoL1 n i (fun a b => ((cmp p n zs).e a b).val) es) (hi : i < n) {m : Nat} (hm : n = m + 1) {z : Nat} (hz : z = (-Zp.of p (zs.getD i 0)).val) : CoL p n zs (i + 1) (es.set (i * n + m) z) := by
 have hlt := at_lt (n := es.length) h.1 hi (show m < n by omega)
 refine ⟨by rw [List.length_set]; exact h.1, fun a b ha hb => ?_⟩
 rw [getD_set1 _ _ _ _ hlt, h.2 a b ha hb]
 by_cases e : a = i ∧ b = m
 ·obtain ⟨rfl, rfl⟩ := e
  rw [if_pos rfl, if_pos (by omega)]
  unfold cmp
  rw [MT.of_e _ ha hb, if_pos hm.symm, hz]
 ·rw [if_neg (fun h => e (ix_inj hb (by omega) h))]
  by_cases e2 : a < i
  ·rw [if_pos e2, if_pos (by omega)]
  ·rw [if_neg e2]
   by_cases e3 : a = i
   ·subst e3
    rw [if_pos (show a < a + 1 by omega)]
    unfold cmp
    rw [MT.of_e _ ha hb, if_neg (show ¬ b + 1 = n by omega)]
    by_cases e4 : b + 1 = a
    ·rw [if_pos ⟨rfl, e4⟩, if_pos e4]
     rw [← Zp.of_one, Zp.val_of, Nat.mod_eq_of_lt (by have := hp.1; omega)]
    ·rw [if_neg (fun h => e4 h.2), if_neg e4]; rfl
   ·rw [if_neg (fun h => e3 h.1), if_neg (show ¬ a < i + 1 by omega)]
theorem CoL.start (p n : Nat) (zs : List Nat) : CoL p n zs 0 (List.replicate (n * n) 0) := ⟨by simp, fun a b _ _ => by
 rw [if_neg (by omega)]
 simp only [List.getD, List.getElem?_replicate]
 split <;> rfl⟩
theorem CoL.all {p n : Nat} {zs es : List Nat} (h : CoL p n zs n es) : es = tbv (cmp p n zs) := by
 rw [list_ftab h.1]
 unfold tbv
 exact ftab_congr fun i k hi hk => by rw [h.2 i k hi hk, if_pos hi]
theorem gfp_Add0 (p b z : Nat) (w : World) (hp : FP p) (hz : z = (Zp.of p 0 + Zp.of p b).val) : Calls Try.prog 117 #[.agg #[.int .u64 p], .int .u64 0, .int .u64 b] w fun e w' => e = .returned (.int .u64 (z : Nat)) ∧ Below w.heap.size w w' := gfp_Add p 0 b z w hp hz
def CoR (w1 wr : World) (n N gE gM : Nat) (Q : List Nat → Prop) : Prop := ∃ es, Own .u64 27 wr gE (.slice (some ⟨gE, 0, none⟩) N N) es ∧ es.length = N ∧ Q es ∧ Blk 63 wr gM [.int .i64 n, .int .i64 n, .slice (some ⟨gE, 0, none⟩) N N] ∧ Below gE w1 wr
set_option maxRecDepth 20000 in
theorem hs_Companion (p : Nat) (v : Value) (gs zs : List Nat) (n : Nat) (w : World) (hp : FP p) (hv : Sl .u64 w v gs) (hg : gs.length ≤ 60) (hz : zs = nl p gs) (hn : zs.length = n + 1) (h1 : zs.getD n 0 = 1) :
  Calls Try.prog 99 #[.agg #[.int .u64 p], v] w (RetFE p w n n (cmp p n zs)) := by
 obtain ⟨wb, ew, KF, KR, B0, hsz⟩ := boxes2 w 29 63 [.int .u64 p] [.int .i64 0, .int .i64 0, .slice none 0 0]
 clear hsz
 have HP := Lib.hid hp; clear hp
 replace hv := hv.next B0
 have HZ := Lib.hid hz; clear hz
 have H1 := Lib.hid h1; clear h1
 have HN := Lib.hid hn
 have hn60 : n ≤ 60 := by
  have := HZ.out; have := nl_len p gs; rw [← HZ.out] at this; omega
 clear hn
 go_enter Try.func99, Try.ntmps99
 go_upto_region 1 with (fail)
 rw [← ew]
 obtain ⟨g, eg⟩ : ∃ g, g = w.heap.size + 1 := ⟨_, rfl⟩
 rw [← eg] at KR ⊢
 have hgw : w.heap.size ≤ g := by omega
 clear ew eg
 obtain ⟨gF, egF⟩ : ∃ gF, gF = w.heap.size := ⟨_, rfl⟩
 rw [← egF] at KF ⊢
 clear egF
 have f0 := KF.cell 0
 go_wp2_with fail
 refine (fp_Norm p v gs _ HP.out hv (by omega)).mono ?_; rintro e w2 ⟨r, zs', rfl, o2, m2, v2, l2, b2⟩
 obtain rfl : zs' = zs := by rw [HZ.out]; exact nl_is HP.out.pos m2 v2
 obtain ⟨gz, cz, rfl⟩ : ∃ g cap, r = .slice (some ⟨g, 0, none⟩) zs'.length cap := by
  rcases o2.shape with ⟨_, h⟩ | ⟨g, cap, h, _⟩
  ·have := HN.out; rw [h] at this; simp at this
  ·exact ⟨g, cap, h⟩
 replace B0 := B0.trans (b2.mono B0.size)
 replace KR := KR.next b2; replace KF := KF.next b2
 clear f0 hv v2 m2 b2 HZ
 have q := o2.cellAt n (by have := HN.out; omega)
 rw [H1.out] at q
 obtain ⟨L, hL⟩ : ∃ L, L = zs'.length := ⟨_, rfl⟩
 rw [← hL] at o2 ⊢
 have hLn : L = n + 1 := by rw [hL, HN.out]
 have HL := Lib.hid hL; clear hL
 have s1 : IntKind.i64.wrap ((L : Int) - 1) = (n : Int) := by rw [IntWalk.i64_in _ ⟨by omega, by omega⟩]; omega
 have hnn : n * n ≤ 60 * 60 := Nat.mul_le_mul hn60 hn60
 obtain ⟨N, eN⟩ : ∃ N, N = n * n := ⟨_, rfl⟩
 have s2 : IntKind.i64.wrap ((n : Int) * (n : Int)) = (N : Int) := by rw [eN, ← Int.natCast_mul]; exact IntWalk.i64_in _ ⟨by omega, by omega⟩
 have HEN := Lib.hid eN
 have hN : N ≤ 3600 := by omega
 clear eN hnn
 have hnL : n < L := by omega
 have HLN := Lib.hid hLn; clear hLn
 go_upto_region 7 with (fail)
 clear q
 go_wp2_with (at_make; refine wp_make .u64 41 27 8 Try.underlying41 (by kernel_rfl) (by decide) rfl _ _ rfl .i64 .i64 N (by omega) _ _ _ rfl rfl (by omega) (by omega) ?_; intro w3 hq hbel hsz)
 obtain ⟨w4, ew4, KM, B4, hs4⟩ := boxes1 w3 63 [.int .i64 n, .int .i64 n, .slice (some ⟨w2.heap.size, 0, none⟩) N N]
 clear hs4
 rw [← ew4]
 clear ew4
 obtain ⟨gE, egE⟩ : ∃ g, g = w2.heap.size := ⟨_, rfl⟩
 obtain ⟨gM, egM⟩ : ∃ g, g = w3.heap.size := ⟨_, rfl⟩
 have HEM := Lib.hid (show gE < gM by omega)
 have HBE := Lib.hid (show w.heap.size ≤ gE by rw [egE]; exact B0.size)
 have HGE := Lib.hid egE
 rw [← egE] at hq hbel KM ⊢
 rw [← egM] at KM B4 ⊢
 have B4' := hbel.trans (B4.mono (by omega))
 have st : CoR w2 w4 n N gE gM (CoL p n zs' 0) := ⟨_, (hq.below B4 (by omega)), by simp, by rw [HEN.out]; exact CoL.start p n zs', KM, B4'⟩
 have hsE : gE ≤ w2.heap.size := by omega
 have hlE : w2.heap.size ≤ gE := by omega
 clear hq hbel KM B4 B4' egE egM hsz
 have HB0 := Lib.hid B0; have HKF := Lib.hid KF; have HKR := Lib.hid KR; have HO2 := Lib.hid o2
 clear B0 KF KR o2
 go_wp2
 go_loopw [38] (fun iv wr => ∃ i : Nat, i ≤ n ∧ iv = .int .i64 i ∧ CoR w2 wr n N gE gM (CoL p n zs' i)) (fun iv _ => n - (intOf iv).toNat)
 case atStart => exact ⟨0, by omega, rfl, st⟩
 case round =>
  clear st
  obtain ⟨i, hi, rfl, es, ho, hlen, hq, KM, B1⟩ := hrel
  by_cases hin : i < n
  ·have hii : i * n + n ≤ N := by
    have := Nat.mul_le_mul_right n (show i + 1 ≤ n from hin); rw [Nat.succ_mul] at this
    rw [HEN.out]; exact this
   obtain ⟨lo, elo⟩ : ∃ lo, lo = i * n := ⟨_, rfl⟩
   rw [← elo] at hii
   have a1 : IntKind.i64.wrap ((i : Int) * (n : Int)) = (lo : Int) := by rw [elo, ← Int.natCast_mul]; exact IntWalk.i64_in _ ⟨by omega, by omega⟩
   obtain ⟨l, hl⟩ : ∃ l, n = l + 1 := ⟨n - 1, by omega⟩
   obtain ⟨mi, emi⟩ : ∃ mi, mi = lo + n := ⟨_, rfl⟩
   obtain ⟨ix, eix⟩ : ∃ ix, ix = lo + l := ⟨_, rfl⟩
   have a2 : IntKind.i64.wrap ((lo : Int) + (n : Int)) = (mi : Int) := by rw [emi, ← Int.natCast_add]; exact IntWalk.i64_in _ ⟨by omega, by omega⟩
   have a3 : IntKind.i64.wrap ((mi : Int) - 1) = (ix : Int) := by rw [IntWalk.i64_in _ ⟨by omega, by omega⟩]; omega
   have hixN : ix < N := by omega
   have HLO := Lib.hid elo; have HLL := Lib.hid hl; have HIX := Lib.hid eix
   clear elo hl emi eix
   go_upto_if 42 with (fail)
   go_cut [] (fun wx => CoR w2 wx n N gE gM (CoL1 n i (fun a b => ((cmp p n zs').e a b).val)))
   case first =>
    by_cases h0 : i = 0
    ·have st := Lib.hid (show CoR w2 wr n N gE gM (CoL1 n i (fun a b => ((cmp p n zs').e a b).val)) from ⟨es, ho, hlen, by subst h0; exact hq.zero, KM, B1⟩)
     have hn0 : ¬ (i : Int) > 0 := by omega
     clear ho hq KM B1 h0
     go_wp2
     go_meet
     exact st.out
    ·obtain ⟨k, hk⟩ : ∃ k, i = k + 1 := ⟨i - 1, by omega⟩
     have hp0 : (i : Int) > 0 := by omega
     obtain ⟨mj, emj⟩ : ∃ mj, mj = lo + i := ⟨_, rfl⟩
     obtain ⟨jx, ejx⟩ : ∃ jx, jx = lo + k := ⟨_, rfl⟩
     have c2 : IntKind.i64.wrap ((lo : Int) + (i : Int)) = (mj : Int) := by rw [emj, ← Int.natCast_add]; exact IntWalk.i64_in _ ⟨by omega, by omega⟩
     have c3 : IntKind.i64.wrap ((mj : Int) - 1) = (jx : Int) := by rw [IntWalk.i64_in _ ⟨by omega, by omega⟩]; omega
     have hjN : jx < N := by omega
     have q1 := ho.cellAt jx (by omega); have z1 := ho.frozenAt jx
     have q2 := KM.cell 2
     have st := Lib.hid (show CoR w2 (wr.setCell ⟨gE, jx, none⟩ (.int .u64 1)) n N gE gM (CoL1 n i (fun a b => ((cmp p n zs').e a b).val)) from
      ⟨es.set jx 1, (ho.store jx 1).1, by rw [List.length_set]; exact hlen, by rw [ejx, HLO.out]; exact hq.sub hin hk, KM.far (a := ⟨gE, jx, none⟩) (Nat.ne_of_gt HEM.out) _, B1.setCell (p := ⟨gE, jx, none⟩) (Nat.le_refl _) _⟩)
     clear ho hq KM B1 h0 hk emj ejx
     go_wp2
     go_meet
     exact st.out
   case rest =>
    clear ho hq KM B1 hlen
    obtain ⟨es1, ho, hlen, hq, KM, B1⟩ := hcut
    have hsr : gE ≤ wc.heap.size := Nat.le_trans hsE (B1.size)
    go_upto_region 13 with (fail)
    have bd := dw wc
    replace ho := ho.next bd; replace KM := KM.next bd
    replace B1 := B1.trans (bd.mono hsr)
    have hsr : gE ≤ wc.drew.heap.size := hsr
    clear bd
    have KF := HKF.out.below B1 (Nat.lt_of_lt_of_le HKF.out.lt hlE)
    have o2 := HO2.out.below B1 hlE
    have q1 := ho.cellAt ix (by omega)
    rw [show es1.getD ix 0 = 0 by rw [HIX.out, HLO.out]; exact hq.read hin HLL.out] at q1
    have hiL : i < L := by omega
    have q3 := o2.cellAt i (by have := HL.out; omega)
    obtain ⟨x, ex⟩ : ∃ x, x = zs'.getD i 0 := ⟨_, rfl⟩
    rw [← ex] at q3
    obtain ⟨y, ey⟩ : ∃ y, y = (-Zp.of p x).val := ⟨_, rfl⟩
    obtain ⟨z, ez⟩ : ∃ z, z = (Zp.of p 0 + Zp.of p y).val := ⟨_, rfl⟩
    have ez2 : z = (-Zp.of p (zs'.getD i 0)).val := by rw [ez, ey, ex, Zp.of_zero, CR.zero_add, Zp.of_val]
    have hlE2 : gE < wc.drew.heap.size := Own.headlt ho
    have hlz : gz < wc.drew.heap.size := Own.headlt o2
    have EY := Lib.hid ey; have EZ := Lib.hid ez; have EZ2 := Lib.hid ez2
    clear ex ey ez ez2
    have HQ := Lib.hid hq; have HO := Lib.hid ho; have HO3 := Lib.hid o2; have HB1 := Lib.hid B1; have HSR := Lib.hid hsr; have HII := Lib.hid hii; have HNX := Lib.hid (And.intro hg (And.intro hn60 hN))
    clear hq ho o2 B1 hsr hii hg hn60 hN
    have zF0 := Lib.hid fun (w : World) (hS : Below (wc.drew).heap.size (wc.drew) w) => And.intro ((hS.cell (p := ⟨gM, 2, none⟩) KM.lt).trans (KM.cell 2)) (And.intro ((hS.cell (p := ⟨gF, 0, none⟩) KF.lt).trans (KF.cell 0)) (And.intro ((hS.cell (p := ⟨gE, ix, none⟩) hlE2).trans q1) ((hS.cell (p := ⟨gz, i, none⟩) hlz).trans q3)))
    refine startP (S := (fun w' => Below (wc.drew).heap.size (wc.drew) w')) (by kernel_rfl) _ rfl rfl rfl (by kernel_rfl) (Below.refl _ _) (fun hHeld => ?_)
    refine tk 0 ?_
    refine tf 1 zF0.out ?_
    refine tk 2 ?_
    refine tk 3 ?_
    refine tk 4 ?_
    refine tk 5 ?_
    refine tk 6 ?_
    refine tk 7 ?_
    refine tf 8 zF0.out ?_
    refine tk 9 ?_
    refine tf 10 zF0.out ?_
    refine tk 11 ?_
    refine tk 12 ?_
    refine tk 13 ?_
    refine tk 14 ?_
    refine tk 15 ?_
    refine tk 16 ?_
    refine tk 17 ?_
    refine tf 18 zF0.out ?_
    refine tf 19 zF0.out ?_
    refine tk 20 ?_
    refine tk 21 ?_
    refine tk 22 ?_
    refine tf 23 zF0.out ?_
    refine on 24 fun K hK => ?_
    go_simp
    go_at_call 110
    (with_reducible refine (gfp_Neg p x y _ HP.out EY.out).mono ?_); rintro e w5 ⟨rfl, b5⟩
    refine hK.out _ _ (hHeld.trans (b5.mono hHeld.size)) (fun hHeld => ?_)
    clear hK K
    try simp only [Act.put, zq1, zq2, zq3]
    refine on 25 fun K hK => ?_
    go_simp
    go_at_call 117
    (with_reducible refine (gfp_Add0 p y z _ HP.out EZ.out).mono ?_); rintro e w6 ⟨rfl, b6⟩
    refine hK.out _ _ (hHeld.trans (b6.mono hHeld.size)) (fun hHeld => ?_)
    clear hK K
    try simp only [Act.put, zq1, zq2, zq3]
    refine tk 26 ?_
    clear zF0; refine doneL (by kernel_rfl) ?_ _
    refine lastL rfl (by rfl) ?_
    have hq := HQ.out; have ho := HO.out; have o2 := HO3.out; have B1 := HB1.out; have hsr := HSR.out; obtain ⟨hg, hn60, hN⟩ := HNX.out
    have ho2 := ho.next hHeld
    have qc := ho2.cellAt ix (by omega); have zc := ho2.frozenAt ix
    have KM2 := KM.next hHeld
    have st := Lib.hid (show CoR w2 (w6.setCell ⟨gE, ix, none⟩ (.int .u64 z)) n N gE gM (CoL p n zs' (i + 1)) from
     ⟨es1.set ix z, (ho2.store ix z).1, by rw [List.length_set]; exact hlen, by rw [HIX.out, HLO.out]; exact hq.last HP.out hin HLL.out EZ2.out, KM2.far (a := ⟨gE, ix, none⟩) (Nat.ne_of_gt HEM.out) _, (B1.trans (hHeld.mono hsr)).setCell (p := ⟨gE, ix, none⟩) (Nat.le_refl _) _⟩)
    clear ho ho2 hq KM KM2 KF o2 B1 hHeld q1 q3 hlE2 hlz b6 b5
    go_wp2
    go_roundw
    case rel => exact ⟨i + 1, by omega, by go_num, st.out⟩
    case measure => simp [intOf] <;> omega
  ·obtain rfl : i = n := by omega
   have hes := hq.all
   subst hes
   obtain ⟨M, eM⟩ : ∃ M, M = cmp p i zs' := ⟨_, rfl⟩
   rw [← eM] at ho hlen
   have EM := Lib.hid eM; clear eM
   have KR := HKR.out.below B1 (Nat.lt_of_lt_of_le HKR.out.lt hlE)
   have hgE : g < gE := Nat.lt_of_lt_of_le HKR.out.lt hlE
   have k0 := KM.cell 0; have k1 := KM.cell 1; have k2 := KM.cell 2
   have f0 := KR.free 0; have f1 := KR.free 1; have f2 := KR.free 2
   have c0 := KR.cell 0; have c1 := KR.cell 1; have c2 := KR.cell 2
   have KF := ((KR.set 0 (.int .i64 i)).set 1 (.int .i64 i)).set 2 (.slice (some ⟨gE, 0, none⟩) N N)
   have d0 := KF.cell 0; have d1 := KF.cell 1; have d2 := KF.cell 2
   have of := ((ho.low (a := ⟨g, 0, none⟩) hgE (.int .i64 i)).low (a := ⟨g, 1, none⟩) hgE (.int .i64 i)).low (a := ⟨g, 2, none⟩) hgE (.slice (some ⟨gE, 0, none⟩) N N)
   have B2 := HB0.out.trans (B1.mono HBE.out)
   have BF := ((B2.setCell (p := ⟨g, 0, none⟩) hgw (.int .i64 i)).setCell (p := ⟨g, 1, none⟩) hgw (.int .i64 i)).setCell (p := ⟨g, 2, none⟩) hgw (.slice (some ⟨gE, 0, none⟩) N N)
   have FR := Lib.hid (show RetFE p w i i (cmp p i zs') (.returned (.tuple #[.agg #[.int .i64 i, .int .i64 i, .slice (some ⟨gE, 0, none⟩) N N], .int .i64 0])) (((wr.setCell ⟨g, 0, none⟩ (.int .i64 i)).setCell ⟨g, 1, none⟩ (.int .i64 i)).setCell ⟨g, 2, none⟩ (.slice (some ⟨gE, 0, none⟩) N N)) from
    by rw [← EM.out]; exact ⟨some ⟨gE, 0, none⟩, N, by rw [hlen], by rw [hlen]; exact of.mono HBE.out, BF⟩)
   clear KF KR of BF B1 B2 ho KM
   go_wp2
   exact bodyPost_ret (v := .tuple #[.agg #[.int .i64 i, .int .i64 i, .slice (some ⟨gE, 0, none⟩) N N], .int .i64 0]) (by simp [results, Try.results99, go_sem, d0, d1, d2]) rfl FR.out
end Go.Proofs.Ytkmfhabgempjiaa
/- hess: the characteristic polynomial of a companion; the awake of law 22. -/
namespace Go.Proofs.Ytkmfhabgempjiaa
set_option maxHeartbeats 4000000
open Go.RowKit
section
variable {p n : Nat} {zs : List Nat}
end
end Go.Proofs.Ytkmfhabgempjiaa
/- The reference of chapter 21: places, forms. -/
namespace Go.Proofs.Ytkmfhabgempjiaa
set_option maxHeartbeats 4000000
open Go.RowKit
theorem rf21_At (v : Value) (R : Int) (c i k p : Nat) (xs : List Nat) (w : World) (hp : 0 < p) (hm : Fm w v R c xs) (hi : i ≤ 1000) (hc : c ≤ 1000) (hk : k ≤ 1000) (hj : i * c + k < xs.length) (x : Nat) (hx : x = xs.getD (i * c + k) 0 % p) :
  Calls Try.prog 112 #[v, .int .i64 i, .int .i64 k, .int .u64 p] w (RetW w (.int .u64 (x : Nat))) := by
 obtain ⟨u, rfl, ao, b, off, cap, rfl, hcap, hz⟩ := hm
 have ha := hz.ao (by intro h; subst h; simp at hj)
 subst ha
 obtain ⟨wb, ew, KA, B0, hsz⟩ := boxes1 w 63 [.int .i64 R, .int .i64 c, .slice (some ⟨b, off, none⟩) xs.length cap]
 clear hsz
 have hw : i * c ≤ 1000 * 1000 := Nat.mul_le_mul hi hc
 obtain ⟨lo, elo⟩ : ∃ lo, lo = i * c := ⟨_, rfl⟩
 obtain ⟨ix, eix⟩ : ∃ ix, ix = lo + k := ⟨_, rfl⟩
 have h1 : IntKind.i64.wrap ((i : Int) * (c : Int)) = (lo : Int) := by rw [elo, ← Int.natCast_mul]; exact IntWalk.i64_in _ ⟨by omega, by omega⟩
 have h2 : IntKind.i64.wrap ((lo : Int) + (k : Int)) = (ix : Int) := by rw [eix, ← Int.natCast_add]; exact IntWalk.i64_in _ ⟨by omega, by omega⟩
 rw [← elo, ← eix] at hj hx
 have q1 := (hz.below B0 (Nat.le_refl _)).cell _ hj
 obtain ⟨y, ey⟩ : ∃ y, y = xs.getD ix 0 := ⟨_, rfl⟩
 rw [← ey] at hx q1
 have hz0 : ((p : Int) == 0) = false := by simpa using (show p ≠ 0 by omega)
 have hz1 : ¬ p = 0 := by omega
 have hr : (y : Int).tmod (p : Int) = (x : Int) := by rw [hx]; rfl
 have hr2 : (y : Int) % (p : Int) = (x : Int) := by rw [hx]; rfl
 clear hx ey elo eix hw hp
 go_enter Try.func112, Try.ntmps112
 go_upto_region 1 with (fail)
 rw [← ew]
 clear ew
 have c1 := KA.cell 1; have c2 := KA.cell 2
 clear KA
 go_wp2
 go_ret
 exact ⟨rfl, B0⟩
theorem rf21_Formed (v : Value) (R C : Int) (xs : List Nat) (w : World) (hm : Fm w v R C xs) (b : Bool) (hb : b = decide (Fd R C xs.length)) :
  Calls Try.prog 103 #[v] w (RetW w (.bool b)) := by
 obtain ⟨ao, ca, rfl⟩ := hm.agg
 obtain ⟨wb, ew, KA, B0, hsz⟩ := boxes1 w 63 [.int .i64 R, .int .i64 C, .slice ao xs.length ca]
 clear hsz hm
 by_cases h0 : R ≥ 0
 rotate_left
 ·obtain rfl : b = false := by rw [hb]; exact decide_eq_false (fun h => h0 h.1.1)
  clear hb
  have d0 : decide (R ≥ 0) = false := decide_eq_false (by omega)
  go_enter Try.func103, Try.ntmps103
  go_upto_region 1 with (fail)
  rw [← ew]
  clear ew
  have c0 := KA.cell 0; have c1 := KA.cell 1; have c2 := KA.cell 2
  go_wp2
  go_ret
  exact ⟨rfl, B0⟩
 by_cases h1 : R ≤ 64
 rotate_left
 ·obtain rfl : b = false := by rw [hb]; exact decide_eq_false (fun h => h1 h.1.2)
  clear hb
  have d0 : decide (R ≥ 0) = true := decide_eq_true (by omega)
  have d1 : decide (R ≤ 64) = false := decide_eq_false (by omega)
  go_enter Try.func103, Try.ntmps103
  go_upto_region 1 with (fail)
  rw [← ew]
  clear ew
  have c0 := KA.cell 0; have c1 := KA.cell 1; have c2 := KA.cell 2
  go_wp2
  go_ret
  exact ⟨rfl, B0⟩
 by_cases h2 : C ≥ 0
 rotate_left
 ·obtain rfl : b = false := by rw [hb]; exact decide_eq_false (fun h => h2 h.2.1.1)
  clear hb
  have d0 : decide (R ≥ 0) = true := decide_eq_true (by omega)
  have d1 : decide (R ≤ 64) = true := decide_eq_true (by omega)
  have d2 : decide (C ≥ 0) = false := decide_eq_false (by omega)
  go_enter Try.func103, Try.ntmps103
  go_upto_region 1 with (fail)
  rw [← ew]
  clear ew
  have c0 := KA.cell 0; have c1 := KA.cell 1; have c2 := KA.cell 2
  go_wp2
  go_ret
  exact ⟨rfl, B0⟩
 by_cases h3 : C ≤ 64
 rotate_left
 ·obtain rfl : b = false := by rw [hb]; exact decide_eq_false (fun h => h3 h.2.1.2)
  clear hb
  have d0 : decide (R ≥ 0) = true := decide_eq_true (by omega)
  have d1 : decide (R ≤ 64) = true := decide_eq_true (by omega)
  have d2 : decide (C ≥ 0) = true := decide_eq_true (by omega)
  have d3 : decide (C ≤ 64) = false := decide_eq_false (by omega)
  go_enter Try.func103, Try.ntmps103
  go_upto_region 1 with (fail)
  rw [← ew]
  clear ew
  have c0 := KA.cell 0; have c1 := KA.cell 1; have c2 := KA.cell 2
  go_wp2
  go_ret
  exact ⟨rfl, B0⟩
 by_cases h4 : (xs.length : Int) = R * C
 rotate_left
 ·obtain rfl : b = false := by rw [hb]; exact decide_eq_false (fun h => h4 h.2.2)
  clear hb
  have d0 : decide (R ≥ 0) = true := decide_eq_true (by omega)
  have d1 : decide (R ≤ 64) = true := decide_eq_true (by omega)
  have d2 : decide (C ≥ 0) = true := decide_eq_true (by omega)
  have d3 : decide (C ≤ 64) = true := decide_eq_true (by omega); have hw : IntKind.i64.wrap (R * C) = R * C := Sd.mul ⟨h0, h1⟩ ⟨h2, h3⟩
  have d4 : ((xs.length : Int) == R * C) = false := by simp [h4]
  go_enter Try.func103, Try.ntmps103
  go_upto_region 1 with (fail)
  rw [← ew]
  clear ew
  have c0 := KA.cell 0; have c1 := KA.cell 1; have c2 := KA.cell 2
  go_wp2
  go_ret
  exact ⟨rfl, B0⟩
 obtain rfl : b = true := by rw [hb]; exact decide_eq_true ⟨⟨h0, h1⟩, ⟨h2, h3⟩, h4⟩
 clear hb
 have d0 : decide (R ≥ 0) = true := decide_eq_true (by omega)
 have d1 : decide (R ≤ 64) = true := decide_eq_true (by omega)
 have d2 : decide (C ≥ 0) = true := decide_eq_true (by omega)
 have d3 : decide (C ≤ 64) = true := decide_eq_true (by omega); have hw : IntKind.i64.wrap (R * C) = R * C := Sd.mul ⟨h0, h1⟩ ⟨h2, h3⟩
 have d4 : ((xs.length : Int) == R * C) = true := by simp [h4]
 go_enter Try.func103, Try.ntmps103
 go_upto_region 1 with (fail)
 rw [← ew]
 clear ew
 have c0 := KA.cell 0; have c1 := KA.cell 1; have c2 := KA.cell 2
 go_wp2
 go_ret
 exact ⟨rfl, B0⟩
theorem rf21_Few (v : Value) (R C s : Int) (xs : List Nat) (w : World) (hm : Fm w v R C xs) (b : Bool) (hb : b = decide (R ≤ s ∧ C ≤ s ∧ xs.length ≤ 100)) :
  Calls Try.prog 52 #[v, .int .i64 s] w (RetW w (.bool b)) := by
 obtain ⟨ao, ca, rfl⟩ := hm.agg
 obtain ⟨wb, ew, KA, B0, hsz⟩ := boxes1 w 63 [.int .i64 R, .int .i64 C, .slice ao xs.length ca]
 clear hsz hm
 by_cases h0 : R ≤ s
 rotate_left
 ·obtain rfl : b = false := by rw [hb]; exact decide_eq_false (fun h => h0 h.1)
  clear hb
  have d0 : decide (R ≤ s) = false := decide_eq_false (by omega)
  go_enter Try.func52, Try.ntmps52
  go_upto_region 1 with (fail)
  rw [← ew]
  clear ew
  have c0 := KA.cell 0; have c1 := KA.cell 1; have c2 := KA.cell 2
  go_wp2
  go_ret
  exact ⟨rfl, B0⟩
 by_cases h1 : C ≤ s
 rotate_left
 ·obtain rfl : b = false := by rw [hb]; exact decide_eq_false (fun h => h1 h.2.1)
  clear hb
  have d0 : decide (R ≤ s) = true := decide_eq_true (by omega)
  have d1 : decide (C ≤ s) = false := decide_eq_false (by omega)
  go_enter Try.func52, Try.ntmps52
  go_upto_region 1 with (fail)
  rw [← ew]
  clear ew
  have c0 := KA.cell 0; have c1 := KA.cell 1; have c2 := KA.cell 2
  go_wp2
  go_ret
  exact ⟨rfl, B0⟩
 by_cases h2 : xs.length ≤ 100
 rotate_left
 ·obtain rfl : b = false := by rw [hb]; exact decide_eq_false (fun h => h2 h.2.2)
  clear hb
  have d0 : decide (R ≤ s) = true := decide_eq_true (by omega)
  have d1 : decide (C ≤ s) = true := decide_eq_true (by omega)
  have d2 : decide (((xs.length : Nat) : Int) ≤ 100) = false := decide_eq_false (by omega)
  go_enter Try.func52, Try.ntmps52
  go_upto_region 1 with (fail)
  rw [← ew]
  clear ew
  have c0 := KA.cell 0; have c1 := KA.cell 1; have c2 := KA.cell 2
  go_wp2
  go_ret
  exact ⟨rfl, B0⟩
 obtain rfl : b = true := by rw [hb]; exact decide_eq_true ⟨h0, h1, h2⟩
 clear hb
 have d0 : decide (R ≤ s) = true := decide_eq_true (by omega)
 have d1 : decide (C ≤ s) = true := decide_eq_true (by omega)
 have d2 : decide (((xs.length : Nat) : Int) ≤ 100) = true := decide_eq_true (by omega)
 go_enter Try.func52, Try.ntmps52
 go_upto_region 1 with (fail)
 rw [← ew]
 clear ew
 have c0 := KA.cell 0; have c1 := KA.cell 1; have c2 := KA.cell 2
 go_wp2
 go_ret
 exact ⟨rfl, B0⟩
theorem rf21_None (ao : Option Addr) (k : Nat) (w : World) : Calls Try.prog 47 #[.agg #[.int .i64 0, .int .i64 0, .slice ao 0 k]] w (RetW w (.bool true)) := by
 obtain ⟨wb, ew, KA, B0, hsz⟩ := boxes1 w 63 [.int .i64 0, .int .i64 0, .slice ao 0 k]
 clear hsz
 go_enter Try.func47, Try.ntmps47
 go_upto_region 1 with (fail)
 rw [← ew]
 clear ew
 have c0 := KA.cell 0; have c1 := KA.cell 1; have c2 := KA.cell 2
 go_wp2
 go_ret
 exact ⟨rfl, B0⟩
theorem rf21_Normal (v : Value) (R C : Int) (p : Nat) (xs : List Nat) (w : World) (hm : Fm w v R C xs) (hF : Fd R C xs.length) (hx : wf p xs) (hl : xs.length ≤ 1000000) :
  Calls Try.prog 58 #[v, .int .u64 p] w (RetW w (.bool true)) := by
 have hm0 := hm
 obtain ⟨u, rfl, ao, b, off, cap, rfl, hcap, hz⟩ := hm
 obtain ⟨wb, ew, KA, B0, hsz⟩ := boxes1 w 63 [.int .i64 R, .int .i64 C, .slice ao xs.length cap]
 clear hsz
 have hA := hm0.next B0
 replace hz := hz.below B0 (Nat.le_refl _)
 have HF := Lib.hid hF; have HX := Lib.hid hx; clear hF hx hm0
 have c0 := KA.cell 0; have c1 := KA.cell 1; have c2 := KA.cell 2
 go_enter Try.func58, Try.ntmps58
 go_upto_region 1 with (fail)
 rw [← ew]
 clear ew
 go_wp2
 go_loop [5] (fun iv => ∃ i : Nat, i ≤ xs.length ∧ iv = .int .i64 i) (fun iv => xs.length - (intOf iv).toNat)
 case atStart => exact ⟨0, by omega, rfl⟩
 case round =>
  obtain ⟨i, hi, rfl⟩ := hrel
  by_cases hil : i < xs.length
  ·obtain rfl := hz.ao (by intro h; subst h; simp at hil)
   have q1 := hz.cell _ hil
   obtain ⟨x, ex⟩ : ∃ x, x = xs.getD i 0 := ⟨_, rfl⟩
   rw [← ex] at q1
   have hlt : ¬ ((x : Int) ≥ (p : Int)) := by
    have : x < p := by rw [ex]; exact HX.out _ (by
     simp only [List.getD, List.getElem?_eq_getElem hil, Option.getD_some]; exact List.getElem_mem hil)
    omega
   clear ex
   go_wp2
   go_round
   case rel => exact ⟨i + 1, by omega, by go_num⟩
   case measure => simp [intOf] <;> omega
  ·obtain rfl : i = xs.length := by omega
   go_wp2_with fail
   refine (rf21_Formed _ R C xs _ hA true (decide_eq_true HF.out).symm).mono ?_; rintro e w2 ⟨rfl, b2⟩
   go_wp2
   go_ret
   exact ⟨rfl, B0.trans (b2.mono B0.size)⟩
end Go.Proofs.Ytkmfhabgempjiaa
/- The reference of chapter 21: matrices of one reading; Hessenberg's form. -/
namespace Go.Proofs.Ytkmfhabgempjiaa
set_option maxHeartbeats 4000000
open Go.RowKit
theorem Fm.open {w : World} {v : Value} {R C : Int} {xs : List Nat} (h : Fm w v R C xs) : ∃ ao b off cap, v = .agg #[.int .i64 R, .int .i64 C, .slice ao xs.length cap] ∧ xs.length ≤ cap ∧ Cs .u64 w ao b off xs := by
 obtain ⟨u, rfl, ao, b, off, cap, rfl, hcap, hz⟩ := h
 exact ⟨ao, b, off, cap, rfl, hcap, hz⟩
theorem rf21_Same (a b : Value) (R C : Int) (p : Nat) (xs ys : List Nat) (w : World) (hp : 0 < p) (hA : Fm w a R C xs) (hB : Fm w b R C ys) (hl : xs.length = ys.length) (hs : ∀ i, i < xs.length → xs.getD i 0 % p = ys.getD i 0 % p) (hm : xs.length ≤ 1000000) :
  Calls Try.prog 60 #[a, b, .int .u64 p] w (RetW w (.bool true)) := by
 obtain ⟨aA, bA, oA, cA, rfl, hcA, zA⟩ := hA.open
 obtain ⟨aB, bB, oB, cB, rfl, hcB, zB⟩ := hB.open
 obtain ⟨wb, ew, KA, KB, B0, hsz⟩ := boxes2 w 63 63 [.int .i64 R, .int .i64 C, .slice aA xs.length cA] [.int .i64 R, .int .i64 C, .slice aB ys.length cB]
 clear hsz
 replace zA := zA.below B0 (Nat.le_refl _); replace zB := zB.below B0 (Nat.le_refl _)
 have HS := Lib.hid hs; clear hs
 have hz0 : ((p : Int) == 0) = false := by simpa using (show p ≠ 0 by omega)
 have hz1 : ¬ p = 0 := by omega
 have hz2 : ¬ (p : Int) = 0 := by omega
 rw [← hl] at KB hcB ew ⊢
 obtain ⟨n, en⟩ : ∃ n, n = xs.length := ⟨_, rfl⟩
 rw [← en] at KA KB hcA hcB hm ew ⊢
 have HL := Lib.hid (And.intro en hl); clear en hl hp hA hB
 obtain ⟨g, eg⟩ : ∃ g, g = w.heap.size := ⟨_, rfl⟩
 rw [← eg] at KA KB
 have hRR : (R != R) = false := by simp
 have hCC : (C != C) = false := by simp
 have hNN : ((n : Int) != (n : Int)) = false := by simp
 have c0 := KA.cell 0; have c1 := KA.cell 1; have c2 := KA.cell 2
 have d0 := KB.cell 0; have d1 := KB.cell 1; have d2 := KB.cell 2
 have hzA := Lib.hid zA; have hzB := Lib.hid zB
 clear zA zB
 go_enter Try.func60, Try.ntmps60
 go_upto_region 1 with (fail)
 rw [← ew, ← eg]
 clear ew eg
 have st : Below w.heap.size w wb := B0
 go_wp2
 clear c0 c1 c2 d0 d1 d2
 go_loopw [7] (fun iv wr => ∃ i : Nat, i ≤ n ∧ iv = .int .i64 i ∧ Below wb.heap.size wb wr) (fun iv _ => n - (intOf iv).toNat)
 case atStart => exact ⟨0, by omega, rfl, Below.refl _ _⟩
 case round =>
  obtain ⟨i, hi, rfl, B1⟩ := hrel
  have KA1 := KA.next B1; have KB1 := KB.next B1
  have c2 := KA1.cell 2
  by_cases hin : i < n
  ·have zA := hzA.out.below B1 (Nat.le_refl _); have zB := hzB.out.below B1 (Nat.le_refl _)
   have hiA : i < xs.length := by have := HL.out.1; omega
   have hiB : i < ys.length := by have := HL.out.1; have := HL.out.2; omega
   obtain rfl := zA.ao (by intro h; subst h; simp at hiA)
   obtain rfl := zB.ao (by intro h; subst h; simp at hiB)
   have q1 := zA.cell _ hiA; have q2 := zB.cell _ hiB
   have l1 : bA < wr.heap.size := zA.lt (by intro h; subst h; simp at hiA)
   have l2 : bB < wr.heap.size := zB.lt (by intro h; subst h; simp at hiB)
   obtain ⟨x, ex⟩ : ∃ x, x = xs.getD i 0 := ⟨_, rfl⟩
   obtain ⟨y, ey⟩ : ∃ y, y = ys.getD i 0 := ⟨_, rfl⟩
   obtain ⟨z, ez⟩ : ∃ z, z = x % p := ⟨_, rfl⟩
   have ez2 : z = y % p := by rw [ez, ex, ey]; exact HS.out i hiA
   rw [← ex] at q1; rw [← ey] at q2
   have r1 : (x : Int).tmod (p : Int) = (z : Int) := by rw [ez]; rfl
   have r1' : (x : Int) % (p : Int) = (z : Int) := by rw [ez]; rfl
   have r2 : (y : Int).tmod (p : Int) = (z : Int) := by rw [ez2]; rfl
   have r2' : (y : Int) % (p : Int) = (z : Int) := by rw [ez2]; rfl
   clear ex ey ez ez2 zA zB hiA hiB
   go_upto_region 6 with (fail)
   clear c2
   have bd := dw wr
   replace KA1 := KA1.next bd; replace KB1 := KB1.next bd
   have q1 : wr.drew.cell? ⟨bA, oA + i, none⟩ = some (.int .u64 x) := (bd.cell (p := ⟨bA, oA + i, none⟩) l1).trans q1
   have q2 : wr.drew.cell? ⟨bB, oB + i, none⟩ = some (.int .u64 y) := (bd.cell (p := ⟨bB, oB + i, none⟩) l2).trans q2
   have l1 : bA < wr.drew.heap.size := l1
   have l2 : bB < wr.drew.heap.size := l2
   replace B1 := B1.trans (bd.mono B1.size)
   clear bd
   have z0 := Lib.hid fun (w : World) (hS : Below (wr.drew).heap.size (wr.drew) w) => And.intro ((KA1.at hS) 2) (And.intro ((KB1.at hS) 2) (And.intro ((hS.cell (p := ⟨bA, oA + i, none⟩) l1).trans q1) ((hS.cell (p := ⟨bB, oB + i, none⟩) l2).trans q2)))
   refine startL (S := (fun w' => Below (wr.drew).heap.size (wr.drew) w')) (by kernel_rfl) (Below.refl _ _) (fun hHeld => ?_)
   refine tk 0 ?_
   refine tf 1 z0.out ?_
   refine tk 2 ?_
   refine tk 3 ?_
   refine tf 4 z0.out ?_
   refine tk 5 ?_
   refine tk 6 ?_
   refine tk 7 ?_
   refine tf 8 z0.out ?_
   refine tk 9 ?_
   refine tk 10 ?_
   refine tf 11 z0.out ?_
   refine tk 12 ?_
   refine tk 13 ?_
   refine tk 14 ?_
   clear z0; refine doneL (by kernel_rfl) ?_ _
   replace B1 := B1
   clear q1 q2 KA1 KB1 hHeld
   go_wp2
   go_roundw
   case rel => exact ⟨i + 1, by omega, by go_num, B1⟩
   case measure => simp [intOf] <;> omega
  ·obtain rfl : i = n := by omega
   go_wp2
   go_ret
   exact ⟨rfl, B0.trans (B1.mono B0.size)⟩
theorem rf21_Is (a b : Value) (R C : Int) (p : Nat) (xs ys : List Nat) (w : World) (hp : 0 < p) (hA : Fm w a R C xs) (hB : Fm w b R C ys) (hF : Fd R C xs.length) (hw : wf p xs) (hl : xs.length = ys.length) (hs : ∀ i, i < xs.length → xs.getD i 0 % p = ys.getD i 0 % p) (hm : xs.length ≤ 1000000) :
  Calls Try.prog 48 #[a, b, .int .u64 p] w (RetW w (.bool true)) := by
 obtain ⟨aA, cA, rfl⟩ := hA.agg
 obtain ⟨aB, cB, rfl⟩ := hB.agg
 obtain ⟨wb, ew, KA, KB, B0, hsz⟩ := boxes2 w 63 63 [.int .i64 R, .int .i64 C, .slice aA xs.length cA] [.int .i64 R, .int .i64 C, .slice aB ys.length cB]
 clear hsz
 replace hA := hA.next B0; replace hB := hB.next B0
 have HS := Lib.hid hs; have HW := Lib.hid hw; have HF := Lib.hid hF; have HL := Lib.hid hl; clear hs hw hF hl
 have c0 := KA.cell 0; have c1 := KA.cell 1; have c2 := KA.cell 2
 go_enter Try.func48, Try.ntmps48
 go_upto_region 1 with (fail)
 rw [← ew]
 clear ew
 go_wp2_with fail
 refine (rf21_Normal _ R C p xs _ hA HF.out HW.out hm).mono ?_; rintro e w2 ⟨rfl, b2⟩
 replace hA := hA.next b2; replace hB := hB.next b2
 replace KA := KA.next b2; replace KB := KB.next b2
 clear c0 c1 c2
 have c0 := KA.cell 0; have c1 := KA.cell 1; have c2 := KA.cell 2
 have d0 := KB.cell 0; have d1 := KB.cell 1; have d2 := KB.cell 2
 go_wp2_with fail
 refine (rf21_Same _ _ R C p xs ys _ hp hA hB HL.out HS.out hm).mono ?_; rintro e w3 ⟨rfl, b3⟩
 go_wp2
 go_ret
 exact ⟨rfl, (B0.trans (b2.mono B0.size)).trans (b3.mono (B0.trans (b2.mono B0.size)).size)⟩
end Go.Proofs.Ytkmfhabgempjiaa
/- The reference of chapter 21: products. -/
namespace Go.Proofs.Ytkmfhabgempjiaa
set_option maxHeartbeats 4000000
open Go.RowKit
theorem dot_step {p x q x1 x2 u v : Nat} {d : Zp p} (hp : FP p) (hx : x = d.val) (h1 : x1 = u % p) (h2 : x2 = v % p) (hq : q = x1 * x2 % p) : (x + q) % p = (d + Zp.of p u * Zp.of p v).val := by
 have e : p - 1 + 1 = p := by have := hp.1; omega
 have h : (d + Zp.of p u * Zp.of p v) = Zp.of p (x + q) := by
  rw [Zp.of_add, hx, Zp.of_val, hq, Zp.of_mod, Zp.of_mul, h1, h2, Zp.of_mod, Zp.of_mod]
 rw [h, Zp.val_of, e]
def MuR (w wb wr : World) (g r c : Nat) (T : Nat → Nat → Nat) (n : Nat) : Prop := ∃ ao m k, Blk 63 wr (g + 1 + 1 + 1) [.int .i64 r, .int .i64 c, .slice ao m k] ∧ Blk 63 wr (g + 1 + 1) [.int .i64 0, .int .i64 0, .slice none 0 0] ∧
 Own .u64 27 wr (g + 1 + 1 + 1 + 1) (.slice ao m k) (ftab c T n) ∧ Below (g + 1 + 1) wb wr ∧ Below w.heap.size w wr
theorem MuR.next {w wb wr w' : World} {g r c : Nat} {T : Nat → Nat → Nat} {n : Nat} (h : MuR w wb wr g r c T n) (hg : g + 1 + 1 ≤ wr.heap.size) (b : Below wr.heap.size wr w') : MuR w wb w' g r c T n := by
 obtain ⟨ao, m, k, K1, K2, o, B1, B2⟩ := h
 exact ⟨ao, m, k, K1.next b, K2.next b, o.next b, B1.trans (b.mono hg), B2.trans (b.mono B2.size)⟩
set_option maxRecDepth 20000 in
theorem rf21_Mul (p : Nat) (a b : Value) (r m c : Nat) (xs ys : List Nat) (w : World) (hp : FP p) (hA : Fm w a r m xs) (hB : Fm w b m c ys) (hr : r ≤ 64) (hm : m ≤ 64) (hc : c ≤ 64) (hx : xs.length = r * m) (hy : ys.length = m * c) :
  Calls Try.prog 61 #[a, b, .int .u64 p] w (RetFm p w r c (mx p r m xs * mx p m c ys)) := by
 obtain ⟨aA, cA, rfl⟩ := hA.agg
 obtain ⟨aB, cB, rfl⟩ := hB.agg
 obtain ⟨wb, ew, KA, KB, KR, KT, B0, hsz⟩ := boxes4 w 63 63 63 63 [.int .i64 r, .int .i64 m, .slice aA xs.length cA] [.int .i64 m, .int .i64 c, .slice aB ys.length cB] [.int .i64 0, .int .i64 0, .slice none 0 0] [.int .i64 r, .int .i64 c, .slice none 0 0]
 clear hsz
 have HX := Lib.hid hx; have HY := Lib.hid hy; clear hx hy
 have hTT := tbv_of (p := p) (r := r) (c := c) (fun i k => (dotp p xs ys m c i k m).val) (fun i k => dotp p xs ys m c i k m) (fun _ _ _ _ => rfl)
 have hMM : (MT.of r c fun i k => dotp p xs ys m c i k m) = mx p r m xs * mx p m c ys := MT.ext fun i k hi hk => by
  rw [MT.of_e _ hi hk, MT.e_mul]; unfold dotp; exact (sm_congr fun j hj => by rw [mx_e _ hi hj, mx_e _ hj hk]).symm
 rw [hMM] at hTT
 obtain ⟨M, eM⟩ : ∃ M, M = mx p r m xs * mx p m c ys := ⟨_, rfl⟩
 rw [← eM] at hTT ⊢
 have HTT := Lib.hid hTT; clear hTT hMM eM
 have HP := Lib.hid hp; clear hp
 have hp1 := HP.out.1; have hp2 := HP.out.2
 have hz1 : ¬ p = 0 := by omega
 have hz2 : ¬ (p : Int) = 0 := by omega
 have hz0 : ((p : Int) == 0) = false := by simpa using (show p ≠ 0 by omega)
 go_enter Try.func61, Try.ntmps61
 go_upto_region 2 with (fail)
 rw [← ew]
 obtain ⟨g, eg⟩ : ∃ g, g = w.heap.size := ⟨_, rfl⟩
 rw [← eg] at KA KB KR KT ⊢
 have hgw : w.heap.size ≤ g := by omega
 clear ew eg
 have hwb : g + 1 + 1 + 1 < wb.heap.size := KT.lt
 have st : MuR w wb wb g r c (fun i k => (dotp p xs ys m c i k m).val) (0 * c) := ⟨_, _, _, KT, KR, by rw [Nat.zero_mul]; exact Own.nil _ _ _ _, Below.refl _ _, B0⟩
 have HA := Lib.hid hA; have HB := Lib.hid hB; have HKA := Lib.hid KA; have HKB := Lib.hid KB
 clear hA hB KT KR B0 KA KB
 go_wp2
 go_loopw [8] (fun iv wr => ∃ i : Nat, i ≤ r ∧ iv = .int .i64 i ∧ MuR w wb wr g r c (fun i k => (dotp p xs ys m c i k m).val) (i * c)) (fun iv _ => r - (intOf iv).toNat)
 case atStart => exact ⟨0, by omega, rfl, st⟩
 case round =>
  clear st
  obtain ⟨i, hi, rfl, st⟩ := hrel
  have B1 := st.choose_spec.choose_spec.choose_spec.2.2.2.1
  have KA := HKA.out.below B1 (by omega)
  have c0 := KA.cell 0
  by_cases hir : i < r
  ·go_wp2
   clear c0 KA B1
   go_loopw [9] (fun kv wr => ∃ k : Nat, k ≤ c ∧ kv = .int .i64 k ∧ MuR w wb wr g r c (fun i k => (dotp p xs ys m c i k m).val) (i * c + k)) (fun kv _ => c - (intOf kv).toNat)
   case atStart => exact ⟨0, by omega, rfl, st⟩
   case round =>
    clear st
    obtain ⟨k, hk, rfl, st⟩ := hrel
    have B1 := st.choose_spec.choose_spec.choose_spec.2.2.2.1
    have KB := HKB.out.below B1 (by omega)
    have c1 := KB.cell 1
    by_cases hkc : k < c
    ·have hg2 : g + 1 + 1 ≤ wr.heap.size := Nat.le_trans (by omega) B1.size
     go_wp2
     clear c1 KB B1
     go_loopw [11, 10] (fun jv xv wr => ∃ j x : Nat, j ≤ m ∧ jv = .int .i64 j ∧ xv = .int .u64 x ∧ x = (dotp p xs ys m c i k j).val ∧ MuR w wb wr g r c (fun i k => (dotp p xs ys m c i k m).val) (i * c + k)) (fun jv _ _ => m - (intOf jv).toNat)
     case atStart => exact ⟨0, 0, by omega, rfl, rfl, rfl, st⟩
     case round =>
      clear st hg2
      obtain ⟨j, x, hj, rfl, rfl, hxx, st⟩ := hrel
      have HXX := Lib.hid hxx
      have hxp : x < p := by rw [hxx]; have := (dotp p xs ys m c i k j).lt; omega
      clear hxx
      have B1 := st.choose_spec.choose_spec.choose_spec.2.2.2.1
      have hg2 : g + 1 + 1 ≤ wr.heap.size := Nat.le_trans (by omega) B1.size
      have KA := HKA.out.below B1 (by omega)
      have c1 := KA.cell 1
      by_cases hjm : j < m
      ·go_upto_region 12 with (fail)
       clear c1 KA
       have bd := dw wr
       replace st := st.next hg2 bd
       have hg2 : g + 1 + 1 ≤ wr.drew.heap.size := hg2
       replace B1 := B1.trans (bd.mono hg2)
       clear bd
       have KA := HKA.out.below B1 (by omega); have KB := HKB.out.below B1 (by omega)
       have B2 := st.choose_spec.choose_spec.choose_spec.2.2.2.2
       obtain ⟨x1, ex1⟩ : ∃ z, z = xs.getD (i * m + j) 0 % p := ⟨_, rfl⟩
       obtain ⟨x2, ex2⟩ : ∃ z, z = ys.getD (j * c + k) 0 % p := ⟨_, rfl⟩
       obtain ⟨q, eq⟩ : ∃ z, z = x1 * x2 % p := ⟨_, rfl⟩
       obtain ⟨x', ex'⟩ : ∃ z, z = (x + q) % p := ⟨_, rfl⟩
       have hx' : x' = (dotp p xs ys m c i k (j + 1)).val := by rw [ex', dotp_succ]; exact dot_step HP.out HXX.out ex1 ex2 eq
       have hqp : q < p := by rw [eq]; exact Nat.mod_lt _ (by omega)
       obtain ⟨s, es⟩ : ∃ s, s = x + q := ⟨_, rfl⟩
       have hs : IntKind.u64.wrap ((x : Int) + (q : Int)) = (s : Int) := by rw [es, ← Int.natCast_add]; exact wrap_u64 _ (by omega)
       have hr1 : (s : Int).tmod (p : Int) = (x' : Int) := by rw [ex', ← es]; rfl
       have hr2 : (s : Int) % (p : Int) = (x' : Int) := by rw [ex', ← es]; rfl
       have hatA := Lib.hid (fun w' (hb : Below wr.drew.heap.size wr.drew w') => rf21_At _ r m i j p xs w' (by omega) (HA.out.next (B2.trans (hb.mono B2.size))) (by omega) (by omega) (by omega) (at_lt HX.out hir hjm) x1 ex1)
       have hatB := Lib.hid (fun w' (hb : Below wr.drew.heap.size wr.drew w') => rf21_At _ m c j k p ys w' (by omega) (HB.out.next (B2.trans (hb.mono B2.size))) (by omega) (by omega) (by omega) (at_lt HY.out hjm hkc) x2 ex2)
       have hmu := Lib.hid (show ∀ w' : World, Calls Try.prog 78 #[.int .u64 x1, .int .u64 x2, .int .u64 p] w' (fun e w'' => e = .returned (.int .u64 (q : Nat)) ∧ Drawn w' w'') from fun w' => by rw [eq]; exact ref8_Mul x1 x2 p w' HP.out)
       have HXN := Lib.hid hx'
       clear ex1 ex2 eq ex' es hx' hxp hqp
       have zF0 := Lib.hid fun (w : World) (hS : Below (wr.drew).heap.size (wr.drew) w) => And.intro ((KA.at hS) 0) (And.intro ((KA.at hS) 1) (And.intro ((KA.at hS) 2) (And.intro ((KB.at hS) 0) (And.intro ((KB.at hS) 1) ((KB.at hS) 2)))))
       refine startL (S := (fun w' => Below (wr.drew).heap.size (wr.drew) w')) (by kernel_rfl) (Below.refl _ _) (fun hHeld => ?_)
       refine tk 0 ?_
       refine tf 1 zF0.out ?_
       refine tk 2 ?_
       refine tk 3 ?_
       refine tk 4 ?_
       refine tf 6 zF0.out ?_
       refine tk 7 ?_
       refine tk 8 ?_
       refine tk 9 ?_
       refine tk 11 ?_
       refine tk 14 ?_
       refine on 5 fun K hK => ?_
       go_simp
       go_at_call 112
       (refine (hatA.out _ hHeld).mono ?_); rintro e w5 ⟨rfl, b5⟩
       refine hK.out _ _ (hHeld.trans (b5.mono hHeld.size)) (fun hHeld => ?_)
       clear hK K
       try simp only [Act.put, zq1, zq2, zq3]
       refine on 10 fun K hK => ?_
       go_simp
       go_at_call 112
       (refine (hatB.out _ hHeld).mono ?_); rintro e w6 ⟨rfl, b6⟩
       refine hK.out _ _ (hHeld.trans (b6.mono hHeld.size)) (fun hHeld => ?_)
       clear hK K
       try simp only [Act.put, zq1, zq2, zq3]
       refine on 12 fun K hK => ?_
       go_simp
       go_at_call 78
       (refine (hmu.out _).mono ?_); rintro e w7 ⟨rfl, q7⟩; have b7 := q7.below w6.heap.size; clear q7
       refine hK.out _ _ (hHeld.trans (b7.mono hHeld.size)) (fun hHeld => ?_)
       clear hK K
       try simp only [Act.put, zq1, zq2, zq3]
       refine tk 13 ?_
       refine tk 15 ?_
       refine tk 16 ?_
       clear zF0; refine doneL (by kernel_rfl) ?_ _
       have st := Lib.hid (st.next hg2 hHeld)
       clear B1 B2 KA KB hHeld hatA hatB hmu
       go_wp2
       go_roundw
       case rel => exact ⟨j + 1, x', by omega, by go_num, rfl, HXN.out, st.out⟩
       case measure => simp [intOf] <;> omega
      ·obtain rfl : j = m := by omega
       obtain ⟨ao, mm, kk, K2, K1, ho, B3, B0⟩ := st
       have f2 := K2.cell 2; have z2 := K2.free 2
       have hgx : g + 1 + 1 + 1 + 1 ≤ wr.heap.size := by have := K2.lt; omega
       have hlen := Lib.hid (ftab_length c (fun i k => (dotp p xs ys j c i k j).val) (i * c + k))
       have hic : i * c ≤ 64 * 64 := Nat.mul_le_mul (by omega) hc
       have hrow := Lib.hid (ftab_at (i := i) (k := k) (fun i k => (dotp p xs ys j c i k j).val) hkc)
       go_wp2_with (at_builtin; refine wp_app1 .u64 41 27 8 Try.underlying41 (by kernel_rfl) (by decide) rfl _ _ rfl wr (g + 1 + 1 + 1 + 1) _ (ftab c (fun i k => (dotp p xs ys j c i k j).val) (i * c + k)) x _ (by rfl) ho (by rw [hlen.out]; omega) hgx rfl rfl ?_; intro v' w4 ho4 hb4 hg4 _; have K4 := K2.below hb4 (by omega); have q1 := K4.cell 2; have q2 := K4.free 2; obtain ⟨a4, c4, e4⟩ := ho4.sliced; subst e4; rw [List.length_append] at ho4)
       have K5 := K4.set 2 (.slice a4 ((ftab c (fun i k => (dotp p xs ys j c i k j).val) (i * c + k)).length + [x].length) c4)
       have K6 := (K1.below hb4 (by omega)).far (a := ⟨g + 1 + 1 + 1, 2, none⟩) (show g + 1 + 1 ≠ g + 1 + 1 + 1 by omega) (.slice a4 ((ftab c (fun i k => (dotp p xs ys j c i k j).val) (i * c + k)).length + [x].length) c4)
       have o6 := ho4.low (a := ⟨g + 1 + 1 + 1, 2, none⟩) (show g + 1 + 1 + 1 < g + 1 + 1 + 1 + 1 by omega) (.slice a4 ((ftab c (fun i k => (dotp p xs ys j c i k j).val) (i * c + k)).length + [x].length) c4)
       have B6 := (B3.trans (hb4.mono (by omega))).setCell (p := ⟨g + 1 + 1 + 1, 2, none⟩) (show g + 1 + 1 ≤ g + 1 + 1 + 1 by omega) (.slice a4 ((ftab c (fun i k => (dotp p xs ys j c i k j).val) (i * c + k)).length + [x].length) c4)
       have B7 := (B0.trans (hb4.mono (by omega))).setCell (p := ⟨g + 1 + 1 + 1, 2, none⟩) (show w.heap.size ≤ g + 1 + 1 + 1 by omega) (.slice a4 ((ftab c (fun i k => (dotp p xs ys j c i k j).val) (i * c + k)).length + [x].length) c4)
       have st := Lib.hid (show MuR w wb (w4.setCell ⟨g + 1 + 1 + 1, 2, none⟩ (.slice a4 ((ftab c (fun i k => (dotp p xs ys j c i k j).val) (i * c + k)).length + [x].length) c4)) g r c (fun i k => (dotp p xs ys j c i k j).val) (i * c + (k + 1)) from ⟨_, _, _, K5, K6, by rw [hrow.out, ← HXX.out]; exact o6, B6, B7⟩)
       clear K1 K2 K4 K5 K6 o6 B6 B7 ho ho4 hb4 hg4 B0 B3 B1 KA c1 f2 z2 q1 q2
       go_wp2
       go_roundw
       case rel => exact ⟨k + 1, by omega, by go_num, st.out⟩
       case measure => simp [intOf] <;> omega
    ·obtain rfl : k = c := by omega
     go_wp2
     go_roundw
     case rel => exact ⟨i + 1, by omega, by go_num, by rw [Nat.succ_mul]; exact st⟩
     case measure => simp [intOf] <;> omega
  ·obtain rfl : i = r := by omega
   obtain ⟨ao, mm, kk, K2, K1, ho, B3, B0⟩ := st
   rw [HTT.out] at ho
   obtain ⟨ao', c', e'⟩ := ho.sliced
   simp only [Value.slice.injEq] at e'
   obtain ⟨rfl, rfl, rfl⟩ := e'
   have k0 := K2.cell 0; have k1 := K2.cell 1; have k2 := K2.cell 2
   have e0 := K1.cell 0; have e1 := K1.cell 1; have e2 := K1.cell 2
   have f0 := K1.free 0; have f1 := K1.free 1; have f2 := K1.free 2
   have KF := ((K1.set 0 (.int .i64 i)).set 1 (.int .i64 c)).set 2 (.slice ao (tbv M).length kk)
   have d0 := KF.cell 0; have d1 := KF.cell 1; have d2 := KF.cell 2
   have hlt : g + 1 + 1 < g + 1 + 1 + 1 + 1 := by omega
   have hof := ((ho.low (a := ⟨g + 1 + 1, 0, none⟩) hlt (.int .i64 i)).low (a := ⟨g + 1 + 1, 1, none⟩) hlt (.int .i64 c)).low (a := ⟨g + 1 + 1, 2, none⟩) hlt (.slice ao (tbv M).length kk)
   have hgw2 : w.heap.size ≤ g + 1 + 1 := by omega
   have BF := ((B0.setCell (p := ⟨g + 1 + 1, 0, none⟩) hgw2 (.int .i64 i)).setCell (p := ⟨g + 1 + 1, 1, none⟩) hgw2 (.int .i64 c)).setCell (p := ⟨g + 1 + 1, 2, none⟩) hgw2 (.slice ao (tbv M).length kk)
   have FR := Lib.hid (show RetFm p w i c M (.returned (.agg #[.int .i64 i, .int .i64 c, .slice ao (tbv M).length kk])) (((wr.setCell ⟨g + 1 + 1, 0, none⟩ (.int .i64 i)).setCell ⟨g + 1 + 1, 1, none⟩ (.int .i64 c)).setCell ⟨g + 1 + 1, 2, none⟩ (.slice ao (tbv M).length kk)) from ⟨_, _, rfl, hof.mono (by omega), BF⟩)
   clear KF K1 K2 hof BF ho B0 B3 KA B1
   go_wp2
   exact bodyPost_ret (v := .agg #[.int .i64 i, .int .i64 c, .slice ao (tbv M).length kk]) (by simp [results, Try.results61, go_sem, d0, d1, d2]) rfl FR.out
end Go.Proofs.Ytkmfhabgempjiaa
/- The reference of chapter 21: determinants. -/
namespace Go.Proofs.Ytkmfhabgempjiaa
set_option maxHeartbeats 4000000
open Go.RowKit
def minT (p N k : Nat) (xs : List Nat) : Nat → Nat → Nat := fun i j => xs.getD ((i + 1) * N + (if j < k then j else j + 1)) 0 % p
theorem minT_dn {p n k : Nat} {xs : List Nat} : dn n (mx p n n (ftab n (minT p (n + 1) k xs) (n * n))).e = dn n (mnr (mx p (n + 1) (n + 1) xs).e k) := dn_congr n fun i j hi hj => by
 rw [mx_tab, MT.of_e _ hi hj]
 unfold mnr minT
 have : (if j < k then j else j + 1) < n + 1 := by split <;> omega
 rw [mx_e _ (by omega) this, Zp.of_mod]
def detG (p n : Nat) (xs : List Nat) : Nat → Zp p := fun k => sg k ((mx p (n + 1) (n + 1) xs).e 0 k * dn n (mnr (mx p (n + 1) (n + 1) xs).e k))
theorem dt_add {p n k out t : Nat} {xs : List Nat} (hp : FP p) (ho : out = (sm k (detG p n xs)).val) (ht : t = (detG p n xs k).val) : (out + t) % p = (sm (k + 1) (detG p n xs)).val := by
 have e : p - 1 + 1 = p := by have := hp.1; omega
 show _ = (sm k (detG p n xs) + detG p n xs k).val
 rw [Zp.add_val, e, ho, ht]
theorem dt_even {p n k x1 d q : Nat} {xs : List Nat} (hp : FP p) (hk : k < n + 1) (hpar : k % 2 = 0) (h1 : x1 = xs.getD (0 * (n + 1) + k) 0 % p) (hd : d = (dn n (mnr (mx p (n + 1) (n + 1) xs).e k)).val) (hq : q = x1 * d % p) : q = (detG p n xs k).val := by
 have e : p - 1 + 1 = p := by have := hp.1; omega
 unfold detG sg
 rw [if_neg (by omega), mx_e _ (by omega) hk, Zp.mul_val, e, hq, h1, hd, Zp.val_of, e]
theorem dt_odd {p n k x1 d q t : Nat} {xs : List Nat} (hp : FP p) (hk : k < n + 1) (hpar : k % 2 = 1) (h1 : x1 = xs.getD (0 * (n + 1) + k) 0 % p) (hd : d = (dn n (mnr (mx p (n + 1) (n + 1) xs).e k)).val) (hq : q = x1 * d % p) (ht : t = (p - q) % p) : t = (detG p n xs k).val := by
 have e : p - 1 + 1 = p := by have := hp.1; omega
 unfold detG sg
 rw [if_pos (by omega), mx_e _ (by omega) hk]
 have h : q = (Zp.of p (xs.getD (0 * (n + 1) + k) 0) * dn n (mnr (mx p (n + 1) (n + 1) xs).e k)).val := by
  rw [Zp.mul_val, e, hq, h1, hd, Zp.val_of, e]
 rw [Zp.neg_val, e, ← h, ht]
def DtR (w1 wr : World) (gT n : Nat) (T : Nat → Nat → Nat) (cnt : Nat) : Prop := ∃ ao m k, Blk 63 wr gT [.int .i64 n, .int .i64 n, .slice ao m k] ∧ Own .u64 27 wr (gT + 1) (.slice ao m k) (ftab n T cnt) ∧ Below gT w1 wr
set_option maxRecDepth 20000 in
theorem rf21_Det_step (p n : Nat) (hp : FP p) (hn : n < 8) (ih : ∀ (v : Value) (xs : List Nat) (w : World), Fm w v n n xs → xs.length = n * n → Calls Try.prog 59 #[v, .int .u64 p] w (RetW w (.int .u64 ((dn n (mx p n n xs).e).val : Nat))))
  (v : Value) (xs : List Nat) (w : World) (N : Nat) (hN : N = n + 1) (hA : Fm w v N N xs) (hx : xs.length = N * N) :
  Calls Try.prog 59 #[v, .int .u64 p] w (RetW w (.int .u64 ((sm N (detG p n xs)).val : Nat))) := by
 obtain ⟨aA, cA, rfl⟩ := hA.agg
 obtain ⟨wb, ew, KA, B0, hsz⟩ := boxes1 w 63 [.int .i64 N, .int .i64 N, .slice aA xs.length cA]
 clear hsz
 have HP := Lib.hid hp; clear hp
 have IH := Lib.hid ih; clear ih
 have HX := Lib.hid hx; clear hx
 have hp1 := HP.out.1; have hp2 := HP.out.2
 have hz1 : ¬ p = 0 := by omega
 have hz2 : ¬ (p : Int) = 0 := by omega
 have hz0 : ((p : Int) == 0) = false := by simpa using (show p ≠ 0 by omega)
 have s1 : IntKind.i64.wrap ((N : Int) - 1) = (n : Int) := by rw [IntWalk.i64_in _ ⟨by omega, by omega⟩]; omega
 have hN0 : ((N : Int) == 0) = false := by simpa using (show N ≠ 0 by omega)
 have hN8 : N ≤ 8 := by omega
 have hnN : n < N := by omega
 have HN := Lib.hid hN; clear hN
 obtain ⟨g, eg⟩ : ∃ g, g = w.heap.size := ⟨_, rfl⟩
 rw [← eg] at KA
 have HA := Lib.hid hA; clear hA
 have HKA := Lib.hid KA; have HB0 := Lib.hid B0
 have c0 := KA.cell 0
 go_enter Try.func59, Try.ntmps59
 go_upto_region 1 with (fail)
 rw [← ew, ← eg]
 clear ew eg
 clear B0 KA
 go_wp2
 clear c0
 go_loopw [6, 5] (fun kv ov wr => ∃ k out : Nat, k ≤ N ∧ kv = .int .i64 k ∧ ov = .int .u64 out ∧ out = (sm k (detG p n xs)).val ∧ Below wb.heap.size wb wr) (fun kv _ _ => N - (intOf kv).toNat)
 case atStart => exact ⟨0, 0, by omega, rfl, rfl, rfl, Below.refl _ _⟩
 case round =>
  obtain ⟨k, out, hk, rfl, rfl, hout, B1⟩ := hrel
  have HO := Lib.hid hout
  have houtp : out < p := by rw [hout]; have := (sm k (detG p n xs)).lt; omega
  clear hout
  have KA := HKA.out.next B1
  have c0 := KA.cell 0; have c1 := KA.cell 1
  obtain ⟨wk, hwk⟩ : ∃ wk, wk = wr := ⟨_, rfl⟩
  subst hwk
  by_cases hkN : k < N
  ·obtain ⟨w2, ew2, KT, B2, -⟩ := boxes1 wk 63 [.int .i64 n, .int .i64 n, .slice none 0 0]
   go_upto_region 8 with (fail)
   rw [← ew2]
   clear ew2 c0 c1
   obtain ⟨gT, egT⟩ : ∃ gT, gT = wk.heap.size := ⟨_, rfl⟩
   rw [← egT] at KT B2 ⊢
   have hgT : gT ≤ wk.heap.size := by omega
   have hgT2 : wk.heap.size ≤ gT := by omega
   clear egT
   have st : DtR wk w2 gT n (minT p N k xs) ((1 - 1) * n) := ⟨_, _, _, KT, by rw [Nat.sub_self, Nat.zero_mul]; exact Own.nil _ _ _ _, B2⟩
   clear KT B2
   go_wp2
   go_loopw [8] (fun iv wr => ∃ ii : Nat, 1 ≤ ii ∧ ii ≤ N ∧ iv = .int .i64 ii ∧ DtR wk wr gT n (minT p N k xs) ((ii - 1) * n)) (fun iv _ => N - (intOf iv).toNat)
   case atStart => exact ⟨1, by omega, by omega, rfl, st⟩
   case round =>
    clear st
    obtain ⟨ii, hi1, hi, rfl, st⟩ := hrel
    have hgg : g < gT := Nat.lt_of_lt_of_le KA.lt hgT2
    obtain ⟨i, ei⟩ : ∃ i, ii = i + 1 := ⟨ii - 1, by omega⟩
    have HI := Lib.hid ei
    rw [show (ii - 1) * n = i * n by rw [ei]; rfl] at st
    by_cases hin : ii < N
    ·have hin2 : i < n := by have := HN.out; omega
     clear ei
     have c0 := (KA.below st.choose_spec.choose_spec.choose_spec.2.2 hgg).cell 0
     go_wp2
     clear c0
     go_loopw [9] (fun jv wr => ∃ j : Nat, j ≤ N ∧ jv = .int .i64 j ∧ DtR wk wr gT n (minT p N k xs) (i * n + (if j ≤ k then j else j - 1))) (fun jv _ => N - (intOf jv).toNat)
     case atStart => exact ⟨0, by omega, rfl, by rw [if_pos (by omega)]; exact st⟩
     case round =>
      clear st
      obtain ⟨j, hj, rfl, st⟩ := hrel
      have B2 := st.choose_spec.choose_spec.choose_spec.2.2
      have KA2 := KA.below B2 hgg
      have c1 := KA2.cell 1
      by_cases hjN : j < N
      ·by_cases hjk : j = k
       ·have hjk2 : ((j : Int) != (k : Int)) = false := by rw [hjk]; simp
        have st := Lib.hid (show DtR wk wr gT n (minT p N k xs) (i * n + (if j + 1 ≤ k then j + 1 else j + 1 - 1)) by
         rw [if_pos (by omega)] at st; rw [if_neg (by omega), Nat.add_sub_cancel]; exact st)
        clear hjk B2 KA2
        go_wp2
        go_roundw
        case rel => exact ⟨j + 1, by omega, by go_num, st.out⟩
        case measure => simp [intOf] <;> omega
       ·have hjk2 : ((j : Int) != (k : Int)) = true := by simp; omega
        obtain ⟨b, hb, hbn, hbj, hbn2⟩ : ∃ b, (if j ≤ k then j else j - 1) = b ∧ b < n ∧ (if b < k then b else b + 1) = j ∧ (if j + 1 ≤ k then j + 1 else j + 1 - 1) = b + 1 := by
         have := HN.out
         by_cases h1 : j < k
         ·exact ⟨j, by rw [if_pos (by omega)], by omega, by rw [if_pos h1], by rw [if_pos (by omega)]⟩
         ·exact ⟨j - 1, by rw [if_neg (by omega)], by omega, by rw [if_neg (by omega)]; omega, by rw [if_neg (by omega)]; omega⟩
        rw [hb] at st
        have HBN := Lib.hid hbn2
        obtain ⟨x, ex⟩ : ∃ x, x = xs.getD (ii * N + j) 0 % p := ⟨_, rfl⟩
        have ex2 : minT p N k xs i b = x := by unfold minT; rw [hbj, ex, HI.out]
        have hrow := Lib.hid (ftab_at (i := i) (k := b) (minT p N k xs) hbn)
        rw [ex2] at hrow
        have hlen := Lib.hid (ftab_length n (minT p N k xs) (i * n + b))
        have hibn : i * n + b ≤ 100 := by have := Nat.mul_le_mul (show i ≤ 8 by omega) (show n ≤ 8 by omega); omega
        clear hjk hb hbn2 hbj ex2
        have hgx : gT + 1 ≤ wr.heap.size := by
         have := st.choose_spec.choose_spec.choose_spec.1.lt; omega
        go_upto_region 15 with (fail)
        clear c1 KA2 hjk2
        have bd := dw wr
        obtain ⟨ao, mm, kk, KT, ho, B2'⟩ := st
        replace KT := KT.next bd; replace ho := ho.next bd
        replace B2 := B2.trans (bd.mono (by omega))
        have hgx : gT + 1 ≤ wr.drew.heap.size := hgx
        clear bd B2'
        have KA2 := KA.below B2 hgg
        have hat := Lib.hid (fun w' (hb : Below (gT + 1) wr.drew w') => rf21_At _ N N ii j p xs w' (by omega) (HA.out.next (HB0.out.trans ((B1.trans ((B2.trans (hb.mono (by omega))).mono (Nat.le_trans B1.size hgT2))).mono HB0.out.size))) (by omega) (by omega) (by omega) (at_lt HX.out hin hjN) x ex)
        clear ex
        have z0 := Lib.hid fun (w : World) (hS : Below (gT + 1) wr.drew w) => And.intro (((KA2.below (hS.mono (Nat.le_refl _)) (by omega)).cell) 0) (And.intro (((KA2.below (hS.mono (Nat.le_refl _)) (by omega)).cell) 1) (And.intro (((KA2.below (hS.mono (Nat.le_refl _)) (by omega)).cell) 2) (((KT.below hS (Nat.lt_succ_self _)).cell) 2)))
        refine startP (S := (fun w' => Below (gT + 1) wr.drew w')) (by kernel_rfl) _ rfl rfl rfl (by kernel_rfl) (Below.refl _ _) (fun hHeld => ?_)
        refine tk 0 ?_
        refine tf 1 z0.out ?_
        refine tf 2 z0.out ?_
        refine tk 3 ?_
        refine tk 4 ?_
        refine tk 5 ?_
        refine on 6 fun K hK => ?_
        go_simp
        go_at_call 112
        (refine (hat.out _ hHeld).mono ?_); rintro e w5 ⟨rfl, b5⟩
        refine hK.out _ _ (hHeld.trans (b5.mono (Nat.le_trans hgx hHeld.size))) (fun hHeld => ?_)
        clear hK K
        try simp only [Act.put, zq1, zq2, zq3]
        refine on 7 fun K hK => ?_
        go_simp
        have hd := hHeld
        refine hK.out _ _ (hHeld.alloc (Nat.le_trans hgx hHeld.size) _) (fun hHeld => ?_)
        clear hK K
        try simp only [Act.put, zq1, zq2, zq3]
        refine on 8 fun K hK => ?_
        refine ap2 (ops := #[]) .u64 41 27 8 Try.underlying41 (by kernel_rfl) (by decide) rfl _ _ rfl w5 (gT + 1) (.slice ao mm kk) (ftab n (minT p N k xs) (i * n + b)) x _ (by rfl) (ho.next b5) (by rw [hlen.out]; omega) (Nat.le_trans hgx hd.size) rfl rfl ?_
        intro gg cap1 wz hown' hbel'
        refine hK.out _ _ (hd.trans hbel') (fun hHeld => ?_)
        clear hK K
        try simp only [Act.put, zq1, zq2, zq3]
        refine tk 9 ?_
        clear z0; refine doneL (by kernel_rfl) ?_ _
        refine lastL rfl (by rfl) ?_
        have KT2 := KT.below hHeld (Nat.lt_succ_self _)
        have q2 := KT2.cell 2; have qz := KT2.free 2
        have B3 := (B2.trans (hHeld.mono (by omega))).setCell (p := ⟨gT, 2, none⟩) (Nat.le_refl _) (.slice (some ⟨gg, 0, none⟩) ((ftab n (minT p N k xs) (i * n + b)).length + 1) cap1)
        have st := Lib.hid (show DtR wk (wz.setCell ⟨gT, 2, none⟩ (.slice (some ⟨gg, 0, none⟩) ((ftab n (minT p N k xs) (i * n + b)).length + 1) cap1)) gT n (minT p N k xs) (i * n + (if j + 1 ≤ k then j + 1 else j + 1 - 1)) from
         ⟨_, _, _, KT2.set 2 _, by rw [HBN.out, hrow.out]; exact hown'.low (a := ⟨gT, 2, none⟩) (Nat.lt_succ_self _) _, B3⟩)
        clear KT KT2 ho B2 B3 KA2 hown' hbel' hHeld hd hat b5
        go_wp2
        go_roundw
        case rel => exact ⟨j + 1, by omega, by go_num, st.out⟩
        case measure => simp [intOf] <;> omega
      ·obtain rfl : j = N := by omega
       have st := Lib.hid (show DtR wk wr gT n (minT p j k xs) ((ii + 1 - 1) * n) by
        rw [if_neg (by omega), show j - 1 = n by have := HN.out; omega] at st
        rw [Nat.add_sub_cancel, HI.out, Nat.succ_mul]; exact st)
       clear KA2 B2
       go_wp2
       go_roundw
       case rel => exact ⟨ii + 1, by omega, by omega, by go_num, st.out⟩
       case measure => simp [intOf] <;> omega
    ·have hin0 : i = n := by have := HN.out; omega
     obtain rfl : ii = N := by omega
     clear ei
     rw [hin0] at st
     clear hin0
     obtain ⟨ao, mm, kk, KT, ho, B2⟩ := st
     obtain ⟨ao', c', e'⟩ := ho.sliced
     simp only [Value.slice.injEq] at e'
     obtain ⟨rfl, rfl, rfl⟩ := e'
     have KA2 := KA.below B2 hgg
     have c0 := KA2.cell 0
     obtain ⟨zs, ezs⟩ : ∃ zs, zs = ftab n (minT p ii k xs) (n * n) := ⟨_, rfl⟩
     rw [← ezs] at KT ho
     have hzl : zs.length = n * n := by rw [ezs, ftab_length]
     obtain ⟨d, ed⟩ : ∃ d, d = ((dn n (mx p n n zs).e).val : Nat) := ⟨_, rfl⟩
     have hd2 : d = (dn n (mnr (mx p (n + 1) (n + 1) xs).e k)).val := by rw [ed, ezs, HN.out, minT_dn]
     obtain ⟨x1, ex1⟩ : ∃ x, x = xs.getD (0 * ii + k) 0 % p := ⟨_, rfl⟩
     obtain ⟨q, eq⟩ : ∃ q, q = x1 * d % p := ⟨_, rfl⟩
     have hqp : q < p := by rw [eq]; exact Nat.mod_lt _ (by omega)
     go_upto_region 16 with (fail)
     clear c0 KA2
     have bd := dw wr
     have hszx : gT ≤ wr.heap.size := by have := KT.lt; omega
     replace KT := KT.next bd; replace ho := ho.next bd
     replace B2 := B2.trans (bd.mono hszx)
     have hszx : gT ≤ wr.drew.heap.size := hszx
     clear bd
     have KA2 := KA.below B2 hgg
     have B4 := B1.trans (B2.mono (Nat.le_trans B1.size hgT2))
     have hat := Lib.hid (show ∀ w', Below wr.drew.heap.size wr.drew w' → Calls Try.prog 112 #[.agg #[.int .i64 ii, .int .i64 ii, .slice aA xs.length cA], .int .i64 0, .int .i64 k, .int .u64 p] w' (RetW w' (.int .u64 (x1 : Nat))) from fun w' hb => rf21_At _ ii ii 0 k p xs w' (by omega) (HA.out.next (HB0.out.trans ((B4.trans (hb.mono B4.size)).mono HB0.out.size))) (by omega) (by omega) (by omega) (at_lt HX.out (by omega) hkN) x1 ex1)
     have hdt := Lib.hid (show ∀ w', Below wr.drew.heap.size wr.drew w' → Calls Try.prog 59 #[.agg #[.int .i64 n, .int .i64 n, .slice ao zs.length kk], .int .u64 p] w' (RetW w' (.int .u64 (d : Nat))) from fun w' hb => by rw [ed]; exact IH.out _ zs w' ⟨_, rfl, (ho.next hb).sl⟩ hzl)
     have hmu := Lib.hid (show ∀ w' : World, Calls Try.prog 78 #[.int .u64 x1, .int .u64 d, .int .u64 p] w' (fun e w'' => e = .returned (.int .u64 (q : Nat)) ∧ Drawn w' w'') from fun w' => by rw [eq]; exact ref8_Mul x1 d p w' HP.out)
     rw [HN.out] at ex1
     have HE := Lib.hid (And.intro ex1 (And.intro hd2 eq))
     clear ex1 hd2 eq ed ezs ho hzl
     have z0 := Lib.hid fun (w : World) (hS : Below (wr.drew).heap.size (wr.drew) w) => And.intro ((KA2.at hS) 0) (And.intro ((KA2.at hS) 1) (And.intro ((KA2.at hS) 2) (And.intro ((KT.at hS) 0) (And.intro ((KT.at hS) 1) ((KT.at hS) 2)))))
     refine startL (S := (fun w' => Below (wr.drew).heap.size (wr.drew) w')) (by kernel_rfl) (Below.refl _ _) (fun hHeld => ?_)
     refine tf 0 z0.out ?_
     refine tk 1 ?_
     refine tk 2 ?_
     refine tf 4 z0.out ?_
     refine tk 5 ?_
     refine tk 7 ?_
     refine on 3 fun K hK => ?_
     go_simp
     go_at_call 112
     (refine (hat.out _ hHeld).mono ?_); rintro e w6 ⟨rfl, b6⟩
     refine hK.out _ _ (hHeld.trans (b6.mono hHeld.size)) (fun hHeld => ?_)
     clear hK K
     try simp only [Act.put, zq1, zq2, zq3]
     refine on 6 fun K hK => ?_
     go_simp
     go_at_call 59
     (refine (hdt.out _ hHeld).mono ?_); rintro e w7 ⟨rfl, b7⟩
     refine hK.out _ _ (hHeld.trans (b7.mono hHeld.size)) (fun hHeld => ?_)
     clear hK K
     try simp only [Act.put, zq1, zq2, zq3]
     refine on 8 fun K hK => ?_
     go_simp
     go_at_call 78
     (refine (hmu.out _).mono ?_); rintro e w8 ⟨rfl, q8⟩; have b8 := q8.below w7.heap.size; clear q8
     refine hK.out _ _ (hHeld.trans (b8.mono hHeld.size)) (fun hHeld => ?_)
     clear hK K
     try simp only [Act.put, zq1, zq2, zq3]
     refine tk 9 ?_
     clear z0; refine doneL (by kernel_rfl) ?_ _
     have B5 := B4.trans (hHeld.mono B4.size)
     clear KT KA2 B2 B4 hHeld hat hdt hmu hszx
     rcases Nat.mod_two_eq_zero_or_one k with hpar | hpar
     ·have hp0 : (k : Int).tmod 2 = 0 := (show (k : Int) % 2 = 0 by omega)
      have hp0' : (k : Int) % 2 = 0 := by omega
      obtain ⟨T9, eT9⟩ : ∃ t, t = q := ⟨_, rfl⟩
      subst eT9
      have HTV := Lib.hid (dt_even HP.out (by have := HN.out; omega) hpar HE.out.1 HE.out.2.1 HE.out.2.2)
      have hT9 : T9 < p := hqp
      have HT9 := Lib.hid (dt_add HP.out HO.out HTV.out)
      obtain ⟨s9, es9⟩ : ∃ s, s = out + T9 := ⟨_, rfl⟩
      have ha1 : IntKind.u64.wrap ((out : Int) + (T9 : Int)) = (s9 : Int) := by rw [es9, ← Int.natCast_add]; exact wrap_u64 _ (by omega)
      obtain ⟨o9, eo9⟩ : ∃ o, o = s9 % p := ⟨_, rfl⟩
      have ha2 : (s9 : Int).tmod (p : Int) = (o9 : Int) := by rw [eo9]; rfl
      have ha3 : (s9 : Int) % (p : Int) = (o9 : Int) := by rw [eo9]; rfl
      have HO9 := Lib.hid (show o9 = (sm (k + 1) (detG p n xs)).val by rw [eo9, es9]; exact HT9.out)
      clear es9 eo9
      go_wp2
      go_roundw
      case rel => exact ⟨k + 1, o9, by omega, by go_num, rfl, HO9.out, B5⟩
      case measure => simp [intOf] <;> omega
     ·have hp1' : (k : Int).tmod 2 = 1 := (show (k : Int) % 2 = 1 by omega)
      have hp1'' : (k : Int) % 2 = 1 := by omega
      obtain ⟨y9, ey9⟩ : ∃ y, y = p - q := ⟨_, rfl⟩
      have hb1 : IntKind.u64.wrap ((p : Int) - (q : Int)) = (y9 : Int) := by
       rw [show (p : Int) - (q : Int) = (y9 : Int) by omega]; exact wrap_u64 _ (by omega)
      obtain ⟨T9, eT9⟩ : ∃ t, t = y9 % p := ⟨_, rfl⟩
      have hb2 : (y9 : Int).tmod (p : Int) = (T9 : Int) := by rw [eT9]; rfl
      have hb3 : (y9 : Int) % (p : Int) = (T9 : Int) := by rw [eT9]; rfl
      have HTV := Lib.hid (dt_odd (t := T9) HP.out (by have := HN.out; omega) hpar HE.out.1 HE.out.2.1 HE.out.2.2 (by rw [eT9, ey9]))
      have hT9 : T9 < p := by rw [eT9]; exact Nat.mod_lt _ (by omega)
      clear ey9 eT9
      have HT9 := Lib.hid (dt_add HP.out HO.out HTV.out)
      obtain ⟨s9, es9⟩ : ∃ s, s = out + T9 := ⟨_, rfl⟩
      have ha1 : IntKind.u64.wrap ((out : Int) + (T9 : Int)) = (s9 : Int) := by rw [es9, ← Int.natCast_add]; exact wrap_u64 _ (by omega)
      obtain ⟨o9, eo9⟩ : ∃ o, o = s9 % p := ⟨_, rfl⟩
      have ha2 : (s9 : Int).tmod (p : Int) = (o9 : Int) := by rw [eo9]; rfl
      have ha3 : (s9 : Int) % (p : Int) = (o9 : Int) := by rw [eo9]; rfl
      have HO9 := Lib.hid (show o9 = (sm (k + 1) (detG p n xs)).val by rw [eo9, es9]; exact HT9.out)
      clear es9 eo9
      go_wp2
      go_roundw
      case rel => exact ⟨k + 1, o9, by omega, by go_num, rfl, HO9.out, B5⟩
      case measure => simp [intOf] <;> omega
  ·obtain rfl : k = N := by omega
   rw [HO.out]
   go_wp2
   go_ret
   exact ⟨rfl, HB0.out.trans (B1.mono HB0.out.size)⟩
theorem rf21_Det (p : Nat) (hp : FP p) : ∀ n : Nat, n ≤ 8 → ∀ (v : Value) (xs : List Nat) (w : World), Fm w v n n xs → xs.length = n * n → Calls Try.prog 59 #[v, .int .u64 p] w (RetW w (.int .u64 ((dn n (mx p n n xs).e).val : Nat)))
 | 0, _, v, xs, w, hA, hx => by
  clear hx
  obtain ⟨aA, cA, rfl⟩ := hA.agg
  obtain ⟨wb, ew, KA, B0, hsz⟩ := boxes1 w 63 [.int .i64 0, .int .i64 0, .slice aA xs.length cA]
  clear hsz
  have hp1 := hp.1
  have hz1 : ¬ p = 0 := by omega
  have hz2 : ¬ (p : Int) = 0 := by omega
  have hz0 : ((p : Int) == 0) = false := by simpa using (show p ≠ 0 by omega)
  have h1 : 1 % p = 1 := Nat.mod_eq_of_lt (by omega)
  have hr1 : (1 : Int).tmod (p : Int) = 1 := by rw [show (1 : Int).tmod (p : Int) = ((1 % p : Nat) : Int) from rfl, h1]; rfl
  have hr2 : (1 : Int) % (p : Int) = 1 := by rw [show (1 : Int) % (p : Int) = ((1 % p : Nat) : Int) from rfl, h1]; rfl
  have hv : ((dn 0 (mx p 0 0 xs).e : Zp p)).val = 1 := by
   show (1 : Zp p).val = 1
   rw [← Zp.of_one, Zp.val_of, show p - 1 + 1 = p by omega, h1]
  rw [hv]
  have c0 := KA.cell 0
  clear hA hv h1 hp1 hp
  go_enter Try.func59, Try.ntmps59
  go_upto_region 1 with (fail)
  rw [← ew]
  clear ew
  go_wp2
  go_ret
  exact ⟨rfl, B0⟩
 | n + 1, hn, v, xs, w, hA, hx => rf21_Det_step p n hp (by omega) (fun v xs w h1 h2 => rf21_Det p hp n (by omega) v xs w h1 h2) v xs w (n + 1) rfl hA hx
end Go.Proofs.Ytkmfhabgempjiaa
/- What comes in: matrices of words, opened. -/
namespace Go.Proofs.Ytkmfhabgempjiaa
set_option maxHeartbeats 4000000
open Go.ChangeShapes Go.WideShapes Go.ChangeAt Go.RowKit Go.Deep Go.Joins
section
variable {H : Type} {enc : TypeId × Value → H} {P : Program} {w : World} {base : Nat} {spare : Nat → Bool} {held : Bool}
theorem trod_words {t e : TypeId} {fuel : Nat} {v : Value} {x : DataW H × List MemPlace} (ht : P.underlying t = some (.slice e)) (he : P.underlying e = some (.int .u64)) (hc : P.cellsOf e = 1)
  (hf : DataW.trod enc P w base spare held fuel t [v] = some x) : ∃ xs, Sl .u64 w v xs ∧ wf W64 xs := by
 rcases open_ints ht he hc hf with ⟨hcs, _⟩ | ⟨x, l, c, zs, hcs, _, hl, hm, hz, _, hcell, hwz⟩
 ·simp at hcs
  subst hcs
  exact ⟨[], Sl.nil _ _, wf_nil _⟩
 ·simp at hcs
  subst hcs
  have hlz : l ≤ zs.length := by rw [hz]; split <;> omega
  have hlen : ((zs.take l).map Int.toNat).length = l := by simp; omega
  have hget : ∀ j, j < l → ((zs.take l).map Int.toNat).getD j 0 = (zs.getD j 0).toNat := by
   intro j hj
   simp [List.getD, hj]
   cases zs[j]? <;> rfl
  refine ⟨(zs.take l).map Int.toNat, ⟨some x, x.block, x.off, c, by rw [hlen], by rw [hlen]; exact hl, ?_, ?_⟩, ?_⟩
  ·intro hne
   have h0 : 0 < zs.length := by
    by_cases h : zs = []
    ·subst h; simp at hne
    ·exact List.length_pos_iff.2 h
   have := World.cell?_spot (hcell 0 h0)
   simp [Addr.add] at this
   obtain ⟨b, o, s⟩ := x
   simp at this; rw [this]
  ·intro j hj
   rw [hlen] at hj
   have hjz : j < zs.length := by omega
   have h1 := hcell j hjz
   have hwj := wf_u64_bounds (hwz (zs.getD j 0) (by simp [List.getD, List.getElem?_eq_getElem hjz]))
   rw [hget j hj]
   have e1 : (((zs.getD j 0).toNat : Nat) : Int) = zs.getD j 0 := by omega
   rw [e1, ← h1]
   congr 1
   have h0 : 0 < zs.length := by omega
   have := World.cell?_spot (hcell 0 h0)
   simp [Addr.add] at this
   obtain ⟨b, o, s⟩ := x
   simp at this; subst this
   unfold Addr.add; split
   ·rename_i h; subst h; rfl
   ·rfl
  ·intro y hy
   simp only [List.mem_map] at hy
   obtain ⟨z, hz1, rfl⟩ := hy
   have := wf_u64_bounds (hwz z (List.mem_of_mem_take hz1))
   unfold W64; omega
end
section
variable {H : Type} {enc : TypeId × Value → H} {w : World} {base : Nat} {spare : Nat → Bool} {held : Bool}
set_option maxRecDepth 100000 in
theorem open_fm {r : Reach} {b0 : Nat} {v : Value} {d : DataW H} {p : List MemPlace} (hv : Value.okWide Try.prog w r b0 63 v) (h : DataW.Trod enc Try.prog w base spare held 63 v d p) :
  ∃ (R C : Int) (xs : List Nat), Fm w v R C xs ∧ (-9223372036854775808 ≤ R ∧ R ≤ 9223372036854775807) ∧ (-9223372036854775808 ≤ C ∧ C ≤ 9223372036854775807) := by
 obtain ⟨v0, v1, v2, y0, y1, y2, n, rfl, -, -, h0, h1, h2⟩ := open_agg3 Try.underlying63 (by kernel_rfl) (by kernel_rfl) hv h
 obtain ⟨R, e0, -, w0⟩ := DataW.trod_int Try.underlying3 h0
 obtain ⟨C, e1, -, w1⟩ := DataW.trod_int Try.underlying3 h1
 obtain ⟨xs, hxs, -⟩ := trod_words Try.underlying41 Try.underlying27 (by kernel_rfl) h2
 simp at e0 e1; subst e0 e1
 exact ⟨R, C, xs, ⟨v2, rfl, hxs⟩, wf_i64_bounds w0, wf_i64_bounds w1⟩
end
end Go.Proofs.Ytkmfhabgempjiaa
/- hess: Eval. -/
namespace Go.Proofs.Ytkmfhabgempjiaa
set_option maxHeartbeats 4000000
open Go.RowKit
theorem rowOwn_ne' {w : World} {base : Nat} {e e' : TypeId} {size n b : Nat} {v : Value} {xs vals : List Value} (h : w.ownsRow base e size v n xs) (hb : Blk e' w b vals) (he : e ≠ e') : v.ownBlock ≠ some b := rowOwn_ne h hb he
theorem Own.off {w : World} {base : Nat} {v : Value} {xs : List Nat} (h : Own .u64 27 w base v xs) {g : Nat} {vals : List Value} (hb : Blk 63 w g vals) (i : Nat) (u : Value) : Own .u64 27 (w.setCell ⟨g, i, none⟩ u) base v xs :=
 ownsRow_setCell_other h (rowOwn_ne' h hb (by decide)) u
end Go.Proofs.Ytkmfhabgempjiaa
