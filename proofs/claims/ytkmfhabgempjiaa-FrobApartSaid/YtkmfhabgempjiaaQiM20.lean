/- Layer 25: Blocks: Frobenius' form of monic polynomials. -/
import Derived.Test.YtkmfhabgempjiaaQiM19
import Derived.Test.YtkmfhabgempjiaaQiM7
import Derived.Test.YtkmfhabgempjiaaQiM9
import Derived.Test.YtkmfhabgempjiaaQiM2
import Derived.Test.YtkmfhabgempjiaaQiM8
import Derived.Test.YtkmfhabgempjiaaQiM18
namespace Go.Proofs.Ytkmfhabgempjiaa
set_option maxHeartbeats 4000000
open Go.RowKit
section
open CR
theorem iv_one {p : Nat} (tr : Trial p) : (1 : Zp p).iv = 1 := by
 have h := Zp.iv_mul tr (Zp.one_ne tr)
 rwa [mul_one] at h
end
theorem Own.cells_from {w : World} {base g n cap : Nat} {xs : List Nat} (h : Own .u64 27 w base (.slice (some ⟨g, 0, none⟩) n cap) xs) (o m : Nat) (hm : o + m ≤ xs.length) (j : Nat) (u : Value) (hj : (vs .u64 ((xs.drop o).take m))[j]? = some u) : w.cell? ((⟨g, o, none⟩ : Addr).add j) = some u := by
 have hl : j < m := by
  have := (List.getElem?_eq_some_iff.1 hj).1; rw [vs_length, List.length_take, List.length_drop] at this; omega
 have e : (⟨g, o, none⟩ : Addr).add j = ⟨g, o + j, none⟩ := by
  unfold Addr.add; split
  ·rename_i h; subst h; rfl
  ·rfl
 rw [e, h.cellAt (o + j) (by omega)]
 unfold vs at hj
 simp only [List.getElem?_map, List.getElem?_take, hl, if_true, List.getElem?_drop, List.getElem?_eq_getElem (show o + j < xs.length by omega), Option.map_some, Option.some.injEq] at hj
 rw [← hj]; simp [List.getD, show o + j < xs.length by omega]
theorem getD_seg {xs : List Nat} {o m t : Nat} (h : t < m) : ((xs.drop o).take m).getD t 0 = xs.getD (o + t) 0 := by
 simp only [List.getD, List.getElem?_take, h, if_true, List.getElem?_drop]
def BlR (p N NN : Nat) (F : Nat → Nat → Zp p) (we wr : World) (gE gM s : Nat) : Prop :=
 Blk 63 wr gM [.int .i64 N, .int .i64 N, .slice (some ⟨gE, 0, none⟩) NN NN] ∧ Own .u64 27 wr gE (.slice (some ⟨gE, 0, none⟩) NN NN) (blr N F s) ∧ Below gE we wr
set_option maxRecDepth 20000 in
theorem fb_Blocks (p N : Nat) (lv : Value) (qs : List (List Nat)) (w : World) (hp : FP p) (tr : Trial p) (hl : Ns w lv qs) (hq : ∀ j, j < qs.length → 1 < (nl p (qs.getD j [])).length ∧ (nl p (qs.getD j [])).getD ((nl p (qs.getD j [])).length - 1) 0 = 1 ∧ (qs.getD j []).length ≤ 60) (hN : bdm (bls p qs) = N) (h64 : N ≤ 64) :
  Calls Try.prog 44 #[.agg #[.int .u64 p], lv] w (RetFE p w N N (MT.of N N (fmE (bls p qs)))) := by
 obtain ⟨M, eM⟩ : ∃ M, M = qs.length := ⟨_, rfl⟩
 obtain ⟨az, cz, rfl⟩ : ∃ az cz, lv = .slice az M cz := by
  obtain ⟨ao, b, off, cap, U, e, -⟩ := hl; rw [eM]; exact ⟨ao, cap, e⟩
 obtain ⟨wb, ew, KF, KR, B0, hsz⟩ := boxes2 w 29 63 [.int .u64 p] [.int .i64 0, .int .i64 0, .slice none 0 0]
 clear hsz
 replace hl := hl.next B0
 obtain ⟨L, eL⟩ : ∃ L, L = bls p qs := ⟨_, rfl⟩
 rw [← eL] at hN ⊢
 have hLM : L.length = M := by rw [eL, eM, bls_length]
 obtain ⟨D, eD⟩ : ∃ D : Nat → Nat, D = fun j => (nl p (qs.getD j [])).length - 1 := ⟨_, rfl⟩
 have hD : ∀ j, j < M → (nl p (qs.getD j [])).length = D j + 1 ∧ (nl p (qs.getD j [])).getD (D j) 0 = 1 ∧ (qs.getD j []).length ≤ 60 ∧ 1 ≤ D j ∧ bdm (L.take (j + 1)) = bdm (L.take j) + D j ∧ bdm (L.take j) + D j ≤ N := fun j hj => by
  obtain ⟨h1, h2, h3⟩ := hq j (by omega)
  have h4 : D j = (nl p (qs.getD j [])).length - 1 := by rw [eD]
  have hjL : j < L.length := by omega
  have h5 : (L[j]).1 = D j := by subst eL; rw [h4]; exact (bls_get qs j hjL).1
  have h6 := bdm_take L j hjL
  have h7 := bdm_le L (j + 1)
  refine ⟨by omega, by rw [h4]; exact h2, h3, by omega, by omega, by omega⟩
 have hF : ∀ j, j < M → ∀ i, i < D j → ∀ k, k < N → fmE L (bdm (L.take j) + i) k = if bdm (L.take j) ≤ k ∧ k < bdm (L.take j) + D j then (cmp p (D j) (nl p (qs.getD j []))).e i (k - bdm (L.take j)) else 0 := fun j hj i hi k hk => by
  have hjL : j < L.length := by omega
  have h5 : (L[j]).1 = D j := by subst eL; rw [eD]; exact (bls_get qs j hjL).1
  have h6 : (L[j]).2.1 = fun i => (pl p (qs.getD j [])).c i := by subst eL; exact (bls_get qs j hjL).2
  rw [fmE_at L j hjL i k (by rw [h5]; exact hi), h5, h6]
  by_cases hc : bdm (L.take j) ≤ k ∧ k < bdm (L.take j) + D j
  ·rw [if_pos hc, if_pos hc, cmp_cmpE (D j) (qs.getD j []) hi (by omega)]
  ·rw [if_neg hc, if_neg hc]
 have hMN : M ≤ N := by
  have := bdm_ge L fun j hj => by
   have h1 := hD j (by omega)
   have h5 : (L[j]).1 = D j := by subst eL; rw [eD]; exact (bls_get qs j hj).1
   omega
  omega
 have hQL : M ≤ qs.length := by omega
 have HNS := Lib.hid hl; have HP := Lib.hid hp; have HT := Lib.hid tr; have HLM := Lib.hid hLM; have HN := Lib.hid hN; have HD := Lib.hid hD; have HF := Lib.hid hF; have HQL := Lib.hid eM
 clear hp tr hl hLM hN hD hF hq eM eL eD hQL
 go_enter Try.func44, Try.ntmps44
 go_upto_region 1 with (fail)
 rw [← ew]
 obtain ⟨g, eg⟩ : ∃ g, g = w.heap.size + 1 := ⟨_, rfl⟩
 rw [← eg] at KR ⊢
 have hgw : w.heap.size ≤ g := by omega
 clear ew eg
 have HKF := Lib.hid KF; have HKR := Lib.hid KR; have HB0 := Lib.hid B0
 have hgb : g < wb.heap.size := KR.lt
 clear KF KR B0
 go_wp2
 go_loopw [6, 22] (fun nv jv wr => ∃ i s : Nat, i ≤ M ∧ jv = .int .i64 i ∧ nv = .int .i64 s ∧ RowKit.Hid (s = bdm (L.take i)) ∧ Below wb.heap.size wb wr) (fun _ jv _ => M - (intOf jv).toNat)
 case atStart => exact ⟨0, 0, by omega, rfl, rfl, Lib.hid rfl, Below.refl _ _⟩
 case round =>
  obtain ⟨i, s, hi, rfl, rfl, HS, B1⟩ := hrel
  by_cases him : i < M
  ·obtain ⟨hd1, hd2, hd3, hd4, hd5, hd6⟩ := HD.out i him
   have nz := HNS.out.next B1
   obtain ⟨az', bz, oz, cz', UZ, ez, -, hz1, hz2⟩ := nz
   simp only [Value.slice.injEq] at ez
   obtain ⟨rfl, -, rfl⟩ := ez
   obtain ⟨rfl, lz⟩ := hz1 (by rw [← HQL.out]; omega)
   obtain ⟨qz, sz, -⟩ := hz2 i (by rw [← HQL.out]; exact him)
   obtain ⟨q, eq⟩ : ∃ q, q = qs.getD i [] := ⟨_, rfl⟩
   rw [← eq] at sz hd1 hd2 hd3
   obtain ⟨ak, ck, euk⟩ : ∃ ao c, UZ i = .slice ao q.length c := by
    obtain ⟨a', b', o', c', e', -⟩ := sz; exact ⟨a', c', e'⟩
   rw [euk] at qz sz
   obtain ⟨z, ez⟩ : ∃ z, z = nl p q := ⟨_, rfl⟩
   rw [← ez] at hd1 hd2
   obtain ⟨d, ed⟩ : ∃ d, d = D i := ⟨_, rfl⟩
   rw [← ed] at hd1 hd2 hd4 hd5 hd6
   have HZ := Lib.hid ez; have HZL := Lib.hid hd1; have HZ1 := Lib.hid hd2; have HS2 := Lib.hid hd5
   have hs64 : s + d ≤ 64 := by have := HS.out; omega
   have hzd : (z.length : Int) - 1 = (d : Int) := by omega
   have KF := HKF.out.next B1
   have f0 := KF.cell 0
   clear hz1 hz2 euk eq ez hd1 hd2 hd5 hd6 ed
   go_wp2_with fail
   refine (fp_Degree p _ q z _ HP.out sz (by omega) HZ.out).mono ?_; rintro e w2 ⟨rfl, b2⟩
   rw [hzd]
   have t1 : decide ((d : Int) < 1) = false := by simp; omega
   have hws : IntKind.i64.wrap ((s : Int) + (d : Int)) = ((s + d : Nat) : Int) := by rw [IntWalk.i64_in _ ⟨by omega, by omega⟩]; omega
   replace KF := KF.next b2; replace sz := sz.next b2
   have B2 := B1.trans (b2.mono B1.size)
   clear f0 qz lz hzd b2 B1
   go_upto_region 7 with (fail)
   have bd := dw w2
   replace KF := KF.next bd; replace sz := sz.next bd
   replace B2 := B2.trans (bd.mono B2.size)
   clear bd
   have zF0 := Lib.hid fun (w : World) (hS : Below (w2.drew).heap.size (w2.drew) w) => (KF.at hS) 0
   refine startL (S := (fun w' => Below (w2.drew).heap.size (w2.drew) w')) (by kernel_rfl) (Below.refl _ _) (fun hHeld => ?_)
   refine tk 0 ?_
   refine tk 1 ?_
   refine tk 2 ?_
   refine tf 3 zF0.out ?_
   refine tk 4 ?_
   refine tf 6 zF0.out ?_
   refine tk 7 ?_
   refine on 5 fun K hK => ?_
   go_simp
   go_at_call 80
   (with_reducible refine (fp_Norm p _ q _ HP.out (sz.next hHeld) (by omega)).mono ?_); rintro e y1 ⟨r1, z1, rfl, o1, n1, v1, l1, c1⟩
   obtain ⟨a1, k1, rfl⟩ := o1.sliced
   obtain rfl : z1 = z := by rw [HZ.out]; exact nl_is HP.out.pos n1 v1
   clear n1 v1 l1
   refine hK.out _ _ (hHeld.trans (c1.mono hHeld.size)) (fun hHeld => ?_)
   clear hK K
   try simp only [Act.put, zq1, zq2, zq3]
   refine on 8 fun K hK => ?_
   go_simp
   go_at_call 98
   (with_reducible refine (fp_Monic p (1 : Zp p).val _ q z1 _ HP.out (sz.next hHeld) (by omega) HZ.out (by rw [HZL.out, Nat.add_sub_cancel, HZ1.out, Zp.of_one, iv_one HT.out])).mono ?_); rintro e y2 ⟨r2, z2, rfl, o2, n2, v2, l2, c2⟩
   obtain ⟨a2, k2, rfl⟩ := o2.sliced
   obtain rfl : z2 = z1 := by
    rw [HZ.out]; refine nl_is HP.out.pos n2 (v2.trans ?_)
    rw [Zp.of_val, show (mon (1 : Zp p) 0 : Pol (Zp p)) = 1 from rfl, CR.mul_one]
   replace o1 := o1.next c2
   clear n2 v2 l2
   refine hK.out _ _ (hHeld.trans (c2.mono hHeld.size)) (fun hHeld => ?_)
   clear hK K
   try simp only [Act.put, zq1, zq2, zq3]
   refine on 9 fun K hK => ?_
   go_simp
   go_at_call 97
   (with_reducible refine (slices_Equal _ _ z2 z2 true _ o1.sl o2.sl (by have := HZL.out; omega) (by have := HZL.out; omega) (by simp)).mono ?_); rintro e y3 ⟨rfl, q4⟩
   refine hK.out _ _ (hHeld.trans ((q4.below _).mono hHeld.size)) (fun hHeld => ?_)
   clear hK K
   try simp only [Act.put, zq1, zq2, zq3]
   refine tk 10 ?_
   refine tk 11 ?_
   clear zF0; refine doneL (by kernel_rfl) ?_ _
   replace B2 := B2.trans (hHeld.mono B2.size)
   clear hHeld KF sz t1
   go_wp2
   go_roundw
   case rel => exact ⟨i + 1, s + d, by omega, by go_num, by go_num, Lib.hid (by rw [HS2.out, ← HS.out]), B2⟩
   case measure => simp [intOf] <;> omega
  ·obtain rfl : M = i := by omega
   obtain rfl : N = s := by
    have h1 := HS.out
    rw [← HLM.out, List.take_length] at h1
    have := HN.out; omega
   have t2 : decide ((64 : Int) < (N : Int)) = false := by simp; omega
   obtain ⟨LF, eLF⟩ : ∃ LF : Nat → List Nat, LF = fun j => tbv (cmp p (D j) (nl p (qs.getD j []))) := ⟨_, rfl⟩
   have HLF := Lib.hid (show ∀ j, LF j = tbv (cmp p (D j) (nl p (qs.getD j []))) from fun j => by rw [eLF])
   clear eLF HS
   go_wp2
   clear t2
   go_loopw [7, 51] (fun av jv wr => ∃ (i : Nat) (S : Nat → Value), i ≤ M ∧ jv = .int .i64 i ∧ Mls wr wb.heap.size av i D D S LF ∧ Below wb.heap.size wb wr) (fun _ jv _ => M - (intOf jv).toNat)
   case atStart => exact ⟨0, _, by omega, rfl, Mls.nil _ _ _ _ (fun _ => .slice none 0 0) _, B1⟩
   case round =>
    clear B1
    obtain ⟨i, S, hi, rfl, ML, B1⟩ := hrel
    by_cases him : i < M
    ·obtain ⟨hd1, hd2, hd3, hd4, hd5, hd6⟩ := HD.out i him
     have hlf := HLF.out i
     have nz := HNS.out.next B1
     obtain ⟨az', bz, oz, cz', UZ, ez, -, hz1, hz2⟩ := nz
     simp only [Value.slice.injEq] at ez
     obtain ⟨rfl, -, rfl⟩ := ez
     obtain ⟨rfl, lz⟩ := hz1 (by rw [← HQL.out]; omega)
     obtain ⟨qz, sz, -⟩ := hz2 i (by rw [← HQL.out]; exact him)
     obtain ⟨q, eq⟩ : ∃ q, q = qs.getD i [] := ⟨_, rfl⟩
     rw [← eq] at sz hd1 hd2 hd3
     obtain ⟨ak, ck, euk⟩ : ∃ ao c, UZ i = .slice ao q.length c := by
      obtain ⟨a', b', o', c', e', -⟩ := sz; exact ⟨a', c', e'⟩
     rw [euk] at qz sz
     obtain ⟨z, ez⟩ : ∃ z, z = nl p q := ⟨_, rfl⟩
     rw [← eq, ← ez] at hlf
     rw [← ez] at hd1 hd2
     obtain ⟨d, ed⟩ : ∃ d, d = D i := ⟨_, rfl⟩
     rw [← ed] at hd1 hd2 hd4 hd5 hd6 hlf
     have KF := HKF.out.next B1
     have f0 := KF.cell 0
     have HED := Lib.hid ed
     have HZ := Lib.hid ez; have HZL := Lib.hid hd1; have HZ1 := Lib.hid hd2
     clear hz1 hz2 euk eq hd5 ed ez hd1 hd2
     go_wp2_with fail
     refine (hs_Companion p _ q z d _ HP.out sz (by omega) HZ.out HZL.out HZ1.out).mono ?_; rintro e w2 ⟨aC, kC, rfl, oC, b2⟩
     rw [← hlf] at oC
     rw [← hlf]
     obtain ⟨xc, exc⟩ : ∃ xc, xc = LF i := ⟨_, rfl⟩
     rw [← exc] at oC ⊢
     have HXC := Lib.hid exc
     obtain ⟨w3, e3, K13, b3, hs3⟩ := boxes1 w2 63 [.int .i64 d, .int .i64 d, .slice aC xc.length kC]
     have hbw := B1.size
     replace ML := (ML.next b2).next b3; replace oC := oC.next b3
     have B2 := B1.trans (b2.mono B1.size)
     replace B2 := B2.trans (b3.mono B2.size)
     clear f0 qz lz KF sz exc hs3 b2 b3 B1 hlf
     go_upto_region 17 with (fail)
     rw [← e3]
     clear e3
     have k0 := K13.cell 0; have k1 := K13.cell 1; have k2 := K13.cell 2
     have hbz := B2.size
     go_upto_region 20 with (at_builtin; refine apSl 125 63 3 40 (.agg #[.int .i64 0, .int .i64 0, .slice none 0 0]) Try.underlying125 (by kernel_rfl) (by decide) rfl (by decide) rfl _ _ rfl w3 wb.heap.size u7 i (rowL (i * 3) (mcs D D S)) [.int .i64 d, .int .i64 d, .slice aC xc.length kC] rfl (by intro u hu; simp at hu; rcases hu with rfl | rfl | rfl <;> rfl) ML.own (by omega) hbz rfl rfl ?_; intro g5 c5 w5 ho5 hb5 hg5 _)
     have ML5 := ML.push hg5 ho5 oC hbw
     have B5 := B2.trans hb5
     have FIN := Lib.hid (ML5.congr (R' := D) (C' := D) (L' := LF) fun j hj => ⟨by
      by_cases e : j = i
      ·rw [if_pos e, e, HED.out]
      ·rw [if_neg e], by
      by_cases e : j = i
      ·rw [if_pos e, e, HED.out]
      ·rw [if_neg e], rfl, by
      by_cases e : j = i
      ·rw [if_pos e, e, HXC.out]
      ·rw [if_neg e]⟩)
     clear ML5 ho5 hb5 hg5 ML oC K13 k0 k1 k2 B2
     go_wp2
     go_roundw
     case rel => exact ⟨i + 1, _, by omega, by go_num, FIN.out, B5⟩
     case measure => simp [intOf] <;> omega
    ·obtain rfl : M = i := by omega
     obtain ⟨NN, eNN⟩ : ∃ NN, NN = N * N := ⟨_, rfl⟩
     have hNN : NN ≤ 4096 := by rw [eNN]; exact Nat.mul_le_mul h64 h64
     have hwN : IntKind.i64.wrap ((N : Int) * (N : Int)) = (NN : Int) := by rw [eNN, ← Int.natCast_mul]; exact IntWalk.i64_in _ ⟨by omega, by omega⟩
     have HNN := Lib.hid eNN
     clear eNN
     obtain ⟨aL, cL, rfl⟩ := ML.shape
     obtain ⟨we, rfl⟩ : ∃ wo : World, wo = wr := ⟨_, rfl⟩
     go_upto_region 22 with (at_make; refine wp_make .u64 41 27 8 Try.underlying41 (by kernel_rfl) (by decide) rfl _ _ rfl .i64 .i64 NN (by omega) _ _ _ rfl rfl (by omega) (by omega) ?_; intro w3 hq hbel hsz)
     obtain ⟨w4, e4, KM, b4, hs4⟩ := boxes1 w3 63 [.int .i64 N, .int .i64 N, .slice (some ⟨we.heap.size, 0, none⟩) NN NN]
     rw [← e4]
     obtain ⟨gE, egE⟩ : ∃ g, g = we.heap.size := ⟨_, rfl⟩
     obtain ⟨gM, egM⟩ : ∃ g, g = w3.heap.size := ⟨_, rfl⟩
     have hEM : gE < gM := by omega
     have hbE : wb.heap.size ≤ gE := by rw [egE]; exact B1.size
     have HGE := Lib.hid egE
     rw [← egE] at hq hbel KM ⊢
     rw [← egM] at KM ⊢
     have st : BlR p N NN (fmE L) we w4 gE gM 0 := ⟨KM, by rw [← blr_zero, ← HNN.out]; exact hq.next b4, hbel.trans (b4.mono (by omega))⟩
     have HML := Lib.hid ML; have HB1 := Lib.hid B1
     clear e4 KM b4 hs4 egE egM hq hbel hsz ML B1 hwN
     go_wp2
     go_loopw [16, 79] (fun sv jv wr => ∃ j s : Nat, j ≤ M ∧ jv = .int .i64 j ∧ sv = .int .i64 s ∧ RowKit.Hid (s = bdm (L.take j)) ∧ BlR p N NN (fmE L) we wr gE gM s) (fun _ jv _ => M - (intOf jv).toNat)
     case atStart => exact ⟨0, 0, by omega, rfl, rfl, Lib.hid rfl, st⟩
     case round =>
      clear st
      obtain ⟨j, s, hj, rfl, rfl, HS, KM, ho, B2⟩ := hrel
      by_cases hjM : j < M
      ·obtain ⟨hd1, hd2, hd3, hd4, hd5, hd6⟩ := HD.out j hjM
       have ML := HML.out.next (by rw [← HGE.out]; exact B2)
       obtain ⟨gc, rfl⟩ : ∃ g, aL = some ⟨g, 0, none⟩ := by
        rcases ML.own.2 with ⟨h1, h2⟩ | ⟨g', c', cur, h1, -⟩
        ·omega
        ·simp only [Value.slice.injEq] at h1; exact ⟨g', h1.1⟩
       obtain ⟨aS, cS, eS, oS⟩ := ML.el j hjM
       obtain ⟨d, ed⟩ : ∃ d, d = D j := ⟨_, rfl⟩
       obtain ⟨xc, exc⟩ : ∃ xc, xc = LF j := ⟨_, rfl⟩
       have hF := HF.out j hjM
       have hlx : xc.length = d * d := by rw [exc, HLF.out j, tbv_length, ed]
       have hxe : ∀ i k, i < d → k < d → xc.getD (i * d + k) 0 = ((cmp p d (nl p (qs.getD j []))).e i k).val := fun i k hi hk => by rw [exc, HLF.out j, ← ed]; exact tbv_get _ hi hk
       obtain ⟨aS', cS', eS', oS'⟩ := HML.out.el j hjM
       have q0 : wr.cell? ⟨gc, j * 3, none⟩ = some (.int .i64 (d : Int)) := by rw [ed]; exact (ML.cells hjM).1
       have q1 : wr.cell? ⟨gc, j * 3 + 1, none⟩ = some (.int .i64 (d : Int)) := by rw [ed]; exact (ML.cells hjM).2.1
       have q2 := (ML.cells hjM).2.2
       rw [← exc] at eS oS
       rw [eS] at q2 oS
       rw [hlx] at q2 oS
       rw [← HS.out, ← ed] at hd5 hd6 hF
       have hdd : d * d ≤ 4096 := Nat.mul_le_mul (show d ≤ 64 by omega) (show d ≤ 64 by omega)
       have hd1 : 1 ≤ d := by omega
       obtain ⟨gS, rfl⟩ : ∃ g, aS = some ⟨g, 0, none⟩ := by
        rcases oS.shape with ⟨h1, h2⟩ | ⟨g', c', h1, -⟩
        ·have := congrArg List.length h2; rw [hlx] at this
         have := Nat.mul_pos hd1 hd1
         simp at *; omega
        ·simp only [Value.slice.injEq] at h1; exact ⟨g', h1.1⟩
       obtain ⟨dd, edd⟩ : ∃ dd, dd = d * d := ⟨_, rfl⟩
       rw [← edd] at q2 oS hdd
       have hos : Own .u64 27 we wb.heap.size (.slice (some ⟨gS, 0, none⟩) dd cS) xc := by rw [← exc, eS, hlx, ← edd] at oS'; exact oS'
       have HOS := Lib.hid hos
       have HF2 := Lib.hid hF; have HLX := Lib.hid hlx; have HXE := Lib.hid hxe; have HDD := Lib.hid edd; have HS2 := Lib.hid hd5
       obtain ⟨w5, e5, K18, b5, hs5⟩ := boxes1 wr 63 [.int .i64 d, .int .i64 d, .slice (some ⟨gS, 0, none⟩) dd cS]
       have hgM5 := KM.lt
       have hMr : gM < wr.heap.size := KM.lt
       replace KM := KM.next b5; replace ho := ho.next b5
       have B3 := B2.trans (b5.mono (by omega))
       clear hd2 hd3 hd4 hd5 hF hlx hxe exc edd ed eS ML B2 b5 hs5 oS oS' eS' hos
       go_upto_region 26 with (fail)
       rw [← e5]
       clear e5 q0 q1 q2
       obtain ⟨g18, eg18⟩ : ∃ g, g = wr.heap.size := ⟨_, rfl⟩
       rw [← eg18] at K18 hMr ⊢
       clear eg18
       have k0 := K18.cell 0
       have st : BlR p N NN (fmE L) we w5 gE gM (s + 0) := ⟨KM, ho, B3⟩
       clear KM ho B3
       go_wp2
       clear k0
       go_loopw [85] (fun iv wr => ∃ i : Nat, i ≤ d ∧ iv = .int .i64 i ∧ BlR p N NN (fmE L) we wr gE gM (s + i) ∧ Blk 63 wr g18 [.int .i64 d, .int .i64 d, .slice (some ⟨gS, 0, none⟩) dd cS]) (fun iv _ => d - (intOf iv).toNat)
       case atStart => exact ⟨0, by omega, rfl, st, K18⟩
       case round =>
        clear st K18
        obtain ⟨i, hi, rfl, ⟨KM, ho, B2⟩, K18⟩ := hrel
        by_cases hid : i < d
        ·have oS := HOS.out.next (by rw [← HGE.out]; exact B2)
         obtain ⟨r, er⟩ : ∃ r, r = s + i := ⟨_, rfl⟩
         rw [← er] at ho
         have hrN : r < N := by omega
         have hrr : r * N + N ≤ NN := by
          have := Nat.mul_le_mul_right N (show r + 1 ≤ N by omega); rw [Nat.succ_mul] at this; rw [HNN.out]; exact this
         obtain ⟨rN, erN⟩ : ∃ x, x = r * N := ⟨_, rfl⟩
         obtain ⟨lo, elo⟩ : ∃ x, x = rN + s := ⟨_, rfl⟩
         have hii : i * d + d ≤ dd := by
          have := Nat.mul_le_mul_right d (show i + 1 ≤ d by omega); rw [Nat.succ_mul] at this; rw [HDD.out]; exact this
         obtain ⟨l1, el1⟩ : ∃ x, x = i * d := ⟨_, rfl⟩
         obtain ⟨l2, el2⟩ : ∃ x, x = (i + 1) * d := ⟨_, rfl⟩
         rw [← el1] at hii
         rw [← erN] at hrr
         have hl2 : l2 = l1 + d := by rw [el2, el1, Nat.succ_mul]
         have hl2' : (i + 1 : Nat) ≤ 64 := by omega
         have a1 : IntKind.i64.wrap ((s : Int) + (i : Int)) = (r : Int) := by rw [er, ← Int.natCast_add]; exact IntWalk.i64_in _ ⟨by omega, by omega⟩
         have a2 : IntKind.i64.wrap ((r : Int) * (N : Int)) = (rN : Int) := by rw [erN, ← Int.natCast_mul]; exact IntWalk.i64_in _ ⟨by omega, by omega⟩
         have a3 : IntKind.i64.wrap ((rN : Int) + (s : Int)) = (lo : Int) := by rw [elo, ← Int.natCast_add]; exact IntWalk.i64_in _ ⟨by omega, by omega⟩
         have a4 : IntKind.i64.wrap ((i : Int) * (d : Int)) = (l1 : Int) := by rw [el1, ← Int.natCast_mul]; exact IntWalk.i64_in _ ⟨by omega, by omega⟩
         obtain ⟨i1, ei1⟩ : ∃ x, x = i + 1 := ⟨_, rfl⟩
         have a5 : IntKind.i64.wrap ((i : Int) + 1) = (i1 : Int) := by rw [IntWalk.i64_in _ ⟨by omega, by omega⟩]; omega
         have a6 : IntKind.i64.wrap ((i1 : Int) * (d : Int)) = (l2 : Int) := by
          have e6 : (i1 : Int) * (d : Int) = (l2 : Int) := by rw [el2, ei1, Int.natCast_mul]
          rw [e6]; exact IntWalk.i64_in _ ⟨by omega, by omega⟩
         have c1 : (lo : Int) ≤ (NN : Int) := by omega
         have c2 : (l2 : Int) ≤ (dd : Int) := by omega
         have c3 : (l1 : Int) ≤ (l2 : Int) := by omega
         have ER := Lib.hid er; have ERN := Lib.hid erN; have ELO := Lib.hid elo; have EL1 := Lib.hid el1; have HL2 := Lib.hid hl2; have EI1 := Lib.hid ei1
         have hlN : lo + d ≤ NN := by omega
         have hcS : dd ≤ cS := by
          rcases oS.2 with ⟨h1, -⟩ | ⟨g', c', cur, h1, -, -, h2, -⟩
          ·simp at h1
          ·simp only [Value.slice.injEq] at h1; have := HLX.out; have := HDD.out; omega
         have n1 : ¬ (NN = lo) := by omega
         have n2 : ¬ (cS = l1) := by omega
         have n3 : l2 ≤ cS := by omega
         have n4 : l1 ≤ l2 := by omega
         have n5 : lo ≤ NN := by omega
         clear er erN elo el1 el2 hl2 ei1
         go_upto_region 29 with (fail)
         have bd := dw wr
         replace KM := KM.next bd; replace ho := ho.next bd; replace K18 := K18.next bd; replace oS := oS.next bd
         replace B2 := B2.trans (bd.mono (by rw [HGE.out]; exact B2.size))
         clear bd
         have zF0 := Lib.hid fun (w : World) (hS : Below (wr.drew).heap.size (wr.drew) w) => And.intro ((KM.at hS) 2) (And.intro ((K18.at hS) 1) ((K18.at hS) 2))
         refine startP (S := (fun w' => Below (wr.drew).heap.size (wr.drew) w')) (by kernel_rfl) _ rfl rfl rfl (by kernel_rfl) (Below.refl _ _) (fun hHeld => ?_)
         refine tk 0 ?_
         refine tf 1 zF0.out ?_
         refine tk 2 ?_
         refine tk 3 ?_
         refine tk 4 ?_
         refine tk 5 ?_
         refine tk 6 ?_
         refine tk 7 ?_
         refine tk 8 ?_
         refine tk 9 ?_
         refine tk 10 ?_
         refine tf 11 zF0.out ?_
         refine tk 12 ?_
         refine tk 13 ?_
         refine tf 14 zF0.out ?_
         refine tk 15 ?_
         refine tk 16 ?_
         refine tk 17 ?_
         refine tk 18 ?_
         refine tf 19 zF0.out ?_
         refine tk 20 ?_
         refine tk 21 ?_
         clear zF0; refine doneL (by kernel_rfl) ?_ _
         refine lastL rfl (by rfl) ?_
         have hld : l2 - l1 = d := by have := HL2.out; omega
         have hyl : ((xc.drop l1).take d).length = d := by rw [List.length_take, List.length_drop]; have := HLX.out; have := HDD.out; omega
         refine cpO 41 27 Try.underlying41 (by kernel_rfl) _ _ rfl wr.drew gE gE NN NN lo (NN - lo) (NN - lo) (blr N (fmE L) r) ho ⟨gS, l1, none⟩ (l2 - l1) (cS - l1) ((xc.drop l1).take d) rfl rfl (by rw [hyl, hld]) (by rw [hld]; omega) (by rw [hld, blr_length, ← HNN.out]; omega) (fun j u hj => oS.cells_from l1 d (by have := HLX.out; have := HDD.out; omega) j u hj) ?_
         intro w6 ho6 hg6
         rw [hld] at ho6 ⊢
         have hstep : (blr N (fmE L) r).take lo ++ (xc.drop l1).take d ++ (blr N (fmE L) r).drop (lo + d) = blr N (fmE L) (r + 1) := by
          have hF9 : ∀ k, k < N → (fmE L r k).val = if s ≤ k ∧ k < s + d then ((xc.drop l1).take d).getD (k - s) 0 else 0 := fun k hk => by
           rw [ER.out, HF2.out i hid k hk]
           by_cases hc : s ≤ k ∧ k < s + d
           ·rw [if_pos hc, if_pos hc, getD_seg (by omega), EL1.out, HXE.out i (k - s) hid (by omega)]
           ·rw [if_neg hc, if_neg hc, Zp.zero_val]
          rw [ELO.out, ERN.out]
          exact blr_step hrN hd6 hyl hF9
         rw [hstep] at ho6
         have KM6 := KM.chg (Chg.grown hg6) (by intro h; simp only [Option.some.injEq] at h; omega)
         have K6 := K18.chg (Chg.grown hg6) (by intro h; simp only [Option.some.injEq] at h; omega)
         have B6 := B2.trans ((Chg.grown hg6).below (B := gE) (fun i _ h => by simp only [Option.some.injEq] at h; omega) (by rw [HGE.out]; exact B2.size))
         have FIN := Lib.hid (show BlR p N NN (fmE L) we w6 gE gM (s + (i + 1)) from ⟨KM6, by rw [show s + (i + 1) = r + 1 by rw [ER.out]; rfl]; exact ho6, B6⟩)
         clear KM6 ho6 B6 hg6 KM K18 ho oS B2 hHeld hstep a1 a2 a3 a4 a5 a6 c1 c2 c3 n1 n2 n3 n4 n5 hld hyl
         go_wp2
         go_roundw
         case rel => exact ⟨i + 1, by omega, by go_num, FIN.out, K6⟩
         case measure => simp [intOf] <;> omega
        ·obtain rfl : d = i := by omega
         have k0 := K18.cell 0
         have hws : IntKind.i64.wrap ((s : Int) + (d : Int)) = ((s + d : Nat) : Int) := by rw [IntWalk.i64_in _ ⟨by omega, by omega⟩]; omega
         go_wp2
         go_roundw
         case rel => exact ⟨j + 1, s + d, by omega, by go_num, by go_num, Lib.hid HS2.out.symm, ⟨KM, ho, B2⟩⟩
         case measure => simp [intOf] <;> omega
      ·obtain rfl : M = j := by omega
       obtain rfl : N = s := by
        have h1 := HS.out
        rw [← HLM.out, List.take_length] at h1
        have := HN.out; omega
       have hlt : (tbv (MT.of N N (fmE L))).length = NN := by rw [tbv_length, HNN.out]
       have B3 : Below wb.heap.size wb wr := HB1.out.trans (B2.mono hbE)
       have KR := HKR.out.next B3
       have BW := HB0.out.trans (B3.mono HB0.out.size)
       have k0 := KM.cell 0; have k1 := KM.cell 1; have k2 := KM.cell 2
       have f0 := KR.free 0; have f1 := KR.free 1; have f2 := KR.free 2
       have r0 := KR.cell 0; have r1 := KR.cell 1; have r2 := KR.cell 2
       have KF := ((KR.set 0 (.int .i64 N)).set 1 (.int .i64 N)).set 2 (.slice (some ⟨gE, 0, none⟩) NN NN)
       have d0 := KF.cell 0; have d1 := KF.cell 1; have d2 := KF.cell 2
       have hgE : g < gE := by omega
       have hof := ((ho.low (a := ⟨g, 0, none⟩) hgE (.int .i64 N)).low (a := ⟨g, 1, none⟩) hgE (.int .i64 N)).low (a := ⟨g, 2, none⟩) hgE (.slice (some ⟨gE, 0, none⟩) NN NN)
       have BF := ((BW.setCell (p := ⟨g, 0, none⟩) hgw (.int .i64 N)).setCell (p := ⟨g, 1, none⟩) hgw (.int .i64 N)).setCell (p := ⟨g, 2, none⟩) hgw (.slice (some ⟨gE, 0, none⟩) NN NN)
       have FR := Lib.hid (show RetFE p w N N (MT.of N N (fmE L)) (.returned (.tuple #[.agg #[.int .i64 N, .int .i64 N, .slice (some ⟨gE, 0, none⟩) NN NN], .int .i64 0])) (((wr.setCell ⟨g, 0, none⟩ (.int .i64 N)).setCell ⟨g, 1, none⟩ (.int .i64 N)).setCell ⟨g, 2, none⟩ (.slice (some ⟨gE, 0, none⟩) NN NN)) from
        ⟨some ⟨gE, 0, none⟩, NN, by rw [hlt], by rw [hlt, ← blr_all]; exact hof.mono (by omega), BF⟩)
       clear KF KR hof BF BW B3 B2 ho hgE hlt KM
       go_wp2
       exact bodyPost_ret (v := .tuple #[.agg #[.int .i64 N, .int .i64 N, .slice (some ⟨gE, 0, none⟩) NN NN], .int .i64 0]) (by simp [results, Try.results44, go_sem, d0, d1, d2]) rfl FR.out
end Go.Proofs.Ytkmfhabgempjiaa
/- slices.ContainsFunc, slices.Index; the closures of Solve and Reduce. -/
namespace Go.Proofs.Ytkmfhabgempjiaa
set_option maxHeartbeats 4000000
open Go.RowKit
theorem Rws.atR {p : Nat} {w : World} {base n N : Nat} {rv : Value} {vs : List Value} {W : Nat → Nat → Zp p} (h : Rws (VZ p) 27 41 w base rv vs n N W) {i : Nat} (hi : i < n) (hN : 0 < N) :
  ∃ g cg b o cap, rv = .slice (some ⟨g, 0, none⟩) n cg ∧ n ≤ cg ∧ g < w.heap.size ∧ w.cell? ⟨g, i, none⟩ = some (.slice (some ⟨b, o, none⟩) N cap) ∧ N ≤ cap ∧ b < w.heap.size ∧ ∀ k, k < N → w.cell? ⟨b, o + k, none⟩ = some (.int .u64 ((W i k).val : Nat)) := by
 rcases h.shape with ⟨_, h0⟩ | ⟨g, cg, e, h1, h2, h3⟩
 ·omega
 obtain ⟨u, hu⟩ := h.hdr hi
 have hc := h.head e hi
 obtain ⟨ao, cap, b', o', cur', e3, e4, e5⟩ := h.row i u hu
 obtain ⟨e6, e7, e8, _⟩ := e5 hN
 obtain ⟨b, o, cap2, cur, e1, _, e2, k1⟩ := (h.row i u hu).pos hN
 rw [e1] at e3
 simp only [Value.slice.injEq] at e3
 refine ⟨g, cg, b, o, cap2, e, h3, h2, by rw [hc, hu, e1], by rw [e3.2.2]; exact e4, ?_, fun k hk => ?_⟩
 ·exact (Array.getElem?_eq_some_iff.1 e2).1
 ·obtain ⟨x, q, hx⟩ := k1 k hk
  rw [q, show x = .int .u64 ((W i k).val : Nat) from hx]
end Go.Proofs.Ytkmfhabgempjiaa
/- fmat.Inverse. -/
namespace Go.Proofs.Ytkmfhabgempjiaa
set_option maxHeartbeats 4000000
open Go.RowKit
section
open CR
variable {p n : Nat} {W : Nat → Nat → Zp p} {P : List Nat} {d : Zp p}
theorem inv_full2 {A : MT (Zp p) n n} (h : RedF n (n + n) n (beside n A.e (MT.one n).e) W P d) (hl : P.length = n) : Inv A (MT.of n n (fun i k => W i (n + k))) := by
 obtain ⟨T, T', hi, hr⟩ := rq_row h.rq
 have e1 : T = MT.of n n (fun i k => W i (n + k)) := MT.ext fun i k hi hk => by
  rw [MT.of_e _ hi hk, hr i (n + k) hi (by omega), sm_congr (g := fun j => T.e i j * one1 j k) (fun j hj => by rw [beside_r]; unfold MT.one; rw [MT.of_e _ hj hk])]
  exact (mm_one T.e hk).symm
 have e2 : T * A = MT.one n := MT.ext fun i k hi hk => by
  rw [MT.e_mul, MT.e_one hi hk, sm_congr (g := fun j => T.e i j * beside n A.e (MT.one n).e j k) (fun j _ => by rw [beside_l hk]), ← hr i k hi (by omega)]
  have h1 := h.unit k i (by omega) hi
  rw [h.incr.full hl k hk] at h1
  exact h1
 rw [← e1]
 have e3 : A = T' := hi.unique e2
 rw [e3]; exact hi.symm
theorem inv_less2 {A : MT (Zp p) n n} (h : RedF n (n + n) n (beside n A.e (MT.one n).e) W P d) (hl : P.length ≠ n) : A.det = 0 := by
 have h1 := h.len
 have e : dn n (beside n A.e (MT.one n).e) = A.det := dn_congr n fun i k _ hk => beside_l hk
 rw [← e, h.det, dn_row0 (i := P.length) (by omega) (fun k hk => h.low P.length k (Nat.le_refl _) (by omega) hk), mul_zero]
end
set_option maxRecDepth 20000 in
theorem inverse1 (p n i k base gP gW gA : Nat) (rv pv : Value) (vs mat : List Value) (W : Nat → Nat → Zp p) (P : List Nat) (d : Zp p) (w : World) (hn : n ≤ 64) (hii : i < n) (hk : k < n)
  (KP : Blk 132 w gP [.pointer (some ⟨gW, 0, none⟩)]) (hW : Wk p w base gW n (n + n) W P d rv pv vs) (KA : Blk 63 w gA mat) (hA1 : mat[1]? = some (.int .i64 n)) :
  Calls Try.prog 114 #[.int .i64 i, .int .i64 k, .pointer (some ⟨gP, 0, none⟩), .pointer (some ⟨gA, 0, none⟩)] w (RetW w (.int .u64 ((W i (n + k)).val : Nat))) := by
 have q0 : w.cell? ⟨gP, 0, none⟩ = some (.pointer (some ⟨gW, 0, none⟩)) := KP.cell 0
 have hlP := KP.lt; have hlW := hW.blk.lt; have hlA := KA.lt
 obtain ⟨N, eN⟩ : ∃ N, N = n + n := ⟨_, rfl⟩
 rw [← eN] at hW
 obtain ⟨ao, cap0, rfl⟩ : ∃ ao cap, rv = .slice ao n cap := by
  rcases hW.rows.shape with ⟨rfl, h0⟩ | ⟨g, cg, e, -⟩
  ·omega
  ·exact ⟨_, _, e⟩
 obtain ⟨g, cg, b, o, cap, e1, hcg, hlg, qh, hcap, hlb, qr⟩ := hW.rows.atR hii (by omega)
 simp only [Value.slice.injEq] at e1
 obtain ⟨rfl, -, rfl⟩ := e1
 have q2 : w.cell? ⟨gW, 1, none⟩ = some (.slice (some ⟨g, 0, none⟩) n cap0) := hW.blk.cell 1
 have q3 : w.cell? ⟨gA, 1, none⟩ = some (.int .i64 (n : Nat)) := (KA.cell 1).trans hA1
 obtain ⟨c, ec⟩ : ∃ c, c = n + k := ⟨_, rfl⟩
 have q4 : w.cell? ⟨b, o + c, none⟩ = some (.int .u64 ((W i c).val : Nat)) := qr c (by omega)
 have ha1 : IntKind.i64.wrap ((n : Int) + (k : Int)) = (c : Int) := by rw [ec, ← Int.natCast_add]; exact IntWalk.i64_in _ ⟨by omega, by omega⟩
 have hcN : c < N := by omega
 rw [← ec]
 obtain ⟨x, ex⟩ : ∃ x, x = (W i c).val := ⟨_, rfl⟩
 rw [← ex] at q4 ⊢
 clear ec eN ex qr hW KP KA
 go_enter Try.func114, Try.ntmps114
 go_upto_region 1 with (fail)
 have bd := dw w
 replace q0 := (bd.cell (p := ⟨gP, 0, none⟩) hlP).trans q0
 replace q2 := (bd.cell (p := ⟨gW, 1, none⟩) hlW).trans q2
 replace q3 := (bd.cell (p := ⟨gA, 1, none⟩) hlA).trans q3
 replace qh := (bd.cell (p := ⟨g, i, none⟩) hlg).trans qh
 replace q4 := (bd.cell (p := ⟨b, o + c, none⟩) hlb).trans q4
 replace hlP : gP < w.drew.heap.size := hlP
 replace hlW : gW < w.drew.heap.size := hlW
 replace hlA : gA < w.drew.heap.size := hlA
 replace hlg : g < w.drew.heap.size := hlg
 replace hlb : b < w.drew.heap.size := hlb
 refine startL (S := (fun w' => Below (w.drew).heap.size (w.drew) w')) (by kernel_rfl) (Below.refl _ _) (fun hHeld => ?_)
 refine tg 0 rfl (fun w hS => by have f1 := (hS.cell (p := ⟨gP, 0, none⟩) hlP).trans q0; have f2 := (hS.cell (p := ⟨gW, 1, none⟩) hlW).trans q2; have f3 := (hS.cell (p := ⟨gA, 1, none⟩) hlA).trans q3; have f4 := (hS.cell (p := ⟨g, i, none⟩) hlg).trans qh; have f5 := (hS.cell (p := ⟨b, o + c, none⟩) hlb).trans q4; go_simp <;> with_reducible rfl) ?_
 refine tk 1 ?_
 refine tk 2 ?_
 refine tg 3 rfl (fun w hS => by have f1 := (hS.cell (p := ⟨gP, 0, none⟩) hlP).trans q0; have f2 := (hS.cell (p := ⟨gW, 1, none⟩) hlW).trans q2; have f3 := (hS.cell (p := ⟨gA, 1, none⟩) hlA).trans q3; have f4 := (hS.cell (p := ⟨g, i, none⟩) hlg).trans qh; have f5 := (hS.cell (p := ⟨b, o + c, none⟩) hlb).trans q4; go_simp <;> with_reducible rfl) ?_
 refine tk 4 ?_
 refine tk 5 ?_
 refine tg 6 rfl (fun w hS => by have f1 := (hS.cell (p := ⟨gP, 0, none⟩) hlP).trans q0; have f2 := (hS.cell (p := ⟨gW, 1, none⟩) hlW).trans q2; have f3 := (hS.cell (p := ⟨gA, 1, none⟩) hlA).trans q3; have f4 := (hS.cell (p := ⟨g, i, none⟩) hlg).trans qh; have f5 := (hS.cell (p := ⟨b, o + c, none⟩) hlb).trans q4; go_simp <;> with_reducible rfl) ?_
 refine tk 7 ?_
 refine tg 8 rfl (fun w hS => by have f1 := (hS.cell (p := ⟨gP, 0, none⟩) hlP).trans q0; have f2 := (hS.cell (p := ⟨gW, 1, none⟩) hlW).trans q2; have f3 := (hS.cell (p := ⟨gA, 1, none⟩) hlA).trans q3; have f4 := (hS.cell (p := ⟨g, i, none⟩) hlg).trans qh; have f5 := (hS.cell (p := ⟨b, o + c, none⟩) hlb).trans q4; go_simp <;> with_reducible rfl) ?_
 refine tk 9 ?_
 refine tk 10 ?_
 refine tk 11 ?_
 refine tg 12 rfl (fun w hS => by have f1 := (hS.cell (p := ⟨gP, 0, none⟩) hlP).trans q0; have f2 := (hS.cell (p := ⟨gW, 1, none⟩) hlW).trans q2; have f3 := (hS.cell (p := ⟨gA, 1, none⟩) hlA).trans q3; have f4 := (hS.cell (p := ⟨g, i, none⟩) hlg).trans qh; have f5 := (hS.cell (p := ⟨b, o + c, none⟩) hlb).trans q4; go_simp <;> with_reducible rfl) ?_
 refine tk 13 ?_
 refine doneL (by kernel_rfl) ?_ _
 clear hHeld q0 q2 q3 qh q4
 go_wp2
 go_ret
 exact ⟨rfl, bd⟩
theorem Wk.farW {p : Nat} {w : World} {base gW n N g : Nat} {W : Nat → Nat → Zp p} {P : List Nat} {d : Zp p} {rv pv : Value} {vs vals : List Value} (h : Wk p w base gW n N W P d rv pv vs) (K : Blk 132 w g vals) (y : Value) : Wk p (w.setCell ⟨g, 0, none⟩ y) base gW n N W P d rv pv vs :=
 ⟨h.blk.far (a := ⟨g, 0, none⟩) (fun e => by
  have h1 := h.blk; have h2 := K
  unfold Blk at h1 h2
  have e' : gW = g := e
  rw [e'] at h1; rw [h1] at h2; simp at h2) _, h.gw, h.rows.far (a := ⟨g, 0, none⟩) K (by decide) (by decide) (fun _ _ h => h), ownsRow_setCell_other h.piv (rowOwn_ne' h.piv K (by decide)) y⟩
def RetInv (p : Nat) (w : World) (n : Nat) (A : MT (Zp p) n n) (e : Ending) (w' : World) : Prop :=
 (∃ X : MT (Zp p) n n, Inv A X ∧ RetFE p w n n X e w') ∨ (A.det = 0 ∧ RetFX w 3 e w')
def InvR (p n : Nat) (A : MT (Zp p) n n) (wb wx : World) (base gP : Nat) : Prop :=
 ∃ gW W P d rv pv vs, Blk 132 wx gP [.pointer (some ⟨gW, 0, none⟩)] ∧ Wk p wx base gW n (n + n) W P d rv pv vs ∧ RedF n (n + n) n (beside n A.e (MT.one n).e) W P d ∧ Below wb.heap.size wb wx
set_option maxRecDepth 20000 in
theorem fm_Inverse (p : Nat) (a : Value) (n : Nat) (xs : List Nat) (w : World) (hp : FP p) (ht : Trial p) (hA : Fm w a n n xs) (hn : n ≤ 64) (hx : xs.length = n * n) :
  Calls Try.prog 62 #[.agg #[.int .u64 p], a] w (RetInv p w n (mx p n n xs)) := by
 obtain ⟨aA, cA, rfl⟩ := hA.agg
 obtain ⟨wb, ew, KF, KA, KR, B0, hsz⟩ := boxes3 w 29 63 63 [.int .u64 p] [.int .i64 n, .int .i64 n, .slice aA xs.length cA] [.int .i64 0, .int .i64 0, .slice none 0 0]
 clear hsz
 have HP := Lib.hid hp; have HT := Lib.hid ht; clear hp ht
 replace hA := hA.next B0
 have HX := Lib.hid hx; clear hx
 have hnn : ((n : Int) != (n : Int)) = false := by simp
 obtain ⟨A, eA⟩ : ∃ A, A = mx p n n xs := ⟨_, rfl⟩
 rw [← eA]
 have EA := Lib.hid eA; clear eA
 have hI1 : (MT.of n n fun i k => Zp.of p (if i = k then 1 else 0) : MT (Zp p) n n) = MT.one n := by
  unfold MT.one one1; exact MT.of_congr fun i k _ _ => by split <;> rfl
 have HI := Lib.hid hI1; clear hI1
 go_enter Try.func62, Try.ntmps62
 go_upto_region 1 with (fail)
 rw [← ew]
 obtain ⟨g, eg⟩ : ∃ g, g = w.heap.size := ⟨_, rfl⟩
 rw [← eg] at KF KA KR ⊢
 have hgw : w.heap.size ≤ g := by omega
 clear ew eg
 have f1 := KA.cell 0; have f2 := KA.cell 1; have f3 := KA.cell 2
 go_wp2_with fail
 refine (fm_Formed_yes _ n n xs _ hA (Fd.of hn hn HX.out)).mono ?_; rintro e w2 ⟨rfl, b2⟩
 clear f1 f2 f3
 replace hA := hA.next b2; replace KF := KF.next b2; replace KA := KA.next b2; replace KR := KR.next b2
 replace B0 := B0.trans (b2.mono B0.size)
 clear b2
 have f1 := KA.cell 0; have f2 := KA.cell 1
 go_upto_region 3 with (fail)
 clear f1 f2
 go_cut [6] (fun v6 wx => ∃ gP, v6 = .pointer (some ⟨gP, 0, none⟩) ∧ InvR p n A w2 wx w2.heap.size gP)
 case first =>
  have bd := dw w2
  replace KF := KF.next bd; replace KA := KA.next bd; replace hA := hA.next bd
  clear KR B0
  have zF0 := Lib.hid fun (w : World) (hS : Below (w2.drew).heap.size (w2.drew) w) => And.intro ((KF.at hS) 0) (And.intro ((KA.at hS) 0) (And.intro ((KA.at hS) 1) ((KA.at hS) 2)))
  refine startL (S := (fun w' => Below (w2.drew).heap.size (w2.drew) w')) (by kernel_rfl) (Below.refl _ _) (fun hHeld => ?_)
  generalize w2.drew = wd at *
  refine tf 0 zF0.out ?_
  refine tf 1 zF0.out ?_
  refine tf 2 zF0.out ?_
  refine tk 3 ?_
  refine tf 4 zF0.out ?_
  refine tk 5 ?_
  refine tf 6 zF0.out ?_
  refine twoL 7 9 rfl rfl (by kernel_rfl) (by rfl) (by rfl) (fun K hK => ?_) (fun K hK => ?_)
  ·go_simp
   go_at_call 107
   (with_reducible refine (fm_made p n n HP.out (by omega) (by omega) 111 (enters_of Try.func111 rfl rfl) [] (fun i k => if i = k then 1 else 0) _ (fun i k w' hi hk hb => fm_one i k w')).mono ?_); rintro e w7 ⟨a7, k7, rfl, o7, b7⟩; rw [HI.out] at o7 ⊢
   refine hK.out _ _ (hHeld.trans (b7.mono hHeld.size)) (fun hHeld => ?_)
   clear hK K
   try simp only [Act.put, zq1, zq2, zq3]
   refine twoL 8 9 rfl rfl (by kernel_rfl) (by rfl) (by rfl) (fun K hK => ?_) (fun K hK => ?_)
   ·have m7 : Fm w7 (.agg #[.int .i64 n, .int .i64 n, .slice a7 (tbv (MT.one n : MT (Zp p) n n)).length k7]) n n (tbv (MT.one n : MT (Zp p) n n)) := ⟨_, rfl, o7.sl⟩
    go_simp
    go_at_call 105
    (with_reducible refine (fw_reduced p _ _ n n n xs (tbv (MT.one n)) _ HP.out HT.out (hA.next hHeld) m7 (by omega) (by omega) (by omega) HX.out (tbv_length _)).mono ?_); rintro e w8 ⟨gW, W, P, d, rv, pv, vs, rfl, hW, hr, b8⟩; rw [← EA.out, mx_tbv] at hr
    refine hK.out _ _ (hHeld.trans (b8.mono hHeld.size)) (fun hHeld => ?_)
    clear hK K
    try simp only [Act.put, zq1, zq2, zq3]
    refine on 9 fun K hK => ?_
    go_simp
    have hd9 := hHeld
    obtain ⟨w9, e9, KZ, b9, -⟩ := boxes1 w8 132 [.pointer none]
    rw [← e9]
    clear e9
    refine hK.out _ _ (hHeld.trans (b9.mono hHeld.size)) (fun hHeld => ?_)
    clear hK K
    try simp only [Act.put, zq1, zq2, zq3]
    have y0 := KZ.cell 0; have z0 := KZ.free 0
    refine on 10 fun K hK => ?_
    go_simp
    have he9 := hHeld
    refine hK.out _ _ (hHeld.setCell (p := ⟨w8.heap.size, 0, none⟩) hd9.size (.pointer (some ⟨gW, 0, none⟩))) (fun hHeld => ?_)
    clear hK K
    try simp only [Act.put, zq1, zq2, zq3]
    clear zF0; refine doneL (by kernel_rfl) ?_ _
    have hsz1 := bd.size; have hsz2 := b7.size; have hsz3 := b9.size
    have FIN := Lib.hid (show InvR p n A w2 (w9.setCell ⟨w8.heap.size, 0, none⟩ (.pointer (some ⟨gW, 0, none⟩))) w2.heap.size w8.heap.size from ⟨gW, W, P, d, rv, pv, vs, KZ.set 0 _, ((hW.next b9).farW KZ _).mono (by omega), hr, bd.trans (hHeld.mono hsz1)⟩)
    clear hW hr hHeld KZ b7 b8 b9 bd KF KA hA m7 o7 y0 z0
    go_wp2_with fail
    go_meet
    exact ⟨_, rfl, FIN.out⟩
   ·go_simp
    have hd9 := hHeld
    obtain ⟨w9, e9, KZ, b9, -⟩ := boxes1 w7 132 [.pointer none]
    rw [← e9]
    clear e9
    refine hK.out _ _ (hHeld.trans (b9.mono hHeld.size)) (fun hHeld => ?_)
    clear hK K
    try simp only [Act.put, zq1, zq2, zq3]
    refine on 8 fun K hK => ?_
    have m7 : Fm w9 (.agg #[.int .i64 n, .int .i64 n, .slice a7 (tbv (MT.one n : MT (Zp p) n n)).length k7]) n n (tbv (MT.one n : MT (Zp p) n n)) := ⟨_, rfl, (o7.next b9).sl⟩
    go_simp
    go_at_call 105
    (with_reducible refine (fw_reduced p _ _ n n n xs (tbv (MT.one n)) _ HP.out HT.out (hA.next hHeld) m7 (by omega) (by omega) (by omega) HX.out (tbv_length _)).mono ?_); rintro e w8 ⟨gW, W, P, d, rv, pv, vs, rfl, hW, hr, b8⟩; rw [← EA.out, mx_tbv] at hr
    have KZ8 := KZ.next b8; have y0 := KZ8.cell 0; have z0 := KZ8.free 0
    refine hK.out _ _ (hHeld.trans (b8.mono hHeld.size)) (fun hHeld => ?_)
    clear hK K
    try simp only [Act.put, zq1, zq2, zq3]
    refine on 10 fun K hK => ?_
    go_simp
    have he9 := hHeld
    refine hK.out _ _ (hHeld.setCell (p := ⟨w7.heap.size, 0, none⟩) b7.size (.pointer (some ⟨gW, 0, none⟩))) (fun hHeld => ?_)
    clear hK K
    try simp only [Act.put, zq1, zq2, zq3]
    clear zF0; refine doneL (by kernel_rfl) ?_ _
    have hsz1 := bd.size; have hsz2 := b7.size; have hsz3 := b9.size
    have FIN := Lib.hid (show InvR p n A w2 (w8.setCell ⟨w7.heap.size, 0, none⟩ (.pointer (some ⟨gW, 0, none⟩))) w2.heap.size w7.heap.size from ⟨gW, W, P, d, rv, pv, vs, KZ8.set 0 _, (hW.farW KZ8 _).mono (by omega), hr, bd.trans (hHeld.mono hsz1)⟩)
    clear hW hr hHeld KZ b7 b8 b9 bd KF KA hA m7 o7 y0 z0
    go_wp2_with fail
    go_meet
    exact ⟨_, rfl, FIN.out⟩
  ·go_simp
   have hd9 := hHeld
   obtain ⟨w9, e9, KZ, b9, -⟩ := boxes1 wd 132 [.pointer none]
   rw [← e9]
   clear e9
   refine hK.out _ _ (hHeld.trans (b9.mono hHeld.size)) (fun hHeld => ?_)
   clear hK K
   try simp only [Act.put, zq1, zq2, zq3]
   refine on 7 fun K hK => ?_
   go_simp
   go_at_call 107
   (with_reducible refine (fm_made p n n HP.out (by omega) (by omega) 111 (enters_of Try.func111 rfl rfl) [] (fun i k => if i = k then 1 else 0) _ (fun i k w' hi hk hb => fm_one i k w')).mono ?_); rintro e w7 ⟨a7, k7, rfl, o7, b7⟩; rw [HI.out] at o7 ⊢
   have KZ7 := KZ.next b7
   refine hK.out _ _ (hHeld.trans (b7.mono hHeld.size)) (fun hHeld => ?_)
   clear hK K
   try simp only [Act.put, zq1, zq2, zq3]
   refine on 8 fun K hK => ?_
   have m7 : Fm w7 (.agg #[.int .i64 n, .int .i64 n, .slice a7 (tbv (MT.one n : MT (Zp p) n n)).length k7]) n n (tbv (MT.one n : MT (Zp p) n n)) := ⟨_, rfl, o7.sl⟩
   go_simp
   go_at_call 105
   (with_reducible refine (fw_reduced p _ _ n n n xs (tbv (MT.one n)) _ HP.out HT.out (hA.next hHeld) m7 (by omega) (by omega) (by omega) HX.out (tbv_length _)).mono ?_); rintro e w8 ⟨gW, W, P, d, rv, pv, vs, rfl, hW, hr, b8⟩; rw [← EA.out, mx_tbv] at hr
   have KZ8 := KZ7.next b8; have y0 := KZ8.cell 0; have z0 := KZ8.free 0
   refine hK.out _ _ (hHeld.trans (b8.mono hHeld.size)) (fun hHeld => ?_)
   clear hK K
   try simp only [Act.put, zq1, zq2, zq3]
   refine on 10 fun K hK => ?_
   go_simp
   have he9 := hHeld
   refine hK.out _ _ (hHeld.setCell (p := ⟨wd.heap.size, 0, none⟩) (Nat.le_refl _) (.pointer (some ⟨gW, 0, none⟩))) (fun hHeld => ?_)
   clear hK K
   try simp only [Act.put, zq1, zq2, zq3]
   clear zF0; refine doneL (by kernel_rfl) ?_ _
   have hsz1 := bd.size; have hsz2 := b7.size; have hsz3 := b9.size
   have FIN := Lib.hid (show InvR p n A w2 (w8.setCell ⟨wd.heap.size, 0, none⟩ (.pointer (some ⟨gW, 0, none⟩))) w2.heap.size wd.heap.size from ⟨gW, W, P, d, rv, pv, vs, KZ8.set 0 _, (hW.farW KZ8 _).mono (by omega), hr, bd.trans (hHeld.mono hsz1)⟩)
   clear hW hr hHeld KZ b7 b8 b9 bd KF KA hA m7 o7 y0 z0
   go_wp2_with fail
   go_meet
   exact ⟨_, rfl, FIN.out⟩
 case rest =>
  obtain ⟨gP, rfl, gW, W, P, d, rv, pv, vs, KP, hW, HR, b4⟩ := hcut
  have HRD := Lib.hid HR; clear HR
  have hPn := HRD.out.len
  have hbg : g + 1 + 1 < w2.heap.size := KR.lt
  replace KF := KF.next b4; replace KA := KA.next b4; replace KR := KR.next b4
  have hw2 := B0.size
  replace B0 := B0.trans (b4.mono B0.size)
  have hsz4 := b4.size
  clear b4 hA
  obtain ⟨pa, pc, rfl⟩ := hW.piv.sliced
  by_cases hPl : P.length = n
  ·have t1 : decide ((P.length : Int) < (n : Int)) = false := by simp; omega
   go_upto_region 4 with (fail)
   have bd := dw wc
   replace KP := KP.next bd; replace hW := hW.next bd; replace KA := KA.next bd; replace KF := KF.next bd; replace KR := KR.next bd
   replace B0 := B0.trans (bd.mono B0.size)
   replace hsz4 := Nat.le_trans hsz4 bd.size
   clear bd
   have zF0 := Lib.hid fun (w : World) (hS : Below (wc.drew).heap.size (wc.drew) w) => And.intro ((KP.at hS) 0) (And.intro ((hW.blk.at hS) 2) ((KA.at hS) 0))
   refine startL (S := (fun w' => Below (wc.drew).heap.size (wc.drew) w')) (by kernel_rfl) (Below.refl _ _) (fun hHeld => ?_)
   refine tf 0 zF0.out ?_
   refine tk 1 ?_
   refine tk 2 ?_
   refine tf 3 zF0.out ?_
   refine tk 4 ?_
   refine tk 5 ?_
   refine tf 6 zF0.out ?_
   refine tk 7 ?_
   clear zF0; refine doneL (by kernel_rfl) ?_ _
   replace KP := KP.next hHeld; replace hW := hW.next hHeld; replace KA := KA.next hHeld; replace KF := KF.next hHeld; replace KR := KR.next hHeld
   replace B0 := B0.trans (hHeld.mono B0.size)
   have q0 := KF.cell 0; have q1 := KA.cell 0
   have hinv := Lib.hid (inv_full2 HRD.out hPl)
   clear hHeld t1
   go_wp2_with fail
   refine (fm_made p n n HP.out (by omega) (by omega) 114 (enters_of Try.func114 rfl rfl) [.pointer (some ⟨gP, 0, none⟩), .pointer (some ⟨g + 1, 0, none⟩)] (fun i k => (W i (n + k)).val) _ (fun i k w' hi hk hb =>
    inverse1 p n i k _ gP gW (g + 1) rv _ vs _ W P d w' hn hi hk (KP.next hb) (hW.next hb) (KA.next hb) rfl)).mono ?_; rintro e w7 ⟨a7, k7, rfl, o7, b7⟩
   clear q0 q1
   obtain ⟨M, eM⟩ : ∃ M, M = MT.of n n fun i k => Zp.of p (W i (n + k)).val := ⟨_, rfl⟩
   rw [← eM] at o7 ⊢
   have hM : Inv A M := by
    have h : M = MT.of n n fun i k => W i (n + k) := by rw [eM]; exact MT.of_congr fun i k hi hk => Zp.of_val _
    rw [h]; exact hinv.out
   have HMM := Lib.hid hM; clear hM eM
   have hgb := KR.lt
   have hw7 := B0.size
   replace KR := KR.next b7
   have hgy : w.heap.size ≤ g + 1 + 1 := by omega
   replace B0 := B0.trans (b7.mono B0.size)
   clear b7 KF KA KP hW
   have f0 := KR.free 0; have f1 := KR.free 1; have f2 := KR.free 2
   have c0 := KR.cell 0; have c1 := KR.cell 1; have c2 := KR.cell 2
   have KF2 := ((KR.set 0 (.int .i64 n)).set 1 (.int .i64 n)).set 2 (.slice a7 (tbv M).length k7)
   have d0 := KF2.cell 0; have d1 := KF2.cell 1; have d2 := KF2.cell 2
   have of := ((o7.low (a := ⟨g + 1 + 1, 0, none⟩) hgb (.int .i64 n)).low (a := ⟨g + 1 + 1, 1, none⟩) hgb (.int .i64 n)).low (a := ⟨g + 1 + 1, 2, none⟩) hgb (.slice a7 (tbv M).length k7)
   have BF := ((B0.setCell (p := ⟨g + 1 + 1, 0, none⟩) hgy (.int .i64 n)).setCell (p := ⟨g + 1 + 1, 1, none⟩) hgy (.int .i64 n)).setCell (p := ⟨g + 1 + 1, 2, none⟩) hgy (.slice a7 (tbv M).length k7)
   have FR := Lib.hid (show RetInv p w n A (.returned (.tuple #[.agg #[.int .i64 n, .int .i64 n, .slice a7 (tbv M).length k7], .int .i64 0])) (((w7.setCell ⟨g + 1 + 1, 0, none⟩ (.int .i64 n)).setCell ⟨g + 1 + 1, 1, none⟩ (.int .i64 n)).setCell ⟨g + 1 + 1, 2, none⟩ (.slice a7 (tbv M).length k7)) from .inl ⟨M, HMM.out, _, _, rfl, of.mono hw7, BF⟩)
   clear KF2 KR of BF B0 o7 hgb
   go_wp2
   exact bodyPost_ret (v := .tuple #[.agg #[.int .i64 n, .int .i64 n, .slice a7 (tbv M).length k7], .int .i64 0]) (by simp [results, Try.results62, go_sem, d0, d1, d2]) rfl FR.out
  ·have t1 : decide ((P.length : Int) < (n : Int)) = true := by simp; omega
   go_upto_region 4 with (fail)
   have bd := dw wc
   replace KP := KP.next bd; replace hW := hW.next bd; replace KA := KA.next bd; replace KF := KF.next bd; replace KR := KR.next bd
   replace B0 := B0.trans (bd.mono B0.size)
   clear bd
   have zF0 := Lib.hid fun (w : World) (hS : Below (wc.drew).heap.size (wc.drew) w) => And.intro ((KP.at hS) 0) (And.intro ((hW.blk.at hS) 2) ((KA.at hS) 0))
   refine startL (S := (fun w' => Below (wc.drew).heap.size (wc.drew) w')) (by kernel_rfl) (Below.refl _ _) (fun hHeld => ?_)
   refine tf 0 zF0.out ?_
   refine tk 1 ?_
   refine tk 2 ?_
   refine tf 3 zF0.out ?_
   refine tk 4 ?_
   refine tk 5 ?_
   refine tf 6 zF0.out ?_
   refine tk 7 ?_
   clear zF0; refine doneL (by kernel_rfl) ?_ _
   generalize wc.drew = wd at *
   replace KR := KR.next hHeld
   replace B0 := B0.trans (hHeld.mono B0.size)
   have hdet := Lib.hid (inv_less2 HRD.out hPl)
   have hgb : w.heap.size ≤ g + 1 + 1 := by omega
   have f0 := KR.free 0; have f1 := KR.free 1; have f2 := KR.free 2
   have c0 := KR.cell 0; have c1 := KR.cell 1; have c2 := KR.cell 2
   have KF2 := ((KR.set 0 (.int .i64 0)).set 1 (.int .i64 0)).set 2 (.slice none 0 0)
   have d0 := KF2.cell 0; have d1 := KF2.cell 1; have d2 := KF2.cell 2
   have FR := Lib.hid (show RetInv p w n A (.returned (.tuple #[.agg #[.int .i64 0, .int .i64 0, .slice none 0 0], .int .i64 3])) (((wd.setCell ⟨g + 1 + 1, 0, none⟩ (.int .i64 0)).setCell ⟨g + 1 + 1, 1, none⟩ (.int .i64 0)).setCell ⟨g + 1 + 1, 2, none⟩ (.slice none 0 0)) from
    .inr ⟨hdet.out, rfl, ((B0.setCell (p := ⟨g + 1 + 1, 0, none⟩) hgb _).setCell (p := ⟨g + 1 + 1, 1, none⟩) hgb _).setCell (p := ⟨g + 1 + 1, 2, none⟩) hgb _⟩)
   clear KF2 KR B0 KF KA KP hW hHeld t1
   go_wp2
   exact bodyPost_ret (v := .tuple #[.agg #[.int .i64 0, .int .i64 0, .slice none 0 0], .int .i64 3]) (by simp [results, Try.results62, go_sem, d0, d1, d2]) rfl FR.out
end Go.Proofs.Ytkmfhabgempjiaa
/- Layer 25, plain: the invariants' product and the last one. -/
namespace Go.Proofs.Ytkmfhabgempjiaa
set_option maxHeartbeats 4000000
open Go.RowKit
section
open CR
variable {p n : Nat}
theorem mo_one1 (tr : Trial p) {g : Pol (Zp p)} (h : Mo g) (hl : Ln g 1) : g = 1 := by
 rcases h with rfl | ⟨d, h1, h2⟩
 ·exact absurd rfl hl.ne
 ·obtain rfl : d = 0 := by have := (Mo.ln tr h1 h2).unique hl; omega
  refine Pol.ext fun i => ?_
  rw [Pol.one_def, c_mon]
  by_cases e : i = 0
  ·subst e; rw [if_pos rfl]; exact h2
  ·rw [if_neg e]; exact h1 i (by omega)
theorem pks_getD (W : (Nat → Nat → Pol (Zp p))) (i j : Nat) (hj : j < (pks W i).length) : (pks W i).getD j 0 < i ∧ 1 < pln (W ((pks W i).getD j 0) ((pks W i).getD j 0)) := by
 have : (pks W i).getD j 0 ∈ pks W i := by
  simp only [List.getD, List.getElem?_eq_getElem hj, Option.getD_some]
  exact List.getElem_mem hj
 exact pks_lt this
theorem awk25 (tr : Trial p) (h5 : Zp.of p 5 = -Zp.of p 2) {U W V : (Nat → Nat → Pol (Zp p))} (h : SmR (XA (mx p 2 2 [2, 0, 0, 2])) U W V) (hoff : ∀ i k, i < 2 → k < 2 → i ≠ k → W i k = 0) (hm : ∀ k, k < 2 → Mo (W k k)) : pks W 2 = [0, 1] ∧ W 0 0 = pl p [5, 1] ∧ W 1 1 = pl p [5, 1] := by
 obtain ⟨hne, hdim⟩ := smith_deg tr h hoff hm
 have hl : Ln (pl p [5, 1]) 2 := Mo.ln tr (n := 1) (fun i hi => pl_dlt p _ i hi) (by rw [pl_c]; exact Zp.of_one p)
 have hmf : Mo (pl p [5, 1]) := Or.inr ⟨1, fun i hi => pl_dlt p _ i hi, by rw [pl_c]; exact Zp.of_one p⟩
 have ex : ∀ i k, i < 2 → k < 2 → (XA (mx p 2 2 [2, 0, 0, 2])).e i k = if i = k then pl p [5, 1] else 0 := fun i k hi hk => by
  unfold XA
  rw [MT.of_e _ hi hk, mx_e _ hi hk]
  by_cases e : i = k
  ·subst e
   rw [if_pos rfl, if_pos rfl]
   have e2 : Zp.of p ([2, 0, 0, 2].getD (i * 2 + i) 0) = Zp.of p 2 := by
    rcases (show i = 0 ∨ i = 1 by omega) with rfl | rfl <;> rfl
   rw [e2, pl_cons', pl_one, mul_one, h5, mon_neg, sub_eq, add_comm]
  ·rw [if_neg e, if_neg e]
   have e2 : [2, 0, 0, 2].getD (i * 2 + k) 0 = 0 := by
    rcases (show (i = 0 ∧ k = 1) ∨ (i = 1 ∧ k = 0) by omega) with ⟨rfl, rfl⟩ | ⟨rfl, rfl⟩ <;> rfl
   rw [e2, Zp.of_zero, mon_zero, sub_zero]
 have hd : ∀ k, k < 2 → Dv (pl p [5, 1]) (W k k) := fun k hk => by
  have e1 := congrArg (fun M : MT (Pol (Zp p)) 2 2 => M.e k k) h.e
  have e2 : W k k = (MT.of 2 2 U * XA (mx p 2 2 [2, 0, 0, 2]) * MT.of 2 2 V).e k k := by
   rw [← MT.of_e (f := W) hk hk]; exact e1
  rw [e2, MT.e_mul]
  refine Dv.sm 2 fun j hj => ?_
  rw [MT.e_mul]
  refine Dv.mul' (Dv.sm 2 fun i hi => ?_) _
  rw [ex i j hi hj]
  split
  ·exact (Dv.refl _).mul _
  ·exact (Dv.zero _).mul _
 have h0 := Dv.len tr (hd 0 (by omega)) (hne 0 (by omega)) hl (pln_ln _)
 have h1 := Dv.len tr (hd 1 (by omega)) (hne 1 (by omega)) hl (pln_ln _)
 have hs := hdim (MT.one 2)
 have hs2 : (pln (W 0 0) - 1) + ((pln (W 1 1) - 1) + 0) = 2 := hs
 have fin : ∀ k, k < 2 → pln (W k k) = 2 → W k k = pl p [5, 1] := fun k hk e => by
  obtain ⟨g, hg⟩ := hd k hk
  rw [mul_comm] at hg
  have hgn : g ≠ 0 := fun e0 => hne k hk (by rw [hg, e0, zero_mul])
  obtain ⟨a, ha⟩ := Ln.exists g
  obtain ⟨b, rfl⟩ := ha.pos hgn
  have h3 := ha.mul tr (m := b) (n := 1) hl
  rw [← hg] at h3
  have h4 := h3.unique (pln_ln _)
  obtain rfl : b = 0 := by omega
  obtain ⟨-, -, h5'⟩ := mo_top tr (hm k hk) (hne k hk)
  have hg1 : g = 1 := by
   refine mo_one1 tr (Or.inr ⟨0, ha.1, ?_⟩) ha
   rw [e, hg, Pol.c_mul] at h5'
   have e7 : sm (1 + 1) (fun s => g.c s * (pl p [5, 1]).c (1 - s)) = g.c 0 := by
    show 0 + g.c 0 * (pl p [5, 1]).c 1 + g.c 1 * (pl p [5, 1]).c 0 = g.c 0
    rw [ha.1 1 (by omega), zero_mul, add_zero, zero_add, pl_c]
    exact (congrArg (g.c 0 * ·) (Zp.of_one p)).trans (mul_one _)
   rw [← e7]; exact h5'
  rw [hg, hg1, one_mul]
 refine ⟨?_, fin 0 (by omega) (by omega), fin 1 (by omega) (by omega)⟩
 rw [pks_succ, if_pos (by omega), pks_succ, if_pos (by omega)]; rfl
end
end Go.Proofs.Ytkmfhabgempjiaa
