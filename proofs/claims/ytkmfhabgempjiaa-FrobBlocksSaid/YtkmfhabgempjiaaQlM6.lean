/- Package fpoly: rest, Gcd, Lcm, PowMod. -/
import Derived.ChangeSame
import Derived.Deep.Slices
import Derived.Lib.SmallJoins
import Derived.Test.YtkmfhabgempjiaaQlM1
import Derived.Test.YtkmfhabgempjiaaQlM2
import Derived.Test.YtkmfhabgempjiaaQlM4
import Derived.Test.YtkmfhabgempjiaaQlM5
namespace Go.Proofs.Ytkmfhabgempjiaa
set_option maxHeartbeats 4000000
open Go.RowKit
theorem RetMo.mo {p : Nat} {A zs : List Nat} {u : Zp p} (h : A = [] ∨ ∃ n, Ln (pl p A) (n + 1) ∧ u * (pl p A).c n = 1) (hv : pl p zs = pl p A * mon u 0) : Mo (pl p zs) := by
 rw [hv]
 rcases h with rfl | ⟨n, hl, hu⟩
 ·rw [pl_nil, CR.zero_mul]; exact Or.inl rfl
 ·exact mo_scale hl hu
theorem RetMo.dv {p : Nat} {A zs : List Nat} {u : Zp p} (h : A = [] ∨ ∃ n, Ln (pl p A) (n + 1) ∧ u * (pl p A).c n = 1) (hv : pl p zs = pl p A * mon u 0) : Dv (pl p zs) (pl p A) := by
 rw [hv]
 rcases h with rfl | ⟨n, _, hu⟩
 ·rw [pl_nil, CR.zero_mul]; exact Dv.refl _
 ·exact dv_scale hu
structure Same2 {p : Nat} (A B f h : Pol (Zp p)) : Prop where
 a : ∃ s t, A = s * f + t * h
 b : ∃ s t, B = s * f + t * h
 d : ∀ d, Dv d A → Dv d B → Dv d f ∧ Dv d h
theorem Same2.refl {p : Nat} (f h : Pol (Zp p)) : Same2 f h f h :=
 ⟨⟨1, 0, by_ring [f, h] X0 (1 * X0 + 0 * X1) rfl⟩, ⟨0, 1, by_ring [f, h] X1 (0 * X0 + 1 * X1) rfl⟩, fun _ h k => ⟨h, k⟩⟩
theorem Same2.step {p : Nat} {A B f h q R : Pol (Zp p)} (k : Same2 A B f h) (e : A = q * B + R) : Same2 B R f h := by
 obtain ⟨s, t, ha⟩ := k.a
 obtain ⟨s', t', hb⟩ := k.b
 refine ⟨k.b, ⟨s - q * s', t - q * t', ?_⟩, fun d h1 h2 => k.d d (by rw [e]; exact (h1.mul q).add h2) h1⟩
 have : R = A - q * B := by rw [e]; exact by_ring [q, B, R] X2 (X0 * X1 + X2 - X0 * X1) rfl
 rw [this, ha, hb]
 exact by_ring [s, t, s', t', f, h, q] (X0 * X4 + X1 * X5 - X6 * (X2 * X4 + X3 * X5)) ((X0 - X6 * X2) * X4 + (X1 - X6 * X3) * X5) rfl
theorem Same2.gcd {p : Nat} {A f h g : Pol (Zp p)} {u : Zp p} (k : Same2 A 0 f h) (hm : Mo g) (hg : g = A * mon u 0) (hd : Dv g A) : IsGcd g f h := by
 have k2 := k.d g hd (Dv.zero _)
 obtain ⟨s, t, ha⟩ := k.a
 refine ⟨hm, k2.1, k2.2, s * mon u 0, t * mon u 0, ?_⟩
 rw [hg, ha]
 exact by_ring [s, t, f, h, mon u 0] ((X0 * X2 + X1 * X3) * X4) (X0 * X4 * X2 + X1 * X4 * X3) rfl
theorem gcd_nil {p : Nat} {f h : Pol (Zp p)} (k : IsGcd 0 f h) : f = 0 ∧ h = 0 := ⟨k.2.1.of_zero, k.2.2.1.of_zero⟩
end Go.Proofs.Ytkmfhabgempjiaa
/- Package fpoly: PowMod; the statements' divides. -/
namespace Go.Proofs.Ytkmfhabgempjiaa
set_option maxHeartbeats 4000000
open Go.RowKit
end Go.Proofs.Ytkmfhabgempjiaa
/- The statements' divides. -/
namespace Go.Proofs.Ytkmfhabgempjiaa
set_option maxHeartbeats 4000000
open Go.RowKit
theorem dv_rem {p : Nat} (ht : Trial p) {a b q r : Pol (Zp p)} {n : Nat} (ha : Ln a (n + 1)) (hr : r.dlt n) (h : b = q * a + r) : Dv a b ↔ r = 0 := by
 constructor
 ·rintro ⟨c, hc⟩
  exact (div_unique ht (q := q) (q' := c) (r := r) (r' := 0) ha hr (dlt_zero _) (by rw [← h, hc, CR.mul_comm, CR.add_zero])).2
 ·intro h0
  exact ⟨q, by rw [h, h0, CR.add_zero, CR.mul_comm]⟩
theorem nl_nil {p : Nat} (hp : 0 < p) {xs : List Nat} : nl p xs = [] ↔ pl p xs = 0 := by
 constructor
 ·intro h; rw [← nl_pl, h, pl_nil]
 ·intro h; exact pl_zero hp (nl_nrm hp xs) (by rw [nl_pl, h])
end Go.Proofs.Ytkmfhabgempjiaa
/- Package fpoly: a step of Xgcd. -/
namespace Go.Proofs.Ytkmfhabgempjiaa
set_option maxHeartbeats 4000000
open Go.RowKit
theorem Own.far {k : IntKind} {e : TypeId} {w : World} {base : Nat} {v : Value} {xs : List Nat} (h : Own k e w base v xs) {a : Addr} (ha : a.block < base) (u : Value) : Own k e (w.setCell a u) base v xs := by
 rcases h.shape with ⟨rfl, rfl⟩ | ⟨g, cap, rfl, hg, _⟩
 ·exact Own.nil _ _ _ _
 ·exact h.set_far (by omega) u
def RetStep (p : Nat) (w : World) (vb vt : Value) (A B S T : List Nat) (e : Ending) (w' : World) : Prop :=
 ∃ rr rs zr zs q, e = .returned (.agg #[vb, rr, vt, rs]) ∧ Own .u64 27 w' w.heap.size rr zr ∧ Own .u64 27 w' w.heap.size rs zs ∧ Nrm p zr ∧ Nrm p zs ∧
  pl p A = q * pl p B + pl p zr ∧ pl p zs = pl p S - q * pl p T ∧ zr.length < B.length ∧ zr.length ≤ A.length ∧ Below w.heap.size w w'
theorem fp_step (p : Nat) (va vb vs vt : Value) (A B S T : List Nat) (w : World) (hp : FP p) (ht : Trial p) (sa : Sl .u64 w va A) (sb : Sl .u64 w vb B) (ss : Sl .u64 w vs S) (st : Sl .u64 w vt T)
  (la : A.length ≤ 300000000000) (lb : B.length ≤ 300000000000) (ls : S.length ≤ 300000000000) (lt : T.length ≤ 300000000000) (mb : Nrm p B) (h0 : B ≠ []) :
  Calls Try.prog 182 #[.agg #[va, vb, vs, vt], .agg #[.int .u64 p]] w (RetStep p w vb vt A B S T) := by
 obtain ⟨ao, ba, oa, ca, rfl, ha, ka⟩ := sa
 have sa : Sl .u64 w (.slice ao A.length ca) A := ⟨ao, ba, oa, ca, rfl, ha, ka⟩
 obtain ⟨bo, bb, ob, cb, rfl, hb, kb⟩ := sb
 have sb : Sl .u64 w (.slice bo B.length cb) B := ⟨bo, bb, ob, cb, rfl, hb, kb⟩
 obtain ⟨so, bs, os, cs, rfl, hs, ks⟩ := ss
 have ss : Sl .u64 w (.slice so S.length cs) S := ⟨so, bs, os, cs, rfl, hs, ks⟩
 obtain ⟨tt, bt, ot, ct, rfl, hh, kt⟩ := st
 have st : Sl .u64 w (.slice tt T.length ct) T := ⟨tt, bt, ot, ct, rfl, hh, kt⟩
 clear ka kb ks kt ha hb hs hh
 have HP := Lib.hid hp; have HT := Lib.hid ht; have H0 := Lib.hid h0
 clear hp ht h0
 have K0 : Blk 185 (((w.alloc (.cells #[.slice ao A.length ca, .slice bo B.length cb, .slice so S.length cs, .slice tt T.length ct] 185)).alloc (.cells #[.int .u64 p] 29)).alloc (.cells #[.slice none 0 0, .slice none 0 0, .slice none 0 0, .slice none 0 0] 185)) w.heap.size [.slice ao A.length ca, .slice bo B.length cb, .slice so S.length cs, .slice tt T.length ct] := ((Blk.lit w 185 [.slice ao A.length ca, .slice bo B.length cb, .slice so S.length cs, .slice tt T.length ct]).alloc _).alloc _
 have K1 : Blk 29 (((w.alloc (.cells #[.slice ao A.length ca, .slice bo B.length cb, .slice so S.length cs, .slice tt T.length ct] 185)).alloc (.cells #[.int .u64 p] 29)).alloc (.cells #[.slice none 0 0, .slice none 0 0, .slice none 0 0, .slice none 0 0] 185)) (w.heap.size + 1) [.int .u64 p] := by have := (Blk.lit (w.alloc (.cells #[.slice ao A.length ca, .slice bo B.length cb, .slice so S.length cs, .slice tt T.length ct] 185)) 29 [.int .u64 p]).alloc (.cells #[.slice none 0 0, .slice none 0 0, .slice none 0 0, .slice none 0 0] 185); simpa using this
 have K2 : Blk 185 (((w.alloc (.cells #[.slice ao A.length ca, .slice bo B.length cb, .slice so S.length cs, .slice tt T.length ct] 185)).alloc (.cells #[.int .u64 p] 29)).alloc (.cells #[.slice none 0 0, .slice none 0 0, .slice none 0 0, .slice none 0 0] 185)) (w.heap.size + 1 + 1) [.slice none 0 0, .slice none 0 0, .slice none 0 0, .slice none 0 0] := by have := Blk.lit ((w.alloc (.cells #[.slice ao A.length ca, .slice bo B.length cb, .slice so S.length cs, .slice tt T.length ct] 185)).alloc (.cells #[.int .u64 p] 29)) 185 [.slice none 0 0, .slice none 0 0, .slice none 0 0, .slice none 0 0]; simpa using this
 have B0 : Below w.heap.size w (((w.alloc (.cells #[.slice ao A.length ca, .slice bo B.length cb, .slice so S.length cs, .slice tt T.length ct] 185)).alloc (.cells #[.int .u64 p] 29)).alloc (.cells #[.slice none 0 0, .slice none 0 0, .slice none 0 0, .slice none 0 0] 185)) := (((Below.refl _ _).alloc (Nat.le_refl _) _).alloc (by simp) _).alloc (by simp; omega) _
 go_enter Try.func182, Try.ntmps182
 go_wp2_with fail
 generalize (((w.alloc (.cells #[.slice ao A.length ca, .slice bo B.length cb, .slice so S.length cs, .slice tt T.length ct] 185)).alloc (.cells #[.int .u64 p] 29)).alloc (.cells #[.slice none 0 0, .slice none 0 0, .slice none 0 0, .slice none 0 0] 185)) = wb at *
 obtain ⟨g, eg⟩ : ∃ g, g = w.heap.size := ⟨_, rfl⟩
 rw [← eg] at K0 K1 K2 ⊢
 have hgw : w.heap.size ≤ g := by omega
 clear eg
 refine (fp_DivMod p _ _ A B _ HP.out HT.out (sa.next B0) (sb.next B0) (by omega) (by omega) (by rw [nl_of HP.out.pos mb]; exact H0.out)).mono ?_; rintro e w2 ⟨rq2, rr2, zy2, zr2, rfl, oq2, or2, mq2, mr2, vd2, ld2, lq2, lr2, b2⟩
 have hwb := B0.size
 have hk2 := K2.lt
 replace K0 := (K0.next b2).drew
 replace K1 := (K1.next b2).drew
 replace K2 := (K2.next b2).drew
 replace B0 := (B0.trans (b2.mono B0.size)).trans (Drawn.below (w' := w2.drew) ⟨1, rfl⟩ _)
 have hlt : zr2.length < B.length := by rw [nl_of HP.out.pos mb] at ld2; exact ld2
 have VD := Lib.hid vd2
 replace oq2 := oq2.drew
 replace or2 := or2.drew
 have tq := oq2.sl
 obtain ⟨ro, rb, rof, rc, rfl, -, -⟩ := or2.sl
 clear vd2 ld2
 have hwd : wb.heap.size ≤ w2.drew.heap.size := b2.size
 clear b2
 go_upto_region 2 with (fail)
 have z0 := Lib.hid fun (w : World) (hS : Below (w2.drew).heap.size (w2.drew) w) => And.intro (((K0.at hS) 0)) (And.intro (((K0.at hS) 1)) (And.intro ((K0.at hS) 2) (And.intro ((K0.at hS) 3) (K1.at hS 0))))
 refine startP (S := (fun w' => Below (w2.drew).heap.size (w2.drew) w')) (by kernel_rfl) _ rfl rfl rfl (by kernel_rfl) (Below.refl _ _) (fun hHeld => ?_)
 refine tk 0 ?_
 refine tf 1 z0.out ?_
 refine tk 2 ?_
 refine tk 3 ?_
 refine tf 4 z0.out ?_
 refine tf 5 z0.out ?_
 refine tk 6 ?_
 refine tf 7 z0.out ?_
 refine tf 8 z0.out ?_
 refine tk 9 ?_
 refine tk 10 ?_
 refine tf 11 z0.out ?_
 refine on 12 fun K hK => ?_
 go_simp
 go_at_call 65
 (with_reducible refine (fp_Mul p _ _ zy2 T _ HP.out (tq.next hHeld) ((st.next B0).next hHeld) (by omega) (by omega)).mono ?_); rintro e w4 ⟨r4, z4, rfl, o4, m4, v4, l4, b4⟩
 have V4 := Lib.hid v4; clear v4
 refine hK.out _ _ (hHeld.trans (b4.mono hHeld.size)) (fun hHeld => ?_)
 clear hK K
 try simp only [Act.put, zq1, zq2, zq3]
 refine on 13 fun K hK => ?_
 go_simp
 go_at_call 154
 (with_reducible refine (fp_Sub p _ _ S z4 _ HP.out ((ss.next B0).next hHeld) o4.sl (by omega) (by omega)).mono ?_); rintro e w5 ⟨r5, z5, rfl, o5, m5, v5, l5, b5⟩
 have V5 := Lib.hid v5; clear v5; have hk5 := Nat.le_trans hwd hHeld.size; obtain ⟨po, pb, pof, pc, rfl, -, -⟩ := o5.sl
 refine hK.out _ _ (hHeld.trans (b5.mono hHeld.size)) (fun hHeld => ?_)
 clear hK K
 try simp only [Act.put, zq1, zq2, zq3]
 refine tk 14 ?_
 clear z0; refine doneL (by kernel_rfl) ?_ _
 refine lastL rfl (by rfl) ?_
 replace K2 := K2.next hHeld
 have c0 := K2.cell 0
 have c1 := K2.cell 1
 have c2 := K2.cell 2
 have c3 := K2.cell 3
 have f0 := K2.free 0
 have f1 := K2.free 1
 have f2 := K2.free 2
 have f3 := K2.free 3
 have KF := (((K2.set 0 (.slice bo B.length cb)).set 1 (.slice ro zr2.length rc)).set 2 (.slice tt T.length ct)).set 3 (.slice po z5.length pc)
 have d0 := KF.cell 0
 have d1 := KF.cell 1
 have d2 := KF.cell 2
 have d3 := KF.cell 3
 go_wp2
 have oR := ((((or2.next hHeld).far (a := ⟨g + 1 + 1, 0, none⟩) hk2 (.slice bo B.length cb)).far (a := ⟨g + 1 + 1, 1, none⟩) hk2 (.slice ro zr2.length rc)).far (a := ⟨g + 1 + 1, 2, none⟩) hk2 (.slice tt T.length ct)).far (a := ⟨g + 1 + 1, 3, none⟩) hk2 (.slice po z5.length pc)
 have hk6 : g + 1 + 1 < w4.heap.size := Nat.lt_of_lt_of_le hk2 hk5
 have oS := (((o5.far (a := ⟨g + 1 + 1, 0, none⟩) hk6 (.slice bo B.length cb)).far (a := ⟨g + 1 + 1, 1, none⟩) hk6 (.slice ro zr2.length rc)).far (a := ⟨g + 1 + 1, 2, none⟩) hk6 (.slice tt T.length ct)).far (a := ⟨g + 1 + 1, 3, none⟩) hk6 (.slice po z5.length pc)
 have hg2 : w.heap.size ≤ g + 1 + 1 := by omega
 have BF := ((((B0.trans (hHeld.mono B0.size)).setCell (p := ⟨g + 1 + 1, 0, none⟩) hg2 (.slice bo B.length cb)).setCell (p := ⟨g + 1 + 1, 1, none⟩) hg2 (.slice ro zr2.length rc)).setCell (p := ⟨g + 1 + 1, 2, none⟩) hg2 (.slice tt T.length ct)).setCell (p := ⟨g + 1 + 1, 3, none⟩) hg2 (.slice po z5.length pc)
 refine bodyPost_ret (v := .agg #[.slice bo B.length cb, .slice ro zr2.length rc, .slice tt T.length ct, .slice po z5.length pc]) (by simp [results, Try.results182, go_sem, d0, d1, d2, d3]) rfl ⟨_, _, zr2, z5, pl p zy2, rfl, oR.mono hwb, oS.mono (Nat.le_trans hwb hk5), mr2, m5, VD.out, by rw [V5.out, V4.out], hlt, lr2, BF⟩
end Go.Proofs.Ytkmfhabgempjiaa
/- Package fpoly: Xgcd. -/
namespace Go.Proofs.Ytkmfhabgempjiaa
set_option maxHeartbeats 4000000
open Go.RowKit
def Sx (w : World) (ge : Nat) (v : Value) (xs : List Nat) : Prop := ∃ ao b off cap, v = .slice ao xs.length cap ∧ xs.length ≤ cap ∧ Cs .u64 w ao b off xs ∧ (xs ≠ [] → b ≠ ge)
theorem Sx.sl {w : World} {ge : Nat} {v : Value} {xs : List Nat} (h : Sx w ge v xs) : Sl .u64 w v xs := by
 obtain ⟨ao, b, off, cap, e, l, c, -⟩ := h; exact ⟨ao, b, off, cap, e, l, c⟩
theorem Sx.next {w w' : World} {ge : Nat} {v : Value} {xs : List Nat} (h : Sx w ge v xs) (hb : Below w.heap.size w w') : Sx w' ge v xs := by
 obtain ⟨ao, b, off, cap, e, l, c, n⟩ := h; exact ⟨ao, b, off, cap, e, l, c.below hb (Nat.le_refl _), n⟩
theorem Sx.set {w : World} {ge : Nat} {v : Value} {xs : List Nat} (h : Sx w ge v xs) (j : Nat) (u : Value) : Sx (w.setCell ⟨ge, j, none⟩ u) ge v xs := by
 obtain ⟨ao, b, off, cap, e, l, c, n⟩ := h
 refine ⟨ao, b, off, cap, e, l, ?_, n⟩
 by_cases hx : xs = []
 ·subst hx; exact ⟨fun h => absurd rfl h, fun j hj => by simp at hj⟩
 ·exact c.set_far (n hx) u
theorem Sx.of {w : World} {v : Value} {xs : List Nat} (h : Sl .u64 w v xs) {ge : Nat} (hg : w.heap.size ≤ ge) : Sx w ge v xs := by
 obtain ⟨ao, b, off, cap, e, l, c⟩ := h
 exact ⟨ao, b, off, cap, e, l, c, fun hx => by have := c.lt hx; omega⟩
theorem Sx.own {e : TypeId} {w : World} {base : Nat} {v : Value} {xs : List Nat} (h : Own .u64 e w base v xs) {ge : Nat} (hg : ge < base) : Sx w ge v xs := by
 rcases h.shape with ⟨rfl, rfl⟩ | ⟨g, cap, rfl, hb, _, hn, _⟩
 ·exact ⟨none, 0, 0, 0, rfl, Nat.le_refl _, ⟨fun h => absurd rfl h, fun j hj => by simp at hj⟩, fun h => absurd rfl h⟩
 ·obtain ⟨ao, b, off, cap', e, l, c⟩ := h.sl
  simp only [Value.slice.injEq] at e
  obtain ⟨rfl, -, rfl⟩ := e
  exact ⟨_, b, off, _, rfl, l, c, fun hx => by have := c.ao hx; simp at this; omega⟩
theorem Sx.nil (w : World) (ge : Nat) : Sx w ge (.slice none 0 0) [] := ⟨none, 0, 0, 0, rfl, Nat.le_refl _, ⟨fun h => absurd rfl h, fun j hj => by simp at hj⟩, fun h => absurd rfl h⟩
structure XRel (p : Nat) (w wr : World) (g ge : Nat) (A0 B0 : List Nat) (r2 r3 va vb vs vt : Value) (A B S T : List Nat) (K : Nat) : Prop where
 fx : Fx p w wr g
 blk : Blk 185 wr ge [va, vb, vs, vt]
 sa0 : Sx wr ge r2 A0
 sb0 : Sx wr ge r3 B0
 sa : Sx wr ge va A
 sb : Sx wr ge vb B
 ss : Sx wr ge vs S
 st : Sx wr ge vt T
 ma : Nrm p A
 mb : Nrm p B
 ls : S.length + B.length ≤ K + 1
 lt : T.length + A.length ≤ K + 1
 sam : Same2 (pl p A) (pl p B) (pl p A0) (pl p B0)
 ca : ∃ t, pl p A = pl p S * pl p A0 + t * pl p B0
 cb : ∃ t, pl p B = pl p T * pl p A0 + t * pl p B0
 no : B0 = [] → B = [] ∧ S.length ≤ 1
theorem x_len {p : Nat} (ht : Trial p) {A B S T zr zs : List Nat} {q : Pol (Zp p)} {K : Nat} (mb : Nrm p B) (h0 : B ≠ []) (mz : Nrm p zs) (e : pl p A = q * pl p B + pl p zr) (es : pl p zs = pl p S - q * pl p T)
  (hr : zr.length < B.length) (ls : S.length + B.length ≤ K + 1) (lt : T.length + A.length ≤ K + 1) : zs.length + B.length ≤ K + 1 := by
 have hp := trial_gt ht
 have hB := List.length_pos_iff.2 h0
 obtain ⟨n, hn⟩ : ∃ n, B.length = n + 1 := ⟨B.length - 1, by omega⟩
 have lB : Ln (pl p B) (n + 1) := by rw [← hn]; exact nrm_ln (by omega) mb
 obtain ⟨m, hq⟩ := Ln.exists q
 cases m with
 | zero =>
  have : zs.length ≤ S.length := pl_len (by omega) mz (by rw [es, hq.nil, CR.zero_mul, CR.sub_zero]; exact pl_dlt p S)
  omega
 | succ m =>
  have h1 := hq.mul ht lB
  have h2 : q * pl p B = pl p A - pl p zr := by rw [e]; exact by_ring [q * pl p B, pl p zr] X0 (X0 + X1 - X1) rfl
  have h3 : m + n + 1 ≤ max A.length zr.length := by
   rw [h2] at h1
   exact h1.le (dlt_sub (dlt_mono (pl_dlt p A) (by omega)) (dlt_mono (pl_dlt p zr) (by omega)))
  have h4 : zs.length ≤ max S.length (m + T.length) := by
   refine pl_len (by omega) mz ?_
   rw [es]
   refine dlt_sub (dlt_mono (pl_dlt p S) (by omega)) ?_
   by_cases hT : T = []
   ·rw [hT, pl_nil, CR.mul_zero]; exact dlt_zero _
   ·have := List.length_pos_iff.2 hT
    have h5 := mul_dlt' (f := q) (g := pl p T) (a := m) (b := T.length - 1) hq.1 (by rw [Nat.sub_add_cancel this]; exact pl_dlt p T)
    exact dlt_mono h5 (by omega)
  omega
def RetX (p : Nat) (w : World) (xs ys : List Nat) (e : Ending) (w' : World) : Prop :=
 ∃ rg rs rt zg zs zt, e = .returned (.tuple #[rg, rs, rt]) ∧ Sl .u64 w' rg zg ∧ Sl .u64 w' rs zs ∧ Sl .u64 w' rt zt ∧ Nrm p zg ∧ Nrm p zs ∧ Nrm p zt ∧
  IsGcd (pl p zg) (pl p xs) (pl p ys) ∧ pl p zg = pl p zs * pl p xs + pl p zt * pl p ys ∧ (nl p ys = [] → zt = [] ∧ zs.length ≤ 1) ∧
  (nl p ys ≠ [] → ∃ zp, Nrm p zp ∧ pl p ys = pl p zp * pl p zg ∧ zs.length < zp.length) ∧ zg.length ≤ 400000000000 ∧ zs.length ≤ 400000000000 ∧ zt.length ≤ 900000000000 ∧ Below w.heap.size w w'
theorem fp_Xgcd (p : Nat) (v u : Value) (xs ys : List Nat) (w : World) (hp : FP p) (ht : Trial p) (s0 : Sl .u64 w v xs) (s1 : Sl .u64 w u ys) (hm : xs.length ≤ 200000000000) (hn : ys.length ≤ 200000000000) :
  Calls Try.prog 179 #[.agg #[.int .u64 p], v, u] w (RetX p w xs ys) := by
 have HT := Lib.hid ht; clear ht
 have HP := Lib.hid hp; clear hp
 have fx := Fx.box (p := p) (Below.refl w.heap.size w)
 go_enter Try.func179, Try.ntmps179
 go_upto_region 1 with (fail)
 generalize w.alloc (.cells #[.int .u64 p] 29) = wb at *
 obtain ⟨g, eg⟩ : ∃ g, g = w.heap.size := ⟨_, rfl⟩
 rw [← eg] at fx ⊢
 have hgw : w.heap.size ≤ g := by omega
 clear eg
 have fd := fx.drew
 have t0 := s0.next fd.below
 have t1 := s1.next fd.below
 clear s0 s1 fx
 have z0 := Lib.hid fun (w : World) (hS : Below (wb.drew).heap.size (wb.drew) w) => fd.at hS
 refine startL (S := (fun w' => Below (wb.drew).heap.size (wb.drew) w')) (by kernel_rfl) (Below.refl _ _) (fun hHeld => ?_)
 refine tf 0 z0.out ?_
 refine tk 1 ?_
 refine tf 3 z0.out ?_
 refine tk 4 ?_
 refine on 2 fun K hK => ?_
 go_simp
 go_at_call 80
 (with_reducible refine (fp_Norm p v xs _ HP.out (t0.next hHeld) (by omega)).mono ?_); rintro e w2 ⟨r2, A0, rfl, oA, mA, vA, lA, b2⟩
 have VA := Lib.hid vA; clear vA
 refine hK.out _ _ (hHeld.trans (b2.mono hHeld.size)) (fun hHeld => ?_)
 clear hK K
 try simp only [Act.put, zq1, zq2, zq3]
 refine on 5 fun K hK => ?_
 go_simp
 go_at_call 80
 (with_reducible refine (fp_Norm p u ys _ HP.out (t1.next hHeld) (by omega)).mono ?_); rintro e w3 ⟨r3, B0, rfl, oB, mB, vB, lB, b3⟩
 have VB := Lib.hid vB; clear vB; replace oA := oA.next b3
 refine hK.out _ _ (hHeld.trans (b3.mono hHeld.size)) (fun hHeld => ?_)
 clear hK K
 try simp only [Act.put, zq1, zq2, zq3]
 refine tk 6 ?_
 refine tk 7 ?_
 clear z0; refine doneL (by kernel_rfl) ?_ _
 have tA := oA.sl
 have tB := oB.sl
 obtain ⟨ao, ba, oa, ca, rfl, -, -⟩ := id tA
 obtain ⟨bo, bb, ob, cb, rfl, -, -⟩ := id tB
 replace fd := fd.next hHeld
 clear t0 t1 hHeld b2 b3 oA oB
 go_upto_region 3 with (fail)
 have L1 : Sl .u64 (w3.alloc (.cells #[.int .u64 1] 27)) (.slice (some ⟨w3.heap.size, 0, none⟩) 1 1) [1] := (own_lit1 w3 1).sl
 have B1 : Below w3.heap.size w3 (w3.alloc (.cells #[.int .u64 1] 27)) := (Below.refl _ _).alloc (Nat.le_refl _) _
 have hs1 : (w3.alloc (.cells #[.int .u64 1] 27)).heap.size = w3.heap.size + 1 := by simp
 have XA := (Sx.of tA (ge := w3.heap.size + 1) (by omega)).next B1
 have XB := (Sx.of tB (ge := w3.heap.size + 1) (by omega)).next B1
 have X1 := Sx.of L1 (ge := w3.heap.size + 1) (by omega)
 have f1 := fd.next B1
 obtain ⟨gl, egl⟩ : ∃ gl, gl = w3.heap.size := ⟨_, rfl⟩
 obtain ⟨ge, ege⟩ : ∃ ge, ge = w3.heap.size + 1 := ⟨_, rfl⟩
 have hgge : g < ge := by have := fd.lt; omega
 have hwge : w.heap.size ≤ ge := by have := fd.below.size; omega
 rw [← ege] at XA XB X1 hs1 ⊢
 rw [← egl] at X1 ⊢
 have hlb := lB; have hla := lA
 generalize w3.alloc (.cells #[.int .u64 1] 27) = wl at *
 have K0 : Blk 185 (wl.alloc (.cells #[.slice ao A0.length ca, .slice bo B0.length cb, .slice (some ⟨gl, 0, none⟩) 1 1, .slice none 0 0] 185)) ge [.slice ao A0.length ca, .slice bo B0.length cb, .slice (some ⟨gl, 0, none⟩) 1 1, .slice none 0 0] := by
  have := Blk.lit wl 185 [.slice ao A0.length ca, .slice bo B0.length cb, .slice (some ⟨gl, 0, none⟩) 1 1, .slice none 0 0]
  rwa [hs1] at this
 have B2 : Below wl.heap.size wl (wl.alloc (.cells #[.slice ao A0.length ca, .slice bo B0.length cb, .slice (some ⟨gl, 0, none⟩) 1 1, .slice none 0 0] 185)) := (Below.refl _ _).alloc (Nat.le_refl _) _
 generalize wl.alloc (.cells #[.slice ao A0.length ca, .slice bo B0.length cb, .slice (some ⟨gl, 0, none⟩) 1 1, .slice none 0 0] 185) = we at *
 have st : XRel p w we g ge A0 B0 (.slice ao A0.length ca) (.slice bo B0.length cb) (.slice ao A0.length ca) (.slice bo B0.length cb) (.slice (some ⟨gl, 0, none⟩) 1 1) (.slice none 0 0) A0 B0 [1] [] (max A0.length B0.length) :=
  ⟨f1.next B2, K0, XA.next B2, XB.next B2, XA.next B2, XB.next B2, X1.next B2, Sx.nil _ _, mA, mB, by simp; omega, by simp; omega, Same2.refl _ _,
   ⟨0, by rw [show pl p [1] = 1 from Pol.ext fun i => by rw [pl_c, Pol.one_def, c_mon]; cases i <;> rfl, CR.one_mul, CR.zero_mul, CR.add_zero]⟩, ⟨1, by rw [pl_nil, CR.zero_mul, CR.zero_add, CR.one_mul]⟩, fun h => ⟨h, by simp⟩⟩
 obtain ⟨K, eK⟩ : ∃ K, K = max A0.length B0.length := ⟨_, rfl⟩
 rw [← eK] at st
 have hK : K ≤ 200000000000 := by omega
 have MA := Lib.hid mA; have MB := Lib.hid mB
 clear tA tB L1 B1 B2 hs1 XA XB X1 f1 fd K0 egl ege eK mA mB
 go_wp2_with fail
 go_loopw [32] (fun _ wr => ∃ (va vb vs vt : Value) (A B S T : List Nat), XRel p w wr g ge A0 B0 (.slice ao A0.length ca) (.slice bo B0.length cb) va vb vs vt A B S T K) (fun _ wr => match wr.cell? ⟨ge, 1, none⟩ with | some (.slice _ n _) => n | _ => 0)
 case atStart => exact ⟨_, _, _, _, _, _, _, _, st⟩
 case round =>
  clear st
  obtain ⟨va, vb, vs, vt, A, B, S, T, st⟩ := hrel
  obtain ⟨a1, -, -, a2, rfl, -, -, -⟩ := id st.sa
  obtain ⟨b1, -, -, b2, rfl, -, -, -⟩ := id st.sb
  obtain ⟨s1, -, -, s2, rfl, -, -, -⟩ := id st.ss
  obtain ⟨t1, -, -, t2, rfl, -, -, -⟩ := id st.st
  have hcg := st.fx.cell
  have c0 := st.blk.cell 0
  have c1 := st.blk.cell 1
  have c2 := st.blk.cell 2
  have c3 := st.blk.cell 3
  have hls := st.ls; have hlt := st.lt
  by_cases h0 : 0 < B.length
  ·have hB : B ≠ [] := List.length_pos_iff.mp h0
   go_wp2_with fail
   refine (fp_step p _ _ _ _ A B S T _ HP.out HT.out st.sa.sl st.sb.sl st.ss.sl st.st.sl (by omega) (by omega) (by omega) (by omega) st.mb hB).mono ?_
   rintro e w4 ⟨rr, rs, zr, zs, q, rfl, oR, oS, mr, ms, hq, hs, hrl, hra, b4⟩
   have hxl := x_len HT.out st.mb hB ms hq hs hrl hls hlt
   have hgw4 : ge < wr.heap.size := st.blk.lt
   obtain ⟨r1, -, -, r2, rfl, -, -, -⟩ := Sx.own oR hgw4
   obtain ⟨p1, -, -, p2, rfl, -, -, -⟩ := Sx.own oS hgw4
   have K4 := st.blk.next b4
   have KF := (((K4.set 0 (.slice b1 B.length b2)).set 1 (.slice r1 zr.length r2)).set 2 (.slice t1 T.length t2)).set 3 (.slice p1 zs.length p2)
   have hS4 : ∀ {v : Value} {xs : List Nat}, Sx w4 ge v xs → Sx ((((w4.setCell ⟨ge, 0, none⟩ (.slice b1 B.length b2)).setCell ⟨ge, 1, none⟩ (.slice r1 zr.length r2)).setCell ⟨ge, 2, none⟩ (.slice t1 T.length t2)).setCell ⟨ge, 3, none⟩ (.slice p1 zs.length p2)) ge v xs :=
    fun h => ((((h.set 0 _).set 1 _).set 2 _).set 3 _)
   have hne : g ≠ ge := by omega
   have st2 : XRel p w ((((w4.setCell ⟨ge, 0, none⟩ (.slice b1 B.length b2)).setCell ⟨ge, 1, none⟩ (.slice r1 zr.length r2)).setCell ⟨ge, 2, none⟩ (.slice t1 T.length t2)).setCell ⟨ge, 3, none⟩ (.slice p1 zs.length p2)) g ge A0 B0 (.slice ao A0.length ca) (.slice bo B0.length cb) (.slice b1 B.length b2) (.slice r1 zr.length r2) (.slice t1 T.length t2) (.slice p1 zs.length p2) B zr T zs K :=
    ⟨((((st.fx.next b4).set (a := ⟨ge, 0, none⟩) hwge hne _).set (a := ⟨ge, 1, none⟩) hwge hne _).set (a := ⟨ge, 2, none⟩) hwge hne _).set (a := ⟨ge, 3, none⟩) hwge hne _,
     KF, hS4 (st.sa0.next b4), hS4 (st.sb0.next b4), hS4 (st.sb.next b4), hS4 (Sx.own oR hgw4), hS4 (st.st.next b4), hS4 (Sx.own oS hgw4), st.mb, mr, by omega, hxl, st.sam.step hq, st.cb, by
      obtain ⟨t, ht⟩ := st.ca
      obtain ⟨t', ht'⟩ := st.cb
      refine ⟨t - q * t', ?_⟩
      have h1 : pl p zr = pl p A - q * pl p B := by rw [hq]; exact by_ring [q, pl p B, pl p zr] X2 (X0 * X1 + X2 - X0 * X1) rfl
      rw [h1, hs, ht, ht']
      exact by_ring [pl p S, pl p A0, t, pl p B0, q, pl p T, t'] (X0 * X1 + X2 * X3 - X4 * (X5 * X1 + X6 * X3)) ((X0 - X4 * X5) * X1 + (X2 - X4 * X6) * X3) rfl,
     fun h => absurd (st.no h).1 hB⟩
   have hc1 := KF.cell 1
   have e0 := K4.cell 0; have e1 := K4.cell 1; have e2 := K4.cell 2; have e3 := K4.cell 3
   have g0 := K4.free 0; have g1 := K4.free 1; have g2 := K4.free 2; have g3 := K4.free 3
   have HQ := Lib.hid hq; have HS := Lib.hid hs
   have HC1 := Lib.hid c1
   have HD1 := Lib.hid hc1
   have HRL := Lib.hid hrl
   clear hq hs c0 c1 c2 c3 hcg oR oS b4 st hc1 KF K4
   go_wp2
   go_roundw
   case rel => exact ⟨_, _, _, _, _, _, _, _, st2⟩
   case measure => rw [HD1.out, HC1.out]; exact HRL.out
  ·obtain rfl : B = [] := List.length_eq_zero_iff.mp (by omega)
   clear h0
   obtain ⟨x, ex⟩ : ∃ x, x = A.getD (A.length - 1) 0 := ⟨_, rfl⟩
   obtain ⟨y, ey⟩ : ∃ y, y = (Zp.of p x).iv.val := ⟨_, rfl⟩
   have hu : A = [] ∨ ∃ n, Ln (pl p A) (n + 1) ∧ Zp.of p y * (pl p A).c n = 1 := by
    by_cases h : A = []
    ·exact Or.inl h
    ·right
     obtain ⟨n, hn⟩ : ∃ n, A.length = n + 1 := ⟨A.length - 1, by have := List.length_pos_iff.2 h; omega⟩
     refine ⟨n, by rw [← hn]; exact nrm_ln HP.out.pos st.ma, ?_⟩
     rw [(Zp.fact HP.out ey).2, ex, show A.length - 1 = n by omega]
     exact lead_inv HT.out st.ma hn
   have HU := Lib.hid hu
   have EX := Lib.hid ex; have EY := Lib.hid ey
   have hla1 : A.length ≤ 200000000001 := by omega
   have hls1 : S.length ≤ 200000000001 := by simp at hls; omega
   clear ex ey hu hls hlt
   have fe := st.fx.drew
   have kb := st.blk.drew
   have sA := st.sa.sl.drew
   have sS := st.ss.sl.drew
   have sA0 := st.sa0.sl.drew
   have sB0 := st.sb0.sl.drew
   have HR := Lib.hid (show Same2 (pl p A) 0 (pl p A0) (pl p B0) ∧ (∃ t, pl p A = pl p S * pl p A0 + t * pl p B0) ∧ (B0 = [] → S.length ≤ 1) from ⟨by have := st.sam; rwa [pl_nil] at this, st.ca, fun h => (st.no h).2⟩)
   have hmA := st.ma
   go_upto_region 5 with (fail)
   clear c0 c1 c2 c3 hcg st
   have z0 := Lib.hid fun (w : World) (hS : Below (wr.drew).heap.size (wr.drew) w) => And.intro (fe.at hS) (kb.at hS 0)
   refine startL (S := (fun w' => Below (wr.drew).heap.size (wr.drew) w')) (by kernel_rfl) (Below.refl _ _) (fun hHeld => ?_)
   refine tf 0 z0.out ?_
   refine tf 1 z0.out ?_
   refine tk 2 ?_
   refine tf 3 z0.out ?_
   refine on 4 fun K hK => ?_
   go_simp
   go_at_call 138
   (with_reducible refine (fp_lead p x _ A A _ HP.out (sA.next hHeld) (by omega) (nl_of HP.out.pos hmA).symm EX.out).mono ?_); rintro e w5 ⟨rfl, b5⟩
   refine hK.out _ _ (hHeld.trans (b5.mono hHeld.size)) (fun hHeld => ?_)
   clear hK K
   try simp only [Act.put, zq1, zq2, zq3]
   refine on 5 fun K hK => ?_
   go_simp
   go_at_call 131
   (with_reducible refine (gfp_Inv p x y _ HP.out EY.out).mono ?_); rintro e w6 ⟨rfl, b6⟩
   refine hK.out _ _ (hHeld.trans (b6.mono hHeld.size)) (fun hHeld => ?_)
   clear hK K
   try simp only [Act.put, zq1, zq2, zq3]
   refine tk 6 ?_
   clear z0; refine doneL (by kernel_rfl) ?_ _
   replace fe := (fe.next hHeld).drew
   replace sA0 := (sA0.next hHeld).drew
   replace sB0 := (sB0.next hHeld).drew
   replace kb := (kb.next hHeld).drew
   replace sA := (sA.next hHeld).drew
   replace sS := (sS.next hHeld).drew
   clear hHeld b5 b6
   go_upto_region 6 with (fail)
   have z0 := Lib.hid fun (w : World) (hS : Below (w6.drew).heap.size (w6.drew) w) => And.intro (fe.at hS) (And.intro (kb.at hS 0) (kb.at hS 2))
   refine startL (S := (fun w' => Below (w6.drew).heap.size (w6.drew) w')) (by kernel_rfl) (Below.refl _ _) (fun hHeld => ?_)
   refine tf 0 z0.out ?_
   refine tk 1 ?_
   refine tf 2 z0.out ?_
   refine tk 3 ?_
   refine tf 5 z0.out ?_
   refine tk 6 ?_
   refine tf 7 z0.out ?_
   refine tk 8 ?_
   refine on 4 fun K hK => ?_
   go_simp
   go_at_call 132
   (with_reducible refine (fp_Scale p y _ A _ HP.out (sA.next hHeld) (by omega)).mono ?_); rintro e w7 ⟨rg, zg, rfl, og, mg, vg, lg, b7⟩
   have VG := Lib.hid vg; clear vg
   refine hK.out _ _ (hHeld.trans (b7.mono hHeld.size)) (fun hHeld => ?_)
   clear hK K
   try simp only [Act.put, zq1, zq2, zq3]
   refine on 9 fun K hK => ?_
   go_simp
   go_at_call 132
   (with_reducible refine (fp_Scale p y _ S _ HP.out (sS.next hHeld) (by omega)).mono ?_); rintro e w8 ⟨r8, zs1, rfl, os1, ms1, vs1, ls1, b8⟩
   have VS := Lib.hid vs1; clear vs1; replace og := og.next b8
   refine hK.out _ _ (hHeld.trans (b8.mono hHeld.size)) (fun hHeld => ?_)
   clear hK K
   try simp only [Act.put, zq1, zq2, zq3]
   refine tk 10 ?_
   refine tk 11 ?_
   clear z0; refine doneL (by kernel_rfl) ?_ _
   replace fe := fe.next hHeld
   replace sA0 := sA0.next hHeld
   replace sB0 := sB0.next hHeld
   have sG := og.sl
   have sS1 := os1.sl
   clear hHeld b7 b8 og os1 sA sS kb
   have hgcd : IsGcd (pl p zg) (pl p xs) (pl p ys) := by
    rw [← VA.out, ← VB.out]
    exact HR.out.1.gcd (RetMo.mo HU.out VG.out) VG.out (RetMo.dv HU.out VG.out)
   have HG := Lib.hid hgcd; clear hgcd
   have hB0 := nl_is HP.out.pos MB.out VB.out
   have HB0 := Lib.hid hB0; clear hB0
   by_cases hb0 : B0.length = 0
   ·have e0 : B0 = [] := List.length_eq_zero_iff.mp hb0
    have hz : ((B0.length : Int) == 0) = true := by rw [hb0]; rfl
    have fin : pl p zg = pl p zs1 * pl p xs + pl p [] * pl p ys := by
     obtain ⟨t, ht⟩ := HR.out.2.1
     rw [VG.out, VS.out, ht, ← VA.out, e0, pl_nil]
     exact by_ring [pl p S, pl p A0, t, mon (Zp.of p y) 0, pl p ys] ((X0 * X1 + X2 * 0) * X3) (X0 * X3 * X1 + 0 * X4) rfl
    have FIN := Lib.hid fin
    have hs1 := HR.out.2.2 e0
    have HNE := Lib.hid (fun h : nl p ys ≠ [] => h (HB0.out.symm.trans e0))
    clear fin e0
    go_wp2
    refine bodyPost_ret (v := .tuple #[rg, r8, .slice none 0 0]) (by simp [results, Try.results179, go_sem]) rfl ⟨rg, r8, _, zg, zs1, [], rfl, sG, sS1, Sl.nil _ _, mg, ms1, nrm_nil _, HG.out, FIN.out, fun _ => ⟨rfl, by omega⟩, fun h => absurd h HNE.out, by omega, by omega, by simp, fe.below⟩
   ·have hz : ((B0.length : Int) == 0) = false := beq_eq_false_iff_ne.mpr (by omega)
    have hBne : B0 ≠ [] := fun h => hb0 (by rw [h]; rfl)
    have hgne : pl p zg ≠ 0 := fun h => by
     have := (gcd_nil (h ▸ HG.out)).2
     rw [← VB.out] at this
     exact hBne (pl_zero HP.out.pos MB.out this)
    have hgn : nl p zg ≠ [] := fun h => hgne ((nl_nil HP.out.pos).1 h)
    have hcg := fe.cell
    go_wp2_with fail
    refine (fp_DivMod p _ _ B0 zg _ HP.out HT.out sB0 sG (by omega) (by omega) hgn).mono ?_; rintro e w9 ⟨rq9, rr9, zy9, zr9, rfl, oq9, or9, mq9, mr9, vd9, ld9, lq9, lr9, b9⟩
    obtain ⟨ng, hng⟩ := (nrm_ln HP.out.pos mg).pos hgne
    have lnG : Ln (pl p zg) (ng + 1) := by rw [← hng]; exact nrm_ln HP.out.pos mg
    have hpart : pl p B0 = pl p zy9 * pl p zg := by
     rw [nl_of HP.out.pos mg] at ld9
     have := (dv_rem HT.out lnG (dlt_mono (pl_dlt p zr9) (by omega)) vd9).1 (by have := HG.out.2.2.1; rwa [← VB.out] at this)
     rw [this, CR.add_zero] at vd9; exact vd9
    have hpne : nl p zy9 ≠ [] := fun h => by
     rw [(nl_nil HP.out.pos).1 h, CR.zero_mul] at hpart
     exact hBne (pl_zero HP.out.pos MB.out hpart)
    have HPA := Lib.hid hpart
    replace fe := fe.next b9
    replace sA0 := sA0.next b9; replace sB0 := sB0.next b9; replace sG := sG.next b9; replace sS1 := sS1.next b9
    replace hcg := fe.cell
    have sP := oq9.sl
    have hlq9 := lq9
    have HGN := Lib.hid hgne
    clear vd9 ld9 hpart oq9 or9 mr9 lr9 b9 lnG hng hgne hgn lq9
    go_wp2_with fail
    refine (fp_DivMod p _ _ zs1 zy9 _ HP.out HT.out sS1 sP (by omega) (by omega) hpne).mono ?_; rintro e w10 ⟨rq10, rr10, zq10, zr10, rfl, oq10, or10, mq10, mr10, vd10, ld10, lq10, lr10, b10⟩
    have VD := Lib.hid vd10
    have hps : zr10.length < zy9.length := by rw [nl_of HP.out.pos mq9] at ld10; exact ld10
    replace fe := (fe.next b10).drew
    replace sA0 := (sA0.next b10).drew; replace sB0 := (sB0.next b10).drew; replace sG := (sG.next b10).drew
    have sR := or10.sl.drew
    clear vd10 ld10 b10 oq10 or10 mq10 hcg sP sS1 hpne
    have hBn : nl p B0 ≠ [] := by rw [nl_of HP.out.pos MB.out]; exact hBne
    go_upto_region 11 with (fail)
    have z0 := Lib.hid fun (w : World) (hS : Below (w10.drew).heap.size (w10.drew) w) => fe.at hS
    refine startL (S := (fun w' => Below (w10.drew).heap.size (w10.drew) w')) (by kernel_rfl) (Below.refl _ _) (fun hHeld => ?_)
    refine tf 0 z0.out ?_
    refine tf 1 z0.out ?_
    refine tk 2 ?_
    refine tf 3 z0.out ?_
    refine tk 4 ?_
    refine tk 5 ?_
    refine tk 8 ?_
    refine on 6 fun K hK => ?_
    go_simp
    go_at_call 65
    (with_reducible refine (fp_Mul p _ _ zr10 A0 _ HP.out (sR.next hHeld) (sA0.next hHeld) (by omega) (by omega)).mono ?_); rintro e w11 ⟨r11, z11, rfl, o11, m11, v11, l11, b11⟩
    have V11 := Lib.hid v11; clear v11
    refine hK.out _ _ (hHeld.trans (b11.mono hHeld.size)) (fun hHeld => ?_)
    clear hK K
    try simp only [Act.put, zq1, zq2, zq3]
    refine on 7 fun K hK => ?_
    go_simp
    go_at_call 154
    (with_reducible refine (fp_Sub p _ _ zg z11 _ HP.out (sG.next hHeld) o11.sl (by omega) (by omega)).mono ?_); rintro e w12 ⟨r12, z12, rfl, o12, m12, v12, l12, b12⟩
    have V12 := Lib.hid v12; clear v12
    refine hK.out _ _ (hHeld.trans (b12.mono hHeld.size)) (fun hHeld => ?_)
    clear hK K
    try simp only [Act.put, zq1, zq2, zq3]
    refine on 9 fun K hK => ?_
    go_simp
    go_at_call 88
    (with_reducible refine (fp_DivMod p _ _ z12 B0 _ HP.out HT.out o12.sl (sB0.next hHeld) (by omega) (by omega) hBn).mono ?_); rintro e w13 ⟨rq13, rr13, zq13, zr13, rfl, oq13, or13, mq13, mr13, vd13, ld13, lq13, lr13, b13⟩
    have VT := Lib.hid vd13; clear vd13
    refine hK.out _ _ (hHeld.trans (b13.mono hHeld.size)) (fun hHeld => ?_)
    clear hK K
    try simp only [Act.put, zq1, zq2, zq3]
    refine tk 10 ?_
    refine tk 11 ?_
    refine tk 12 ?_
    refine tk 13 ?_
    refine tk 14 ?_
    refine tk 15 ?_
    refine tk 16 ?_
    clear z0; refine doneL (by kernel_rfl) ?_ _
    replace fe := fe.next hHeld
    replace sG := sG.next hHeld
    replace sR := sR.next hHeld
    have fin : pl p zg = pl p zr10 * pl p xs + pl p zq13 * pl p ys := by
     obtain ⟨nb, hnb⟩ : ∃ nb, B0.length = nb + 1 := ⟨B0.length - 1, by omega⟩
     have lnB : Ln (pl p B0) (nb + 1) := by rw [← hnb]; exact nrm_ln HP.out.pos MB.out
     have hd : Dv (pl p B0) (pl p z12) := by
      obtain ⟨t, ht⟩ := HR.out.2.1
      obtain ⟨c, hc⟩ := HG.out.2.1
      rw [← VA.out] at hc
      refine ⟨t * mon (Zp.of p y) 0 + pl p zq10 * c, ?_⟩
      have e1 : pl p zg = (pl p S * pl p A0 + t * pl p B0) * mon (Zp.of p y) 0 := by rw [VG.out, ht]
      have e2 : pl p zr10 = pl p S * mon (Zp.of p y) 0 - pl p zq10 * pl p zy9 := by
       rw [← VS.out, VD.out]; exact by_ring [pl p zq10 * pl p zy9, pl p zr10] X1 (X0 + X1 - X0) rfl
      have e3 : pl p zy9 * pl p A0 = pl p B0 * c := by rw [hc, HPA.out]; exact (CR.mul_assoc _ _ _).symm
      have e4 : pl p z12 = t * pl p B0 * mon (Zp.of p y) 0 + pl p zq10 * (pl p zy9 * pl p A0) := by
       rw [V12.out, V11.out, e2, e1]
       exact by_ring [pl p S, pl p A0, t, pl p B0, mon (Zp.of p y) 0, pl p zq10, pl p zy9] ((X0 * X1 + X2 * X3) * X4 - (X0 * X4 - X5 * X6) * X1) (X2 * X3 * X4 + X5 * (X6 * X1)) rfl
      rw [e4, e3]
      exact by_ring [t, pl p B0, mon (Zp.of p y) 0, pl p zq10, c] (X0 * X1 * X2 + X3 * (X1 * X4)) (X1 * (X0 * X2 + X3 * X4)) rfl
     rw [nl_of HP.out.pos MB.out] at ld13
     have h0 := (dv_rem HT.out lnB (dlt_mono (pl_dlt p zr13) (by omega)) VT.out).1 hd
     have h1 := VT.out
     rw [h0, CR.add_zero, V12.out, V11.out] at h1
     rw [← VA.out, ← VB.out, ← h1]
     exact by_ring [pl p zg, pl p zr10 * pl p A0] X0 (X1 + (X0 - X1)) rfl
    have FIN := Lib.hid fin
    have HNE := Lib.hid (fun h : nl p ys = [] => hBne (HB0.out.trans h))
    clear fin
    go_wp2
    refine bodyPost_ret (v := .tuple #[rg, rr10, rq13]) (by simp [results, Try.results179, go_sem]) rfl ⟨rg, rr10, rq13, zg, zr10, zq13, rfl, sG, sR, oq13.sl, mg, mr10, mq13, HG.out, FIN.out, fun h => absurd h HNE.out, fun _ => ⟨zy9, mq9, by rw [← VB.out]; exact HPA.out, hps⟩, by omega, by omega, by omega, fe.below⟩
end Go.Proofs.Ytkmfhabgempjiaa
/- A slice of slices of words: what it reads as; opened where it comes in. -/
namespace Go.Proofs.Ytkmfhabgempjiaa
set_option maxHeartbeats 4000000
open Go.ChangeShapes Go.WideShapes Go.ChangeAt Go.RowKit Go.Deep Go.Joins
def Ns (w : World) (v : Value) (qs : List (List Nat)) : Prop := ∃ (ao : Option Addr) (b off cap : Nat) (U : Nat → Value), v = .slice ao qs.length cap ∧ qs.length ≤ cap ∧ (0 < qs.length → ao = some ⟨b, off, none⟩ ∧ b < w.heap.size) ∧
 ∀ j, j < qs.length → w.cell? ⟨b, off + j, none⟩ = some (U j) ∧ Sl .u64 w (U j) (qs.getD j []) ∧ wf W64 (qs.getD j [])
theorem Ns.below {w w' : World} {v : Value} {qs : List (List Nat)} (h : Ns w v qs) {B : Nat} (hb : Below B w w') (hB : w.heap.size ≤ B) : Ns w' v qs := by
 obtain ⟨ao, b, off, cap, U, e, h1, h2, h3⟩ := h
 refine ⟨ao, b, off, cap, U, e, h1, fun h => ⟨(h2 h).1, by have := (h2 h).2; have := hb.size; omega⟩, fun j hj => ?_⟩
 obtain ⟨k1, k2, k3⟩ := h3 j hj
 have := (h2 (by omega)).2
 exact ⟨(hb.cell (p := ⟨b, off + j, none⟩) (by simp; omega)).trans k1, k2.below hb hB, k3⟩
theorem Ns.next {w w' : World} {v : Value} {qs : List (List Nat)} (h : Ns w v qs) (hb : Below w.heap.size w w') : Ns w' v qs := h.below hb (Nat.le_refl _)
theorem Ns.slc {w : World} {v : Value} {qs : List (List Nat)} (h : Ns w v qs) : ∃ ao cap, v = .slice ao qs.length cap := by
 obtain ⟨ao, _, _, cap, _, e, _⟩ := h; exact ⟨ao, cap, e⟩
section
variable {H : Type} {enc : TypeId × Value → H} {P : Program} {w : World} {base : Nat} {spare : Nat → Bool} {held : Bool}
theorem trod_words2 {t e : TypeId} {fuel : Nat} {v : Value} {x : DataW H × List MemPlace} (ht : P.underlying t = some (.slice e)) (he : P.underlying e = some (.int .u64)) (hc : P.cellsOf e = 1)
  (hf : DataW.trod enc P w base spare held fuel t [v] = some x) : ∃ xs, Sl .u64 w v xs ∧ wf W64 xs := by
 rcases open_ints ht he hc hf with ⟨hcs, _⟩ | ⟨x, l, c, zs, hcs, _, hl, hm, hz, _, hcell, hwz⟩
 ·simp at hcs
  subst hcs
  exact ⟨[], Sl.nil _ _, wf_nil _⟩
 ·simp at hcs
  subst hcs
  have hlz : l ≤ zs.length := by rw [hz]; split <;> omega
  have hlen : ((zs.take l).map Int.toNat).length = l := by simp; omega
  have hget : ∀ j, j < l → ((zs.take l).map Int.toNat).getD j 0 = (zs.getD j 0).toNat := by
   intro j hj
   simp [List.getD, hj]
   cases zs[j]? <;> rfl
  refine ⟨(zs.take l).map Int.toNat, ⟨some x, x.block, x.off, c, by rw [hlen], by rw [hlen]; exact hl, ?_, ?_⟩, ?_⟩
  ·intro hne
   have h0 : 0 < zs.length := by
    by_cases h : zs = []
    ·subst h; simp at hne
    ·exact List.length_pos_iff.2 h
   have := World.cell?_spot (hcell 0 h0)
   simp [Addr.add] at this
   obtain ⟨b, o, s⟩ := x
   simp at this; rw [this]
  ·intro j hj
   rw [hlen] at hj
   have hjz : j < zs.length := by omega
   have h1 := hcell j hjz
   have hwj := wf_u64_bounds (hwz (zs.getD j 0) (by simp [List.getD, List.getElem?_eq_getElem hjz]))
   rw [hget j hj]
   have e1 : (((zs.getD j 0).toNat : Nat) : Int) = zs.getD j 0 := by omega
   rw [e1, ← h1]
   congr 1
   have h0 : 0 < zs.length := by omega
   have := World.cell?_spot (hcell 0 h0)
   simp [Addr.add] at this
   obtain ⟨b, o, s⟩ := x
   simp at this; subst this
   unfold Addr.add; split
   ·rename_i h; subst h; rfl
   ·rfl
  ·intro y hy
   simp only [List.mem_map] at hy
   obtain ⟨z, hz1, rfl⟩ := hy
   have := wf_u64_bounds (hwz z (List.mem_of_mem_take hz1))
   unfold W64; omega
theorem trod_ns {t e q : TypeId} {fuel : Nat} {v : Value} {x : DataW H × List MemPlace} (ht : P.underlying t = some (.slice e)) (he : P.underlying e = some (.slice q)) (hq : P.underlying q = some (.int .u64)) (ce : P.cellsOf e = 1) (cq : P.cellsOf q = 1)
  (h : DataW.trod enc P w base spare held fuel t [v] = some x) : ∃ qs, Ns w v qs := by
 rcases open_slice1 ht ce h with ⟨h0, _⟩ | ⟨a, len, cap, m, n, V, D, Pl, hcs, hb, hl, hm, hmm, rfl, hx⟩
 ·simp at h0
  subst h0
  exact ⟨[], none, 0, 0, 0, fun _ => .slice none 0 0, rfl, Nat.le_refl _, fun h => absurd h (by simp), fun j hj => absurd hj (by simp)⟩
 ·simp at hcs
  subst hcs
  have hlm : len ≤ m := by rw [hmm]; split <;> omega
  have each : ∀ r, r < m → ∃ y : List Nat, Sl .u64 w (V r) y ∧ wf W64 y := fun r hr => trod_words2 he hq cq (hx r hr).2
  obtain ⟨y, hy⟩ := choose_lt each
  have hlen : ((List.range len).map y).length = len := by simp
  have hget : ∀ j, j < len → ((List.range len).map y).getD j [] = y j := fun j hj => by simp [List.getD, hj]
  have hspot : 0 < len → a = ⟨a.block, a.off, none⟩ := fun h0 => by
   have := World.cell?_spot ((hx 0 (by omega)).1)
   simp [Addr.add] at this
   obtain ⟨b, o, s⟩ := a
   simp at this; rw [this]
  refine ⟨(List.range len).map y, some a, a.block, a.off, cap, V, by rw [hlen], by rw [hlen]; exact hl, fun h0 => ?_, fun j hj => ?_⟩
  ·rw [hlen] at h0
   refine ⟨by rw [← hspot h0], ?_⟩
   have h1 := World.block_lt_of_cell? w _ (hx 0 (by omega)).1
   have h2 : (a.add 0).block = a.block := by unfold Addr.add; split <;> rfl
   rwa [h2] at h1
  ·rw [hlen] at hj
   rw [hget j hj]
   refine ⟨?_, hy j (by omega)⟩
   have h1 := (hx j (by omega)).1
   have h2 : a.add j = ⟨a.block, a.off + j, none⟩ := by
    rw [hspot (by omega)]
    unfold Addr.add; split
    ·rename_i h; subst h; rfl
    ·rfl
   rw [← h2]; exact h1
end
theorem open_ns {H : Type} {enc : TypeId × Value → H} {P : Program} {W : World} {base : Nat} {spare : Nat → Bool} {held : Bool} {t e q : TypeId} {v : Value} {d : DataW H} {p : List MemPlace}
  (ht : P.underlying t = some (.slice e)) (he : P.underlying e = some (.slice q)) (hq : P.underlying q = some (.int .u64)) (ce : P.cellsOf e = 1) (cq : P.cellsOf q = 1) {r : Reach} {b0 : Nat} (hv : Value.okWide P W r b0 t v)
  (h : DataW.Trod enc P W base spare held t v d p) : ∃ qs, Ns W v qs := by
 obtain ⟨a, len, cap, rfl⟩ := okWide_slice ht hv
 obtain ⟨fuel, hf⟩ := h
 exact trod_ns ht he hq ce cq hf
end Go.Proofs.Ytkmfhabgempjiaa
/- Plain: determinants by the first column; of matrices with a block of noughts; Sylvester's identity, on which elimination without fractions rests. -/
namespace Go.Proofs.Ytkmfhabgempjiaa
set_option maxHeartbeats 4000000
open CR
section
variable {R : Type} [CR R]
def mnc (A : Nat → Nat → R) (i : Nat) : Nat → Nat → R := fun a b => A (if a < i then a else a + 1) (b + 1)
theorem sg_sgB (a b : Nat) (x : R) : sg (a + 1) (sg b x) = sg (b + 1) (sg a x) := by
 rw [sg_succ, sg_succ]
 congr 1
 unfold sg
 split <;> split <;> rfl
theorem sg_sm (k n : Nat) (f : Nat → R) : sg k (sm n f) = sm n fun i => sg k (f i) := by
 unfold sg
 split
 ·rw [sm_neg]
 ·rfl
theorem sg_z (k : Nat) : sg k (0 : R) = 0 := by unfold sg; split <;> simp [neg_zero]
theorem dn_col0 : ∀ (n : Nat) (A : Nat → Nat → R), dn (n + 1) A = sm (n + 1) fun i => sg i (A i 0 * dn n (mnc A i))
 | 0, A => rfl
 | m + 1, A => by
  have e0 : dn (m + 1) (mnr A 0) = dn (m + 1) (mnc A 0) := dn_congr _ fun i j _ _ => by unfold mnr mnc; rw [if_neg (by omega), if_neg (by omega)]
  show sm (m + 1 + 1) (fun k => sg k (A 0 k * dn (m + 1) (mnr A k))) = _
  rw [sm_head, sm_head (m + 1) (fun i => sg i (A i 0 * dn (m + 1) (mnc A i))), e0]
  congr 1
  have h1 : ∀ k, sg (k + 1) (A 0 (k + 1) * dn (m + 1) (mnr A (k + 1))) = sm (m + 1) fun i => sg (k + 1) (sg i (A 0 (k + 1) * (A (i + 1) 0 * dn m (mnc (mnr A (k + 1)) i)))) := fun k => by
   rw [dn_col0 m, ← sg_sm]
   congr 1
   rw [← sm_mul]
   refine sm_congr fun i _ => ?_
   have e1 : mnr A (k + 1) i 0 = A (i + 1) 0 := by unfold mnr; rw [if_pos (by omega)]
   rw [e1]
   exact (sg_mul i (A 0 (k + 1)) _).symm
  have h2 : ∀ i, sg (i + 1) (A (i + 1) 0 * dn (m + 1) (mnc A (i + 1))) = sm (m + 1) fun k => sg (i + 1) (sg k (A (i + 1) 0 * (A 0 (k + 1) * dn m (mnr (mnc A (i + 1)) k)))) := fun i => by
   show sg (i + 1) (A (i + 1) 0 * sm (m + 1) (fun k => sg k (mnc A (i + 1) 0 k * dn m (mnr (mnc A (i + 1)) k)))) = _
   rw [← sg_sm]
   congr 1
   rw [← sm_mul]
   refine sm_congr fun k _ => ?_
   have e1 : mnc A (i + 1) 0 k = A 0 (k + 1) := by unfold mnc; rw [if_pos (by omega)]
   rw [e1]
   exact (sg_mul k (A (i + 1) 0) _).symm
  rw [sm_congr fun k _ => h1 k, sm_congr fun i _ => h2 i, sm_swap]
  refine sm_congr fun i _ => sm_congr fun k _ => ?_
  rw [sg_sgB, mul_left_comm]
  congr 4
  refine dn_congr m fun a b _ _ => ?_
  unfold mnr mnc
  dsimp only
  by_cases ha : a < i <;> by_cases hb : b < k <;> simp [ha, hb]
theorem dn_block : ∀ (k m : Nat) (M : Nat → Nat → R), (∀ a b, a < m → b < k → M (k + a) b = 0) → dn (k + m) M = dn k M * dn m fun a b => M (k + a) (k + b)
 | 0, m, M, _ => by
  rw [show (dn 0 M : R) = 1 from rfl, one_mul, Nat.zero_add]
  exact dn_congr m fun a b _ _ => by rw [Nat.zero_add, Nat.zero_add]
 | k + 1, m, M, h => by
  rw [show k + 1 + m = k + m + 1 by omega, dn_col0, show k + m + 1 = (k + 1) + m by omega, sm_split, dn_col0 k M]
  have hz : sm m (fun i => sg (k + 1 + i) (M (k + 1 + i) 0 * dn (k + m) (mnc M (k + 1 + i)))) = 0 := sm_zero' fun i hi => by rw [h i 0 hi (by omega), zero_mul, sg_z]
  rw [hz, add_zero, mul_comm (sm _ _), ← sm_mul]
  refine sm_congr fun i hi => ?_
  rw [dn_block k m (mnc M i) fun a b ha hb => by unfold mnc; rw [if_neg (by omega), show k + a + 1 = k + 1 + a by omega]; exact h a (b + 1) ha (by omega)]
  have e : (dn m fun a b => mnc M i (k + a) (k + b)) = dn m fun a b => M (k + 1 + a) (k + 1 + b) := dn_congr m fun a b _ _ => by
   unfold mnc; rw [if_neg (by omega), show k + a + 1 = k + 1 + a by omega, show k + b + 1 = k + 1 + b by omega]
  rw [e, ← mul_assoc, sg_mul', mul_comm]
end
section
variable {R : Type} [CR R]
def swB (A : Nat → Nat → R) (i j : Nat) : Nat → Nat → R := fun a => if a = i then A j else if a = j then A i else A a
theorem dn_swap {n : Nat} (A : Nat → Nat → R) {i j : Nat} (h : i ≠ j) (hi : i < n) (hj : j < n) : dn n (swB A i j) = -dn n A := by
 have e : swB A i j = upd (upd A i fun c => 0 * A i c + 1 * A j c) j fun c => 1 * A i c + 0 * A j c := by
  funext a
  unfold swB upd
  by_cases h1 : a = j
  ·rw [if_pos h1, if_neg (by omega), if_pos h1]
   funext c; rw [one_mul, zero_mul, add_zero]
  ·rw [if_neg h1, if_neg h1]
   by_cases h2 : a = i
   ·rw [if_pos h2, if_pos h2]
    funext c; rw [one_mul, zero_mul, zero_add]
   ·rw [if_neg h2, if_neg h2]
 rw [e, dn_mix n A h hi hj]
 exact by_ring [dn n A] ((0 * 0 - 1 * 1) * X0) (-X0) rfl
end
end Go.Proofs.Ytkmfhabgempjiaa
/- Package xmat: what a matrix of polynomials reads as; which are formed; quotients. -/
namespace Go.Proofs.Ytkmfhabgempjiaa
set_option maxHeartbeats 4000000
open Go.RowKit
def Xm (w : World) (v : Value) (R C : Int) (qs : List (List Nat)) : Prop := ∃ u, v = .agg #[.int .i64 R, .int .i64 C, u] ∧ Ns w u qs
theorem Xm.next {w w' : World} {v : Value} {R C : Int} {qs : List (List Nat)} (h : Xm w v R C qs) (hb : Below w.heap.size w w') : Xm w' v R C qs := by
 obtain ⟨u, e, hz⟩ := h; exact ⟨u, e, hz.next hb⟩
theorem Xm.agg {w : World} {v : Value} {R C : Int} {qs : List (List Nat)} (h : Xm w v R C qs) : ∃ ao c, v = .agg #[.int .i64 R, .int .i64 C, .slice ao qs.length c] := by
 obtain ⟨u, e, hz⟩ := h
 obtain ⟨ao, c, rfl⟩ := hz.slc
 exact ⟨ao, c, e⟩
theorem xm_side_yes (n : Int) (w : World) (h : Sd n) : Calls Try.prog 125 #[.int .i64 n] w fun e w' => e = .returned (.bool true) ∧ w = w' := by
 have h1 := h.1; have h2 := h.2
 have d1 : decide (n ≥ 0) = true := decide_eq_true h1
 go_enter Try.func125, Try.ntmps125
 go_wp2
 go_ret
 simp
theorem xm_side_no (n : Int) (w : World) (h : ¬ Sd n) : Calls Try.prog 125 #[.int .i64 n] w fun e w' => e = .returned (.bool false) ∧ w = w' := by
 by_cases h1 : 0 ≤ n
 ·have h2 : ¬ n ≤ 64 := fun h2 => h ⟨h1, h2⟩
  go_enter Try.func125, Try.ntmps125
  go_wp2
  go_ret
  simp
 ·go_enter Try.func125, Try.ntmps125
  go_wp2
  go_ret
  simp
theorem xm_Formed (v : Value) (R C : Int) (qs : List (List Nat)) (w : World) (hm : Xm w v R C qs) :
  Calls Try.prog 69 #[v] w (RetW w (.bool (decide (Fd R C qs.length)))) := by
 obtain ⟨ao, cp, rfl⟩ := hm.agg
 obtain ⟨wb, ew, KA, B0, hsz⟩ := boxes1 w 24 [.int .i64 R, .int .i64 C, .slice ao qs.length cp]
 clear hsz hm
 by_cases hR : Sd R
 ·by_cases hC : Sd C
  ·have hw : IntKind.i64.wrap (R * C) = R * C := Sd.mul hR hC
   by_cases hn : (qs.length : Int) = R * C
   ·rw [decide_eq_true (show Fd R C qs.length from ⟨hR, hC, hn⟩)]
    have hn2 : ((qs.length : Int) == R * C) = true := by simp [hn]
    clear hn
    go_enter Try.func69, Try.ntmps69
    go_wp2_with fail
    refine (xm_side_yes R _ hR).mono ?_; rintro e w2 ⟨rfl, rfl⟩
    go_wp2_with fail
    refine (xm_side_yes C _ hC).mono ?_; rintro e w2 ⟨rfl, rfl⟩
    go_wp2
    rw [← ew]
    go_ret
    exact ⟨by simp, B0⟩
   ·rw [decide_eq_false (show ¬ Fd R C qs.length from fun h => hn h.2.2)]
    have hn2 : ((qs.length : Int) == R * C) = false := by simp [hn]
    clear hn
    go_enter Try.func69, Try.ntmps69
    go_wp2_with fail
    refine (xm_side_yes R _ hR).mono ?_; rintro e w2 ⟨rfl, rfl⟩
    go_wp2_with fail
    refine (xm_side_yes C _ hC).mono ?_; rintro e w2 ⟨rfl, rfl⟩
    go_wp2
    rw [← ew]
    go_ret
    exact ⟨by simp, B0⟩
  ·rw [decide_eq_false (show ¬ Fd R C qs.length from fun h => hC h.2.1)]
   go_enter Try.func69, Try.ntmps69
   go_wp2_with fail
   refine (xm_side_yes R _ hR).mono ?_; rintro e w2 ⟨rfl, rfl⟩
   go_wp2_with fail
   refine (xm_side_no C _ hC).mono ?_; rintro e w2 ⟨rfl, rfl⟩
   go_wp2
   rw [← ew]
   go_ret
   exact ⟨rfl, B0⟩
 ·rw [decide_eq_false (show ¬ Fd R C qs.length from fun h => hR h.1)]
  go_enter Try.func69, Try.ntmps69
  go_wp2_with fail
  refine (xm_side_no R _ hR).mono ?_; rintro e w2 ⟨rfl, rfl⟩
  go_wp2
  rw [← ew]
  go_ret
  exact ⟨rfl, B0⟩
theorem xm_Formed_yes (v : Value) (R C : Int) (qs : List (List Nat)) (w : World) (hm : Xm w v R C qs) (h : Fd R C qs.length) : Calls Try.prog 69 #[v] w (RetW w (.bool true)) := by
 have := xm_Formed v R C qs w hm
 rwa [decide_eq_true h] at this
end Go.Proofs.Ytkmfhabgempjiaa
/- slices.Clone and slices.IndexFunc over polynomials; the closure of xmat.Det. -/
namespace Go.Proofs.Ytkmfhabgempjiaa
set_option maxHeartbeats 4000000
open Go.RowKit
end Go.Proofs.Ytkmfhabgempjiaa
/- Rows of polynomials that are stored into; where elimination without fractions stands. -/
namespace Go.Proofs.Ytkmfhabgempjiaa
set_option maxHeartbeats 4000000
open Go.RowKit
section
variable {p : Nat}
variable {w : World} {base n N : Nat} {rv : Value} {vs : List Value} {W : Nat → Nat → Pol (Zp p) × Nat}
end
end Go.Proofs.Ytkmfhabgempjiaa
/- As Peel2, with a condition beside it that holds in every world of the region. -/
namespace Go.Proofs.Ytkmfhabgempjiaa
set_option maxHeartbeats 4000000
open Go
section
variable {P : Program} {ops : Array Oper} {Q : Exit → Act → World → Prop} {S T : World → Prop} {m : Nat}
end
section
variable {P : Program} {l : List Oper} {Q : Exit → Act → World → Prop} {S T : World → Prop} {m : Nat}
end
end Go.Proofs.Ytkmfhabgempjiaa
/- xmat.Det: the determinant, by elimination without fractions. -/
namespace Go.Proofs.Ytkmfhabgempjiaa
set_option maxHeartbeats 4000000
open Go.RowKit
def aT (p n : Nat) (qs : List (List Nat)) (i j : Nat) : Pol (Zp p) := pl p (qs.getD (i * n + j) [])
end Go.Proofs.Ytkmfhabgempjiaa
