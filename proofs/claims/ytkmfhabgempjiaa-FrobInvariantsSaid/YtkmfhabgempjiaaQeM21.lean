/- Layer 25: a matrix's parts: the walk. -/
import Derived.Test.YtkmfhabgempjiaaQeM20
import Derived.Test.YtkmfhabgempjiaaQeM9
import Derived.Test.YtkmfhabgempjiaaQeM10
import Derived.Test.YtkmfhabgempjiaaQeM7
namespace Go.Proofs.Ytkmfhabgempjiaa
set_option maxHeartbeats 4000000
open Go.RowKit
def PtS (p n : Nat) (A : MT (Zp p) n n) (W : (Nat → Nat → Pol (Zp p))) (X : MT (Pol (Zp p)) n n) (wr : World) (base : Nat) (iv cv : Value) (i : Nat) : Prop :=
 ∃ us S, Qls p wr base iv us (pks W i).length 255 (fun j => W ((pks W i).getD j 0) ((pks W i).getD j 0)) ∧ Mls wr base cv (pks W i).length (fun _ => n) (fun _ => 1) S (fun j => tbv (ph A (cl X ((pks W i).getD j 0))))
def RetPt (p : Nat) (w : World) (n : Nat) (A : MT (Zp p) n n) (e : Ending) (w' : World) : Prop :=
 ∃ (W U V : (Nat → Nat → Pol (Zp p))) (X : MT (Pol (Zp p)) n n), SmR (XA A) U W V ∧ Inv (MT.of n n U) X ∧ (∀ i k, i < n → k < n → i ≠ k → W i k = 0) ∧ (∀ k, k < n → Mo (W k k)) ∧ (∀ i k, i ≤ k → k < n → Dv (W i i) (W k k)) ∧
  ∃ iv cv, e = .returned (.agg #[iv, cv]) ∧ PtS p n A W X w' w.heap.size iv cv n ∧ Below w.heap.size w w'
section
variable {p n : Nat}
theorem smi_off {t : Nat} {W : (Nat → Nat → Pol (Zp p))} (h : SmI t n n W) (hz : ∀ a b, t ≤ a → a < n → t ≤ b → b < n → W a b = 0) : (∀ i k, i < n → k < n → i ≠ k → W i k = 0) ∧ (∀ k, k < n → Mo (W k k)) ∧ ∀ i k, i ≤ k → k < n → Dv (W i i) (W k k) := by
 refine ⟨fun i k hi hk hne => ?_, fun k hk => ?_, fun i k hik hk => ?_⟩
 ·by_cases h1 : i < t ∨ k < t
  ·exact h.off i k hi hk hne h1
  ·exact hz i k (by omega) hi (by omega) hk
 ·by_cases h1 : k < t
  ·exact h.mo k h1
  ·rw [hz k k (by omega) hk (by omega) hk]; exact Or.inl rfl
 ·by_cases h1 : k < t
  ·exact h.dv i (by omega) k k hik hk hik hk
  ·rw [hz k k (by omega) hk (by omega) hk]; exact Dv.zero _
theorem hbd4 {r : Nat} (hr : r ≤ 4) : 2 ^ hbd r r * 128 ≤ 131072 := by
 rcases (show r = 0 ∨ r = 1 ∨ r = 2 ∨ r = 3 ∨ r = 4 by omega) with rfl | rfl | rfl | rfl | rfl <;> decide
end
set_option maxRecDepth 20000 in
theorem fb_part (p : Nat) (a : Value) (n : Nat) (xs : List Nat) (w : World) (hp : FP p) (tr : Trial p) (hA : Fm w a n n xs) (hn : n ≤ 4) (hx : xs.length = n * n) :
  Calls Try.prog 102 #[.agg #[.int .u64 p], a] w (RetPt p w n (mx p n n xs)) := by
 obtain ⟨aA, cA, rfl⟩ := hA.agg
 obtain ⟨wb, ew, KF, KA, KR, B0, hsz⟩ := boxes3 w 29 63 130 [.int .u64 p] [.int .i64 n, .int .i64 n, .slice aA xs.length cA] [.slice none 0 0, .slice none 0 0]
 clear hsz
 replace hA := hA.next B0
 have HX := Lib.hid hx; have HP := Lib.hid hp; have HT := Lib.hid tr; clear hx hp tr
 obtain ⟨A, eA⟩ : ∃ A, A = mx p n n xs := ⟨_, rfl⟩
 rw [← eA]
 have EA := Lib.hid eA; clear eA
 have hnn : n * n ≤ 16 := Nat.mul_le_mul hn hn
 go_enter Try.func102, Try.ntmps102
 have qKF0 := KF.cell 0
 have qKA0 := KA.cell 0
 have qKA1 := KA.cell 1
 have qKA2 := KA.cell 2
 go_wp2_with fail
 rw [← ew]
 clear ew
 refine (xm_Char p 2 _ n xs _ HP.out hA (by omega) HX.out (by omega) (by omega) (fun j => (XA A).e (j / n) (0 + j % n)) (fun i k hi hk => by rw [EA.out]; exact xa_of hi hk)).mono ?_; rintro e w1 ⟨aC, kC, usC, rfl, QC, b1⟩
 clear qKF0 qKA0 qKA1 qKA2
 replace KF := KF.next b1
 replace KA := KA.next b1
 replace KR := KR.next b1
 replace hA := hA.next b1
 replace B0 := B0.trans (b1.mono B0.size)
 clear b1
 obtain ⟨zsC, zlC, nsC, hzC⟩ := QC.ns HP.out
 have mC : Xm w1 (.agg #[.int .i64 n, .int .i64 n, .slice aC (n * n) kC]) n n zsC := ⟨_, rfl, nsC⟩
 have e1 : MT.of n n (aT p n zsC) = XA A := MT.ext fun i k hi hk => by rw [MT.of_e _ hi hk]; exact rd_at (W := (XA A).e) hzC hi hk
 have E1 := Lib.hid e1; have ZLC := Lib.hid zlC; have LC := Lib.hid (show ∀ j, j < n * n → (zsC.getD j []).length ≤ 2 from fun j hj => (hzC j hj).2.2)
 clear e1 zlC nsC hzC QC
 obtain ⟨w2, e2, KC, b2, hs2⟩ := boxes1 w1 24 [.int .i64 n, .int .i64 n, .slice aC (n * n) kC]
 clear hs2
 replace KF := KF.next b2
 replace KA := KA.next b2
 replace KR := KR.next b2
 replace hA := hA.next b2
 replace mC := mC.next b2
 replace B0 := B0.trans (b2.mono B0.size)
 clear b2
 go_upto_region 2 with (fail)
 rw [← e2]
 clear e2
 have qKF0 := KF.cell 0
 have qKC0 := KC.cell 0
 have qKC1 := KC.cell 1
 have qKC2 := KC.cell 2
 go_wp2_with fail
 refine (xf_Smith4P p _ n n zsC _ HP.out HT.out mC hn hn ZLC.out LC.out).mono ?_; rintro e w3 ⟨t, W, U, V, hU, ht, -, hS, hI, hz, aD, kD, usD, aU, kU, usU, aV, kV, usV, rfl, QD, QU, -, b3⟩
 clear qKF0 qKC0 qKC1 qKC2
 replace KF := KF.next b3
 replace KA := KA.next b3
 replace KR := KR.next b3
 replace hA := hA.next b3
 replace mC := mC.next b3
 replace KC := KC.next b3
 replace B0 := B0.trans (b3.mono B0.size)
 clear b3
 rw [E1.out] at hS
 obtain ⟨h1, h2, h3⟩ := smi_off hI hz
 obtain ⟨X, hX⟩ := hS.u
 obtain ⟨s0, hU⟩ := hU
 have HSM := Lib.hid hS; have HXI := Lib.hid hX; have HOF := Lib.hid h1; have HMO := Lib.hid h2; have HDV := Lib.hid h3
 obtain ⟨zsD, zlD, nsD, hzD⟩ := QD.ns HP.out
 obtain ⟨zsU, zlU, nsU, hzU⟩ := QU.ns HP.out
 have mD : Xm w3 (.agg #[.int .i64 n, .int .i64 n, .slice aD (n * n) kD]) n n zsD := ⟨_, rfl, nsD⟩
 have mU : Xm w3 (.agg #[.int .i64 n, .int .i64 n, .slice aU (n * n) kU]) n n zsU := ⟨_, rfl, nsU⟩
 have eU : ∀ i k, i < n → k < n → aT p n zsU i k = U i k := fun i k hi hk => rd_at hzU hi hk
 have lU : ∀ j, j < n * n → (zsU.getD j []).length ≤ 128 := fun j hj => by
  obtain ⟨g1, g2, g3⟩ := jdm hj
  have h4 := nrm_ln HP.out.pos (hzU j hj).1
  rw [(hzU j hj).2.1, Nat.zero_add] at h4
  exact h4.le (hU _ _ g1 g2)
 have eD : ∀ k, k < n → pl p (zsD.getD (k * n + k) []) = W k k := fun k hk => rd_at hzD hk hk
 have EU := Lib.hid eU; have LU := Lib.hid lU; have ED := Lib.hid eD; have ZLD := Lib.hid zlD; have ZLU := Lib.hid zlU; have LD := Lib.hid (show ∀ j, j < n * n → (zsD.getD j []).length ≤ 255 from fun j hj => (hzD j hj).2.2)
 clear hU hS hI hz h1 h2 h3 hX QD QU nsD nsU hzD hzU zlD zlU eU lU eD mC KC
 obtain ⟨w4, e4, KD, KU, KV, b4, hs4⟩ := boxes3 w3 24 24 24 [.int .i64 n, .int .i64 n, .slice aD (n * n) kD] [.int .i64 n, .int .i64 n, .slice aU (n * n) kU] [.int .i64 n, .int .i64 n, .slice aV (n * n) kV]
 clear hs4
 replace KF := KF.next b4
 replace KA := KA.next b4
 replace KR := KR.next b4
 replace hA := hA.next b4
 replace mD := mD.next b4
 replace mU := mU.next b4
 replace B0 := B0.trans (b4.mono B0.size)
 clear b4
 clear KV
 go_upto_region 3 with (fail)
 rw [← e4]
 clear e4
 have qKF0 := KF.cell 0
 have qKU0 := KU.cell 0
 have qKU1 := KU.cell 1
 have qKU2 := KU.cell 2
 go_wp2_with fail
 refine (xf_Hermite p _ n n 128 zsU _ HP.out HT.out mU (by omega) (by omega) ZLU.out LU.out (by omega) (by have := hbd4 hn; omega)).mono ?_; rintro e w5 ⟨V2, P2, top2, hFo, aH, kH, usH, aB, kB, usB, rfl, -, QB, b5⟩
 clear qKF0 qKU0 qKU1 qKU2
 replace KF := KF.next b5
 replace KA := KA.next b5
 replace KR := KR.next b5
 replace hA := hA.next b5
 replace mD := mD.next b5
 replace mU := mU.next b5
 replace KD := KD.next b5
 replace KU := KU.next b5
 replace B0 := B0.trans (b5.mono B0.size)
 clear b5
 obtain ⟨zsB, zlB, nsB, hzB⟩ := QB.ns HP.out
 have mB : Xm w5 (.agg #[.int .i64 n, .int .i64 n, .slice aB (n * n) kB]) n n zsB := ⟨_, rfl, nsB⟩
 have eB : MT.of n n (aT p n zsB) = X := by
  have hX2 : Inv (MT.of n n (aT p n zsU)) X := by rw [MT.of_congr EU.out]; exact HXI.out
  have h1 := her_unim HT.out hX2 hFo.rq hFo.her
  exact MT.ext fun i k hi hk => by rw [MT.of_e _ hi hk, rd_off hzB hi hk]; exact h1 i k hi hk
 have EB := Lib.hid eB; have ZLB := Lib.hid zlB
 have LB := Lib.hid (show ∀ j, j < n * n → (zsB.getD j []).length ≤ 1000000 from fun j hj => by have h1 := (hzB j hj).2.2; have h2 := hbd4 hn; omega)
 clear hFo QB nsB hzB zlB eB mU KU
 obtain ⟨w6, e6, KH, KB, b6, hs6⟩ := boxes2 w5 24 24 [.int .i64 n, .int .i64 n, .slice aH (n * n) kH] [.int .i64 n, .int .i64 n, .slice aB (n * n) kB]
 clear hs6
 replace KF := KF.next b6
 replace KA := KA.next b6
 replace KR := KR.next b6
 replace hA := hA.next b6
 replace mD := mD.next b6
 replace KD := KD.next b6
 replace mB := mB.next b6
 replace B0 := B0.trans (b6.mono B0.size)
 clear b6
 clear KH
 go_upto_region 4 with (fail)
 rw [← e6]
 clear e6
 have lF := KF.lt; have lA := KA.lt; have lR := KR.lt; have lD := KD.lt; have lB := KB.lt
 have HKF := Lib.hid KF; have HKA := Lib.hid KA; have HKR := Lib.hid KR; have HKD := Lib.hid KD; have HKB := Lib.hid KB; have HA := Lib.hid hA; have HMD := Lib.hid mD; have HMB := Lib.hid mB; have HB0 := Lib.hid B0
 clear KF KA KR KD KB hA mD mB B0
 obtain ⟨w7, e7, KP, b7, -⟩ := boxes1 w6 130 [.slice none 0 0, .slice none 0 0]
 go_upto_region 5 with (fail)
 rw [← e7]
 clear e7
 have ca0 := (HKA.out.next b7).cell 0
 go_wp2
 clear ca0
 go_loopw [40] (fun jv wr => ∃ (i : Nat) (iv cv : Value), i ≤ n ∧ jv = .int .i64 i ∧ Blk 130 wr w6.heap.size [iv, cv] ∧ PtS p n A W X wr (w6.heap.size + 1) iv cv i ∧ Below w6.heap.size w6 wr) (fun jv _ => n - (intOf jv).toNat)
 case atStart => exact ⟨0, _, _, by omega, rfl, KP, ⟨[], fun _ => .slice none 0 0, Qls.nil _ _ _ _ _, Mls.nil _ _ _ _ _ _⟩, b7⟩
 case round =>
  clear KP b7
  obtain ⟨i, iv, cv, hi, rfl, KP, ⟨us, S, QI, ML⟩, B1⟩ := hrel
  have hlt0 := KP.lt
  by_cases hin : i < n
  ·have KF := HKF.out.next B1; have KD := HKD.out.next B1; have mD := HMD.out.next B1
   have f0 := KF.cell 0; have d0 := KD.cell 0; have d1 := KD.cell 1; have d2 := KD.cell 2
   have hlD := LD.out (i * n + i) (at_lt rfl hin hin)
   go_wp2_with fail
   refine (xm_At p i i _ n n zsD _ HP.out mD (by omega) (by omega) ZLD.out hin hin (by omega)).mono ?_; rintro e w8 ⟨r8, zs, rfl, o8, n8, v8, l8, b8⟩
   rw [ED.out i hin] at v8
   obtain ⟨a8, c8, rfl⟩ := o8.sliced
   replace KP := KP.next b8; replace QI := QI.next b8; replace ML := ML.next b8
   have B2 := B1.trans (b8.mono B1.size)
   have hpl : pln (W i i) = zs.length := by rw [← v8]; exact pln_eq (nrm_ln HP.out.pos n8)
   have hlz : zs.length ≤ 255 := by omega
   clear f0 d0 d1 d2 KF KD mD hlD l8 B1
   by_cases h1 : 1 < zs.length
   ·have hpk : pks W (i + 1) = pks W i ++ [i] := by rw [pks_succ, hpl, if_pos h1]
    have hml := pks_len W i
    have QI2 : Qls p w8 (w6.heap.size + 1) iv us (pks W i).length 255 (fun j => W ((pks W (i + 1)).getD j 0) ((pks W (i + 1)).getD j 0)) := QI.congr fun j hj => by rw [hpk, getD_snoc, if_neg (by omega)]
    have ML2 : Mls w8 (w6.heap.size + 1) cv (pks W i).length (fun _ => n) (fun _ => 1) S (fun j => tbv (ph A (cl X ((pks W (i + 1)).getD j 0)))) := ML.congr fun j hj => ⟨rfl, rfl, rfl, by rw [hpk, getD_snoc, if_neg (by omega)]⟩
    have hpm : (pks W (i + 1)).getD (pks W i).length 0 = i := by rw [hpk, getD_snoc, if_pos rfl]
    have hpn : (pks W (i + 1)).length = (pks W i).length + 1 := by rw [hpk, List.length_append]; rfl
    clear QI ML hpk hpl
    obtain ⟨m, em⟩ : ∃ m, m = (pks W i).length := ⟨_, rfl⟩
    rw [← em] at QI2 ML2 hml hpm hpn
    clear em
    have p0 := KP.cell 0
    have hlt8 := KP.lt
    have hsz8 := b8.size
    clear b8
    go_upto_region 11 with (at_builtin; refine apVl 22 43 24 (.slice none 0 0) Try.underlying22 (by kernel_rfl) (by decide) rfl rfl _ _ rfl w8 (w6.heap.size + 1) _ m us (.slice a8 zs.length c8) rfl QI2.1 (by omega) (by omega) rfl rfl ?_; intro g9 cap9 w9 ho9 hb9 hg9 _; have KP9 := KP.below hb9 (Nat.lt_succ_self _); have q0 := KP9.cell 0; have q1 := KP9.free 0)
    have QI3 := QI2.push hg9 ho9 o8 (by omega) n8 (v8.trans (by rw [hpm])) hlz
    have ML3 := ML2.chg (Chg.grown hg9) (fun b _ hb => (rowOwn_tyb QI2.1 hb).1) (by decide) (by decide)
    obtain ⟨ws, ews⟩ : ∃ ws, ws = w9.setCell ⟨w6.heap.size, 0, none⟩ (.slice (some ⟨g9, 0, none⟩) (m + 1) cap9) := ⟨_, rfl⟩
    have KPs : Blk 130 ws w6.heap.size [.slice (some ⟨g9, 0, none⟩) (m + 1) cap9, cv] := by rw [ews]; exact KP9.set 0 _
    have QIs : Qls p ws (w6.heap.size + 1) (.slice (some ⟨g9, 0, none⟩) (m + 1) cap9) (us ++ [.slice a8 zs.length c8]) (m + 1) 255 (fun j => W ((pks W (i + 1)).getD j 0) ((pks W (i + 1)).getD j 0)) := by rw [ews]; exact QI3.low (a := ⟨w6.heap.size, 0, none⟩) (Nat.lt_succ_self _) _
    have MLs : Mls ws (w6.heap.size + 1) cv m (fun _ => n) (fun _ => 1) S (fun j => tbv (ph A (cl X ((pks W (i + 1)).getD j 0)))) := by rw [ews]; exact ML3.low (a := ⟨w6.heap.size, 0, none⟩) (Nat.lt_succ_self _) _
    have Bs : Below w6.heap.size w6 ws := by rw [ews]; exact (B2.trans (hb9.mono (Nat.le_succ _))).setCell (p := ⟨w6.heap.size, 0, none⟩) (Nat.le_refl _) _
    rw [← ews]
    clear ews QI3 ML3 QI2 ML2 KP9 q0 q1 p0 KP o8 n8 v8 ho9 hb9 hg9 B2
    have bd := dw ws
    replace KPs := KPs.next bd; replace QIs := QIs.next bd; replace MLs := MLs.next bd
    replace Bs := Bs.trans (bd.mono Bs.size)
    have KF := HKF.out.next Bs; have KA := HKA.out.next Bs; have KB := HKB.out.next Bs; have hA := HA.out.next Bs; have mB := HMB.out.next Bs
    have hbs : w6.heap.size + 1 ≤ ws.drew.heap.size := KPs.lt
    clear bd
    have z0 := Lib.hid fun (w : World) (hS : Below (w6.heap.size + 1) ws.drew w) => And.intro ((KPs.below hS (Nat.lt_succ_self _)).cell 1) (And.intro ((KF.below hS (Nat.lt_succ_of_lt lF)).cell 0) (And.intro ((KA.below hS (Nat.lt_succ_of_lt lA)).cell 0) (And.intro ((KA.below hS (Nat.lt_succ_of_lt lA)).cell 1) (And.intro ((KA.below hS (Nat.lt_succ_of_lt lA)).cell 2) (And.intro ((KB.below hS (Nat.lt_succ_of_lt lB)).cell 0) (And.intro ((KB.below hS (Nat.lt_succ_of_lt lB)).cell 1) ((KB.below hS (Nat.lt_succ_of_lt lB)).cell 2)))))))
    refine startP (S := (fun w' => Below (w6.heap.size + 1) ws.drew w')) (by kernel_rfl) _ rfl rfl rfl (by kernel_rfl) (Below.refl _ _) (fun hHeld => ?_)
    refine tk 0 ?_
    refine tf 1 z0.out ?_
    refine tf 2 z0.out ?_
    refine tf 3 z0.out ?_
    refine tf 4 z0.out ?_
    refine tk 5 ?_
    refine on 6 fun K hK => ?_
    go_simp
    go_at_call 141
    (with_reducible refine (fb_column p i _ _ n xs zsB _ HP.out hA mB (by omega) HX.out ZLB.out LB.out hin).mono ?_); rintro e n1 ⟨ao, kc, rfl, oc, bc⟩
    rw [← EA.out, show clq p n zsB i = cl X i from by unfold clq; rw [EB.out]] at oc
    rw [← EA.out, show clq p n zsB i = cl X i from by unfold clq; rw [EB.out]]
    obtain ⟨zc, ezc⟩ : ∃ zc, zc = tbv (ph A (cl X i)) := ⟨_, rfl⟩
    rw [← ezc] at oc ⊢
    have EZC := Lib.hid ezc; clear ezc
    refine hK.out _ _ (hHeld.trans (bc.mono (Nat.le_trans hbs hHeld.size))) (fun hHeld => ?_)
    clear hK K
    try simp only [Act.put, zq1, zq2, zq3]
    refine on 7 fun K hK => ?_
    go_simp
    have hd := hHeld
    refine hK.out _ _ (hHeld.alloc (Nat.le_trans hbs hHeld.size) _) (fun hHeld => ?_)
    clear hK K
    try simp only [Act.put, zq1, zq2, zq3]
    refine on 8 fun K hK => ?_
    refine apS 125 63 3 40 (.agg #[.int .i64 0, .int .i64 0, .slice none 0 0]) Try.underlying125 (by kernel_rfl) (by decide) rfl (by decide) _ _ rfl n1 (w6.heap.size + 1) cv m (rowL (m * 3) (mcs (fun _ => n) (fun _ => 1) S)) [.int .i64 n, .int .i64 1, .slice ao zc.length kc] rfl (by intro u hu; simp at hu; rcases hu with rfl | rfl | rfl <;> rfl) (MLs.next bc).own (by omega) (Nat.le_trans hbs hd.size) rfl rfl ?_
    intro g10 cap10 w10 ho10 hb10 hg10 _
    refine hK.out _ _ (hd.trans hb10) (fun hHeld => ?_)
    clear hK K
    try simp only [Act.put, zq1, zq2, zq3]
    refine tk 9 ?_
    clear z0; refine doneL (by kernel_rfl) ?_ _
    refine lastL rfl (by rfl) ?_
    have KP10 := KPs.below hHeld (Nat.lt_succ_self _)
    have s0 := KP10.cell 1; have s1 := KP10.free 1
    have B10 := Bs.trans (hHeld.mono (Nat.le_succ _))
    have QI10 := (QIs.next bc).chg (Chg.grown hg10) (fun b _ hb => (rowOwn_tyb (MLs.next bc).own hb).1) (by decide) (by decide)
    have ML10 := (MLs.next bc).push hg10 ho10 oc hbs
    have KP11 := KP10.set 1 (.slice (some ⟨g10, 0, none⟩) (m + 1) cap10)
    have FIN := Lib.hid (show Blk 130 (w10.setCell ⟨w6.heap.size, 1, none⟩ (.slice (some ⟨g10, 0, none⟩) (m + 1) cap10)) w6.heap.size [.slice (some ⟨g9, 0, none⟩) (m + 1) cap9, .slice (some ⟨g10, 0, none⟩) (m + 1) cap10] ∧ PtS p n A W X (w10.setCell ⟨w6.heap.size, 1, none⟩ (.slice (some ⟨g10, 0, none⟩) (m + 1) cap10)) (w6.heap.size + 1) (.slice (some ⟨g9, 0, none⟩) (m + 1) cap9) (.slice (some ⟨g10, 0, none⟩) (m + 1) cap10) (i + 1) ∧ Below w6.heap.size w6 (w10.setCell ⟨w6.heap.size, 1, none⟩ (.slice (some ⟨g10, 0, none⟩) (m + 1) cap10)) from
     ⟨KP11, ⟨_, _, by rw [hpn]; exact QI10.low (a := ⟨w6.heap.size, 1, none⟩) (Nat.lt_succ_self _) _, by
      rw [hpn]
      refine (ML10.low (a := ⟨w6.heap.size, 1, none⟩) (Nat.lt_succ_self _) (.slice (some ⟨g10, 0, none⟩) (m + 1) cap10)).congr fun j hj => ⟨?_, ?_, rfl, ?_⟩
      ·by_cases e : j = m
       ·rw [if_pos e]
       ·rw [if_neg e]
      ·by_cases e : j = m
       ·rw [if_pos e]
       ·rw [if_neg e]
      ·by_cases e : j = m
       ·rw [if_pos e, e, hpm, EZC.out]
       ·rw [if_neg e]⟩, B10.setCell (p := ⟨w6.heap.size, 1, none⟩) (Nat.le_refl _) _⟩)
    clear KPs QIs MLs Bs KF KA KB hA mB KP10 B10 QI10 ML10 KP11 ho10 hb10 hg10 oc bc hHeld
    go_wp2
    go_roundw
    case rel => exact ⟨i + 1, _, _, by omega, by go_num, FIN.out⟩
    case measure => simp [intOf] <;> omega
   ·have hpk : pks W (i + 1) = pks W i := by rw [pks_succ, hpl, if_neg h1, List.append_nil]
    have FIN := Lib.hid (show PtS p n A W X w8 (w6.heap.size + 1) iv cv (i + 1) from ⟨us, S, by rw [hpk]; exact QI, by rw [hpk]; exact ML⟩)
    clear QI ML o8 n8 v8 b8 hpk hpl
    go_wp2
    go_roundw
    case rel => exact ⟨i + 1, _, _, by omega, by go_num, KP, FIN.out, B2⟩
    case measure => simp [intOf] <;> omega
  ·obtain rfl : i = n := by omega
   obtain ⟨ai, ci, rfl⟩ := QI.slc
   obtain ⟨ac, cc, rfl⟩ := ML.shape
   have KR := HKR.out.next B1
   have p0 := KP.cell 0; have p1 := KP.cell 1
   have r0 := KR.cell 0; have r1 := KR.cell 1; have r2 := KR.free 0; have r3 := KR.free 1
   have KR2 := (KR.set 0 (.slice ai (pks W i).length ci)).set 1 (.slice ac (pks W i).length cc)
   have d0 := KR2.cell 0; have d1 := KR2.cell 1
   have hw6 := HB0.out.size
   have FIN := Lib.hid (show RetPt p w i A (.returned (.agg #[(.slice ai (pks W i).length ci), (.slice ac (pks W i).length cc)])) ((wr.setCell ⟨w.heap.size + 1 + 1, 0, none⟩ (.slice ai (pks W i).length ci)).setCell ⟨w.heap.size + 1 + 1, 1, none⟩ (.slice ac (pks W i).length cc)) from
    ⟨W, U, V, X, HSM.out, HXI.out, HOF.out, HMO.out, HDV.out, (.slice ai (pks W i).length ci), (.slice ac (pks W i).length cc), rfl, ⟨us, S, ((QI.low (a := ⟨w.heap.size + 1 + 1, 0, none⟩) (show w.heap.size + 1 + 1 < w6.heap.size + 1 by omega) (.slice ai (pks W i).length ci)).low (a := ⟨w.heap.size + 1 + 1, 1, none⟩) (show w.heap.size + 1 + 1 < w6.heap.size + 1 by omega) (.slice ac (pks W i).length cc)).mono (by omega), ((ML.low (a := ⟨w.heap.size + 1 + 1, 0, none⟩) (show w.heap.size + 1 + 1 < w6.heap.size + 1 by omega) (.slice ai (pks W i).length ci)).low (a := ⟨w.heap.size + 1 + 1, 1, none⟩) (show w.heap.size + 1 + 1 < w6.heap.size + 1 by omega) (.slice ac (pks W i).length cc)).mono (by omega)⟩,
     ((HB0.out.trans (B1.mono hw6)).setCell (p := ⟨w.heap.size + 1 + 1, 0, none⟩) (by simp; omega) (.slice ai (pks W i).length ci)).setCell (p := ⟨w.heap.size + 1 + 1, 1, none⟩) (by simp; omega) (.slice ac (pks W i).length cc)⟩)
   clear KR KR2 QI ML B1
   go_wp2
   exact bodyPost_ret (v := .agg #[(.slice ai (pks W i).length ci), (.slice ac (pks W i).length cc)]) (by simp [results, Try.results102, go_sem, d0, d1]) rfl FIN.out
end Go.Proofs.Ytkmfhabgempjiaa
/- Layer 25: squares; Invariants. -/
namespace Go.Proofs.Ytkmfhabgempjiaa
set_option maxHeartbeats 4000000
open Go.RowKit
theorem fb_square (a : Value) (R C : Int) (xs : List Nat) (w : World) (hA : Fm w a R C xs) (b : Bool) (hb : b = decide (Fd R C xs.length ∧ R = C)) :
  Calls Try.prog 101 #[a] w (RetW w (.bool b)) := by
 obtain ⟨aA, cA, rfl⟩ := hA.agg
 obtain ⟨wb, ew, KA, B0, hsz⟩ := boxes1 w 63 [.int .i64 R, .int .i64 C, .slice aA xs.length cA]
 clear hsz
 replace hA := hA.next B0
 have f0 := KA.cell 0; have f1 := KA.cell 1; have f2 := KA.cell 2
 by_cases hF : Fd R C xs.length
 ·by_cases hRC : R = C
  ·subst hRC
   obtain rfl : b = true := by rw [hb]; exact decide_eq_true ⟨hF, rfl⟩
   clear hb
   go_enter Try.func101, Try.ntmps101
   go_upto_region 1 with (fail)
   rw [← ew]
   clear ew
   go_wp2_with fail
   refine (fm_Formed_yes _ R R xs _ hA hF).mono ?_; rintro e w2 ⟨rfl, b2⟩
   have KA2 := KA.next b2
   clear f0 f1 f2 KA
   have f0 := KA2.cell 0; have f1 := KA2.cell 1
   go_wp2
   go_ret
   exact ⟨rfl, B0.trans (b2.mono B0.size)⟩
  ·obtain rfl : b = false := by rw [hb]; exact decide_eq_false (fun h => hRC h.2)
   clear hb
   have h2 : (R == C) = false := by simpa using hRC
   go_enter Try.func101, Try.ntmps101
   go_upto_region 1 with (fail)
   rw [← ew]
   clear ew
   go_wp2_with fail
   refine (fm_Formed_yes _ R C xs _ hA hF).mono ?_; rintro e w2 ⟨rfl, b2⟩
   have KA2 := KA.next b2
   clear f0 f1 f2 KA
   have f0 := KA2.cell 0; have f1 := KA2.cell 1
   go_wp2
   go_ret
   exact ⟨rfl, B0.trans (b2.mono B0.size)⟩
 ·obtain rfl : b = false := by rw [hb]; exact decide_eq_false (fun h => hF h.1)
  clear hb
  go_enter Try.func101, Try.ntmps101
  go_upto_region 1 with (fail)
  rw [← ew]
  clear ew
  go_wp2_with fail
  refine (fm_Formed_no _ R C xs _ hA hF).mono ?_; rintro e w2 ⟨rfl, b2⟩
  have KA2 := KA.next b2
  clear f0 f1 f2 KA
  have f0 := KA2.cell 0; have f1 := KA2.cell 1
  go_wp2
  go_ret
  exact ⟨rfl, B0.trans (b2.mono B0.size)⟩
theorem fb_square_yes (a : Value) (n : Nat) (xs : List Nat) (w : World) (hA : Fm w a n n xs) (hn : n ≤ 64) (hx : xs.length = n * n) : Calls Try.prog 101 #[a] w (RetW w (.bool true)) :=
 fb_square a n n xs w hA true (decide_eq_true ⟨⟨⟨by omega, by omega⟩, ⟨by omega, by omega⟩, by rw [hx]; exact Int.natCast_mul n n⟩, rfl⟩).symm
theorem law25_square (a : Value) (R C : Int) (xs : List Nat) (w : World) (hA : Fm w a R C xs) (b : Bool) (hb : b = decide (Fd R C xs.length ∧ R = C)) :
  Calls Try.prog 54 #[a] w (RetW w (.bool b)) := by
 obtain ⟨aA, cA, rfl⟩ := hA.agg
 obtain ⟨wb, ew, KA, B0, hsz⟩ := boxes1 w 63 [.int .i64 R, .int .i64 C, .slice aA xs.length cA]
 clear hsz
 replace hA := hA.next B0
 have f0 := KA.cell 0; have f1 := KA.cell 1; have f2 := KA.cell 2
 obtain ⟨β, hβ⟩ : ∃ β, β = decide (Fd R C xs.length) := ⟨_, rfl⟩
 have HB := Lib.hid hβ
 have e : b = (β && (R == C)) := by
  rw [hb, hβ]; by_cases h1 : Fd R C xs.length <;> by_cases h2 : R = C <;> simp [h1, h2]
 clear hb hβ
 obtain ⟨γ, hγ⟩ : ∃ γ, γ = (R == C) := ⟨_, rfl⟩
 have hg2 : (R == C) = γ := hγ.symm
 rw [hg2] at e
 clear hγ
 cases β with
 | true =>
  obtain rfl : b = γ := by rw [e]; rfl
  clear e
  go_enter Try.func54, Try.ntmps54
  go_upto_region 1 with (fail)
  rw [← ew]
  clear ew
  go_wp2_with fail
  refine (rf21_Formed _ R C xs _ hA true HB.out).mono ?_; rintro e w2 ⟨rfl, b2⟩
  have KA2 := KA.next b2
  clear f0 f1 f2 KA
  have f0 := KA2.cell 0; have f1 := KA2.cell 1
  go_wp2
  go_ret
  exact ⟨rfl, B0.trans (b2.mono B0.size)⟩
 | false =>
  obtain rfl : b = false := by rw [e]; rfl
  clear e
  go_enter Try.func54, Try.ntmps54
  go_upto_region 1 with (fail)
  rw [← ew]
  clear ew
  go_wp2_with fail
  refine (rf21_Formed _ R C xs _ hA false HB.out).mono ?_; rintro e w2 ⟨rfl, b2⟩
  have KA2 := KA.next b2
  clear f0 f1 f2 KA
  have f0 := KA2.cell 0; have f1 := KA2.cell 1
  go_wp2
  go_ret
  exact ⟨rfl, B0.trans (b2.mono B0.size)⟩
theorem fld0 (w : World) (ai ac : Option Addr) (m n ci cc : Nat) : Sem.run Try.prog (Instr.field 130 (.agg #[.slice ai m ci, .slice ac n cc]) 0) w = .ok (.slice ai m ci) w := by kernel_rfl
def RetIn (p : Nat) (w : World) (n : Nat) (A : MT (Zp p) n n) (e : Ending) (w' : World) : Prop :=
 ∃ (W U V : (Nat → Nat → Pol (Zp p))) (X : MT (Pol (Zp p)) n n), SmR (XA A) U W V ∧ Inv (MT.of n n U) X ∧ (∀ i k, i < n → k < n → i ≠ k → W i k = 0) ∧ (∀ k, k < n → Mo (W k k)) ∧ (∀ i k, i ≤ k → k < n → Dv (W i i) (W k k)) ∧
  ∃ iv us, e = .returned (.tuple #[iv, .int .i64 0]) ∧ Qls p w' w.heap.size iv us (pks W n).length 255 (fun j => W ((pks W n).getD j 0) ((pks W n).getD j 0)) ∧ Below w.heap.size w w'
set_option maxRecDepth 20000 in
theorem fb_Invariants (p : Nat) (a : Value) (n : Nat) (xs : List Nat) (w : World) (hp : FP p) (tr : Trial p) (hA : Fm w a n n xs) (hn : n ≤ 4) (hx : xs.length = n * n) :
  Calls Try.prog 50 #[.agg #[.int .u64 p], a] w (RetIn p w n (mx p n n xs)) := by
 obtain ⟨aA, cA, rfl⟩ := hA.agg
 obtain ⟨wb, ew, KF, KA, B0, hsz⟩ := boxes2 w 29 63 [.int .u64 p] [.int .i64 n, .int .i64 n, .slice aA xs.length cA]
 clear hsz
 replace hA := hA.next B0
 have HX := Lib.hid hx; have HP := Lib.hid hp; have HT := Lib.hid tr; clear hx hp tr
 go_enter Try.func50, Try.ntmps50
 go_upto_region 1 with (fail)
 rw [← ew]
 clear ew
 have qKA0 := KA.cell 0
 have qKA1 := KA.cell 1
 have qKA2 := KA.cell 2
 go_wp2_with fail
 refine (fb_square_yes _ n xs _ hA (by omega) HX.out).mono ?_; rintro e w1 ⟨rfl, b1⟩
 clear qKA0 qKA1 qKA2
 replace KF := KF.next b1
 replace KA := KA.next b1
 replace hA := hA.next b1
 replace B0 := B0.trans (b1.mono B0.size)
 clear b1
 have hw1 := B0.size
 have qKF0 := KF.cell 0
 have qKA0 := KA.cell 0
 have qKA1 := KA.cell 1
 have qKA2 := KA.cell 2
 go_wp2_with fail
 refine (fb_part p _ n xs _ HP.out HT.out hA hn HX.out).mono ?_; rintro e w2 ⟨W, U, V, X, h1, h2, h3, h4, h5, iv, cv, rfl, ⟨us, S, QI, QM⟩, b2⟩
 clear qKF0 qKA0 qKA1 qKA2
 replace KF := KF.next b2
 replace KA := KA.next b2
 replace hA := hA.next b2
 replace B0 := B0.trans (b2.mono B0.size)
 clear b2
 obtain ⟨ai, ci, rfl⟩ := QI.slc
 obtain ⟨ac, cc, rfl⟩ := QM.shape
 clear QM
 have FIN := Lib.hid (show RetIn p w n (mx p n n xs) (.returned (.tuple #[.slice ai (pks W n).length ci, .int .i64 0])) w2 from ⟨W, U, V, X, h1, h2, h3, h4, h5, _, us, rfl, QI.mono hw1, B0⟩)
 clear h1 h2 h3 h4 h5 QI KF KA hA B0
 go_wp2
 rw [fld0]
 go_wp2
 exact bodyPost_ret (v := .tuple #[.slice ai (pks W n).length ci, .int .i64 0]) (by simp [results, Try.results50, go_sem]) rfl FIN.out
end Go.Proofs.Ytkmfhabgempjiaa
/- slices.ContainsFunc, slices.Index; the closures of Solve and Reduce. -/
namespace Go.Proofs.Ytkmfhabgempjiaa
set_option maxHeartbeats 4000000
open Go.RowKit
set_option maxRecDepth 20000 in
theorem ixf_u64 (fn : Nat) (hE : Enters Try.prog fn) (v : Value) (m : Nat) (U : Nat → Value) (w : World) (hv : VsF w v m U) (hm : m ≤ 1000000000)
  (β : Nat → Bool) (hf : ∀ j, j < m → Calls Try.prog fn #[U j] w (fun e w' => e = .returned (.bool (β j)) ∧ w = w')) (R : Int) (hR : IxR β m R) :
  Calls Try.prog 181 #[v, .func (.func fn) #[] #[]] w (fun e w' => e = .returned (.int .i64 R) ∧ w = w') := by
 obtain ⟨ao, g, off, cap, rfl, hcap, h2, h3⟩ := hv
 have HR := Lib.hid hR; have HF := Lib.hid hf; have H2 := Lib.hid h2; have HC := Lib.hid h3
 clear hR hf h2 h3
 go_enter Try.func181, Try.ntmps181
 go_wp2
 go_loop [8] (fun kv => ∃ k : Nat, k ≤ m ∧ kv = .int .i64 k ∧ ∀ l, l < k → β l = false) (fun kv => m - (intOf kv).toNat)
 case atStart => exact ⟨0, by omega, rfl, fun l h => by omega⟩
 case round =>
  obtain ⟨k, hk, rfl, hb⟩ := hrel
  have HB := Lib.hid hb; clear hb
  by_cases hkm : k < m
  ·obtain ⟨rfl, -⟩ := H2.out (by omega)
   have q1 := HC.out k hkm
   have hc := HF.out k hkm
   by_cases hβ : β k = true
   ·have e : R = (k : Int) := by
     rcases HR.out with ⟨j, rfl, hj, h1, h2⟩ | ⟨_, h2⟩
     ·congr 1
      rcases Nat.lt_trichotomy j k with h | h | h
      ·rw [HB.out j h] at h1; cases h1
      ·exact h
      ·rw [h2 k h] at hβ; cases hβ
     ·rw [h2 k hkm] at hβ; cases hβ
    subst e
    rw [hβ] at hc
    have hc := Lib.hid hc
    clear hβ
    go_wp2_with fail
    rw [hE]
    refine hc.out.mono ?_; rintro e w' ⟨rfl, rfl⟩
    go_wp2
    go_ret
    exact ⟨rfl, rfl⟩
   ·have hβ : β k = false := by simpa using hβ
    rw [hβ] at hc
    have hc := Lib.hid hc
    have HN := Lib.hid (show ∀ l, l < k + 1 → β l = false from fun l hl => by
     by_cases e : l = k
     ·rw [e]; exact hβ
     ·exact HB.out l (by omega))
    clear hβ
    go_wp2_with fail
    rw [hE]
    refine hc.out.mono ?_; rintro e w' ⟨rfl, rfl⟩
    go_wp2
    go_round
    case rel => exact ⟨k + 1, by omega, by go_num, HN.out⟩
    case measure => simp [intOf] <;> omega
  ·have e : R = -1 := by
    rcases HR.out with ⟨j, rfl, hj, h1, h2⟩ | ⟨h, _⟩
    ·rw [HB.out j (by omega)] at h1; cases h1
    ·exact h
   subst e
   go_wp2
   go_ret
   exact ⟨rfl, rfl⟩
theorem cont_u64 (fn : Nat) (hE : Enters Try.prog fn) (v : Value) (m : Nat) (U : Nat → Value) (w : World) (hv : VsF w v m U) (hm : m ≤ 1000000000)
  (β : Nat → Bool) (hf : ∀ j, j < m → Calls Try.prog fn #[U j] w (fun e w' => e = .returned (.bool (β j)) ∧ w = w')) (R : Int) (hR : IxR β m R) (b : Bool) (hb : b = decide (0 ≤ R)) :
  Calls Try.prog 176 #[v, .func (.func fn) #[] #[]] w (fun e w' => e = .returned (.bool b) ∧ w = w') := by
 have HC := Lib.hid (ixf_u64 fn hE v m U w hv hm β hf R hR)
 clear hE hf hR hv
 rcases Decidable.em (0 ≤ R) with h | h
 ·obtain rfl : b = true := by rw [hb, decide_eq_true h]
  clear hb
  go_enter Try.func176, Try.ntmps176
  go_wp2_with fail
  refine HC.out.mono ?_; rintro e w' ⟨rfl, rfl⟩
  go_wp2
  go_ret
  exact ⟨rfl, rfl⟩
 ·obtain rfl : b = false := by rw [hb, decide_eq_false h]
  clear hb
  go_enter Try.func176, Try.ntmps176
  go_wp2_with fail
  refine HC.out.mono ?_; rintro e w' ⟨rfl, rfl⟩
  go_wp2
  go_ret
  exact ⟨by show Ending.returned (.bool (decide (0 ≤ R))) = _; rw [decide_eq_false (by omega)], rfl⟩
theorem solve1 (x : Nat) (w : World) (β : Bool) (hβ : β = decide (x ≠ 0)) :
  Calls Try.prog 177 #[.int .u64 x] w (fun e w' => e = .returned (.bool β) ∧ w = w') := by
 by_cases h : x = 0
 ·subst h
  obtain rfl : β = false := by rw [hβ]; rfl
  clear hβ
  go_enter Try.func177, Try.ntmps177
  go_wp2
  go_ret
  exact ⟨rfl, rfl⟩
 ·obtain rfl : β = true := by rw [hβ]; exact decide_eq_true h
  have h2 : ((x : Int) != 0) = true := by simpa using h
  clear hβ h
  go_enter Try.func177, Try.ntmps177
  go_wp2
  go_ret
  exact ⟨rfl, rfl⟩
set_option maxRecDepth 20000 in
theorem ix_int (v : Value) (P : List Nat) (x : Nat) (w : World) (hv : Sl .i64 w v P) (hm : P.length ≤ 1000000) (β : Nat → Bool) (hβ : β = fun j => decide (P.getD j 0 = x)) (R : Int) (hR : IxR β P.length R) :
  Calls Try.prog 109 #[v, .int .i64 x] w (fun e w' => e = .returned (.int .i64 R) ∧ w = w') := by
 obtain ⟨ao, g, off, cap, rfl, hcap, hcs⟩ := hv
 have HR := Lib.hid hR; have HC := Lib.hid hcs; have HB0 := Lib.hid hβ
 clear hR hcs hβ
 go_enter Try.func109, Try.ntmps109
 go_wp2
 go_loop [8] (fun kv => ∃ k : Nat, k ≤ P.length ∧ kv = .int .i64 k ∧ ∀ l, l < k → β l = false) (fun kv => P.length - (intOf kv).toNat)
 case atStart => exact ⟨0, by omega, rfl, fun l h => by omega⟩
 case round =>
  obtain ⟨k, hk, rfl, hb⟩ := hrel
  have HB := Lib.hid hb; clear hb
  by_cases hkm : k < P.length
  ·obtain rfl := HC.out.ao (by intro h; rw [h] at hkm; simp at hkm)
   have q1 := HC.out.cell k hkm
   obtain ⟨y, ey⟩ : ∃ y, y = P.getD k 0 := ⟨_, rfl⟩
   rw [← ey] at q1
   have EY := Lib.hid ey; clear ey
   by_cases hxy : x = y
   ·have hk1 : β k = true := by rw [HB0.out]; exact decide_eq_true (by rw [← EY.out, hxy])
    have e : R = (k : Int) := by
     rcases HR.out with ⟨j, rfl, hj, h1, h2⟩ | ⟨_, h2⟩
     ·congr 1
      rcases Nat.lt_trichotomy j k with h | h | h
      ·rw [HB.out j h] at h1; cases h1
      ·exact h
      ·rw [h2 k h] at hk1; cases hk1
     ·rw [h2 k hkm] at hk1; cases hk1
    subst e
    subst hxy
    clear hk1
    go_wp2
    go_ret
    exact ⟨rfl, rfl⟩
   ·have hk1 : β k = false := by rw [HB0.out]; exact decide_eq_false (by rw [← EY.out]; exact fun h => hxy h.symm)
    have hne : ((x : Int) == (y : Int)) = false := by simp; omega
    have HN := Lib.hid (show ∀ l, l < k + 1 → β l = false from fun l hl => by
     by_cases e : l = k
     ·rw [e]; exact hk1
     ·exact HB.out l (by omega))
    clear hk1 hxy
    go_wp2
    go_round
    case rel => exact ⟨k + 1, by omega, by go_num, HN.out⟩
    case measure => simp [intOf] <;> omega
  ·have e : R = -1 := by
    rcases HR.out with ⟨j, rfl, hj, h1, h2⟩ | ⟨h, _⟩
    ·rw [HB.out j (by omega)] at h1; cases h1
    ·exact h
   subst e
   go_wp2
   go_ret
   exact ⟨rfl, rfl⟩
theorem Rws.atR {p : Nat} {w : World} {base n N : Nat} {rv : Value} {vs : List Value} {W : Nat → Nat → Zp p} (h : Rws (VZ p) 27 41 w base rv vs n N W) {i : Nat} (hi : i < n) (hN : 0 < N) :
  ∃ g cg b o cap, rv = .slice (some ⟨g, 0, none⟩) n cg ∧ n ≤ cg ∧ g < w.heap.size ∧ w.cell? ⟨g, i, none⟩ = some (.slice (some ⟨b, o, none⟩) N cap) ∧ N ≤ cap ∧ b < w.heap.size ∧ ∀ k, k < N → w.cell? ⟨b, o + k, none⟩ = some (.int .u64 ((W i k).val : Nat)) := by
 rcases h.shape with ⟨_, h0⟩ | ⟨g, cg, e, h1, h2, h3⟩
 ·omega
 obtain ⟨u, hu⟩ := h.hdr hi
 have hc := h.head e hi
 obtain ⟨ao, cap, b', o', cur', e3, e4, e5⟩ := h.row i u hu
 obtain ⟨e6, e7, e8, _⟩ := e5 hN
 obtain ⟨b, o, cap2, cur, e1, _, e2, k1⟩ := (h.row i u hu).pos hN
 rw [e1] at e3
 simp only [Value.slice.injEq] at e3
 refine ⟨g, cg, b, o, cap2, e, h3, h2, by rw [hc, hu, e1], by rw [e3.2.2]; exact e4, ?_, fun k hk => ?_⟩
 ·exact (Array.getElem?_eq_some_iff.1 e2).1
 ·obtain ⟨x, q, hx⟩ := k1 k hk
  rw [q, show x = .int .u64 ((W i k).val : Nat) from hx]
end Go.Proofs.Ytkmfhabgempjiaa
/- fmat.Solve. -/
namespace Go.Proofs.Ytkmfhabgempjiaa
set_option maxHeartbeats 4000000
open Go.RowKit
section
variable {p n C N : Nat} {W : Nat → Nat → Zp p} {P : List Nat}
theorem solv_at (hi : Incr P C) {i k : Nat} {R : Int} {β : Nat → Bool} (hβ : β = fun j => decide (P.getD j 0 = i)) (hR : IxR β P.length R) : (∃ j : Nat, R = j ∧ j < P.length ∧ solv C W P i k = W j (C + k)) ∨ (R = -1 ∧ solv C W P i k = 0) := by
 rcases hR with ⟨j, e, hj, h1, h2⟩ | ⟨e, h⟩
 ·left
  rw [hβ] at h1
  have hg : P.getD j 0 = i := by simpa using h1
  refine ⟨j, e, hj, ?_⟩
  unfold solv
  rw [if_pos (by rw [← hg]; exact getD_mem hj)]
  have := hi.idx hj
  rw [hg] at this
  rw [this]
 ·right
  refine ⟨e, ?_⟩
  unfold solv
  rw [if_neg]
  intro hm
  obtain ⟨t, ht, e2⟩ := mem_getD hm
  have h9 := h t ht
  rw [hβ] at h9
  have h8 : decide (P.getD t 0 = i) = false := h9
  rw [decide_eq_true e2] at h8
  cases h8
end
set_option maxRecDepth 20000 in
theorem solve2 (p n C D i k base gP gW gA : Nat) (rv pv : Value) (vs mat : List Value) (W : Nat → Nat → Zp p) (P : List Nat) (d : Zp p) (w : World) (hi : Incr P C) (hP : P.length ≤ n) (hn : n ≤ 64) (hC : C ≤ 64) (hD : D ≤ 64) (hii : i < C) (hk : k < D)
  (KP : Blk 132 w gP [.pointer (some ⟨gW, 0, none⟩)]) (hW : Wk p w base gW n (C + D) W P d rv pv vs) (KA : Blk 63 w gA mat) (hA1 : mat[1]? = some (.int .i64 C)) :
  Calls Try.prog 178 #[.int .i64 i, .int .i64 k, .pointer (some ⟨gP, 0, none⟩), .pointer (some ⟨gA, 0, none⟩)] w (RetW w (.int .u64 ((solv C W P i k).val : Nat))) := by
 obtain ⟨pa, pc, rfl⟩ := hW.piv.sliced
 have hps := hW.piv.sl
 obtain ⟨R, hR⟩ := IxR.ex (fun j => decide (P.getD j 0 = i)) P.length
 have hix := Lib.hid (ix_int _ P i w hps (by omega) _ rfl R hR)
 have q0 : w.cell? ⟨gP, 0, none⟩ = some (.pointer (some ⟨gW, 0, none⟩)) := KP.cell 0
 have q1 : w.cell? ⟨gW, 2, none⟩ = some (.slice pa P.length pc) := hW.blk.cell 2
 have s0 := solv_at (W := W) (C := C) (k := k) hi rfl hR
 have hlP := KP.lt; have hlW := hW.blk.lt; have hlA := KA.lt
 rcases s0 with ⟨j, rfl, hj, e⟩ | ⟨rfl, e⟩
 ·have hjn : j < n := by omega
  obtain ⟨g, cg, b, o, cap, rfl, hcg, hlg, qh, hcap, hlb, qr⟩ := hW.rows.atR hjn (by omega)
  have q2 : w.cell? ⟨gW, 1, none⟩ = some (.slice (some ⟨g, 0, none⟩) n cg) := hW.blk.cell 1
  have q3 : w.cell? ⟨gA, 1, none⟩ = some (.int .i64 (C : Nat)) := (KA.cell 1).trans hA1
  obtain ⟨c, ec⟩ : ∃ c, c = C + k := ⟨_, rfl⟩
  have q4 : w.cell? ⟨b, o + c, none⟩ = some (.int .u64 ((W j c).val : Nat)) := qr c (by omega)
  have ha1 : IntKind.i64.wrap ((C : Int) + (k : Int)) = (c : Int) := by rw [ec, ← Int.natCast_add]; exact IntWalk.i64_in _ ⟨by omega, by omega⟩
  have hcN : c < C + D := by omega
  rw [e, ← ec]
  obtain ⟨x, ex⟩ : ∃ x, x = (W j c).val := ⟨_, rfl⟩
  rw [← ex] at q4 ⊢
  obtain ⟨N, eN⟩ : ∃ N, N = C + D := ⟨_, rfl⟩
  rw [← eN] at qh hcap hcN
  clear ec e ex eN qr hR hps hW KP KA hi hP
  go_enter Try.func178, Try.ntmps178
  go_wp2_with fail
  refine hix.out.mono ?_; rintro e w' ⟨rfl, rfl⟩
  clear q1 hix
  go_upto_region 3 with (fail)
  have bd := dw w
  replace q0 := (bd.cell (p := ⟨gP, 0, none⟩) hlP).trans q0
  replace q2 := (bd.cell (p := ⟨gW, 1, none⟩) hlW).trans q2
  replace q3 := (bd.cell (p := ⟨gA, 1, none⟩) hlA).trans q3
  replace qh := (bd.cell (p := ⟨g, j, none⟩) hlg).trans qh
  replace q4 := (bd.cell (p := ⟨b, o + c, none⟩) hlb).trans q4
  replace hlP : gP < w.drew.heap.size := hlP
  replace hlW : gW < w.drew.heap.size := hlW
  replace hlA : gA < w.drew.heap.size := hlA
  replace hlg : g < w.drew.heap.size := hlg
  replace hlb : b < w.drew.heap.size := hlb
  refine startL (S := (fun w' => Below (w.drew).heap.size (w.drew) w')) (by kernel_rfl) (Below.refl _ _) (fun hHeld => ?_)
  refine tg 0 rfl (fun w hS => by have f1 := (hS.cell (p := ⟨gP, 0, none⟩) hlP).trans q0; have f2 := (hS.cell (p := ⟨gW, 1, none⟩) hlW).trans q2; have f3 := (hS.cell (p := ⟨gA, 1, none⟩) hlA).trans q3; have f4 := (hS.cell (p := ⟨g, j, none⟩) hlg).trans qh; have f5 := (hS.cell (p := ⟨b, o + c, none⟩) hlb).trans q4; go_simp <;> with_reducible rfl) ?_
  refine tk 1 ?_
  refine tk 2 ?_
  refine tg 3 rfl (fun w hS => by have f1 := (hS.cell (p := ⟨gP, 0, none⟩) hlP).trans q0; have f2 := (hS.cell (p := ⟨gW, 1, none⟩) hlW).trans q2; have f3 := (hS.cell (p := ⟨gA, 1, none⟩) hlA).trans q3; have f4 := (hS.cell (p := ⟨g, j, none⟩) hlg).trans qh; have f5 := (hS.cell (p := ⟨b, o + c, none⟩) hlb).trans q4; go_simp <;> with_reducible rfl) ?_
  refine tk 4 ?_
  refine tk 5 ?_
  refine tg 6 rfl (fun w hS => by have f1 := (hS.cell (p := ⟨gP, 0, none⟩) hlP).trans q0; have f2 := (hS.cell (p := ⟨gW, 1, none⟩) hlW).trans q2; have f3 := (hS.cell (p := ⟨gA, 1, none⟩) hlA).trans q3; have f4 := (hS.cell (p := ⟨g, j, none⟩) hlg).trans qh; have f5 := (hS.cell (p := ⟨b, o + c, none⟩) hlb).trans q4; go_simp <;> with_reducible rfl) ?_
  refine tk 7 ?_
  refine tg 8 rfl (fun w hS => by have f1 := (hS.cell (p := ⟨gP, 0, none⟩) hlP).trans q0; have f2 := (hS.cell (p := ⟨gW, 1, none⟩) hlW).trans q2; have f3 := (hS.cell (p := ⟨gA, 1, none⟩) hlA).trans q3; have f4 := (hS.cell (p := ⟨g, j, none⟩) hlg).trans qh; have f5 := (hS.cell (p := ⟨b, o + c, none⟩) hlb).trans q4; go_simp <;> with_reducible rfl) ?_
  refine tk 9 ?_
  refine tk 10 ?_
  refine tk 11 ?_
  refine tg 12 rfl (fun w hS => by have f1 := (hS.cell (p := ⟨gP, 0, none⟩) hlP).trans q0; have f2 := (hS.cell (p := ⟨gW, 1, none⟩) hlW).trans q2; have f3 := (hS.cell (p := ⟨gA, 1, none⟩) hlA).trans q3; have f4 := (hS.cell (p := ⟨g, j, none⟩) hlg).trans qh; have f5 := (hS.cell (p := ⟨b, o + c, none⟩) hlb).trans q4; go_simp <;> with_reducible rfl) ?_
  refine tk 13 ?_
  refine doneL (by kernel_rfl) ?_ _
  clear hHeld q0 q2 q3 qh q4
  go_wp2
  go_ret
  exact ⟨rfl, bd⟩
 ·rw [e]
  have hv0 : ((0 : Zp p).val : Nat) = 0 := Zp.zero_val p
  rw [hv0]
  clear e hR hps hW KP KA hi hA1 hP
  go_enter Try.func178, Try.ntmps178
  go_wp2_with fail
  refine hix.out.mono ?_; rintro e w' ⟨rfl, rfl⟩
  clear q1 q0 hix
  go_wp2
  go_ret
  exact ⟨rfl, Below.refl _ _⟩
def RetSol (p : Nat) (w : World) (n C D : Nat) (A : MT (Zp p) n C) (B : MT (Zp p) n D) (e : Ending) (w' : World) : Prop :=
 (∃ X : MT (Zp p) C D, A * X = B ∧ RetFE p w C D X e w') ∨ ((∀ X : MT (Zp p) C D, A * X ≠ B) ∧ RetFX w 10 e w')
set_option maxRecDepth 20000 in
theorem fm_Solve (p : Nat) (a b : Value) (n C D : Nat) (xs ys : List Nat) (w : World) (hp : FP p) (ht : Trial p) (hA : Fm w a n C xs) (hB : Fm w b n D ys) (hn : n ≤ 64) (hC : C ≤ 64) (hD : D ≤ 64) (hD0 : 0 < D) (hx : xs.length = n * C) (hy : ys.length = n * D) :
  Calls Try.prog 155 #[.agg #[.int .u64 p], a, b] w (RetSol p w n C D (mx p n C xs) (mx p n D ys)) := by
 obtain ⟨aA, cA, rfl⟩ := hA.agg
 obtain ⟨aB, cB, rfl⟩ := hB.agg
 obtain ⟨wb, ew, KF, KA, KB, KR, B0, hsz⟩ := boxes4 w 29 63 63 63 [.int .u64 p] [.int .i64 n, .int .i64 C, .slice aA xs.length cA] [.int .i64 n, .int .i64 D, .slice aB ys.length cB] [.int .i64 0, .int .i64 0, .slice none 0 0]
 clear hsz
 have HP := Lib.hid hp; have HT := Lib.hid ht; clear hp ht
 replace hA := hA.next B0; replace hB := hB.next B0
 have HX := Lib.hid hx; have HY := Lib.hid hy; clear hx hy
 have hnn : ((n : Int) != (n : Int)) = false := by simp
 obtain ⟨A, eA⟩ : ∃ A, A = mx p n C xs := ⟨_, rfl⟩
 obtain ⟨B, eB⟩ : ∃ B, B = mx p n D ys := ⟨_, rfl⟩
 rw [← eA, ← eB]
 have EA := Lib.hid eA; have EB := Lib.hid eB; clear eA eB
 go_enter Try.func155, Try.ntmps155
 go_upto_region 1 with (fail)
 rw [← ew]
 obtain ⟨g, eg⟩ : ∃ g, g = w.heap.size := ⟨_, rfl⟩
 rw [← eg] at KF KA KB KR ⊢
 have hgw : w.heap.size ≤ g := by omega
 clear ew eg
 have f0 := KF.cell 0; have f1 := KA.cell 0; have f2 := KA.cell 1; have f3 := KA.cell 2; have f4 := KB.cell 0; have f5 := KB.cell 1; have f6 := KB.cell 2
 go_wp2_with fail
 refine (fm_Formed_yes _ n C xs _ hA (Fd.of hn hC HX.out)).mono ?_; rintro e w2 ⟨rfl, b2⟩
 clear f0 f1 f2 f3 f4 f5 f6
 replace hA := hA.next b2; replace hB := hB.next b2; replace KF := KF.next b2; replace KA := KA.next b2; replace KB := KB.next b2; replace KR := KR.next b2
 replace B0 := B0.trans (b2.mono B0.size)
 have f0 := KF.cell 0; have f1 := KA.cell 0; have f2 := KA.cell 1; have f3 := KA.cell 2; have f4 := KB.cell 0; have f5 := KB.cell 1; have f6 := KB.cell 2
 go_wp2_with fail
 refine (fm_Formed_yes _ n D ys _ hB (Fd.of hn hD HY.out)).mono ?_; rintro e w3 ⟨rfl, b3⟩
 clear f0 f1 f2 f3 f4 f5 f6 b2
 replace hA := hA.next b3; replace hB := hB.next b3; replace KF := KF.next b3; replace KA := KA.next b3; replace KB := KB.next b3; replace KR := KR.next b3
 replace B0 := B0.trans (b3.mono B0.size)
 have f0 := KF.cell 0; have f1 := KA.cell 0; have f2 := KA.cell 1; have f3 := KA.cell 2; have f4 := KB.cell 0; have f5 := KB.cell 1; have f6 := KB.cell 2
 go_wp2_with fail
 refine (fw_reduced p _ _ n C D xs ys _ HP.out HT.out hA hB hn hC hD HX.out HY.out).mono ?_; rintro e w4 ⟨gW, W, P, d, rv, pv, vs, rfl, hW, hr, b4⟩
 clear f0 f1 f2 f3 f4 f5 f6 b3
 rw [← EA.out, ← EB.out] at hr
 have HR := Lib.hid hr; clear hr
 have hPn := HR.out.len
 have hPC := HR.out.incr.len
 have hbg : g ≤ w4.heap.size := Nat.le_trans (Nat.le_of_lt KF.lt) b4.size
 replace KF := KF.next b4; replace KA := KA.next b4; replace KB := KB.next b4; replace KR := KR.next b4
 replace B0 := B0.trans (b4.mono B0.size)
 clear hA hB
 obtain ⟨w5, ew5, KP, b5, -⟩ := boxes1 w4 132 [.pointer (some ⟨gW, 0, none⟩)]
 go_upto_region 4 with (fail)
 rw [← ew5]
 obtain ⟨gP, egP⟩ : ∃ g, g = w4.heap.size := ⟨_, rfl⟩
 rw [← egP] at KP ⊢
 clear ew5 egP b4
 replace hW := hW.next b5; replace KF := KF.next b5; replace KA := KA.next b5; replace KB := KB.next b5; replace KR := KR.next b5
 replace B0 := B0.trans (b5.mono B0.size)
 clear b5
 obtain ⟨pa, pc, rfl⟩ := hW.piv.sliced
 obtain ⟨m2, em2⟩ : ∃ m2, m2 = n - P.length := ⟨_, rfl⟩
 have HM2 := Lib.hid em2
 go_cut [40, 41, 42] (fun v40 v41 v42 wx => ∃ ao c, v40 = .slice ao m2 c ∧ m2 ≤ c ∧ v41 = .int .i64 m2 ∧ v42 = .int .i64 0 ∧ (0 < m2 → ∃ gr cr, rv = .slice (some ⟨gr, 0, none⟩) n cr ∧ ao = some ⟨gr, P.length, none⟩) ∧ Below w5.heap.size w5 wx)
 case first =>
  have bd := dw w5
  have KP5 := KP.next bd; have hW5 := hW.next bd
  clear KF KA KB KR B0
  have hsh := hW.rows.shape
  clear hW KP
  rcases hsh with ⟨rfl, h0⟩ | ⟨gr, cr, rfl, _, _, hcr⟩
  ·obtain rfl : P = [] := List.eq_nil_of_length_eq_zero (by omega)
   have hm20 : m2 = 0 := by omega
   clear em2
   subst hm20
   subst h0
   have z0 := Lib.hid fun (w : World) (hS : Below (w5.drew).heap.size (w5.drew) w) => And.intro ((KP5.at hS) 0) (And.intro ((hW5.blk.at hS) 1) ((hW5.blk.at hS) 2))
   refine startL (S := (fun w' => Below (w5.drew).heap.size (w5.drew) w')) (by kernel_rfl) (Below.refl _ _) (fun hHeld => ?_)
   refine tf 0 z0.out ?_
   refine tk 1 ?_
   refine tk 2 ?_
   refine tf 3 z0.out ?_
   refine tf 4 z0.out ?_
   refine tk 5 ?_
   refine tk 6 ?_
   refine tf 7 z0.out ?_
   refine tk 8 ?_
   refine tk 9 ?_
   refine tk 10 ?_
   refine tk 11 ?_
   clear z0; refine doneL (by kernel_rfl) ?_ _
   have hb5 := bd.trans (hHeld.mono bd.size)
   clear KP5 hW5 bd
   go_wp2_with fail
   go_meet
   exact ⟨none, 0, rfl, Nat.le_refl _, rfl, rfl, fun h => absurd h (by omega), hb5⟩
  ·rcases Nat.lt_or_ge P.length cr with hlc | hlc
   ·have hm2c : n - P.length = m2 := em2.symm
    have hm3 : (n : Int) - (P.length : Int) = (m2 : Int) := by omega
    clear em2
    have z0 := Lib.hid fun (w : World) (hS : Below (w5.drew).heap.size (w5.drew) w) => And.intro ((KP5.at hS) 0) (And.intro ((hW5.blk.at hS) 1) ((hW5.blk.at hS) 2))
    refine startL (S := (fun w' => Below (w5.drew).heap.size (w5.drew) w')) (by kernel_rfl) (Below.refl _ _) (fun hHeld => ?_)
    refine tf 0 z0.out ?_
    refine tk 1 ?_
    refine tk 2 ?_
    refine tf 3 z0.out ?_
    refine tf 4 z0.out ?_
    refine tk 5 ?_
    refine tk 6 ?_
    refine tf 7 z0.out ?_
    refine tk 8 ?_
    refine tk 9 ?_
    refine tk 10 ?_
    refine tk 11 ?_
    clear z0; refine doneL (by kernel_rfl) ?_ _
    have hb5 := bd.trans (hHeld.mono bd.size)
    clear KP5 hW5 bd hm3
    go_wp2_with fail
    go_meet
    exact ⟨_, _, rfl, by have := HM2.out; omega, rfl, rfl, fun h => ⟨gr, cr, rfl, rfl⟩, hb5⟩
   ·have hPe : P.length = n := by omega
    obtain rfl : cr = n := by omega
    have hm20 : m2 = 0 := by omega
    clear em2
    subst hm20
    clear hlc
    have z0 := Lib.hid fun (w : World) (hS : Below (w5.drew).heap.size (w5.drew) w) => And.intro ((KP5.at hS) 0) (And.intro ((hW5.blk.at hS) 1) ((hW5.blk.at hS) 2))
    refine startL (S := (fun w' => Below (w5.drew).heap.size (w5.drew) w')) (by kernel_rfl) (Below.refl _ _) (fun hHeld => ?_)
    refine tf 0 z0.out ?_
    refine tk 1 ?_
    refine tk 2 ?_
    refine tf 3 z0.out ?_
    refine tf 4 z0.out ?_
    refine tk 5 ?_
    refine tk 6 ?_
    refine tf 7 z0.out ?_
    refine tk 8 ?_
    refine tk 9 ?_
    refine tk 10 ?_
    refine tk 11 ?_
    clear z0; refine doneL (by kernel_rfl) ?_ _
    have hb5 := bd.trans (hHeld.mono bd.size)
    clear KP5 hW5 bd
    go_wp2_with fail
    go_meet
    exact ⟨_, _, rfl, Nat.le_refl _, rfl, rfl, fun h => absurd h (by omega), hb5⟩
 case rest =>
  clear em2
  obtain ⟨ao, c, rfl, hmc, rfl, rfl, hao, bx⟩ := hcut
  replace hW := hW.next bx; replace KF := KF.next bx; replace KA := KA.next bx; replace KB := KB.next bx; replace KR := KR.next bx; replace KP := KP.next bx
  replace B0 := B0.trans (bx.mono B0.size)
  clear bx
  have q1 := KA.cell 1
  obtain ⟨N, eN⟩ : ∃ N, N = C + D := ⟨_, rfl⟩
  have hCN : C < N := by omega
  have hND : N - C = D := by omega
  have HN := Lib.hid eN; clear eN
  have HAO := Lib.hid hao; clear hao
  have HKW := Lib.hid hW; clear hW
  go_wp2
  go_loop [42] (fun kv => ∃ k : Nat, k ≤ m2 ∧ kv = .int .i64 k ∧ ∀ l j, l < k → j < D → W (P.length + l) (C + j) = 0) (fun kv => m2 - (intOf kv).toNat)
  case atStart => exact ⟨0, by omega, rfl, fun l j h => by omega⟩
  case round =>
   obtain ⟨k, hk, rfl, hz⟩ := hrel
   have HZ := Lib.hid hz; clear hz
   by_cases hkm : k < m2
   ·obtain ⟨gr, cr, rfl, rfl⟩ := HAO.out (by omega)
    have hrn : P.length + k < n := by have := HM2.out; omega
    obtain ⟨g', cg, b, o, cap, e1, hcg, hlg, qh, hcap, hlb, qr⟩ := HKW.out.rows.atR hrn (by omega)
    simp only [Value.slice.injEq] at e1
    obtain ⟨e2, -, -⟩ := e1
    simp only [Option.some.injEq, Addr.mk.injEq] at e2
    obtain ⟨rfl, -⟩ := e2
    have hvs : VsF wc (.slice (some ⟨b, o + C, none⟩) D (cap - C)) D (fun j => .int .u64 ((W (P.length + k) (C + j)).val : Nat)) :=
     ⟨_, b, o + C, cap - C, rfl, by omega, fun _ => ⟨rfl, hlb⟩, fun j hj => by rw [Nat.add_assoc]; exact qr (C + j) (by omega)⟩
    rw [← HN.out] at qh hcap
    clear qr hcg hlg
    have HVS := Lib.hid hvs; clear hvs
    obtain ⟨R, hR⟩ := IxR.ex (fun j => decide ((W (P.length + k) (C + j)).val ≠ 0)) D
    go_wp2_with fail
    have hcont := cont_u64 177 (enters_of Try.func177 rfl rfl) _ D _ _ HVS.out (by omega) _ (fun j hj => solve1 _ _ _ rfl) R hR _ rfl
    rcases hR with ⟨j, rfl, hj, h1, _⟩ | ⟨rfl, hall⟩
    ·rw [decide_eq_true (by omega)] at hcont
     refine hcont.mono ?_; rintro e w' ⟨rfl, rfl⟩
     clear hcont
     have hno := Lib.hid (fun X => solv_no (q := D) (r := P.length + k) (k := j) HR.out (by omega) hrn hj (fun h => of_decide_eq_true h1 (by rw [h, Zp.zero_val])) X)
     clear h1 q1 qh
     have hgb : w.heap.size ≤ g + 1 + 1 + 1 := by omega
     have f0 := KR.free 0; have f1 := KR.free 1; have f2 := KR.free 2
     have c0 := KR.cell 0; have c1 := KR.cell 1; have c2 := KR.cell 2
     have KF2 := ((KR.set 0 (.int .i64 0)).set 1 (.int .i64 0)).set 2 (.slice none 0 0)
     have d0 := KF2.cell 0; have d1 := KF2.cell 1; have d2 := KF2.cell 2
     have FR := Lib.hid (show RetSol p w n C D A B (.returned (.tuple #[.agg #[.int .i64 0, .int .i64 0, .slice none 0 0], .int .i64 10])) (((wc.setCell ⟨g + 1 + 1 + 1, 0, none⟩ (.int .i64 0)).setCell ⟨g + 1 + 1 + 1, 1, none⟩ (.int .i64 0)).setCell ⟨g + 1 + 1 + 1, 2, none⟩ (.slice none 0 0)) from
      .inr ⟨hno.out, rfl, ((B0.setCell (p := ⟨g + 1 + 1 + 1, 0, none⟩) hgb _).setCell (p := ⟨g + 1 + 1 + 1, 1, none⟩) hgb _).setCell (p := ⟨g + 1 + 1 + 1, 2, none⟩) hgb _⟩)
     clear KF2 KR B0 KF KA KB KP
     go_wp2
     exact bodyPost_ret (v := .tuple #[.agg #[.int .i64 0, .int .i64 0, .slice none 0 0], .int .i64 10]) (by simp [results, Try.results155, go_sem, d0, d1, d2]) rfl FR.out
    ·rw [decide_eq_false (by omega)] at hcont
     refine hcont.mono ?_; rintro e w' ⟨rfl, rfl⟩
     clear hcont
     have HZ2 := Lib.hid (show ∀ l j, l < k + 1 → j < D → W (P.length + l) (C + j) = 0 from fun l j hl hj => by
      by_cases e : l = k
      ·have := hall j hj
       rw [e]
       refine zp0 ?_
       simpa using this
      ·exact HZ.out l j (by omega) hj)
     clear hall qh
     go_wp2
     go_round
     case rel => exact ⟨k + 1, by omega, by go_num, HZ2.out⟩
     case measure => simp [intOf] <;> omega
   ·obtain rfl : k = m2 := by omega
    have hsol := Lib.hid (solv_ok (q := D) (A := A) (B := B) HR.out (fun r k' h1 h2 h3 => by
     have := HZ.out (r - P.length) k' (by have := HM2.out; omega) h3
     rwa [show P.length + (r - P.length) = r by omega] at this))
    have q3 := KB.cell 1; have q4 := KF.cell 0
    go_wp2_with fail
    refine (fm_made p C D HP.out (by omega) (by omega) 178 (enters_of Try.func178 rfl rfl) [.pointer (some ⟨gP, 0, none⟩), .pointer (some ⟨g + 1, 0, none⟩)] (fun i k => (solv C W P i k).val) _ (fun i k w' hi hk hb =>
     solve2 p n C D i k _ gP gW (g + 1) rv _ vs _ W P d w' HR.out.incr hPn hn hC hD hi hk (KP.next hb) (HKW.out.next hb) (KA.next hb) rfl)).mono ?_; rintro e w7 ⟨a7, k7, rfl, o7, b7⟩
    clear q1 q3 q4
    obtain ⟨M, eM⟩ : ∃ M, M = MT.of C D fun i k => Zp.of p (solv C W P i k).val := ⟨_, rfl⟩
    rw [← eM] at o7 ⊢
    have hM : A * M = B := by
     have h : M = MT.of C D (solv C W P) := by rw [eM]; exact MT.ext fun i k hi hk => by rw [MT.of_e _ hi hk, MT.of_e _ hi hk, Zp.of_val]
     rw [h]; exact hsol.out
    have HMM := Lib.hid hM; clear hM eM
    have hgb := KR.lt
    replace KR := KR.next b7
    have hgy : w.heap.size ≤ g + 1 + 1 + 1 := by omega
    replace B0 := B0.trans (b7.mono B0.size)
    have hw7 : w.heap.size ≤ wc.heap.size := by omega
    clear b7 KF KA KB KP
    have f0 := KR.free 0; have f1 := KR.free 1; have f2 := KR.free 2
    have c0 := KR.cell 0; have c1 := KR.cell 1; have c2 := KR.cell 2
    have KF2 := ((KR.set 0 (.int .i64 C)).set 1 (.int .i64 D)).set 2 (.slice a7 (tbv M).length k7)
    have d0 := KF2.cell 0; have d1 := KF2.cell 1; have d2 := KF2.cell 2
    have of := ((o7.low (a := ⟨g + 1 + 1 + 1, 0, none⟩) hgb (.int .i64 C)).low (a := ⟨g + 1 + 1 + 1, 1, none⟩) hgb (.int .i64 D)).low (a := ⟨g + 1 + 1 + 1, 2, none⟩) hgb (.slice a7 (tbv M).length k7)
    have BF := ((B0.setCell (p := ⟨g + 1 + 1 + 1, 0, none⟩) hgy (.int .i64 C)).setCell (p := ⟨g + 1 + 1 + 1, 1, none⟩) hgy (.int .i64 D)).setCell (p := ⟨g + 1 + 1 + 1, 2, none⟩) hgy (.slice a7 (tbv M).length k7)
    have FR := Lib.hid (show RetSol p w n C D A B (.returned (.tuple #[.agg #[.int .i64 C, .int .i64 D, .slice a7 (tbv M).length k7], .int .i64 0])) (((w7.setCell ⟨g + 1 + 1 + 1, 0, none⟩ (.int .i64 C)).setCell ⟨g + 1 + 1 + 1, 1, none⟩ (.int .i64 D)).setCell ⟨g + 1 + 1 + 1, 2, none⟩ (.slice a7 (tbv M).length k7)) from .inl ⟨M, HMM.out, _, _, rfl, of.mono hw7, BF⟩)
    clear KF2 KR of BF B0 o7 hgb
    go_wp2
    exact bodyPost_ret (v := .tuple #[.agg #[.int .i64 C, .int .i64 D, .slice a7 (tbv M).length k7], .int .i64 0]) (by simp [results, Try.results155, go_sem, d0, d1, d2]) rfl FR.out
end Go.Proofs.Ytkmfhabgempjiaa
/- hess.images: columns, side by side. -/
namespace Go.Proofs.Ytkmfhabgempjiaa
set_option maxHeartbeats 4000000
open Go.RowKit
def Cls (w : World) (v : Value) (n m : Nat) (col : Nat → List Nat) : Prop := ∃ ao b o cap, v = .slice ao m cap ∧ m ≤ cap ∧ (0 < m → ao = some ⟨b, o, none⟩ ∧ b < w.heap.size) ∧
 ∀ t, t < m → ∃ a c, w.cell? ⟨b, o + t * 3, none⟩ = some (.int .i64 n) ∧ w.cell? ⟨b, o + t * 3 + 1, none⟩ = some (.int .i64 1) ∧ w.cell? ⟨b, o + t * 3 + 2, none⟩ = some (.slice a n c) ∧ (col t).length = n ∧ Sl .u64 w (.slice a n c) (col t)
theorem Cls.next {w w' : World} {v : Value} {n m : Nat} {col : Nat → List Nat} (h : Cls w v n m col) (hb : Below w.heap.size w w') : Cls w' v n m col := by
 obtain ⟨ao, b, o, cap, e, h1, h2, h3⟩ := h
 refine ⟨ao, b, o, cap, e, h1, fun h0 => ⟨(h2 h0).1, Nat.lt_of_lt_of_le (h2 h0).2 hb.size⟩, fun t ht => ?_⟩
 obtain ⟨a, c, k0, k1, k2, k3, k4⟩ := h3 t ht
 have hl := (h2 (by omega)).2
 exact ⟨a, c, (hb.cell (p := ⟨b, o + t * 3, none⟩) hl).trans k0, (hb.cell (p := ⟨b, o + t * 3 + 1, none⟩) hl).trans k1, (hb.cell (p := ⟨b, o + t * 3 + 2, none⟩) hl).trans k2, k3, k4.next hb⟩
def ImR (w wr : World) (g n m : Nat) (L : List Nat) : Prop := ∃ ao k, Blk 63 wr (g + 1) [.int .i64 n, .int .i64 m, .slice ao L.length k] ∧ Blk 63 wr g [.int .i64 0, .int .i64 0, .slice none 0 0] ∧
 Own .u64 27 wr (g + 1 + 1) (.slice ao L.length k) L ∧ Below w.heap.size w wr
set_option maxRecDepth 20000 in
theorem hs_images (p : Nat) (v : Value) (n m : Nat) (col : Nat → List Nat) (w : World) (hv : Cls w v n m col) (hn : n ≤ 64) (hm : m ≤ 64) (hw : ∀ t i, t < m → i < n → (col t).getD i 0 < p) :
  Calls Try.prog 156 #[v, .int .i64 n] w (RetFm p w n m (MT.of n m fun i t => Zp.of p ((col t).getD i 0))) := by
 have hv0 := Lib.hid hv
 obtain ⟨av, bv, ov, cv, rfl, hcv, -⟩ := hv
 obtain ⟨T, eT⟩ : ∃ T : Nat → Nat → Nat, T = fun i t => (col t).getD i 0 := ⟨_, rfl⟩
 have hfin := Lib.hid (show ftab m T (n * m) = tbv (MT.of n m fun i t => Zp.of p ((col t).getD i 0)) from tbv_of _ _ fun i k hi hk => by
  rw [eT, Zp.val_of]
  have := hw k i hk hi
  rw [Nat.mod_eq_of_lt (by omega)])
 obtain ⟨M, eM⟩ : ∃ M, M = MT.of n m fun i t => Zp.of p ((col t).getD i 0) := ⟨_, rfl⟩
 rw [← eM] at hfin ⊢
 have ET := Lib.hid eT; clear eT eM hw
 obtain ⟨wb, ew, KR, KT, B0, hsz⟩ := boxes2 w 63 63 [.int .i64 0, .int .i64 0, .slice none 0 0] [.int .i64 n, .int .i64 m, .slice none 0 0]
 clear hsz
 go_enter Try.func156, Try.ntmps156
 go_upto_region 2 with (fail)
 rw [← ew]
 obtain ⟨g, eg⟩ : ∃ g, g = w.heap.size := ⟨_, rfl⟩
 rw [← eg] at KR KT ⊢
 have hgw : w.heap.size ≤ g := by omega
 have hwg : g ≤ w.heap.size := by omega
 clear ew eg
 have st : ImR w wb g n m (ftab m T (0 * m)) := ⟨none, 0, by rw [Nat.zero_mul]; exact KT, KR, by rw [Nat.zero_mul]; exact Own.nil _ _ _ _, B0⟩
 clear KR KT B0
 go_wp2
 go_loopw [14] (fun iv wr => ∃ i : Nat, i ≤ n ∧ iv = .int .i64 i ∧ ImR w wr g n m (ftab m T (i * m))) (fun iv _ => n - (intOf iv).toNat)
 case atStart => exact ⟨0, by omega, rfl, st⟩
 case round =>
  clear st
  obtain ⟨i, hi, rfl, st⟩ := hrel
  by_cases hin : i < n
  ·go_wp2
   go_loopw [19] (fun kv wr => ∃ k : Nat, k ≤ m ∧ kv = .int .i64 k ∧ ImR w wr g n m (ftab m T (i * m + k))) (fun kv _ => m - (intOf kv).toNat)
   case atStart => exact ⟨0, by omega, rfl, st⟩
   case round =>
    clear st
    obtain ⟨k, hk, rfl, st⟩ := hrel
    by_cases hkm : k < m
    ·obtain ⟨ao, kk, KT, KR, ho, B0⟩ := st
     have hvr := hv0.out
     obtain ⟨av', b', o', cv', e1, -, h2, h3⟩ := hvr
     simp only [Value.slice.injEq] at e1
     obtain ⟨rfl, -, rfl⟩ := e1
     obtain ⟨rfl, hlb⟩ := h2 (by omega)
     obtain ⟨ac, cc, q0, q1, q2, q3, q4⟩ := h3 k hkm
     clear h2 h3
     obtain ⟨x, ex⟩ : ∃ x, x = T i k := ⟨_, rfl⟩
     obtain ⟨ac', bc, oc, cc', e2, k1, k2⟩ := q4
     simp only [Value.slice.injEq] at e2
     obtain ⟨rfl, -, rfl⟩ := e2
     have hne : col k ≠ [] := by intro h; rw [h] at q3; simp at q3; omega
     obtain rfl := k2.ao hne
     have hlc := k2.lt hne
     have qx := k2.cell i (by omega)
     rw [show (col k).getD i 0 = x by rw [ex, ET.out]] at qx
     replace q0 := (B0.cell (p := ⟨b', o' + k * 3, none⟩) hlb).trans q0
     replace q1 := (B0.cell (p := ⟨b', o' + k * 3 + 1, none⟩) hlb).trans q1
     replace q2 := (B0.cell (p := ⟨b', o' + k * 3 + 2, none⟩) hlb).trans q2
     replace qx := (B0.cell (p := ⟨bc, oc + i, none⟩) hlc).trans qx
     obtain ⟨L, eL⟩ : ∃ L, L = ftab m T (i * m + k) := ⟨_, rfl⟩
     have hL1 := Lib.hid (show ftab m T (i * m + (k + 1)) = L ++ [x] by rw [ftab_at T hkm, eL, ex])
     have hLl := Lib.hid (show L.length ≤ 10000 by
      rw [eL, ftab_length]
      have : (i + 1) * m ≤ 64 * 64 := Nat.mul_le_mul (by omega) hm
      rw [Nat.succ_mul] at this; omega)
     rw [← eL] at KT ho
     clear eL ex k2 hne q3
     have hgr : g + 1 < wr.heap.size := KT.lt
     obtain ⟨w7, ew7, KC, b7, -⟩ := boxes1 wr 63 [.int .i64 n, .int .i64 1, .slice (some ⟨bc, oc, none⟩) n cc]
     go_upto_region 8 with (fail)
     rw [← ew7]
     obtain ⟨gC, egC⟩ : ∃ g, g = wr.heap.size := ⟨_, rfl⟩
     rw [← egC] at KC ⊢
     clear ew7 q0 q1 q2
     have bd := b7.trans ((dw w7).mono b7.size)
     replace KC := KC.next (dw w7)
     have hbr : bc < wr.heap.size := Nat.lt_of_lt_of_le hlc B0.size
     replace qx := (bd.cell (p := ⟨bc, oc + i, none⟩) hbr).trans qx
     replace KT := KT.next bd; replace KR := KR.next bd; replace ho := ho.next bd
     replace B0 := B0.trans (bd.mono B0.size)
     have hgd : g + 1 + 1 ≤ w7.drew.heap.size := Nat.le_trans hgr bd.size
     clear bd b7 egC hbr hgr
     have z0 := Lib.hid fun (w : World) (hS : w.cell? ⟨g + 1, 2, none⟩ = some (.slice ao L.length kk) ∧ w.cell? ⟨gC, 2, none⟩ = some (.slice (some ⟨bc, oc, none⟩) n cc) ∧ w.cell? ⟨bc, oc + i, none⟩ = some (.int .u64 (x : Nat))) => And.intro (hS.1) (And.intro (hS.2.1) (hS.2.2))
     refine startP (S := (fun w' => w'.cell? ⟨g + 1, 2, none⟩ = some (.slice ao L.length kk) ∧ w'.cell? ⟨gC, 2, none⟩ = some (.slice (some ⟨bc, oc, none⟩) n cc) ∧ w'.cell? ⟨bc, oc + i, none⟩ = some (.int .u64 (x : Nat)))) (by kernel_rfl) _ rfl rfl rfl (by kernel_rfl) ⟨KT.cell 2, KC.cell 2, qx⟩ (fun hHeld => ?_)
     generalize w7.drew = wd at *
     refine tk 0 ?_
     refine tf 1 z0.out ?_
     refine tk 2 ?_
     refine tf 3 z0.out ?_
     refine tk 4 ?_
     refine tk 5 ?_
     refine tf 6 z0.out ?_
     refine on 7 fun K hK => ?_
     go_simp
     have ba := (Below.refl wd.heap.size wd).alloc (Nat.le_refl _) (.cells #[.int .u64 (x : Nat)] 27)
     have hlcd : bc < wd.heap.size := Nat.lt_of_lt_of_le hlc B0.size
     refine hK.out _ _ ⟨(KT.next ba).cell 2, (KC.next ba).cell 2, (ba.cell (p := ⟨bc, oc + i, none⟩) hlcd).trans qx⟩ (fun hHeld => ?_)
     clear hK K ba hlcd
     try simp only [Act.put, zq1, zq2, zq3]
     refine on 8 fun K hK => ?_
     refine apV 41 27 8 (.int .u64 0) Try.underlying41 (by kernel_rfl) (by decide) rfl _ _ rfl wd (g + 1 + 1) (.slice ao L.length kk) L.length (vs .u64 L) (.int .u64 (x : Nat)) rfl ho (by have := hLl.out; omega) hgd ?_ ?_ ?_
     exact rfl
     exact rfl
     intro gg cap8 wz ho8 hb8 hg8 _
     refine hK.out _ _ ⟨(KT.below hb8 (Nat.lt_succ_self _)).cell 2, (KC.kept hg8 (rowOwn_ne ho KC (by decide))).cell 2, (hb8.cell (p := ⟨bc, oc + i, none⟩) (show bc < g + 1 + 1 by omega)).trans qx⟩ (fun hHeld => ?_)
     clear hK K
     try simp only [Act.put, zq1, zq2, zq3]
     refine tk 9 ?_
     clear z0; refine doneL (by kernel_rfl) ?_ _
     refine lastL rfl (by rfl) ?_
     have K5 := (KT.below hb8 (Nat.lt_succ_self _)).set 2 (.slice (some ⟨gg, 0, none⟩) (L.length + 1) cap8)
     have K6 := ((KR.below hb8 (by omega))).far (a := ⟨g + 1, 2, none⟩) (show g ≠ g + 1 by omega) (.slice (some ⟨gg, 0, none⟩) (L.length + 1) cap8)
     have o8 : Own .u64 27 wz (g + 1 + 1) (.slice (some ⟨gg, 0, none⟩) (L.length + 1) cap8) (L ++ [x]) := by
      unfold Own; rw [List.length_append]
      have e : vs .u64 (L ++ [x]) = vs .u64 L ++ [.int .u64 (x : Nat)] := by simp [vs]
      rw [e]; exact ho8
     have o9 := o8.low (a := ⟨g + 1, 2, none⟩) (show g + 1 < g + 1 + 1 by omega) (.slice (some ⟨gg, 0, none⟩) (L.length + 1) cap8)
     have B9 := (B0.trans (hb8.mono (by omega))).setCell (p := ⟨g + 1, 2, none⟩) (show w.heap.size ≤ g + 1 by omega) (.slice (some ⟨gg, 0, none⟩) (L.length + 1) cap8)
     have st := Lib.hid (show ImR w (wz.setCell ⟨g + 1, 2, none⟩ (.slice (some ⟨gg, 0, none⟩) (L.length + 1) cap8)) g n m (ftab m T (i * m + (k + 1))) by
      rw [hL1.out]; unfold ImR; rw [List.length_append]; exact ⟨_, _, K5, K6, o9, B9⟩)
     have y0 := (KT.below hb8 (Nat.lt_succ_self _)).cell 2; have y1 := (KT.below hb8 (Nat.lt_succ_self _)).free 2
     clear KT KR KC ho B0 qx ho8 hb8 hg8 K5 K6 o8 o9 B9 hHeld
     go_wp2
     go_roundw
     case rel => exact ⟨k + 1, by omega, by go_num, st.out⟩
     case measure => simp [intOf] <;> omega
    ·obtain rfl : k = m := by omega
     go_wp2
     go_roundw
     case rel => exact ⟨i + 1, by omega, by go_num, by rw [Nat.succ_mul]; exact st⟩
     case measure => simp [intOf] <;> omega
  ·obtain rfl : i = n := by omega
   rw [hfin.out] at st
   obtain ⟨ao, kk, KT, KR, ho, B0⟩ := st
   have k0 := KT.cell 0; have k1 := KT.cell 1; have k2 := KT.cell 2
   have e0 := KR.cell 0; have e1 := KR.cell 1; have e2 := KR.cell 2
   have f0 := KR.free 0; have f1 := KR.free 1; have f2 := KR.free 2
   have KF := ((KR.set 0 (.int .i64 i)).set 1 (.int .i64 m)).set 2 (.slice ao (tbv M).length kk)
   have d0 := KF.cell 0; have d1 := KF.cell 1; have d2 := KF.cell 2
   have hlt : g < g + 1 + 1 := by omega
   have hof := ((ho.low (a := ⟨g, 0, none⟩) hlt (.int .i64 i)).low (a := ⟨g, 1, none⟩) hlt (.int .i64 m)).low (a := ⟨g, 2, none⟩) hlt (.slice ao (tbv M).length kk)
   have BF := ((B0.setCell (p := ⟨g, 0, none⟩) hgw (.int .i64 i)).setCell (p := ⟨g, 1, none⟩) hgw (.int .i64 m)).setCell (p := ⟨g, 2, none⟩) hgw (.slice ao (tbv M).length kk)
   have FR := Lib.hid (show RetFm p w i m M (.returned (.agg #[.int .i64 i, .int .i64 m, .slice ao (tbv M).length kk])) (((wr.setCell ⟨g, 0, none⟩ (.int .i64 i)).setCell ⟨g, 1, none⟩ (.int .i64 m)).setCell ⟨g, 2, none⟩ (.slice ao (tbv M).length kk)) from ⟨_, _, rfl, hof.mono (by omega), BF⟩)
   clear KF KR KT hof BF ho B0
   go_wp2
   exact bodyPost_ret (v := .agg #[.int .i64 i, .int .i64 m, .slice ao (tbv M).length kk]) (by simp [results, Try.results156, go_sem, d0, d1, d2]) rfl FR.out
end Go.Proofs.Ytkmfhabgempjiaa
