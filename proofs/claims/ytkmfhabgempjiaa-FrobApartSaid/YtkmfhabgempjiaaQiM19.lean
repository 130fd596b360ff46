/- Layer 25: a matrix's parts: the walk. -/
import Derived.Laws.CopyRow
import Derived.Test.YtkmfhabgempjiaaQiM18
import Derived.Test.YtkmfhabgempjiaaQiM7
import Derived.Test.YtkmfhabgempjiaaQiM8
import Derived.Test.YtkmfhabgempjiaaQiM12
namespace Go.Proofs.Ytkmfhabgempjiaa
set_option maxHeartbeats 4000000
open Go.RowKit
def PtS (p n : Nat) (A : MT (Zp p) n n) (W : (Nat → Nat → Pol (Zp p))) (X : MT (Pol (Zp p)) n n) (wr : World) (base : Nat) (iv cv : Value) (i : Nat) : Prop :=
 ∃ us S, Qls p wr base iv us (pks W i).length 255 (fun j => W ((pks W i).getD j 0) ((pks W i).getD j 0)) ∧ Mls wr base cv (pks W i).length (fun _ => n) (fun _ => 1) S (fun j => tbv (ph A (cl X ((pks W i).getD j 0))))
def RetPt (p : Nat) (w : World) (n : Nat) (A : MT (Zp p) n n) (e : Ending) (w' : World) : Prop :=
 ∃ (W U V : (Nat → Nat → Pol (Zp p))) (X : MT (Pol (Zp p)) n n), SmR (XA A) U W V ∧ Inv (MT.of n n U) X ∧ (∀ i k, i < n → k < n → i ≠ k → W i k = 0) ∧ (∀ k, k < n → Mo (W k k)) ∧ (∀ i k, i ≤ k → k < n → Dv (W i i) (W k k)) ∧
  ∃ iv cv, e = .returned (.agg #[iv, cv]) ∧ PtS p n A W X w' w.heap.size iv cv n ∧ Below w.heap.size w w'
section
variable {p n : Nat}
theorem smi_off {t : Nat} {W : (Nat → Nat → Pol (Zp p))} (h : SmI t n n W) (hz : ∀ a b, t ≤ a → a < n → t ≤ b → b < n → W a b = 0) : (∀ i k, i < n → k < n → i ≠ k → W i k = 0) ∧ (∀ k, k < n → Mo (W k k)) ∧ ∀ i k, i ≤ k → k < n → Dv (W i i) (W k k) := by
 refine ⟨fun i k hi hk hne => ?_, fun k hk => ?_, fun i k hik hk => ?_⟩
 ·by_cases h1 : i < t ∨ k < t
  ·exact h.off i k hi hk hne h1
  ·exact hz i k (by omega) hi (by omega) hk
 ·by_cases h1 : k < t
  ·exact h.mo k h1
  ·rw [hz k k (by omega) hk (by omega) hk]; exact Or.inl rfl
 ·by_cases h1 : k < t
  ·exact h.dv i (by omega) k k hik hk hik hk
  ·rw [hz k k (by omega) hk (by omega) hk]; exact Dv.zero _
theorem hbd4 {r : Nat} (hr : r ≤ 4) : 2 ^ hbd r r * 128 ≤ 131072 := by
 rcases (show r = 0 ∨ r = 1 ∨ r = 2 ∨ r = 3 ∨ r = 4 by omega) with rfl | rfl | rfl | rfl | rfl <;> decide
end
set_option maxRecDepth 20000 in
theorem fb_part (p : Nat) (a : Value) (n : Nat) (xs : List Nat) (w : World) (hp : FP p) (tr : Trial p) (hA : Fm w a n n xs) (hn : n ≤ 4) (hx : xs.length = n * n) :
  Calls Try.prog 102 #[.agg #[.int .u64 p], a] w (RetPt p w n (mx p n n xs)) := by
 obtain ⟨aA, cA, rfl⟩ := hA.agg
 obtain ⟨wb, ew, KF, KA, KR, B0, hsz⟩ := boxes3 w 29 63 130 [.int .u64 p] [.int .i64 n, .int .i64 n, .slice aA xs.length cA] [.slice none 0 0, .slice none 0 0]
 clear hsz
 replace hA := hA.next B0
 have HX := Lib.hid hx; have HP := Lib.hid hp; have HT := Lib.hid tr; clear hx hp tr
 obtain ⟨A, eA⟩ : ∃ A, A = mx p n n xs := ⟨_, rfl⟩
 rw [← eA]
 have EA := Lib.hid eA; clear eA
 have hnn : n * n ≤ 16 := Nat.mul_le_mul hn hn
 go_enter Try.func102, Try.ntmps102
 have qKF0 := KF.cell 0
 have qKA0 := KA.cell 0
 have qKA1 := KA.cell 1
 have qKA2 := KA.cell 2
 go_wp2_with fail
 rw [← ew]
 clear ew
 refine (xm_Char p 2 _ n xs _ HP.out hA (by omega) HX.out (by omega) (by omega) (fun j => (XA A).e (j / n) (0 + j % n)) (fun i k hi hk => by rw [EA.out]; exact xa_of hi hk)).mono ?_; rintro e w1 ⟨aC, kC, usC, rfl, QC, b1⟩
 clear qKF0 qKA0 qKA1 qKA2
 replace KF := KF.next b1
 replace KA := KA.next b1
 replace KR := KR.next b1
 replace hA := hA.next b1
 replace B0 := B0.trans (b1.mono B0.size)
 clear b1
 obtain ⟨zsC, zlC, nsC, hzC⟩ := QC.ns HP.out
 have mC : Xm w1 (.agg #[.int .i64 n, .int .i64 n, .slice aC (n * n) kC]) n n zsC := ⟨_, rfl, nsC⟩
 have e1 : MT.of n n (aT p n zsC) = XA A := MT.ext fun i k hi hk => by rw [MT.of_e _ hi hk]; exact rd_at (W := (XA A).e) hzC hi hk
 have E1 := Lib.hid e1; have ZLC := Lib.hid zlC; have LC := Lib.hid (show ∀ j, j < n * n → (zsC.getD j []).length ≤ 2 from fun j hj => (hzC j hj).2.2)
 clear e1 zlC nsC hzC QC
 obtain ⟨w2, e2, KC, b2, hs2⟩ := boxes1 w1 24 [.int .i64 n, .int .i64 n, .slice aC (n * n) kC]
 clear hs2
 replace KF := KF.next b2
 replace KA := KA.next b2
 replace KR := KR.next b2
 replace hA := hA.next b2
 replace mC := mC.next b2
 replace B0 := B0.trans (b2.mono B0.size)
 clear b2
 go_upto_region 2 with (fail)
 rw [← e2]
 clear e2
 have qKF0 := KF.cell 0
 have qKC0 := KC.cell 0
 have qKC1 := KC.cell 1
 have qKC2 := KC.cell 2
 go_wp2_with fail
 refine (xf_Smith4P p _ n n zsC _ HP.out HT.out mC hn hn ZLC.out LC.out).mono ?_; rintro e w3 ⟨t, W, U, V, hU, ht, -, hS, hI, hz, aD, kD, usD, aU, kU, usU, aV, kV, usV, rfl, QD, QU, -, b3⟩
 clear qKF0 qKC0 qKC1 qKC2
 replace KF := KF.next b3
 replace KA := KA.next b3
 replace KR := KR.next b3
 replace hA := hA.next b3
 replace mC := mC.next b3
 replace KC := KC.next b3
 replace B0 := B0.trans (b3.mono B0.size)
 clear b3
 rw [E1.out] at hS
 obtain ⟨h1, h2, h3⟩ := smi_off hI hz
 obtain ⟨X, hX⟩ := hS.u
 obtain ⟨s0, hU⟩ := hU
 have HSM := Lib.hid hS; have HXI := Lib.hid hX; have HOF := Lib.hid h1; have HMO := Lib.hid h2; have HDV := Lib.hid h3
 obtain ⟨zsD, zlD, nsD, hzD⟩ := QD.ns HP.out
 obtain ⟨zsU, zlU, nsU, hzU⟩ := QU.ns HP.out
 have mD : Xm w3 (.agg #[.int .i64 n, .int .i64 n, .slice aD (n * n) kD]) n n zsD := ⟨_, rfl, nsD⟩
 have mU : Xm w3 (.agg #[.int .i64 n, .int .i64 n, .slice aU (n * n) kU]) n n zsU := ⟨_, rfl, nsU⟩
 have eU : ∀ i k, i < n → k < n → aT p n zsU i k = U i k := fun i k hi hk => rd_at hzU hi hk
 have lU : ∀ j, j < n * n → (zsU.getD j []).length ≤ 128 := fun j hj => by
  obtain ⟨g1, g2, g3⟩ := jdm hj
  have h4 := nrm_ln HP.out.pos (hzU j hj).1
  rw [(hzU j hj).2.1, Nat.zero_add] at h4
  exact h4.le (hU _ _ g1 g2)
 have eD : ∀ k, k < n → pl p (zsD.getD (k * n + k) []) = W k k := fun k hk => rd_at hzD hk hk
 have EU := Lib.hid eU; have LU := Lib.hid lU; have ED := Lib.hid eD; have ZLD := Lib.hid zlD; have ZLU := Lib.hid zlU; have LD := Lib.hid (show ∀ j, j < n * n → (zsD.getD j []).length ≤ 255 from fun j hj => (hzD j hj).2.2)
 clear hU hS hI hz h1 h2 h3 hX QD QU nsD nsU hzD hzU zlD zlU eU lU eD mC KC
 obtain ⟨w4, e4, KD, KU, KV, b4, hs4⟩ := boxes3 w3 24 24 24 [.int .i64 n, .int .i64 n, .slice aD (n * n) kD] [.int .i64 n, .int .i64 n, .slice aU (n * n) kU] [.int .i64 n, .int .i64 n, .slice aV (n * n) kV]
 clear hs4
 replace KF := KF.next b4
 replace KA := KA.next b4
 replace KR := KR.next b4
 replace hA := hA.next b4
 replace mD := mD.next b4
 replace mU := mU.next b4
 replace B0 := B0.trans (b4.mono B0.size)
 clear b4
 clear KV
 go_upto_region 3 with (fail)
 rw [← e4]
 clear e4
 have qKF0 := KF.cell 0
 have qKU0 := KU.cell 0
 have qKU1 := KU.cell 1
 have qKU2 := KU.cell 2
 go_wp2_with fail
 refine (xf_Hermite p _ n n 128 zsU _ HP.out HT.out mU (by omega) (by omega) ZLU.out LU.out (by omega) (by have := hbd4 hn; omega)).mono ?_; rintro e w5 ⟨V2, P2, top2, hFo, aH, kH, usH, aB, kB, usB, rfl, -, QB, b5⟩
 clear qKF0 qKU0 qKU1 qKU2
 replace KF := KF.next b5
 replace KA := KA.next b5
 replace KR := KR.next b5
 replace hA := hA.next b5
 replace mD := mD.next b5
 replace mU := mU.next b5
 replace KD := KD.next b5
 replace KU := KU.next b5
 replace B0 := B0.trans (b5.mono B0.size)
 clear b5
 obtain ⟨zsB, zlB, nsB, hzB⟩ := QB.ns HP.out
 have mB : Xm w5 (.agg #[.int .i64 n, .int .i64 n, .slice aB (n * n) kB]) n n zsB := ⟨_, rfl, nsB⟩
 have eB : MT.of n n (aT p n zsB) = X := by
  have hX2 : Inv (MT.of n n (aT p n zsU)) X := by rw [MT.of_congr EU.out]; exact HXI.out
  have h1 := her_unim HT.out hX2 hFo.rq hFo.her
  exact MT.ext fun i k hi hk => by rw [MT.of_e _ hi hk, rd_off hzB hi hk]; exact h1 i k hi hk
 have EB := Lib.hid eB; have ZLB := Lib.hid zlB
 have LB := Lib.hid (show ∀ j, j < n * n → (zsB.getD j []).length ≤ 1000000 from fun j hj => by have h1 := (hzB j hj).2.2; have h2 := hbd4 hn; omega)
 clear hFo QB nsB hzB zlB eB mU KU
 obtain ⟨w6, e6, KH, KB, b6, hs6⟩ := boxes2 w5 24 24 [.int .i64 n, .int .i64 n, .slice aH (n * n) kH] [.int .i64 n, .int .i64 n, .slice aB (n * n) kB]
 clear hs6
 replace KF := KF.next b6
 replace KA := KA.next b6
 replace KR := KR.next b6
 replace hA := hA.next b6
 replace mD := mD.next b6
 replace KD := KD.next b6
 replace mB := mB.next b6
 replace B0 := B0.trans (b6.mono B0.size)
 clear b6
 clear KH
 go_upto_region 4 with (fail)
 rw [← e6]
 clear e6
 have lF := KF.lt; have lA := KA.lt; have lR := KR.lt; have lD := KD.lt; have lB := KB.lt
 have HKF := Lib.hid KF; have HKA := Lib.hid KA; have HKR := Lib.hid KR; have HKD := Lib.hid KD; have HKB := Lib.hid KB; have HA := Lib.hid hA; have HMD := Lib.hid mD; have HMB := Lib.hid mB; have HB0 := Lib.hid B0
 clear KF KA KR KD KB hA mD mB B0
 obtain ⟨w7, e7, KP, b7, -⟩ := boxes1 w6 130 [.slice none 0 0, .slice none 0 0]
 go_upto_region 5 with (fail)
 rw [← e7]
 clear e7
 have ca0 := (HKA.out.next b7).cell 0
 go_wp2
 clear ca0
 go_loopw [40] (fun jv wr => ∃ (i : Nat) (iv cv : Value), i ≤ n ∧ jv = .int .i64 i ∧ Blk 130 wr w6.heap.size [iv, cv] ∧ PtS p n A W X wr (w6.heap.size + 1) iv cv i ∧ Below w6.heap.size w6 wr) (fun jv _ => n - (intOf jv).toNat)
 case atStart => exact ⟨0, _, _, by omega, rfl, KP, ⟨[], fun _ => .slice none 0 0, Qls.nil _ _ _ _ _, Mls.nil _ _ _ _ _ _⟩, b7⟩
 case round =>
  clear KP b7
  obtain ⟨i, iv, cv, hi, rfl, KP, ⟨us, S, QI, ML⟩, B1⟩ := hrel
  have hlt0 := KP.lt
  by_cases hin : i < n
  ·have KF := HKF.out.next B1; have KD := HKD.out.next B1; have mD := HMD.out.next B1
   have f0 := KF.cell 0; have d0 := KD.cell 0; have d1 := KD.cell 1; have d2 := KD.cell 2
   have hlD := LD.out (i * n + i) (at_lt rfl hin hin)
   go_wp2_with fail
   refine (xm_At p i i _ n n zsD _ HP.out mD (by omega) (by omega) ZLD.out hin hin (by omega)).mono ?_; rintro e w8 ⟨r8, zs, rfl, o8, n8, v8, l8, b8⟩
   rw [ED.out i hin] at v8
   obtain ⟨a8, c8, rfl⟩ := o8.sliced
   replace KP := KP.next b8; replace QI := QI.next b8; replace ML := ML.next b8
   have B2 := B1.trans (b8.mono B1.size)
   have hpl : pln (W i i) = zs.length := by rw [← v8]; exact pln_eq (nrm_ln HP.out.pos n8)
   have hlz : zs.length ≤ 255 := by omega
   clear f0 d0 d1 d2 KF KD mD hlD l8 B1
   by_cases h1 : 1 < zs.length
   ·have hpk : pks W (i + 1) = pks W i ++ [i] := by rw [pks_succ, hpl, if_pos h1]
    have hml := pks_len W i
    have QI2 : Qls p w8 (w6.heap.size + 1) iv us (pks W i).length 255 (fun j => W ((pks W (i + 1)).getD j 0) ((pks W (i + 1)).getD j 0)) := QI.congr fun j hj => by rw [hpk, getD_snoc, if_neg (by omega)]
    have ML2 : Mls w8 (w6.heap.size + 1) cv (pks W i).length (fun _ => n) (fun _ => 1) S (fun j => tbv (ph A (cl X ((pks W (i + 1)).getD j 0)))) := ML.congr fun j hj => ⟨rfl, rfl, rfl, by rw [hpk, getD_snoc, if_neg (by omega)]⟩
    have hpm : (pks W (i + 1)).getD (pks W i).length 0 = i := by rw [hpk, getD_snoc, if_pos rfl]
    have hpn : (pks W (i + 1)).length = (pks W i).length + 1 := by rw [hpk, List.length_append]; rfl
    clear QI ML hpk hpl
    obtain ⟨m, em⟩ : ∃ m, m = (pks W i).length := ⟨_, rfl⟩
    rw [← em] at QI2 ML2 hml hpm hpn
    clear em
    have p0 := KP.cell 0
    have hlt8 := KP.lt
    have hsz8 := b8.size
    clear b8
    go_upto_region 11 with (at_builtin; refine apVl 22 43 24 (.slice none 0 0) Try.underlying22 (by kernel_rfl) (by decide) rfl rfl _ _ rfl w8 (w6.heap.size + 1) _ m us (.slice a8 zs.length c8) rfl QI2.1 (by omega) (by omega) rfl rfl ?_; intro g9 cap9 w9 ho9 hb9 hg9 _; have KP9 := KP.below hb9 (Nat.lt_succ_self _); have q0 := KP9.cell 0; have q1 := KP9.free 0)
    have QI3 := QI2.push hg9 ho9 o8 (by omega) n8 (v8.trans (by rw [hpm])) hlz
    have ML3 := ML2.chg (Chg.grown hg9) (fun b _ hb => (rowOwn_tyb QI2.1 hb).1) (by decide) (by decide)
    obtain ⟨ws, ews⟩ : ∃ ws, ws = w9.setCell ⟨w6.heap.size, 0, none⟩ (.slice (some ⟨g9, 0, none⟩) (m + 1) cap9) := ⟨_, rfl⟩
    have KPs : Blk 130 ws w6.heap.size [.slice (some ⟨g9, 0, none⟩) (m + 1) cap9, cv] := by rw [ews]; exact KP9.set 0 _
    have QIs : Qls p ws (w6.heap.size + 1) (.slice (some ⟨g9, 0, none⟩) (m + 1) cap9) (us ++ [.slice a8 zs.length c8]) (m + 1) 255 (fun j => W ((pks W (i + 1)).getD j 0) ((pks W (i + 1)).getD j 0)) := by rw [ews]; exact QI3.low (a := ⟨w6.heap.size, 0, none⟩) (Nat.lt_succ_self _) _
    have MLs : Mls ws (w6.heap.size + 1) cv m (fun _ => n) (fun _ => 1) S (fun j => tbv (ph A (cl X ((pks W (i + 1)).getD j 0)))) := by rw [ews]; exact ML3.low (a := ⟨w6.heap.size, 0, none⟩) (Nat.lt_succ_self _) _
    have Bs : Below w6.heap.size w6 ws := by rw [ews]; exact (B2.trans (hb9.mono (Nat.le_succ _))).setCell (p := ⟨w6.heap.size, 0, none⟩) (Nat.le_refl _) _
    rw [← ews]
    clear ews QI3 ML3 QI2 ML2 KP9 q0 q1 p0 KP o8 n8 v8 ho9 hb9 hg9 B2
    have bd := dw ws
    replace KPs := KPs.next bd; replace QIs := QIs.next bd; replace MLs := MLs.next bd
    replace Bs := Bs.trans (bd.mono Bs.size)
    have KF := HKF.out.next Bs; have KA := HKA.out.next Bs; have KB := HKB.out.next Bs; have hA := HA.out.next Bs; have mB := HMB.out.next Bs
    have hbs : w6.heap.size + 1 ≤ ws.drew.heap.size := KPs.lt
    clear bd
    have z0 := Lib.hid fun (w : World) (hS : Below (w6.heap.size + 1) ws.drew w) => And.intro ((KPs.below hS (Nat.lt_succ_self _)).cell 1) (And.intro ((KF.below hS (Nat.lt_succ_of_lt lF)).cell 0) (And.intro ((KA.below hS (Nat.lt_succ_of_lt lA)).cell 0) (And.intro ((KA.below hS (Nat.lt_succ_of_lt lA)).cell 1) (And.intro ((KA.below hS (Nat.lt_succ_of_lt lA)).cell 2) (And.intro ((KB.below hS (Nat.lt_succ_of_lt lB)).cell 0) (And.intro ((KB.below hS (Nat.lt_succ_of_lt lB)).cell 1) ((KB.below hS (Nat.lt_succ_of_lt lB)).cell 2)))))))
    refine startP (S := (fun w' => Below (w6.heap.size + 1) ws.drew w')) (by kernel_rfl) _ rfl rfl rfl (by kernel_rfl) (Below.refl _ _) (fun hHeld => ?_)
    refine tk 0 ?_
    refine tf 1 z0.out ?_
    refine tf 2 z0.out ?_
    refine tf 3 z0.out ?_
    refine tf 4 z0.out ?_
    refine tk 5 ?_
    refine on 6 fun K hK => ?_
    go_simp
    go_at_call 141
    (with_reducible refine (fb_column p i _ _ n xs zsB _ HP.out hA mB (by omega) HX.out ZLB.out LB.out hin).mono ?_); rintro e n1 ⟨ao, kc, rfl, oc, bc⟩
    rw [← EA.out, show clq p n zsB i = cl X i from by unfold clq; rw [EB.out]] at oc
    rw [← EA.out, show clq p n zsB i = cl X i from by unfold clq; rw [EB.out]]
    obtain ⟨zc, ezc⟩ : ∃ zc, zc = tbv (ph A (cl X i)) := ⟨_, rfl⟩
    rw [← ezc] at oc ⊢
    have EZC := Lib.hid ezc; clear ezc
    refine hK.out _ _ (hHeld.trans (bc.mono (Nat.le_trans hbs hHeld.size))) (fun hHeld => ?_)
    clear hK K
    try simp only [Act.put, zq1, zq2, zq3]
    refine on 7 fun K hK => ?_
    go_simp
    have hd := hHeld
    refine hK.out _ _ (hHeld.alloc (Nat.le_trans hbs hHeld.size) _) (fun hHeld => ?_)
    clear hK K
    try simp only [Act.put, zq1, zq2, zq3]
    refine on 8 fun K hK => ?_
    refine apS 125 63 3 40 (.agg #[.int .i64 0, .int .i64 0, .slice none 0 0]) Try.underlying125 (by kernel_rfl) (by decide) rfl (by decide) _ _ rfl n1 (w6.heap.size + 1) cv m (rowL (m * 3) (mcs (fun _ => n) (fun _ => 1) S)) [.int .i64 n, .int .i64 1, .slice ao zc.length kc] rfl (by intro u hu; simp at hu; rcases hu with rfl | rfl | rfl <;> rfl) (MLs.next bc).own (by omega) (Nat.le_trans hbs hd.size) rfl rfl ?_
    intro g10 cap10 w10 ho10 hb10 hg10 _
    refine hK.out _ _ (hd.trans hb10) (fun hHeld => ?_)
    clear hK K
    try simp only [Act.put, zq1, zq2, zq3]
    refine tk 9 ?_
    clear z0; refine doneL (by kernel_rfl) ?_ _
    refine lastL rfl (by rfl) ?_
    have KP10 := KPs.below hHeld (Nat.lt_succ_self _)
    have s0 := KP10.cell 1; have s1 := KP10.free 1
    have B10 := Bs.trans (hHeld.mono (Nat.le_succ _))
    have QI10 := (QIs.next bc).chg (Chg.grown hg10) (fun b _ hb => (rowOwn_tyb (MLs.next bc).own hb).1) (by decide) (by decide)
    have ML10 := (MLs.next bc).push hg10 ho10 oc hbs
    have KP11 := KP10.set 1 (.slice (some ⟨g10, 0, none⟩) (m + 1) cap10)
    have FIN := Lib.hid (show Blk 130 (w10.setCell ⟨w6.heap.size, 1, none⟩ (.slice (some ⟨g10, 0, none⟩) (m + 1) cap10)) w6.heap.size [.slice (some ⟨g9, 0, none⟩) (m + 1) cap9, .slice (some ⟨g10, 0, none⟩) (m + 1) cap10] ∧ PtS p n A W X (w10.setCell ⟨w6.heap.size, 1, none⟩ (.slice (some ⟨g10, 0, none⟩) (m + 1) cap10)) (w6.heap.size + 1) (.slice (some ⟨g9, 0, none⟩) (m + 1) cap9) (.slice (some ⟨g10, 0, none⟩) (m + 1) cap10) (i + 1) ∧ Below w6.heap.size w6 (w10.setCell ⟨w6.heap.size, 1, none⟩ (.slice (some ⟨g10, 0, none⟩) (m + 1) cap10)) from
     ⟨KP11, ⟨_, _, by rw [hpn]; exact QI10.low (a := ⟨w6.heap.size, 1, none⟩) (Nat.lt_succ_self _) _, by
      rw [hpn]
      refine (ML10.low (a := ⟨w6.heap.size, 1, none⟩) (Nat.lt_succ_self _) (.slice (some ⟨g10, 0, none⟩) (m + 1) cap10)).congr fun j hj => ⟨?_, ?_, rfl, ?_⟩
      ·by_cases e : j = m
       ·rw [if_pos e]
       ·rw [if_neg e]
      ·by_cases e : j = m
       ·rw [if_pos e]
       ·rw [if_neg e]
      ·by_cases e : j = m
       ·rw [if_pos e, e, hpm, EZC.out]
       ·rw [if_neg e]⟩, B10.setCell (p := ⟨w6.heap.size, 1, none⟩) (Nat.le_refl _) _⟩)
    clear KPs QIs MLs Bs KF KA KB hA mB KP10 B10 QI10 ML10 KP11 ho10 hb10 hg10 oc bc hHeld
    go_wp2
    go_roundw
    case rel => exact ⟨i + 1, _, _, by omega, by go_num, FIN.out⟩
    case measure => simp [intOf] <;> omega
   ·have hpk : pks W (i + 1) = pks W i := by rw [pks_succ, hpl, if_neg h1, List.append_nil]
    have FIN := Lib.hid (show PtS p n A W X w8 (w6.heap.size + 1) iv cv (i + 1) from ⟨us, S, by rw [hpk]; exact QI, by rw [hpk]; exact ML⟩)
    clear QI ML o8 n8 v8 b8 hpk hpl
    go_wp2
    go_roundw
    case rel => exact ⟨i + 1, _, _, by omega, by go_num, KP, FIN.out, B2⟩
    case measure => simp [intOf] <;> omega
  ·obtain rfl : i = n := by omega
   obtain ⟨ai, ci, rfl⟩ := QI.slc
   obtain ⟨ac, cc, rfl⟩ := ML.shape
   have KR := HKR.out.next B1
   have p0 := KP.cell 0; have p1 := KP.cell 1
   have r0 := KR.cell 0; have r1 := KR.cell 1; have r2 := KR.free 0; have r3 := KR.free 1
   have KR2 := (KR.set 0 (.slice ai (pks W i).length ci)).set 1 (.slice ac (pks W i).length cc)
   have d0 := KR2.cell 0; have d1 := KR2.cell 1
   have hw6 := HB0.out.size
   have FIN := Lib.hid (show RetPt p w i A (.returned (.agg #[(.slice ai (pks W i).length ci), (.slice ac (pks W i).length cc)])) ((wr.setCell ⟨w.heap.size + 1 + 1, 0, none⟩ (.slice ai (pks W i).length ci)).setCell ⟨w.heap.size + 1 + 1, 1, none⟩ (.slice ac (pks W i).length cc)) from
    ⟨W, U, V, X, HSM.out, HXI.out, HOF.out, HMO.out, HDV.out, (.slice ai (pks W i).length ci), (.slice ac (pks W i).length cc), rfl, ⟨us, S, ((QI.low (a := ⟨w.heap.size + 1 + 1, 0, none⟩) (show w.heap.size + 1 + 1 < w6.heap.size + 1 by omega) (.slice ai (pks W i).length ci)).low (a := ⟨w.heap.size + 1 + 1, 1, none⟩) (show w.heap.size + 1 + 1 < w6.heap.size + 1 by omega) (.slice ac (pks W i).length cc)).mono (by omega), ((ML.low (a := ⟨w.heap.size + 1 + 1, 0, none⟩) (show w.heap.size + 1 + 1 < w6.heap.size + 1 by omega) (.slice ai (pks W i).length ci)).low (a := ⟨w.heap.size + 1 + 1, 1, none⟩) (show w.heap.size + 1 + 1 < w6.heap.size + 1 by omega) (.slice ac (pks W i).length cc)).mono (by omega)⟩,
     ((HB0.out.trans (B1.mono hw6)).setCell (p := ⟨w.heap.size + 1 + 1, 0, none⟩) (by simp; omega) (.slice ai (pks W i).length ci)).setCell (p := ⟨w.heap.size + 1 + 1, 1, none⟩) (by simp; omega) (.slice ac (pks W i).length cc)⟩)
   clear KR KR2 QI ML B1
   go_wp2
   exact bodyPost_ret (v := .agg #[(.slice ai (pks W i).length ci), (.slice ac (pks W i).length cc)]) (by simp [results, Try.results102, go_sem, d0, d1]) rfl FIN.out
end Go.Proofs.Ytkmfhabgempjiaa
/- Layer 25: squares; Invariants. -/
namespace Go.Proofs.Ytkmfhabgempjiaa
set_option maxHeartbeats 4000000
open Go.RowKit
theorem fb_square (a : Value) (R C : Int) (xs : List Nat) (w : World) (hA : Fm w a R C xs) (b : Bool) (hb : b = decide (Fd R C xs.length ∧ R = C)) :
  Calls Try.prog 101 #[a] w (RetW w (.bool b)) := by
 obtain ⟨aA, cA, rfl⟩ := hA.agg
 obtain ⟨wb, ew, KA, B0, hsz⟩ := boxes1 w 63 [.int .i64 R, .int .i64 C, .slice aA xs.length cA]
 clear hsz
 replace hA := hA.next B0
 have f0 := KA.cell 0; have f1 := KA.cell 1; have f2 := KA.cell 2
 by_cases hF : Fd R C xs.length
 ·by_cases hRC : R = C
  ·subst hRC
   obtain rfl : b = true := by rw [hb]; exact decide_eq_true ⟨hF, rfl⟩
   clear hb
   go_enter Try.func101, Try.ntmps101
   go_upto_region 1 with (fail)
   rw [← ew]
   clear ew
   go_wp2_with fail
   refine (fm_Formed_yes _ R R xs _ hA hF).mono ?_; rintro e w2 ⟨rfl, b2⟩
   have KA2 := KA.next b2
   clear f0 f1 f2 KA
   have f0 := KA2.cell 0; have f1 := KA2.cell 1
   go_wp2
   go_ret
   exact ⟨rfl, B0.trans (b2.mono B0.size)⟩
  ·obtain rfl : b = false := by rw [hb]; exact decide_eq_false (fun h => hRC h.2)
   clear hb
   have h2 : (R == C) = false := by simpa using hRC
   go_enter Try.func101, Try.ntmps101
   go_upto_region 1 with (fail)
   rw [← ew]
   clear ew
   go_wp2_with fail
   refine (fm_Formed_yes _ R C xs _ hA hF).mono ?_; rintro e w2 ⟨rfl, b2⟩
   have KA2 := KA.next b2
   clear f0 f1 f2 KA
   have f0 := KA2.cell 0; have f1 := KA2.cell 1
   go_wp2
   go_ret
   exact ⟨rfl, B0.trans (b2.mono B0.size)⟩
 ·obtain rfl : b = false := by rw [hb]; exact decide_eq_false (fun h => hF h.1)
  clear hb
  go_enter Try.func101, Try.ntmps101
  go_upto_region 1 with (fail)
  rw [← ew]
  clear ew
  go_wp2_with fail
  refine (fm_Formed_no _ R C xs _ hA hF).mono ?_; rintro e w2 ⟨rfl, b2⟩
  have KA2 := KA.next b2
  clear f0 f1 f2 KA
  have f0 := KA2.cell 0; have f1 := KA2.cell 1
  go_wp2
  go_ret
  exact ⟨rfl, B0.trans (b2.mono B0.size)⟩
theorem fb_square_yes (a : Value) (n : Nat) (xs : List Nat) (w : World) (hA : Fm w a n n xs) (hn : n ≤ 64) (hx : xs.length = n * n) : Calls Try.prog 101 #[a] w (RetW w (.bool true)) :=
 fb_square a n n xs w hA true (decide_eq_true ⟨⟨⟨by omega, by omega⟩, ⟨by omega, by omega⟩, by rw [hx]; exact Int.natCast_mul n n⟩, rfl⟩).symm
theorem fb_square_no (a : Value) (R C : Int) (xs : List Nat) (w : World) (hA : Fm w a R C xs) (h : ¬ (Fd R C xs.length ∧ R = C)) : Calls Try.prog 101 #[a] w (RetW w (.bool false)) :=
 fb_square a R C xs w hA false (decide_eq_false h).symm
theorem law25_square (a : Value) (R C : Int) (xs : List Nat) (w : World) (hA : Fm w a R C xs) (b : Bool) (hb : b = decide (Fd R C xs.length ∧ R = C)) :
  Calls Try.prog 54 #[a] w (RetW w (.bool b)) := by
 obtain ⟨aA, cA, rfl⟩ := hA.agg
 obtain ⟨wb, ew, KA, B0, hsz⟩ := boxes1 w 63 [.int .i64 R, .int .i64 C, .slice aA xs.length cA]
 clear hsz
 replace hA := hA.next B0
 have f0 := KA.cell 0; have f1 := KA.cell 1; have f2 := KA.cell 2
 obtain ⟨β, hβ⟩ : ∃ β, β = decide (Fd R C xs.length) := ⟨_, rfl⟩
 have HB := Lib.hid hβ
 have e : b = (β && (R == C)) := by
  rw [hb, hβ]; by_cases h1 : Fd R C xs.length <;> by_cases h2 : R = C <;> simp [h1, h2]
 clear hb hβ
 obtain ⟨γ, hγ⟩ : ∃ γ, γ = (R == C) := ⟨_, rfl⟩
 have hg2 : (R == C) = γ := hγ.symm
 rw [hg2] at e
 clear hγ
 cases β with
 | true =>
  obtain rfl : b = γ := by rw [e]; rfl
  clear e
  go_enter Try.func54, Try.ntmps54
  go_upto_region 1 with (fail)
  rw [← ew]
  clear ew
  go_wp2_with fail
  refine (rf21_Formed _ R C xs _ hA true HB.out).mono ?_; rintro e w2 ⟨rfl, b2⟩
  have KA2 := KA.next b2
  clear f0 f1 f2 KA
  have f0 := KA2.cell 0; have f1 := KA2.cell 1
  go_wp2
  go_ret
  exact ⟨rfl, B0.trans (b2.mono B0.size)⟩
 | false =>
  obtain rfl : b = false := by rw [e]; rfl
  clear e
  go_enter Try.func54, Try.ntmps54
  go_upto_region 1 with (fail)
  rw [← ew]
  clear ew
  go_wp2_with fail
  refine (rf21_Formed _ R C xs _ hA false HB.out).mono ?_; rintro e w2 ⟨rfl, b2⟩
  have KA2 := KA.next b2
  clear f0 f1 f2 KA
  have f0 := KA2.cell 0; have f1 := KA2.cell 1
  go_wp2
  go_ret
  exact ⟨rfl, B0.trans (b2.mono B0.size)⟩
theorem fld0 (w : World) (ai ac : Option Addr) (m n ci cc : Nat) : Sem.run Try.prog (Instr.field 130 (.agg #[.slice ai m ci, .slice ac n cc]) 0) w = .ok (.slice ai m ci) w := by kernel_rfl
def RetIn (p : Nat) (w : World) (n : Nat) (A : MT (Zp p) n n) (e : Ending) (w' : World) : Prop :=
 ∃ (W U V : (Nat → Nat → Pol (Zp p))) (X : MT (Pol (Zp p)) n n), SmR (XA A) U W V ∧ Inv (MT.of n n U) X ∧ (∀ i k, i < n → k < n → i ≠ k → W i k = 0) ∧ (∀ k, k < n → Mo (W k k)) ∧ (∀ i k, i ≤ k → k < n → Dv (W i i) (W k k)) ∧
  ∃ iv us, e = .returned (.tuple #[iv, .int .i64 0]) ∧ Qls p w' w.heap.size iv us (pks W n).length 255 (fun j => W ((pks W n).getD j 0) ((pks W n).getD j 0)) ∧ Below w.heap.size w w'
set_option maxRecDepth 20000 in
theorem fb_Invariants (p : Nat) (a : Value) (n : Nat) (xs : List Nat) (w : World) (hp : FP p) (tr : Trial p) (hA : Fm w a n n xs) (hn : n ≤ 4) (hx : xs.length = n * n) :
  Calls Try.prog 50 #[.agg #[.int .u64 p], a] w (RetIn p w n (mx p n n xs)) := by
 obtain ⟨aA, cA, rfl⟩ := hA.agg
 obtain ⟨wb, ew, KF, KA, B0, hsz⟩ := boxes2 w 29 63 [.int .u64 p] [.int .i64 n, .int .i64 n, .slice aA xs.length cA]
 clear hsz
 replace hA := hA.next B0
 have HX := Lib.hid hx; have HP := Lib.hid hp; have HT := Lib.hid tr; clear hx hp tr
 go_enter Try.func50, Try.ntmps50
 go_upto_region 1 with (fail)
 rw [← ew]
 clear ew
 have qKA0 := KA.cell 0
 have qKA1 := KA.cell 1
 have qKA2 := KA.cell 2
 go_wp2_with fail
 refine (fb_square_yes _ n xs _ hA (by omega) HX.out).mono ?_; rintro e w1 ⟨rfl, b1⟩
 clear qKA0 qKA1 qKA2
 replace KF := KF.next b1
 replace KA := KA.next b1
 replace hA := hA.next b1
 replace B0 := B0.trans (b1.mono B0.size)
 clear b1
 have hw1 := B0.size
 have qKF0 := KF.cell 0
 have qKA0 := KA.cell 0
 have qKA1 := KA.cell 1
 have qKA2 := KA.cell 2
 go_wp2_with fail
 refine (fb_part p _ n xs _ HP.out HT.out hA hn HX.out).mono ?_; rintro e w2 ⟨W, U, V, X, h1, h2, h3, h4, h5, iv, cv, rfl, ⟨us, S, QI, QM⟩, b2⟩
 clear qKF0 qKA0 qKA1 qKA2
 replace KF := KF.next b2
 replace KA := KA.next b2
 replace hA := hA.next b2
 replace B0 := B0.trans (b2.mono B0.size)
 clear b2
 obtain ⟨ai, ci, rfl⟩ := QI.slc
 obtain ⟨ac, cc, rfl⟩ := QM.shape
 clear QM
 have FIN := Lib.hid (show RetIn p w n (mx p n n xs) (.returned (.tuple #[.slice ai (pks W n).length ci, .int .i64 0])) w2 from ⟨W, U, V, X, h1, h2, h3, h4, h5, _, us, rfl, QI.mono hw1, B0⟩)
 clear h1 h2 h3 h4 h5 QI KF KA hA B0
 go_wp2
 rw [fld0]
 go_wp2
 exact bodyPost_ret (v := .tuple #[.slice ai (pks W n).length ci, .int .i64 0]) (by simp [results, Try.results50, go_sem]) rfl FIN.out
set_option maxRecDepth 20000 in
theorem fb_Invariants_no (p : Nat) (a : Value) (R C : Int) (xs : List Nat) (w : World) (hA : Fm w a R C xs) (hno : ¬ (Fd R C xs.length ∧ R = C)) :
  Calls Try.prog 50 #[.agg #[.int .u64 p], a] w (RetW w (.tuple #[.slice none 0 0, .int .i64 2])) := by
 obtain ⟨aA, cA, rfl⟩ := hA.agg
 obtain ⟨wb, ew, KF, KA, B0, hsz⟩ := boxes2 w 29 63 [.int .u64 p] [.int .i64 R, .int .i64 C, .slice aA xs.length cA]
 clear hsz
 replace hA := hA.next B0
 have HNO := Lib.hid hno; clear hno
 go_enter Try.func50, Try.ntmps50
 go_upto_region 1 with (fail)
 rw [← ew]
 clear ew
 have qKA0 := KA.cell 0
 have qKA1 := KA.cell 1
 have qKA2 := KA.cell 2
 go_wp2_with fail
 refine (fb_square_no _ R C xs _ hA HNO.out).mono ?_; rintro e w1 ⟨rfl, b1⟩
 clear qKA0 qKA1 qKA2
 replace KF := KF.next b1
 replace KA := KA.next b1
 replace hA := hA.next b1
 replace B0 := B0.trans (b1.mono B0.size)
 clear b1
 clear KF KA hA
 go_wp2
 exact bodyPost_ret (v := .tuple #[.slice none 0 0, .int .i64 2]) (by simp [results, Try.results50, go_sem]) rfl ⟨rfl, B0⟩
end Go.Proofs.Ytkmfhabgempjiaa
/- Layer 25: the basis: columns, each with its images. -/
namespace Go.Proofs.Ytkmfhabgempjiaa
set_option maxHeartbeats 4000000
open Go.RowKit
section
open CR
variable {p n : Nat}
theorem bcl_at (A : MT (Zp p) n n) : ∀ (l : List (Prt p n)) (i t : Nat) (h : i < l.length), t < (l[i]).1 → bcl A l (bdm (l.take i) + t) = A.pow t * (l[i]).2.2
 | x :: l, 0, t, _, ht => by
  show (if 0 + t < x.1 then A.pow (0 + t) * x.2.2 else _) = A.pow t * x.2.2
  have ht2 : t < x.1 := ht
  rw [Nat.zero_add, if_pos ht2]
 | x :: l, i + 1, t, h, ht => by
  have ht2 : t < (l[i]'(by simpa using h)).1 := ht
  have := bcl_at A l i t (by simpa using h) ht2
  show (if x.1 + bdm (l.take i) + t < x.1 then _ else bcl A l (x.1 + bdm (l.take i) + t - x.1)) = _
  rw [if_neg (by omega), show x.1 + bdm (l.take i) + t - x.1 = bdm (l.take i) + t by omega, this]
  rfl
theorem bdm_take (l : List (Prt p n)) : ∀ (i : Nat) (h : i < l.length), bdm (l.take (i + 1)) = bdm (l.take i) + (l[i]).1 := by
 induction l with
 | nil => intro i h; simp at h
 | cons x l ih =>
  intro i h
  cases i with
  | zero => show x.1 + 0 = 0 + x.1; omega
  | succ i =>
   have := ih i (by simpa using h)
   show x.1 + bdm (l.take (i + 1)) = x.1 + bdm (l.take i) + (l[i]'(by simpa using h)).1
   rw [this]; omega
theorem bdm_le (l : List (Prt p n)) : ∀ i, bdm (l.take i) ≤ bdm l := by
 induction l with
 | nil => intro i; simp [bdm]
 | cons x l ih =>
  intro i
  cases i with
  | zero => exact Nat.zero_le _
  | succ i => have := ih i; show x.1 + bdm (l.take i) ≤ x.1 + bdm l; omega
def bsr (A : MT (Zp p) n n) (l : List (Prt p n)) (s : Nat) : List Nat := ftab n (fun s k => ((bcl A l s).e k 0).val) (s * n)
theorem bsr_zero (A : MT (Zp p) n n) (l : List (Prt p n)) : bsr A l 0 = [] := by
 unfold bsr; rw [Nat.zero_mul]; rfl
theorem bsr_succ (A : MT (Zp p) n n) (l : List (Prt p n)) (s : Nat) : bsr A l (s + 1) = bsr A l s ++ tbv (bcl A l s) := by
 unfold bsr
 rw [Nat.succ_mul, ftab_row, tbv_col]; rfl
theorem bsr_length (A : MT (Zp p) n n) (l : List (Prt p n)) (s : Nat) : (bsr A l s).length = s * n := ftab_length _ _ _
theorem bsr_tr (A : MT (Zp p) n n) (l : List (Prt p n)) (d : Nat) : (mx p d n (bsr A l d)).tr = MT.of n d fun i s => (bcl A l s).e i 0 := MT.ext fun i s hi hs => by
 rw [MT.of_e _ hi hs]
 show (mx p d n (bsr A l d)).e s i = _
 rw [mx_e _ hs hi]
 unfold bsr
 rw [ftab_get _ hs hi, Zp.of_val]
end
theorem apWol {P : Program} {ops : Array Oper} {rest : List Oper} {o : Oper} {a : Act} {Q : Exit → Act → World → Prop} (T e bytes : Nat) (z0 : Value)
  (hu : P.underlying T = some (.slice e)) (hi : (P.info? e).map (fun i => (i.zero, i.size, i.bytes)) = some (some z0, 1, bytes)) (hby : bytes ≤ 32) (hz0 : z0.cells.size = 1)
  (hgd : o.guard = none) (s x : Operand) (ho : o.op = .call { callee := .builtin .append, args := #[s, x], argTypes := #[T, T] })
  (w : World) (base : Nat) (v : Value) (n : Nat) (vs : List Value) (hown : w.ownsRow base e 1 v n vs) (hbase : base ≤ w.heap.size)
  (ad : Addr) (m c : Nat) (news : List Value) (hs : a.eval s = v) (hx : a.eval x = .slice (some ad) m c)
  (hl : news.length = m) (hnews : ∀ j u, news[j]? = some u → w.cell? (ad.add j) = some u) (h1 : ∀ u ∈ news, u.oneCell' = true) (hlen : n + m ≤ 1000000000)
  (h : ∀ (v' : Value) (w' : World), w'.ownsRow base e 1 v' (n + m) (vs ++ news) → Below base w w' → w.grownBy w' v.ownBlock → (v'.ownBlock = v.ownBlock ∨ v'.ownBlock = some w.heap.size) → wpList P ops Q rest (a.put o.dst v') w') :
  wpList P ops Q (o :: rest) a w :=
 wpList_plain hgd fun _ hK => apWo T e bytes z0 hu hi hby hz0 s x ho w base v n vs hown hbase ad m c news hs hx hl hnews h1 hlen fun v' w' k1 k2 k3 k4 => hK _ _ (h v' w' k1 k2 k3 k4)
def BaR (p n : Nat) (A : MT (Zp p) n n) (l : List (Prt p n)) (wb wr : World) (ao : Option Addr) (c s : Nat) : Prop :=
 Blk 63 wr wb.heap.size [.int .i64 s, .int .i64 n, .slice ao (s * n) c] ∧ Own .u64 27 wr (wb.heap.size + 1) (.slice ao (s * n) c) (bsr A l s) ∧ Below wb.heap.size wb wr
def BaS (p n : Nat) (A : MT (Zp p) n n) (l : List (Prt p n)) (V : MT (Zp p) n 1) (wb wr : World) (g9 s0 t : Nat) (ao : Option Addr) (c : Nat) : Prop :=
 BaR p n A l wb wr ao c (s0 + t) ∧ ∃ av cv bv, Blk 63 wr g9 [.int .i64 n, .int .i64 1, .slice av n cv] ∧ Own .u64 27 wr bv (.slice av n cv) (tbv (A.pow t * V)) ∧ ∀ b, (Value.slice av n cv).ownBlock = some b → (Value.slice ao ((s0 + t) * n) c).ownBlock ≠ some b
theorem rowOwn_slc {w : World} {base : Nat} {e : TypeId} {n : Nat} {v : Value} {xs : List Value} (h : w.ownsRow base e 1 v n xs) : ∃ ao c, v = .slice ao n c := by
 rcases rowOwn_shape h with ⟨rfl, rfl⟩ | ⟨g, cap, rfl, -⟩
 ·exact ⟨_, _, rfl⟩
 ·exact ⟨_, _, rfl⟩
theorem Own.cells_at {w : World} {base g n cap : Nat} {xs : List Nat} (h : Own .u64 27 w base (.slice (some ⟨g, 0, none⟩) n cap) xs) (j : Nat) (u : Value) (hj : (vs .u64 xs)[j]? = some u) : w.cell? ((⟨g, 0, none⟩ : Addr).add j) = some u := by
 have hl : j < xs.length := by have := (List.getElem?_eq_some_iff.1 hj).1; rwa [vs_length] at this
 have e : (⟨g, 0, none⟩ : Addr).add j = ⟨g, j, none⟩ := by
  unfold Addr.add; split
  ·rename_i h; subst h; rfl
  ·simp
 rw [e, h.cellAt j hl]
 unfold vs at hj
 simp only [List.getElem?_map, List.getElem?_eq_getElem hl, Option.map_some, Option.some.injEq] at hj
 rw [← hj]; simp [List.getD, hl]
theorem vs_one {xs : List Nat} : ∀ u ∈ vs .u64 xs, u.oneCell' = true := fun u hu => by
 unfold vs at hu
 obtain ⟨x, -, rfl⟩ := List.mem_map.1 hu
 rfl
set_option maxRecDepth 20000 in
theorem fb_basis (p n base : Nat) (a iv cv : Value) (xs : List Nat) (w : World) (W : (Nat → Nat → Pol (Zp p))) (X : MT (Pol (Zp p)) n n) (hp : FP p) (hA : Fm w a n n xs) (hn : n ≤ 4) (hx : xs.length = n * n) (hPt : PtS p n (mx p n n xs) W X w base iv cv n) (hd : bdm (prl (mx p n n xs) W X) = n) :
  Calls Try.prog 113 #[.agg #[iv, cv], .agg #[.int .u64 p], a] w (RetFm p w n n (MT.of n n fun i s => (bcl (mx p n n xs) (prl (mx p n n xs) W X) s).e i 0)) := by
 obtain ⟨aA, cA, rfl⟩ := hA.agg
 obtain ⟨us, S, QI, ML⟩ := hPt
 obtain ⟨ai, ci, rfl⟩ := QI.slc
 obtain ⟨ac, cc, rfl⟩ := ML.shape
 obtain ⟨m, em⟩ : ∃ m, m = (pks W n).length := ⟨_, rfl⟩
 rw [← em] at QI ML ⊢
 obtain ⟨wb, ew, KP, KF, KA, KR, B0, hsz⟩ := boxes4 w 130 29 63 63 [.slice ai m ci, .slice ac m cc] [.int .u64 p] [.int .i64 n, .int .i64 n, .slice aA xs.length cA] [.int .i64 0, .int .i64 0, .slice none 0 0]
 have hML := ML
 replace hA := hA.next B0; replace QI := QI.next B0; replace ML := ML.next B0
 obtain ⟨zz, zl, nz, hz⟩ := QI.ns hp
 obtain ⟨A, eA⟩ : ∃ A, A = mx p n n xs := ⟨_, rfl⟩
 rw [← eA] at hd ML hML ⊢
 obtain ⟨l, el⟩ : ∃ l, l = prl A W X := ⟨_, rfl⟩
 rw [← el] at hd ⊢
 have hlm : l.length = m := by rw [el, em, prl_pks, List.length_map]
 have hat : ∀ i (h : i < l.length), l[i] = prts A W X ((pks W n).getD i 0) := fun i h => by
  have h2 : i < (pks W n).length := by omega
  simp only [el, prl_pks, List.getElem_map, List.getD, List.getElem?_eq_getElem h2, Option.getD_some]
 have hdeg : ∀ i (h : i < l.length), 1 < (zz.getD i []).length ∧ (l[i]).1 = (zz.getD i []).length - 1 ∧ (zz.getD i []).length ≤ 255 := fun i h => by
  have h1 := hz i (by omega)
  have h2 : pln (W ((pks W n).getD i 0) ((pks W n).getD i 0)) = (zz.getD i []).length := by rw [← h1.2.1]; exact pln_eq (nrm_ln hp.pos h1.1)
  have h3 := (pks_lt (W := W) (i := n) (k := (pks W n).getD i 0) (by
   have h4 : i < (pks W n).length := by omega
   simp only [List.getD, List.getElem?_eq_getElem h4, Option.getD_some]
   exact List.getElem_mem h4)).2
  refine ⟨by omega, ?_, h1.2.2⟩
  rw [hat i h]
  show pln (W _ _) - 1 = _
  rw [h2]
 have hcol : ∀ i (h : i < l.length), ph A (cl X ((pks W n).getD i 0)) = (l[i]).2.2 := fun i h => by rw [hat i h]; rfl
 have hml : m ≤ n := by rw [em]; exact pks_len W n
 have hlow : ∀ i b, i < m → (S i).ownBlock = some b → b < w.heap.size := fun i b hi hb => by
  obtain ⟨a1, c1, -, h2⟩ := hML.el i hi
  exact (World.ownsRow.lt h2 b hb).2
 have HX := Lib.hid hx; have HP := Lib.hid hp; have EA := Lib.hid eA; have HD := Lib.hid hd; have HLM := Lib.hid hlm; have HDG := Lib.hid hdeg; have HCO := Lib.hid hcol; have ZL := Lib.hid zl; have HLO := Lib.hid hlow
 have htr := bsr_tr (p := p) A l n
 have HTR := Lib.hid htr
 clear hx hp eA hd hlm hat hdeg hcol QI hz el em zl us hML hlow htr
 go_enter Try.func113, Try.ntmps113
 go_upto_region 1 with (fail)
 rw [← ew]
 obtain ⟨g, eg⟩ : ∃ g, g = w.heap.size := ⟨_, rfl⟩
 rw [← eg] at KP KF KA KR hsz HLO ⊢
 have hgw : w.heap.size ≤ g := by omega
 have hgw2 : g ≤ w.heap.size := by omega
 have hgb : g + 1 + 1 + 1 < wb.heap.size := KR.lt
 clear ew eg hsz
 have HKP := Lib.hid KP; have HKF := Lib.hid KF; have HKA := Lib.hid KA; have HKR := Lib.hid KR; have HA := Lib.hid hA; have HNZ := Lib.hid nz; have HML := Lib.hid ML; have HB0 := Lib.hid B0
 have c0 := KA.cell 0
 obtain ⟨w5, e5, K7, b5, hs5⟩ := boxes1 wb 63 [.int .i64 0, .int .i64 n, .slice none 0 0]
 have st : BaR p n A l wb w5 none 0 0 := ⟨by rw [Nat.zero_mul]; exact K7, by rw [Nat.zero_mul, bsr_zero]; exact Own.nil _ _ _ _, b5⟩
 clear KP KF KA KR hA nz ML B0 K7 b5 hs5
 go_upto_region 2 with (fail)
 rw [← e5]
 clear e5
 have p1 := (HKP.out.next st.2.2).cell 1
 clear c0
 go_wp2
 clear p1
 go_loopw [18] (fun jv wr => ∃ (i : Nat) (ao : Option Addr) (c : Nat), i ≤ m ∧ jv = .int .i64 i ∧ BaR p n A l wb wr ao c (bdm (l.take i))) (fun jv _ => m - (intOf jv).toNat)
 case atStart => exact ⟨0, none, 0, by omega, rfl, st⟩
 case round =>
  clear st
  obtain ⟨i, ao, c, hi, rfl, K7, ho, B1⟩ := hrel
  by_cases him : i < m
  ·have hil : i < l.length := by rw [HLM.out]; exact him
   have ML := HML.out.next B1
   obtain ⟨gc, rfl⟩ : ∃ g, ac = some ⟨g, 0, none⟩ := by
    rcases ML.own.2 with ⟨h1, h2⟩ | ⟨g', c', cur, h1, -⟩
    ·omega
    ·simp only [Value.slice.injEq] at h1; exact ⟨g', h1.1⟩
   obtain ⟨aS, cS, eS, oS⟩ := ML.el i him
   have q0 : wr.cell? ⟨gc, i * 3, none⟩ = some (.int .i64 (n : Int)) := (ML.cells him).1
   have q1 : wr.cell? ⟨gc, i * 3 + 1, none⟩ = some (.int .i64 1) := (ML.cells him).2.1
   have q2 := (ML.cells him).2.2
   obtain ⟨V, eV⟩ : ∃ V, V = (l[i]).2.2 := ⟨_, rfl⟩
   have lnV : ∀ t, (tbv (A.pow t * V)).length = n := fun t => by rw [tbv_length, Nat.mul_one]
   have ev : ph A (cl X ((pks W n).getD i 0)) = A.pow 0 * V := by rw [show A.pow 0 = MT.one n from rfl, MT.one_mul, HCO.out i hil, eV]
   rw [ev] at eS oS
   rw [lnV] at eS
   have hob := HLO.out i
   rw [eS] at q2 oS hob
   obtain ⟨s0, es0⟩ : ∃ s, s = bdm (l.take i) := ⟨_, rfl⟩
   obtain ⟨d, ed⟩ : ∃ d, d = (l[i]).1 := ⟨_, rfl⟩
   have hbc : ∀ t, t < d → bcl A l (s0 + t) = A.pow t * V := fun t ht => by rw [es0, eV]; exact bcl_at A l i t hil (by rw [← ed]; exact ht)
   have hnx : bdm (l.take (i + 1)) = s0 + d := by rw [bdm_take l i hil, es0, ed]
   have hle : s0 + d ≤ n := by have h1 := bdm_le l (i + 1); have h2 := HD.out; omega
   obtain ⟨hd1, hd2, hd3⟩ := HDG.out i hil
   rw [← ed] at hd2
   rw [← es0] at K7 ho
   have nz := HNZ.out.next B1
   obtain ⟨az, bz, oz, cz, UZ, ez, -, hz1, hz2⟩ := nz
   simp only [Value.slice.injEq] at ez
   obtain ⟨rfl, -, rfl⟩ := ez
   obtain ⟨rfl, lz⟩ := hz1 (by rw [ZL.out]; omega)
   obtain ⟨qz, sz, -⟩ := hz2 i (by rw [ZL.out]; exact him)
   obtain ⟨zk, ezk⟩ : ∃ zk, zk = zz.getD i [] := ⟨_, rfl⟩
   rw [← ezk] at sz hd1 hd2 hd3
   obtain ⟨ak, ck, euk⟩ : ∃ ao c, UZ i = .slice ao zk.length c := by
    obtain ⟨a', b', o', c', e', -⟩ := sz; exact ⟨a', c', e'⟩
   obtain ⟨zn, ezn⟩ : ∃ zn, zn = zk.length := ⟨_, rfl⟩
   rw [euk, ← ezn] at qz
   rw [← ezn] at hd1 hd2 hd3
   have hwr : IntKind.i64.wrap ((zn : Int) - 1) = (d : Int) := by rw [IntWalk.i64_in _ ⟨by omega, by omega⟩]; omega
   have HBC := Lib.hid hbc; have HNX := Lib.hid hnx; have HLV := Lib.hid lnV; have HDZ := Lib.hid hd2
   clear hz1 hz2 sz eV eS ev es0 ed hbc hnx hd2 ezk euk ezn lnV
   obtain ⟨w9, e9, K9, b9, hs9⟩ := boxes1 wr 63 [.int .i64 n, .int .i64 1, .slice aS n cS]
   have hg9 : wb.heap.size < wr.heap.size := K7.lt
   replace K7 := K7.next b9; replace ho := ho.next b9; replace oS := oS.next b9
   replace qz := (b9.cell (p := ⟨bz, oz + i, none⟩) lz).trans qz
   have B2 := B1.trans (b9.mono B1.size)
   have ne9 : ∀ b, (Value.slice aS n cS).ownBlock = some b → (Value.slice ao ((s0 + 0) * n) c).ownBlock ≠ some b := fun b h1 h2 => by
    have h3 := hob b him h1
    have h4 := (World.ownsRow.lt ho b h2).1
    omega
   clear ML hob B1
   go_upto_region 5 with (fail)
   rw [← e9]
   obtain ⟨g9, eg9⟩ : ∃ g, g = wr.heap.size := ⟨_, rfl⟩
   rw [← eg9] at K9 hg9 ⊢
   have st : BaS p n A l V wb w9 g9 s0 0 ao c := ⟨⟨K7, ho, B2⟩, aS, cS, base, K9, oS, ne9⟩
   have p0 := (HKP.out.next B2).cell 0
   clear e9 eg9 q0 q1 q2 K7 ho B2 K9 oS ne9 b9 hs9
   go_wp2
   clear p0 qz lz hwr
   go_loopw [30] (fun tv wr => ∃ (t : Nat) (ao : Option Addr) (c : Nat), t ≤ d ∧ tv = .int .i64 t ∧ BaS p n A l V wb wr g9 s0 t ao c) (fun tv _ => d - (intOf tv).toNat)
   case atStart => exact ⟨0, ao, c, by omega, rfl, st⟩
   case round =>
    clear st
    obtain ⟨t, ao, c, ht, rfl, ⟨K7, ho, B2⟩, av, cv, bv, K9, ov, ne⟩ := hrel
    by_cases htd : t < d
    ·obtain ⟨r, er⟩ : ∃ r, r = s0 + t := ⟨_, rfl⟩
     rw [← er] at K7 ho ne
     have hr : r < n := by omega
     have hbr : bcl A l r = A.pow t * V := by rw [er]; exact HBC.out t htd
     have hwr : IntKind.i64.wrap ((r : Int) + 1) = (r : Int) + 1 := IntWalk.i64_in _ ⟨by omega, by omega⟩
     have hlv := HLV.out t
     have hrn : r * n + n = (r + 1) * n := (Nat.succ_mul r n).symm
     have hr16 : r * n + n ≤ 16 := by rw [hrn]; exact Nat.mul_le_mul (show r + 1 ≤ 4 by omega) hn
     obtain ⟨gv, rfl⟩ : ∃ g, av = some ⟨g, 0, none⟩ := by
      rcases ov.shape with ⟨h1, h2⟩ | ⟨g', c', h1, -⟩
      ·have := congrArg List.length h2; rw [hlv] at this; simp at this; omega
      ·simp only [Value.slice.injEq] at h1; exact ⟨g', h1.1⟩
     have ER := Lib.hid er; have HBR := Lib.hid hbr; have HRN := Lib.hid hrn; have HL := Lib.hid hlv
     clear er hbr hrn hlv
     have k0 := K7.cell 0; have f0 := K7.free 0
     obtain ⟨ws, ews⟩ : ∃ ws, ws = wr.setCell ⟨wb.heap.size, 0, none⟩ (.int .i64 ((r : Int) + 1)) := ⟨_, rfl⟩
     go_upto_region 8 with (fail)
     rw [← ews]
     have K7s : Blk 63 ws wb.heap.size [.int .i64 ((r + 1 : Nat) : Int), .int .i64 n, .slice ao (r * n) c] := by rw [ews, show ((r + 1 : Nat) : Int) = (r : Int) + 1 by omega]; exact K7.set 0 _
     have K9s : Blk 63 ws g9 [.int .i64 n, .int .i64 1, .slice (some ⟨gv, 0, none⟩) n cv] := by rw [ews]; exact K9.far (a := ⟨wb.heap.size, 0, none⟩) (by show g9 ≠ wb.heap.size; omega) _
     have hos : Own .u64 27 ws (wb.heap.size + 1) (.slice ao (r * n) c) (bsr A l r) := by rw [ews]; exact ho.low (a := ⟨wb.heap.size, 0, none⟩) (Nat.lt_succ_self _) _
     have ovs : Own .u64 27 ws bv (.slice (some ⟨gv, 0, none⟩) n cv) (tbv (A.pow t * V)) := by rw [ews]; exact ov.off K7 0 _
     have Bs : Below wb.heap.size wb ws := by rw [ews]; exact B2.setCell (p := ⟨wb.heap.size, 0, none⟩) (Nat.le_refl _) _
     have hos2 : ws.ownsRow (wb.heap.size + 1) 27 1 (.slice ao (r * n) c) (r * n) (vs .u64 (bsr A l r)) := rowOwn_cast hos (bsr_length _ _ _)
     clear ews K7 K9 ho ov B2 k0 f0 hos hwr
     have c7 := K7s.cell 2; have c9 := K9s.cell 2
     have hlt7 := K7s.lt
     go_upto_region 9 with (at_builtin; refine apWol 41 27 8 (.int .u64 0) Try.underlying41 (by kernel_rfl) (by decide) rfl rfl _ _ rfl ws (wb.heap.size + 1) (.slice ao (r * n) c) (r * n) (vs .u64 (bsr A l r)) hos2 (by omega) ⟨gv, 0, none⟩ n cv (vs .u64 (tbv (A.pow t * V))) rfl rfl (by rw [vs_length, HL.out]) (fun j u hj => ovs.cells_at j u hj) vs_one (by omega) ?_; intro v2 w2 ho2 hb2 hg2 hv2; obtain ⟨ao2, c2, rfl⟩ := rowOwn_slc ho2; have K7t := K7s.below hb2 (Nat.lt_succ_self _); have y2 := K7t.cell 2; have z2 := K7t.free 2)
     obtain ⟨ws2, ews2⟩ : ∃ ws2, ws2 = w2.setCell ⟨wb.heap.size, 2, none⟩ (.slice ao2 (r * n + n) c2) := ⟨_, rfl⟩
     rw [← ews2]
     have K7u : Blk 63 ws2 wb.heap.size [.int .i64 ((r + 1 : Nat) : Int), .int .i64 n, .slice ao2 ((r + 1) * n) c2] := by rw [ews2, ← HRN.out]; exact K7t.set 2 _
     have nb9 : (Value.slice ao (r * n) c).ownBlock ≠ some g9 := rowOwn_ne' hos2 K9s (by decide)
     have K9u : Blk 63 ws2 g9 [.int .i64 n, .int .i64 1, .slice (some ⟨gv, 0, none⟩) n cv] := by rw [ews2]; exact (K9s.chg (Chg.grown hg2) nb9).far (a := ⟨wb.heap.size, 2, none⟩) (by show g9 ≠ wb.heap.size; omega) _
     have ovu : Own .u64 27 ws2 bv (.slice (some ⟨gv, 0, none⟩) n cv) (tbv (A.pow t * V)) := by rw [ews2]; exact Own.off (rowOwn_chg ovs (Chg.grown hg2) fun b h1 h2 => ne b h1 h2) K7t 2 _
     have hou : Own .u64 27 ws2 (wb.heap.size + 1) (.slice ao2 ((r + 1) * n) c2) (bsr A l (r + 1)) := by
      rw [ews2, ← HRN.out]
      refine Own.low (a := ⟨wb.heap.size, 2, none⟩) ?_ (Nat.lt_succ_self _) _
      unfold Own; rw [bsr_succ, HBR.out, vs_append]
      exact rowOwn_cast ho2 (by rw [List.length_append, bsr_length, HL.out])
     have Bu : Below wb.heap.size wb ws2 := by rw [ews2]; exact (Bs.trans (hb2.mono (Nat.le_succ _))).setCell (p := ⟨wb.heap.size, 2, none⟩) (Nat.le_refl _) _
     clear ews2 nb9 hos2 ovs K9s K7s K7t y2 z2 ho2 hb2 hg2 hv2 Bs c7 c9 ne hlt7
     have KF := HKF.out.next Bu; have KA := HKA.out.next Bu; have hA := HA.out.next Bu
     have cF := KF.cell 0; have ca0 := KA.cell 0; have ca1 := KA.cell 1; have ca2 := KA.cell 2
     have ct0 := K9u.cell 0; have ct1 := K9u.cell 1; have ct2 := K9u.cell 2
     have hC : Fm ws2 (.agg #[.int .i64 n, .int .i64 1, .slice (some ⟨gv, 0, none⟩) n cv]) n 1 (tbv (A.pow t * V)) := ⟨_, rfl, ovu.sl⟩
     go_wp2_with fail
     refine (fm_Mul p _ _ n n 1 xs (tbv (A.pow t * V)) _ HP.out hA hC (by omega) (by omega) (by omega) HX.out (by rw [HL.out, Nat.mul_one])).mono ?_; rintro e w6 ⟨aM, kM, rfl, oM, b6⟩
     rw [mx_tbv, ← EA.out] at oM
     rw [mx_tbv, ← EA.out]
     have eM : A * (A.pow t * V) = A.pow (t + 1) * V := by rw [← MT.mul_assoc, MT.pow_comm, ← MT.pow_succ]
     rw [eM, HLV.out] at oM ⊢
     have h9w : g9 < ws2.heap.size := K9u.lt
     have hlw : ws2.heap.size ≤ w6.heap.size := b6.size
     have nev : ∀ b, (Value.slice aM n kM).ownBlock = some b → (Value.slice ao2 ((r + 1) * n) c2).ownBlock ≠ some b := fun b h1 h2 => by
      have h3 := (World.ownsRow.lt oM b h1).1
      have h4 := (World.ownsRow.lt hou b h2).2
      omega
     clear eM cF ca0 ca1 ca2 ct0 ct1 ct2 hC KF KA hA ovu
     have K7v := K7u.next b6; have K9v := K9u.next b6; have hov := hou.next b6; have Bv := Bu.trans (b6.mono Bu.size)
     clear K7u K9u hou Bu b6
     have f0 := K9v.free 0; have f1 := K9v.free 1; have f2 := K9v.free 2
     have e0 := K9v.cell 0; have e1 := K9v.cell 1; have e2 := K9v.cell 2
     obtain ⟨wt, ewt⟩ : ∃ wt, wt = ((w6.setCell ⟨g9, 0, none⟩ (.int .i64 n)).setCell ⟨g9, 1, none⟩ (.int .i64 1)).setCell ⟨g9, 2, none⟩ (.slice aM n kM) := ⟨_, rfl⟩
     go_upto_region 10 with (fail)
     rw [← ewt]
     have FIN := Lib.hid (show BaS p n A l V wb wt g9 s0 (t + 1) ao2 c2 from by
      have er1 : s0 + (t + 1) = r + 1 := by rw [ER.out]; rfl
      have hne : wb.heap.size ≠ g9 := by omega
      have hle9 : wb.heap.size ≤ g9 := by omega
      refine ⟨?_, aM, kM, ws2.heap.size, ?_, ?_, ?_⟩
      ·rw [er1, ewt]
       exact ⟨((K7v.far (a := ⟨g9, 0, none⟩) hne _).far (a := ⟨g9, 1, none⟩) hne _).far (a := ⟨g9, 2, none⟩) hne _,
        ((hov.off K9v 0 (.int .i64 n)).off (K9v.set 0 (.int .i64 n)) 1 (.int .i64 1)).off ((K9v.set 0 (.int .i64 n)).set 1 (.int .i64 1)) 2 _,
        ((Bv.setCell (p := ⟨g9, 0, none⟩) hle9 _).setCell (p := ⟨g9, 1, none⟩) hle9 _).setCell (p := ⟨g9, 2, none⟩) hle9 _⟩
      ·rw [ewt]; exact ((K9v.set 0 (.int .i64 n)).set 1 (.int .i64 1)).set 2 _
      ·rw [ewt]; exact ((oM.low (a := ⟨g9, 0, none⟩) h9w _).low (a := ⟨g9, 1, none⟩) h9w _).low (a := ⟨g9, 2, none⟩) h9w _
      ·rw [er1]; exact nev)
     clear ewt f0 f1 f2 e0 e1 e2 K7v K9v hov Bv oM nev h9w hlw
     go_wp2
     go_roundw
     case rel => exact ⟨t + 1, ao2, c2, by omega, by go_num, FIN.out⟩
     case measure => simp [intOf] <;> omega
    ·obtain rfl : t = d := by omega
     have st2 : BaR p n A l wb wr ao c (bdm (l.take (i + 1))) := by rw [HNX.out]; exact ⟨K7, ho, B2⟩
     clear K7 ho B2 K9 ov ne
     go_wp2
     go_roundw
     case rel => exact ⟨i + 1, ao, c, by omega, by go_num, st2⟩
     case measure => simp [intOf] <;> omega
  ·obtain rfl : i = m := by omega
   have hbd : bdm (l.take i) = n := by rw [← HLM.out, List.take_length]; exact HD.out
   rw [hbd] at K7 ho
   have KF := HKF.out.next B1
   have cF := KF.cell 0; have k0 := K7.cell 0; have k1 := K7.cell 1; have k2 := K7.cell 2
   have hC : Fm wr (.agg #[.int .i64 n, .int .i64 n, .slice ao (n * n) c]) n n (bsr A l n) := ⟨_, rfl, ho.sl⟩
   clear hbd
   go_wp2_with fail
   refine (fm_Transpose p _ n n (bsr A l n) _ HP.out hC (by omega) (by omega) (bsr_length _ _ _)).mono ?_; rintro e w6 ⟨aM, kM, rfl, oM, b6⟩
   rw [HTR.out] at oM
   rw [HTR.out]
   obtain ⟨M, eM⟩ : ∃ M, M = MT.of n n fun i s => (bcl A l s).e i 0 := ⟨_, rfl⟩
   rw [← eM] at oM ⊢
   have EM := Lib.hid eM; clear eM
   obtain ⟨w7, e7, K10, b7, hs7⟩ := boxes1 w6 63 [.int .i64 n, .int .i64 n, .slice aM (tbv M).length kM]
   have B2 := B1.trans (b6.mono B1.size)
   have B3 := B2.trans (b7.mono B2.size)
   have o7 := oM.next b7
   have hwr1 := B1.size
   have hww := HB0.out.size
   clear cF k0 k1 k2 K7 ho hC KF B1 B2 b6 b7 hs7 oM
   go_upto_region 13 with (fail)
   rw [← e7]
   clear e7
   have KR := HKR.out.next B3
   have k0 := K10.cell 0; have k1 := K10.cell 1; have k2 := K10.cell 2
   have f0 := KR.free 0; have f1 := KR.free 1; have f2 := KR.free 2
   have r0 := KR.cell 0; have r1 := KR.cell 1; have r2 := KR.cell 2
   have KF := ((KR.set 0 (.int .i64 n)).set 1 (.int .i64 n)).set 2 (.slice aM (tbv M).length kM)
   have d0 := KF.cell 0; have d1 := KF.cell 1; have d2 := KF.cell 2
   have hgr : g + 1 + 1 + 1 < wr.heap.size := by omega
   have hof := ((o7.low (a := ⟨g + 1 + 1 + 1, 0, none⟩) hgr (.int .i64 n)).low (a := ⟨g + 1 + 1 + 1, 1, none⟩) hgr (.int .i64 n)).low (a := ⟨g + 1 + 1 + 1, 2, none⟩) hgr (.slice aM (tbv M).length kM)
   have hgw3 : w.heap.size ≤ g + 1 + 1 + 1 := by omega
   have BW := HB0.out.trans (B3.mono HB0.out.size)
   have BF := ((BW.setCell (p := ⟨g + 1 + 1 + 1, 0, none⟩) hgw3 (.int .i64 n)).setCell (p := ⟨g + 1 + 1 + 1, 1, none⟩) hgw3 (.int .i64 n)).setCell (p := ⟨g + 1 + 1 + 1, 2, none⟩) hgw3 (.slice aM (tbv M).length kM)
   have FR := Lib.hid (show RetFm p w n n (MT.of n n fun i s => (bcl A l s).e i 0) (.returned (.agg #[.int .i64 n, .int .i64 n, .slice aM (tbv M).length kM])) (((w7.setCell ⟨g + 1 + 1 + 1, 0, none⟩ (.int .i64 n)).setCell ⟨g + 1 + 1 + 1, 1, none⟩ (.int .i64 n)).setCell ⟨g + 1 + 1 + 1, 2, none⟩ (.slice aM (tbv M).length kM)) from
    by rw [← EM.out]; exact ⟨aM, kM, rfl, hof.mono (by omega), BF⟩)
   clear KF KR K10 hof BF BW B3 o7 hgr hgw3
   go_wp2
   exact bodyPost_ret (v := .agg #[.int .i64 n, .int .i64 n, .slice aM (tbv M).length kM]) (by simp [results, Try.results113, go_sem, d0, d1, d2]) rfl FR.out
end Go.Proofs.Ytkmfhabgempjiaa
/- Layer 25: Frobenius' form row by row; copy into an owned row. -/
namespace Go.Proofs.Ytkmfhabgempjiaa
set_option maxHeartbeats 4000000
open Go.RowKit
section
open CR
variable {p n : Nat}
theorem fmE_at : ∀ (l : List (Prt p n)) (j : Nat) (h : j < l.length) (i k : Nat), i < (l[j]).1 → fmE l (bdm (l.take j) + i) k = if bdm (l.take j) ≤ k ∧ k < bdm (l.take j) + (l[j]).1 then cmpE (l[j]).1 (l[j]).2.1 i (k - bdm (l.take j)) else 0
 | x :: l, 0, _, i, k, hi => by
  have hi' : i < x.1 := hi
  show fmE (x :: l) (0 + i) k = if 0 ≤ k ∧ k < 0 + x.1 then cmpE x.1 x.2.1 i (k - 0) else 0
  rw [Nat.zero_add, Nat.zero_add, Nat.sub_zero]
  show (if i < x.1 ∨ k < x.1 then (if i < x.1 ∧ k < x.1 then cmpE x.1 x.2.1 i k else 0) else _) = _
  rw [if_pos (.inl hi')]
  by_cases hk : k < x.1
  ·rw [if_pos ⟨hi', hk⟩, if_pos ⟨Nat.zero_le _, hk⟩]
  ·rw [if_neg (fun h => hk h.2), if_neg (fun h => hk h.2)]
 | x :: l, j + 1, h, i, k, hi => by
  have hj : j < l.length := by simpa using h
  have hi' : i < (l[j]).1 := hi
  have ih := fmE_at l j hj i (k - x.1) hi'
  show (if x.1 + bdm (l.take j) + i < x.1 ∨ k < x.1 then (if x.1 + bdm (l.take j) + i < x.1 ∧ k < x.1 then _ else 0) else fmE l (x.1 + bdm (l.take j) + i - x.1) (k - x.1)) = if x.1 + bdm (l.take j) ≤ k ∧ k < x.1 + bdm (l.take j) + (l[j]).1 then cmpE (l[j]).1 (l[j]).2.1 i (k - (x.1 + bdm (l.take j))) else 0
  by_cases hk : k < x.1
  ·rw [if_pos (.inr hk), if_neg (by omega), if_neg (by omega)]
  ·rw [if_neg (by omega), show x.1 + bdm (l.take j) + i - x.1 = bdm (l.take j) + i by omega, ih]
   by_cases hc : bdm (l.take j) ≤ k - x.1 ∧ k - x.1 < bdm (l.take j) + (l[j]).1
   ·rw [if_pos hc, if_pos (by omega), show k - x.1 - bdm (l.take j) = k - (x.1 + bdm (l.take j)) by omega]
   ·rw [if_neg hc, if_neg (by omega)]
theorem fmE_congr {m : Nat} : ∀ (l : List (Prt p n)) (l' : List (Prt p m)), l.length = l'.length → (∀ j (h : j < l.length) (h' : j < l'.length), (l[j]).1 = (l'[j]).1 ∧ ∀ i, i < (l[j]).1 → (l[j]).2.1 i = (l'[j]).2.1 i) → bdm l = bdm l' ∧ ∀ i k, fmE l i k = fmE l' i k
 | [], [], _, _ => ⟨rfl, fun _ _ => rfl⟩
 | [], _ :: _, h, _ => by simp at h
 | _ :: _, [], h, _ => by simp at h
 | x :: l, y :: l', h, he => by
  obtain ⟨h1, h2⟩ := he 0 (by simp) (by simp)
  have h1' : x.1 = y.1 := h1
  have h2' : ∀ i, i < x.1 → x.2.1 i = y.2.1 i := h2
  obtain ⟨k1, k2⟩ := fmE_congr l l' (by simpa using h) fun j hj hj' => he (j + 1) (by simpa using hj) (by simpa using hj')
  refine ⟨?_, fun i k => ?_⟩
  ·show x.1 + bdm l = y.1 + bdm l'
   rw [h1', k1]
  ·show (if i < x.1 ∨ k < x.1 then (if i < x.1 ∧ k < x.1 then cmpE x.1 x.2.1 i k else 0) else fmE l (i - x.1) (k - x.1)) = (if i < y.1 ∨ k < y.1 then (if i < y.1 ∧ k < y.1 then cmpE y.1 y.2.1 i k else 0) else fmE l' (i - y.1) (k - y.1))
   rw [← h1', k2]
   by_cases hc : i < x.1 ∧ k < x.1
   ·have e : cmpE x.1 x.2.1 i k = cmpE x.1 y.2.1 i k := by unfold cmpE; rw [h2' i hc.1]
    rw [e]
   ·simp only [if_neg hc]
def bls (p : Nat) (qs : List (List Nat)) : List (Prt p 0) := qs.map fun q => ((nl p q).length - 1, fun i => (pl p q).c i, 0)
theorem bls_length (qs : List (List Nat)) : (bls p qs).length = qs.length := List.length_map ..
theorem bls_get (qs : List (List Nat)) (j : Nat) (h : j < (bls p qs).length) : ((bls p qs)[j]).1 = (nl p (qs.getD j [])).length - 1 ∧ ((bls p qs)[j]).2.1 = fun i => (pl p (qs.getD j [])).c i := by
 have h2 : j < qs.length := by rwa [bls_length] at h
 have e : (bls p qs)[j] = ((nl p qs[j]).length - 1, fun i => (pl p qs[j]).c i, 0) := List.getElem_map ..
 have e2 : qs.getD j [] = qs[j] := by simp only [List.getD, List.getElem?_eq_getElem h2, Option.getD_some]
 rw [e, e2]
 exact ⟨rfl, rfl⟩
theorem bdm_ge (l : List (Prt p n)) (h : ∀ j (h : j < l.length), 0 < (l[j]).1) : l.length ≤ bdm l := by
 induction l with
 | nil => exact Nat.zero_le _
 | cons x l ih =>
  have h0 : 0 < x.1 := h 0 (by simp)
  have := ih fun j hj => h (j + 1) (by simpa using hj)
  show l.length + 1 ≤ x.1 + bdm l
  omega
theorem cmp_cmpE (d : Nat) (q : List Nat) {i k : Nat} (hi : i < d) (hk : k < d) : (cmp p d (nl p q)).e i k = cmpE d (fun i => (pl p q).c i) i k := by
 unfold cmp cmpE
 rw [MT.of_e _ hi hk]
 have e : (pl p q).c i = Zp.of p ((nl p q).getD i 0) := by rw [← nl_pl, pl_c]
 show _ = _ + if k + 1 = d then -(pl p q).c i else 0
 rw [e]
 by_cases h1 : k + 1 = d
 ·rw [if_pos h1, if_pos h1, if_neg (by omega), zero_add]
 ·rw [if_neg h1, if_neg h1, add_zero]
  by_cases h2 : k + 1 = i
  ·rw [if_pos h2, if_pos h2.symm]
  ·rw [if_neg h2, if_neg (fun h => h2 h.symm)]
def blr (N : Nat) (F : Nat → Nat → Zp p) (s : Nat) : List Nat := ftab N (fun i k => if i < s then (F i k).val else 0) (N * N)
theorem blr_length (N : Nat) (F : Nat → Nat → Zp p) (s : Nat) : (blr N F s).length = N * N := ftab_length _ _ _
theorem blr_zero (N : Nat) (F : Nat → Nat → Zp p) : List.replicate (N * N) 0 = blr N F 0 := by
 unfold blr ftab
 refine List.ext_getElem (by simp) fun i h1 h2 => ?_
 simp
theorem blr_all (N : Nat) (F : Nat → Nat → Zp p) : blr N F N = tbv (MT.of N N F) := by
 unfold blr tbv
 exact ftab_congr fun i k hi hk => by rw [if_pos hi, MT.of_e _ hi hk]
theorem ftab_getD (N : Nat) (T : Nat → Nat → Nat) {t : Nat} (h : t < N * N) : (ftab N T (N * N)).getD t 0 = T (t / N) (t % N) := by
 unfold ftab
 simp only [List.getD, List.getElem?_map, List.getElem?_range h, Option.map_some, Option.getD_some]
theorem getD_tad {xs ys : List Nat} {o t : Nat} (h : o + ys.length ≤ xs.length) : (xs.take o ++ ys ++ xs.drop (o + ys.length)).getD t 0 = if o ≤ t ∧ t < o + ys.length then ys.getD (t - o) 0 else xs.getD t 0 := by
 simp only [List.getD, List.getElem?_append, List.length_append, List.length_take, List.getElem?_take, List.getElem?_drop]
 rw [Nat.min_eq_left (by omega)]
 by_cases h1 : t < o
 ·rw [if_pos (by omega), if_pos h1, if_pos h1, if_neg (by omega)]
 ·by_cases h2 : t < o + ys.length
  ·rw [if_pos h2, if_neg h1, if_pos (by omega)]
  ·rw [if_neg h2, if_neg (by omega), show o + ys.length + (t - (o + ys.length)) = t by omega]
theorem length_tad {xs ys : List Nat} {o : Nat} (h : o + ys.length ≤ xs.length) : (xs.take o ++ ys ++ xs.drop (o + ys.length)).length = xs.length := by
 simp only [List.length_append, List.length_take, List.length_drop]; omega
theorem blr_step {N : Nat} {F : Nat → Nat → Zp p} {s r d : Nat} {ys : List Nat} (hr : r < N) (hs : s + d ≤ N) (hy : ys.length = d) (hF : ∀ k, k < N → (F r k).val = if s ≤ k ∧ k < s + d then ys.getD (k - s) 0 else 0) :
  (blr N F r).take (r * N + s) ++ ys ++ (blr N F r).drop (r * N + s + d) = blr N F (r + 1) := by
 have hfit : r * N + s + ys.length ≤ (blr N F r).length := by
  rw [blr_length, hy]
  have := Nat.mul_le_mul_right N (show r + 1 ≤ N by omega)
  rw [Nat.succ_mul] at this; omega
 subst hy
 refine List.ext_getElem (by rw [length_tad hfit, blr_length, blr_length]) fun t h1 h2 => ?_
 have hN : t < N * N := by rwa [blr_length] at h2
 have hd : ∀ l : List Nat, ∀ h : t < l.length, l[t] = l.getD t 0 := fun l h => by simp [List.getD, List.getElem?_eq_getElem h]
 rw [hd _ h1, hd _ h2, getD_tad hfit]
 unfold blr
 rw [ftab_getD _ _ hN, ftab_getD _ _ hN]
 have hN0 : 0 < N := by omega
 have hdm := Nat.div_add_mod t N
 have hlt := Nat.mod_lt t hN0
 obtain ⟨i, ei⟩ : ∃ i, i = t / N := ⟨_, rfl⟩
 obtain ⟨k, ek⟩ : ∃ k, k = t % N := ⟨_, rfl⟩
 rw [← ei, ← ek] at hdm ⊢
 rw [← ek] at hlt
 rw [Nat.mul_comm] at hdm
 by_cases hir : i = r
 ·subst hir
  rw [if_neg (Nat.lt_irrefl _), if_pos (Nat.lt_succ_self _), hF k hlt]
  by_cases hc : s ≤ k ∧ k < s + ys.length
  ·rw [if_pos (by omega), if_pos hc, show t - (i * N + s) = k - s by omega]
  ·rw [if_neg (by omega), if_neg hc]
 ·rw [if_neg ?_]
  ·by_cases h3 : i < r
   ·rw [if_pos h3, if_pos (by omega)]
   ·rw [if_neg h3, if_neg (by omega)]
  ·intro hc
   rcases Nat.lt_or_gt_of_ne hir with h3 | h3
   ·have := Nat.mul_le_mul_right N (show i + 1 ≤ r by omega)
    rw [Nat.succ_mul] at this; omega
   ·have := Nat.mul_le_mul_right N (show r + 1 ≤ i by omega)
    rw [Nat.succ_mul] at this; omega
end
theorem vs_drop (k : IntKind) (xs : List Nat) (n : Nat) : (vs k xs).drop n = vs k (xs.drop n) := by simp [vs, List.map_drop]
theorem take_tad {α : Type} (cur cs : List α) (o n : Nat) (h : o + cs.length ≤ n) (hn : n ≤ cur.length) : (cur.take o ++ cs ++ cur.drop (o + cs.length)).take n = (cur.take n).take o ++ cs ++ (cur.take n).drop (o + cs.length) := by
 refine List.ext_getElem? fun j => ?_
 simp only [List.getElem?_take, List.getElem?_append, List.length_append, List.length_take, List.getElem?_drop]
 rw [Nat.min_eq_left (show o ≤ cur.length by omega), Nat.min_eq_left hn, Nat.min_eq_left (show o ≤ n by omega)]
 by_cases h1 : j < o
 ·rw [if_pos (by omega), if_pos (by omega), if_pos h1, if_pos (by omega), if_pos h1, if_pos h1, if_pos (by omega)]
  exact (if_pos (by omega)).symm
 ·by_cases h2 : j < o + cs.length
  ·rw [if_pos (by omega), if_pos h2, if_neg h1, if_pos h2, if_neg h1]
  ·by_cases h3 : j < n
   ·rw [if_pos h3, if_neg h2, if_neg h2, if_pos (by omega)]
   ·rw [if_neg h3, if_neg h2, if_neg (by omega)]
theorem cpO {P : Program} {o : Oper} {a : Act} {K : Act → World → Prop} {Q : Exit → Act → World → Prop} (T e : Nat) (hu : P.underlying T = some (.slice e)) (hsz : (P.info? e).map (·.size) = some 1)
  (d s : Operand) (ho : o.op = .call { callee := .builtin .copy, args := #[d, s], argTypes := #[T, T] })
  (w : World) (base g nn cap off dLen dCap : Nat) (xs : List Nat) (hown : Own .u64 e w base (.slice (some ⟨g, 0, none⟩) nn cap) xs)
  (ad : Addr) (m sCap : Nat) (ys : List Nat) (hd : a.eval d = .slice (some ⟨g, off, none⟩) dLen dCap) (hs : a.eval s = .slice (some ad) m sCap) (hl : ys.length = m) (hdl : m ≤ dLen) (hfit : off + m ≤ xs.length)
  (hsrc : ∀ j u, (vs .u64 ys)[j]? = some u → w.cell? (ad.add j) = some u)
  (h : ∀ w', Own .u64 e w' base (.slice (some ⟨g, 0, none⟩) nn cap) (xs.take off ++ ys ++ xs.drop (off + m)) → w.grownBy w' (some g) → K (a.put o.dst (.int .i64 m)) w') : Oper.wp P o a w K Q := by
 have hn : nn = xs.length := by
  rcases hown.shape with ⟨h, _⟩ | ⟨g', cap', h, _⟩ <;> simp at h
  exact h.2.1
 subst hl
 obtain ⟨hlen, hrow⟩ := id hown
 rcases hrow with ⟨h1, -⟩ | ⟨g', cap', cur, h1, hb, hg, hnc, hcm, hcs, htk⟩
 ·simp at h1
 simp only [Value.slice.injEq, Option.some.injEq, Addr.mk.injEq, and_true] at h1
 obtain ⟨rfl, -, rfl⟩ := h1
 rw [Nat.mul_one] at htk hcs hlen
 have hvl : (vs .u64 ys).length = ys.length := vs_length _ _
 have hcl : xs.length ≤ cur.toList.length := by simp; omega
 have hrun := run_copy_row (P := P) w T T o.type e g off dLen dCap ad ys.length sCap cur e (vs .u64 ys) hu hsz hg (by rw [hvl]; exact (Nat.min_eq_left hdl).symm) hsrc (by rw [hvl, hcs]; omega) vs_one
 unfold Oper.wp
 simp [execOp, ho, resolve, invoke, builtin, hd, hs, hrun, Result.andThen]
 rw [hvl]
 have hlt := length_tad (xs := xs) (ys := ys) (o := off) hfit
 refine h _ ⟨?_, .inr ⟨g, cap, _, by rw [hlt, hn], hb, setRow_heap w g cur _ e _ hg, by rw [hlt]; exact hnc, hcm, ?_, ?_⟩⟩ ⟨rfl, rfl, rfl, by simp [World.setRow], fun i hi hne => setRow_other w g i _ (fun h => hne (by rw [h]))⟩
 ·rw [vs_length, Nat.mul_one]
 ·have := length_tad (xs := (List.replicate cur.size 0)) (ys := ys) (o := off) (by simp; omega)
  simp [hvl] at this ⊢; omega
 ·rw [Nat.mul_one, length_tad hfit]
  have h2 := take_tad cur.toList (vs .u64 ys) off xs.length (by rw [hvl]; exact hfit) hcl
  rw [hvl, htk] at h2
  rw [vs_append, vs_append, ← vs_take, ← vs_drop, ← h2, List.append_assoc]
end Go.Proofs.Ytkmfhabgempjiaa
