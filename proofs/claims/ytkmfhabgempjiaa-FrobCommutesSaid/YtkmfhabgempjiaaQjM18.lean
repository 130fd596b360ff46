/- Layer 25: a matrix's parts: the walk. -/
import Derived.Laws.CopyRow
import Derived.Test.YtkmfhabgempjiaaQjM17
import Derived.Test.YtkmfhabgempjiaaQjM7
import Derived.Test.YtkmfhabgempjiaaQjM8
import Derived.Test.YtkmfhabgempjiaaQjM2
import Derived.Test.YtkmfhabgempjiaaQjM11
namespace Go.Proofs.Ytkmfhabgempjiaa
set_option maxHeartbeats 4000000
open Go.RowKit
def PtS (p n : Nat) (A : MT (Zp p) n n) (W : (Nat → Nat → Pol (Zp p))) (X : MT (Pol (Zp p)) n n) (wr : World) (base : Nat) (iv cv : Value) (i : Nat) : Prop :=
 ∃ us S, Qls p wr base iv us (pks W i).length 255 (fun j => W ((pks W i).getD j 0) ((pks W i).getD j 0)) ∧ Mls wr base cv (pks W i).length (fun _ => n) (fun _ => 1) S (fun j => tbv (ph A (cl X ((pks W i).getD j 0))))
def RetPt (p : Nat) (w : World) (n : Nat) (A : MT (Zp p) n n) (e : Ending) (w' : World) : Prop :=
 ∃ (W U V : (Nat → Nat → Pol (Zp p))) (X : MT (Pol (Zp p)) n n), SmR (XA A) U W V ∧ Inv (MT.of n n U) X ∧ (∀ i k, i < n → k < n → i ≠ k → W i k = 0) ∧ (∀ k, k < n → Mo (W k k)) ∧ (∀ i k, i ≤ k → k < n → Dv (W i i) (W k k)) ∧
  ∃ iv cv, e = .returned (.agg #[iv, cv]) ∧ PtS p n A W X w' w.heap.size iv cv n ∧ Below w.heap.size w w'
section
variable {p n : Nat}
theorem smi_off {t : Nat} {W : (Nat → Nat → Pol (Zp p))} (h : SmI t n n W) (hz : ∀ a b, t ≤ a → a < n → t ≤ b → b < n → W a b = 0) : (∀ i k, i < n → k < n → i ≠ k → W i k = 0) ∧ (∀ k, k < n → Mo (W k k)) ∧ ∀ i k, i ≤ k → k < n → Dv (W i i) (W k k) := by
 refine ⟨fun i k hi hk hne => ?_, fun k hk => ?_, fun i k hik hk => ?_⟩
 ·by_cases h1 : i < t ∨ k < t
  ·exact h.off i k hi hk hne h1
  ·exact hz i k (by omega) hi (by omega) hk
 ·by_cases h1 : k < t
  ·exact h.mo k h1
  ·rw [hz k k (by omega) hk (by omega) hk]; exact Or.inl rfl
 ·by_cases h1 : k < t
  ·exact h.dv i (by omega) k k hik hk hik hk
  ·rw [hz k k (by omega) hk (by omega) hk]; exact Dv.zero _
theorem hbd4 {r : Nat} (hr : r ≤ 4) : 2 ^ hbd r r * 128 ≤ 131072 := by
 rcases (show r = 0 ∨ r = 1 ∨ r = 2 ∨ r = 3 ∨ r = 4 by omega) with rfl | rfl | rfl | rfl | rfl <;> decide
end
set_option maxRecDepth 20000 in
theorem fb_part (p : Nat) (a : Value) (n : Nat) (xs : List Nat) (w : World) (hp : FP p) (tr : Trial p) (hA : Fm w a n n xs) (hn : n ≤ 4) (hx : xs.length = n * n) :
  Calls Try.prog 102 #[.agg #[.int .u64 p], a] w (RetPt p w n (mx p n n xs)) := by
 obtain ⟨aA, cA, rfl⟩ := hA.agg
 obtain ⟨wb, ew, KF, KA, KR, B0, hsz⟩ := boxes3 w 29 63 130 [.int .u64 p] [.int .i64 n, .int .i64 n, .slice aA xs.length cA] [.slice none 0 0, .slice none 0 0]
 clear hsz
 replace hA := hA.next B0
 have HX := Lib.hid hx; have HP := Lib.hid hp; have HT := Lib.hid tr; clear hx hp tr
 obtain ⟨A, eA⟩ : ∃ A, A = mx p n n xs := ⟨_, rfl⟩
 rw [← eA]
 have EA := Lib.hid eA; clear eA
 have hnn : n * n ≤ 16 := Nat.mul_le_mul hn hn
 go_enter Try.func102, Try.ntmps102
 have qKF0 := KF.cell 0
 have qKA0 := KA.cell 0
 have qKA1 := KA.cell 1
 have qKA2 := KA.cell 2
 go_wp2_with fail
 rw [← ew]
 clear ew
 refine (xm_Char p 2 _ n xs _ HP.out hA (by omega) HX.out (by omega) (by omega) (fun j => (XA A).e (j / n) (0 + j % n)) (fun i k hi hk => by rw [EA.out]; exact xa_of hi hk)).mono ?_; rintro e w1 ⟨aC, kC, usC, rfl, QC, b1⟩
 clear qKF0 qKA0 qKA1 qKA2
 replace KF := KF.next b1
 replace KA := KA.next b1
 replace KR := KR.next b1
 replace hA := hA.next b1
 replace B0 := B0.trans (b1.mono B0.size)
 clear b1
 obtain ⟨zsC, zlC, nsC, hzC⟩ := QC.ns HP.out
 have mC : Xm w1 (.agg #[.int .i64 n, .int .i64 n, .slice aC (n * n) kC]) n n zsC := ⟨_, rfl, nsC⟩
 have e1 : MT.of n n (aT p n zsC) = XA A := MT.ext fun i k hi hk => by rw [MT.of_e _ hi hk]; exact rd_at (W := (XA A).e) hzC hi hk
 have E1 := Lib.hid e1; have ZLC := Lib.hid zlC; have LC := Lib.hid (show ∀ j, j < n * n → (zsC.getD j []).length ≤ 2 from fun j hj => (hzC j hj).2.2)
 clear e1 zlC nsC hzC QC
 obtain ⟨w2, e2, KC, b2, hs2⟩ := boxes1 w1 24 [.int .i64 n, .int .i64 n, .slice aC (n * n) kC]
 clear hs2
 replace KF := KF.next b2
 replace KA := KA.next b2
 replace KR := KR.next b2
 replace hA := hA.next b2
 replace mC := mC.next b2
 replace B0 := B0.trans (b2.mono B0.size)
 clear b2
 go_upto_region 2 with (fail)
 rw [← e2]
 clear e2
 have qKF0 := KF.cell 0
 have qKC0 := KC.cell 0
 have qKC1 := KC.cell 1
 have qKC2 := KC.cell 2
 go_wp2_with fail
 refine (xf_Smith4P p _ n n zsC _ HP.out HT.out mC hn hn ZLC.out LC.out).mono ?_; rintro e w3 ⟨t, W, U, V, hU, ht, -, hS, hI, hz, aD, kD, usD, aU, kU, usU, aV, kV, usV, rfl, QD, QU, -, b3⟩
 clear qKF0 qKC0 qKC1 qKC2
 replace KF := KF.next b3
 replace KA := KA.next b3
 replace KR := KR.next b3
 replace hA := hA.next b3
 replace mC := mC.next b3
 replace KC := KC.next b3
 replace B0 := B0.trans (b3.mono B0.size)
 clear b3
 rw [E1.out] at hS
 obtain ⟨h1, h2, h3⟩ := smi_off hI hz
 obtain ⟨X, hX⟩ := hS.u
 obtain ⟨s0, hU⟩ := hU
 have HSM := Lib.hid hS; have HXI := Lib.hid hX; have HOF := Lib.hid h1; have HMO := Lib.hid h2; have HDV := Lib.hid h3
 obtain ⟨zsD, zlD, nsD, hzD⟩ := QD.ns HP.out
 obtain ⟨zsU, zlU, nsU, hzU⟩ := QU.ns HP.out
 have mD : Xm w3 (.agg #[.int .i64 n, .int .i64 n, .slice aD (n * n) kD]) n n zsD := ⟨_, rfl, nsD⟩
 have mU : Xm w3 (.agg #[.int .i64 n, .int .i64 n, .slice aU (n * n) kU]) n n zsU := ⟨_, rfl, nsU⟩
 have eU : ∀ i k, i < n → k < n → aT p n zsU i k = U i k := fun i k hi hk => rd_at hzU hi hk
 have lU : ∀ j, j < n * n → (zsU.getD j []).length ≤ 128 := fun j hj => by
  obtain ⟨g1, g2, g3⟩ := jdm hj
  have h4 := nrm_ln HP.out.pos (hzU j hj).1
  rw [(hzU j hj).2.1, Nat.zero_add] at h4
  exact h4.le (hU _ _ g1 g2)
 have eD : ∀ k, k < n → pl p (zsD.getD (k * n + k) []) = W k k := fun k hk => rd_at hzD hk hk
 have EU := Lib.hid eU; have LU := Lib.hid lU; have ED := Lib.hid eD; have ZLD := Lib.hid zlD; have ZLU := Lib.hid zlU; have LD := Lib.hid (show ∀ j, j < n * n → (zsD.getD j []).length ≤ 255 from fun j hj => (hzD j hj).2.2)
 clear hU hS hI hz h1 h2 h3 hX QD QU nsD nsU hzD hzU zlD zlU eU lU eD mC KC
 obtain ⟨w4, e4, KD, KU, KV, b4, hs4⟩ := boxes3 w3 24 24 24 [.int .i64 n, .int .i64 n, .slice aD (n * n) kD] [.int .i64 n, .int .i64 n, .slice aU (n * n) kU] [.int .i64 n, .int .i64 n, .slice aV (n * n) kV]
 clear hs4
 replace KF := KF.next b4
 replace KA := KA.next b4
 replace KR := KR.next b4
 replace hA := hA.next b4
 replace mD := mD.next b4
 replace mU := mU.next b4
 replace B0 := B0.trans (b4.mono B0.size)
 clear b4
 clear KV
 go_upto_region 3 with (fail)
 rw [← e4]
 clear e4
 have qKF0 := KF.cell 0
 have qKU0 := KU.cell 0
 have qKU1 := KU.cell 1
 have qKU2 := KU.cell 2
 go_wp2_with fail
 refine (xf_Hermite p _ n n 128 zsU _ HP.out HT.out mU (by omega) (by omega) ZLU.out LU.out (by omega) (by have := hbd4 hn; omega)).mono ?_; rintro e w5 ⟨V2, P2, top2, hFo, aH, kH, usH, aB, kB, usB, rfl, -, QB, b5⟩
 clear qKF0 qKU0 qKU1 qKU2
 replace KF := KF.next b5
 replace KA := KA.next b5
 replace KR := KR.next b5
 replace hA := hA.next b5
 replace mD := mD.next b5
 replace mU := mU.next b5
 replace KD := KD.next b5
 replace KU := KU.next b5
 replace B0 := B0.trans (b5.mono B0.size)
 clear b5
 obtain ⟨zsB, zlB, nsB, hzB⟩ := QB.ns HP.out
 have mB : Xm w5 (.agg #[.int .i64 n, .int .i64 n, .slice aB (n * n) kB]) n n zsB := ⟨_, rfl, nsB⟩
 have eB : MT.of n n (aT p n zsB) = X := by
  have hX2 : Inv (MT.of n n (aT p n zsU)) X := by rw [MT.of_congr EU.out]; exact HXI.out
  have h1 := her_unim HT.out hX2 hFo.rq hFo.her
  exact MT.ext fun i k hi hk => by rw [MT.of_e _ hi hk, rd_off hzB hi hk]; exact h1 i k hi hk
 have EB := Lib.hid eB; have ZLB := Lib.hid zlB
 have LB := Lib.hid (show ∀ j, j < n * n → (zsB.getD j []).length ≤ 1000000 from fun j hj => by have h1 := (hzB j hj).2.2; have h2 := hbd4 hn; omega)
 clear hFo QB nsB hzB zlB eB mU KU
 obtain ⟨w6, e6, KH, KB, b6, hs6⟩ := boxes2 w5 24 24 [.int .i64 n, .int .i64 n, .slice aH (n * n) kH] [.int .i64 n, .int .i64 n, .slice aB (n * n) kB]
 clear hs6
 replace KF := KF.next b6
 replace KA := KA.next b6
 replace KR := KR.next b6
 replace hA := hA.next b6
 replace mD := mD.next b6
 replace KD := KD.next b6
 replace mB := mB.next b6
 replace B0 := B0.trans (b6.mono B0.size)
 clear b6
 clear KH
 go_upto_region 4 with (fail)
 rw [← e6]
 clear e6
 have lF := KF.lt; have lA := KA.lt; have lR := KR.lt; have lD := KD.lt; have lB := KB.lt
 have HKF := Lib.hid KF; have HKA := Lib.hid KA; have HKR := Lib.hid KR; have HKD := Lib.hid KD; have HKB := Lib.hid KB; have HA := Lib.hid hA; have HMD := Lib.hid mD; have HMB := Lib.hid mB; have HB0 := Lib.hid B0
 clear KF KA KR KD KB hA mD mB B0
 obtain ⟨w7, e7, KP, b7, -⟩ := boxes1 w6 130 [.slice none 0 0, .slice none 0 0]
 go_upto_region 5 with (fail)
 rw [← e7]
 clear e7
 have ca0 := (HKA.out.next b7).cell 0
 go_wp2
 clear ca0
 go_loopw [40] (fun jv wr => ∃ (i : Nat) (iv cv : Value), i ≤ n ∧ jv = .int .i64 i ∧ Blk 130 wr w6.heap.size [iv, cv] ∧ PtS p n A W X wr (w6.heap.size + 1) iv cv i ∧ Below w6.heap.size w6 wr) (fun jv _ => n - (intOf jv).toNat)
 case atStart => exact ⟨0, _, _, by omega, rfl, KP, ⟨[], fun _ => .slice none 0 0, Qls.nil _ _ _ _ _, Mls.nil _ _ _ _ _ _⟩, b7⟩
 case round =>
  clear KP b7
  obtain ⟨i, iv, cv, hi, rfl, KP, ⟨us, S, QI, ML⟩, B1⟩ := hrel
  have hlt0 := KP.lt
  by_cases hin : i < n
  ·have KF := HKF.out.next B1; have KD := HKD.out.next B1; have mD := HMD.out.next B1
   have f0 := KF.cell 0; have d0 := KD.cell 0; have d1 := KD.cell 1; have d2 := KD.cell 2
   have hlD := LD.out (i * n + i) (at_lt rfl hin hin)
   go_wp2_with fail
   refine (xm_At p i i _ n n zsD _ HP.out mD (by omega) (by omega) ZLD.out hin hin (by omega)).mono ?_; rintro e w8 ⟨r8, zs, rfl, o8, n8, v8, l8, b8⟩
   rw [ED.out i hin] at v8
   obtain ⟨a8, c8, rfl⟩ := o8.sliced
   replace KP := KP.next b8; replace QI := QI.next b8; replace ML := ML.next b8
   have B2 := B1.trans (b8.mono B1.size)
   have hpl : pln (W i i) = zs.length := by rw [← v8]; exact pln_eq (nrm_ln HP.out.pos n8)
   have hlz : zs.length ≤ 255 := by omega
   clear f0 d0 d1 d2 KF KD mD hlD l8 B1
   by_cases h1 : 1 < zs.length
   ·have hpk : pks W (i + 1) = pks W i ++ [i] := by rw [pks_succ, hpl, if_pos h1]
    have hml := pks_len W i
    have QI2 : Qls p w8 (w6.heap.size + 1) iv us (pks W i).length 255 (fun j => W ((pks W (i + 1)).getD j 0) ((pks W (i + 1)).getD j 0)) := QI.congr fun j hj => by rw [hpk, getD_snoc, if_neg (by omega)]
    have ML2 : Mls w8 (w6.heap.size + 1) cv (pks W i).length (fun _ => n) (fun _ => 1) S (fun j => tbv (ph A (cl X ((pks W (i + 1)).getD j 0)))) := ML.congr fun j hj => ⟨rfl, rfl, rfl, by rw [hpk, getD_snoc, if_neg (by omega)]⟩
    have hpm : (pks W (i + 1)).getD (pks W i).length 0 = i := by rw [hpk, getD_snoc, if_pos rfl]
    have hpn : (pks W (i + 1)).length = (pks W i).length + 1 := by rw [hpk, List.length_append]; rfl
    clear QI ML hpk hpl
    obtain ⟨m, em⟩ : ∃ m, m = (pks W i).length := ⟨_, rfl⟩
    rw [← em] at QI2 ML2 hml hpm hpn
    clear em
    have p0 := KP.cell 0
    have hlt8 := KP.lt
    have hsz8 := b8.size
    clear b8
    go_upto_region 11 with (at_builtin; refine apVl 22 43 24 (.slice none 0 0) Try.underlying22 (by kernel_rfl) (by decide) rfl rfl _ _ rfl w8 (w6.heap.size + 1) _ m us (.slice a8 zs.length c8) rfl QI2.1 (by omega) (by omega) rfl rfl ?_; intro g9 cap9 w9 ho9 hb9 hg9 _; have KP9 := KP.below hb9 (Nat.lt_succ_self _); have q0 := KP9.cell 0; have q1 := KP9.free 0)
    have QI3 := QI2.push hg9 ho9 o8 (by omega) n8 (v8.trans (by rw [hpm])) hlz
    have ML3 := ML2.chg (Chg.grown hg9) (fun b _ hb => (rowOwn_tyb QI2.1 hb).1) (by decide) (by decide)
    obtain ⟨ws, ews⟩ : ∃ ws, ws = w9.setCell ⟨w6.heap.size, 0, none⟩ (.slice (some ⟨g9, 0, none⟩) (m + 1) cap9) := ⟨_, rfl⟩
    have KPs : Blk 130 ws w6.heap.size [.slice (some ⟨g9, 0, none⟩) (m + 1) cap9, cv] := by rw [ews]; exact KP9.set 0 _
    have QIs : Qls p ws (w6.heap.size + 1) (.slice (some ⟨g9, 0, none⟩) (m + 1) cap9) (us ++ [.slice a8 zs.length c8]) (m + 1) 255 (fun j => W ((pks W (i + 1)).getD j 0) ((pks W (i + 1)).getD j 0)) := by rw [ews]; exact QI3.low (a := ⟨w6.heap.size, 0, none⟩) (Nat.lt_succ_self _) _
    have MLs : Mls ws (w6.heap.size + 1) cv m (fun _ => n) (fun _ => 1) S (fun j => tbv (ph A (cl X ((pks W (i + 1)).getD j 0)))) := by rw [ews]; exact ML3.low (a := ⟨w6.heap.size, 0, none⟩) (Nat.lt_succ_self _) _
    have Bs : Below w6.heap.size w6 ws := by rw [ews]; exact (B2.trans (hb9.mono (Nat.le_succ _))).setCell (p := ⟨w6.heap.size, 0, none⟩) (Nat.le_refl _) _
    rw [← ews]
    clear ews QI3 ML3 QI2 ML2 KP9 q0 q1 p0 KP o8 n8 v8 ho9 hb9 hg9 B2
    have bd := dw ws
    replace KPs := KPs.next bd; replace QIs := QIs.next bd; replace MLs := MLs.next bd
    replace Bs := Bs.trans (bd.mono Bs.size)
    have KF := HKF.out.next Bs; have KA := HKA.out.next Bs; have KB := HKB.out.next Bs; have hA := HA.out.next Bs; have mB := HMB.out.next Bs
    have hbs : w6.heap.size + 1 ≤ ws.drew.heap.size := KPs.lt
    clear bd
    have z0 := Lib.hid fun (w : World) (hS : Below (w6.heap.size + 1) ws.drew w) => And.intro ((KPs.below hS (Nat.lt_succ_self _)).cell 1) (And.intro ((KF.below hS (Nat.lt_succ_of_lt lF)).cell 0) (And.intro ((KA.below hS (Nat.lt_succ_of_lt lA)).cell 0) (And.intro ((KA.below hS (Nat.lt_succ_of_lt lA)).cell 1) (And.intro ((KA.below hS (Nat.lt_succ_of_lt lA)).cell 2) (And.intro ((KB.below hS (Nat.lt_succ_of_lt lB)).cell 0) (And.intro ((KB.below hS (Nat.lt_succ_of_lt lB)).cell 1) ((KB.below hS (Nat.lt_succ_of_lt lB)).cell 2)))))))
    refine startP (S := (fun w' => Below (w6.heap.size + 1) ws.drew w')) (by kernel_rfl) _ rfl rfl rfl (by kernel_rfl) (Below.refl _ _) (fun hHeld => ?_)
    refine tk 0 ?_
    refine tf 1 z0.out ?_
    refine tf 2 z0.out ?_
    refine tf 3 z0.out ?_
    refine tf 4 z0.out ?_
    refine tk 5 ?_
    refine on 6 fun K hK => ?_
    go_simp
    go_at_call 141
    (with_reducible refine (fb_column p i _ _ n xs zsB _ HP.out hA mB (by omega) HX.out ZLB.out LB.out hin).mono ?_); rintro e n1 ⟨ao, kc, rfl, oc, bc⟩
    rw [← EA.out, show clq p n zsB i = cl X i from by unfold clq; rw [EB.out]] at oc
    rw [← EA.out, show clq p n zsB i = cl X i from by unfold clq; rw [EB.out]]
    obtain ⟨zc, ezc⟩ : ∃ zc, zc = tbv (ph A (cl X i)) := ⟨_, rfl⟩
    rw [← ezc] at oc ⊢
    have EZC := Lib.hid ezc; clear ezc
    refine hK.out _ _ (hHeld.trans (bc.mono (Nat.le_trans hbs hHeld.size))) (fun hHeld => ?_)
    clear hK K
    try simp only [Act.put, zq1, zq2, zq3]
    refine on 7 fun K hK => ?_
    go_simp
    have hd := hHeld
    refine hK.out _ _ (hHeld.alloc (Nat.le_trans hbs hHeld.size) _) (fun hHeld => ?_)
    clear hK K
    try simp only [Act.put, zq1, zq2, zq3]
    refine on 8 fun K hK => ?_
    refine apS 125 63 3 40 (.agg #[.int .i64 0, .int .i64 0, .slice none 0 0]) Try.underlying125 (by kernel_rfl) (by decide) rfl (by decide) _ _ rfl n1 (w6.heap.size + 1) cv m (rowL (m * 3) (mcs (fun _ => n) (fun _ => 1) S)) [.int .i64 n, .int .i64 1, .slice ao zc.length kc] rfl (by intro u hu; simp at hu; rcases hu with rfl | rfl | rfl <;> rfl) (MLs.next bc).own (by omega) (Nat.le_trans hbs hd.size) rfl rfl ?_
    intro g10 cap10 w10 ho10 hb10 hg10 _
    refine hK.out _ _ (hd.trans hb10) (fun hHeld => ?_)
    clear hK K
    try simp only [Act.put, zq1, zq2, zq3]
    refine tk 9 ?_
    clear z0; refine doneL (by kernel_rfl) ?_ _
    refine lastL rfl (by rfl) ?_
    have KP10 := KPs.below hHeld (Nat.lt_succ_self _)
    have s0 := KP10.cell 1; have s1 := KP10.free 1
    have B10 := Bs.trans (hHeld.mono (Nat.le_succ _))
    have QI10 := (QIs.next bc).chg (Chg.grown hg10) (fun b _ hb => (rowOwn_tyb (MLs.next bc).own hb).1) (by decide) (by decide)
    have ML10 := (MLs.next bc).push hg10 ho10 oc hbs
    have KP11 := KP10.set 1 (.slice (some ⟨g10, 0, none⟩) (m + 1) cap10)
    have FIN := Lib.hid (show Blk 130 (w10.setCell ⟨w6.heap.size, 1, none⟩ (.slice (some ⟨g10, 0, none⟩) (m + 1) cap10)) w6.heap.size [.slice (some ⟨g9, 0, none⟩) (m + 1) cap9, .slice (some ⟨g10, 0, none⟩) (m + 1) cap10] ∧ PtS p n A W X (w10.setCell ⟨w6.heap.size, 1, none⟩ (.slice (some ⟨g10, 0, none⟩) (m + 1) cap10)) (w6.heap.size + 1) (.slice (some ⟨g9, 0, none⟩) (m + 1) cap9) (.slice (some ⟨g10, 0, none⟩) (m + 1) cap10) (i + 1) ∧ Below w6.heap.size w6 (w10.setCell ⟨w6.heap.size, 1, none⟩ (.slice (some ⟨g10, 0, none⟩) (m + 1) cap10)) from
     ⟨KP11, ⟨_, _, by rw [hpn]; exact QI10.low (a := ⟨w6.heap.size, 1, none⟩) (Nat.lt_succ_self _) _, by
      rw [hpn]
      refine (ML10.low (a := ⟨w6.heap.size, 1, none⟩) (Nat.lt_succ_self _) (.slice (some ⟨g10, 0, none⟩) (m + 1) cap10)).congr fun j hj => ⟨?_, ?_, rfl, ?_⟩
      ·by_cases e : j = m
       ·rw [if_pos e]
       ·rw [if_neg e]
      ·by_cases e : j = m
       ·rw [if_pos e]
       ·rw [if_neg e]
      ·by_cases e : j = m
       ·rw [if_pos e, e, hpm, EZC.out]
       ·rw [if_neg e]⟩, B10.setCell (p := ⟨w6.heap.size, 1, none⟩) (Nat.le_refl _) _⟩)
    clear KPs QIs MLs Bs KF KA KB hA mB KP10 B10 QI10 ML10 KP11 ho10 hb10 hg10 oc bc hHeld
    go_wp2
    go_roundw
    case rel => exact ⟨i + 1, _, _, by omega, by go_num, FIN.out⟩
    case measure => simp [intOf] <;> omega
   ·have hpk : pks W (i + 1) = pks W i := by rw [pks_succ, hpl, if_neg h1, List.append_nil]
    have FIN := Lib.hid (show PtS p n A W X w8 (w6.heap.size + 1) iv cv (i + 1) from ⟨us, S, by rw [hpk]; exact QI, by rw [hpk]; exact ML⟩)
    clear QI ML o8 n8 v8 b8 hpk hpl
    go_wp2
    go_roundw
    case rel => exact ⟨i + 1, _, _, by omega, by go_num, KP, FIN.out, B2⟩
    case measure => simp [intOf] <;> omega
  ·obtain rfl : i = n := by omega
   obtain ⟨ai, ci, rfl⟩ := QI.slc
   obtain ⟨ac, cc, rfl⟩ := ML.shape
   have KR := HKR.out.next B1
   have p0 := KP.cell 0; have p1 := KP.cell 1
   have r0 := KR.cell 0; have r1 := KR.cell 1; have r2 := KR.free 0; have r3 := KR.free 1
   have KR2 := (KR.set 0 (.slice ai (pks W i).length ci)).set 1 (.slice ac (pks W i).length cc)
   have d0 := KR2.cell 0; have d1 := KR2.cell 1
   have hw6 := HB0.out.size
   have FIN := Lib.hid (show RetPt p w i A (.returned (.agg #[(.slice ai (pks W i).length ci), (.slice ac (pks W i).length cc)])) ((wr.setCell ⟨w.heap.size + 1 + 1, 0, none⟩ (.slice ai (pks W i).length ci)).setCell ⟨w.heap.size + 1 + 1, 1, none⟩ (.slice ac (pks W i).length cc)) from
    ⟨W, U, V, X, HSM.out, HXI.out, HOF.out, HMO.out, HDV.out, (.slice ai (pks W i).length ci), (.slice ac (pks W i).length cc), rfl, ⟨us, S, ((QI.low (a := ⟨w.heap.size + 1 + 1, 0, none⟩) (show w.heap.size + 1 + 1 < w6.heap.size + 1 by omega) (.slice ai (pks W i).length ci)).low (a := ⟨w.heap.size + 1 + 1, 1, none⟩) (show w.heap.size + 1 + 1 < w6.heap.size + 1 by omega) (.slice ac (pks W i).length cc)).mono (by omega), ((ML.low (a := ⟨w.heap.size + 1 + 1, 0, none⟩) (show w.heap.size + 1 + 1 < w6.heap.size + 1 by omega) (.slice ai (pks W i).length ci)).low (a := ⟨w.heap.size + 1 + 1, 1, none⟩) (show w.heap.size + 1 + 1 < w6.heap.size + 1 by omega) (.slice ac (pks W i).length cc)).mono (by omega)⟩,
     ((HB0.out.trans (B1.mono hw6)).setCell (p := ⟨w.heap.size + 1 + 1, 0, none⟩) (by simp; omega) (.slice ai (pks W i).length ci)).setCell (p := ⟨w.heap.size + 1 + 1, 1, none⟩) (by simp; omega) (.slice ac (pks W i).length cc)⟩)
   clear KR KR2 QI ML B1
   go_wp2
   exact bodyPost_ret (v := .agg #[(.slice ai (pks W i).length ci), (.slice ac (pks W i).length cc)]) (by simp [results, Try.results102, go_sem, d0, d1]) rfl FIN.out
end Go.Proofs.Ytkmfhabgempjiaa
/- Layer 25: squares; Invariants. -/
namespace Go.Proofs.Ytkmfhabgempjiaa
set_option maxHeartbeats 4000000
open Go.RowKit
theorem fb_square (a : Value) (R C : Int) (xs : List Nat) (w : World) (hA : Fm w a R C xs) (b : Bool) (hb : b = decide (Fd R C xs.length ∧ R = C)) :
  Calls Try.prog 101 #[a] w (RetW w (.bool b)) := by
 obtain ⟨aA, cA, rfl⟩ := hA.agg
 obtain ⟨wb, ew, KA, B0, hsz⟩ := boxes1 w 63 [.int .i64 R, .int .i64 C, .slice aA xs.length cA]
 clear hsz
 replace hA := hA.next B0
 have f0 := KA.cell 0; have f1 := KA.cell 1; have f2 := KA.cell 2
 by_cases hF : Fd R C xs.length
 ·by_cases hRC : R = C
  ·subst hRC
   obtain rfl : b = true := by rw [hb]; exact decide_eq_true ⟨hF, rfl⟩
   clear hb
   go_enter Try.func101, Try.ntmps101
   go_upto_region 1 with (fail)
   rw [← ew]
   clear ew
   go_wp2_with fail
   refine (fm_Formed_yes _ R R xs _ hA hF).mono ?_; rintro e w2 ⟨rfl, b2⟩
   have KA2 := KA.next b2
   clear f0 f1 f2 KA
   have f0 := KA2.cell 0; have f1 := KA2.cell 1
   go_wp2
   go_ret
   exact ⟨rfl, B0.trans (b2.mono B0.size)⟩
  ·obtain rfl : b = false := by rw [hb]; exact decide_eq_false (fun h => hRC h.2)
   clear hb
   have h2 : (R == C) = false := by simpa using hRC
   go_enter Try.func101, Try.ntmps101
   go_upto_region 1 with (fail)
   rw [← ew]
   clear ew
   go_wp2_with fail
   refine (fm_Formed_yes _ R C xs _ hA hF).mono ?_; rintro e w2 ⟨rfl, b2⟩
   have KA2 := KA.next b2
   clear f0 f1 f2 KA
   have f0 := KA2.cell 0; have f1 := KA2.cell 1
   go_wp2
   go_ret
   exact ⟨rfl, B0.trans (b2.mono B0.size)⟩
 ·obtain rfl : b = false := by rw [hb]; exact decide_eq_false (fun h => hF h.1)
  clear hb
  go_enter Try.func101, Try.ntmps101
  go_upto_region 1 with (fail)
  rw [← ew]
  clear ew
  go_wp2_with fail
  refine (fm_Formed_no _ R C xs _ hA hF).mono ?_; rintro e w2 ⟨rfl, b2⟩
  have KA2 := KA.next b2
  clear f0 f1 f2 KA
  have f0 := KA2.cell 0; have f1 := KA2.cell 1
  go_wp2
  go_ret
  exact ⟨rfl, B0.trans (b2.mono B0.size)⟩
theorem fb_square_yes (a : Value) (n : Nat) (xs : List Nat) (w : World) (hA : Fm w a n n xs) (hn : n ≤ 64) (hx : xs.length = n * n) : Calls Try.prog 101 #[a] w (RetW w (.bool true)) :=
 fb_square a n n xs w hA true (decide_eq_true ⟨⟨⟨by omega, by omega⟩, ⟨by omega, by omega⟩, by rw [hx]; exact Int.natCast_mul n n⟩, rfl⟩).symm
theorem fb_square_no (a : Value) (R C : Int) (xs : List Nat) (w : World) (hA : Fm w a R C xs) (h : ¬ (Fd R C xs.length ∧ R = C)) : Calls Try.prog 101 #[a] w (RetW w (.bool false)) :=
 fb_square a R C xs w hA false (decide_eq_false h).symm
theorem law25_square (a : Value) (R C : Int) (xs : List Nat) (w : World) (hA : Fm w a R C xs) (b : Bool) (hb : b = decide (Fd R C xs.length ∧ R = C)) :
  Calls Try.prog 54 #[a] w (RetW w (.bool b)) := by
 obtain ⟨aA, cA, rfl⟩ := hA.agg
 obtain ⟨wb, ew, KA, B0, hsz⟩ := boxes1 w 63 [.int .i64 R, .int .i64 C, .slice aA xs.length cA]
 clear hsz
 replace hA := hA.next B0
 have f0 := KA.cell 0; have f1 := KA.cell 1; have f2 := KA.cell 2
 obtain ⟨β, hβ⟩ : ∃ β, β = decide (Fd R C xs.length) := ⟨_, rfl⟩
 have HB := Lib.hid hβ
 have e : b = (β && (R == C)) := by
  rw [hb, hβ]; by_cases h1 : Fd R C xs.length <;> by_cases h2 : R = C <;> simp [h1, h2]
 clear hb hβ
 obtain ⟨γ, hγ⟩ : ∃ γ, γ = (R == C) := ⟨_, rfl⟩
 have hg2 : (R == C) = γ := hγ.symm
 rw [hg2] at e
 clear hγ
 cases β with
 | true =>
  obtain rfl : b = γ := by rw [e]; rfl
  clear e
  go_enter Try.func54, Try.ntmps54
  go_upto_region 1 with (fail)
  rw [← ew]
  clear ew
  go_wp2_with fail
  refine (rf21_Formed _ R C xs _ hA true HB.out).mono ?_; rintro e w2 ⟨rfl, b2⟩
  have KA2 := KA.next b2
  clear f0 f1 f2 KA
  have f0 := KA2.cell 0; have f1 := KA2.cell 1
  go_wp2
  go_ret
  exact ⟨rfl, B0.trans (b2.mono B0.size)⟩
 | false =>
  obtain rfl : b = false := by rw [e]; rfl
  clear e
  go_enter Try.func54, Try.ntmps54
  go_upto_region 1 with (fail)
  rw [← ew]
  clear ew
  go_wp2_with fail
  refine (rf21_Formed _ R C xs _ hA false HB.out).mono ?_; rintro e w2 ⟨rfl, b2⟩
  have KA2 := KA.next b2
  clear f0 f1 f2 KA
  have f0 := KA2.cell 0; have f1 := KA2.cell 1
  go_wp2
  go_ret
  exact ⟨rfl, B0.trans (b2.mono B0.size)⟩
theorem fld0 (w : World) (ai ac : Option Addr) (m n ci cc : Nat) : Sem.run Try.prog (Instr.field 130 (.agg #[.slice ai m ci, .slice ac n cc]) 0) w = .ok (.slice ai m ci) w := by kernel_rfl
def RetIn (p : Nat) (w : World) (n : Nat) (A : MT (Zp p) n n) (e : Ending) (w' : World) : Prop :=
 ∃ (W U V : (Nat → Nat → Pol (Zp p))) (X : MT (Pol (Zp p)) n n), SmR (XA A) U W V ∧ Inv (MT.of n n U) X ∧ (∀ i k, i < n → k < n → i ≠ k → W i k = 0) ∧ (∀ k, k < n → Mo (W k k)) ∧ (∀ i k, i ≤ k → k < n → Dv (W i i) (W k k)) ∧
  ∃ iv us, e = .returned (.tuple #[iv, .int .i64 0]) ∧ Qls p w' w.heap.size iv us (pks W n).length 255 (fun j => W ((pks W n).getD j 0) ((pks W n).getD j 0)) ∧ Below w.heap.size w w'
set_option maxRecDepth 20000 in
theorem fb_Invariants (p : Nat) (a : Value) (n : Nat) (xs : List Nat) (w : World) (hp : FP p) (tr : Trial p) (hA : Fm w a n n xs) (hn : n ≤ 4) (hx : xs.length = n * n) :
  Calls Try.prog 50 #[.agg #[.int .u64 p], a] w (RetIn p w n (mx p n n xs)) := by
 obtain ⟨aA, cA, rfl⟩ := hA.agg
 obtain ⟨wb, ew, KF, KA, B0, hsz⟩ := boxes2 w 29 63 [.int .u64 p] [.int .i64 n, .int .i64 n, .slice aA xs.length cA]
 clear hsz
 replace hA := hA.next B0
 have HX := Lib.hid hx; have HP := Lib.hid hp; have HT := Lib.hid tr; clear hx hp tr
 go_enter Try.func50, Try.ntmps50
 go_upto_region 1 with (fail)
 rw [← ew]
 clear ew
 have qKA0 := KA.cell 0
 have qKA1 := KA.cell 1
 have qKA2 := KA.cell 2
 go_wp2_with fail
 refine (fb_square_yes _ n xs _ hA (by omega) HX.out).mono ?_; rintro e w1 ⟨rfl, b1⟩
 clear qKA0 qKA1 qKA2
 replace KF := KF.next b1
 replace KA := KA.next b1
 replace hA := hA.next b1
 replace B0 := B0.trans (b1.mono B0.size)
 clear b1
 have hw1 := B0.size
 have qKF0 := KF.cell 0
 have qKA0 := KA.cell 0
 have qKA1 := KA.cell 1
 have qKA2 := KA.cell 2
 go_wp2_with fail
 refine (fb_part p _ n xs _ HP.out HT.out hA hn HX.out).mono ?_; rintro e w2 ⟨W, U, V, X, h1, h2, h3, h4, h5, iv, cv, rfl, ⟨us, S, QI, QM⟩, b2⟩
 clear qKF0 qKA0 qKA1 qKA2
 replace KF := KF.next b2
 replace KA := KA.next b2
 replace hA := hA.next b2
 replace B0 := B0.trans (b2.mono B0.size)
 clear b2
 obtain ⟨ai, ci, rfl⟩ := QI.slc
 obtain ⟨ac, cc, rfl⟩ := QM.shape
 clear QM
 have FIN := Lib.hid (show RetIn p w n (mx p n n xs) (.returned (.tuple #[.slice ai (pks W n).length ci, .int .i64 0])) w2 from ⟨W, U, V, X, h1, h2, h3, h4, h5, _, us, rfl, QI.mono hw1, B0⟩)
 clear h1 h2 h3 h4 h5 QI KF KA hA B0
 go_wp2
 rw [fld0]
 go_wp2
 exact bodyPost_ret (v := .tuple #[.slice ai (pks W n).length ci, .int .i64 0]) (by simp [results, Try.results50, go_sem]) rfl FIN.out
set_option maxRecDepth 20000 in
theorem fb_Invariants_no (p : Nat) (a : Value) (R C : Int) (xs : List Nat) (w : World) (hA : Fm w a R C xs) (hno : ¬ (Fd R C xs.length ∧ R = C)) :
  Calls Try.prog 50 #[.agg #[.int .u64 p], a] w (RetW w (.tuple #[.slice none 0 0, .int .i64 2])) := by
 obtain ⟨aA, cA, rfl⟩ := hA.agg
 obtain ⟨wb, ew, KF, KA, B0, hsz⟩ := boxes2 w 29 63 [.int .u64 p] [.int .i64 R, .int .i64 C, .slice aA xs.length cA]
 clear hsz
 replace hA := hA.next B0
 have HNO := Lib.hid hno; clear hno
 go_enter Try.func50, Try.ntmps50
 go_upto_region 1 with (fail)
 rw [← ew]
 clear ew
 have qKA0 := KA.cell 0
 have qKA1 := KA.cell 1
 have qKA2 := KA.cell 2
 go_wp2_with fail
 refine (fb_square_no _ R C xs _ hA HNO.out).mono ?_; rintro e w1 ⟨rfl, b1⟩
 clear qKA0 qKA1 qKA2
 replace KF := KF.next b1
 replace KA := KA.next b1
 replace hA := hA.next b1
 replace B0 := B0.trans (b1.mono B0.size)
 clear b1
 clear KF KA hA
 go_wp2
 exact bodyPost_ret (v := .tuple #[.slice none 0 0, .int .i64 2]) (by simp [results, Try.results50, go_sem]) rfl ⟨rfl, B0⟩
end Go.Proofs.Ytkmfhabgempjiaa
/- slices.ContainsFunc, slices.Index; the closures of Solve and Reduce. -/
namespace Go.Proofs.Ytkmfhabgempjiaa
set_option maxHeartbeats 4000000
open Go.RowKit
set_option maxRecDepth 20000 in
theorem ix_int (v : Value) (P : List Nat) (x : Nat) (w : World) (hv : Sl .i64 w v P) (hm : P.length ≤ 1000000) (β : Nat → Bool) (hβ : β = fun j => decide (P.getD j 0 = x)) (R : Int) (hR : IxR β P.length R) :
  Calls Try.prog 109 #[v, .int .i64 x] w (fun e w' => e = .returned (.int .i64 R) ∧ w = w') := by
 obtain ⟨ao, g, off, cap, rfl, hcap, hcs⟩ := hv
 have HR := Lib.hid hR; have HC := Lib.hid hcs; have HB0 := Lib.hid hβ
 clear hR hcs hβ
 go_enter Try.func109, Try.ntmps109
 go_wp2
 go_loop [8] (fun kv => ∃ k : Nat, k ≤ P.length ∧ kv = .int .i64 k ∧ ∀ l, l < k → β l = false) (fun kv => P.length - (intOf kv).toNat)
 case atStart => exact ⟨0, by omega, rfl, fun l h => by omega⟩
 case round =>
  obtain ⟨k, hk, rfl, hb⟩ := hrel
  have HB := Lib.hid hb; clear hb
  by_cases hkm : k < P.length
  ·obtain rfl := HC.out.ao (by intro h; rw [h] at hkm; simp at hkm)
   have q1 := HC.out.cell k hkm
   obtain ⟨y, ey⟩ : ∃ y, y = P.getD k 0 := ⟨_, rfl⟩
   rw [← ey] at q1
   have EY := Lib.hid ey; clear ey
   by_cases hxy : x = y
   ·have hk1 : β k = true := by rw [HB0.out]; exact decide_eq_true (by rw [← EY.out, hxy])
    have e : R = (k : Int) := by
     rcases HR.out with ⟨j, rfl, hj, h1, h2⟩ | ⟨_, h2⟩
     ·congr 1
      rcases Nat.lt_trichotomy j k with h | h | h
      ·rw [HB.out j h] at h1; cases h1
      ·exact h
      ·rw [h2 k h] at hk1; cases hk1
     ·rw [h2 k hkm] at hk1; cases hk1
    subst e
    subst hxy
    clear hk1
    go_wp2
    go_ret
    exact ⟨rfl, rfl⟩
   ·have hk1 : β k = false := by rw [HB0.out]; exact decide_eq_false (by rw [← EY.out]; exact fun h => hxy h.symm)
    have hne : ((x : Int) == (y : Int)) = false := by simp; omega
    have HN := Lib.hid (show ∀ l, l < k + 1 → β l = false from fun l hl => by
     by_cases e : l = k
     ·rw [e]; exact hk1
     ·exact HB.out l (by omega))
    clear hk1 hxy
    go_wp2
    go_round
    case rel => exact ⟨k + 1, by omega, by go_num, HN.out⟩
    case measure => simp [intOf] <;> omega
  ·have e : R = -1 := by
    rcases HR.out with ⟨j, rfl, hj, h1, h2⟩ | ⟨h, _⟩
    ·rw [HB.out j (by omega)] at h1; cases h1
    ·exact h
   subst e
   go_wp2
   go_ret
   exact ⟨rfl, rfl⟩
theorem Rws.atR {p : Nat} {w : World} {base n N : Nat} {rv : Value} {vs : List Value} {W : Nat → Nat → Zp p} (h : Rws (VZ p) 27 41 w base rv vs n N W) {i : Nat} (hi : i < n) (hN : 0 < N) :
  ∃ g cg b o cap, rv = .slice (some ⟨g, 0, none⟩) n cg ∧ n ≤ cg ∧ g < w.heap.size ∧ w.cell? ⟨g, i, none⟩ = some (.slice (some ⟨b, o, none⟩) N cap) ∧ N ≤ cap ∧ b < w.heap.size ∧ ∀ k, k < N → w.cell? ⟨b, o + k, none⟩ = some (.int .u64 ((W i k).val : Nat)) := by
 rcases h.shape with ⟨_, h0⟩ | ⟨g, cg, e, h1, h2, h3⟩
 ·omega
 obtain ⟨u, hu⟩ := h.hdr hi
 have hc := h.head e hi
 obtain ⟨ao, cap, b', o', cur', e3, e4, e5⟩ := h.row i u hu
 obtain ⟨e6, e7, e8, _⟩ := e5 hN
 obtain ⟨b, o, cap2, cur, e1, _, e2, k1⟩ := (h.row i u hu).pos hN
 rw [e1] at e3
 simp only [Value.slice.injEq] at e3
 refine ⟨g, cg, b, o, cap2, e, h3, h2, by rw [hc, hu, e1], by rw [e3.2.2]; exact e4, ?_, fun k hk => ?_⟩
 ·exact (Array.getElem?_eq_some_iff.1 e2).1
 ·obtain ⟨x, q, hx⟩ := k1 k hk
  rw [q, show x = .int .u64 ((W i k).val : Nat) from hx]
end Go.Proofs.Ytkmfhabgempjiaa
/- Layer 25, plain: the invariants' product and the last one. -/
namespace Go.Proofs.Ytkmfhabgempjiaa
set_option maxHeartbeats 4000000
open Go.RowKit
section
open CR
variable {p n : Nat}
theorem mo_one1 (tr : Trial p) {g : Pol (Zp p)} (h : Mo g) (hl : Ln g 1) : g = 1 := by
 rcases h with rfl | ⟨d, h1, h2⟩
 ·exact absurd rfl hl.ne
 ·obtain rfl : d = 0 := by have := (Mo.ln tr h1 h2).unique hl; omega
  refine Pol.ext fun i => ?_
  rw [Pol.one_def, c_mon]
  by_cases e : i = 0
  ·subst e; rw [if_pos rfl]; exact h2
  ·rw [if_neg e]; exact h1 i (by omega)
theorem pks_getD (W : (Nat → Nat → Pol (Zp p))) (i j : Nat) (hj : j < (pks W i).length) : (pks W i).getD j 0 < i ∧ 1 < pln (W ((pks W i).getD j 0) ((pks W i).getD j 0)) := by
 have : (pks W i).getD j 0 ∈ pks W i := by
  simp only [List.getD, List.getElem?_eq_getElem hj, Option.getD_some]
  exact List.getElem_mem hj
 exact pks_lt this
theorem awk25 (tr : Trial p) (h5 : Zp.of p 5 = -Zp.of p 2) {U W V : (Nat → Nat → Pol (Zp p))} (h : SmR (XA (mx p 2 2 [2, 0, 0, 2])) U W V) (hoff : ∀ i k, i < 2 → k < 2 → i ≠ k → W i k = 0) (hm : ∀ k, k < 2 → Mo (W k k)) : pks W 2 = [0, 1] ∧ W 0 0 = pl p [5, 1] ∧ W 1 1 = pl p [5, 1] := by
 obtain ⟨hne, hdim⟩ := smith_deg tr h hoff hm
 have hl : Ln (pl p [5, 1]) 2 := Mo.ln tr (n := 1) (fun i hi => pl_dlt p _ i hi) (by rw [pl_c]; exact Zp.of_one p)
 have hmf : Mo (pl p [5, 1]) := Or.inr ⟨1, fun i hi => pl_dlt p _ i hi, by rw [pl_c]; exact Zp.of_one p⟩
 have ex : ∀ i k, i < 2 → k < 2 → (XA (mx p 2 2 [2, 0, 0, 2])).e i k = if i = k then pl p [5, 1] else 0 := fun i k hi hk => by
  unfold XA
  rw [MT.of_e _ hi hk, mx_e _ hi hk]
  by_cases e : i = k
  ·subst e
   rw [if_pos rfl, if_pos rfl]
   have e2 : Zp.of p ([2, 0, 0, 2].getD (i * 2 + i) 0) = Zp.of p 2 := by
    rcases (show i = 0 ∨ i = 1 by omega) with rfl | rfl <;> rfl
   rw [e2, pl_cons', pl_one, mul_one, h5, mon_neg, sub_eq, add_comm]
  ·rw [if_neg e, if_neg e]
   have e2 : [2, 0, 0, 2].getD (i * 2 + k) 0 = 0 := by
    rcases (show (i = 0 ∧ k = 1) ∨ (i = 1 ∧ k = 0) by omega) with ⟨rfl, rfl⟩ | ⟨rfl, rfl⟩ <;> rfl
   rw [e2, Zp.of_zero, mon_zero, sub_zero]
 have hd : ∀ k, k < 2 → Dv (pl p [5, 1]) (W k k) := fun k hk => by
  have e1 := congrArg (fun M : MT (Pol (Zp p)) 2 2 => M.e k k) h.e
  have e2 : W k k = (MT.of 2 2 U * XA (mx p 2 2 [2, 0, 0, 2]) * MT.of 2 2 V).e k k := by
   rw [← MT.of_e (f := W) hk hk]; exact e1
  rw [e2, MT.e_mul]
  refine Dv.sm 2 fun j hj => ?_
  rw [MT.e_mul]
  refine Dv.mul' (Dv.sm 2 fun i hi => ?_) _
  rw [ex i j hi hj]
  split
  ·exact (Dv.refl _).mul _
  ·exact (Dv.zero _).mul _
 have h0 := Dv.len tr (hd 0 (by omega)) (hne 0 (by omega)) hl (pln_ln _)
 have h1 := Dv.len tr (hd 1 (by omega)) (hne 1 (by omega)) hl (pln_ln _)
 have hs := hdim (MT.one 2)
 have hs2 : (pln (W 0 0) - 1) + ((pln (W 1 1) - 1) + 0) = 2 := hs
 have fin : ∀ k, k < 2 → pln (W k k) = 2 → W k k = pl p [5, 1] := fun k hk e => by
  obtain ⟨g, hg⟩ := hd k hk
  rw [mul_comm] at hg
  have hgn : g ≠ 0 := fun e0 => hne k hk (by rw [hg, e0, zero_mul])
  obtain ⟨a, ha⟩ := Ln.exists g
  obtain ⟨b, rfl⟩ := ha.pos hgn
  have h3 := ha.mul tr (m := b) (n := 1) hl
  rw [← hg] at h3
  have h4 := h3.unique (pln_ln _)
  obtain rfl : b = 0 := by omega
  obtain ⟨-, -, h5'⟩ := mo_top tr (hm k hk) (hne k hk)
  have hg1 : g = 1 := by
   refine mo_one1 tr (Or.inr ⟨0, ha.1, ?_⟩) ha
   rw [e, hg, Pol.c_mul] at h5'
   have e7 : sm (1 + 1) (fun s => g.c s * (pl p [5, 1]).c (1 - s)) = g.c 0 := by
    show 0 + g.c 0 * (pl p [5, 1]).c 1 + g.c 1 * (pl p [5, 1]).c 0 = g.c 0
    rw [ha.1 1 (by omega), zero_mul, add_zero, zero_add, pl_c]
    exact (congrArg (g.c 0 * ·) (Zp.of_one p)).trans (mul_one _)
   rw [← e7]; exact h5'
  rw [hg, hg1, one_mul]
 refine ⟨?_, fin 0 (by omega) (by omega), fin 1 (by omega) (by omega)⟩
 rw [pks_succ, if_pos (by omega), pks_succ, if_pos (by omega)]; rfl
end
end Go.Proofs.Ytkmfhabgempjiaa
/- Layer 25: Frobenius. -/
namespace Go.Proofs.Ytkmfhabgempjiaa
set_option maxHeartbeats 4000000
open Go.RowKit
section
open CR
variable {p n : Nat}
def SmF (A : MT (Zp p) n n) (W U V : (Nat → Nat → Pol (Zp p))) (X : MT (Pol (Zp p)) n n) : Prop := SmR (XA A) U W V ∧ Inv (MT.of n n U) X ∧ (∀ i k, i < n → k < n → i ≠ k → W i k = 0) ∧ (∀ k, k < n → Mo (W k k)) ∧ (∀ i k, i ≤ k → k < n → Dv (W i i) (W k k))
def IvL (n : Nat) (W : (Nat → Nat → Pol (Zp p))) (zz : List (List Nat)) : Prop := zz.length = (pks W n).length ∧ ∀ j, j < (pks W n).length → Nrm p (zz.getD j []) ∧ pl p (zz.getD j []) = W ((pks W n).getD j 0) ((pks W n).getD j 0)
end
end Go.Proofs.Ytkmfhabgempjiaa
/- Layer 25: what goes with a matrix, by what polynomials make of the parts. -/
namespace Go.Proofs.Ytkmfhabgempjiaa
set_option maxHeartbeats 4000000
open Go.RowKit
section
open CR
variable {p n : Nat} {A : MT (Zp p) n n} {W U V : (Nat → Nat → Pol (Zp p))} {X : MT (Pol (Zp p)) n n}
theorem ms_sub {R : Type} [CR R] {n m : Nat} (N : Nat) (f g : Nat → MT R n m) : ms N (fun j => f j - g j) = ms N f - ms N g := by
 have h := ms_add N (fun j => f j - g j) g
 rw [ms_congr (f := fun j => f j - g j + g j) (g := f) fun j _ => MT.sub_add_cancel _ _] at h
 rw [h]
 exact MT.ext fun i k _ _ => by rw [MT.e_sub, MT.e_add, add_sub_cancel]
theorem pev_sm (f : Nat → Pol (Zp p)) (A : MT (Zp p) n n) : ∀ N, pev (sm N f) A = ms N fun j => pev (f j) A
 | 0 => pev_zero A
 | N + 1 => by show pev (sm N f + f N) A = ms N _ + _; rw [pev_add, pev_sm f A N]
theorem ms_mul_r {R : Type} [CR R] {n m l : Nat} (f : Nat → MT R n m) (B : MT R m l) (N : Nat) : ms N f * B = ms N fun j => f j * B := mul_ms f B N
noncomputable def gv (A : MT (Zp p) n n) (X : MT (Pol (Zp p)) n n) (k : Nat) : MT (Zp p) n 1 := ph A (cl X k)
noncomputable def Fi (A : MT (Zp p) n n) (X : MT (Pol (Zp p)) n n) (f : Nat → Pol (Zp p)) : MT (Zp p) n 1 := ms n fun k => pev (f k) A * gv A X k
theorem Fi_mul (q : Pol (Zp p)) (f : Nat → Pol (Zp p)) : Fi A X (fun k => q * f k) = pev q A * Fi A X f := by
 unfold Fi; rw [ms_mul]; exact ms_congr fun k _ => by rw [pev_mul, MT.mul_assoc]
theorem Fi_sub (f g : Nat → Pol (Zp p)) : Fi A X (fun k => f k - g k) = Fi A X f - Fi A X g := by
 unfold Fi; rw [← ms_sub]; exact ms_congr fun k _ => by rw [pev_sub, MT.sub_mul]
theorem Fi_ker (h : SmF A W U V X) {f : Nat → Pol (Zp p)} (h0 : Fi A X f = 0) : ∀ k, k < n → Dv (W k k) (f k) := by
 obtain ⟨h1, h2, h3, -, -⟩ := h
 obtain ⟨F, eF⟩ : ∃ F : MT (Pol (Zp p)) n 1, F = MT.of n 1 fun k _ => f k := ⟨_, rfl⟩
 have hF : ∀ k, k < n → F.e k 0 = f k := fun k hk => by rw [eF, MT.of_e _ hk (by omega)]
 have e1 : ph A (X * F) = 0 := by
  rw [mul_cols, ph_ms]
  refine Eq.trans (ms_congr fun k hk => ?_) h0
  rw [ph_sc, hF k hk]; rfl
 obtain ⟨C, hC⟩ := ph_ker e1
 obtain ⟨Y, hY⟩ := h1.v
 have e2 : F = MT.of n n W * (Y * C) := by
  have e3 : MT.of n n U * (X * F) = F := by rw [← MT.mul_assoc, h2.1, MT.one_mul]
  have e4 : MT.of n n W * (Y * C) = MT.of n n U * (XA A * C) := by
   rw [h1.e, MT.mul_assoc (MT.of n n U * XA A), ← MT.mul_assoc (MT.of n n V), hY.1, MT.one_mul, MT.mul_assoc]
  rw [e4, ← hC, e3]
 intro k hk
 refine ⟨(Y * C).e k 0, ?_⟩
 rw [← hF k hk, e2, MT.e_mul, sm_one hk fun j hj hne => by rw [MT.of_e _ hk hj, h3 k j hk hj (Ne.symm hne), zero_mul], MT.of_e _ hk hk]
theorem gv_kill (h : SmF A W U V X) {k : Nat} (hk : k < n) : pev (W k k) A * gv A X k = 0 := smith_kill h.1 h.2.1 h.2.2.1 hk
theorem Fi_span (h : SmF A W U V X) (w : MT (Zp p) n 1) : ∃ f : Nat → Pol (Zp p), w = Fi A X f := smith_span h.2.1 w
theorem mt_ext_v {m : Nat} {M N : MT (Zp p) m n} (h : ∀ w : MT (Zp p) n 1, M * w = N * w) : M = N := MT.ext fun i c hi hc => by
 have h1 := congrArg (fun Q : MT (Zp p) m 1 => Q.e i 0) (h (MT.of n 1 fun j _ => if j = c then 1 else 0))
 have h2 : ∀ Q : MT (Zp p) m n, (Q * (MT.of n 1 fun j _ => if j = c then 1 else 0 : MT (Zp p) n 1)).e i 0 = Q.e i c := fun Q => by
  rw [MT.e_mul, sm_one hc fun j hj hne => by rw [MT.of_e _ hj (by omega), if_neg hne, mul_zero], MT.of_e _ hc (by omega), if_pos rfl, mul_one]
 rw [← h2 M, ← h2 N]; exact h1
theorem ext_T (h : SmF A W U V X) (u : Nat → MT (Zp p) n 1) (hu : ∀ k, k < n → pev (W k k) A * u k = 0) : ∃ T : MT (Zp p) n n, ∀ f, T * Fi A X f = ms n fun k => pev (f k) A * u k := by
 obtain ⟨g, hg⟩ : ∃ g : Nat → Nat → Pol (Zp p), ∀ c, (MT.of n 1 fun i _ => if i = c then 1 else 0 : MT (Zp p) n 1) = Fi A X (g c) := ⟨fun c => (Fi_span h _).choose, fun c => (Fi_span h _).choose_spec⟩
 refine ⟨MT.of n n fun i c => (ms n fun k => pev (g c k) A * u k).e i 0, fun f => ?_⟩
 obtain ⟨w, ew⟩ : ∃ w, w = Fi A X f := ⟨_, rfl⟩
 rw [← ew]
 have e1 : (MT.of n n fun i c => (ms n fun k => pev (g c k) A * u k).e i 0 : MT (Zp p) n n) * w = ms n fun c => (ms n fun k => pev (g c k) A * u k).sc (w.e c 0) := mt1_ext fun i hi => by
  rw [MT.e_mul, ms_e]; exact sm_congr fun c hc => by rw [MT.of_e _ hi hc, MT.e_sc, mul_comm]
 have e2 : w = ms n fun c => (Fi A X (g c)).sc (w.e c 0) := mt1_ext fun i hi => by
  rw [ms_e, sm_one hi (fun c _ hne => by rw [MT.e_sc, ← hg, MT.of_e _ hi (by omega), if_neg (Ne.symm hne), mul_zero]), MT.e_sc, ← hg, MT.of_e _ hi (by omega), if_pos rfl, mul_one]
 obtain ⟨G, eG⟩ : ∃ G : Nat → Pol (Zp p), G = fun k => sm n fun c => mon (w.e c 0) 0 * g c k := ⟨_, rfl⟩
 have hG : ∀ (v : Nat → MT (Zp p) n 1), (ms n fun k => pev (G k) A * v k) = ms n fun c => (ms n fun k => pev (g c k) A * v k).sc (w.e c 0) := fun v => by
  have q1 : ∀ k, pev (G k) A * v k = ms n fun c => (pev (g c k) A * v k).sc (w.e c 0) := fun k => by
   rw [eG]
   show pev (sm n fun c => mon (w.e c 0) 0 * g c k) A * v k = _
   rw [pev_sm, ms_mul_r]
   exact ms_congr fun c _ => by rw [pev_mul, pev_mon, show A.pow 0 = MT.one n from rfl, MT.sc_one_mul, MT.sc_mul]
  rw [ms_congr fun k _ => q1 k, ms_swap]
  exact ms_congr fun c _ => (ms_sc _ _ _).symm
 have e3 : Fi A X G = w := by
  show (ms n fun k => pev (G k) A * gv A X k) = w
  rw [hG]; exact e2.symm
 have e5 := Fi_ker h (f := fun k => G k - f k) (by rw [Fi_sub, e3, ew, MT.sub_self])
 have e6 : (ms n fun k => pev (G k - f k) A * u k) = 0 := ms_zero fun k hk => pev_dvc (e5 k hk) (hu k hk)
 have e7 : (ms n fun k => pev (G k) A * u k) = ms n fun k => pev (f k) A * u k := MT.sub_zero' (by
  rw [← ms_sub, ← e6]; exact ms_congr fun k _ => by rw [pev_sub, MT.sub_mul])
 rw [e1, ← e7, hG]
theorem pev_x (A : MT (Zp p) n n) : pev (mon 1 1) A = A := by rw [pev_mon, MT.one_sc]; exact MT.one_mul A
theorem T_comm (h : SmF A W U V X) {u : Nat → MT (Zp p) n 1} {T : MT (Zp p) n n} (hT : ∀ f, T * Fi A X f = ms n fun k => pev (f k) A * u k) : T * A = A * T := mt_ext_v fun w => by
 obtain ⟨f, rfl⟩ := Fi_span h w
 have e1 : A * Fi A X f = Fi A X fun k => mon 1 1 * f k := by rw [Fi_mul, pev_x]
 rw [MT.mul_assoc, e1, hT, MT.mul_assoc, hT, ms_mul]
 exact ms_congr fun k _ => by rw [pev_mul, pev_x, MT.mul_assoc]
theorem Fi_one (A : MT (Zp p) n n) (X : MT (Pol (Zp p)) n n) {k : Nat} (hk : k < n) : Fi A X (fun j => if j = k then 1 else 0) = gv A X k := by
 unfold Fi
 rw [ms_one hk fun j _ hne => by
  show pev (if j = k then (1 : Pol (Zp p)) else 0) A * gv A X j = 0
  rw [if_neg hne, pev_zero, MT.zero_mul]]
 show pev (if k = k then (1 : Pol (Zp p)) else 0) A * gv A X k = _
 rw [if_pos rfl, pev_one, MT.one_mul]
theorem T_v {u : Nat → MT (Zp p) n 1} {T : MT (Zp p) n n} (hT : ∀ f, T * Fi A X f = ms n fun k => pev (f k) A * u k) {k : Nat} (hk : k < n) : T * gv A X k = u k := by
 rw [← Fi_one A X hk, hT, ms_one hk fun j _ hne => by rw [if_neg hne, pev_zero, MT.zero_mul], if_pos rfl, pev_one, MT.one_mul]
theorem com_Fi {T : MT (Zp p) n n} (hT : T * A = A * T) (f : Nat → Pol (Zp p)) : T * Fi A X f = ms n fun k => pev (f k) A * (T * gv A X k) := by
 unfold Fi
 rw [ms_mul]
 exact ms_congr fun k _ => by rw [← MT.mul_assoc, pev_conj hT, MT.mul_assoc]
theorem com_eq (h : SmF A W U V X) {S T : MT (Zp p) n n} (hS : S * A = A * S) (hT : T * A = A * T) (e : ∀ k, k < n → S * gv A X k = T * gv A X k) : S = T := mt_ext_v fun w => by
 obtain ⟨f, rfl⟩ := Fi_span h w
 rw [com_Fi hS, com_Fi hT]
 exact ms_congr fun k hk => by rw [e k hk]
noncomputable def dgr (W : (Nat → Nat → Pol (Zp p))) (k : Nat) : Nat := pln (W k k) - 1
theorem dv_small (tr : Trial p) {f r : Pol (Zp p)} {a : Nat} (hf : Ln f (a + 1)) (hr : r.dlt a) (h : Dv f r) : r = 0 := by
 refine Classical.byContradiction fun h0 => ?_
 obtain ⟨b, hb⟩ := Ln.exists r
 have h1 := h.len tr h0 hf hb
 have h2 := hb.le hr
 omega
theorem smF_ln (tr : Trial p) (h : SmF A W U V X) {k : Nat} (hk : k < n) : W k k ≠ 0 ∧ Ln (W k k) (dgr W k + 1) := by
 obtain ⟨h1, -, h3, h4, -⟩ := h
 have h0 := (smith_deg tr h1 h3 h4).1 k hk
 obtain ⟨k5, k6, -⟩ := mo_top tr (h4 k hk) h0
 refine ⟨h0, ?_⟩
 unfold dgr
 rwa [show pln (W k k) - 1 + 1 = pln (W k k) by omega]
theorem E_ex (tr : Trial p) (h : SmF A W U V X) {i j : Nat} (hi : i < n) (hj : j < n) : ∃ E : Pol (Zp p), Dv (W j j) (W i i * E) ∧
  (∀ q : Pol (Zp p), q.dlt (dgr W j) → Dv (W j j) (W i i * q) → ∃ r : Pol (Zp p), r.dlt (min (dgr W i) (dgr W j)) ∧ q = r * E) ∧ (∀ r : Pol (Zp p), r.dlt (min (dgr W i) (dgr W j)) → Dv (W j j) (r * E) → r = 0) := by
 obtain ⟨i0, il⟩ := smF_ln tr h hi
 obtain ⟨j0, jl⟩ := smF_ln tr h hj
 by_cases hji : j ≤ i
 ·have hd := h.2.2.2.2 j i hji hi
  have hle := hd.len tr i0 jl il
  refine ⟨1, by rw [mul_one]; exact hd, fun q hq _ => ⟨q, by rw [Nat.min_eq_right (by omega)]; exact hq, (mul_one q).symm⟩, fun r hr h1 => ?_⟩
  rw [mul_one] at h1
  rw [Nat.min_eq_right (by omega)] at hr
  exact dv_small tr jl hr h1
 ·have hd := h.2.2.2.2 i j (by omega) hj
  have hle := hd.len tr j0 il jl
  obtain ⟨E, hE⟩ := hd
  have hE0 : E ≠ 0 := fun e => j0 (by rw [hE, e, mul_zero])
  have hmin : min (dgr W i) (dgr W j) = dgr W i := Nat.min_eq_left (by omega)
  refine ⟨E, by rw [← hE]; exact Dv.refl _, fun q hq h1 => ?_, fun r hr h1 => ?_⟩
  ·obtain ⟨c, hc⟩ := h1
   have e1 : q = E * c := mul_cancel tr i0 (by rw [hc, hE, mul_assoc])
   refine ⟨c, ?_, by rw [e1, mul_comm]⟩
   rw [hmin]
   by_cases c0 : c = 0
   ·rw [c0]; exact dlt_zero _
   ·obtain ⟨b, hb⟩ := Ln.exists c
    obtain ⟨b', rfl⟩ := hb.pos c0
    obtain ⟨e, he⟩ := Ln.exists E
    obtain ⟨e', rfl⟩ := he.pos hE0
    have l1 := (he.mul tr hb).le (by rw [← e1]; exact hq)
    have l2 := (il.mul tr he).unique (by rw [← hE]; exact jl)
    exact dlt_mono hb.1 (by omega)
  ·rw [hmin] at hr
   obtain ⟨c, hc⟩ := h1
   have e1 : r = W i i * c := mul_cancel tr hE0 (by rw [mul_comm E r, hc, hE, mul_comm (W i i) E, mul_assoc])
   exact dv_small tr il hr ⟨c, e1⟩
end
end Go.Proofs.Ytkmfhabgempjiaa
/- fmat.Kernel. -/
namespace Go.Proofs.Ytkmfhabgempjiaa
set_option maxHeartbeats 4000000
open Go.RowKit
section
open CR
variable {p n C : Nat} {W W0 W1 : Nat → Nat → Zp p} {P : List Nat} {d : Zp p}
theorem RedF.start_congr (h : RedF n C C W0 W P d) (hn : n ≤ C) (e : ∀ i k, i < n → k < C → W0 i k = W1 i k) : RedF n C C W1 W P d := by
 obtain ⟨col, hc, hI, he⟩ := h.cols
 refine ⟨col, hc, ⟨?_, ?_, hI.len, hI.lt, hI.inc, hI.unit, hI.low, hI.left⟩, he⟩
 ·obtain ⟨T, T', hT, h1⟩ := hI.rq
  exact ⟨T, T', hT, by rw [h1, MT.of_congr e]⟩
 ·rw [← hI.det]; exact (dn_congr n fun i k hi hk => e i k hi (by omega)).symm
theorem idx_of {i : Nat} {R : Int} {β : Nat → Bool} (hi : Incr P C) (hβ : β = fun j => decide (P.getD j 0 = i)) (hR : IxR β P.length R) : (∃ j : Nat, R = j ∧ j < P.length ∧ i ∈ P ∧ P.idxOf i = j) ∨ (R = -1 ∧ i ∉ P) := by
 rcases hR with ⟨j, e, hj, h1, h2⟩ | ⟨e, h⟩
 ·left
  rw [hβ] at h1
  have hg : P.getD j 0 = i := by simpa using h1
  refine ⟨j, e, hj, by rw [← hg]; exact getD_mem hj, ?_⟩
  have := hi.idx hj
  rwa [hg] at this
 ·right
  refine ⟨e, fun hm => ?_⟩
  obtain ⟨t, ht, e2⟩ := mem_getD hm
  have h9 := h t ht
  rw [hβ] at h9
  have h8 : decide (P.getD t 0 = i) = false := h9
  rw [decide_eq_true e2] at h8
  cases h8
end
theorem sl_Contains (v : Value) (P : List Nat) (x : Nat) (w : World) (hv : Sl .i64 w v P) (hm : P.length ≤ 1000000) (C : Nat) (hi : Incr P C) (b : Bool) (hb : b = decide (x ∈ P)) :
  Calls Try.prog 106 #[v, .int .i64 x] w (fun e w' => e = .returned (.bool b) ∧ w = w') := by
 obtain ⟨R, hR⟩ := IxR.ex (fun j => decide (P.getD j 0 = x)) P.length
 have hix := Lib.hid (ix_int v P x w hv hm _ rfl R hR)
 rcases idx_of hi rfl hR with ⟨j, rfl, hj, hmem, -⟩ | ⟨rfl, hmem⟩
 ·obtain rfl : b = true := by rw [hb]; exact decide_eq_true hmem
  have t1 : decide ((0 : Int) ≤ (j : Int)) = true := by simp
  clear hb hR hi hv
  go_enter Try.func106, Try.ntmps106
  go_wp2_with fail
  refine hix.out.mono ?_; rintro e w' ⟨rfl, rfl⟩
  clear hix
  go_wp2
  go_ret
  exact ⟨rfl, rfl⟩
 ·obtain rfl : b = false := by rw [hb]; exact decide_eq_false hmem
  clear hb hR hi hv
  go_enter Try.func106, Try.ntmps106
  go_wp2_with fail
  refine hix.out.mono ?_; rintro e w' ⟨rfl, rfl⟩
  clear hix
  go_wp2
  go_ret
  exact ⟨rfl, rfl⟩
set_option maxRecDepth 20000 in
theorem kernel1 (p n C i k base gP gW gF gL fl cl : Nat) (al : Option Addr) (rv pv : Value) (vs : List Value) (W : Nat → Nat → Zp p) (P : List Nat) (d : Zp p) (w : World) (hp : FP p) (hi : Incr P C) (hP : P.length ≤ n) (hn : n ≤ 64) (hC : C ≤ 64) (hfl : fl = (free C P).length) (hk : k < fl)
  (KP : Blk 132 w gP [.pointer (some ⟨gW, 0, none⟩)]) (hW : Wk p w base gW n C W P d rv pv vs) (KF : Blk 29 w gF [.int .u64 p]) (KL : Blk 112 w gL [.slice al fl cl]) (hL : Sl .i64 w (.slice al fl cl) (free C P)) :
  Calls Try.prog 108 #[.int .i64 i, .int .i64 k, .pointer (some ⟨gP, 0, none⟩), .pointer (some ⟨gF, 0, none⟩), .pointer (some ⟨gL, 0, none⟩)] w (RetW w (.int .u64 ((kerM W C P i k).val : Nat))) := by
 obtain ⟨pa, pc, rfl⟩ := hW.piv.sliced
 have hps := hW.piv.sl
 obtain ⟨R, hR⟩ := IxR.ex (fun j => decide (P.getD j 0 = i)) P.length
 have hix := Lib.hid (ix_int _ P i w hps (by omega) _ rfl R hR)
 have q0 : w.cell? ⟨gP, 0, none⟩ = some (.pointer (some ⟨gW, 0, none⟩)) := KP.cell 0
 have q1 : w.cell? ⟨gW, 2, none⟩ = some (.slice pa P.length pc) := hW.blk.cell 2
 have s0 := idx_of hi rfl hR
 have hlP := KP.lt; have hlW := hW.blk.lt; have hlF := KF.lt; have hlL := KL.lt
 obtain ⟨al', bl, ol, cl', eL, hcl, hcs⟩ := hL
 simp only [Value.slice.injEq] at eL
 obtain ⟨rfl, -, rfl⟩ := eL
 obtain rfl := hcs.ao (by intro h; rw [h] at hfl; simp at hfl; omega)
 obtain ⟨f, ef⟩ : ∃ f, f = (free C P).getD k 0 := ⟨_, rfl⟩
 have qf : w.cell? ⟨bl, ol + k, none⟩ = some (.int .i64 (f : Nat)) := by rw [ef]; exact hcs.cell k (by omega)
 have hfC : f < C := by rw [ef]; exact (free_incr C P).1 k (by omega)
 have hlb : bl < w.heap.size := hcs.lt (by intro h; rw [h] at hfl; simp at hfl; omega)
 have q5 : w.cell? ⟨gL, 0, none⟩ = some (.slice (some ⟨bl, ol, none⟩) fl cl) := KL.cell 0
 have q6 : w.cell? ⟨gF, 0, none⟩ = some (.int .u64 p) := KF.cell 0
 rcases s0 with ⟨j, rfl, hj, hmem, hidx⟩ | ⟨rfl, hmem⟩
 ·have hjn : j < n := by omega
  have t1 : decide ((0 : Int) ≤ (j : Int)) = true := by simp
  obtain ⟨ao, cap0, rfl⟩ : ∃ ao cap, rv = .slice ao n cap := by
   rcases hW.rows.shape with ⟨rfl, h0⟩ | ⟨g, cg, e, -⟩
   ·omega
   ·exact ⟨_, _, e⟩
  obtain ⟨g, cg, b, o, cap, e1, hcg, hlg, qh, hcap, hlb2, qr⟩ := hW.rows.atR hjn (by omega)
  simp only [Value.slice.injEq] at e1
  obtain ⟨rfl, -, rfl⟩ := e1
  have q2 : w.cell? ⟨gW, 1, none⟩ = some (.slice (some ⟨g, 0, none⟩) n cap0) := hW.blk.cell 1
  have q4 : w.cell? ⟨b, o + f, none⟩ = some (.int .u64 ((W j f).val : Nat)) := qr f hfC
  obtain ⟨x, ex⟩ : ∃ x, x = (W j f).val := ⟨_, rfl⟩
  rw [← ex] at q4
  obtain ⟨y, ey⟩ : ∃ y, y = (kerM W C P i k).val := ⟨_, rfl⟩
  have hy : y = (-Zp.of p x).val := by rw [ey]; unfold kerM; rw [if_pos hmem, hidx, ← ef, ex, Zp.of_val]
  rw [← ey]
  have HY := Lib.hid hy; have HP := Lib.hid hp
  clear hfl ef ex ey hy hp qr hR hps hW KP KF KL hi hP hmem hidx hcs
  go_enter Try.func108, Try.ntmps108
  go_wp2_with fail
  refine hix.out.mono ?_; rintro e w' ⟨rfl, rfl⟩
  clear q1 hix
  go_upto_region 3 with (fail)
  have bd := dw w
  replace q0 := (bd.cell (p := ⟨gP, 0, none⟩) hlP).trans q0
  replace q2 := (bd.cell (p := ⟨gW, 1, none⟩) hlW).trans q2
  replace q5 := (bd.cell (p := ⟨gL, 0, none⟩) hlL).trans q5
  replace q6 := (bd.cell (p := ⟨gF, 0, none⟩) hlF).trans q6
  replace qh := (bd.cell (p := ⟨g, j, none⟩) hlg).trans qh
  replace q4 := (bd.cell (p := ⟨b, o + f, none⟩) hlb2).trans q4
  replace qf := (bd.cell (p := ⟨bl, ol + k, none⟩) hlb).trans qf
  replace hlP : gP < w.drew.heap.size := hlP
  replace hlW : gW < w.drew.heap.size := hlW
  replace hlL : gL < w.drew.heap.size := hlL
  replace hlF : gF < w.drew.heap.size := hlF
  replace hlg : g < w.drew.heap.size := hlg
  replace hlb2 : b < w.drew.heap.size := hlb2
  replace hlb : bl < w.drew.heap.size := hlb
  refine startL (S := (fun w' => Below (w.drew).heap.size (w.drew) w')) (by kernel_rfl) (Below.refl _ _) (fun hHeld => ?_)
  refine tg 0 rfl (fun w hS => by have f1 := (hS.cell (p := ⟨gP, 0, none⟩) hlP).trans q0; have f2 := (hS.cell (p := ⟨gW, 1, none⟩) hlW).trans q2; have f3 := (hS.cell (p := ⟨gL, 0, none⟩) hlL).trans q5; have f4 := (hS.cell (p := ⟨gF, 0, none⟩) hlF).trans q6; have f5 := (hS.cell (p := ⟨g, j, none⟩) hlg).trans qh; have f6 := (hS.cell (p := ⟨b, o + f, none⟩) hlb2).trans q4; have f7 := (hS.cell (p := ⟨bl, ol + k, none⟩) hlb).trans qf; go_simp <;> with_reducible rfl) ?_
  refine tg 1 rfl (fun w hS => by have f1 := (hS.cell (p := ⟨gP, 0, none⟩) hlP).trans q0; have f2 := (hS.cell (p := ⟨gW, 1, none⟩) hlW).trans q2; have f3 := (hS.cell (p := ⟨gL, 0, none⟩) hlL).trans q5; have f4 := (hS.cell (p := ⟨gF, 0, none⟩) hlF).trans q6; have f5 := (hS.cell (p := ⟨g, j, none⟩) hlg).trans qh; have f6 := (hS.cell (p := ⟨b, o + f, none⟩) hlb2).trans q4; have f7 := (hS.cell (p := ⟨bl, ol + k, none⟩) hlb).trans qf; go_simp <;> with_reducible rfl) ?_
  refine tk 2 ?_
  refine tk 3 ?_
  refine tg 4 rfl (fun w hS => by have f1 := (hS.cell (p := ⟨gP, 0, none⟩) hlP).trans q0; have f2 := (hS.cell (p := ⟨gW, 1, none⟩) hlW).trans q2; have f3 := (hS.cell (p := ⟨gL, 0, none⟩) hlL).trans q5; have f4 := (hS.cell (p := ⟨gF, 0, none⟩) hlF).trans q6; have f5 := (hS.cell (p := ⟨g, j, none⟩) hlg).trans qh; have f6 := (hS.cell (p := ⟨b, o + f, none⟩) hlb2).trans q4; have f7 := (hS.cell (p := ⟨bl, ol + k, none⟩) hlb).trans qf; go_simp <;> with_reducible rfl) ?_
  refine tk 5 ?_
  refine tk 6 ?_
  refine tg 7 rfl (fun w hS => by have f1 := (hS.cell (p := ⟨gP, 0, none⟩) hlP).trans q0; have f2 := (hS.cell (p := ⟨gW, 1, none⟩) hlW).trans q2; have f3 := (hS.cell (p := ⟨gL, 0, none⟩) hlL).trans q5; have f4 := (hS.cell (p := ⟨gF, 0, none⟩) hlF).trans q6; have f5 := (hS.cell (p := ⟨g, j, none⟩) hlg).trans qh; have f6 := (hS.cell (p := ⟨b, o + f, none⟩) hlb2).trans q4; have f7 := (hS.cell (p := ⟨bl, ol + k, none⟩) hlb).trans qf; go_simp <;> with_reducible rfl) ?_
  refine tg 8 rfl (fun w hS => by have f1 := (hS.cell (p := ⟨gP, 0, none⟩) hlP).trans q0; have f2 := (hS.cell (p := ⟨gW, 1, none⟩) hlW).trans q2; have f3 := (hS.cell (p := ⟨gL, 0, none⟩) hlL).trans q5; have f4 := (hS.cell (p := ⟨gF, 0, none⟩) hlF).trans q6; have f5 := (hS.cell (p := ⟨g, j, none⟩) hlg).trans qh; have f6 := (hS.cell (p := ⟨b, o + f, none⟩) hlb2).trans q4; have f7 := (hS.cell (p := ⟨bl, ol + k, none⟩) hlb).trans qf; go_simp <;> with_reducible rfl) ?_
  refine tk 9 ?_
  refine tk 10 ?_
  refine tg 11 rfl (fun w hS => by have f1 := (hS.cell (p := ⟨gP, 0, none⟩) hlP).trans q0; have f2 := (hS.cell (p := ⟨gW, 1, none⟩) hlW).trans q2; have f3 := (hS.cell (p := ⟨gL, 0, none⟩) hlL).trans q5; have f4 := (hS.cell (p := ⟨gF, 0, none⟩) hlF).trans q6; have f5 := (hS.cell (p := ⟨g, j, none⟩) hlg).trans qh; have f6 := (hS.cell (p := ⟨b, o + f, none⟩) hlb2).trans q4; have f7 := (hS.cell (p := ⟨bl, ol + k, none⟩) hlb).trans qf; go_simp <;> with_reducible rfl) ?_
  refine tk 12 ?_
  refine tg 13 rfl (fun w hS => by have f1 := (hS.cell (p := ⟨gP, 0, none⟩) hlP).trans q0; have f2 := (hS.cell (p := ⟨gW, 1, none⟩) hlW).trans q2; have f3 := (hS.cell (p := ⟨gL, 0, none⟩) hlL).trans q5; have f4 := (hS.cell (p := ⟨gF, 0, none⟩) hlF).trans q6; have f5 := (hS.cell (p := ⟨g, j, none⟩) hlg).trans qh; have f6 := (hS.cell (p := ⟨b, o + f, none⟩) hlb2).trans q4; have f7 := (hS.cell (p := ⟨bl, ol + k, none⟩) hlb).trans qf; go_simp <;> with_reducible rfl) ?_
  refine on 14 fun K hK => ?_
  go_simp
  go_at_call 110
  (with_reducible refine (gfp_Neg p x y _ HP.out HY.out).mono ?_); rintro e w9 ⟨rfl, b9⟩
  refine hK.out _ _ (hHeld.trans (b9.mono hHeld.size)) (fun hHeld => ?_)
  clear hK K
  try simp only [Act.put, zq1, zq2, zq3]
  refine tk 15 ?_
  refine doneL (by kernel_rfl) ?_ _
  have BF := bd.trans (hHeld.mono bd.size)
  clear hHeld q0 q2 q5 q6 qh q4 qf
  go_wp2
  go_ret
  exact ⟨rfl, BF⟩
 ·have hy : (kerM W C P i k).val = if i = f then 1 else 0 := by
   unfold kerM; rw [if_neg hmem, ← ef]
   have hp2 := hp.1
   by_cases e : i = f
   ·rw [if_pos e, if_pos e, ← Zp.of_one, Zp.val_of, Nat.mod_eq_of_lt (by omega)]
   ·rw [if_neg e, if_neg e, Zp.zero_val]
  rw [hy]
  obtain ⟨y, ey⟩ : ∃ y : Nat, y = if i = f then 1 else 0 := ⟨_, rfl⟩
  rw [← ey]
  have H1 := Lib.hid (show ∀ w' : World, Calls Try.prog 111 #[.int .i64 i, .int .i64 f] w' (RetW w' (.int .u64 (y : Nat))) from fun w' => by rw [ey]; exact fm_one i f w')
  clear ey hfl hy ef hR hps hW KP KF KL hi hP hmem hcs q6
  go_enter Try.func108, Try.ntmps108
  go_wp2_with fail
  refine hix.out.mono ?_; rintro e w' ⟨rfl, rfl⟩
  clear q1 q0 hix
  go_wp2_with fail
  refine (H1.out _).mono ?_; rintro e w2 ⟨rfl, b2⟩
  clear q5 qf
  go_wp2
  go_ret
  exact ⟨rfl, b2⟩
def RetKr (p : Nat) (w : World) (n C : Nat) (A : MT (Zp p) n C) (e : Ending) (w' : World) : Prop :=
 ∃ (W : Nat → Nat → Zp p) (P : List Nat) (d : Zp p) (M : MT (Zp p) C (free C P).length), RedF n C C A.e W P d ∧ RetFE p w C (free C P).length M e w'
def KrR (P : List Nat) (w5 wr : World) (k : Nat) : Prop := ∃ ao c, Blk 112 wr w5.heap.size [.slice ao (free k P).length c] ∧ Own .i64 3 wr (w5.heap.size + 1) (.slice ao (free k P).length c) (free k P) ∧ Below w5.heap.size w5 wr
set_option maxRecDepth 20000 in
theorem fm_Kernel (p : Nat) (a : Value) (n C : Nat) (xs : List Nat) (w : World) (hp : FP p) (ht : Trial p) (hA : Fm w a n C xs) (hn : n ≤ 64) (hC : C ≤ 64) (hnC : n ≤ C) (hx : xs.length = n * C) :
  Calls Try.prog 55 #[.agg #[.int .u64 p], a] w (RetKr p w n C (mx p n C xs)) := by
 obtain ⟨aA, cA, rfl⟩ := hA.agg
 obtain ⟨wb, ew, KF, KA, KR, B0, hsz⟩ := boxes3 w 29 63 63 [.int .u64 p] [.int .i64 n, .int .i64 C, .slice aA xs.length cA] [.int .i64 0, .int .i64 0, .slice none 0 0]
 clear hsz
 have HP := Lib.hid hp; have HT := Lib.hid ht; clear hp ht
 replace hA := hA.next B0
 have HX := Lib.hid hx; clear hx
 obtain ⟨A, eA⟩ : ∃ A, A = mx p n C xs := ⟨_, rfl⟩
 rw [← eA]
 have EA := Lib.hid eA; clear eA
 go_enter Try.func55, Try.ntmps55
 go_upto_region 1 with (fail)
 rw [← ew]
 obtain ⟨g, eg⟩ : ∃ g, g = w.heap.size := ⟨_, rfl⟩
 rw [← eg] at KF KA KR ⊢
 have hgw : w.heap.size ≤ g := by omega
 clear ew eg
 have f1 := KA.cell 0; have f2 := KA.cell 1; have f3 := KA.cell 2
 go_wp2_with fail
 refine (fm_Formed_yes _ n C xs _ hA (Fd.of hn hC HX.out)).mono ?_; rintro e w2 ⟨rfl, b2⟩
 clear f1 f2 f3
 replace hA := hA.next b2; replace KF := KF.next b2; replace KA := KA.next b2; replace KR := KR.next b2
 replace B0 := B0.trans (b2.mono B0.size)
 clear b2
 have f0 := KF.cell 0; have f1 := KA.cell 0; have f2 := KA.cell 1; have f3 := KA.cell 2
 have hB : Fm w2 (.agg #[.int .i64 n, .int .i64 ((0 : Nat) : Int), .slice none 0 0]) n ((0 : Nat) : Int) [] := ⟨_, rfl, Sl.nil _ _⟩
 go_wp2_with fail
 refine (fw_reduced p _ _ n C 0 xs [] _ HP.out HT.out hA hB hn hC (by omega) HX.out (by simp)).mono ?_; rintro e w4 ⟨gW, W, P, d, rv, pv, vs, rfl, hW, hr, b4⟩
 clear f0 f1 f2 f3 hB
 have hr2 : RedF n C C A.e W P d := by
  rw [EA.out]
  exact RedF.start_congr hr hnC fun i k _ hk => beside_l hk
 have HR := Lib.hid hr2; clear hr hr2
 have hPn := HR.out.len
 replace hW : Wk p w4 w2.heap.size gW n C W P d rv pv vs := hW
 replace KF := KF.next b4; replace KA := KA.next b4; replace KR := KR.next b4
 replace B0 := B0.trans (b4.mono B0.size)
 clear hA b4
 obtain ⟨w5, ew5, KP, b5, -⟩ := boxes1 w4 132 [.pointer (some ⟨gW, 0, none⟩)]
 replace hW := hW.next b5; replace KF := KF.next b5; replace KA := KA.next b5; replace KR := KR.next b5
 replace B0 := B0.trans (b5.mono B0.size)
 clear b5
 go_upto_region 4 with (fail)
 rw [← ew5]
 obtain ⟨gP, egP⟩ : ∃ g, g = w4.heap.size := ⟨_, rfl⟩
 rw [← egP] at KP ⊢
 clear ew5 egP
 obtain ⟨pa, pc, rfl⟩ := hW.piv.sliced
 obtain ⟨w6, ew6, KL, b6, -⟩ := boxes1 w5 112 [.slice none 0 0]
 have st : KrR P w5 w6 0 := ⟨none, 0, KL, Own.nil _ _ _ _, b6⟩
 have HKF := Lib.hid KF; have HKA := Lib.hid KA; have HKR := Lib.hid KR; have HKP := Lib.hid KP; have HKW := Lib.hid hW; have HB0 := Lib.hid B0
 have hgb : g + 1 + 1 < w5.heap.size := KR.lt
 clear KL KF KR KP hW B0
 have c1 := (KA.next b6).cell 1
 clear KA b6
 go_upto_region 5 with (fail)
 rw [← ew6]
 clear ew6
 go_wp2
 clear c1
 go_loopw [21] (fun kv wr => ∃ k : Nat, k ≤ C ∧ kv = .int .i64 k ∧ KrR P w5 wr k) (fun kv _ => C - (intOf kv).toNat)
 case atStart => exact ⟨0, by omega, rfl, st⟩
 case round =>
  clear st
  obtain ⟨k, hk, rfl, ao, c, KL, ho, B1⟩ := hrel
  by_cases hkC : k < C
  ·have hW := HKW.out.next B1
   have q0 := (HKP.out.next B1).cell 0
   have q1 := hW.blk.cell 2
   obtain ⟨β, eβ⟩ : ∃ β, β = decide (k ∈ P) := ⟨_, rfl⟩
   have EB := Lib.hid eβ; clear eβ
   have hcon := Lib.hid (sl_Contains _ P k wr hW.piv.sl (by omega) C HR.out.incr β EB.out)
   clear hW
   go_wp2_with fail
   refine hcon.out.mono ?_; rintro e w' ⟨rfl, rfl⟩
   clear q0 q1 hcon
   cases β with
   | true =>
    have hf : free (k + 1) P = free k P := by rw [free_succ, if_pos (of_decide_eq_true EB.out.symm), List.append_nil]
    have FIN := Lib.hid (show KrR P w5 wr (k + 1) from ⟨ao, c, by rw [hf]; exact KL, by rw [hf]; exact ho, B1⟩)
    clear KL ho B1 hf
    go_wp2
    go_roundw
    case rel => exact ⟨k + 1, by omega, by go_num, FIN.out⟩
    case measure => simp [intOf] <;> omega
   | false =>
    have hf : free (k + 1) P = free k P ++ [k] := by rw [free_succ, if_neg (of_decide_eq_false EB.out.symm)]
    have HF := Lib.hid hf; clear hf
    have l0 := KL.cell 0; have l1 := KL.free 0
    have hlt := KL.lt
    have hfl := (free_incr k P).len
    obtain ⟨fl, efl⟩ : ∃ fl, fl = free k P := ⟨_, rfl⟩
    rw [← efl] at l0 KL ho HF hfl
    clear efl
    go_upto_region 10 with (at_builtin; refine wp_app1 .i64 112 3 8 Try.underlying112 (by kernel_rfl) (by decide) rfl _ _ rfl wr (w5.heap.size + 1) (.slice ao fl.length c) fl k _ (by rfl) ho (by omega) (by omega) rfl rfl ?_; intro v' w7 ho7 hb7 hg7 _; obtain ⟨a7, c7, rfl⟩ := ho7.sliced; have KL7 := KL.below hb7 (Nat.lt_succ_self _); have y0 := KL7.cell 0; have y1 := KL7.free 0)
    obtain ⟨wt, ewt⟩ : ∃ wt, wt = w7.setCell ⟨w5.heap.size, 0, none⟩ (.slice a7 (fl.length + 1) c7) := ⟨_, rfl⟩
    have hl9 : (fl ++ [k]).length = fl.length + 1 := by simp
    rw [hl9] at ho7
    have FIN := Lib.hid (show KrR P w5 wt (k + 1) from by
     rw [ewt]
     refine ⟨a7, c7, ?_, ?_, (B1.trans (hb7.mono (Nat.le_succ _))).setCell (p := ⟨w5.heap.size, 0, none⟩) (Nat.le_refl _) _⟩
     ·rw [HF.out, hl9]; exact KL7.set 0 _
     ·rw [HF.out, hl9]; exact ho7.low (a := ⟨w5.heap.size, 0, none⟩) (Nat.lt_succ_self _) _)
    rw [← ewt]
    clear ewt KL7 y0 y1 ho7 hb7 hg7 KL ho B1 l0 l1 hlt hl9
    go_wp2
    go_roundw
    case rel => exact ⟨k + 1, by omega, by go_num, FIN.out⟩
    case measure => simp [intOf] <;> omega
  ·obtain rfl : C = k := by omega
   have KF := HKF.out.next B1; have KA := HKA.out.next B1; have KP := HKP.out.next B1; have hW := HKW.out.next B1; have KR := HKR.out.next B1
   have q0 := KF.cell 0; have q1 := KA.cell 1; have q2 := KL.cell 0
   have hfl := (free_incr C P).len
   have hL := ho.sl
   have B2 := HB0.out.trans (B1.mono HB0.out.size)
   have hgr : g + 1 + 1 < wr.heap.size := KR.lt
   clear B1
   go_wp2_with fail
   refine (fm_made p C (free C P).length HP.out (by omega) (by omega) 108 (enters_of Try.func108 rfl rfl) [.pointer (some ⟨gP, 0, none⟩), .pointer (some ⟨g, 0, none⟩), .pointer (some ⟨w5.heap.size, 0, none⟩)] (fun i k => (kerM W C P i k).val) _ (fun i k w' _ hk hb =>
    kernel1 p n C i k _ gP gW g w5.heap.size _ _ _ rv _ vs W P d w' HP.out HR.out.incr hPn hn hC rfl hk (KP.next hb) (hW.next hb) (KF.next hb) (KL.next hb) (hL.next hb))).mono ?_; rintro e w7 ⟨a7, k7, rfl, o7, b7⟩
   clear q0 q1 q2
   obtain ⟨M, eM⟩ : ∃ M, M = MT.of C (free C P).length fun i k => Zp.of p (kerM W C P i k).val := ⟨_, rfl⟩
   rw [← eM] at o7 ⊢
   clear eM
   have hw7 := B2.size
   replace KR := KR.next b7
   have hgy : w.heap.size ≤ g + 1 + 1 := by omega
   replace B2 := B2.trans (b7.mono B2.size)
   clear b7 KF KA KP hW KL ho hL
   obtain ⟨N, eN⟩ : ∃ N, N = (free C P).length := ⟨_, rfl⟩
   have f0 := KR.free 0; have f1 := KR.free 1; have f2 := KR.free 2
   have c0 := KR.cell 0; have c1 := KR.cell 1; have c2 := KR.cell 2
   have KF2 := ((KR.set 0 (.int .i64 C)).set 1 (.int .i64 (free C P).length)).set 2 (.slice a7 (tbv M).length k7)
   have d0 := KF2.cell 0; have d1 := KF2.cell 1; have d2 := KF2.cell 2
   have of := ((o7.low (a := ⟨g + 1 + 1, 0, none⟩) hgr (.int .i64 C)).low (a := ⟨g + 1 + 1, 1, none⟩) hgr (.int .i64 (free C P).length)).low (a := ⟨g + 1 + 1, 2, none⟩) hgr (.slice a7 (tbv M).length k7)
   have BF := ((B2.setCell (p := ⟨g + 1 + 1, 0, none⟩) hgy (.int .i64 C)).setCell (p := ⟨g + 1 + 1, 1, none⟩) hgy (.int .i64 (free C P).length)).setCell (p := ⟨g + 1 + 1, 2, none⟩) hgy (.slice a7 (tbv M).length k7)
   have FR := Lib.hid (show RetKr p w n C A (.returned (.tuple #[.agg #[.int .i64 C, .int .i64 (free C P).length, .slice a7 (tbv M).length k7], .int .i64 0])) (((w7.setCell ⟨g + 1 + 1, 0, none⟩ (.int .i64 C)).setCell ⟨g + 1 + 1, 1, none⟩ (.int .i64 (free C P).length)).setCell ⟨g + 1 + 1, 2, none⟩ (.slice a7 (tbv M).length k7)) from ⟨W, P, d, M, HR.out, _, _, rfl, of.mono hw7, BF⟩)
   clear KF2 KR of BF B2 o7 eN
   go_wp2
   exact bodyPost_ret (v := .tuple #[.agg #[.int .i64 C, .int .i64 (free C P).length, .slice a7 (tbv M).length k7], .int .i64 0]) (by simp [results, Try.results55, go_sem, d0, d1, d2]) rfl FR.out
end Go.Proofs.Ytkmfhabgempjiaa
