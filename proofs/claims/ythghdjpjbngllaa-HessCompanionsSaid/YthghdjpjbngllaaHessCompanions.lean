/- HessCompanions: for every number and polynomial the law returns true: a monic polynomial is the characteristic and the minimal polynomial of its companion, others have none. No condition. -/
import Derived.Test.YthghdjpjbngllaaRows
import Derived.Test.YthghdjpjbngllaaHz
import Derived.Test.YthghdjpjbngllaaRfk
namespace Go.Proofs.Ythghdjpjbngllaa.hessCompanions
open Go.ChangeShapes Go.WideShapes Go.ChangeAt Go.RowKit
open Go.ChangeMaps (open_string shut_string)

theorem own : ownKnob Try.prog.godebug = none := by kernel_rfl
theorem laidOut : laidOutB Try.prog = true := by kernel_rfl

theorem at2 {n : Nat} (hn : n ≤ 4) : n * n ≤ 16 := Nat.mul_le_mul hn hn
section
variable {p n : Nat} {zs : List Nat}
theorem cmp_uv {t : Nat} (ht : t + 1 < n) : cmp p n zs * (uv n t : MT (Zp p) n 1) = uv n (t + 1) := MT.ext fun i k hi hk => by
  obtain rfl : k = 0 := by omega
  rw [mul_uv _ (by omega) i]
  unfold uv
  rw [MT.of_e _ hi hk]
  by_cases h : i = t + 1
  · rw [if_pos h, h, cmp_sub ht]
  · rw [if_neg h, cmp_nul hi ht (by omega)]
theorem cmp_pow : ∀ t, t < n → (cmp p n zs).pow t * (uv n 0 : MT (Zp p) n 1) = uv n t
  | 0, _ => MT.one_mul _
  | t + 1, h => by rw [MT.pow_succ, ← MT.pow_comm, MT.mul_assoc, cmp_pow t (by omega), cmp_uv h]
theorem cmp_ind {f : Pol (Zp p)} (hf : f.dlt n) (h0 : pev f (cmp p n zs) = 0) : f = 0 := Pol.ext fun i => by
  by_cases hi : i < n
  · have h1 : (pev f (cmp p n zs) * (uv n 0 : MT (Zp p) n 1)).e i 0 = f.c i := by
      rw [pev_col hf, ms_e, sm_one hi (fun j hj hne => ?_)]
      · rw [MT.e_sc, cmp_pow i hi]
        unfold uv
        rw [MT.of_e _ hi (by omega), if_pos rfl, CR.mul_one]
      · rw [MT.e_sc, cmp_pow j hj]
        unfold uv
        rw [MT.of_e _ hi (by omega), if_neg (fun e => hne e.symm), CR.mul_zero]
    rw [← h1, h0, MT.zero_mul]; rfl
  · rw [hf i (by omega)]; rfl
/-- A companion's minimal polynomial is the polynomial itself. -/
theorem cmp_min (hp : FP p) (ht : Trial p) (hz : Nrm p zs) (hl : zs.length = n + 1) (h1 : zs.getD n 0 = 1) {L : Pol (Zp p)} (h : MinTo (cmp p n zs) n L) : L = pl p zs := by
  have hC : Ln (pl p zs) (n + 1) := by rw [← hl]; exact nrm_ln hp.pos hz
  have hm : Mo (pl p zs) := (nrm_mo ht hz).2 (.inr (by rw [hl]; exact h1))
  have d1 : Dv L (pl p zs) := by rw [← chi_cmp hl h1]; exact h.dv_chi
  have hL0 : pev L (cmp p n zs) = 0 := (h.full L).1 (Dv.refl L)
  have hC0 : pev (pl p zs) (cmp p n zs) = 0 := (h.full _).1 d1
  obtain ⟨m, hm2⟩ := Ln.exists L
  obtain ⟨q, r, e, hr⟩ := pdiv_ex ht hC m L hm2.1
  have hr0 : r = 0 := by
    refine cmp_ind (zs := zs) hr ?_
    have h3 := hL0
    rw [e, pev_add, pev_mul, hC0, MT.mul_zero, MT.zero_add] at h3
    exact h3
  have d2 : Dv (pl p zs) L := ⟨q, by rw [e, hr0, CR.add_zero, CR.mul_comm]⟩
  exact Mo.unique ht h.mo hm d1 d2
theorem cmp_at (hp : FP p) {i k : Nat} (hi : i < n) (hk : k + 1 < n) (x : Nat) (hx : x = if i = k + 1 then 1 else 0) : x = (tbv (cmp p n zs)).getD (i * n + k) 0 % p := by
  rw [tbv_get _ hi (by omega), hx]
  by_cases h : i = k + 1
  · rw [if_pos h, h, cmp_sub hk, ← Zp.of_one, Zp.val_of, Nat.mod_eq_of_lt (show 1 < p - 1 + 1 by have := hp.1; omega), Nat.mod_eq_of_lt (show 1 < p by have := hp.1; omega)]
  · rw [if_neg h, cmp_nul hi hk (fun e => h e.symm), Zp.zero_val, Nat.zero_mod]
end

set_option maxRecDepth 20000 in
set_option maxHeartbeats 4000000 in
theorem long (x0 : Nat) (u : Value) (gs : List Nat) (w : World) (sq : Sl .u64 w u gs) (hg : ¬ gs.length ≤ 5) :
    Calls Try.prog 12 #[.int .u8 x0, u] w (LawOk w) := by
  obtain ⟨aq, bq, oq, cq, rfl, hcq, kq⟩ := sq
  have sq : Sl .u64 w (.slice aq gs.length cq) gs := ⟨aq, bq, oq, cq, rfl, hcq, kq⟩
  clear kq hcq
  have B0 := Below.refl w.heap.size w
  have hg5 : (5 : Int) < (gs.length : Int) := by omega
  clear hg
  go_enter Try.func12, Try.ntmps12
  go_upto_region 1 with (fail)
  go_wp2_with fail
  refine (law22_awake _).mono ?_; rintro e w1 ⟨rfl, b1⟩
  replace sq := sq.next b1
  replace B0 := B0.trans (b1.mono B0.size)
  clear b1
  go_wp2_with fail
  refine (law22_awake _).mono ?_; rintro e w2 ⟨rfl, b2⟩
  replace sq := sq.next b2
  replace B0 := B0.trans (b2.mono B0.size)
  clear b2
  go_wp2
  go_ret
  exact ⟨rfl, B0⟩

set_option maxRecDepth 20000 in
set_option maxHeartbeats 4000000 in
theorem bad0 (x0 : Nat) (u : Value) (p0 : Nat) (gs : List Nat) (w : World) (sq : Sl .u64 w u gs) (hg : gs.length ≤ 5) (hz : [] = nl p0 gs) (hp0 : p0 = Ps (x0 % 12)) :
    Calls Try.prog 12 #[.int .u8 x0, u] w (LawOk w) := by
  obtain ⟨p, ep⟩ : ∃ p, p = Ps (x0 % 12) := ⟨_, rfl⟩
  have hp : FP p := by rw [ep]; exact Ps_FP (by omega)
  have ht : Trial p := by rw [ep]; exact Ps_trial (by omega)
  have cOf : ∀ w : World, Calls Try.prog 17 #[.int .u8 x0] w fun e w' => e = .returned (.agg #[.int .u64 (p : Nat)]) ∧ Below w.heap.size w w' := fun w => by rw [ep]; exact law9_Of x0 w
  have cP : ∀ w : World, Calls Try.prog 18 #[.int .u8 x0] w fun e w' => e = .returned (.int .u64 (p : Nat)) ∧ w = w' := fun w => by rw [ep]; exact ref8_P x0 w
  have hp2 := hp.1
  have hp3 := hp.2
  have EP := Lib.hid ep
  have HP := Lib.hid hp; have HT := Lib.hid ht; have COF := Lib.hid cOf; have CP := Lib.hid cP
  clear hp ht cOf cP ep
  obtain ⟨aq, bq, oq, cq, rfl, hcq, kq⟩ := sq
  have sq : Sl .u64 w (.slice aq gs.length cq) gs := ⟨aq, bq, oq, cq, rfl, hcq, kq⟩
  clear kq hcq
  have B0 := Below.refl w.heap.size w
  have hg5 : ¬ (5 : Int) < (gs.length : Int) := by omega
  have HG := Lib.hid hg; clear hg
  obtain rfl : p = p0 := by rw [hp0, EP.out]
  have HZ := Lib.hid hz; clear hz hp0
  go_enter Try.func12, Try.ntmps12
  go_upto_region 1 with (fail)
  go_wp2_with fail
  refine (law22_awake _).mono ?_; rintro e w1 ⟨rfl, b1⟩
  replace sq := sq.next b1
  replace B0 := B0.trans (b1.mono B0.size)
  clear b1
  go_wp2_with fail
  refine (COF.out _).mono ?_; rintro e w2 ⟨rfl, b2⟩
  replace sq := sq.next b2
  replace B0 := B0.trans (b2.mono B0.size)
  clear b2
  go_wp2_with fail
  refine (CP.out _).mono ?_; rintro e wx ⟨rfl, rfl⟩
  obtain ⟨w3, e3, KF, b3, hs3⟩ := boxes1 w2 29 [.int .u64 p]
  clear hs3
  replace sq := sq.next b3
  replace B0 := B0.trans (b3.mono B0.size)
  clear b3
  go_upto_region 4 with (fail)
  rw [← e3]
  clear e3
  have qKF0 := KF.cell 0
  go_wp2_with fail
  refine (hs_Companion_no p _ gs [] _ HP.out sq (by have := HG.out; omega) HZ.out (.inl rfl)).mono ?_; rintro e w4 ⟨rfl, b4⟩
  clear qKF0
  replace sq := sq.next b4
  replace KF := KF.next b4
  replace B0 := B0.trans (b4.mono B0.size)
  clear b4
  obtain ⟨w5, e5, KM, b5, hs5⟩ := boxes1 w4 42 [.int .i64 0, .int .i64 0, .slice none 0 0]
  clear hs5
  replace sq := sq.next b5
  replace KF := KF.next b5
  replace B0 := B0.trans (b5.mono B0.size)
  clear b5
  go_upto_region 5 with (fail)
  rw [← e5]
  clear e5
  go_wp2_with fail
  refine (ref9_Norm p _ gs _ HP.out sq (by have := HG.out; omega)).mono ?_; rintro e w6 ⟨rz, z6, rfl, oZ, nZ, vZ, lZ, b6⟩
  replace sq := sq.next b6
  replace KF := KF.next b6
  replace KM := KM.next b6
  replace B0 := B0.trans (b6.mono B0.size)
  clear b6
  obtain rfl : z6 = [] := by rw [nl_is HP.out.pos nZ vZ]; exact HZ.out.symm
  obtain ⟨az, kz, rfl⟩ := oZ.sliced
  clear nZ vZ lZ
  go_upto_region 6 with (fail)
  clear oZ
  have qKM0 := KM.cell 0
  have qKM1 := KM.cell 1
  have qKM2 := KM.cell 2
  go_wp2_with fail
  refine (rf21_None none 0 _).mono ?_; rintro e w7 ⟨rfl, b7⟩
  clear qKM0 qKM1 qKM2
  replace sq := sq.next b7
  replace KF := KF.next b7
  replace KM := KM.next b7
  replace B0 := B0.trans (b7.mono B0.size)
  clear b7
  go_wp2
  go_ret
  exact ⟨rfl, B0⟩

set_option maxRecDepth 20000 in
set_option maxHeartbeats 4000000 in
theorem bad1 (x0 : Nat) (u : Value) (p0 : Nat) (zs : List Nat) (gs : List Nat) (w : World) (sq : Sl .u64 w u gs) (hg : gs.length ≤ 5) (hz : zs = nl p0 gs) (h0 : zs ≠ []) (h1 : zs.getD (zs.length - 1) 0 ≠ 1) (hp0 : p0 = Ps (x0 % 12)) :
    Calls Try.prog 12 #[.int .u8 x0, u] w (LawOk w) := by
  obtain ⟨p, ep⟩ : ∃ p, p = Ps (x0 % 12) := ⟨_, rfl⟩
  have hp : FP p := by rw [ep]; exact Ps_FP (by omega)
  have ht : Trial p := by rw [ep]; exact Ps_trial (by omega)
  have cOf : ∀ w : World, Calls Try.prog 17 #[.int .u8 x0] w fun e w' => e = .returned (.agg #[.int .u64 (p : Nat)]) ∧ Below w.heap.size w w' := fun w => by rw [ep]; exact law9_Of x0 w
  have cP : ∀ w : World, Calls Try.prog 18 #[.int .u8 x0] w fun e w' => e = .returned (.int .u64 (p : Nat)) ∧ w = w' := fun w => by rw [ep]; exact ref8_P x0 w
  have hp2 := hp.1
  have hp3 := hp.2
  have EP := Lib.hid ep
  have HP := Lib.hid hp; have HT := Lib.hid ht; have COF := Lib.hid cOf; have CP := Lib.hid cP
  clear hp ht cOf cP ep
  obtain ⟨aq, bq, oq, cq, rfl, hcq, kq⟩ := sq
  have sq : Sl .u64 w (.slice aq gs.length cq) gs := ⟨aq, bq, oq, cq, rfl, hcq, kq⟩
  clear kq hcq
  have B0 := Below.refl w.heap.size w
  have hg5 : ¬ (5 : Int) < (gs.length : Int) := by omega
  have HG := Lib.hid hg; clear hg
  obtain rfl : p = p0 := by rw [hp0, EP.out]
  have hlz : zs.length ≤ gs.length := by rw [hz]; exact nl_len _ _
  have HL := Lib.hid hlz
  have hz1 : ((zs.length : Int) == 0) = false := by have := List.length_pos_iff.2 h0; simp; omega
  have HNO := Lib.hid (show zs = [] ∨ zs.getD (zs.length - 1) 0 ≠ 1 from .inr h1)
  have HM := Lib.hid (decide_eq_false (show ¬ (zs = [] ∨ zs.getD (zs.length - 1) 0 = 1) from fun h => h.elim h0 h1)).symm
  have HZ := Lib.hid hz; clear hz h0 h1 hlz hp0
  go_enter Try.func12, Try.ntmps12
  go_upto_region 1 with (fail)
  go_wp2_with fail
  refine (law22_awake _).mono ?_; rintro e w1 ⟨rfl, b1⟩
  replace sq := sq.next b1
  replace B0 := B0.trans (b1.mono B0.size)
  clear b1
  go_wp2_with fail
  refine (COF.out _).mono ?_; rintro e w2 ⟨rfl, b2⟩
  replace sq := sq.next b2
  replace B0 := B0.trans (b2.mono B0.size)
  clear b2
  go_wp2_with fail
  refine (CP.out _).mono ?_; rintro e wx ⟨rfl, rfl⟩
  obtain ⟨w3, e3, KF, b3, hs3⟩ := boxes1 w2 29 [.int .u64 p]
  clear hs3
  replace sq := sq.next b3
  replace B0 := B0.trans (b3.mono B0.size)
  clear b3
  go_upto_region 4 with (fail)
  rw [← e3]
  clear e3
  have qKF0 := KF.cell 0
  go_wp2_with fail
  refine (hs_Companion_no p _ gs zs _ HP.out sq (by have := HG.out; omega) HZ.out HNO.out).mono ?_; rintro e w4 ⟨rfl, b4⟩
  clear qKF0
  replace sq := sq.next b4
  replace KF := KF.next b4
  replace B0 := B0.trans (b4.mono B0.size)
  clear b4
  obtain ⟨w5, e5, KM, b5, hs5⟩ := boxes1 w4 42 [.int .i64 0, .int .i64 0, .slice none 0 0]
  clear hs5
  replace sq := sq.next b5
  replace KF := KF.next b5
  replace B0 := B0.trans (b5.mono B0.size)
  clear b5
  go_upto_region 5 with (fail)
  rw [← e5]
  clear e5
  go_wp2_with fail
  refine (ref9_Norm p _ gs _ HP.out sq (by have := HG.out; omega)).mono ?_; rintro e w6 ⟨rz, z6, rfl, oZ, nZ, vZ, lZ, b6⟩
  replace sq := sq.next b6
  replace KF := KF.next b6
  replace KM := KM.next b6
  replace B0 := B0.trans (b6.mono B0.size)
  clear b6
  obtain rfl : zs = z6 := by rw [nl_is HP.out.pos nZ vZ]; exact HZ.out
  obtain ⟨az, kz, rfl⟩ := oZ.sliced
  clear nZ vZ lZ
  go_upto_region 6 with (fail)
  go_wp2_with fail
  refine (ref9_Monic _ zs false _ oZ.sl (by have := HL.out; omega) HM.out).mono ?_; rintro e wx ⟨rfl, rfl⟩
  clear oZ
  have qKM0 := KM.cell 0
  have qKM1 := KM.cell 1
  have qKM2 := KM.cell 2
  go_wp2_with fail
  refine (rf21_None none 0 _).mono ?_; rintro e w7 ⟨rfl, b7⟩
  clear qKM0 qKM1 qKM2
  replace sq := sq.next b7
  replace KF := KF.next b7
  replace KM := KM.next b7
  replace B0 := B0.trans (b7.mono B0.size)
  clear b7
  go_wp2
  go_ret
  exact ⟨rfl, B0⟩

set_option maxRecDepth 20000 in
set_option maxHeartbeats 4000000 in
theorem good (x0 : Nat) (u : Value) (p0 n : Nat) (zs : List Nat) (gs : List Nat) (w : World) (sq : Sl .u64 w u gs) (hg : gs.length ≤ 5) (hz : zs = nl p0 gs) (hn : zs.length = n + 1) (h1 : zs.getD n 0 = 1) (hp0 : p0 = Ps (x0 % 12)) :
    Calls Try.prog 12 #[.int .u8 x0, u] w (LawOk w) := by
  obtain ⟨p, ep⟩ : ∃ p, p = Ps (x0 % 12) := ⟨_, rfl⟩
  have hp : FP p := by rw [ep]; exact Ps_FP (by omega)
  have ht : Trial p := by rw [ep]; exact Ps_trial (by omega)
  have cOf : ∀ w : World, Calls Try.prog 17 #[.int .u8 x0] w fun e w' => e = .returned (.agg #[.int .u64 (p : Nat)]) ∧ Below w.heap.size w w' := fun w => by rw [ep]; exact law9_Of x0 w
  have cP : ∀ w : World, Calls Try.prog 18 #[.int .u8 x0] w fun e w' => e = .returned (.int .u64 (p : Nat)) ∧ w = w' := fun w => by rw [ep]; exact ref8_P x0 w
  have hp2 := hp.1
  have hp3 := hp.2
  have EP := Lib.hid ep
  have HP := Lib.hid hp; have HT := Lib.hid ht; have COF := Lib.hid cOf; have CP := Lib.hid cP
  clear hp ht cOf cP ep
  obtain ⟨aq, bq, oq, cq, rfl, hcq, kq⟩ := sq
  have sq : Sl .u64 w (.slice aq gs.length cq) gs := ⟨aq, bq, oq, cq, rfl, hcq, kq⟩
  clear kq hcq
  have B0 := Below.refl w.heap.size w
  obtain rfl : p = p0 := by rw [hp0, EP.out]
  have hlz : zs.length ≤ gs.length := by rw [hz]; exact nl_len _ _
  have hn4 : n ≤ 4 := by omega
  have nZs : Nrm p zs := by rw [hz]; exact nl_nrm HP.out.pos _
  have HN := Lib.hid nZs; clear nZs
  have hz1 : ((zs.length : Int) == 0) = false := by rw [hn]; simp; omega
  have hw1 : IntKind.i64.wrap ((zs.length : Int) - 1) = (n : Int) := by rw [hn, IntWalk.i64_in _ ⟨by omega, by omega⟩]; omega
  have hnn : ((n : Int) == (n : Int)) = true := by simp
  have HM := Lib.hid (decide_eq_true (show zs = [] ∨ zs.getD (zs.length - 1) 0 = 1 from .inr (by rw [hn]; exact h1))).symm
  have HL := Lib.hid hn
  have HC := Lib.hid (show chi (cmp p n zs) = pl p zs from chi_cmp hn h1)
  have HMI := Lib.hid (show ∀ L : Pol (Zp p), MinTo (cmp p n zs) n L → L = pl p zs from fun L => cmp_min HP.out HT.out HN.out hn h1)
  have HAT := Lib.hid (show ∀ i k : Nat, i < n → k + 1 < n → ∀ x : Nat, (x = if i = k + 1 then 1 else 0) → x = (tbv (cmp p n zs)).getD (i * n + k) 0 % p from fun i k hi hk x hx => cmp_at HP.out hi hk x hx)
  have HZ := Lib.hid hz; have H1 := Lib.hid h1; clear hz h1 hn hlz hp0
  have hg5 : ¬ (5 : Int) < (gs.length : Int) := by omega
  have HG := Lib.hid hg; clear hg
  go_enter Try.func12, Try.ntmps12
  go_upto_region 1 with (fail)
  go_wp2_with fail
  refine (law22_awake _).mono ?_; rintro e w1 ⟨rfl, b1⟩
  replace sq := sq.next b1
  replace B0 := B0.trans (b1.mono B0.size)
  clear b1
  go_wp2_with fail
  refine (COF.out _).mono ?_; rintro e w2 ⟨rfl, b2⟩
  replace sq := sq.next b2
  replace B0 := B0.trans (b2.mono B0.size)
  clear b2
  go_wp2_with fail
  refine (CP.out _).mono ?_; rintro e wx ⟨rfl, rfl⟩
  obtain ⟨w3, e3, KF, b3, hs3⟩ := boxes1 w2 29 [.int .u64 p]
  clear hs3
  replace sq := sq.next b3
  replace B0 := B0.trans (b3.mono B0.size)
  clear b3
  go_upto_region 4 with (fail)
  rw [← e3]
  clear e3
  have qKF0 := KF.cell 0
  go_wp2_with fail
  refine (hs_Companion p _ gs zs n _ HP.out sq (by have := HG.out; omega) HZ.out HL.out H1.out).mono ?_; rintro e w4 ⟨aE, kE, rfl, oE, b4⟩
  clear qKF0
  replace sq := sq.next b4
  replace KF := KF.next b4
  replace B0 := B0.trans (b4.mono B0.size)
  clear b4
  have lC0 := tbv_length (cmp p n zs)
  have wC0 := tbv_wf HP.out.pos (cmp p n zs)
  obtain ⟨cs, ecs⟩ : ∃ cs, cs = tbv (cmp p n zs) := ⟨_, rfl⟩
  have HX := Lib.hid (show mx p n n cs = cmp p n zs by rw [ecs]; exact mx_tbv _)
  have HAC := Lib.hid (show ∀ i k : Nat, i < n → k + 1 < n → ∀ x : Nat, (x = if i = k + 1 then 1 else 0) → x = cs.getD (i * n + k) 0 % p by rw [ecs]; exact HAT.out)
  rw [← ecs] at oE lC0 wC0 ⊢
  clear ecs HAT
  have LC := Lib.hid lC0; have WC := Lib.hid wC0
  have hc16 : cs.length ≤ 16 := by rw [lC0]; exact at2 hn4
  clear lC0 wC0
  have mC : Fm w4 (.agg #[.int .i64 n, .int .i64 n, .slice aE cs.length kE]) n n cs := ⟨_, rfl, oE.sl⟩
  clear oE
  obtain ⟨w5, e5, KM, b5, hs5⟩ := boxes1 w4 42 [.int .i64 n, .int .i64 n, .slice aE cs.length kE]
  clear hs5
  replace sq := sq.next b5
  replace KF := KF.next b5
  replace mC := mC.next b5
  replace B0 := B0.trans (b5.mono B0.size)
  clear b5
  go_upto_region 5 with (fail)
  rw [← e5]
  clear e5
  go_wp2_with fail
  refine (ref9_Norm p _ gs _ HP.out sq (by have := HG.out; omega)).mono ?_; rintro e w6 ⟨rz, z6, rfl, oZ, nZ, vZ, lZ, b6⟩
  replace sq := sq.next b6
  replace KF := KF.next b6
  replace mC := mC.next b6
  replace KM := KM.next b6
  replace B0 := B0.trans (b6.mono B0.size)
  clear b6
  obtain rfl : zs = z6 := by rw [nl_is HP.out.pos nZ vZ]; exact HZ.out
  obtain ⟨az, kz, rfl⟩ := oZ.sliced
  have sZ := oZ.sl
  clear oZ nZ vZ lZ
  go_upto_region 6 with (fail)
  go_wp2_with fail
  refine (ref9_Monic _ zs true _ sZ (by have := HL.out; omega) HM.out).mono ?_; rintro e wx ⟨rfl, rfl⟩
  go_upto_region 8 with (fail)
  have qKF0 := KF.cell 0
  have qKM0 := KM.cell 0
  have qKM1 := KM.cell 1
  have qKM2 := KM.cell 2
  go_wp2_with fail
  refine (hs_Char p _ n cs _ HP.out HT.out mC (by omega) LC.out).mono ?_; rintro e w7 ⟨ac, cc, zc, rfl, oC, nC, vC, lC, b7⟩; rw [HX.out, HC.out] at vC
  clear qKF0 qKM0 qKM1 qKM2
  replace sq := sq.next b7
  replace KF := KF.next b7
  replace mC := mC.next b7
  replace KM := KM.next b7
  replace sZ := sZ.next b7
  replace B0 := B0.trans (b7.mono B0.size)
  clear b7
  obtain rfl : zs = zc := (pl_inj HP.out.pos nC HN.out vC).symm
  have sC := oC.sl
  clear oC nC vC lC
  go_upto_region 9 with (fail)
  have qKF0 := KF.cell 0
  have qKM0 := KM.cell 0
  have qKM1 := KM.cell 1
  have qKM2 := KM.cell 2
  go_wp2_with fail
  refine (hs_Min p _ n cs _ HP.out HT.out mC (by omega) LC.out).mono ?_; rintro e w8 ⟨am, cm, ms, d, rfl, oM, nM, vM, lM, ld, b8⟩; rw [HX.out] at vM
  clear qKF0 qKM0 qKM1 qKM2
  replace sq := sq.next b8
  replace KF := KF.next b8
  replace mC := mC.next b8
  replace KM := KM.next b8
  replace sZ := sZ.next b8
  replace sC := sC.next b8
  replace B0 := B0.trans (b8.mono B0.size)
  clear b8
  obtain rfl : zs = ms := (pl_inj HP.out.pos nM HN.out (HMI.out _ vM)).symm
  have sM := oM.sl
  clear oM nM vM lM ld
  go_wp2
  clear KF sq
  have HKM := Lib.hid KM
  have HmC := Lib.hid mC
  have HsZ := Lib.hid sZ
  have HsC := Lib.hid sC
  have HsM := Lib.hid sM
  have HB0 := Lib.hid B0; clear B0 KM mC sZ sC sM
  go_loopw [14] (fun iv wr => ∃ i : Nat, i ≤ n ∧ iv = .int .i64 i ∧ Below w8.heap.size w8 wr) (fun iv _ => n - (intOf iv).toNat)
  case atStart => exact ⟨0, by omega, rfl, Below.refl _ _⟩
  case round =>
    obtain ⟨i, hi, rfl, hB⟩ := hrel
    have KM := HKM.out.next hB
    by_cases hin : i < n
    · have q0 := KM.cell 0
      go_wp2
      clear q0 KM
      obtain ⟨w1, ew1⟩ : ∃ w1, w1 = wr := ⟨_, rfl⟩
      rw [← ew1] at hB ⊢
      clear ew1
      go_loopw [15] (fun kv wr => ∃ k : Nat, kv = .int .i64 k ∧ k ≤ n ∧ Below w8.heap.size w8 wr) (fun kv _ => n - (intOf kv).toNat)
      case atStart => exact ⟨0, rfl, by omega, hB⟩
      case round =>
        clear hB
        obtain ⟨k, rfl, hk, hB⟩ := hrel
        have KM := HKM.out.next hB
        have mC := HmC.out.next hB
        have q0 := KM.cell 0; have q1 := KM.cell 1; have q2 := KM.cell 2
        by_cases hkn : k + 1 < n
        · have hix : i * n + k < cs.length := by rw [LC.out]; exact at_lt rfl hin (by omega)
          have HIX := Lib.hid hix; clear hix
          by_cases hik : i = k + 1
          · have hA := HAC.out i k hin hkn 1 (by rw [if_pos hik])
            have HA := Lib.hid hA; clear hA
            have hik1 : ((i : Int) == (k : Int) + 1) = true := by simp; omega
            have hik2 : ((i : Int) != (k : Int) + 1) = false := by simp; omega
            clear hik
            go_wp2_with fail
            refine (rf21_At _ n n i k p cs _ HP.out.pos mC (by omega) (by omega) (by omega) HIX.out 1 HA.out).mono ?_; rintro e wA ⟨rfl, bA⟩
            replace hB := hB.trans (bA.mono hB.size)
            clear q0 q1 q2 KM mC bA
            go_wp2
            go_roundw
            case rel => exact ⟨k + 1, by go_num, by omega, hB⟩
            case measure => simp [intOf] <;> omega
          · have hA := HAC.out i k hin hkn 0 (by rw [if_neg hik])
            have HA := Lib.hid hA; clear hA
            have hik1 : ((i : Int) == (k : Int) + 1) = false := by simp; omega
            have hik2 : ((i : Int) != (k : Int) + 1) = true := by simp; omega
            clear hik
            go_wp2_with fail
            refine (rf21_At _ n n i k p cs _ HP.out.pos mC (by omega) (by omega) (by omega) HIX.out 0 HA.out).mono ?_; rintro e wA ⟨rfl, bA⟩
            replace hB := hB.trans (bA.mono hB.size)
            clear q0 q1 q2
            replace KM := KM.next bA; replace mC := mC.next bA
            have q0 := KM.cell 0; have q1 := KM.cell 1; have q2 := KM.cell 2
            clear bA
            go_wp2_with fail
            refine (rf21_At _ n n i k p cs _ HP.out.pos mC (by omega) (by omega) (by omega) HIX.out 0 HA.out).mono ?_; rintro e wC ⟨rfl, bC⟩
            replace hB := hB.trans (bC.mono hB.size)
            clear q0 q1 q2 KM mC bC
            go_wp2
            go_roundw
            case rel => exact ⟨k + 1, by go_num, by omega, hB⟩
            case measure => simp [intOf] <;> omega
        · have hkb : ¬ ((k : Int) + 1 < (n : Int)) := by omega
          clear mC q1 q2
          go_wp2
          go_roundw
          case rel => exact ⟨i + 1, by omega, by go_num, hB⟩
          case measure => simp [intOf] <;> omega
    · obtain rfl : n = i := by omega
      have mC := HmC.out.next hB; have sZ := HsZ.out.next hB; have sC := HsC.out.next hB; have sM := HsM.out.next hB
      have B0 := HB0.out.trans (hB.mono HB0.out.size)
      clear hB
      have q0 := KM.cell 0; have q1 := KM.cell 1; have q2 := KM.cell 2
      go_wp2_with fail
      refine (rf21_Normal _ n n p cs _ mC (Fd.of (by omega) (by omega) LC.out) WC.out (by omega)).mono ?_; rintro e w41 ⟨rfl, b41⟩
      clear q0 q1 q2
      replace KM := KM.next b41
      replace mC := mC.next b41
      replace sZ := sZ.next b41
      replace sC := sC.next b41
      replace sM := sM.next b41
      replace B0 := B0.trans (b41.mono B0.size)
      clear b41
      have qKM0 := KM.cell 0
      have qKM1 := KM.cell 1
      have qKM2 := KM.cell 2
      go_wp2_with fail
      refine (ref9_Same _ _ zs zs true _ sC sZ (by have := HL.out; omega) (by have := HL.out; omega) (decide_eq_true rfl).symm).mono ?_; rintro e w42 ⟨rfl, q42⟩
      have b42 := q42.below w41.heap.size; clear q42
      clear qKM0 qKM1 qKM2
      replace KM := KM.next b42
      replace mC := mC.next b42
      replace sZ := sZ.next b42
      replace sC := sC.next b42
      replace sM := sM.next b42
      replace B0 := B0.trans (b42.mono B0.size)
      clear b42
      go_wp2_with fail
      refine (ref9_Same _ _ zs zs true _ sM sZ (by have := HL.out; omega) (by have := HL.out; omega) (decide_eq_true rfl).symm).mono ?_; rintro e w43 ⟨rfl, q43⟩
      have b43 := q43.below w42.heap.size; clear q43
      replace KM := KM.next b43
      replace mC := mC.next b43
      replace sZ := sZ.next b43
      replace sC := sC.next b43
      replace sM := sM.next b43
      replace B0 := B0.trans (b43.mono B0.size)
      clear b43
      go_wp2
      go_ret
      exact ⟨rfl, B0⟩

set_option maxHeartbeats 1000000 in
theorem walk (x0 : Nat) (u : Value) (gs : List Nat) (w : World) (sq : Sl .u64 w u gs) : Calls Try.prog 12 #[.int .u8 x0, u] w (LawOk w) := by
  by_cases hg : gs.length ≤ 5
  · by_cases h0 : nl (Ps (x0 % 12)) gs = []
    · exact bad0 x0 u _ gs w sq hg h0.symm rfl
    · by_cases h1 : (nl (Ps (x0 % 12)) gs).getD ((nl (Ps (x0 % 12)) gs).length - 1) 0 = 1
      · have hl := List.length_pos_iff.2 h0
        exact good x0 u _ ((nl (Ps (x0 % 12)) gs).length - 1) _ gs w sq hg rfl (by omega) h1 rfl
      · exact bad1 x0 u _ _ gs w sq hg rfl h0 h1 rfl
  · exact long x0 u gs w sq hg

set_option maxRecDepth 100000 in
theorem lifted (os : Os) (started : os.Started) (H : Type) (enc : TypeId × Value → H) :
    ReturnsInHanded {} Try.checked os 12 .any (Rows.hessCompanionsSpec.pre6 enc Try.prog Try.f12 Rows.hessCompanionsRow.domain false) (Rows.hessCompanionsSpec.post enc Try.prog Try.f12 false true false false) := by
  refine returnsInHanded_of_change (C := Try.checked) own started (by kernel_rfl) Try.func12
    (ChangeSpec.witness6 (enc := enc) (C := Try.checked) false ⟨#[], #[.int .u8 0, .slice none 0 0], []⟩ 8 (by kernel_rfl) (by kernel_rfl) (by kernel_rfl) (by kernel_rfl)) ?_
  intro W base args ds gs before hval0 hW hcnd _
  have hval : ∀ (j : Nat) t v, Try.f12.params[j]? = some t → args[j]? = some v → Value.okWide Try.prog W .any base t v := hval0
  have hW' := hW
  obtain ⟨p, q, hA0, hV, rfl, hfz, hnd⟩ := hW
  have hA : DataW.TrodAll enc Try.prog W 0 (fun _ => true) true Try.f12.params.toList args.toList ds p := hA0
  rw [Try.params12] at hA hval
  obtain ⟨v0, vs0, d0, ds0, p0, q0, hargs, rfl, rfl, h0, r0⟩ := trodAll_cons hA
  obtain ⟨v1, vs1, d1, ds1, p1, q1, rfl, rfl, rfl, h1, r1⟩ := trodAll_cons r0
  obtain ⟨rfl, rfl, rfl⟩ := trodAll_nil r1
  obtain rfl : args = #[v0, v1] := by cases args; simp_all
  obtain ⟨rfl, rfl⟩ := trodVars_none hV
  have k0 := h0
  have lt0 : ∀ x ∈ p0, x.block < W.heap.size := by obtain ⟨m, hm⟩ := k0; exact DataW.trod_lt m _ _ _ hm
  obtain ⟨i0, rfl, rfl, rfl, wi0⟩ := open_int Try.underlying5 (hval 0 5 v0 rfl rfl) h0
  obtain ⟨x0, rfl⟩ := Int.eq_ofNat_of_zero_le (wf_u8_bounds wi0).1
  have k1 := h1
  have lt1 : ∀ x ∈ p1, x.block < W.heap.size := by obtain ⟨m, hm⟩ := k1; exact DataW.trod_lt m _ _ _ hm
  obtain ⟨x1, s1, f1⟩ := open_words Try.underlying33 Try.underlying27 (by kernel_rfl) (hval 1 33 v1 rfl rfl) h1
  clear hA0 hval0
  refine (walk x0 v1 x1 W  s1).mono fun e W' ⟨he, bel⟩ => ?_
  subst he
  exact ⟨_, rfl, _, _, _, [], _, [], hW', trodAll_mk1 (shut_bool Try.underlying4 _), (trodAll_cons_mk (Below.trod laidOut (by kernel_rfl) (of_decide_eq_true (by kernel_rfl)) k0 bel lt0) (trodAll_cons_mk (Below.trod laidOut (by kernel_rfl) (of_decide_eq_true (by kernel_rfl)) k1 bel lt1) trodAll_mk0)), rfl, bel.frame _, fun h => by cases h⟩

theorem over : Rows.hessCompanionsRow.holds Try.pinned (OpenSpec.ofChange Rows.hessCompanionsSpec) :=
  OpenClaim.holds_of_wide 12 Try.f12 rfl rfl rfl rfl rfl rfl rfl ⟨rfl, rfl, rfl, rfl, rfl⟩ rfl rfl rfl rfl rfl (by kernel_rfl) Try.func12 (by kernel_rfl)
    (of_decide_eq_true (by kernel_rfl)) (by unfold Func.isWrapper; first | (rw [if_pos (by decide +kernel)]; kernel_rfl) | (rw [if_neg (by decide +kernel)]; exact ⟨rfl, rfl⟩))
    (fun os started H enc _ => lifted os started H enc)

theorem proved : Rows.HessCompanionsSaid := over
#print axioms proved
end Go.Proofs.Ythghdjpjbngllaa.hessCompanions
