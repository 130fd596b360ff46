/- XformMinors: for every number and matrix of polynomials the law returns true: the product of the first k on the diagonal of Smith's form is the greatest common divisor of all minors of k rows. No condition. -/
import Derived.Test.YtkmfhabgempjiaaRows
import Derived.Test.YtkmfhabgempjiaaQcM17
namespace Go.Proofs.Ytkmfhabgempjiaa.xformMinors
open Go.ChangeShapes Go.WideShapes Go.ChangeAt Go.RowKit
open Go.ChangeMaps (open_string shut_string)

theorem own : ownKnob Try.prog.godebug = none := by kernel_rfl
theorem laidOut : laidOutB Try.prog = true := by kernel_rfl

theorem pr_dgo {p : Nat} {t k n m : Nat} {W : Nat → Nat → Pol (Zp p)} (hz : ∀ a b, t ≤ a → a < n → t ≤ b → b < m → W a b = 0) (hn : k < n) (hm : k < m) : pr (dgo t W) (k + 1) = pr (dgo t W) k * W k k := by
  show pr (dgo t W) k * dgo t W k = _
  unfold dgo
  by_cases h : k < t
  · rw [if_pos h]
  · rw [if_neg h, hz k k (by omega) hn (by omega) hm]

set_option maxRecDepth 20000 in
set_option maxHeartbeats 4000000 in
theorem not_few (x0 : Nat) (v : Value) (R C : Int) (xs : List (List Nat)) (w : World) (mA : Xm w v R C xs) (hf : ¬ Fwx 3 3 R C xs) :
    Calls Try.prog 4 #[.int .u8 x0, v] w (LawOk w) := by
  obtain ⟨aA, cA, rfl⟩ := mA.agg
  obtain ⟨wb, ew, KA, B0, hsz⟩ := boxes1 w 24 [.int .i64 R, .int .i64 C, .slice aA xs.length cA]
  clear hsz
  replace mA := mA.next B0
  have HF := Lib.hid hf; clear hf
  go_enter Try.func4, Try.ntmps4
  go_upto_region 1 with (fail)
  rw [← ew]
  clear ew
  go_wp2_with fail
  refine (law24_awake _).mono ?_; rintro e w1 ⟨rfl, b1⟩
  replace mA := mA.next b1
  replace KA := KA.next b1
  replace B0 := B0.trans (b1.mono B0.size)
  clear b1
  have qKA0 := KA.cell 0
  have qKA1 := KA.cell 1
  have qKA2 := KA.cell 2
  go_wp2_with fail
  refine (rf23_Few _ R C 3 3 xs _ mA false ⟨fun h => absurd h (by decide), fun h => absurd h HF.out⟩).mono ?_; rintro e w2 ⟨rfl, b2⟩
  clear qKA0 qKA1 qKA2
  replace mA := mA.next b2
  replace KA := KA.next b2
  replace B0 := B0.trans (b2.mono B0.size)
  clear b2
  clear mA
  go_wp2_with fail
  refine (law24_awake _).mono ?_; rintro e w3 ⟨rfl, b3⟩
  replace KA := KA.next b3
  replace B0 := B0.trans (b3.mono B0.size)
  clear b3
  go_wp2
  go_ret
  exact ⟨rfl, B0⟩

set_option maxRecDepth 20000 in
set_option maxHeartbeats 4000000 in
theorem bad (x0 : Nat) (v : Value) (R C : Int) (xs : List (List Nat)) (w : World) (mA : Xm w v R C xs) (hf : Fwx 3 3 R C xs) (hs : ¬ Fd R C xs.length) :
    Calls Try.prog 4 #[.int .u8 x0, v] w (LawOk w) := by
  obtain ⟨aA, cA, rfl⟩ := mA.agg
  obtain ⟨wb, ew, KA, B0, hsz⟩ := boxes1 w 24 [.int .i64 R, .int .i64 C, .slice aA xs.length cA]
  clear hsz
  replace mA := mA.next B0
  have HF := Lib.hid hf; have HS := Lib.hid hs; clear hf hs
  go_enter Try.func4, Try.ntmps4
  go_upto_region 1 with (fail)
  rw [← ew]
  clear ew
  go_wp2_with fail
  refine (law24_awake _).mono ?_; rintro e w1 ⟨rfl, b1⟩
  replace mA := mA.next b1
  replace KA := KA.next b1
  replace B0 := B0.trans (b1.mono B0.size)
  clear b1
  have qKA0 := KA.cell 0
  have qKA1 := KA.cell 1
  have qKA2 := KA.cell 2
  go_wp2_with fail
  refine (rf23_Few _ R C 3 3 xs _ mA true ⟨fun _ => HF.out, fun _ => rfl⟩).mono ?_; rintro e w2 ⟨rfl, b2⟩
  clear qKA0 qKA1 qKA2
  replace mA := mA.next b2
  replace KA := KA.next b2
  replace B0 := B0.trans (b2.mono B0.size)
  clear b2
  have qKA0 := KA.cell 0
  have qKA1 := KA.cell 1
  have qKA2 := KA.cell 2
  go_wp2_with fail
  refine (rf23_Formed _ R C xs _ mA false (decide_eq_false HS.out).symm).mono ?_; rintro e w3 ⟨rfl, b3⟩
  clear qKA0 qKA1 qKA2
  replace mA := mA.next b3
  replace KA := KA.next b3
  replace B0 := B0.trans (b3.mono B0.size)
  clear b3
  clear mA
  go_wp2_with fail
  refine (law24_awake _).mono ?_; rintro e w4 ⟨rfl, b4⟩
  replace KA := KA.next b4
  replace B0 := B0.trans (b4.mono B0.size)
  clear b4
  go_wp2
  go_ret
  exact ⟨rfl, B0⟩

set_option maxRecDepth 20000 in
set_option maxHeartbeats 4000000 in
theorem good (x0 : Nat) (r c : Nat) (v : Value) (xs : List (List Nat)) (w : World) (mA : Xm w v r c xs) (hr : r ≤ 3) (hc : c ≤ 3) (hx : xs.length = r * c) (hf : Fwx 3 3 r c xs) :
    Calls Try.prog 4 #[.int .u8 x0, v] w (LawOk w) := by
  obtain ⟨p, ep⟩ : ∃ p, p = Ps (x0 % 12) := ⟨_, rfl⟩
  have hp : FP p := by rw [ep]; exact Ps_FP (by omega)
  have ht : Trial p := by rw [ep]; exact Ps_trial (by omega)
  have cOf : ∀ w : World, Calls Try.prog 17 #[.int .u8 x0] w fun e w' => e = .returned (.agg #[.int .u64 (p : Nat)]) ∧ Below w.heap.size w w' := fun w => by rw [ep]; exact law9_Of x0 w
  have cP : ∀ w : World, Calls Try.prog 18 #[.int .u8 x0] w fun e w' => e = .returned (.int .u64 (p : Nat)) ∧ w = w' := fun w => by rw [ep]; exact ref8_P x0 w
  have hp2 := hp.1
  have hp3 := hp.2
  have HP := Lib.hid hp; have HT := Lib.hid ht; have COF := Lib.hid cOf; have CP := Lib.hid cP
  clear hp ht cOf cP ep
  obtain ⟨aA, cA, rfl⟩ := mA.agg
  obtain ⟨wb, ew, KA, B0, hsz⟩ := boxes1 w 24 [.int .i64 r, .int .i64 c, .slice aA xs.length cA]
  clear hsz
  replace mA := mA.next B0
  have HF := Lib.hid hf; have HX := Lib.hid hx
  have hl : ∀ j, j < r * c → (xs.getD j []).length ≤ 3 := fun j hj => by have := hf.2.2.2 j (by omega); omega
  have HL := Lib.hid hl
  clear hf hx hl
  have HFd := Lib.hid (Fd.of (show r ≤ 64 by omega) (show c ≤ 64 by omega) HX.out)
  go_enter Try.func4, Try.ntmps4
  go_upto_region 1 with (fail)
  rw [← ew]
  clear ew
  go_wp2_with fail
  refine (law24_awake _).mono ?_; rintro e w1 ⟨rfl, b1⟩
  replace mA := mA.next b1
  replace KA := KA.next b1
  replace B0 := B0.trans (b1.mono B0.size)
  clear b1
  have qKA0 := KA.cell 0
  have qKA1 := KA.cell 1
  have qKA2 := KA.cell 2
  go_wp2_with fail
  refine (rf23_Few _ r c 3 3 xs _ mA true ⟨fun _ => HF.out, fun _ => rfl⟩).mono ?_; rintro e w2 ⟨rfl, b2⟩
  clear qKA0 qKA1 qKA2
  replace mA := mA.next b2
  replace KA := KA.next b2
  replace B0 := B0.trans (b2.mono B0.size)
  clear b2
  have qKA0 := KA.cell 0
  have qKA1 := KA.cell 1
  have qKA2 := KA.cell 2
  go_wp2_with fail
  refine (rf23_Formed _ r c xs _ mA true (decide_eq_true HFd.out).symm).mono ?_; rintro e w3 ⟨rfl, b3⟩
  clear qKA0 qKA1 qKA2
  replace mA := mA.next b3
  replace KA := KA.next b3
  replace B0 := B0.trans (b3.mono B0.size)
  clear b3
  go_wp2_with fail
  refine (COF.out _).mono ?_; rintro e w4 ⟨rfl, b4⟩
  replace mA := mA.next b4
  replace KA := KA.next b4
  replace B0 := B0.trans (b4.mono B0.size)
  clear b4
  go_wp2_with fail
  refine (CP.out _).mono ?_; rintro e wx ⟨rfl, rfl⟩
  obtain ⟨w5, e5, KF, b5, hs5⟩ := boxes1 w4 29 [.int .u64 p]
  clear hs5
  replace mA := mA.next b5
  replace KA := KA.next b5
  replace B0 := B0.trans (b5.mono B0.size)
  clear b5
  go_upto_region 4 with (fail)
  rw [← e5]
  clear e5
  have qKF0 := KF.cell 0
  have qKA0 := KA.cell 0
  have qKA1 := KA.cell 1
  have qKA2 := KA.cell 2
  go_wp2_with fail
  refine (xf_Smith33 p _ r c xs _ HP.out HT.out mA hr hc HX.out HL.out).mono ?_; rintro e w6 ⟨t, W, U, V, htr, htc, hSR, hSI, hz, aD, kD, usD, aU, kU, usU, aV, kV, usV, rfl, QD, QU, QV, b6⟩
  clear qKF0 qKA0 qKA1 qKA2
  replace mA := mA.next b6
  replace KA := KA.next b6
  replace KF := KF.next b6
  replace B0 := B0.trans (b6.mono B0.size)
  clear b6
  obtain ⟨zsD, zlD, nsD, hzD⟩ := QD.ns HP.out
  have mD : Xm w6 (.agg #[.int .i64 r, .int .i64 c, .slice aD (r * c) kD]) r c zsD := ⟨_, rfl, nsD⟩
  have ZLD := Lib.hid zlD; have ZD := Lib.hid hzD
  have HMN := Lib.hid (show ∀ k g, k ≤ 3 → k ≤ r → k ≤ c → MnG k (aT p c xs) (fun R C => R ∈ chs r k ∧ C ∈ chs c k) g → g = pr (dgo t W) k from fun k g h1 h2 h3 h4 => smith_minors HT.out hSR hSI htr htc hz h1 h2 h3 h4)
  have HPR := Lib.hid (show ∀ k, k < r → k < c → pr (dgo t W) (k + 1) = pr (dgo t W) k * W k k from fun k h1 h2 => pr_dgo hz h1 h2)
  clear hSR hSI htr htc hz QD QU QV zlD nsD hzD
  obtain ⟨w7, e7, KD, KU, KV, b7, hs7⟩ := boxes3 w6 24 24 24 [.int .i64 r, .int .i64 c, .slice aD (r * c) kD] [.int .i64 r, .int .i64 r, .slice aU (r * r) kU] [.int .i64 c, .int .i64 c, .slice aV (c * c) kV]
  clear hs7
  replace mA := mA.next b7
  replace KA := KA.next b7
  replace KF := KF.next b7
  replace mD := mD.next b7
  replace B0 := B0.trans (b7.mono B0.size)
  clear b7
  go_upto_region 5 with (fail)
  rw [← e7]
  clear e7
  have ba : Below w7.heap.size w7 (w7.alloc (.cells #[.int .u64 1] 27)) := (Below.refl _ _).alloc (Nat.le_refl _) _
  have tl := (own_lit1 w7 1).sl
  replace KF := KF.next ba; replace KA := KA.next ba; replace KD := KD.next ba; replace mA := mA.next ba; replace mD := mD.next ba
  replace B0 := B0.trans (ba.mono B0.size)
  go_wp2
  generalize w7.alloc (.cells #[.int .u64 1] 27) = wl at *
  obtain ⟨g1, eg1⟩ : ∃ g1, g1 = w7.heap.size := ⟨_, rfl⟩
  rw [← eg1] at tl ⊢
  have hn1 : Nrm p [1] := ⟨wf_cons (by omega) (wf_nil _), rfl⟩
  have HKF := Lib.hid KF; have HKA := Lib.hid KA; have HKD := Lib.hid KD; have HMA := Lib.hid mA; have HMD := Lib.hid mD; have HB0 := Lib.hid B0; have HTL := Lib.hid tl; have HN1 := Lib.hid hn1
  clear KF KA KD KU KV mA mD B0 tl hn1 ba eg1
  go_loopw [11, 12] (fun pv kv wr => ∃ (k : Nat) (zs : List Nat), k ≤ r ∧ k ≤ c ∧ kv = .int .i64 k ∧ Sl .u64 wr pv zs ∧ Nrm p zs ∧ pl p zs = pr (dgo t W) k ∧ zs.length ≤ 1 + 255 * k ∧ Below wl.heap.size wl wr) (fun _ kv _ => r - (intOf kv).toNat)
  case atStart => exact ⟨0, [1], Nat.zero_le _, Nat.zero_le _, rfl, HTL.out, HN1.out, pl_one p, by simp, Below.refl _ _⟩
  case round =>
    clear HTL
    obtain ⟨k, zs, hkr, hkc, rfl, hpv, nz, vz, lz, BR⟩ := hrel
    have KA := HKA.out.next BR
    have a0 := KA.cell 0; have a1' := KA.cell 1
    have NZ := Lib.hid nz; have VZ := Lib.hid vz
    clear nz vz KA
    by_cases hlr : k < r
    · by_cases hlc : k < c
      · have KF := HKF.out.next BR; have KD := HKD.out.next BR; have mD := HMD.out.next BR
        have f0 := KF.cell 0; have d0 := KD.cell 0; have d1 := KD.cell 1; have d2 := KD.cell 2
        have hlt : k * c + k < r * c := at_lt rfl hlr hlc
        have hqd := ZD.out _ hlt
        have HQD := Lib.hid hqd
        have hll : (zsD.getD (k * c + k) []).length ≤ 1000000 := Nat.le_trans hqd.2.2 (by omega)
        clear KF KD hqd
        go_wp2_with fail
        (with_reducible refine (xm_At p k k _ r c zsD _ HP.out mD (by omega) (by omega) ZLD.out hlr hlc hll).mono ?_); rintro e w5 ⟨r5, z5, rfl, o5, n5, v5, l5, b5⟩
        clear a0 a1' f0 d0 d1 d2 mD
        have hv : pl p z5 = W k k := by
          rw [v5, HQD.out.2.1, Nat.mul_comm, Nat.mul_add_div (by omega), Nat.div_eq_of_lt hlc, Nat.mul_add_mod, Nat.mod_eq_of_lt hlc, Nat.add_zero, Nat.zero_add]
        have hl5 : z5.length ≤ 255 := Nat.le_trans l5 HQD.out.2.2
        have BR5 := BR.trans (b5.mono BR.size)
        replace hpv := hpv.next b5
        have s5 := o5.sl
        have KA := HKA.out.next BR5; have KF := HKF.out.next BR5
        have HV := Lib.hid hv
        clear b5 BR v5 n5 o5 hv l5 hll
        have hk9 : 255 * k ≤ 255 * 3 := Nat.mul_le_mul_left _ (by omega)
        go_wp2_with fail
        (with_reducible refine (ref9_Mul p _ _ zs z5 _ HP.out hpv s5 (by omega) (by omega)).mono ?_); rintro e w6 ⟨r6, z6, rfl, o6, n6, v6, l6, b6⟩
        have BR6 := BR5.trans (b6.mono BR5.size)
        have hv6 : pl p z6 = pr (dgo t W) (k + 1) := by rw [v6, VZ.out, HV.out, HPR.out k hlr hlc]
        have hl6 : z6.length ≤ 1 + 255 * (k + 1) := by omega
        have KA6 := HKA.out.next BR6; have KF6 := HKF.out.next BR6; have mA6 := HMA.out.next BR6
        have f0 := KF6.cell 0; have a0 := KA6.cell 0; have a1' := KA6.cell 1; have a2 := KA6.cell 2
        have s6 := o6.sl
        have HV6 := Lib.hid hv6; have N6 := Lib.hid n6
        clear BR5 hpv s5 b6 v6 l6 n6 o6 KA KF KA6 KF6 hv6
        have hwk : IntKind.i64.wrap ((k : Int) + 1) = ((k + 1 : Nat) : Int) := by rw [IntWalk.i64_in _ ⟨by omega, by omega⟩]; omega
        obtain ⟨K, eK⟩ : ∃ K, K = k + 1 := ⟨_, rfl⟩
        rw [← eK] at hwk
        have EK := Lib.hid eK
        have hK0 : 0 < K := by omega
        have hKr : K ≤ r := by omega
        have hKc : K ≤ c := by omega
        clear eK
        go_wp2_with fail
        (with_reducible refine (rf24_Minors p K _ r c xs _ HP.out HT.out mA6 hr hc HX.out HL.out hK0 hKr hKc).mono ?_); rintro e w7 ⟨v7, z7, rfl, s7, n7, l7, g7, b7⟩
        have hz67 : z6 = z7 := pl_inj HP.out.pos N6.out n7 (by rw [HV6.out, ← EK.out]; exact (HMN.out K _ (by omega) hKr hKc g7).symm)
        replace s6 := s6.next b7
        have BR7 := BR6.trans (b7.mono BR6.size)
        have HZ67 := Lib.hid hz67
        clear f0 a0 a1' a2 mA6 b7 BR6 g7 n7 hz67 hwk
        go_wp2_with fail
        (with_reducible refine (ref9_Same _ _ z6 z7 true _ s6 s7 (by omega) (by omega) (decide_eq_true HZ67.out).symm).mono ?_); rintro e w8 ⟨rfl, q8⟩
        have b8 := q8.below w7.heap.size
        have F1 := Lib.hid (s6.next b8)
        have F2 := Lib.hid (BR7.trans (b8.mono BR7.size))
        clear q8 b8 s6 s7 BR7
        go_wp2
        go_roundw
        case rel => exact ⟨k + 1, z6, by omega, by omega, by go_num, F1.out, N6.out, HV6.out, hl6, F2.out⟩
        case measure => simp [intOf] <;> omega
      · have FIN := Lib.hid (show LawOk w (.returned (.bool true)) wr from ⟨rfl, HB0.out.trans (BR.mono HB0.out.size)⟩)
        clear BR hpv
        go_wp2
        first | exact FIN.out | (go_ret; exact FIN.out)
    · have FIN := Lib.hid (show LawOk w (.returned (.bool true)) wr from ⟨rfl, HB0.out.trans (BR.mono HB0.out.size)⟩)
      clear BR hpv
      go_wp2
      first | exact FIN.out | (go_ret; exact FIN.out)

set_option maxHeartbeats 1000000 in
theorem walk (x0 : Nat) (v : Value) (R C : Int) (xs : List (List Nat)) (w : World) (mA : Xm w v R C xs) : Calls Try.prog 4 #[.int .u8 x0, v] w (LawOk w) := by
  by_cases hf : Fwx 3 3 R C xs
  · by_cases hs : Fd R C xs.length
    · obtain ⟨r, c, e1, e2, h3, h4, h5⟩ := hs.nat
      subst e1 e2
      exact good x0 r c v xs w mA (by have := hf.1; omega) (by have := hf.2.1; omega) h5 hf
    · exact bad x0 v R C xs w mA hf hs
  · exact not_few x0 v R C xs w mA hf

set_option maxRecDepth 100000 in
theorem lifted (os : Os) (started : os.Started) (H : Type) (enc : TypeId × Value → H) :
    ReturnsInHanded {} Try.checked os 4 .any (Rows.xformMinorsSpec.pre6 enc Try.prog Try.f4 Rows.xformMinorsRow.domain false) (Rows.xformMinorsSpec.post enc Try.prog Try.f4 false true false false) := by
  refine returnsInHanded_of_change (C := Try.checked) own started (by kernel_rfl) Try.func4
    (ChangeSpec.witness6 (enc := enc) (C := Try.checked) false ⟨#[], #[.int .u8 0, .agg #[.int .i64 0, .int .i64 0, .slice none 0 0]], []⟩ 8 (by kernel_rfl) (by kernel_rfl) (by kernel_rfl) (by kernel_rfl)) ?_
  intro W base args ds gs before hval0 hW hcnd _
  have hval : ∀ (j : Nat) t v, Try.f4.params[j]? = some t → args[j]? = some v → Value.okWide Try.prog W .any base t v := hval0
  have hW' := hW
  obtain ⟨p, q, hA0, hV, rfl, hfz, hnd⟩ := hW
  have hA : DataW.TrodAll enc Try.prog W 0 (fun _ => true) true Try.f4.params.toList args.toList ds p := hA0
  rw [Try.params4] at hA hval
  obtain ⟨v0, vs0, d0, ds0, p0, q0, hargs, rfl, rfl, h0, r0⟩ := trodAll_cons hA
  obtain ⟨v1, vs1, d1, ds1, p1, q1, rfl, rfl, rfl, h1, r1⟩ := trodAll_cons r0
  obtain ⟨rfl, rfl, rfl⟩ := trodAll_nil r1
  obtain rfl : args = #[v0, v1] := by cases args; simp_all
  obtain ⟨rfl, rfl⟩ := trodVars_none hV
  have k0 := h0
  have lt0 : ∀ x ∈ p0, x.block < W.heap.size := by obtain ⟨m, hm⟩ := k0; exact DataW.trod_lt m _ _ _ hm
  obtain ⟨i0, rfl, rfl, rfl, wi0⟩ := open_int Try.underlying5 (hval 0 5 v0 rfl rfl) h0
  obtain ⟨x0, rfl⟩ := Int.eq_ofNat_of_zero_le (wf_u8_bounds wi0).1
  have k1 := h1
  have lt1 : ∀ x ∈ p1, x.block < W.heap.size := by obtain ⟨m, hm⟩ := k1; exact DataW.trod_lt m _ _ _ hm
  obtain ⟨R1, C1, xs1, m1, rb1, cb1⟩ := open_xm (hval 1 24 v1 rfl rfl) h1
  clear hA0 hval0
  refine (walk x0 v1 R1 C1 xs1 W  m1).mono fun e W' ⟨he, bel⟩ => ?_
  subst he
  exact ⟨_, rfl, _, _, _, [], _, [], hW', trodAll_mk1 (shut_bool Try.underlying4 _), (trodAll_cons_mk (Below.trod laidOut (by kernel_rfl) (of_decide_eq_true (by kernel_rfl)) k0 bel lt0) (trodAll_cons_mk (Below.trod laidOut (by kernel_rfl) (of_decide_eq_true (by kernel_rfl)) k1 bel lt1) trodAll_mk0)), rfl, bel.frame _, fun h => by cases h⟩

theorem over : Rows.xformMinorsRow.holds Try.pinned (OpenSpec.ofChange Rows.xformMinorsSpec) :=
  OpenClaim.holds_of_wide 4 Try.f4 rfl rfl rfl rfl rfl rfl rfl ⟨rfl, rfl, rfl, rfl, rfl⟩ rfl rfl rfl rfl rfl (by kernel_rfl) Try.func4 (by kernel_rfl)
    (of_decide_eq_true (by kernel_rfl)) (by unfold Func.isWrapper; first | (rw [if_pos (by decide +kernel)]; kernel_rfl) | (rw [if_neg (by decide +kernel)]; exact ⟨rfl, rfl⟩))
    (fun os started H enc _ => lifted os started H enc)

theorem proved : Rows.XformMinorsSaid := over
#print axioms proved
end Go.Proofs.Ytkmfhabgempjiaa.xformMinors
