/- The references of layer 1: Twice, half, Half. -/
import Derived.Test.YtnnidjhhcnmnnaaRef4
import Derived.Laws.AppendOwnNone
namespace Go.Proofs.Ytnnidjhhcnmnnaa
open Go.RowKit

set_option maxHeartbeats 1000000 in
theorem ref_Twice (v : Value) (xs : List Nat) (n : Nat) (w : World) (base : Nat) (hv : Own .i64 3 w base v xs) (hm : xs.length ≤ 1000000) (hx : wf D16 xs) (hn : n ≤ 1000000) :
    Calls Try.prog 20 #[v, .int .i64 n] w (RetD w (xs.length + n / 16 + 1) (nv D16 xs * 2 ^ n)) := by
  obtain ⟨q, eq⟩ : ∃ q, q = n / 16 := ⟨_, rfl⟩
  obtain ⟨s, es⟩ : ∃ s, s = n % 16 := ⟨_, rfl⟩
  have hs : s < 16 := by omega
  have hq : q ≤ 1000000 := by omega
  have d1 : (n : Int) / 16 = q := by omega
  have d2 : (n : Int) % 16 = s := by omega
  have hpow : nv D16 xs * 2 ^ n = nv D16 xs * D16 ^ q * 2 ^ s := by
    rw [show D16 = 2 ^ 16 from rfl, ← Nat.pow_mul, Nat.mul_assoc, ← Nat.pow_add]; congr 2; omega
  rw [hpow, ← eq]
  have hn0 : (0 : Int) ≤ (n : Int) := Int.natCast_nonneg _
  clear hpow eq es
  have hbound : ∀ k, k ≤ 15 → nv D16 xs * D16 ^ q * 2 ^ k < D16 ^ (xs.length + q + 1) := by
    intro k hk
    have h1 := nv_lt xs hx
    have h2 : 2 ^ k ≤ D16 := by rw [show D16 = 2 ^ 16 from rfl]; exact Nat.pow_le_pow_right (by decide) (by omega)
    rw [Nat.pow_succ, Nat.pow_add]
    have h3 : nv D16 xs * D16 ^ q < D16 ^ xs.length * D16 ^ q := Nat.mul_lt_mul_of_pos_right h1 (Nat.pow_pos (by decide))
    exact Nat.mul_lt_mul_of_lt_of_le h3 h2 (by decide)
  have HBD := Lib.hid hbound; clear hbound
  go_enter Try.func20, Try.ntmps20
  go_wp2
  go_loopw [5, 6] (fun ov kv wr => ∃ k, k ≤ q ∧ kv = .int .i64 (k : Nat) ∧ Own .i64 3 wr w.heap.size ov (List.replicate k 0) ∧ Below w.heap.size w wr) (fun _ kv _ => q - (intOf kv).toNat)
  case atStart => exact ⟨0, by omega, rfl, Own.nil _ _ _ _, Below.refl _ _⟩
  case round =>
    obtain ⟨k, hk, rfl, ho, hb⟩ := hrel
    by_cases hlt : k < q
    · go_wp2_with (at_builtin; refine wp_app1 .i64 25 3 8 Try.underlying25 (by kernel_rfl) (by decide) rfl _ _ rfl wr w.heap.size _ (List.replicate k 0) 0 _ (by rfl) ho (by simp; omega) hb.size rfl rfl ?_; intro v' w1 hown' hbel' hgr' _)
      go_roundw
      case rel => exact ⟨k + 1, by omega, by go_num, by rw [List.replicate_succ']; exact hown', hb.trans hbel'⟩
      case measure => simp [intOf]; omega
    · obtain rfl : q = k := by omega
      have hv2 := hv.below hb (by omega)
      have key : ∃ ao c, v = .slice ao xs.length c ∧ ((ao = none ∧ c = 0 ∧ xs = []) ∨ ∃ ad b off, ao = some ad ∧ Cs .i64 wr (some ad) b off xs) := by
        rcases hv2.shape with ⟨h1, h2⟩ | ⟨g, cap, h1, _⟩
        · exact ⟨none, 0, by rw [h1, h2]; rfl, .inl ⟨rfl, rfl, h2⟩⟩
        · subst h1; exact ⟨_, cap, rfl, .inr ⟨_, g, 0, rfl, hv2.cs⟩⟩
      obtain ⟨ao, c, rfl, ⟨rfl, rfl, rfl⟩ | ⟨ad, b, off, rfl, hcs⟩⟩ := key
      · have ho' := ho
        rw [← List.append_nil (List.replicate q 0)] at ho'
        have HO := Lib.hid ho'; clear ho'
        have HB := Lib.hid hb
        clear hv2 hv
        obtain ⟨i0, h1, h2, h3, h4⟩ := info_parts (show (Try.prog.info? 3).map (fun i => (i.zero, i.size, i.bytes)) = some (some (.int .i64 0), 1, 8) from by kernel_rfl)
        go_wp2_with (at_builtin; refine wpList_append_own_none rfl _ _ 25 rfl w.heap.size 3 i0 1 Try.underlying25 h1 _ _ _ rfl ho rfl ?_)
        go_loopw [5, 7] (fun ov kv wr => ∃ k zs, k ≤ s ∧ kv = .int .i64 (k : Nat) ∧ Own .i64 3 wr w.heap.size ov zs ∧ Below w.heap.size w wr ∧ wf D16 zs ∧ zs.length ≤ ([] : List Nat).length + q + 1 ∧ nv D16 zs = nv D16 ([] : List Nat) * D16 ^ q * 2 ^ k) (fun _ kv _ => s - (intOf kv).toNat)
        case atStart => exact ⟨0, List.replicate q 0 ++ [], by omega, rfl, HO.out, HB.out, wf_append (wf_replicate0 (by decide) _) hx, by simp <;> omega, by rw [nv_append, nv_replicate0]; simp [Nat.mul_comm]⟩
        case round =>
          obtain ⟨k, zs, hk2, rfl, ho2, hb2, hw2, hl2, hv2⟩ := hrel
          have HV := Lib.hid hv2; clear hv2
          by_cases hlt2 : k < s
          · go_wp2_with fail
            refine (ref_Add _ _ zs zs _ ho2.sl ho2.sl (by omega) (by omega) hw2 hw2).mono ?_; rintro e w2 ⟨r, z, rfl, hr, nr, vr, lr, br⟩
            have hval : nv D16 z = nv D16 ([] : List Nat) * D16 ^ q * 2 ^ (k + 1) := by rw [vr, HV.out, Nat.pow_succ, ← Nat.mul_assoc, Nat.mul_two]
            have hlen : z.length ≤ ([] : List Nat).length + q + 1 := nrm_len_le (by decide) nr (by rw [hval]; exact HBD.out (k + 1) (by omega))
            have HVAL := Lib.hid hval; clear hval vr lr
            go_wp2
            go_roundw
            case rel => exact ⟨k + 1, z, by omega, by go_num, hr.mono hb2.size, hb2.trans (br.mono hb2.size), nr.1, hlen, HVAL.out⟩
            case measure => simp [intOf]; omega
          · obtain rfl : k = s := by omega
            go_wp2_with (go_at_call 44; refine (ref_Trim_own _ _ _ _ ho2 (by omega)).mono ?_; rintro e w' ⟨r, rfl, hr, rfl⟩)
            go_ret
            exact ⟨_, tr zs, rfl, hr, nrm_tr hw2, by rw [nv_tr, HV.out], by have := tr_len zs; omega, hb2⟩
      · go_wp2_with (at_builtin; refine wp_appS .i64 25 3 8 Try.underlying25 (by kernel_rfl) (by decide) rfl _ _ rfl wr w.heap.size _ (List.replicate q 0) xs ho (by simp; omega) hb.size rfl ad b off c rfl hcs ?_; intro v' w1 hown hbel hgr)
        have HO := Lib.hid hown
        have HB := Lib.hid (hb.trans hbel)
        clear hown hbel hgr
        go_loopw [5, 7] (fun ov kv wr => ∃ k zs, k ≤ s ∧ kv = .int .i64 (k : Nat) ∧ Own .i64 3 wr w.heap.size ov zs ∧ Below w.heap.size w wr ∧ wf D16 zs ∧ zs.length ≤ xs.length + q + 1 ∧ nv D16 zs = nv D16 xs * D16 ^ q * 2 ^ k) (fun _ kv _ => s - (intOf kv).toNat)
        case atStart => exact ⟨0, List.replicate q 0 ++ xs, by omega, rfl, HO.out, HB.out, wf_append (wf_replicate0 (by decide) _) hx, by simp <;> omega, by rw [nv_append, nv_replicate0]; simp [Nat.mul_comm]⟩
        case round =>
          obtain ⟨k, zs, hk2, rfl, ho2, hb2, hw2, hl2, hv2⟩ := hrel
          have HV := Lib.hid hv2; clear hv2
          by_cases hlt2 : k < s
          · go_wp2_with fail
            refine (ref_Add _ _ zs zs _ ho2.sl ho2.sl (by omega) (by omega) hw2 hw2).mono ?_; rintro e w2 ⟨r, z, rfl, hr, nr, vr, lr, br⟩
            have hval : nv D16 z = nv D16 xs * D16 ^ q * 2 ^ (k + 1) := by rw [vr, HV.out, Nat.pow_succ, ← Nat.mul_assoc, Nat.mul_two]
            have hlen : z.length ≤ xs.length + q + 1 := nrm_len_le (by decide) nr (by rw [hval]; exact HBD.out (k + 1) (by omega))
            have HVAL := Lib.hid hval; clear hval vr lr
            go_wp2
            go_roundw
            case rel => exact ⟨k + 1, z, by omega, by go_num, hr.mono hb2.size, hb2.trans (br.mono hb2.size), nr.1, hlen, HVAL.out⟩
            case measure => simp [intOf]; omega
          · obtain rfl : k = s := by omega
            go_wp2_with (go_at_call 44; refine (ref_Trim_own _ _ _ _ ho2 (by omega)).mono ?_; rintro e w' ⟨r, rfl, hr, rfl⟩)
            go_ret
            exact ⟨_, tr zs, rfl, hr, nrm_tr hw2, by rw [nv_tr, HV.out], by have := tr_len zs; omega, hb2⟩


theorem half_arith {zs A : List Nat} {i x y : Nat} (hl : zs.length = i) (hw : wf D16 zs) (hv : 2 * nv D16 zs + A.getD 0 0 % 2 = nv D16 (A.take i) + D16 ^ i * (A.getD i 0 % 2))
    (hx : x = A.getD i 0) (hy : y = A.getD (i + 1) 0) (hxl : x < 65536) :
    (zs ++ [x / 2 + y % 2 * 32768]).length = i + 1 ∧ wf D16 (zs ++ [x / 2 + y % 2 * 32768]) ∧ 2 * nv D16 (zs ++ [x / 2 + y % 2 * 32768]) + A.getD 0 0 % 2 = nv D16 (A.take (i + 1)) + D16 ^ (i + 1) * (A.getD (i + 1) 0 % 2) := by
  refine ⟨by simp [hl], wf_append hw (wf_cons (by unfold D16; omega) (wf_nil _)), ?_⟩
  rw [nv_snoc, hl, nv_take_succ', ← hx, ← hy, Nat.pow_succ]
  rw [← hx] at hv
  have h4 : 2 * (x / 2 + y % 2 * 32768) + x % 2 = x + D16 * (y % 2) := by unfold D16; omega
  have h5 : D16 ^ i * (2 * (x / 2 + y % 2 * 32768) + x % 2) = D16 ^ i * (x + D16 * (y % 2)) := by rw [h4]
  have h6 : 2 * (D16 ^ i * (x / 2 + y % 2 * 32768)) = D16 ^ i * (2 * (x / 2 + y % 2 * 32768)) := by simp [Nat.mul_left_comm]
  rw [Nat.mul_add (D16 ^ i) (2 * _)] at h5
  rw [Nat.mul_add (D16 ^ i) x] at h5
  rw [Nat.mul_add, h6, Nat.mul_assoc]
  omega

theorem half_end {zs A : List Nat} (hv : 2 * nv D16 zs + A.getD 0 0 % 2 = nv D16 (A.take A.length) + D16 ^ A.length * (A.getD A.length 0 % 2)) : nv D16 zs = nv D16 A / 2 := by
  have h0 : A.getD A.length 0 = 0 := by unfold List.getD; rw [List.getElem?_eq_none (by omega)]; rfl
  rw [h0, List.take_length] at hv
  simp at hv; omega

/-- Where the loop of half stands. -/
def HalfRel (w wr : World) (A : List Nat) (i : Nat) (v : Value) (zs : List Nat) : Prop :=
  Own .i64 3 wr w.heap.size v zs ∧ Below w.heap.size w wr ∧ zs.length = i ∧ wf D16 zs ∧ 2 * nv D16 zs + A.getD 0 0 % 2 = nv D16 (A.take i) + D16 ^ i * (A.getD i 0 % 2)

/-- Digits are returned, as many as there were. -/
def RetH (w : World) (L N : Nat) (e : Ending) (w' : World) : Prop :=
  ∃ r zs, e = .returned r ∧ Own .i64 3 w' w.heap.size r zs ∧ wf D16 zs ∧ nv D16 zs = N ∧ zs.length = L ∧ Below w.heap.size w w'

set_option maxHeartbeats 1000000 in
theorem ref_half (v : Value) (A : List Nat) (w : World) (hv : Sl .i64 w v A) (hm : A.length ≤ 100000000) (hx : wf D16 A) :
    Calls Try.prog 48 #[v] w (RetH w A.length (nv D16 A / 2)) := by
  obtain ⟨ao, b, off, cap, rfl, hl, hcs⟩ := hv
  go_enter Try.func48, Try.ntmps48
  go_wp2
  go_loopw [3, 4] (fun ov iv wr => ∃ i zs, i ≤ A.length ∧ iv = .int .i64 (i : Nat) ∧ HalfRel w wr A i ov zs) (fun _ iv _ => A.length - (intOf iv).toNat)
  case atStart => exact ⟨0, [], by omega, rfl, Own.nil _ _ _ _, Below.refl _ _, rfl, wf_nil _, by simp [nv]⟩
  case round =>
    obtain ⟨i, zs, hi, rfl, ho, hb, hzl, hwz, hval⟩ := hrel
    have HV := Lib.hid hval; clear hval
    have HL := Lib.hid hzl; clear hzl
    by_cases hlt : i < A.length
    · obtain rfl := hcs.ao (by intro h0; subst h0; simp at hlt)
      obtain ⟨x, ex⟩ : ∃ x, x = A.getD i 0 := ⟨_, rfl⟩
      obtain ⟨y, ey⟩ : ∃ y, y = A.getD (i + 1) 0 := ⟨_, rfl⟩
      have hxl : x < 65536 := by rw [ex]; exact wf_getD hx (by decide) i
      have hyl : y < 65536 := by rw [ey]; exact wf_getD hx (by decide) (i + 1)
      have hcx := (hcs.below hb (Nat.le_refl _)).cell i hlt
      have AR := half_arith HL.out hwz HV.out ex ey hxl
      have HAR := Lib.hid AR; clear AR
      have a2 : Calls Try.prog 53 #[.slice (some ⟨b, off, none⟩) A.length cap, .int .i64 ((i : Int) + 1)] wr.drew fun e w' => e = .returned (.int .i64 (y : Nat)) ∧ wr.drew = w' := by
        have h := ref_at (.slice (some ⟨b, off, none⟩) A.length cap) A (i + 1) wr.drew (Sl.drawn ⟨_, b, off, cap, rfl, hl, (hcs.below hb (Nat.le_refl _))⟩ ⟨1, rfl⟩)
        rw [← ey] at h
        exact h
      have A2 := Lib.hid a2; clear a2
      rw [← ex] at hcx
      have EX := Lib.hid ex; clear ex
      have EY := Lib.hid ey; clear ey
      have hbw : b < w.heap.size := hcs.lt (by intro h0; subst h0; simp at hlt)
      have i0 : (0 : Int) ≤ (i : Int) := Int.natCast_nonneg _
      have i1 : (i : Int) < (A.length : Int) := by omega
      have s1 : IntKind.i64.wrap ((i : Int) + 1) = (i : Int) + 1 := IntWalk.i64_in _ ⟨by omega, by omega⟩
      obtain ⟨hh, ehh⟩ : ∃ hh, hh = x / 2 := ⟨_, rfl⟩
      obtain ⟨mm, emm⟩ : ∃ mm, mm = y % 2 := ⟨_, rfl⟩
      obtain ⟨pp, epp⟩ : ∃ pp, pp = mm * 32768 := ⟨_, rfl⟩
      obtain ⟨zz, ezz⟩ : ∃ zz, zz = hh + pp := ⟨_, rfl⟩
      have t1 : IntKind.i64.wrap ((x : Int) / 2) = (hh : Int) := by rw [ehh, IntWalk.i64_in _ ⟨by omega, by omega⟩]; omega
      have t2 : (y : Int).tmod 2 = (mm : Int) := by rw [emm, Int.tmod_eq_emod_of_nonneg (by omega)]; omega
      have t3 : IntKind.i64.wrap ((mm : Int) * 32768) = (pp : Int) := by rw [IntWalk.i64_in _ ⟨by omega, by omega⟩]; omega
      have t4 : IntKind.i64.wrap ((hh : Int) + (pp : Int)) = (zz : Int) := by rw [IntWalk.i64_in _ ⟨by omega, by omega⟩]; omega
      have hzz : x / 2 + y % 2 * 32768 = zz := by rw [ezz, epp, emm, ehh]
      rw [hzz] at HAR
      clear hzz ezz epp emm ehh
      have hlz : zs.length ≤ 1000000000 := by rw [HL.out]; omega
      have hbs := hb.size
      go_wp2
      go_region_held3 (fun w' => w'.cell? ⟨b, off + i, none⟩ = some (.int .i64 (x : Int))) (first | go_keep | (go_split_ands; exact (hbel1.cell (p := ⟨b, off + i, none⟩) hbw).trans (by assumption)))
        ((first
          | (go_at_call 53; refine A2.out.mono ?_; rintro e w' ⟨rfl, rfl⟩)
          | (refine step_app1 .i64 25 3 8 Try.underlying25 (by kernel_rfl) (by decide) (by rfl) _ _ (by rfl) wr w.heap.size _ zs zz _ (by rfl) ho hlz hbs (by rfl) (by rfl) ?_; intro g cap1 w1 hown1 hbel1)))
      go_wp2
      go_roundw
      case rel => exact ⟨i + 1, zs ++ [zz], by omega, by go_num, hown1, hb.trans hbel1, HAR.out.1, HAR.out.2.1, HAR.out.2.2⟩
      case measure => simp [intOf]; omega
    · obtain rfl : i = A.length := by omega
      go_wp2
      go_ret
      exact ⟨_, zs, rfl, ho, hwz, half_end HV.out, HL.out, hb⟩

theorem nv_drop16 (xs : List Nat) (k : Nat) (hx : wf D16 xs) : nv D16 (xs.drop k) = nv D16 xs / D16 ^ k := by
  by_cases hk : k ≤ xs.length
  · rw [nv_take_drop D16 xs k hk, Nat.add_mul_div_left _ _ (Nat.pow_pos (by decide))]
    have h1 := nv_lt (xs.take k) (wf_take hx k)
    have e1 : (xs.take k).length = k := by simp; omega
    rw [e1] at h1
    rw [Nat.div_eq_of_lt h1]; simp
  · rw [List.drop_eq_nil_of_le (by omega)]
    have h1 := nv_lt xs hx
    have h2 : D16 ^ xs.length ≤ D16 ^ k := Nat.pow_le_pow_right (by decide) (by omega)
    rw [Nat.div_eq_of_lt (by omega)]; rfl

set_option maxHeartbeats 1000000 in
theorem ref_Half (v : Value) (xs : List Nat) (n : Nat) (w : World) (hv : Sl .i64 w v xs) (hm : xs.length ≤ 1000000) (hx : wf D16 xs) (hn : (n : Int) ≤ 9223372036854775807) :
    Calls Try.prog 21 #[v, .int .i64 n] w (RetD w xs.length (nv D16 xs / 2 ^ n)) := by
  obtain ⟨ao, b, off, cap, rfl, hl, hcs⟩ := hv
  obtain ⟨q, eq⟩ : ∃ q, q = n / 16 := ⟨_, rfl⟩
  obtain ⟨s, es⟩ : ∃ s, s = n % 16 := ⟨_, rfl⟩
  have hs : s < 16 := by omega
  have d1 : (n : Int) / 16 = q := by omega
  have d2 : (n : Int) % 16 = s := by omega
  have hpow : nv D16 xs / 2 ^ n = nv D16 (xs.drop q) / 2 ^ s := by
    rw [nv_drop16 xs q hx, Nat.div_div_eq_div_mul, show D16 = 2 ^ 16 from rfl, ← Nat.pow_mul, ← Nat.pow_add]
    congr 2; omega
  rw [hpow]
  have hn0 : (0 : Int) ≤ (n : Int) := Int.natCast_nonneg _
  clear hpow eq es
  by_cases hge : xs.length ≤ q
  · rw [List.drop_eq_nil_of_le hge]
    go_enter Try.func21, Try.ntmps21
    go_wp2
    go_ret
    exact ⟨_, [], rfl, Own.nil _ _ _ _, nrm_nil _, by simp [nv], by simp, Below.refl _ _⟩
  · obtain rfl := hcs.ao (by intro h; subst h; simp at hge)
    have hq : q < xs.length := by omega
    have hqc : ¬ cap = q := by omega
    obtain ⟨A, eA⟩ : ∃ A, A = xs.drop q := ⟨_, rfl⟩
    rw [← eA]
    have lA : A.length = xs.length - q := by rw [eA]; simp
    have wA : wf D16 A := by rw [eA]; exact wf_drop hx q
    have hcA : Cs .i64 w (some ⟨b, off + q, none⟩) b (off + q) A := ⟨fun _ => rfl, fun j hj => by
      have e : A.getD j 0 = xs.getD (q + j) 0 := by rw [eA]; simp [List.getD, List.getElem?_drop]
      rw [e, Nat.add_assoc]; exact hcs.cell (q + j) (by omega)⟩
    have hxA : xs.length = q + A.length := by omega
    have hAl : A.length ≤ 1000000 := by omega
    have hA0 : 0 < A.length := by omega
    rw [hxA] at hl ⊢
    clear lA eA hcs hge hxA hx hm hq
    go_enter Try.func21, Try.ntmps21
    go_wp2_with (at_builtin; refine wp_appS .i64 25 3 8 Try.underlying25 (by kernel_rfl) (by decide) rfl _ _ rfl w w.heap.size _ [] A (Own.nil _ _ _ _) (by simp; omega) (Nat.le_refl _) rfl ⟨b, off + q, none⟩ b (off + q) (cap - q) rfl hcA ?_; intro v' w1 hown hbel hgr)
    go_loopw [5, 6] (fun ov kv wr => ∃ k zs, k ≤ s ∧ kv = .int .i64 (k : Nat) ∧ Own .i64 3 wr w.heap.size ov zs ∧ Below w.heap.size w wr ∧ wf D16 zs ∧ zs.length = A.length ∧ nv D16 zs = nv D16 A / 2 ^ k) (fun _ kv _ => s - (intOf kv).toNat)
    case atStart => exact ⟨0, A, by omega, rfl, hown, hbel, wA, rfl, by simp⟩
    case round =>
      obtain ⟨k, zs, hk2, rfl, ho2, hb2, hw2, hl2, hv2⟩ := hrel
      have HV := Lib.hid hv2; clear hv2
      have HL := Lib.hid hl2; clear hl2
      by_cases hlt2 : k < s
      · go_wp2_with fail
        refine (ref_half _ zs _ ho2.sl (by rw [HL.out]; omega) hw2).mono ?_; rintro e w2 ⟨r, z, rfl, hr, nr, vr, lr, br⟩
        have HVAL := Lib.hid vr
        have HLL := Lib.hid lr
        clear vr lr
        go_wp2
        go_roundw
        case rel => exact ⟨k + 1, z, by omega, by go_num, hr.mono hb2.size, hb2.trans (br.mono hb2.size), nr, by rw [HLL.out, HL.out], by rw [HVAL.out, HV.out, Nat.div_div_eq_div_mul, Nat.pow_succ]⟩
        case measure => simp [intOf]; omega
      · obtain rfl : k = s := by omega
        go_wp2_with (go_at_call 44; refine (ref_Trim_own _ _ _ _ ho2 (by rw [HL.out]; omega)).mono ?_; rintro e w' ⟨r, rfl, hr, rfl⟩)
        go_ret
        exact ⟨_, tr zs, rfl, hr, nrm_tr hw2, by rw [nv_tr, HV.out], by have h1 := tr_len zs; have h2 := HL.out; omega, hb2⟩

end Go.Proofs.Ytnnidjhhcnmnnaa
