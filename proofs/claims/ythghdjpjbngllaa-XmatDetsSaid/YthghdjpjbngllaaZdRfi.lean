/- The reference of chapter 22: determinants of polynomials. -/
import Derived.Test.YthghdjpjbngllaaZdRfh
namespace Go.Proofs.Ythghdjpjbngllaa
open Go.RowKit

/-- A determinant's summand. -/
def ddG {p : Nat} (n : Nat) (M : Nat → Nat → Pol (Zp p)) : Nat → Pol (Zp p) := fun k => sg k (M 0 k * dn n (mnr M k))
theorem ddG_even {p n k : Nat} {M : Nat → Nat → Pol (Zp p)} (h : k % 2 = 0) : sm (k + 1) (ddG n M) = sm k (ddG n M) + M 0 k * dn n (mnr M k) := by
  show _ + ddG n M k = _
  unfold ddG sg; rw [if_neg (by omega)]
theorem ddG_odd {p n k : Nat} {M : Nat → Nat → Pol (Zp p)} (h : k % 2 = 1) : sm (k + 1) (ddG n M) = sm k (ddG n M) + -(M 0 k * dn n (mnr M k)) := by
  show _ + ddG n M k = _
  unfold ddG sg; rw [if_pos h]

set_option maxRecDepth 20000 in
set_option maxHeartbeats 4000000 in
theorem rf22_Det_step (p B n L0 L : Nat) (hp : FP p) (hn : n < 8) (hL : L = B + L0) (hL2 : L ≤ 100000) (ih : ∀ (v : Value) (M : Nat → Nat → Pol (Zp p)) (U : Nat → Value) (E : Nat → Nat → Value) (w : World), Pm p B w v n n M U E → Calls Try.prog 82 #[v, .int .u64 p] w (RetP p w L0 (dn n M)))
    (v : Value) (M : Nat → Nat → Pol (Zp p)) (U : Nat → Value) (E : Nat → Nat → Value) (w : World) (N : Nat) (hN : N = n + 1) (hm : Pm p B w v N N M U E) :
    Calls Try.prog 82 #[v, .int .u64 p] w (RetP p w L (sm N (ddG n M))) := by
  obtain ⟨bl, ol, cl, rfl, hcl, hbl, hcell⟩ := hm.hd.pos (by omega)
  have HP := Lib.hid hp; clear hp
  have IH := Lib.hid ih; clear ih
  have hp1 := HP.out.1; have hp2 := HP.out.2
  have hN0 : ((N : Int) == 0) = false := by simpa using (show N ≠ 0 by omega)
  have hN8 : N ≤ 8 := by omega
  have hnN : n < N := by omega
  have HN := Lib.hid hN; clear hN
  have HL := Lib.hid hL; clear hL
  have hm0 := hm
  have HM := Lib.hid hm0; clear hm0 hm
  have HC := Lib.hid hcell; clear hcell
  go_enter Try.func82, Try.ntmps82
  go_wp2
  go_loopw [6, 5] (fun kv ov wr => ∃ (k : Nat) (zs : List Nat), k ≤ N ∧ kv = .int .i64 k ∧ Own .u64 27 wr w.heap.size ov zs ∧ Nrm p zs ∧ pl p zs = sm k (ddG n M) ∧ zs.length ≤ L ∧ Below w.heap.size w wr) (fun kv _ _ => N - (intOf kv).toNat)
  case atStart => exact ⟨0, [], by omega, rfl, Own.nil _ _ _ _, ⟨wf_nil _, rfl⟩, pl_nil p, Nat.zero_le _, Below.refl _ _⟩
  case round =>
    obtain ⟨k, zs, hk, rfl, ho, hnz, hval, hzl, B1⟩ := hrel
    have HV := Lib.hid (And.intro hnz (And.intro hval hzl)); clear hnz hval hzl
    obtain ⟨wk, hwk⟩ : ∃ wk, wk = wr := ⟨_, rfl⟩
    subst hwk
    by_cases hkN : k < N
    · have hmk := HM.out.next B1
      go_wp2
      go_loopw [8, 7] (fun iv rv wr => ∃ ii : Nat, 1 ≤ ii ∧ ii ≤ N ∧ iv = .int .i64 ii ∧ DeR wk wr n k E rv (ii - 1)) (fun iv _ _ => N - (intOf iv).toNat)
      case atStart => exact ⟨1, by omega, by omega, rfl, DeR.start _ _ _ _⟩
      case round =>
        obtain ⟨ii, hi1, hi, rfl, st⟩ := hrel
        by_cases hin : ii < N
        · obtain ⟨U', s1, s2, hB2⟩ := st
          have hr := hmk.row ii hin
          obtain ⟨bi, oi, ci, eui, hci, hbi, hcelli⟩ := hr.pos (by omega)
          have q1 : wr.cell? ⟨bl, ol + ii, none⟩ = some (.slice (some ⟨bi, oi, none⟩) N ci) := by
            rw [← eui]
            exact (((B1.trans (hB2.mono B1.size)).cell (p := ⟨bl, ol + ii, none⟩) hbl)).trans (HC.out ii hin)
          have hbs : wk.heap.size ≤ wr.heap.size := hB2.size
          have hbi2 : bi < wr.heap.size := Nat.lt_of_lt_of_le hbi hbs
          have hbl2 : bl < wr.heap.size := Nat.lt_of_lt_of_le hbl (Nat.le_trans B1.size hbs)
          have hcr : ∀ j, j < N → wr.cell? ⟨bi, oi + j, none⟩ = some (E ii j) := fun j hj => (hB2.cell (p := ⟨bi, oi + j, none⟩) hbi).trans (hcelli j hj)
          have hone : ∀ j, j < N → (E ii j).oneCell' = true := fun j hj => (hmk.el ii j hin hj).one
          have hki : k ≤ ci := by omega
          have hk1 : k + 1 ≤ N := by omega
          have HCR := Lib.hid hcr; have HONE := Lib.hid hone; have HBI := Lib.hid (And.intro hbi2 hbl2)
          clear hcr hone hr hcelli hbi2 hbl2
          obtain ⟨i, ei⟩ : ∃ i, ii = i + 1 := ⟨ii - 1, by omega⟩
          have HI := Lib.hid ei
          rw [show ii - 1 = i by omega] at s1 s2
          clear ei
          go_wp2_with (at_builtin; refine apWl 99 32 24 (.slice none 0 0) Try.underlying99 (by kernel_rfl) (by decide) rfl rfl _ _ rfl wr wr.heap.size (.slice none 0 0) 0 [] (World.ownsRow_nil _ _ _ _) (Nat.le_refl _) _ _ _ (rowL k (E ii)) rfl rfl ?_ ?_ ?_ ?_ ?_)
          · simp [rowL_length]
          · intro j u hj
            have h := win_news HCR.out 0 k (by omega) j u (by simpa using hj)
            simpa using h
          · intro u hu
            obtain ⟨j, hj, rfl⟩ := List.mem_map.1 hu
            exact HONE.out j (by have := List.mem_range.1 hj; omega)
          · omega
          intro r1 w4 ho4 hb4 hg4
          clear hg4
          have q4 : w4.cell? ⟨bl, ol + ii, none⟩ = some (.slice (some ⟨bi, oi, none⟩) N ci) := (hb4.cell (p := ⟨bl, ol + ii, none⟩) HBI.out.2).trans q1
          have ho4' : w4.ownsRow wr.heap.size 32 1 r1 k (rowL k (E ii)) := by
            have h := ho4
            simpa using h
          clear ho4 q1
          have hb4s := hb4.size
          rcases Nat.lt_or_ge (k + 1) ci with hkc | hkc
          · go_wp2_with (at_builtin; refine apWl 99 32 24 (.slice none 0 0) Try.underlying99 (by kernel_rfl) (by decide) rfl rfl _ _ rfl w4 wr.heap.size r1 k (rowL k (E ii)) ho4' hb4s _ _ _ (rowL (N - (k + 1)) (fun j => E ii (k + 1 + j))) rfl rfl ?_ ?_ ?_ ?_ ?_)
            · rw [rowL_length]
            · intro j u hj
              have h := win_news (fun j hj => (hb4.cell (p := ⟨bi, oi + j, none⟩) HBI.out.1).trans (HCR.out j hj)) (k + 1) (N - (k + 1)) (by omega) j u hj
              exact h
            · intro u hu
              obtain ⟨j, hj, rfl⟩ := List.mem_map.1 hu
              exact HONE.out _ (by have := List.mem_range.1 hj; omega)
            · omega
            intro r2 w5 ho5 hb5 hg5
            clear hg5 q4 ho4'
            rw [rowL_cut (E ii) HN.out hkN, HI.out] at ho5
            replace ho5 := rowOwn_cast (m := n) ho5 (by have := HN.out; omega)
            have b5 := hb4.trans hb5
            clear hb4 hb5 hb4s
            have hb5s : wk.heap.size ≤ w5.heap.size := Nat.le_trans hbs b5.size
            obtain ⟨a2, c2, rfl⟩ : ∃ a c, r2 = .slice a n c := by
              rcases rowOwn_shape ho5 with ⟨rfl, e⟩ | ⟨g, c, rfl, _⟩
              · exact ⟨_, _, by rw [e]⟩
              · exact ⟨_, _, rfl⟩
            have s15 := rowOwn_next s1 b5 (Nat.le_refl _)
            have ho5' := rowOwn_mono ho5 hbs
            clear ho5
            go_wp2_with (at_builtin; refine apVl 98 99 24 (.slice none 0 0) Try.underlying98 (by kernel_rfl) (by decide) rfl rfl _ _ rfl w5 wk.heap.size _ i (rowL i U') (.slice a2 n c2) rfl s15 (by have := HI.out; omega) hb5s rfl rfl ?_; intro g6 cap6 w6 ho6 hb6 hg6 _)
            have st := Lib.hid (show DeR wk w6 n k E (.slice (some ⟨g6, 0, none⟩) (i + 1) cap6) (ii + 1 - 1) by
              rw [Nat.add_sub_cancel, HI.out]
              exact DeR.push s1 s2 hB2 b5 ho5' hb6 hg6 ho6)
            clear s1 s2 hB2 b5 ho5' hb6 hg6 ho6 s15 hmk ho B1
            go_wp2
            go_roundw
            case rel => exact ⟨ii + 1, by omega, by omega, by go_num, st.out⟩
            case measure => simp [intOf] <;> omega
          · obtain rfl : ci = k + 1 := by omega
            have hz0 : N - (k + 1) = 0 := by omega
            go_wp2_with (at_builtin; refine apWl 99 32 24 (.slice none 0 0) Try.underlying99 (by kernel_rfl) (by decide) rfl rfl _ _ rfl w4 wr.heap.size r1 k (rowL k (E ii)) ho4' hb4s _ _ _ (rowL (N - (k + 1)) (fun j => E ii (k + 1 + j))) rfl rfl ?_ ?_ ?_ ?_ ?_)
            · rw [rowL_length]; omega
            · intro j u hj
              have := (rowL_get' hj).1; omega
            · intro u hu
              obtain ⟨j, hj, rfl⟩ := List.mem_map.1 hu
              exact HONE.out _ (by have := List.mem_range.1 hj; omega)
            · omega
            intro r2 w5 ho5 hb5 hg5
            clear hg5 q4 ho4'
            have hc5 := rowL_cut (E ii) HN.out hkN
            rw [hz0] at hc5
            rw [hc5, HI.out] at ho5
            clear hc5
            replace ho5 := rowOwn_cast (m := n) ho5 (by have := HN.out; omega)
            have b5 := hb4.trans hb5
            clear hb4 hb5 hb4s
            have hb5s : wk.heap.size ≤ w5.heap.size := Nat.le_trans hbs b5.size
            obtain ⟨a2, c2, rfl⟩ : ∃ a c, r2 = .slice a n c := by
              rcases rowOwn_shape ho5 with ⟨rfl, e⟩ | ⟨g, c, rfl, _⟩
              · exact ⟨_, _, by rw [e]⟩
              · exact ⟨_, _, rfl⟩
            have s15 := rowOwn_next s1 b5 (Nat.le_refl _)
            have ho5' := rowOwn_mono ho5 hbs
            clear ho5
            go_wp2_with (at_builtin; refine apVl 98 99 24 (.slice none 0 0) Try.underlying98 (by kernel_rfl) (by decide) rfl rfl _ _ rfl w5 wk.heap.size _ i (rowL i U') (.slice a2 n c2) rfl s15 (by have := HI.out; omega) hb5s rfl rfl ?_; intro g6 cap6 w6 ho6 hb6 hg6 _)
            have st := Lib.hid (show DeR wk w6 n k E (.slice (some ⟨g6, 0, none⟩) (i + 1) cap6) (ii + 1 - 1) by
              rw [Nat.add_sub_cancel, HI.out]
              exact DeR.push s1 s2 hB2 b5 ho5' hb6 hg6 ho6)
            clear s1 s2 hB2 b5 ho5' hb6 hg6 ho6 s15 hmk ho B1
            go_wp2
            go_roundw
            case rel => exact ⟨ii + 1, by omega, by omega, by go_num, st.out⟩
            case measure => simp [intOf] <;> omega
        · obtain rfl : ii = N := by omega
          rw [show ii - 1 = n by have := HN.out; omega] at st
          have hB2 : Below wk.heap.size wk wr := by obtain ⟨_, _, _, h⟩ := st; exact h
          obtain ⟨U2, hpm⟩ := st.fin HN.out hmk
          obtain ⟨E2, eE2⟩ : ∃ E2 : Nat → Nat → Value, E2 = fun i j => E (i + 1) (if j < k then j else j + 1) := ⟨_, rfl⟩
          rw [← eE2] at hpm
          clear st eE2
          have hr := hmk.row 0 (by omega)
          obtain ⟨b0, o0, c0, eu0, hc0, hb0, hcell0⟩ := hr.pos (by omega)
          have q1 : wr.cell? ⟨bl, ol, none⟩ = some (.slice (some ⟨b0, o0, none⟩) ii c0) := by
            rw [← eu0]
            exact (((B1.trans (hB2.mono B1.size)).cell (p := ⟨bl, ol, none⟩) hbl)).trans (HC.out 0 (by omega))
          obtain ⟨x0, ex0⟩ : ∃ x, x = E 0 k := ⟨_, rfl⟩
          have q2 : wr.cell? ⟨b0, o0 + k, none⟩ = some x0 := (hB2.cell (p := ⟨b0, o0 + k, none⟩) hb0).trans (by rw [ex0]; exact hcell0 k hkN)
          have hpe := hmk.el 0 k (by omega) hkN
          rw [← ex0] at hpe
          replace hpe := hpe.next hB2
          obtain ⟨zx, sx, hlx, hvx⟩ := hpe
          have hbl2 : bl < wr.heap.size := Nat.lt_of_lt_of_le hbl (Nat.le_trans B1.size hB2.size)
          have hb02 : b0 < wr.heap.size := Nat.lt_of_lt_of_le hb0 hB2.size
          have HVX := Lib.hid (And.intro hlx hvx)
          replace ho := ho.next hB2
          replace B1 := B1.trans (hB2.mono B1.size)
          clear hr hcell0 eu0 hmk hB2 ex0 hlx hvx hbl hb0
          have h0ii : 0 < ii := by omega
          go_upto_region 15 with (fail)
          have bd := Drawn.below (w' := wr.drew) ⟨1, rfl⟩ wr.heap.size
          replace ho := ho.next bd; replace sx := sx.next bd; replace hpm := hpm.next bd
          replace B1 := B1.trans (bd.mono B1.size)
          replace q1 := (bd.cell (p := ⟨bl, ol, none⟩) hbl2).trans q1
          replace q2 := (bd.cell (p := ⟨b0, o0 + k, none⟩) hb02).trans q2
          replace hbl2 : bl < wr.drew.heap.size := hbl2
          replace hb02 : b0 < wr.drew.heap.size := hb02
          clear bd
          refine startL (S := (fun w' => Below (wr.drew).heap.size (wr.drew) w')) (by kernel_rfl) (Below.refl _ _) (fun hHeld => ?_)
          refine takeL 0 (v := ?_) rfl (by kernel_rfl) (by kernel_rfl) (by kernel_rfl) (fun _ _ _ h => h) ⟨by rfl, ?_⟩ (by assumption) ?_
          rotate_left
          · intro w hS; go_simp <;> with_reducible rfl
          simp only [Act.put, List.setIfInBounds_toArray, List.set_cons_zero, List.set_cons_succ]
          refine takeL 1 (v := ?_) rfl (by kernel_rfl) (by kernel_rfl) (by kernel_rfl) (fun _ _ _ h => h) ⟨by rfl, ?_⟩ (by assumption) ?_
          rotate_left
          · intro w hS; go_simp <;> with_reducible rfl
          simp only [Act.put, List.setIfInBounds_toArray, List.set_cons_zero, List.set_cons_succ]
          refine takeL 2 (v := ?_) rfl (by kernel_rfl) (by kernel_rfl) (by kernel_rfl) (fun _ _ _ h => h) ⟨by rfl, ?_⟩ (by assumption) ?_
          rotate_left
          · intro w hS; have f1 := (hS.cell (p := ⟨bl, ol, none⟩) hbl2).trans q1; have f2 := (hS.cell (p := ⟨b0, o0 + k, none⟩) hb02).trans q2; go_simp <;> with_reducible rfl
          simp only [Act.put, List.setIfInBounds_toArray, List.set_cons_zero, List.set_cons_succ]
          refine takeL 3 (v := ?_) rfl (by kernel_rfl) (by kernel_rfl) (by kernel_rfl) (fun _ _ _ h => h) ⟨by rfl, ?_⟩ (by assumption) ?_
          rotate_left
          · intro w hS; go_simp <;> with_reducible rfl
          simp only [Act.put, List.setIfInBounds_toArray, List.set_cons_zero, List.set_cons_succ]
          refine takeL 4 (v := ?_) rfl (by kernel_rfl) (by kernel_rfl) (by kernel_rfl) (fun _ _ _ h => h) ⟨by rfl, ?_⟩ (by assumption) ?_
          rotate_left
          · intro w hS; go_simp <;> with_reducible rfl
          simp only [Act.put, List.setIfInBounds_toArray, List.set_cons_zero, List.set_cons_succ]
          refine takeL 5 (v := ?_) rfl (by kernel_rfl) (by kernel_rfl) (by kernel_rfl) (fun _ _ _ h => h) ⟨by rfl, ?_⟩ (by assumption) ?_
          rotate_left
          · intro w hS; have f1 := (hS.cell (p := ⟨bl, ol, none⟩) hbl2).trans q1; have f2 := (hS.cell (p := ⟨b0, o0 + k, none⟩) hb02).trans q2; go_simp <;> with_reducible rfl
          simp only [Act.put, List.setIfInBounds_toArray, List.set_cons_zero, List.set_cons_succ]
          refine takeL 6 (v := ?_) rfl (by kernel_rfl) (by kernel_rfl) (by kernel_rfl) (fun _ _ _ h => h) ⟨by rfl, ?_⟩ (by assumption) ?_
          rotate_left
          · intro w hS; go_simp <;> with_reducible rfl
          simp only [Act.put, List.setIfInBounds_toArray, List.set_cons_zero, List.set_cons_succ]
          refine takeL 7 (v := ?_) rfl (by kernel_rfl) (by kernel_rfl) (by kernel_rfl) (fun _ _ _ h => h) ⟨by rfl, ?_⟩ (by assumption) ?_
          rotate_left
          · intro w hS; go_simp <;> with_reducible rfl
          simp only [Act.put, List.setIfInBounds_toArray, List.set_cons_zero, List.set_cons_succ]
          refine takeL 9 (v := ?_) rfl (by kernel_rfl) (by kernel_rfl) (by kernel_rfl) (fun _ _ _ h => h) ⟨by rfl, ?_⟩ (by assumption) ?_
          rotate_left
          · intro w hS; go_simp <;> with_reducible rfl
          simp only [Act.put, List.setIfInBounds_toArray, List.set_cons_zero, List.set_cons_succ]
          refine oneL 8 rfl (by kernel_rfl) (by rfl) (fun K hK => ?_)
          go_simp
          go_at_call 82
          (with_reducible refine (IH.out _ (mnr M k) U2 E2 _ (hpm.next hHeld)).mono ?_); rintro e y1 ⟨r8, z8, rfl, o8, n8, v8, l8, c8⟩; have V8 := Lib.hid (And.intro v8 l8); clear v8 l8 n8
          refine hK.out _ _ (hHeld.trans (c8.mono hHeld.size)) (fun hHeld => ?_)
          clear hK K
          try simp only [Act.put, List.setIfInBounds_toArray, List.set_cons_zero, List.set_cons_succ]
          refine oneL 10 rfl (by kernel_rfl) (by rfl) (fun K hK => ?_)
          go_simp
          go_at_call 108
          (with_reducible refine (ref9_Mul p _ _ zx z8 _ HP.out (sx.next hHeld) o8.sl (by have := HL.out; have := HVX.out.1; omega) (by have := HL.out; have := V8.out.2; omega)).mono ?_); rintro e y2 ⟨r10, z10, rfl, o10, n10, v10, l10, c10⟩
          refine hK.out _ _ (hHeld.trans (c10.mono hHeld.size)) (fun hHeld => ?_)
          clear hK K
          try simp only [Act.put, List.setIfInBounds_toArray, List.set_cons_zero, List.set_cons_succ]
          refine takeL 11 (v := ?_) rfl (by kernel_rfl) (by kernel_rfl) (by kernel_rfl) (fun _ _ _ h => h) ⟨by rfl, ?_⟩ (by assumption) ?_
          rotate_left
          · intro w hS; go_simp <;> with_reducible rfl
          simp only [Act.put, List.setIfInBounds_toArray, List.set_cons_zero, List.set_cons_succ]
          refine doneL (by kernel_rfl) ?_ _
          have V10 := Lib.hid (show Nrm p z10 ∧ pl p z10 = M 0 k * dn n (mnr M k) ∧ z10.length ≤ L from ⟨n10, by rw [v10, HVX.out.2, V8.out.1], by have := HL.out; have := HVX.out.1; have := V8.out.2; omega⟩)
          clear n10 v10 l10
          replace ho := ho.next hHeld
          replace B1 := B1.trans (hHeld.mono B1.size)
          clear hHeld q1 q2 sx hpm c10 c8 o8
          rcases Nat.mod_two_eq_zero_or_one k with hpar | hpar
          · have hp0 : (k : Int).tmod 2 = 0 := (show (k : Int) % 2 = 0 by omega)
            have hp0' : (k : Int) % 2 = 0 := by omega
            go_wp2_with fail
            refine (ref9_Add p _ _ zs z10 _ HP.out ho.sl o10.sl (by have := HV.out.2.2; omega) (by have := V10.out.2.2; omega)).mono ?_; rintro e w9 ⟨r9, z9, rfl, o9, n9, v9, l9, b9⟩
            have V9 := Lib.hid (show Nrm p z9 ∧ pl p z9 = sm (k + 1) (ddG n M) ∧ z9.length ≤ L from ⟨n9, by rw [v9, HV.out.2.1, V10.out.2.1, ddG_even hpar], Nat.le_trans l9 (Nat.max_le.2 ⟨HV.out.2.2, V10.out.2.2⟩)⟩)
            replace o9 := o9.mono B1.size
            replace B1 := B1.trans (b9.mono B1.size)
            clear n9 v9 l9 b9 ho o10
            go_wp2
            go_roundw
            case rel => exact ⟨k + 1, z9, by omega, by go_num, o9, V9.out.1, V9.out.2.1, V9.out.2.2, B1⟩
            case measure => simp [intOf] <;> omega
          · have hp1' : (k : Int).tmod 2 = 1 := (show (k : Int) % 2 = 1 by omega)
            have hp1'' : (k : Int) % 2 = 1 := by omega
            go_wp2_with fail
            refine (ref9_Neg p _ z10 _ HP.out o10.sl (by have := V10.out.2.2; omega)).mono ?_; rintro e w7 ⟨r7, z7, rfl, o7, n7, v7, l7, b7⟩
            have V7 := Lib.hid (show Nrm p z7 ∧ pl p z7 = -(M 0 k * dn n (mnr M k)) ∧ z7.length ≤ L from ⟨n7, by rw [v7, V10.out.2.1], Nat.le_trans l7 V10.out.2.2⟩)
            replace ho := ho.next b7
            replace B1 := B1.trans (b7.mono B1.size)
            clear n7 v7 l7 b7 o10
            go_wp2_with fail
            refine (ref9_Add p _ _ zs z7 _ HP.out ho.sl o7.sl (by have := HV.out.2.2; omega) (by have := V7.out.2.2; omega)).mono ?_; rintro e w9 ⟨r9, z9, rfl, o9, n9, v9, l9, b9⟩
            have V9 := Lib.hid (show Nrm p z9 ∧ pl p z9 = sm (k + 1) (ddG n M) ∧ z9.length ≤ L from ⟨n9, by rw [v9, HV.out.2.1, V7.out.2.1, ddG_odd hpar], Nat.le_trans l9 (Nat.max_le.2 ⟨HV.out.2.2, V7.out.2.2⟩)⟩)
            replace o9 := o9.mono B1.size
            replace B1 := B1.trans (b9.mono B1.size)
            clear n9 v9 l9 b9 ho o7
            go_wp2
            go_roundw
            case rel => exact ⟨k + 1, z9, by omega, by go_num, o9, V9.out.1, V9.out.2.1, V9.out.2.2, B1⟩
            case measure => simp [intOf] <;> omega
    · obtain rfl : k = N := by omega
      go_wp2
      go_ret
      exact ⟨_, zs, rfl, ho, HV.out.1, HV.out.2.1, HV.out.2.2, B1⟩

theorem rf22_Det (p B : Nat) (hp : FP p) : ∀ n : Nat, n ≤ 8 → n * B + 1 ≤ 100000 → ∀ (v : Value) (M : Nat → Nat → Pol (Zp p)) (U : Nat → Value) (E : Nat → Nat → Value) (w : World), Pm p B w v n n M U E → Calls Try.prog 82 #[v, .int .u64 p] w (RetP p w (n * B + 1) (dn n M))
  | 0, _, _, v, M, U, E, w, hm => by
    obtain ⟨ao, c, rfl⟩ := hm.hd.slice
    clear hm
    have hn1 : Nrm p [1] := nrm_1 hp
    have h1 : pl p [1] = (1 : Pol (Zp p)) := pl1
    clear hp
    have HW := Lib.hid (own_lit1 w 1)
    go_enter Try.func82, Try.ntmps82
    go_wp2
    go_ret
    exact ⟨_, [1], rfl, HW.out, hn1, h1, by simp, (Below.refl _ _).alloc (Nat.le_refl _) _⟩
  | n + 1, hn, hB, v, M, U, E, w, hm => rf22_Det_step p B n (n * B + 1) ((n + 1) * B + 1) hp (by omega) (by rw [Nat.succ_mul]; omega) hB (fun v M U E w h => rf22_Det p B hp n (by omega) (by rw [Nat.succ_mul] at hB; omega) v M U E w h) v M U E w (n + 1) rfl hm

end Go.Proofs.Ythghdjpjbngllaa
