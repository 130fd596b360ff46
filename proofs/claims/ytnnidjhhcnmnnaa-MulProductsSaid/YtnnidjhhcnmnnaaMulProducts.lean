/- MulProducts: for all lists of naturals the law returns true: they have the product that the chapter says, in whatever order. No condition. -/
import Derived.Test.YtnnidjhhcnmnnaaRows
import Derived.Test.YtnnidjhhcnmnnaaOpen
import Derived.Test.YtnnidjhhcnmnnaaProd
import Derived.Test.YtnnidjhhcnmnnaaLaw2
namespace Go.Proofs.Ytnnidjhhcnmnnaa.mulProducts
open Go.ChangeShapes Go.WideShapes Go.ChangeAt Go.RowKit
open Go.ChangeMaps (open_string shut_string)

theorem own : ownKnob Try.prog.godebug = none := by kernel_rfl
theorem laidOut : laidOutB Try.prog = true := by kernel_rfl

theorem Own.kept_i {w w' : World} {base b1 n0 : Nat} {k : IntKind} {e e0 : TypeId} {v v0 : Value} {xs : List Nat} {xs0 : List Value} (h : Own k e w base v xs) (ho : w.ownsRow b1 e0 1 v0 n0 xs0) (hg : w.grownBy w' v0.ownBlock) (he : e0 ≠ e) : Own k e w' base v xs := by
  refine World.ownsRow.kept h hg ?_
  rcases h.2 with ⟨h1, _⟩ | ⟨g, cap, cur, h1, _, h2, _⟩
  · left; rw [h1]; rfl
  · right
    intro e1
    rw [h1] at e1
    exact rowOwn_ne ho h2 he e1.symm
theorem row_kept {w w' : World} {base b1 n n0 : Nat} {e e0 : TypeId} {v v0 : Value} {xs xs0 : List Value} (h : w.ownsRow base e 1 v n xs) (ho : w.ownsRow b1 e0 1 v0 n0 xs0) (hg : w.grownBy w' v0.ownBlock) (he : e0 ≠ e) : w'.ownsRow base e 1 v n xs := by
  refine World.ownsRow.kept h hg ?_
  rcases h.2 with ⟨h1, _⟩ | ⟨g, cap, cur, h1, _, h2, _⟩
  · left; rw [h1]; rfl
  · right
    intro e1
    rw [h1] at e1
    exact rowOwn_ne ho h2 he e1.symm
theorem own_slc {k : IntKind} {e : TypeId} {w : World} {base : Nat} {v : Value} {xs : List Nat} (h : Own k e w base v xs) : ∃ ao c, v = .slice ao xs.length c := by
  rcases h.shape with ⟨rfl, rfl⟩ | ⟨g, cap, rfl, _⟩
  · exact ⟨none, 0, rfl⟩
  · exact ⟨_, _, rfl⟩
/-- Numbers as lists of digits, in a slice. -/
structure Dr (w : World) (base : Nat) (dv : Value) (ds : List (Value × List Nat)) : Prop where
  row : w.ownsRow base 25 1 dv ds.length (ds.map (·.1))
  each : ∀ x, x ∈ ds → Own .i64 3 w base x.1 x.2 ∧ Nrm D16 x.2 ∧ x.2.length ≤ 20
theorem Dr.next {w w' : World} {base : Nat} {dv : Value} {ds : List (Value × List Nat)} (h : Dr w base dv ds) (hb : Below w.heap.size w w') : Dr w' base dv ds :=
  ⟨rowOwn_next h.row hb (Nat.le_refl _), fun x hx => ⟨(h.each x hx).1.next hb, (h.each x hx).2⟩⟩
theorem Dr.slc {w : World} {base : Nat} {dv : Value} {ds : List (Value × List Nat)} (h : Dr w base dv ds) : ∃ ao cap, dv = .slice ao ds.length cap := by
  rcases rowOwn_shape h.row with ⟨h1, h2⟩ | ⟨r, cap, h1, _⟩
  · exact ⟨none, 0, by rw [h1, h2]⟩
  · exact ⟨_, _, h1⟩
def prdD : List (Value × List Nat) → Nat
  | [] => 1
  | p :: ps => nv D16 p.2 * prdD ps
theorem prdD_append (a b : List (Value × List Nat)) : prdD (a ++ b) = prdD a * prdD b := by
  induction a with
  | nil => simp [prdD]
  | cons x xs ih => simp only [List.cons_append, prdD, ih, Nat.mul_assoc]
theorem prl_rev : ∀ qs : List (List Nat), prl qs.reverse = prl qs
  | [] => rfl
  | q :: qs => by rw [List.reverse_cons, prl_append, prl_rev qs]; simp only [prl]; rw [Nat.mul_one, Nat.mul_comm]
theorem sll_rev : ∀ qs : List (List Nat), sll qs.reverse = sll qs
  | [] => rfl
  | q :: qs => by rw [List.reverse_cons, sll_append, sll_rev qs]; simp only [sll]; omega
theorem sll_bd (L : Nat) : ∀ qs : List (List Nat), (∀ j, j < qs.length → (qs.getD j []).length ≤ L) → sll qs ≤ L * qs.length
  | [], _ => by simp [sll]
  | q :: qs, h => by
    have h1 := sll_bd L qs (fun j hj => by have := h (j + 1) (by simp; omega); simpa [List.getD] using this)
    have h2 := h 0 (by simp)
    simp only [List.getD_cons_zero] at h2
    simp only [sll, List.length_cons, Nat.mul_succ]
    omega
theorem dd_take (ds : List (Value × List Nat)) (k : Nat) (hk : k < ds.length) : ds.take (k + 1) = ds.take k ++ [ds[k]] := by
  rw [List.take_succ_eq_append_getElem hk]

set_option maxHeartbeats 1000000 in
theorem ref2_Product (dv : Value) (ds : List (Value × List Nat)) (base : Nat) (w : World) (h : Dr w base dv ds) (hn : ds.length ≤ 8) :
    Calls Try.prog 43 #[dv] w (RetD w 200 (prdD ds)) := by
  obtain ⟨ao, cap, rfl⟩ := h.slc
  have H0 := Lib.hid h
  have hrow := h.row
  clear h
  obtain ⟨wb, ew, K1, B0, hsz⟩ := boxes1 w 3 [.int .i64 1]
  clear hsz
  go_enter Try.func43, Try.ntmps43
  go_upto_region 2 with (fail)
  rw [← ew]
  have st : Own .i64 3 wb w.heap.size (.slice (some ⟨w.heap.size, 0, none⟩) 1 1) [1] := ⟨rfl, .inr ⟨w.heap.size, 1, _, rfl, Nat.le_refl _, K1, Nat.le_refl _, by decide, rfl, rfl⟩⟩
  clear ew K1
  have ST := Lib.hid st
  clear st
  go_wp2
  go_loopw [3, 4] (fun ov iv wr => ∃ (i : Nat) (zs : List Nat), iv = .int .i64 i ∧ i ≤ ds.length ∧ Own .i64 3 wr w.heap.size ov zs ∧ Nrm D16 zs ∧ nv D16 zs = prdD (ds.take i) ∧ zs.length ≤ 1 + 20 * i ∧ Below w.heap.size w wr) (fun _ iv _ => ds.length - (intOf iv).toNat)
  case atStart => exact ⟨0, [1], rfl, by omega, ST.out, ⟨wf_cons (by decide) (wf_nil _), rfl⟩, rfl, by simp, B0⟩
  case round =>
    obtain ⟨i, zs, rfl, hi, ho, hz, hval, hlz, hB⟩ := hrel
    have HV := Lib.hid hval; clear hval
    by_cases hin : i < ds.length
    · obtain ⟨x, ex⟩ : ∃ x, x = ds[i]'hin := ⟨_, rfl⟩
      have hx := H0.out.each x (by rw [ex]; exact List.getElem_mem hin)
      have HT := Lib.hid (show ds.take (i + 1) = ds.take i ++ [x] by rw [dd_take ds i hin, ex])
      obtain ⟨v, ys⟩ := x
      obtain ⟨r, cp, e1, -⟩ : ∃ r cap', (Value.slice ao ds.length cap) = .slice (some ⟨r, 0, none⟩) ds.length cap' ∧ True := by
        rcases rowOwn_shape hrow with ⟨_, h1⟩ | ⟨r, cap', h1, _⟩
        · omega
        · exact ⟨r, cap', h1, trivial⟩
      simp only [Value.slice.injEq, true_and] at e1
      obtain ⟨rfl, rfl⟩ := e1
      have c0 : w.cell? ⟨r, i, none⟩ = some v := by
        rw [World.ownsRow.cellAt hrow i (by omega), List.getElem?_map, List.getElem?_eq_getElem hin, ← ex]; rfl
      have c1 := (hB.cell (p := ⟨r, i, none⟩) (World.block_lt_of_cell? w _ c0)).trans c0
      have hbs := hB.size
      have sx := (hx.1.below hB (Nat.le_refl _)).sl
      have hly := hx.2.2
      have hny : wf D16 ys := hx.2.1.1
      have hnz : wf D16 zs := hz.1
      dsimp only at hly sx
      clear ex c0 hx
      go_wp2_with fail
      refine (ref_Mul _ v zs ys wr ho.sl sx (by omega) (by omega) hnz hny).mono ?_; rintro e w1 ⟨r1, z1, rfl, o1, m1, e1, l1, b1⟩
      have HV2 := Lib.hid (show nv D16 z1 = prdD (ds.take (i + 1)) by rw [e1, HV.out, HT.out, prdD_append]; simp [prdD])
      have B1 := hB.trans (b1.mono hbs)
      have o2 := o1.mono hbs
      clear e1 c1 sx b1 hB ho o1 HV
      go_wp2
      go_roundw
      case rel => exact ⟨i + 1, z1, by go_num, by omega, o2, m1, HV2.out, by omega, B1⟩
      case measure => simp [intOf] <;> omega
    · obtain rfl : i = ds.length := by omega
      have HV2 := Lib.hid (show nv D16 zs = prdD ds by rw [HV.out, List.take_length])
      clear HV
      go_wp2
      go_ret
      exact ⟨_, zs, rfl, ho, hz, HV2.out, by omega, hB⟩

/-- Where the loop of the law stands. -/
def MpR (w wr : World) (qs : List (List Nat)) (W : Nat → Value) (dv tv : Value) (i : Nat) : Prop := ∃ ds, Dr wr w.heap.size dv ds ∧ ds.length = i ∧ prdD ds = prl (qs.take i) ∧
  wr.ownsRow w.heap.size 23 1 tv i ((List.range i).map fun j => W (qs.length - 1 - j)) ∧ Below w.heap.size w wr
theorem ns_turned {wr : World} {base : Nat} {tv : Value} {qs : List (List Nat)} {W : Nat → Value} (h : wr.ownsRow base 23 1 tv qs.length ((List.range qs.length).map fun j => W (qs.length - 1 - j)))
    (hw : ∀ j, j < qs.length → Sl .u64 wr (W j) (qs.getD j []) ∧ wf W64 (qs.getD j [])) : Ns wr tv qs.reverse := by
  have hr : qs.reverse.length = qs.length := List.length_reverse
  have hg : ∀ j, j < qs.length → qs.reverse.getD j [] = qs.getD (qs.length - 1 - j) [] := fun j hj => by
    simp [List.getD, List.getElem?_reverse hj]
  rcases rowOwn_shape h with ⟨rfl, h0⟩ | ⟨g, cap, rfl, _, h2, h3⟩
  · exact ⟨none, 0, 0, 0, fun _ => .slice none 0 0, by rw [hr, h0], by omega, fun h => by omega, fun j hj => by omega⟩
  · refine ⟨some ⟨g, 0, none⟩, g, 0, cap, fun j => W (qs.length - 1 - j), by rw [hr], by omega, fun _ => ⟨rfl, h2⟩, fun j hj => ?_⟩
    rw [hr] at hj
    rw [hg j hj]
    refine ⟨?_, hw _ (by omega)⟩
    rw [Nat.zero_add, World.ownsRow.cellAt h j (by omega)]
    simp [hj]

set_option maxRecDepth 20000 in
set_option maxHeartbeats 4000000 in
theorem good (v : Value) (qs : List (List Nat)) (w : World) (hv : Ns w v qs) (hn : qs.length ≤ 8) :
    Calls Try.prog 13 #[v] w (LawOk w) := by
  have H0 := Lib.hid hv
  obtain ⟨ao, b, off, cap, W, rfl, hcap, hao, hat⟩ := hv
  have HAT := Lib.hid hat; have HAO := Lib.hid hao
  clear hat hao
  go_enter Try.func13, Try.ntmps13
  go_wp2_with fail
  refine (law2_awake w).mono ?_; rintro e w1 ⟨rfl, b1⟩
  have st : MpR w w1 qs W (.slice none 0 0) (.slice none 0 0) 0 := ⟨[], ⟨World.ownsRow_nil _ _ _ _, fun x hx => by cases hx⟩, rfl, rfl, World.ownsRow_nil _ _ _ _, b1⟩
  have ST := Lib.hid st
  clear st b1
  go_wp2
  go_loopw [3, 4, 5] (fun dv tv iv wr => ∃ i : Nat, iv = .int .i64 i ∧ i ≤ qs.length ∧ MpR w wr qs W dv tv i ∧ Hid (∀ j, j < i → (qs.getD j []).length ≤ 5)) (fun _ _ iv _ => qs.length - (intOf iv).toNat)
  case atStart => exact ⟨0, rfl, by omega, ST.out, Lib.hid (fun j hj => by omega)⟩
  case round =>
    clear ST
    obtain ⟨i, rfl, hi, ⟨ds, hd, hdl, hdv, ht, hB⟩, hS⟩ := hrel
    have HDV := Lib.hid hdv; clear hdv
    by_cases hin : i < qs.length
    · obtain ⟨rfl, hbs⟩ := HAO.out (by omega)
      obtain ⟨k1, k2, k3⟩ := HAT.out i hin
      obtain ⟨j1, k4, k5⟩ := HAT.out (qs.length - 1 - i) (by omega)
      obtain ⟨q, eq⟩ : ∃ q, q = qs.getD i [] := ⟨_, rfl⟩
      rw [← eq] at k2 k3
      have HQ := Lib.hid (show qs.take (i + 1) = qs.take i ++ [q] by rw [qs_take qs i hin, eq])
      have HQ5 := Lib.hid (show q.length ≤ 5 → ∀ j, j < i + 1 → (qs.getD j []).length ≤ 5 from fun h j hj => by
        rcases Nat.lt_succ_iff_lt_or_eq.1 hj with h1 | h1
        · exact hS.out j h1
        · rw [h1, ← eq]; exact h)
      clear eq
      have c1 := (hB.cell (p := ⟨b, off + i, none⟩) (by simpa using hbs)).trans k1
      have s1 := k2.below hB (Nat.le_refl _)
      obtain ⟨qa, _, _, qk, e1, -, -⟩ := id s1
      obtain ⟨m, em⟩ : ∃ m, m = qs.length - 1 - i := ⟨_, rfl⟩
      rw [← em] at j1 k4
      have hm : (qs.length : Int) - 1 - (i : Int) = (m : Int) := by omega
      have hml : m < qs.length := by omega
      have c2 := (hB.cell (p := ⟨b, off + m, none⟩) (by simpa using hbs)).trans j1
      obtain ⟨ta, _, _, tk, e2, -, -⟩ := id k4
      rw [e1] at c1 s1
      have EM := Lib.hid em; have E2 := Lib.hid e2
      have E1 := Lib.hid e1
      rw [e2] at c2
      obtain ⟨M, eM⟩ : ∃ M, M = (qs.getD m []).length := ⟨_, rfl⟩
      rw [← eM] at c2
      have EMM := Lib.hid eM
      clear k1 k2 j1 k4 k5 em e1 e2 eM
      by_cases hq5 : q.length ≤ 5
      · have hq5i : ¬ (5 : Int) < (q.length : Int) := by omega
        have hbw := hB.size
        go_wp2_with fail
        refine (ref_From _ q wr s1 (by omega) k3).mono ?_; rintro e w2 ⟨r2, z2, rfl, o2, m2, v2, l2, b2⟩
        have V2 := Lib.hid v2; clear v2
        replace hd := hd.next b2
        have ht2 := rowOwn_next ht b2 (Nat.le_refl _)
        replace hB := hB.trans (b2.mono hbw)
        have c3 := (b2.cell (p := ⟨b, off + m, none⟩) (by simp; omega)).trans c2
        have o3 := o2.mono hbw
        obtain ⟨az, kz, rfl⟩ := own_slc o3
        obtain ⟨da, dc, rfl⟩ := hd.slc
        have hrow := hd.row
        rw [hdl] at hrow ⊢
        have HD := Lib.hid hd; have HT := Lib.hid ht2; have HM2 := Lib.hid (show Nrm D16 z2 ∧ z2.length ≤ 20 from ⟨m2, by omega⟩); have HO3 := Lib.hid o3
        have hbw2 := hB.size
        have hB0 := Lib.hid hB
        clear c1 c2 s1 ht b2 o2 m2 hd hbw hB
        go_upto_region 11 with (at_builtin; refine apVl 51 25 24 (.slice none 0 0) Try.underlying51 (by kernel_rfl) (by decide) rfl rfl _ _ rfl w2 w.heap.size (.slice da i dc) i _ (.slice az z2.length kz) rfl hrow (by omega) hbw2 rfl rfl ?_; intro g3 cap3 w3 hrow3 hbel3 hgr3 _; have G3 := Lib.hid hgr3; clear hgr3; have R3 := Lib.hid hrow3; clear hrow3; have c4 := (hbel3.cell (p := ⟨b, off + m, none⟩) (by simpa using hbs)).trans c3; have B3 := Lib.hid (hB0.out.trans hbel3); clear hbel3 c3; have HR := Lib.hid hrow; clear hrow)
        have ht3 := row_kept HT.out HR.out G3.out (by decide)
        have hb3 := B3.out.size
        go_upto_region 7 with (at_builtin; refine apVl 46 23 24 (.slice none 0 0) Try.underlying46 (by kernel_rfl) (by decide) rfl rfl _ _ rfl w3 w.heap.size _ i _ (.slice ta M tk) rfl ht3 (by omega) hb3 rfl rfl ?_; intro g4 cap4 w4 hrow4 hbel4 hgr4 _; have G4 := Lib.hid hgr4; clear hgr4; have R4 := Lib.hid hrow4; clear hrow4; have B4 := Lib.hid (B3.out.trans hbel4); clear hbel4 c4; have HT3 := Lib.hid ht3; clear ht3)
        have HST := Lib.hid (show MpR w w4 qs W (.slice (some ⟨g3, 0, none⟩) (i + 1) cap3) (.slice (some ⟨g4, 0, none⟩) (i + 1) cap4) (i + 1) by
          refine ⟨ds ++ [(.slice az z2.length kz, z2)], ⟨?_, fun x hx => ?_⟩, by simp [hdl], ?_, ?_, B4.out⟩
          · rw [List.map_append, List.length_append, hdl]
            exact row_kept R3.out HT3.out G4.out (by decide)
          · have k6 : Own .i64 3 w2 w.heap.size x.1 x.2 ∧ Nrm D16 x.2 ∧ x.2.length ≤ 20 := by
              rcases List.mem_append.1 hx with hx | hx
              · exact HD.out.each x hx
              · rw [List.mem_singleton.1 hx]; exact ⟨HO3.out, HM2.out⟩
            exact ⟨Own.kept_i (Own.kept_i k6.1 HR.out G3.out (by decide)) HT3.out G4.out (by decide), k6.2⟩
          · rw [prdD_append, HQ.out, prl_append, HDV.out]; simp [prdD, prl, V2.out]
          · rw [List.range_succ, List.map_append]
            have e3 : W (qs.length - 1 - i) = .slice ta M tk := by rw [← EM.out, E2.out, EMM.out]
            simp only [List.map_cons, List.map_nil, e3]
            exact R4.out)
        have HS2 := Lib.hid (HQ5.out hq5)
        clear hdl hbw2 hb3
        go_wp2
        go_roundw
        case rel => exact ⟨i + 1, by go_num, by omega, HST.out, HS2⟩
        case measure => simp [intOf] <;> omega
      · have hq5i : (5 : Int) < (q.length : Int) := by omega
        clear hd ht
        go_wp2
        go_ret
        exact ⟨rfl, hB⟩
    · obtain rfl : i = qs.length := by omega
      have hsl := sll_bd 5 qs hS.out
      have hbw := hB.size
      go_wp2_with fail
      refine (mul_Product _ qs wr (H0.out.below hB (Nat.le_refl _)) (by omega) (by omega)).mono ?_; rintro e w2 ⟨r2, z2, rfl, o2, m2, v2, l2, b2⟩
      have V2 := Lib.hid v2; clear v2
      replace hd := hd.next b2
      have ht2 := rowOwn_next ht b2 (Nat.le_refl _)
      replace hB := hB.trans (b2.mono hbw)
      clear b2 ht hbw
      have hbw := hB.size
      go_wp2_with fail
      refine (ref2_Product _ ds _ w2 hd (by omega)).mono ?_; rintro e w3 ⟨r3, z3, rfl, o3, m3, v3, l3, b3⟩
      have V3 := Lib.hid (show nv W64 z2 = nv D16 z3 by rw [V2.out, v3, HDV.out, List.take_length]); clear v3
      have ht3 := rowOwn_next ht2 b3 (Nat.le_refl _)
      replace o2 := o2.next b3
      replace hB := hB.trans (b3.mono hbw)
      clear b3 ht2 hbw hd
      have hbw := hB.size
      go_wp2_with fail
      refine (law2_is _ _ z2 z3 _ o2.sl o3.sl (by omega) (by omega) m3.1 m2 V3.out).mono ?_; rintro e w4 ⟨rfl, b4⟩
      have ht4 := rowOwn_next ht3 b4 (Nat.le_refl _)
      replace o2 := o2.next b4
      replace hB := hB.trans (b4.mono hbw)
      clear b4 ht3 hbw o3
      have hbw := hB.size
      have hns := ns_turned ht4 (fun j hj => by obtain ⟨_, k1, k2⟩ := HAT.out j hj; exact ⟨k1.below hB (Nat.le_refl _), k2⟩)
      go_wp2_with fail
      refine (mul_Product _ qs.reverse w4 hns (by rw [List.length_reverse]; omega) (by rw [sll_rev]; omega)).mono ?_; rintro e w5 ⟨r5, z5, rfl, o5, m5, v5, l5, b5⟩
      have HE := Lib.hid (show z5 = z2 from nrm_inj (by decide) m5 m2 (by rw [v5, V2.out, prl_rev])); clear v5
      replace o2 := o2.next b5
      replace hB := hB.trans (b5.mono hbw)
      clear b5 ht4 hbw hns
      have s5 : Sl .u64 w5 r5 z2 := by have h := o5.sl; rw [HE.out] at h; exact h
      have s2 := o2.sl
      clear o5 o2
      go_wp2_with fail
      refine (ref_Same_yes _ _ z2 _ s2 s5 (by omega)).mono ?_; rintro e w6 ⟨rfl, q6⟩
      have hB2 := hB.trans (q6.below _)
      clear q6 s2 s5 hB
      go_wp2
      go_ret
      exact ⟨rfl, hB2⟩

theorem walk (v : Value) (qs : List (List Nat)) (w : World) (hv : Ns w v qs) :
    Calls Try.prog 13 #[v] w (LawOk w) := by
  by_cases h0 : qs.length ≤ 8
  · exact good v qs w hv h0
  · obtain ⟨ao, cap, rfl⟩ := hv.slc
    go_enter Try.func13, Try.ntmps13
    go_wp2_with fail
    refine (law2_awake w).mono ?_; rintro e w1 ⟨rfl, b1⟩
    go_wp2_with fail
    refine (law2_awake w1).mono ?_; rintro e w2 ⟨rfl, b2⟩
    go_wp2
    go_ret
    exact ⟨rfl, b1.trans (b2.mono b1.size)⟩


set_option maxRecDepth 100000 in
theorem lifted (os : Os) (started : os.Started) (H : Type) (enc : TypeId × Value → H) :
    ReturnsInHanded {} Try.checked os 13 .any (Rows.mulProductsSpec.pre6 enc Try.prog Try.f13 Rows.mulProductsRow.domain false) (Rows.mulProductsSpec.post enc Try.prog Try.f13 false true false false) := by
  refine returnsInHanded_of_change (C := Try.checked) own started (by kernel_rfl) Try.func13
    (ChangeSpec.witness6 (enc := enc) (C := Try.checked) false ⟨#[], #[.slice none 0 0], []⟩ 8 (by kernel_rfl) (by kernel_rfl) (by kernel_rfl) (by kernel_rfl)) ?_
  intro W base args ds gs before hval0 hW hcnd _
  have hval : ∀ (j : Nat) t v, Try.f13.params[j]? = some t → args[j]? = some v → Value.okWide Try.prog W .any base t v := hval0
  have hW' := hW
  obtain ⟨p, q, hA0, hV, rfl, hfz, hnd⟩ := hW
  have hA : DataW.TrodAll enc Try.prog W 0 (fun _ => true) true Try.f13.params.toList args.toList ds p := hA0
  rw [Try.params13] at hA hval
  obtain ⟨v0, vs0, d0, ds0, p0, q0, hargs, rfl, rfl, h0, r0⟩ := trodAll_cons hA
  obtain ⟨rfl, rfl, rfl⟩ := trodAll_nil r0
  obtain rfl : args = #[v0] := by cases args; simp_all
  obtain ⟨rfl, rfl⟩ := trodVars_none hV
  have k0 := h0
  have lt0 : ∀ x ∈ p0, x.block < W.heap.size := by obtain ⟨m, hm⟩ := k0; exact DataW.trod_lt m _ _ _ hm
  obtain ⟨x0, s0⟩ := open_ns Try.underlying46 Try.underlying23 Try.underlying32 (by kernel_rfl) (by kernel_rfl) (hval 0 46 v0 rfl rfl) h0
  clear hA0 hval0
  refine (walk v0 x0 W s0).mono fun e W' ⟨he, bel⟩ => ?_
  subst he
  exact ⟨_, rfl, _, _, _, [], _, [], hW', trodAll_mk1 (shut_bool Try.underlying4 _), (trodAll_cons_mk (Below.trod laidOut (by kernel_rfl) (of_decide_eq_true (by kernel_rfl)) k0 bel lt0) trodAll_mk0), rfl, bel.frame _, fun h => by cases h⟩

theorem over : Rows.mulProductsRow.holds Try.pinned (OpenSpec.ofChange Rows.mulProductsSpec) :=
  OpenClaim.holds_of_wide 13 Try.f13 rfl rfl rfl rfl rfl rfl rfl ⟨rfl, rfl, rfl, rfl, rfl⟩ rfl rfl rfl rfl rfl (by kernel_rfl) Try.func13 (by kernel_rfl)
    (of_decide_eq_true (by kernel_rfl)) (by unfold Func.isWrapper; first | (rw [if_pos (by decide +kernel)]; kernel_rfl) | (rw [if_neg (by decide +kernel)]; exact ⟨rfl, rfl⟩))
    (fun os started H enc _ => lifted os started H enc)

theorem proved : Rows.MulProductsSaid := over
#print axioms proved
end Go.Proofs.Ytnnidjhhcnmnnaa.mulProducts
