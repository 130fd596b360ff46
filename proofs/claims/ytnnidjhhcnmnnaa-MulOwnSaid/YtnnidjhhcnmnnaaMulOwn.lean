/- MulOwn: for all naturals the law returns true: products and powers are new, and what is handed in stays. No condition. -/
import Derived.Test.YtnnidjhhcnmnnaaRows
import Derived.Test.YtnnidjhhcnmnnaaOpen
import Derived.Test.YtnnidjhhcnmnnaaProd
import Derived.Test.YtnnidjhhcnmnnaaLaw2
namespace Go.Proofs.Ytnnidjhhcnmnnaa.mulOwn
open Go.ChangeShapes Go.WideShapes Go.ChangeAt Go.RowKit
open Go.ChangeMaps (open_string shut_string)

theorem own : ownKnob Try.prog.godebug = none := by kernel_rfl
theorem laidOut : laidOutB Try.prog = true := by kernel_rfl

theorem pow1 (v : Value) (xs : List Nat) (hl : xs.length ≤ 30) (hx : wf W64 xs) (w : World) (hv : Sl .u64 w v xs) : Calls Try.prog 40 #[v, .int .i64 1] w (RetPB w (nv W64 xs ^ 1)) := by
  have h1 : bl (nv W64 xs) ≤ 64 * xs.length := bl_len rfl hx
  refine mul_Pow_ok v xs 1 w hv (by omega) hx (by omega) ?_
  by_cases h0 : bl (nv W64 xs) = 0
  · exact Or.inl h0
  · refine Or.inr ?_
    rw [Int.le_ediv_iff_mul_le (by omega), ← Int.natCast_mul]
    omega
theorem ns_two {w : World} {g : Nat} {v0 v1 : Value} {x0 x1 : List Nat} (K : Blk 23 w g [v0, v1]) (s0 : Sl .u64 w v0 x0) (s1 : Sl .u64 w v1 x1) (f0 : wf W64 x0) (f1 : wf W64 x1) : Ns w (.slice (some ⟨g, 0, none⟩) 2 2) [x0, x1] :=
  ⟨some ⟨g, 0, none⟩, g, 0, 2, fun j => if j = 0 then v0 else v1, rfl, Nat.le_refl _, fun _ => ⟨rfl, K.lt⟩, fun j hj => by
    have hj2 : j = 0 ∨ j = 1 := by simp at hj; omega
    rcases hj2 with rfl | rfl
    · exact ⟨K.cell 0, s0, f0⟩
    · exact ⟨K.cell 1, s1, f1⟩⟩
theorem ns_one {w : World} {g : Nat} {v0 : Value} {x0 : List Nat} (K : Blk 23 w g [v0]) (s0 : Sl .u64 w v0 x0) (f0 : wf W64 x0) : Ns w (.slice (some ⟨g, 0, none⟩) 1 1) [x0] :=
  ⟨some ⟨g, 0, none⟩, g, 0, 1, fun _ => v0, rfl, Nat.le_refl _, fun _ => ⟨rfl, K.lt⟩, fun j hj => by
    obtain rfl : j = 0 := by simp at hj; omega
    exact ⟨K.cell 0, s0, f0⟩⟩
/-- Slices l that are stored into, and others, x, that stay. -/
structure Fms (W w : World) (l : List Value) (x : List (Value × List Nat)) : Prop where
  each : ∀ v, v ∈ l → ∃ zs, Own .u64 32 w W.heap.size v zs
  stay : ∀ y, y ∈ x → Own .u64 32 w W.heap.size y.1 y.2
  apart : ∀ v, v ∈ l → ∀ y, y ∈ x → ∀ g, v.ownBlock = some g → y.1.ownBlock ≠ some g
  below : Below W.heap.size W w
theorem Fms.store {W w : World} {g n c : Nat} {l : List Value} {x : List (Value × List Nat)} (h : Fms W w l x) (hv : Value.slice (some ⟨g, 0, none⟩) n c ∈ l) (j z : Nat) :
    Fms W (w.setCell ⟨g, j, none⟩ (.int .u64 (z : Int))) l x := by
  obtain ⟨zs, ho⟩ := h.each _ hv
  have hb : (Value.slice (some ⟨g, 0, none⟩) n c).ownBlock = some g := rfl
  obtain ⟨k1, k2, cur, k3⟩ := ho.blk hb
  exact ⟨fun v hv2 => by
    obtain ⟨ys, hy⟩ := h.each v hv2
    obtain ⟨us, _, hu⟩ := hy.some_store (g := g) j z
    exact ⟨us, hu⟩, fun y hy => ownsRow_setCell_other (h.stay y hy) (h.apart _ hv y hy g hb) _, h.apart, h.below.setCell k1 _⟩

set_option maxRecDepth 20000 in
set_option maxHeartbeats 4000000 in
theorem good (v0 v1 : Value) (x0 x1 : List Nat) (w : World) (s0 : Sl .u64 w v0 x0) (s1 : Sl .u64 w v1 x1) (f0 : wf W64 x0) (f1 : wf W64 x1) (l0 : x0.length ≤ 30) (l1 : x1.length ≤ 30) :
    Calls Try.prog 14 #[v0, v1] w (LawOk w) := by
  obtain ⟨ao0, _, _, ca0, rfl, -, -⟩ := id s0
  obtain ⟨ao1, _, _, ca1, rfl, -, -⟩ := id s1
  have B := Below.refl w.heap.size w
  have HS0 := Lib.hid s0; have HS1 := Lib.hid s1
  go_enter Try.func14, Try.ntmps14
  go_wp2_with fail
  refine (law2_awake _).mono ?_; rintro e w1 ⟨rfl, b1⟩
  replace s0 := s0.next b1
  replace s1 := s1.next b1
  replace B := B.trans (b1.mono B.size)
  clear b1
  have hbox := B.size
  go_upto_region 5 with (at_builtin; refine apSl 23 32 Try.underlying23 (by kernel_rfl) rfl _ _ rfl _ w1.heap.size (.slice none 0 0) (.slice ao0 x0.length ca0) [] x0 (Own.nil _ _ _ _) (Nat.le_refl _) rfl rfl s0 (by simp; omega) ?_; intro r2 w2 ox b2; rw [List.nil_append] at ox)
  replace s0 := s0.next b2
  replace s1 := s1.next b2
  replace B := B.trans (b2.mono B.size)
  clear b2
  have hboy := B.size
  go_upto_region 6 with (at_builtin; refine apSl 23 32 Try.underlying23 (by kernel_rfl) rfl _ _ rfl _ w2.heap.size (.slice none 0 0) (.slice ao1 x1.length ca1) [] x1 (Own.nil _ _ _ _) (Nat.le_refl _) rfl rfl s1 (by simp; omega) ?_; intro r3 w3 oy b3; rw [List.nil_append] at oy)
  replace s0 := s0.next b3
  replace s1 := s1.next b3
  replace ox := ox.next b3
  replace B := B.trans (b3.mono B.size)
  clear b3
  have hb_p := B.size
  go_wp2_with fail
  refine (mul_Mul (.slice ao0 x0.length ca0) (.slice ao1 x1.length ca1) x0 x1 _ s0 s1 (by omega) (by omega) f0 f1).mono ?_; rintro e w4 ⟨r4, z4, rfl, o4, m4, e4, l4, b4⟩
  obtain ⟨a4, k4, rfl⟩ := o4.slc
  have E4 := Lib.hid (show Nrm W64 z4 ∧ nv W64 z4 = _ from ⟨m4, e4⟩)
  have HLn4 := Lib.hid l4
  have hk4 := l4
  clear e4 m4 l4
  replace s0 := s0.next b4
  replace s1 := s1.next b4
  replace ox := ox.next b4
  replace oy := oy.next b4
  replace B := B.trans (b4.mono B.size)
  clear b4
  obtain ⟨w5, e5, KA, b5, hs5⟩ := boxes1 w4 23 [(.slice ao0 x0.length ca0), (.slice ao1 x1.length ca1)]
  clear hs5
  go_wp2_with fail
  rw [← e5]
  clear e5
  obtain ⟨gKA, egKA⟩ : ∃ g, g = w4.heap.size := ⟨_, rfl⟩
  rw [← egKA] at KA ⊢
  clear egKA
  replace s0 := s0.next b5
  replace s1 := s1.next b5
  replace ox := ox.next b5
  replace oy := oy.next b5
  replace o4 := o4.next b5
  replace B := B.trans (b5.mono B.size)
  clear b5
  have hb_q := B.size
  refine (mul_Product _ [x0, x1] _ (ns_two KA s0 s1 f0 f1) (by simp) (by simp [sll]; omega)).mono ?_; rintro e w6 ⟨r6, z6, rfl, o6, m6, e6, l6, b6⟩
  obtain ⟨a6, k6, rfl⟩ := o6.slc
  have E6 := Lib.hid (show Nrm W64 z6 ∧ nv W64 z6 = _ from ⟨m6, e6⟩)
  have hk6 : z6.length ≤ 61 := by simp only [sll] at l6; omega
  clear e6 m6 l6
  replace s0 := s0.next b6
  replace s1 := s1.next b6
  replace ox := ox.next b6
  replace oy := oy.next b6
  replace o4 := o4.next b6
  replace B := B.trans (b6.mono B.size)
  clear b6
  clear KA
  obtain ⟨D, eD⟩ : ∃ n, n = w6.heap.size := ⟨_, rfl⟩
  have HBD := Lib.hid (Below.refl w6.heap.size w6)
  have HW0 := Lib.hid (show ∀ g, r2.ownBlock = some g → g < D from fun g hg => by rw [eD]; exact (ox.blk hg).2.1)
  have HW1 := Lib.hid (show ∀ g, r3.ownBlock = some g → g < D from fun g hg => by rw [eD]; exact (oy.blk hg).2.1)
  have HW2 := Lib.hid (show ∀ g, (Value.slice a4 z4.length k4).ownBlock = some g → g < D from fun g hg => by rw [eD]; exact (o4.blk hg).2.1)
  have HW3 := Lib.hid (show ∀ g, (Value.slice a6 z6.length k6).ownBlock = some g → g < D from fun g hg => by rw [eD]; exact (o6.blk hg).2.1)
  have hb_r := B.size
  go_wp2_with fail
  refine (pow1 (.slice ao0 x0.length ca0) x0 l0 f0 _ s0).mono ?_; rintro e w7 ⟨r7, z7, rfl, o7, m7, e7, l7, b7⟩
  obtain ⟨a7, k7, rfl⟩ := o7.slc
  have E7 := Lib.hid (show Nrm W64 z7 ∧ nv W64 z7 = _ from ⟨m7, e7⟩)
  have HLn7 := Lib.hid l7
  have hk7 := l7
  clear e7 m7 l7
  replace s0 := s0.next b7
  replace s1 := s1.next b7
  replace ox := ox.next b7
  replace oy := oy.next b7
  replace o4 := o4.next b7
  replace o6 := o6.next b7
  replace B := B.trans (b7.mono B.size)
  replace HBD := Lib.hid (HBD.out.trans (b7.mono HBD.out.size))
  clear b7
  have HR0 := Lib.hid (show ∀ g, (Value.slice a7 z7.length k7).ownBlock = some g → D ≤ g from fun g hg => by rw [eD]; exact (o7.blk hg).1)
  obtain ⟨w8, e8, KB, b8, hs8⟩ := boxes1 w7 23 [(.slice ao1 x1.length ca1)]
  clear hs8
  go_wp2_with fail
  rw [← e8]
  clear e8
  obtain ⟨gKB, egKB⟩ : ∃ g, g = w7.heap.size := ⟨_, rfl⟩
  rw [← egKB] at KB ⊢
  clear egKB
  replace s0 := s0.next b8
  replace s1 := s1.next b8
  replace ox := ox.next b8
  replace oy := oy.next b8
  replace o4 := o4.next b8
  replace o6 := o6.next b8
  replace o7 := o7.next b8
  replace B := B.trans (b8.mono B.size)
  replace HBD := Lib.hid (HBD.out.trans (b8.mono HBD.out.size))
  clear b8
  have hD2 := B.size
  have HDW := Lib.hid (show D ≤ w8.heap.size by rw [eD]; exact HBD.out.size)
  have hb_one := B.size
  refine (mul_Product _ [x1] _ (ns_one KB s1 f1) (by simp) (by simp [sll]; omega)).mono ?_; rintro e w9 ⟨r9, z9, rfl, o9, m9, e9, l9, b9⟩
  obtain ⟨a9, k9, rfl⟩ := o9.slc
  have E9 := Lib.hid (show Nrm W64 z9 ∧ nv W64 z9 = _ from ⟨m9, e9⟩)
  have hk9 : z9.length ≤ 61 := by simp only [sll] at l9; omega
  clear e9 m9 l9
  replace s0 := s0.next b9
  replace s1 := s1.next b9
  replace ox := ox.next b9
  replace oy := oy.next b9
  replace o4 := o4.next b9
  replace o6 := o6.next b9
  replace o7 := o7.next b9
  replace B := B.trans (b9.mono B.size)
  replace HBD := Lib.hid (HBD.out.trans (b9.mono HBD.out.size))
  clear b9
  have HR1 := Lib.hid (show ∀ g, (Value.slice a9 z9.length k9).ownBlock = some g → D ≤ g from fun g hg => Nat.le_trans HDW.out (o9.blk hg).1)
  clear KB eD

  obtain ⟨vals, evals⟩ : ∃ l : List Value, l = [(Value.slice a7 z7.length k7), (Value.slice a9 z9.length k9)] := ⟨_, rfl⟩
  obtain ⟨wat, ewat⟩ : ∃ l : List (Value × List Nat), l = [(r2, x0), (r3, x1), ((Value.slice a4 z4.length k4), z4), ((Value.slice a6 z6.length k6), z6)] := ⟨_, rfl⟩
  have hv : ∀ v, v ∈ vals → ∀ g, v.ownBlock = some g → D ≤ g := by
    intro v hm g hg
    rw [evals] at hm
    simp only [List.mem_cons, List.not_mem_nil, or_false] at hm
    rcases hm with rfl | rfl
    · exact HR0.out g hg
    · exact HR1.out g hg
  have hy : ∀ y, y ∈ wat → ∀ g, y.1.ownBlock = some g → g < D := by
    intro v hm g hg
    rw [ewat] at hm
    simp only [List.mem_cons, List.not_mem_nil, or_false] at hm
    rcases hm with rfl | rfl | rfl | rfl
    · exact HW0.out g hg
    · exact HW1.out g hg
    · exact HW2.out g hg
    · exact HW3.out g hg
  have fam : Fms w w9 vals wat := by
    refine ⟨?_, ?_, fun v hm y hm2 g h1 h2 => by have := hv v hm g h1; have := hy y hm2 g h2; omega, B⟩
    · intro v hm
      rw [evals] at hm
      simp only [List.mem_cons, List.not_mem_nil, or_false] at hm
      rcases hm with rfl | rfl
      · exact ⟨_, o7.mono (by omega)⟩
      · exact ⟨_, o9.mono (by omega)⟩
    · intro v hm
      rw [ewat] at hm
      simp only [List.mem_cons, List.not_mem_nil, or_false] at hm
      rcases hm with rfl | rfl | rfl | rfl
      · exact ox.mono (by omega)
      · exact oy.mono (by omega)
      · exact o4.mono (by omega)
      · exact o6.mono (by omega)
  have HZ := Lib.hid (show z4 = z6 from nrm_inj (by decide) E4.out.1 E6.out.1 (by rw [E4.out.2, E6.out.2]; simp [prl]))
  have HIN := Lib.hid (show ∀ y, y ∈ ([(r2, x0), (r3, x1), ((Value.slice a4 z4.length k4), z4), ((Value.slice a6 z6.length k6), z6)] : List (Value × List Nat)) → y ∈ wat from fun y hm => by rw [ewat]; exact hm)
  have HMR := Lib.hid (show (Value.slice a7 z7.length k7) ∈ vals by rw [evals]; exact .head _)
  have HMO := Lib.hid (show (Value.slice a9 z9.length k9) ∈ vals by rw [evals]; exact .tail _ (.head _))
  have hlr : (z7.length : Int) ≤ 9223372036854775807 := by omega
  have hlo : (z9.length : Int) ≤ 9223372036854775807 := by omega
  have HLR := Lib.hid hlr; have HLO := Lib.hid hlo
  have FAM := Lib.hid fam
  clear fam hv hy evals ewat ox oy s0 s1 B hlr hlo hbox hboy hb_p hb_q hb_r hb_one hD2 o4 o6 o7 o9
  go_wp2
  go_loopw [12] (fun kv wr => ∃ k : Nat, kv = .int .i64 k ∧ k ≤ z7.length ∧ Fms w wr vals wat) (fun kv _ => z7.length - (intOf kv).toNat)
  case atStart => exact ⟨0, rfl, by omega, FAM.out⟩
  case round =>
    clear FAM
    obtain ⟨k, rfl, hk, fam⟩ := hrel
    have hLb := HLR.out
    by_cases hkL : k < z7.length
    · obtain ⟨ys, hys⟩ := fam.each _ HMR.out
      rcases hys.shape with ⟨h1, _⟩ | ⟨g, cap, h1, _⟩
      · simp only [Value.slice.injEq] at h1
        exact absurd h1.2.1 (by omega)
      simp only [Value.slice.injEq] at h1
      obtain ⟨rfl, h2, rfl⟩ := h1
      have cy := hys.cellAt k (by omega)
      have fy := hys.frozenAt k
      obtain ⟨y, ey⟩ : ∃ y, y = ys.getD k 0 := ⟨_, rfl⟩
      obtain ⟨z, ez⟩ : ∃ z, z = (y + 1) % 18446744073709551616 := ⟨_, rfl⟩
      have hwz : IntKind.u64.wrap ((y : Int) + 1) = (z : Int) := by rw [IntKind.wrap_u64]; omega
      rw [← ey] at cy
      clear ey ez h2 hys
      have HF := Lib.hid (fam.store HMR.out k z)
      clear fam
      go_wp2
      go_roundw
      case rel => exact ⟨k + 1, by go_num, by omega, HF.out⟩
      case measure => simp [intOf] <;> omega
    · have hkL2 : ¬ (k : Int) < (z7.length : Int) := by omega
      have FAM := Lib.hid fam
      clear fam hk hkL
      go_wp2
      go_loopw [13] (fun kv wr => ∃ k : Nat, kv = .int .i64 k ∧ k ≤ z9.length ∧ Fms w wr vals wat) (fun kv _ => z9.length - (intOf kv).toNat)
      case atStart => exact ⟨0, rfl, by omega, FAM.out⟩
      case round =>
        clear FAM
        obtain ⟨k, rfl, hk, fam⟩ := hrel
        have hLb := HLO.out
        by_cases hkL : k < z9.length
        · obtain ⟨ys, hys⟩ := fam.each _ HMO.out
          rcases hys.shape with ⟨h1, _⟩ | ⟨g, cap, h1, _⟩
          · simp only [Value.slice.injEq] at h1
            exact absurd h1.2.1 (by omega)
          simp only [Value.slice.injEq] at h1
          obtain ⟨rfl, h2, rfl⟩ := h1
          have cy := hys.cellAt k (by omega)
          have fy := hys.frozenAt k
          obtain ⟨y, ey⟩ : ∃ y, y = ys.getD k 0 := ⟨_, rfl⟩
          obtain ⟨z, ez⟩ : ∃ z, z = (y + 1) % 18446744073709551616 := ⟨_, rfl⟩
          have hwz : IntKind.u64.wrap ((y : Int) + 1) = (z : Int) := by rw [IntKind.wrap_u64]; omega
          rw [← ey] at cy
          clear ey ez h2 hys
          have HF := Lib.hid (fam.store HMO.out k z)
          clear fam
          go_wp2
          go_roundw
          case rel => exact ⟨k + 1, by go_num, by omega, HF.out⟩
          case measure => simp [intOf] <;> omega
        · have hkL2 : ¬ (k : Int) < (z9.length : Int) := by omega
          have FAM := Lib.hid fam
          clear fam hk hkL
          go_wp2_with fail
          have fam := FAM.out
          have s0 := HS0.out.below fam.below (Nat.le_refl _)
          have s1 := HS1.out.below fam.below (Nat.le_refl _)
          have sx := (fam.stay _ (HIN.out _ (.head _))).sl
          have sy := (fam.stay _ (HIN.out _ (.tail _ (.head _)))).sl
          have sp := (fam.stay _ (HIN.out _ (.tail _ (.tail _ (.head _))))).sl
          have sq := (fam.stay _ (HIN.out _ (.tail _ (.tail _ (.tail _ (.head _)))))).sl
          have B := fam.below
          clear fam
          have SP : Sl .u64 wr (Value.slice a6 z6.length k6) z4 := by rw [HZ.out]; exact sq
          refine (ref_Same_yes (Value.slice a4 z4.length k4) (Value.slice a6 z6.length k6) z4 _ sp SP (by omega)).mono ?_; rintro e wa ⟨rfl, qa⟩
          have ba := qa.below wr.heap.size; clear qa
          replace s0 := s0.next ba; replace s1 := s1.next ba; replace sx := sx.next ba; replace sy := sy.next ba
          replace B := B.trans (ba.mono B.size)
          clear ba sp sq SP
          go_wp2_with fail
          refine (ref_Same_yes (.slice ao0 x0.length ca0) r2 x0 _ s0 sx (by omega)).mono ?_; rintro e wb ⟨rfl, qa⟩
          have ba := qa.below wa.heap.size; clear qa
          replace s1 := s1.next ba; replace sy := sy.next ba
          replace B := B.trans (ba.mono B.size)
          clear ba sx s0
          go_wp2_with fail
          refine (ref_Same_yes (.slice ao1 x1.length ca1) r3 x1 _ s1 sy (by omega)).mono ?_; rintro e wc ⟨rfl, qa⟩
          have ba := qa.below wb.heap.size; clear qa
          replace B := B.trans (ba.mono B.size)
          clear ba sy s1
          go_wp2
          go_ret
          exact ⟨rfl, B⟩

theorem walk (v0 : Value) (x0 : List Nat) (v1 : Value) (x1 : List Nat) (w : World) (s0 : Sl .u64 w v0 x0) (f0 : wf W64 x0) (s1 : Sl .u64 w v1 x1) (f1 : wf W64 x1) :
    Calls Try.prog 14 #[v0, v1] w (LawOk w) := by
  by_cases h0 : x0.length ≤ 30
  · by_cases h1 : x1.length ≤ 30
    · exact good v0 v1 x0 x1 w s0 s1 f0 f1 h0 h1
    · obtain ⟨ao, b, off, cap, rfl, -, -⟩ := s0
      obtain ⟨bo, c, pff, dap, rfl, -, -⟩ := s1
      go_enter Try.func14, Try.ntmps14
      go_wp2_with fail
      refine (law2_awake w).mono ?_; rintro e w1 ⟨rfl, b1⟩
      go_wp2_with fail
      refine (law2_awake w1).mono ?_; rintro e w2 ⟨rfl, b2⟩
      go_wp2
      go_ret
      exact ⟨rfl, b1.trans (b2.mono b1.size)⟩
  · obtain ⟨ao, b, off, cap, rfl, -, -⟩ := s0
    obtain ⟨bo, c, pff, dap, rfl, -, -⟩ := s1
    go_enter Try.func14, Try.ntmps14
    go_wp2_with fail
    refine (law2_awake w).mono ?_; rintro e w1 ⟨rfl, b1⟩
    go_wp2_with fail
    refine (law2_awake w1).mono ?_; rintro e w2 ⟨rfl, b2⟩
    go_wp2
    go_ret
    exact ⟨rfl, b1.trans (b2.mono b1.size)⟩


set_option maxRecDepth 100000 in
theorem lifted (os : Os) (started : os.Started) (H : Type) (enc : TypeId × Value → H) :
    ReturnsInHanded {} Try.checked os 14 .any (Rows.mulOwnSpec.pre6 enc Try.prog Try.f14 Rows.mulOwnRow.domain false) (Rows.mulOwnSpec.post enc Try.prog Try.f14 false true false false) := by
  refine returnsInHanded_of_change (C := Try.checked) own started (by kernel_rfl) Try.func14
    (ChangeSpec.witness6 (enc := enc) (C := Try.checked) false ⟨#[], #[.slice none 0 0, .slice none 0 0], []⟩ 8 (by kernel_rfl) (by kernel_rfl) (by kernel_rfl) (by kernel_rfl)) ?_
  intro W base args ds gs before hval0 hW hcnd _
  have hval : ∀ (j : Nat) t v, Try.f14.params[j]? = some t → args[j]? = some v → Value.okWide Try.prog W .any base t v := hval0
  have hW' := hW
  obtain ⟨p, q, hA0, hV, rfl, hfz, hnd⟩ := hW
  have hA : DataW.TrodAll enc Try.prog W 0 (fun _ => true) true Try.f14.params.toList args.toList ds p := hA0
  rw [Try.params14] at hA hval
  obtain ⟨v0, vs0, d0, ds0, p0, q0, hargs, rfl, rfl, h0, r0⟩ := trodAll_cons hA
  obtain ⟨v1, vs1, d1, ds1, p1, q1, rfl, rfl, rfl, h1, r1⟩ := trodAll_cons r0
  obtain ⟨rfl, rfl, rfl⟩ := trodAll_nil r1
  obtain rfl : args = #[v0, v1] := by cases args; simp_all
  obtain ⟨rfl, rfl⟩ := trodVars_none hV
  have k0 := h0
  have lt0 : ∀ x ∈ p0, x.block < W.heap.size := by obtain ⟨m, hm⟩ := k0; exact DataW.trod_lt m _ _ _ hm
  obtain ⟨x0, s0, f0⟩ := open_words Try.underlying23 Try.underlying32 (by kernel_rfl) (hval 0 23 v0 rfl rfl) h0
  have k1 := h1
  have lt1 : ∀ x ∈ p1, x.block < W.heap.size := by obtain ⟨m, hm⟩ := k1; exact DataW.trod_lt m _ _ _ hm
  obtain ⟨x1, s1, f1⟩ := open_words Try.underlying23 Try.underlying32 (by kernel_rfl) (hval 1 23 v1 rfl rfl) h1
  clear hA0 hval0
  refine (walk v0 x0 v1 x1 W s0 f0 s1 f1).mono fun e W' ⟨he, bel⟩ => ?_
  subst he
  exact ⟨_, rfl, _, _, _, [], _, [], hW', trodAll_mk1 (shut_bool Try.underlying4 _), (trodAll_cons_mk (Below.trod laidOut (by kernel_rfl) (of_decide_eq_true (by kernel_rfl)) k0 bel lt0) (trodAll_cons_mk (Below.trod laidOut (by kernel_rfl) (of_decide_eq_true (by kernel_rfl)) k1 bel lt1) trodAll_mk0)), rfl, bel.frame _, fun h => by cases h⟩

theorem over : Rows.mulOwnRow.holds Try.pinned (OpenSpec.ofChange Rows.mulOwnSpec) :=
  OpenClaim.holds_of_wide 14 Try.f14 rfl rfl rfl rfl rfl rfl rfl ⟨rfl, rfl, rfl, rfl, rfl⟩ rfl rfl rfl rfl rfl (by kernel_rfl) Try.func14 (by kernel_rfl)
    (of_decide_eq_true (by kernel_rfl)) (by unfold Func.isWrapper; first | (rw [if_pos (by decide +kernel)]; kernel_rfl) | (rw [if_neg (by decide +kernel)]; exact ⟨rfl, rfl⟩))
    (fun os started H enc _ => lifted os started H enc)

theorem proved : Rows.MulOwnSaid := over
#print axioms proved
end Go.Proofs.Ytnnidjhhcnmnnaa.mulOwn
