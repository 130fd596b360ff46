/- NatOwn: for all naturals and every word the law returns true: what is handed in stays, what is answered is new; shifted up and down again a number is itself. No condition. -/
import Derived.Test.YtnnidjhhcnmnnaaRows
import Derived.Test.YtnnidjhhcnmnnaaOpen
import Derived.Test.YtnnidjhhcnmnnaaOwns
import Derived.Test.YtnnidjhhcnmnnaaNat5
import Derived.Test.YtnnidjhhcnmnnaaRef5
namespace Go.Proofs.Ytnnidjhhcnmnnaa.natOwn
open Go.ChangeShapes Go.WideShapes Go.ChangeAt Go.RowKit
open Go.ChangeMaps (open_string shut_string)

theorem own : ownKnob Try.prog.godebug = none := by kernel_rfl
theorem laidOut : laidOutB Try.prog = true := by kernel_rfl

theorem own_one {e : TypeId} {w : World} {base : Nat} {v : Value} {xs : List Nat} (h : Own .u64 e w base v xs) : v.oneCell' = true := by
  rcases h.shape with ⟨rfl, _⟩ | ⟨g, cap, rfl, _⟩ <;> rfl

set_option maxRecDepth 20000 in
set_option maxHeartbeats 4000000 in
theorem walk_yes (v0 v1 : Value) (x0 x1 : List Nat) (n : Nat) (w : World) (s0 : Sl .u64 w v0 x0) (s1 : Sl .u64 w v1 x1) (f0 : wf W64 x0) (f1 : wf W64 x1) (l0 : x0.length ≤ 10) (l1 : x1.length ≤ 10) (hn : n < 256) (hc : nv W64 x1 ≤ nv W64 x0) :
    Calls Try.prog 8 #[v0, v1, .int .u8 n] w (LawOk w) := by
  have HC := Lib.hid hc; clear hc
  have B := Below.refl w.heap.size w
  have hn0 : (0 : Int) ≤ (n : Int) := Int.natCast_nonneg _
  have hn1 : (n : Int) ≤ 9223372036854775807 := by omega
  have HN1 := Lib.hid hn1; clear hn1
  have HS0 := Lib.hid s0; have HS1 := Lib.hid s1
  go_enter Try.func8, Try.ntmps8
  go_wp2_with fail
  refine (law1_awake _).mono ?_; rintro e w1 ⟨rfl, b1⟩
  replace s0 := s0.next b1
  replace s1 := s1.next b1
  replace B := B.trans (b1.mono B.size)
  clear b1
  go_wp2_with fail
  refine (law1_few_yes v0 v1 (.slice none 0 0) x0 x1 [] 10 _ s0 s1 (Sl.nil .u64 _) (by omega) (by omega) (by simp)).mono ?_; rintro e wx ⟨rfl, rfl⟩
  have hbox := B.size
  go_upto_region 5 with (at_builtin; refine apSl 23 32 Try.underlying23 (by kernel_rfl) rfl _ _ rfl _ w1.heap.size (.slice none 0 0) v0 [] x0 (Own.nil _ _ _ _) (Nat.le_refl _) rfl rfl s0 (by simp; omega) ?_; intro r2 w2 ox b2; rw [List.nil_append] at ox)
  replace s0 := s0.next b2
  replace s1 := s1.next b2
  replace B := B.trans (b2.mono B.size)
  clear b2
  have hboy := B.size
  go_upto_region 6 with (at_builtin; refine apSl 23 32 Try.underlying23 (by kernel_rfl) rfl _ _ rfl _ w2.heap.size (.slice none 0 0) v1 [] x1 (Own.nil _ _ _ _) (Nat.le_refl _) rfl rfl s1 (by simp; omega) ?_; intro r3 w3 oy b3; rw [List.nil_append] at oy)
  replace s0 := s0.next b3
  replace s1 := s1.next b3
  replace ox := ox.next b3
  replace B := B.trans (b3.mono B.size)
  clear b3
  have hX : ∀ g, r2.ownBlock = some g → g < w3.heap.size := fun g hg => (ox.blk hg).2.1
  have hY : ∀ g, r3.ownBlock = some g → g < w3.heap.size := fun g hg => (oy.blk hg).2.1
  have HX := Lib.hid hX; have HY := Lib.hid hY; clear hX hY
  have hW1 := B.size
  have BB := Below.refl w3.heap.size w3
  go_wp2_with fail
  refine (nat_Norm v0 x0 _ s0 (by omega) f0).mono ?_; rintro e w4 ⟨r4, z4, rfl, o4, m4, e4, l4, b4⟩
  obtain ⟨a4, k4, rfl⟩ := o4.slc
  have hb4 := BB.size
  clear m4 l4
  clear e4
  replace BB := BB.trans (b4.mono BB.size)
  replace s0 := s0.next b4
  replace s1 := s1.next b4
  replace ox := ox.next b4
  replace oy := oy.next b4
  replace B := B.trans (b4.mono B.size)
  clear b4
  go_wp2_with fail
  refine (nat_Add v0 v1 x0 x1 _ s0 s1 (by omega) (by omega) f0 f1).mono ?_; rintro e w5 ⟨r5, z5, rfl, o5, m5, e5, l5, b5⟩
  obtain ⟨a5, k5, rfl⟩ := o5.slc
  have hb5 := BB.size
  clear m5 l5
  clear e5
  replace BB := BB.trans (b5.mono BB.size)
  replace s0 := s0.next b5
  replace s1 := s1.next b5
  replace ox := ox.next b5
  replace oy := oy.next b5
  replace o4 := o4.next b5
  replace B := B.trans (b5.mono B.size)
  clear b5
  go_wp2_with fail
  refine (nat_Mul v0 v1 x0 x1 _ s0 s1 (by omega) (by omega) f0 f1).mono ?_; rintro e w6 ⟨r6, z6, rfl, o6, m6, e6, l6, b6⟩
  obtain ⟨a6, k6, rfl⟩ := o6.slc
  have hb6 := BB.size
  clear m6 l6
  clear e6
  replace BB := BB.trans (b6.mono BB.size)
  replace s0 := s0.next b6
  replace s1 := s1.next b6
  replace ox := ox.next b6
  replace oy := oy.next b6
  replace o4 := o4.next b6
  replace o5 := o5.next b6
  replace B := B.trans (b6.mono B.size)
  clear b6
  go_wp2_with fail
  refine (nat_MulAdd v0 x0 1 0 _ s0 (by omega) f0 (by decide) (by decide)).mono ?_; rintro e w7 ⟨r7, z7, rfl, o7, m7, e7, l7, b7⟩
  obtain ⟨a7, k7, rfl⟩ := o7.slc
  have hb7 := BB.size
  clear m7 l7
  clear e7
  replace BB := BB.trans (b7.mono BB.size)
  replace s0 := s0.next b7
  replace s1 := s1.next b7
  replace ox := ox.next b7
  replace oy := oy.next b7
  replace o4 := o4.next b7
  replace o5 := o5.next b7
  replace o6 := o6.next b7
  replace B := B.trans (b7.mono B.size)
  clear b7
  obtain ⟨w8, e8, KL, b8, hs8⟩ := boxes1 w7 23 [(Value.slice a4 z4.length k4), (Value.slice a5 z5.length k5), (Value.slice a6 z6.length k6), (Value.slice a7 z7.length k7)]
  clear hs8
  go_wp2_with fail
  rw [← e8]
  clear e8
  have hbL := BB.size
  replace BB := BB.trans (b8.mono BB.size)
  obtain ⟨gL, egL⟩ : ∃ g, g = w7.heap.size := ⟨_, rfl⟩
  have hgL : w7.heap.size ≤ gL := by rw [egL]; omega
  have hgl2 : gL ≤ w8.heap.size := by rw [egL]; exact b8.size
  rw [← egL] at KL ⊢
  clear egL
  replace s0 := s0.next b8
  replace s1 := s1.next b8
  replace ox := ox.next b8
  replace oy := oy.next b8
  replace o4 := o4.next b8
  replace o5 := o5.next b8
  replace o6 := o6.next b8
  replace o7 := o7.next b8
  replace B := B.trans (b8.mono B.size)
  clear b8
  go_wp2_with fail
  refine (nat_Sub_yes v0 v1 x0 x1 _ s0 s1 (by omega) (by omega) f0 f1 HC.out).mono ?_; rintro e w9 ⟨r9, z9, rfl, o9, m9, e9, l9, b9⟩
  obtain ⟨a9, k9, rfl⟩ := o9.slc
  have hb9 := BB.size
  clear m9 l9
  clear e9
  replace BB := BB.trans (b9.mono BB.size)
  replace s0 := s0.next b9
  replace s1 := s1.next b9
  replace ox := ox.next b9
  replace oy := oy.next b9
  replace o4 := o4.next b9
  replace o5 := o5.next b9
  replace o6 := o6.next b9
  replace o7 := o7.next b9
  replace KL := KL.next b9
  replace B := B.trans (b9.mono B.size)
  clear b9
  go_wp2_with fail
  refine (nat_Shl v0 x0 n _ s0 (by omega) f0 (by omega)).mono ?_; rintro e w10 ⟨r10, z10, rfl, o10, m10, e10, l10, b10⟩
  obtain ⟨a10, k10, rfl⟩ := o10.slc
  have hb10 := BB.size
  have E10 := Lib.hid e10; clear e10
  replace BB := BB.trans (b10.mono BB.size)
  replace s0 := s0.next b10
  replace s1 := s1.next b10
  replace ox := ox.next b10
  replace oy := oy.next b10
  replace o4 := o4.next b10
  replace o5 := o5.next b10
  replace o6 := o6.next b10
  replace o7 := o7.next b10
  replace KL := KL.next b10
  replace o9 := o9.next b10
  replace B := B.trans (b10.mono B.size)
  clear b10
  obtain ⟨D0, eD0⟩ : ∃ n, n = w10.heap.size := ⟨_, rfl⟩
  have H4 := Lib.hid (show ∀ g, (Value.slice a4 z4.length k4).ownBlock = some g → w3.heap.size ≤ g ∧ g < D0 from fun g hg => ⟨by have := (o4.blk hg).1; omega, by rw [eD0]; exact (o4.blk hg).2.1⟩)
  have H5 := Lib.hid (show ∀ g, (Value.slice a5 z5.length k5).ownBlock = some g → w3.heap.size ≤ g ∧ g < D0 from fun g hg => ⟨by have := (o5.blk hg).1; omega, by rw [eD0]; exact (o5.blk hg).2.1⟩)
  have H6 := Lib.hid (show ∀ g, (Value.slice a6 z6.length k6).ownBlock = some g → w3.heap.size ≤ g ∧ g < D0 from fun g hg => ⟨by have := (o6.blk hg).1; omega, by rw [eD0]; exact (o6.blk hg).2.1⟩)
  have H7 := Lib.hid (show ∀ g, (Value.slice a7 z7.length k7).ownBlock = some g → w3.heap.size ≤ g ∧ g < D0 from fun g hg => ⟨by have := (o7.blk hg).1; omega, by rw [eD0]; exact (o7.blk hg).2.1⟩)
  have H9 := Lib.hid (show ∀ g, (Value.slice a9 z9.length k9).ownBlock = some g → w3.heap.size ≤ g ∧ g < D0 from fun g hg => ⟨by have := (o9.blk hg).1; omega, by rw [eD0]; exact (o9.blk hg).2.1⟩)
  have H10 := Lib.hid (show ∀ g, (Value.slice a10 z10.length k10).ownBlock = some g → w3.heap.size ≤ g ∧ g < D0 from fun g hg => ⟨by have := (o10.blk hg).1; omega, by rw [eD0]; exact (o10.blk hg).2.1⟩)
  go_wp2_with fail
  refine (nat_Shr _ z10 n _ o10.sl (by omega) m10.1 HN1.out).mono ?_; rintro e w11 ⟨r11, z11, rfl, o11, m11, e11, l11, b11⟩
  obtain ⟨a11, k11, rfl⟩ := o11.slc
  have hb11 := BB.size
  have E11 := Lib.hid e11; clear e11
  replace BB := BB.trans (b11.mono BB.size)
  replace s0 := s0.next b11
  replace s1 := s1.next b11
  replace ox := ox.next b11
  replace oy := oy.next b11
  replace o4 := o4.next b11
  replace o5 := o5.next b11
  replace o6 := o6.next b11
  replace o7 := o7.next b11
  replace KL := KL.next b11
  replace o9 := o9.next b11
  replace o10 := o10.next b11
  replace B := B.trans (b11.mono B.size)
  clear b11
  obtain ⟨D1, eD1⟩ : ∃ n, n = w11.heap.size := ⟨_, rfl⟩
  have H11 := Lib.hid (show ∀ g, (Value.slice a11 z11.length k11).ownBlock = some g → D0 ≤ g ∧ g < D1 from fun g hg => ⟨by have := (o11.blk hg).1; omega, by rw [eD1]; exact (o11.blk hg).2.1⟩)
  clear eD0
  go_wp2_with fail
  refine (nat_Shr v0 x0 0 _ s0 (by omega) f0 (by decide)).mono ?_; rintro e w12 ⟨r12, z12, rfl, o12, m12, e12, l12, b12⟩
  obtain ⟨a12, k12, rfl⟩ := o12.slc
  have hb12 := BB.size
  clear m12 l12
  clear e12
  replace BB := BB.trans (b12.mono BB.size)
  replace s0 := s0.next b12
  replace s1 := s1.next b12
  replace ox := ox.next b12
  replace oy := oy.next b12
  replace o4 := o4.next b12
  replace o5 := o5.next b12
  replace o6 := o6.next b12
  replace o7 := o7.next b12
  replace KL := KL.next b12
  replace o9 := o9.next b12
  replace o10 := o10.next b12
  replace o11 := o11.next b12
  replace B := B.trans (b12.mono B.size)
  clear b12
  have H12 := Lib.hid (show ∀ g, (Value.slice a12 z12.length k12).ownBlock = some g → w3.heap.size ≤ g ∧ D1 ≤ g from fun g hg => ⟨by have := (o12.blk hg).1; omega, by rw [eD1]; exact (o12.blk hg).1⟩)
  clear eD1
  obtain ⟨w13, e13, KA, b13, hs13⟩ := boxes1 w12 23 [(Value.slice a9 z9.length k9), (Value.slice a10 z10.length k10), (Value.slice a12 z12.length k12)]
  clear hs13
  obtain ⟨gA, egA⟩ : ∃ g, g = w12.heap.size := ⟨_, rfl⟩
  rw [← egA] at KA
  replace BB := BB.trans (b13.mono BB.size)
  replace s0 := s0.next b13
  replace s1 := s1.next b13
  replace ox := ox.next b13
  replace oy := oy.next b13
  replace o4 := o4.next b13
  replace o5 := o5.next b13
  replace o6 := o6.next b13
  replace o7 := o7.next b13
  replace KL := KL.next b13
  replace o9 := o9.next b13
  replace o10 := o10.next b13
  replace o11 := o11.next b13
  replace o12 := o12.next b13
  replace B := B.trans (b13.mono B.size)
  clear b13
  have hrow : w13.ownsRow gL 23 1 (.slice (some ⟨gL, 0, none⟩) 4 4) 4 [(Value.slice a4 z4.length k4), (Value.slice a5 z5.length k5), (Value.slice a6 z6.length k6), (Value.slice a7 z7.length k7)] := ⟨rfl, .inr ⟨gL, 4, _, rfl, Nat.le_refl _, KL, Nat.le_refl _, by decide, rfl, rfl⟩⟩
  have one : ∀ u ∈ ([(Value.slice a9 z9.length k9), (Value.slice a10 z10.length k10), (Value.slice a12 z12.length k12)] : List Value), u.oneCell' = true := by
    intro u hu
    simp only [List.mem_cons, List.not_mem_nil, or_false] at hu
    rcases hu with rfl | rfl | rfl <;> rfl
  go_upto_region 12 with (at_builtin; rw [← e13, ← egA]; refine apVs 46 23 24 (.slice none 0 0) Try.underlying46 (by kernel_rfl) (by decide) rfl rfl _ _ rfl w13 gL (.slice (some ⟨gL, 0, none⟩) 4 4) 4 _ hrow (Nat.le_of_lt KL.lt) gA 3 3 [(Value.slice a9 z9.length k9), (Value.slice a10 z10.length k10), (Value.slice a12 z12.length k12)] rfl rfl rfl (fun j u hj => (KA.cell j).trans hj) one (by omega) ?_; intro vl w14 hl bl14 gl14; have GL := Lib.hid gl14; clear gl14; have HROW := Lib.hid hrow)
  clear one
  replace ox := ox.kept_row HROW.out GL.out (by decide)
  replace oy := oy.kept_row HROW.out GL.out (by decide)
  replace o4 := o4.kept_row HROW.out GL.out (by decide)
  replace o5 := o5.kept_row HROW.out GL.out (by decide)
  replace o6 := o6.kept_row HROW.out GL.out (by decide)
  replace o7 := o7.kept_row HROW.out GL.out (by decide)
  replace o9 := o9.kept_row HROW.out GL.out (by decide)
  replace o10 := o10.kept_row HROW.out GL.out (by decide)
  replace o11 := o11.kept_row HROW.out GL.out (by decide)
  replace o12 := o12.kept_row HROW.out GL.out (by decide)
  have hBw := B.size
  replace B := B.trans (bl14.mono (by omega))
  obtain ⟨vals, evals⟩ : ∃ l : List Value, l = [(Value.slice a4 z4.length k4), (Value.slice a5 z5.length k5), (Value.slice a6 z6.length k6), (Value.slice a7 z7.length k7), (Value.slice a9 z9.length k9), (Value.slice a10 z10.length k10), (Value.slice a12 z12.length k12)] := ⟨_, rfl⟩
  obtain ⟨wat, ewat⟩ : ∃ l : List (Value × List Nat), l = [(r2, x0), (r3, x1), ((Value.slice a11 z11.length k11), z11)] := ⟨_, rfl⟩
  have hv : ∀ v, v ∈ vals → ∀ g, v.ownBlock = some g → w3.heap.size ≤ g ∧ (g < D0 ∨ D1 ≤ g) := by
    intro v hm g hg
    rw [evals] at hm
    simp only [List.mem_cons, List.not_mem_nil, or_false] at hm
    rcases hm with rfl | rfl | rfl | rfl | rfl | rfl | rfl
    · have h1 := H4.out g hg; omega
    · have h1 := H5.out g hg; omega
    · have h1 := H6.out g hg; omega
    · have h1 := H7.out g hg; omega
    · have h1 := H9.out g hg; omega
    · have h1 := H10.out g hg; omega
    · have h1 := H12.out g hg; omega
  have hy : ∀ y, y ∈ wat → ∀ g, y.1.ownBlock = some g → g < w3.heap.size ∨ (D0 ≤ g ∧ g < D1) := by
    intro v hm g hg
    rw [ewat] at hm
    simp only [List.mem_cons, List.not_mem_nil, or_false] at hm
    rcases hm with rfl | rfl | rfl
    · have h1 := HX.out g hg; omega
    · have h1 := HY.out g hg; omega
    · have h1 := H11.out g hg; omega
  have fam : Fam w w14 23 gL vl vals wat := by
    refine ⟨by rw [evals]; exact hl, ?_, ?_, fun v hm y hm2 g h1 h2 => by have := hv v hm g h1; have := hy y hm2 g h2; omega, B⟩
    · intro v hm
      rw [evals] at hm
      simp only [List.mem_cons, List.not_mem_nil, or_false] at hm
      rcases hm with rfl | rfl | rfl | rfl | rfl | rfl | rfl
      · exact ⟨_, o4.mono (by omega)⟩
      · exact ⟨_, o5.mono (by omega)⟩
      · exact ⟨_, o6.mono (by omega)⟩
      · exact ⟨_, o7.mono (by omega)⟩
      · exact ⟨_, o9.mono (by omega)⟩
      · exact ⟨_, o10.mono (by omega)⟩
      · exact ⟨_, o12.mono (by omega)⟩
    · intro v hm
      rw [ewat] at hm
      simp only [List.mem_cons, List.not_mem_nil, or_false] at hm
      rcases hm with rfl | rfl | rfl
      · exact ox.mono (by omega)
      · exact oy.mono (by omega)
      · exact o11.mono (by omega)
  have HZ := Lib.hid (show nv W64 z11 = nv W64 x0 by rw [E11.out, E10.out, Nat.mul_div_cancel _ (Nat.two_pow_pos n)])
  have hlen : vals.length = 7 := by rw [evals]; rfl
  have hin : ∀ y, y ∈ ([(r2, x0), (r3, x1), ((Value.slice a11 z11.length k11), z11)] : List (Value × List Nat)) → y ∈ wat := fun y hm => by rw [ewat]; exact hm
  have HIN := Lib.hid hin; have HLEN := Lib.hid hlen; have HVL := Lib.hid l11; have MD := Lib.hid m11
  obtain ⟨gv, cv, rfl⟩ : ∃ g c, vl = .slice (some ⟨g, 0, none⟩) 7 c := by
    rcases rowOwn_shape hl with ⟨_, h⟩ | ⟨g, c, h, _⟩
    · exact absurd h (by decide)
    · exact ⟨g, c, h⟩
  have FAM := Lib.hid fam
  clear fam hl hv hy hin hlen evals ewat ox oy s0 s1 B BB KL KA hrow HROW GL bl14 hBw l11 m11 o4 o5 o6 o7 o9 o10 o11 o12
  clear hb4 hb5 hb6 hb7 hb9 hb10 hb11 hb12 hbox hboy hW1 hgL hgl2 hbL
  go_wp2
  go_loopw [18] (fun iv wr => ∃ i : Nat, i ≤ 7 ∧ iv = .int .i64 i ∧ Fam w wr 23 gL (.slice (some ⟨gv, 0, none⟩) 7 cv) vals wat) (fun iv _ => 7 - (intOf iv).toNat)
  case atStart => exact ⟨0, by omega, rfl, FAM.out⟩
  case round =>
    clear FAM
    obtain ⟨i, hi, rfl, fam⟩ := hrel
    by_cases hi7 : i < 7
    · obtain ⟨wo, rfl⟩ : ∃ wo : World, wo = wr := ⟨_, rfl⟩
      obtain ⟨vi, hvi⟩ : ∃ v, vals[i]? = some v := ⟨_, List.getElem?_eq_getElem (by rw [HLEN.out]; exact hi7)⟩
      have HM := Lib.hid (show vi ∈ vals from List.mem_of_getElem? hvi)
      obtain ⟨ms, hms⟩ := fam.each vi HM.out
      obtain ⟨ai, ci, rfl⟩ := hms.slc
      have HVI := Lib.hid hvi
      obtain ⟨L, eL⟩ : ∃ L, L = ms.length := ⟨_, rfl⟩
      have hL : (L : Int) ≤ 9223372036854775807 := by have := hms.len; unfold maxLen at this; omega
      have HL := Lib.hid hL
      rw [← eL] at HM HVI
      clear hvi hms eL hL
      have FAM := Lib.hid fam; clear fam
      go_wp2
      go_loopw [19] (fun kv wr => ∃ k : Nat, kv = .int .i64 k ∧ k ≤ L ∧ Fam w wr 23 gL (.slice (some ⟨gv, 0, none⟩) 7 cv) vals wat) (fun kv _ => L - (intOf kv).toNat)
      case atStart => exact ⟨0, rfl, by omega, FAM.out⟩
      case round =>
        clear FAM
        obtain ⟨k, rfl, hk, fam⟩ := hrel
        have hLb := HL.out
        have qv : wr.cell? ⟨gv, i, none⟩ = some (.slice ai L ci) := by
          have h1 := fam.row
          rw [HLEN.out] at h1
          rw [World.ownsRow.cellAt h1 i (by omega)]; exact HVI.out
        by_cases hkL : k < L
        · obtain ⟨ys, hys⟩ := fam.each _ HM.out
          rcases hys.shape with ⟨h1, _⟩ | ⟨g, cap, h1, _⟩
          · simp only [Value.slice.injEq] at h1
            exact absurd h1.2.1 (by omega)
          simp only [Value.slice.injEq] at h1
          obtain ⟨rfl, h2, rfl⟩ := h1
          have cy := hys.cellAt k (by omega)
          have fy := hys.frozenAt k
          obtain ⟨y, ey⟩ : ∃ y, y = ys.getD k 0 := ⟨_, rfl⟩
          obtain ⟨z, ez⟩ : ∃ z, z = (y + 1) % 18446744073709551616 := ⟨_, rfl⟩
          have hwz : IntKind.u64.wrap ((y : Int) + 1) = (z : Int) := by rw [IntKind.wrap_u64]; omega
          rw [← ey] at cy
          clear ey ez h2 hys
          have HF := Lib.hid (fam.store (by decide) HM.out k z)
          clear fam
          go_wp2
          go_roundw
          case rel => exact ⟨k + 1, by go_num, by omega, HF.out⟩
          case measure => simp [intOf] <;> omega
        · have hkL2 : ¬ (k : Int) < (L : Int) := by omega
          have HF := Lib.hid fam
          clear fam
          go_wp2
          go_roundw
          case rel => exact ⟨i + 1, by omega, by go_num, HF.out⟩
          case measure => simp [intOf] <;> omega
    · obtain rfl : 7 = i := by omega
      have s0 := HS0.out.below fam.below (Nat.le_refl _)
      have s1 := HS1.out.below fam.below (Nat.le_refl _)
      have sx := (fam.stay _ (HIN.out _ (.head _))).sl
      have sy := (fam.stay _ (HIN.out _ (.tail _ (.head _)))).sl
      have sd := (fam.stay _ (HIN.out _ (.tail _ (.tail _ (.head _))))).sl
      have B := fam.below
      clear fam
      go_wp2_with fail
      refine (ref_Same_yes v0 r2 x0 _ s0 sx (by omega)).mono ?_; rintro e wa ⟨rfl, qa⟩
      have ba := qa.below wr.heap.size; clear qa
      replace s0 := s0.next ba; replace s1 := s1.next ba; replace sy := sy.next ba; replace sd := sd.next ba
      replace B := B.trans (ba.mono B.size)
      clear ba sx
      go_wp2_with fail
      refine (ref_Same_yes v1 r3 x1 _ s1 sy (by omega)).mono ?_; rintro e wb ⟨rfl, qa⟩
      have ba := qa.below wa.heap.size; clear qa
      replace s0 := s0.next ba; replace sd := sd.next ba
      replace B := B.trans (ba.mono B.size)
      clear ba sy s1
      go_wp2_with fail
      refine (nat_Cmp_is _ v0 z11 x0 _ sd s0 (by have := HVL.out; omega) (by omega) MD.out.1 f0 0 (cmpN_eq HZ.out)).mono ?_; rintro e wc ⟨rfl, qa⟩
      have ba := qa.below wb.heap.size; clear qa
      replace B := B.trans (ba.mono B.size)
      clear ba sd s0
      go_wp2
      go_ret
      exact ⟨rfl, B⟩

set_option maxRecDepth 20000 in
set_option maxHeartbeats 4000000 in
theorem walk_no (v0 v1 : Value) (x0 x1 : List Nat) (n : Nat) (w : World) (s0 : Sl .u64 w v0 x0) (s1 : Sl .u64 w v1 x1) (f0 : wf W64 x0) (f1 : wf W64 x1) (l0 : x0.length ≤ 10) (l1 : x1.length ≤ 10) (hn : n < 256) (hc : nv W64 x0 < nv W64 x1) :
    Calls Try.prog 8 #[v0, v1, .int .u8 n] w (LawOk w) := by
  have HC := Lib.hid hc; clear hc
  have B := Below.refl w.heap.size w
  have hn0 : (0 : Int) ≤ (n : Int) := Int.natCast_nonneg _
  have hn1 : (n : Int) ≤ 9223372036854775807 := by omega
  have HN1 := Lib.hid hn1; clear hn1
  have HS0 := Lib.hid s0; have HS1 := Lib.hid s1
  go_enter Try.func8, Try.ntmps8
  go_wp2_with fail
  refine (law1_awake _).mono ?_; rintro e w1 ⟨rfl, b1⟩
  replace s0 := s0.next b1
  replace s1 := s1.next b1
  replace B := B.trans (b1.mono B.size)
  clear b1
  go_wp2_with fail
  refine (law1_few_yes v0 v1 (.slice none 0 0) x0 x1 [] 10 _ s0 s1 (Sl.nil .u64 _) (by omega) (by omega) (by simp)).mono ?_; rintro e wx ⟨rfl, rfl⟩
  have hbox := B.size
  go_upto_region 5 with (at_builtin; refine apSl 23 32 Try.underlying23 (by kernel_rfl) rfl _ _ rfl _ w1.heap.size (.slice none 0 0) v0 [] x0 (Own.nil _ _ _ _) (Nat.le_refl _) rfl rfl s0 (by simp; omega) ?_; intro r2 w2 ox b2; rw [List.nil_append] at ox)
  replace s0 := s0.next b2
  replace s1 := s1.next b2
  replace B := B.trans (b2.mono B.size)
  clear b2
  have hboy := B.size
  go_upto_region 6 with (at_builtin; refine apSl 23 32 Try.underlying23 (by kernel_rfl) rfl _ _ rfl _ w2.heap.size (.slice none 0 0) v1 [] x1 (Own.nil _ _ _ _) (Nat.le_refl _) rfl rfl s1 (by simp; omega) ?_; intro r3 w3 oy b3; rw [List.nil_append] at oy)
  replace s0 := s0.next b3
  replace s1 := s1.next b3
  replace ox := ox.next b3
  replace B := B.trans (b3.mono B.size)
  clear b3
  have hX : ∀ g, r2.ownBlock = some g → g < w3.heap.size := fun g hg => (ox.blk hg).2.1
  have hY : ∀ g, r3.ownBlock = some g → g < w3.heap.size := fun g hg => (oy.blk hg).2.1
  have HX := Lib.hid hX; have HY := Lib.hid hY; clear hX hY
  have hW1 := B.size
  have BB := Below.refl w3.heap.size w3
  go_wp2_with fail
  refine (nat_Norm v0 x0 _ s0 (by omega) f0).mono ?_; rintro e w4 ⟨r4, z4, rfl, o4, m4, e4, l4, b4⟩
  obtain ⟨a4, k4, rfl⟩ := o4.slc
  have hb4 := BB.size
  clear m4 l4
  clear e4
  replace BB := BB.trans (b4.mono BB.size)
  replace s0 := s0.next b4
  replace s1 := s1.next b4
  replace ox := ox.next b4
  replace oy := oy.next b4
  replace B := B.trans (b4.mono B.size)
  clear b4
  go_wp2_with fail
  refine (nat_Add v0 v1 x0 x1 _ s0 s1 (by omega) (by omega) f0 f1).mono ?_; rintro e w5 ⟨r5, z5, rfl, o5, m5, e5, l5, b5⟩
  obtain ⟨a5, k5, rfl⟩ := o5.slc
  have hb5 := BB.size
  clear m5 l5
  clear e5
  replace BB := BB.trans (b5.mono BB.size)
  replace s0 := s0.next b5
  replace s1 := s1.next b5
  replace ox := ox.next b5
  replace oy := oy.next b5
  replace o4 := o4.next b5
  replace B := B.trans (b5.mono B.size)
  clear b5
  go_wp2_with fail
  refine (nat_Mul v0 v1 x0 x1 _ s0 s1 (by omega) (by omega) f0 f1).mono ?_; rintro e w6 ⟨r6, z6, rfl, o6, m6, e6, l6, b6⟩
  obtain ⟨a6, k6, rfl⟩ := o6.slc
  have hb6 := BB.size
  clear m6 l6
  clear e6
  replace BB := BB.trans (b6.mono BB.size)
  replace s0 := s0.next b6
  replace s1 := s1.next b6
  replace ox := ox.next b6
  replace oy := oy.next b6
  replace o4 := o4.next b6
  replace o5 := o5.next b6
  replace B := B.trans (b6.mono B.size)
  clear b6
  go_wp2_with fail
  refine (nat_MulAdd v0 x0 1 0 _ s0 (by omega) f0 (by decide) (by decide)).mono ?_; rintro e w7 ⟨r7, z7, rfl, o7, m7, e7, l7, b7⟩
  obtain ⟨a7, k7, rfl⟩ := o7.slc
  have hb7 := BB.size
  clear m7 l7
  clear e7
  replace BB := BB.trans (b7.mono BB.size)
  replace s0 := s0.next b7
  replace s1 := s1.next b7
  replace ox := ox.next b7
  replace oy := oy.next b7
  replace o4 := o4.next b7
  replace o5 := o5.next b7
  replace o6 := o6.next b7
  replace B := B.trans (b7.mono B.size)
  clear b7
  obtain ⟨w8, e8, KL, b8, hs8⟩ := boxes1 w7 23 [(Value.slice a4 z4.length k4), (Value.slice a5 z5.length k5), (Value.slice a6 z6.length k6), (Value.slice a7 z7.length k7)]
  clear hs8
  go_wp2_with fail
  rw [← e8]
  clear e8
  have hbL := BB.size
  replace BB := BB.trans (b8.mono BB.size)
  obtain ⟨gL, egL⟩ : ∃ g, g = w7.heap.size := ⟨_, rfl⟩
  have hgL : w7.heap.size ≤ gL := by rw [egL]; omega
  have hgl2 : gL ≤ w8.heap.size := by rw [egL]; exact b8.size
  rw [← egL] at KL ⊢
  clear egL
  replace s0 := s0.next b8
  replace s1 := s1.next b8
  replace ox := ox.next b8
  replace oy := oy.next b8
  replace o4 := o4.next b8
  replace o5 := o5.next b8
  replace o6 := o6.next b8
  replace o7 := o7.next b8
  replace B := B.trans (b8.mono B.size)
  clear b8
  refine (nat_Sub_no v0 v1 x0 x1 _ s0 s1 (by omega) (by omega) f0 f1 HC.out).mono ?_; rintro e w9 ⟨rfl, q9⟩
  have b9 := q9.below w8.heap.size; clear q9
  replace BB := BB.trans (b9.mono BB.size)
  replace s0 := s0.next b9
  replace s1 := s1.next b9
  replace ox := ox.next b9
  replace oy := oy.next b9
  replace o4 := o4.next b9
  replace o5 := o5.next b9
  replace o6 := o6.next b9
  replace o7 := o7.next b9
  replace KL := KL.next b9
  replace B := B.trans (b9.mono B.size)
  clear b9
  go_wp2_with fail
  refine (nat_Shl v0 x0 n _ s0 (by omega) f0 (by omega)).mono ?_; rintro e w10 ⟨r10, z10, rfl, o10, m10, e10, l10, b10⟩
  obtain ⟨a10, k10, rfl⟩ := o10.slc
  have hb10 := BB.size
  have E10 := Lib.hid e10; clear e10
  replace BB := BB.trans (b10.mono BB.size)
  replace s0 := s0.next b10
  replace s1 := s1.next b10
  replace ox := ox.next b10
  replace oy := oy.next b10
  replace o4 := o4.next b10
  replace o5 := o5.next b10
  replace o6 := o6.next b10
  replace o7 := o7.next b10
  replace KL := KL.next b10
  replace B := B.trans (b10.mono B.size)
  clear b10
  obtain ⟨D0, eD0⟩ : ∃ n, n = w10.heap.size := ⟨_, rfl⟩
  have H4 := Lib.hid (show ∀ g, (Value.slice a4 z4.length k4).ownBlock = some g → w3.heap.size ≤ g ∧ g < D0 from fun g hg => ⟨by have := (o4.blk hg).1; omega, by rw [eD0]; exact (o4.blk hg).2.1⟩)
  have H5 := Lib.hid (show ∀ g, (Value.slice a5 z5.length k5).ownBlock = some g → w3.heap.size ≤ g ∧ g < D0 from fun g hg => ⟨by have := (o5.blk hg).1; omega, by rw [eD0]; exact (o5.blk hg).2.1⟩)
  have H6 := Lib.hid (show ∀ g, (Value.slice a6 z6.length k6).ownBlock = some g → w3.heap.size ≤ g ∧ g < D0 from fun g hg => ⟨by have := (o6.blk hg).1; omega, by rw [eD0]; exact (o6.blk hg).2.1⟩)
  have H7 := Lib.hid (show ∀ g, (Value.slice a7 z7.length k7).ownBlock = some g → w3.heap.size ≤ g ∧ g < D0 from fun g hg => ⟨by have := (o7.blk hg).1; omega, by rw [eD0]; exact (o7.blk hg).2.1⟩)
  have H10 := Lib.hid (show ∀ g, (Value.slice a10 z10.length k10).ownBlock = some g → w3.heap.size ≤ g ∧ g < D0 from fun g hg => ⟨by have := (o10.blk hg).1; omega, by rw [eD0]; exact (o10.blk hg).2.1⟩)
  go_wp2_with fail
  refine (nat_Shr _ z10 n _ o10.sl (by omega) m10.1 HN1.out).mono ?_; rintro e w11 ⟨r11, z11, rfl, o11, m11, e11, l11, b11⟩
  obtain ⟨a11, k11, rfl⟩ := o11.slc
  have hb11 := BB.size
  have E11 := Lib.hid e11; clear e11
  replace BB := BB.trans (b11.mono BB.size)
  replace s0 := s0.next b11
  replace s1 := s1.next b11
  replace ox := ox.next b11
  replace oy := oy.next b11
  replace o4 := o4.next b11
  replace o5 := o5.next b11
  replace o6 := o6.next b11
  replace o7 := o7.next b11
  replace KL := KL.next b11
  replace o10 := o10.next b11
  replace B := B.trans (b11.mono B.size)
  clear b11
  obtain ⟨D1, eD1⟩ : ∃ n, n = w11.heap.size := ⟨_, rfl⟩
  have H11 := Lib.hid (show ∀ g, (Value.slice a11 z11.length k11).ownBlock = some g → D0 ≤ g ∧ g < D1 from fun g hg => ⟨by have := (o11.blk hg).1; omega, by rw [eD1]; exact (o11.blk hg).2.1⟩)
  clear eD0
  go_wp2_with fail
  refine (nat_Shr v0 x0 0 _ s0 (by omega) f0 (by decide)).mono ?_; rintro e w12 ⟨r12, z12, rfl, o12, m12, e12, l12, b12⟩
  obtain ⟨a12, k12, rfl⟩ := o12.slc
  have hb12 := BB.size
  clear m12 l12
  clear e12
  replace BB := BB.trans (b12.mono BB.size)
  replace s0 := s0.next b12
  replace s1 := s1.next b12
  replace ox := ox.next b12
  replace oy := oy.next b12
  replace o4 := o4.next b12
  replace o5 := o5.next b12
  replace o6 := o6.next b12
  replace o7 := o7.next b12
  replace KL := KL.next b12
  replace o10 := o10.next b12
  replace o11 := o11.next b12
  replace B := B.trans (b12.mono B.size)
  clear b12
  have H12 := Lib.hid (show ∀ g, (Value.slice a12 z12.length k12).ownBlock = some g → w3.heap.size ≤ g ∧ D1 ≤ g from fun g hg => ⟨by have := (o12.blk hg).1; omega, by rw [eD1]; exact (o12.blk hg).1⟩)
  clear eD1
  obtain ⟨w13, e13, KA, b13, hs13⟩ := boxes1 w12 23 [.slice none 0 0, (Value.slice a10 z10.length k10), (Value.slice a12 z12.length k12)]
  clear hs13
  obtain ⟨gA, egA⟩ : ∃ g, g = w12.heap.size := ⟨_, rfl⟩
  rw [← egA] at KA
  replace BB := BB.trans (b13.mono BB.size)
  replace s0 := s0.next b13
  replace s1 := s1.next b13
  replace ox := ox.next b13
  replace oy := oy.next b13
  replace o4 := o4.next b13
  replace o5 := o5.next b13
  replace o6 := o6.next b13
  replace o7 := o7.next b13
  replace KL := KL.next b13
  replace o10 := o10.next b13
  replace o11 := o11.next b13
  replace o12 := o12.next b13
  replace B := B.trans (b13.mono B.size)
  clear b13
  have hrow : w13.ownsRow gL 23 1 (.slice (some ⟨gL, 0, none⟩) 4 4) 4 [(Value.slice a4 z4.length k4), (Value.slice a5 z5.length k5), (Value.slice a6 z6.length k6), (Value.slice a7 z7.length k7)] := ⟨rfl, .inr ⟨gL, 4, _, rfl, Nat.le_refl _, KL, Nat.le_refl _, by decide, rfl, rfl⟩⟩
  have one : ∀ u ∈ ([.slice none 0 0, (Value.slice a10 z10.length k10), (Value.slice a12 z12.length k12)] : List Value), u.oneCell' = true := by
    intro u hu
    simp only [List.mem_cons, List.not_mem_nil, or_false] at hu
    rcases hu with rfl | rfl | rfl <;> rfl
  go_upto_region 12 with (at_builtin; rw [← e13, ← egA]; refine apVs 46 23 24 (.slice none 0 0) Try.underlying46 (by kernel_rfl) (by decide) rfl rfl _ _ rfl w13 gL (.slice (some ⟨gL, 0, none⟩) 4 4) 4 _ hrow (Nat.le_of_lt KL.lt) gA 3 3 [.slice none 0 0, (Value.slice a10 z10.length k10), (Value.slice a12 z12.length k12)] rfl rfl rfl (fun j u hj => (KA.cell j).trans hj) one (by omega) ?_; intro vl w14 hl bl14 gl14; have GL := Lib.hid gl14; clear gl14; have HROW := Lib.hid hrow)
  clear one
  replace ox := ox.kept_row HROW.out GL.out (by decide)
  replace oy := oy.kept_row HROW.out GL.out (by decide)
  replace o4 := o4.kept_row HROW.out GL.out (by decide)
  replace o5 := o5.kept_row HROW.out GL.out (by decide)
  replace o6 := o6.kept_row HROW.out GL.out (by decide)
  replace o7 := o7.kept_row HROW.out GL.out (by decide)
  replace o10 := o10.kept_row HROW.out GL.out (by decide)
  replace o11 := o11.kept_row HROW.out GL.out (by decide)
  replace o12 := o12.kept_row HROW.out GL.out (by decide)
  have hBw := B.size
  replace B := B.trans (bl14.mono (by omega))
  obtain ⟨vals, evals⟩ : ∃ l : List Value, l = [(Value.slice a4 z4.length k4), (Value.slice a5 z5.length k5), (Value.slice a6 z6.length k6), (Value.slice a7 z7.length k7), .slice none 0 0, (Value.slice a10 z10.length k10), (Value.slice a12 z12.length k12)] := ⟨_, rfl⟩
  obtain ⟨wat, ewat⟩ : ∃ l : List (Value × List Nat), l = [(r2, x0), (r3, x1), ((Value.slice a11 z11.length k11), z11)] := ⟨_, rfl⟩
  have hv : ∀ v, v ∈ vals → ∀ g, v.ownBlock = some g → w3.heap.size ≤ g ∧ (g < D0 ∨ D1 ≤ g) := by
    intro v hm g hg
    rw [evals] at hm
    simp only [List.mem_cons, List.not_mem_nil, or_false] at hm
    rcases hm with rfl | rfl | rfl | rfl | rfl | rfl | rfl
    · have h1 := H4.out g hg; omega
    · have h1 := H5.out g hg; omega
    · have h1 := H6.out g hg; omega
    · have h1 := H7.out g hg; omega
    · simp [Value.ownBlock] at hg
    · have h1 := H10.out g hg; omega
    · have h1 := H12.out g hg; omega
  have hy : ∀ y, y ∈ wat → ∀ g, y.1.ownBlock = some g → g < w3.heap.size ∨ (D0 ≤ g ∧ g < D1) := by
    intro v hm g hg
    rw [ewat] at hm
    simp only [List.mem_cons, List.not_mem_nil, or_false] at hm
    rcases hm with rfl | rfl | rfl
    · have h1 := HX.out g hg; omega
    · have h1 := HY.out g hg; omega
    · have h1 := H11.out g hg; omega
  have fam : Fam w w14 23 gL vl vals wat := by
    refine ⟨by rw [evals]; exact hl, ?_, ?_, fun v hm y hm2 g h1 h2 => by have := hv v hm g h1; have := hy y hm2 g h2; omega, B⟩
    · intro v hm
      rw [evals] at hm
      simp only [List.mem_cons, List.not_mem_nil, or_false] at hm
      rcases hm with rfl | rfl | rfl | rfl | rfl | rfl | rfl
      · exact ⟨_, o4.mono (by omega)⟩
      · exact ⟨_, o5.mono (by omega)⟩
      · exact ⟨_, o6.mono (by omega)⟩
      · exact ⟨_, o7.mono (by omega)⟩
      · exact ⟨[], Own.nil _ _ _ _⟩
      · exact ⟨_, o10.mono (by omega)⟩
      · exact ⟨_, o12.mono (by omega)⟩
    · intro v hm
      rw [ewat] at hm
      simp only [List.mem_cons, List.not_mem_nil, or_false] at hm
      rcases hm with rfl | rfl | rfl
      · exact ox.mono (by omega)
      · exact oy.mono (by omega)
      · exact o11.mono (by omega)
  have HZ := Lib.hid (show nv W64 z11 = nv W64 x0 by rw [E11.out, E10.out, Nat.mul_div_cancel _ (Nat.two_pow_pos n)])
  have hlen : vals.length = 7 := by rw [evals]; rfl
  have hin : ∀ y, y ∈ ([(r2, x0), (r3, x1), ((Value.slice a11 z11.length k11), z11)] : List (Value × List Nat)) → y ∈ wat := fun y hm => by rw [ewat]; exact hm
  have HIN := Lib.hid hin; have HLEN := Lib.hid hlen; have HVL := Lib.hid l11; have MD := Lib.hid m11
  obtain ⟨gv, cv, rfl⟩ : ∃ g c, vl = .slice (some ⟨g, 0, none⟩) 7 c := by
    rcases rowOwn_shape hl with ⟨_, h⟩ | ⟨g, c, h, _⟩
    · exact absurd h (by decide)
    · exact ⟨g, c, h⟩
  have FAM := Lib.hid fam
  clear fam hl hv hy hin hlen evals ewat ox oy s0 s1 B BB KL KA hrow HROW GL bl14 hBw l11 m11 o4 o5 o6 o7 o10 o11 o12
  clear hb4 hb5 hb6 hb7 hb10 hb11 hb12 hbox hboy hW1 hgL hgl2 hbL
  go_wp2
  go_loopw [18] (fun iv wr => ∃ i : Nat, i ≤ 7 ∧ iv = .int .i64 i ∧ Fam w wr 23 gL (.slice (some ⟨gv, 0, none⟩) 7 cv) vals wat) (fun iv _ => 7 - (intOf iv).toNat)
  case atStart => exact ⟨0, by omega, rfl, FAM.out⟩
  case round =>
    clear FAM
    obtain ⟨i, hi, rfl, fam⟩ := hrel
    by_cases hi7 : i < 7
    · obtain ⟨wo, rfl⟩ : ∃ wo : World, wo = wr := ⟨_, rfl⟩
      obtain ⟨vi, hvi⟩ : ∃ v, vals[i]? = some v := ⟨_, List.getElem?_eq_getElem (by rw [HLEN.out]; exact hi7)⟩
      have HM := Lib.hid (show vi ∈ vals from List.mem_of_getElem? hvi)
      obtain ⟨ms, hms⟩ := fam.each vi HM.out
      obtain ⟨ai, ci, rfl⟩ := hms.slc
      have HVI := Lib.hid hvi
      obtain ⟨L, eL⟩ : ∃ L, L = ms.length := ⟨_, rfl⟩
      have hL : (L : Int) ≤ 9223372036854775807 := by have := hms.len; unfold maxLen at this; omega
      have HL := Lib.hid hL
      rw [← eL] at HM HVI
      clear hvi hms eL hL
      have FAM := Lib.hid fam; clear fam
      go_wp2
      go_loopw [19] (fun kv wr => ∃ k : Nat, kv = .int .i64 k ∧ k ≤ L ∧ Fam w wr 23 gL (.slice (some ⟨gv, 0, none⟩) 7 cv) vals wat) (fun kv _ => L - (intOf kv).toNat)
      case atStart => exact ⟨0, rfl, by omega, FAM.out⟩
      case round =>
        clear FAM
        obtain ⟨k, rfl, hk, fam⟩ := hrel
        have hLb := HL.out
        have qv : wr.cell? ⟨gv, i, none⟩ = some (.slice ai L ci) := by
          have h1 := fam.row
          rw [HLEN.out] at h1
          rw [World.ownsRow.cellAt h1 i (by omega)]; exact HVI.out
        by_cases hkL : k < L
        · obtain ⟨ys, hys⟩ := fam.each _ HM.out
          rcases hys.shape with ⟨h1, _⟩ | ⟨g, cap, h1, _⟩
          · simp only [Value.slice.injEq] at h1
            exact absurd h1.2.1 (by omega)
          simp only [Value.slice.injEq] at h1
          obtain ⟨rfl, h2, rfl⟩ := h1
          have cy := hys.cellAt k (by omega)
          have fy := hys.frozenAt k
          obtain ⟨y, ey⟩ : ∃ y, y = ys.getD k 0 := ⟨_, rfl⟩
          obtain ⟨z, ez⟩ : ∃ z, z = (y + 1) % 18446744073709551616 := ⟨_, rfl⟩
          have hwz : IntKind.u64.wrap ((y : Int) + 1) = (z : Int) := by rw [IntKind.wrap_u64]; omega
          rw [← ey] at cy
          clear ey ez h2 hys
          have HF := Lib.hid (fam.store (by decide) HM.out k z)
          clear fam
          go_wp2
          go_roundw
          case rel => exact ⟨k + 1, by go_num, by omega, HF.out⟩
          case measure => simp [intOf] <;> omega
        · have hkL2 : ¬ (k : Int) < (L : Int) := by omega
          have HF := Lib.hid fam
          clear fam
          go_wp2
          go_roundw
          case rel => exact ⟨i + 1, by omega, by go_num, HF.out⟩
          case measure => simp [intOf] <;> omega
    · obtain rfl : 7 = i := by omega
      have s0 := HS0.out.below fam.below (Nat.le_refl _)
      have s1 := HS1.out.below fam.below (Nat.le_refl _)
      have sx := (fam.stay _ (HIN.out _ (.head _))).sl
      have sy := (fam.stay _ (HIN.out _ (.tail _ (.head _)))).sl
      have sd := (fam.stay _ (HIN.out _ (.tail _ (.tail _ (.head _))))).sl
      have B := fam.below
      clear fam
      go_wp2_with fail
      refine (ref_Same_yes v0 r2 x0 _ s0 sx (by omega)).mono ?_; rintro e wa ⟨rfl, qa⟩
      have ba := qa.below wr.heap.size; clear qa
      replace s0 := s0.next ba; replace s1 := s1.next ba; replace sy := sy.next ba; replace sd := sd.next ba
      replace B := B.trans (ba.mono B.size)
      clear ba sx
      go_wp2_with fail
      refine (ref_Same_yes v1 r3 x1 _ s1 sy (by omega)).mono ?_; rintro e wb ⟨rfl, qa⟩
      have ba := qa.below wa.heap.size; clear qa
      replace s0 := s0.next ba; replace sd := sd.next ba
      replace B := B.trans (ba.mono B.size)
      clear ba sy s1
      go_wp2_with fail
      refine (nat_Cmp_is _ v0 z11 x0 _ sd s0 (by have := HVL.out; omega) (by omega) MD.out.1 f0 0 (cmpN_eq HZ.out)).mono ?_; rintro e wc ⟨rfl, qa⟩
      have ba := qa.below wb.heap.size; clear qa
      replace B := B.trans (ba.mono B.size)
      clear ba sd s0
      go_wp2
      go_ret
      exact ⟨rfl, B⟩

theorem walk (v0 : Value) (x0 : List Nat) (v1 : Value) (x1 : List Nat) (n : Nat) (w : World) (s0 : Sl .u64 w v0 x0) (f0 : wf W64 x0) (s1 : Sl .u64 w v1 x1) (f1 : wf W64 x1) (hn : n < 256) :
    Calls Try.prog 8 #[v0, v1, .int .u8 n] w (LawOk w) := by
  by_cases h : (x0.length : Int) ≤ 10 ∧ (x1.length : Int) ≤ 10 ∧ (([] : List Nat).length : Int) ≤ 10
  · by_cases hc : nv W64 x1 ≤ nv W64 x0
    · exact walk_yes v0 v1 x0 x1 n w s0 s1 f0 f1 (by omega) (by omega) hn hc
    · exact walk_no v0 v1 x0 x1 n w s0 s1 f0 f1 (by omega) (by omega) hn (by omega)
  · have H := Lib.hid h; clear h
    go_enter Try.func8, Try.ntmps8
    go_wp2_with fail
    refine (law1_awake w).mono ?_; rintro e w1 ⟨rfl, b1⟩
    go_wp2_with fail
    refine (law1_few_no v0 v1 (.slice none 0 0) x0 x1 [] 10 _ (s0.next b1) (s1.next b1) (Sl.nil .u64 _) H.out).mono ?_; rintro e w2 ⟨rfl, rfl⟩
    go_wp2_with fail
    refine (law1_awake w1).mono ?_; rintro e w2 ⟨rfl, b2⟩
    go_wp2
    go_ret
    exact ⟨rfl, b1.trans (b2.mono b1.size)⟩


set_option maxRecDepth 100000 in
theorem lifted (os : Os) (started : os.Started) (H : Type) (enc : TypeId × Value → H) :
    ReturnsInHanded {} Try.checked os 8 .any (Rows.natOwnSpec.pre6 enc Try.prog Try.f8 Rows.natOwnRow.domain false) (Rows.natOwnSpec.post enc Try.prog Try.f8 false true false false) := by
  refine returnsInHanded_of_change (C := Try.checked) own started (by kernel_rfl) Try.func8
    (ChangeSpec.witness6 (enc := enc) (C := Try.checked) false ⟨#[], #[.slice none 0 0, .slice none 0 0, .int .u8 0], []⟩ 8 (by kernel_rfl) (by kernel_rfl) (by kernel_rfl) (by kernel_rfl)) ?_
  intro W base args ds gs before hval0 hW hcnd _
  have hval : ∀ (j : Nat) t v, Try.f8.params[j]? = some t → args[j]? = some v → Value.okWide Try.prog W .any base t v := hval0
  have hW' := hW
  obtain ⟨p, q, hA0, hV, rfl, hfz, hnd⟩ := hW
  have hA : DataW.TrodAll enc Try.prog W 0 (fun _ => true) true Try.f8.params.toList args.toList ds p := hA0
  rw [Try.params8] at hA hval
  obtain ⟨v0, vs0, d0, ds0, p0, q0, hargs, rfl, rfl, h0, r0⟩ := trodAll_cons hA
  obtain ⟨v1, vs1, d1, ds1, p1, q1, rfl, rfl, rfl, h1, r1⟩ := trodAll_cons r0
  obtain ⟨v2, vs2, d2, ds2, p2, q2, rfl, rfl, rfl, h2, r2⟩ := trodAll_cons r1
  obtain ⟨rfl, rfl, rfl⟩ := trodAll_nil r2
  obtain rfl : args = #[v0, v1, v2] := by cases args; simp_all
  obtain ⟨rfl, rfl⟩ := trodVars_none hV
  have k0 := h0
  have lt0 : ∀ x ∈ p0, x.block < W.heap.size := by obtain ⟨m, hm⟩ := k0; exact DataW.trod_lt m _ _ _ hm
  obtain ⟨x0, s0, f0⟩ := open_words Try.underlying23 Try.underlying32 (by kernel_rfl) (hval 0 23 v0 rfl rfl) h0
  have k1 := h1
  have lt1 : ∀ x ∈ p1, x.block < W.heap.size := by obtain ⟨m, hm⟩ := k1; exact DataW.trod_lt m _ _ _ hm
  obtain ⟨x1, s1, f1⟩ := open_words Try.underlying23 Try.underlying32 (by kernel_rfl) (hval 1 23 v1 rfl rfl) h1
  have k2 := h2
  have lt2 : ∀ x ∈ p2, x.block < W.heap.size := by obtain ⟨m, hm⟩ := k2; exact DataW.trod_lt m _ _ _ hm
  obtain ⟨i2, rfl, rfl, rfl, wi2⟩ := open_int Try.underlying5 (hval 2 5 v2 rfl rfl) h2
  obtain ⟨x2, rfl⟩ := Int.eq_ofNat_of_zero_le (wf_u8_bounds wi2).1
  clear hA0 hval0
  refine (walk v0 x0 v1 x1 x2 W s0 f0 s1 f1 (by have := wf_u8_bounds wi2; omega)).mono fun e W' ⟨he, bel⟩ => ?_
  subst he
  exact ⟨_, rfl, _, _, _, [], _, [], hW', trodAll_mk1 (shut_bool Try.underlying4 _), (trodAll_cons_mk (Below.trod laidOut (by kernel_rfl) (of_decide_eq_true (by kernel_rfl)) k0 bel lt0) (trodAll_cons_mk (Below.trod laidOut (by kernel_rfl) (of_decide_eq_true (by kernel_rfl)) k1 bel lt1) (trodAll_cons_mk (Below.trod laidOut (by kernel_rfl) (of_decide_eq_true (by kernel_rfl)) k2 bel lt2) trodAll_mk0))), rfl, bel.frame _, fun h => by cases h⟩

theorem over : Rows.natOwnRow.holds Try.pinned (OpenSpec.ofChange Rows.natOwnSpec) :=
  OpenClaim.holds_of_wide 8 Try.f8 rfl rfl rfl rfl rfl rfl rfl ⟨rfl, rfl, rfl, rfl, rfl⟩ rfl rfl rfl rfl rfl (by kernel_rfl) Try.func8 (by kernel_rfl)
    (of_decide_eq_true (by kernel_rfl)) (by unfold Func.isWrapper; first | (rw [if_pos (by decide +kernel)]; kernel_rfl) | (rw [if_neg (by decide +kernel)]; exact ⟨rfl, rfl⟩))
    (fun os started H enc _ => lifted os started H enc)

theorem proved : Rows.NatOwnSaid := over
#print axioms proved
end Go.Proofs.Ytnnidjhhcnmnnaa.natOwn
