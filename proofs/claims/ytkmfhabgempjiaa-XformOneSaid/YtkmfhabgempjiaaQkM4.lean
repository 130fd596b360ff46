/- What the statements of layer 9 share: awake, few, Same. -/
import Derived.Shelf.Abstract
import Derived.ChangeSame
import Derived.Lib.SmallJoins
import Derived.Test.YtkmfhabgempjiaaQkM3
import Derived.Test.YtkmfhabgempjiaaQkM2
import Derived.Test.YtkmfhabgempjiaaQkM1
namespace Go.Proofs.Ytkmfhabgempjiaa
set_option maxHeartbeats 2000000
open Go.RowKit
structure Fx (p : Nat) (w wr : World) (g : Nat) : Prop where
 lt : g < wr.heap.size
 below : Below w.heap.size w wr
 cell : wr.cell? ⟨g, 0, none⟩ = some (.int .u64 (p : Int))
theorem Fx.next {p : Nat} {w w1 w2 : World} {g : Nat} (h : Fx p w w1 g) (b : Below w1.heap.size w1 w2) : Fx p w w2 g :=
 ⟨Nat.lt_of_lt_of_le h.lt b.size, h.below.trans (b.mono h.below.size), (b.cell (p := ⟨g, 0, none⟩) h.lt).trans h.cell⟩
theorem Fx.drew {p : Nat} {w w1 : World} {g : Nat} (h : Fx p w w1 g) : Fx p w w1.drew g := h.next (Drawn.below ⟨1, rfl⟩ _)
theorem Fx.at {p : Nat} {w w1 w2 : World} {g : Nat} (h : Fx p w w1 g) (b : Below w1.heap.size w1 w2) : w2.cell? ⟨g, 0, none⟩ = some (.int .u64 (p : Int)) := (h.next b).cell
theorem Fx.set {p : Nat} {w w1 : World} {g : Nat} (h : Fx p w w1 g) {a : Addr} (ha : w.heap.size ≤ a.block) (hn : g ≠ a.block) (v : Value) : Fx p w (w1.setCell a v) g :=
 ⟨by simpa [World.setCell] using h.lt, h.below.setCell ha v, (set_far _ _ _ ⟨g, 0, none⟩ hn).trans h.cell⟩
theorem Fx.box {p : Nat} {w w1 : World} (h : Below w.heap.size w w1) : Fx p w (w1.alloc (.cells #[.int .u64 p] 29)) w1.heap.size :=
 ⟨by simp, h.alloc h.size _, (World.ownsRow_lit w1 #[.int .u64 p] 1 (Nat.le_refl _) (by unfold maxLen; omega) rfl : Own .u64 29 (w1.alloc (.cells #[.int .u64 p] 29)) w1.heap.size (.slice (some ⟨w1.heap.size, 0, none⟩) 1 1) [p]).cellAt 0 (by simp)⟩
theorem Sl.drew {k : IntKind} {w : World} {v : Value} {xs : List Nat} (h : Sl k w v xs) : Sl k w.drew v xs := h.drawn ⟨1, rfl⟩
theorem Own.drew {k : IntKind} {e : TypeId} {w : World} {base : Nat} {v : Value} {xs : List Nat} (h : Own k e w base v xs) : Own k e w.drew base v xs := h.drawn ⟨1, rfl⟩
theorem ref9_Same (v u : Value) (xs ys : List Nat) (β : Bool) (w : World) (hv : Sl .u64 w v xs) (hu : Sl .u64 w u ys) (hm : xs.length ≤ 1000000000) (hn : ys.length ≤ 1000000000) (hβ : β = decide (xs = ys)) :
  Calls Try.prog 29 #[v, u] w (RetQ w (.bool β)) := by
 obtain ⟨ao, b, off, cap, rfl, hl, hcs⟩ := hv
 obtain ⟨bo, c, pff, dap, rfl, kl, kcs⟩ := hu
 by_cases hlen : xs.length = ys.length
 ·have h1 : ((xs.length : Int) != (ys.length : Int)) = false := by rw [hlen]; simp
  have h2 : ((xs.length : Int) == (ys.length : Int)) = true := by rw [hlen]; simp
  have HB := Lib.hid hβ; clear hβ
  have HL := Lib.hid hlen; clear hlen
  go_enter Try.func29, Try.ntmps29
  go_wp2
  go_loopw [5] (fun i wr => ∃ k : Nat, k ≤ xs.length ∧ i = .int .i64 (k : Nat) ∧ Drawn w wr ∧ xs.take k = ys.take k) (fun i _ => xs.length - (intOf i).toNat)
  case atStart => exact ⟨0, by omega, rfl, Drawn.refl _, by simp⟩
  case round =>
   clear h1 h2
   obtain ⟨k, hk, rfl, hq, ht⟩ := hrel
   have HT := Lib.hid ht; clear ht
   by_cases hlt : k < xs.length
   ·have hlt2 : k < ys.length := by have := HL.out; omega
    obtain rfl := hcs.ao (by intro h; subst h; simp at hlt)
    obtain rfl := kcs.ao (by intro h; subst h; simp at hlt2)
    have hcx := (hcs.drawn hq).cell k hlt
    have hcy := (kcs.drawn hq).cell k hlt2
    obtain ⟨x, ex⟩ : ∃ x, x = xs.getD k 0 := ⟨_, rfl⟩
    obtain ⟨y, ey⟩ : ∃ y, y = ys.getD k 0 := ⟨_, rfl⟩
    rw [← ex] at hcx
    rw [← ey] at hcy
    have k0 : (0 : Int) ≤ (k : Int) := Int.natCast_nonneg _
    have k1 : (k : Int) < (xs.length : Int) := by omega
    have k2 : (k : Int) < (ys.length : Int) := by omega
    have EX := Lib.hid ex; have EY := Lib.hid ey; clear ex ey
    by_cases hxy : x = y
    ·subst hxy
     go_wp2
     go_quiet (fail)
     go_wp2
     go_roundw
     case rel => exact ⟨k + 1, by omega, by go_num, hq.add _, by rw [take_snoc xs k hlt, take_snoc ys k hlt2, HT.out, ← EX.out, ← EY.out]⟩
     case measure => simp [intOf] <;> omega
    ·have t1 : ((x : Int) == (y : Int)) = false := beq_eq_false_iff_ne.mpr (fun h => hxy (Int.ofNat.inj h))
     have t2 : ((x : Int) != (y : Int)) = true := by rw [bne, t1]; rfl
     have hb : β = false := by rw [HB.out]; exact decide_eq_false (fun h => hxy (by rw [EX.out, EY.out, h]))
     subst hb
     clear hxy
     go_wp2
     go_quiet (fail)
     go_wp2
     go_ret
     exact ⟨rfl, hq.add _⟩
   ·have hb : β = true := by
     rw [HB.out]
     have h1 : k = xs.length := by omega
     have h2 : k = ys.length := h1.trans HL.out
     have h3 := HT.out
     rw [h1, List.take_length, ← h1, h2, List.take_length] at h3
     exact decide_eq_true h3
    subst hb
    go_wp2
    go_ret
    exact ⟨rfl, hq⟩
 ·have h1 : ((xs.length : Int) != (ys.length : Int)) = true := by simpa using (show ¬ (xs.length : Int) = ys.length by omega)
  have h2 : ((xs.length : Int) == (ys.length : Int)) = false := beq_eq_false_iff_ne.mpr (by omega)
  have hb : β = false := by rw [hβ]; exact decide_eq_false (fun h => hlen (by rw [h]))
  subst hb
  clear hβ hlen
  go_enter Try.func29, Try.ntmps29
  go_wp2
  go_ret
  exact ⟨rfl, Drawn.refl _⟩
theorem slices_Equal (v u : Value) (xs ys : List Nat) (β : Bool) (w : World) (hv : Sl .u64 w v xs) (hu : Sl .u64 w u ys) (hm : xs.length ≤ 1000000000) (hn : ys.length ≤ 1000000000) (hβ : β = decide (xs = ys)) :
  Calls Try.prog 97 #[v, u] w (RetQ w (.bool β)) := by
 obtain ⟨ao, b, off, cap, rfl, hl, hcs⟩ := hv
 obtain ⟨bo, c, pff, dap, rfl, kl, kcs⟩ := hu
 by_cases hlen : xs.length = ys.length
 ·have h1 : ((xs.length : Int) != (ys.length : Int)) = false := by rw [hlen]; simp
  have h2 : ((xs.length : Int) == (ys.length : Int)) = true := by rw [hlen]; simp
  have HB := Lib.hid hβ; clear hβ
  have HL := Lib.hid hlen; clear hlen
  go_enter Try.func97, Try.ntmps97
  go_wp2
  go_loopw [13] (fun i wr => ∃ k : Nat, k ≤ xs.length ∧ i = .int .i64 (k : Nat) ∧ Drawn w wr ∧ xs.take k = ys.take k) (fun i _ => xs.length - (intOf i).toNat)
  case atStart => exact ⟨0, by omega, rfl, Drawn.refl _, by simp⟩
  case round =>
   clear h1 h2
   obtain ⟨k, hk, rfl, hq, ht⟩ := hrel
   have HT := Lib.hid ht; clear ht
   by_cases hlt : k < xs.length
   ·have hlt2 : k < ys.length := by have := HL.out; omega
    obtain rfl := hcs.ao (by intro h; subst h; simp at hlt)
    obtain rfl := kcs.ao (by intro h; subst h; simp at hlt2)
    have hcx := (hcs.drawn hq).cell k hlt
    have hcy := (kcs.drawn hq).cell k hlt2
    obtain ⟨x, ex⟩ : ∃ x, x = xs.getD k 0 := ⟨_, rfl⟩
    obtain ⟨y, ey⟩ : ∃ y, y = ys.getD k 0 := ⟨_, rfl⟩
    rw [← ex] at hcx
    rw [← ey] at hcy
    have k0 : (0 : Int) ≤ (k : Int) := Int.natCast_nonneg _
    have k1 : (k : Int) < (xs.length : Int) := by omega
    have k2 : (k : Int) < (ys.length : Int) := by omega
    have EX := Lib.hid ex; have EY := Lib.hid ey; clear ex ey
    by_cases hxy : x = y
    ·subst hxy
     go_wp2
     go_quiet (fail)
     go_wp2
     go_roundw
     case rel => exact ⟨k + 1, by omega, by go_num, hq.add _, by rw [take_snoc xs k hlt, take_snoc ys k hlt2, HT.out, ← EX.out, ← EY.out]⟩
     case measure => simp [intOf] <;> omega
    ·have t1 : ((x : Int) == (y : Int)) = false := beq_eq_false_iff_ne.mpr (fun h => hxy (Int.ofNat.inj h))
     have t2 : ((x : Int) != (y : Int)) = true := by rw [bne, t1]; rfl
     have hb : β = false := by rw [HB.out]; exact decide_eq_false (fun h => hxy (by rw [EX.out, EY.out, h]))
     subst hb
     clear hxy
     go_wp2
     go_quiet (fail)
     go_wp2
     go_ret
     exact ⟨rfl, hq.add _⟩
   ·have hb : β = true := by
     rw [HB.out]
     have h1 : k = xs.length := by omega
     have h2 : k = ys.length := h1.trans HL.out
     have h3 := HT.out
     rw [h1, List.take_length, ← h1, h2, List.take_length] at h3
     exact decide_eq_true h3
    subst hb
    go_wp2
    go_ret
    exact ⟨rfl, hq⟩
 ·have h1 : ((xs.length : Int) != (ys.length : Int)) = true := by simpa using (show ¬ (xs.length : Int) = ys.length by omega)
  have h2 : ((xs.length : Int) == (ys.length : Int)) = false := beq_eq_false_iff_ne.mpr (by omega)
  have hb : β = false := by rw [hβ]; exact decide_eq_false (fun h => hlen (by rw [h]))
  subst hb
  clear hβ hlen
  go_enter Try.func97, Try.ntmps97
  go_wp2
  go_ret
  exact ⟨rfl, Drawn.refl _⟩
def LawOk (w : World) (e : Ending) (w' : World) : Prop := e = .returned (.bool true) ∧ Below w.heap.size w w'
theorem own_lit1 (w : World) (x : Nat) : Own .u64 27 (w.alloc (.cells #[.int .u64 x] 27)) w.heap.size (.slice (some ⟨w.heap.size, 0, none⟩) 1 1) [x] :=
 World.ownsRow_lit w #[.int .u64 x] 1 (Nat.le_refl _) (by unfold maxLen; omega) rfl
end Go.Proofs.Ytkmfhabgempjiaa
/- Package fpoly: Degree, Same, lead, Scale, Monic, Eval. -/
namespace Go.Proofs.Ytkmfhabgempjiaa
set_option maxHeartbeats 2000000
open Go.RowKit
def nl (p : Nat) (xs : List Nat) : List Nat := tr (xs.map (· % p))
theorem nl_nrm {p : Nat} (hp : 0 < p) (xs : List Nat) : Nrm p (nl p xs) := nrm_tr (fun x hx => by
 obtain ⟨y, _, rfl⟩ := List.mem_map.1 hx
 exact Nat.mod_lt _ hp)
theorem nl_pl (p : Nat) (xs : List Nat) : pl p (nl p xs) = pl p xs := by unfold nl; rw [pl_tr, pl_map_mod]
theorem nl_is {p : Nat} (hp : 0 < p) {zs xs : List Nat} (h : Nrm p zs) (hv : pl p zs = pl p xs) : zs = nl p xs := pl_inj hp h (nl_nrm hp xs) (hv.trans (nl_pl p xs).symm)
theorem nl_of {p : Nat} (hp : 0 < p) {zs : List Nat} (h : Nrm p zs) : nl p zs = zs := (nl_is hp h rfl).symm
theorem fp_lead (p x : Nat) (v : Value) (xs zs : List Nat) (w : World) (hp : FP p) (hv : Sl .u64 w v xs) (hm : xs.length ≤ 1000000) (hz : zs = nl p xs) (hx : x = zs.getD (zs.length - 1) 0) :
  Calls Try.prog 138 #[.agg #[.int .u64 p], v] w fun e w' => e = .returned (.int .u64 x) ∧ Below w.heap.size w w' := by
 have HZ := Lib.hid hz; clear hz
 have HX := Lib.hid hx; clear hx
 have HP := Lib.hid hp; clear hp
 have fx := Fx.box (p := p) (Below.refl w.heap.size w)
 go_enter Try.func138, Try.ntmps138
 go_wp2_with fail
 generalize w.alloc (.cells #[.int .u64 p] 29) = wb at *
 obtain ⟨g, eg⟩ : ∃ g, g = w.heap.size := ⟨_, rfl⟩
 rw [← eg] at fx ⊢
 have hgw : w.heap.size ≤ g := by omega
 clear eg
 refine (fp_Norm p v xs _ HP.out (hv.next fx.below) (by omega)).mono ?_; rintro e w2 ⟨r, z2, rfl, o2, m2, v2, l2, b2⟩
 obtain rfl : zs = z2 := HZ.out.trans (nl_is HP.out.pos m2 v2).symm
 clear v2 m2
 obtain ⟨ao, bo, oo, co, rfl, hc, cs⟩ := o2.sl
 by_cases h0 : zs.length = 0
 ·obtain rfl : zs = [] := List.length_eq_zero_iff.mp h0
  obtain rfl : x = 0 := HX.out
  go_wp2
  go_ret
  exact ⟨rfl, fx.below.trans (b2.mono fx.below.size)⟩
 ·obtain ⟨j, hj⟩ : ∃ j, zs.length = j + 1 := ⟨zs.length - 1, by omega⟩
  have hcx := cs.cell j (by omega)
  obtain rfl := cs.ao (by intro h; subst h; simp at h0)
  have hz : ((zs.length : Int) == 0) = false := beq_eq_false_iff_ne.mpr (by omega)
  have s1 : IntKind.i64.wrap ((zs.length : Int) - 1) = (j : Int) := by rw [IntWalk.i64_in _ ⟨by omega, by omega⟩]; omega
  have s2 : (zs.length : Int) - 1 = (j : Int) := by omega
  have s3 : (j : Int) < (zs.length : Int) := by omega
  have s4 : x = zs.getD j 0 := by rw [HX.out, show zs.length - 1 = j by omega]
  rw [← s4] at hcx
  have i0 : (0 : Int) ≤ (j : Int) := Int.natCast_nonneg _
  have HJ := Lib.hid hj
  clear hj s4 h0
  go_wp2
  go_ret
  exact ⟨rfl, fx.below.trans (b2.mono fx.below.size)⟩
theorem fp_Same (p : Nat) (v u : Value) (xs ys : List Nat) (β : Bool) (w : World) (hp : FP p) (s0 : Sl .u64 w v xs) (s1 : Sl .u64 w u ys) (hm : xs.length ≤ 1000000) (hn : ys.length ≤ 1000000) (hβ : β = decide (nl p xs = nl p ys)) :
  Calls Try.prog 51 #[.agg #[.int .u64 p], v, u] w fun e w' => e = .returned (.bool β) ∧ Below w.heap.size w w' := by
 have HB := Lib.hid hβ; clear hβ
 have HP := Lib.hid hp; clear hp
 have fx := Fx.box (p := p) (Below.refl w.heap.size w)
 go_enter Try.func51, Try.ntmps51
 go_upto_region 1 with (fail)
 generalize w.alloc (.cells #[.int .u64 p] 29) = wb at *
 obtain ⟨g, eg⟩ : ∃ g, g = w.heap.size := ⟨_, rfl⟩
 rw [← eg] at fx ⊢
 have hgw : w.heap.size ≤ g := by omega
 clear eg
 have fd := fx.drew
 have t0 := s0.next fd.below
 have t1 := s1.next fd.below
 have zF0 := Lib.hid fun (w : World) (hS : Below wb.drew.heap.size wb.drew w) => fd.at hS
 refine startL (S := (fun w' => Below wb.drew.heap.size wb.drew w')) (by kernel_rfl) (Below.refl _ _) (fun hHeld => ?_)
 refine tf 0 zF0.out ?_
 refine tk 1 ?_
 refine tf 3 zF0.out ?_
 refine tk 4 ?_
 refine on 2 fun K hK => ?_
 go_simp
 go_at_call 80
 refine (fp_Norm p v xs _ HP.out (t0.next hHeld) (by omega)).mono ?_; rintro e w2 ⟨r2, z2, rfl, o2, m2, v2, l2, b2⟩
 obtain rfl := nl_is HP.out.pos m2 v2; clear v2 m2
 refine hK.out _ _ (hHeld.trans (b2.mono hHeld.size)) (fun hHeld => ?_)
 clear hK K
 try simp only [Act.put, zq1, zq2, zq3]
 refine on 5 fun K hK => ?_
 go_simp
 go_at_call 80
 refine (fp_Norm p u ys _ HP.out (t1.next hHeld) (by omega)).mono ?_; rintro e w3 ⟨r3, z3, rfl, o3, m3, v3, l3, b3⟩
 obtain rfl := nl_is HP.out.pos m3 v3; clear v3 m3; replace o2 := o2.next b3
 refine hK.out _ _ (hHeld.trans (b3.mono hHeld.size)) (fun hHeld => ?_)
 clear hK K
 try simp only [Act.put, zq1, zq2, zq3]
 refine on 6 fun K hK => ?_
 go_simp
 go_at_call 97
 refine (slices_Equal r2 r3 (nl p xs) (nl p ys) β _ o2.sl o3.sl (by omega) (by omega) HB.out).mono ?_; rintro e w4 ⟨rfl, q4⟩
 refine hK.out _ _ (hHeld.trans ((q4.below _).mono hHeld.size)) (fun hHeld => ?_)
 clear hK K
 try simp only [Act.put, zq1, zq2, zq3]
 refine tk 7 ?_
 clear zF0; refine doneL (by kernel_rfl) ?_ _
 go_wp2
 go_ret
 exact ⟨rfl, fd.below.trans (hHeld.mono fd.below.size)⟩
theorem scale_arith {p i z x c : Nat} {xs zs : List Nat} (hi : i < zs.length) (hv : pl p (zs.take i) = pl p (xs.take i) * mon (Zp.of p c) 0) (hx : x = xs.getD i 0) (hz : Zp.of p z = Zp.of p x * Zp.of p c) :
  pl p ((zs.set i z).take (i + 1)) = pl p (xs.take (i + 1)) * mon (Zp.of p c) 0 := by
 rw [pl_set_take p zs i z hi, hv, hz, pl_take_succ, ← hx, CR.add_mul, mon_mul, Nat.add_zero]
theorem fp_Scale (p c : Nat) (v : Value) (xs : List Nat) (w : World) (hp : FP p) (hv : Sl .u64 w v xs) (hm : xs.length ≤ 1000000) :
  Calls Try.prog 132 #[.agg #[.int .u64 p], v, .int .u64 c] w (RetP p w xs.length (pl p xs * mon (Zp.of p c) 0)) := by
 obtain ⟨ao, b, off, cap, rfl, hl, hcs⟩ := hv
 have HP := Lib.hid hp; clear hp
 have fx := Fx.box (p := p) (Below.refl w.heap.size w)
 go_enter Try.func132, Try.ntmps132
 go_upto_region 1 with (fail)
 generalize w.alloc (.cells #[.int .u64 p] 29) = wb at *
 obtain ⟨g, eg⟩ : ∃ g, g = w.heap.size := ⟨_, rfl⟩
 rw [← eg] at fx ⊢
 have hgw : w.heap.size ≤ g := by omega
 clear eg
 go_wp2_with (at_make; refine wp_make .u64 43 27 8 Try.underlying43 (by kernel_rfl) (by decide) rfl _ _ rfl .i64 .i64 xs.length (by omega) _ _ _ rfl rfl (by omega) (by omega) ?_; intro w1 hown hbel hsz)
 obtain ⟨gg, egg⟩ : ∃ gg, gg = wb.heap.size := ⟨_, rfl⟩
 have hgg : g < gg := by have := fx.lt; omega
 have hggw : w.heap.size ≤ gg := by omega
 replace hown := hown.mono fx.below.size
 rw [← egg] at hown ⊢
 replace fx := fx.next hbel
 clear hbel hsz egg
 have hne : g ≠ gg := by omega
 go_loopw [15] (fun iv wr => ∃ (i : Nat) (zs : List Nat), i ≤ xs.length ∧ iv = .int .i64 i ∧ Fx p w wr g ∧ Own .u64 27 wr w.heap.size (.slice (some ⟨gg, 0, none⟩) xs.length xs.length) zs ∧ zs.length = xs.length ∧ pl p (zs.take i) = pl p (xs.take i) * mon (Zp.of p c) 0) (fun iv _ => xs.length - (intOf iv).toNat)
 case atStart => exact ⟨0, _, by omega, rfl, fx, hown, by simp, by simp only [List.take_zero, pl_nil]; rw [CR.zero_mul]⟩
 case round =>
  clear hown fx
  obtain ⟨i, zs, hi, rfl, fx, ho, hzl, hval⟩ := hrel
  have HV := Lib.hid hval; clear hval
  by_cases hlt : i < xs.length
  ·obtain rfl := hcs.ao (by intro h; subst h; simp at hlt)
   have hcx := (hcs.below fx.below (Nat.le_refl _)).cell i hlt
   have hcg := fx.cell
   obtain ⟨x, ex⟩ : ∃ x, x = xs.getD i 0 := ⟨_, rfl⟩
   rw [← ex] at hcx
   obtain ⟨z, ez⟩ : ∃ z, z = (Zp.of p x * Zp.of p c).val := ⟨_, rfl⟩
   have C1 := Lib.hid (fun w => gfp_Mul p x c z w HP.out ez)
   have AR := Lib.hid (scale_arith (i := i) (by omega) HV.out ex (Zp.fact HP.out ez).2)
   clear ex ez
   have i0 : (0 : Int) ≤ (i : Int) := Int.natCast_nonneg _
   have i1 : (i : Int) < (xs.length : Int) := by omega
   go_wp2_with fail
   refine (C1.out _).mono ?_; rintro e wn ⟨rfl, bn⟩
   clear hcx hcg
   have ho2 := ho.next bn
   have hc2 := ho2.cellAt i (by omega)
   have hf2 := ho2.frozenAt i
   have fx2 := (fx.next bn).set (a := ⟨gg, i, none⟩) hggw hne (.int .u64 (z : Int))
   have HZL := Lib.hid hzl
   clear ho fx bn hzl
   go_wp2
   go_roundw
   case rel => exact ⟨i + 1, zs.set i z, by omega, by go_num, fx2, (ho2.store i z).1, by rw [List.length_set]; exact HZL.out, AR.out⟩
   case measure => simp [intOf] <;> omega
  ·obtain rfl : i = xs.length := by omega
   have HZL := Lib.hid hzl
   have hend : pl p zs = pl p xs * mon (Zp.of p c) 0 := by
    have h1 := HV.out
    have h2 := HZL.out
    rw [List.take_length, ← h2, List.take_length] at h1; exact h1
   have HE := Lib.hid hend; clear hend
   have hcg := fx.cell
   go_wp2_with fail
   refine (fp_Norm p _ zs _ HP.out ho.sl (by omega)).mono ?_; rintro e w2 ⟨r, z2, rfl, o2, m2, v2, l2, b2⟩
   have V2 := Lib.hid v2; clear v2
   go_wp2
   go_ret
   exact ⟨r, z2, rfl, o2.mono fx.below.size, m2, by rw [V2.out, HE.out], by have := HZL.out; omega, fx.below.trans (b2.mono fx.below.size)⟩
end Go.Proofs.Ytkmfhabgempjiaa
/- Package fpoly: DivMod. -/
namespace Go.Proofs.Ytkmfhabgempjiaa
set_option maxHeartbeats 2000000
open Go.RowKit
theorem Own.set_far {k : IntKind} {e : TypeId} {w : World} {base g n cap : Nat} {xs : List Nat} (h : Own k e w base (.slice (some ⟨g, 0, none⟩) n cap) xs) {a : Addr} (ha : g ≠ a.block) (v : Value) :
  Own k e (w.setCell a v) base (.slice (some ⟨g, 0, none⟩) n cap) xs := by
 refine ⟨h.1, ?_⟩
 rcases h.2 with h | ⟨g', cap', cur, e0, b0, c0, d0⟩
 ·exact .inl h
 ·refine .inr ⟨g', cap', cur, e0, b0, ?_, d0⟩
  simp only [Value.slice.injEq, Option.some.injEq, Addr.mk.injEq] at e0
  obtain ⟨⟨rfl, -⟩, -⟩ := e0
  rw [Below.heap_setCell w a v g ha]; exact c0
theorem Cs.set_far {k : IntKind} {w : World} {ao : Option Addr} {b off : Nat} {xs : List Nat} (h : Cs k w ao b off xs) {a : Addr} (ha : b ≠ a.block) (v : Value) : Cs k (w.setCell a v) ao b off xs :=
 ⟨h.ao, fun j hj => (Go.Proofs.Ytkmfhabgempjiaa.set_far _ _ _ ⟨b, off + j, none⟩ ha).trans (h.cell j hj)⟩
theorem c_mon_mul {R : Type} [CR R] (a : R) (k : Nat) (g : Pol R) (n : Nat) : (mon a k * g).c n = if k ≤ n then a * g.c (n - k) else 0 := by
 rw [Pol.c_mul]
 by_cases h : k ≤ n
 ·rw [if_pos h, sm_one (k := k) (by omega) (fun i _ hi => by rw [c_mon, if_neg hi, CR.zero_mul]), c_mon, if_pos rfl]
 ·rw [if_neg h]
  exact sm_zero' fun i hi => by rw [c_mon, if_neg (by omega), CR.zero_mul]
theorem div_dlt {R : Type} [CR R] {f g : Pol R} {q u : R} {i l : Nat} (hf : f.dlt (i + l + 1)) (hg : g.dlt (l + 1)) (hu : u * g.c l = 1) (hq : q = f.c (i + l) * u) : (f - mon q i * g).dlt (i + l) := by
 intro n hn
 rw [Pol.c_sub, c_mon_mul, if_pos (by omega)]
 by_cases h : n = i + l
 ·subst h
  rw [show i + l - i = l by omega, hq, CR.mul_assoc, hu, CR.mul_one, CR.sub_self]
 ·rw [hf n (by omega), hg (n - i) (by omega), CR.mul_zero, CR.sub_zero]
theorem div_inner {p i k z m q y : Nat} {C zs : List Nat} {f : Pol (Zp p)} (hl : i + k < zs.length) (hv : pl p zs = f - mon (Zp.of p q) i * pl p (C.take k)) (hy : y = C.getD k 0)
  (hm : Zp.of p m = Zp.of p q * Zp.of p y) (hz : Zp.of p z = Zp.of p (zs.getD (i + k) 0) - Zp.of p m) :
  pl p (zs.set (i + k) z) = f - mon (Zp.of p q) i * pl p (C.take (k + 1)) := by
 rw [pl_set p zs (i + k) z hl, hv, hz, hm, pl_take_succ, ← hy, CR.mul_add, mon_mul]
 have e : Zp.of p (zs.getD (i + k) 0) - Zp.of p q * Zp.of p y - Zp.of p (zs.getD (i + k) 0) = -(Zp.of p q * Zp.of p y) :=
  by_ring [Zp.of p (zs.getD (i + k) 0), Zp.of p q, Zp.of p y] (X0 - X1 * X2 - X0) (-(X1 * X2)) rfl
 rw [e, mon_neg]
 exact by_ring [f, mon (Zp.of p q) i * pl p (C.take k), mon (Zp.of p q * Zp.of p y) (i + k)] (X0 - X1 + -X2) (X0 - (X1 + X2)) rfl
theorem div_outer {p i q : Nat} {A C zs zs' qs : List Nat} (hi : i < qs.length) (h0 : qs.getD i 0 = 0) (hv : pl p A = pl p qs * pl p C + pl p zs) (hz : pl p zs' = pl p zs - mon (Zp.of p q) i * pl p C) :
  pl p A = pl p (qs.set i q) * pl p C + pl p zs' := by
 rw [pl_set p qs i q hi, h0, Zp.of_zero, CR.sub_zero, hz, hv]
 exact by_ring [pl p qs, pl p C, pl p zs, mon (Zp.of p q) i] (X0 * X1 + X2) ((X0 + X3) * X1 + (X2 - X3 * X1)) rfl
theorem lead_inv {p l : Nat} {C : List Nat} (ht : Trial p) (hC : Nrm p C) (hl : C.length = l + 1) : (Zp.of p (C.getD l 0)).iv * (pl p C).c l = 1 := by
 rw [pl_c]
 refine Zp.iv_mul ht fun h => ?_
 have hp := trial_gt ht
 have h1 : C.length ≤ l := pl_len (by omega) hC (n := l) fun i hi => by
  rw [pl_c]
  by_cases e : i = l
  ·subst e; exact h
  ·rw [List.getD, List.getElem?_eq_none (by omega)]; rfl
 omega
def RetDiv (p : Nat) (w : World) (xs ys : List Nat) (e : Ending) (w' : World) : Prop :=
 ∃ rq rr zq zr, e = .returned (.tuple #[rq, rr, .bool true]) ∧ Own .u64 27 w' w.heap.size rq zq ∧ Own .u64 27 w' w.heap.size rr zr ∧ Nrm p zq ∧ Nrm p zr ∧
  pl p xs = pl p zq * pl p ys + pl p zr ∧ zr.length < (nl p ys).length ∧ zq.length ≤ xs.length ∧ zr.length ≤ xs.length ∧ Below w.heap.size w w'
structure DivRel (p : Nat) (w wr : World) (g ga ca gq gc : Nat) (A C zs qs : List Nat) (n i : Nat) : Prop where
 fx : Fx p w wr g
 own : Own .u64 27 wr w.heap.size (.slice (some ⟨ga, 0, none⟩) A.length ca) zs
 ownq : Own .u64 27 wr w.heap.size (.slice (some ⟨gq, 0, none⟩) n n) qs
 len : zs.length = A.length
 lenq : qs.length = n
 lt : ga < wr.heap.size
 ltq : gq < wr.heap.size
 zero : ∀ j, j < i → qs.getD j 0 = 0
 val : pl p A = pl p qs * pl p C + pl p zs
 dlt : (pl p zs).dlt (i + C.length - 1)
 cs : Cs .u64 wr (some ⟨gc, 0, none⟩) gc 0 C
structure DivIn (p : Nat) (w wr : World) (g ga ca gq gc : Nat) (A C z0 zs qs : List Nat) (n i q k : Nat) : Prop where
 fx : Fx p w wr g
 own : Own .u64 27 wr w.heap.size (.slice (some ⟨ga, 0, none⟩) A.length ca) zs
 ownq : Own .u64 27 wr w.heap.size (.slice (some ⟨gq, 0, none⟩) n n) qs
 len : zs.length = A.length
 lt : ga < wr.heap.size
 ltq : gq < wr.heap.size
 val : pl p zs = pl p z0 - mon (Zp.of p q) i * pl p (C.take k)
 cs : Cs .u64 wr (some ⟨gc, 0, none⟩) gc 0 C
set_option maxRecDepth 20000 in
theorem fp_DivMod (p : Nat) (v u : Value) (xs ys : List Nat) (w : World) (hp : FP p) (ht : Trial p) (s0 : Sl .u64 w v xs) (s1 : Sl .u64 w u ys) (hm : xs.length ≤ 1000000) (hn : ys.length ≤ 1000000) (h0 : nl p ys ≠ []) :
  Calls Try.prog 88 #[.agg #[.int .u64 p], v, u] w (RetDiv p w xs ys) := by
 have H0 := Lib.hid h0; clear h0
 have HT := Lib.hid ht; clear ht
 have HP := Lib.hid hp; clear hp
 have fx := Fx.box (p := p) (Below.refl w.heap.size w)
 go_enter Try.func88, Try.ntmps88
 go_upto_region 1 with (fail)
 generalize w.alloc (.cells #[.int .u64 p] 29) = wb at *
 obtain ⟨g, eg⟩ : ∃ g, g = w.heap.size := ⟨_, rfl⟩
 rw [← eg] at fx ⊢
 have hgw : w.heap.size ≤ g := by omega
 clear eg
 have fd := fx.drew
 have t0 := s0.next fd.below
 have t1 := s1.next fd.below
 clear s0 s1 fx
 have z0 := Lib.hid fun (w : World) (hS : Below wb.drew.heap.size wb.drew w) => fd.at hS
 refine startL (S := (fun w' => Below wb.drew.heap.size wb.drew w')) (by kernel_rfl) (Below.refl _ _) (fun hHeld => ?_)
 refine tf 0 z0.out ?_
 refine tk 1 ?_
 refine tf 3 z0.out ?_
 refine tk 4 ?_
 refine on 2 fun K hK => ?_
 go_simp
 go_at_call 80
 refine (fp_Norm p v xs _ HP.out (t0.next hHeld) (by omega)).mono ?_; rintro e w2 ⟨r2, A, rfl, oA, mA, vA, lA, b2⟩
 skip
 refine hK.out _ _ (hHeld.trans (b2.mono hHeld.size)) (fun hHeld => ?_)
 clear hK K
 try simp only [Act.put, zq1, zq2, zq3]
 refine on 5 fun K hK => ?_
 go_simp
 go_at_call 80
 refine (fp_Norm p u ys _ HP.out (t1.next hHeld) (by omega)).mono ?_; rintro e w3 ⟨r3, C, rfl, oC, mC, vC, lC, b3⟩
 refine hK.out _ _ (hHeld.trans (b3.mono hHeld.size)) (fun hHeld => ?_)
 clear hK K
 try simp only [Act.put, zq1, zq2, zq3]
 refine tk 6 ?_
 refine tk 7 ?_
 clear z0; refine doneL (by kernel_rfl) ?_ _
 have hgl := fd.lt
 have hwl := fd.below.size
 have eC := nl_is HP.out.pos mC vC
 have HC := Lib.hid eC
 have hC0 : C ≠ [] := by rw [eC]; exact H0.out
 have VA := Lib.hid vA; have VC := Lib.hid vC
 replace fd := fd.next hHeld
 have hAsz := b3.size
 have hoA := (oA.next b3).mono (Nat.le_trans hwl (show wb.drew.heap.size ≤ wb.drew.heap.size from Nat.le_refl _))
 have hgC := oC.shape
 rcases hgC with ⟨_, h⟩ | ⟨gc, cc, rfl, hgc1, hgc2, hcc, _⟩
 ·exact absurd h hC0
 have hCl : 0 < C.length := List.length_pos_iff.mpr hC0
 have hz0 : ((C.length : Int) == 0) = false := beq_eq_false_iff_ne.mpr (by omega)
 clear eC vA vC t0 t1 hC0
 by_cases hlt : A.length < C.length
 ·obtain ⟨ao, bo, oo, co, rfl, -, -⟩ := hoA.sl
  have h1 : decide ((A.length : Int) < (C.length : Int)) = true := decide_eq_true (by omega)
  clear hHeld b3 b2 oA
  go_wp2
  refine bodyPost_ret (v := .tuple #[.slice none 0 0, .slice ao A.length co, .bool true]) (by simp [results, Try.results88, go_sem]) rfl ⟨_, _, [], A, rfl, Own.nil _ _ _ _, hoA, nrm_nil _, mA, ?_, ?_, by simp, lA, fd.below⟩
  ·rw [pl_nil, CR.zero_mul, CR.zero_add, VA.out]
  ·rw [← HC.out]; exact hlt
 ·rcases oA.shape with ⟨_, h⟩ | ⟨ga, ca, rfl, hga1, hga2, hca, _⟩
  ·exfalso; rw [h] at hlt; exact hlt hCl
  have h1 : decide ((A.length : Int) < (C.length : Int)) = false := decide_eq_false (by omega)
  have hgac : gc ≠ ga := by omega
  have hgg : g < w3.heap.size := fd.lt
  obtain ⟨l, hl⟩ : ∃ l, C.length = l + 1 := ⟨C.length - 1, by omega⟩
  obtain ⟨n, hn'⟩ : ∃ n, A.length + 1 = n + C.length := ⟨A.length + 1 - C.length, by omega⟩
  have csC : Cs .u64 w3 (some ⟨gc, 0, none⟩) gc 0 C := oC.cs
  obtain ⟨x, ex⟩ : ∃ x, x = C.getD l 0 := ⟨_, rfl⟩
  obtain ⟨u, eu⟩ : ∃ u, u = (Zp.of p x).iv.val := ⟨_, rfl⟩
  have hinv : Zp.of p u * (pl p C).c l = 1 := by
   rw [(Zp.fact HP.out eu).2, ex]; exact lead_inv HT.out mC hl
  have HI := Lib.hid hinv
  have CI := Lib.hid (fun w => gfp_Inv p x u w HP.out eu)
  have hcx := csC.drawn (w' := w3.drew) ⟨1, rfl⟩ |>.cell l (by omega)
  rw [← ex, Nat.zero_add] at hcx
  have i1 : IntKind.i64.wrap (l : Int) = (l : Int) := IntWalk.i64_in _ ⟨by omega, by omega⟩
  have i2 : (C.length : Int) - 1 = (l : Int) := by omega
  have i3 : (l : Int) < (C.length : Int) := by omega
  have i4 : (0 : Int) ≤ (l : Int) := Int.natCast_nonneg _
  have HL := Lib.hid hl
  have hga3 : ga < w3.heap.size := Nat.lt_of_lt_of_le hga2 hAsz
  clear hinv ex eu hHeld b3 b2 oA oC hga2
  have fe := fd.drew
  have hgc3 : gc < w3.drew.heap.size := hgc2
  clear hl
  go_upto_region 6 with (fail)
  have z0 := Lib.hid fun (w : World) (hS : Below w3.drew.heap.size w3.drew w) => And.intro (fe.at hS) ((hS.cell (p := ⟨gc, l, none⟩) hgc3).trans hcx)
  refine startL (S := (fun w' => Below w3.drew.heap.size w3.drew w')) (by kernel_rfl) (Below.refl _ _) (fun hHeld => ?_)
  refine tf 0 z0.out ?_
  refine tk 1 ?_
  refine tk 2 ?_
  refine tk 3 ?_
  refine tk 4 ?_
  refine tk 5 ?_
  refine tf 6 z0.out ?_
  refine on 7 fun K hK => ?_
  go_simp
  go_at_call 131
  refine (CI.out _).mono ?_; rintro e w4 ⟨rfl, b4⟩
  refine hK.out _ _ (hHeld.trans (b4.mono hHeld.size)) (fun hHeld => ?_)
  clear hK K
  try simp only [Act.put, zq1, zq2, zq3]
  refine tk 8 ?_
  clear z0; refine doneL (by kernel_rfl) ?_ _
  replace fe := fe.next hHeld
  have hoA2 := (hoA.drawn (w' := w3.drew) ⟨1, rfl⟩).next hHeld
  have csC2 := (csC.drawn (w' := w3.drew) ⟨1, rfl⟩).below hHeld (Nat.le_refl _)
  have hgc4 : gc < w4.heap.size := Nat.lt_of_lt_of_le hgc3 hHeld.size
  have hsz4 : w3.heap.size ≤ w4.heap.size := hHeld.size
  clear hHeld b4 hoA csC fd hcx i1 i2 i3 i4 hgc3
  go_wp2_with (at_make; refine wp_make .u64 43 27 8 Try.underlying43 (by kernel_rfl) (by decide) rfl _ _ rfl .i64 .i64 n (by omega) _ _ _ rfl rfl (by omega) (by omega) ?_; intro w5 hq hbel hsz)
  obtain ⟨gq, egq⟩ : ∃ gq, gq = w4.heap.size := ⟨_, rfl⟩
  have hgqc : gc ≠ gq := by omega
  have hgqa : ga ≠ gq := by omega
  have hgqg : g ≠ gq := by have := fe.lt; omega
  have hgag : g ≠ ga := by omega
  have hgq1 : w.heap.size ≤ gq := by have := fe.below.size; omega
  have hga1' : w.heap.size ≤ ga := by omega
  have ltq5 : gq < w5.heap.size := by omega
  have lta5 : ga < w5.heap.size := by omega
  rw [← egq] at hq ⊢
  have st : DivRel p w w5 g ga ca gq gc A C A (List.replicate n 0) n n :=
   ⟨fe.next hbel, hoA2.next hbel, hq.mono (by omega), rfl, by simp, lta5, ltq5, fun j hj => by simp [List.getD, hj], by rw [pl_replicate0, CR.zero_mul, CR.zero_add], (fun i hi => pl_dlt p A i (by omega)), csC2.below hbel (Nat.le_refl _)⟩
  clear hq hbel hsz fe hoA2 csC2 egq ltq5 lta5 hgc4 hsz4 hz0 h1
  have HN := Lib.hid hn'
  clear hn'
  go_wp2_with fail
  go_loopw [11] (fun iv wr => ∃ (i : Nat) (zs qs : List Nat), i ≤ n ∧ iv = .int .i64 ((i : Int) - 1) ∧ DivRel p w wr g ga ca gq gc A C zs qs n i) (fun iv _ => (intOf iv + 1).toNat)
  case atStart => exact ⟨n, _, _, Nat.le_refl _, rfl, st⟩
  case round =>
   clear st
   obtain ⟨i, zs, qs, hi, rfl, st⟩ := hrel
   by_cases h0 : 0 < i
   ·obtain ⟨j, rfl⟩ : ∃ j, i = j + 1 := ⟨i - 1, by omega⟩
    have hl := HL.out
    have hn' := HN.out
    have hct := (st.own.drawn (w' := wr.drew) ⟨1, rfl⟩).cellAt (j + l) (by have := st.len; omega)
    obtain ⟨x, ex⟩ : ∃ x, x = zs.getD (j + l) 0 := ⟨_, rfl⟩
    rw [← ex] at hct
    obtain ⟨q, eq⟩ : ∃ q, q = (Zp.of p x * Zp.of p u).val := ⟨_, rfl⟩
    have CM := Lib.hid (fun w => gfp_Mul p x u q w HP.out eq)
    have hq1 : Zp.of p q = (pl p zs).c (j + l) * Zp.of p u := by rw [(Zp.fact HP.out eq).2, pl_c, ← ex]
    have hdl := div_dlt (f := pl p zs) (g := pl p C) (i := j) (l := l) (by have := st.dlt; rwa [show j + 1 + C.length - 1 = j + l + 1 by omega] at this) (by have := pl_dlt p C; rwa [hl] at this) HI.out hq1
    have HD := Lib.hid hdl
    have hij : ((j : Int) + (l : Int)).toNat = j + l := by omega
    have HIJ := Lib.hid hij
    replace hct : wr.drew.cell? ⟨ga, ((j : Int) + (l : Int)).toNat, none⟩ = some (.int .u64 (x : Int)) := by rw [hij]; exact hct
    have HL2 := st.lt
    have a1 : IntKind.i64.wrap ((j : Int) + (C.length : Int)) = (j : Int) + (C.length : Int) := IntWalk.i64_in _ ⟨by omega, by omega⟩
    have a2 : (j : Int) + (C.length : Int) - 1 = (j : Int) + (l : Int) := by omega
    have a3 : IntKind.i64.wrap ((j : Int) + (l : Int)) = (j : Int) + (l : Int) := IntWalk.i64_in _ ⟨by omega, by omega⟩
    have a4 : (0 : Int) ≤ (j : Int) + (l : Int) := by omega
    have a5 : (j : Int) + (l : Int) < (A.length : Int) := by omega
    have a6 : ((j + 1 : Nat) : Int) - 1 = (j : Int) := by omega
    have a7 : (0 : Int) ≤ (j : Int) := Int.natCast_nonneg _
    have a8 : (j : Int) < (n : Int) := by omega
    rw [a6]
    have fe := st.fx.drew
    have HI2 := Lib.hid hi
    clear hij ex eq hq1 hdl a6 hi hl hn'
    go_upto_region 11 with (fail)
    have z0 := Lib.hid fun (w : World) (hS : Below wr.drew.heap.size wr.drew w) => And.intro (fe.at hS) ((hS.cell (p := ⟨ga, ((j : Int) + (l : Int)).toNat, none⟩) HL2).trans hct)
    refine startP (S := (fun w' => Below wr.drew.heap.size wr.drew w')) (by kernel_rfl) _ rfl rfl rfl (by kernel_rfl) (Below.refl _ _) (fun hHeld => ?_)
    refine tk 0 ?_
    refine tk 1 ?_
    refine tf 2 z0.out ?_
    refine tk 3 ?_
    refine tk 4 ?_
    refine tk 5 ?_
    refine tk 6 ?_
    refine tk 7 ?_
    refine tk 8 ?_
    refine tk 9 ?_
    refine tf 10 z0.out ?_
    refine tk 11 ?_
    refine on 12 fun K hK => ?_
    go_simp
    go_at_call 118
    refine (CM.out _).mono ?_; rintro e w6 ⟨rfl, b6⟩
    refine hK.out _ _ (hHeld.trans (b6.mono hHeld.size)) (fun hHeld => ?_)
    clear hK K
    try simp only [Act.put, zq1, zq2, zq3]
    refine tk 13 ?_
    clear z0; refine doneL (by kernel_rfl) ?_ _
    refine lastL rfl (by rfl) ?_
    have oq := (st.ownq.drawn (w' := wr.drew) ⟨1, rfl⟩).next hHeld
    have oa := (st.own.drawn (w' := wr.drew) ⟨1, rfl⟩).next hHeld
    have cc := (st.cs.drawn (w' := wr.drew) ⟨1, rfl⟩).below hHeld (Nat.le_refl _)
    have hlq := st.lenq
    have hcq := oq.cellAt j (by omega)
    have hfq := oq.frozenAt j
    have s6 : DivIn p w (w6.setCell ⟨gq, j, none⟩ (.int .u64 (q : Int))) g ga ca gq gc A C zs zs (qs.set j q) n j q 0 :=
     ⟨(fe.next hHeld).set hgq1 hgqg _, oa.set_far hgqa _, (oq.store j q).1, st.len, by simpa [World.setCell] using Nat.lt_of_lt_of_le st.lt hHeld.size, by simpa [World.setCell] using Nat.lt_of_lt_of_le st.ltq hHeld.size,
      by rw [List.take_zero, pl_nil, CR.mul_zero, CR.sub_zero], cc.set_far hgqc _⟩
    have hqj : (qs.set j q).getD j 0 = q := by rw [getD_set qs j q j (by omega), if_pos rfl]
    have HQJ := Lib.hid hqj
    have st2 := Lib.hid (show qs.length = n ∧ (∀ k, k < j + 1 → qs.getD k 0 = 0) ∧ pl p A = pl p qs * pl p C + pl p zs from ⟨st.lenq, st.zero, st.val⟩)
    clear hct b6 hHeld st fe oa cc HL2 oq hlq a1 a2 a3 a4 a5 hqj
    obtain ⟨wo, rfl⟩ : ∃ wo : World, wo = wr := ⟨_, rfl⟩
    go_wp2
    clear hcq hfq
    go_loopw [67] (fun kv wr => ∃ (k : Nat) (zk : List Nat), k ≤ C.length ∧ kv = .int .i64 k ∧ DivIn p w wr g ga ca gq gc A C zs zk (qs.set j q) n j q k) (fun kv _ => C.length - (intOf kv).toNat)
    case atStart => exact ⟨0, zs, by omega, rfl, s6⟩
    case round =>
     clear s6
     obtain ⟨k, zk, hk, rfl, s6⟩ := hrel
     by_cases hltk : k < C.length
     ·have hcy := s6.cs.cell k hltk
      rw [Nat.zero_add] at hcy
      obtain ⟨y, ey⟩ : ∃ y, y = C.getD k 0 := ⟨_, rfl⟩
      rw [← ey] at hcy
      have hjk : j + k < zk.length := by have := s6.len; have := HN.out; have := HI2.out; omega
      have hct := (s6.own.drawn (w' := wr.drew) ⟨1, rfl⟩).cellAt (j + k) hjk
      obtain ⟨t, et⟩ : ∃ t, t = zk.getD (j + k) 0 := ⟨_, rfl⟩
      rw [← et] at hct
      have hcq := (s6.ownq.drawn (w' := wr.drew) ⟨1, rfl⟩).cellAt j (by rw [List.length_set]; have := st2.out.1; have := HI2.out; omega)
      rw [HQJ.out] at hcq
      obtain ⟨m, em⟩ : ∃ m, m = (Zp.of p q * Zp.of p y).val := ⟨_, rfl⟩
      obtain ⟨z, ez⟩ : ∃ z, z = (Zp.of p t - Zp.of p m).val := ⟨_, rfl⟩
      have CM1 := Lib.hid (fun w => gfp_Mul p q y m w HP.out em)
      have CS := Lib.hid (fun w => gfp_Sub p t m z w HP.out ez)
      have ar := div_inner (z := z) (m := m) hjk s6.val ey (Zp.fact HP.out em).2 (by rw [← et]; exact (Zp.fact HP.out ez).2)
      have AR := Lib.hid ar
      have hij : ((j : Int) + (k : Int)).toNat = j + k := by omega
      have HJK := Lib.hid hij
      have HKL := Lib.hid hjk
      replace hct : wr.drew.cell? ⟨ga, ((j : Int) + (k : Int)).toNat, none⟩ = some (.int .u64 (t : Int)) := by rw [hij]; exact hct
      have HL2 := s6.lt
      have HL3 := s6.ltq
      have a1 : IntKind.i64.wrap ((j : Int) + (k : Int)) = (j : Int) + (k : Int) := IntWalk.i64_in _ ⟨by omega, by have := HN.out; have := HI2.out; omega⟩
      have a4 : (0 : Int) ≤ (j : Int) + (k : Int) := by omega
      have a5 : (j : Int) + (k : Int) < (A.length : Int) := by have := HN.out; have := HI2.out; omega
      have k0 : (0 : Int) ≤ (k : Int) := Int.natCast_nonneg _
      have k1 : (k : Int) < (C.length : Int) := by omega
      have fe := s6.fx.drew
      clear ey et em ez ar hij hjk
      go_upto_region 15 with (fail)
      clear hcy
      have z0 := Lib.hid fun (w : World) (hS : Below wr.drew.heap.size wr.drew w) => And.intro (fe.at hS) (And.intro ((hS.cell (p := ⟨ga, ((j : Int) + (k : Int)).toNat, none⟩) HL2).trans hct) ((hS.cell (p := ⟨gq, j, none⟩) HL3).trans hcq))
      refine startP (S := (fun w' => Below wr.drew.heap.size wr.drew w')) (by kernel_rfl) _ rfl rfl rfl (by kernel_rfl) (Below.refl _ _) (fun hHeld => ?_)
      refine tk 0 ?_
      refine tk 1 ?_
      refine tk 2 ?_
      refine tk 3 ?_
      refine tf 4 z0.out ?_
      refine tk 5 ?_
      refine tk 6 ?_
      refine tk 7 ?_
      refine tk 8 ?_
      refine tk 9 ?_
      refine tf 10 z0.out ?_
      refine tf 11 z0.out ?_
      refine tk 12 ?_
      refine tk 13 ?_
      refine tk 14 ?_
      refine tf 15 z0.out ?_
      refine tk 16 ?_
      refine on 17 fun K hK => ?_
      go_simp
      go_at_call 118
      refine (CM1.out _).mono ?_; rintro e w7 ⟨rfl, b7⟩
      refine hK.out _ _ (hHeld.trans (b7.mono hHeld.size)) (fun hHeld => ?_)
      clear hK K
      try simp only [Act.put, zq1, zq2, zq3]
      refine on 18 fun K hK => ?_
      go_simp
      go_at_call 136
      refine (CS.out _).mono ?_; rintro e w8 ⟨rfl, b8⟩
      refine hK.out _ _ (hHeld.trans (b8.mono hHeld.size)) (fun hHeld => ?_)
      clear hK K
      try simp only [Act.put, zq1, zq2, zq3]
      refine tk 19 ?_
      clear z0; refine doneL (by kernel_rfl) ?_ _
      refine lastL rfl (by rfl) ?_
      have oq := (s6.ownq.drawn (w' := wr.drew) ⟨1, rfl⟩).next hHeld
      have oa := (s6.own.drawn (w' := wr.drew) ⟨1, rfl⟩).next hHeld
      have cc := (s6.cs.drawn (w' := wr.drew) ⟨1, rfl⟩).below hHeld (Nat.le_refl _)
      have hc8 := oa.cellAt (j + k) HKL.out
      have hf8 := oa.frozenAt (j + k)
      rw [← HJK.out] at hc8 hf8
      have s8 : DivIn p w (w8.setCell ⟨ga, j + k, none⟩ (.int .u64 (z : Int))) g ga ca gq gc A C zs (zk.set (j + k) z) (qs.set j q) n j q (k + 1) :=
       ⟨(fe.next hHeld).set hga1' hgag _, (oa.store (j + k) z).1, oq.set_far (fun h => hgqa h.symm) _, by rw [List.length_set]; exact s6.len, by simpa [World.setCell] using Nat.lt_of_lt_of_le s6.lt hHeld.size, by simpa [World.setCell] using Nat.lt_of_lt_of_le s6.ltq hHeld.size,
        AR.out, cc.set_far hgac _⟩
      clear hct hcq b7 b8 hHeld s6 fe oa cc HL2 HL3 oq
      go_wp2
      go_roundw
      case rel => exact ⟨k + 1, _, by omega, by go_num, s8⟩
      case measure => simp [intOf] <;> omega
     ·obtain rfl : k = C.length := by omega
      have hv := s6.val
      rw [List.take_length] at hv
      have hqs := st2.out.1
      have hi2 := HI2.out
      have hjb : j ≤ 1000001 := by have := HN.out; omega
      have hD := HD.out
      rw [← hv] at hD
      have st3 : DivRel p w wr g ga ca gq gc A C zk (qs.set j q) n j :=
       ⟨s6.fx, s6.own, s6.ownq, s6.len, by rw [List.length_set]; exact hqs, s6.lt, s6.ltq, fun k hk => by rw [getD_set qs j q k (by omega), if_neg (by omega)]; exact st2.out.2.1 k (by omega),
        div_outer (by omega) (st2.out.2.1 j (by omega)) st2.out.2.2 hv, by rw [show j + C.length - 1 = j + l by have := HL.out; omega]; exact hD, s6.cs⟩
      clear hv hqs hD s6
      go_wp2
      go_roundw
      case rel => exact ⟨j, _, _, by have := HI2.out; omega, by go_num, st3⟩
      case measure => simp [intOf] <;> omega
   ·obtain rfl : i = 0 := by omega
    have fe := st.fx.drew
    have ownq := (st.ownq.drawn (w' := wr.drew) ⟨1, rfl⟩)
    have own := (st.own.drawn (w' := wr.drew) ⟨1, rfl⟩)
    have hz1 := st.len
    have hz2 := st.lenq
    have hn2 := HN.out
    have fin := Lib.hid (show pl p A = pl p qs * pl p C + pl p zs ∧ (pl p zs).dlt (C.length - 1) from ⟨st.val, by have := st.dlt; rwa [Nat.zero_add] at this⟩)
    clear st
    go_upto_region 17 with (fail)
    have z0 := Lib.hid fun (w : World) (hS : Below wr.drew.heap.size wr.drew w) => fe.at hS
    refine startL (S := (fun w' => Below wr.drew.heap.size wr.drew w')) (by kernel_rfl) (Below.refl _ _) (fun hHeld => ?_)
    refine tf 0 z0.out ?_
    refine tk 1 ?_
    refine tf 3 z0.out ?_
    refine tk 4 ?_
    refine on 2 fun K hK => ?_
    go_simp
    go_at_call 80
    refine (fp_Norm p _ qs _ HP.out (ownq.next hHeld).sl (by omega)).mono ?_; rintro e w6 ⟨r6, z6, rfl, o6, m6, v6, l6, b6⟩
    have V6 := Lib.hid v6; clear v6; replace o6 := o6.mono (Nat.le_trans fe.below.size hHeld.size)
    refine hK.out _ _ (hHeld.trans (b6.mono hHeld.size)) (fun hHeld => ?_)
    clear hK K
    try simp only [Act.put, zq1, zq2, zq3]
    refine on 5 fun K hK => ?_
    go_simp
    go_at_call 80
    refine (fp_Norm p _ zs _ HP.out (own.next hHeld).sl (by omega)).mono ?_; rintro e w7 ⟨r7, z7, rfl, o7, m7, v7, l7, b7⟩
    have V7 := Lib.hid v7; clear v7; replace o7 := o7.mono (Nat.le_trans fe.below.size hHeld.size); replace o6 := o6.next b7
    refine hK.out _ _ (hHeld.trans (b7.mono hHeld.size)) (fun hHeld => ?_)
    clear hK K
    try simp only [Act.put, zq1, zq2, zq3]
    refine tk 6 ?_
    refine tk 7 ?_
    refine tk 8 ?_
    clear z0; refine doneL (by kernel_rfl) ?_ _
    go_wp2
    refine bodyPost_ret (v := .tuple #[r6, r7, .bool true]) (by simp [results, Try.results88, go_sem]) rfl ⟨r6, r7, z6, z7, rfl, o6, o7, m6, m7, ?_, ?_, by omega, by omega, fe.below.trans (hHeld.mono fe.below.size)⟩
    ·rw [V6.out, V7.out, ← VA.out, ← VC.out]; exact fin.out.1
    ·rw [← HC.out]
     have : z7.length ≤ C.length - 1 := pl_len HP.out.pos m7 (by rw [V7.out]; exact fin.out.2)
     omega
end Go.Proofs.Ytkmfhabgempjiaa
/- The references of layer 9. -/
namespace Go.Proofs.Ytkmfhabgempjiaa
set_option maxHeartbeats 2000000
open Go.RowKit
end Go.Proofs.Ytkmfhabgempjiaa
/- The references of layer 9: Mul; is; divides. -/
namespace Go.Proofs.Ytkmfhabgempjiaa
set_option maxHeartbeats 2000000
open Go.RowKit
theorem mul_dlt {R : Type} [CR R] {f g : Pol R} {a b : Nat} (hf : f.dlt a) (hg : g.dlt b) : (f * g).dlt (a + b) := by
 intro n hn
 rw [Pol.c_mul]
 refine sm_zero' fun j hj => ?_
 by_cases h : a ≤ j
 ·rw [hf j h, CR.zero_mul]
 ·rw [hg (n - j) (by omega), CR.mul_zero]
end Go.Proofs.Ytkmfhabgempjiaa
/- fmat.made: a matrix, place by place. -/
namespace Go.Proofs.Ytkmfhabgempjiaa
set_option maxHeartbeats 2000000
open Go.RowKit
theorem Own.sliced {k : IntKind} {e : TypeId} {w : World} {base : Nat} {v : Value} {xs : List Nat} (h : Own k e w base v xs) : ∃ ao c, v = .slice ao xs.length c := by
 rcases h.shape with ⟨rfl, rfl⟩ | ⟨g, cap, rfl, -⟩
 ·exact ⟨none, 0, rfl⟩
 ·exact ⟨_, _, rfl⟩
end Go.Proofs.Ytkmfhabgempjiaa
/- A region that draws its order and stores twice: one condition on the world ahead of the first store, none behind it. -/
namespace Go.Proofs.Ytkmfhabgempjiaa
set_option maxHeartbeats 2000000
open Go
section
variable {P : Program} {ops : Array Oper} {Q : Exit → Act → World → Prop} {S : World → Prop} {m : Nat}
def SSc (S : World → Prop) (m : Nat) (l : Array Bool) (w : World) : Prop := l.getD m false = false → S w
def wpAnyD (P : Program) (ops : Array Oper) (Q : Exit → Act → World → Prop) (S : World → Prop) (m : Nat) : Nat → Array Bool → Act → World → Prop
 | 0, listed, a, w => Region.ready .any ops listed = [] ∧ Q .normal a w
 | fuel + 1, listed, a, w =>
  (Region.ready .any ops listed = [] → Q .normal a w) ∧
  ∀ i ∈ Region.ready .any ops listed, wpOp P ops Q i (fun a' w' => SSc S m (listed.setIfInBounds i true) w' ∧ wpAnyD P ops Q S m fuel (listed.setIfInBounds i true) a' w') a w
theorem wpAny_of_D : ∀ (fuel : Nat) (listed : Array Bool) (a : Act) (w : World), wpAnyD P ops Q S m fuel listed a w → wpAny P .any ops Q fuel listed a w
 | 0, _, _, _, h => h
 | fuel + 1, _, _, _, h => ⟨h.1, fun i hi => wpOp_mono (fun a' w' h' => wpAny_of_D fuel _ a' w' h'.2) (h.2 i hi)⟩
theorem D_of_H : ∀ (fuel : Nat) (listed : Array Bool) (a : Act) (w : World), listed.getD m false = true → wpAnyH P .any ops Q (fun _ => True) fuel listed a w → wpAnyD P ops Q S m fuel listed a w
 | 0, _, _, _, _, h => h
 | fuel + 1, listed, _, _, hm, h => ⟨h.1, fun i hi => wpOp_mono (fun a' w' h' => ⟨fun e => (by have := getD_set_true (i := i) hm; rw [this] at e; cases e), D_of_H fuel _ a' w' (getD_set_true hm) h'.2⟩) (h.2 i hi)⟩
theorem not_ready {listed : Array Bool} {i j : Nat} {oj : Oper} (hr : i ∈ Region.ready .any ops listed) (hj : j ∈ Region.ready .any ops listed) (ho : ops[j]? = some oj) : ∀ e ∈ oj.after, Region.binds .any e = true → e.on ≠ i := by
 obtain ⟨_, o, hoj, hall⟩ := mem_ready.1 hj
 obtain rfl : o = oj := Option.some.inj (hoj.symm.trans ho)
 intro e he hb heq
 have h1 := hall e he hb
 have h0 := (mem_ready.1 hr).1
 rw [heq] at h1
 rcases Nat.lt_or_ge i listed.size with h' | h'
 ·simp [h'] at h0 h1; rw [h0] at h1; cases h1
 ·simp [Array.getElem?_eq_none h'] at h1
theorem SSc.set {i : Nat} (him : i ≠ m) {l : Array Bool} {w : World} : SSc S m (l.setIfInBounds i true) w ↔ SSc S m l w := by
 unfold SSc; rw [getD_set_ne false him]
theorem firstD {i : Nat} {oi : Oper} {v : Value} {U : World → Prop} (hi : ops[i]? = some oi) (hsel : ∀ (j : Nat) (o : Oper) cs b, ops[j]? = some o → o.op ≠ .select cs b)
  (hQ : ∀ c a w, Q (.panic c) (a.put oi.dst v) w → Q (.panic c) a w) (him : i ≠ m)
  (hU : (∀ w, U w) ∨ ((∀ w, S w → U w) ∧ ∃ om, ops[m]? = some om ∧ ∃ e ∈ om.after, Region.binds .any e = true ∧ e.on = i)) :
  ∀ (fuel : Nat) (listed : Array Bool) (a : Act) (w : World),
   (∀ j oj, ops[j]? = some oj → j ≠ i → listed.getD j true = false → (∀ e ∈ oj.after, Region.binds .any e = true → e.on ≠ i) → oi.apart ops oj = true) →
   i ∈ Region.ready .any ops listed → ((∀ w, U w) ∨ listed.getD m false = false) → YieldsIf P ops U oi v a → SSc S m listed w →
   wpAnyD P ops Q S m fuel (listed.setIfInBounds i true) (a.put oi.dst v) w → wpAnyD P ops Q S m (fuel + 1) listed a w := by
 intro fuel
 induction fuel with
 | zero =>
  intro listed a w _ hr hl hy hS H
  have hUw : U w := hl.elim (fun h => h w) (fun h => hU.elim (fun k => k w) (fun k => k.1 w (hS h)))
  refine ⟨fun h => (by rw [h] at hr; cases hr), fun j hj => ?_⟩
  by_cases hji : j = i
  ·subst hji; exact hy.wpOp hi hUw ⟨(SSc.set him).2 hS, H⟩
  ·have := ready_mono hj hji
   rw [H.1] at this
   cases this
 | succ fuel ih =>
  intro listed a w hfree hr hl hy hS H
  have hUw : U w := hl.elim (fun h => h w) (fun h => hU.elim (fun k => k w) (fun k => k.1 w (hS h)))
  refine ⟨fun h => (by rw [h] at hr; cases hr), fun j hj => ?_⟩
  by_cases hji : j = i
  ·subst hji; exact hy.wpOp hi hUw ⟨(SSc.set him).2 hS, H⟩
  ·have h1 := H.2 j (ready_mono hj hji)
   obtain ⟨hjun, oj, hoj, hall⟩ := mem_ready.1 hj
   have hnot := not_ready hr hj hoj
   have h2 := wpOp_putIf hoj (hfree j oj hoj hji hjun hnot) (fun cs b => hsel i oi cs b hi) (fun cs b => hsel j oj cs b hoj) hQ hy h1
   have hfree' : ∀ k ok, ops[k]? = some ok → k ≠ i → (listed.setIfInBounds j true).getD k true = false →
     (∀ e ∈ ok.after, Region.binds .any e = true → e.on ≠ i) → oi.apart ops ok = true := fun k ok hk hki hun hno => by
    refine hfree k ok hk hki ?_ hno
    by_cases hjk : j = k
    ·subst hjk; exact hjun
    ·rw [getD_set_ne true hjk] at hun; exact hun
   have hl' : (∀ w, U w) ∨ (listed.setIfInBounds j true).getD m false = false := by
    rcases hl with h | h
    ·exact .inl h
    ·rcases hU with hU | ⟨_, om, hom, e, he, hb, heq⟩
     ·exact .inl hU
     ·have hjm : j ≠ m := by
       intro hjm; subst hjm
       obtain rfl : oj = om := Option.some.inj (hoj.symm.trans hom)
       exact hnot e he hb heq
      exact .inr (by rw [getD_set_ne false hjm]; exact h)
   refine wpOp_mono (fun a' w' h3 => ?_) h2
   have h4 := h3.2.1
   have h5 := h3.2.2
   rw [← Array.setIfInBounds_comm _ _ hji] at h4 h5
   have hSw := (SSc.set him).1 h4
   exact ⟨hSw, ih (listed.setIfInBounds j true) a' w' hfree' (ready_mono hr (Ne.symm hji)) hl' h3.1 hSw h5⟩
end
section
variable {P : Program} {l : List Oper} {Q : Exit → Act → World → Prop} {S : World → Prop} {m : Nat}
theorem startD {id : Nat} {a : Act} {w : World} (m : Nat) (hm : P.follows .mixedOrders = true) (hS : S w.drew)
  (h : S w.drew → wpAnyD P l.toArray Q S m l.length (Array.replicate l.length false) a w.drew) : (Code.region id l.toArray true).wp P Q a w := by
 refine wp_region_any hm (wpAny_of_D (S := S) (m := m) _ _ _ _ ?_)
 simpa using h hS
theorem takeDA {fuel : Nat} {listed : Array Bool} {a : Act} {w : World} (i : Nat) {oi : Oper} {v : Value} (hi : l[i]? = some oi)
  (hs : Region.noSelect l.toArray = true) (hf : Region.free .any l.toArray listed i = true) (hr : (Region.ready .any l.toArray listed).contains i = true)
  (hQ : ∀ c a w, Q (.panic c) (a.put oi.dst v) w → Q (.panic c) a w) (him : i ≠ m) (hy : Region.wanted oi (yielded l.toArray a.tmps) = true ∧ ∀ w, (execOp a.eval oi).run P w = .ok (.value v) w) (hS : S w)
  (h : wpAnyD P l.toArray Q S m fuel (listed.setIfInBounds i true) (a.put oi.dst v) w) : wpAnyD P l.toArray Q S m (fuel + 1) listed a w :=
 firstD (U := fun _ => True) (by simpa using hi) (Region.noSelect_spec hs) hQ him (.inl fun _ => trivial) fuel listed a w (Region.free_spec (by simpa using hi) hf) (by simpa using hr) (.inl fun _ => trivial) (.inl ⟨hy.1, fun w _ => hy.2 w⟩) (fun _ => hS) h
def waitsB (l : List Oper) (m i : Nat) : Bool := match l[m]? with
 | some o => o.after.toList.any fun e => Region.binds .any e && e.on == i
 | none => false
theorem waits_spec {i : Nat} (h : waitsB l m i = true) : ∃ om, l.toArray[m]? = some om ∧ ∃ e ∈ om.after, Region.binds .any e = true ∧ e.on = i := by
 unfold waitsB at h
 cases ho : l[m]? with
 | none => rw [ho] at h; cases h
 | some o =>
  rw [ho] at h
  obtain ⟨e, he, hb⟩ := List.any_eq_true.1 h
  simp only [Bool.and_eq_true, beq_iff_eq] at hb
  exact ⟨o, by simpa using ho, e, Array.mem_toList_iff.1 he, hb.1, hb.2⟩
theorem takeD0 {fuel : Nat} {listed : Array Bool} {a : Act} {w : World} (i : Nat) {oi : Oper} {v : Value} (hi : l[i]? = some oi)
  (hs : Region.noSelect l.toArray = true) (hf : Region.free .any l.toArray listed i = true) (hr : (Region.ready .any l.toArray listed).contains i = true)
  (hQ : ∀ c a w, Q (.panic c) (a.put oi.dst v) w → Q (.panic c) a w) (him : i ≠ m) (hw : waitsB l m i = true) (hl : listed.getD m false = false)
  (hy : Region.wanted oi (yielded l.toArray a.tmps) = true ∧ ∀ w, S w → (execOp a.eval oi).run P w = .ok (.value v) w) (hS : S w)
  (h : wpAnyD P l.toArray Q S m fuel (listed.setIfInBounds i true) (a.put oi.dst v) w) : wpAnyD P l.toArray Q S m (fuel + 1) listed a w :=
 firstD (U := S) (by simpa using hi) (Region.noSelect_spec hs) hQ him (.inr ⟨fun _ h => h, waits_spec hw⟩) fuel listed a w (Region.free_spec (by simpa using hi) hf) (by simpa using hr) (.inr hl) (.inl hy) (fun _ => hS) h
theorem oneD {fuel : Nat} {listed : Array Bool} {a : Act} {w : World} (i : Nat) {o : Oper} (hi : l[i]? = some o) (hr : Region.ready .any l.toArray listed = [i])
  (hw : Region.wanted o (yielded l.toArray a.tmps) = true)
  (h : ∀ K' : Act → World → Prop, Shut (∀ a w, S w → (S w → wpAnyD P l.toArray Q S m fuel (listed.setIfInBounds i true) a w) → K' a w) → Oper.wp P o a w K' Q) : wpAnyD P l.toArray Q S m (fuel + 1) listed a w := by
 refine ⟨fun h0 => (by rw [hr] at h0; cases h0), fun j hj => ?_⟩
 rw [hr] at hj
 obtain rfl := List.mem_singleton.1 hj
 refine wpOp_step (by simpa using hi) (fun K' hK => ?_)
 rw [if_pos hw]
 exact h K' (fun a w hS hW => hK a w ⟨fun _ => hS, hW hS⟩)
theorem oneM {fuel : Nat} {listed : Array Bool} {a : Act} {w : World} {o : Oper} (hi : l[m]? = some o) (hr : Region.ready .any l.toArray listed = [m]) (hl : m < listed.size)
  (hw : Region.wanted o (yielded l.toArray a.tmps) = true)
  (h : ∀ K' : Act → World → Prop, Shut (∀ a w, wpAnyH P .any l.toArray Q (fun _ => True) fuel (listed.setIfInBounds m true) a w → K' a w) → Oper.wp P o a w K' Q) : wpAnyD P l.toArray Q S m (fuel + 1) listed a w := by
 refine ⟨fun h0 => (by rw [hr] at h0; cases h0), fun j hj => ?_⟩
 rw [hr] at hj
 obtain rfl := List.mem_singleton.1 hj
 have hm : (listed.setIfInBounds j true).getD j false = true := by simp [hl]
 refine wpOp_step (by simpa using hi) (fun K' hK => ?_)
 rw [if_pos hw]
 exact h K' (fun a w hW => hK a w ⟨fun e => (by rw [hm] at e; cases e), D_of_H _ _ _ _ hm hW⟩)
end
end Go.Proofs.Ytkmfhabgempjiaa
/- Plain algebra: matrices made of each other have one characteristic polynomial; Hessenberg's form, step by step; its characteristic polynomial. -/
namespace Go.Proofs.Ytkmfhabgempjiaa
set_option maxHeartbeats 2000000
open CR
section
variable {R : Type} [CR R] {n m : Nat}
def rcl (H : Nat → Nat → R) (i k : Nat) (c : R) : Nat → Nat → R := fun a b => if a = i then H a b - c * H k b else H a b
def hcl (H : Nat → Nat → R) (i k : Nat) (c : R) : Nat → Nat → R := fun a b => if b = k then rcl H i k c a k + c * rcl H i k c a i else rcl H i k c a b
end
end Go.Proofs.Ytkmfhabgempjiaa
/- hess.work: rows and columns change places. -/
namespace Go.Proofs.Ytkmfhabgempjiaa
set_option maxHeartbeats 2000000
open Go.RowKit
section
variable {α : Type} {V : World → Value → α → Prop} {e er : TypeId} {w : World} {base n N : Nat} {rv : Value} {vs : List Value} {W : Nat → Nat → α}
end
section
variable {p : Nat} {w : World} {base gW n : Nat} {H P H' P' : Nat → Nat → Zp p} {hs ps : List Value} {gh ch gp cp : Nat}
end
theorem cell_set_some {w : World} {p q : Addr} {x v : Value} (h : w.cell? q = some v) : ∃ v', (w.setCell p x).cell? q = some v' := by
 by_cases e : p = q
 ·subst e; exact ⟨x, World.cell?_setCell_same _ _ _ h⟩
 ·exact ⟨v, (World.cell?_setCell_other _ _ _ _ e).trans h⟩
end Go.Proofs.Ytkmfhabgempjiaa
/- hess.work: the characteristic polynomial of one row and column more. -/
namespace Go.Proofs.Ytkmfhabgempjiaa
set_option maxHeartbeats 2000000
open Go.RowKit
theorem pl1 {p : Nat} : pl p [1] = 1 := Pol.ext fun i => by rw [pl_c, Pol.one_def, c_mon]; cases i <;> rfl
end Go.Proofs.Ytkmfhabgempjiaa
/- hess: the characteristic polynomial. -/
namespace Go.Proofs.Ytkmfhabgempjiaa
set_option maxHeartbeats 2000000
open Go.RowKit
theorem Own.keptP {w w' : World} {base : Nat} {v : Value} {xs : List Nat} (h : Own .u64 27 w base v xs) {b1 n0 : Nat} {v0 : Value} {xs0 : List Value} (ho : w.ownsRow b1 43 1 v0 n0 xs0) (hg : w.grownBy w' v0.ownBlock) : Own .u64 27 w' base v xs := by
 refine World.ownsRow.kept h hg ?_
 rcases h.2 with ⟨h1, _⟩ | ⟨g, cap, cur, h1, _, h2, _⟩
 ·left; rw [h1]; rfl
 ·right
  intro e
  rw [h1] at e
  exact rowOwn_ne ho h2 (by decide) e.symm
end Go.Proofs.Ytkmfhabgempjiaa
/- hess: Hessenberg. -/
namespace Go.Proofs.Ytkmfhabgempjiaa
set_option maxHeartbeats 2000000
open Go.RowKit
end Go.Proofs.Ytkmfhabgempjiaa
/- hess: Companion. -/
namespace Go.Proofs.Ytkmfhabgempjiaa
set_option maxHeartbeats 2000000
open Go.RowKit
end Go.Proofs.Ytkmfhabgempjiaa
/- hess: the characteristic polynomial of a companion; the awake of law 22. -/
namespace Go.Proofs.Ytkmfhabgempjiaa
set_option maxHeartbeats 2000000
open Go.RowKit
section
variable {p n : Nat} {zs : List Nat}
end
theorem own_lit3 (w : World) (x y z : Nat) : Own .u64 27 (w.alloc (.cells #[.int .u64 x, .int .u64 y, .int .u64 z] 27)) w.heap.size (.slice (some ⟨w.heap.size, 0, none⟩) 3 3) [x, y, z] :=
 World.ownsRow_lit w #[.int .u64 x, .int .u64 y, .int .u64 z] 3 (Nat.le_refl _) (by unfold maxLen; omega) rfl
theorem own_lit101 (w : World) : Own .u64 27 (w.alloc (.cells #[.int .u64 1, .int .u64 0, .int .u64 1] 27)) w.heap.size (.slice (some ⟨w.heap.size, 0, none⟩) 3 3) [1, 0, 1] := own_lit3 w 1 0 1
end Go.Proofs.Ytkmfhabgempjiaa
/- Rows of rows of polynomials, that are read; an append of a window. -/
namespace Go.Proofs.Ytkmfhabgempjiaa
set_option maxHeartbeats 2000000
open Go.RowKit
def rowL (n : Nat) (U : Nat → Value) : List Value := (List.range n).map U
theorem rowL_length (n : Nat) (U : Nat → Value) : (rowL n U).length = n := by simp [rowL]
theorem rowL_get {n : Nat} {U : Nat → Value} {k : Nat} (hk : k < n) : (rowL n U)[k]? = some (U k) := by simp [rowL, hk]
theorem rowL_get' {n : Nat} {U : Nat → Value} {k : Nat} {u : Value} (h : (rowL n U)[k]? = some u) : k < n ∧ u = U k := by
 have hk : k < n := by have := (List.getElem?_eq_some_iff.1 h).1; rwa [rowL_length] at this
 rw [rowL_get hk] at h
 exact ⟨hk, (Option.some.inj h).symm⟩
theorem rowL_snoc (n : Nat) (U : Nat → Value) : rowL (n + 1) U = rowL n U ++ [U n] := by simp [rowL, List.range_succ]
theorem rowL_congr {n : Nat} {U V : Nat → Value} (h : ∀ k, k < n → U k = V k) : rowL n U = rowL n V := List.map_congr_left fun k hk => h k (List.mem_range.1 hk)
theorem win_news {w : World} {b o n : Nat} {U : Nat → Value} (h : ∀ k, k < n → w.cell? ⟨b, o + k, none⟩ = some (U k)) (lo m : Nat) (hm : lo + m ≤ n) : ∀ j u, (rowL m (fun j => U (lo + j)))[j]? = some u → w.cell? ((⟨b, o + lo, none⟩ : Addr).add j) = some u := by
 intro j u hj
 obtain ⟨h1, rfl⟩ := rowL_get' hj
 have e : (⟨b, o + lo, none⟩ : Addr).add j = ⟨b, o + (lo + j), none⟩ := by
  unfold Addr.add; split
  ·rename_i h; subst h; rfl
  ·simp [Nat.add_assoc]
 rw [e]
 exact h (lo + j) (by omega)
section
variable {p : Nat}
def Pe (p B : Nat) (w : World) (v : Value) (f : Pol (Zp p)) : Prop := ∃ zs, Sl .u64 w v zs ∧ zs.length ≤ B ∧ pl p zs = f
end
end Go.Proofs.Ytkmfhabgempjiaa
