/- What the statements of layer 9 share: awake, few, Same. -/
import Derived.Shelf.Abstract
import Derived.Test.YtkmfhabgempjiaaQlM3
import Derived.Test.YtkmfhabgempjiaaQlM2
namespace Go.Proofs.Ytkmfhabgempjiaa
set_option maxHeartbeats 2000000
open Go.RowKit
structure Fx (p : Nat) (w wr : World) (g : Nat) : Prop where
 lt : g < wr.heap.size
 below : Below w.heap.size w wr
 cell : wr.cell? ⟨g, 0, none⟩ = some (.int .u64 (p : Int))
theorem Fx.next {p : Nat} {w w1 w2 : World} {g : Nat} (h : Fx p w w1 g) (b : Below w1.heap.size w1 w2) : Fx p w w2 g :=
 ⟨Nat.lt_of_lt_of_le h.lt b.size, h.below.trans (b.mono h.below.size), (b.cell (p := ⟨g, 0, none⟩) h.lt).trans h.cell⟩
theorem Fx.drew {p : Nat} {w w1 : World} {g : Nat} (h : Fx p w w1 g) : Fx p w w1.drew g := h.next (Drawn.below ⟨1, rfl⟩ _)
theorem Fx.at {p : Nat} {w w1 w2 : World} {g : Nat} (h : Fx p w w1 g) (b : Below w1.heap.size w1 w2) : w2.cell? ⟨g, 0, none⟩ = some (.int .u64 (p : Int)) := (h.next b).cell
theorem Fx.set {p : Nat} {w w1 : World} {g : Nat} (h : Fx p w w1 g) {a : Addr} (ha : w.heap.size ≤ a.block) (hn : g ≠ a.block) (v : Value) : Fx p w (w1.setCell a v) g :=
 ⟨by simpa [World.setCell] using h.lt, h.below.setCell ha v, (set_far _ _ _ ⟨g, 0, none⟩ hn).trans h.cell⟩
theorem Fx.box {p : Nat} {w w1 : World} (h : Below w.heap.size w w1) : Fx p w (w1.alloc (.cells #[.int .u64 p] 29)) w1.heap.size :=
 ⟨by simp, h.alloc h.size _, (World.ownsRow_lit w1 #[.int .u64 p] 1 (Nat.le_refl _) (by unfold maxLen; omega) rfl : Own .u64 29 (w1.alloc (.cells #[.int .u64 p] 29)) w1.heap.size (.slice (some ⟨w1.heap.size, 0, none⟩) 1 1) [p]).cellAt 0 (by simp)⟩
theorem Sl.drew {k : IntKind} {w : World} {v : Value} {xs : List Nat} (h : Sl k w v xs) : Sl k w.drew v xs := h.drawn ⟨1, rfl⟩
theorem Own.drew {k : IntKind} {e : TypeId} {w : World} {base : Nat} {v : Value} {xs : List Nat} (h : Own k e w base v xs) : Own k e w.drew base v xs := h.drawn ⟨1, rfl⟩
theorem ref9_Same (v u : Value) (xs ys : List Nat) (β : Bool) (w : World) (hv : Sl .u64 w v xs) (hu : Sl .u64 w u ys) (hm : xs.length ≤ 10000000000000) (hn : ys.length ≤ 10000000000000) (hβ : β = decide (xs = ys)) :
  Calls Try.prog 29 #[v, u] w (RetQ w (.bool β)) := by
 obtain ⟨ao, b, off, cap, rfl, hl, hcs⟩ := hv
 obtain ⟨bo, c, pff, dap, rfl, kl, kcs⟩ := hu
 by_cases hlen : xs.length = ys.length
 ·have h1 : ((xs.length : Int) != (ys.length : Int)) = false := by rw [hlen]; simp
  have h2 : ((xs.length : Int) == (ys.length : Int)) = true := by rw [hlen]; simp
  have HB := Lib.hid hβ; clear hβ
  have HL := Lib.hid hlen; clear hlen
  go_enter Try.func29, Try.ntmps29
  go_wp2
  go_loopw [5] (fun i wr => ∃ k : Nat, k ≤ xs.length ∧ i = .int .i64 (k : Nat) ∧ Drawn w wr ∧ xs.take k = ys.take k) (fun i _ => xs.length - (intOf i).toNat)
  case atStart => exact ⟨0, by omega, rfl, Drawn.refl _, by simp⟩
  case round =>
   clear h1 h2
   obtain ⟨k, hk, rfl, hq, ht⟩ := hrel
   have HT := Lib.hid ht; clear ht
   by_cases hlt : k < xs.length
   ·have hlt2 : k < ys.length := by have := HL.out; omega
    obtain rfl := hcs.ao (by intro h; subst h; simp at hlt)
    obtain rfl := kcs.ao (by intro h; subst h; simp at hlt2)
    have hcx := (hcs.drawn hq).cell k hlt
    have hcy := (kcs.drawn hq).cell k hlt2
    obtain ⟨x, ex⟩ : ∃ x, x = xs.getD k 0 := ⟨_, rfl⟩
    obtain ⟨y, ey⟩ : ∃ y, y = ys.getD k 0 := ⟨_, rfl⟩
    rw [← ex] at hcx
    rw [← ey] at hcy
    have k0 : (0 : Int) ≤ (k : Int) := Int.natCast_nonneg _
    have k1 : (k : Int) < (xs.length : Int) := by omega
    have k2 : (k : Int) < (ys.length : Int) := by omega
    have EX := Lib.hid ex; have EY := Lib.hid ey; clear ex ey
    by_cases hxy : x = y
    ·subst hxy
     go_wp2
     go_quiet (fail)
     go_wp2
     go_roundw
     case rel => exact ⟨k + 1, by omega, by go_num, hq.add _, by rw [take_snoc xs k hlt, take_snoc ys k hlt2, HT.out, ← EX.out, ← EY.out]⟩
     case measure => simp [intOf] <;> omega
    ·have t1 : ((x : Int) == (y : Int)) = false := beq_eq_false_iff_ne.mpr (fun h => hxy (Int.ofNat.inj h))
     have t2 : ((x : Int) != (y : Int)) = true := by rw [bne, t1]; rfl
     have hb : β = false := by rw [HB.out]; exact decide_eq_false (fun h => hxy (by rw [EX.out, EY.out, h]))
     subst hb
     clear hxy
     go_wp2
     go_quiet (fail)
     go_wp2
     go_ret
     exact ⟨rfl, hq.add _⟩
   ·have hb : β = true := by
     rw [HB.out]
     have h1 : k = xs.length := by omega
     have h2 : k = ys.length := h1.trans HL.out
     have h3 := HT.out
     rw [h1, List.take_length, ← h1, h2, List.take_length] at h3
     exact decide_eq_true h3
    subst hb
    go_wp2
    go_ret
    exact ⟨rfl, hq⟩
 ·have h1 : ((xs.length : Int) != (ys.length : Int)) = true := by simpa using (show ¬ (xs.length : Int) = ys.length by omega)
  have h2 : ((xs.length : Int) == (ys.length : Int)) = false := beq_eq_false_iff_ne.mpr (by omega)
  have hb : β = false := by rw [hβ]; exact decide_eq_false (fun h => hlen (by rw [h]))
  subst hb
  clear hβ hlen
  go_enter Try.func29, Try.ntmps29
  go_wp2
  go_ret
  exact ⟨rfl, Drawn.refl _⟩
theorem slices_Equal (v u : Value) (xs ys : List Nat) (β : Bool) (w : World) (hv : Sl .u64 w v xs) (hu : Sl .u64 w u ys) (hm : xs.length ≤ 10000000000000) (hn : ys.length ≤ 10000000000000) (hβ : β = decide (xs = ys)) :
  Calls Try.prog 97 #[v, u] w (RetQ w (.bool β)) := by
 obtain ⟨ao, b, off, cap, rfl, hl, hcs⟩ := hv
 obtain ⟨bo, c, pff, dap, rfl, kl, kcs⟩ := hu
 by_cases hlen : xs.length = ys.length
 ·have h1 : ((xs.length : Int) != (ys.length : Int)) = false := by rw [hlen]; simp
  have h2 : ((xs.length : Int) == (ys.length : Int)) = true := by rw [hlen]; simp
  have HB := Lib.hid hβ; clear hβ
  have HL := Lib.hid hlen; clear hlen
  go_enter Try.func97, Try.ntmps97
  go_wp2
  go_loopw [13] (fun i wr => ∃ k : Nat, k ≤ xs.length ∧ i = .int .i64 (k : Nat) ∧ Drawn w wr ∧ xs.take k = ys.take k) (fun i _ => xs.length - (intOf i).toNat)
  case atStart => exact ⟨0, by omega, rfl, Drawn.refl _, by simp⟩
  case round =>
   clear h1 h2
   obtain ⟨k, hk, rfl, hq, ht⟩ := hrel
   have HT := Lib.hid ht; clear ht
   by_cases hlt : k < xs.length
   ·have hlt2 : k < ys.length := by have := HL.out; omega
    obtain rfl := hcs.ao (by intro h; subst h; simp at hlt)
    obtain rfl := kcs.ao (by intro h; subst h; simp at hlt2)
    have hcx := (hcs.drawn hq).cell k hlt
    have hcy := (kcs.drawn hq).cell k hlt2
    obtain ⟨x, ex⟩ : ∃ x, x = xs.getD k 0 := ⟨_, rfl⟩
    obtain ⟨y, ey⟩ : ∃ y, y = ys.getD k 0 := ⟨_, rfl⟩
    rw [← ex] at hcx
    rw [← ey] at hcy
    have k0 : (0 : Int) ≤ (k : Int) := Int.natCast_nonneg _
    have k1 : (k : Int) < (xs.length : Int) := by omega
    have k2 : (k : Int) < (ys.length : Int) := by omega
    have EX := Lib.hid ex; have EY := Lib.hid ey; clear ex ey
    by_cases hxy : x = y
    ·subst hxy
     go_wp2
     go_quiet (fail)
     go_wp2
     go_roundw
     case rel => exact ⟨k + 1, by omega, by go_num, hq.add _, by rw [take_snoc xs k hlt, take_snoc ys k hlt2, HT.out, ← EX.out, ← EY.out]⟩
     case measure => simp [intOf] <;> omega
    ·have t1 : ((x : Int) == (y : Int)) = false := beq_eq_false_iff_ne.mpr (fun h => hxy (Int.ofNat.inj h))
     have t2 : ((x : Int) != (y : Int)) = true := by rw [bne, t1]; rfl
     have hb : β = false := by rw [HB.out]; exact decide_eq_false (fun h => hxy (by rw [EX.out, EY.out, h]))
     subst hb
     clear hxy
     go_wp2
     go_quiet (fail)
     go_wp2
     go_ret
     exact ⟨rfl, hq.add _⟩
   ·have hb : β = true := by
     rw [HB.out]
     have h1 : k = xs.length := by omega
     have h2 : k = ys.length := h1.trans HL.out
     have h3 := HT.out
     rw [h1, List.take_length, ← h1, h2, List.take_length] at h3
     exact decide_eq_true h3
    subst hb
    go_wp2
    go_ret
    exact ⟨rfl, hq⟩
 ·have h1 : ((xs.length : Int) != (ys.length : Int)) = true := by simpa using (show ¬ (xs.length : Int) = ys.length by omega)
  have h2 : ((xs.length : Int) == (ys.length : Int)) = false := beq_eq_false_iff_ne.mpr (by omega)
  have hb : β = false := by rw [hβ]; exact decide_eq_false (fun h => hlen (by rw [h]))
  subst hb
  clear hβ hlen
  go_enter Try.func97, Try.ntmps97
  go_wp2
  go_ret
  exact ⟨rfl, Drawn.refl _⟩
def LawOk (w : World) (e : Ending) (w' : World) : Prop := e = .returned (.bool true) ∧ Below w.heap.size w w'
theorem own_lit2 (w : World) (x y : Nat) : Own .u64 27 (w.alloc (.cells #[.int .u64 x, .int .u64 y] 27)) w.heap.size (.slice (some ⟨w.heap.size, 0, none⟩) 2 2) [x, y] :=
 World.ownsRow_lit w #[.int .u64 x, .int .u64 y] 2 (Nat.le_refl _) (by unfold maxLen; omega) rfl
theorem own_lit1 (w : World) (x : Nat) : Own .u64 27 (w.alloc (.cells #[.int .u64 x] 27)) w.heap.size (.slice (some ⟨w.heap.size, 0, none⟩) 1 1) [x] :=
 World.ownsRow_lit w #[.int .u64 x] 1 (Nat.le_refl _) (by unfold maxLen; omega) rfl
end Go.Proofs.Ytkmfhabgempjiaa
/- Package fpoly: Degree, Same, lead, Scale, Monic, Eval. -/
namespace Go.Proofs.Ytkmfhabgempjiaa
set_option maxHeartbeats 2000000
open Go.RowKit
def nl (p : Nat) (xs : List Nat) : List Nat := tr (xs.map (· % p))
theorem nl_nrm {p : Nat} (hp : 0 < p) (xs : List Nat) : Nrm p (nl p xs) := nrm_tr (fun x hx => by
 obtain ⟨y, _, rfl⟩ := List.mem_map.1 hx
 exact Nat.mod_lt _ hp)
theorem nl_pl (p : Nat) (xs : List Nat) : pl p (nl p xs) = pl p xs := by unfold nl; rw [pl_tr, pl_map_mod]
theorem nl_len (p : Nat) (xs : List Nat) : (nl p xs).length ≤ xs.length := by
 have := tr_len (xs.map (· % p)); simpa [nl] using this
theorem nl_is {p : Nat} (hp : 0 < p) {zs xs : List Nat} (h : Nrm p zs) (hv : pl p zs = pl p xs) : zs = nl p xs := pl_inj hp h (nl_nrm hp xs) (hv.trans (nl_pl p xs).symm)
theorem nl_of {p : Nat} (hp : 0 < p) {zs : List Nat} (h : Nrm p zs) : nl p zs = zs := (nl_is hp h rfl).symm
theorem fp_Degree (p : Nat) (v : Value) (xs zs : List Nat) (w : World) (hp : FP p) (hv : Sl .u64 w v xs) (hm : xs.length ≤ 1000000000000) (hz : zs = nl p xs) :
  Calls Try.prog 96 #[.agg #[.int .u64 p], v] w fun e w' => e = .returned (.int .i64 ((zs.length : Int) - 1)) ∧ Below w.heap.size w w' := by
 have HZ := Lib.hid hz; clear hz
 have HP := Lib.hid hp; clear hp
 have fx := Fx.box (p := p) (Below.refl w.heap.size w)
 go_enter Try.func96, Try.ntmps96
 go_wp2_with fail
 generalize w.alloc (.cells #[.int .u64 p] 29) = wb at *
 obtain ⟨g, eg⟩ : ∃ g, g = w.heap.size := ⟨_, rfl⟩
 rw [← eg] at fx ⊢
 have hgw : w.heap.size ≤ g := by omega
 clear eg
 refine (fp_Norm p v xs _ HP.out (hv.next fx.below) (by omega)).mono ?_; rintro e w2 ⟨r, z2, rfl, o2, m2, v2, l2, b2⟩
 obtain rfl : zs = z2 := HZ.out.trans (nl_is HP.out.pos m2 v2).symm
 clear v2 m2
 obtain ⟨ao, bo, oo, co, rfl, -, -⟩ := o2.sl
 go_wp2
 go_ret
 exact ⟨rfl, fx.below.trans (b2.mono fx.below.size)⟩
theorem fp_lead (p x : Nat) (v : Value) (xs zs : List Nat) (w : World) (hp : FP p) (hv : Sl .u64 w v xs) (hm : xs.length ≤ 1000000000000) (hz : zs = nl p xs) (hx : x = zs.getD (zs.length - 1) 0) :
  Calls Try.prog 138 #[.agg #[.int .u64 p], v] w fun e w' => e = .returned (.int .u64 x) ∧ Below w.heap.size w w' := by
 have HZ := Lib.hid hz; clear hz
 have HX := Lib.hid hx; clear hx
 have HP := Lib.hid hp; clear hp
 have fx := Fx.box (p := p) (Below.refl w.heap.size w)
 go_enter Try.func138, Try.ntmps138
 go_wp2_with fail
 generalize w.alloc (.cells #[.int .u64 p] 29) = wb at *
 obtain ⟨g, eg⟩ : ∃ g, g = w.heap.size := ⟨_, rfl⟩
 rw [← eg] at fx ⊢
 have hgw : w.heap.size ≤ g := by omega
 clear eg
 refine (fp_Norm p v xs _ HP.out (hv.next fx.below) (by omega)).mono ?_; rintro e w2 ⟨r, z2, rfl, o2, m2, v2, l2, b2⟩
 obtain rfl : zs = z2 := HZ.out.trans (nl_is HP.out.pos m2 v2).symm
 clear v2 m2
 obtain ⟨ao, bo, oo, co, rfl, hc, cs⟩ := o2.sl
 by_cases h0 : zs.length = 0
 ·obtain rfl : zs = [] := List.length_eq_zero_iff.mp h0
  obtain rfl : x = 0 := HX.out
  go_wp2
  go_ret
  exact ⟨rfl, fx.below.trans (b2.mono fx.below.size)⟩
 ·obtain ⟨j, hj⟩ : ∃ j, zs.length = j + 1 := ⟨zs.length - 1, by omega⟩
  have hcx := cs.cell j (by omega)
  obtain rfl := cs.ao (by intro h; subst h; simp at h0)
  have hz : ((zs.length : Int) == 0) = false := beq_eq_false_iff_ne.mpr (by omega)
  have s1 : IntKind.i64.wrap ((zs.length : Int) - 1) = (j : Int) := by rw [IntWalk.i64_in _ ⟨by omega, by omega⟩]; omega
  have s2 : (zs.length : Int) - 1 = (j : Int) := by omega
  have s3 : (j : Int) < (zs.length : Int) := by omega
  have s4 : x = zs.getD j 0 := by rw [HX.out, show zs.length - 1 = j by omega]
  rw [← s4] at hcx
  have i0 : (0 : Int) ≤ (j : Int) := Int.natCast_nonneg _
  have HJ := Lib.hid hj
  clear hj s4 h0
  go_wp2
  go_ret
  exact ⟨rfl, fx.below.trans (b2.mono fx.below.size)⟩
theorem fp_Same (p : Nat) (v u : Value) (xs ys : List Nat) (β : Bool) (w : World) (hp : FP p) (s0 : Sl .u64 w v xs) (s1 : Sl .u64 w u ys) (hm : xs.length ≤ 1000000000000) (hn : ys.length ≤ 1000000000000) (hβ : β = decide (nl p xs = nl p ys)) :
  Calls Try.prog 51 #[.agg #[.int .u64 p], v, u] w fun e w' => e = .returned (.bool β) ∧ Below w.heap.size w w' := by
 have HB := Lib.hid hβ; clear hβ
 have HP := Lib.hid hp; clear hp
 have fx := Fx.box (p := p) (Below.refl w.heap.size w)
 go_enter Try.func51, Try.ntmps51
 go_upto_region 1 with (fail)
 generalize w.alloc (.cells #[.int .u64 p] 29) = wb at *
 obtain ⟨g, eg⟩ : ∃ g, g = w.heap.size := ⟨_, rfl⟩
 rw [← eg] at fx ⊢
 have hgw : w.heap.size ≤ g := by omega
 clear eg
 have fd := fx.drew
 have t0 := s0.next fd.below
 have t1 := s1.next fd.below
 have zF0 := Lib.hid fun (w : World) (hS : Below wb.drew.heap.size wb.drew w) => fd.at hS
 refine startL (S := (fun w' => Below wb.drew.heap.size wb.drew w')) (by kernel_rfl) (Below.refl _ _) (fun hHeld => ?_)
 refine tf 0 zF0.out ?_
 refine tk 1 ?_
 refine tf 3 zF0.out ?_
 refine tk 4 ?_
 refine on 2 fun K hK => ?_
 go_simp
 go_at_call 80
 refine (fp_Norm p v xs _ HP.out (t0.next hHeld) (by omega)).mono ?_; rintro e w2 ⟨r2, z2, rfl, o2, m2, v2, l2, b2⟩
 obtain rfl := nl_is HP.out.pos m2 v2; clear v2 m2
 refine hK.out _ _ (hHeld.trans (b2.mono hHeld.size)) (fun hHeld => ?_)
 clear hK K
 try simp only [Act.put, zq1, zq2, zq3]
 refine on 5 fun K hK => ?_
 go_simp
 go_at_call 80
 refine (fp_Norm p u ys _ HP.out (t1.next hHeld) (by omega)).mono ?_; rintro e w3 ⟨r3, z3, rfl, o3, m3, v3, l3, b3⟩
 obtain rfl := nl_is HP.out.pos m3 v3; clear v3 m3; replace o2 := o2.next b3
 refine hK.out _ _ (hHeld.trans (b3.mono hHeld.size)) (fun hHeld => ?_)
 clear hK K
 try simp only [Act.put, zq1, zq2, zq3]
 refine on 6 fun K hK => ?_
 go_simp
 go_at_call 97
 refine (slices_Equal r2 r3 (nl p xs) (nl p ys) β _ o2.sl o3.sl (by omega) (by omega) HB.out).mono ?_; rintro e w4 ⟨rfl, q4⟩
 refine hK.out _ _ (hHeld.trans ((q4.below _).mono hHeld.size)) (fun hHeld => ?_)
 clear hK K
 try simp only [Act.put, zq1, zq2, zq3]
 refine tk 7 ?_
 clear zF0; refine doneL (by kernel_rfl) ?_ _
 go_wp2
 go_ret
 exact ⟨rfl, fd.below.trans (hHeld.mono fd.below.size)⟩
theorem scale_arith {p i z x c : Nat} {xs zs : List Nat} (hi : i < zs.length) (hv : pl p (zs.take i) = pl p (xs.take i) * mon (Zp.of p c) 0) (hx : x = xs.getD i 0) (hz : Zp.of p z = Zp.of p x * Zp.of p c) :
  pl p ((zs.set i z).take (i + 1)) = pl p (xs.take (i + 1)) * mon (Zp.of p c) 0 := by
 rw [pl_set_take p zs i z hi, hv, hz, pl_take_succ, ← hx, CR.add_mul, mon_mul, Nat.add_zero]
theorem fp_Scale (p c : Nat) (v : Value) (xs : List Nat) (w : World) (hp : FP p) (hv : Sl .u64 w v xs) (hm : xs.length ≤ 1000000000000) :
  Calls Try.prog 132 #[.agg #[.int .u64 p], v, .int .u64 c] w (RetP p w xs.length (pl p xs * mon (Zp.of p c) 0)) := by
 obtain ⟨ao, b, off, cap, rfl, hl, hcs⟩ := hv
 have HP := Lib.hid hp; clear hp
 have fx := Fx.box (p := p) (Below.refl w.heap.size w)
 go_enter Try.func132, Try.ntmps132
 go_upto_region 1 with (fail)
 generalize w.alloc (.cells #[.int .u64 p] 29) = wb at *
 obtain ⟨g, eg⟩ : ∃ g, g = w.heap.size := ⟨_, rfl⟩
 rw [← eg] at fx ⊢
 have hgw : w.heap.size ≤ g := by omega
 clear eg
 go_wp2_with (at_make; refine wp_make .u64 43 27 8 Try.underlying43 (by kernel_rfl) (by decide) rfl _ _ rfl .i64 .i64 xs.length (by omega) _ _ _ rfl rfl (by omega) (by omega) ?_; intro w1 hown hbel hsz)
 obtain ⟨gg, egg⟩ : ∃ gg, gg = wb.heap.size := ⟨_, rfl⟩
 have hgg : g < gg := by have := fx.lt; omega
 have hggw : w.heap.size ≤ gg := by omega
 replace hown := hown.mono fx.below.size
 rw [← egg] at hown ⊢
 replace fx := fx.next hbel
 clear hbel hsz egg
 have hne : g ≠ gg := by omega
 go_loopw [15] (fun iv wr => ∃ (i : Nat) (zs : List Nat), i ≤ xs.length ∧ iv = .int .i64 i ∧ Fx p w wr g ∧ Own .u64 27 wr w.heap.size (.slice (some ⟨gg, 0, none⟩) xs.length xs.length) zs ∧ zs.length = xs.length ∧ pl p (zs.take i) = pl p (xs.take i) * mon (Zp.of p c) 0) (fun iv _ => xs.length - (intOf iv).toNat)
 case atStart => exact ⟨0, _, by omega, rfl, fx, hown, by simp, by simp only [List.take_zero, pl_nil]; rw [CR.zero_mul]⟩
 case round =>
  clear hown fx
  obtain ⟨i, zs, hi, rfl, fx, ho, hzl, hval⟩ := hrel
  have HV := Lib.hid hval; clear hval
  by_cases hlt : i < xs.length
  ·obtain rfl := hcs.ao (by intro h; subst h; simp at hlt)
   have hcx := (hcs.below fx.below (Nat.le_refl _)).cell i hlt
   have hcg := fx.cell
   obtain ⟨x, ex⟩ : ∃ x, x = xs.getD i 0 := ⟨_, rfl⟩
   rw [← ex] at hcx
   obtain ⟨z, ez⟩ : ∃ z, z = (Zp.of p x * Zp.of p c).val := ⟨_, rfl⟩
   have C1 := Lib.hid (fun w => gfp_Mul p x c z w HP.out ez)
   have AR := Lib.hid (scale_arith (i := i) (by omega) HV.out ex (Zp.fact HP.out ez).2)
   clear ex ez
   have i0 : (0 : Int) ≤ (i : Int) := Int.natCast_nonneg _
   have i1 : (i : Int) < (xs.length : Int) := by omega
   go_wp2_with fail
   refine (C1.out _).mono ?_; rintro e wn ⟨rfl, bn⟩
   clear hcx hcg
   have ho2 := ho.next bn
   have hc2 := ho2.cellAt i (by omega)
   have hf2 := ho2.frozenAt i
   have fx2 := (fx.next bn).set (a := ⟨gg, i, none⟩) hggw hne (.int .u64 (z : Int))
   have HZL := Lib.hid hzl
   clear ho fx bn hzl
   go_wp2
   go_roundw
   case rel => exact ⟨i + 1, zs.set i z, by omega, by go_num, fx2, (ho2.store i z).1, by rw [List.length_set]; exact HZL.out, AR.out⟩
   case measure => simp [intOf] <;> omega
  ·obtain rfl : i = xs.length := by omega
   have HZL := Lib.hid hzl
   have hend : pl p zs = pl p xs * mon (Zp.of p c) 0 := by
    have h1 := HV.out
    have h2 := HZL.out
    rw [List.take_length, ← h2, List.take_length] at h1; exact h1
   have HE := Lib.hid hend; clear hend
   have hcg := fx.cell
   go_wp2_with fail
   refine (fp_Norm p _ zs _ HP.out ho.sl (by omega)).mono ?_; rintro e w2 ⟨r, z2, rfl, o2, m2, v2, l2, b2⟩
   have V2 := Lib.hid v2; clear v2
   go_wp2
   go_ret
   exact ⟨r, z2, rfl, o2.mono fx.below.size, m2, by rw [V2.out, HE.out], by have := HZL.out; omega, fx.below.trans (b2.mono fx.below.size)⟩
theorem fp_Monic (p y : Nat) (v : Value) (xs zs : List Nat) (w : World) (hp : FP p) (hv : Sl .u64 w v xs) (hm : xs.length ≤ 1000000000000) (hz : zs = nl p xs) (hy : y = (Zp.of p (zs.getD (zs.length - 1) 0)).iv.val) :
  Calls Try.prog 98 #[.agg #[.int .u64 p], v] w (RetP p w xs.length (pl p xs * mon (Zp.of p y) 0)) := by
 have HZ := Lib.hid hz; clear hz
 have HY := Lib.hid hy; clear hy
 obtain ⟨x, ex⟩ : ∃ x, x = zs.getD (zs.length - 1) 0 := ⟨_, rfl⟩
 have HX := Lib.hid ex; clear ex
 have HP := Lib.hid hp; clear hp
 have fx := Fx.box (p := p) (Below.refl w.heap.size w)
 go_enter Try.func98, Try.ntmps98
 go_upto_region 1 with (fail)
 generalize w.alloc (.cells #[.int .u64 p] 29) = wb at *
 obtain ⟨g, eg⟩ : ∃ g, g = w.heap.size := ⟨_, rfl⟩
 rw [← eg] at fx ⊢
 have hgw : w.heap.size ≤ g := by omega
 clear eg
 have fd := fx.drew
 have t0 := hv.next fd.below
 have z0 := Lib.hid fun (w : World) (hS : Below wb.drew.heap.size wb.drew w) => fd.at hS
 refine startL (S := (fun w' => Below wb.drew.heap.size wb.drew w')) (by kernel_rfl) (Below.refl _ _) (fun hHeld => ?_)
 refine tf 0 z0.out ?_
 refine tk 1 ?_
 refine tf 2 z0.out ?_
 refine tf 3 z0.out ?_
 refine tk 4 ?_
 refine on 5 fun K hK => ?_
 go_simp
 go_at_call 138
 refine (fp_lead p x v xs zs _ HP.out (t0.next hHeld) hm HZ.out HX.out).mono ?_; rintro e w2 ⟨rfl, b2⟩
 refine hK.out _ _ (hHeld.trans (b2.mono hHeld.size)) (fun hHeld => ?_)
 clear hK K
 try simp only [Act.put, zq1, zq2, zq3]
 refine on 6 fun K hK => ?_
 go_simp
 go_at_call 131
 refine (gfp_Inv p x y _ HP.out (by rw [HX.out]; exact HY.out)).mono ?_; rintro e w3 ⟨rfl, b3⟩
 refine hK.out _ _ (hHeld.trans (b3.mono hHeld.size)) (fun hHeld => ?_)
 clear hK K
 try simp only [Act.put, zq1, zq2, zq3]
 refine on 7 fun K hK => ?_
 go_simp
 go_at_call 132
 refine (fp_Scale p y v xs _ HP.out (t0.next hHeld) hm).mono ?_; rintro e w4 ⟨r4, z4, rfl, o4, m4, v4, l4, b4⟩
 have V4 := Lib.hid v4; clear v4; replace o4 := o4.mono (Nat.le_trans fd.below.size hHeld.size)
 refine hK.out _ _ (hHeld.trans (b4.mono hHeld.size)) (fun hHeld => ?_)
 clear hK K
 try simp only [Act.put, zq1, zq2, zq3]
 refine tk 8 ?_
 clear z0; refine doneL (by kernel_rfl) ?_ _
 go_wp2
 go_ret
 exact ⟨r4, z4, rfl, o4, m4, V4.out, l4, fd.below.trans (hHeld.mono fd.below.size)⟩
end Go.Proofs.Ytkmfhabgempjiaa
/- Package fpoly: DivMod. -/
namespace Go.Proofs.Ytkmfhabgempjiaa
set_option maxHeartbeats 2000000
open Go.RowKit
theorem Own.set_far {k : IntKind} {e : TypeId} {w : World} {base g n cap : Nat} {xs : List Nat} (h : Own k e w base (.slice (some ⟨g, 0, none⟩) n cap) xs) {a : Addr} (ha : g ≠ a.block) (v : Value) :
  Own k e (w.setCell a v) base (.slice (some ⟨g, 0, none⟩) n cap) xs := by
 refine ⟨h.1, ?_⟩
 rcases h.2 with h | ⟨g', cap', cur, e0, b0, c0, d0⟩
 ·exact .inl h
 ·refine .inr ⟨g', cap', cur, e0, b0, ?_, d0⟩
  simp only [Value.slice.injEq, Option.some.injEq, Addr.mk.injEq] at e0
  obtain ⟨⟨rfl, -⟩, -⟩ := e0
  rw [Below.heap_setCell w a v g ha]; exact c0
theorem Cs.set_far {k : IntKind} {w : World} {ao : Option Addr} {b off : Nat} {xs : List Nat} (h : Cs k w ao b off xs) {a : Addr} (ha : b ≠ a.block) (v : Value) : Cs k (w.setCell a v) ao b off xs :=
 ⟨h.ao, fun j hj => (Go.Proofs.Ytkmfhabgempjiaa.set_far _ _ _ ⟨b, off + j, none⟩ ha).trans (h.cell j hj)⟩
theorem c_mon_mul {R : Type} [CR R] (a : R) (k : Nat) (g : Pol R) (n : Nat) : (mon a k * g).c n = if k ≤ n then a * g.c (n - k) else 0 := by
 rw [Pol.c_mul]
 by_cases h : k ≤ n
 ·rw [if_pos h, sm_one (k := k) (by omega) (fun i _ hi => by rw [c_mon, if_neg hi, CR.zero_mul]), c_mon, if_pos rfl]
 ·rw [if_neg h]
  exact sm_zero' fun i hi => by rw [c_mon, if_neg (by omega), CR.zero_mul]
theorem div_dlt {R : Type} [CR R] {f g : Pol R} {q u : R} {i l : Nat} (hf : f.dlt (i + l + 1)) (hg : g.dlt (l + 1)) (hu : u * g.c l = 1) (hq : q = f.c (i + l) * u) : (f - mon q i * g).dlt (i + l) := by
 intro n hn
 rw [Pol.c_sub, c_mon_mul, if_pos (by omega)]
 by_cases h : n = i + l
 ·subst h
  rw [show i + l - i = l by omega, hq, CR.mul_assoc, hu, CR.mul_one, CR.sub_self]
 ·rw [hf n (by omega), hg (n - i) (by omega), CR.mul_zero, CR.sub_zero]
theorem div_inner {p i k z m q y : Nat} {C zs : List Nat} {f : Pol (Zp p)} (hl : i + k < zs.length) (hv : pl p zs = f - mon (Zp.of p q) i * pl p (C.take k)) (hy : y = C.getD k 0)
  (hm : Zp.of p m = Zp.of p q * Zp.of p y) (hz : Zp.of p z = Zp.of p (zs.getD (i + k) 0) - Zp.of p m) :
  pl p (zs.set (i + k) z) = f - mon (Zp.of p q) i * pl p (C.take (k + 1)) := by
 rw [pl_set p zs (i + k) z hl, hv, hz, hm, pl_take_succ, ← hy, CR.mul_add, mon_mul]
 have e : Zp.of p (zs.getD (i + k) 0) - Zp.of p q * Zp.of p y - Zp.of p (zs.getD (i + k) 0) = -(Zp.of p q * Zp.of p y) :=
  by_ring [Zp.of p (zs.getD (i + k) 0), Zp.of p q, Zp.of p y] (X0 - X1 * X2 - X0) (-(X1 * X2)) rfl
 rw [e, mon_neg]
 exact by_ring [f, mon (Zp.of p q) i * pl p (C.take k), mon (Zp.of p q * Zp.of p y) (i + k)] (X0 - X1 + -X2) (X0 - (X1 + X2)) rfl
theorem div_outer {p i q : Nat} {A C zs zs' qs : List Nat} (hi : i < qs.length) (h0 : qs.getD i 0 = 0) (hv : pl p A = pl p qs * pl p C + pl p zs) (hz : pl p zs' = pl p zs - mon (Zp.of p q) i * pl p C) :
  pl p A = pl p (qs.set i q) * pl p C + pl p zs' := by
 rw [pl_set p qs i q hi, h0, Zp.of_zero, CR.sub_zero, hz, hv]
 exact by_ring [pl p qs, pl p C, pl p zs, mon (Zp.of p q) i] (X0 * X1 + X2) ((X0 + X3) * X1 + (X2 - X3 * X1)) rfl
theorem lead_inv {p l : Nat} {C : List Nat} (ht : Trial p) (hC : Nrm p C) (hl : C.length = l + 1) : (Zp.of p (C.getD l 0)).iv * (pl p C).c l = 1 := by
 rw [pl_c]
 refine Zp.iv_mul ht fun h => ?_
 have hp := trial_gt ht
 have h1 : C.length ≤ l := pl_len (by omega) hC (n := l) fun i hi => by
  rw [pl_c]
  by_cases e : i = l
  ·subst e; exact h
  ·rw [List.getD, List.getElem?_eq_none (by omega)]; rfl
 omega
def RetDiv (p : Nat) (w : World) (xs ys : List Nat) (e : Ending) (w' : World) : Prop :=
 ∃ rq rr zq zr, e = .returned (.tuple #[rq, rr, .bool true]) ∧ Own .u64 27 w' w.heap.size rq zq ∧ Own .u64 27 w' w.heap.size rr zr ∧ Nrm p zq ∧ Nrm p zr ∧
  pl p xs = pl p zq * pl p ys + pl p zr ∧ zr.length < (nl p ys).length ∧ zq.length ≤ xs.length ∧ zr.length ≤ xs.length ∧ Below w.heap.size w w'
structure DivRel (p : Nat) (w wr : World) (g ga ca gq gc : Nat) (A C zs qs : List Nat) (n i : Nat) : Prop where
 fx : Fx p w wr g
 own : Own .u64 27 wr w.heap.size (.slice (some ⟨ga, 0, none⟩) A.length ca) zs
 ownq : Own .u64 27 wr w.heap.size (.slice (some ⟨gq, 0, none⟩) n n) qs
 len : zs.length = A.length
 lenq : qs.length = n
 lt : ga < wr.heap.size
 ltq : gq < wr.heap.size
 zero : ∀ j, j < i → qs.getD j 0 = 0
 val : pl p A = pl p qs * pl p C + pl p zs
 dlt : (pl p zs).dlt (i + C.length - 1)
 cs : Cs .u64 wr (some ⟨gc, 0, none⟩) gc 0 C
structure DivIn (p : Nat) (w wr : World) (g ga ca gq gc : Nat) (A C z0 zs qs : List Nat) (n i q k : Nat) : Prop where
 fx : Fx p w wr g
 own : Own .u64 27 wr w.heap.size (.slice (some ⟨ga, 0, none⟩) A.length ca) zs
 ownq : Own .u64 27 wr w.heap.size (.slice (some ⟨gq, 0, none⟩) n n) qs
 len : zs.length = A.length
 lt : ga < wr.heap.size
 ltq : gq < wr.heap.size
 val : pl p zs = pl p z0 - mon (Zp.of p q) i * pl p (C.take k)
 cs : Cs .u64 wr (some ⟨gc, 0, none⟩) gc 0 C
set_option maxRecDepth 20000 in
theorem fp_DivMod (p : Nat) (v u : Value) (xs ys : List Nat) (w : World) (hp : FP p) (ht : Trial p) (s0 : Sl .u64 w v xs) (s1 : Sl .u64 w u ys) (hm : xs.length ≤ 1000000000000) (hn : ys.length ≤ 1000000000000) (h0 : nl p ys ≠ []) :
  Calls Try.prog 88 #[.agg #[.int .u64 p], v, u] w (RetDiv p w xs ys) := by
 have H0 := Lib.hid h0; clear h0
 have HT := Lib.hid ht; clear ht
 have HP := Lib.hid hp; clear hp
 have fx := Fx.box (p := p) (Below.refl w.heap.size w)
 go_enter Try.func88, Try.ntmps88
 go_upto_region 1 with (fail)
 generalize w.alloc (.cells #[.int .u64 p] 29) = wb at *
 obtain ⟨g, eg⟩ : ∃ g, g = w.heap.size := ⟨_, rfl⟩
 rw [← eg] at fx ⊢
 have hgw : w.heap.size ≤ g := by omega
 clear eg
 have fd := fx.drew
 have t0 := s0.next fd.below
 have t1 := s1.next fd.below
 clear s0 s1 fx
 have z0 := Lib.hid fun (w : World) (hS : Below wb.drew.heap.size wb.drew w) => fd.at hS
 refine startL (S := (fun w' => Below wb.drew.heap.size wb.drew w')) (by kernel_rfl) (Below.refl _ _) (fun hHeld => ?_)
 refine tf 0 z0.out ?_
 refine tk 1 ?_
 refine tf 3 z0.out ?_
 refine tk 4 ?_
 refine on 2 fun K hK => ?_
 go_simp
 go_at_call 80
 refine (fp_Norm p v xs _ HP.out (t0.next hHeld) (by omega)).mono ?_; rintro e w2 ⟨r2, A, rfl, oA, mA, vA, lA, b2⟩
 skip
 refine hK.out _ _ (hHeld.trans (b2.mono hHeld.size)) (fun hHeld => ?_)
 clear hK K
 try simp only [Act.put, zq1, zq2, zq3]
 refine on 5 fun K hK => ?_
 go_simp
 go_at_call 80
 refine (fp_Norm p u ys _ HP.out (t1.next hHeld) (by omega)).mono ?_; rintro e w3 ⟨r3, C, rfl, oC, mC, vC, lC, b3⟩
 refine hK.out _ _ (hHeld.trans (b3.mono hHeld.size)) (fun hHeld => ?_)
 clear hK K
 try simp only [Act.put, zq1, zq2, zq3]
 refine tk 6 ?_
 refine tk 7 ?_
 clear z0; refine doneL (by kernel_rfl) ?_ _
 have hgl := fd.lt
 have hwl := fd.below.size
 have eC := nl_is HP.out.pos mC vC
 have HC := Lib.hid eC
 have hC0 : C ≠ [] := by rw [eC]; exact H0.out
 have VA := Lib.hid vA; have VC := Lib.hid vC
 replace fd := fd.next hHeld
 have hAsz := b3.size
 have hoA := (oA.next b3).mono (Nat.le_trans hwl (show wb.drew.heap.size ≤ wb.drew.heap.size from Nat.le_refl _))
 have hgC := oC.shape
 rcases hgC with ⟨_, h⟩ | ⟨gc, cc, rfl, hgc1, hgc2, hcc, _⟩
 ·exact absurd h hC0
 have hCl : 0 < C.length := List.length_pos_iff.mpr hC0
 have hz0 : ((C.length : Int) == 0) = false := beq_eq_false_iff_ne.mpr (by omega)
 clear eC vA vC t0 t1 hC0
 by_cases hlt : A.length < C.length
 ·obtain ⟨ao, bo, oo, co, rfl, -, -⟩ := hoA.sl
  have h1 : decide ((A.length : Int) < (C.length : Int)) = true := decide_eq_true (by omega)
  clear hHeld b3 b2 oA
  go_wp2
  refine bodyPost_ret (v := .tuple #[.slice none 0 0, .slice ao A.length co, .bool true]) (by simp [results, Try.results88, go_sem]) rfl ⟨_, _, [], A, rfl, Own.nil _ _ _ _, hoA, nrm_nil _, mA, ?_, ?_, by simp, lA, fd.below⟩
  ·rw [pl_nil, CR.zero_mul, CR.zero_add, VA.out]
  ·rw [← HC.out]; exact hlt
 ·rcases oA.shape with ⟨_, h⟩ | ⟨ga, ca, rfl, hga1, hga2, hca, _⟩
  ·exfalso; rw [h] at hlt; exact hlt hCl
  have h1 : decide ((A.length : Int) < (C.length : Int)) = false := decide_eq_false (by omega)
  have hgac : gc ≠ ga := by omega
  have hgg : g < w3.heap.size := fd.lt
  obtain ⟨l, hl⟩ : ∃ l, C.length = l + 1 := ⟨C.length - 1, by omega⟩
  obtain ⟨n, hn'⟩ : ∃ n, A.length + 1 = n + C.length := ⟨A.length + 1 - C.length, by omega⟩
  have csC : Cs .u64 w3 (some ⟨gc, 0, none⟩) gc 0 C := oC.cs
  obtain ⟨x, ex⟩ : ∃ x, x = C.getD l 0 := ⟨_, rfl⟩
  obtain ⟨u, eu⟩ : ∃ u, u = (Zp.of p x).iv.val := ⟨_, rfl⟩
  have hinv : Zp.of p u * (pl p C).c l = 1 := by
   rw [(Zp.fact HP.out eu).2, ex]; exact lead_inv HT.out mC hl
  have HI := Lib.hid hinv
  have CI := Lib.hid (fun w => gfp_Inv p x u w HP.out eu)
  have hcx := csC.drawn (w' := w3.drew) ⟨1, rfl⟩ |>.cell l (by omega)
  rw [← ex, Nat.zero_add] at hcx
  have i1 : IntKind.i64.wrap (l : Int) = (l : Int) := IntWalk.i64_in _ ⟨by omega, by omega⟩
  have i2 : (C.length : Int) - 1 = (l : Int) := by omega
  have i3 : (l : Int) < (C.length : Int) := by omega
  have i4 : (0 : Int) ≤ (l : Int) := Int.natCast_nonneg _
  have HL := Lib.hid hl
  have hga3 : ga < w3.heap.size := Nat.lt_of_lt_of_le hga2 hAsz
  clear hinv ex eu hHeld b3 b2 oA oC hga2
  have fe := fd.drew
  have hgc3 : gc < w3.drew.heap.size := hgc2
  clear hl
  go_upto_region 6 with (fail)
  have z0 := Lib.hid fun (w : World) (hS : Below w3.drew.heap.size w3.drew w) => And.intro (fe.at hS) ((hS.cell (p := ⟨gc, l, none⟩) hgc3).trans hcx)
  refine startL (S := (fun w' => Below w3.drew.heap.size w3.drew w')) (by kernel_rfl) (Below.refl _ _) (fun hHeld => ?_)
  refine tf 0 z0.out ?_
  refine tk 1 ?_
  refine tk 2 ?_
  refine tk 3 ?_
  refine tk 4 ?_
  refine tk 5 ?_
  refine tf 6 z0.out ?_
  refine on 7 fun K hK => ?_
  go_simp
  go_at_call 131
  refine (CI.out _).mono ?_; rintro e w4 ⟨rfl, b4⟩
  refine hK.out _ _ (hHeld.trans (b4.mono hHeld.size)) (fun hHeld => ?_)
  clear hK K
  try simp only [Act.put, zq1, zq2, zq3]
  refine tk 8 ?_
  clear z0; refine doneL (by kernel_rfl) ?_ _
  replace fe := fe.next hHeld
  have hoA2 := (hoA.drawn (w' := w3.drew) ⟨1, rfl⟩).next hHeld
  have csC2 := (csC.drawn (w' := w3.drew) ⟨1, rfl⟩).below hHeld (Nat.le_refl _)
  have hgc4 : gc < w4.heap.size := Nat.lt_of_lt_of_le hgc3 hHeld.size
  have hsz4 : w3.heap.size ≤ w4.heap.size := hHeld.size
  clear hHeld b4 hoA csC fd hcx i1 i2 i3 i4 hgc3
  go_wp2_with (at_make; refine wp_make .u64 43 27 8 Try.underlying43 (by kernel_rfl) (by decide) rfl _ _ rfl .i64 .i64 n (by omega) _ _ _ rfl rfl (by omega) (by omega) ?_; intro w5 hq hbel hsz)
  obtain ⟨gq, egq⟩ : ∃ gq, gq = w4.heap.size := ⟨_, rfl⟩
  have hgqc : gc ≠ gq := by omega
  have hgqa : ga ≠ gq := by omega
  have hgqg : g ≠ gq := by have := fe.lt; omega
  have hgag : g ≠ ga := by omega
  have hgq1 : w.heap.size ≤ gq := by have := fe.below.size; omega
  have hga1' : w.heap.size ≤ ga := by omega
  have ltq5 : gq < w5.heap.size := by omega
  have lta5 : ga < w5.heap.size := by omega
  rw [← egq] at hq ⊢
  have st : DivRel p w w5 g ga ca gq gc A C A (List.replicate n 0) n n :=
   ⟨fe.next hbel, hoA2.next hbel, hq.mono (by omega), rfl, by simp, lta5, ltq5, fun j hj => by simp [List.getD, hj], by rw [pl_replicate0, CR.zero_mul, CR.zero_add], (fun i hi => pl_dlt p A i (by omega)), csC2.below hbel (Nat.le_refl _)⟩
  clear hq hbel hsz fe hoA2 csC2 egq ltq5 lta5 hgc4 hsz4 hz0 h1
  have HN := Lib.hid hn'
  clear hn'
  go_wp2_with fail
  go_loopw [11] (fun iv wr => ∃ (i : Nat) (zs qs : List Nat), i ≤ n ∧ iv = .int .i64 ((i : Int) - 1) ∧ DivRel p w wr g ga ca gq gc A C zs qs n i) (fun iv _ => (intOf iv + 1).toNat)
  case atStart => exact ⟨n, _, _, Nat.le_refl _, rfl, st⟩
  case round =>
   clear st
   obtain ⟨i, zs, qs, hi, rfl, st⟩ := hrel
   by_cases h0 : 0 < i
   ·obtain ⟨j, rfl⟩ : ∃ j, i = j + 1 := ⟨i - 1, by omega⟩
    have hl := HL.out
    have hn' := HN.out
    have hct := (st.own.drawn (w' := wr.drew) ⟨1, rfl⟩).cellAt (j + l) (by have := st.len; omega)
    obtain ⟨x, ex⟩ : ∃ x, x = zs.getD (j + l) 0 := ⟨_, rfl⟩
    rw [← ex] at hct
    obtain ⟨q, eq⟩ : ∃ q, q = (Zp.of p x * Zp.of p u).val := ⟨_, rfl⟩
    have CM := Lib.hid (fun w => gfp_Mul p x u q w HP.out eq)
    have hq1 : Zp.of p q = (pl p zs).c (j + l) * Zp.of p u := by rw [(Zp.fact HP.out eq).2, pl_c, ← ex]
    have hdl := div_dlt (f := pl p zs) (g := pl p C) (i := j) (l := l) (by have := st.dlt; rwa [show j + 1 + C.length - 1 = j + l + 1 by omega] at this) (by have := pl_dlt p C; rwa [hl] at this) HI.out hq1
    have HD := Lib.hid hdl
    have hij : ((j : Int) + (l : Int)).toNat = j + l := by omega
    have HIJ := Lib.hid hij
    replace hct : wr.drew.cell? ⟨ga, ((j : Int) + (l : Int)).toNat, none⟩ = some (.int .u64 (x : Int)) := by rw [hij]; exact hct
    have HL2 := st.lt
    have a1 : IntKind.i64.wrap ((j : Int) + (C.length : Int)) = (j : Int) + (C.length : Int) := IntWalk.i64_in _ ⟨by omega, by omega⟩
    have a2 : (j : Int) + (C.length : Int) - 1 = (j : Int) + (l : Int) := by omega
    have a3 : IntKind.i64.wrap ((j : Int) + (l : Int)) = (j : Int) + (l : Int) := IntWalk.i64_in _ ⟨by omega, by omega⟩
    have a4 : (0 : Int) ≤ (j : Int) + (l : Int) := by omega
    have a5 : (j : Int) + (l : Int) < (A.length : Int) := by omega
    have a6 : ((j + 1 : Nat) : Int) - 1 = (j : Int) := by omega
    have a7 : (0 : Int) ≤ (j : Int) := Int.natCast_nonneg _
    have a8 : (j : Int) < (n : Int) := by omega
    rw [a6]
    have fe := st.fx.drew
    have HI2 := Lib.hid hi
    clear hij ex eq hq1 hdl a6 hi hl hn'
    go_upto_region 11 with (fail)
    have z0 := Lib.hid fun (w : World) (hS : Below wr.drew.heap.size wr.drew w) => And.intro (fe.at hS) ((hS.cell (p := ⟨ga, ((j : Int) + (l : Int)).toNat, none⟩) HL2).trans hct)
    refine startP (S := (fun w' => Below wr.drew.heap.size wr.drew w')) (by kernel_rfl) _ rfl rfl rfl (by kernel_rfl) (Below.refl _ _) (fun hHeld => ?_)
    refine tk 0 ?_
    refine tk 1 ?_
    refine tf 2 z0.out ?_
    refine tk 3 ?_
    refine tk 4 ?_
    refine tk 5 ?_
    refine tk 6 ?_
    refine tk 7 ?_
    refine tk 8 ?_
    refine tk 9 ?_
    refine tf 10 z0.out ?_
    refine tk 11 ?_
    refine on 12 fun K hK => ?_
    go_simp
    go_at_call 118
    refine (CM.out _).mono ?_; rintro e w6 ⟨rfl, b6⟩
    refine hK.out _ _ (hHeld.trans (b6.mono hHeld.size)) (fun hHeld => ?_)
    clear hK K
    try simp only [Act.put, zq1, zq2, zq3]
    refine tk 13 ?_
    clear z0; refine doneL (by kernel_rfl) ?_ _
    refine lastL rfl (by rfl) ?_
    have oq := (st.ownq.drawn (w' := wr.drew) ⟨1, rfl⟩).next hHeld
    have oa := (st.own.drawn (w' := wr.drew) ⟨1, rfl⟩).next hHeld
    have cc := (st.cs.drawn (w' := wr.drew) ⟨1, rfl⟩).below hHeld (Nat.le_refl _)
    have hlq := st.lenq
    have hcq := oq.cellAt j (by omega)
    have hfq := oq.frozenAt j
    have s6 : DivIn p w (w6.setCell ⟨gq, j, none⟩ (.int .u64 (q : Int))) g ga ca gq gc A C zs zs (qs.set j q) n j q 0 :=
     ⟨(fe.next hHeld).set hgq1 hgqg _, oa.set_far hgqa _, (oq.store j q).1, st.len, by simpa [World.setCell] using Nat.lt_of_lt_of_le st.lt hHeld.size, by simpa [World.setCell] using Nat.lt_of_lt_of_le st.ltq hHeld.size,
      by rw [List.take_zero, pl_nil, CR.mul_zero, CR.sub_zero], cc.set_far hgqc _⟩
    have hqj : (qs.set j q).getD j 0 = q := by rw [getD_set qs j q j (by omega), if_pos rfl]
    have HQJ := Lib.hid hqj
    have st2 := Lib.hid (show qs.length = n ∧ (∀ k, k < j + 1 → qs.getD k 0 = 0) ∧ pl p A = pl p qs * pl p C + pl p zs from ⟨st.lenq, st.zero, st.val⟩)
    clear hct b6 hHeld st fe oa cc HL2 oq hlq a1 a2 a3 a4 a5 hqj
    obtain ⟨wo, rfl⟩ : ∃ wo : World, wo = wr := ⟨_, rfl⟩
    go_wp2
    clear hcq hfq
    go_loopw [67] (fun kv wr => ∃ (k : Nat) (zk : List Nat), k ≤ C.length ∧ kv = .int .i64 k ∧ DivIn p w wr g ga ca gq gc A C zs zk (qs.set j q) n j q k) (fun kv _ => C.length - (intOf kv).toNat)
    case atStart => exact ⟨0, zs, by omega, rfl, s6⟩
    case round =>
     clear s6
     obtain ⟨k, zk, hk, rfl, s6⟩ := hrel
     by_cases hltk : k < C.length
     ·have hcy := s6.cs.cell k hltk
      rw [Nat.zero_add] at hcy
      obtain ⟨y, ey⟩ : ∃ y, y = C.getD k 0 := ⟨_, rfl⟩
      rw [← ey] at hcy
      have hjk : j + k < zk.length := by have := s6.len; have := HN.out; have := HI2.out; omega
      have hct := (s6.own.drawn (w' := wr.drew) ⟨1, rfl⟩).cellAt (j + k) hjk
      obtain ⟨t, et⟩ : ∃ t, t = zk.getD (j + k) 0 := ⟨_, rfl⟩
      rw [← et] at hct
      have hcq := (s6.ownq.drawn (w' := wr.drew) ⟨1, rfl⟩).cellAt j (by rw [List.length_set]; have := st2.out.1; have := HI2.out; omega)
      rw [HQJ.out] at hcq
      obtain ⟨m, em⟩ : ∃ m, m = (Zp.of p q * Zp.of p y).val := ⟨_, rfl⟩
      obtain ⟨z, ez⟩ : ∃ z, z = (Zp.of p t - Zp.of p m).val := ⟨_, rfl⟩
      have CM1 := Lib.hid (fun w => gfp_Mul p q y m w HP.out em)
      have CS := Lib.hid (fun w => gfp_Sub p t m z w HP.out ez)
      have ar := div_inner (z := z) (m := m) hjk s6.val ey (Zp.fact HP.out em).2 (by rw [← et]; exact (Zp.fact HP.out ez).2)
      have AR := Lib.hid ar
      have hij : ((j : Int) + (k : Int)).toNat = j + k := by omega
      have HJK := Lib.hid hij
      have HKL := Lib.hid hjk
      replace hct : wr.drew.cell? ⟨ga, ((j : Int) + (k : Int)).toNat, none⟩ = some (.int .u64 (t : Int)) := by rw [hij]; exact hct
      have HL2 := s6.lt
      have HL3 := s6.ltq
      have a1 : IntKind.i64.wrap ((j : Int) + (k : Int)) = (j : Int) + (k : Int) := IntWalk.i64_in _ ⟨by omega, by have := HN.out; have := HI2.out; omega⟩
      have a4 : (0 : Int) ≤ (j : Int) + (k : Int) := by omega
      have a5 : (j : Int) + (k : Int) < (A.length : Int) := by have := HN.out; have := HI2.out; omega
      have k0 : (0 : Int) ≤ (k : Int) := Int.natCast_nonneg _
      have k1 : (k : Int) < (C.length : Int) := by omega
      have fe := s6.fx.drew
      clear ey et em ez ar hij hjk
      go_upto_region 15 with (fail)
      clear hcy
      have z0 := Lib.hid fun (w : World) (hS : Below wr.drew.heap.size wr.drew w) => And.intro (fe.at hS) (And.intro ((hS.cell (p := ⟨ga, ((j : Int) + (k : Int)).toNat, none⟩) HL2).trans hct) ((hS.cell (p := ⟨gq, j, none⟩) HL3).trans hcq))
      refine startP (S := (fun w' => Below wr.drew.heap.size wr.drew w')) (by kernel_rfl) _ rfl rfl rfl (by kernel_rfl) (Below.refl _ _) (fun hHeld => ?_)
      refine tk 0 ?_
      refine tk 1 ?_
      refine tk 2 ?_
      refine tk 3 ?_
      refine tf 4 z0.out ?_
      refine tk 5 ?_
      refine tk 6 ?_
      refine tk 7 ?_
      refine tk 8 ?_
      refine tk 9 ?_
      refine tf 10 z0.out ?_
      refine tf 11 z0.out ?_
      refine tk 12 ?_
      refine tk 13 ?_
      refine tk 14 ?_
      refine tf 15 z0.out ?_
      refine tk 16 ?_
      refine on 17 fun K hK => ?_
      go_simp
      go_at_call 118
      refine (CM1.out _).mono ?_; rintro e w7 ⟨rfl, b7⟩
      refine hK.out _ _ (hHeld.trans (b7.mono hHeld.size)) (fun hHeld => ?_)
      clear hK K
      try simp only [Act.put, zq1, zq2, zq3]
      refine on 18 fun K hK => ?_
      go_simp
      go_at_call 136
      refine (CS.out _).mono ?_; rintro e w8 ⟨rfl, b8⟩
      refine hK.out _ _ (hHeld.trans (b8.mono hHeld.size)) (fun hHeld => ?_)
      clear hK K
      try simp only [Act.put, zq1, zq2, zq3]
      refine tk 19 ?_
      clear z0; refine doneL (by kernel_rfl) ?_ _
      refine lastL rfl (by rfl) ?_
      have oq := (s6.ownq.drawn (w' := wr.drew) ⟨1, rfl⟩).next hHeld
      have oa := (s6.own.drawn (w' := wr.drew) ⟨1, rfl⟩).next hHeld
      have cc := (s6.cs.drawn (w' := wr.drew) ⟨1, rfl⟩).below hHeld (Nat.le_refl _)
      have hc8 := oa.cellAt (j + k) HKL.out
      have hf8 := oa.frozenAt (j + k)
      rw [← HJK.out] at hc8 hf8
      have s8 : DivIn p w (w8.setCell ⟨ga, j + k, none⟩ (.int .u64 (z : Int))) g ga ca gq gc A C zs (zk.set (j + k) z) (qs.set j q) n j q (k + 1) :=
       ⟨(fe.next hHeld).set hga1' hgag _, (oa.store (j + k) z).1, oq.set_far (fun h => hgqa h.symm) _, by rw [List.length_set]; exact s6.len, by simpa [World.setCell] using Nat.lt_of_lt_of_le s6.lt hHeld.size, by simpa [World.setCell] using Nat.lt_of_lt_of_le s6.ltq hHeld.size,
        AR.out, cc.set_far hgac _⟩
      clear hct hcq b7 b8 hHeld s6 fe oa cc HL2 HL3 oq
      go_wp2
      go_roundw
      case rel => exact ⟨k + 1, _, by omega, by go_num, s8⟩
      case measure => simp [intOf] <;> omega
     ·obtain rfl : k = C.length := by omega
      have hv := s6.val
      rw [List.take_length] at hv
      have hqs := st2.out.1
      have hi2 := HI2.out
      have hjb : j ≤ 1000000000001 := by have := HN.out; omega
      have hD := HD.out
      rw [← hv] at hD
      have st3 : DivRel p w wr g ga ca gq gc A C zk (qs.set j q) n j :=
       ⟨s6.fx, s6.own, s6.ownq, s6.len, by rw [List.length_set]; exact hqs, s6.lt, s6.ltq, fun k hk => by rw [getD_set qs j q k (by omega), if_neg (by omega)]; exact st2.out.2.1 k (by omega),
        div_outer (by omega) (st2.out.2.1 j (by omega)) st2.out.2.2 hv, by rw [show j + C.length - 1 = j + l by have := HL.out; omega]; exact hD, s6.cs⟩
      clear hv hqs hD s6
      go_wp2
      go_roundw
      case rel => exact ⟨j, _, _, by have := HI2.out; omega, by go_num, st3⟩
      case measure => simp [intOf] <;> omega
   ·obtain rfl : i = 0 := by omega
    have fe := st.fx.drew
    have ownq := (st.ownq.drawn (w' := wr.drew) ⟨1, rfl⟩)
    have own := (st.own.drawn (w' := wr.drew) ⟨1, rfl⟩)
    have hz1 := st.len
    have hz2 := st.lenq
    have hn2 := HN.out
    have fin := Lib.hid (show pl p A = pl p qs * pl p C + pl p zs ∧ (pl p zs).dlt (C.length - 1) from ⟨st.val, by have := st.dlt; rwa [Nat.zero_add] at this⟩)
    clear st
    go_upto_region 17 with (fail)
    have z0 := Lib.hid fun (w : World) (hS : Below wr.drew.heap.size wr.drew w) => fe.at hS
    refine startL (S := (fun w' => Below wr.drew.heap.size wr.drew w')) (by kernel_rfl) (Below.refl _ _) (fun hHeld => ?_)
    refine tf 0 z0.out ?_
    refine tk 1 ?_
    refine tf 3 z0.out ?_
    refine tk 4 ?_
    refine on 2 fun K hK => ?_
    go_simp
    go_at_call 80
    refine (fp_Norm p _ qs _ HP.out (ownq.next hHeld).sl (by omega)).mono ?_; rintro e w6 ⟨r6, z6, rfl, o6, m6, v6, l6, b6⟩
    have V6 := Lib.hid v6; clear v6; replace o6 := o6.mono (Nat.le_trans fe.below.size hHeld.size)
    refine hK.out _ _ (hHeld.trans (b6.mono hHeld.size)) (fun hHeld => ?_)
    clear hK K
    try simp only [Act.put, zq1, zq2, zq3]
    refine on 5 fun K hK => ?_
    go_simp
    go_at_call 80
    refine (fp_Norm p _ zs _ HP.out (own.next hHeld).sl (by omega)).mono ?_; rintro e w7 ⟨r7, z7, rfl, o7, m7, v7, l7, b7⟩
    have V7 := Lib.hid v7; clear v7; replace o7 := o7.mono (Nat.le_trans fe.below.size hHeld.size); replace o6 := o6.next b7
    refine hK.out _ _ (hHeld.trans (b7.mono hHeld.size)) (fun hHeld => ?_)
    clear hK K
    try simp only [Act.put, zq1, zq2, zq3]
    refine tk 6 ?_
    refine tk 7 ?_
    refine tk 8 ?_
    clear z0; refine doneL (by kernel_rfl) ?_ _
    go_wp2
    refine bodyPost_ret (v := .tuple #[r6, r7, .bool true]) (by simp [results, Try.results88, go_sem]) rfl ⟨r6, r7, z6, z7, rfl, o6, o7, m6, m7, ?_, ?_, by omega, by omega, fe.below.trans (hHeld.mono fe.below.size)⟩
    ·rw [V6.out, V7.out, ← VA.out, ← VC.out]; exact fin.out.1
    ·rw [← HC.out]
     have : z7.length ≤ C.length - 1 := pl_len HP.out.pos m7 (by rw [V7.out]; exact fin.out.2)
     omega
end Go.Proofs.Ytkmfhabgempjiaa
/- The references of layer 9. -/
namespace Go.Proofs.Ytkmfhabgempjiaa
set_option maxHeartbeats 2000000
open Go.RowKit
theorem ap2 {P : Program} {ops : Array Oper} {o : Oper} {a : Act} {K : Act → World → Prop} {Q : Exit → Act → World → Prop} (k : IntKind) (T e bytes : Nat)
  (hu : P.underlying T = some (.slice e)) (hi : (P.info? e).map (fun i => (i.zero, i.size, i.bytes)) = some (some (.int k 0), 1, bytes)) (hby : bytes ≤ 8)
  (hgd : o.guard = none) (s x : Operand) (ho : o.op = .call { callee := .builtin .append, args := #[s, x], argTypes := #[T, T] })
  (w : World) (base : Nat) (v : Value) (xs : List Nat) (y : Nat) (yv : Int) (hy : yv = y) (hown : Own k e w base v xs) (hlen : xs.length ≤ 10000000000000) (hbase : base ≤ w.heap.size)
  (hs : a.eval s = v) (hx : a.eval x = .slice (some ⟨w.heap.size, 0, none⟩) 1 1)
  (h : ∀ (g cap : Nat) (w' : World), Own k e w' base (.slice (some ⟨g, 0, none⟩) (xs.length + 1) cap) (xs ++ [y]) → Below base w w' → K (a.put o.dst (.slice (some ⟨g, 0, none⟩) (xs.length + 1) cap)) w') :
  Oper.wp P o a (w.alloc (.cells #[.int k yv] e)) K Q := by
 have := step_app2 (P := P) (ops := ops) (o := o) (a := a) (K := K) (Q := Q) (E := True) k T e bytes hu hi hby hgd s x ho w base v xs y yv hy hown hlen hbase hs hx h
 rwa [if_pos (by unfold Region.wanted; rw [hgd])] at this
theorem map_take_succ {p : Nat} {xs : List Nat} {i : Nat} (hi : i < xs.length) : (xs.take (i + 1)).map (· % p) = (xs.take i).map (· % p) ++ [xs.getD i 0 % p] := by
 rw [take_snoc xs i hi, List.map_append]; rfl
theorem ref9_Norm (p : Nat) (v : Value) (xs : List Nat) (w : World) (hp : FP p) (hv : Sl .u64 w v xs) (hm : xs.length ≤ 2000000000000) :
  Calls Try.prog 43 #[v, .int .u64 p] w (RetP p w xs.length (pl p xs)) := by
 obtain ⟨ao, b, off, cap, rfl, hl, hcs⟩ := hv
 have h1 := hp.1
 have hz : ((p : Int) == 0) = false := by simpa using (show p ≠ 0 by omega)
 have hz1 : ¬ p = 0 := by omega
 have hz2 : ¬ (p : Int) = 0 := by omega
 have HP := Lib.hid hp; clear hp
 go_enter Try.func43, Try.ntmps43
 go_wp2
 go_loopw [5, 6] (fun ov iv wr => ∃ (i : Nat) (zs : List Nat), i ≤ xs.length ∧ iv = .int .i64 i ∧ Own .u64 27 wr w.heap.size ov zs ∧ Below w.heap.size w wr ∧ zs.length = i ∧ zs = (xs.take i).map (· % p)) (fun _ iv _ => xs.length - (intOf iv).toNat)
 case atStart => exact ⟨0, [], by omega, rfl, Own.nil _ _ _ _, Below.refl _ _, rfl, rfl⟩
 case round =>
  obtain ⟨i, zs, hi, rfl, ho, hb, hzl, hval⟩ := hrel
  have HV := Lib.hid hval; clear hval
  have HL := Lib.hid hzl; clear hzl
  by_cases hlt : i < xs.length
  ·obtain rfl := hcs.ao (by intro h; subst h; simp at hlt)
   have hcx := (hcs.below hb (Nat.le_refl _)).cell i hlt
   obtain ⟨x, ex⟩ : ∃ x, x = xs.getD i 0 := ⟨_, rfl⟩
   rw [← ex] at hcx
   have EX := Lib.hid ex; clear ex
   have i0 : (0 : Int) ≤ (i : Int) := Int.natCast_nonneg _
   have i1 : (i : Int) < (xs.length : Int) := by omega
   go_wp2_with (at_builtin; refine wp_app1 .u64 41 27 8 Try.underlying41 (by kernel_rfl) (by decide) rfl _ _ rfl wr w.heap.size _ zs (x % p) _ (by rfl) ho (by rw [HL.out]; omega) hb.size rfl rfl ?_; intro v' w1 hown' hbel' hgr' _)
   go_roundw
   case rel => exact ⟨i + 1, zs ++ [x % p], by omega, by go_num, hown', hb.trans hbel', by rw [List.length_append, HL.out]; rfl, by rw [map_take_succ hlt, ← EX.out, HV.out]⟩
   case measure => simp [intOf] <;> omega
  ·obtain rfl : i = xs.length := by omega
   have hzs : zs = xs.map (· % p) := by have := HV.out; rwa [List.take_length] at this
   have HZS := Lib.hid hzs
   have hm' : zs.length ≤ 2000000000000 := by have := HL.out; omega
   clear hzs
   obtain ⟨ao', b', off', cap', rfl, hl', hcs'⟩ := ho.sl
   go_wp2
   go_loop [5] (fun ov => ∃ k : Nat, k ≤ zs.length ∧ ov = .slice ao' k cap' ∧ tr zs = tr (zs.take k)) (fun ov => (match ov with | .slice _ n _ => n | _ => 0))
   case atStart => exact ⟨zs.length, Nat.le_refl _, rfl, by rw [List.take_length]⟩
   case round =>
    obtain ⟨k, hk, rfl, ht⟩ := hrel
    have HT := Lib.hid ht; clear ht
    by_cases h0 : 0 < k
    ·obtain ⟨q, rfl⟩ : ∃ q, k = q + 1 := ⟨k - 1, by omega⟩
     obtain rfl := hcs'.ao (by intro h; subst h; simp at hk)
     have hcx := hcs'.cell q (by omega)
     obtain ⟨y, ey⟩ : ∃ y, y = zs.getD q 0 := ⟨_, rfl⟩
     rw [← ey] at hcx
     have hts : zs.take (q + 1) = zs.take q ++ [y] := by rw [ey]; exact take_snoc zs q (by omega)
     have HS := Lib.hid hts; clear hts ey
     by_cases hy : y = 0
     ·subst hy
      go_wp2
      go_round
      case rel => exact ⟨q, by omega, by go_num, by rw [HT.out, HS.out, tr_snoc0]⟩
      case measure => simp
     ·have hy' : (((y : Nat) : Int) == 0) = false := by simpa using hy
      go_wp2
      go_ret
      have e : tr zs = zs.take (q + 1) := by rw [HT.out, HS.out, tr_snoc _ _ hy]
      refine ⟨_, tr zs, rfl, by rw [e]; exact ho.take' (q + 1) hk, ?_, ?_, ?_, hb⟩
      ·rw [HZS.out]; exact nl_nrm HP.out.pos xs
      ·rw [pl_tr, HZS.out, pl_map_mod]
      ·have := tr_len zs; rw [HL.out] at this; exact this
    ·obtain rfl : k = 0 := by omega
     go_wp2
     go_ret
     have e : tr zs = [] := by rw [HT.out]; rfl
     refine ⟨_, tr zs, rfl, by rw [e]; exact ho.take' 0 hk, ?_, ?_, ?_, hb⟩
     ·rw [HZS.out]; exact nl_nrm HP.out.pos xs
     ·rw [pl_tr, HZS.out, pl_map_mod]
     ·have := tr_len zs; rw [HL.out] at this; exact this
theorem ref9_Monic (v : Value) (xs : List Nat) (β : Bool) (w : World) (hv : Sl .u64 w v xs) (hm : xs.length ≤ 1000000000000) (hβ : β = decide (xs = [] ∨ xs.getD (xs.length - 1) 0 = 1)) :
  Calls Try.prog 36 #[v] w fun e w' => e = .returned (.bool β) ∧ w = w' := by
 obtain ⟨ao, b, off, cap, rfl, hl, hcs⟩ := hv
 by_cases h0 : xs.length = 0
 ·obtain rfl : xs = [] := List.length_eq_zero_iff.mp h0
  obtain rfl : β = true := by rw [hβ]; exact decide_eq_true (Or.inl rfl)
  clear hβ h0
  go_enter Try.func36, Try.ntmps36
  go_wp2
  go_ret
  exact ⟨rfl, rfl⟩
 ·obtain ⟨j, hj⟩ : ∃ j, xs.length = j + 1 := ⟨xs.length - 1, by omega⟩
  have hcx := hcs.cell j (by omega)
  obtain rfl := hcs.ao (by intro h; subst h; simp at h0)
  have hz : ((xs.length : Int) == 0) = false := beq_eq_false_iff_ne.mpr (by omega)
  have s1 : IntKind.i64.wrap (j : Int) = (j : Int) := IntWalk.i64_in _ ⟨by omega, by omega⟩
  have s2 : (xs.length : Int) - 1 = (j : Int) := by omega
  have s3 : (j : Int) < (xs.length : Int) := by omega
  rw [show xs.length - 1 = j by omega] at hβ
  obtain ⟨x, ex⟩ : ∃ x, x = xs.getD j 0 := ⟨_, rfl⟩
  rw [← ex] at hcx hβ
  have hne : xs ≠ [] := by intro h; subst h; simp at h0
  clear ex h0 hj
  have i0 : (0 : Int) ≤ (j : Int) := Int.natCast_nonneg _
  by_cases hx : x = 1
  ·obtain rfl : β = true := by rw [hβ]; exact decide_eq_true (Or.inr hx)
   subst hx
   clear hβ hne
   go_enter Try.func36, Try.ntmps36
   go_wp2
   go_ret
   exact ⟨rfl, rfl⟩
  ·obtain rfl : β = false := by rw [hβ]; exact decide_eq_false (by rintro (h | h); exact hne h; exact hx h)
   have hx1 : ((x : Int) == 1) = false := beq_eq_false_iff_ne.mpr (by omega)
   clear hβ hne hx
   go_enter Try.func36, Try.ntmps36
   go_wp2
   go_ret
   exact ⟨rfl, rfl⟩
end Go.Proofs.Ytkmfhabgempjiaa
/- The references of layer 9: Mul; is; divides. -/
namespace Go.Proofs.Ytkmfhabgempjiaa
set_option maxHeartbeats 2000000
open Go.RowKit
theorem mul_dlt {R : Type} [CR R] {f g : Pol R} {a b : Nat} (hf : f.dlt a) (hg : g.dlt b) : (f * g).dlt (a + b) := by
 intro n hn
 rw [Pol.c_mul]
 refine sm_zero' fun j hj => ?_
 by_cases h : a ≤ j
 ·rw [hf j h, CR.zero_mul]
 ·rw [hg (n - j) (by omega), CR.mul_zero]
end Go.Proofs.Ytkmfhabgempjiaa
/- fmat.made: a matrix, place by place. -/
namespace Go.Proofs.Ytkmfhabgempjiaa
set_option maxHeartbeats 2000000
open Go.RowKit
def RetFm (p : Nat) (w : World) (r c : Nat) (M : MT (Zp p) r c) (e : Ending) (w' : World) : Prop :=
 ∃ ao k, e = .returned (.agg #[.int .i64 r, .int .i64 c, .slice ao (tbv M).length k]) ∧ Own .u64 27 w' w.heap.size (.slice ao (tbv M).length k) (tbv M) ∧ Below w.heap.size w w'
theorem Own.sliced {k : IntKind} {e : TypeId} {w : World} {base : Nat} {v : Value} {xs : List Nat} (h : Own k e w base v xs) : ∃ ao c, v = .slice ao xs.length c := by
 rcases h.shape with ⟨rfl, rfl⟩ | ⟨g, cap, rfl, -⟩
 ·exact ⟨none, 0, rfl⟩
 ·exact ⟨_, _, rfl⟩
def MdR (p : Nat) (w wr : World) (r c : Nat) (T : Nat → Nat → Nat) (g n : Nat) : Prop := ∃ ao m k, Blk 63 wr (g + 1 + 1) [.int .i64 r, .int .i64 c, .slice ao m k] ∧ Blk 63 wr (g + 1) [.int .i64 0, .int .i64 0, .slice none 0 0] ∧
 Blk 29 wr g [.int .u64 p] ∧ Own .u64 27 wr (g + 1 + 1 + 1) (.slice ao m k) (ftab c (fun i k => T i k % p) n) ∧ Below w.heap.size w wr
set_option maxRecDepth 20000 in
theorem fm_made (p r c : Nat) (hp : FP p) (hr : r ≤ 128) (hc : c ≤ 128) (fn : Nat) (hE : Enters Try.prog fn) (caps : List Value) (T : Nat → Nat → Nat) (w : World)
  (hf : ∀ (i k : Nat) (w' : World), i < r → k < c → Below w.heap.size w w' → Calls Try.prog fn (.int .i64 i :: .int .i64 k :: caps).toArray w' (RetW w' (.int .u64 (T i k)))) :
  Calls Try.prog 107 #[.agg #[.int .u64 p], .int .i64 r, .int .i64 c, .func (.func fn) #[] caps.toArray] w (RetFm p w r c (MT.of r c fun i k => Zp.of p (T i k))) := by
 have hT : ∀ n, n = r * c → ftab c (fun i k => T i k % p) n = tbv (MT.of r c fun i k => Zp.of p (T i k)) := fun n hn => by
  rw [hn]; exact tbv_of _ _ fun i k _ _ => Zp.mod_is hp _ rfl
 obtain ⟨M, eM⟩ : ∃ M, M = MT.of r c fun i k => Zp.of p (T i k) := ⟨_, rfl⟩
 rw [← eM] at hT ⊢
 have HT := Lib.hid hT; clear hT eM
 have HF := Lib.hid hf; clear hf
 have HP := Lib.hid hp; clear hp
 obtain ⟨wb, ew, K0, K1, K2, B0, hsz⟩ := boxes3 w 29 63 63 [.int .u64 p] [.int .i64 0, .int .i64 0, .slice none 0 0] [.int .i64 r, .int .i64 c, .slice none 0 0]
 clear hsz
 go_enter Try.func107, Try.ntmps107
 go_upto_region 2 with (fail)
 rw [← ew]
 obtain ⟨g, eg⟩ : ∃ g, g = w.heap.size := ⟨_, rfl⟩
 rw [← eg] at K0 K1 K2 ⊢
 have hgw : w.heap.size ≤ g := by omega
 clear eg ew
 have st : MdR p w wb r c T g 0 := ⟨_, _, _, K2, K1, K0, Own.nil _ _ _ _, B0⟩
 clear K0 K1 K2 B0
 go_wp2
 go_loopw [16] (fun iv wr => ∃ i : Nat, i ≤ r ∧ iv = .int .i64 i ∧ MdR p w wr r c T g (i * c)) (fun iv _ => r - (intOf iv).toNat)
 case atStart => exact ⟨0, by omega, rfl, by rw [Nat.zero_mul]; exact st⟩
 case round =>
  clear st wb
  obtain ⟨i, hi, rfl, st⟩ := hrel
  by_cases hir : i < r
  ·obtain ⟨wo, rfl⟩ : ∃ wo : World, wo = wr := ⟨_, rfl⟩
   go_wp2
   go_loopw [20] (fun kv wr => ∃ k : Nat, k ≤ c ∧ kv = .int .i64 k ∧ MdR p w wr r c T g (i * c + k)) (fun kv _ => c - (intOf kv).toNat)
   case atStart => exact ⟨0, by omega, rfl, by rw [Nat.add_zero]; exact st⟩
   case round =>
    clear st
    obtain ⟨k, hk, rfl, st⟩ := hrel
    by_cases hkc : k < c
    ·obtain ⟨ao, m, kc, K2, K1, K0, ho, B0⟩ := st
     go_upto_region 8 with (fail)
     have bd := dw wr
     replace K2 := K2.next bd; replace K1 := K1.next bd; replace K0 := K0.next bd; replace ho := ho.next bd
     replace B0 := B0.trans (bd.mono B0.size)
     have hgx : g + 1 + 1 + 1 ≤ wr.drew.heap.size := by have := K2.lt; omega
     have hik : i * c ≤ 128 * 128 := Nat.mul_le_mul (by omega) hc
     have HA := Lib.hid (ftab_at (i := i) (k := k) (fun i k => T i k % p) hkc)
     have hgw3 : w.heap.size ≤ g + 1 + 1 + 1 := by omega
     clear bd
     have z0 := Lib.hid fun (w : World) (hS : Below (g + 1 + 1 + 1) wr.drew w) => And.intro (((K2.below hS (Nat.lt_succ_self _)).cell) 2) (((K0.below hS (by omega)).cell) 0)
     refine startP (S := (fun w' => Below (g + 1 + 1 + 1) wr.drew w')) (by kernel_rfl) _ rfl rfl rfl (by kernel_rfl) (Below.refl _ _) (fun hHeld => ?_)
     refine tk 0 ?_
     refine tf 1 z0.out ?_
     refine tf 2 z0.out ?_
     refine tk 3 ?_
     refine tk 4 ?_
     refine tk 5 ?_
     refine on 6 fun K hK => ?_
     go_simp
     rw [hE]
     refine (HF.out i k _ hir hkc B0).mono ?_; rintro e w1 ⟨rfl, b1⟩
     refine hK.out _ _ (hHeld.trans (b1.mono (Nat.le_trans hgx hHeld.size))) (fun hHeld => ?_)
     clear hK K
     try simp only [Act.put, zq1, zq2, zq3]
     refine on 7 fun K hK => ?_
     go_simp
     go_at_call 134
     (with_reducible refine (gfp_Norm p _ _ HP.out).mono ?_); rintro e w2 ⟨rfl, b2⟩
     refine hK.out _ _ (hHeld.trans (b2.mono (Nat.le_trans hgx hHeld.size))) (fun hHeld => ?_)
     clear hK K
     try simp only [Act.put, zq1, zq2, zq3]
     refine on 8 fun K hK => ?_
     go_simp
     have hd := hHeld
     refine hK.out _ _ (hHeld.alloc (Nat.le_trans hgx hHeld.size) _) (fun hHeld => ?_)
     clear hK K
     try simp only [Act.put, zq1, zq2, zq3]
     refine on 9 fun K hK => ?_
     refine ap2 (ops := #[]) .u64 41 27 8 Try.underlying41 (by kernel_rfl) (by decide) rfl _ _ rfl w2 (g + 1 + 1 + 1) (.slice ao m kc) (ftab c (fun i k => T i k % p) (i * c + k)) (T i k % p) _ (by rfl) ((ho.next b1).next b2) (by rw [ftab_length]; omega) (Nat.le_trans hgx hd.size) rfl rfl ?_
     intro gg cap1 w5 hown' hbel'
     refine hK.out _ _ (hd.trans hbel') (fun hHeld => ?_)
     clear hK K
     try simp only [Act.put, zq1, zq2, zq3]
     refine tk 10 ?_
     clear z0; refine doneL (by kernel_rfl) ?_ _
     refine lastL rfl (by rfl) ?_
     clear ho hd hbel'
     have K2 := K2.below hHeld (Nat.lt_succ_self _)
     have K1 := K1.below hHeld (by omega)
     have K0 := K0.below hHeld (by omega)
     have B0 := B0.trans (hHeld.mono (by omega))
     have f2 := K2.free 2
     have c2 := K2.cell 2
     have hl2 := ftab_length c (fun i k => T i k % p) (i * c + k)
     have K2' := K2.set 2 (.slice (some ⟨gg, 0, none⟩) ((ftab c (fun i k => T i k % p) (i * c + k)).length + 1) cap1)
     have K1' := K1.far (a := ⟨g + 1 + 1, 2, none⟩) (by simp) (.slice (some ⟨gg, 0, none⟩) ((ftab c (fun i k => T i k % p) (i * c + k)).length + 1) cap1)
     have K0' := K0.far (a := ⟨g + 1 + 1, 2, none⟩) (by simp; omega) (.slice (some ⟨gg, 0, none⟩) ((ftab c (fun i k => T i k % p) (i * c + k)).length + 1) cap1)
     have ho' := hown'.low (a := ⟨g + 1 + 1, 2, none⟩) (Nat.lt_succ_self _) (.slice (some ⟨gg, 0, none⟩) ((ftab c (fun i k => T i k % p) (i * c + k)).length + 1) cap1)
     have B0' := B0.setCell (p := ⟨g + 1 + 1, 2, none⟩) (show w.heap.size ≤ g + 1 + 1 by omega) (.slice (some ⟨gg, 0, none⟩) ((ftab c (fun i k => T i k % p) (i * c + k)).length + 1) cap1)
     rw [← HA.out] at ho'
     clear K2 K1 K0 hown' B0 hHeld hl2
     have K2' := Lib.hid K2'
     have K1' := Lib.hid K1'
     have K0' := Lib.hid K0'
     have ho' := Lib.hid ho'
     have B0' := Lib.hid B0'
     go_wp2
     go_roundw
     case rel => exact ⟨k + 1, by omega, by go_num, _, _, _, K2'.out, K1'.out, K0'.out, ho'.out, B0'.out⟩
     case measure => simp [intOf] <;> omega
    ·obtain rfl : k = c := by omega
     go_wp2
     go_roundw
     case rel => exact ⟨i + 1, by omega, by go_num, by rw [Nat.succ_mul]; exact st⟩
     case measure => simp [intOf] <;> omega
  ·obtain rfl : i = r := by omega
   obtain ⟨ao, m, kc, K2, K1, K0, ho, B0⟩ := st
   rw [HT.out _ rfl] at ho
   obtain ⟨ao', c', e'⟩ := ho.sliced
   simp only [Value.slice.injEq] at e'
   obtain ⟨rfl, rfl, rfl⟩ := e'
   have c0 := K2.cell 0; have c1 := K2.cell 1; have c2 := K2.cell 2
   have e0 := K1.cell 0; have e1 := K1.cell 1; have e2 := K1.cell 2
   have f0 := K1.free 0; have f1 := K1.free 1; have f2 := K1.free 2
   have KF := ((K1.set 0 (.int .i64 i)).set 1 (.int .i64 c)).set 2 (.slice ao (tbv M).length kc)
   have d0 := KF.cell 0; have d1 := KF.cell 1; have d2 := KF.cell 2
   have hlt : g + 1 < g + 1 + 1 + 1 := by omega
   have hof := ((ho.low (a := ⟨g + 1, 0, none⟩) hlt (.int .i64 i)).low (a := ⟨g + 1, 1, none⟩) hlt (.int .i64 c)).low (a := ⟨g + 1, 2, none⟩) hlt (.slice ao (tbv M).length kc)
   have hgw2 : w.heap.size ≤ g + 1 := by omega
   have BF := ((B0.setCell (p := ⟨g + 1, 0, none⟩) hgw2 (.int .i64 i)).setCell (p := ⟨g + 1, 1, none⟩) hgw2 (.int .i64 c)).setCell (p := ⟨g + 1, 2, none⟩) hgw2 (.slice ao (tbv M).length kc)
   have FR := Lib.hid (show RetFm p w i c M (.returned (.agg #[.int .i64 i, .int .i64 c, .slice ao (tbv M).length kc])) (((wr.setCell ⟨g + 1, 0, none⟩ (.int .i64 i)).setCell ⟨g + 1, 1, none⟩ (.int .i64 c)).setCell ⟨g + 1, 2, none⟩ (.slice ao (tbv M).length kc)) from ⟨_, _, rfl, hof.mono (by omega), BF⟩)
   clear KF K1 K2 K0 hof BF ho B0
   go_wp2
   exact bodyPost_ret (v := .agg #[.int .i64 i, .int .i64 c, .slice ao (tbv M).length kc]) (by simp [results, Try.results107, go_sem, d0, d1, d2]) rfl FR.out
end Go.Proofs.Ytkmfhabgempjiaa
/- Package fmat: the functions that give a matrix's places. -/
namespace Go.Proofs.Ytkmfhabgempjiaa
set_option maxHeartbeats 2000000
open Go.RowKit
theorem mt_val {p r c : Nat} (M : MT (Zp p) r c) : (MT.of r c fun i k => Zp.of p (M.e i k).val) = M := MT.ext fun i k hi hk => by rw [MT.of_e _ hi hk, Zp.of_val]
def dotp (p : Nat) (xs ys : List Nat) (m c i k j : Nat) : Zp p := sm j fun t => Zp.of p (xs.getD (i * m + t) 0) * Zp.of p (ys.getD (t * c + k) 0)
theorem dotp_succ (p : Nat) (xs ys : List Nat) (m c i k j : Nat) : dotp p xs ys m c i k (j + 1) = dotp p xs ys m c i k j + Zp.of p (xs.getD (i * m + j) 0) * Zp.of p (ys.getD (j * c + k) 0) := rfl
theorem fm_Mul1 (p i k : Nat) (w : World) (hp : FP p) (hi : i ≤ 100000) (hk : k ≤ 100000) (R1 R2 : Int) (m c : Nat) (xs ys : List Nat) (gF : Nat) (KF : Blk 29 w gF [.int .u64 p])
  (gA : Nat) (aA : Option Addr) (cA : Nat) (KA : Blk 63 w gA [.int .i64 R1, .int .i64 m, .slice aA xs.length cA]) (hA : Fm w (.agg #[.int .i64 R1, .int .i64 m, .slice aA xs.length cA]) R1 m xs)
  (gB : Nat) (aB : Option Addr) (cB : Nat) (KB : Blk 63 w gB [.int .i64 R2, .int .i64 c, .slice aB ys.length cB]) (hB : Fm w (.agg #[.int .i64 R2, .int .i64 c, .slice aB ys.length cB]) R2 c ys)
  (hm : m ≤ 64) (hc : c ≤ 100000) (hx : ∀ j, j < m → i * m + j < xs.length) (hy : ∀ j, j < m → j * c + k < ys.length) (z : Nat) (hz : z = (dotp p xs ys m c i k m).val) :
  Calls Try.prog 149 #[.int .i64 i, .int .i64 k, .pointer (some ⟨gA, 0, none⟩), .pointer (some ⟨gF, 0, none⟩), .pointer (some ⟨gB, 0, none⟩)] w (RetW w (.int .u64 (z : Nat))) := by
 have HP := Lib.hid hp; clear hp
 have HZ := Lib.hid hz; clear hz
 have HX := Lib.hid hx; have HY := Lib.hid hy; clear hx hy
 have B0 : Below w.heap.size w w := Below.refl _ _
 have a1 := KA.cell 1
 go_enter Try.func149, Try.ntmps149
 go_wp2
 clear a1
 go_loopw [12, 8] (fun jv xv wr => ∃ j : Nat, j ≤ m ∧ jv = .int .i64 j ∧ xv = .int .u64 ((dotp p xs ys m c i k j).val : Nat) ∧ Below w.heap.size w wr) (fun jv _ _ => m - (intOf jv).toNat)
 case atStart => exact ⟨0, by omega, rfl, rfl, B0⟩
 case round =>
  clear B0
  obtain ⟨j, hj, rfl, rfl, B0⟩ := hrel
  by_cases hjm : j < m
  ·have hxj := HX.out j hjm
   have hyj := HY.out j hjm
   obtain ⟨x, ex⟩ : ∃ x, x = (dotp p xs ys m c i k j).val := ⟨_, rfl⟩
   obtain ⟨u, eu⟩ : ∃ u, u = xs.getD (i * m + j) 0 := ⟨_, rfl⟩
   obtain ⟨v, ev⟩ : ∃ v, v = ys.getD (j * c + k) 0 := ⟨_, rfl⟩
   obtain ⟨y, ey⟩ : ∃ y, y = (Zp.of p u * Zp.of p v).val := ⟨_, rfl⟩
   obtain ⟨x', ex'⟩ : ∃ x', x' = (dotp p xs ys m c i k (j + 1)).val := ⟨_, rfl⟩
   have hs : x' = (Zp.of p x + Zp.of p y).val := by rw [ex', dotp_succ, ex, ey, Zp.of_val, Zp.of_val, eu, ev]
   rw [← ex]
   have HS := Lib.hid hs; have EX := Lib.hid ex'; have EY := Lib.hid ey; have UU := Lib.hid eu; have VV := Lib.hid ev
   clear hs ex' ex ey eu ev
   go_upto_region 5 with (fail)
   replace B0 := B0.trans (Drawn.below (w' := wr.drew) ⟨1, rfl⟩ _)
   have kA := KA.next B0; have kB := KB.next B0; have kF := KF.next B0
   have hA' := hA.next B0; have hB' := hB.next B0
   have z0 := Lib.hid fun (w : World) (hS : Below (wr.drew).heap.size (wr.drew) w) => And.intro ((kA.at hS) 0) (And.intro ((kA.at hS) 1) (And.intro ((kA.at hS) 2) (And.intro ((kB.at hS) 0) (And.intro ((kB.at hS) 1) (And.intro ((kB.at hS) 2) ((kF.at hS) 0))))))
   refine startL (S := (fun w' => Below (wr.drew).heap.size (wr.drew) w')) (by kernel_rfl) (Below.refl _ _) (fun hHeld => ?_)
   refine tf 0 z0.out ?_
   refine tk 1 ?_
   refine tf 2 z0.out ?_
   refine tf 3 z0.out ?_
   refine tk 4 ?_
   refine tk 5 ?_
   refine tf 7 z0.out ?_
   refine tk 8 ?_
   refine tk 9 ?_
   refine on 6 fun K hK => ?_
   go_simp
   go_at_call 150
   (with_reducible refine (fm_get _ R1 m i j xs _ (hA'.next hHeld) (by omega) (by omega) (by omega) hxj u UU.out).mono ?_); rintro e w2 ⟨rfl, b2⟩
   refine hK.out _ _ (hHeld.trans (b2.mono hHeld.size)) (fun hHeld => ?_)
   clear hK K
   try simp only [Act.put, zq1, zq2, zq3]
   refine on 10 fun K hK => ?_
   go_simp
   go_at_call 150
   (with_reducible refine (fm_get _ R2 c j k ys _ (hB'.next hHeld) (by omega) (by omega) (by omega) hyj v VV.out).mono ?_); rintro e w3 ⟨rfl, b3⟩
   refine hK.out _ _ (hHeld.trans (b3.mono hHeld.size)) (fun hHeld => ?_)
   clear hK K
   try simp only [Act.put, zq1, zq2, zq3]
   refine on 11 fun K hK => ?_
   go_simp
   go_at_call 118
   (with_reducible refine (gfp_Mul p _ _ y _ HP.out EY.out).mono ?_); rintro e w4 ⟨rfl, b4⟩
   refine hK.out _ _ (hHeld.trans (b4.mono hHeld.size)) (fun hHeld => ?_)
   clear hK K
   try simp only [Act.put, zq1, zq2, zq3]
   refine on 12 fun K hK => ?_
   go_simp
   go_at_call 117
   (with_reducible refine (gfp_Add p _ _ x' _ HP.out HS.out).mono ?_); rintro e w5 ⟨rfl, b5⟩
   refine hK.out _ _ (hHeld.trans (b5.mono hHeld.size)) (fun hHeld => ?_)
   clear hK K
   try simp only [Act.put, zq1, zq2, zq3]
   refine tk 13 ?_
   clear z0; refine doneL (by kernel_rfl) ?_ _
   replace B0 := B0.trans (hHeld.mono B0.size)
   clear hHeld b2 b3 b4 b5 kA kB kF hA' hB'
   go_wp2
   go_roundw
   case rel => exact ⟨j + 1, by omega, by go_num, by rw [EX.out], B0⟩
   case measure => simp [intOf] <;> omega
  ·obtain rfl : j = m := by omega
   have hzz : ((z : Nat) : Int) = ((dotp p xs ys j c i k j).val : Nat) := by rw [HZ.out]
   rw [← hzz]
   clear hzz
   go_wp2
   go_ret
   exact ⟨rfl, B0⟩
end Go.Proofs.Ytkmfhabgempjiaa
