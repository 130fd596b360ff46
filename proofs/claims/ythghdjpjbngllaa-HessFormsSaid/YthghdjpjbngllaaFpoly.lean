/- Package fpoly: Norm. -/
import Derived.Test.YthghdjpjbngllaaFld3
import Derived.Test.YthghdjpjbngllaaStep
namespace Go.Proofs.Ythghdjpjbngllaa
open Go.RowKit

theorem set_far (w : World) (a : Addr) (v : Value) (p : Addr) (h : p.block ≠ a.block) : (w.setCell a v).cell? p = w.cell? p :=
  World.cell?_of_block (w := w) (Below.heap_setCell w a v p.block h)

theorem Box.set {w w1 : World} {g : Nat} (h : Box w w1 g) {a : Addr} (ha : w.heap.size ≤ a.block) (v : Value) : Box w (w1.setCell a v) g :=
  ⟨by rw [show (w1.setCell a v).heap.size = w1.heap.size by simp [World.setCell]]; exact h.lt, h.below.setCell ha v⟩

/-- A normal polynomial is returned. -/
def RetP (p : Nat) (w : World) (L : Nat) (f : Pol (Zp p)) (e : Ending) (w' : World) : Prop :=
  ∃ r zs, e = .returned r ∧ Own .u64 27 w' w.heap.size r zs ∧ Nrm p zs ∧ pl p zs = f ∧ zs.length ≤ L ∧ Below w.heap.size w w'

/-- The rests of the first elements, and noughts. -/
def modTake (p : Nat) (xs : List Nat) (k i : Nat) : List Nat := (xs.take i).map (· % p) ++ List.replicate (k - i) 0

theorem modTake_len (p : Nat) (xs : List Nat) (k i : Nat) (hi : i ≤ k) (hk : k ≤ xs.length) : (modTake p xs k i).length = k := by
  simp [modTake]; omega

theorem modTake_set (p : Nat) (xs : List Nat) (k i : Nat) (hi : i < k) (hk : k ≤ xs.length) : (modTake p xs k i).set i (xs.getD i 0 % p) = modTake p xs k (i + 1) := by
  have hl : ((xs.take i).map (· % p)).length = i := by simp; omega
  unfold modTake
  rw [show k - i = (k - (i + 1)) + 1 by omega, List.replicate_succ, List.set_append_right _ _ (by omega), hl, Nat.sub_self, List.set_cons_zero, take_snoc xs i (by omega), List.map_append]
  simp

theorem norm_end {p : Nat} {xs : List Nat} {k : Nat} (hp : 0 < p) (hk : k ≤ xs.length) (h0 : 0 < k) (hl : ¬ xs.getD (k - 1) 0 % p = 0) (hpl : pl p (xs.take k) = pl p xs) :
    Nrm p (modTake p xs k k) ∧ pl p (modTake p xs k k) = pl p xs := by
  have e : modTake p xs k k = (xs.take k).map (· % p) := by simp [modTake]
  rw [e]
  refine ⟨⟨?_, ?_⟩, by rw [pl_map_mod, hpl]⟩
  · intro x hx
    obtain ⟨y, _, rfl⟩ := List.mem_map.1 hx
    exact Nat.mod_lt _ hp
  · obtain ⟨j, rfl⟩ : ∃ j, k = j + 1 := ⟨k - 1, by omega⟩
    rw [take_snoc xs j (by omega), List.map_append, List.map_singleton]
    exact tr_snoc _ _ hl

theorem norm_step {p : Nat} {xs : List Nat} {k : Nat} (hp : 0 < p) (h0 : 0 < k) (hl : xs.getD (k - 1) 0 % p = 0) (hpl : pl p (xs.take k) = pl p xs) : pl p (xs.take (k - 1)) = pl p xs := by
  obtain ⟨j, rfl⟩ : ∃ j, k = j + 1 := ⟨k - 1, by omega⟩
  rw [pl_take_succ] at hpl
  simp only [Nat.add_sub_cancel] at hl ⊢
  rw [(Zp.of_eq_zero hp).mpr hl, mon_zero, CR.add_zero] at hpl
  exact hpl

set_option maxHeartbeats 1000000 in
theorem fp_Norm (p : Nat) (v : Value) (xs : List Nat) (w : World) (hp : FP p) (hv : Sl .u64 w v xs) (hm : xs.length ≤ 100000000) :
    Calls Try.prog 80 #[.agg #[.int .u64 p], v] w (RetP p w xs.length (pl p xs)) := by
  obtain ⟨ao, b, off, cap, rfl, hl, hcs⟩ := hv
  have B : Below w.heap.size w (w.alloc (.cells #[.int .u64 p] 29)) := (Below.refl _ _).alloc (Nat.le_refl _) _
  have hcp : (w.alloc (.cells #[.int .u64 p] 29)).cell? ⟨w.heap.size, 0, none⟩ = some (.int .u64 p) := (World.ownsRow_lit w #[.int .u64 p] 1 (Nat.le_refl _) (by unfold maxLen; omega) rfl : Own .u64 29 (w.alloc (.cells #[.int .u64 p] 29)) w.heap.size (.slice (some ⟨w.heap.size, 0, none⟩) 1 1) [p]).cellAt 0 (by simp)
  have hg : w.heap.size < (w.alloc (.cells #[.int .u64 p] 29)).heap.size := by simp
  have HP := Lib.hid hp; clear hp
  go_enter Try.func80, Try.ntmps80
  go_wp2_with fail
  generalize w.alloc (.cells #[.int .u64 p] 29) = wb at *
  obtain ⟨g, eg⟩ : ∃ g, g = w.heap.size := ⟨_, rfl⟩
  rw [← eg] at hcp hg ⊢
  have hgw : w.heap.size ≤ g := by omega
  clear eg
  have hbx : Box w wb g := ⟨hg, B⟩
  clear hg B
  go_loopw [5] (fun kv wr => ∃ k : Nat, k ≤ xs.length ∧ kv = .int .i64 k ∧ Box w wr g ∧ wr.cell? ⟨g, 0, none⟩ = some (.int .u64 p) ∧ pl p (xs.take k) = pl p xs) (fun kv _ => (intOf kv).toNat)
  case atStart => exact ⟨xs.length, Nat.le_refl _, rfl, hbx, hcp, by rw [List.take_length]⟩
  case round =>
    clear hbx hcp
    obtain ⟨k, hk, rfl, hbx, hcp, hpl⟩ := hrel
    have HPL := Lib.hid hpl; clear hpl
    by_cases h0 : 0 < k
    · obtain rfl := hcs.ao (by intro h; subst h; simp at hk; omega)
      obtain ⟨q, rfl⟩ : ∃ q, k = q + 1 := ⟨k - 1, by omega⟩
      have hcx := (hcs.below hbx.below (Nat.le_refl _)).cell q (by omega)
      have s1 : IntKind.i64.wrap (q : Int) = (q : Int) := by rw [IntWalk.i64_in _ ⟨by omega, by omega⟩]
      have s2 : IntKind.i64.wrap ((q : Int) + 1 - 1) = (q : Int) := by rw [IntWalk.i64_in _ ⟨by omega, by omega⟩] <;> omega
      have s3 : (0 : Int) < (q : Int) + 1 := by omega
      have i0 : (0 : Int) ≤ (q : Int) := Int.natCast_nonneg _
      have i1 : (q : Int) < (xs.length : Int) := by omega
      have hbw : b < w.heap.size := hcs.lt (by intro h; subst h; simp at hk)
      obtain ⟨x, ex⟩ : ∃ x, x = xs.getD q 0 := ⟨_, rfl⟩
      rw [← ex] at hcx
      obtain ⟨m, em⟩ : ∃ m, m = x % p := ⟨_, rfl⟩
      have c1 := fun w => gfp_Norm p x w HP.out
      rw [← em] at c1
      have C1 := Lib.hid c1; clear c1
      have EX := Lib.hid ex; clear ex
      have EM := Lib.hid em; clear em
      have hbn : b ≠ g := by omega
      have hbs := hbx.below.size
      by_cases hm0 : m = 0
      · subst hm0
        go_wp2
        go_region_held3 (fun w' => w'.cell? ⟨g, 0, none⟩ = some (.int .u64 (p : Int)) ∧ w'.cell? ⟨b, off + q, none⟩ = some (.int .u64 (x : Int)) ∧ Box w w' g) (first | (exact ⟨hcp, hcx, hbx.drew 1⟩) | (go_split_ands; refine ⟨(bn.cell (p := ⟨g, 0, none⟩) (Box.lt (by assumption))).trans (by assumption), (bn.cell (p := ⟨b, off + q, none⟩) (Nat.lt_of_lt_of_le hbw hbs)).trans (by assumption), Box.next (by assumption) bn⟩))
          ((go_at_call 124; refine (C1.out _).mono ?_; rintro e wn ⟨rfl, bn⟩))
        go_wp2
        go_roundw
        case rel => exact ⟨q, by omega, by go_num, (hbx.drew 1).next bn, (bn.cell (p := ⟨g, 0, none⟩) (hbx.drew 1).lt).trans hcp, norm_step HP.out.pos h0 (by rw [Nat.add_sub_cancel, ← EX.out]; exact EM.out.symm) HPL.out⟩
        case measure => simp [intOf] <;> omega
      · have hmz : ((m : Int) == 0) = false := by simpa using hm0
        go_wp2
        go_region_held3 (fun w' => w'.cell? ⟨g, 0, none⟩ = some (.int .u64 (p : Int)) ∧ w'.cell? ⟨b, off + q, none⟩ = some (.int .u64 (x : Int)) ∧ Box w w' g) (first | (exact ⟨hcp, hcx, hbx.drew 1⟩) | (go_split_ands; refine ⟨(bn.cell (p := ⟨g, 0, none⟩) (Box.lt (by assumption))).trans (by assumption), (bn.cell (p := ⟨b, off + q, none⟩) (Nat.lt_of_lt_of_le hbw hbs)).trans (by assumption), Box.next (by assumption) bn⟩))
          ((go_at_call 124; refine (C1.out _).mono ?_; rintro e wn ⟨rfl, bn⟩))
        have hbx2 := (hbx.drew 1).next bn
        have hcp2 := (bn.cell (p := ⟨g, 0, none⟩) (hbx.drew 1).lt).trans hcp
        clear hbx hcp hcx bn s1 s2 hbs i1 i0 C1 hmz
        go_wp2_with (at_make; refine wp_make .u64 33 27 8 Try.underlying33 (by kernel_rfl) (by decide) rfl _ _ rfl .i64 .i64 (q + 1) (by omega) _ _ _ rfl rfl (by omega) (by omega) ?_; intro w1 hown hbel hsz)
        obtain ⟨gg, egg⟩ : ∃ gg, gg = wn.heap.size := ⟨_, rfl⟩
        have hgg : g < gg := by have := hbx2.lt; omega
        have hggw : w.heap.size ≤ gg := by omega
        have hbgg : b ≠ gg := by omega
        replace hown := hown.mono hbx2.below.size
        rw [← egg] at hown ⊢
        replace hcp2 := (hbel.cell (p := ⟨g, 0, none⟩) hbx2.lt).trans hcp2
        replace hbx2 := hbx2.next hbel
        clear hbel hsz egg
        have hne : g ≠ gg := by omega
        go_loopw [30] (fun iv wr => ∃ i : Nat, i ≤ q + 1 ∧ iv = .int .i64 i ∧ Box w wr g ∧ wr.cell? ⟨g, 0, none⟩ = some (.int .u64 p) ∧ Own .u64 27 wr w.heap.size (.slice (some ⟨gg, 0, none⟩) (q + 1) (q + 1)) (modTake p xs (q + 1) i)) (fun iv _ => q + 1 - (intOf iv).toNat)
        case atStart => exact ⟨0, by omega, rfl, hbx2, hcp2, by rw [show modTake p xs (q + 1) 0 = List.replicate (q + 1) 0 by simp [modTake]]; exact hown⟩
        case round =>
          clear hown hcp2 hbx2
          obtain ⟨i, hi, rfl, hbx, hcp, ho⟩ := hrel
          by_cases hlt : i < q + 1
          · have hcx := (hcs.below hbx.below (Nat.le_refl _)).cell i (by omega)
            obtain ⟨y, ey⟩ : ∃ y, y = xs.getD i 0 := ⟨_, rfl⟩
            rw [← ey] at hcx
            obtain ⟨m2, em2⟩ : ∃ m2, m2 = y % p := ⟨_, rfl⟩
            have c1 := fun w => gfp_Norm p y w HP.out
            rw [← em2] at c1
            have C1 := Lib.hid c1; clear c1
            have hset := modTake_set p xs (q + 1) i hlt hk
            rw [← ey, ← em2] at hset
            have hlen := modTake_len p xs (q + 1) i hi hk
            have HSET := Lib.hid hset
            clear ey em2 hset
            have hbs := hbx.below.size
            have i0 : (0 : Int) ≤ (i : Int) := Int.natCast_nonneg _
            have i1 : (i : Int) < (q : Int) + 1 := by omega
            have i2 : (i : Int) < (xs.length : Int) := by omega
            obtain ⟨zs, ezs⟩ : ∃ zs, zs = modTake p xs (q + 1) i := ⟨_, rfl⟩
            rw [← ezs] at ho hlen HSET
            clear ezs
            go_wp2
            go_region_held3 (fun w' => w'.cell? ⟨g, 0, none⟩ = some (.int .u64 (p : Int)) ∧ w'.cell? ⟨b, off + i, none⟩ = some (.int .u64 (y : Int)) ∧ Box w w' g) (first | (exact ⟨hcp, hcx, hbx.drew 1⟩) | (go_split_ands; refine ⟨(bn.cell (p := ⟨g, 0, none⟩) (Box.lt (by assumption))).trans (by assumption), (bn.cell (p := ⟨b, off + i, none⟩) (Nat.lt_of_lt_of_le hbw hbs)).trans (by assumption), Box.next (by assumption) bn⟩) | (go_split_ands; exact ⟨(set_far _ _ _ ⟨g, 0, none⟩ hne).trans (by assumption), (set_far _ _ _ ⟨b, off + i, none⟩ hbgg).trans (by assumption), Box.set (by assumption) hggw _⟩))
              ((go_at_call 124; refine (C1.out _).mono ?_; rintro e wn ⟨rfl, bn⟩; have ho' := (ho.drawn ⟨1, rfl⟩).next bn; have hc' := ho'.cellAt i (Nat.lt_of_lt_of_eq hlt hlen.symm); have hf' := ho'.frozenAt i))
            have ho2 := (ho'.store i m2).1
            have hbx2 : Box w (wn.setCell ⟨gg, i, none⟩ (.int .u64 (m2 : Int))) g := Box.set ((hbx.drew 1).next bn) hggw _
            have hcp2 : (wn.setCell ⟨gg, i, none⟩ (.int .u64 (m2 : Int))).cell? ⟨g, 0, none⟩ = some (.int .u64 (p : Int)) := (set_far _ _ _ ⟨g, 0, none⟩ hne).trans ((bn.cell (p := ⟨g, 0, none⟩) (hbx.drew 1).lt).trans hcp)
            clear ho ho' hc' hf' hbx hcp bn
            go_wp2
            go_roundw
            case rel => exact ⟨i + 1, by omega, by go_num, hbx2, hcp2, by rw [← HSET.out]; exact ho2⟩
            case measure => simp [intOf] <;> omega
          · obtain rfl : i = q + 1 := by omega
            have hend := norm_end HP.out.pos hk h0 (by rw [Nat.add_sub_cancel, ← EX.out, ← EM.out]; exact hm0) HPL.out
            have hlen := modTake_len p xs (q + 1) (q + 1) hi hk
            have HE := Lib.hid hend
            have HLN := Lib.hid hlen
            clear hend hlen
            go_wp2
            go_ret
            exact ⟨_, _, rfl, ho, HE.out.1, HE.out.2, by rw [HLN.out]; exact hk, hbx.below⟩
    · obtain rfl : k = 0 := by omega
      go_wp2
      go_quiet (fail)
      go_wp2
      go_ret
      exact ⟨_, [], rfl, Own.nil _ _ _ _, nrm_nil _, by rw [← HPL.out]; rfl, by simp, (hbx.drew _).below⟩

end Go.Proofs.Ythghdjpjbngllaa
