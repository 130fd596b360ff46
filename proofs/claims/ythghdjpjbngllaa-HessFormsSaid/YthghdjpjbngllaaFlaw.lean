/- What the statements of layer 9 share: awake, few, Same. -/
import Derived.Test.YthghdjpjbngllaaFpoly4
namespace Go.Proofs.Ythghdjpjbngllaa
open Go.RowKit

/-- The block of a field, and all that was there. -/
structure Fx (p : Nat) (w wr : World) (g : Nat) : Prop where
  lt : g < wr.heap.size
  below : Below w.heap.size w wr
  cell : wr.cell? ⟨g, 0, none⟩ = some (.int .u64 (p : Int))

theorem Fx.next {p : Nat} {w w1 w2 : World} {g : Nat} (h : Fx p w w1 g) (b : Below w1.heap.size w1 w2) : Fx p w w2 g :=
  ⟨Nat.lt_of_lt_of_le h.lt b.size, h.below.trans (b.mono h.below.size), (b.cell (p := ⟨g, 0, none⟩) h.lt).trans h.cell⟩
theorem Fx.drew {p : Nat} {w w1 : World} {g : Nat} (h : Fx p w w1 g) : Fx p w w1.drew g := h.next (Drawn.below ⟨1, rfl⟩ _)
theorem Fx.drewN {p : Nat} {w w1 : World} {g : Nat} (h : Fx p w w1 g) (n : Nat) : Fx p w (w1.drewN n) g := h.next (Drawn.below ⟨n, rfl⟩ _)
theorem Fx.at {p : Nat} {w w1 w2 : World} {g : Nat} (h : Fx p w w1 g) (b : Below w1.heap.size w1 w2) : w2.cell? ⟨g, 0, none⟩ = some (.int .u64 (p : Int)) := (h.next b).cell
theorem Fx.set {p : Nat} {w w1 : World} {g : Nat} (h : Fx p w w1 g) {a : Addr} (ha : w.heap.size ≤ a.block) (hn : g ≠ a.block) (v : Value) : Fx p w (w1.setCell a v) g :=
  ⟨by simpa [World.setCell] using h.lt, h.below.setCell ha v, (set_far _ _ _ ⟨g, 0, none⟩ hn).trans h.cell⟩
theorem Fx.box {p : Nat} {w w1 : World} (h : Below w.heap.size w w1) : Fx p w (w1.alloc (.cells #[.int .u64 p] 29)) w1.heap.size :=
  ⟨by simp, h.alloc h.size _, (World.ownsRow_lit w1 #[.int .u64 p] 1 (Nat.le_refl _) (by unfold maxLen; omega) rfl : Own .u64 29 (w1.alloc (.cells #[.int .u64 p] 29)) w1.heap.size (.slice (some ⟨w1.heap.size, 0, none⟩) 1 1) [p]).cellAt 0 (by simp)⟩
theorem Sl.drew {k : IntKind} {w : World} {v : Value} {xs : List Nat} (h : Sl k w v xs) : Sl k w.drew v xs := h.drawn ⟨1, rfl⟩
theorem Own.drew {k : IntKind} {e : TypeId} {w : World} {base : Nat} {v : Value} {xs : List Nat} (h : Own k e w base v xs) : Own k e w.drew base v xs := h.drawn ⟨1, rfl⟩

set_option maxHeartbeats 1000000 in
theorem ref9_Same (v u : Value) (xs ys : List Nat) (β : Bool) (w : World) (hv : Sl .u64 w v xs) (hu : Sl .u64 w u ys) (hm : xs.length ≤ 1000000000) (hn : ys.length ≤ 1000000000) (hβ : β = decide (xs = ys)) :
    Calls Try.prog 21 #[v, u] w (RetQ w (.bool β)) := by
  obtain ⟨ao, b, off, cap, rfl, hl, hcs⟩ := hv
  obtain ⟨bo, c, pff, dap, rfl, kl, kcs⟩ := hu
  by_cases hlen : xs.length = ys.length
  · have h1 : ((xs.length : Int) != (ys.length : Int)) = false := by rw [hlen]; simp
    have h2 : ((xs.length : Int) == (ys.length : Int)) = true := by rw [hlen]; simp
    have HB := Lib.hid hβ; clear hβ
    have HL := Lib.hid hlen; clear hlen
    go_enter Try.func21, Try.ntmps21
    go_wp2
    go_loopw [5] (fun i wr => ∃ k : Nat, k ≤ xs.length ∧ i = .int .i64 (k : Nat) ∧ Drawn w wr ∧ xs.take k = ys.take k) (fun i _ => xs.length - (intOf i).toNat)
    case atStart => exact ⟨0, by omega, rfl, Drawn.refl _, by simp⟩
    case round =>
      clear h1 h2
      obtain ⟨k, hk, rfl, hq, ht⟩ := hrel
      have HT := Lib.hid ht; clear ht
      by_cases hlt : k < xs.length
      · have hlt2 : k < ys.length := by have := HL.out; omega
        obtain rfl := hcs.ao (by intro h; subst h; simp at hlt)
        obtain rfl := kcs.ao (by intro h; subst h; simp at hlt2)
        have hcx := (hcs.drawn hq).cell k hlt
        have hcy := (kcs.drawn hq).cell k hlt2
        obtain ⟨x, ex⟩ : ∃ x, x = xs.getD k 0 := ⟨_, rfl⟩
        obtain ⟨y, ey⟩ : ∃ y, y = ys.getD k 0 := ⟨_, rfl⟩
        rw [← ex] at hcx
        rw [← ey] at hcy
        have k0 : (0 : Int) ≤ (k : Int) := Int.natCast_nonneg _
        have k1 : (k : Int) < (xs.length : Int) := by omega
        have k2 : (k : Int) < (ys.length : Int) := by omega
        have EX := Lib.hid ex; have EY := Lib.hid ey; clear ex ey
        by_cases hxy : x = y
        · subst hxy
          go_wp2
          go_quiet (fail)
          go_wp2
          go_roundw
          case rel => exact ⟨k + 1, by omega, by go_num, hq.add _, by rw [take_snoc xs k hlt, take_snoc ys k hlt2, HT.out, ← EX.out, ← EY.out]⟩
          case measure => simp [intOf] <;> omega
        · have t1 : ((x : Int) == (y : Int)) = false := beq_eq_false_iff_ne.mpr (fun h => hxy (Int.ofNat.inj h))
          have t2 : ((x : Int) != (y : Int)) = true := by rw [bne, t1]; rfl
          have hb : β = false := by rw [HB.out]; exact decide_eq_false (fun h => hxy (by rw [EX.out, EY.out, h]))
          subst hb
          clear hxy
          go_wp2
          go_quiet (fail)
          go_wp2
          go_ret
          exact ⟨rfl, hq.add _⟩
      · have hb : β = true := by
          rw [HB.out]
          have h1 : k = xs.length := by omega
          have h2 : k = ys.length := h1.trans HL.out
          have h3 := HT.out
          rw [h1, List.take_length, ← h1, h2, List.take_length] at h3
          exact decide_eq_true h3
        subst hb
        go_wp2
        go_ret
        exact ⟨rfl, hq⟩
  · have h1 : ((xs.length : Int) != (ys.length : Int)) = true := by simpa using (show ¬ (xs.length : Int) = ys.length by omega)
    have h2 : ((xs.length : Int) == (ys.length : Int)) = false := beq_eq_false_iff_ne.mpr (by omega)
    have hb : β = false := by rw [hβ]; exact decide_eq_false (fun h => hlen (by rw [h]))
    subst hb
    clear hβ hlen
    go_enter Try.func21, Try.ntmps21
    go_wp2
    go_ret
    exact ⟨rfl, Drawn.refl _⟩

set_option maxHeartbeats 1000000 in
theorem slices_Equal (v u : Value) (xs ys : List Nat) (β : Bool) (w : World) (hv : Sl .u64 w v xs) (hu : Sl .u64 w u ys) (hm : xs.length ≤ 1000000000) (hn : ys.length ≤ 1000000000) (hβ : β = decide (xs = ys)) :
    Calls Try.prog 131 #[v, u] w (RetQ w (.bool β)) := by
  obtain ⟨ao, b, off, cap, rfl, hl, hcs⟩ := hv
  obtain ⟨bo, c, pff, dap, rfl, kl, kcs⟩ := hu
  by_cases hlen : xs.length = ys.length
  · have h1 : ((xs.length : Int) != (ys.length : Int)) = false := by rw [hlen]; simp
    have h2 : ((xs.length : Int) == (ys.length : Int)) = true := by rw [hlen]; simp
    have HB := Lib.hid hβ; clear hβ
    have HL := Lib.hid hlen; clear hlen
    go_enter Try.func131, Try.ntmps131
    go_wp2
    go_loopw [13] (fun i wr => ∃ k : Nat, k ≤ xs.length ∧ i = .int .i64 (k : Nat) ∧ Drawn w wr ∧ xs.take k = ys.take k) (fun i _ => xs.length - (intOf i).toNat)
    case atStart => exact ⟨0, by omega, rfl, Drawn.refl _, by simp⟩
    case round =>
      clear h1 h2
      obtain ⟨k, hk, rfl, hq, ht⟩ := hrel
      have HT := Lib.hid ht; clear ht
      by_cases hlt : k < xs.length
      · have hlt2 : k < ys.length := by have := HL.out; omega
        obtain rfl := hcs.ao (by intro h; subst h; simp at hlt)
        obtain rfl := kcs.ao (by intro h; subst h; simp at hlt2)
        have hcx := (hcs.drawn hq).cell k hlt
        have hcy := (kcs.drawn hq).cell k hlt2
        obtain ⟨x, ex⟩ : ∃ x, x = xs.getD k 0 := ⟨_, rfl⟩
        obtain ⟨y, ey⟩ : ∃ y, y = ys.getD k 0 := ⟨_, rfl⟩
        rw [← ex] at hcx
        rw [← ey] at hcy
        have k0 : (0 : Int) ≤ (k : Int) := Int.natCast_nonneg _
        have k1 : (k : Int) < (xs.length : Int) := by omega
        have k2 : (k : Int) < (ys.length : Int) := by omega
        have EX := Lib.hid ex; have EY := Lib.hid ey; clear ex ey
        by_cases hxy : x = y
        · subst hxy
          go_wp2
          go_quiet (fail)
          go_wp2
          go_roundw
          case rel => exact ⟨k + 1, by omega, by go_num, hq.add _, by rw [take_snoc xs k hlt, take_snoc ys k hlt2, HT.out, ← EX.out, ← EY.out]⟩
          case measure => simp [intOf] <;> omega
        · have t1 : ((x : Int) == (y : Int)) = false := beq_eq_false_iff_ne.mpr (fun h => hxy (Int.ofNat.inj h))
          have t2 : ((x : Int) != (y : Int)) = true := by rw [bne, t1]; rfl
          have hb : β = false := by rw [HB.out]; exact decide_eq_false (fun h => hxy (by rw [EX.out, EY.out, h]))
          subst hb
          clear hxy
          go_wp2
          go_quiet (fail)
          go_wp2
          go_ret
          exact ⟨rfl, hq.add _⟩
      · have hb : β = true := by
          rw [HB.out]
          have h1 : k = xs.length := by omega
          have h2 : k = ys.length := h1.trans HL.out
          have h3 := HT.out
          rw [h1, List.take_length, ← h1, h2, List.take_length] at h3
          exact decide_eq_true h3
        subst hb
        go_wp2
        go_ret
        exact ⟨rfl, hq⟩
  · have h1 : ((xs.length : Int) != (ys.length : Int)) = true := by simpa using (show ¬ (xs.length : Int) = ys.length by omega)
    have h2 : ((xs.length : Int) == (ys.length : Int)) = false := beq_eq_false_iff_ne.mpr (by omega)
    have hb : β = false := by rw [hβ]; exact decide_eq_false (fun h => hlen (by rw [h]))
    subst hb
    clear hβ hlen
    go_enter Try.func131, Try.ntmps131
    go_wp2
    go_ret
    exact ⟨rfl, Drawn.refl _⟩

/-- A law's end: true; nothing that was there has changed. -/
def LawOk (w : World) (e : Ending) (w' : World) : Prop := e = .returned (.bool true) ∧ Below w.heap.size w w'

theorem own_lit2 (w : World) (x y : Nat) : Own .u64 27 (w.alloc (.cells #[.int .u64 x, .int .u64 y] 27)) w.heap.size (.slice (some ⟨w.heap.size, 0, none⟩) 2 2) [x, y] :=
  World.ownsRow_lit w #[.int .u64 x, .int .u64 y] 2 (Nat.le_refl _) (by unfold maxLen; omega) rfl
theorem own_lit1 (w : World) (x : Nat) : Own .u64 27 (w.alloc (.cells #[.int .u64 x] 27)) w.heap.size (.slice (some ⟨w.heap.size, 0, none⟩) 1 1) [x] :=
  World.ownsRow_lit w #[.int .u64 x] 1 (Nat.le_refl _) (by unfold maxLen; omega) rfl

theorem awake_val {zs : List Nat} (h : Nrm 2 zs) (hv : pl 2 zs = pl 2 [1, 1] * pl 2 [1, 1]) : zs = [1, 0, 1] := by
  refine pl_inj (by decide) h ⟨wf_cons (by decide) (wf_cons (by decide) (wf_cons (by decide) (wf_nil _))), rfl⟩ ?_
  rw [hv]
  refine Pol.ext fun i => ?_
  match i with
  | 0 => rfl
  | 1 => rfl
  | 2 => rfl
  | n + 3 =>
    rw [Pol.c_mul]
    refine (sm_zero' fun j hj => ?_).trans rfl
    by_cases h2 : 2 ≤ j
    · rw [pl_dlt 2 [1, 1] j h2, CR.zero_mul]
    · rw [pl_dlt 2 [1, 1] (n + 3 - j) (by simp; omega), CR.mul_zero]

end Go.Proofs.Ythghdjpjbngllaa
