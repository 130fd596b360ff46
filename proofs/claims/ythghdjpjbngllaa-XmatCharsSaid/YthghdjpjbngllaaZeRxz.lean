/- The reference of chapter 23: places, forms, matrices of one reading. -/
import Derived.Test.YthghdjpjbngllaaZeHz
import Derived.Test.YthghdjpjbngllaaZeRfz
import Derived.Test.YthghdjpjbngllaaZeRfh
import Derived.Test.YthghdjpjbngllaaZeXwz
namespace Go.Proofs.Ythghdjpjbngllaa
open Go.RowKit

theorem rf23_Formed (v : Value) (R C : Int) (xs : List (List Nat)) (w : World) (hm : Xm w v R C xs) (b : Bool) (hb : b = decide (Fd R C xs.length)) :
    Calls Try.prog 20 #[v] w (RetW w (.bool b)) := by
  obtain ⟨ao, ca, rfl⟩ := hm.agg
  obtain ⟨wb, ew, KA, B0, hsz⟩ := boxes1 w 24 [.int .i64 R, .int .i64 C, .slice ao xs.length ca]
  clear hsz hm
  by_cases h0 : R ≥ 0
  rotate_left
  · obtain rfl : b = false := by rw [hb]; exact decide_eq_false (fun h => h0 h.1.1)
    clear hb
    have d0 : decide (R ≥ 0) = false := decide_eq_false (by omega)
    go_enter Try.func20, Try.ntmps20
    go_upto_region 1 with (fail)
    rw [← ew]
    clear ew
    have c0 := KA.cell 0; have c1 := KA.cell 1; have c2 := KA.cell 2
    go_wp2
    go_ret
    exact ⟨rfl, B0⟩
  by_cases h1 : R ≤ 64
  rotate_left
  · obtain rfl : b = false := by rw [hb]; exact decide_eq_false (fun h => h1 h.1.2)
    clear hb
    have d0 : decide (R ≥ 0) = true := decide_eq_true (by omega)
    have d1 : decide (R ≤ 64) = false := decide_eq_false (by omega)
    go_enter Try.func20, Try.ntmps20
    go_upto_region 1 with (fail)
    rw [← ew]
    clear ew
    have c0 := KA.cell 0; have c1 := KA.cell 1; have c2 := KA.cell 2
    go_wp2
    go_ret
    exact ⟨rfl, B0⟩
  by_cases h2 : C ≥ 0
  rotate_left
  · obtain rfl : b = false := by rw [hb]; exact decide_eq_false (fun h => h2 h.2.1.1)
    clear hb
    have d0 : decide (R ≥ 0) = true := decide_eq_true (by omega)
    have d1 : decide (R ≤ 64) = true := decide_eq_true (by omega)
    have d2 : decide (C ≥ 0) = false := decide_eq_false (by omega)
    go_enter Try.func20, Try.ntmps20
    go_upto_region 1 with (fail)
    rw [← ew]
    clear ew
    have c0 := KA.cell 0; have c1 := KA.cell 1; have c2 := KA.cell 2
    go_wp2
    go_ret
    exact ⟨rfl, B0⟩
  by_cases h3 : C ≤ 64
  rotate_left
  · obtain rfl : b = false := by rw [hb]; exact decide_eq_false (fun h => h3 h.2.1.2)
    clear hb
    have d0 : decide (R ≥ 0) = true := decide_eq_true (by omega)
    have d1 : decide (R ≤ 64) = true := decide_eq_true (by omega)
    have d2 : decide (C ≥ 0) = true := decide_eq_true (by omega)
    have d3 : decide (C ≤ 64) = false := decide_eq_false (by omega)
    go_enter Try.func20, Try.ntmps20
    go_upto_region 1 with (fail)
    rw [← ew]
    clear ew
    have c0 := KA.cell 0; have c1 := KA.cell 1; have c2 := KA.cell 2
    go_wp2
    go_ret
    exact ⟨rfl, B0⟩
  by_cases h4 : (xs.length : Int) = R * C
  rotate_left
  · obtain rfl : b = false := by rw [hb]; exact decide_eq_false (fun h => h4 h.2.2)
    clear hb
    have d0 : decide (R ≥ 0) = true := decide_eq_true (by omega)
    have d1 : decide (R ≤ 64) = true := decide_eq_true (by omega)
    have d2 : decide (C ≥ 0) = true := decide_eq_true (by omega)
    have d3 : decide (C ≤ 64) = true := decide_eq_true (by omega); have hw : IntKind.i64.wrap (R * C) = R * C := Sd.mul ⟨h0, h1⟩ ⟨h2, h3⟩
    have d4 : ((xs.length : Int) == R * C) = false := by simp [h4]
    go_enter Try.func20, Try.ntmps20
    go_upto_region 1 with (fail)
    rw [← ew]
    clear ew
    have c0 := KA.cell 0; have c1 := KA.cell 1; have c2 := KA.cell 2
    go_wp2
    go_ret
    exact ⟨rfl, B0⟩
  obtain rfl : b = true := by rw [hb]; exact decide_eq_true ⟨⟨h0, h1⟩, ⟨h2, h3⟩, h4⟩
  clear hb
  have d0 : decide (R ≥ 0) = true := decide_eq_true (by omega)
  have d1 : decide (R ≤ 64) = true := decide_eq_true (by omega)
  have d2 : decide (C ≥ 0) = true := decide_eq_true (by omega)
  have d3 : decide (C ≤ 64) = true := decide_eq_true (by omega); have hw : IntKind.i64.wrap (R * C) = R * C := Sd.mul ⟨h0, h1⟩ ⟨h2, h3⟩
  have d4 : ((xs.length : Int) == R * C) = true := by simp [h4]
  go_enter Try.func20, Try.ntmps20
  go_upto_region 1 with (fail)
  rw [← ew]
  clear ew
  have c0 := KA.cell 0; have c1 := KA.cell 1; have c2 := KA.cell 2
  go_wp2
  go_ret
  exact ⟨rfl, B0⟩

theorem rf23_None (ao : Option Addr) (k : Nat) (w : World) : Calls Try.prog 44 #[.agg #[.int .i64 0, .int .i64 0, .slice ao 0 k]] w (RetW w (.bool true)) := by
  obtain ⟨wb, ew, KA, B0, hsz⟩ := boxes1 w 24 [.int .i64 0, .int .i64 0, .slice ao 0 k]
  clear hsz
  go_enter Try.func44, Try.ntmps44
  go_upto_region 1 with (fail)
  rw [← ew]
  clear ew
  have c0 := KA.cell 0; have c1 := KA.cell 1; have c2 := KA.cell 2
  go_wp2
  go_ret
  exact ⟨rfl, B0⟩

theorem Xm.open {w : World} {v : Value} {R C : Int} {xs : List (List Nat)} (h : Xm w v R C xs) : ∃ (ao : Option Addr) (b off cap : Nat) (U : Nat → Value), v = .agg #[.int .i64 R, .int .i64 C, .slice ao xs.length cap] ∧ xs.length ≤ cap ∧ (0 < xs.length → ao = some ⟨b, off, none⟩ ∧ b < w.heap.size) ∧
    ∀ j, j < xs.length → w.cell? ⟨b, off + j, none⟩ = some (U j) ∧ Sl .u64 w (U j) (xs.getD j []) ∧ wf W64 (xs.getD j []) := by
  obtain ⟨u, rfl, ao, b, off, cap, U, rfl, h1, h2, h3⟩ := h
  exact ⟨ao, b, off, cap, U, rfl, h1, h2, h3⟩

/-- A matrix of a size that is looked at. -/
def Fwx (s n : Int) (R C : Int) (xs : List (List Nat)) : Prop := R ≤ s ∧ C ≤ s ∧ xs.length ≤ 100 ∧ ∀ j, j < xs.length → ((xs.getD j []).length : Int) ≤ n
set_option maxHeartbeats 1000000 in
theorem rf23_Few (v : Value) (R C s n : Int) (xs : List (List Nat)) (w : World) (hm : Xm w v R C xs) (b : Bool) (hb : b = true ↔ Fwx s n R C xs) :
    Calls Try.prog 16 #[v, .int .i64 s, .int .i64 n] w (RetW w (.bool b)) := by
  obtain ⟨ao, bo, off, ca, U, rfl, -, hao, hat⟩ := hm.open
  obtain ⟨wb, ew, KA, B0, hsz⟩ := boxes1 w 24 [.int .i64 R, .int .i64 C, .slice ao xs.length ca]
  have HB := Lib.hid hb; have HAO := Lib.hid hao; have HAT := Lib.hid hat
  clear hsz hm hb hao hat
  have HB0 := Lib.hid B0
  go_enter Try.func16, Try.ntmps16
  go_upto_region 1 with (fail)
  rw [← ew]
  clear ew
  have c0 := KA.cell 0; have c1 := KA.cell 1; have c2 := KA.cell 2
  go_wp2
  go_loop [7] (fun iv => ∃ i : Nat, i ≤ xs.length ∧ iv = .int .i64 i ∧ Hid (∀ j, j < i → ((xs.getD j []).length : Int) ≤ n)) (fun iv => xs.length - (intOf iv).toNat)
  case atStart => exact ⟨0, by omega, rfl, Lib.hid fun j hj => by omega⟩
  case round =>
    obtain ⟨i, hi, rfl, HK⟩ := hrel
    by_cases hil : i < xs.length
    · by_cases hic : i < 100
      · obtain ⟨rfl, hbl⟩ := HAO.out (by omega)
        obtain ⟨q0, s0, -⟩ := HAT.out i hil
        obtain ⟨b1, -, -, b2, e0, -, -⟩ := id s0
        rw [e0] at q0
        have q1 := (HB0.out.cell (p := ⟨bo, off + i, none⟩) hbl).trans q0
        obtain ⟨m, em⟩ : ∃ m, m = (xs.getD i []).length := ⟨_, rfl⟩
        rw [← em] at q1
        have EM := Lib.hid em
        clear q0 s0 e0 em
        by_cases hmn : (m : Int) ≤ n
        · have d0 : decide ((m : Int) > n) = false := decide_eq_false (by omega)
          have HN := Lib.hid (show ∀ j, j < i + 1 → ((xs.getD j []).length : Int) ≤ n from fun j hj => by
            by_cases e : j = i
            · rw [e, ← EM.out]; exact hmn
            · exact HK.out j (by omega))
          go_wp2
          go_round
          case rel => exact ⟨i + 1, by omega, by go_num, HN⟩
          case measure => simp [intOf] <;> omega
        · have d0 : decide ((m : Int) > n) = true := decide_eq_true (by omega)
          obtain rfl : b = false := by
            cases b with
            | false => rfl
            | true => exact absurd ((HB.out.1 rfl).2.2.2 i hil) (by rw [← EM.out]; exact hmn)
          go_wp2
          go_ret
          exact ⟨rfl, HB0.out⟩
      · obtain rfl : b = false := by
          cases b with
          | false => rfl
          | true => have := (HB.out.1 rfl).2.2.1; omega
        have d9 : decide (((xs.length : Nat) : Int) ≤ 100) = false := decide_eq_false (by omega)
        by_cases h0 : R ≤ s
        · have d0 : decide (R ≤ s) = true := decide_eq_true h0
          by_cases h1 : C ≤ s
          · have d1 : decide (C ≤ s) = true := decide_eq_true h1
            go_wp2
            go_ret
            exact ⟨rfl, HB0.out⟩
          · have d1 : decide (C ≤ s) = false := decide_eq_false h1
            go_wp2
            go_ret
            exact ⟨rfl, HB0.out⟩
        · have d0 : decide (R ≤ s) = false := decide_eq_false h0
          go_wp2
          go_ret
          exact ⟨rfl, HB0.out⟩
    · obtain rfl : i = xs.length := by omega
      by_cases h0 : R ≤ s
      · have d0 : decide (R ≤ s) = true := decide_eq_true h0
        by_cases h1 : C ≤ s
        · have d1 : decide (C ≤ s) = true := decide_eq_true h1
          by_cases h2 : xs.length ≤ 100
          · have d2 : decide (((xs.length : Nat) : Int) ≤ 100) = true := decide_eq_true (by omega)
            obtain rfl : b = true := HB.out.2 ⟨h0, h1, h2, HK.out⟩
            go_wp2
            go_ret
            exact ⟨rfl, HB0.out⟩
          · have d2 : decide (((xs.length : Nat) : Int) ≤ 100) = false := decide_eq_false (by omega)
            obtain rfl : b = false := by
              cases b with
              | false => rfl
              | true => exact absurd (HB.out.1 rfl).2.2.1 h2
            go_wp2
            go_ret
            exact ⟨rfl, HB0.out⟩
        · have d1 : decide (C ≤ s) = false := decide_eq_false h1
          obtain rfl : b = false := by
            cases b with
            | false => rfl
            | true => exact absurd (HB.out.1 rfl).2.1 h1
          go_wp2
          go_ret
          exact ⟨rfl, HB0.out⟩
      · have d0 : decide (R ≤ s) = false := decide_eq_false h0
        obtain rfl : b = false := by
          cases b with
          | false => rfl
          | true => exact absurd (HB.out.1 rfl).1 h0
        go_wp2
        go_ret
        exact ⟨rfl, HB0.out⟩

end Go.Proofs.Ythghdjpjbngllaa
/- The reference of chapter 23: rows made columns; sums. -/
namespace Go.Proofs.Ythghdjpjbngllaa
open Go.RowKit

end Go.Proofs.Ythghdjpjbngllaa
/- The reference of chapter 23: products, determinants. -/
namespace Go.Proofs.Ythghdjpjbngllaa
open Go.RowKit

end Go.Proofs.Ythghdjpjbngllaa
/- What the laws of layer 23 begin with: awake; a matrix of polynomials as an argument. -/
namespace Go.Proofs.Ythghdjpjbngllaa
open Go.RowKit

theorem ns_lit2 (w : World) (x y : Nat) (hx : x < W64) (hy : y < W64) : Ns ((w.alloc (.cells #[.int .u64 x, .int .u64 y] 27)).alloc (.cells #[.slice (some ⟨w.heap.size, 0, none⟩) 2 2] 33)) (.slice (some ⟨w.heap.size + 1, 0, none⟩) 1 1) [[x, y]] := by
  have h1 := own_lit2 w x y
  have hB := Blk.lit (w.alloc (.cells #[.int .u64 x, .int .u64 y] 27)) 33 [.slice (some ⟨w.heap.size, 0, none⟩) 2 2]
  have hs : (w.alloc (.cells #[.int .u64 x, .int .u64 y] 27)).heap.size = w.heap.size + 1 := by simp
  rw [hs] at hB
  have b2 := (Below.refl (w.alloc (.cells #[.int .u64 x, .int .u64 y] 27)).heap.size (w.alloc (.cells #[.int .u64 x, .int .u64 y] 27))).alloc (Nat.le_refl _) (.cells #[.slice (some ⟨w.heap.size, 0, none⟩) 2 2] 33)
  refine ⟨some ⟨w.heap.size + 1, 0, none⟩, w.heap.size + 1, 0, 1, fun _ => .slice (some ⟨w.heap.size, 0, none⟩) 2 2, rfl, Nat.le_refl _, fun _ => ⟨rfl, hB.lt⟩, fun j hj => ?_⟩
  obtain rfl : j = 0 := by simp at hj; omega
  exact ⟨hB.cell 0, h1.sl.next b2, wf_cons hx (wf_cons hy (wf_nil _))⟩

set_option maxRecDepth 20000 in
set_option maxHeartbeats 1000000 in
theorem law23_awake (w : World) : Calls Try.prog 15 #[] w (LawOk w) := by
  obtain ⟨p, ep⟩ : ∃ p, p = Ps 3 := ⟨_, rfl⟩
  have hp : FP p := by rw [ep]; exact Ps_FP (by omega)
  have ht : Trial p := by rw [ep]; exact Ps_trial (by omega)
  have c0 : ∀ w : World, Calls Try.prog 17 #[.int .u8 3] w fun e w' => e = .returned (.agg #[.int .u64 (p : Nat)]) ∧ Below w.heap.size w w' := fun w => by rw [ep]; exact law9_Of 3 w
  have hn3 : Nrm p [1, 2] := by rw [ep]; exact ⟨wf_cons (by decide) (wf_cons (by decide) (wf_nil _)), rfl⟩
  have C0 := Lib.hid c0; have HP := Lib.hid hp; have HT := Lib.hid ht; have HN3 := Lib.hid hn3
  clear c0 hp ht hn3 ep
  go_enter Try.func15, Try.ntmps15
  go_wp2_with fail
  refine (C0.out _).mono ?_; rintro e w1 ⟨rfl, b1⟩
  go_wp2_with fail
  have hns : Ns ((w1.alloc (.cells #[.int .u64 1, .int .u64 2] 27)).alloc (.cells #[.slice (some ⟨w1.heap.size, 0, none⟩) 2 2] 33)) (.slice (some ⟨w1.heap.size + 1, 0, none⟩) 1 1) [[1, 2]] := ns_lit2 w1 1 2 (by decide) (by decide)
  have b2 := ((Below.refl w1.heap.size w1).alloc (Nat.le_refl _) (.cells #[.int .u64 1, .int .u64 2] 27)).alloc (by simp) (.cells #[.slice (some ⟨w1.heap.size, 0, none⟩) 2 2] 33)
  obtain ⟨w2, ew2⟩ : ∃ w2, w2 = (w1.alloc (.cells #[.int .u64 1, .int .u64 2] 27)).alloc (.cells #[.slice (some ⟨w1.heap.size, 0, none⟩) 2 2] 33) := ⟨_, rfl⟩
  obtain ⟨g1, eg1⟩ : ∃ g1, g1 = w1.heap.size + 1 := ⟨_, rfl⟩
  rw [← ew2, ← eg1] at hns
  rw [← ew2] at b2
  rw [← ew2, ← eg1]
  clear ew2 eg1
  have B2 := b1.trans (b2.mono b1.size)
  have hA : Xm w2 (.agg #[.int .i64 1, .int .i64 1, .slice (some ⟨g1, 0, none⟩) 1 1]) (1 : Nat) (1 : Nat) [[1, 2]] := ⟨_, rfl, hns⟩
  have hD : ∀ j, j < 1 * 1 → (([[1, 2]] : List (List Nat)).getD j []).length ≤ 2 := fun j hj => by
    obtain rfl : j = 0 := by omega
    exact Nat.le_refl 2
  refine (xm_Det p 1 2 _ [[1, 2]] w2 HP.out HT.out hA (by decide) rfl (fun j hj => hD j hj) (by decide) (by decide)).mono ?_; rintro e w3 ⟨a3, c3, zs, rfl, o3, n3, v3, l3, b3⟩
  obtain rfl : zs = [1, 2] := pl_inj HP.out.pos n3 HN3.out (by
    rw [v3]
    show (0 : Pol (Zp p)) + sg 0 (aT p 1 [[1, 2]] 0 0 * 1) = _
    rw [sg_zero, CR.mul_one, CR.zero_add]; rfl)
  have B3 := B2.trans (b3.mono B2.size)
  clear hA hns b1 b2 b3 B2 n3 v3 l3
  have l7 := own_lit2 w3 1 2
  have b7 := (Below.refl w3.heap.size w3).alloc (Nat.le_refl _) (.cells #[.int .u64 1, .int .u64 2] 27)
  go_wp2_with fail
  refine (ref9_Same _ _ [1, 2] [1, 2] true _ (o3.next b7).sl l7.sl (by simp) (by simp) (decide_eq_true rfl).symm).mono ?_; rintro e w8 ⟨rfl, q8⟩
  have b8 := q8.below (w3.alloc (.cells #[.int .u64 1, .int .u64 2] 27)).heap.size
  clear o3 l7
  go_wp2
  go_ret
  exact ⟨rfl, (B3.trans (b7.mono B3.size)).trans (b8.mono (B3.trans (b7.mono B3.size)).size)⟩

open Go.ChangeShapes Go.WideShapes Go.ChangeAt Go.RowKit Go.Deep Go.Joins
section
variable {H : Type} {enc : TypeId × Value → H} {w : World} {base : Nat} {spare : Nat → Bool} {held : Bool}
set_option maxRecDepth 100000 in
theorem open_xm {r : Reach} {b0 : Nat} {v : Value} {d : DataW H} {p : List MemPlace} (hv : Value.okWide Try.prog w r b0 24 v) (h : DataW.Trod enc Try.prog w base spare held 24 v d p) :
    ∃ (R C : Int) (qs : List (List Nat)), Xm w v R C qs ∧ (-9223372036854775808 ≤ R ∧ R ≤ 9223372036854775807) ∧ (-9223372036854775808 ≤ C ∧ C ≤ 9223372036854775807) := by
  obtain ⟨v0, v1, v2, y0, y1, y2, n, rfl, -, -, h0, h1, h2⟩ := open_agg3 Try.underlying24 (by kernel_rfl) (by kernel_rfl) hv h
  obtain ⟨R, e0, -, w0⟩ := DataW.trod_int Try.underlying3 h0
  obtain ⟨C, e1, -, w1⟩ := DataW.trod_int Try.underlying3 h1
  obtain ⟨qs, hq⟩ := trod_ns Try.underlying22 Try.underlying33 Try.underlying27 (by kernel_rfl) (by kernel_rfl) h2
  simp at e0 e1; subst e0 e1
  exact ⟨R, C, qs, ⟨v2, rfl, hq⟩, wf_i64_bounds w0, wf_i64_bounds w1⟩
end

end Go.Proofs.Ythghdjpjbngllaa
