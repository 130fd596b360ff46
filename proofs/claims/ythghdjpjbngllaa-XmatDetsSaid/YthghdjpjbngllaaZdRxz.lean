/- The reference of chapter 23: places, forms, matrices of one reading. -/
import Derived.ChangeSame
import Derived.Lib.SmallJoins
import Derived.Test.YthghdjpjbngllaaZdOpen
import Derived.Test.YthghdjpjbngllaaZdFm
import Derived.Test.YthghdjpjbngllaaZdQz
import Derived.Test.YthghdjpjbngllaaZdHz
import Derived.Test.YthghdjpjbngllaaZdXwz
import Derived.Test.YthghdjpjbngllaaZdRfj
namespace Go.Proofs.Ythghdjpjbngllaa
open Go.RowKit

theorem rf23_Formed (v : Value) (R C : Int) (xs : List (List Nat)) (w : World) (hm : Xm w v R C xs) (b : Bool) (hb : b = decide (Fd R C xs.length)) :
    Calls Try.prog 20 #[v] w (RetW w (.bool b)) := by
  obtain ⟨ao, ca, rfl⟩ := hm.agg
  obtain ⟨wb, ew, KA, B0, hsz⟩ := boxes1 w 24 [.int .i64 R, .int .i64 C, .slice ao xs.length ca]
  clear hsz hm
  by_cases h0 : R ≥ 0
  rotate_left
  · obtain rfl : b = false := by rw [hb]; exact decide_eq_false (fun h => h0 h.1.1)
    clear hb
    have d0 : decide (R ≥ 0) = false := decide_eq_false (by omega)
    go_enter Try.func20, Try.ntmps20
    go_upto_region 1 with (fail)
    rw [← ew]
    clear ew
    have c0 := KA.cell 0; have c1 := KA.cell 1; have c2 := KA.cell 2
    go_wp2
    go_ret
    exact ⟨rfl, B0⟩
  by_cases h1 : R ≤ 64
  rotate_left
  · obtain rfl : b = false := by rw [hb]; exact decide_eq_false (fun h => h1 h.1.2)
    clear hb
    have d0 : decide (R ≥ 0) = true := decide_eq_true (by omega)
    have d1 : decide (R ≤ 64) = false := decide_eq_false (by omega)
    go_enter Try.func20, Try.ntmps20
    go_upto_region 1 with (fail)
    rw [← ew]
    clear ew
    have c0 := KA.cell 0; have c1 := KA.cell 1; have c2 := KA.cell 2
    go_wp2
    go_ret
    exact ⟨rfl, B0⟩
  by_cases h2 : C ≥ 0
  rotate_left
  · obtain rfl : b = false := by rw [hb]; exact decide_eq_false (fun h => h2 h.2.1.1)
    clear hb
    have d0 : decide (R ≥ 0) = true := decide_eq_true (by omega)
    have d1 : decide (R ≤ 64) = true := decide_eq_true (by omega)
    have d2 : decide (C ≥ 0) = false := decide_eq_false (by omega)
    go_enter Try.func20, Try.ntmps20
    go_upto_region 1 with (fail)
    rw [← ew]
    clear ew
    have c0 := KA.cell 0; have c1 := KA.cell 1; have c2 := KA.cell 2
    go_wp2
    go_ret
    exact ⟨rfl, B0⟩
  by_cases h3 : C ≤ 64
  rotate_left
  · obtain rfl : b = false := by rw [hb]; exact decide_eq_false (fun h => h3 h.2.1.2)
    clear hb
    have d0 : decide (R ≥ 0) = true := decide_eq_true (by omega)
    have d1 : decide (R ≤ 64) = true := decide_eq_true (by omega)
    have d2 : decide (C ≥ 0) = true := decide_eq_true (by omega)
    have d3 : decide (C ≤ 64) = false := decide_eq_false (by omega)
    go_enter Try.func20, Try.ntmps20
    go_upto_region 1 with (fail)
    rw [← ew]
    clear ew
    have c0 := KA.cell 0; have c1 := KA.cell 1; have c2 := KA.cell 2
    go_wp2
    go_ret
    exact ⟨rfl, B0⟩
  by_cases h4 : (xs.length : Int) = R * C
  rotate_left
  · obtain rfl : b = false := by rw [hb]; exact decide_eq_false (fun h => h4 h.2.2)
    clear hb
    have d0 : decide (R ≥ 0) = true := decide_eq_true (by omega)
    have d1 : decide (R ≤ 64) = true := decide_eq_true (by omega)
    have d2 : decide (C ≥ 0) = true := decide_eq_true (by omega)
    have d3 : decide (C ≤ 64) = true := decide_eq_true (by omega); have hw : IntKind.i64.wrap (R * C) = R * C := Sd.mul ⟨h0, h1⟩ ⟨h2, h3⟩
    have d4 : ((xs.length : Int) == R * C) = false := by simp [h4]
    go_enter Try.func20, Try.ntmps20
    go_upto_region 1 with (fail)
    rw [← ew]
    clear ew
    have c0 := KA.cell 0; have c1 := KA.cell 1; have c2 := KA.cell 2
    go_wp2
    go_ret
    exact ⟨rfl, B0⟩
  obtain rfl : b = true := by rw [hb]; exact decide_eq_true ⟨⟨h0, h1⟩, ⟨h2, h3⟩, h4⟩
  clear hb
  have d0 : decide (R ≥ 0) = true := decide_eq_true (by omega)
  have d1 : decide (R ≤ 64) = true := decide_eq_true (by omega)
  have d2 : decide (C ≥ 0) = true := decide_eq_true (by omega)
  have d3 : decide (C ≤ 64) = true := decide_eq_true (by omega); have hw : IntKind.i64.wrap (R * C) = R * C := Sd.mul ⟨h0, h1⟩ ⟨h2, h3⟩
  have d4 : ((xs.length : Int) == R * C) = true := by simp [h4]
  go_enter Try.func20, Try.ntmps20
  go_upto_region 1 with (fail)
  rw [← ew]
  clear ew
  have c0 := KA.cell 0; have c1 := KA.cell 1; have c2 := KA.cell 2
  go_wp2
  go_ret
  exact ⟨rfl, B0⟩

theorem Xm.open {w : World} {v : Value} {R C : Int} {xs : List (List Nat)} (h : Xm w v R C xs) : ∃ (ao : Option Addr) (b off cap : Nat) (U : Nat → Value), v = .agg #[.int .i64 R, .int .i64 C, .slice ao xs.length cap] ∧ xs.length ≤ cap ∧ (0 < xs.length → ao = some ⟨b, off, none⟩ ∧ b < w.heap.size) ∧
    ∀ j, j < xs.length → w.cell? ⟨b, off + j, none⟩ = some (U j) ∧ Sl .u64 w (U j) (xs.getD j []) ∧ wf W64 (xs.getD j []) := by
  obtain ⟨u, rfl, ao, b, off, cap, U, rfl, h1, h2, h3⟩ := h
  exact ⟨ao, b, off, cap, U, rfl, h1, h2, h3⟩

/-- A matrix of a size that is looked at. -/
def Fwx (s n : Int) (R C : Int) (xs : List (List Nat)) : Prop := R ≤ s ∧ C ≤ s ∧ xs.length ≤ 100 ∧ ∀ j, j < xs.length → ((xs.getD j []).length : Int) ≤ n
set_option maxHeartbeats 1000000 in
theorem rf23_Few (v : Value) (R C s n : Int) (xs : List (List Nat)) (w : World) (hm : Xm w v R C xs) (b : Bool) (hb : b = true ↔ Fwx s n R C xs) :
    Calls Try.prog 16 #[v, .int .i64 s, .int .i64 n] w (RetW w (.bool b)) := by
  obtain ⟨ao, bo, off, ca, U, rfl, -, hao, hat⟩ := hm.open
  obtain ⟨wb, ew, KA, B0, hsz⟩ := boxes1 w 24 [.int .i64 R, .int .i64 C, .slice ao xs.length ca]
  have HB := Lib.hid hb; have HAO := Lib.hid hao; have HAT := Lib.hid hat
  clear hsz hm hb hao hat
  have HB0 := Lib.hid B0
  go_enter Try.func16, Try.ntmps16
  go_upto_region 1 with (fail)
  rw [← ew]
  clear ew
  have c0 := KA.cell 0; have c1 := KA.cell 1; have c2 := KA.cell 2
  go_wp2
  go_loop [7] (fun iv => ∃ i : Nat, i ≤ xs.length ∧ iv = .int .i64 i ∧ Hid (∀ j, j < i → ((xs.getD j []).length : Int) ≤ n)) (fun iv => xs.length - (intOf iv).toNat)
  case atStart => exact ⟨0, by omega, rfl, Lib.hid fun j hj => by omega⟩
  case round =>
    obtain ⟨i, hi, rfl, HK⟩ := hrel
    by_cases hil : i < xs.length
    · by_cases hic : i < 100
      · obtain ⟨rfl, hbl⟩ := HAO.out (by omega)
        obtain ⟨q0, s0, -⟩ := HAT.out i hil
        obtain ⟨b1, -, -, b2, e0, -, -⟩ := id s0
        rw [e0] at q0
        have q1 := (HB0.out.cell (p := ⟨bo, off + i, none⟩) hbl).trans q0
        obtain ⟨m, em⟩ : ∃ m, m = (xs.getD i []).length := ⟨_, rfl⟩
        rw [← em] at q1
        have EM := Lib.hid em
        clear q0 s0 e0 em
        by_cases hmn : (m : Int) ≤ n
        · have d0 : decide ((m : Int) > n) = false := decide_eq_false (by omega)
          have HN := Lib.hid (show ∀ j, j < i + 1 → ((xs.getD j []).length : Int) ≤ n from fun j hj => by
            by_cases e : j = i
            · rw [e, ← EM.out]; exact hmn
            · exact HK.out j (by omega))
          go_wp2
          go_round
          case rel => exact ⟨i + 1, by omega, by go_num, HN⟩
          case measure => simp [intOf] <;> omega
        · have d0 : decide ((m : Int) > n) = true := decide_eq_true (by omega)
          obtain rfl : b = false := by
            cases b with
            | false => rfl
            | true => exact absurd ((HB.out.1 rfl).2.2.2 i hil) (by rw [← EM.out]; exact hmn)
          go_wp2
          go_ret
          exact ⟨rfl, HB0.out⟩
      · obtain rfl : b = false := by
          cases b with
          | false => rfl
          | true => have := (HB.out.1 rfl).2.2.1; omega
        have d9 : decide (((xs.length : Nat) : Int) ≤ 100) = false := decide_eq_false (by omega)
        by_cases h0 : R ≤ s
        · have d0 : decide (R ≤ s) = true := decide_eq_true h0
          by_cases h1 : C ≤ s
          · have d1 : decide (C ≤ s) = true := decide_eq_true h1
            go_wp2
            go_ret
            exact ⟨rfl, HB0.out⟩
          · have d1 : decide (C ≤ s) = false := decide_eq_false h1
            go_wp2
            go_ret
            exact ⟨rfl, HB0.out⟩
        · have d0 : decide (R ≤ s) = false := decide_eq_false h0
          go_wp2
          go_ret
          exact ⟨rfl, HB0.out⟩
    · obtain rfl : i = xs.length := by omega
      by_cases h0 : R ≤ s
      · have d0 : decide (R ≤ s) = true := decide_eq_true h0
        by_cases h1 : C ≤ s
        · have d1 : decide (C ≤ s) = true := decide_eq_true h1
          by_cases h2 : xs.length ≤ 100
          · have d2 : decide (((xs.length : Nat) : Int) ≤ 100) = true := decide_eq_true (by omega)
            obtain rfl : b = true := HB.out.2 ⟨h0, h1, h2, HK.out⟩
            go_wp2
            go_ret
            exact ⟨rfl, HB0.out⟩
          · have d2 : decide (((xs.length : Nat) : Int) ≤ 100) = false := decide_eq_false (by omega)
            obtain rfl : b = false := by
              cases b with
              | false => rfl
              | true => exact absurd (HB.out.1 rfl).2.2.1 h2
            go_wp2
            go_ret
            exact ⟨rfl, HB0.out⟩
        · have d1 : decide (C ≤ s) = false := decide_eq_false h1
          obtain rfl : b = false := by
            cases b with
            | false => rfl
            | true => exact absurd (HB.out.1 rfl).2.1 h1
          go_wp2
          go_ret
          exact ⟨rfl, HB0.out⟩
      · have d0 : decide (R ≤ s) = false := decide_eq_false h0
        obtain rfl : b = false := by
          cases b with
          | false => rfl
          | true => exact absurd (HB.out.1 rfl).1 h0
        go_wp2
        go_ret
        exact ⟨rfl, HB0.out⟩

theorem rf23_At (v : Value) (R : Int) (c i k p : Nat) (xs : List (List Nat)) (w : World) (hp : FP p) (hm : Xm w v R c xs) (hi : i ≤ 1000) (hc : c ≤ 1000) (hk : k ≤ 1000) (hj : i * c + k < xs.length) (hl : (xs.getD (i * c + k) []).length ≤ 1000000) :
    Calls Try.prog 81 #[v, .int .i64 i, .int .i64 k, .int .u64 p] w (RetP p w (xs.getD (i * c + k) []).length (pl p (xs.getD (i * c + k) []))) := by
  obtain ⟨ao, bo, off, ca, U, rfl, -, hao, hat⟩ := hm.open
  obtain ⟨rfl, hbl⟩ := hao (by omega)
  have hw : i * c ≤ 1000 * 1000 := Nat.mul_le_mul hi hc
  obtain ⟨lo, elo⟩ : ∃ lo, lo = i * c := ⟨_, rfl⟩
  obtain ⟨ix, eix⟩ : ∃ ix, ix = lo + k := ⟨_, rfl⟩
  have h1 : IntKind.i64.wrap ((i : Int) * (c : Int)) = (lo : Int) := by rw [elo, ← Int.natCast_mul]; exact IntWalk.i64_in _ ⟨by omega, by omega⟩
  have h2 : IntKind.i64.wrap ((lo : Int) + (k : Int)) = (ix : Int) := by rw [eix, ← Int.natCast_add]; exact IntWalk.i64_in _ ⟨by omega, by omega⟩
  rw [← elo, ← eix] at hj hl ⊢
  obtain ⟨q0, s0, -⟩ := hat _ hj
  obtain ⟨ys, ey⟩ : ∃ ys, ys = xs.getD ix [] := ⟨_, rfl⟩
  rw [← ey] at s0 hl ⊢
  obtain ⟨wb, ew, KA, B0, hsz⟩ := boxes1 w 24 [.int .i64 R, .int .i64 c, .slice (some ⟨bo, off, none⟩) xs.length ca]
  have HP := Lib.hid hp
  have q1 := (B0.cell (p := ⟨bo, off + ix, none⟩) hbl).trans q0
  have s1 := s0.next B0
  clear hsz hm hp hao hat q0 s0 ey hw elo eix
  go_enter Try.func81, Try.ntmps81
  go_upto_region 1 with (fail)
  rw [← ew]
  clear ew
  have c1 := KA.cell 1; have c2 := KA.cell 2
  clear KA
  go_wp2_with fail
  refine (ref9_Norm p (U ix) ys _ HP.out s1 (by omega)).mono ?_; rintro e w2 ⟨r2, z2, rfl, o2, n2, v2, l2, b2⟩
  have FIN := Lib.hid (show RetP p w ys.length (pl p ys) (.returned r2) w2 from ⟨r2, z2, rfl, o2.mono B0.size, n2, v2, l2, B0.trans (b2.mono B0.size)⟩)
  clear o2 n2 v2 l2 b2 s1 B0 c1 c2 q1
  go_wp2
  go_ret
  exact FIN.out

end Go.Proofs.Ythghdjpjbngllaa
/- The reference of chapter 23: rows made columns; sums. -/
namespace Go.Proofs.Ythghdjpjbngllaa
open Go.RowKit

end Go.Proofs.Ythghdjpjbngllaa
/- The reference of chapter 23: products, determinants. -/
namespace Go.Proofs.Ythghdjpjbngllaa
open Go.RowKit

theorem ChO.finB {n B : Nat} {p : Nat} {w0 wr : World} {T : Nat → Nat → List Nat} {lv : Value} (h : ChO w0 wr n n T lv) (hT : ∀ i k, i < n → k < n → (T i k).length ≤ B) : ∃ U E, Pm p B wr lv n n (fun i k => pl p (T i k)) U E := by
  obtain ⟨U, E, h1, h2, h3, h4⟩ := h
  exact ⟨U, E, VsF.of_own h1, fun i hi => VsF.of_own (h2 i hi), fun i k hi hk => ⟨T i k, (h3 i k hi hk).sl, hT i k hi hk, rfl⟩⟩

set_option maxRecDepth 20000 in
set_option maxHeartbeats 4000000 in
theorem rf23_Det (p B : Nat) (a : Value) (n : Nat) (xs : List (List Nat)) (w : World) (hp : FP p) (hA : Xm w a n n xs) (hn : n ≤ 8) (hx : xs.length = n * n) (hB : n * B + 1 ≤ 100000) (hl : ∀ j, j < n * n → (xs.getD j []).length ≤ B) (hB1 : B ≤ 1000000) :
    Calls Try.prog 22 #[a, .int .u64 p] w (RetP p w (n * B + 1) (dn n (aT p n xs))) := by
  obtain ⟨aA, cA, rfl⟩ := hA.agg
  obtain ⟨wb, ew, KA, B0, hsz⟩ := boxes1 w 24 [.int .i64 n, .int .i64 n, .slice aA xs.length cA]
  clear hsz
  replace hA := hA.next B0
  have HP := Lib.hid hp; have HX := Lib.hid hx; have HLL := Lib.hid hl; clear hp hx hl
  obtain ⟨T, eT⟩ : ∃ T : Nat → Nat → List Nat, T = fun i k => nl p (xs.getD (i * n + k) []) := ⟨_, rfl⟩
  have ET := Lib.hid eT; clear eT
  go_enter Try.func22, Try.ntmps22
  go_upto_region 1 with (fail)
  rw [← ew]
  obtain ⟨g, eg⟩ : ∃ g, g = w.heap.size := ⟨_, rfl⟩
  have HG := Lib.hid eg
  rw [← eg] at KA ⊢
  clear ew eg
  have HKA := Lib.hid KA; have HA := Lib.hid hA; have HB0 := Lib.hid B0
  have hg1 : g < wb.heap.size := KA.lt
  clear KA hA B0
  go_wp2
  go_loopw [6, 5] (fun iv lv wr => ∃ i : Nat, i ≤ n ∧ iv = .int .i64 i ∧ ChO wb wr n i T lv) (fun iv _ _ => n - (intOf iv).toNat)
  case atStart => exact ⟨0, by omega, rfl, fun _ => .slice none 0 0, fun _ _ => .slice none 0 0, World.ownsRow_nil _ _ _ _, fun r hr => absurd hr (by omega), fun r j hr => absurd hr (by omega), Below.refl _ _⟩
  case round =>
    obtain ⟨i, hi, rfl, U, E, s1, s2, s3, B1⟩ := hrel
    obtain ⟨wk, hwk⟩ : ∃ wk, wk = wr := ⟨_, rfl⟩
    subst hwk
    have KA := HKA.out.next B1
    have c0 := KA.cell 0
    by_cases hin : i < n
    · go_wp2
      clear c0
      go_loopw [8, 7] (fun kv rv wr => ∃ (k : Nat) (ar : Option Addr) (cr : Nat), k ≤ n ∧ kv = .int .i64 k ∧ rv = .slice ar k cr ∧ ChI wk wr i k T (.slice ar k cr)) (fun kv _ _ => n - (intOf kv).toNat)
      case atStart => exact ⟨0, none, 0, by omega, rfl, rfl, fun _ => .slice none 0 0, World.ownsRow_nil _ _ _ _, fun j hj => absurd hj (by omega), Below.refl _ _⟩
      case round =>
        obtain ⟨k, ar, cr, hk, rfl, rfl, st⟩ := hrel
        have hB2 : Below wk.heap.size wk wr := by obtain ⟨_, _, _, h⟩ := st; exact h
        have KA2 := KA.next hB2
        have c0 := KA2.cell 0; have c1 := KA2.cell 1; have c2 := KA2.cell 2
        by_cases hkn : k < n
        · obtain ⟨E', t1, t2, _⟩ := st
          have hlt : i * n + k < n * n := at_lt rfl hin hkn
          have hll := HLL.out _ hlt
          go_wp2_with fail
          refine (rf23_At _ n n i k p xs _ HP.out (HA.out.next (B1.trans (hB2.mono B1.size))) (by omega) (by omega) (by omega) (by rw [HX.out]; exact hlt) (by omega)).mono ?_; rintro e w5 ⟨r5, z5, rfl, o5, n5, v5, l5, b5⟩
          clear c0 c1 c2 KA2
          obtain ⟨a5, c5, rfl⟩ := o5.sliced
          have hz5 : z5 = T i k := by rw [ET.out]; exact nl_is HP.out.pos n5 v5
          subst hz5
          clear n5 v5 l5 hll
          have hks : wk.heap.size ≤ w5.heap.size := Nat.le_trans hB2.size b5.size
          have t16 := rowOwn_next t1 b5 (Nat.le_refl _)
          go_wp2_with (at_builtin; refine apVl 99 32 24 (.slice none 0 0) Try.underlying99 (by kernel_rfl) (by decide) rfl rfl _ _ rfl w5 wk.heap.size _ k (rowL k E') _ rfl t16 (by omega) hks rfl rfl ?_; intro g8 cap8 w8 ho8 hb8 hg8 _)
          have st := Lib.hid (ChI.push t1 t2 hB2 b5 o5 hb8 hg8 ho8)
          clear t1 t2 hB2 b5 o5 hb8 hg8 ho8 t16 s1 s2 s3 B1 KA
          go_wp2
          go_roundw
          case rel => exact ⟨k + 1, _, _, by omega, by go_num, rfl, st.out⟩
          case measure => simp [intOf] <;> omega
        · obtain rfl : k = n := by omega
          have s12 := rowOwn_next s1 hB2 (Nat.le_refl _)
          have hbs : wb.heap.size ≤ wr.heap.size := Nat.le_trans B1.size hB2.size
          go_wp2_with (at_builtin; refine apVl 98 99 24 (.slice none 0 0) Try.underlying98 (by kernel_rfl) (by decide) rfl rfl _ _ rfl wr wb.heap.size _ i (rowL i U) _ rfl s12 (by omega) hbs rfl rfl ?_; intro g8 cap8 w8 ho8 hb8 hg8 _)
          have st := Lib.hid (ChO.push s1 s2 s3 B1 st hb8 hg8 ho8)
          clear s1 s2 s3 B1 hb8 hg8 ho8 s12 KA KA2 hB2 c0 c1 c2
          go_wp2
          go_roundw
          case rel => exact ⟨i + 1, by omega, by go_num, st.out⟩
          case measure => simp [intOf] <;> omega
    · obtain rfl : i = n := by omega
      obtain ⟨U2, E2, hpm⟩ := ChO.finB (p := p) (B := B) (T := T) ⟨U, E, s1, s2, s3, B1⟩ (fun i k hi hk => by rw [ET.out]; exact Nat.le_trans (nl_len p _) (HLL.out _ (at_lt rfl hi hk)))
      have B2 := HB0.out.trans (B1.mono HB0.out.size)
      clear s1 s2 s3 B1 KA
      go_wp2_with fail
      refine (rf22_Det p B HP.out i hn hB _ _ U2 E2 _ hpm).mono ?_; rintro e w9 ⟨r9, z9, rfl, o9, n9, v9, l9, b9⟩
      have V9 := Lib.hid (show pl p z9 = dn i (aT p i xs) by rw [v9, ET.out]; exact dn_congr i fun a b _ _ => nl_pl p _)
      have B9 := B2.trans (b9.mono B2.size)
      have o9' := o9.mono B2.size
      clear v9 o9 b9 hpm B2 c0
      go_wp2
      go_ret
      exact ⟨r9, z9, rfl, o9', n9, V9.out, l9, B9⟩

end Go.Proofs.Ythghdjpjbngllaa
/- What the laws of layer 23 begin with: awake; a matrix of polynomials as an argument. -/
namespace Go.Proofs.Ythghdjpjbngllaa
open Go.RowKit

theorem ns_lit2 (w : World) (x y : Nat) (hx : x < W64) (hy : y < W64) : Ns ((w.alloc (.cells #[.int .u64 x, .int .u64 y] 27)).alloc (.cells #[.slice (some ⟨w.heap.size, 0, none⟩) 2 2] 33)) (.slice (some ⟨w.heap.size + 1, 0, none⟩) 1 1) [[x, y]] := by
  have h1 := own_lit2 w x y
  have hB := Blk.lit (w.alloc (.cells #[.int .u64 x, .int .u64 y] 27)) 33 [.slice (some ⟨w.heap.size, 0, none⟩) 2 2]
  have hs : (w.alloc (.cells #[.int .u64 x, .int .u64 y] 27)).heap.size = w.heap.size + 1 := by simp
  rw [hs] at hB
  have b2 := (Below.refl (w.alloc (.cells #[.int .u64 x, .int .u64 y] 27)).heap.size (w.alloc (.cells #[.int .u64 x, .int .u64 y] 27))).alloc (Nat.le_refl _) (.cells #[.slice (some ⟨w.heap.size, 0, none⟩) 2 2] 33)
  refine ⟨some ⟨w.heap.size + 1, 0, none⟩, w.heap.size + 1, 0, 1, fun _ => .slice (some ⟨w.heap.size, 0, none⟩) 2 2, rfl, Nat.le_refl _, fun _ => ⟨rfl, hB.lt⟩, fun j hj => ?_⟩
  obtain rfl : j = 0 := by simp at hj; omega
  exact ⟨hB.cell 0, h1.sl.next b2, wf_cons hx (wf_cons hy (wf_nil _))⟩

set_option maxRecDepth 20000 in
set_option maxHeartbeats 1000000 in
theorem law23_awake (w : World) : Calls Try.prog 15 #[] w (LawOk w) := by
  obtain ⟨p, ep⟩ : ∃ p, p = Ps 3 := ⟨_, rfl⟩
  have hp : FP p := by rw [ep]; exact Ps_FP (by omega)
  have ht : Trial p := by rw [ep]; exact Ps_trial (by omega)
  have c0 : ∀ w : World, Calls Try.prog 17 #[.int .u8 3] w fun e w' => e = .returned (.agg #[.int .u64 (p : Nat)]) ∧ Below w.heap.size w w' := fun w => by rw [ep]; exact law9_Of 3 w
  have hn3 : Nrm p [1, 2] := by rw [ep]; exact ⟨wf_cons (by decide) (wf_cons (by decide) (wf_nil _)), rfl⟩
  have C0 := Lib.hid c0; have HP := Lib.hid hp; have HT := Lib.hid ht; have HN3 := Lib.hid hn3
  clear c0 hp ht hn3 ep
  go_enter Try.func15, Try.ntmps15
  go_wp2_with fail
  refine (C0.out _).mono ?_; rintro e w1 ⟨rfl, b1⟩
  go_wp2_with fail
  have hns : Ns ((w1.alloc (.cells #[.int .u64 1, .int .u64 2] 27)).alloc (.cells #[.slice (some ⟨w1.heap.size, 0, none⟩) 2 2] 33)) (.slice (some ⟨w1.heap.size + 1, 0, none⟩) 1 1) [[1, 2]] := ns_lit2 w1 1 2 (by decide) (by decide)
  have b2 := ((Below.refl w1.heap.size w1).alloc (Nat.le_refl _) (.cells #[.int .u64 1, .int .u64 2] 27)).alloc (by simp) (.cells #[.slice (some ⟨w1.heap.size, 0, none⟩) 2 2] 33)
  obtain ⟨w2, ew2⟩ : ∃ w2, w2 = (w1.alloc (.cells #[.int .u64 1, .int .u64 2] 27)).alloc (.cells #[.slice (some ⟨w1.heap.size, 0, none⟩) 2 2] 33) := ⟨_, rfl⟩
  obtain ⟨g1, eg1⟩ : ∃ g1, g1 = w1.heap.size + 1 := ⟨_, rfl⟩
  rw [← ew2, ← eg1] at hns
  rw [← ew2] at b2
  rw [← ew2, ← eg1]
  clear ew2 eg1
  have B2 := b1.trans (b2.mono b1.size)
  have hA : Xm w2 (.agg #[.int .i64 1, .int .i64 1, .slice (some ⟨g1, 0, none⟩) 1 1]) (1 : Nat) (1 : Nat) [[1, 2]] := ⟨_, rfl, hns⟩
  have hD : ∀ j, j < 1 * 1 → (([[1, 2]] : List (List Nat)).getD j []).length ≤ 2 := fun j hj => by
    obtain rfl : j = 0 := by omega
    exact Nat.le_refl 2
  refine (xm_Det p 1 2 _ [[1, 2]] w2 HP.out HT.out hA (by decide) rfl (fun j hj => hD j hj) (by decide) (by decide)).mono ?_; rintro e w3 ⟨a3, c3, zs, rfl, o3, n3, v3, l3, b3⟩
  obtain rfl : zs = [1, 2] := pl_inj HP.out.pos n3 HN3.out (by
    rw [v3]
    show (0 : Pol (Zp p)) + sg 0 (aT p 1 [[1, 2]] 0 0 * 1) = _
    rw [sg_zero, CR.mul_one, CR.zero_add]; rfl)
  have B3 := B2.trans (b3.mono B2.size)
  clear hA hns b1 b2 b3 B2 n3 v3 l3
  have l7 := own_lit2 w3 1 2
  have b7 := (Below.refl w3.heap.size w3).alloc (Nat.le_refl _) (.cells #[.int .u64 1, .int .u64 2] 27)
  go_wp2_with fail
  refine (ref9_Same _ _ [1, 2] [1, 2] true _ (o3.next b7).sl l7.sl (by simp) (by simp) (decide_eq_true rfl).symm).mono ?_; rintro e w8 ⟨rfl, q8⟩
  have b8 := q8.below (w3.alloc (.cells #[.int .u64 1, .int .u64 2] 27)).heap.size
  clear o3 l7
  go_wp2
  go_ret
  exact ⟨rfl, (B3.trans (b7.mono B3.size)).trans (b8.mono (B3.trans (b7.mono B3.size)).size)⟩

open Go.ChangeShapes Go.WideShapes Go.ChangeAt Go.RowKit Go.Deep Go.Joins
section
variable {H : Type} {enc : TypeId × Value → H} {w : World} {base : Nat} {spare : Nat → Bool} {held : Bool}
set_option maxRecDepth 100000 in
theorem open_xm {r : Reach} {b0 : Nat} {v : Value} {d : DataW H} {p : List MemPlace} (hv : Value.okWide Try.prog w r b0 24 v) (h : DataW.Trod enc Try.prog w base spare held 24 v d p) :
    ∃ (R C : Int) (qs : List (List Nat)), Xm w v R C qs ∧ (-9223372036854775808 ≤ R ∧ R ≤ 9223372036854775807) ∧ (-9223372036854775808 ≤ C ∧ C ≤ 9223372036854775807) := by
  obtain ⟨v0, v1, v2, y0, y1, y2, n, rfl, -, -, h0, h1, h2⟩ := open_agg3 Try.underlying24 (by kernel_rfl) (by kernel_rfl) hv h
  obtain ⟨R, e0, -, w0⟩ := DataW.trod_int Try.underlying3 h0
  obtain ⟨C, e1, -, w1⟩ := DataW.trod_int Try.underlying3 h1
  obtain ⟨qs, hq⟩ := trod_ns Try.underlying22 Try.underlying33 Try.underlying27 (by kernel_rfl) (by kernel_rfl) h2
  simp at e0 e1; subst e0 e1
  exact ⟨R, C, qs, ⟨v2, rfl, hq⟩, wf_i64_bounds w0, wf_i64_bounds w1⟩
end

end Go.Proofs.Ythghdjpjbngllaa
