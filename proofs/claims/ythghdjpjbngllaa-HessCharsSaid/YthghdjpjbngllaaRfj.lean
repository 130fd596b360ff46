/- The reference of chapter 22: the characteristic polynomial. -/
import Derived.Test.YthghdjpjbngllaaRfi
namespace Go.Proofs.Ythghdjpjbngllaa
open Go.RowKit


section
variable {p n : Nat}
/-- The element of the list at a place. -/
def chZ (p n : Nat) (xs : List Nat) (i k : Nat) : Nat := (p - xs.getD (i * n + k) 0 % p) % p
def chT (p n : Nat) (xs : List Nat) (i k : Nat) : List Nat := if i = k then [chZ p n xs i k, 1] else [chZ p n xs i k]
theorem chZ_of (hp : FP p) {xs : List Nat} {i k : Nat} (hi : i < n) (hk : k < n) : Zp.of p (chZ p n xs i k) = -(mx p n n xs).e i k := by
  have e : p - 1 + 1 = p := by have := hp.1; omega
  refine Zp.ext ?_
  rw [Zp.neg_val, mx_e _ hi hk, Zp.val_of, Zp.val_of, e]
  unfold chZ
  rw [Nat.mod_mod]
theorem chT_pl (hp : FP p) {xs : List Nat} {i k : Nat} (hi : i < n) (hk : k < n) : pl p (chT p n xs i k) = xh (mx p n n xs).e i k := by
  have e1 : Zp.of p 1 = 1 := Zp.of_one p
  refine Pol.ext fun j => ?_
  unfold xh chT
  rw [Pol.c_sub, c_mon, pl_c]
  by_cases h : i = k
  · rw [if_pos h, if_pos h, c_mon]
    match j with
    | 0 => rw [if_neg (by decide), if_pos rfl]; simp [chZ_of hp hi hk, CR.sub_eq, CR.zero_add]
    | 1 => rw [if_pos rfl, if_neg (by decide)]; simp [e1, CR.sub_zero]
    | j + 2 => rw [if_neg (by omega), if_neg (by omega)]; simp [Zp.of_zero, CR.sub_zero]
  · rw [if_neg h, if_neg h, Pol.c_zero]
    match j with
    | 0 => rw [if_pos rfl]; simp [chZ_of hp hi hk, CR.sub_eq, CR.zero_add]
    | j + 1 => rw [if_neg (by omega)]; simp [Zp.of_zero, CR.sub_zero]
theorem chT_dn (hp : FP p) (xs : List Nat) : dn n (fun i k => pl p (chT p n xs i k)) = chi (mx p n n xs) := by
  rw [chi_xh]; exact dn_congr n fun i k hi hk => chT_pl hp hi hk
theorem chT_len (xs : List Nat) (i k : Nat) : (chT p n xs i k).length ≤ 2 := by unfold chT; split <;> simp

/-- Where a row stands. -/
def ChI (wk wr : World) (i k : Nat) (T : Nat → Nat → List Nat) (rv : Value) : Prop :=
  ∃ E : Nat → Value, wr.ownsRow wk.heap.size 32 1 rv k (rowL k E) ∧ (∀ j, j < k → Own .u64 27 wr wk.heap.size (E j) (T i j)) ∧ Below wk.heap.size wk wr
theorem ChI.push {wk w1 w2 w3 : World} {i k : Nat} {T : Nat → Nat → List Nat} {rv rv' u : Value} {E : Nat → Value} (h1 : w1.ownsRow wk.heap.size 32 1 rv k (rowL k E)) (h2 : ∀ j, j < k → Own .u64 27 w1 wk.heap.size (E j) (T i j)) (h3 : Below wk.heap.size wk w1)
    (b1 : Below w1.heap.size w1 w2) (hu : Own .u64 27 w2 w1.heap.size u (T i k)) (b2 : Below wk.heap.size w2 w3) (hg : w2.grownBy w3 rv.ownBlock) (ho : w3.ownsRow wk.heap.size 32 1 rv' (k + 1) (rowL k E ++ [u])) : ChI wk w3 i (k + 1) T rv' := by
  have h1' := rowOwn_next h1 b1 (Nat.le_refl _)
  refine ⟨fun j => if j < k then E j else u, ?_, fun j hj => ?_, (h3.trans (b1.mono h3.size)).trans b2⟩
  · rw [rowL_snoc, if_neg (by omega), rowL_congr (V := E) (fun j hj => by simp [hj])]
    exact ho
  · by_cases hc : j < k
    · show Own _ _ w3 _ (if j < k then E j else u) _
      rw [if_pos hc]
      exact rowOwn_kept ((h2 j hc).next b1) h1' hg (by decide)
    · obtain rfl : j = k := by omega
      show Own _ _ w3 _ (if j < j then E j else u) _
      rw [if_neg (by omega)]
      exact rowOwn_kept (hu.mono h3.size) h1' hg (by decide)
/-- Where the rows stand. -/
def ChO (w0 wr : World) (n i : Nat) (T : Nat → Nat → List Nat) (lv : Value) : Prop :=
  ∃ (U : Nat → Value) (E : Nat → Nat → Value), wr.ownsRow w0.heap.size 99 1 lv i (rowL i U) ∧ (∀ r, r < i → wr.ownsRow w0.heap.size 32 1 (U r) n (rowL n (E r))) ∧ (∀ r j, r < i → j < n → Own .u64 27 wr w0.heap.size (E r j) (T r j)) ∧ Below w0.heap.size w0 wr
theorem ChO.push {w0 wk w1 w3 : World} {n i : Nat} {T : Nat → Nat → List Nat} {lv lv' rv : Value} {U : Nat → Value} {E : Nat → Nat → Value} (h1 : wk.ownsRow w0.heap.size 99 1 lv i (rowL i U)) (h2 : ∀ r, r < i → wk.ownsRow w0.heap.size 32 1 (U r) n (rowL n (E r))) (h3 : ∀ r j, r < i → j < n → Own .u64 27 wk w0.heap.size (E r j) (T r j)) (h4 : Below w0.heap.size w0 wk)
    (hi : ChI wk w1 i n T rv) (b2 : Below w0.heap.size w1 w3) (hg : w1.grownBy w3 lv.ownBlock) (ho : w3.ownsRow w0.heap.size 99 1 lv' (i + 1) (rowL i U ++ [rv])) : ChO w0 w3 n (i + 1) T lv' := by
  obtain ⟨E1, k1, k2, k3⟩ := hi
  have h1' := rowOwn_next h1 k3 (Nat.le_refl _)
  refine ⟨fun r => if r < i then U r else rv, fun r => if r < i then E r else E1, ?_, fun r hr => ?_, fun r j hr hj => ?_, (h4.trans (k3.mono h4.size)).trans b2⟩
  · rw [rowL_snoc, if_neg (by omega), rowL_congr (V := U) (fun j hj => by simp [hj])]
    exact ho
  · by_cases hc : r < i
    · show w3.ownsRow _ _ _ (if r < i then U r else rv) _ (rowL n (if r < i then E r else E1))
      rw [if_pos hc, if_pos hc]
      exact rowOwn_kept (rowOwn_next (h2 r hc) k3 (Nat.le_refl _)) h1' hg (by decide)
    · obtain rfl : r = i := by omega
      show w3.ownsRow _ _ _ (if r < r then U r else rv) _ (rowL n (if r < r then E r else E1))
      rw [if_neg (by omega), if_neg (by omega)]
      exact rowOwn_kept (rowOwn_mono k1 h4.size) h1' hg (by decide)
  · by_cases hc : r < i
    · show Own _ _ w3 _ ((if r < i then E r else E1) j) _
      rw [if_pos hc]
      exact rowOwn_kept ((h3 r j hc hj).next k3) h1' hg (by decide)
    · obtain rfl : r = i := by omega
      show Own _ _ w3 _ ((if r < r then E r else E1) j) _
      rw [if_neg (by omega)]
      exact rowOwn_kept ((k2 j hj).mono h4.size) h1' hg (by decide)
theorem ChO.fin {w0 wr : World} {T : Nat → Nat → List Nat} {lv : Value} (h : ChO w0 wr n n T lv) (hT : ∀ i k, (T i k).length ≤ 2) : ∃ U E, Pm p 2 wr lv n n (fun i k => pl p (T i k)) U E := by
  obtain ⟨U, E, h1, h2, h3, h4⟩ := h
  exact ⟨U, E, VsF.of_own h1, fun i hi => VsF.of_own (h2 i hi), fun i k hi hk => ⟨T i k, (h3 i k hi hk).sl, hT i k, rfl⟩⟩
end

set_option maxRecDepth 20000 in
set_option maxHeartbeats 4000000 in
theorem rf22_Char (p : Nat) (a : Value) (n : Nat) (xs : List Nat) (w : World) (hp : FP p) (hA : Fm w a n n xs) (hn : n ≤ 8) (hx : xs.length = n * n) :
    Calls Try.prog 27 #[a, .int .u64 p] w (RetP p w (n * 2 + 1) (chi (mx p n n xs))) := by
  obtain ⟨aA, cA, rfl⟩ := hA.agg
  obtain ⟨wb, ew, KA, B0, hsz⟩ := boxes1 w 42 [.int .i64 n, .int .i64 n, .slice aA xs.length cA]
  clear hsz
  replace hA := hA.next B0
  have hp1 := hp.1; have hp2 := hp.2
  have hz1 : ¬ p = 0 := by omega
  have hz2 : ¬ (p : Int) = 0 := by omega
  have hz0 : ((p : Int) == 0) = false := by simpa using (show p ≠ 0 by omega)
  have HP := Lib.hid hp; have HX := Lib.hid hx; clear hp hx
  obtain ⟨T, eT⟩ : ∃ T, T = chT p n xs := ⟨_, rfl⟩
  have ET := Lib.hid eT; clear eT
  go_enter Try.func27, Try.ntmps27
  go_upto_region 1 with (fail)
  rw [← ew]
  obtain ⟨g, eg⟩ : ∃ g, g = w.heap.size := ⟨_, rfl⟩
  have HG := Lib.hid eg
  rw [← eg] at KA ⊢
  clear ew eg
  have HKA := Lib.hid KA; have HA := Lib.hid hA; have HB0 := Lib.hid B0
  have hg1 : g < wb.heap.size := KA.lt
  clear KA hA B0
  go_wp2
  go_loopw [6, 5] (fun iv lv wr => ∃ i : Nat, i ≤ n ∧ iv = .int .i64 i ∧ ChO wb wr n i T lv) (fun iv _ _ => n - (intOf iv).toNat)
  case atStart => exact ⟨0, by omega, rfl, fun _ => .slice none 0 0, fun _ _ => .slice none 0 0, World.ownsRow_nil _ _ _ _, fun r hr => absurd hr (by omega), fun r j hr => absurd hr (by omega), Below.refl _ _⟩
  case round =>
    obtain ⟨i, hi, rfl, U, E, s1, s2, s3, B1⟩ := hrel
    obtain ⟨wk, hwk⟩ : ∃ wk, wk = wr := ⟨_, rfl⟩
    subst hwk
    have KA := HKA.out.next B1
    have c0 := KA.cell 0
    by_cases hin : i < n
    · go_wp2
      clear c0
      go_loopw [8, 7] (fun kv rv wr => ∃ (k : Nat) (ar : Option Addr) (cr : Nat), k ≤ n ∧ kv = .int .i64 k ∧ rv = .slice ar k cr ∧ ChI wk wr i k T (.slice ar k cr)) (fun kv _ _ => n - (intOf kv).toNat)
      case atStart => exact ⟨0, none, 0, by omega, rfl, rfl, fun _ => .slice none 0 0, World.ownsRow_nil _ _ _ _, fun j hj => absurd hj (by omega), Below.refl _ _⟩
      case round =>
        obtain ⟨k, ar, cr, hk, rfl, rfl, st⟩ := hrel
        have hB2 : Below wk.heap.size wk wr := by obtain ⟨_, _, _, h⟩ := st; exact h
        have KA2 := KA.next hB2
        have c0 := KA2.cell 0; have c1 := KA2.cell 1; have c2 := KA2.cell 2
        by_cases hkn : k < n
        · obtain ⟨E', t1, t2, _⟩ := st
          have hlt : i * n + k < xs.length := by
            rw [HX.out]
            have : (i + 1) * n ≤ n * n := Nat.mul_le_mul_right n hin
            rw [Nat.succ_mul] at this; omega
          obtain ⟨y, ey⟩ : ∃ y, y = xs.getD (i * n + k) 0 % p := ⟨_, rfl⟩
          have hyp : y < p := by rw [ey]; exact Nat.mod_lt _ (by omega)
          obtain ⟨s, es⟩ : ∃ s, s = p - y := ⟨_, rfl⟩
          have ha1 : IntKind.u64.wrap ((p : Int) - (y : Int)) = (s : Int) := by
            rw [show (p : Int) - (y : Int) = (s : Int) by omega]; exact wrap_u64 _ (by omega)
          obtain ⟨z, ez⟩ : ∃ z, z = s % p := ⟨_, rfl⟩
          have ha2 : (s : Int).tmod (p : Int) = (z : Int) := by rw [ez]; rfl
          have ha3 : (s : Int) % (p : Int) = (z : Int) := by rw [ez]; rfl
          have HZ := Lib.hid (show z = chZ p n xs i k by unfold chZ; rw [ez, es, ey])
          have EY := Lib.hid ey
          clear ez es ey
          go_wp2_with fail
          refine (rf21_At _ n n i k p xs _ (by omega) (HA.out.next (B1.trans (hB2.mono B1.size))) (by omega) (by omega) (by omega) hlt y EY.out).mono ?_; rintro e w5 ⟨rfl, b5⟩
          clear c0 c1 c2 KA2
          have o5 := own_lit1 w5 z
          have b55 := (Below.refl w5.heap.size w5).alloc (Nat.le_refl _) (.cells #[.int .u64 z] 27)
          obtain ⟨g5, eg5⟩ : ∃ g5, g5 = w5.heap.size := ⟨_, rfl⟩
          obtain ⟨wz, ewz⟩ : ∃ wz, wz = w5.alloc (.cells #[.int .u64 z] 27) := ⟨_, rfl⟩
          rw [← ewz] at o5 b55
          go_upto_region 10 with (fail)
          rw [← ewz, ← eg5]
          rw [← eg5] at o5
          have b5z := b5.trans (b55.mono b5.size)
          have hg5 : wr.heap.size ≤ g5 := by rw [eg5]; exact b5.size
          have hgz : g5 ≤ wz.heap.size := by rw [eg5]; exact b55.size
          clear ewz eg5 b5 b55
          have hks : wk.heap.size ≤ wz.heap.size := Nat.le_trans hB2.size b5z.size
          by_cases hik : i = k
          · have hb : ((i : Int) == (k : Int)) = true := by simp [hik]
            have HIK := Lib.hid hik; clear hik
            go_upto_region 12 with (at_builtin; refine apVl 32 27 8 (.int .u64 0) Try.underlying32 (by kernel_rfl) (by decide) rfl rfl (.tmp 35) (.tmp 36) rfl wz g5 (.slice (some ⟨g5, 0, none⟩) 1 1) 1 [.int .u64 z] (.int .u64 1) rfl o5 (by omega) hgz ?_ ?_ ?_; exact rfl; exact rfl; intro g6 cap6 w6 ho6 hb6 hg6 _)
            have o6 : Own .u64 27 w6 wr.heap.size (.slice (some ⟨g6, 0, none⟩) 2 cap6) (T i k) := by
              have h : Own .u64 27 w6 g5 (.slice (some ⟨g6, 0, none⟩) 2 cap6) [z, 1] := ho6
              rw [ET.out]; unfold chT; rw [if_pos HIK.out, ← HZ.out]; exact h.mono hg5
            have b6 := b5z.trans (hb6.mono hg5)
            have t16 := rowOwn_next t1 b6 (Nat.le_refl _)
            have hks6 : wk.heap.size ≤ w6.heap.size := Nat.le_trans hB2.size b6.size
            go_wp2_with (at_builtin; refine apVl 99 32 24 (.slice none 0 0) Try.underlying99 (by kernel_rfl) (by decide) rfl rfl _ _ rfl w6 wk.heap.size _ k (rowL k E') _ rfl t16 (by omega) hks6 rfl rfl ?_; intro g8 cap8 w8 ho8 hb8 hg8 _)
            have st := Lib.hid (ChI.push t1 t2 hB2 b6 o6 hb8 hg8 ho8)
            clear t1 t2 hB2 b6 o6 hb8 hg8 ho8 t16 s1 s2 s3 B1 KA b5z o5 ho6 hb6 hg6
            go_wp2
            go_roundw
            case rel => exact ⟨k + 1, _, _, by omega, by go_num, rfl, st.out⟩
            case measure => simp [intOf] <;> omega
          · have hb : ((i : Int) == (k : Int)) = false := by simp; omega
            have hb2 : ¬ (i : Int) = (k : Int) := by omega
            have o6 : Own .u64 27 wz wr.heap.size (.slice (some ⟨g5, 0, none⟩) 1 1) (T i k) := by
              rw [ET.out]; unfold chT; rw [if_neg hik, ← HZ.out]; exact o5.mono hg5
            have b6 := b5z
            have t16 := rowOwn_next t1 b6 (Nat.le_refl _)
            have hks6 : wk.heap.size ≤ wz.heap.size := Nat.le_trans hB2.size b6.size
            go_wp2_with (at_builtin; refine apVl 99 32 24 (.slice none 0 0) Try.underlying99 (by kernel_rfl) (by decide) rfl rfl _ _ rfl wz wk.heap.size _ k (rowL k E') _ rfl t16 (by omega) hks6 rfl rfl ?_; intro g8 cap8 w8 ho8 hb8 hg8 _)
            have st := Lib.hid (ChI.push t1 t2 hB2 b6 o6 hb8 hg8 ho8)
            clear t1 t2 hB2 b6 o6 hb8 hg8 ho8 t16 s1 s2 s3 B1 KA b5z o5
            go_wp2
            go_roundw
            case rel => exact ⟨k + 1, _, _, by omega, by go_num, rfl, st.out⟩
            case measure => simp [intOf] <;> omega
        · obtain rfl : k = n := by omega
          have s12 := rowOwn_next s1 hB2 (Nat.le_refl _)
          have hbs : wb.heap.size ≤ wr.heap.size := Nat.le_trans B1.size hB2.size
          go_wp2_with (at_builtin; refine apVl 98 99 24 (.slice none 0 0) Try.underlying98 (by kernel_rfl) (by decide) rfl rfl _ _ rfl wr wb.heap.size _ i (rowL i U) _ rfl s12 (by omega) hbs rfl rfl ?_; intro g8 cap8 w8 ho8 hb8 hg8 _)
          have st := Lib.hid (ChO.push s1 s2 s3 B1 st hb8 hg8 ho8)
          clear s1 s2 s3 B1 hb8 hg8 ho8 s12 KA KA2 hB2 c0 c1 c2
          go_wp2
          go_roundw
          case rel => exact ⟨i + 1, by omega, by go_num, st.out⟩
          case measure => simp [intOf] <;> omega
    · obtain rfl : i = n := by omega
      obtain ⟨U2, E2, hpm⟩ := ChO.fin (p := p) (T := T) ⟨U, E, s1, s2, s3, B1⟩ (by rw [ET.out]; exact chT_len xs)
      have B2 := HB0.out.trans (B1.mono HB0.out.size)
      clear s1 s2 s3 B1 KA
      go_wp2_with fail
      refine (rf22_Det p 2 HP.out i hn (by omega) _ _ U2 E2 _ hpm).mono ?_; rintro e w9 ⟨r9, z9, rfl, o9, n9, v9, l9, b9⟩
      have V9 := Lib.hid (show pl p z9 = chi (mx p i i xs) by rw [v9, ET.out]; exact chT_dn HP.out xs)
      have B9 := B2.trans (b9.mono B2.size)
      have o9' := o9.mono B2.size
      clear v9 o9 b9 hpm B2 c0
      go_wp2
      go_ret
      exact ⟨r9, z9, rfl, o9', n9, V9.out, l9, B9⟩

end Go.Proofs.Ythghdjpjbngllaa
