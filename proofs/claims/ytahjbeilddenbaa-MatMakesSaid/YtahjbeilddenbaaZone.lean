/- The reference's identity; which matrices are of noughts. -/
import Derived.Test.YtahjbeilddenbaaZmk
import Derived.Test.YtahjbeilddenbaaZsame
namespace Go.Proofs.Ytahjbeilddenbaa
open Go.RowKit

set_option maxHeartbeats 1000000 in
theorem ref11_One (n : Nat) (w : World) (hn : n ≤ 64) :
    Calls Try.prog 30 #[.int .i64 n] w (RetZ w 1 (idL n)) := by
  show Calls Try.prog 30 #[.int .i64 n] w (RetZ w 1 (tab n (fun i k => if i = k then 1 else 0) (n * n)))
  obtain ⟨T, eT⟩ : ∃ T : Nat → Nat → Int, T = fun i k => if i = k then 1 else 0 := ⟨_, rfl⟩
  rw [← eT]
  have ET := Lib.hid eT; clear eT
  go_enter Try.func30, Try.ntmps30
  go_wp2
  go_loopw [4, 3] (fun iv u wr => ∃ (i : Nat) (es : List (Bool × Value)), i ≤ n ∧ iv = .int .i64 i ∧ ZO wr w.heap.size u (tab n T (i * n)) 1 es ∧ Below w.heap.size w wr) (fun iv _ _ => n - (intOf iv).toNat)
  case atStart => exact ⟨0, [], by omega, rfl, by rw [Nat.zero_mul]; exact ZO.nil _ _ _, Below.refl _ _⟩
  case round =>
    obtain ⟨i, es, hi, rfl, hz, hb⟩ := hrel
    by_cases hir : i < n
    · go_wp2
      go_loopw [5, 3] (fun kv u wr => ∃ (k : Nat) (es : List (Bool × Value)), k ≤ n ∧ kv = .int .i64 k ∧ ZO wr w.heap.size u (tab n T (i * n + k)) 1 es ∧ Below w.heap.size w wr) (fun kv _ _ => n - (intOf kv).toNat)
      case atStart => exact ⟨0, es, by omega, rfl, by rw [Nat.add_zero]; exact hz, hb⟩
      case round =>
        clear hz hb es
        obtain ⟨k, es, hk, rfl, hz, hb⟩ := hrel
        by_cases hkc : k < n
        · go_wp2_with fail
          refine (zi_Of 0 _ (by omega)).mono ?_; rintro e w1 ⟨v1, rfl, h1, b1, q1⟩
          obtain ⟨s1, a1, n1, c1, rfl⟩ := h1.agg
          obtain ⟨B, eB⟩ : ∃ B, B = wr.heap.size := ⟨_, rfl⟩
          rw [← eB] at q1
          have hB1 : B ≤ w1.heap.size := by rw [eB]; exact b1.size
          have hrow : ∀ g, u3.ownBlock = some g → g < B := fun g hg => by rw [eB]; exact (World.ownsRow.lt hz.own g hg).2
          clear eB
          replace hz := hz.next b1; replace hb := hb.trans (b1.mono hb.size)
          clear b1
          obtain ⟨wx, ewx, KX, BX, hsx⟩ := boxes1 w1 36 [.bool s1, .slice a1 n1 c1]
          clear hsx
          have HT := Lib.hid (tab_at (i := i) (k := k) T hkc)
          have hik : i * n ≤ 64 * 64 := Nat.mul_le_mul (by omega) hn
          by_cases he : i = k
          · have hq : ((i : Int) == (k : Int)) = true := by simp; omega
            have hT : T i k = 1 := by rw [ET.out]; exact if_pos he
            clear he
            go_upto_region 9 with (fail)
            rw [← ewx]
            obtain ⟨gx, egx⟩ : ∃ gx, gx = w1.heap.size := ⟨_, rfl⟩
            rw [← egx] at KX ⊢
            have hgx : w1.heap.size ≤ gx := by omega
            clear ewx egx
            have hB2 := Nat.le_trans hB1 BX.size
            clear h1 q1
            go_wp2_with fail
            refine (zi_Of 1 _ (by omega)).mono ?_; rintro e w2 ⟨v2, rfl, h2, b2, q2⟩
            obtain ⟨s2, a2, n2, c2, rfl⟩ := h2.agg
            replace BX := BX.trans (b2.mono BX.size)
            replace KX := KX.next b2
            have f0 := KX.free 0; have f1 := KX.free 1
            have c0 := KX.cell 0; have c1 := KX.cell 1
            rw [← hT] at h2
            have h2' := h2.put KX s2 (.slice a2 n2 c2)
            have KX' := (KX.set 0 (.bool s2)).set 1 (.slice a2 n2 c2)
            have hbx' := (BX.setCell (p := ⟨gx, 0, none⟩) hgx (.bool s2)).setCell (p := ⟨gx, 1, none⟩) hgx (.slice a2 n2 c2)
            have hz' := hz.next hbx'
            have hb' := hb.trans (hbx'.mono hb.size)
            obtain ⟨wy, ewy⟩ : ∃ wy, wy = (w2.setCell ⟨gx, 0, none⟩ (.bool s2)).setCell ⟨gx, 1, none⟩ (.slice a2 n2 c2) := ⟨_, rfl⟩
            rw [← ewy] at h2' KX' hz' hb'
            have hrow' : ∀ g, u3.ownBlock = some g → Offb (.slice a2 n2 c2) g := fun g hg => q2.offb (Nat.lt_of_lt_of_le (hrow g hg) hB2)
            clear KX h2 b2 hz hb BX hbx' hq
            go_upto_region 11 with (fail)
            rw [← ewy]
            clear ewy f0 f1 c0 c1
            have e0 := KX'.cell 0; have e1 := KX'.cell 1
            clear KX'
            go_wp2_with (at_builtin; refine zapL 22 32 (.agg #[.bool false, .slice none 0 0]) Try.underlying22 (by kernel_rfl) (by decide) rfl rfl _ _ rfl wy w.heap.size u3 (tab n T (i * n + k)) 1 es (T i k) s2 (.slice a2 n2 c2) hz' h2' hrow' (by rw [tab_length]; omega) hb'.size rfl rfl ?_; intro gg cap1 w5 hown' hbel' hgr')
            rw [← HT.out] at hown'
            have hb5 := hb'.trans hbel'
            go_roundw
            case rel => exact ⟨k + 1, _, by omega, by go_num, hown', hb5⟩
            case measure => simp [intOf] <;> omega
          · have hq : ((i : Int) == (k : Int)) = false := by simp; omega
            have hT : T i k = 0 := by rw [ET.out]; exact if_neg he
            rw [← hT] at h1
            go_upto_region 11 with (fail)
            rw [← ewx]
            obtain ⟨gx, egx⟩ : ∃ gx, gx = w1.heap.size := ⟨_, rfl⟩
            rw [← egx] at KX ⊢
            clear ewx egx hq he
            replace hz := hz.next BX; replace hb := hb.trans (BX.mono hb.size)
            replace h1 := h1.next BX
            have e0 := KX.cell 0; have e1 := KX.cell 1
            have hrow' : ∀ g, u3.ownBlock = some g → Offb (.slice a1 n1 c1) g := fun g hg => q1.offb (hrow g hg)
            go_wp2_with (at_builtin; refine zapL 22 32 (.agg #[.bool false, .slice none 0 0]) Try.underlying22 (by kernel_rfl) (by decide) rfl rfl _ _ rfl wx w.heap.size u3 (tab n T (i * n + k)) 1 es (T i k) s1 (.slice a1 n1 c1) hz h1 hrow' (by rw [tab_length]; omega) hb.size rfl rfl ?_; intro gg cap1 w5 hown' hbel' hgr')
            rw [← HT.out] at hown'
            have hb5 := hb.trans hbel'
            go_roundw
            case rel => exact ⟨k + 1, _, by omega, by go_num, hown', hb5⟩
            case measure => simp [intOf] <;> omega
        · obtain rfl : k = n := by omega
          go_wp2
          go_roundw
          case rel => exact ⟨i + 1, es, by omega, by go_num, by rw [Nat.succ_mul]; exact hz, hb⟩
          case measure => simp [intOf] <;> omega
    · obtain rfl : i = n := by omega
      go_wp2
      go_ret
      exact ⟨_, rfl, hz.zs, hb⟩

theorem zmat_Zero1 (v : Value) (x : Int) (L : Nat) (w : World) (hv : Iv w v x L) (hL : L ≤ 1000000) (β : Bool) (hβ : β = decide (x ≠ 0)) :
    Calls Try.prog 68 #[v] w (RetW w (.bool β)) := by
  obtain ⟨s, ao, n, c, rfl⟩ := hv.agg
  obtain ⟨wb, ew, KA, B0, hsz⟩ := boxes1 w 36 [.bool s, .slice ao n c]
  clear hsz
  replace hv := hv.next B0
  have HB := Lib.hid hβ; clear hβ
  go_enter Try.func68, Try.ntmps68
  go_upto_region 1 with (fail)
  rw [← ew]
  clear ew
  have q0 := KA.cell 0; have q1 := KA.cell 1
  go_wp2_with fail
  refine (zi_Sign _ x L _ hv hL).mono ?_; rintro e w2 ⟨rfl, b2⟩
  replace B0 := B0.trans (b2.mono B0.size)
  clear q0 q1 KA hv b2
  obtain ⟨y, hy⟩ : ∃ y, y = zs x := ⟨_, rfl⟩
  rw [← hy]
  have hb : decide (y ≠ 0) = β := by rw [HB.out, hy]; exact decide_eq_decide.2 (by unfold zs; split <;> (try split) <;> omega)
  have hb2 : (y != 0) = β := by rw [← hb]; by_cases h : y = 0 <;> simp [h]
  clear HB hy hb
  go_wp2
  go_ret
  exact ⟨rfl, B0⟩

theorem indexFunc (u : Value) (xs : List Int) (L : Nat) (w : World) (hx : Zs w u xs L) (hL : L ≤ 1000000) (hN : xs.length ≤ 1000000) (β : Bool) (hβ : β = true ↔ ∀ j, j < xs.length → xs.getD j 0 = 0) :
    Calls Try.prog 88 #[u, .func (.func 68) #[] #[]] w (fun e w' => ∃ j : Int, e = .returned (.int .i64 j) ∧ Below w.heap.size w w' ∧ decide (j ≥ 0) = !β) := by
  obtain ⟨ao, b, off, cap, rfl, hcap, hcx⟩ := hx
  have HB := Lib.hid hβ; clear hβ
  go_enter Try.func88, Try.ntmps88
  go_wp2
  go_loopw [8] (fun iv wr => ∃ i : Nat, i ≤ xs.length ∧ iv = .int .i64 i ∧ Below w.heap.size w wr ∧ ∀ j, j < i → xs.getD j 0 = 0) (fun iv _ => xs.length - (intOf iv).toNat)
  case atStart => exact ⟨0, by omega, rfl, Below.refl _ _, fun j hj => by omega⟩
  case round =>
    obtain ⟨i, hi, rfl, hb, hall⟩ := hrel
    have HALL := Lib.hid hall; clear hall
    by_cases hil : i < xs.length
    · obtain ⟨s, x, q1, q2, q3⟩ := hcx.cell i hil
      have hne : xs ≠ [] := by intro h; subst h; simp at hil
      have hao := hcx.ao hne
      subst hao
      replace q3 := q3.next hb
      have f1 := (hb.cell (p := ⟨b, off + i * 2, none⟩) (World.block_lt_of_cell? _ _ q1)).trans q1
      have f2 := (hb.cell (p := ⟨b, off + i * 2 + 1, none⟩) (World.block_lt_of_cell? _ _ q2)).trans q2
      clear q1 q2
      by_cases he : xs.getD i 0 = 0
      · have C0 := Lib.hid (zmat_Zero1 _ _ L _ q3 hL false (decide_eq_false (fun h => h he)).symm)
        go_wp2_with fail
        refine (C0.out).mono ?_; rintro e w2 ⟨rfl, b2⟩
        replace hb := hb.trans (b2.mono hb.size)
        clear C0 q3 b2 f1 f2
        have HE := Lib.hid he; clear he
        go_wp2
        go_roundw
        case rel =>
          refine ⟨i + 1, by omega, by go_num, hb, fun j hj => ?_⟩
          by_cases e : j = i
          · subst e; exact HE.out
          · exact HALL.out j (by omega)
        case measure => simp [intOf] <;> omega
      · have C0 := Lib.hid (zmat_Zero1 _ _ L _ q3 hL true (decide_eq_true he).symm)
        have hbf : β = false := by
          cases hb : β with
          | false => rfl
          | true => exact absurd (HB.out.1 hb i hil) he
        subst hbf
        clear he
        go_wp2_with fail
        refine (C0.out).mono ?_; rintro e w2 ⟨rfl, b2⟩
        replace hb := hb.trans (b2.mono hb.size)
        clear C0 q3 b2 f1 f2 HALL HB
        go_wp2
        go_ret
        exact ⟨i, rfl, hb, by simp⟩
    · obtain rfl : i = xs.length := by omega
      have hbt : β = true := HB.out.2 HALL.out
      subst hbt
      clear HB HALL hcx
      go_wp2
      go_ret
      exact ⟨-1, rfl, hb, by decide⟩

theorem containsFunc (u : Value) (xs : List Int) (L : Nat) (w : World) (hx : Zs w u xs L) (hL : L ≤ 1000000) (hN : xs.length ≤ 1000000) (β : Bool) (hβ : β = true ↔ ∀ j, j < xs.length → xs.getD j 0 = 0) :
    Calls Try.prog 67 #[u, .func (.func 68) #[] #[]] w (RetW w (.bool (!β))) := by
  have C0 := Lib.hid (indexFunc u xs L w hx hL hN β hβ)
  obtain ⟨ao, b, off, cap, rfl, hcap, hcx⟩ := hx
  clear hβ hcx hcap
  go_enter Try.func67, Try.ntmps67
  go_wp2_with fail
  refine (C0.out).mono ?_; rintro e w2 ⟨j, rfl, b2, hj⟩
  clear C0
  go_wp2
  go_ret
  exact ⟨rfl, b2⟩

theorem zmat_Zero (v : Value) (r c : Nat) (xs : List Int) (L : Nat) (w : World) (hA : Mt w v r c xs L) (hr : r ≤ 64) (hc : c ≤ 64) (hx : xs.length = r * c) (hL : L ≤ 1000000) (β : Bool) (hβ : β = true ↔ ∀ j, j < xs.length → xs.getD j 0 = 0) :
    Calls Try.prog 36 #[v] w (RetW w (.bool β)) := by
  obtain ⟨ao, ca, rfl⟩ := hA.agg
  obtain ⟨wb, ew, KA, B0, hsz⟩ := boxes1 w 24 [.int .i64 r, .int .i64 c, .slice ao xs.length ca]
  clear hsz
  replace hA := hA.next B0
  have hN : xs.length ≤ 1000000 := by
    have : r * c ≤ 64 * 64 := Nat.mul_le_mul hr hc
    omega
  have HX := Lib.hid hx; clear hx
  have HB := Lib.hid hβ; clear hβ
  go_enter Try.func36, Try.ntmps36
  go_wp2_with fail
  rw [← ew]
  clear ew
  refine (zmat_Formed_yes _ r c xs L _ hA (Fm.of hr hc HX.out)).mono ?_; rintro e w2 ⟨rfl, b2⟩
  replace hA := hA.next b2; replace KA := KA.next b2
  replace B0 := B0.trans (b2.mono B0.size)
  obtain ⟨u, eu, zA⟩ := hA
  simp only [Value.agg.injEq, Array.mk.injEq, List.cons.injEq, and_true, true_and] at eu
  subst eu
  have q1 := KA.cell 2
  clear b2
  go_wp2_with fail
  refine (containsFunc _ xs L _ zA hL hN β HB.out).mono ?_; rintro e w3 ⟨rfl, b3⟩
  replace B0 := B0.trans (b3.mono B0.size)
  clear q1 HB zA KA b3
  cases β <;>
  · go_wp2
    go_ret
    exact ⟨rfl, B0⟩

end Go.Proofs.Ytahjbeilddenbaa
