/- xform: IsSmith. -/
import Derived.Test.YtkmfhabgempjiaaQcM16
import Derived.Test.YtkmfhabgempjiaaQcM5
namespace Go.Proofs.Ytkmfhabgempjiaa
open Go.RowKit

set_option maxRecDepth 20000 in
set_option maxHeartbeats 4000000 in
theorem xf_IsHermite_no (p : Nat) (a : Value) (R C : Int) (xs : List (List Nat)) (w : World) (hA : Xm w a R C xs) (hF : ¬ Fd R C xs.length) :
    Calls Try.prog 40 #[.agg #[.int .u64 p], a] w (RetW w (.bool false)) := by
  obtain ⟨aA, cA, rfl⟩ := hA.agg
  obtain ⟨wb, ew, KF, KA, B0, hsz⟩ := boxes2 w 29 24 [.int .u64 p] [.int .i64 R, .int .i64 C, .slice aA xs.length cA]
  clear hsz
  replace hA := hA.next B0
  have HF := Lib.hid hF; clear hF
  go_enter Try.func40, Try.ntmps40
  go_upto_region 1 with (fail)
  rw [← ew]
  obtain ⟨g, eg⟩ : ∃ g, g = w.heap.size := ⟨_, rfl⟩
  rw [← eg] at KF KA ⊢
  clear ew eg
  have a0 := KA.cell 0; have a1 := KA.cell 1; have a2 := KA.cell 2
  go_wp2_with fail
  refine (xm_Formed_no _ R C xs _ hA HF.out).mono ?_; rintro e w1 ⟨rfl, b1⟩
  have FIN := Lib.hid (show RetW w (.bool false) (.returned (.bool false)) w1 from ⟨rfl, B0.trans (b1.mono B0.size)⟩)
  clear a0 a1 a2 KF KA B0 b1 hA
  go_wp2
  first | exact FIN.out | (go_ret; exact FIN.out)

set_option maxRecDepth 20000 in
set_option maxHeartbeats 4000000 in
theorem xf_IsSmith_no (p : Nat) (a : Value) (R C : Int) (xs : List (List Nat)) (w : World) (hA : Xm w a R C xs) (hF : ¬ Fd R C xs.length) :
    Calls Try.prog 41 #[.agg #[.int .u64 p], a] w (RetW w (.bool false)) := by
  obtain ⟨aA, cA, rfl⟩ := hA.agg
  obtain ⟨wb, ew, KF, KA, B0, hsz⟩ := boxes2 w 29 24 [.int .u64 p] [.int .i64 R, .int .i64 C, .slice aA xs.length cA]
  clear hsz
  replace hA := hA.next B0
  have HF := Lib.hid hF; clear hF
  go_enter Try.func41, Try.ntmps41
  go_upto_region 1 with (fail)
  rw [← ew]
  obtain ⟨g, eg⟩ : ∃ g, g = w.heap.size := ⟨_, rfl⟩
  rw [← eg] at KF KA ⊢
  clear ew eg
  have a0 := KA.cell 0; have a1 := KA.cell 1; have a2 := KA.cell 2
  go_wp2_with fail
  refine (xm_Formed_no _ R C xs _ hA HF.out).mono ?_; rintro e w1 ⟨rfl, b1⟩
  have FIN := Lib.hid (show RetW w (.bool false) (.returned (.bool false)) w1 from ⟨rfl, B0.trans (b1.mono B0.size)⟩)
  clear a0 a1 a2 KF KA B0 b1 hA
  go_wp2
  first | exact FIN.out | (go_ret; exact FIN.out)

set_option maxRecDepth 20000 in
set_option maxHeartbeats 4000000 in
theorem xf_IsSmith (p : Nat) (a : Value) (r c : Nat) (xs : List (List Nat)) (w : World) (hp : FP p) (ht : Trial p) (hA : Xm w a r c xs) (hr : r ≤ 64) (hc : c ≤ 64) (hx : xs.length = r * c) (hl : ∀ j, j < r * c → (xs.getD j []).length ≤ 1000000) (β : Bool) (hβ : β = true ↔ SmB r c (aT p c xs)) :
    Calls Try.prog 41 #[.agg #[.int .u64 p], a] w (RetW w (.bool β)) := by
  have HFd := Lib.hid (Fd.of hr hc hx)
  obtain ⟨aA, cA, rfl⟩ := hA.agg
  obtain ⟨wb, ew, KF, KA, B0, hsz⟩ := boxes2 w 29 24 [.int .u64 p] [.int .i64 r, .int .i64 c, .slice aA xs.length cA]
  clear hsz
  replace hA := hA.next B0
  have hn1 : Nrm p [1] := ⟨wf_cons (by have := hp.1; omega) (wf_nil _), rfl⟩
  obtain ⟨W, eW⟩ : ∃ W, W = aT p c xs := ⟨_, rfl⟩
  rw [← eW] at hβ
  have HP := Lib.hid hp; have HTR := Lib.hid ht; have HX := Lib.hid hx; have HLL := Lib.hid hl; have HBE := Lib.hid hβ; have EW := Lib.hid eW; have HN1 := Lib.hid hn1; clear hp ht hx hl hβ eW hn1
  go_enter Try.func41, Try.ntmps41
  go_upto_region 1 with (fail)
  rw [← ew]
  obtain ⟨g, eg⟩ : ∃ g, g = w.heap.size := ⟨_, rfl⟩
  rw [← eg] at KF KA ⊢
  clear ew eg
  have a0 := KA.cell 0; have a1 := KA.cell 1; have a2 := KA.cell 2
  go_wp2_with fail
  refine (xm_Formed_yes _ r c xs _ hA HFd.out).mono ?_; rintro e w1 ⟨rfl, b1⟩
  clear a0 a1 a2
  have ba := (Below.refl w1.heap.size w1).alloc (Nat.le_refl _) (.cells #[.int .u64 1] 27)
  have tl := (own_lit1 w1 1).sl
  have bb := b1.trans (ba.mono b1.size)
  replace KF := KF.next bb; replace KA := KA.next bb; replace hA := hA.next bb
  have B1 := B0.trans (bb.mono B0.size)
  have f0 := KF.cell 0; have a0 := KA.cell 0; have a1 := KA.cell 1; have a2 := KA.cell 2
  clear b1 ba bb B0
  go_wp2_with fail
  refine (xf_rowsOf p _ r c xs _ HP.out hA hr hc HX.out HLL.out).mono ?_; rintro e w2 ⟨rv, U, E, rfl, X, b2⟩
  rw [← EW.out] at X
  replace tl := tl.next b2; replace KF := KF.next b2
  clear f0 a0 a1 a2 hA KA
  have B2 := B1.trans (b2.mono B1.size)
  obtain ⟨arv, crv, erv⟩ := X.slc
  subst erv
  obtain ⟨g1, eg1⟩ : ∃ g1, g1 = w1.heap.size := ⟨_, rfl⟩
  rw [← eg1] at tl ⊢
  obtain ⟨l0, el0⟩ : ∃ l0, l0 = (w1.alloc (.cells #[.int .u64 1] 27)).heap.size := ⟨_, rfl⟩
  rw [← el0] at X
  have HX2 := Lib.hid X; have HKF := Lib.hid KF; have HTL := Lib.hid tl; have HB2 := Lib.hid B2
  clear b2 B1 eg1 el0 X KF tl B2
  go_wp2
  go_loopw [5, 18] (fun lv iv wr => ∃ (i : Nat) (zl : List Nat), i ≤ r ∧ iv = .int .i64 i ∧ (∀ a b, a < i → b < c → SmP c W a b) ∧ Sl .u64 wr lv zl ∧ Nrm p zl ∧ pl p zl = lastD c W i ∧ zl.length ≤ 1000000 ∧ Below w2.heap.size w2 wr) (fun _ iv _ => r - (intOf iv).toNat)
  case atStart => exact ⟨0, [1], Nat.zero_le _, rfl, fun a b h => absurd h (by omega), HTL.out, HN1.out, pl_one p, by simp, Below.refl _ _⟩
  case round =>
    clear HTL
    obtain ⟨i, zl, hi, rfl, hrows, hlv, nl1, vl, ll, BR⟩ := hrel
    have HRO := Lib.hid hrows; have HLV := Lib.hid hlv; have NL := Lib.hid nl1; have VL := Lib.hid vl
    clear hrows hlv nl1 vl
    by_cases hir : i < r
    · have X := HX2.out.next BR
      obtain ⟨gh, cap, e1, -⟩ := X.hdr hir
      simp only [Value.slice.injEq, true_and] at e1
      obtain ⟨rfl, rfl⟩ := e1
      obtain ⟨q1, -, -⟩ := X.cellU hir
      obtain ⟨aU, cU, eU⟩ := X.rslc hir
      rw [eU] at q1
      have EU := Lib.hid eU
      clear X eU
      go_wp2
      clear q1
      go_loopw [5, 25] (fun lv kv ws => ∃ (k : Nat) (zl : List Nat), k ≤ c ∧ kv = .int .i64 k ∧ (∀ b, b < k → SmP c W i b) ∧ Sl .u64 ws lv zl ∧ Nrm p zl ∧ pl p zl = (if i < k then W i i else lastD c W i) ∧ zl.length ≤ 1000000 ∧ Below w2.heap.size w2 ws) (fun _ kv _ => c - (intOf kv).toNat)
      case atStart => exact ⟨0, zl, Nat.zero_le _, rfl, fun b h => absurd h (by omega), HLV.out, NL.out, by rw [if_neg (by omega)]; exact VL.out, ll, BR⟩
      case round =>
        clear HLV NL VL ll BR
        obtain ⟨k, zl, hk, rfl, hrow, hlv, nl1, vl, ll, BR⟩ := hrel
        have HRW := Lib.hid hrow; have NL := Lib.hid nl1; have VL := Lib.hid vl
        clear hrow nl1 vl
        by_cases hkc : k < c
        · have X := HX2.out.next BR; have KF := HKF.out.next BR
          have f0 := KF.cell 0
          obtain ⟨bI, cI, eI, -, -, -, -, hIc, -⟩ := X.at hir (by omega)
          rw [EU.out] at eI
          simp only [Value.slice.injEq, true_and] at eI
          obtain ⟨rfl, rfl⟩ := eI
          obtain ⟨a5, n5', c5, z5, eX, lX, oX, n5, hv⟩ := Vn.open (X.el i k hir hkc)
          have q2 := hIc k hkc
          rw [eX] at q2
          obtain rfl : n5' = z5.length := lX.symm
          have hlt : i * c + k < r * c := at_lt rfl hir hkc
          have hl5 : z5.length ≤ 1000000 := nrm_len HP.out.pos n5 (by rw [hv, EW.out]; exact fun j hj => pl_dlt p _ j (by have := HLL.out _ hlt; omega))
          have hs5 := oX.sl
          have N5 := Lib.hid n5; have HV := Lib.hid hv
          have hz0 : W i k = 0 ↔ z5.length = 0 := by
            rw [← hv]
            exact ⟨fun e => by rw [pl_inj HP.out.pos n5 (nrm_nil p) (by rw [e, pl_nil])]; rfl, fun e => by rw [List.length_eq_zero_iff.1 e, pl_nil]⟩
          clear X KF hIc eX oX n5 hv lX hlt
          by_cases hik : i = k
          · subst hik
            have hm0 := nrm_mo HTR.out N5.out
            rw [HV.out] at hm0
            have hl0 : pl p zl = lastD c W i := by rw [VL.out, if_neg (Nat.lt_irrefl i)]
            have HM0 := Lib.hid hm0; have HL0 := Lib.hid hl0
            have HZ0 := Lib.hid hz0
            clear hm0 hl0 hz0
            by_cases hz : z5.length = 0
            · have hz1 : ¬ 0 < z5.length := by omega
              have HMO := Lib.hid (show Mo (W i i) from .inl (HZ0.out.2 hz))
              clear hz
              by_cases hdv : Dv (lastD c W i) (W i i)
              · have HDV := Lib.hid hdv
                clear hdv
                go_wp2_with fail
                (with_reducible refine (xf_divides p _ _ zl z5 wr HP.out HTR.out hlv hs5 NL.out N5.out ll hl5 true ⟨fun _ => by rw [HL0.out, HV.out]; exact HDV.out, fun _ => rfl⟩).mono ?_); rintro e w7 ⟨rfl, b7⟩
                have F1 := Lib.hid (row_succ HRW.out (SmP.on HMO.out HDV.out))
                have F2 := Lib.hid (hs5.next b7)
                have F3 := Lib.hid (BR.trans (b7.mono BR.size))
                clear b7 BR hlv hs5 f0
                go_wp2
                go_roundw
                case rel => exact ⟨i + 1, z5, by omega, by go_num, F1.out, F2.out, N5.out, by rw [if_pos (by omega)]; exact HV.out, hl5, F3.out⟩
                case measure => simp [intOf] <;> omega
              · have HDV := Lib.hid hdv
                clear hdv
                go_wp2_with fail
                (with_reducible refine (xf_divides p _ _ zl z5 wr HP.out HTR.out hlv hs5 NL.out N5.out ll hl5 false ⟨fun h => by simp at h, fun h => absurd (by rw [HL0.out, HV.out] at h; exact h) HDV.out⟩).mono ?_); rintro e w7 ⟨rfl, b7⟩
                have e1 : β = false := Bool.eq_false_iff.2 fun e => HDV.out ((HBE.out.1 e i i hir hkc).2 rfl).2
                have FIN := Lib.hid (show RetW w (.bool β) (.returned (.bool false)) w7 from ⟨by rw [e1], HB2.out.trans ((BR.trans (b7.mono BR.size)).mono HB2.out.size)⟩)
                clear b7 BR hlv hs5 f0 e1
                go_wp2
                first | exact FIN.out | (go_ret; exact FIN.out)
            · have hz1 : 0 < z5.length := by omega
              have hzz : z5 ≠ [] := fun e => hz (by rw [e]; rfl)
              clear hz
              go_wp2_with fail
              (with_reducible refine (xf_monic _ z5 _ hs5 hl5).mono ?_); rintro e w5 ⟨rfl, b5⟩
              replace BR := BR.trans (b5.mono BR.size)
              replace hlv := hlv.next b5; replace hs5 := hs5.next b5
              have q2' := (b5.cell (p := ⟨bI, i, none⟩) (World.block_lt_of_cell? _ _ q2)).trans q2
              have KF := HKF.out.next BR
              clear f0 q2 b5
              have f0 := KF.cell 0
              clear KF
              by_cases hmo : z5.getD (z5.length - 1) 0 = 1
              · have hd1 : decide (0 < z5.length ∧ z5.getD (z5.length - 1) 0 = 1) = true := decide_eq_true ⟨hz1, hmo⟩
                have HMO := Lib.hid (HM0.out.2 (.inr hmo))
                rw [hd1]
                clear hmo hd1 hzz hz1
                by_cases hdv : Dv (lastD c W i) (W i i)
                · have HDV := Lib.hid hdv
                  clear hdv
                  go_wp2_with fail
                  (with_reducible refine (xf_divides p _ _ zl z5 w5 HP.out HTR.out hlv hs5 NL.out N5.out ll hl5 true ⟨fun _ => by rw [HL0.out, HV.out]; exact HDV.out, fun _ => rfl⟩).mono ?_); rintro e w7 ⟨rfl, b7⟩
                  have F1 := Lib.hid (row_succ HRW.out (SmP.on HMO.out HDV.out))
                  have F2 := Lib.hid (hs5.next b7)
                  have F3 := Lib.hid (BR.trans (b7.mono BR.size))
                  clear b7 BR hlv hs5 f0
                  go_wp2
                  go_roundw
                  case rel => exact ⟨i + 1, z5, by omega, by go_num, F1.out, F2.out, N5.out, by rw [if_pos (by omega)]; exact HV.out, hl5, F3.out⟩
                  case measure => simp [intOf] <;> omega
                · have HDV := Lib.hid hdv
                  clear hdv
                  go_wp2_with fail
                  (with_reducible refine (xf_divides p _ _ zl z5 w5 HP.out HTR.out hlv hs5 NL.out N5.out ll hl5 false ⟨fun h => by simp at h, fun h => absurd (by rw [HL0.out, HV.out] at h; exact h) HDV.out⟩).mono ?_); rintro e w7 ⟨rfl, b7⟩
                  have e1 : β = false := Bool.eq_false_iff.2 fun e => HDV.out ((HBE.out.1 e i i hir hkc).2 rfl).2
                  have FIN := Lib.hid (show RetW w (.bool β) (.returned (.bool false)) w7 from ⟨by rw [e1], HB2.out.trans ((BR.trans (b7.mono BR.size)).mono HB2.out.size)⟩)
                  clear b7 BR hlv hs5 f0 e1
                  go_wp2
                  first | exact FIN.out | (go_ret; exact FIN.out)
              · have hd1 : decide (0 < z5.length ∧ z5.getD (z5.length - 1) 0 = 1) = false := decide_eq_false fun h => hmo h.2
                have e1 : β = false := Bool.eq_false_iff.2 fun e => (HM0.out.1 ((HBE.out.1 e i i hir hkc).2 rfl).1).elim hzz hmo
                have FIN := Lib.hid (show RetW w (.bool β) (.returned (.bool false)) w5 from ⟨by rw [e1], HB2.out.trans (BR.mono HB2.out.size)⟩)
                rw [hd1]
                clear hmo hd1 hzz BR hlv hs5 e1
                go_wp2
                first | exact FIN.out | (go_ret; exact FIN.out)
          · by_cases hz : z5.length = 0
            · have F1 := Lib.hid (row_succ HRW.out (SmP.off (c := c) hik (hz0.2 hz)))
              have F2 := Lib.hid hlv
              have F3 := Lib.hid BR
              have F4 := Lib.hid (show pl p zl = (if i < k + 1 then W i i else lastD c W i) by
                rw [VL.out]
                by_cases h : i < k
                · rw [if_pos h, if_pos (by omega)]
                · rw [if_neg h, if_neg (by omega)])
              have hz1 : ¬ 0 < z5.length := by omega
              have hk1 : ((i : Int) == (k : Int)) = false := by simp; omega
              clear hz hz0 hlv hs5 BR f0
              go_wp2
              go_roundw
              case rel => exact ⟨k + 1, zl, by omega, by go_num, F1.out, F2.out, NL.out, F4.out, ll, F3.out⟩
              case measure => simp [intOf] <;> omega
            · have e1 : β = false := Bool.eq_false_iff.2 fun e => hz (hz0.1 ((HBE.out.1 e i k hir hkc).1 hik))
              have FIN := Lib.hid (show RetW w (.bool β) (.returned (.bool false)) wr from ⟨by rw [e1], HB2.out.trans (BR.mono HB2.out.size)⟩)
              have hz1 : 0 < z5.length := by omega
              have hk1 : ((i : Int) == (k : Int)) = false := by simp; omega
              clear hz hz0 hlv hs5 BR f0 e1
              go_wp2
              first | exact FIN.out | (go_ret; exact FIN.out)
        · obtain rfl : k = c := by omega
          have F1 := Lib.hid (rows_succ HRO.out HRW.out)
          have F2 := Lib.hid hlv
          have F3 := Lib.hid BR
          have F4 := Lib.hid (show pl p zl = lastD k W (i + 1) by rw [VL.out]; rfl)
          clear hlv BR
          go_wp2
          go_roundw
          case rel => exact ⟨i + 1, zl, by omega, by go_num, F1.out, F2.out, NL.out, F4.out, ll, F3.out⟩
          case measure => simp [intOf] <;> omega
    · obtain rfl : i = r := by omega
      have e1 : β = true := HBE.out.2 HRO.out
      have FIN := Lib.hid (show RetW w (.bool β) (.returned (.bool true)) wr from ⟨by rw [e1], HB2.out.trans (BR.mono HB2.out.size)⟩)
      clear BR e1
      go_wp2
      first | exact FIN.out | (go_ret; exact FIN.out)

end Go.Proofs.Ytkmfhabgempjiaa
/- Layer 24, plain: choices of rows; all minors by those of increasing rows and columns. -/
namespace Go.Proofs.Ytkmfhabgempjiaa
open Go.RowKit

/-- The increasing choices of k numbers below n, as the reference makes them. -/
def chs : Nat → Nat → List (List Nat)
  | _, 0 => [[]]
  | 0, _ + 1 => []
  | n + 1, k + 1 => chs n (k + 1) ++ (chs n k).map fun l => l ++ [n]
theorem chs_zero (n : Nat) : chs n 0 = [[]] := by cases n <;> rfl
theorem chs_small : ∀ (n k : Nat), n < k → chs n k = []
  | 0, k + 1, _ => rfl
  | n + 1, k + 1, h => by
    show chs n (k + 1) ++ (chs n k).map _ = []
    rw [chs_small n (k + 1) (by omega), chs_small n k (by omega)]; rfl
theorem chs_len : ∀ (n k : Nat) (l : List Nat), l ∈ chs n k → l.length = k ∧ ∀ x ∈ l, x < n
  | n, 0, l, h => by
    rw [chs_zero] at h
    simp at h; subst h; simp
  | 0, k + 1, l, h => by simp [chs] at h
  | n + 1, k + 1, l, h => by
    rcases List.mem_append.1 h with h | h
    · obtain ⟨h1, h2⟩ := chs_len n (k + 1) l h
      exact ⟨h1, fun x hx => by have := h2 x hx; omega⟩
    · obtain ⟨l', h1, rfl⟩ := List.mem_map.1 h
      obtain ⟨h2, h3⟩ := chs_len n k l' h1
      refine ⟨by simp [h2], fun x hx => ?_⟩
      rcases List.mem_append.1 hx with hx | hx
      · have := h3 x hx; omega
      · simp at hx; omega
theorem chs_all : ∀ (n k : Nat) (r : Nat → Nat), (∀ i, i < k → r i < n) → (∀ i j, i < j → j < k → r i < r j) → (List.range k).map r ∈ chs n k
  | n, 0, r, _, _ => by rw [chs_zero]; simp
  | 0, k + 1, r, h, _ => absurd (h 0 (by omega)) (by omega)
  | n + 1, k + 1, r, h, hi => by
    by_cases e : r k = n
    · refine List.mem_append.2 (.inr (List.mem_map.2 ⟨(List.range k).map r, chs_all n k r (fun i hk => ?_) (fun i j h1 h2 => hi i j h1 (by omega)), ?_⟩))
      · have := hi i k hk (by omega); omega
      · rw [List.range_succ, List.map_append]; simp [e]
    · refine List.mem_append.2 (.inl (chs_all n (k + 1) r (fun i hk => ?_) hi))
      have h1 := h i hk
      have h2 := h k (by omega)
      by_cases e2 : i = k
      · subst e2; omega
      · have := hi i k (by omega) (by omega); omega
/-- What holds of increasing choices, and stays at changes of places and where two are the same, holds of all (three at most). -/
theorem srt {k n : Nat} (hk : k ≤ 3) {D : (Nat → Nat) → Prop} (hs : ∀ (r : Nat → Nat) (i j : Nat), i < j → j < k → D (fun a => if a = i then r j else if a = j then r i else r a) → D r) (hrep : ∀ (r : Nat → Nat) (i j : Nat), i < j → j < k → r i = r j → D r)
    (hinc : ∀ r : Nat → Nat, (∀ i, i < k → r i < n) → (∀ i j, i < j → j < k → r i < r j) → D r) : ∀ (M : Nat) (r : Nat → Nat), 3 * r 0 + 2 * r 1 + r 2 ≤ M → (∀ i, i < k → r i < n) → D r := by
  intro M
  induction M using Nat.strongRecOn with
  | ind M ih =>
    intro r hM hr
    by_cases h1 : ∃ i j, i < j ∧ j < k ∧ r j < r i
    · obtain ⟨i, j, hij, hj, hlt⟩ := h1
      refine hs r i j hij hj ?_
      have hb : ∀ a, a < k → (if a = i then r j else if a = j then r i else r a) < n := fun a ha => by
        split
        · exact hr j hj
        · split
          · exact hr i (by omega)
          · exact hr a ha
      refine ih (M - 1) ?_ _ ?_ hb
      · have : 0 < M := by
          rcases (show i = 0 ∨ i = 1 by omega) with rfl | rfl
          · omega
          · omega
        omega
      · rcases (show (i = 0 ∧ j = 1) ∨ (i = 0 ∧ j = 2) ∨ (i = 1 ∧ j = 2) by omega) with ⟨rfl, rfl⟩ | ⟨rfl, rfl⟩ | ⟨rfl, rfl⟩
        · simp only [if_true, if_neg (show (1 : Nat) ≠ 0 by decide), if_neg (show (2 : Nat) ≠ 0 by decide), if_neg (show (2 : Nat) ≠ 1 by decide)]; omega
        · simp only [if_true, if_neg (show (1 : Nat) ≠ 0 by decide), if_neg (show (1 : Nat) ≠ 2 by decide), if_neg (show (2 : Nat) ≠ 0 by decide)]; omega
        · simp only [if_true, if_neg (show (0 : Nat) ≠ 1 by decide), if_neg (show (0 : Nat) ≠ 2 by decide), if_neg (show (2 : Nat) ≠ 1 by decide)]; omega
    · by_cases h2 : ∃ i j, i < j ∧ j < k ∧ r i = r j
      · obtain ⟨i, j, hij, hj, he⟩ := h2
        exact hrep r i j hij hj he
      · refine hinc r hr fun i j hij hj => ?_
        have a1 : ¬ r j < r i := fun h => h1 ⟨i, j, hij, hj, h⟩
        have a2 : ¬ r i = r j := fun h => h2 ⟨i, j, hij, hj, h⟩
        omega
theorem map_get {k : Nat} (r : Nat → Nat) {i : Nat} (hi : i < k) : ((List.range k).map r).getD i 0 = r i := by
  simp [List.getD, hi]
section
open CR
variable {p : Nat}
/-- What divides the minors of increasing rows divides those of all rows (the columns are fixed). -/
theorem minor_rows {g : Pol (Zp p)} {k n : Nat} {A : (Nat → Nat → Pol (Zp p))} {c : Nat → Nat} (hk : k ≤ 3) (h : ∀ R ∈ chs n k, Dv g (dn k fun i j => A (R.getD i 0) (c j))) : ∀ r : Nat → Nat, (∀ i, i < k → r i < n) → Dv g (dn k fun i j => A (r i) (c j)) := fun r hr => by
  refine srt (n := n) hk (D := fun r => Dv g (dn k fun i j => A (r i) (c j))) (fun r i j hij hj hd => ?_) (fun r i j hij hj he => ?_) (fun r hr hi => ?_) _ r (Nat.le_refl _) hr
  · have h2 := dn_swap (n := k) (fun i j => A (r i) (c j)) (i := i) (j := j) (by omega) (by omega) hj
    have h3 : (dn k fun a b => A (if a = i then r j else if a = j then r i else r a) (c b)) = dn k (swB (fun i j => A (r i) (c j)) i j) := dn_congr _ fun a b _ _ => by
      unfold swB
      split
      · rfl
      · split <;> rfl
    have h4 : Dv g (-dn k fun i j => A (r i) (c j)) := by rw [← h2, ← h3]; exact hd
    have h5 := h4.neg
    rwa [CR.neg_neg] at h5
  · show Dv g (dn k fun i j => A (r i) (c j))
    rw [dn_rep hij hj (by funext b; rw [he])]; exact Dv.zero _
  · have h1 := h _ (chs_all n k r hr hi)
    have e : (dn k fun i j => A (r i) (c j)) = dn k fun i j => A (((List.range k).map r).getD i 0) (c j) := dn_congr k fun i j hi' _ => by rw [map_get r hi']
    show Dv g (dn k fun i j => A (r i) (c j))
    rw [e]; exact h1
/-- What divides the minors of increasing rows and columns divides all minors. -/
theorem minors_all {g : Pol (Zp p)} {k n m : Nat} {A : (Nat → Nat → Pol (Zp p))} (hk : k ≤ 3) (h : ∀ R ∈ chs n k, ∀ C ∈ chs m k, Dv g (dn k fun i j => A (R.getD i 0) (C.getD j 0))) : Dvm g k n m A := by
  intro r c hr hc
  have h1 : ∀ C ∈ chs m k, Dv g (dn k fun i j => A (r i) (C.getD j 0)) := fun C hC => minor_rows hk (fun R hR => h R hR C hC) r hr
  have h2 := minor_rows (A := fun i j => A j i) (n := m) (c := r) hk (fun C hC => by
    rw [← dn_tr]; exact h1 C hC) c hc
  rw [← dn_tr] at h2
  exact h2
/-- The greatest common divisor of all minors. -/
structure MnG (k : Nat) (A : (Nat → Nat → Pol (Zp p))) (S : List Nat → List Nat → Prop) (g : Pol (Zp p)) : Prop where
  mo : Mo g
  dv : ∀ R C, S R C → Dv g (dn k fun i j => A (R.getD i 0) (C.getD j 0))
  great : ∀ h, (∀ R C, S R C → Dv h (dn k fun i j => A (R.getD i 0) (C.getD j 0))) → Dv h g
theorem MnG.start {k : Nat} {A : (Nat → Nat → Pol (Zp p))} {S : List Nat → List Nat → Prop} (hS : ∀ R C, ¬ S R C) : MnG k A S (0 : Pol (Zp p)) := ⟨.inl rfl, fun R C h => absurd h (hS R C), fun h _ => Dv.zero h⟩
/-- The product of the first ones on Smith's diagonal is the greatest common divisor of the minors. -/
theorem smith_minors (tr : Trial p) {n m t k : Nat} {A U W V : (Nat → Nat → Pol (Zp p))} {g : Pol (Zp p)} (h : SmR (MT.of n m A) U W V) (hI : SmI t n m W) (htn : t ≤ n) (htm : t ≤ m) (hz : ∀ a b, t ≤ a → a < n → t ≤ b → b < m → W a b = 0) (hk : k ≤ 3) (hkn : k ≤ n) (hkm : k ≤ m) (hg : MnG k A (fun R C => R ∈ chs n k ∧ C ∈ chs m k) g) :
    g = pr (dgo t W) k := by
  have hch := hI.chain htn htm
  have e1 := hI.done hz
  have hE : Eqv (MT.of n m A) (MT.of n m (dg (dgo t W))) := by rw [← e1]; exact h.eqv
  refine Mo.unique tr hg.mo (hch.pr k) ?_ ?_
  · have h1 : Dvm g k n m A := minors_all hk fun R hR C hC => hg.dv R C ⟨hR, hC⟩
    have h2 : Dvm g k n m (MT.of n m A).e := h1.congr fun i j hi hj => (MT.of_e _ hi hj).symm
    have h3 := hE.dvm.1 h2
    exact dvm_lead (h3.congr fun i j hi hj => MT.of_e _ hi hj) hkn hkm
  · refine hg.great _ fun R C hS => ?_
    have h1 : Dvm (pr (dgo t W) k) k n m (MT.of n m (dg (dgo t W))).e := Dvm.congr (A := dg (dgo t W)) (fun r c _ _ => dvm_dg hch.dv k r c) fun i j hi hj => (MT.of_e _ hi hj).symm
    have h2 : Dvm (pr (dgo t W) k) k n m A := (hE.dvm.2 h1).congr fun i j hi hj => MT.of_e _ hi hj
    have hR := chs_len n k R hS.1
    have hC := chs_len m k C hS.2
    have hget : ∀ {l : List Nat} {N i : Nat}, (l.length = k ∧ ∀ x ∈ l, x < N) → i < k → l.getD i 0 < N := fun {l N i} hl hi => by
      have : l.getD i 0 = l[i]'(by omega) := by simp [List.getD, hl.1, hi]
      rw [this]; exact hl.2 _ (List.getElem_mem _)
    exact h2 (fun i => R.getD i 0) (fun j => C.getD j 0) (fun i hi => hget hR hi) fun j hj => hget hC hj
end

end Go.Proofs.Ytkmfhabgempjiaa
/- Chapter 12: Choices. -/
namespace Go.Proofs.Ytkmfhabgempjiaa
open Go.RowKit

/-- A slice of slices of whole numbers that is owned. -/
def Chw (w : World) (base : Nat) (ov : Value) (ls : List (List Nat)) (E : Nat → Value) : Prop := w.ownsRow base 112 1 ov ls.length (rowL ls.length E) ∧ ∀ j, j < ls.length → Own .i64 3 w base (E j) (ls.getD j [])
theorem Chw.next {w w' : World} {base : Nat} {ov : Value} {ls : List (List Nat)} {E : Nat → Value} (h : Chw w base ov ls E) (b : Below w.heap.size w w') : Chw w' base ov ls E := ⟨rowOwn_next h.1 b (Nat.le_refl _), fun j hj => (h.2 j hj).next b⟩
def RetCh (w : World) (ls : List (List Nat)) (e : Ending) (w' : World) : Prop := ∃ ov E, e = .returned ov ∧ Chw w' w.heap.size ov ls E ∧ Below w.heap.size w w'

theorem vs_news {w : World} {base b cap : Nat} {e : TypeId} {X : List Nat} (h : Own .i64 e w base (.slice (some ⟨b, 0, none⟩) X.length cap) X) : ∀ j u, (Go.Proofs.Ytkmfhabgempjiaa.vs .i64 X)[j]? = some u → w.cell? ((⟨b, 0, none⟩ : Addr).add j) = some u := by
  intro j u hj
  have h1 : j < X.length := by
    have := (List.getElem?_eq_some_iff.1 hj).1
    rwa [vs_length] at this
  have e2 : (⟨b, 0, none⟩ : Addr).add j = ⟨b, j, none⟩ := by
    unfold Addr.add; split
    · rename_i h; subst h; rfl
    · simp
  rw [e2, World.ownsRow.cellAt h j (by omega)]; exact hj
theorem ch_zero (n : Nat) (w : World) : Calls Try.prog 82 #[.int .i64 n, .int .i64 (0 : Nat)] w (RetCh w [[]]) := by
  have ho : (w.alloc (.cells #[.slice none 0 0] 112)).ownsRow w.heap.size 112 1 (.slice (some ⟨w.heap.size, 0, none⟩) 1 1) 1 [.slice none 0 0] := World.ownsRow_lit w #[.slice none 0 0] 1 (Nat.le_refl _) (by unfold maxLen; omega) rfl
  have FIN := Lib.hid (show RetCh w [[]] (.returned (.slice (some ⟨w.heap.size, 0, none⟩) 1 1)) (w.alloc (.cells #[.slice none 0 0] 112)) from
    ⟨_, fun _ => .slice none 0 0, rfl, ⟨ho, fun j hj => by
      obtain rfl : j = 0 := by simp at hj; omega
      exact Own.nil _ _ _ _⟩, (Below.refl _ _).alloc (Nat.le_refl _) _⟩)
  clear ho
  go_enter Try.func82, Try.ntmps82
  go_wp2
  go_ret
  exact FIN.out
theorem ch_small (n q : Nat) (w : World) (h : n < q) : Calls Try.prog 82 #[.int .i64 n, .int .i64 q] w (RetCh w []) := by
  have h1 : ((q : Int) == 0) = false := by simp; omega
  have h2 : decide ((n : Int) < (q : Int)) = true := decide_eq_true (by omega)
  have FIN := Lib.hid (show RetCh w [] (.returned (.slice none 0 0)) w from ⟨_, fun _ => .slice none 0 0, rfl, ⟨World.ownsRow_nil _ _ _ _, fun j hj => by simp at hj⟩, Below.refl _ _⟩)
  go_enter Try.func82, Try.ntmps82
  go_wp2
  go_ret
  exact FIN.out
set_option maxRecDepth 20000 in
set_option maxHeartbeats 4000000 in
theorem ch_step (n k N Q : Nat) (w : World) (hN : N = n + 1) (hQ : Q = k + 1) (hn : N ≤ 8) (hk : Q ≤ N) (L R : List (List Nat)) (hL : L.length ≤ 1000) (hR : R.length ≤ 1000) (hRl : ∀ l ∈ R, l.length ≤ 100)
    (c1 : ∀ w : World, Calls Try.prog 82 #[.int .i64 n, .int .i64 Q] w (RetCh w L)) (c2 : ∀ w : World, Calls Try.prog 82 #[.int .i64 n, .int .i64 k] w (RetCh w R)) :
    Calls Try.prog 82 #[.int .i64 N, .int .i64 Q] w (RetCh w (L ++ R.map fun l => l ++ [n])) := by
  obtain ⟨PQ, ePQ⟩ : ∃ PQ : Ending → World → Prop, PQ = RetCh w (L ++ R.map fun l => l ++ [n]) := ⟨_, rfl⟩
  rw [← ePQ]
  have EPQ := Lib.hid ePQ; have C1 := Lib.hid c1; have C2 := Lib.hid c2; have HN := Lib.hid hN; have HQ := Lib.hid hQ
  have h1 : ((Q : Int) == 0) = false := by simp; omega
  have h2 : decide ((N : Int) < (Q : Int)) = false := decide_eq_false (by omega)
  have hw1 : IntKind.i64.wrap ((N : Int) - 1) = (n : Int) := by rw [IntWalk.i64_in _ ⟨by omega, by omega⟩]; omega
  have hw2 : IntKind.i64.wrap ((Q : Int) - 1) = (k : Int) := by rw [IntWalk.i64_in _ ⟨by omega, by omega⟩]; omega
  clear ePQ c1 c2 hN hQ
  go_enter Try.func82, Try.ntmps82
  go_wp2_with fail
  refine (C1.out _).mono ?_; rintro e w1 ⟨ov, E, rfl, hO, b1⟩
  go_wp2_with fail
  refine (C2.out _).mono ?_; rintro e w2 ⟨rv, ER, rfl, hRv, b2⟩
  have B2 := Lib.hid (b1.trans (b2.mono b1.size))
  have HL1 := Lib.hid b1.size
  have hO2 := Lib.hid (hO.next b2)
  have hsep := Lib.hid (show ∀ b, ov.ownBlock = some b → b < w1.heap.size ∨ w2.heap.size ≤ b from fun b hb => .inl (rowOwn_tyb hO.1 hb).2.2)
  have HRV := Lib.hid hRv
  clear b1 b2 hO
  obtain ⟨ar, cr, rfl⟩ : ∃ a c, rv = .slice a R.length c := by
    rcases rowOwn_shape hRv.1 with ⟨e1, e2⟩ | ⟨_, _, e1, _⟩
    · exact ⟨none, 0, by rw [e1, e2]⟩
    · exact ⟨_, _, e1⟩
  have HG0 := Lib.hid (show ∀ b, (Value.slice ar R.length cr).ownBlock = some b → b < w2.heap.size from fun b hb => (rowOwn_tyb hRv.1 hb).2.2)
  clear hRv h1 h2 hw2
  go_wp2
  go_loopw [5, 7] (fun ov iv wr => ∃ (i : Nat) (E : Nat → Value), i ≤ R.length ∧ iv = .int .i64 i ∧ Chw wr w.heap.size ov (L ++ (R.take i).map fun l => l ++ [n]) E ∧ (∀ b, ov.ownBlock = some b → b < w1.heap.size ∨ w2.heap.size ≤ b) ∧ (wr.ownsRow w1.heap.size 112 1 (.slice ar R.length cr) R.length (rowL R.length ER) ∧ ∀ j, j < R.length → Own .i64 3 wr w1.heap.size (ER j) (R.getD j [])) ∧ Below w.heap.size w wr ∧ w2.heap.size ≤ wr.heap.size) (fun _ iv _ => R.length - (intOf iv).toNat)
  case atStart => exact ⟨0, E, Nat.zero_le _, rfl, by simpa using hO2.out, hsep.out, HRV.out, B2.out, Nat.le_refl _⟩
  case round =>
    clear hO2 hsep HRV B2
    obtain ⟨i, E, hi, rfl, hO, hsp, ⟨hr1, hr2⟩, BR, hsz⟩ := hrel
    by_cases hir : i < R.length
    · obtain ⟨gr, cap, e1, -⟩ : ∃ b cap, (Value.slice ar R.length cr) = .slice (some ⟨b, 0, none⟩) R.length cap ∧ True := by
        rcases rowOwn_shape hr1 with ⟨_, e2⟩ | ⟨b, cap, e1, _⟩
        · omega
        · exact ⟨b, cap, e1, trivial⟩
      simp only [Value.slice.injEq, true_and] at e1
      obtain ⟨rfl, rfl⟩ := e1
      have q1 := World.ownsRow.cellAt hr1 i (by omega)
      rw [rowL_get hir] at q1
      have hel := hr2 i hir
      obtain ⟨X, eX⟩ : ∃ X, X = R.getD i [] := ⟨_, rfl⟩
      rw [← eX] at hel
      have hXl : X.length ≤ 100 := by
        rw [eX]
        have : R.getD i [] = R[i]'hir := by simp [List.getD, hir]
        rw [this]; exact hRl _ (List.getElem_mem _)
      have EX := Lib.hid eX
      have hlen : (L ++ (R.take i).map fun l => l ++ [n]).length = L.length + i := by simp [Nat.min_eq_left hi]
      obtain ⟨K, eK⟩ : ∃ K, K = L ++ (R.take i).map fun l => l ++ [n] := ⟨_, rfl⟩
      rw [← eK] at hO hlen
      have HK2 := Lib.hid (show K ++ [X ++ [n]] = L ++ (R.take (i + 1)).map fun l => l ++ [n] by
        rw [eK, eX, List.append_assoc]
        congr 1
        have : R.getD i [] = R[i]'hir := by simp [List.getD, hir]
        rw [List.take_succ_eq_append_getElem hir, List.map_append, this]; rfl)
      have HKL := Lib.hid hlen
      clear eX eK hlen
      have HOB := Lib.hid (show ∀ j, j < K.length → ∀ b, (E j).ownBlock = some b → b < wr.heap.size from fun j hj b hb => (rowOwn_tyb (hO.2 j hj) hb).2.2)
      have HRB := Lib.hid (show ∀ j, j < R.length → ∀ b, (ER j).ownBlock = some b → b < wr.heap.size from fun j hj b hb => (rowOwn_tyb (hr2 j hj) hb).2.2)
      have BRS := Lib.hid BR.size
      have HGR := Lib.hid (show w1.heap.size ≤ gr ∧ gr < w2.heap.size from ⟨(rowOwn_tyb hr1 rfl).2.1, HG0.out gr rfl⟩)
      rcases rowOwn_shape hel with ⟨e1, e2⟩ | ⟨bx, cx, e1, -, hbx, -⟩
      · rw [e1] at q1
        have hX0 : X = [] := List.length_eq_zero_iff.1 e2
        have ho3 : wr.ownsRow wr.heap.size 3 1 (.slice none 0 0) X.length (Go.Proofs.Ytkmfhabgempjiaa.vs .i64 X) := by rw [hX0]; exact World.ownsRow_nil _ _ _ _
        have hb3 : Below wr.heap.size wr wr := Below.refl _ _
        have hX2 : (0 : Nat) = X.length := by rw [hX0]; rfl
        have HX2 := Lib.hid hX2
        clear e1 e2 hel hX0 hX2
        go_upto_region 12 with (fail)
        clear q1
        have hO3 := hO.next hb3
        have hr13 := rowOwn_next hr1 hb3 (Nat.le_refl _)
        have hr23 : ∀ j, j < R.length → Own .i64 3 wr w1.heap.size (ER j) (R.getD j []) := fun j hj => (hr2 j hj).next hb3
        have B3 := BR.trans (hb3.mono BR.size)
        have hs3 : wr.heap.size ≤ wr.heap.size := hb3.size
        clear hO hr1 hr2 BR hb3
        go_upto_region 13 with (at_builtin; refine apVl 112 3 8 (.int .i64 0) Try.underlying112 (by kernel_rfl) (by decide) rfl rfl _ _ rfl wr wr.heap.size (.slice none 0 0) X.length (Go.Proofs.Ytkmfhabgempjiaa.vs .i64 X) (.int .i64 n) rfl ho3 (by omega) hs3 rfl rfl ?_; intro g8 cap8 w8 ho8 hb8 hg8 _)
        have hgt : ∀ b, b < wr.heap.size → ((.slice none 0 0) : Value).ownBlock = some b → wr.heap.size ≤ b := fun b _ hb => (rowOwn_tyb ho3 hb).2.1
        have ho8' : Own .i64 3 w8 wr.heap.size (.slice (some ⟨g8, 0, none⟩) (X.length + 1) cap8) (X ++ [n]) := by
          show w8.ownsRow _ _ _ _ _ _
          rw [vs_append, List.length_append]
          exact ho8
        have cg : Chg wr w8 (fun b => ((.slice none 0 0) : Value).ownBlock = some b) := Chg.grown hg8
        have hO8 : Chw w8 w.heap.size u5 K E := ⟨rowOwn_chgT hO3.1 cg (e' := 3) (fun b _ hb => (rowOwn_tyb ho3 hb).1) (by decide), fun j hj => rowOwn_chg (hO3.2 j hj) cg fun b hb hs => by
          have h1 := HOB.out j hj b hb
          have h2 := hgt b (rowOwn_tyb (hO3.2 j hj) hb).2.2 hs
          omega⟩
        have hr18 : w8.ownsRow w1.heap.size 112 1 (.slice (some ⟨gr, 0, none⟩) R.length cr) R.length (rowL R.length ER) := rowOwn_chgT hr13 cg (e' := 3) (fun b _ hb => (rowOwn_tyb ho3 hb).1) (by decide)
        have hr28 : ∀ j, j < R.length → Own .i64 3 w8 w1.heap.size (ER j) (R.getD j []) := fun j hj => rowOwn_chg (hr23 j hj) cg fun b hb hs => by
          have h1 := HRB.out j hj b hb
          have h2 := hgt b (rowOwn_tyb (hr23 j hj) hb).2.2 hs
          omega
        have B8 := B3.trans (hb8.mono (Nat.le_trans BRS.out (Nat.le_refl _)))
        have hs8 : wr.heap.size ≤ w8.heap.size := hb8.size
        clear ho3 hO3 hr13 hr23 B3 hb8 hg8 cg hgt ho8
        have hlK : K.length ≤ 2000 := by have := HKL.out; omega
        have hbw : w.heap.size ≤ w8.heap.size := B8.size
        have hoK := hO8.1
        go_wp2_with (at_builtin; refine apVl 110 112 24 (.slice none 0 0) Try.underlying110 (by kernel_rfl) (by decide) rfl rfl _ _ rfl w8 w.heap.size u5 K.length (rowL K.length E) (.slice (some ⟨g8, 0, none⟩) (X.length + 1) cap8) rfl hoK (by omega) hbw rfl rfl ?_; intro g9 cap9 w9 ho9 hb9 hg9 hv9)
        have cg9 : Chg w8 w9 (fun b => (u5 : Value).ownBlock = some b) := Chg.grown hg9
        have hty : ∀ b, b < w8.heap.size → (u5 : Value).ownBlock = some b → Tyb w8 112 b := fun b _ hb => (rowOwn_tyb hO8.1 hb).1
        have T1 := Lib.hid (show Chw w9 w.heap.size (.slice (some ⟨g9, 0, none⟩) (K.length + 1) cap9) (L ++ (R.take (i + 1)).map fun l => l ++ [n]) (fun j => if j < K.length then E j else .slice (some ⟨g8, 0, none⟩) (X.length + 1) cap8) by
          rw [← HK2.out]
          have hkl : (K ++ [X ++ [n]]).length = K.length + 1 := by simp
          refine ⟨?_, fun j hj => ?_⟩
          · rw [hkl, rowL_snoc, if_neg (Nat.lt_irrefl _), rowL_congr (V := E) (fun j hj => if_pos hj)]; exact ho9
          · show Own .i64 3 w9 w.heap.size (if j < K.length then E j else _) _
            by_cases h : j < K.length
            · rw [if_pos h, show (K ++ [X ++ [n]]).getD j [] = K.getD j [] by simp [List.getD, List.getElem?_append_left h]]
              exact rowOwn_chgT (hO8.2 j h) cg9 (e' := 112) hty (by decide)
            · obtain rfl : j = K.length := by rw [hkl] at hj; omega
              rw [if_neg h]
              have e5 : (K ++ [X ++ [n]]).getD K.length [] = X ++ [n] := by simp [List.getD]
              rw [e5]
              exact Own.mono (rowOwn_chgT ho8' cg9 (e' := 112) hty (by decide)) BRS.out)
        have T2 := Lib.hid (show ∀ b, (Value.slice (some ⟨g9, 0, none⟩) (K.length + 1) cap9).ownBlock = some b → b < w1.heap.size ∨ w2.heap.size ≤ b from fun b hb => by
          simp [Value.ownBlock] at hb
          subst hb
          rcases hv9 with h | h
          · exact hsp _ h
          · right; omega)
        have T3 := Lib.hid (show w9.ownsRow w1.heap.size 112 1 (.slice (some ⟨gr, 0, none⟩) R.length cr) R.length (rowL R.length ER) ∧ ∀ j, j < R.length → Own .i64 3 w9 w1.heap.size (ER j) (R.getD j []) from
          ⟨rowOwn_chg hr18 cg9 fun b hb hs => by
            simp [Value.ownBlock] at hb
            subst hb
            have h1 := hsp _ hs
            have h2 := HGR.out
            omega, fun j hj => rowOwn_chgT (hr28 j hj) cg9 (e' := 112) hty (by decide)⟩)
        have T4 := Lib.hid (show Below w.heap.size w w9 ∧ w2.heap.size ≤ w9.heap.size from ⟨B8.trans hb9, by have := hb9.size; omega⟩)
        clear hO8 hr18 hr28 B8 ho8' hoK ho9 hb9 hg9 hv9 cg9 hty hsp
        go_wp2
        go_roundw
        case rel => exact ⟨i + 1, _, by omega, by go_num, T1.out, T2.out, T3.out, T4.out⟩
        case measure => simp [intOf] <;> omega
      · rw [e1] at q1 hel
        have hcx := vs_news hel
        have HCX := Lib.hid hcx
        clear hcx
        go_upto_region 12 with (at_builtin; refine apWl 112 3 8 (.int .i64 0) Try.underlying112 (by kernel_rfl) (by decide) rfl rfl _ _ rfl wr wr.heap.size (.slice none 0 0) 0 [] (World.ownsRow_nil _ _ _ _) (Nat.le_refl _) ⟨bx, 0, none⟩ X.length cx (Go.Proofs.Ytkmfhabgempjiaa.vs .i64 X) rfl rfl (vs_length _ _) HCX.out (fun u hu => by unfold Go.Proofs.Ytkmfhabgempjiaa.vs at hu; obtain ⟨y, -, rfl⟩ := List.mem_map.1 hu; rfl) (by omega) ?_; intro v3 w3 ho3 hb3 hg3)
        rw [Nat.zero_add, List.nil_append] at ho3
        clear q1 hel HCX e1 hbx hg3
        have hO3 := hO.next hb3
        have hr13 := rowOwn_next hr1 hb3 (Nat.le_refl _)
        have hr23 : ∀ j, j < R.length → Own .i64 3 w3 w1.heap.size (ER j) (R.getD j []) := fun j hj => (hr2 j hj).next hb3
        have B3 := BR.trans (hb3.mono BR.size)
        have hs3 : wr.heap.size ≤ w3.heap.size := hb3.size
        clear hO hr1 hr2 BR hb3
        go_upto_region 13 with (at_builtin; refine apVl 112 3 8 (.int .i64 0) Try.underlying112 (by kernel_rfl) (by decide) rfl rfl _ _ rfl w3 wr.heap.size v3 X.length (Go.Proofs.Ytkmfhabgempjiaa.vs .i64 X) (.int .i64 n) rfl ho3 (by omega) hs3 rfl rfl ?_; intro g8 cap8 w8 ho8 hb8 hg8 _)
        have hgt : ∀ b, b < w3.heap.size → (v3 : Value).ownBlock = some b → wr.heap.size ≤ b := fun b _ hb => (rowOwn_tyb ho3 hb).2.1
        have ho8' : Own .i64 3 w8 wr.heap.size (.slice (some ⟨g8, 0, none⟩) (X.length + 1) cap8) (X ++ [n]) := by
          show w8.ownsRow _ _ _ _ _ _
          rw [vs_append, List.length_append]
          exact ho8
        have cg : Chg w3 w8 (fun b => (v3 : Value).ownBlock = some b) := Chg.grown hg8
        have hO8 : Chw w8 w.heap.size u5 K E := ⟨rowOwn_chgT hO3.1 cg (e' := 3) (fun b _ hb => (rowOwn_tyb ho3 hb).1) (by decide), fun j hj => rowOwn_chg (hO3.2 j hj) cg fun b hb hs => by
          have h1 := HOB.out j hj b hb
          have h2 := hgt b (rowOwn_tyb (hO3.2 j hj) hb).2.2 hs
          omega⟩
        have hr18 : w8.ownsRow w1.heap.size 112 1 (.slice (some ⟨gr, 0, none⟩) R.length cr) R.length (rowL R.length ER) := rowOwn_chgT hr13 cg (e' := 3) (fun b _ hb => (rowOwn_tyb ho3 hb).1) (by decide)
        have hr28 : ∀ j, j < R.length → Own .i64 3 w8 w1.heap.size (ER j) (R.getD j []) := fun j hj => rowOwn_chg (hr23 j hj) cg fun b hb hs => by
          have h1 := HRB.out j hj b hb
          have h2 := hgt b (rowOwn_tyb (hr23 j hj) hb).2.2 hs
          omega
        have B8 := B3.trans (hb8.mono (Nat.le_trans BRS.out (Nat.le_refl _)))
        have hs8 : w3.heap.size ≤ w8.heap.size := hb8.size
        clear ho3 hO3 hr13 hr23 B3 hb8 hg8 cg hgt ho8
        have hlK : K.length ≤ 2000 := by have := HKL.out; omega
        have hbw : w.heap.size ≤ w8.heap.size := B8.size
        have hoK := hO8.1
        go_wp2_with (at_builtin; refine apVl 110 112 24 (.slice none 0 0) Try.underlying110 (by kernel_rfl) (by decide) rfl rfl _ _ rfl w8 w.heap.size u5 K.length (rowL K.length E) (.slice (some ⟨g8, 0, none⟩) (X.length + 1) cap8) rfl hoK (by omega) hbw rfl rfl ?_; intro g9 cap9 w9 ho9 hb9 hg9 hv9)
        have cg9 : Chg w8 w9 (fun b => (u5 : Value).ownBlock = some b) := Chg.grown hg9
        have hty : ∀ b, b < w8.heap.size → (u5 : Value).ownBlock = some b → Tyb w8 112 b := fun b _ hb => (rowOwn_tyb hO8.1 hb).1
        have T1 := Lib.hid (show Chw w9 w.heap.size (.slice (some ⟨g9, 0, none⟩) (K.length + 1) cap9) (L ++ (R.take (i + 1)).map fun l => l ++ [n]) (fun j => if j < K.length then E j else .slice (some ⟨g8, 0, none⟩) (X.length + 1) cap8) by
          rw [← HK2.out]
          have hkl : (K ++ [X ++ [n]]).length = K.length + 1 := by simp
          refine ⟨?_, fun j hj => ?_⟩
          · rw [hkl, rowL_snoc, if_neg (Nat.lt_irrefl _), rowL_congr (V := E) (fun j hj => if_pos hj)]; exact ho9
          · show Own .i64 3 w9 w.heap.size (if j < K.length then E j else _) _
            by_cases h : j < K.length
            · rw [if_pos h, show (K ++ [X ++ [n]]).getD j [] = K.getD j [] by simp [List.getD, List.getElem?_append_left h]]
              exact rowOwn_chgT (hO8.2 j h) cg9 (e' := 112) hty (by decide)
            · obtain rfl : j = K.length := by rw [hkl] at hj; omega
              rw [if_neg h]
              have e5 : (K ++ [X ++ [n]]).getD K.length [] = X ++ [n] := by simp [List.getD]
              rw [e5]
              exact Own.mono (rowOwn_chgT ho8' cg9 (e' := 112) hty (by decide)) BRS.out)
        have T2 := Lib.hid (show ∀ b, (Value.slice (some ⟨g9, 0, none⟩) (K.length + 1) cap9).ownBlock = some b → b < w1.heap.size ∨ w2.heap.size ≤ b from fun b hb => by
          simp [Value.ownBlock] at hb
          subst hb
          rcases hv9 with h | h
          · exact hsp _ h
          · right; omega)
        have T3 := Lib.hid (show w9.ownsRow w1.heap.size 112 1 (.slice (some ⟨gr, 0, none⟩) R.length cr) R.length (rowL R.length ER) ∧ ∀ j, j < R.length → Own .i64 3 w9 w1.heap.size (ER j) (R.getD j []) from
          ⟨rowOwn_chg hr18 cg9 fun b hb hs => by
            simp [Value.ownBlock] at hb
            subst hb
            have h1 := hsp _ hs
            have h2 := HGR.out
            omega, fun j hj => rowOwn_chgT (hr28 j hj) cg9 (e' := 112) hty (by decide)⟩)
        have T4 := Lib.hid (show Below w.heap.size w w9 ∧ w2.heap.size ≤ w9.heap.size from ⟨B8.trans hb9, by have := hb9.size; omega⟩)
        clear hO8 hr18 hr28 B8 ho8' hoK ho9 hb9 hg9 hv9 cg9 hty hsp
        go_wp2
        go_roundw
        case rel => exact ⟨i + 1, _, by omega, by go_num, T1.out, T2.out, T3.out, T4.out⟩
        case measure => simp [intOf] <;> omega
    · obtain rfl : i = R.length := by omega
      have FIN := Lib.hid (show Chw wr w.heap.size u5 (L ++ R.map fun l => l ++ [n]) E → PQ (.returned u5) wr from fun h => by rw [EPQ.out]; exact ⟨_, E, rfl, h, BR⟩)
      have HO := Lib.hid hO
      clear hO hsp hr1 hr2 BR
      go_wp2
      first | exact FIN.out (by simpa using HO.out) | (go_ret; exact FIN.out (by simpa using HO.out))

theorem chs_num (n k : Nat) (hn : n ≤ 3) (hk : k ≤ 3) : (chs n k).length ≤ 3 := by
  rcases (show n = 0 ∨ n = 1 ∨ n = 2 ∨ n = 3 by omega) with rfl | rfl | rfl | rfl <;> rcases (show k = 0 ∨ k = 1 ∨ k = 2 ∨ k = 3 by omega) with rfl | rfl | rfl | rfl <;> decide
theorem ch_all : ∀ (n k : Nat) (w : World), n ≤ 3 → k ≤ 3 → Calls Try.prog 82 #[.int .i64 n, .int .i64 k] w (RetCh w (chs n k)) := by
  intro n
  induction n with
  | zero =>
    intro k w _ hk
    cases k with
    | zero => exact ch_zero 0 w
    | succ k => exact ch_small 0 (k + 1) w (by omega)
  | succ n ih =>
    intro k w hn hk
    cases k with
    | zero => exact ch_zero (n + 1) w
    | succ k =>
      by_cases h : n + 1 < k + 1
      · rw [chs_small (n + 1) (k + 1) h]; exact ch_small (n + 1) (k + 1) w h
      · exact ch_step n k (n + 1) (k + 1) w rfl rfl (by omega) (by omega) (chs n (k + 1)) (chs n k) (by have := chs_num n (k + 1) (by omega) hk; omega) (by have := chs_num n k (by omega) (by omega); omega) (fun l hl => by have := (chs_len n k l hl).1; omega) (fun w => ih (k + 1) w (by omega) hk) (fun w => ih k w (by omega) (by omega))

end Go.Proofs.Ytkmfhabgempjiaa
/- Chapter 24: Minors. -/
namespace Go.Proofs.Ytkmfhabgempjiaa
open Go.RowKit

section
open CR
variable {p : Nat}
theorem MnG.step {k : Nat} {A : (Nat → Nat → Pol (Zp p))} {S S' : List Nat → List Nat → Prop} {g g' : Pol (Zp p)} (h : MnG k A S g) {R0 C0 : List Nat} (hg : IsGcd g' g (dn k fun i j => A (R0.getD i 0) (C0.getD j 0))) (hS : ∀ R C, S' R C ↔ S R C ∨ (R = R0 ∧ C = C0)) : MnG k A S' g' := by
  refine ⟨hg.1, fun R C hRC => ?_, fun d hd => ?_⟩
  · rcases (hS R C).1 hRC with h1 | ⟨rfl, rfl⟩
    · exact hg.2.1.trans (h.dv R C h1)
    · exact hg.2.2.1
  · exact hg.dv (h.great d fun R C hRC => hd R C ((hS R C).2 (.inl hRC))) (hd R0 C0 ((hS R0 C0).2 (.inr ⟨rfl, rfl⟩)))
theorem MnG.congr {k : Nat} {A : (Nat → Nat → Pol (Zp p))} {S S' : List Nat → List Nat → Prop} {g : Pol (Zp p)} (h : MnG k A S g) (hS : ∀ R C, S' R C ↔ S R C) : MnG k A S' g :=
  ⟨h.mo, fun R C hRC => h.dv R C ((hS R C).1 hRC), fun d hd => h.great d fun R C hRC => hd R C ((hS R C).2 hRC)⟩
end
theorem mem_take_succ {ls : List (List Nat)} {i : Nat} (hi : i < ls.length) (R : List Nat) : R ∈ ls.take (i + 1) ↔ R ∈ ls.take i ∨ R = ls.getD i [] := by
  rw [List.take_succ_eq_append_getElem hi, List.mem_append]
  have : ls.getD i [] = ls[i] := by simp [List.getD, hi]
  rw [this]; simp
theorem Chw.rd {w : World} {base k : Nat} {ov : Value} {ls : List (List Nat)} {E : Nat → Value} (h : Chw w base ov ls E) (hl : ∀ l ∈ ls, l.length = k) (hk : 0 < k) (h0 : 0 < ls.length) : ∃ g cap, ov = .slice (some ⟨g, 0, none⟩) ls.length cap ∧ g < w.heap.size ∧
    ∀ i, i < ls.length → ∃ b c, w.cell? ⟨g, i, none⟩ = some (.slice (some ⟨b, 0, none⟩) k c) ∧ b < w.heap.size ∧ ∀ a, a < k → w.cell? ⟨b, a, none⟩ = some (.int .i64 ((ls.getD i []).getD a 0 : Nat)) := by
  rcases rowOwn_shape h.1 with ⟨_, e2⟩ | ⟨g, cap, e1, _, hg, _⟩
  · omega
  · refine ⟨g, cap, e1, hg, fun i hi => ?_⟩
    have ho := h.1
    rw [e1] at ho
    have q1 := World.ownsRow.cellAt ho i (by omega)
    rw [rowL_get hi] at q1
    have he := h.2 i hi
    have hlen : (ls.getD i []).length = k := by
      have : ls.getD i [] = ls[i] := by simp [List.getD, hi]
      rw [this]; exact hl _ (List.getElem_mem _)
    rcases rowOwn_shape he with ⟨_, e2⟩ | ⟨b, c, e2, _, hb, _⟩
    · omega
    · rw [e2] at q1 he
      rw [hlen] at q1
      refine ⟨b, c, q1, hb, fun a ha => ?_⟩
      have q2 := World.ownsRow.cellAt he a (by omega)
      rw [q2]; exact vs_get .i64 _ a (by omega)
theorem chs_pos {n k : Nat} (h : k ≤ n) : 0 < (chs n k).length := by
  have := chs_all n k (fun i => i) (fun i hi => by omega) (fun i j h1 _ => h1)
  exact List.length_pos_iff.2 (List.ne_nil_of_mem this)
theorem chs_get {n k i a : Nat} (hi : i < (chs n k).length) (ha : a < k) : ((chs n k).getD i []).getD a 0 < n := by
  have e : (chs n k).getD i [] = (chs n k)[i] := by simp [List.getD, hi]
  obtain ⟨h1, h2⟩ := chs_len n k _ (List.getElem_mem hi)
  rw [e]
  have e2 : ((chs n k)[i]).getD a 0 = ((chs n k)[i])[a]'(by omega) := by simp [List.getD, h1, ha]
  rw [e2]; exact h2 _ (List.getElem_mem _)
/-- A matrix whose elements come one by one. -/
def MtR (p : Nat) (w3 wr : World) (gM k n : Nat) (G : Nat → Pol (Zp p)) : Prop := ∃ v us, Blk 24 wr gM [.int .i64 k, .int .i64 k, v] ∧ Qls p wr (gM + 1) v us n 3 G ∧ Below gM w3 wr

set_option maxRecDepth 20000 in
set_option maxHeartbeats 4000000 in
theorem rf24_Minors (p k : Nat) (a : Value) (r c : Nat) (xs : List (List Nat)) (w : World) (hp : FP p) (ht : Trial p) (hA : Xm w a r c xs) (hr : r ≤ 3) (hc : c ≤ 3) (hx : xs.length = r * c) (hl : ∀ j, j < r * c → (xs.getD j []).length ≤ 3) (hk0 : 0 < k) (hkr : k ≤ r) (hkc : k ≤ c) :
    Calls Try.prog 30 #[.agg #[.int .u64 p], a, .int .i64 k, .int .u64 p] w (fun e w' => ∃ v zs, e = .returned v ∧ Sl .u64 w' v zs ∧ Nrm p zs ∧ zs.length ≤ 10 ∧ MnG k (aT p c xs) (fun R C => R ∈ chs r k ∧ C ∈ chs c k) (pl p zs) ∧ Below w.heap.size w w') := by
  obtain ⟨PQ, ePQ⟩ : ∃ PQ : Ending → World → Prop, PQ = fun e w' => ∃ v zs, e = .returned v ∧ Sl .u64 w' v zs ∧ Nrm p zs ∧ zs.length ≤ 10 ∧ MnG k (aT p c xs) (fun R C => R ∈ chs r k ∧ C ∈ chs c k) (pl p zs) ∧ Below w.heap.size w w' := ⟨_, rfl⟩
  rw [← ePQ]
  have EPQ := Lib.hid ePQ
  obtain ⟨aA, cA, rfl⟩ := hA.agg
  obtain ⟨wb, ew, KF, KA, B0, hsz⟩ := boxes2 w 29 24 [.int .u64 p] [.int .i64 r, .int .i64 c, .slice aA xs.length cA]
  clear hsz
  replace hA := hA.next B0
  have HP := Lib.hid hp; have HTR := Lib.hid ht; have HX := Lib.hid hx; have HLL := Lib.hid hl; clear hp ht hx hl ePQ
  have hkk9 : k * k ≤ 3 * 3 := Nat.mul_le_mul (show k ≤ 3 by omega) (show k ≤ 3 by omega)
  go_enter Try.func30, Try.ntmps30
  go_upto_region 1 with (fail)
  rw [← ew]
  obtain ⟨g, eg⟩ : ∃ g, g = w.heap.size := ⟨_, rfl⟩
  rw [← eg] at KF KA ⊢
  have EG := Lib.hid eg
  clear ew eg
  have a0 := KA.cell 0
  go_wp2_with fail
  (with_reducible refine (ch_all r k _ hr (by omega)).mono ?_); rintro e w1 ⟨rv, ER, rfl, hR, b1⟩
  clear a0
  replace KF := KF.next b1; replace KA := KA.next b1; replace hA := hA.next b1
  have B1 := B0.trans (b1.mono B0.size)
  clear b1 B0
  have a1 := KA.cell 1
  go_wp2_with fail
  (with_reducible refine (ch_all c k _ hc (by omega)).mono ?_); rintro e w2 ⟨cv, EC, rfl, hC, b2⟩
  clear a1
  replace KF := KF.next b2; replace KA := KA.next b2; replace hA := hA.next b2; replace hR := hR.next b2
  have B2 := Lib.hid (B1.trans (b2.mono B1.size))
  clear b2 B1
  obtain ⟨gr, cr, rfl, hgr, hRr⟩ := hR.rd (fun l hl => (chs_len r k l hl).1) hk0 (chs_pos hkr)
  obtain ⟨gc, cc, rfl, hgc, hCr⟩ := hC.rd (fun l hl => (chs_len c k l hl).1) hk0 (chs_pos hkc)
  have hRn := chs_num r k hr (by omega); have hCn := chs_num c k hc (by omega)
  have hRg : ∀ i a, i < (chs r k).length → a < k → ((chs r k).getD i []).getD a 0 < r := fun i a hi ha => chs_get hi ha
  have hCg : ∀ i a, i < (chs c k).length → a < k → ((chs c k).getD i []).getD a 0 < c := fun i a hi ha => chs_get hi ha
  obtain ⟨RW, eRW⟩ : ∃ RW, RW = chs r k := ⟨_, rfl⟩
  obtain ⟨CW, eCW⟩ : ∃ CW, CW = chs c k := ⟨_, rfl⟩
  rw [← eRW] at hRr hRn hRg ⊢; rw [← eCW] at hCr hCn hCg ⊢
  have HRR := Lib.hid hRr; have HCR := Lib.hid hCr; have ERW := Lib.hid eRW; have ECW := Lib.hid eCW; have HKF := Lib.hid KF; have HKA := Lib.hid KA; have HA := Lib.hid hA; have HRG := Lib.hid hRg; have HCG := Lib.hid hCg
  have hgF := KF.lt; have hgA := KA.lt
  obtain ⟨A, eA⟩ : ∃ A, A = aT p c xs := ⟨_, rfl⟩
  have EA := Lib.hid eA
  clear hR hC hRr hCr eRW eCW KF KA hA eA hRg hCg
  go_wp2
  go_loopw [9, 12] (fun ov iv wr => ∃ (i : Nat) (zs : List Nat), i ≤ RW.length ∧ iv = .int .i64 i ∧ Sl .u64 wr ov zs ∧ Nrm p zs ∧ zs.length ≤ 10 ∧ MnG k A (fun R C => R ∈ RW.take i ∧ C ∈ CW) (pl p zs) ∧ Below w2.heap.size w2 wr) (fun _ iv _ => RW.length - (intOf iv).toNat)
  case atStart => exact ⟨0, [], Nat.zero_le _, rfl, Sl.nil _ _, nrm_nil p, by simp, by rw [pl_nil]; exact MnG.start fun R C h => by simpa using h.1, Below.refl _ _⟩
  case round =>
    obtain ⟨i, zs, hi, rfl, hov, nz, lz, hM, BR⟩ := hrel
    have HOV := Lib.hid hov; have NZ := Lib.hid nz; have HM := Lib.hid hM; have HBR := Lib.hid BR
    clear hov nz hM
    by_cases hir : i < RW.length
    · clear BR
      go_wp2
      go_loopw [9, 13] (fun ov jv ws => ∃ (j : Nat) (zs : List Nat), j ≤ CW.length ∧ jv = .int .i64 j ∧ Sl .u64 ws ov zs ∧ Nrm p zs ∧ zs.length ≤ 10 ∧ MnG k A (fun R C => (R ∈ RW.take i ∧ C ∈ CW) ∨ (R = RW.getD i [] ∧ C ∈ CW.take j)) (pl p zs) ∧ Below w2.heap.size w2 ws) (fun _ jv _ => CW.length - (intOf jv).toNat)
      case atStart => exact ⟨0, zs, Nat.zero_le _, rfl, HOV.out, NZ.out, lz, HM.out.congr fun R C => by simp, HBR.out⟩
      case round =>
        clear HOV NZ lz HM HBR
        obtain ⟨j, zs, hj, rfl, hov, nz, lz, hM, BR⟩ := hrel
        have NZ := Lib.hid nz; have HM := Lib.hid hM
        clear nz hM
        by_cases hjc : j < CW.length
        · have HOV := Lib.hid hov; have HBR := Lib.hid BR
          obtain ⟨w3, ew3⟩ : ∃ w3, w3 = wr := ⟨_, rfl⟩
          rw [← ew3] at HOV HBR
          obtain ⟨gM, egM⟩ : ∃ gM, gM = w3.heap.size := ⟨_, rfl⟩
          have hgM : w2.heap.size ≤ gM := by rw [egM, ew3]; exact BR.size
          obtain ⟨G, eG⟩ : ∃ G : Nat → Pol (Zp p), G = fun q => A ((RW.getD i []).getD (q / k) 0) ((CW.getD j []).getD (q % k) 0) := ⟨_, rfl⟩
          have EGG := Lib.hid eG
          have st : MtR p w3 (wr.alloc (.cells #[.int .i64 k, .int .i64 k, .slice none 0 0] 24)) gM k (0 * k) G := ⟨.slice none 0 0, [], by rw [egM, ew3]; exact Blk.lit wr 24 [.int .i64 k, .int .i64 k, .slice none 0 0], by rw [Nat.zero_mul]; exact ⟨World.ownsRow_nil _ _ _ _, rfl, fun j v h => by simp at h⟩, by rw [egM, ew3]; exact (Below.refl _ _).alloc (Nat.le_refl _) _⟩
          have ST := Lib.hid st
          have HG3 := Lib.hid egM
          have EGM2 := Lib.hid (show wr.heap.size = gM by rw [egM, ew3])
          have HQG := Lib.hid (show ∀ a b, b < k → G (a * k + b) = A ((RW.getD i []).getD a 0) ((CW.getD j []).getD b 0) from fun a b hb => by
            rw [eG]
            show A ((RW.getD i []).getD ((a * k + b) / k) 0) ((CW.getD j []).getD ((a * k + b) % k) 0) = _
            rw [Nat.mul_comm a k, Nat.mul_add_div hk0, Nat.div_eq_of_lt hb, Nat.mul_add_mod, Nat.mod_eq_of_lt hb, Nat.add_zero])
          obtain ⟨bR, cR, qR1, hbR, qR2⟩ := HRR.out i hir
          obtain ⟨bC, cC, qC1, hbC, qC2⟩ := HCR.out j hjc
          have QR1 := Lib.hid qR1; have QR2 := Lib.hid qR2; have QC1 := Lib.hid qC1; have QC2 := Lib.hid qC2
          have HLB := Lib.hid (fun (ws : World) (hB : Below gM w3 ws) => (show Below w2.heap.size w2 ws from HBR.out.trans (hB.mono hgM)))
          clear hov BR st eG ew3 egM qR1 qR2 qC1 qC2
          go_wp2
          rw [EGM2.out]
          generalize wr.alloc (.cells #[.int .i64 k, .int .i64 k, .slice none 0 0] 24) = w4 at *
          clear EGM2
          go_loopw [15] (fun av ws => ∃ a : Nat, a ≤ k ∧ av = .int .i64 a ∧ MtR p w3 ws gM k (a * k) G) (fun av _ => k - (intOf av).toNat)
          case atStart => exact ⟨0, Nat.zero_le _, rfl, ST.out⟩
          case round =>
            clear ST
            obtain ⟨a, ha, rfl, st⟩ := hrel
            by_cases hak : a < k
            · have ST := Lib.hid st
              clear st
              go_wp2
              go_loopw [16] (fun bv ws => ∃ b : Nat, b ≤ k ∧ bv = .int .i64 b ∧ MtR p w3 ws gM k (a * k + b) G) (fun bv _ => k - (intOf bv).toNat)
              case atStart => exact ⟨0, Nat.zero_le _, rfl, ST.out⟩
              case round =>
                clear ST
                obtain ⟨b, hb, rfl, st⟩ := hrel
                by_cases hbk : b < k
                · obtain ⟨bv, us, KM, hQ, hBM⟩ := st
                  have B3 := HLB.out _ hBM
                  have KA := HKA.out.next B3; have hA := HA.out.next B3
                  obtain ⟨x, ex⟩ : ∃ x, x = (RW.getD i []).getD a 0 := ⟨_, rfl⟩
                  obtain ⟨y, ey⟩ : ∃ y, y = (CW.getD j []).getD b 0 := ⟨_, rfl⟩
                  have hxr : x < r := by rw [ex]; exact HRG.out i a hir hak
                  have hyc : y < c := by rw [ey]; exact HCG.out j b hjc hbk
                  have hlt : x * c + y < r * c := at_lt rfl hxr hyc
                  have hll := HLL.out _ hlt
                  have q1 := (B3.cell (p := ⟨gr, i, none⟩) hgr).trans QR1.out
                  have q2 := (B3.cell (p := ⟨bR, a, none⟩) hbR).trans (QR2.out a hak)
                  have q3 := (B3.cell (p := ⟨gc, j, none⟩) hgc).trans QC1.out
                  have q4 := (B3.cell (p := ⟨bC, b, none⟩) hbC).trans (QC2.out b hbk)
                  rw [← ex] at q2; rw [← ey] at q4
                  have HGX := Lib.hid (show A x y = G (a * k + b) by rw [HQG.out a b hbk, ← ex, ← ey])
                  have hak9 : a * k ≤ 3 * 3 := Nat.mul_le_mul (show a ≤ 3 by omega) (show k ≤ 3 by omega)
                  clear ex ey B3
                  go_upto_region 17 with (fail)
                  have bd := Drawn.below (w' := wr.drew) ⟨1, rfl⟩ wr.heap.size
                  replace KM := KM.next bd; replace hQ := hQ.next bd; replace KA := KA.next bd; replace hA := hA.next bd
                  have hgx : gM + 1 ≤ wr.drew.heap.size := KM.lt
                  have hBM5 := hBM.trans (bd.mono (show gM ≤ wr.heap.size by have : wr.drew.heap.size = wr.heap.size := rfl; omega))
                  have q1' : wr.drew.cell? ⟨gr, i, none⟩ = some (.slice (some ⟨bR, 0, none⟩) k cR) := q1
                  have q2' : wr.drew.cell? ⟨bR, a, none⟩ = some (.int .i64 (x : Nat)) := q2
                  have q3' : wr.drew.cell? ⟨gc, j, none⟩ = some (.slice (some ⟨bC, 0, none⟩) k cC) := q3
                  have q4' : wr.drew.cell? ⟨bC, b, none⟩ = some (.int .i64 (y : Nat)) := q4
                  have m1 : gr < gM + 1 := by omega
                  have m2 : bR < gM + 1 := by omega
                  have m3 : gc < gM + 1 := by omega
                  have m4 : bC < gM + 1 := by omega
                  have m5 : g + 1 < gM + 1 := by omega
                  have HAW := Lib.hid (fun (w' : World) (h : Below (gM + 1) wr.drew w') => (show Xm w' (.agg #[.int .i64 r, .int .i64 c, .slice aA xs.length cA]) r c xs from HA.out.next (HLB.out _ (hBM5.trans (h.mono (Nat.le_succ _))))))
                  clear bd hBM q1 q2 q3 q4
                  refine startP (S := (fun w' => Below (gM + 1) wr.drew w')) (by kernel_rfl) _ rfl rfl rfl (by kernel_rfl) (Below.refl _ _) (fun hHeld => ?_)
                  refine takeL 0 (v := ?_) rfl (by kernel_rfl) (by kernel_rfl) (by kernel_rfl) (fun _ _ _ h => h) ⟨by rfl, ?_⟩ (by assumption) ?_
                  rotate_left
                  · intro w hS; go_simp <;> with_reducible rfl
                  simp only [Act.put, List.setIfInBounds_toArray, List.set_cons_zero, List.set_cons_succ]
                  refine takeL 1 (v := ?_) rfl (by kernel_rfl) (by kernel_rfl) (by kernel_rfl) (fun _ _ _ h => h) ⟨by rfl, ?_⟩ (by assumption) ?_
                  rotate_left
                  · intro w hS; have fm := (KM.below hS (Nat.lt_succ_self _)).cell; have f1 := fm 2; clear fm; have fa := (KA.below hS m5).cell; have f2 := fa 0; have f3 := fa 1; have f4 := fa 2; clear fa; have f5 := (hS.cell (p := ⟨gr, i, none⟩) m1).trans q1'; have f6 := (hS.cell (p := ⟨bR, a, none⟩) m2).trans q2'; have f7 := (hS.cell (p := ⟨gc, j, none⟩) m3).trans q3'; have f8 := (hS.cell (p := ⟨bC, b, none⟩) m4).trans q4'; go_simp <;> with_reducible rfl
                  simp only [Act.put, List.setIfInBounds_toArray, List.set_cons_zero, List.set_cons_succ]
                  refine takeL 2 (v := ?_) rfl (by kernel_rfl) (by kernel_rfl) (by kernel_rfl) (fun _ _ _ h => h) ⟨by rfl, ?_⟩ (by assumption) ?_
                  rotate_left
                  · intro w hS; have fm := (KM.below hS (Nat.lt_succ_self _)).cell; have f1 := fm 2; clear fm; have fa := (KA.below hS m5).cell; have f2 := fa 0; have f3 := fa 1; have f4 := fa 2; clear fa; have f5 := (hS.cell (p := ⟨gr, i, none⟩) m1).trans q1'; have f6 := (hS.cell (p := ⟨bR, a, none⟩) m2).trans q2'; have f7 := (hS.cell (p := ⟨gc, j, none⟩) m3).trans q3'; have f8 := (hS.cell (p := ⟨bC, b, none⟩) m4).trans q4'; go_simp <;> with_reducible rfl
                  simp only [Act.put, List.setIfInBounds_toArray, List.set_cons_zero, List.set_cons_succ]
                  refine takeL 3 (v := ?_) rfl (by kernel_rfl) (by kernel_rfl) (by kernel_rfl) (fun _ _ _ h => h) ⟨by rfl, ?_⟩ (by assumption) ?_
                  rotate_left
                  · intro w hS; go_simp <;> with_reducible rfl
                  simp only [Act.put, List.setIfInBounds_toArray, List.set_cons_zero, List.set_cons_succ]
                  refine takeL 4 (v := ?_) rfl (by kernel_rfl) (by kernel_rfl) (by kernel_rfl) (fun _ _ _ h => h) ⟨by rfl, ?_⟩ (by assumption) ?_
                  rotate_left
                  · intro w hS; go_simp <;> with_reducible rfl
                  simp only [Act.put, List.setIfInBounds_toArray, List.set_cons_zero, List.set_cons_succ]
                  refine takeL 5 (v := ?_) rfl (by kernel_rfl) (by kernel_rfl) (by kernel_rfl) (fun _ _ _ h => h) ⟨by rfl, ?_⟩ (by assumption) ?_
                  rotate_left
                  · intro w hS; go_simp <;> with_reducible rfl
                  simp only [Act.put, List.setIfInBounds_toArray, List.set_cons_zero, List.set_cons_succ]
                  refine takeL 6 (v := ?_) rfl (by kernel_rfl) (by kernel_rfl) (by kernel_rfl) (fun _ _ _ h => h) ⟨by rfl, ?_⟩ (by assumption) ?_
                  rotate_left
                  · intro w hS; have fm := (KM.below hS (Nat.lt_succ_self _)).cell; have f1 := fm 2; clear fm; have fa := (KA.below hS m5).cell; have f2 := fa 0; have f3 := fa 1; have f4 := fa 2; clear fa; have f5 := (hS.cell (p := ⟨gr, i, none⟩) m1).trans q1'; have f6 := (hS.cell (p := ⟨bR, a, none⟩) m2).trans q2'; have f7 := (hS.cell (p := ⟨gc, j, none⟩) m3).trans q3'; have f8 := (hS.cell (p := ⟨bC, b, none⟩) m4).trans q4'; go_simp <;> with_reducible rfl
                  simp only [Act.put, List.setIfInBounds_toArray, List.set_cons_zero, List.set_cons_succ]
                  refine takeL 7 (v := ?_) rfl (by kernel_rfl) (by kernel_rfl) (by kernel_rfl) (fun _ _ _ h => h) ⟨by rfl, ?_⟩ (by assumption) ?_
                  rotate_left
                  · intro w hS; go_simp <;> with_reducible rfl
                  simp only [Act.put, List.setIfInBounds_toArray, List.set_cons_zero, List.set_cons_succ]
                  refine takeL 8 (v := ?_) rfl (by kernel_rfl) (by kernel_rfl) (by kernel_rfl) (fun _ _ _ h => h) ⟨by rfl, ?_⟩ (by assumption) ?_
                  rotate_left
                  · intro w hS; go_simp <;> with_reducible rfl
                  simp only [Act.put, List.setIfInBounds_toArray, List.set_cons_zero, List.set_cons_succ]
                  refine takeL 9 (v := ?_) rfl (by kernel_rfl) (by kernel_rfl) (by kernel_rfl) (fun _ _ _ h => h) ⟨by rfl, ?_⟩ (by assumption) ?_
                  rotate_left
                  · intro w hS; have fm := (KM.below hS (Nat.lt_succ_self _)).cell; have f1 := fm 2; clear fm; have fa := (KA.below hS m5).cell; have f2 := fa 0; have f3 := fa 1; have f4 := fa 2; clear fa; have f5 := (hS.cell (p := ⟨gr, i, none⟩) m1).trans q1'; have f6 := (hS.cell (p := ⟨bR, a, none⟩) m2).trans q2'; have f7 := (hS.cell (p := ⟨gc, j, none⟩) m3).trans q3'; have f8 := (hS.cell (p := ⟨bC, b, none⟩) m4).trans q4'; go_simp <;> with_reducible rfl
                  simp only [Act.put, List.setIfInBounds_toArray, List.set_cons_zero, List.set_cons_succ]
                  refine takeL 10 (v := ?_) rfl (by kernel_rfl) (by kernel_rfl) (by kernel_rfl) (fun _ _ _ h => h) ⟨by rfl, ?_⟩ (by assumption) ?_
                  rotate_left
                  · intro w hS; go_simp <;> with_reducible rfl
                  simp only [Act.put, List.setIfInBounds_toArray, List.set_cons_zero, List.set_cons_succ]
                  refine takeL 11 (v := ?_) rfl (by kernel_rfl) (by kernel_rfl) (by kernel_rfl) (fun _ _ _ h => h) ⟨by rfl, ?_⟩ (by assumption) ?_
                  rotate_left
                  · intro w hS; go_simp <;> with_reducible rfl
                  simp only [Act.put, List.setIfInBounds_toArray, List.set_cons_zero, List.set_cons_succ]
                  refine takeL 12 (v := ?_) rfl (by kernel_rfl) (by kernel_rfl) (by kernel_rfl) (fun _ _ _ h => h) ⟨by rfl, ?_⟩ (by assumption) ?_
                  rotate_left
                  · intro w hS; go_simp <;> with_reducible rfl
                  simp only [Act.put, List.setIfInBounds_toArray, List.set_cons_zero, List.set_cons_succ]
                  refine takeL 13 (v := ?_) rfl (by kernel_rfl) (by kernel_rfl) (by kernel_rfl) (fun _ _ _ h => h) ⟨by rfl, ?_⟩ (by assumption) ?_
                  rotate_left
                  · intro w hS; have fm := (KM.below hS (Nat.lt_succ_self _)).cell; have f1 := fm 2; clear fm; have fa := (KA.below hS m5).cell; have f2 := fa 0; have f3 := fa 1; have f4 := fa 2; clear fa; have f5 := (hS.cell (p := ⟨gr, i, none⟩) m1).trans q1'; have f6 := (hS.cell (p := ⟨bR, a, none⟩) m2).trans q2'; have f7 := (hS.cell (p := ⟨gc, j, none⟩) m3).trans q3'; have f8 := (hS.cell (p := ⟨bC, b, none⟩) m4).trans q4'; go_simp <;> with_reducible rfl
                  simp only [Act.put, List.setIfInBounds_toArray, List.set_cons_zero, List.set_cons_succ]
                  refine takeL 14 (v := ?_) rfl (by kernel_rfl) (by kernel_rfl) (by kernel_rfl) (fun _ _ _ h => h) ⟨by rfl, ?_⟩ (by assumption) ?_
                  rotate_left
                  · intro w hS; go_simp <;> with_reducible rfl
                  simp only [Act.put, List.setIfInBounds_toArray, List.set_cons_zero, List.set_cons_succ]
                  refine takeL 15 (v := ?_) rfl (by kernel_rfl) (by kernel_rfl) (by kernel_rfl) (fun _ _ _ h => h) ⟨by rfl, ?_⟩ (by assumption) ?_
                  rotate_left
                  · intro w hS; go_simp <;> with_reducible rfl
                  simp only [Act.put, List.setIfInBounds_toArray, List.set_cons_zero, List.set_cons_succ]
                  refine takeL 16 (v := ?_) rfl (by kernel_rfl) (by kernel_rfl) (by kernel_rfl) (fun _ _ _ h => h) ⟨by rfl, ?_⟩ (by assumption) ?_
                  rotate_left
                  · intro w hS; have fm := (KM.below hS (Nat.lt_succ_self _)).cell; have f1 := fm 2; clear fm; have fa := (KA.below hS m5).cell; have f2 := fa 0; have f3 := fa 1; have f4 := fa 2; clear fa; have f5 := (hS.cell (p := ⟨gr, i, none⟩) m1).trans q1'; have f6 := (hS.cell (p := ⟨bR, a, none⟩) m2).trans q2'; have f7 := (hS.cell (p := ⟨gc, j, none⟩) m3).trans q3'; have f8 := (hS.cell (p := ⟨bC, b, none⟩) m4).trans q4'; go_simp <;> with_reducible rfl
                  simp only [Act.put, List.setIfInBounds_toArray, List.set_cons_zero, List.set_cons_succ]
                  refine takeL 17 (v := ?_) rfl (by kernel_rfl) (by kernel_rfl) (by kernel_rfl) (fun _ _ _ h => h) ⟨by rfl, ?_⟩ (by assumption) ?_
                  rotate_left
                  · intro w hS; go_simp <;> with_reducible rfl
                  simp only [Act.put, List.setIfInBounds_toArray, List.set_cons_zero, List.set_cons_succ]
                  refine oneL 18 rfl (by kernel_rfl) (by rfl) (fun K hK => ?_)
                  go_simp
                  go_at_call 75
                  (with_reducible refine (rf23_At _ r c x y p xs _ HP.out (HAW.out _ hHeld) (by omega) (by omega) (by omega) (by rw [HX.out]; exact hlt) (by omega)).mono ?_); rintro e w5 ⟨r5, z5, rfl, o5, n5, v5, l5, b5⟩; obtain ⟨a5, c5, eq5⟩ := o5.sliced; subst eq5; have hsz5 : wr.drew.heap.size ≤ wr.drew.heap.size := Nat.le_refl _
                  refine hK.out _ _ (hHeld.trans (b5.mono (Nat.le_trans hgx hHeld.size))) (fun hHeld => ?_)
                  clear hK K
                  try simp only [Act.put, List.setIfInBounds_toArray, List.set_cons_zero, List.set_cons_succ]
                  refine oneL 19 rfl (by kernel_rfl) (by rfl) (fun K hK => ?_)
                  go_simp
                  have hd := hHeld
                  refine hK.out _ _ (hHeld.alloc (Nat.le_trans hgx hHeld.size) _) (fun hHeld => ?_)
                  clear hK K
                  try simp only [Act.put, List.setIfInBounds_toArray, List.set_cons_zero, List.set_cons_succ]
                  refine oneL 20 rfl (by kernel_rfl) (by rfl) (fun K hK => ?_)
                  refine apV 22 43 24 (.slice none 0 0) Try.underlying22 (by kernel_rfl) (by decide) rfl _ _ rfl w5 (gM + 1) bv (a * k + b) us (.slice a5 z5.length c5) rfl (hQ.next b5).1 (by omega) (Nat.le_trans hgx hd.size) rfl rfl ?_
                  intro gg cap1 w6 hown' hbel' hgr' _
                  refine hK.out _ _ (hd.trans hbel') (fun hHeld => ?_)
                  clear hK K
                  try simp only [Act.put, List.setIfInBounds_toArray, List.set_cons_zero, List.set_cons_succ]
                  refine takeL 21 (v := ?_) rfl (by kernel_rfl) (by kernel_rfl) (by kernel_rfl) (fun _ _ _ h => h) ⟨by rfl, ?_⟩ (by assumption) ?_
                  rotate_left
                  · intro w hS; go_simp <;> with_reducible rfl
                  simp only [Act.put, List.setIfInBounds_toArray, List.set_cons_zero, List.set_cons_succ]
                  refine doneL (by kernel_rfl) ?_ _
                  refine lastL rfl (by rfl) ?_
                  have hqq := (hQ.next b5).push hgr' hown' o5 (Nat.le_trans hgx hsz5) n5 (by rw [v5, ← HGX.out, EA.out]; rfl) (by omega)
                  have K2 := KM.below hHeld (Nat.lt_succ_self _)
                  have BM := hBM5.trans (hHeld.mono (by omega))
                  have f2 := K2.free 2
                  have c2 := K2.cell 2
                  have F1 := Lib.hid (show MtR p w3 (w6.setCell ⟨gM, 2, none⟩ (.slice (some ⟨gg, 0, none⟩) (a * k + b + 1) cap1)) gM k (a * k + (b + 1)) G from ⟨_, _, K2.set 2 (.slice (some ⟨gg, 0, none⟩) (a * k + b + 1) cap1), hqq.low (a := ⟨gM, 2, none⟩) (Nat.lt_succ_self _) (.slice (some ⟨gg, 0, none⟩) (a * k + b + 1) cap1), BM.setCell (p := ⟨gM, 2, none⟩) (Nat.le_refl _) (.slice (some ⟨gg, 0, none⟩) (a * k + b + 1) cap1)⟩)
                  clear K2 hown' hqq hQ BM hHeld hd hbel' hgr' KA KM q1' q2' q3' q4' o5 n5 v5 l5 b5 hBM5 hA
                  go_wp2
                  go_roundw
                  case rel => exact ⟨b + 1, by omega, by go_num, F1.out⟩
                  case measure => simp [intOf] <;> omega
                · obtain rfl : b = k := by omega
                  go_wp2
                  go_roundw
                  case rel => exact ⟨a + 1, by omega, by go_num, by rw [Nat.succ_mul]; exact st⟩
                  case measure => simp [intOf] <;> omega
            · obtain rfl : a = k := by omega
              obtain ⟨bv, us, KM, hQ, hBM⟩ := st
              have B3 := HLB.out _ hBM
              have KF := HKF.out.next B3
              have tov := HOV.out.below hBM (Nat.le_of_eq HG3.out.symm)
              obtain ⟨ao, co, eo⟩ := hQ.slc
              subst eo
              go_upto_region 18 with (fail)
              have bd := Drawn.below (w' := wr.drew) ⟨1, rfl⟩ wr.heap.size
              replace KM := KM.next bd; replace hQ := hQ.next bd; replace KF := KF.next bd; replace tov := tov.next bd
              have B5 := B3.trans (bd.mono B3.size)
              obtain ⟨qs, hql, hqn, hqv⟩ := hQ.ns HP.out
              have mM : Xm wr.drew (.agg #[.int .i64 a, .int .i64 a, .slice ao (a * a) co]) a a qs := ⟨_, rfl, hqn⟩
              have HQL := Lib.hid hql; have HQV := Lib.hid hqv
              clear bd B3 hBM hQ hqn hql hqv
              refine startL (S := (fun w' => Below (wr.drew).heap.size (wr.drew) w')) (by kernel_rfl) (Below.refl _ _) (fun hHeld => ?_)
              refine takeL 0 (v := ?_) rfl (by kernel_rfl) (by kernel_rfl) (by kernel_rfl) (fun _ _ _ h => h) ⟨by rfl, ?_⟩ (by assumption) ?_
              rotate_left
              · intro w hS; have fm := KM.at hS; have f1 := fm 0; have f2 := fm 1; have f3 := fm 2; clear fm; have f4 := (KF.at hS) 0; go_simp <;> with_reducible rfl
              simp only [Act.put, List.setIfInBounds_toArray, List.set_cons_zero, List.set_cons_succ]
              refine takeL 1 (v := ?_) rfl (by kernel_rfl) (by kernel_rfl) (by kernel_rfl) (fun _ _ _ h => h) ⟨by rfl, ?_⟩ (by assumption) ?_
              rotate_left
              · intro w hS; go_simp <;> with_reducible rfl
              simp only [Act.put, List.setIfInBounds_toArray, List.set_cons_zero, List.set_cons_succ]
              refine takeL 2 (v := ?_) rfl (by kernel_rfl) (by kernel_rfl) (by kernel_rfl) (fun _ _ _ h => h) ⟨by rfl, ?_⟩ (by assumption) ?_
              rotate_left
              · intro w hS; have fm := KM.at hS; have f1 := fm 0; have f2 := fm 1; have f3 := fm 2; clear fm; have f4 := (KF.at hS) 0; go_simp <;> with_reducible rfl
              simp only [Act.put, List.setIfInBounds_toArray, List.set_cons_zero, List.set_cons_succ]
              refine takeL 3 (v := ?_) rfl (by kernel_rfl) (by kernel_rfl) (by kernel_rfl) (fun _ _ _ h => h) ⟨by rfl, ?_⟩ (by assumption) ?_
              rotate_left
              · intro w hS; go_simp <;> with_reducible rfl
              simp only [Act.put, List.setIfInBounds_toArray, List.set_cons_zero, List.set_cons_succ]
              refine oneL 4 rfl (by kernel_rfl) (by rfl) (fun K hK => ?_)
              go_simp
              go_at_call 74
              (with_reducible refine (rf23_Det p 3 _ a qs _ HP.out (mM.next hHeld) (by omega) HQL.out (by omega) (fun q hq => (HQV.out q hq).2.2) (by omega)).mono ?_); rintro e w5 ⟨r5, z5, rfl, o5, n5, v5, l5, b5⟩
              have VD := Lib.hid v5; have s5 := o5.sl; clear v5 n5 o5
              refine hK.out _ _ (hHeld.trans (b5.mono hHeld.size)) (fun hHeld => ?_)
              clear hK K
              try simp only [Act.put, List.setIfInBounds_toArray, List.set_cons_zero, List.set_cons_succ]
              refine oneL 5 rfl (by kernel_rfl) (by rfl) (fun K hK => ?_)
              go_simp
              go_at_call 83
              (with_reducible refine (fp_Gcd p _ _ zs z5 _ HP.out HTR.out (tov.next hHeld) s5 (by omega) (by omega)).mono ?_); rintro e w6 ⟨r6, z6, rfl, o6, n6, g6, l6, b6⟩
              refine hK.out _ _ (hHeld.trans (b6.mono hHeld.size)) (fun hHeld => ?_)
              clear hK K
              try simp only [Act.put, List.setIfInBounds_toArray, List.set_cons_zero, List.set_cons_succ]
              refine takeL 6 (v := ?_) rfl (by kernel_rfl) (by kernel_rfl) (by kernel_rfl) (fun _ _ _ h => h) ⟨by rfl, ?_⟩ (by assumption) ?_
              rotate_left
              · intro w hS; go_simp <;> with_reducible rfl
              simp only [Act.put, List.setIfInBounds_toArray, List.set_cons_zero, List.set_cons_succ]
              refine doneL (by kernel_rfl) ?_ _
              have hDN := Lib.hid (show dn a (aT p a qs) = dn a fun u v => A ((RW.getD i []).getD u 0) ((CW.getD j []).getD v 0) from dn_congr a fun u v hu hv => by
                show pl p (qs.getD (u * a + v) []) = _
                rw [(HQV.out _ (at_lt rfl hu hv)).2.1, HQG.out u v hv])
              have F1 := Lib.hid (HM.out.step (R0 := RW.getD i []) (C0 := CW.getD j []) (S' := fun R C => (R ∈ RW.take i ∧ C ∈ CW) ∨ (R = RW.getD i [] ∧ C ∈ CW.take (j + 1))) (by rw [← hDN.out, ← VD.out]; exact g6) fun R C => by
                rw [mem_take_succ hjc]
                constructor
                · rintro (h | ⟨h1, h2 | h2⟩)
                  · exact .inl (.inl h)
                  · exact .inl (.inr ⟨h1, h2⟩)
                  · exact .inr ⟨h1, h2⟩
                · rintro ((h | ⟨h1, h2⟩) | ⟨h1, h2⟩)
                  · exact .inl h
                  · exact .inr ⟨h1, .inl h2⟩
                  · exact .inr ⟨h1, .inr h2⟩)
              have F2 := Lib.hid o6.sl
              have F3 := Lib.hid n6
              have F4 := Lib.hid (B5.trans (hHeld.mono B5.size))
              have hl6 : z6.length ≤ 10 := by omega
              clear g6 o6 n6 l6 b6 B5 hHeld KM KF tov mM
              go_wp2
              go_roundw
              case rel => exact ⟨j + 1, z6, by omega, by go_num, F2.out, F3.out, hl6, F1.out, F4.out⟩
              case measure => simp [intOf] <;> omega
        · obtain rfl : j = CW.length := by omega
          have F1 := Lib.hid (HM.out.congr (S' := fun R C => R ∈ RW.take (i + 1) ∧ C ∈ CW) fun R C => by
            rw [mem_take_succ hir, List.take_length]
            constructor
            · rintro ⟨h1 | h1, h2⟩
              · exact .inl ⟨h1, h2⟩
              · exact .inr ⟨h1, h2⟩
            · rintro (⟨h1, h2⟩ | ⟨h1, h2⟩)
              · exact ⟨.inl h1, h2⟩
              · exact ⟨.inr h1, h2⟩)
          have F2 := Lib.hid hov
          have F3 := Lib.hid BR
          clear hov BR
          go_wp2
          go_roundw
          case rel => exact ⟨i + 1, zs, by omega, by go_num, F2.out, NZ.out, lz, F1.out, F3.out⟩
          case measure => simp [intOf] <;> omega
    · obtain rfl : i = RW.length := by omega
      have FIN := Lib.hid (show Sl .u64 wr u9 zs → PQ (.returned u9) wr from fun h => by
        rw [EPQ.out]
        exact ⟨u9, zs, rfl, h, NZ.out, lz, by
          have := HM.out
          rw [List.take_length, ERW.out, ECW.out, EA.out] at this
          exact this, B2.out.trans (BR.mono B2.out.size)⟩)
      clear BR HBR
      go_wp2
      first | exact FIN.out HOV.out | (go_ret; exact FIN.out HOV.out)

end Go.Proofs.Ytkmfhabgempjiaa
