/- hess: the form; Hessenberg. -/
import Derived.Test.YthghdjpjbngllaaZeHcol
namespace Go.Proofs.Ythghdjpjbngllaa
open Go.RowKit

theorem Hk.mono {p : Nat} {w : World} {base base' gW n : Nat} {H P : Nat → Nat → Zp p} {hv pv : Value} {hs ps : List Value} (h : Hk p w base gW n H P hv pv hs ps) (hb : base' ≤ base) : Hk p w base' gW n H P hv pv hs ps :=
  ⟨h.blk, Nat.le_trans hb h.gw, h.h.mono hb, h.p.mono hb, h.sep, h.hd⟩
theorem Sim.start {R : Type} [CR R] {n : Nat} (A : MT R n n) : Sim A A.e (MT.one n : MT R n n).e := by
  refine ⟨⟨MT.one n, ?_⟩, ?_⟩
  · rw [MT.of_self]; exact Inv.one
  · rw [MT.of_self, MT.of_self, MT.one_mul, MT.mul_one]
/-- Where the form stands. -/
def FoR (p : Nat) (wb wr : World) (gW n g : Nat) (mat : List Value) (A : MT (Zp p) n n) (hv pv : Value) (m : Nat) : Prop :=
  ∃ H P, HkTo p wb wb.heap.size gW n H P hv pv wr ∧ Sim A H P ∧ HesC n m H ∧ Blk 42 wr g mat ∧ g < wb.heap.size

set_option maxRecDepth 20000 in
set_option maxHeartbeats 1000000 in
theorem hs_formed (p : Nat) (a : Value) (n : Nat) (xs : List Nat) (w : World) (hp : FP p) (ht : Trial p) (hA : Fm w a n n xs) (hn : n ≤ 64) (hx : xs.length = n * n) :
    Calls Try.prog 84 #[.agg #[.int .u64 p], a] w (RetHk p w n (fun H P => Sim (mx p n n xs) H P ∧ Hes n H)) := by
  obtain ⟨aA, cA, rfl⟩ := hA.agg
  obtain ⟨wb, ew, KF, KA, B0, hsz⟩ := boxes2 w 29 42 [.int .u64 p] [.int .i64 n, .int .i64 n, .slice aA xs.length cA]
  clear hsz
  have HP := Lib.hid hp; clear hp
  have HTR := Lib.hid ht; clear ht
  replace hA := hA.next B0
  have HX := Lib.hid hx; clear hx
  obtain ⟨A, eA⟩ : ∃ A, A = mx p n n xs := ⟨_, rfl⟩
  rw [← eA]
  have EA := Lib.hid eA; clear eA
  go_enter Try.func84, Try.ntmps84
  go_upto_region 1 with (fail)
  rw [← ew]
  obtain ⟨g0, eg0⟩ : ∃ g, g = w.heap.size := ⟨_, rfl⟩
  rw [← eg0] at KF KA ⊢
  have hgw : w.heap.size ≤ g0 := by omega
  clear ew eg0
  have f0 := KF.cell 0; have f1 := KA.cell 0; have f2 := KA.cell 1; have f3 := KA.cell 2
  go_wp2_with fail
  refine (hs_begun p _ n xs _ HP.out hA hn HX.out).mono ?_; rintro e w2 ⟨gW, H, P, hv, pv, hs, ps, rfl, h1, ⟨eH, eP⟩, b2⟩
  subst eH eP
  obtain ⟨ah, ch, rfl⟩ := h1.h.slice_of
  obtain ⟨ap, cp, rfl⟩ := h1.p.slice_of
  have st : FoR p wb w2 gW n (g0 + 1) [.int .i64 n, .int .i64 n, .slice aA xs.length cA] A (.slice ah n ch) (.slice ap n cp) 1 := ⟨_, _, ⟨_, _, h1, b2⟩, by rw [EA.out]; exact Sim.start _, fun i c _ _ h => by omega, KA.next b2, KA.lt⟩
  clear h1 b2 KF KA hA f0 f1 f2 f3
  have hBs := B0.size
  have HB0 := Lib.hid B0; clear B0
  go_wp2
  go_loopw [6] (fun kv wr => ∃ m : Nat, 1 ≤ m ∧ m ≤ 64 ∧ kv = .int .i64 m ∧ FoR p wb wr gW n (g0 + 1) [.int .i64 n, .int .i64 n, .slice aA xs.length cA] A (.slice ah n ch) (.slice ap n cp) m) (fun kv _ => n - (intOf kv).toNat)
  case atStart => exact ⟨1, by omega, by omega, rfl, st⟩
  case round =>
    clear st
    obtain ⟨m, hm1, hm64, rfl, H, P, ⟨hs, ps, h, B1⟩, hS, hH, KA, hg⟩ := hrel
    have HS := Lib.hid hS; have HH := Lib.hid hH; clear hS hH
    have hbw := B1.size
    have f1 := KA.cell 0
    by_cases hmn : m + 1 < n
    · have hmn2 : (m : Int) + 1 < (n : Int) := by omega
      have hb2 : w.heap.size ≤ wr.heap.size := by omega
      go_wp2_with fail
      refine (hs_column p _ HP.out HTR.out wb.heap.size gW n H P _ _ hs ps h m (m - 1) (by omega) (by omega) HH.out (by omega) hbw).mono ?_; rintro e w5 ⟨rfl, H', P', ⟨hs', ps', h2, B2⟩, hS2, hH2⟩
      have st := Lib.hid (show FoR p wb w5 gW n (g0 + 1) [.int .i64 n, .int .i64 n, .slice aA xs.length cA] A (.slice ah n ch) (.slice ap n cp) (m + 1) from ⟨H', P', ⟨_, _, h2, B1.trans B2⟩, hS2 A HS.out, hH2, KA.below B2 hg, hg⟩)
      clear h h2 B1 B2 KA hS2 hH2
      go_wp2
      go_roundw
      case rel => exact ⟨m + 1, by omega, by omega, by go_num, st.out⟩
      case measure => simp [intOf] <;> omega
    · have FR := Lib.hid (show RetHk p w n (fun H P => Sim A H P ∧ Hes n H) (.returned (.pointer (some ⟨gW, 0, none⟩))) wr from
        ⟨gW, H, P, _, _, hs, ps, rfl, h.mono hBs, ⟨HS.out, fun i c h1 h2 => HH.out i c h1 h2 (by omega)⟩, HB0.out.trans (B1.mono hBs)⟩)
      have hmn2 : ¬ (m : Int) + 1 < (n : Int) := by omega
      clear h B1 KA
      go_wp2
      go_ret
      exact FR.out

theorem hs_square (a : Value) (R C : Int) (xs : List Nat) (w : World) (hA : Fm w a R C xs) (b : Bool) (hb : b = decide (Fd R C xs.length ∧ R = C)) :
    Calls Try.prog 83 #[a] w (RetW w (.bool b)) := by
  obtain ⟨aA, cA, rfl⟩ := hA.agg
  obtain ⟨wb, ew, KA, B0, hsz⟩ := boxes1 w 42 [.int .i64 R, .int .i64 C, .slice aA xs.length cA]
  clear hsz
  replace hA := hA.next B0
  have f0 := KA.cell 0; have f1 := KA.cell 1; have f2 := KA.cell 2
  by_cases hF : Fd R C xs.length
  · by_cases hRC : R = C
    · subst hRC
      obtain rfl : b = true := by rw [hb]; exact decide_eq_true ⟨hF, rfl⟩
      clear hb
      go_enter Try.func83, Try.ntmps83
      go_upto_region 1 with (fail)
      rw [← ew]
      clear ew
      go_wp2_with fail
      refine (fm_Formed_yes _ R R xs _ hA hF).mono ?_; rintro e w2 ⟨rfl, b2⟩
      have KA2 := KA.next b2
      clear f0 f1 f2 KA
      have f0 := KA2.cell 0; have f1 := KA2.cell 1
      go_wp2
      go_ret
      exact ⟨rfl, B0.trans (b2.mono B0.size)⟩
    · obtain rfl : b = false := by rw [hb]; exact decide_eq_false (fun h => hRC h.2)
      clear hb
      have h2 : (R == C) = false := by simpa using hRC
      go_enter Try.func83, Try.ntmps83
      go_upto_region 1 with (fail)
      rw [← ew]
      clear ew
      go_wp2_with fail
      refine (fm_Formed_yes _ R C xs _ hA hF).mono ?_; rintro e w2 ⟨rfl, b2⟩
      have KA2 := KA.next b2
      clear f0 f1 f2 KA
      have f0 := KA2.cell 0; have f1 := KA2.cell 1
      go_wp2
      go_ret
      exact ⟨rfl, B0.trans (b2.mono B0.size)⟩
  · obtain rfl : b = false := by rw [hb]; exact decide_eq_false (fun h => hF h.1)
    clear hb
    go_enter Try.func83, Try.ntmps83
    go_upto_region 1 with (fail)
    rw [← ew]
    clear ew
    go_wp2_with fail
    refine (fm_Formed_no _ R C xs _ hA hF).mono ?_; rintro e w2 ⟨rfl, b2⟩
    have KA2 := KA.next b2
    clear f0 f1 f2 KA
    have f0 := KA2.cell 0; have f1 := KA2.cell 1
    go_wp2
    go_ret
    exact ⟨rfl, B0.trans (b2.mono B0.size)⟩
theorem hs_square_yes (a : Value) (n : Nat) (xs : List Nat) (w : World) (hA : Fm w a n n xs) (hn : n ≤ 64) (hx : xs.length = n * n) : Calls Try.prog 83 #[a] w (RetW w (.bool true)) :=
  hs_square a n n xs w hA true (decide_eq_true ⟨⟨⟨by omega, by omega⟩, ⟨by omega, by omega⟩, by rw [hx]; exact Int.natCast_mul n n⟩, rfl⟩).symm
end Go.Proofs.Ythghdjpjbngllaa
