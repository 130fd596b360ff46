/- hess: the characteristic polynomial. -/
import Derived.Test.YthghdjpjbngllaaZeHnext
namespace Go.Proofs.Ythghdjpjbngllaa
open Go.RowKit

theorem chi_of_sim {R : Type} [CR R] {n : Nat} {A : MT R n n} {H P : Nat → Nat → R} (h : Sim A H P) : chi A = dn n (xh H) := by
  obtain ⟨⟨X, hX⟩, h2⟩ := h
  rw [chi_conj hX h2, chi_xh]
  exact dn_congr n fun i k hi hk => by unfold xh; rw [MT.of_e _ hi hk]
theorem Hk.kept {p : Nat} {w w' : World} {base gW n : Nat} {H P : Nat → Nat → Zp p} {hv pv : Value} {hs ps : List Value} (h : Hk p w base gW n H P hv pv hs ps) {b1 n0 : Nat} {v0 : Value} {xs0 : List Value} (ho : w.ownsRow b1 33 1 v0 n0 xs0) (hg : w.grownBy w' v0.ownBlock) : Hk p w' base gW n H P hv pv hs ps :=
  ⟨h.blk.kept hg (rowOwn_ne ho h.blk (by decide)), h.gw, h.h.kept ho hg (by decide) (by decide) (fun _ _ h => h), h.p.kept ho hg (by decide) (by decide) (fun _ _ h => h), h.sep, h.hd⟩
theorem Own.keptP {w w' : World} {base : Nat} {v : Value} {xs : List Nat} (h : Own .u64 27 w base v xs) {b1 n0 : Nat} {v0 : Value} {xs0 : List Value} (ho : w.ownsRow b1 33 1 v0 n0 xs0) (hg : w.grownBy w' v0.ownBlock) : Own .u64 27 w' base v xs := by
  refine World.ownsRow.kept h hg ?_
  rcases h.2 with ⟨h1, _⟩ | ⟨g, cap, cur, h1, _, h2, _⟩
  · left; rw [h1]; rfl
  · right
    intro e
    rw [h1] at e
    exact rowOwn_ne ho h2 (by decide) e.symm
theorem Pls.push {p : Nat} {w w' : World} {base b1 : Nat} {bv bv' r : Value} {vs : List Value} {n : Nat} {D : Nat → Pol (Zp p)} {zs : List Nat} (h : Pls p w base bv vs n D) (hg : w.grownBy w' bv.ownBlock) (ho : w'.ownsRow base 33 1 bv' (n + 1) (vs ++ [r]))
    (hr : Own .u64 27 w b1 r zs) (hb : base ≤ b1) (hz : Nrm p zs) (hD : pl p zs = D n) (hl : zs.length ≤ n + 1) : Pls p w' base bv' (vs ++ [r]) (n + 1) D := by
  refine ⟨ho, by rw [List.length_append, h.2.1]; rfl, fun j v hv => ?_⟩
  by_cases hj : j < n
  · rw [List.getElem?_append_left (by rw [h.2.1]; exact hj)] at hv
    obtain ⟨ys, h1, h2⟩ := h.2.2 j v hv
    exact ⟨ys, h1.keptP h.1 hg, h2⟩
  · rw [List.getElem?_append_right (by rw [h.2.1]; omega), h.2.1] at hv
    have : j = n := by
      have := (List.getElem?_eq_some_iff.1 hv).1
      simp at this; omega
    subst this
    simp at hv
    subst hv
    exact ⟨zs, (hr.mono hb).keptP h.1 hg, hz, hD, hl⟩
theorem nrm_1 {p : Nat} (hp : FP p) : Nrm p [1] := ⟨wf_cons (by have := hp.1; omega) (wf_nil _), rfl⟩
theorem pls_start {p : Nat} (hp : FP p) (w : World) (D : Nat → Pol (Zp p)) (hD : D 0 = 1) :
    Pls p ((w.alloc (.cells #[.int .u64 1] 27)).alloc (.cells #[.slice (some ⟨w.heap.size, 0, none⟩) 1 1] 33)) w.heap.size (.slice (some ⟨w.heap.size + 1, 0, none⟩) 1 1) [.slice (some ⟨w.heap.size, 0, none⟩) 1 1] 1 D := by
  have e : (w.alloc (.cells #[.int .u64 1] 27)).heap.size = w.heap.size + 1 := by simp
  have h1 := World.ownsRow_lit (base := w.heap.size) (e := 33) (size := 1) (w.alloc (.cells #[.int .u64 1] 27)) #[.slice (some ⟨w.heap.size, 0, none⟩) 1 1] 1 (by rw [e]; omega) (by unfold maxLen; omega) rfl
  rw [e] at h1
  refine ⟨h1, rfl, fun j v hv => ?_⟩
  cases j with
  | zero =>
    simp at hv
    subst hv
    exact ⟨[1], (own_lit1 w 1).next ((Below.refl _ _).alloc (Nat.le_refl _) _), nrm_1 hp, by rw [hD]; exact pl1, by simp⟩
  | succ j => simp at hv

/-- A normal polynomial and a word are returned. -/
def RetPE (p : Nat) (w : World) (L : Nat) (f : Pol (Zp p)) (e : Ending) (w' : World) : Prop :=
  ∃ ao cap zs, e = .returned (.tuple #[.slice ao zs.length cap, .int .i64 0]) ∧ Own .u64 27 w' w.heap.size (.slice ao zs.length cap) zs ∧ Nrm p zs ∧ pl p zs = f ∧ zs.length ≤ L ∧ Below w.heap.size w w'
/-- Where the loop of Char stands. -/
def ChR (p : Nat) (w wr : World) (b0 gW n g : Nat) (mat : List Value) (H P : Nat → Nat → Zp p) (hv pv : Value) (hs ps : List Value) (i : Nat) (bv : Value) : Prop :=
  ∃ vs, Hk p wr b0 gW n H P hv pv hs ps ∧ Pls p wr w.heap.size bv vs (i + 1) (fun j => dn j (xh H)) ∧ Blk 42 wr g mat ∧ Below w.heap.size w wr

set_option maxRecDepth 20000 in
set_option maxHeartbeats 2000000 in
theorem hs_Char (p : Nat) (a : Value) (n : Nat) (xs : List Nat) (w : World) (hp : FP p) (ht : Trial p) (hA : Fm w a n n xs) (hn : n ≤ 64) (hx : xs.length = n * n) :
    Calls Try.prog 25 #[.agg #[.int .u64 p], a] w (RetPE p w (n + 1) (chi (mx p n n xs))) := by
  obtain ⟨aA, cA, rfl⟩ := hA.agg
  obtain ⟨wb, ew, KF, KA, B0, hsz⟩ := boxes2 w 29 42 [.int .u64 p] [.int .i64 n, .int .i64 n, .slice aA xs.length cA]
  clear hsz
  have HP := Lib.hid hp; clear hp
  have HTR := Lib.hid ht; clear ht
  replace hA := hA.next B0
  have HX := Lib.hid hx; clear hx
  obtain ⟨A, eA⟩ : ∃ A, A = mx p n n xs := ⟨_, rfl⟩
  rw [← eA]
  have EA := Lib.hid eA; clear eA
  go_enter Try.func25, Try.ntmps25
  go_upto_region 1 with (fail)
  rw [← ew]
  obtain ⟨g0, eg0⟩ : ∃ g, g = w.heap.size := ⟨_, rfl⟩
  rw [← eg0] at KF KA ⊢
  have hgw : w.heap.size ≤ g0 := by omega
  clear ew eg0
  have f0 := KF.cell 0; have f1 := KA.cell 0; have f2 := KA.cell 1; have f3 := KA.cell 2
  go_wp2_with fail
  refine (hs_square_yes _ n xs _ hA hn HX.out).mono ?_; rintro e w2 ⟨rfl, b2⟩
  replace B0 := B0.trans (b2.mono B0.size)
  replace KF := KF.next b2; replace KA := KA.next b2; replace hA := hA.next b2
  clear f0 f1 f2 f3 b2
  have f0 := KF.cell 0; have f1 := KA.cell 0; have f2 := KA.cell 1; have f3 := KA.cell 2
  go_wp2_with fail
  refine (hs_formed p _ n xs _ HP.out HTR.out hA hn HX.out).mono ?_; rintro e w3 ⟨gW, H, P, hv, pv, hs, ps, rfl, h1, ⟨hS, hH⟩, b3⟩
  rw [← EA.out] at hS
  have hch := chi_of_sim hS
  have HCH := Lib.hid hch; have HH := Lib.hid hH
  clear hch hH hS
  replace KF := KF.next b3; replace KA := KA.next b3; replace hA := hA.next b3
  clear f0 f1 f2 f3
  have hPl := pls_start HP.out w3 (fun j => dn j (xh H)) rfl
  obtain ⟨w4, ew4⟩ : ∃ w4, w4 = (w3.alloc (.cells #[.int .u64 1] 27)).alloc (.cells #[.slice (some ⟨w3.heap.size, 0, none⟩) 1 1] 33) := ⟨_, rfl⟩
  have b4 : Below w3.heap.size w3 w4 := by rw [ew4]; exact ((Below.refl _ _).alloc (Nat.le_refl _) _).alloc (by simp) _
  replace B0 := B0.trans (b3.mono B0.size)
  have hs3 := B0.size
  go_upto_region 5 with (fail)
  rw [← ew4] at hPl ⊢
  clear ew4
  have st : ChR p w w4 w2.heap.size gW n (g0 + 1) [.int .i64 n, .int .i64 n, .slice aA xs.length cA] H P hv pv hs ps 0 (.slice (some ⟨w3.heap.size + 1, 0, none⟩) 1 1) :=
    ⟨_, h1.next b4, ⟨rowOwn_mono hPl.1 hs3, hPl.2.1, fun j v hv => by obtain ⟨ys, h1, h2⟩ := hPl.2.2 j v hv; exact ⟨ys, h1.mono hs3, h2⟩⟩, KA.next b4, B0.trans (b4.mono hs3)⟩
  have f1 := (KA.next b4).cell 0
  clear KF KA hA h1 hPl b4 b3 B0 hs3
  go_wp2
  clear f1
  go_loopw [18, 7] (fun iv bv wr => ∃ i : Nat, i ≤ n ∧ iv = .int .i64 i ∧ ChR p w wr w2.heap.size gW n (g0 + 1) [.int .i64 n, .int .i64 n, .slice aA xs.length cA] H P hv pv hs ps i bv) (fun iv _ _ => n - (intOf iv).toNat)
  case atStart => exact ⟨0, by omega, rfl, st⟩
  case round =>
    clear st
    obtain ⟨i, hi, rfl, vs, h, hB, KA, B0⟩ := hrel
    have hbw := B0.size
    obtain ⟨gB, cB, rfl, hgb, hgB, hmc⟩ : ∃ g cap, u7 = .slice (some ⟨g, 0, none⟩) (i + 1) cap ∧ w.heap.size ≤ g ∧ g < wr.heap.size ∧ i + 1 ≤ cap := by
      rcases rowOwn_shape hB.1 with ⟨_, h0⟩ | h0
      · omega
      · exact h0
    by_cases hin : i < n
    · go_wp2_with fail
      refine (hs_next p _ HP.out w2.heap.size w.heap.size gW n H P _ _ hs ps h HH.out _ vs (i + 1) i rfl (by omega) hn hB).mono ?_; rintro e w5 ⟨r, zs, rfl, o5, m5, v5, l5, b5⟩
      obtain ⟨ar, cr, rfl⟩ := o5.sliced
      replace h := h.next b5; replace hB := hB.next b5; replace KA := KA.next b5
      replace B0 := B0.trans (b5.mono hbw)
      have hb5 : w.heap.size ≤ w5.heap.size := B0.size
      go_wp2_with (refine apVl 22 33 24 (.slice none 0 0) Try.underlying22 (by kernel_rfl) (by decide) rfl rfl _ _ rfl w5 w.heap.size _ (i + 1) vs (.slice ar zs.length cr) rfl hB.1 (by omega) hb5 rfl rfl ?_; intro gg cap w6 ho6 hb6 hg6 hor6)
      have h6 := h.kept hB.1 hg6
      have hB6 := hB.push hg6 ho6 o5 hbw m5 v5 l5
      have KA6 := KA.kept hg6 (rowOwn_ne hB.1 KA (by decide))
      have st := Lib.hid (show ChR p w w6 w2.heap.size gW n (g0 + 1) [.int .i64 n, .int .i64 n, .slice aA xs.length cA] H P hv pv hs ps (i + 1) (.slice (some ⟨gg, 0, none⟩) (i + 1 + 1) cap) from ⟨_, h6, hB6, KA6, B0.trans hb6⟩)
      clear h hB KA B0 h6 hB6 KA6 ho6 hb6 hg6 hor6 o5 m5 v5 b5
      go_wp2
      go_roundw
      case rel => exact ⟨i + 1, by omega, by go_num, st.out⟩
      case measure => simp [intOf] <;> omega
    · obtain rfl : i = n := by omega
      obtain ⟨vn, hvn⟩ : ∃ v, vs[i]? = some v := ⟨_, List.getElem?_eq_getElem (by rw [hB.2.1]; omega)⟩
      have qb := World.ownsRow.cellAt hB.1 i (by omega); rw [hvn] at qb
      obtain ⟨ys, o1, m1, v1, l1⟩ := hB.2.2 i vn hvn
      obtain ⟨ay, cy, rfl⟩ := o1.sliced
      have f1 := KA.cell 0
      have FR := Lib.hid (show RetPE p w (i + 1) (chi A) (.returned (.tuple #[.slice ay ys.length cy, .int .i64 0])) wr from ⟨_, _, ys, rfl, o1, m1, by rw [HCH.out]; exact v1, l1, B0⟩)
      clear h hB KA B0 o1 m1 v1 hvn
      go_wp2
      exact bodyPost_ret (v := .tuple #[.slice ay ys.length cy, .int .i64 0]) (by simp [results, Try.results25, go_sem]) rfl FR.out

end Go.Proofs.Ythghdjpjbngllaa
/- hess: Hessenberg. -/
namespace Go.Proofs.Ythghdjpjbngllaa
open Go.RowKit

end Go.Proofs.Ythghdjpjbngllaa
/- hess: Companion. -/
namespace Go.Proofs.Ythghdjpjbngllaa
open Go.RowKit

end Go.Proofs.Ythghdjpjbngllaa
/- hess: the characteristic polynomial of a companion; the awake of law 22. -/
namespace Go.Proofs.Ythghdjpjbngllaa
open Go.RowKit

section
variable {p n : Nat} {zs : List Nat}
end

end Go.Proofs.Ythghdjpjbngllaa
