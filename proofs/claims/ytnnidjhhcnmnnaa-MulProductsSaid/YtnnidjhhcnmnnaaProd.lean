/- Package mul: Product. -/
import Derived.Shelf.Abstract
import Derived.Test.YtnnidjhhcnmnnaaHeap3
import Derived.Test.YtnnidjhhcnmnnaaNs
import Derived.Test.YtnnidjhhcnmnnaaPow
namespace Go.Proofs.Ytnnidjhhcnmnnaa
open Go.RowKit

/-- The product of all; the sum of their lengths. -/
def prl : List (List Nat) → Nat
  | [] => 1
  | q :: qs => nv W64 q * prl qs
def sll : List (List Nat) → Nat
  | [] => 0
  | q :: qs => q.length + sll qs
theorem prl_append (a b : List (List Nat)) : prl (a ++ b) = prl a * prl b := by
  induction a with
  | nil => simp [prl]
  | cons x xs ih => simp only [List.cons_append, prl, ih, Nat.mul_assoc]
theorem sll_append (a b : List (List Nat)) : sll (a ++ b) = sll a + sll b := by
  induction a with
  | nil => simp [sll]
  | cons x xs ih => simp only [List.cons_append, sll, ih, Nat.add_assoc]
theorem qs_take (qs : List (List Nat)) (k : Nat) (hk : k < qs.length) : qs.take (k + 1) = qs.take k ++ [qs.getD k []] := by
  rw [List.take_succ_eq_append_getElem hk]
  simp [List.getD, hk]
theorem sll_le {qs : List (List Nat)} {k : Nat} (hk : k < qs.length) : (qs.getD k []).length ≤ sll qs := by
  have h := List.take_append_drop (k + 1) qs
  rw [qs_take qs k hk] at h
  have h2 := congrArg sll h
  rw [sll_append, sll_append] at h2
  simp only [sll] at h2
  omega
theorem sll_take (qs : List (List Nat)) (k : Nat) : sll (qs.take k) ≤ sll qs := by
  have h := List.take_append_drop k qs
  calc sll (qs.take k) ≤ sll (qs.take k) + sll (qs.drop k) := by omega
    _ = sll qs := by rw [← sll_append, h]

theorem Hp.mono {w : World} {base base' g : Nat} {fv : Value} {ps : List (Value × List Nat)} (h : Hp w base g fv ps) (hb : base' ≤ base) : Hp w base' g fv ps :=
  ⟨h.ptr, rowOwn_mono h.row hb, fun x hx => ⟨(h.each x hx).1.mono hb, (h.each x hx).2⟩⟩
/-- Where the first loop stands. -/
def PrR (w wr : World) (g : Nat) (qs : List (List Nat)) : Prop := ∃ fv ps, Hp wr w.heap.size g fv ps ∧ ps.length = qs.length ∧ prd ps = prl qs ∧ lns ps ≤ sll qs ∧ Below w.heap.size w wr
theorem PrR.push {w w1 w2 : World} {g r cap n : Nat} {fv : Value} {ps : List (Value × List Nat)} {qs : List (List Nat)} {q zs : List Nat} {v : Value} (h : Hp w1 w.heap.size g fv ps) (hn : n = ps.length) (hl : ps.length = qs.length) (hp : prd ps = prl qs) (hs : lns ps ≤ sll qs)
    (hrow : w2.ownsRow w.heap.size 23 1 (.slice (some ⟨r, 0, none⟩) (n + 1) cap) (n + 1) (ps.map (·.1) ++ [v])) (hgr : w1.grownBy w2 fv.ownBlock) (hv : Own .u64 32 w1 w.heap.size v zs) (hz : Nrm W64 zs) (hval : nv W64 zs = nv W64 q) (hle : zs.length ≤ q.length)
    (hB : Below w.heap.size w w2) (hg : w.heap.size ≤ g) : PrR w (w2.setCell ⟨g, 0, none⟩ (.slice (some ⟨r, 0, none⟩) (n + 1) cap)) g (qs ++ [q]) := by
  have hptr : Blk 67 w2 g [fv] := (hgr.block g h.ptr.lt fun e => rowOwn_ne h.row h.ptr (by decide) e.symm).trans h.ptr
  refine ⟨.slice (some ⟨r, 0, none⟩) (n + 1) cap, ps ++ [(v, zs)], ⟨hptr.set 0 _, ?_, fun x hx => ?_⟩, by simp [hl], ?_, ?_, hB.setCell (p := ⟨g, 0, none⟩) hg _⟩
  · have k1 := ownsRow_setCell_other (a := ⟨g, 0, none⟩) hrow (rowOwn_ne hrow hptr (by decide)) (.slice (some ⟨r, 0, none⟩) (n + 1) cap)
    rw [List.map_append, List.length_append, ← hn]
    exact k1
  · have k2 : Own .u64 32 w1 w.heap.size x.1 x.2 ∧ Nrm W64 x.2 := by
      rcases List.mem_append.1 hx with hx | hx
      · exact h.each x hx
      · rw [List.mem_singleton.1 hx]; exact ⟨hv, hz⟩
    have k3 := k2.1.kept_row h.row hgr (by decide)
    exact ⟨ownsRow_setCell_other (a := ⟨g, 0, none⟩) k3 (rowOwn_ne k3 hptr (by decide)) _, k2.2⟩
  · rw [prd_append, prl_append, hp]; simp [prd, prl, hval]
  · rw [lns_append, sll_append]; simp [lns, sll]; omega

/-- Where the second loop stands. -/
def PrS (w wr : World) (g P L : Nat) : Prop := ∃ fv ps, Hp wr w.heap.size g fv ps ∧ prd ps = P ∧ lns ps ≤ L ∧ ps.length ≤ 100000 ∧ Below w.heap.size w wr
/-- How many numbers the heap holds. -/
def cntH (g : Nat) (w : World) : Nat := match w.cell? ⟨g, 0, none⟩ with
  | some (.slice _ n _) => n
  | _ => 0
theorem Hp.cnt {w : World} {base g : Nat} {fv : Value} {ps : List (Value × List Nat)} (h : Hp w base g fv ps) : cntH g w = ps.length := by
  obtain ⟨ao, cap, rfl⟩ := h.slc
  have hc := h.ptr.cell 0
  simp only [List.getElem?_cons_zero] at hc
  unfold cntH; rw [hc]
theorem Out.val {w w' : World} {base g : Nat} {ps : List (Value × List Nat)} {x : Value × List Nat} (h : Out w base g ps x w') : ∃ ps' fv, prd ps = nv W64 x.2 * prd ps' ∧ lns ps = x.2.length + lns ps' ∧ ps.length = ps'.length + 1 ∧ Own .u64 32 w' base x.1 x.2 ∧ Nrm W64 x.2 ∧ Hp w' base g fv ps' ∧ Below base w w' ∧ KO base w w' := by
  obtain ⟨ps', fv, h1, h2, h3, h4, h5⟩ := h
  exact ⟨ps', fv, (prd_perm h1).symm, (lns_perm h1).symm, h1.length_eq.symm, h2, h3, h4, h5⟩
theorem HpTo.val {w w' : World} {base g : Nat} {fv : Value} {ps : List (Value × List Nat)} (h : HpTo w base g fv ps w') : ∃ ps', prd ps = prd ps' ∧ lns ps = lns ps' ∧ ps.length = ps'.length ∧ Hp w' base g fv ps' ∧ Below base w w' := by
  obtain ⟨ps', h1, h2, h3, -⟩ := h
  exact ⟨ps', (prd_perm h1).symm, (lns_perm h1).symm, h1.length_eq.symm, h2, h3⟩

set_option maxRecDepth 20000 in
set_option maxHeartbeats 2000000 in
theorem mul_Product (v : Value) (qs : List (List Nat)) (w : World) (hv : Ns w v qs) (hn : qs.length ≤ 1000) (hl : sll qs ≤ 10000) :
    Calls Try.prog 42 #[v] w (RetN w (sll qs + 1) (prl qs)) := by
  have H0 := Lib.hid hv
  obtain ⟨ao, b, off, cap, UV, rfl, hcap, hao, hat⟩ := hv
  have hET := (enters_of Try.func62 rfl rfl : Enters Try.prog 62)
  obtain ⟨wb, ew, KE, K0, B0, hsz⟩ := boxes2 w 23 67 [] [.slice (some ⟨w.heap.size, 0, none⟩) 0 0]
  clear hsz
  have HL := Lib.hid hl
  have HAT := Lib.hid hat; have HAO := Lib.hid hao
  clear hat hl hao
  go_enter Try.func42, Try.ntmps42
  go_upto_region 2 with (fail)
  rw [← ew]
  obtain ⟨g, eg⟩ : ∃ g, g = w.heap.size + 1 := ⟨_, rfl⟩
  rw [← eg] at K0 ⊢
  have hgs : w.heap.size ≤ g := by omega
  clear eg ew
  have st : PrR w wb g (qs.take 0) := ⟨.slice (some ⟨w.heap.size, 0, none⟩) 0 0, [], ⟨K0, ⟨rfl, .inr ⟨w.heap.size, 0, #[], rfl, Nat.le_refl _, KE, Nat.le_refl _, by decide, rfl, rfl⟩⟩, fun x hx => by cases hx⟩, rfl, rfl, by simp [lns, sll], B0⟩
  clear K0 KE B0
  go_wp2
  go_loopw [13] (fun iv wr => ∃ i : Nat, iv = .int .i64 i ∧ i ≤ qs.length ∧ PrR w wr g (qs.take i)) (fun iv _ => qs.length - (intOf iv).toNat)
  case atStart => exact ⟨0, rfl, by omega, st⟩
  case round =>
    clear st
    obtain ⟨i, rfl, hi, fv, ps, hp, hlen, hprd, hlns, hB⟩ := hrel
    obtain ⟨fo, fc, rfl⟩ := hp.slc
    have hpl : ps.length = i := by rw [hlen, List.length_take]; omega
    have HPRD := Lib.hid hprd; have HLNS := Lib.hid hlns; have HLEN := Lib.hid hlen
    clear hprd hlns hlen
    by_cases hin : i < qs.length
    · obtain ⟨rfl, hbs⟩ := HAO.out (by omega)
      obtain ⟨k1, k2, k3⟩ := HAT.out i hin
      obtain ⟨q, eq⟩ : ∃ q, q = qs.getD i [] := ⟨_, rfl⟩
      rw [← eq] at k2 k3
      have hq1 := sll_le hin
      have EQ := Lib.hid (show qs.take (i + 1) = qs.take i ++ [q] by rw [qs_take qs i hin, eq])
      have hq2 : q.length ≤ 10000 := by rw [eq]; have := HL.out; omega
      clear hq1 eq
      obtain ⟨ui, eui⟩ : ∃ u, u = UV i := ⟨_, rfl⟩
      rw [← eui] at k1 k2
      clear eui
      have c1 := (hB.cell (p := ⟨b, off + i, none⟩) (by simpa using hbs)).trans k1
      have s1 := k2.below hB (Nat.le_refl _)
      clear k1 k2
      obtain ⟨qa, _, _, qk, rfl, -, -⟩ := id s1
      rw [hpl] at hp
      go_upto_region 5 with (fail)
      have bd := Drawn.below (w' := wr.drew) ⟨1, rfl⟩ wr.heap.size
      replace hp := hp.next bd; replace s1 := s1.next bd; replace hB := hB.trans (bd.mono hB.size)
      have HPL := Lib.hid hpl
      have hptr := hp.ptr
      have hgl : w.heap.size ≤ wr.drew.heap.size := hB.size
      clear bd c1 hpl
      refine startP (S := (fun w' => Below w.heap.size wr.drew w' ∧ Blk 67 w' g [.slice fo i fc])) (by kernel_rfl) _ rfl rfl rfl (by kernel_rfl) ⟨Below.refl _ _, hptr⟩ (fun hHeld => ?_)
      refine takeL 0 (v := ?_) rfl (by kernel_rfl) (by kernel_rfl) (by kernel_rfl) (fun _ _ _ h => h) ⟨by rfl, ?_⟩ (by assumption) ?_
      rotate_left
      · intro w hS; go_simp <;> with_reducible rfl
      simp only [Act.put, List.setIfInBounds_toArray, List.set_cons_zero, List.set_cons_succ]
      refine takeL 1 (v := ?_) rfl (by kernel_rfl) (by kernel_rfl) (by kernel_rfl) (fun _ _ _ h => h) ⟨by rfl, ?_⟩ (by assumption) ?_
      rotate_left
      · intro w hS; go_simp <;> with_reducible rfl
      simp only [Act.put, List.setIfInBounds_toArray, List.set_cons_zero, List.set_cons_succ]
      refine takeL 2 (v := ?_) rfl (by kernel_rfl) (by kernel_rfl) (by kernel_rfl) (fun _ _ _ h => h) ⟨by rfl, ?_⟩ (by assumption) ?_
      rotate_left
      · intro w hS; go_simp <;> with_reducible rfl
      simp only [Act.put, List.setIfInBounds_toArray, List.set_cons_zero, List.set_cons_succ]
      refine takeL 3 (v := ?_) rfl (by kernel_rfl) (by kernel_rfl) (by kernel_rfl) (fun _ _ _ h => h) ⟨by rfl, ?_⟩ (by assumption) ?_
      rotate_left
      · intro w hS; have f1 := hS.2.cell 0; simp only [List.getElem?_cons_zero] at f1; go_simp <;> with_reducible rfl
      simp only [Act.put, List.setIfInBounds_toArray, List.set_cons_zero, List.set_cons_succ]
      refine takeL 4 (v := ?_) rfl (by kernel_rfl) (by kernel_rfl) (by kernel_rfl) (fun _ _ _ h => h) ⟨by rfl, ?_⟩ (by assumption) ?_
      rotate_left
      · intro w hS; go_simp <;> with_reducible rfl
      simp only [Act.put, List.setIfInBounds_toArray, List.set_cons_zero, List.set_cons_succ]
      refine oneL 5 rfl (by kernel_rfl) (by rfl) (fun K hK => ?_)
      go_simp
      go_at_call 31
      (with_reducible refine (nat_Norm (.slice qa q.length qk) q _ s1 (by omega) k3).mono ?_); rintro e y1 ⟨vz, zs, rfl, oz, nz, ez, lz, c5⟩; obtain ⟨az, kz, rfl⟩ := oz.slc
      refine hK.out _ _ (⟨hHeld.1.trans (c5.mono (Nat.le_trans hgl hHeld.1.size)), hHeld.2.next c5⟩) (fun hHeld => ?_)
      clear hK K
      try simp only [Act.put, List.setIfInBounds_toArray, List.set_cons_zero, List.set_cons_succ]
      refine oneL 6 rfl (by kernel_rfl) (by rfl) (fun K hK => ?_)
      go_simp
      have hd := hHeld
      refine hK.out _ _ ⟨hHeld.1.alloc (Nat.le_trans hgl hHeld.1.size) _, hHeld.2.alloc _⟩ (fun hHeld => ?_)
      clear hK K
      try simp only [Act.put, List.setIfInBounds_toArray, List.set_cons_zero, List.set_cons_succ]
      refine oneL 7 rfl (by kernel_rfl) (by rfl) (fun K hK => ?_)
      refine apV 67 23 24 (.slice none 0 0) Try.underlying67 (by kernel_rfl) (by decide) rfl _ _ rfl y1 w.heap.size (.slice fo i fc) i (ps.map (·.1)) (.slice az zs.length kz) rfl (by have := (hp.next c5).row; rw [HPL.out] at this; exact this) (by omega) (Nat.le_trans hgl hd.1.size) rfl rfl ?_
      intro r2 cap2 wz hrow2 hbel2 hgr2 _
      have hP2 : Blk 67 wz g [.slice fo i fc] := (hgr2.block g hd.2.lt fun e => rowOwn_ne (hp.next c5).row hd.2 (by decide) e.symm).trans hd.2
      refine hK.out _ _ ⟨hd.1.trans hbel2, hP2⟩ (fun hHeld => ?_)
      clear hK K
      try simp only [Act.put, List.setIfInBounds_toArray, List.set_cons_zero, List.set_cons_succ]
      refine takeL 8 (v := ?_) rfl (by kernel_rfl) (by kernel_rfl) (by kernel_rfl) (fun _ _ _ h => h) ⟨by rfl, ?_⟩ (by assumption) ?_
      rotate_left
      · intro w hS; go_simp <;> with_reducible rfl
      simp only [Act.put, List.setIfInBounds_toArray, List.set_cons_zero, List.set_cons_succ]
      refine doneL (by kernel_rfl) ?_ _
      refine lastL rfl (by rfl) ?_
      have HP3 := Lib.hid (show Hp y1 w.heap.size g (.slice fo i fc) ps from hp.next c5)
      have HO3 := Lib.hid (show Own .u64 32 y1 w.heap.size (.slice az zs.length kz) zs from oz.mono hgl)
      have HN3 := Lib.hid (show Nrm W64 zs ∧ nv W64 zs = nv W64 q ∧ zs.length ≤ q.length from ⟨nz, ez, lz⟩)
      clear nz ez lz oz c5 hd
      have HST := Lib.hid (show PrR w (wz.setCell ⟨g, 0, none⟩ (.slice (some ⟨r2, 0, none⟩) (i + 1) cap2)) g (qs.take (i + 1)) by
        rw [EQ.out]
        exact PrR.push HP3.out HPL.out.symm HLEN.out HPRD.out HLNS.out hrow2 hgr2 HO3.out HN3.out.1 HN3.out.2.1 HN3.out.2.2 (hB.trans hHeld.1) hgs)
      have P2 := hHeld.2
      have q2 := P2.cell 0; have f2 := P2.free 0
      simp only [List.getElem?_cons_zero] at q2
      clear hp hptr hrow2 hbel2 hgr2 HP3 HO3 P2 s1 hHeld hB
      go_wp2
      go_roundw
      case rel => exact ⟨i + 1, by go_num, by omega, HST.out⟩
      case measure => simp [intOf] <;> omega
    · obtain rfl : i = qs.length := by omega
      have hl3 : lns ps ≤ 10000 := by have h1 := HLNS.out; have h2 := sll_take qs qs.length; have := HL.out; omega
      have hbw := hB.size
      go_wp2_with fail
      refine (Init_any w.heap.size g _ ps _ (hp.mono (by omega)) (by omega) hbw (by omega)).mono ?_; rintro e w1 ⟨rfl, fv1, hto⟩
      obtain ⟨ps1, v1, v2, v3, hp1, hB1⟩ := hto.val
      have st : PrS w w1 g (prl qs) (sll qs) := ⟨fv1, ps1, hp1, by rw [← v1, HPRD.out, List.take_length], by rw [← v2]; have := HLNS.out; rwa [List.take_length] at this, by omega, hB.trans hB1⟩
      clear hto hp1 v1 v2 v3 hp hB hB1 hbw HPRD HLNS HLEN
      go_wp2
      go_loopw [7] (fun _ wr => PrS w wr g (prl qs) (sll qs)) (fun _ wr => cntH g wr)
      case atStart => exact st
      case round =>
        clear st
        obtain ⟨fv2, ps2, hp2, hprd, hlns, hcnt, hB⟩ := hrel
        obtain ⟨fo2, fc2, rfl⟩ := hp2.slc
        have HPRD := Lib.hid hprd; have HLNS := Lib.hid hlns
        have hc := hp2.ptr.cell 0
        simp only [List.getElem?_cons_zero] at hc
        obtain ⟨N, eN⟩ : ∃ N, N = ps2.length := ⟨_, rfl⟩
        rw [← eN] at hc
        have HN := Lib.hid eN
        have hN5 : N ≤ 100000 := by omega
        clear hprd hlns eN hcnt
        have hbw := hB.size
        have HC0 := Lib.hid hp2.cnt
        have HL2 := Lib.hid (show lns ps2 ≤ 10000 by have := HLNS.out; have := HL.out; omega)
        by_cases h2 : 1 < N
        · go_wp2_with fail
          refine (Len_any fo2 N fc2 _).mono ?_; rintro e w2 ⟨rfl, rfl⟩
          clear hc
          go_wp2_with fail
          refine (take_any w.heap.size g (N - 1) _ ps2 wr hp2 (by have := HN.out; omega) hgs hbw (by have := HN.out; omega) (by have := HL2.out; omega)).mono ?_; rintro e wa ⟨xa, rfl, hout⟩
          obtain ⟨p3, f3, va, la, na, oa, ra, hpa, hBa, -⟩ := hout.val
          have VA := Lib.hid va
          have hbwa := Nat.le_trans hbw hBa.size
          have hla : lns p3 + xa.2.length ≤ 10000 := by have := HL2.out; omega
          have hna : p3.length + 1 = N := by have := HN.out; omega
          have LA := Lib.hid la
          clear hout va hp2 la na
          go_wp2_with fail
          refine (take_any w.heap.size g (N - 2) _ p3 wa hpa (by omega) hgs hbwa (by omega) (by omega)).mono ?_; rintro e wc ⟨xb, rfl, hout⟩
          obtain ⟨p4, f4, vb, lb, nb, ob, rb, hpb, hBb, kob⟩ := hout.val
          have VB := Lib.hid vb
          have hbwb := Nat.le_trans hbwa hBb.size
          have hlb : lns p4 + xb.2.length = lns p3 := by omega
          have hnb : p4.length + 2 = N := by omega
          have LB := Lib.hid lb
          have oa2 := kob _ _ oa
          have HB2 := Lib.hid (hB.trans (hBa.trans hBb))
          clear hout vb hpa lb nb oa kob hB hBa hBb hbwa
          go_wp2_with fail
          refine (mul_Mul xa.1 xb.1 xa.2 xb.2 wc oa2.sl ob.sl (by omega) (by omega) ra.1 rb.1).mono ?_; rintro e wd ⟨rm, zm, rfl, om, nm, vm, lm, bm⟩
          have VM := Lib.hid vm; clear vm
          replace hpb := hpb.next bm
          have HB3 := Lib.hid (HB2.out.trans (bm.mono hbwb))
          have hbwd := HB3.out.size
          have om2 := om.mono hbwb
          obtain ⟨am, km, rfl⟩ := om2.slc
          have hzl : zm.length + lns p4 ≤ 10000 := by omega
          have LM := Lib.hid lm; clear lm
          clear ob oa2 bm om HB2 hbwb
          go_wp2_with fail
          refine (HPush_any w.heap.size g f4 (.slice am zm.length km) zm p4 wd hpb om2 nm hgs hbwd (by omega) (by omega)).mono ?_; rintro e we ⟨rfl, f5, p5, hperm, hp5, hB5⟩
          have HST := Lib.hid (show PrS w we g (prl qs) (sll qs) from ⟨f5, p5, hp5, by
            rw [prd_perm hperm, prd_append, ← HPRD.out, VA.out, VB.out]
            simp only [prd, VM.out, Nat.mul_one]
            rw [Nat.mul_comm (prd p4), Nat.mul_assoc], by
            rw [lns_perm hperm, lns_append]
            simp only [lns]
            have h1 := HLNS.out; have h3 := LA.out; have h4 := LB.out; have h5 := LM.out
            omega, by rw [hperm.length_eq]; simp; omega, HB3.out.trans hB5⟩)
          have HCN := Lib.hid (show cntH g we < cntH g wr by
            rw [hp5.cnt, HC0.out, hperm.length_eq, ← HN.out]; simp; omega)
          clear hpb om2 hp5 hB5
          go_wp2
          go_roundw
          case rel => exact HST.out
          case measure => exact HCN.out
        · have HB2 := Lib.hid hB; clear hB
          by_cases h0 : N = 0
          · subst h0
            have HE := Lib.hid (show prl qs = 1 by
              have := HN.out
              rw [← HPRD.out]
              match ps2, this with
              | [], _ => rfl)
            go_wp2_with fail
            refine (Len_any fo2 0 fc2 _).mono ?_; rintro e w2 ⟨rfl, rfl⟩
            go_wp2_with fail
            refine (Len_any fo2 0 fc2 _).mono ?_; rintro e w2 ⟨rfl, rfl⟩
            clear hc hp2
            go_wp2_with fail
            refine (nat_Of 1 (by decide) _).mono ?_; rintro e wz ⟨r1, z1, rfl, o1, m1, v1, l1, b1⟩
            have V1 := Lib.hid v1; clear v1
            have FIN := Lib.hid (show RetN w (sll qs + 1) (prl qs) (.returned r1) wz from ⟨r1, z1, rfl, o1.mono hbw, m1, by rw [V1.out, HE.out], by omega, HB2.out.trans (b1.mono hbw)⟩)
            clear o1 b1 l1
            go_wp2
            go_ret
            exact FIN.out
          · obtain rfl : N = 1 := by omega
            go_wp2_with fail
            refine (Len_any fo2 1 fc2 _).mono ?_; rintro e w2 ⟨rfl, rfl⟩
            go_wp2_with fail
            refine (Len_any fo2 1 fc2 _).mono ?_; rintro e w2 ⟨rfl, rfl⟩
            clear hc
            go_wp2_with fail
            refine (take_any w.heap.size g 0 _ ps2 wr hp2 (by have := HN.out; omega) hgs hbw (by have := HN.out; omega) (by have := HL2.out; omega)).mono ?_; rintro e wa ⟨xa, rfl, hout⟩
            obtain ⟨p3, f3, va, la, na, oa, ra, hpa, hBa, -⟩ := hout.val
            have hp30 : p3 = [] := List.length_eq_zero_iff.1 (by have := HN.out; omega)
            subst hp30
            have FIN := Lib.hid (show RetN w (sll qs + 1) (prl qs) (.returned xa.1) wa from ⟨xa.1, xa.2, rfl, oa, ra, by rw [← HPRD.out, va]; simp [prd], by have h1 := HLNS.out; simp only [lns] at la; omega, HB2.out.trans hBa⟩)
            clear hout va la na oa hpa hBa hp2
            go_wp2
            go_ret
            exact FIN.out
end Go.Proofs.Ytnnidjhhcnmnnaa
