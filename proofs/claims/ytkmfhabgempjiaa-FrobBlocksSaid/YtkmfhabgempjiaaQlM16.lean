/- Layer 25: a column of polynomials, read at a matrix: the walk. -/
import Derived.Test.YtkmfhabgempjiaaQlM5
import Derived.Test.YtkmfhabgempjiaaQlM6
import Derived.Test.YtkmfhabgempjiaaQlM15
import Derived.Test.YtkmfhabgempjiaaQlM9
namespace Go.Proofs.Ytkmfhabgempjiaa
set_option maxHeartbeats 4000000
open Go.RowKit
section
variable {p n : Nat}
def colL (n : Nat) (f : Nat → Zp p) : List Nat := (List.range n).map fun r => (f r).val
theorem colL_length (f : Nat → Zp p) : (colL n f).length = n := by unfold colL; rw [List.length_map, List.length_range]
theorem colL_get (f : Nat → Zp p) {i : Nat} (h : i < n) : (colL n f).getD i 0 = (f i).val := by
 unfold colL
 simp only [List.getD, List.getElem?_map, List.getElem?_range h, Option.map_some, Option.getD_some]
theorem colL_of {l : List Nat} {f : Nat → Zp p} (h : l.length = n) (h2 : ∀ i, i < n → l.getD i 0 = (f i).val) : l = colL n f := by
 refine List.ext_getElem (by rw [h, colL_length]) fun i h3 h4 => ?_
 have h5 := h2 i (by omega)
 have h6 := colL_get (n := n) f (i := i) (by omega)
 simp only [List.getD, List.getElem?_eq_getElem h3, Option.getD_some] at h5
 simp only [List.getD, List.getElem?_eq_getElem h4, Option.getD_some] at h6
 rw [h5, h6]
theorem tbv_col (M : MT (Zp p) n 1) : tbv M = colL n fun r => M.e r 0 := colL_of (by rw [tbv_length, Nat.mul_one]) fun i hi => by
 have := tbv_get M hi (show 0 < 1 by omega)
 rwa [Nat.mul_one, Nat.add_zero] at this
theorem colL_congr {f g : Nat → Zp p} (h : ∀ i, i < n → f i = g i) : colL n f = colL n g := colL_of (colL_length f) fun i hi => by rw [colL_get f hi, h i hi]
theorem colL_set (f : Nat → Zp p) {i : Nat} (hi : i < n) (x : Zp p) : (colL n f).set i x.val = colL n fun r => if r = i then x else f r := colL_of (by rw [List.length_set, colL_length]) fun r hr => by
 rw [getD_set1 _ _ _ _ (by rw [colL_length]; exact hi)]
 by_cases e : r = i
 ·rw [if_pos e, if_pos e]
 ·rw [if_neg e, if_neg e, colL_get f hr]
def hzn (A : MT (Zp p) n n) (B : MT (Pol (Zp p)) n 1) (N t : Nat) : MT (Zp p) n 1 := ms t fun u => A.pow u * cf B (N - t + u)
theorem hzn_step (A : MT (Zp p) n n) (B : MT (Pol (Zp p)) n 1) {N t : Nat} (h : t < N) : hzn A B N (t + 1) = A * hzn A B N t + cf B (N - 1 - t) := by
 unfold hzn
 rw [ms_head, ms_mul]
 rw [show A.pow 0 = MT.one n from rfl, MT.one_mul, MT.add_comm, show N - (t + 1) + 0 = N - 1 - t by omega]
 congr 1
 exact ms_congr fun u _ => by rw [show N - (t + 1) + (u + 1) = N - t + u by omega, Nat.add_comm u 1, MT.pow_add, show A.pow 1 = A from MT.one_mul A, MT.mul_assoc]
theorem hzn_end {A : MT (Zp p) n n} {B : MT (Pol (Zp p)) n 1} {N : Nat} (h : ∀ t, N ≤ t → cf B t = 0) : hzn A B N N = ph A B := by
 rw [ph_eq A h]
 exact ms_congr fun u _ => by rw [Nat.sub_self, Nat.zero_add]
theorem xdg_ge (p : Nat) (qs : List (List Nat)) : ∀ n j, j < n → ((nl p (qs.getD j [])).length : Int) ≤ xdg p qs n + 1
 | 0, _, h => by omega
 | n + 1, j, h => by
  unfold xdg
  by_cases e : j = n
  ·subst e; omega
  ·have := xdg_ge p qs n j (by omega); omega
theorem xdg_le (p : Nat) (qs : List (List Nat)) {L : Nat} : ∀ n, (∀ j, j < n → (qs.getD j []).length ≤ L) → xdg p qs n + 1 ≤ L
 | 0, _ => by show (-1 : Int) + 1 ≤ _; omega
 | n + 1, h => by
  have h1 := xdg_le p qs n fun j hj => h j (by omega)
  have h2 := h n (by omega)
  have h3 := nl_len p (qs.getD n [])
  unfold xdg
  omega
def clq (p n : Nat) (qs : List (List Nat)) (k : Nat) : MT (Pol (Zp p)) n 1 := cl (MT.of n n (aT p n qs)) k
theorem clq_e {qs : List (List Nat)} {k i : Nat} (hk : k < n) (hi : i < n) : (clq p n qs k).e i 0 = pl p (qs.getD (i * n + k) []) := by
 unfold clq; rw [cl_e _ hi, MT.of_e _ hi hk]; rfl
theorem clq_cf {qs : List (List Nat)} {k N : Nat} (hk : k < n) (hN : (N : Int) = xdg p qs (n * n) + 1) (t : Nat) (ht : N ≤ t) : cf (clq p n qs k) t = 0 := MT.ext fun i j hi hj => by
 obtain rfl : j = 0 := by omega
 rw [cf_e, clq_e hk hi, MT.e_zero]
 have h1 := xdg_ge p qs (n * n) (i * n + k) (at_lt rfl hi hk)
 have h2 := pl_dlt p (nl p (qs.getD (i * n + k) []))
 rw [nl_pl] at h2
 exact h2 t (by omega)
end
def FcR (wb wr : World) (n g : Nat) (ao : Option Addr) (c : Nat) (es : List Nat) : Prop := Blk 63 wr g [.int .i64 n, .int .i64 1, .slice ao n c] ∧ Own .u64 27 wr wb.heap.size (.slice ao n c) es ∧ wb.heap.size ≤ g ∧ Below wb.heap.size wb wr
set_option maxRecDepth 20000 in
theorem fb_column (p k : Nat) (a q : Value) (n : Nat) (xs : List Nat) (qs : List (List Nat)) (w : World) (hp : FP p) (hA : Fm w a n n xs) (hQ : Xm w q n n qs) (hn : n ≤ 64) (hx : xs.length = n * n) (hq : qs.length = n * n) (hl : ∀ j, j < n * n → (qs.getD j []).length ≤ 1000000000000) (hk : k < n) :
  Calls Try.prog 141 #[.agg #[.int .u64 p], a, q, .int .i64 k] w (RetFm p w n 1 (ph (mx p n n xs) (clq p n qs k))) := by
 obtain ⟨aA, cA, rfl⟩ := hA.agg
 obtain ⟨aQ, cQ, rfl⟩ := hQ.agg
 obtain ⟨wb, ew, KF, KA, KW, KR, B0, hsz⟩ := boxes4 w 29 63 24 63 [.int .u64 p] [.int .i64 n, .int .i64 n, .slice aA xs.length cA] [.int .i64 n, .int .i64 n, .slice aQ qs.length cQ] [.int .i64 0, .int .i64 0, .slice none 0 0]
 clear hsz
 replace hA := hA.next B0
 replace hQ := hQ.next B0
 have HX := Lib.hid hx; have HQ := Lib.hid hq; have HP := Lib.hid hp; have HL := Lib.hid hl; clear hx hq hp hl
 obtain ⟨N, eN⟩ : ∃ N : Nat, (N : Int) = xdg p qs (n * n) + 1 := ⟨(xdg p qs (n * n) + 1).toNat, by have := xdg_lo p qs (n * n); omega⟩
 have hN : N ≤ 1000000000000 := by have := xdg_le p qs (n * n) HL.out; omega
 have EN := Lib.hid eN; clear eN
 obtain ⟨A, eA⟩ : ∃ A, A = mx p n n xs := ⟨_, rfl⟩
 obtain ⟨B, eB⟩ : ∃ B, B = clq p n qs k := ⟨_, rfl⟩
 rw [← eA, ← eB]
 have EA := Lib.hid eA; have EB := Lib.hid eB; clear eA eB
 go_enter Try.func141, Try.ntmps141
 go_upto_region 1 with (fail)
 rw [← ew]
 obtain ⟨g, eg⟩ : ∃ g, g = w.heap.size := ⟨_, rfl⟩
 rw [← eg] at KF KA KW KR ⊢
 have hgw : w.heap.size ≤ g := by omega
 clear ew eg
 go_cut [9] (fun v9 wx => ∃ gT gE, v9 = .pointer (some ⟨gT, 0, none⟩) ∧ FcR wb wx n gT (some ⟨gE, 0, none⟩) n (List.replicate n 0))
 case first =>
  have bd := dw wb
  replace KA := KA.next bd
  clear KF KW KR hA hQ
  have zF0 := Lib.hid fun (w : World) (hS : Below (wb.drew).heap.size (wb.drew) w) => (KA.at hS) 0
  refine startL (S := (fun w' => Below (wb.drew).heap.size (wb.drew) w')) (by kernel_rfl) (Below.refl _ _) (fun hHeld => ?_)
  refine tk 0 ?_
  refine tf 1 zF0.out ?_
  refine tk 2 ?_
  refine tf 3 zF0.out ?_
  refine twoL 4 6 rfl rfl (by kernel_rfl) (by rfl) (by rfl) (fun K hK => ?_) (fun K hK => ?_)
  ·refine mk1 .u64 41 27 8 Try.underlying41 (by kernel_rfl) (by decide) _ _ rfl .i64 .i64 n (by omega) _ _ _ rfl rfl rfl rfl ?_
   intro wE hq hbE
   refine hK.out _ _ (hHeld.trans (hbE.mono hHeld.size)) (fun hHeld => ?_)
   clear hK K
   try simp only [Act.put, zq1, zq2, zq3]
   refine tk 5 ?_
   refine on 6 fun K hK => ?_
   go_simp
   have hd9 := hHeld
   have KZ := Blk.lit wE 63 [.int .i64 0, .int .i64 0, .slice none 0 0]
   refine hK.out _ _ (hHeld.alloc hHeld.size _) (fun hHeld => ?_)
   clear hK K
   try simp only [Act.put, zq1, zq2, zq3]
   refine on 7 fun K hK => ?_
   have y0 := KZ.cell 0; have y1 := KZ.cell 1; have y2 := KZ.cell 2; have z0 := KZ.free 0; have z1 := KZ.free 1; have z2 := KZ.free 2
   go_simp
   refine hK.out _ _ (hd9.alloc hd9.size _) (fun hHeld => ?_)
   clear hK K
   try simp only [Act.put, zq1, zq2, zq3]
   clear zF0; refine doneL (by kernel_rfl) ?_ _
   have KT := Blk.lit wE 63 [.int .i64 n, .int .i64 1, .slice (some ⟨wb.heap.size, 0, none⟩) n n]
   have b15 := (Below.refl wE.heap.size wE).alloc (Nat.le_refl _) (.cells #[.int .i64 n, .int .i64 1, .slice (some ⟨wb.heap.size, 0, none⟩) n n] 63)
   have hlt : wb.heap.size < wE.heap.size := Own.headlt hq
   have st := Lib.hid (show FcR wb (wE.alloc (.cells #[.int .i64 n, .int .i64 1, .slice (some ⟨wb.heap.size, 0, none⟩) n n] 63)) n wE.heap.size (some ⟨wb.heap.size, 0, none⟩) n (List.replicate n 0) from ⟨KT, hq.next b15, Nat.le_of_lt hlt, bd.trans hHeld⟩)
   clear KT b15 hlt hHeld hq hbE KZ hd9 bd KA
   go_wp2_with fail
   go_meet
   exact ⟨_, _, rfl, st.out⟩
  ·go_simp
   have hd9 := hHeld
   have KZ := Blk.lit wb.drew 63 [.int .i64 0, .int .i64 0, .slice none 0 0]
   refine hK.out _ _ (hHeld.alloc hHeld.size _) (fun hHeld => ?_)
   clear hK K
   try simp only [Act.put, zq1, zq2, zq3]
   refine on 4 fun K hK => ?_
   refine mk1 .u64 41 27 8 Try.underlying41 (by kernel_rfl) (by decide) _ _ rfl .i64 .i64 n (by omega) _ _ _ rfl rfl rfl rfl ?_
   intro wE hq hbE
   have KZ2 : Blk 63 wE wb.heap.size [.int .i64 0, .int .i64 0, .slice none 0 0] := KZ.next hbE
   have y0 := KZ2.cell 0; have y1 := KZ2.cell 1; have y2 := KZ2.cell 2; have z0 := KZ2.free 0; have z1 := KZ2.free 1; have z2 := KZ2.free 2
   refine hK.out _ _ (hHeld.trans (hbE.mono hHeld.size)) (fun hHeld => ?_)
   clear hK K
   try simp only [Act.put, zq1, zq2, zq3]
   refine tk 5 ?_
   refine on 7 fun K hK => ?_
   go_simp
   have he9 := hHeld
   refine hK.out _ _ (((hHeld.setCell (p := ⟨wb.heap.size, 0, none⟩) (Nat.le_refl _) (.int .i64 n)).setCell (p := ⟨wb.heap.size, 1, none⟩) (Nat.le_refl _) (.int .i64 1)).setCell (p := ⟨wb.heap.size, 2, none⟩) (Nat.le_refl _) (.slice (some ⟨wb.heap.size + 1, 0, none⟩) n n)) (fun hHeld => ?_)
   clear hK K
   try simp only [Act.put, zq1, zq2, zq3]
   clear zF0; refine doneL (by kernel_rfl) ?_ _
   have KT := ((KZ2.set 0 (.int .i64 n)).set 1 (.int .i64 1)).set 2 (.slice (some ⟨wb.heap.size + 1, 0, none⟩) n n)
   have hsz : (wb.alloc (.cells #[.int .i64 0, .int .i64 0, .slice none 0 0] 63)).drew.heap.size = wb.heap.size + 1 := by show (wb.alloc (.cells #[.int .i64 0, .int .i64 0, .slice none 0 0] 63)).heap.size = wb.heap.size + 1; simp
   rw [hsz] at hq
   have o15 := ((hq.low (a := ⟨wb.heap.size, 0, none⟩) (Nat.lt_succ_self _) (.int .i64 n)).low (a := ⟨wb.heap.size, 1, none⟩) (Nat.lt_succ_self _) (.int .i64 1)).low (a := ⟨wb.heap.size, 2, none⟩) (Nat.lt_succ_self _) (.slice (some ⟨wb.heap.size + 1, 0, none⟩) n n)
   have st := Lib.hid (show FcR wb (((wE.setCell ⟨wb.heap.size, 0, none⟩ (.int .i64 n)).setCell ⟨wb.heap.size, 1, none⟩ (.int .i64 1)).setCell ⟨wb.heap.size, 2, none⟩ (.slice (some ⟨wb.heap.size + 1, 0, none⟩) n n)) n wb.heap.size (some ⟨wb.heap.size + 1, 0, none⟩) n (List.replicate n 0) from ⟨KT, o15.mono (Nat.le_succ _), Nat.le_refl _, bd.trans hHeld⟩)
   clear KT hsz o15 hHeld hq hbE KZ KZ2 hd9 he9 bd KA y0 y1 y2 z0 z1 z2
   go_wp2_with fail
   go_meet
   exact ⟨_, _, rfl, st.out⟩
 case rest =>
  obtain ⟨gT, gE, rfl, st⟩ := hcut
  have HKF := Lib.hid KF; have HKA := Lib.hid KA; have HKW := Lib.hid KW; have HKR := Lib.hid KR; have HA := Lib.hid hA; have HQM := Lib.hid hQ; have HB0 := Lib.hid B0
  have hgb : g + 1 + 1 + 1 < wb.heap.size := KR.lt
  have hz0 : List.replicate n 0 = tbv (hzn A B N 0) := by
   rw [tbv_col]
   exact colL_of (List.length_replicate) fun i hi => by
    simp only [List.getD, List.getElem?_replicate, hi, if_true, Option.getD_some]
    show 0 = (0 : Zp p).val
    rw [Zp.zero_val]
  rw [hz0] at st
  clear hz0
  have B1 := st.2.2.2
  replace KF := KF.next B1; replace KW := KW.next B1; replace hQ := hQ.next B1
  have cF := KF.cell 0; have cw0 := KW.cell 0; have cw1 := KW.cell 1; have cw2 := KW.cell 2
  clear KA KR B0 B1 hA
  go_wp2_with fail
  refine (xm_Degree p _ n n qs _ HP.out hQ ⟨⟨by omega, by omega⟩, ⟨by omega, by omega⟩, by rw [HQ.out]; simp⟩ (by rw [HQ.out]; exact HL.out) (by rw [HQ.out]; have := Nat.mul_le_mul hn hn; omega) ((N : Int) - 1) (by rw [HQ.out]; have := EN.out; omega)).mono ?_; rintro e w5 ⟨rfl, b5⟩
  replace st : FcR wb w5 n gT (some ⟨gE, 0, none⟩) n (tbv (hzn A B N 0)) := ⟨st.1.next b5, st.2.1.next b5, st.2.2.1, st.2.2.2.trans (b5.mono st.2.2.2.size)⟩
  clear cF cw0 cw1 cw2 KF KW hQ b5
  go_wp2
  go_loopw [10] (fun jv wr => ∃ (t : Nat) (d : Int) (ao : Option Addr) (c : Nat), t ≤ N ∧ jv = .int .i64 d ∧ d = (N : Int) - 1 - t ∧ FcR wb wr n gT ao c (tbv (hzn A B N t))) (fun jv _ => (intOf jv + 1).toNat)
  case atStart => exact ⟨0, _, _, _, by omega, rfl, by omega, st⟩
  case round =>
   clear st
   obtain ⟨t, d, ao, c, ht, rfl, hd, KT, ho, hgT, B1⟩ := hrel
   by_cases htN : t < N
   ·obtain ⟨jj, rfl⟩ : ∃ jj : Nat, d = (jj : Int) := ⟨d.toNat, by omega⟩
    obtain rfl : jj = N - 1 - t := by omega
    obtain ⟨j, ej⟩ : ∃ j, j = N - 1 - t := ⟨_, rfl⟩
    rw [← ej]
    have hjN : j < N := by omega
    have EJ := Lib.hid ej; have HD := Lib.hid hd; clear ej hd
    have KF := HKF.out.next B1; have KA := HKA.out.next B1; have hA := HA.out.next B1
    have cF := KF.cell 0; have ca0 := KA.cell 0; have ca1 := KA.cell 1; have ca2 := KA.cell 2
    have ct0 := KT.cell 0; have ct1 := KT.cell 1; have ct2 := KT.cell 2
    have hlt : (tbv (hzn A B N t)).length = n := by rw [tbv_length, Nat.mul_one]
    have hC : Fm wr (.agg #[.int .i64 n, .int .i64 1, .slice ao n c]) n 1 (tbv (hzn A B N t)) := ⟨_, rfl, ho.sl⟩
    have HB1 := Lib.hid B1; clear B1
    go_wp2_with fail
    refine (fm_Mul p _ _ n n 1 xs (tbv (hzn A B N t)) _ HP.out hA hC hn hn (by omega) HX.out (by rw [hlt, Nat.mul_one])).mono ?_; rintro e w6 ⟨aM, kM, rfl, oM, b6⟩
    rw [mx_tbv, ← EA.out] at oM
    rw [mx_tbv, ← EA.out]
    obtain ⟨M, eM⟩ : ∃ M, M = A * hzn A B N t := ⟨_, rfl⟩
    rw [← eM] at oM ⊢
    have EM := Lib.hid eM; clear eM
    have hlM : (tbv M).length = n := by rw [tbv_length, Nat.mul_one]
    rw [hlM] at oM ⊢
    have B1 := HB1.out.trans (b6.mono HB1.out.size)
    have hTw := KT.lt
    replace KT := KT.next b6
    have f0 := KT.free 0; have f1 := KT.free 1; have f2 := KT.free 2
    have e0 := KT.cell 0; have e1 := KT.cell 1; have e2 := KT.cell 2
    have KA6 := KA.next b6
    have ga0 := KA6.cell 0
    obtain ⟨ws, ews⟩ : ∃ ws, ws = ((w6.setCell ⟨gT, 0, none⟩ (.int .i64 n)).setCell ⟨gT, 1, none⟩ (.int .i64 1)).setCell ⟨gT, 2, none⟩ (.slice aM n kM) := ⟨_, rfl⟩
    clear cF ca0 ca1 ca2 ct0 ct1 ct2 KF KA
    go_upto_region 6 with (fail)
    rw [← ews]
    have KTs : Blk 63 ws gT [.int .i64 n, .int .i64 1, .slice aM n kM] := by rw [ews]; exact ((KT.set 0 (.int .i64 n)).set 1 (.int .i64 1)).set 2 (.slice aM n kM)
    have os : Own .u64 27 ws wb.heap.size (.slice aM n kM) (tbv M) := by rw [ews]; exact (((oM.low (a := ⟨gT, 0, none⟩) hTw (.int .i64 n)).low (a := ⟨gT, 1, none⟩) hTw (.int .i64 1)).low (a := ⟨gT, 2, none⟩) hTw (.slice aM n kM)).mono HB1.out.size
    have Bs : Below wb.heap.size wb ws := by rw [ews]; exact ((B1.setCell (p := ⟨gT, 0, none⟩) hgT (.int .i64 n)).setCell (p := ⟨gT, 1, none⟩) hgT (.int .i64 1)).setCell (p := ⟨gT, 2, none⟩) hgT (.slice aM n kM)
    have st : FcR wb ws n gT aM kM (colL n fun r => if r < 0 then M.e r 0 + (cf B j).e r 0 else M.e r 0) := ⟨KTs, by rw [tbv_col] at os; exact os, hgT, Bs⟩
    have ga := (HKA.out.next Bs).cell 0
    clear ews KTs os Bs f0 f1 f2 e0 e1 e2 KA6 ga0 KT B1 oM hA hC hlt hlM b6 ho
    go_wp2
    clear ga
    go_loopw [35] (fun iv wr => ∃ i : Nat, i ≤ n ∧ iv = .int .i64 i ∧ FcR wb wr n gT aM kM (colL n fun r => if r < i then M.e r 0 + (cf B j).e r 0 else M.e r 0)) (fun iv _ => n - (intOf iv).toNat)
    case atStart => exact ⟨0, by omega, rfl, st⟩
    case round =>
     clear st
     obtain ⟨i, hi, rfl, KT, ho, -, B1⟩ := hrel
     by_cases hin : i < n
     ·have KF := HKF.out.next B1; have KW := HKW.out.next B1; have hQ := HQM.out.next B1
      have cF := KF.cell 0; have cw0 := KW.cell 0; have cw1 := KW.cell 1; have cw2 := KW.cell 2
      have hlq := HL.out (i * n + k) (at_lt rfl hin hk)
      go_wp2_with fail
      refine (xm_At p i k _ n n qs _ HP.out hQ hn hn HQ.out hin hk hlq).mono ?_; rintro e w7 ⟨r7, zs, rfl, o7, n7, v7, l7, b7⟩
      obtain ⟨a7, c7, rfl⟩ := o7.sliced
      replace KT := KT.next b7; replace ho := ho.next b7
      have B2 := B1.trans (b7.mono B1.size)
      have ev : (cf B j).e i 0 = Zp.of p (zs.getD j 0) := by rw [cf_e, EB.out, clq_e hk hin, ← v7, pl_c]
      have EV := Lib.hid ev
      have l8 : zs.length ≤ 1000000000000 := by omega
      clear cF cw0 cw1 cw2 KF KW hQ n7 v7 l7 b7 B1 hlq ev
      by_cases hjz : j < zs.length
      ·have KF := HKF.out.next B2
       obtain ⟨gE, rfl⟩ : ∃ gE, aM = some ⟨gE, 0, none⟩ := by
        rcases ho.shape with ⟨h1, h2⟩ | ⟨g', c', h1, -⟩
        ·have := congrArg List.length h2; rw [colL_length] at this; simp at this; omega
        ·simp only [Value.slice.injEq] at h1; exact ⟨g', h1.1⟩
       obtain ⟨gZ, rfl⟩ : ∃ gE, a7 = some ⟨gE, 0, none⟩ := by
        rcases o7.shape with ⟨h1, h2⟩ | ⟨g', c', h1, -⟩
        ·rw [h2] at hjz; simp at hjz
        ·simp only [Value.slice.injEq] at h1; exact ⟨g', h1.1⟩
       obtain ⟨m, em⟩ : ∃ m, m = zs.length := ⟨_, rfl⟩
       rw [← em] at o7 hjz l8 ⊢
       go_upto_region 11 with (fail)
       have bd := dw w7
       replace KT := KT.next bd; replace ho := ho.next bd; replace KF := KF.next bd
       replace B2 := B2.trans (bd.mono B2.size)
       have hle : i < (colL n fun r => if r < i then M.e r 0 + (cf B j).e r 0 else M.e r 0).length := by rw [colL_length]; exact hin
       have q5 := ho.cellAt i hle
       rw [colL_get _ hin, if_neg (Nat.lt_irrefl _)] at q5
       have q6 := (o7.next bd).cellAt j (by omega)
       have lE : gE < w7.drew.heap.size := Own.headlt ho
       have lZ : gZ < w7.drew.heap.size := Own.headlt (o7.next bd)
       obtain ⟨x, ex⟩ : ∃ x, x = (M.e i 0).val := ⟨_, rfl⟩
       obtain ⟨y, ey⟩ : ∃ y, y = zs.getD j 0 := ⟨_, rfl⟩
       rw [← ex] at q5
       rw [← ey] at q6
       obtain ⟨z, ez⟩ : ∃ z, z = (Zp.of p x + Zp.of p y).val := ⟨_, rfl⟩
       have EZ := Lib.hid ez
       have ez2 : z = (M.e i 0 + (cf B j).e i 0).val := by rw [ez, ex, Zp.of_val, EV.out, ← ey]
       have EZ2 := Lib.hid ez2
       have EM2 := Lib.hid em
       clear ex ey ez ez2 em o7 bd
       have zF0 := Lib.hid fun (w : World) (hS : Below (w7.drew).heap.size (w7.drew) w) => And.intro ((KT.at hS) 2) (And.intro ((KF.at hS) 0) (And.intro ((hS.cell (p := ⟨gE, i, none⟩) lE).trans q5) ((hS.cell (p := ⟨gZ, j, none⟩) lZ).trans q6)))
       refine startP (S := (fun w' => Below (w7.drew).heap.size (w7.drew) w')) (by kernel_rfl) _ rfl rfl rfl (by kernel_rfl) (Below.refl _ _) (fun hHeld => ?_)
       refine tk 0 ?_
       refine tf 1 zF0.out ?_
       refine tk 2 ?_
       refine tf 3 zF0.out ?_
       refine tk 4 ?_
       refine tf 5 zF0.out ?_
       refine tk 6 ?_
       refine tk 7 ?_
       refine tf 8 zF0.out ?_
       refine tk 9 ?_
       refine tk 10 ?_
       refine tk 11 ?_
       refine tf 12 zF0.out ?_
       refine on 13 fun K hK => ?_
       go_simp
       go_at_call 117
       (with_reducible refine (gfp_Add p x y z _ HP.out EZ.out).mono ?_); rintro e w8 ⟨rfl, b8⟩
       refine hK.out _ _ (hHeld.trans (b8.mono hHeld.size)) (fun hHeld => ?_)
       clear hK K
       try simp only [Act.put, zq1, zq2, zq3]
       refine tk 14 ?_
       clear zF0; refine doneL (by kernel_rfl) ?_ _
       refine lastL rfl (by rfl) ?_
       have b7 := hHeld
       replace KT := KT.next b7; replace ho := ho.next b7
       replace B2 := B2.trans (b7.mono B2.size)
       have qe := ho.cellAt i hle
       have fe := ho.frozenAt i
       obtain ⟨ho3, -⟩ := ho.store i z
       rw [EZ2.out, colL_set _ hin] at ho3
       have hgE : gT ≠ gE := fun e => rowOwn_ne ho KT (by decide) (by rw [e]; rfl)
       have hbE : wb.heap.size ≤ gE := ho.block_ge gE rfl
       have st2 : FcR wb (w8.setCell ⟨gE, i, none⟩ (.int .u64 z)) n gT (some ⟨gE, 0, none⟩) kM (colL n fun r => if r < i + 1 then M.e r 0 + (cf B j).e r 0 else M.e r 0) := ⟨KT.far (a := ⟨gE, i, none⟩) hgE _, by
        rw [EZ2.out]
        have e9 : (colL n fun r => if r < i + 1 then M.e r 0 + (cf B j).e r 0 else M.e r 0) = colL n fun r => if r = i then M.e i 0 + (cf B j).e i 0 else if r < i then M.e r 0 + (cf B j).e r 0 else M.e r 0 := colL_congr fun r hr => by
         by_cases e1 : r = i
         ·subst e1; rw [if_pos (by omega), if_pos rfl]
         ·rw [if_neg e1]
          by_cases e2 : r < i
          ·rw [if_pos e2, if_pos (by omega)]
          ·rw [if_neg e2, if_neg (by omega)]
        rw [e9]; exact ho3, hgT, B2.setCell (p := ⟨gE, i, none⟩) hbE _⟩
       clear KT ho ho3 B2 b7 q5 q6 lE lZ hgE hbE hHeld KF
       go_wp2
       go_roundw
       case rel => exact ⟨i + 1, by omega, by go_num, st2⟩
       case measure => simp [intOf] <;> omega
      ·have hz : (cf B j).e i 0 = 0 := by rw [EV.out, List.getD, List.getElem?_eq_none (by omega)]; rfl
       have st2 : FcR wb w7 n gT aM kM (colL n fun r => if r < i + 1 then M.e r 0 + (cf B j).e r 0 else M.e r 0) := ⟨KT, by
        rw [colL_congr (n := n) (g := fun r => if r < i then M.e r 0 + (cf B j).e r 0 else M.e r 0) fun r hr => by
         by_cases e1 : r = i
         ·subst e1; rw [if_pos (by omega), if_neg (by omega), hz]; exact CR.add_zero _
         ·by_cases e2 : r < i
          ·rw [if_pos e2, if_pos (by omega)]
          ·rw [if_neg e2, if_neg (by omega)]]
        exact ho, hgT, B2⟩
       clear KT ho B2 hz
       go_wp2
       go_roundw
       case rel => exact ⟨i + 1, by omega, by go_num, st2⟩
       case measure => simp [intOf] <;> omega
     ·obtain rfl : i = n := by omega
      have e1 : (colL i fun r => if r < i then M.e r 0 + (cf B j).e r 0 else M.e r 0) = tbv (hzn A B N (t + 1)) := by
       rw [tbv_col, hzn_step A B htN, ← EM.out, ← EJ.out]
       exact colL_congr fun r hr => by rw [if_pos hr, MT.e_add]
      rw [e1] at ho
      have st2 : FcR wb wr i gT aM kM (tbv (hzn A B N (t + 1))) := ⟨KT, ho, hgT, B1⟩
      obtain ⟨d', ed'⟩ : ∃ d' : Int, d' = (j : Int) - 1 := ⟨_, rfl⟩
      have a1 : IntKind.i64.wrap ((j : Int) - 1) = d' := by rw [ed']; exact IntWalk.i64_in _ ⟨by omega, by omega⟩
      have hd2 : d' = (N : Int) - 1 - ((t + 1 : Nat) : Int) := by have := EJ.out; have := HD.out; omega
      have HD2 := Lib.hid hd2
      clear ed' hd2 KT ho B1 e1
      go_wp2
      go_roundw
      case rel => exact ⟨t + 1, d', _, _, by omega, rfl, HD2.out, st2⟩
      case measure => have := HD2.out; have := EJ.out; simp [intOf] <;> omega
   ·obtain rfl : t = N := by omega
    obtain rfl : d = -1 := by omega
    obtain ⟨M, eM⟩ : ∃ M, M = ph A B := ⟨_, rfl⟩
    rw [hzn_end (by rw [EB.out]; exact clq_cf hk EN.out)] at ho
    rw [← eM] at ho
    have EM := Lib.hid eM; clear eM
    have hlM : (tbv M).length = n := by rw [tbv_length, Nat.mul_one]
    have KR := HKR.out.next B1
    have B2 := HB0.out.trans (B1.mono HB0.out.size)
    have k0 := KT.cell 0; have k1 := KT.cell 1; have k2 := KT.cell 2
    have f0 := KR.free 0; have f1 := KR.free 1; have f2 := KR.free 2
    have e0 := KR.cell 0; have e1 := KR.cell 1; have e2 := KR.cell 2
    have KF := ((KR.set 0 (.int .i64 n)).set 1 (.int .i64 1)).set 2 (.slice ao n c)
    have d0 := KF.cell 0; have d1 := KF.cell 1; have d2 := KF.cell 2
    have hof := ((ho.low (a := ⟨g + 1 + 1 + 1, 0, none⟩) hgb (.int .i64 n)).low (a := ⟨g + 1 + 1 + 1, 1, none⟩) hgb (.int .i64 1)).low (a := ⟨g + 1 + 1 + 1, 2, none⟩) hgb (.slice ao n c)
    have hgw2 : w.heap.size ≤ g + 1 + 1 + 1 := by omega
    have BF := ((B2.setCell (p := ⟨g + 1 + 1 + 1, 0, none⟩) hgw2 (.int .i64 n)).setCell (p := ⟨g + 1 + 1 + 1, 1, none⟩) hgw2 (.int .i64 1)).setCell (p := ⟨g + 1 + 1 + 1, 2, none⟩) hgw2 (.slice ao n c)
    have FR := Lib.hid (show RetFm p w n 1 (ph A B) (.returned (.agg #[.int .i64 n, .int .i64 1, .slice ao n c])) (((wr.setCell ⟨g + 1 + 1 + 1, 0, none⟩ (.int .i64 n)).setCell ⟨g + 1 + 1 + 1, 1, none⟩ (.int .i64 1)).setCell ⟨g + 1 + 1 + 1, 2, none⟩ (.slice ao n c)) by
     rw [← EM.out]; exact ⟨ao, c, by rw [hlM]; rfl, by rw [hlM]; exact hof.mono HB0.out.size, BF⟩)
    clear KF KR KT hof BF ho B1 B2 hlM
    go_wp2
    exact bodyPost_ret (v := .agg #[.int .i64 n, .int .i64 1, .slice ao n c]) (by simp [results, Try.results141, go_sem, d0, d1, d2]) rfl FR.out
end Go.Proofs.Ytkmfhabgempjiaa
/- Layer 24, plain: Hermite's form of a matrix with ones behind it. -/
namespace Go.Proofs.Ytkmfhabgempjiaa
set_option maxHeartbeats 4000000
open Go.RowKit
section
open CR
variable {p : Nat}
theorem rd_off {r c L o : Nat} {W : (Nat → Nat → Pol (Zp p))} {zs : List (List Nat)} (h : ∀ j, j < r * c → Nrm p (zs.getD j []) ∧ pl p (zs.getD j []) = W (j / c) (o + j % c) ∧ (zs.getD j []).length ≤ L) {i k : Nat} (hi : i < r) (hk : k < c) : aT p c zs i k = W i (o + k) := by
 have h1 := (h (i * c + k) (at_lt rfl hi hk)).2.1
 show pl p (zs.getD (i * c + k) []) = _
 rw [h1, Nat.mul_comm, Nat.mul_add_div (by omega), Nat.div_eq_of_lt hk, Nat.mul_add_mod, Nat.mod_eq_of_lt hk, Nat.add_zero]
theorem her_split {r c : Nat} {A V : (Nat → Nat → Pol (Zp p))} (h : Rq r (c + r) (augM c A) V) : (∃ T', Inv (MT.of r r fun i k => V i (c + k)) T') ∧ ∀ i k, i < r → k < c → V i k = sm r fun s => V i (c + s) * A s k := by
 obtain ⟨T, T', hi, e⟩ := h
 have key : ∀ i k, i < r → k < c + r → V i k = sm r fun s => T.e i s * augM c A s k := fun i k hi hk => by
  have h1 : (MT.of r (c + r) V).e i k = V i k := MT.of_e _ hi hk
  rw [← h1, e, MT.e_mul]
  exact sm_congr fun s hs => by rw [MT.of_e _ hs hk]
 have hT : ∀ i k, i < r → k < r → V i (c + k) = T.e i k := fun i k hi hk => by
  rw [key i (c + k) hi (by omega), sm_one hk fun s hs hne => by
   unfold augM; rw [if_neg (by omega), if_neg (by omega), mul_zero]]
  unfold augM; rw [if_neg (by omega), if_pos (by omega), mul_one]
 refine ⟨⟨T', ?_⟩, fun i k hi hk => ?_⟩
 ·have : (MT.of r r fun i k => V i (c + k)) = T := MT.ext fun i k hi hk => by rw [MT.of_e _ hi hk]; exact hT i k hi hk
  rw [this]; exact hi
 ·rw [key i k hi (by omega)]
  exact sm_congr fun s hs => by
   rw [hT i s hi hs]; unfold augM; rw [if_pos hk]
end
end Go.Proofs.Ytkmfhabgempjiaa
/- Layer 25: rows of columns in memory; Hermite's form of a unimodular matrix. -/
namespace Go.Proofs.Ytkmfhabgempjiaa
set_option maxHeartbeats 4000000
open Go.RowKit
theorem apS {P : Program} {o : Oper} {a : Act} {K : Act → World → Prop} {Q : Exit → Act → World → Prop} (T e size bytes : Nat) (z0 : Value)
  (hu : P.underlying T = some (.slice e)) (hi : (P.info? e).map (fun i => (i.zero, i.size, i.bytes)) = some (some z0, size, bytes)) (hby : bytes ≤ 64) (hz0 : z0.cells.size = size) (hsz : 0 < size)
  (s x : Operand) (ho : o.op = .call { callee := .builtin .append, args := #[s, x], argTypes := #[T, T] })
  (w : World) (base : Nat) (v : Value) (n : Nat) (vs ys : List Value) (hl : ys.length = size) (hy : ∀ u ∈ ys, u.oneCell' = true) (hown : w.ownsRow base e size v n vs)
  (hlen : n ≤ 1000000000) (hbase : base ≤ w.heap.size)
  (hs : a.eval s = v) (hx : a.eval x = .slice (some ⟨w.heap.size, 0, none⟩) 1 1)
  (h : ∀ (g cap : Nat) (w' : World), w'.ownsRow base e size (.slice (some ⟨g, 0, none⟩) (n + 1) cap) (n + 1) (vs ++ ys) → Below base w w' → w.grownBy w' v.ownBlock → (v.ownBlock = some g ∨ w.heap.size ≤ g) → K (a.put o.dst (.slice (some ⟨g, 0, none⟩) (n + 1) cap)) w') :
  Oper.wp P o a (w.alloc (.cells ys.toArray e)) K Q := by
 obtain ⟨i0, h1, h2, h3, h4⟩ := info_parts hi
 have hB := Blk.lit w e ys
 refine wp_append_lies _ s x T ho base e i0 z0 size bytes hu h1 h2 h3 h4 hz0 hsz v n vs hs (World.ownsRow.alloc hown _) ⟨w.heap.size, 0, none⟩ 1 1 ys hx (by rw [hl, Nat.one_mul]) ?_ hy (by decide) ?_ ?_ ?_ (w.heap.size + 1) ?_ ?_
 ·intro j u hj
  have e : (⟨w.heap.size, 0, none⟩ : Addr).add j = ⟨w.heap.size, j, none⟩ := by
   unfold Addr.add; split
   ·rename_i h; subst h; rfl
   ·simp
  rw [e]
  exact (hB.cell j).trans hj
 ·unfold maxLen; omega
 ·have : (n + 1) * bytes ≤ (n + 1) * 64 := Nat.mul_le_mul_left _ hby
  omega
 ·simp; omega
 ·simp
 ·intro g cap w' k1 k2 k3 k4
  have hg : w.grownBy w' v.ownBlock := by
   have e0 := World.grownBy_alloc w (.cells ys.toArray e) v.ownBlock
   exact ⟨k2.os.trans e0.os, k2.tape.trans e0.tape, k2.output.trans e0.output, Nat.le_trans e0.size k2.size, fun i hi hne => (k2.block i (Nat.lt_of_lt_of_le hi e0.size) hne).trans (e0.block i hi hne)⟩
  have hge : ∀ k, v.ownBlock = some k → base ≤ k := fun j hj => (World.ownsRow.lt hown j hj).1
  exact h g cap w' k1 (below_grown hg hbase hge) hg (k3.imp id (fun e => by omega))
theorem apSl {P : Program} {ops : Array Oper} {rest : List Oper} {o : Oper} {a : Act} {Q : Exit → Act → World → Prop} (T e size bytes : Nat) (z0 : Value)
  (hu : P.underlying T = some (.slice e)) (hi : (P.info? e).map (fun i => (i.zero, i.size, i.bytes)) = some (some z0, size, bytes)) (hby : bytes ≤ 64) (hz0 : z0.cells.size = size) (hsz : 0 < size)
  (hgd : o.guard = none) (s x : Operand) (ho : o.op = .call { callee := .builtin .append, args := #[s, x], argTypes := #[T, T] })
  (w : World) (base : Nat) (v : Value) (n : Nat) (vs ys : List Value) (hl : ys.length = size) (hy : ∀ u ∈ ys, u.oneCell' = true) (hown : w.ownsRow base e size v n vs)
  (hlen : n ≤ 1000000000) (hbase : base ≤ w.heap.size)
  (hs : a.eval s = v) (hx : a.eval x = .slice (some ⟨w.heap.size, 0, none⟩) 1 1)
  (h : ∀ (g cap : Nat) (w' : World), w'.ownsRow base e size (.slice (some ⟨g, 0, none⟩) (n + 1) cap) (n + 1) (vs ++ ys) → Below base w w' → w.grownBy w' v.ownBlock → (v.ownBlock = some g ∨ w.heap.size ≤ g) → wpList P ops Q rest (a.put o.dst (.slice (some ⟨g, 0, none⟩) (n + 1) cap)) w') :
  wpList P ops Q (o :: rest) a (w.alloc (.cells ys.toArray e)) :=
 wpList_plain hgd fun _ hK => apS T e size bytes z0 hu hi hby hz0 hsz s x ho w base v n vs ys hl hy hown hlen hbase hs hx fun g cap w' h1 h2 h3 h4 => hK _ _ (h g cap w' h1 h2 h3 h4)
def mcs (R C : Nat → Nat) (S : Nat → Value) (j : Nat) : Value := if j % 3 = 0 then .int .i64 (R (j / 3)) else if j % 3 = 1 then .int .i64 (C (j / 3)) else S (j / 3)
theorem mcs_snoc (R C : Nat → Nat) (S : Nat → Value) (m : Nat) : rowL ((m + 1) * 3) (mcs R C S) = rowL (m * 3) (mcs R C S) ++ [.int .i64 (R m), .int .i64 (C m), S m] := by
 rw [show (m + 1) * 3 = m * 3 + 1 + 1 + 1 by omega, rowL_snoc, rowL_snoc, rowL_snoc, List.append_assoc, List.append_assoc]
 unfold mcs
 rw [if_pos (by omega), if_neg (by omega), if_pos (by omega), if_neg (by omega), if_neg (by omega), show m * 3 / 3 = m by omega, show (m * 3 + 1) / 3 = m by omega, show (m * 3 + 1 + 1) / 3 = m by omega]
 rfl
theorem mcs_congr {R C R' C' : Nat → Nat} {S S' : Nat → Value} {m : Nat} (h : ∀ i, i < m → R i = R' i ∧ C i = C' i ∧ S i = S' i) : rowL (m * 3) (mcs R C S) = rowL (m * 3) (mcs R' C' S') := rowL_congr fun k hk => by
 obtain ⟨h1, h2, h3⟩ := h (k / 3) (by omega)
 unfold mcs; rw [h1, h2, h3]
structure Mls (w : World) (base : Nat) (v : Value) (m : Nat) (R C : Nat → Nat) (S : Nat → Value) (L : Nat → List Nat) : Prop where
 own : w.ownsRow base 63 3 v m (rowL (m * 3) (mcs R C S))
 el : ∀ i, i < m → ∃ ao c, S i = .slice ao (L i).length c ∧ Own .u64 27 w base (S i) (L i)
section
variable {w w' : World} {base m : Nat} {v : Value} {R C : Nat → Nat} {S : Nat → Value} {L : Nat → List Nat}
theorem Mls.nil (w : World) (base : Nat) (R C : Nat → Nat) (S : Nat → Value) (L : Nat → List Nat) : Mls w base (.slice none 0 0) 0 R C S L := ⟨World.ownsRow_nil _ _ _ _, fun i hi => absurd hi (by omega)⟩
theorem Mls.next (h : Mls w base v m R C S L) (hb : Below w.heap.size w w') : Mls w' base v m R C S L := ⟨rowOwn_next h.own hb (Nat.le_refl _), fun i hi => by
 obtain ⟨a, c, h1, h2⟩ := h.el i hi; exact ⟨a, c, h1, h2.next hb⟩⟩
theorem Mls.low (h : Mls w base v m R C S L) {a : Addr} (ha : a.block < base) (u : Value) : Mls (w.setCell a u) base v m R C S L := ⟨ownsRow_setCell_below h.own ha u, fun i hi => by
 obtain ⟨a, c, h1, h2⟩ := h.el i hi; exact ⟨a, c, h1, h2.low ha u⟩⟩
theorem Mls.mono {base' : Nat} (h : Mls w base v m R C S L) (hb : base' ≤ base) : Mls w base' v m R C S L := ⟨rowOwn_mono h.own hb, fun i hi => by
 obtain ⟨a, c, h1, h2⟩ := h.el i hi; exact ⟨a, c, h1, h2.mono hb⟩⟩
theorem Mls.chg {T : Nat → Prop} {e : TypeId} (h : Mls w base v m R C S L) (hc : Chg w w' T) (hT : ∀ b, b < w.heap.size → T b → Tyb w e b) (h1 : 63 ≠ e) (h2 : 27 ≠ e) : Mls w' base v m R C S L := ⟨rowOwn_chgT h.own hc hT h1, fun i hi => by
 obtain ⟨a, c, k1, k2⟩ := h.el i hi; exact ⟨a, c, k1, rowOwn_chgT k2 hc hT h2⟩⟩
theorem Mls.push {b1 r c : Nat} {v' : Value} {ao : Option Addr} {k : Nat} {zs : List Nat} (h : Mls w base v m R C S L) (hg : w.grownBy w' v.ownBlock) (ho : w'.ownsRow base 63 3 v' (m + 1) (rowL (m * 3) (mcs R C S) ++ [.int .i64 r, .int .i64 c, .slice ao zs.length k]))
  (hr : Own .u64 27 w b1 (.slice ao zs.length k) zs) (hb : base ≤ b1) : Mls w' base v' (m + 1) (fun i => if i = m then r else R i) (fun i => if i = m then c else C i) (fun i => if i = m then .slice ao zs.length k else S i) (fun i => if i = m then zs else L i) := by
 have hT : ∀ b, b < w.heap.size → v.ownBlock = some b → Tyb w 63 b := fun b _ hb => (rowOwn_tyb h.own hb).1
 refine ⟨?_, fun i hi => ?_⟩
 ·rw [mcs_snoc]
  simp only [if_true]
  rw [mcs_congr (R' := R) (C' := C) (S' := S) fun i hi => by rw [if_neg (by omega), if_neg (by omega), if_neg (by omega)]; exact ⟨rfl, rfl, rfl⟩]
  exact ho
 ·by_cases e : i = m
  ·simp only [e, if_true]
   exact ⟨ao, k, rfl, rowOwn_chgT (hr.mono hb) (Chg.grown hg) hT (by decide)⟩
  ·simp only [e, if_false]
   obtain ⟨a, c, k1, k2⟩ := h.el i (by omega)
   exact ⟨a, c, k1, rowOwn_chgT k2 (Chg.grown hg) hT (by decide)⟩
theorem Mls.congr {R' C' : Nat → Nat} {S' : Nat → Value} {L' : Nat → List Nat} (h : Mls w base v m R C S L) (e : ∀ i, i < m → R i = R' i ∧ C i = C' i ∧ S i = S' i ∧ L i = L' i) : Mls w base v m R' C' S' L' := ⟨by
 rw [← mcs_congr fun i hi => ⟨(e i hi).1, (e i hi).2.1, (e i hi).2.2.1⟩]; exact h.own, fun i hi => by
 obtain ⟨e1, e2, e3, e4⟩ := e i hi
 rw [← e3, ← e4]; exact h.el i hi⟩
theorem Mls.shape (h : Mls w base v m R C S L) : ∃ ao c, v = .slice ao m c := by
 rcases h.own.2 with ⟨rfl, rfl⟩ | ⟨g, cap, cur, rfl, -⟩
 ·exact ⟨none, 0, rfl⟩
 ·exact ⟨_, _, rfl⟩
theorem Mls.cells {g c : Nat} (h : Mls w base (.slice (some ⟨g, 0, none⟩) m c) m R C S L) {i : Nat} (hi : i < m) : w.cell? ⟨g, i * 3, none⟩ = some (.int .i64 (R i)) ∧ w.cell? ⟨g, i * 3 + 1, none⟩ = some (.int .i64 (C i)) ∧ w.cell? ⟨g, i * 3 + 2, none⟩ = some (S i) := by
 have hc : ∀ j, j < m * 3 → w.cell? ⟨g, j, none⟩ = some (mcs R C S j) := fun j hj => by
  rw [World.ownsRow.cellAt h.own j hj, rowL_get hj]
 refine ⟨?_, ?_, ?_⟩
 ·rw [hc _ (by omega)]; unfold mcs; rw [if_pos (by omega), show i * 3 / 3 = i by omega]
 ·rw [hc _ (by omega)]; unfold mcs; rw [if_neg (by omega), if_pos (by omega), show (i * 3 + 1) / 3 = i by omega]
 ·rw [hc _ (by omega)]; unfold mcs; rw [if_neg (by omega), if_neg (by omega), show (i * 3 + 2) / 3 = i by omega]
end
theorem Qls.congr {p : Nat} {w : World} {base n L : Nat} {bv : Value} {us : List Value} {F G : Nat → Pol (Zp p)} (h : Qls p w base bv us n L F) (e : ∀ j, j < n → F j = G j) : Qls p w base bv us n L G :=
 ⟨h.1, h.2.1, fun j v hv => by
  obtain ⟨ys, h1, h2, h3, h4⟩ := h.2.2 j v hv
  have hj : j < n := by have := (List.getElem?_eq_some_iff.1 hv).1; rwa [h.2.1] at this
  exact ⟨ys, h1, h2, h3.trans (e j hj), h4⟩⟩
theorem Qls.chg {p : Nat} {w w' : World} {base n L : Nat} {bv : Value} {us : List Value} {F : Nat → Pol (Zp p)} {T : Nat → Prop} {e : TypeId} (h : Qls p w base bv us n L F) (hc : Chg w w' T) (hT : ∀ b, b < w.heap.size → T b → Tyb w e b) (h1 : 43 ≠ e) (h2 : 27 ≠ e) : Qls p w' base bv us n L F :=
 ⟨rowOwn_chgT h.1 hc hT h1, h.2.1, fun j v hv => by
  obtain ⟨ys, k1, k2⟩ := h.2.2 j v hv
  exact ⟨ys, rowOwn_chgT k1 hc hT h2, k2⟩⟩
theorem Qls.nil (p : Nat) (w : World) (base L : Nat) (F : Nat → Pol (Zp p)) : Qls p w base (.slice none 0 0) [] 0 L F := ⟨World.ownsRow_nil _ _ _ _, rfl, fun j v hv => by simp at hv⟩
section
open CR
variable {p n : Nat}
theorem her_one (tr : Trial p) : HerI n n (fun i k => if i = k then (1 : Pol (Zp p)) else 0) (List.range n) := by
 have hne : (1 : Pol (Zp p)) ≠ 0 := (ln_one1 tr).ne
 have hg : ∀ t, t < n → (List.range n).getD t 0 = t := fun t ht => by simp [List.getD, ht]
 have hl : (List.range n).length = n := List.length_range
 refine ⟨⟨fun t ht => ?_, fun s t hst ht => ?_⟩, by rw [hl]; exact Nat.le_refl _, fun t ht => ?_, fun t ht => ?_, fun t ht k hk => ?_, fun i h1 h2 => ?_, fun s t hst ht => ?_⟩ <;> rw [hl] at *
 ·rw [hg t ht]; exact ht
 ·rw [hg t ht, hg s (by omega)]; exact hst
 ·rw [hg t ht, if_pos rfl]; exact Mo.one
 ·rw [hg t ht, if_pos rfl]; exact hne
 ·rw [hg t ht] at hk; rw [if_neg (by omega)]
 ·omega
 ·rw [hg t ht, if_pos rfl, if_neg (by omega)]; exact Dl.zero hne
theorem her_unim (tr : Trial p) {U V : (Nat → Nat → Pol (Zp p))} {X : MT (Pol (Zp p)) n n} {P : List Nat} (hX : Inv (MT.of n n U) X) (hr : Rq n (n + n) (augM n U) V) (h : HerI n n V P) : ∀ i k, i < n → k < n → V i (n + k) = X.e i k := by
 obtain ⟨⟨T', hT⟩, hs⟩ := her_split hr
 obtain ⟨T, eT⟩ : ∃ T, T = MT.of n n fun i k => V i (n + k) := ⟨_, rfl⟩
 rw [← eT] at hT
 have e1 : MT.of n n V = T * MT.of n n U := MT.ext fun i k hi hk => by
  rw [MT.of_e _ hi hk, MT.e_mul, hs i k hi hk]
  exact sm_congr fun s hs => by rw [eT, MT.of_e _ hi hs, MT.of_e _ hs hk]
 have e2 : X * T' * MT.of n n V = MT.one n := by rw [e1, MT.mul_assoc, ← MT.mul_assoc T', hT.2, MT.one_mul, hX.2]
 obtain ⟨-, k⟩ := her_unique tr h (her_one (n := n) tr) (X := V) (X' := (X * T').e) (fun i k hi hk => by
  rw [sm_one hk fun j hj hne => by rw [if_neg hne, mul_zero], if_pos rfl, mul_one]) (fun i k hi hk => by
  have e3 := congrArg (fun M : MT (Pol (Zp p)) n n => M.e i k) e2
  have e4 : (MT.one n : MT (Pol (Zp p)) n n).e i k = if i = k then 1 else 0 := MT.e_one hi hk
  rw [← e4]
  refine e3.symm.trans ?_
  rw [MT.e_mul]
  exact sm_congr fun s hs => by rw [MT.of_e _ hs hk])
 have e5 : T * MT.of n n U = MT.one n := by
  rw [← e1]
  exact MT.ext fun i j hi hj => by rw [MT.of_e _ hi hj, MT.e_one hi hj, k i j hi hj]
 have e6 : T = X := by
  have : T * (MT.of n n U * X) = X := by rw [← MT.mul_assoc, e5, MT.one_mul]
  rw [← this, hX.1, MT.mul_one]
 intro i j hi hj
 rw [← e6, eT, MT.of_e _ hi hj]
theorem dm1 {i k : Nat} (hk : k < n) : (i * n + k) / n = i := by rw [Nat.mul_comm, Nat.mul_add_div (by omega), Nat.div_eq_of_lt hk, Nat.add_zero]
theorem dm2 {i k : Nat} (hk : k < n) : (i * n + k) % n = k := by rw [Nat.mul_comm, Nat.mul_add_mod, Nat.mod_eq_of_lt hk]
theorem xa_of {xs : List Nat} {i k : Nat} (hi : i < n) (hk : k < n) : (XA (mx p n n xs)).e ((i * n + k) / n) (0 + (i * n + k) % n) = pl p (if i = k then [(-Zp.of p (xs.getD (i * n + k) 0)).val, 1] else [(-Zp.of p (xs.getD (i * n + k) 0)).val]) := by
 have e1 : Zp.of p 1 = 1 := Zp.of_one p
 have ez : Zp.of p (-Zp.of p (xs.getD (i * n + k) 0)).val = -(mx p n n xs).e i k := by rw [Zp.of_val, mx_e _ hi hk]
 rw [dm1 hk, dm2 hk, Nat.zero_add]
 unfold XA
 rw [MT.of_e _ hi hk]
 refine Pol.ext fun j => ?_
 rw [Pol.c_sub, c_mon, pl_c]
 by_cases h : i = k
 ·rw [if_pos h, if_pos h, c_mon]
  match j with
  | 0 => rw [if_neg (by decide), if_pos rfl, sub_eq, zero_add]; exact ez.symm
  | 1 => rw [if_pos rfl, if_neg (by decide), sub_zero]; exact e1.symm
  | j + 2 => rw [if_neg (by omega), if_neg (by omega), sub_zero]; rfl
 ·rw [if_neg h, if_neg h, Pol.c_zero]
  match j with
  | 0 => rw [if_pos rfl, sub_eq, zero_add]; exact ez.symm
  | j + 1 => rw [if_neg (by omega), sub_zero]; rfl
noncomputable def pks (W : (Nat → Nat → Pol (Zp p))) (i : Nat) : List Nat := (List.range i).filter fun k => decide (1 < pln (W k k))
theorem pks_succ (W : (Nat → Nat → Pol (Zp p))) (i : Nat) : pks W (i + 1) = pks W i ++ if 1 < pln (W i i) then [i] else [] := by
 unfold pks
 rw [List.range_succ, List.filter_append]
 congr 1
 by_cases h : 1 < pln (W i i)
 ·rw [List.filter_cons_of_pos (by simpa using h), if_pos h]; rfl
 ·rw [List.filter_cons_of_neg (by simpa using h), if_neg h]; rfl
theorem pks_len (W : (Nat → Nat → Pol (Zp p))) (i : Nat) : (pks W i).length ≤ i := by
 unfold pks
 have := List.length_filter_le (fun k => decide (1 < pln (W k k))) (List.range i)
 rwa [List.length_range] at this
end
end Go.Proofs.Ytkmfhabgempjiaa
/- xform, plain: lengths behind Hermite, step by step. -/
namespace Go.Proofs.Ytkmfhabgempjiaa
set_option maxHeartbeats 4000000
open Go.RowKit
open CR
section
variable {p n c col top : Nat} {W V : (Nat → Nat → Pol (Zp p))}
theorem mix_lens (tr : Trial p) {i : Nat} {a b e d : Pol (Zp p)} (hd : a * d - b * e = 1) (h0 : mix2 V top i a b e d i col = 0) (hne : mix2 V top i a b e d top col ≠ 0) (hD : Dl a e) (hti : top ≠ i) {x y : Nat} (hx : (V top col).dlt (x + 1)) (hy : (V i col).dlt (y + 1)) : a.dlt y ∧ b.dlt (max x 1) ∧ e.dlt (y + 1) ∧ d.dlt (x + 1) := by
 rw [mix2_t V hti] at h0
 rw [mix2_s] at hne
 obtain ⟨g, eg⟩ : ∃ g, g = a * V top col + b * V i col := ⟨_, rfl⟩
 rw [← eg] at hne
 obtain ⟨k, ha, hk⟩ := hD
 obtain ⟨f, ef⟩ : ∃ f, f = V top col := ⟨_, rfl⟩
 obtain ⟨q, eq⟩ : ∃ q, q = V i col := ⟨_, rfl⟩
 rw [← ef] at hx; rw [← eq] at hy; rw [← ef, ← eq] at eg h0
 have e1 : f = d * g := by
  have h1 : d * g = (a * d - b * e) * f + b * (e * f + d * q) := by rw [eg]; exact by_ring [a, b, e, d, f, q] (X3 * (X0 * X4 + X1 * X5)) ((X0 * X3 - X1 * X2) * X4 + X1 * (X2 * X4 + X3 * X5)) rfl
  rw [h1, hd, h0, one_mul, mul_zero, add_zero]
 have e2 : q = -(e * g) := by
  have h1 : -(e * g) = (a * d - b * e) * q - a * (e * f + d * q) := by rw [eg]; exact by_ring [a, b, e, d, f, q] (-(X2 * (X0 * X4 + X1 * X5))) ((X0 * X3 - X1 * X2) * X5 - X0 * (X2 * X4 + X3 * X5)) rfl
  rw [h1, hd, h0, one_mul, mul_zero, sub_zero]
 obtain ⟨m, hm⟩ := Ln.exists g
 obtain ⟨m, rfl⟩ := hm.pos hne
 have h2 := hk.mul tr hm
 have h3 : (e * g).dlt (y + 1) := by have := dlt_neg hy; rw [e2, CR.neg_neg] at this; exact this
 have h4 := h2.le h3
 have hdd : d.dlt (x + 1) := by
  by_cases hd0 : d = 0
  ·rw [hd0]; exact dlt_zero _
  obtain ⟨j, hj⟩ := Ln.exists d
  obtain ⟨j, rfl⟩ := hj.pos hd0
  have h5 := (hj.mul tr hm).le (by rw [← e1]; exact hx)
  exact dlt_mono hj.1 (by omega)
 refine ⟨dlt_mono ha (by omega), ?_, dlt_mono hk.1 (by omega), hdd⟩
 by_cases hb0 : b = 0
 ·rw [hb0]; exact dlt_zero _
 obtain ⟨s, hs⟩ := Ln.exists b
 obtain ⟨s, rfl⟩ := hs.pos hb0
 have h5 : b * e = a * d - 1 := by rw [← hd]; exact by_ring [a * d, b * e] X1 (X0 - (X0 - X1)) rfl
 have h6 := hs.mul tr hk
 rw [h5] at h6
 have h7 : (1 : Pol (Zp p)).dlt 1 := by rw [Pol.one_def]; exact fun i hi => by rw [c_mon, if_neg (by omega)]
 have h8 := h6.le (dlt_sub (dlt_mono (mul_dlt1 ha hdd) (Nat.le_max_left _ 1)) (dlt_mono h7 (Nat.le_max_right (k + (x + 1) - 1) 1)))
 exact dlt_mono hs.1 (by omega)
end
end Go.Proofs.Ytkmfhabgempjiaa
/- xform, plain: lengths behind Hermite: each column costs as many times as rows are joined. -/
namespace Go.Proofs.Ytkmfhabgempjiaa
set_option maxHeartbeats 4000000
open Go.RowKit
open CR
section
variable {p n col top M L R T : Nat} {W V : (Nat → Nat → Pol (Zp p))}
theorem mix_g (tr : Trial p) {i : Nat} {a b e d : Pol (Zp p)} (hd : a * d - b * e = 1) (h0 : mix2 V top i a b e d i col = 0) (hne : mix2 V top i a b e d top col ≠ 0) (hD : Dl a e) (hti : top ≠ i) {y : Nat} (hy : (V i col).dlt y) : (mix2 V top i a b e d top col).dlt y := by
 rw [mix2_t V hti] at h0
 rw [mix2_s] at hne ⊢
 obtain ⟨g, eg⟩ : ∃ g, g = a * V top col + b * V i col := ⟨_, rfl⟩
 rw [← eg] at hne ⊢
 obtain ⟨k, -, hk⟩ := hD
 obtain ⟨f, ef⟩ : ∃ f, f = V top col := ⟨_, rfl⟩
 obtain ⟨q, eq⟩ : ∃ q, q = V i col := ⟨_, rfl⟩
 rw [← eq] at hy; rw [← ef, ← eq] at eg h0
 have e2 : q = -(e * g) := by
  have h1 : -(e * g) = (a * d - b * e) * q - a * (e * f + d * q) := by rw [eg]; exact by_ring [a, b, e, d, f, q] (-(X2 * (X0 * X4 + X1 * X5))) ((X0 * X3 - X1 * X2) * X5 - X0 * (X2 * X4 + X3 * X5)) rfl
  rw [h1, hd, h0, one_mul, mul_zero, sub_zero]
 obtain ⟨m, hm⟩ := Ln.exists g
 obtain ⟨m, rfl⟩ := hm.pos hne
 have h3 : (e * g).dlt y := by have := dlt_neg hy; rw [e2, CR.neg_neg] at this; exact this
 have h4 := (hk.mul tr hm).le h3
 exact dlt_mono hm.1 (by omega)
structure JBd (n M col top L R i : Nat) (W V : Nat → Nat → Pol (Zp p)) : Prop where
 ti : top < i
 up : ∀ r k, r < top → k < M → (V r k).dlt R
 tp : ∀ k, k < M → (V top k).dlt ((i - top) * L)
 tc : (V top col).dlt L
 md : ∀ r k, top < r → r < i → r < n → k < M → (V r k).dlt ((i - top) * L)
 lo : ∀ r k, i ≤ r → r < n → k < M → (V r k).dlt L
theorem jtr_bd (tr : Trial p) (hL : 1 ≤ L) (htn : top < n) (hcol : col < M) (hu : ∀ r k, r < top → k < M → (W r k).dlt R) (hl : ∀ r k, top ≤ r → r < n → k < M → (W r k).dlt L) {i : Nat} (h : JTr n col top W i V) : JBd n M col top L R i W V := by
 have grow : ∀ i, top < i → (i + 1 - top) * L = (i - top) * L + L := fun i hi => by
  rw [show i + 1 - top = (i - top) + 1 by omega, Nat.succ_mul]
 have ge1 : ∀ i, top < i → L ≤ (i - top) * L := fun i hi => Nat.le_mul_of_pos_left L (by omega)
 induction h with
 | start =>
  refine ⟨Nat.lt_succ_self _, hu, fun k hk => ?_, hl top col (Nat.le_refl _) htn hcol, fun r k h1 h2 => by omega, fun r k h1 h2 hk => hl r k (by omega) h2 hk⟩
  rw [Nat.add_sub_cancel_left, Nat.one_mul]; exact hl top k (Nat.le_refl _) htn hk
 | @skip i V h ih =>
  have g := grow i ih.ti
  refine ⟨Nat.lt_succ_of_lt ih.ti, ih.up, fun k hk => dlt_mono (ih.tp k hk) (by omega), ih.tc, fun r k h1 h2 h3 hk => ?_, fun r k h1 h2 hk => ih.lo r k (by omega) h2 hk⟩
  by_cases e : r = i
  ·have := ge1 i ih.ti
   exact dlt_mono (ih.lo r k (by omega) h3 hk) (by omega)
  ·exact dlt_mono (ih.md r k h1 (by omega) h3 hk) (by omega)
 | @mix i V a b e d h hi hin hd h0 hne hD ih =>
  have g := grow i ih.ti
  have g1 := ge1 i ih.ti
  have hti : top ≠ i := by omega
  obtain ⟨l, rfl⟩ : ∃ l, L = l + 1 := ⟨L - 1, by omega⟩
  obtain ⟨l1, l2, l3, l4⟩ := mix_lens tr hd h0 hne hD hti ih.tc (ih.lo i col (Nat.le_refl _) hin hcol)
  have tc' := mix_g tr hd h0 hne hD hti (ih.lo i col (Nat.le_refl _) hin hcol)
  refine ⟨Nat.lt_succ_of_lt ih.ti, fun r k hr hk => by rw [mix2_o V (by omega) (by omega)]; exact ih.up r k hr hk, fun k hk => ?_, tc', fun r k h1 h2 h3 hk => ?_, fun r k h1 h2 hk => by rw [mix2_o V (by omega) (by omega)]; exact ih.lo r k (by omega) h2 hk⟩
  ·rw [mix2_s, g]
   exact dlt_add (dlt_mono (mul_dlt1 l1 (ih.tp k hk)) (by omega)) (dlt_mono (mul_dlt1 l2 (ih.lo i k (Nat.le_refl _) hin hk)) (by omega))
  ·by_cases e1 : r = i
   ·rw [e1, mix2_t V hti, g]
    exact dlt_add (dlt_mono (mul_dlt1 l3 (ih.tp k hk)) (by omega)) (dlt_mono (mul_dlt1 l4 (ih.lo i k (Nat.le_refl _) hin hk)) (by omega))
   ·rw [mix2_o V (by omega) e1, g]
    exact dlt_mono (ih.md r k h1 (by omega) h3 hk) (by omega)
theorem rtr_bd (tr : Trial p) (htn : top < n) (hcol : col < M) (hu : ∀ r k, r < top → k < M → (W r k).dlt R) (hl : ∀ r k, top ≤ r → r < n → k < M → (W r k).dlt T) {i : Nat} (h : RTr col top W i V) : (∀ r k, r < top → k < M → (V r k).dlt (if r < i then R + T else R)) ∧ ∀ r k, top ≤ r → r < n → k < M → (V r k).dlt T := by
 induction h with
 | @start u =>
  refine ⟨fun r k hr hk => ?_, fun r k h1 h2 hk => ?_⟩
  ·rw [if_neg (by omega)]
   show (if r = top then W r k * mon u 0 else W r k).dlt R
   rw [if_neg (by omega)]; exact hu r k hr hk
  ·show (if r = top then W r k * mon u 0 else W r k).dlt T
   split
   ·exact dlt_mono (mul_dlt1 (hl r k h1 h2 hk) (fun i hi => by rw [c_mon, if_neg (by omega)] : (mon u 0 : Pol (Zp p)).dlt 1)) (by omega)
   ·exact hl r k h1 h2 hk
 | @step i V q r h hi e hr hne ih =>
  obtain ⟨h1, h2⟩ := ih
  have hic := h1 i col (by omega) hcol
  rw [if_neg (by omega)] at hic
  obtain ⟨d, hr1, hr2⟩ := hr
  have hq : q.dlt R := dlt_mono (divq_dlt tr e hic hr2 hne (by rw [Nat.add_sub_cancel]; exact hr1)) (by omega)
  refine ⟨fun s k hs hk => ?_, fun s k k1 k2 hk => ?_⟩
  ·by_cases e1 : s = i
   ·rw [e1, if_pos (Nat.lt_succ_self _), mix2_s, one_mul]
    have h3 := h1 i k (by omega) hk
    rw [if_neg (by omega)] at h3
    exact dlt_add (dlt_mono h3 (by omega)) (dlt_mono (mul_dlt1 (dlt_neg hq) (h2 top k (Nat.le_refl _) htn hk)) (by omega))
   ·rw [mix2_o V e1 (by omega)]
    have h3 := h1 s k hs hk
    by_cases e2 : s < i
    ·rw [if_pos (by omega)]; rwa [if_pos e2] at h3
    ·rw [if_neg (by omega)]; rwa [if_neg e2] at h3
  ·by_cases e1 : s = top
   ·rw [e1, mix2_t V (by omega), zero_mul, zero_add, one_mul]; exact h2 top k (Nat.le_refl _) htn hk
   ·rw [mix2_o V (by omega) e1]; exact h2 s k k1 k2 hk
def hLo (n L : Nat) : Nat → Nat
 | 0 => L
 | t + 1 => (n - t) * hLo n L t
def hUp (n L : Nat) : Nat → Nat
 | 0 => 0
 | t + 1 => hUp n L t + (n - t) * hLo n L t
theorem hUp_mono (n L : Nat) {s t : Nat} (h : s ≤ t) : hUp n L s ≤ hUp n L t := by
  induction t with
  | zero => obtain rfl : s = 0 := by omega
            exact Nat.le_refl _
  | succ t ih =>
    by_cases e : s = t + 1
    · rw [e]; exact Nat.le_refl _
    · exact Nat.le_trans (ih (by omega)) (Nat.le_add_right _ _)
theorem hLo_pos {n L : Nat} (hL : 1 ≤ L) : ∀ t, t ≤ n → 1 ≤ hLo n L t
 | 0, _ => hL
 | t + 1, h => Nat.mul_pos (by omega) (hLo_pos hL t (by omega))
theorem ctr_bd (tr : Trial p) (hL : 1 ≤ L) (h0 : Ab n M L W) (h : CTr n W col top V) : col ≤ M → top ≤ n ∧ (∀ r k, r < top → k < M → (V r k).dlt (hUp n L top)) ∧ ∀ r k, top ≤ r → r < n → k < M → (V r k).dlt (hLo n L top) := by
 induction h with
 | start => exact fun _ => ⟨Nat.zero_le _, fun r k hr => by omega, fun r k _ h2 hk => h0 r k h2 hk⟩
 | none _ ih => exact fun hc => ih (by omega)
 | @step col top V V1 V2 h1 h2 h3 h4 ih =>
  intro hc
  obtain ⟨a1, a2, a3⟩ := ih (by omega)
  have hj := jtr_bd tr (hLo_pos hL top a1) h2 (show col < M by omega) a2 a3 h3
  have hr := rtr_bd (T := (n - top) * hLo n L top) tr h2 (show col < M by omega) hj.up (fun r k k1 k2 hk => by
   by_cases e : r = top
   ·rw [e]; exact hj.tp k hk
   ·exact hj.md r k (by omega) k2 k2 hk) h4
  refine ⟨h2, fun r k hr' hk => ?_, fun r k k1 k2 hk => hr.2 r k (by omega) k2 hk⟩
  show (V2 r k).dlt (hUp n L top + (n - top) * hLo n L top)
  by_cases e : r = top
  ·exact dlt_mono (hr.2 r k (by omega) (by omega) hk) (Nat.le_add_left _ _)
  ·have := hr.1 r k (by omega) hk
   rwa [if_pos (by omega)] at this
theorem cb_of (tr : Trial p) (hL : 1 ≤ L) (h0 : Ab n M L W) {B : Nat} (hB : hUp n L n ≤ B) : CB n M B W := by
 intro col top V htn hc h
 obtain ⟨a1, a2, a3⟩ := ctr_bd tr hL h0 h (by omega)
 have hm : hUp n L top + (n - top) * hLo n L top ≤ B := Nat.le_trans (hUp_mono n L (show top + 1 ≤ n by omega)) hB
 refine ⟨fun i V' hin hj r k hr hk => ?_, fun V1 i V' hi h1 h2 r k hr hk => ?_⟩
 ·have hb := jtr_bd tr (hLo_pos hL top a1) htn hc a2 a3 hj
  have hs : (i - top) * hLo n L top ≤ (n - top) * hLo n L top := Nat.mul_le_mul_right _ (by omega)
  have h1 : hLo n L top ≤ (n - top) * hLo n L top := Nat.le_mul_of_pos_left _ (by omega)
  by_cases e1 : r < top
  ·exact dlt_mono (hb.up r k e1 hk) (by omega)
  ·by_cases e2 : r = top
   ·rw [e2]; exact dlt_mono (hb.tp k hk) (by omega)
   ·by_cases e3 : r < i
    ·exact dlt_mono (hb.md r k (by omega) e3 hr hk) (by omega)
    ·exact dlt_mono (hb.lo r k (by omega) hr hk) (by omega)
 ·have hj := jtr_bd tr (hLo_pos hL top a1) htn hc a2 a3 h1
  have hb := rtr_bd (T := (n - top) * hLo n L top) tr htn hc hj.up (fun r k k1 k2 hk => by
   by_cases e : r = top
   ·rw [e]; exact hj.tp k hk
   ·exact hj.md r k (by omega) k2 k2 hk) h2
  by_cases e1 : r < top
  ·have := hb.1 r k e1 hk
   split at this
   ·exact dlt_mono this hm
   ·exact dlt_mono this (by omega)
  ·exact dlt_mono (hb.2 r k (by omega) hr hk) (by omega)
theorem hUp_le {n L : Nat} (hn : n ≤ 9) : hUp n L n ≤ 990000 * L := by
 have key : ∀ m, m ≤ 9 → ∀ t, hUp m L t = hUp m 1 t * L ∧ hLo m L t = hLo m 1 t * L := fun m _ t => by
  induction t with
  | zero => exact ⟨(Nat.zero_mul L).symm, (Nat.one_mul L).symm⟩
  | succ t ih =>
   refine ⟨?_, ?_⟩
   ·show hUp m L t + (m - t) * hLo m L t = (hUp m 1 t + (m - t) * hLo m 1 t) * L
    rw [ih.1, ih.2, Nat.add_mul, Nat.mul_assoc]
   ·show (m - t) * hLo m L t = (m - t) * hLo m 1 t * L
    rw [ih.2, Nat.mul_assoc]
 rw [(key n hn n).1]
 refine Nat.mul_le_mul_right L ?_
 rcases (show n = 0 ∨ n = 1 ∨ n = 2 ∨ n = 3 ∨ n = 4 ∨ n = 5 ∨ n = 6 ∨ n = 7 ∨ n = 8 ∨ n = 9 by omega) with rfl | rfl | rfl | rfl | rfl | rfl | rfl | rfl | rfl | rfl <;> decide
end
end Go.Proofs.Ytkmfhabgempjiaa
/- Layer 25: a matrix's parts: the walk. -/
namespace Go.Proofs.Ytkmfhabgempjiaa
set_option maxHeartbeats 4000000
open Go.RowKit
def PtS (p LF n : Nat) (A : MT (Zp p) n n) (W : (Nat → Nat → Pol (Zp p))) (X : MT (Pol (Zp p)) n n) (wr : World) (base : Nat) (iv cv : Value) (i : Nat) : Prop :=
 ∃ us S, Qls p wr base iv us (pks W i).length LF (fun j => W ((pks W i).getD j 0) ((pks W i).getD j 0)) ∧ Mls wr base cv (pks W i).length (fun _ => n) (fun _ => 1) S (fun j => tbv (ph A (cl X ((pks W i).getD j 0))))
def RetPt (p LF : Nat) (w : World) (n : Nat) (A : MT (Zp p) n n) (Φ : Nat → (Nat → Nat → Pol (Zp p)) → (Nat → Nat → Pol (Zp p)) → (Nat → Nat → Pol (Zp p)) → Prop) (e : Ending) (w' : World) : Prop :=
 ∃ (W U V : (Nat → Nat → Pol (Zp p))) (X : MT (Pol (Zp p)) n n), (∃ s, Φ s W U V ∧ Pst n n s W) ∧ SmR (XA A) U W V ∧ Inv (MT.of n n U) X ∧ (∀ i k, i < n → k < n → i ≠ k → W i k = 0) ∧ (∀ k, k < n → Mo (W k k)) ∧ (∀ i k, i ≤ k → k < n → Dv (W i i) (W k k)) ∧
  ∃ iv cv, e = .returned (.agg #[iv, cv]) ∧ PtS p LF n A W X w' w.heap.size iv cv n ∧ Below w.heap.size w w'
section
variable {p n : Nat}
theorem smi_off {t : Nat} {W : (Nat → Nat → Pol (Zp p))} (h : SmI t n n W) (hz : ∀ a b, t ≤ a → a < n → t ≤ b → b < n → W a b = 0) : (∀ i k, i < n → k < n → i ≠ k → W i k = 0) ∧ (∀ k, k < n → Mo (W k k)) ∧ ∀ i k, i ≤ k → k < n → Dv (W i i) (W k k) := by
 refine ⟨fun i k hi hk hne => ?_, fun k hk => ?_, fun i k hik hk => ?_⟩
 ·by_cases h1 : i < t ∨ k < t
  ·exact h.off i k hi hk hne h1
  ·exact hz i k (by omega) hi (by omega) hk
 ·by_cases h1 : k < t
  ·exact h.mo k h1
  ·rw [hz k k (by omega) hk (by omega) hk]; exact Or.inl rfl
 ·by_cases h1 : k < t
  ·exact h.dv i (by omega) k k hik hk hik hk
  ·rw [hz k k (by omega) hk (by omega) hk]; exact Dv.zero _
end
set_option maxRecDepth 20000 in
theorem fb_part (p : Nat) (a : Value) (n : Nat) (xs : List Nat) (w : World) (hp : FP p) (tr : Trial p) (hA : Fm w a n n xs) (hn : n ≤ 9) (hx : xs.length = n * n) {LF : Nat} {Φ : Nat → (Nat → Nat → Pol (Zp p)) → (Nat → Nat → Pol (Zp p)) → (Nat → Nat → Pol (Zp p)) → Prop} (hLF : LF ≤ 66600) (hL0 : 1 ≤ LF)
  (hΦ : SmS p n n (XA (mx p n n xs)) Φ) (h0 : ∀ W U V, (∀ i k, i < n → k < n → W i k = (XA (mx p n n xs)).e i k) → (∀ i k, i < n → k < n → U i k = if i = k then 1 else 0) → (∀ i k, i < n → k < n → V i k = if i = k then 1 else 0) → Φ 0 W U V) (hF : ∀ t W U V, Φ t W U V → Bds n n LF LF LF W U V) :
  Calls Try.prog 102 #[.agg #[.int .u64 p], a] w (RetPt p LF w n (mx p n n xs) Φ) := by
 obtain ⟨aA, cA, rfl⟩ := hA.agg
 obtain ⟨wb, ew, KF, KA, KR, B0, hsz⟩ := boxes3 w 29 63 130 [.int .u64 p] [.int .i64 n, .int .i64 n, .slice aA xs.length cA] [.slice none 0 0, .slice none 0 0]
 clear hsz
 replace hA := hA.next B0
 have HX := Lib.hid hx; have HP := Lib.hid hp; have HT := Lib.hid tr; clear hx hp tr
 obtain ⟨A, eA⟩ : ∃ A, A = mx p n n xs := ⟨_, rfl⟩
 rw [← eA] at hΦ h0 ⊢
 have HPH := Lib.hid hΦ; have HPZ := Lib.hid h0; have HPF := Lib.hid hF; clear hΦ h0 hF
 have EA := Lib.hid eA; clear eA
 have hnn : n * n ≤ 81 := Nat.mul_le_mul hn hn
 go_enter Try.func102, Try.ntmps102
 have qKF0 := KF.cell 0
 have qKA0 := KA.cell 0
 have qKA1 := KA.cell 1
 have qKA2 := KA.cell 2
 go_wp2_with fail
 rw [← ew]
 clear ew
 refine (xm_Char p 2 _ n xs _ HP.out hA (by omega) HX.out (by omega) (by omega) (fun j => (XA A).e (j / n) (0 + j % n)) (fun i k hi hk => by rw [EA.out]; exact xa_of hi hk)).mono ?_; rintro e w1 ⟨aC, kC, usC, rfl, QC, b1⟩
 clear qKF0 qKA0 qKA1 qKA2
 replace KF := KF.next b1
 replace KA := KA.next b1
 replace KR := KR.next b1
 replace hA := hA.next b1
 replace B0 := B0.trans (b1.mono B0.size)
 clear b1
 obtain ⟨zsC, zlC, nsC, hzC⟩ := QC.ns HP.out
 have mC : Xm w1 (.agg #[.int .i64 n, .int .i64 n, .slice aC (n * n) kC]) n n zsC := ⟨_, rfl, nsC⟩
 have e1 : MT.of n n (aT p n zsC) = XA A := MT.ext fun i k hi hk => by rw [MT.of_e _ hi hk]; exact rd_at (W := (XA A).e) hzC hi hk
 have E1 := Lib.hid e1; have ZLC := Lib.hid zlC; have LC := Lib.hid (show ∀ j, j < n * n → (zsC.getD j []).length ≤ 2 from fun j hj => (hzC j hj).2.2)
 clear e1 zlC nsC hzC QC
 obtain ⟨w2, e2, KC, b2, hs2⟩ := boxes1 w1 24 [.int .i64 n, .int .i64 n, .slice aC (n * n) kC]
 clear hs2
 replace KF := KF.next b2
 replace KA := KA.next b2
 replace KR := KR.next b2
 replace hA := hA.next b2
 replace mC := mC.next b2
 replace B0 := B0.trans (b2.mono B0.size)
 clear b2
 go_upto_region 2 with (fail)
 rw [← e2]
 clear e2
 have qKF0 := KF.cell 0
 have qKC0 := KC.cell 0
 have qKC1 := KC.cell 1
 have qKC2 := KC.cell 2
 go_wp2_with fail
 refine (xf_SmithP p _ n n 2 LF zsC _ HP.out HT.out mC (by omega) (by omega) ZLC.out LC.out (by omega) (by rw [E1.out]; exact HPH.out) (fun W U V k1 => HPZ.out W U V fun i k hi hk => by rw [k1 i k hi hk, ← E1.out, MT.of_e _ hi hk]) HPF.out).mono ?_; rintro e w3 ⟨t, W, U, V, hU, ht, -, hS, hI, hz, aD, kD, usD, aU, kU, usU, aV, kV, usV, rfl, QD, QU, -, b3⟩
 clear qKF0 qKC0 qKC1 qKC2
 replace KF := KF.next b3
 replace KA := KA.next b3
 replace KR := KR.next b3
 replace hA := hA.next b3
 replace mC := mC.next b3
 replace KC := KC.next b3
 replace B0 := B0.trans (b3.mono B0.size)
 clear b3
 rw [E1.out] at hS
 obtain ⟨h1, h2, h3⟩ := smi_off hI hz
 obtain ⟨X, hX⟩ := hS.u
 have HST := Lib.hid hU
 obtain ⟨s0, hU, -⟩ := hU
 replace hU := (HPF.out _ _ _ _ hU).2.1
 have HSM := Lib.hid hS; have HXI := Lib.hid hX; have HOF := Lib.hid h1; have HMO := Lib.hid h2; have HDV := Lib.hid h3
 obtain ⟨zsD, zlD, nsD, hzD⟩ := QD.ns HP.out
 obtain ⟨zsU, zlU, nsU, hzU⟩ := QU.ns HP.out
 have mD : Xm w3 (.agg #[.int .i64 n, .int .i64 n, .slice aD (n * n) kD]) n n zsD := ⟨_, rfl, nsD⟩
 have mU : Xm w3 (.agg #[.int .i64 n, .int .i64 n, .slice aU (n * n) kU]) n n zsU := ⟨_, rfl, nsU⟩
 have eU : ∀ i k, i < n → k < n → aT p n zsU i k = U i k := fun i k hi hk => rd_at hzU hi hk
 have lU : ∀ j, j < n * n → (zsU.getD j []).length ≤ LF := fun j hj => by
  obtain ⟨g1, g2, g3⟩ := jdm hj
  have h4 := nrm_ln HP.out.pos (hzU j hj).1
  rw [(hzU j hj).2.1, Nat.zero_add] at h4
  exact h4.le (hU _ _ g1 g2)
 have eD : ∀ k, k < n → pl p (zsD.getD (k * n + k) []) = W k k := fun k hk => rd_at hzD hk hk
 have EU := Lib.hid eU; have LU := Lib.hid lU; have ED := Lib.hid eD; have ZLD := Lib.hid zlD; have ZLU := Lib.hid zlU; have LD := Lib.hid (show ∀ j, j < n * n → (zsD.getD j []).length ≤ LF from fun j hj => (hzD j hj).2.2)
 clear hU hS hI hz h1 h2 h3 hX QD QU nsD nsU hzD hzU zlD zlU eU lU eD mC KC
 obtain ⟨w4, e4, KD, KU, KV, b4, hs4⟩ := boxes3 w3 24 24 24 [.int .i64 n, .int .i64 n, .slice aD (n * n) kD] [.int .i64 n, .int .i64 n, .slice aU (n * n) kU] [.int .i64 n, .int .i64 n, .slice aV (n * n) kV]
 clear hs4
 replace KF := KF.next b4
 replace KA := KA.next b4
 replace KR := KR.next b4
 replace hA := hA.next b4
 replace mD := mD.next b4
 replace mU := mU.next b4
 replace B0 := B0.trans (b4.mono B0.size)
 clear b4
 clear KV
 go_upto_region 3 with (fail)
 rw [← e4]
 clear e4
 have qKF0 := KF.cell 0
 have qKU0 := KU.cell 0
 have qKU1 := KU.cell 1
 have qKU2 := KU.cell 2
 go_wp2_with fail
 refine (xf_Hermite p _ n n LF zsU _ HP.out HT.out mU (by omega) (by omega) ZLU.out LU.out (B := 70000000000) (by omega) (by omega) (by omega) (by omega) (cb_of HT.out hL0 (aug_ab LU.out hL0) (Nat.le_trans (hUp_le hn) (by omega)))).mono ?_; rintro e w5 ⟨V2, P2, top2, hFo, aH, kH, usH, aB, kB, usB, rfl, -, QB, b5⟩
 clear qKF0 qKU0 qKU1 qKU2
 replace KF := KF.next b5
 replace KA := KA.next b5
 replace KR := KR.next b5
 replace hA := hA.next b5
 replace mD := mD.next b5
 replace mU := mU.next b5
 replace KD := KD.next b5
 replace KU := KU.next b5
 replace B0 := B0.trans (b5.mono B0.size)
 clear b5
 obtain ⟨zsB, zlB, nsB, hzB⟩ := QB.ns HP.out
 have mB : Xm w5 (.agg #[.int .i64 n, .int .i64 n, .slice aB (n * n) kB]) n n zsB := ⟨_, rfl, nsB⟩
 have eB : MT.of n n (aT p n zsB) = X := by
  have hX2 : Inv (MT.of n n (aT p n zsU)) X := by rw [MT.of_congr EU.out]; exact HXI.out
  have h1 := her_unim HT.out hX2 hFo.rq hFo.her
  exact MT.ext fun i k hi hk => by rw [MT.of_e _ hi hk, rd_off hzB hi hk]; exact h1 i k hi hk
 have EB := Lib.hid eB; have ZLB := Lib.hid zlB
 have LB := Lib.hid (show ∀ j, j < n * n → (zsB.getD j []).length ≤ 1000000000000 from fun j hj => by have h1 := (hzB j hj).2.2; omega)
 clear hFo QB nsB hzB zlB eB mU KU
 obtain ⟨w6, e6, KH, KB, b6, hs6⟩ := boxes2 w5 24 24 [.int .i64 n, .int .i64 n, .slice aH (n * n) kH] [.int .i64 n, .int .i64 n, .slice aB (n * n) kB]
 clear hs6
 replace KF := KF.next b6
 replace KA := KA.next b6
 replace KR := KR.next b6
 replace hA := hA.next b6
 replace mD := mD.next b6
 replace KD := KD.next b6
 replace mB := mB.next b6
 replace B0 := B0.trans (b6.mono B0.size)
 clear b6
 clear KH
 go_upto_region 4 with (fail)
 rw [← e6]
 clear e6
 have lF := KF.lt; have lA := KA.lt; have lR := KR.lt; have lD := KD.lt; have lB := KB.lt
 have HKF := Lib.hid KF; have HKA := Lib.hid KA; have HKR := Lib.hid KR; have HKD := Lib.hid KD; have HKB := Lib.hid KB; have HA := Lib.hid hA; have HMD := Lib.hid mD; have HMB := Lib.hid mB; have HB0 := Lib.hid B0
 clear KF KA KR KD KB hA mD mB B0
 obtain ⟨w7, e7, KP, b7, -⟩ := boxes1 w6 130 [.slice none 0 0, .slice none 0 0]
 go_upto_region 5 with (fail)
 rw [← e7]
 clear e7
 have ca0 := (HKA.out.next b7).cell 0
 go_wp2
 clear ca0
 go_loopw [40] (fun jv wr => ∃ (i : Nat) (iv cv : Value), i ≤ n ∧ jv = .int .i64 i ∧ Blk 130 wr w6.heap.size [iv, cv] ∧ PtS p LF n A W X wr (w6.heap.size + 1) iv cv i ∧ Below w6.heap.size w6 wr) (fun jv _ => n - (intOf jv).toNat)
 case atStart => exact ⟨0, _, _, by omega, rfl, KP, ⟨[], fun _ => .slice none 0 0, Qls.nil _ _ _ _ _, Mls.nil _ _ _ _ _ _⟩, b7⟩
 case round =>
  clear KP b7
  obtain ⟨i, iv, cv, hi, rfl, KP, ⟨us, S, QI, ML⟩, B1⟩ := hrel
  have hlt0 := KP.lt
  by_cases hin : i < n
  ·have KF := HKF.out.next B1; have KD := HKD.out.next B1; have mD := HMD.out.next B1
   have f0 := KF.cell 0; have d0 := KD.cell 0; have d1 := KD.cell 1; have d2 := KD.cell 2
   have hlD := LD.out (i * n + i) (at_lt rfl hin hin)
   go_wp2_with fail
   refine (xm_At p i i _ n n zsD _ HP.out mD (by omega) (by omega) ZLD.out hin hin (by omega)).mono ?_; rintro e w8 ⟨r8, zs, rfl, o8, n8, v8, l8, b8⟩
   rw [ED.out i hin] at v8
   obtain ⟨a8, c8, rfl⟩ := o8.sliced
   replace KP := KP.next b8; replace QI := QI.next b8; replace ML := ML.next b8
   have B2 := B1.trans (b8.mono B1.size)
   have hpl : pln (W i i) = zs.length := by rw [← v8]; exact pln_eq (nrm_ln HP.out.pos n8)
   have hlz : zs.length ≤ LF := by omega
   clear f0 d0 d1 d2 KF KD mD hlD l8 B1
   by_cases h1 : 1 < zs.length
   ·have hpk : pks W (i + 1) = pks W i ++ [i] := by rw [pks_succ, hpl, if_pos h1]
    have hml := pks_len W i
    have QI2 : Qls p w8 (w6.heap.size + 1) iv us (pks W i).length LF (fun j => W ((pks W (i + 1)).getD j 0) ((pks W (i + 1)).getD j 0)) := QI.congr fun j hj => by rw [hpk, getD_snoc, if_neg (by omega)]
    have ML2 : Mls w8 (w6.heap.size + 1) cv (pks W i).length (fun _ => n) (fun _ => 1) S (fun j => tbv (ph A (cl X ((pks W (i + 1)).getD j 0)))) := ML.congr fun j hj => ⟨rfl, rfl, rfl, by rw [hpk, getD_snoc, if_neg (by omega)]⟩
    have hpm : (pks W (i + 1)).getD (pks W i).length 0 = i := by rw [hpk, getD_snoc, if_pos rfl]
    have hpn : (pks W (i + 1)).length = (pks W i).length + 1 := by rw [hpk, List.length_append]; rfl
    clear QI ML hpk hpl
    obtain ⟨m, em⟩ : ∃ m, m = (pks W i).length := ⟨_, rfl⟩
    rw [← em] at QI2 ML2 hml hpm hpn
    clear em
    have p0 := KP.cell 0
    have hlt8 := KP.lt
    have hsz8 := b8.size
    clear b8
    go_upto_region 11 with (at_builtin; refine apVl 22 43 24 (.slice none 0 0) Try.underlying22 (by kernel_rfl) (by decide) rfl rfl _ _ rfl w8 (w6.heap.size + 1) _ m us (.slice a8 zs.length c8) rfl QI2.1 (by omega) (by omega) rfl rfl ?_; intro g9 cap9 w9 ho9 hb9 hg9 _; have KP9 := KP.below hb9 (Nat.lt_succ_self _); have q0 := KP9.cell 0; have q1 := KP9.free 0)
    have QI3 := QI2.push hg9 ho9 o8 (by omega) n8 (v8.trans (by rw [hpm])) hlz
    have ML3 := ML2.chg (Chg.grown hg9) (fun b _ hb => (rowOwn_tyb QI2.1 hb).1) (by decide) (by decide)
    obtain ⟨ws, ews⟩ : ∃ ws, ws = w9.setCell ⟨w6.heap.size, 0, none⟩ (.slice (some ⟨g9, 0, none⟩) (m + 1) cap9) := ⟨_, rfl⟩
    have KPs : Blk 130 ws w6.heap.size [.slice (some ⟨g9, 0, none⟩) (m + 1) cap9, cv] := by rw [ews]; exact KP9.set 0 _
    have QIs : Qls p ws (w6.heap.size + 1) (.slice (some ⟨g9, 0, none⟩) (m + 1) cap9) (us ++ [.slice a8 zs.length c8]) (m + 1) LF (fun j => W ((pks W (i + 1)).getD j 0) ((pks W (i + 1)).getD j 0)) := by rw [ews]; exact QI3.low (a := ⟨w6.heap.size, 0, none⟩) (Nat.lt_succ_self _) _
    have MLs : Mls ws (w6.heap.size + 1) cv m (fun _ => n) (fun _ => 1) S (fun j => tbv (ph A (cl X ((pks W (i + 1)).getD j 0)))) := by rw [ews]; exact ML3.low (a := ⟨w6.heap.size, 0, none⟩) (Nat.lt_succ_self _) _
    have Bs : Below w6.heap.size w6 ws := by rw [ews]; exact (B2.trans (hb9.mono (Nat.le_succ _))).setCell (p := ⟨w6.heap.size, 0, none⟩) (Nat.le_refl _) _
    rw [← ews]
    clear ews QI3 ML3 QI2 ML2 KP9 q0 q1 p0 KP o8 n8 v8 ho9 hb9 hg9 B2
    have bd := dw ws
    replace KPs := KPs.next bd; replace QIs := QIs.next bd; replace MLs := MLs.next bd
    replace Bs := Bs.trans (bd.mono Bs.size)
    have KF := HKF.out.next Bs; have KA := HKA.out.next Bs; have KB := HKB.out.next Bs; have hA := HA.out.next Bs; have mB := HMB.out.next Bs
    have hbs : w6.heap.size + 1 ≤ ws.drew.heap.size := KPs.lt
    clear bd
    have z0 := Lib.hid fun (w : World) (hS : Below (w6.heap.size + 1) ws.drew w) => And.intro ((KPs.below hS (Nat.lt_succ_self _)).cell 1) (And.intro ((KF.below hS (Nat.lt_succ_of_lt lF)).cell 0) (And.intro ((KA.below hS (Nat.lt_succ_of_lt lA)).cell 0) (And.intro ((KA.below hS (Nat.lt_succ_of_lt lA)).cell 1) (And.intro ((KA.below hS (Nat.lt_succ_of_lt lA)).cell 2) (And.intro ((KB.below hS (Nat.lt_succ_of_lt lB)).cell 0) (And.intro ((KB.below hS (Nat.lt_succ_of_lt lB)).cell 1) ((KB.below hS (Nat.lt_succ_of_lt lB)).cell 2)))))))
    refine startP (S := (fun w' => Below (w6.heap.size + 1) ws.drew w')) (by kernel_rfl) _ rfl rfl rfl (by kernel_rfl) (Below.refl _ _) (fun hHeld => ?_)
    refine tk 0 ?_
    refine tf 1 z0.out ?_
    refine tf 2 z0.out ?_
    refine tf 3 z0.out ?_
    refine tf 4 z0.out ?_
    refine tk 5 ?_
    refine on 6 fun K hK => ?_
    go_simp
    go_at_call 141
    (with_reducible refine (fb_column p i _ _ n xs zsB _ HP.out hA mB (by omega) HX.out ZLB.out LB.out hin).mono ?_); rintro e n1 ⟨ao, kc, rfl, oc, bc⟩
    rw [← EA.out, show clq p n zsB i = cl X i from by unfold clq; rw [EB.out]] at oc
    rw [← EA.out, show clq p n zsB i = cl X i from by unfold clq; rw [EB.out]]
    obtain ⟨zc, ezc⟩ : ∃ zc, zc = tbv (ph A (cl X i)) := ⟨_, rfl⟩
    rw [← ezc] at oc ⊢
    have EZC := Lib.hid ezc; clear ezc
    refine hK.out _ _ (hHeld.trans (bc.mono (Nat.le_trans hbs hHeld.size))) (fun hHeld => ?_)
    clear hK K
    try simp only [Act.put, zq1, zq2, zq3]
    refine on 7 fun K hK => ?_
    go_simp
    have hd := hHeld
    refine hK.out _ _ (hHeld.alloc (Nat.le_trans hbs hHeld.size) _) (fun hHeld => ?_)
    clear hK K
    try simp only [Act.put, zq1, zq2, zq3]
    refine on 8 fun K hK => ?_
    refine apS 125 63 3 40 (.agg #[.int .i64 0, .int .i64 0, .slice none 0 0]) Try.underlying125 (by kernel_rfl) (by decide) rfl (by decide) _ _ rfl n1 (w6.heap.size + 1) cv m (rowL (m * 3) (mcs (fun _ => n) (fun _ => 1) S)) [.int .i64 n, .int .i64 1, .slice ao zc.length kc] rfl (by intro u hu; simp at hu; rcases hu with rfl | rfl | rfl <;> rfl) (MLs.next bc).own (by omega) (Nat.le_trans hbs hd.size) rfl rfl ?_
    intro g10 cap10 w10 ho10 hb10 hg10 _
    refine hK.out _ _ (hd.trans hb10) (fun hHeld => ?_)
    clear hK K
    try simp only [Act.put, zq1, zq2, zq3]
    refine tk 9 ?_
    clear z0; refine doneL (by kernel_rfl) ?_ _
    refine lastL rfl (by rfl) ?_
    have KP10 := KPs.below hHeld (Nat.lt_succ_self _)
    have s0 := KP10.cell 1; have s1 := KP10.free 1
    have B10 := Bs.trans (hHeld.mono (Nat.le_succ _))
    have QI10 := (QIs.next bc).chg (Chg.grown hg10) (fun b _ hb => (rowOwn_tyb (MLs.next bc).own hb).1) (by decide) (by decide)
    have ML10 := (MLs.next bc).push hg10 ho10 oc hbs
    have KP11 := KP10.set 1 (.slice (some ⟨g10, 0, none⟩) (m + 1) cap10)
    have FIN := Lib.hid (show Blk 130 (w10.setCell ⟨w6.heap.size, 1, none⟩ (.slice (some ⟨g10, 0, none⟩) (m + 1) cap10)) w6.heap.size [.slice (some ⟨g9, 0, none⟩) (m + 1) cap9, .slice (some ⟨g10, 0, none⟩) (m + 1) cap10] ∧ PtS p LF n A W X (w10.setCell ⟨w6.heap.size, 1, none⟩ (.slice (some ⟨g10, 0, none⟩) (m + 1) cap10)) (w6.heap.size + 1) (.slice (some ⟨g9, 0, none⟩) (m + 1) cap9) (.slice (some ⟨g10, 0, none⟩) (m + 1) cap10) (i + 1) ∧ Below w6.heap.size w6 (w10.setCell ⟨w6.heap.size, 1, none⟩ (.slice (some ⟨g10, 0, none⟩) (m + 1) cap10)) from
     ⟨KP11, ⟨_, _, by rw [hpn]; exact QI10.low (a := ⟨w6.heap.size, 1, none⟩) (Nat.lt_succ_self _) _, by
      rw [hpn]
      refine (ML10.low (a := ⟨w6.heap.size, 1, none⟩) (Nat.lt_succ_self _) (.slice (some ⟨g10, 0, none⟩) (m + 1) cap10)).congr fun j hj => ⟨?_, ?_, rfl, ?_⟩
      ·by_cases e : j = m
       ·rw [if_pos e]
       ·rw [if_neg e]
      ·by_cases e : j = m
       ·rw [if_pos e]
       ·rw [if_neg e]
      ·by_cases e : j = m
       ·rw [if_pos e, e, hpm, EZC.out]
       ·rw [if_neg e]⟩, B10.setCell (p := ⟨w6.heap.size, 1, none⟩) (Nat.le_refl _) _⟩)
    clear KPs QIs MLs Bs KF KA KB hA mB KP10 B10 QI10 ML10 KP11 ho10 hb10 hg10 oc bc hHeld
    go_wp2
    go_roundw
    case rel => exact ⟨i + 1, _, _, by omega, by go_num, FIN.out⟩
    case measure => simp [intOf] <;> omega
   ·have hpk : pks W (i + 1) = pks W i := by rw [pks_succ, hpl, if_neg h1, List.append_nil]
    have FIN := Lib.hid (show PtS p LF n A W X w8 (w6.heap.size + 1) iv cv (i + 1) from ⟨us, S, by rw [hpk]; exact QI, by rw [hpk]; exact ML⟩)
    clear QI ML o8 n8 v8 b8 hpk hpl
    go_wp2
    go_roundw
    case rel => exact ⟨i + 1, _, _, by omega, by go_num, KP, FIN.out, B2⟩
    case measure => simp [intOf] <;> omega
  ·obtain rfl : i = n := by omega
   obtain ⟨ai, ci, rfl⟩ := QI.slc
   obtain ⟨ac, cc, rfl⟩ := ML.shape
   have KR := HKR.out.next B1
   have p0 := KP.cell 0; have p1 := KP.cell 1
   have r0 := KR.cell 0; have r1 := KR.cell 1; have r2 := KR.free 0; have r3 := KR.free 1
   have KR2 := (KR.set 0 (.slice ai (pks W i).length ci)).set 1 (.slice ac (pks W i).length cc)
   have d0 := KR2.cell 0; have d1 := KR2.cell 1
   have hw6 := HB0.out.size
   have FIN := Lib.hid (show RetPt p LF w i A Φ (.returned (.agg #[(.slice ai (pks W i).length ci), (.slice ac (pks W i).length cc)])) ((wr.setCell ⟨w.heap.size + 1 + 1, 0, none⟩ (.slice ai (pks W i).length ci)).setCell ⟨w.heap.size + 1 + 1, 1, none⟩ (.slice ac (pks W i).length cc)) from
    ⟨W, U, V, X, HST.out, HSM.out, HXI.out, HOF.out, HMO.out, HDV.out, (.slice ai (pks W i).length ci), (.slice ac (pks W i).length cc), rfl, ⟨us, S, ((QI.low (a := ⟨w.heap.size + 1 + 1, 0, none⟩) (show w.heap.size + 1 + 1 < w6.heap.size + 1 by omega) (.slice ai (pks W i).length ci)).low (a := ⟨w.heap.size + 1 + 1, 1, none⟩) (show w.heap.size + 1 + 1 < w6.heap.size + 1 by omega) (.slice ac (pks W i).length cc)).mono (by omega), ((ML.low (a := ⟨w.heap.size + 1 + 1, 0, none⟩) (show w.heap.size + 1 + 1 < w6.heap.size + 1 by omega) (.slice ai (pks W i).length ci)).low (a := ⟨w.heap.size + 1 + 1, 1, none⟩) (show w.heap.size + 1 + 1 < w6.heap.size + 1 by omega) (.slice ac (pks W i).length cc)).mono (by omega)⟩,
     ((HB0.out.trans (B1.mono hw6)).setCell (p := ⟨w.heap.size + 1 + 1, 0, none⟩) (by simp; omega) (.slice ai (pks W i).length ci)).setCell (p := ⟨w.heap.size + 1 + 1, 1, none⟩) (by simp; omega) (.slice ac (pks W i).length cc)⟩)
   clear KR KR2 QI ML B1
   go_wp2
   exact bodyPost_ret (v := .agg #[(.slice ai (pks W i).length ci), (.slice ac (pks W i).length cc)]) (by simp [results, Try.results102, go_sem, d0, d1]) rfl FIN.out
end Go.Proofs.Ytkmfhabgempjiaa
/- Layer 25: squares; Invariants. -/
namespace Go.Proofs.Ytkmfhabgempjiaa
set_option maxHeartbeats 4000000
open Go.RowKit
theorem fb_square (a : Value) (R C : Int) (xs : List Nat) (w : World) (hA : Fm w a R C xs) (b : Bool) (hb : b = decide (Fd R C xs.length ∧ R = C)) :
  Calls Try.prog 101 #[a] w (RetW w (.bool b)) := by
 obtain ⟨aA, cA, rfl⟩ := hA.agg
 obtain ⟨wb, ew, KA, B0, hsz⟩ := boxes1 w 63 [.int .i64 R, .int .i64 C, .slice aA xs.length cA]
 clear hsz
 replace hA := hA.next B0
 have f0 := KA.cell 0; have f1 := KA.cell 1; have f2 := KA.cell 2
 by_cases hF : Fd R C xs.length
 ·by_cases hRC : R = C
  ·subst hRC
   obtain rfl : b = true := by rw [hb]; exact decide_eq_true ⟨hF, rfl⟩
   clear hb
   go_enter Try.func101, Try.ntmps101
   go_upto_region 1 with (fail)
   rw [← ew]
   clear ew
   go_wp2_with fail
   refine (fm_Formed_yes _ R R xs _ hA hF).mono ?_; rintro e w2 ⟨rfl, b2⟩
   have KA2 := KA.next b2
   clear f0 f1 f2 KA
   have f0 := KA2.cell 0; have f1 := KA2.cell 1
   go_wp2
   go_ret
   exact ⟨rfl, B0.trans (b2.mono B0.size)⟩
  ·obtain rfl : b = false := by rw [hb]; exact decide_eq_false (fun h => hRC h.2)
   clear hb
   have h2 : (R == C) = false := by simpa using hRC
   go_enter Try.func101, Try.ntmps101
   go_upto_region 1 with (fail)
   rw [← ew]
   clear ew
   go_wp2_with fail
   refine (fm_Formed_yes _ R C xs _ hA hF).mono ?_; rintro e w2 ⟨rfl, b2⟩
   have KA2 := KA.next b2
   clear f0 f1 f2 KA
   have f0 := KA2.cell 0; have f1 := KA2.cell 1
   go_wp2
   go_ret
   exact ⟨rfl, B0.trans (b2.mono B0.size)⟩
 ·obtain rfl : b = false := by rw [hb]; exact decide_eq_false (fun h => hF h.1)
  clear hb
  go_enter Try.func101, Try.ntmps101
  go_upto_region 1 with (fail)
  rw [← ew]
  clear ew
  go_wp2_with fail
  refine (fm_Formed_no _ R C xs _ hA hF).mono ?_; rintro e w2 ⟨rfl, b2⟩
  have KA2 := KA.next b2
  clear f0 f1 f2 KA
  have f0 := KA2.cell 0; have f1 := KA2.cell 1
  go_wp2
  go_ret
  exact ⟨rfl, B0.trans (b2.mono B0.size)⟩
theorem fb_square_yes (a : Value) (n : Nat) (xs : List Nat) (w : World) (hA : Fm w a n n xs) (hn : n ≤ 64) (hx : xs.length = n * n) : Calls Try.prog 101 #[a] w (RetW w (.bool true)) :=
 fb_square a n n xs w hA true (decide_eq_true ⟨⟨⟨by omega, by omega⟩, ⟨by omega, by omega⟩, by rw [hx]; exact Int.natCast_mul n n⟩, rfl⟩).symm
theorem fld0 (w : World) (ai ac : Option Addr) (m n ci cc : Nat) : Sem.run Try.prog (Instr.field 130 (.agg #[.slice ai m ci, .slice ac n cc]) 0) w = .ok (.slice ai m ci) w := by kernel_rfl
def RetIn (p LF : Nat) (w : World) (n : Nat) (A : MT (Zp p) n n) (Φ : Nat → (Nat → Nat → Pol (Zp p)) → (Nat → Nat → Pol (Zp p)) → (Nat → Nat → Pol (Zp p)) → Prop) (e : Ending) (w' : World) : Prop :=
 ∃ (W U V : (Nat → Nat → Pol (Zp p))) (X : MT (Pol (Zp p)) n n), (∃ s, Φ s W U V ∧ Pst n n s W) ∧ SmR (XA A) U W V ∧ Inv (MT.of n n U) X ∧ (∀ i k, i < n → k < n → i ≠ k → W i k = 0) ∧ (∀ k, k < n → Mo (W k k)) ∧ (∀ i k, i ≤ k → k < n → Dv (W i i) (W k k)) ∧
  ∃ iv us, e = .returned (.tuple #[iv, .int .i64 0]) ∧ Qls p w' w.heap.size iv us (pks W n).length LF (fun j => W ((pks W n).getD j 0) ((pks W n).getD j 0)) ∧ Below w.heap.size w w'
set_option maxRecDepth 20000 in
theorem fb_InvariantsP (p : Nat) (a : Value) (n : Nat) (xs : List Nat) (w : World) (hp : FP p) (tr : Trial p) (hA : Fm w a n n xs) (hn : n ≤ 9) (hx : xs.length = n * n) {LF : Nat} {Φ : Nat → (Nat → Nat → Pol (Zp p)) → (Nat → Nat → Pol (Zp p)) → (Nat → Nat → Pol (Zp p)) → Prop} (hLF : LF ≤ 66600) (hL0 : 1 ≤ LF)
  (hΦ : SmS p n n (XA (mx p n n xs)) Φ) (h0 : ∀ W U V, (∀ i k, i < n → k < n → W i k = (XA (mx p n n xs)).e i k) → (∀ i k, i < n → k < n → U i k = if i = k then 1 else 0) → (∀ i k, i < n → k < n → V i k = if i = k then 1 else 0) → Φ 0 W U V) (hF : ∀ t W U V, Φ t W U V → Bds n n LF LF LF W U V) :
  Calls Try.prog 50 #[.agg #[.int .u64 p], a] w (RetIn p LF w n (mx p n n xs) Φ) := by
 obtain ⟨aA, cA, rfl⟩ := hA.agg
 obtain ⟨wb, ew, KF, KA, B0, hsz⟩ := boxes2 w 29 63 [.int .u64 p] [.int .i64 n, .int .i64 n, .slice aA xs.length cA]
 clear hsz
 replace hA := hA.next B0
 have HX := Lib.hid hx; have HP := Lib.hid hp; have HT := Lib.hid tr; have HPH := Lib.hid hΦ; have HPZ := Lib.hid h0; have HPF := Lib.hid hF; clear hΦ h0 hF hx hp tr
 go_enter Try.func50, Try.ntmps50
 go_upto_region 1 with (fail)
 rw [← ew]
 clear ew
 have qKA0 := KA.cell 0
 have qKA1 := KA.cell 1
 have qKA2 := KA.cell 2
 go_wp2_with fail
 refine (fb_square_yes _ n xs _ hA (by omega) HX.out).mono ?_; rintro e w1 ⟨rfl, b1⟩
 clear qKA0 qKA1 qKA2
 replace KF := KF.next b1
 replace KA := KA.next b1
 replace hA := hA.next b1
 replace B0 := B0.trans (b1.mono B0.size)
 clear b1
 have hw1 := B0.size
 have qKF0 := KF.cell 0
 have qKA0 := KA.cell 0
 have qKA1 := KA.cell 1
 have qKA2 := KA.cell 2
 go_wp2_with fail
 refine (fb_part p _ n xs _ HP.out HT.out hA hn HX.out hLF hL0 HPH.out HPZ.out HPF.out).mono ?_; rintro e w2 ⟨W, U, V, X, h0, h1, h2, h3, h4, h5, iv, cv, rfl, ⟨us, S, QI, QM⟩, b2⟩
 clear qKF0 qKA0 qKA1 qKA2
 replace KF := KF.next b2
 replace KA := KA.next b2
 replace hA := hA.next b2
 replace B0 := B0.trans (b2.mono B0.size)
 clear b2
 obtain ⟨ai, ci, rfl⟩ := QI.slc
 obtain ⟨ac, cc, rfl⟩ := QM.shape
 clear QM
 have FIN := Lib.hid (show RetIn p LF w n (mx p n n xs) Φ (.returned (.tuple #[.slice ai (pks W n).length ci, .int .i64 0])) w2 from ⟨W, U, V, X, h0, h1, h2, h3, h4, h5, _, us, rfl, QI.mono hw1, B0⟩)
 clear h0 h1 h2 h3 h4 h5 QI KF KA hA B0
 go_wp2
 rw [fld0]
 go_wp2
 exact bodyPost_ret (v := .tuple #[.slice ai (pks W n).length ci, .int .i64 0]) (by simp [results, Try.results50, go_sem]) rfl FIN.out
theorem fb_Invariants (p : Nat) (a : Value) (n : Nat) (xs : List Nat) (w : World) (hp : FP p) (tr : Trial p) (hA : Fm w a n n xs) (hn : n ≤ 4) (hx : xs.length = n * n) :
  Calls Try.prog 50 #[.agg #[.int .u64 p], a] w (RetIn p 255 w n (mx p n n xs) fun t W U V => Bds n n (lsq4 t) (1 + lsq4 t) (1 + 2 * lsq4 t) W U V) :=
 fb_InvariantsP p a n xs w hp tr hA (by omega) hx (by omega) (by omega) (sms_seq tr (seq4 hn hn)) (fun W U V h1 h2 h3 => by
  have d1 : (1 : Pol (Zp p)).dlt 1 := fun i hi => by rw [Pol.one_def, c_mon, if_neg (by omega)]
  refine ⟨fun i k hi hk => ?_, fun i k hi hk => ?_, fun i k hi hk => ?_⟩
  ·rw [h1 i k hi hk]
   unfold XA
   rw [MT.of_e _ hi hk]
   refine dlt_sub ?_ (fun j hj => by rw [c_mon, if_neg (by have : lsq4 0 = 2 := rfl; omega)])
   split
   ·exact fun j hj => by rw [c_mon, if_neg (by have : lsq4 0 = 2 := rfl; omega)]
   ·exact dlt_zero _
  ·rw [h2 i k hi hk]; split
   ·exact dlt_mono d1 (by omega)
   ·exact dlt_zero _
  ·rw [h3 i k hi hk]; split
   ·exact dlt_mono d1 (by omega)
   ·exact dlt_zero _) fun t W U V hb => seq_fin (LM := 127) (fun t => by unfold lsq4; split <;> (try split) <;> (try split) <;> omega) hb
end Go.Proofs.Ytkmfhabgempjiaa
/- Layer 25: the basis: columns, each with its images. -/
namespace Go.Proofs.Ytkmfhabgempjiaa
set_option maxHeartbeats 4000000
open Go.RowKit
section
open CR
variable {p n : Nat}
theorem bdm_take (l : List (Prt p n)) : ∀ (i : Nat) (h : i < l.length), bdm (l.take (i + 1)) = bdm (l.take i) + (l[i]).1 := by
 induction l with
 | nil => intro i h; simp at h
 | cons x l ih =>
  intro i h
  cases i with
  | zero => show x.1 + 0 = 0 + x.1; omega
  | succ i =>
   have := ih i (by simpa using h)
   show x.1 + bdm (l.take (i + 1)) = x.1 + bdm (l.take i) + (l[i]'(by simpa using h)).1
   rw [this]; omega
theorem bdm_le (l : List (Prt p n)) : ∀ i, bdm (l.take i) ≤ bdm l := by
 induction l with
 | nil => intro i; simp [bdm]
 | cons x l ih =>
  intro i
  cases i with
  | zero => exact Nat.zero_le _
  | succ i => have := ih i; show x.1 + bdm (l.take i) ≤ x.1 + bdm l; omega
end
theorem rowOwn_slc {w : World} {base : Nat} {e : TypeId} {n : Nat} {v : Value} {xs : List Value} (h : w.ownsRow base e 1 v n xs) : ∃ ao c, v = .slice ao n c := by
 rcases rowOwn_shape h with ⟨rfl, rfl⟩ | ⟨g, cap, rfl, -⟩
 ·exact ⟨_, _, rfl⟩
 ·exact ⟨_, _, rfl⟩
theorem vs_one {xs : List Nat} : ∀ u ∈ vs .u64 xs, u.oneCell' = true := fun u hu => by
 unfold vs at hu
 obtain ⟨x, -, rfl⟩ := List.mem_map.1 hu
 rfl
end Go.Proofs.Ytkmfhabgempjiaa
