/- xform: what the steps of a column do; a row is put in. -/
import Derived.Test.YtkmfhabgempjiaaQlM8
namespace Go.Proofs.Ytkmfhabgempjiaa
set_option maxHeartbeats 4000000
open Go.RowKit
open CR
theorem Hst.put1 {p : Nat} {w : World} {base gW : Nat} {rv : Value} {top n M : Nat} {U : Nat → Value} {E : Nat → Nat → Value} {W : Nat → Nat → Pol (Zp p)} (H : Hst p w base gW rv top n M U E W) {g cap : Nat} (hrv : rv = .slice (some ⟨g, 0, none⟩) n cap) {A : Value} {FA : Nat → Value} {PA : Nat → Pol (Zp p)}
  (hA : w.ownsRow base 43 1 A M (rowL M FA)) (eA : ∀ k, k < M → Vn p w base (FA k) (PA k)) {s : Nat}
  (fA : ∀ j, j < n → ∀ b, A.ownBlock = some b → (U j).ownBlock ≠ some b) {W' : Nat → Nat → Pol (Zp p)} (hW : ∀ a k, a < n → k < M → W' a k = if a = s then PA k else W a k) :
  Hst p (w.setCell ⟨g, s, none⟩ A) base gW rv top n M (fun a => if a = s then A else U a) (fun a => if a = s then FA else E a) W' := by
 have ho := H.rows.own
 rw [hrv] at ho
 have hgt : Tyb w 22 g := (rowOwn_tyb ho rfl).1
 have hc : Chg w (w.setCell ⟨g, s, none⟩ A) (fun j => j = g) := Chg.setCell w ⟨g, s, none⟩ A
 have X1 := H.rows.setU hrv hA (fun j hj _ b hb => fA j hj b hb) eA (i := s)
 have hgw : gW ≠ g := H.blk.tyb.ne hgt (by decide)
 exact ⟨H.blk.chg hc hgw, H.gw, X1.congr (fun a _ => by simp) (fun _ _ => rfl) (fun _ _ _ _ => rfl) fun a k ha hk => by
  have hk' : k < M := by simpa using hk
  rw [hW a k ha hk']
  show (if a = s then PA k else W a k) = (if a = s then PA else W a) k
  by_cases h1 : a = s
  ·rw [if_pos h1, if_pos h1]
  ·rw [if_neg h1, if_neg h1]⟩
theorem Hst.topped {p : Nat} {w : World} {base gW : Nat} {rv : Value} {top n M : Nat} {U : Nat → Value} {E : Nat → Nat → Value} {W : Nat → Nat → Pol (Zp p)} (H : Hst p w base gW rv top n M U E W) (t : Nat) :
  Hst p (w.setCell ⟨gW, 2, none⟩ (.int .i64 t)) base gW rv t n M U E W := by
 refine ⟨by have := H.blk.set 2 (.int .i64 t); simpa using this, H.gw, H.rows.chg (Chg.setCell w ⟨gW, 2, none⟩ (.int .i64 t)) fun b _ hb => ?_⟩
 have h1 : Tyb w 116 b := by rw [hb]; exact H.blk.tyb
 refine ⟨fun hx => ?_, fun hu => h1.ne hu (by decide) rfl⟩
 rcases (H.rows.blk hx).2.2 with h2 | h2
 ·exact h1.ne h2 (by decide) rfl
 ·exact h1.ne h2 (by decide) rfl
theorem Xr.cellU {p : Nat} {w : World} {base g n cap : Nat} {N : Nat → Nat} {U : Nat → Value} {E : Nat → Nat → Value} {W : Nat → Nat → Pol (Zp p)} (h : Xr p w base (.slice (some ⟨g, 0, none⟩) n cap) n N U E W) {i : Nat} (hi : i < n) : w.cell? ⟨g, i, none⟩ = some (U i) ∧ g < w.heap.size ∧ ∀ j, w.frozen? ⟨g, j, none⟩ = false := by
 have ho := h.own
 have h1 := World.ownsRow.cellAt ho i (by omega)
 rw [rowL_get hi] at h1
 exact ⟨h1, World.block_lt_of_cell? w _ h1, fun j => World.ownsRow.frozenAt ho j⟩
section
variable {p n M col top L B : Nat} {W V : Nat → Nat → Pol (Zp p)} {P : List Nat} {i : Nat}
inductive JTr {p : Nat} (n col top : Nat) (W : (Nat → Nat → Pol (Zp p))) : Nat → (Nat → Nat → Pol (Zp p)) → Prop
 | start : JTr n col top W (top + 1) W
 | skip {i : Nat} {V : (Nat → Nat → Pol (Zp p))} : JTr n col top W i V → JTr n col top W (i + 1) V
 | mix {i : Nat} {V : (Nat → Nat → Pol (Zp p))} {a b c d : Pol (Zp p)} : JTr n col top W i V → top < i → i < n → a * d - b * c = 1 → mix2 V top i a b c d i col = 0 → mix2 V top i a b c d top col ≠ 0 → Dl a c → JTr n col top W (i + 1) (mix2 V top i a b c d)
inductive RTr {p : Nat} (col top : Nat) (W : (Nat → Nat → Pol (Zp p))) : Nat → (Nat → Nat → Pol (Zp p)) → Prop
 | start {u : Zp p} : RTr col top W 0 (scl W top (mon u 0))
 | step {i : Nat} {V : (Nat → Nat → Pol (Zp p))} {q r : Pol (Zp p)} : RTr col top W i V → i < top → V i col = q * V top col + r → Dl r (V top col) → V top col ≠ 0 → RTr col top W (i + 1) (mix2 V i top 1 (-q) 0 1)
inductive CTr {p : Nat} (n : Nat) (W : (Nat → Nat → Pol (Zp p))) : Nat → Nat → (Nat → Nat → Pol (Zp p)) → Prop
 | start : CTr n W 0 0 W
 | none {col top : Nat} {V : (Nat → Nat → Pol (Zp p))} : CTr n W col top V → CTr n W (col + 1) top V
 | step {col top : Nat} {V V1 V2 : (Nat → Nat → Pol (Zp p))} : CTr n W col top V → top < n → JTr n col top V n V1 → RTr col top V1 top V2 → CTr n W (col + 1) (top + 1) V2
theorem CTr.wide {n : Nat} {W V : (Nat → Nat → Pol (Zp p))} {col top c : Nat} (h : CTr n W col top V) (hc : col ≤ c) : CTr n W c top V := by
 induction hc with
 | refl => exact h
 | step _ ih => exact ih.none
def Ab (n M B : Nat) (V : Nat → Nat → Pol (Zp p)) : Prop := ∀ r k, r < n → k < M → (V r k).dlt B
def JB (n M col top B : Nat) (W : Nat → Nat → Pol (Zp p)) : Prop := (∀ i V, i ≤ n → JTr n col top W i V → Ab n M B V) ∧ ∀ V1 i V, i ≤ top → JTr n col top W n V1 → RTr col top V1 i V → Ab n M B V
structure JnI (n M col top B : Nat) (W : Nat → Nat → Pol (Zp p)) (P : List Nat) (i : Nat) (V : Nat → Nat → Pol (Zp p)) : Prop where
 rq : Rq n M W V
 her : HerI n col V P
 zer : ∀ r, top < r → r < i → V r col = 0
 bd : Ab n M B V
 or : V = W ∨ V top col ≠ 0
 jt : JTr n col top W i V
theorem JnI.start (h : HerI n col W P) (hB : JB n M col top B W) (htn : top < n) : JnI n M col top B W P (top + 1) W :=
 ⟨Rq.refl W, h, fun r h1 h2 => by omega, hB.1 _ _ htn .start, .inl rfl, .start⟩
theorem JnI.step {L : Nat} {V' : Nat → Nat → Pol (Zp p)} (h : JnI n M col top B W P i V) (hB : JB n M col top B W) (hP : P.length = top) (hi : top < i) (hn : i < n) (hJ : JoinR n M col top i L V V') : JnI n M col top B W P (i + 1) V' := by
 rcases hJ with ⟨rfl, h0⟩ | ⟨a, b, c, d, hd, rfl, h0, hne, hbd, hDl⟩
 ·refine ⟨h.rq, h.her, fun r h1 h2 => ?_, h.bd, h.or, h.jt.skip⟩
  by_cases e1 : r = i
  ·rw [e1]; exact h0
  ·exact h.zer r h1 (by omega)
 ·have hjt := h.jt.mix hi hn hd h0 hne hDl
  refine ⟨h.rq.trans (Rq.mix (by omega) (by omega) hn hd), by have := h.her.mix (i := i) (by omega) hn a b c d; rwa [hP] at this, fun r h1 h2 => ?_, hB.1 _ _ hn hjt, .inr hne, hjt⟩
  by_cases e1 : r = i
  ·rw [e1]; exact h0
  ·rw [mix2_o V (by omega) e1]; exact h.zer r h1 (by omega)
structure RdI (n M col top B : Nat) (W : Nat → Nat → Pol (Zp p)) (P : List Nat) (i : Nat) (V : Nat → Nat → Pol (Zp p)) : Prop where
 rq : Rq n M W V
 her : HerI n col V P
 zer : ∀ r, top < r → r < n → V r col = 0
 mo : Mo (V top col)
 ne : V top col ≠ 0
 red : ∀ r, r < i → Dl (V r col) (V top col)
 bd : Ab n M B V
 rt : ∃ V1, JTr n col top W n V1 ∧ RTr col top V1 i V
theorem RdI.start (tr : Trial p) (h : JnI n M col top B W P n V) (hB : JB n M col top B W) (hP : P.length = top) (hn : top < n) {u v : Zp p} (huv : u * v = 1) {m : Nat} (hl : Ln (V top col) (m + 1)) (hu : u * (V top col).c m = 1) : RdI n M col top B W P 0 (scl V top (mon u 0)) := by
  have e1 : (mon u 0 : Pol (Zp p)) * mon v 0 = 1 := by rw [mon_mul, huv, Nat.add_zero, ← Pol.one_def]
  have hs : ∀ k, scl V top (mon u 0) top k = V top k * mon u 0 := fun k => if_pos rfl
  have ho : ∀ r k, r ≠ top → scl V top (mon u 0) r k = V r k := fun r k hr => if_neg hr
  refine ⟨h.rq.trans (Rq.scl e1), h.her.keep (fun i k hi hk => ho i k (by omega)) fun i k h1 h2 hk => ?_, fun r h1 h2 => by rw [ho r col (by omega)]; exact h.zer r h1 h2, by rw [hs]; exact mo_scale hl hu, ?_, fun r hr => by omega, hB.2 V 0 _ (Nat.zero_le _) h.jt .start, V, h.jt, .start⟩
  · by_cases e : i = top
    · rw [e, hs, h.her.low top (by omega) hn k hk, zero_mul]
    · rw [ho i k e]; exact h.her.low i h1 h2 k hk
  · rw [hs]
    exact mul_ne tr hl.ne fun e => by
                         rw [e, zero_mul] at e1
                         have h1 : (0 : Pol (Zp p)).c 0 = (1 : Pol (Zp p)).c 0 := congrArg (fun f : Pol (Zp p) => f.c 0) e1
                         exact Zp.one_ne tr (by
                           have h2 : (1 : Pol (Zp p)).c 0 = 1 := by rw [Pol.one_def, c_mon, if_pos rfl]
                           rw [← h2, ← h1]; rfl)
theorem RdI.step {q r : Pol (Zp p)} (h : RdI n M col top B W P i V) (hB : JB n M col top B W) (hP : P.length = top) (hi : i < top) (hn : top < n) (e : V i col = q * V top col + r) (hr : Dl r (V top col)) : RdI n M col top B W P (i + 1) (mix2 V i top 1 (-q) 0 1) := by
 have hs : ∀ k, mix2 V i top 1 (-q) 0 1 i k = V i k + -q * V top k := fun k => by rw [mix2_s, one_mul]
 have hT : ∀ k, mix2 V i top 1 (-q) 0 1 top k = V top k := fun k => by rw [mix2_t V (by omega), zero_mul, one_mul, zero_add]
 have ho : ∀ a k, a ≠ i → mix2 V i top 1 (-q) 0 1 a k = V a k := fun a k ha => by
  by_cases e2 : a = top
  ·rw [e2, hT]
  ·exact mix2_o V ha e2 _ _ _ _ k
 obtain ⟨V1, j1, j2⟩ := h.rt
 have j3 := j2.step hi e hr h.ne
 refine ⟨h.rq.trans (Rq.mix (by omega) (by omega) hn (by rw [mul_one, mul_zero, sub_zero])), h.her.keep (fun a k ha hk => ?_) (fun a k h1 h2 hk => by rw [ho a k (by omega)]; exact h.her.low a h1 h2 k hk), fun a h1 h2 => by rw [ho a col (by omega)]; exact h.zer a h1 h2, by rw [hT]; exact h.mo, by rw [hT]; exact h.ne, fun a ha => ?_, hB.2 V1 (i + 1) _ hi j1 j3, V1, j1, j3⟩
 ·by_cases e2 : a = i
  ·rw [e2, hs, h.her.low top (by omega) hn k hk, mul_zero, add_zero]
  ·exact ho a k e2
 ·rw [hT]
  by_cases e2 : a = i
  ·rw [e2, hs, e]
   have : q * V top col + r + -q * V top col = r := by_ring [q, V top col, r] (X0 * X1 + X2 + -X0 * X1) X2 rfl
   rw [this]; exact hr
  ·rw [ho a col e2]; exact h.red a (by omega)
def ColQ (n M col top : Nat) (W : Nat → Nat → Pol (Zp p)) (P : List Nat) (top' : Nat) (W' : Nat → Nat → Pol (Zp p)) : Prop :=
 (top' = top ∧ W' = W ∧ HerI n (col + 1) W P) ∨ (top' = top + 1 ∧ Rq n M W W' ∧ HerI n (col + 1) W' (P ++ [col]) ∧ ∃ V1, JTr n col top W n V1 ∧ RTr col top V1 top W')
theorem JnI.none (h : JnI n M col top B W P n V) (hP : P.length = top) (h0 : V top col = 0) : V = W ∧ HerI n (col + 1) W P := by
 have e : V = W := h.or.elim id fun hne => absurd h0 hne
 subst e
 refine ⟨rfl, h.her.none fun i h1 h2 => ?_⟩
 by_cases e : i = top
 ·rw [e]; exact h0
 ·exact h.zer i (by omega) h2
theorem RdI.done (h : RdI n M col top B W P top V) (hP : P.length = top) (hn : top < n) : ColQ n M col top W P (top + 1) V := by
 subst hP
 exact .inr ⟨rfl, h.rq, h.her.add hn h.mo h.ne (fun i h1 h2 => h.zer i h1 h2) (fun s hs => h.red s hs), h.rt⟩
theorem pl_sing (p x : Nat) : pl p [x] = mon (Zp.of p x) 0 := by
 have := pl_snoc p [] x
 rwa [List.nil_append, pl_nil, CR.zero_add] at this
theorem pl_sing1 (p : Nat) : pl p [1] = 1 := by rw [pl_sing, show Zp.of p 1 = 1 from rfl, ← Pol.one_def]
end
end Go.Proofs.Ytkmfhabgempjiaa
/- xform: a column is brought into form. -/
namespace Go.Proofs.Ytkmfhabgempjiaa
set_option maxHeartbeats 4000000
open Go.RowKit
set_option maxRecDepth 20000 in
theorem xf_column (p : Nat) (w : World) (base gW : Nat) (rv : Value) (top n M : Nat) (U : Nat → Value) (E : Nat → Nat → Value) (W : Nat → Nat → Pol (Zp p)) (P : List Nat) (col Kb : Nat) (hp : FP p) (ht : Trial p) (h : Hst p w base gW rv top n M U E W) (hPl : P.length = top) (hher : HerI n col W P) (htn : top < n) (hcol : col < M) (hK : Kb ≤ 100000000000) (hM : M ≤ 1000) (hn : n ≤ 1000)
  (hb : JB n M col top Kb W) :
  Calls Try.prog 135 #[.pointer (some ⟨gW, 0, none⟩), .int .i64 col] w (RetHs p w base gW rv n M (ColQ n M col top W P)) := by
 have hM0 : 0 < M := by omega
 obtain ⟨gh, cap, rfl, hg1, hg2, -⟩ := h.rows.hdr htn
 have HP := Lib.hid hp; have HTR := Lib.hid ht; have HPL := Lib.hid hPl; have HB := Lib.hid hb
 have st : JnI n M col top Kb W P (top + 1) W := JnI.start hher hb htn
 have hbase : base ≤ w.heap.size := by omega
 have h0 : ∃ U E, Hst p w base gW (.slice (some ⟨gh, 0, none⟩) n cap) top n M U E W ∧ Below base w w := ⟨U, E, h, Below.refl _ _⟩
 have HW := Lib.hid h0; have ST := Lib.hid st
 clear hp ht hPl hb hg2 h0 st hher
 have c2 := h.blk.cell 2
 go_enter Try.func135, Try.ntmps135
 clear h
 go_wp2
 clear c2
 go_loopw [4] (fun iv wr => ∃ i : Nat, top < i ∧ i ≤ n ∧ iv = .int .i64 i ∧ ∃ V U E, JnI n M col top Kb W P i V ∧ Hst p wr base gW (.slice (some ⟨gh, 0, none⟩) n cap) top n M U E V ∧ Below base w wr) (fun iv _ => n - (intOf iv).toNat)
 case atStart => exact ⟨top + 1, by omega, by omega, by go_num, W, _, _, ST.out, HW.out.choose_spec.choose_spec⟩
 case round =>
  obtain ⟨i, hi1, hi2, rfl, V, U1, E1, JN, H1, B1⟩ := hrel
  by_cases hin : i < n
  ·have c1 := H1.blk.cell 1
   go_wp2_with fail
   clear c1
   refine (xf_join p wr base gW _ top n M U1 E1 V i col Kb HP.out HTR.out H1 hi1 hin hcol (by omega) hM (by have := B1.size; omega) JN.bd).mono ?_; rintro e w2 ⟨rfl, top', U2, E2, V2, H2, ⟨rfl, hJ⟩, B2⟩
   have FJ := Lib.hid (JN.step HB.out HPL.out hi1 hin hJ)
   have F2 := Lib.hid H2
   have F3 := Lib.hid (B1.trans B2)
   clear JN H1 B1 hJ H2 B2
   go_wp2
   go_roundw
   case rel => exact ⟨i + 1, by omega, by omega, by go_num, V2, U2, E2, FJ.out, F2.out, F3.out⟩
   case measure => simp [intOf] <;> omega
  ·obtain rfl : i = n := by omega
   have hbs1 : base ≤ wr.heap.size := by have := B1.size; omega
   have c1 := H1.blk.cell 1
   have HJ := Lib.hid JN
   obtain ⟨bT, cT, eT, hT1, hT2, hT3, -, hTc, -⟩ := H1.rows.at htn hM0
   obtain ⟨aP, nP, cP, zP, eP, lP, oP, mP, vP⟩ := Vn.open (H1.rows.el top col htn hcol)
   have kP := hTc col hcol
   rw [eP] at kP
   have hzP : zP.length ≤ Kb := nrm_len HP.out.pos mP (by rw [vP]; exact JN.bd top col htn hcol)
   have rT := H1.rows.rowP HP.out.pos htn hM0 (L := Kb) (fun k hk => JN.bd top k htn hk)
   rw [eT] at rT
   have qH : wr.cell? ⟨gh, top, none⟩ = some (U1 top) := by
    obtain ⟨g', cap', e1, -, -, -, -, hc, -⟩ := H1.rows.hdr htn
    simp only [Value.slice.injEq, Option.some.injEq, Addr.mk.injEq, true_and] at e1
    obtain ⟨⟨e2, -⟩, -⟩ := e1
    rw [e2]; exact hc top htn
   rw [eT] at qH
   have VP := Lib.hid vP; have LP := Lib.hid lP; have MP := Lib.hid mP
   have tP := oP.sl
   have H1h := Lib.hid H1
   have hgl : gh < wr.heap.size := World.block_lt_of_cell? wr _ qH
   clear JN hTc eP vP lP mP oP
   go_upto_region 4 with (fail)
   clear c1
   have bd := dw wr
   have KW := (H1.next bd).blk
   have qH' : wr.drew.cell? ⟨gh, top, none⟩ = some (.slice (some ⟨bT, 0, none⟩) M cT) := qH
   have hgl' : gh < wr.drew.heap.size := hgl
   clear bd
   have z0 := Lib.hid fun (w : World) (hS : Below (wr.drew).heap.size (wr.drew) w) => And.intro ((KW.at hS) 1) (And.intro ((KW.at hS) 2) ((hS.cell (p := ⟨gh, top, none⟩) hgl').trans qH'))
   refine startL (S := (fun w' => Below (wr.drew).heap.size (wr.drew) w')) (by kernel_rfl) (Below.refl _ _) (fun hHeld => ?_)
   refine tk 0 ?_
   refine tk 1 ?_
   refine tk 2 ?_
   refine tf 3 z0.out ?_
   refine tk 4 ?_
   refine tk 5 ?_
   refine tk 6 ?_
   refine tf 7 z0.out ?_
   refine tk 8 ?_
   refine tf 9 z0.out ?_
   refine tk 10 ?_
   clear z0; refine doneL (by kernel_rfl) ?_ _
   clear hHeld qH' hgl' KW
   have B1' : Below base w wr.drew := B1.trans (Drawn.below (w' := wr.drew) ⟨1, rfl⟩ base)
   have B0 : Below wr.heap.size wr wr.drew := dw wr
   have H2 := H1.next B0
   replace tP := tP.next B0
   have rT2 := rT.next B0
   have kP2 : wr.drew.cell? ⟨bT, col, none⟩ = some (.slice aP nP cP) := kP
   have hnn : nP = zP.length := LP.out.symm
   obtain ⟨w2, ew2⟩ : ∃ w2, w2 = wr.drew := ⟨_, rfl⟩
   have hbs2 : base ≤ w2.heap.size := by rw [ew2]; exact hbs1
   have lT2 : bT < w2.heap.size := by rw [ew2]; exact hT2
   have lH2 : gh < w2.heap.size := by rw [ew2]; exact hgl
   rw [← ew2] at B1' H2 tP rT2 kP2 ⊢
   clear B1 H1 B0 ew2 rT kP qH hgl hbs1 hT2 H1h wr
   by_cases hz : nP = 0
   ·have hW0 : V top col = 0 := by
     rw [← VP.out, List.length_eq_zero_iff.1 (show zP.length = 0 by omega), pl_nil]
    have FIN := Lib.hid (show RetHs p w base gW (.slice (some ⟨gh, 0, none⟩) i cap) i M (ColQ i M col top W P) (.returned (.tuple #[])) w2 from ⟨rfl, top, U1, E1, V, H2, .inl ⟨rfl, HJ.out.none HPL.out hW0⟩, B1'⟩)
    have hz1 : ((nP : Int) == 0) = true := by simp [hz]
    clear H2 B1' hz hnn hzP tP rT2
    go_wp2
    go_end0
    exact FIN.out
   ·have hz1 : ((nP : Int) == 0) = false := by simp [hz]
    have HNZ := Lib.hid hz
    have hl0 : 0 < zP.length := by omega
    obtain ⟨jj, hjj⟩ : ∃ jj, nP = jj + 1 := ⟨nP - 1, by omega⟩
    obtain ⟨x, ex⟩ : ∃ x, x = zP.getD jj 0 := ⟨_, rfl⟩
    obtain ⟨ao, bP, oP, cP', eP', hlP, hcsP⟩ := tP
    simp only [Value.slice.injEq] at eP'
    obtain ⟨rfl, -, rfl⟩ := eP'
    obtain rfl := hcsP.ao (by intro h; rw [h] at hl0; simp at hl0)
    have hxc := hcsP.cell jj (by omega)
    rw [← ex] at hxc
    have lP2 : bP < w2.heap.size := hcsP.lt (by intro h; rw [h] at hl0; simp at hl0)
    obtain ⟨y, ey⟩ : ∃ y, y = (Zp.of p x).iv.val := ⟨_, rfl⟩
    have EY := Lib.hid ey
    have EX := Lib.hid ex
    have hwr : IntKind.i64.wrap ((nP : Int) - 1) = (jj : Int) := by rw [IntWalk.i64_in _ ⟨by omega, by omega⟩]; omega
    have hj0 : (0 : Int) ≤ (jj : Int) := Int.natCast_nonneg _
    have hj1 : (jj : Int) < (nP : Int) := by omega
    have HNN := Lib.hid hnn
    have HJJ := Lib.hid hjj
    clear hz ex ey hnn hjj
    go_upto_region 7 with (fail)
    have bd := dw w2
    have KW := (H2.next bd).blk
    have kP3 : w2.drew.cell? ⟨bT, col, none⟩ = some (.slice (some ⟨bP, oP, none⟩) nP cP) := kP2
    have hxc3 : w2.drew.cell? ⟨bP, oP + jj, none⟩ = some (.int .u64 x) := hxc
    have l3 : bT < w2.drew.heap.size := lT2
    have l3' : bP < w2.drew.heap.size := lP2
    clear bd kP2 hxc
    have z0 := Lib.hid fun (w : World) (hS : Below (w2.drew).heap.size (w2.drew) w) => And.intro ((KW.at hS) 0) (And.intro ((hS.cell (p := ⟨bT, col, none⟩) l3).trans kP3) ((hS.cell (p := ⟨bP, oP + jj, none⟩) l3').trans hxc3))
    refine startL (S := (fun w' => Below (w2.drew).heap.size (w2.drew) w')) (by kernel_rfl) (Below.refl _ _) (fun hHeld => ?_)
    refine tk 0 ?_
    refine tk 1 ?_
    refine tk 2 ?_
    refine tf 3 z0.out ?_
    refine tk 4 ?_
    refine tk 5 ?_
    refine tk 6 ?_
    refine tf 7 z0.out ?_
    refine tk 8 ?_
    refine tk 9 ?_
    refine tk 10 ?_
    refine tf 11 z0.out ?_
    refine on 12 fun K hK => ?_
    go_simp
    go_at_call 131
    (with_reducible refine (gfp_Inv p x y _ HP.out EY.out).mono ?_); rintro e w3 ⟨rfl, b3⟩
    refine hK.out _ _ (hHeld.trans (b3.mono hHeld.size)) (fun hHeld => ?_)
    clear hK K
    try simp only [Act.put, zq1, zq2, zq3]
    refine on 13 fun K hK => ?_
    go_simp
    have tl : Sl .u64 (w3.alloc (.cells #[.int .u64 y] 27)) (.slice (some ⟨w3.heap.size, 0, none⟩) 1 1) [y] := (own_lit1 w3 (y)).sl
    have btl : Below w3.heap.size w3 (w3.alloc (.cells #[.int .u64 y] 27)) := (Below.refl _ _).alloc (Nat.le_refl _) (.cells #[.int .u64 y] 27)
    generalize w3.alloc (.cells #[.int .u64 y] 27) = w4 at *
    refine hK.out _ _ (hHeld.trans (btl.mono hHeld.size)) (fun hHeld => ?_)
    clear hK K btl
    try simp only [Act.put, zq1, zq2, zq3]
    refine tk 14 ?_
    clear z0; refine doneL (by kernel_rfl) ?_ _
    have B4 : Below w2.heap.size w2 w4 := (dw w2).trans hHeld
    have H4 := H2.next B4
    have rT4 := rT2.next B4
    have BB4 := B1'.trans (B4.mono hbs2)
    have hbs4 : base ≤ w4.heap.size := Nat.le_trans hbs2 B4.size
    have hK1 : 1 ≤ Kb := by have := HNN.out; have := HJJ.out; omega
    clear hHeld KW kP3 hxc3 l3 l3' B4 H2 rT2 B1' lT2 lH2 lP2
    go_wp2_with fail
    refine (xf_mixed p gW Kb M _ _ _ _ _ _ [y] [] (V top) (V top) _ HP.out H4.blk tl (Sl.nil _ _) rT4 rT4 hK1 (Nat.zero_le _) (by omega) hM hM0).mono ?_; rintro e w5 ⟨gA, FA, rfl, oA, eA, b5⟩
    have H5 := H4.next b5
    have BB5 := BB4.trans (b5.mono hbs4)
    have gA0 : w4.heap.size ≤ gA := (rowOwn_tyb (b := gA) oA rfl).2.1
    have hfr : ∀ j, j < i → ∀ b, (U1 j).ownBlock = some b → b < w4.heap.size := fun j hj b hb => (rowOwn_tyb (H4.rows.row j hj) hb).2.2
    have HFR := Lib.hid hfr
    have RD0 := Lib.hid (show RdI i M col top Kb W P 0 (scl V top (mon (Zp.of p x).iv 0)) by
     have hLn := nrm_ln HP.out.pos MP.out
     rw [VP.out, LP.out, HJJ.out] at hLn
     have hu := lead_inv (l := jj) HTR.out MP.out (by rw [LP.out]; exact HJJ.out)
     rw [VP.out, ← EX.out] at hu
     have hx0 : Zp.of p x ≠ 0 := fun e => by
      have := hLn.2 jj rfl
      rw [← VP.out, pl_c, ← EX.out, e] at this
      exact this rfl
     exact RdI.start HTR.out HJ.out HB.out HPL.out htn (Zp.iv_mul HTR.out hx0) hLn hu)
    clear H4 rT4 BB4 hfr b5
    go_upto_region 9 with (fail)
    have bd := dw w5
    have KW := (H5.next bd).blk
    clear bd
    have z0 := Lib.hid fun (w : World) (hS : Below (w5.drew).heap.size (w5.drew) w) => And.intro ((KW.at hS) 1) ((KW.at hS) 2)
    refine startP (S := (fun w' => Below (w5.drew).heap.size (w5.drew) w')) (by kernel_rfl) _ rfl rfl rfl (by kernel_rfl) (Below.refl _ _) (fun hHeld => ?_)
    refine tk 0 ?_
    refine tk 1 ?_
    refine tk 2 ?_
    refine tf 3 z0.out ?_
    refine tk 4 ?_
    refine tk 5 ?_
    refine tk 6 ?_
    refine tf 7 z0.out ?_
    refine tk 8 ?_
    refine tk 9 ?_
    clear z0; refine doneL (by kernel_rfl) ?_ _
    refine lastL rfl (by rfl) ?_
    have B6 := dw w5
    have H6 := H5.next B6
    have oA6 := rowOwn_next oA B6 (Nat.le_refl _)
    have eA6 : ∀ k, k < M → Vn p w5.drew base (FA k) (pl p [y] * V top k + pl p [] * V top k) := fun k hk => ((eA k hk).next B6).mono hbs4
    have BB6 := BB5.trans (B6.mono (show base ≤ w5.heap.size by have := (rowOwn_tyb (b := gA) oA rfl).2.2; omega))
    obtain ⟨c9, -, fz⟩ := H6.rows.cellU htn
    have fz9 := fz top
    have H7 := H6.put1 rfl (rowOwn_mono oA6 hbs4) eA6 (s := top) (fun j hj b hb hb' => by
     have h1 := HFR.out j hj b hb'
     simp [Value.ownBlock] at hb
     omega) (W' := scl V top (mon (Zp.of p x).iv 0)) (fun a k ha hk => by
     unfold scl
     by_cases h1 : a = top
     ·rw [if_pos h1, if_pos h1, h1, pl_nil, CR.zero_mul, CR.add_zero, pl_sing, EY.out, Zp.of_val, CR.mul_comm]
     ·rw [if_neg h1, if_neg h1])
    have BB7 := BB6.setCell (p := ⟨gh, top, none⟩) hg1 (.slice (some ⟨gA, 0, none⟩) M M)
    have hUT : (fun a => if a = top then (.slice (some ⟨gA, 0, none⟩) M M : Value) else U1 a) top = .slice (some ⟨gA, 0, none⟩) M M := if_pos rfl
    have st7 : ∃ V U E, RdI i M col top Kb W P 0 V ∧ Hst p ((w5.setCell ⟨gh, top, none⟩ (.slice (some ⟨gA, 0, none⟩) M M)).drew) base gW (.slice (some ⟨gh, 0, none⟩) i cap) top i M U E V ∧ U top = .slice (some ⟨gA, 0, none⟩) M M ∧ Below base w ((w5.setCell ⟨gh, top, none⟩ (.slice (some ⟨gA, 0, none⟩) M M)).drew) := ⟨_, _, _, RD0.out, H7, hUT, BB7⟩
    have ST7 := Lib.hid st7
    clear H5 H6 H7 B6 oA oA6 eA eA6 BB5 BB6 BB7 st7 hUT fz hHeld KW
    go_upto_region 10 with (fail)
    clear c9 fz9
    generalize (w5.setCell ⟨gh, top, none⟩ (.slice (some ⟨gA, 0, none⟩) M M)).drew = w7 at *
    have c27 : w7.cell? ⟨gW, 2, none⟩ = some (.int .i64 top) := by
     obtain ⟨V7, U7, E7, h71, h72, h73, h74⟩ := ST7.out
     exact h72.blk.cell 2
    go_wp2
    clear c27
    go_loopw [80] (fun kv wr => ∃ k : Nat, k ≤ top ∧ kv = .int .i64 k ∧ ∃ V U E, RdI i M col top Kb W P k V ∧ Hst p wr base gW (.slice (some ⟨gh, 0, none⟩) i cap) top i M U E V ∧ U top = .slice (some ⟨gA, 0, none⟩) M M ∧ Below base w wr) (fun kv _ => top - (intOf kv).toNat)
    case atStart => exact ⟨0, Nat.zero_le _, rfl, ST7.out⟩
    case round =>
     clear ST7 RD0 HFR tl gA0 EX EY
     obtain ⟨k, hk, rfl, V3, U3, E3, RD, H3, hUT, B3⟩ := hrel
     have hbs3 : base ≤ wr.heap.size := by have h1 := H3.gw; have h2 := H3.blk.lt; omega
     have RDh := Lib.hid RD
     by_cases hkt : k < top
     ·have hki : k < i := by omega
      obtain ⟨bI, cI, eI, hI1, hI2, -, -, hIc, -⟩ := H3.rows.at hki hM0
      obtain ⟨bA, cA, eA', hA1, hA2, -, -, hAc, -⟩ := H3.rows.at htn hM0
      rw [hUT] at eA'
      simp only [Value.slice.injEq, Option.some.injEq, Addr.mk.injEq, and_true, true_and] at eA'
      obtain ⟨rfl, -⟩ := eA'
      obtain ⟨aX, nX, cX, zX, eX', lX, oX, mX, vX⟩ := Vn.open (H3.rows.el k col hki hcol)
      obtain ⟨aY, nY, cY, zY, eY', lY, oY, mY, vY⟩ := Vn.open (H3.rows.el top col htn hcol)
      obtain rfl : nX = zX.length := lX.symm
      obtain rfl : nY = zY.length := lY.symm
      obtain ⟨q1, lg, -⟩ := H3.rows.cellU hki
      rw [eI] at q1
      have q2 := hIc col hcol; rw [eX'] at q2
      have q3 := hAc col hcol; rw [eY'] at q3
      have hbk : ∀ j, j < M → (V3 k j).dlt Kb := fun j hj => RD.bd k j hki hj
      have hbt : ∀ j, j < M → (V3 top j).dlt Kb := fun j hj => RD.bd top j htn hj
      have hzX : zX.length ≤ Kb := nrm_len HP.out.pos mX (by rw [vX]; exact hbk col hcol)
      have hzY : zY.length ≤ Kb := nrm_len HP.out.pos mY (by rw [vY]; exact hbt col hcol)
      have rI := H3.rows.rowP HP.out.pos hki hM0 (L := Kb) hbk
      have rA := H3.rows.rowP HP.out.pos htn hM0 (L := Kb) hbt
      rw [eI] at rI; rw [hUT] at rA
      have HY0 := Lib.hid (show nl p zY ≠ [] from fun e => RD.ne (by rw [← vY]; exact (nl_nil HP.out.pos).1 e))
      have VX := Lib.hid vX; have VY := Lib.hid vY
      have tX := oX.sl; have tY := oY.sl
      have HUT := Lib.hid hUT
      clear vX vY oX oY mX mY hbk hbt eX' eY' hIc hAc lX lY RD eI hUT
      go_upto_region 13 with (fail)
      have bd := dw wr
      have KW := (H3.next bd).blk
      replace tX := tX.next bd; replace tY := tY.next bd
      have q1' : wr.drew.cell? ⟨gh, k, none⟩ = some (.slice (some ⟨bI, 0, none⟩) M cI) := q1
      have q2' : wr.drew.cell? ⟨bI, col, none⟩ = some (.slice aX zX.length cX) := q2
      have q3' : wr.drew.cell? ⟨gA, col, none⟩ = some (.slice aY zY.length cY) := q3
      have g1' : gh < wr.drew.heap.size := lg
      have g2' : bI < wr.drew.heap.size := hI2
      have g3' : gA < wr.drew.heap.size := hA2
      clear bd q2 q3
      have z0 := Lib.hid fun (w : World) (hS : Below (wr.drew).heap.size (wr.drew) w) => And.intro ((KW.at hS) 0) (And.intro ((KW.at hS) 1) (And.intro ((hS.cell (p := ⟨gh, k, none⟩) g1').trans q1') (And.intro ((hS.cell (p := ⟨bI, col, none⟩) g2').trans q2') ((hS.cell (p := ⟨gA, col, none⟩) g3').trans q3'))))
      refine startL (S := (fun w' => Below (wr.drew).heap.size (wr.drew) w')) (by kernel_rfl) (Below.refl _ _) (fun hHeld => ?_)
      refine tk 0 ?_
      refine tk 1 ?_
      refine tk 2 ?_
      refine tf 3 z0.out ?_
      refine tk 4 ?_
      refine tk 5 ?_
      refine tk 6 ?_
      refine tf 7 z0.out ?_
      refine tk 8 ?_
      refine tk 9 ?_
      refine tf 10 z0.out ?_
      refine tk 11 ?_
      refine tk 12 ?_
      refine tf 13 z0.out ?_
      refine tk 14 ?_
      refine tk 15 ?_
      refine tk 16 ?_
      refine tf 17 z0.out ?_
      refine on 18 fun K hK => ?_
      go_simp
      go_at_call 88
      (with_reducible refine (fp_DivMod p _ _ zX zY _ HP.out HTR.out (tX.next hHeld) (tY.next hHeld) (by omega) (by omega) HY0.out).mono ?_); rintro e w8 ⟨rq, rr, zq, zr, rfl, o8, p8, m8, n8, v8, d8, l8, k8, b8⟩
      have HDV := Lib.hid (show V3 k col = pl p zq * V3 top col + pl p zr ∧ Dl (pl p zr) (V3 top col) by
       rw [VX.out, VY.out] at v8
       obtain ⟨d, hd⟩ : ∃ d, (nl p zY).length = d + 1 := ⟨(nl p zY).length - 1, by omega⟩
       refine ⟨v8, d, fun t ht => pl_dlt p zr t (by omega), ?_⟩
       rw [← hd, ← VY.out, ← nl_pl p zY]; exact nrm_ln HP.out.pos (nl_nrm HP.out.pos zY))
      have s8 := o8.sl
      have hlq : zq.length ≤ Kb := by omega
      clear o8 p8 m8 n8 v8 d8 l8 k8
      refine hK.out _ _ (hHeld.trans (b8.mono hHeld.size)) (fun hHeld => ?_)
      clear hK K
      try simp only [Act.put, zq1, zq2, zq3]
      refine tk 19 ?_
      refine tk 20 ?_
      refine tk 21 ?_
      refine tk 22 ?_
      refine tk 23 ?_
      refine tk 24 ?_
      refine tk 25 ?_
      clear z0; refine doneL (by kernel_rfl) ?_ _
      have B8 : Below wr.heap.size wr w8 := (dw wr).trans hHeld
      clear hHeld KW q1' q2' q3' g1' g2' g3' tX tY b8
      go_upto_region 14 with (fail)
      replace B8 : Below wr.heap.size wr w8.drew := B8.trans (Drawn.below (w' := w8.drew) ⟨1, rfl⟩ wr.heap.size)
      replace s8 := s8.next (dw w8)
      have H9 := H3.next B8
      have BB9 := B3.trans (B8.mono hbs3)
      have rI9 := rI.next B8; have rA9 := rA.next B8
      have q9 : w8.drew.cell? ⟨gh, k, none⟩ = some (.slice (some ⟨bI, 0, none⟩) M cI) := (B8.cell (p := ⟨gh, k, none⟩) lg).trans q1
      have g9 : gh < w8.drew.heap.size := by have := B8.size; omega
      have hbs9 : base ≤ w8.drew.heap.size := Nat.le_trans hbs3 B8.size
      have hK1 : 1 ≤ Kb := by have := HNN.out; have := HJJ.out; omega
      have hK2 : ([1] : List Nat).length ≤ Kb := hK1
      clear H3 rI rA q1 lg hI2 hA2 B3 hbs3 B8
      have KW := H9.blk
      have z0 := Lib.hid fun (w : World) (hS : Below (w8.drew).heap.size (w8.drew) w) => And.intro ((KW.at hS) 1) ((hS.cell (p := ⟨gh, k, none⟩) g9).trans q9)
      refine startP (S := (fun w' => Below (w8.drew).heap.size (w8.drew) w')) (by kernel_rfl) _ rfl rfl rfl (by kernel_rfl) (Below.refl _ _) (fun hHeld => ?_)
      generalize w8.drew = w9 at *
      refine tk 0 ?_
      refine tk 1 ?_
      refine tk 2 ?_
      refine tf 3 z0.out ?_
      refine tk 4 ?_
      refine tk 5 ?_
      refine tk 7 ?_
      refine tk 8 ?_
      refine tk 9 ?_
      refine tf 10 z0.out ?_
      refine tk 11 ?_
      refine tk 12 ?_
      refine tf 13 z0.out ?_
      refine tk 14 ?_
      refine tk 15 ?_
      refine tk 17 ?_
      refine twoL 6 16 rfl rfl (by kernel_rfl) (by rfl) (by rfl) (fun K hK => ?_) (fun K hK => ?_)
      ·go_simp
       have tl : Sl .u64 (w9.alloc (.cells #[.int .u64 1] 27)) (.slice (some ⟨w9.heap.size, 0, none⟩) 1 1) [1] := (own_lit1 w9 (1)).sl
       have btl : Below w9.heap.size w9 (w9.alloc (.cells #[.int .u64 1] 27)) := (Below.refl _ _).alloc (Nat.le_refl _) (.cells #[.int .u64 1] 27)
       generalize w9.alloc (.cells #[.int .u64 1] 27) = w10 at *
       refine hK.out _ _ (hHeld.trans (btl.mono hHeld.size)) (fun hHeld => ?_)
       clear hK K btl
       try simp only [Act.put, zq1, zq2, zq3]
       refine on 16 fun K hK => ?_
       go_simp
       go_at_call 164
       (with_reducible refine (xf_minus p gW _ _ _ zq _ HP.out ((H9.next hHeld).blk) (s8.next hHeld) (by omega)).mono ?_); rintro e w11 ⟨r7, z7, rfl, o7, n7, v7, l7, b7⟩
       replace tl := tl.next b7
       have s7 := o7.sl; clear o7 n7; have V7 := Lib.hid v7; clear v7
       refine hK.out _ _ (hHeld.trans (b7.mono hHeld.size)) (fun hHeld => ?_)
       clear hK K
       try simp only [Act.put, zq1, zq2, zq3]
       refine on 18 fun K hK => ?_
       go_simp
       go_at_call 163
       (with_reducible refine (xf_mixed p gW Kb M _ _ _ _ r7 _ [1] z7 (V3 k) (V3 top) _ HP.out ((H9.next hHeld).blk) tl s7 (rI9.next hHeld) (rA9.next hHeld) hK2 (by omega) (by omega) hM hM0).mono ?_); rintro e w12 ⟨gB, FB, rfl, oB, eB, b12⟩
       have hs11 := hHeld.size
       refine hK.out _ _ (hHeld.trans (b12.mono hHeld.size)) (fun hHeld => ?_)
       clear hK K
       try simp only [Act.put, zq1, zq2, zq3]
       refine tk 19 ?_
       clear z0; refine doneL (by kernel_rfl) ?_ _
       refine lastL rfl (by rfl) ?_
       have H12 := H9.next hHeld
       have BB12 := BB9.trans (hHeld.mono hbs9)
       obtain ⟨c9, -, fz⟩ := H12.rows.cellU hki
       have fz9 := fz k
       have gB0 : w9.heap.size ≤ gB := Nat.le_trans hs11 (rowOwn_tyb (b := gB) oB rfl).2.1
       have H13 := H12.put1 rfl (rowOwn_mono oB (Nat.le_trans hbs9 hs11)) (fun j hj => (eB j hj).mono (Nat.le_trans hbs9 hs11)) (s := k) (fun j hj b hb hb' => by
        have h1 := (rowOwn_tyb (H9.rows.row j hj) hb').2.2
        simp [Value.ownBlock] at hb
        omega) (W' := mix2 V3 k top 1 (-pl p zq) 0 1) (fun a j ha hj => by
        by_cases h1 : a = k
        ·rw [if_pos h1, h1, mix2_s, pl_sing1, V7.out]
        ·rw [if_neg h1]
         by_cases h2 : a = top
         ·rw [h2, mix2_t V3 (by omega), CR.zero_mul, CR.one_mul, CR.zero_add]
         ·exact mix2_o V3 h1 h2 _ _ _ _ j)
       have F1 := Lib.hid (RDh.out.step HB.out HPL.out hkt htn HDV.out.1 HDV.out.2)
       have F2 := Lib.hid H13
       have F3 := Lib.hid (show (fun a => if a = k then (.slice (some ⟨gB, 0, none⟩) M M : Value) else U3 a) top = .slice (some ⟨gA, 0, none⟩) M M by
        show (if top = k then _ else U3 top) = _
        rw [if_neg (by omega)]; exact HUT.out)
       have F4 := Lib.hid (BB12.setCell (p := ⟨gh, k, none⟩) hg1 (.slice (some ⟨gB, 0, none⟩) M M))
       clear H9 H12 H13 BB9 BB12 oB eB rI9 rA9 s7 s8 tl hHeld b12 KW q9 fz
       go_wp2
       go_roundw
       case rel => exact ⟨k + 1, by omega, by go_num, _, _, _, F1.out, F2.out, F3.out, F4.out⟩
       case measure => simp [intOf] <;> omega
      ·go_simp
       go_at_call 164
       (with_reducible refine (xf_minus p gW _ _ _ zq _ HP.out ((H9.next hHeld).blk) (s8.next hHeld) (by omega)).mono ?_); rintro e w10 ⟨r7, z7, rfl, o7, n7, v7, l7, b7⟩
       have s7 := o7.sl; clear o7 n7; have V7 := Lib.hid v7; clear v7
       refine hK.out _ _ (hHeld.trans (b7.mono hHeld.size)) (fun hHeld => ?_)
       clear hK K
       try simp only [Act.put, zq1, zq2, zq3]
       refine on 6 fun K hK => ?_
       go_simp
       have tl : Sl .u64 (w10.alloc (.cells #[.int .u64 1] 27)) (.slice (some ⟨w10.heap.size, 0, none⟩) 1 1) [1] := (own_lit1 w10 (1)).sl
       have btl : Below w10.heap.size w10 (w10.alloc (.cells #[.int .u64 1] 27)) := (Below.refl _ _).alloc (Nat.le_refl _) (.cells #[.int .u64 1] 27)
       generalize w10.alloc (.cells #[.int .u64 1] 27) = w11 at *
       replace s7 := s7.next btl
       refine hK.out _ _ (hHeld.trans (btl.mono hHeld.size)) (fun hHeld => ?_)
       clear hK K btl
       try simp only [Act.put, zq1, zq2, zq3]
       refine on 18 fun K hK => ?_
       go_simp
       go_at_call 163
       (with_reducible refine (xf_mixed p gW Kb M _ _ _ _ r7 _ [1] z7 (V3 k) (V3 top) _ HP.out ((H9.next hHeld).blk) tl s7 (rI9.next hHeld) (rA9.next hHeld) hK2 (by omega) (by omega) hM hM0).mono ?_); rintro e w12 ⟨gB, FB, rfl, oB, eB, b12⟩
       have hs11 := hHeld.size
       refine hK.out _ _ (hHeld.trans (b12.mono hHeld.size)) (fun hHeld => ?_)
       clear hK K
       try simp only [Act.put, zq1, zq2, zq3]
       refine tk 19 ?_
       clear z0; refine doneL (by kernel_rfl) ?_ _
       refine lastL rfl (by rfl) ?_
       have H12 := H9.next hHeld
       have BB12 := BB9.trans (hHeld.mono hbs9)
       obtain ⟨c9, -, fz⟩ := H12.rows.cellU hki
       have fz9 := fz k
       have gB0 : w9.heap.size ≤ gB := Nat.le_trans hs11 (rowOwn_tyb (b := gB) oB rfl).2.1
       have H13 := H12.put1 rfl (rowOwn_mono oB (Nat.le_trans hbs9 hs11)) (fun j hj => (eB j hj).mono (Nat.le_trans hbs9 hs11)) (s := k) (fun j hj b hb hb' => by
        have h1 := (rowOwn_tyb (H9.rows.row j hj) hb').2.2
        simp [Value.ownBlock] at hb
        omega) (W' := mix2 V3 k top 1 (-pl p zq) 0 1) (fun a j ha hj => by
        by_cases h1 : a = k
        ·rw [if_pos h1, h1, mix2_s, pl_sing1, V7.out]
        ·rw [if_neg h1]
         by_cases h2 : a = top
         ·rw [h2, mix2_t V3 (by omega), CR.zero_mul, CR.one_mul, CR.zero_add]
         ·exact mix2_o V3 h1 h2 _ _ _ _ j)
       have F1 := Lib.hid (RDh.out.step HB.out HPL.out hkt htn HDV.out.1 HDV.out.2)
       have F2 := Lib.hid H13
       have F3 := Lib.hid (show (fun a => if a = k then (.slice (some ⟨gB, 0, none⟩) M M : Value) else U3 a) top = .slice (some ⟨gA, 0, none⟩) M M by
        show (if top = k then _ else U3 top) = _
        rw [if_neg (by omega)]; exact HUT.out)
       have F4 := Lib.hid (BB12.setCell (p := ⟨gh, k, none⟩) hg1 (.slice (some ⟨gB, 0, none⟩) M M))
       clear H9 H12 H13 BB9 BB12 oB eB rI9 rA9 s7 s8 tl hHeld b12 KW q9 fz
       go_wp2
       go_roundw
       case rel => exact ⟨k + 1, by omega, by go_num, _, _, _, F1.out, F2.out, F3.out, F4.out⟩
       case measure => simp [intOf] <;> omega
     ·obtain rfl : k = top := by omega
      have hwt : IntKind.i64.wrap ((k : Int) + 1) = ((k + 1 : Nat) : Int) := by rw [IntWalk.i64_in _ ⟨by omega, by omega⟩]; omega
      have c2 := H3.blk.cell 2
      have fz2 := H3.blk.free 2
      have FIN := Lib.hid (show RetHs p w base gW (.slice (some ⟨gh, 0, none⟩) i cap) i M (ColQ i M col k W P) (.returned (.tuple #[])) (wr.setCell ⟨gW, 2, none⟩ (.int .i64 ((k + 1 : Nat) : Int))) from ⟨rfl, k + 1, U3, E3, V3, H3.topped (k + 1), RD.done HPL.out htn, B3.setCell (p := ⟨gW, 2, none⟩) H3.gw _⟩)
      clear H3 B3 RD
      go_wp2
      go_end0
      exact FIN.out
end Go.Proofs.Ytkmfhabgempjiaa
/- xform: a row is put behind another; what formed starts with. -/
namespace Go.Proofs.Ytkmfhabgempjiaa
set_option maxHeartbeats 4000000
open Go.RowKit
open CR
theorem apWo {P : Program} {o : Oper} {a : Act} {K : Act → World → Prop} {Q : Exit → Act → World → Prop} (T e bytes : Nat) (z0 : Value)
  (hu : P.underlying T = some (.slice e)) (hi : (P.info? e).map (fun i => (i.zero, i.size, i.bytes)) = some (some z0, 1, bytes)) (hby : bytes ≤ 32) (hz0 : z0.cells.size = 1)
  (s x : Operand) (ho : o.op = .call { callee := .builtin .append, args := #[s, x], argTypes := #[T, T] })
  (w : World) (base : Nat) (v : Value) (n : Nat) (vs : List Value) (hown : w.ownsRow base e 1 v n vs) (hbase : base ≤ w.heap.size)
  (ad : Addr) (m c : Nat) (news : List Value) (hs : a.eval s = v) (hx : a.eval x = .slice (some ad) m c)
  (hl : news.length = m) (hnews : ∀ j u, news[j]? = some u → w.cell? (ad.add j) = some u) (h1 : ∀ u ∈ news, u.oneCell' = true) (hlen : n + m ≤ 1000000000)
  (h : ∀ (v' : Value) (w' : World), w'.ownsRow base e 1 v' (n + m) (vs ++ news) → Below base w w' → w.grownBy w' v.ownBlock → (v'.ownBlock = v.ownBlock ∨ v'.ownBlock = some w.heap.size) → K (a.put o.dst v') w') :
  Oper.wp P o a w K Q := by
 obtain ⟨i0, e1, e2, e3, e4⟩ := info_parts hi
 have hb : (n + m) * bytes ≤ (n + m) * 32 := Nat.mul_le_mul_left _ hby
 obtain ⟨v', w', hr, k1, k2, _, k4⟩ := run_append_own_at (P := P) w base T o.type e i0 z0 1 bytes hu e1 e2 e3 e4 hz0 (by decide) v n vs hown ad m c news (by rw [hl, Nat.mul_one]) hnews h1 (by unfold maxLen; omega) (by omega) hbase
 unfold Oper.wp execOp
 simp only [ho, resolve, invoke, builtin, Sem.run_bind, Sem.run_pure, Result.andThen_ok, List.map_toArray, List.map_cons, List.map_nil, hs, hx, hr]
 exact h v' w' k1 (below_grown k2 hbase fun k hk => (World.ownsRow.lt hown k hk).1) k2 k4
section
variable {p : Nat} {w w' : World} {base n : Nat} {rv : Value} {N : Nat → Nat} {U : Nat → Value} {E : Nat → Nat → Value} {W : Nat → Nat → Pol (Zp p)}
theorem Xr.apR (h : Xr p w base rv n N U E W) {i g cap M : Nat} (hi : i < n) (hrv : rv = .slice (some ⟨g, 0, none⟩) n cap) {r : Value} {F : Nat → Value} {R : Nat → Pol (Zp p)} (hg : w.grownBy w' (U i).ownBlock)
  (hr : w'.ownsRow base 43 1 r M (rowL M F)) (hb : r.ownBlock = (U i).ownBlock ∨ r.ownBlock = some w.heap.size) (he : ∀ k, k < M → Vn p w' base (F k) (R k)) :
  Xr p (w'.setCell ⟨g, i, none⟩ r) base rv n (fun a => if a = i then M else N a) (fun a => if a = i then r else U a) (fun a => if a = i then F else E a) (fun a => if a = i then R else W a) := by
 have hc0 := Chg.grown hg
 have hS : ∀ b, b < w.heap.size → (U i).ownBlock = some b → Tyb w 43 b := fun b _ hb => (rowOwn_tyb (h.row i hi) hb).1
 have ho := rowOwn_chgT h.own hc0 (e' := 43) hS (by decide)
 rw [hrv] at ho
 have hc : Chg w' (w'.setCell ⟨g, i, none⟩ r) (fun j => j = g) := Chg.setCell w' ⟨g, i, none⟩ r
 have hgt : Tyb w' 22 g := (rowOwn_tyb ho rfl).1
 have keep : ∀ {u : Value} {q : Pol (Zp p)}, Vn p w' base u q → Vn p (w'.setCell ⟨g, i, none⟩ r) base u q := fun hu => hu.chg hc (e := 22) (fun c _ hcb => by rw [hcb]; exact hgt) (by decide)
 have keep0 : ∀ {u : Value} {q : Pol (Zp p)}, Vn p w base u q → Vn p w' base u q := fun hu => hu.chg hc0 (e := 43) hS (by decide)
 have keepR : ∀ {v : Value} {m : Nat} {xs : List Value}, w'.ownsRow base 43 1 v m xs → (w'.setCell ⟨g, i, none⟩ r).ownsRow base 43 1 v m xs := fun hv => rowOwn_chgT hv hc (e' := 22) (fun c _ hcb => by rw [hcb]; exact hgt) (by decide)
 have keepR0 : ∀ a, a < n → a ≠ i → w'.ownsRow base 43 1 (U a) (N a) (rowL (N a) (E a)) := fun a ha hne => rowOwn_chg (h.row a ha) hc0 fun b hb => h.sep a i ha hi hne b hb
 have sp : ∀ a, a < n → a ≠ i → ∀ b, (U a).ownBlock = some b → r.ownBlock ≠ some b := fun a ha hne b hb' => by
  rcases hb with hb | hb
  ·rw [hb]; exact h.sep a i ha hi hne b hb'
  ·rw [hb]; intro e2
   have := (rowOwn_tyb (h.row a ha) hb').2.2
   simp at e2; omega
 refine ⟨?_, fun a ha => ?_, fun a b ha hb' hne c hac => ?_, fun a c ha hc' => ?_⟩
 ·have := (World.ownsRow.stored ho i r).1
  rw [rowL_set] at this
  rw [hrv]; exact this
 ·by_cases e : a = i
  ·simp only [e, if_true]; exact keepR hr
  ·simp only [e, if_false]; exact keepR (keepR0 a ha e)
 ·by_cases e : a = i
  ·have e2 : b ≠ i := by omega
   simp only [e, if_true] at hac
   simp only [e2, if_false]
   exact fun h2 => sp b hb' e2 c h2 hac
  ·simp only [e, if_false] at hac
   by_cases e2 : b = i
   ·simp only [e2, if_true]
    exact sp a ha e c hac
   ·simp only [e2, if_false]
    exact h.sep a b ha hb' hne c hac
 ·by_cases e : a = i
  ·simp only [e, if_true] at hc' ⊢; exact keep (he c hc')
  ·simp only [e, if_false] at hc' ⊢; exact keep (keep0 (h.el a c ha hc'))
end
def augM {p : Nat} (c : Nat) (A : Nat → Nat → Pol (Zp p)) : Nat → Nat → Pol (Zp p) := fun i k => if k < c then A i k else if i = k - c then 1 else 0
section
variable {p n col : Nat} {W V : Nat → Nat → Pol (Zp p)} {P : List Nat}
theorem HerI.full (h : HerI n col W P) (hP : P.length = n) {c : Nat} (hc : col ≤ c) : HerI n c W P :=
 ⟨⟨fun t ht => Nat.lt_of_lt_of_le (h.inc.1 t ht) hc, h.inc.2⟩, h.len, h.mo, h.ne, h.zer, fun i h1 h2 => by omega, h.red⟩
def CB (n M B : Nat) (W : Nat → Nat → Pol (Zp p)) : Prop := ∀ col top V, top < n → col < M → CTr n W col top V → JB n M col top B V
structure FoI (n M col top : Nat) (W : Nat → Nat → Pol (Zp p)) (V : Nat → Nat → Pol (Zp p)) (P : List Nat) : Prop where
 rq : Rq n M W V
 her : HerI n col V P
 len : P.length = top
 tr : CTr n W col top V
theorem FoI.start {M : Nat} : FoI n M 0 0 W W [] :=
 ⟨Rq.refl W, HerI.start n W, rfl, .start⟩
theorem FoI.step {M top top' : Nat} {V' : Nat → Nat → Pol (Zp p)} (h : FoI n M col top W V P) (hq : ColQ n M col top V P top' V') : ∃ P', FoI n M (col + 1) top' W V' P' := by
 rcases hq with ⟨rfl, rfl, h1⟩ | ⟨rfl, h1, h2, V1, h4, h5⟩
 ·exact ⟨P, h.rq, h1, h.len, h.tr.none⟩
 ·exact ⟨_, h.rq.trans h1, h2, by rw [List.length_append, h.len]; rfl, h.tr.step (by have h6 := h2.len; rw [List.length_append, h.len] at h6; exact h6) h4 h5⟩
theorem ctr_ab {M B top : Nat} (hB : CB n M B W) (h0 : Ab n M B W) (h : CTr n W col top V) : col ≤ M → Ab n M B V := by
 induction h with
 | start => exact fun _ => h0
 | none _ ih => exact fun hc => ih (by omega)
 | @step col top V V1 V2 h1 h2 h3 h4 ih => exact fun hc => (hB col top V h2 (by omega) h1).2 V1 top V2 (Nat.le_refl _) h3 h4
end
end Go.Proofs.Ytkmfhabgempjiaa
