/- xform: a matrix in form, with what makes it behind it. -/
import Derived.Test.YtkmfhabgempjiaaQlM9
import Derived.Test.YtkmfhabgempjiaaQlM7
namespace Go.Proofs.Ytkmfhabgempjiaa
set_option maxHeartbeats 4000000
open Go.RowKit
def RetHf (p : Nat) (w : World) (r c : Nat) (A : Nat → Nat → Pol (Zp p)) (e : Ending) (w' : World) : Prop :=
 ∃ gW rv top U E V P, e = .returned (.pointer (some ⟨gW, 0, none⟩)) ∧ Hst p w' w.heap.size gW rv top r (c + r) U E V ∧ FoI r (c + r) c top (augM c A) V P ∧ Below w.heap.size w w'
theorem FoI.full {p n M col top : Nat} {W V : Nat → Nat → Pol (Zp p)} {P : List Nat} (h : FoI n M col top W V P) (hP : top = n) {c : Nat} (hc : col ≤ c) : FoI n M c top W V P :=
 ⟨h.rq, h.her.full (h.len.trans hP) hc, h.len, h.tr.wide hc⟩
theorem rowL_cat (c r : Nat) (f h : Nat → Value) : rowL c f ++ rowL r h = rowL (c + r) fun k => if k < c then f k else h (k - c) := by
 induction r with
 | zero =>
  show rowL c f ++ [] = _
  rw [List.append_nil]; exact rowL_congr fun k hk => (if_pos (by omega)).symm
 | succ r ih =>
  have e1 : rowL (r + 1) h = rowL r h ++ [h r] := by rw [rowL_snoc]
  have e2 : (rowL (c + r + 1) fun k => if k < c then f k else h (k - c)) = (rowL (c + r) fun k => if k < c then f k else h (k - c)) ++ [h r] := by
   rw [rowL_snoc, if_neg (by omega), show c + r - c = r by omega]
  rw [e1, show c + (r + 1) = c + r + 1 by omega, e2, ← ih, List.append_assoc]
theorem row_news {w : World} {base b n cap : Nat} {e : TypeId} {U : Nat → Value} (h : w.ownsRow base e 1 (.slice (some ⟨b, 0, none⟩) n cap) n (rowL n U)) : ∀ j u, (rowL n U)[j]? = some u → w.cell? ((⟨b, 0, none⟩ : Addr).add j) = some u := by
 intro j u hj
 obtain ⟨h1, rfl⟩ := rowL_get' hj
 have e2 : (⟨b, 0, none⟩ : Addr).add j = ⟨b, j, none⟩ := by
  unfold Addr.add; split
  ·rename_i h; subst h; rfl
  ·simp
 rw [e2, World.ownsRow.cellAt h j (by omega), rowL_get h1]
theorem Hst.mono {p : Nat} {w : World} {base base' gW : Nat} {rv : Value} {top n M : Nat} {U : Nat → Value} {E : Nat → Nat → Value} {W : Nat → Nat → Pol (Zp p)} (h : Hst p w base gW rv top n M U E W) (hb : base' ≤ base) : Hst p w base' gW rv top n M U E W := ⟨h.blk, by have := h.gw; omega, h.rows.mono hb⟩
structure AgI (p : Nat) (w : World) (g gH : Nat) (rv rv2 : Value) (r c i : Nat) (A I : Nat → Nat → Pol (Zp p)) (U : Nat → Value) (E : Nat → Nat → Value) (U2 : Nat → Value) (E2 : Nat → Nat → Value) : Prop where
 blk : Blk 116 w gH [.int .u64 p, rv, .int .i64 0]
 hg : g ≤ gH
 x1 : Xr p w g rv r (fun a => if a < i then c + r else c) U E (augM c A)
 x2 : Xr p w g rv2 r (fun _ => r) U2 E2 I
 sep : ∀ b, Xbl rv r U b → ¬ Xbl rv2 r U2 b
theorem AgI.next {p : Nat} {w w' : World} {g gH : Nat} {rv rv2 : Value} {r c i : Nat} {A I : Nat → Nat → Pol (Zp p)} {U : Nat → Value} {E : Nat → Nat → Value} {U2 : Nat → Value} {E2 : Nat → Nat → Value} (h : AgI p w g gH rv rv2 r c i A I U E U2 E2) (hb : Below w.heap.size w w') : AgI p w' g gH rv rv2 r c i A I U E U2 E2 :=
 ⟨h.blk.next hb, h.hg, h.x1.next hb, h.x2.next hb, h.sep⟩
theorem AgI.step {p : Nat} {w w' : World} {g gH : Nat} {rv rv2 : Value} {r c i : Nat} {A I : Nat → Nat → Pol (Zp p)} {U : Nat → Value} {E : Nat → Nat → Value} {U2 : Nat → Value} {E2 : Nat → Nat → Value} (h : AgI p w g gH rv rv2 r c i A I U E U2 E2) (hi : i < r) (hI : ∀ a k, a < r → k < r → I a k = if a = k then 1 else 0) {gh cap : Nat} (hrv : rv = .slice (some ⟨gh, 0, none⟩) r cap) {v' : Value}
  (ho : w'.ownsRow g 43 1 v' (c + r) (rowL c (E i) ++ rowL r (E2 i))) (hg : w.grownBy w' (U i).ownBlock) (hb : v'.ownBlock = (U i).ownBlock ∨ v'.ownBlock = some w.heap.size) :
  AgI p (w'.setCell ⟨gh, i, none⟩ v') g gH rv rv2 r c (i + 1) A I (fun a => if a = i then v' else U a) (fun a => if a = i then (fun k => if k < c then E i k else E2 i (k - c)) else E a) U2 E2 := by
 rw [rowL_cat] at ho
 have hc0 := Chg.grown hg
 have hri := h.x1.row i hi
 have hS : ∀ b, b < w.heap.size → (U i).ownBlock = some b → Tyb w 43 b := fun b _ hb => (rowOwn_tyb hri hb).1
 have hoh := h.x1.own
 rw [hrv] at hoh
 have hgt : Tyb w 22 gh := (rowOwn_tyb hoh rfl).1
 have hgl : gh < w.heap.size := (rowOwn_tyb (b := gh) hoh rfl).2.2
 have keep0 : ∀ {u : Value} {q : Pol (Zp p)}, Vn p w g u q → Vn p w' g u q := fun hu => hu.chg hc0 (e := 43) hS (by decide)
 have hch : Chg w (w'.setCell ⟨gh, i, none⟩ v') (fun b => (U i).ownBlock = some b ∨ b = gh) :=
  (hc0.mono fun _ _ hb => .inl hb).trans ((Chg.setCell w' ⟨gh, i, none⟩ v').mono fun _ _ hb => .inr hb)
 refine ⟨h.blk.chg hch ?_, h.hg, (h.x1.apR hi hrv hg ho hb (R := augM c A i) fun k hk => ?_).congr (fun a ha => ?_) (fun _ _ => rfl) (fun _ _ _ _ => rfl) (fun a k _ _ => ?_), h.x2.chg hch fun b hb hs => ?_, fun b hb1 hb2 => ?_⟩
 ·rintro (hb1 | hb1)
  ·exact (h.blk.tyb.ne (rowOwn_tyb hri hb1).1 (by decide)) rfl
  ·exact (h.blk.tyb.ne hgt (by decide)) hb1
 ·by_cases hkc : k < c
  ·rw [if_pos hkc]
   exact keep0 (h.x1.el i k hi (by rw [if_neg (by omega)]; exact hkc))
  ·rw [if_neg hkc]
   have h2 := h.x2.el i (k - c) hi (by omega)
   rw [hI i (k - c) hi (by omega)] at h2
   unfold augM
   rw [if_neg hkc]
   exact keep0 h2
 ·show (if a < i + 1 then c + r else c) = if a = i then c + r else if a < i then c + r else c
  by_cases e : a = i
  ·rw [if_pos e, if_pos (by omega)]
  ·rw [if_neg e]
   by_cases e2 : a < i
   ·rw [if_pos e2, if_pos (by omega)]
   ·rw [if_neg e2, if_neg (by omega)]
 ·by_cases e : a = i
  ·rw [if_pos e, e]
  ·rw [if_neg e]
 ·rcases hs with hs | hs
  ·exact ⟨h.sep b (.inr ⟨i, hi, hs⟩), fun hu => (rowOwn_tyb hri hs).1.ne hu (by decide) rfl⟩
  ·refine ⟨h.sep b (.inl (by rw [hrv, hs]; rfl)), fun hu => ?_⟩
   exact hgt.ne hu (by decide) hs.symm
 ·rcases hb1 with hb1 | ⟨a, ha, hb1⟩
  ·exact h.sep b (.inl hb1) hb2
  ·replace hb1 : (if a = i then v' else U a).ownBlock = some b := hb1
   by_cases e : a = i
   ·rw [if_pos e] at hb1
    rcases hb with hb | hb
    ·rw [hb] at hb1; exact h.sep b (.inr ⟨i, hi, hb1⟩) hb2
    ·rw [hb] at hb1
     have := (h.x2.blk hb2).2.1
     simp at hb1; omega
   ·rw [if_neg e] at hb1
    exact h.sep b (.inr ⟨a, ha, hb1⟩) hb2
theorem aug_ab {p r c L : Nat} {xs : List (List Nat)} (hl : ∀ j, j < r * c → (xs.getD j []).length ≤ L) (hL1 : 1 ≤ L) : Ab r (c + r) L (augM c (aT p c xs)) := fun a k ha hk => by
 unfold augM
 by_cases hkc : k < c
 ·rw [if_pos hkc]; exact dlt_mono (pl_dlt p _) (hl _ (at_lt rfl ha hkc))
 ·rw [if_neg hkc]
  split
  ·exact dlt_mono (show (1 : Pol (Zp p)).dlt 1 from fun j hj => by rw [Pol.one_def, c_mon, if_neg (by omega)]) hL1
  ·exact dlt_zero _
set_option maxRecDepth 20000 in
theorem xf_formed (p : Nat) (a : Value) (r c L : Nat) (xs : List (List Nat)) (w : World) (hp : FP p) (ht : Trial p) (hA : Xm w a r c xs) (hr : r ≤ 64) (hc : c ≤ 64) (hx : xs.length = r * c) (hl : ∀ j, j < r * c → (xs.getD j []).length ≤ L) {B : Nat} (hLb : L ≤ 100000000000) (hBl : B ≤ 100000000000) (hB : CB r (c + r) B (augM c (aT p c xs))) :
  Calls Try.prog 84 #[.agg #[.int .u64 p], a] w (RetHf p w r c (aT p c xs)) := by
 obtain ⟨aA, cA, rfl⟩ := hA.agg
 obtain ⟨wb, ew, KF, KA, B0, hsz⟩ := boxes2 w 29 24 [.int .u64 p] [.int .i64 r, .int .i64 c, .slice aA xs.length cA]
 clear hsz
 replace hA := hA.next B0
 have HP := Lib.hid hp; have HTR := Lib.hid ht; have HX := Lib.hid hx; have HLL := Lib.hid hl; have HBB := Lib.hid hB; clear hp ht hx hl hB
 go_enter Try.func84, Try.ntmps84
 go_upto_region 1 with (fail)
 rw [← ew]
 obtain ⟨g, eg⟩ : ∃ g, g = w.heap.size := ⟨_, rfl⟩
 rw [← eg] at KF KA ⊢
 have EG := Lib.hid eg
 clear ew eg
 have f0 := KF.cell 0; have a0 := KA.cell 0
 go_wp2_with fail
 clear f0 a0
 refine (xm_Identity p 1 r _ HP.out hr (by omega) (by omega) (fun j => if j / r = j % r then 1 else 0) (fun i k hi hk => by
  show (if (i * r + k) / r = (i * r + k) % r then (1 : Pol (Zp p)) else 0) = _
  rw [Nat.mul_comm, Nat.mul_add_div (by omega), Nat.div_eq_of_lt hk, Nat.mul_add_mod, Nat.mod_eq_of_lt hk, Nat.add_zero])).mono ?_; rintro e w2 ⟨aI, kI, us, rfl, hQ, b2⟩
 obtain ⟨qs, hql, hqn, hqv⟩ := hQ.ns HP.out
 have hI : Xm w2 (.agg #[.int .i64 r, .int .i64 r, .slice aI (r * r) kI]) r r qs := ⟨_, rfl, hqn⟩
 have B2 := B0.trans (b2.mono B0.size)
 replace KF := KF.next b2; replace KA := KA.next b2; replace hA := hA.next b2
 clear hQ b2 hqn B0
 go_upto_region 2 with (fail)
 have KI := Blk.lit w2 24 [.int .i64 r, .int .i64 r, .slice aI (r * r) kI]
 have ba : Below w2.heap.size w2 (w2.alloc (.cells #[.int .i64 r, .int .i64 r, .slice aI (r * r) kI] 24)) := (Below.refl w2.heap.size w2).alloc (Nat.le_refl _) _
 generalize w2.alloc (.cells #[.int .i64 r, .int .i64 r, .slice aI (r * r) kI] 24) = w3 at *
 have B3 := (B2.trans (ba.mono B2.size)).trans (Drawn.below (w' := w3.drew) ⟨1, rfl⟩ w.heap.size)
 have b3 := ba.trans (Drawn.below (w' := w3.drew) ⟨1, rfl⟩ w2.heap.size)
 replace KF := KF.next b3; replace KA := KA.next b3; replace hA := hA.next b3
 replace KI := KI.drew
 replace hI := hI.next b3
 obtain ⟨gI, egI⟩ : ∃ gI, gI = w2.heap.size := ⟨_, rfl⟩
 rw [← egI] at KI ⊢
 clear ba b3 B2 egI
 have HQV := Lib.hid hqv; have HQL := Lib.hid hql; clear hqv hql
 obtain ⟨gB, egB⟩ : ∃ gB, gB = w3.drew.heap.size := ⟨_, rfl⟩
 have hgB : w.heap.size ≤ gB := by rw [egB]; exact B3.size
 have hKF : g < gB := by rw [egB]; exact KF.lt
 have hKA : g + 1 < gB := by rw [egB]; exact KA.lt
 have z0 := Lib.hid fun (w : World) (hS : Below (w3.drew).heap.size (w3.drew) w) => And.intro ((KF.at hS) 0) (And.intro ((KA.at hS) 0) (And.intro ((KA.at hS) 1) ((KA.at hS) 2)))
 refine startL (S := (fun w' => Below (w3.drew).heap.size (w3.drew) w')) (by kernel_rfl) (Below.refl _ _) (fun hHeld => ?_)
 refine tf 0 z0.out ?_
 refine tf 1 z0.out ?_
 refine tf 2 z0.out ?_
 refine on 3 fun K hK => ?_
 go_simp
 go_at_call 71
 (with_reducible refine (xf_rowsOf p _ r c xs _ HP.out (hA.next hHeld) hr hc HX.out (fun j hj => by have := HLL.out j hj; omega)).mono ?_); rintro e w5 ⟨rv, U1, E1, rfl, X1, b5⟩
 obtain ⟨arv, crv, erv⟩ := X1.slc; subst erv
 refine hK.out _ _ (hHeld.trans (b5.mono hHeld.size)) (fun hHeld => ?_)
 clear hK K
 try simp only [Act.put, zq1, zq2, zq3]
 refine tk 4 ?_
 refine on 5 fun K hK => ?_
 go_simp
 have KH := Blk.lit w5 116 [.int .u64 p, .slice arv r crv, .int .i64 0]
 have bh : Below w5.heap.size w5 (w5.alloc (.cells #[.int .u64 p, .slice arv r crv, .int .i64 0] 116)) := (Below.refl _ _).alloc (Nat.le_refl _) _
 generalize w5.alloc (.cells #[.int .u64 p, .slice arv r crv, .int .i64 0] 116) = w6 at *
 have hg5 : w3.drew.heap.size ≤ w5.heap.size := hHeld.size
 refine hK.out _ _ (hHeld.trans (bh.mono hHeld.size)) (fun hHeld => ?_)
 clear hK K
 replace X1 := X1.next bh
 try simp only [Act.put, zq1, zq2, zq3]
 refine tk 6 ?_
 clear z0; refine doneL (by kernel_rfl) ?_ _
 have B6 := B3.trans (hHeld.mono B3.size)
 rw [← egB] at X1 hg5
 replace KF := KF.next hHeld; replace KA := KA.next hHeld; replace KI := KI.next hHeld; replace hI := hI.next hHeld
 generalize w5.heap.size = gH at *
 clear hHeld hA B3
 have f0 := KF.cell 0; have i0 := KI.cell 0; have i1 := KI.cell 1; have i2 := KI.cell 2
 go_wp2_with fail
 clear f0 i0 i1 i2
 refine (xf_rowsOf p _ r r qs w6 HP.out hI hr hr HQL.out (fun j hj => by have := (HQV.out j hj).2.2; omega)).mono ?_; rintro e w7 ⟨rv2, U2, E2, rfl, X2, b7⟩
 obtain ⟨arv2, crv2, erv2⟩ := X2.slc
 subst erv2
 have B7 := B6.trans (b7.mono B6.size)
 replace KA := KA.next b7
 have hgl7 : gB ≤ w7.heap.size := by have := (KH.next b7).lt; omega
 have AG : AgI p w7 gB gH (.slice arv r crv) (.slice arv2 r crv2) r c 0 (aT p c xs) (aT p r qs) U1 E1 U2 E2 :=
  ⟨KH.next b7, hg5, (X1.next b7).congr (fun a _ => by simp) (fun _ _ => rfl) (fun _ _ _ _ => rfl) (fun a k _ hk => if_pos hk), X2.mono (by have := b7.size; have := KH.lt; omega), fun b h1 h2 => by
   have k1 := (X1.blk h1).2.1
   have k2 := (X2.blk h2).1
   omega⟩
 have HI := Lib.hid (show ∀ a k, a < r → k < r → aT p r qs a k = if a = k then 1 else 0 from fun a k ha hk => by
  have h1 := (HQV.out (a * r + k) (at_lt rfl ha hk)).2.1
  show pl p (qs.getD (a * r + k) []) = _
  rw [h1]
  show (if (a * r + k) / r = (a * r + k) % r then (1 : Pol (Zp p)) else 0) = _
  rw [Nat.mul_comm, Nat.mul_add_div (by omega), Nat.div_eq_of_lt hk, Nat.mul_add_mod, Nat.mod_eq_of_lt hk, Nat.add_zero])
 have HAG := Lib.hid AG
 clear KF KI hI KH X1 X2 b7 B6 AG
 go_wp2
 go_loopw [28] (fun iv wr => ∃ (i : Nat) (U : Nat → Value) (E : Nat → Nat → Value), i ≤ r ∧ iv = .int .i64 i ∧ AgI p wr gB gH (.slice arv r crv) (.slice arv2 r crv2) r c i (aT p c xs) (aT p r qs) U E U2 E2 ∧ Below gB w7 wr) (fun iv _ => r - (intOf iv).toNat)
 case atStart => exact ⟨0, _, _, by omega, rfl, HAG.out, Below.refl _ _⟩
 case round =>
  clear HAG
  obtain ⟨i, U, E, hi, rfl, AG, B8⟩ := hrel
  by_cases hir : i < r
  ·obtain ⟨gh, cap, e1, -⟩ := AG.x1.hdr hir
   simp only [Value.slice.injEq, true_and] at e1
   obtain ⟨rfl, rfl⟩ := e1
   obtain ⟨gh2, cap2, e1, -⟩ := AG.x2.hdr hir
   simp only [Value.slice.injEq, true_and] at e1
   obtain ⟨rfl, rfl⟩ := e1
   obtain ⟨b2, c2, eU2, -, -, -, -, -, -⟩ := AG.x2.at hir (by omega)
   obtain ⟨aU, cU, eU⟩ := AG.x1.rslc hir
   rw [if_neg (Nat.lt_irrefl i)] at eU
   have hro := AG.x1.row i hir
   rw [if_neg (Nat.lt_irrefl i), eU] at hro
   have q2 := (AG.x2.cellU hir).1
   rw [eU2] at q2
   have q1 := (AG.x1.cellU hir).1
   rw [eU] at q1
   have hro2 := AG.x2.row i hir
   rw [eU2] at hro2
   have hone : ∀ u ∈ rowL r (E2 i), u.oneCell' = true := fun u hu => by
    obtain ⟨j, hj, rfl⟩ := List.mem_map.1 hu
    exact (AG.x2.el i j hir (List.mem_range.1 hj)).one
   have HONE := Lib.hid hone
   have hbs : gB ≤ wr.heap.size := by have := B8.size; omega
   clear hone
   go_upto_region 6 with (fail)
   have bd := dw wr
   have AG6 := AG.next bd
   have KH6 := AG6.blk
   have q6 : wr.drew.cell? ⟨gh, i, none⟩ = some (.slice aU c cU) := q1
   have ho6 := rowOwn_next hro bd (Nat.le_refl _)
   have hn6 := row_news (rowOwn_next hro2 bd (Nat.le_refl _))
   have B9 := B8.trans (bd.mono hbs)
   have hbs9 : gB ≤ wr.drew.heap.size := hbs
   have hhd := AG6.x1.own
   clear bd AG B8 q1 q2 hro hro2
   have z0 := Lib.hid fun (w : World) (hS : Blk 116 w gH [.int .u64 p, .slice (some ⟨gh, 0, none⟩) r crv, .int .i64 0] ∧ w.cell? ⟨gh, i, none⟩ = some (.slice aU c cU)) => And.intro (hS.1.cell 1) (hS.2)
   refine startP (S := (fun w' => Blk 116 w' gH [.int .u64 p, .slice (some ⟨gh, 0, none⟩) r crv, .int .i64 0] ∧ w'.cell? ⟨gh, i, none⟩ = some (.slice aU c cU))) (by kernel_rfl) _ rfl rfl rfl (by kernel_rfl) ⟨KH6, q6⟩ (fun hHeld => ?_)
   refine tk 0 ?_
   refine tk 1 ?_
   refine tk 2 ?_
   refine tf 3 z0.out ?_
   refine tk 4 ?_
   refine tk 5 ?_
   refine tk 6 ?_
   refine tk 7 ?_
   refine tf 8 z0.out ?_
   refine tk 9 ?_
   refine tk 10 ?_
   refine tf 11 z0.out ?_
   refine tk 12 ?_
   refine on 13 fun K hK => ?_
   refine apWo 22 43 24 (.slice none 0 0) Try.underlying22 (by kernel_rfl) (by decide) rfl _ _ rfl wr.drew gB (.slice aU c cU) c (rowL c (E i)) ho6 hbs9 ⟨b2, 0, none⟩ r c2 (rowL r (E2 i)) rfl rfl (rowL_length _ _) hn6 HONE.out (by omega) ?_
   intro v8 w8 ho8 hb8 hg8 hv8
   have hS8 : Blk 116 w8 gH [.int .u64 p, .slice (some ⟨gh, 0, none⟩) r crv, .int .i64 0] ∧ w8.cell? ⟨gh, i, none⟩ = some (.slice aU c cU) := by
    refine ⟨KH6.chg (Chg.grown hg8) fun hb => (rowOwn_tyb ho6 hb).1.ne KH6.tyb (by decide) rfl, ?_⟩
    have h1 := World.ownsRow.cellAt (rowOwn_chgT hhd (Chg.grown hg8) (e' := 43) (fun b _ hb => (rowOwn_tyb ho6 hb).1) (by decide)) i (by omega)
    rw [rowL_get hir, eU] at h1; exact h1
   refine hK.out _ _ hS8 (fun hHeld => ?_)
   clear hK K hS8
   try simp only [Act.put, zq1, zq2, zq3]
   refine tk 14 ?_
   clear z0; refine doneL (by kernel_rfl) ?_ _
   refine lastL rfl (by rfl) ?_
   have c9 := hHeld.2
   obtain ⟨av, cv, ev⟩ : ∃ a k, v8 = .slice a (c + r) k := by
    rcases rowOwn_shape ho8 with ⟨e1, e2⟩ | ⟨_, k, e1, _⟩
    ·exact ⟨none, 0, by rw [e1, e2]⟩
    ·exact ⟨_, k, e1⟩
   subst ev
   have fz9 := World.ownsRow.frozenAt (rowOwn_chgT hhd (Chg.grown hg8) (e' := 43) (fun b _ hb => (rowOwn_tyb ho6 hb).1) (by decide)) i
   have F1 := Lib.hid (AG6.step hir HI.out rfl ho8 (by rw [eU]; exact hg8) (by rw [eU]; exact hv8))
   have F2 := Lib.hid (B9.trans (hb8.setCell (p := ⟨gh, i, none⟩) (rowOwn_tyb (b := gh) hhd rfl).2.1 (.slice av (c + r) cv)))
   clear AG6 KH6 q6 ho6 hn6 B9 hhd ho8 hb8 hg8 hv8 hHeld
   go_wp2
   go_roundw
   case rel => exact ⟨i + 1, _, _, by omega, by go_num, F1.out, F2.out⟩
   case measure => simp [intOf] <;> omega
  ·obtain rfl : i = r := by omega
   have hbs : gB ≤ wr.heap.size := by have := B8.size; omega
   have HS0 := Lib.hid (show ∃ top V P U E, Hst p wr gB gH (.slice arv i crv) top i (c + i) U E V ∧ FoI i (c + i) 0 top (augM c (aT p c xs)) V P ∧ Below gB wr wr from
    ⟨0, _, [], U, E, ⟨AG.blk, AG.hg, AG.x1.congr (fun a ha => (if_pos ha).symm) (fun _ _ => rfl) (fun _ _ _ _ => rfl) fun _ _ _ _ => rfl⟩, FoI.start, Below.refl _ _⟩)
   have KA8 := KA.below B8 hKA
   have B9 := B7.trans (B8.mono hgB)
   clear AG KA B7 B8 HI HQV HQL
   go_wp2
   obtain ⟨wA, ewA⟩ : ∃ wA, wA = wr := ⟨_, rfl⟩
   rw [← ewA] at HS0 KA8 B9 hbs ⊢
   clear ewA wr
   go_loopw [10] (fun cv wr => ∃ col : Nat, col ≤ c ∧ cv = .int .i64 col ∧ ∃ top V P U E, Hst p wr gB gH (.slice arv i crv) top i (c + i) U E V ∧ FoI i (c + i) col top (augM c (aT p c xs)) V P ∧ Below gB wA wr) (fun cv _ => c - (intOf cv).toNat)
   case atStart => exact ⟨0, Nat.zero_le _, rfl, HS0.out⟩
   case round =>
    clear HS0
    obtain ⟨col, hcc, rfl, top, V, P, U, E, H, FI, B10⟩ := hrel
    have KA9 := KA8.below B10 hKA
    have hbs10 : gB ≤ wr.heap.size := Nat.le_trans hbs B10.size
    have htr : top ≤ i := by have h1 := FI.her.len; have h2 := FI.len; omega
    by_cases hcl : col < c
    ·go_upto_region 9 with (fail)
     have bd := dw wr
     have H9 := H.next bd
     have KA10 := KA9.next bd
     have KH := H9.blk
     have B11 := B10.trans (bd.mono hbs10)
     have hbs11 : gB ≤ wr.drew.heap.size := hbs10
     clear bd H KA9 B10 hbs10
     have z0 := Lib.hid fun (w : World) (hS : Below (wr.drew).heap.size (wr.drew) w) => And.intro ((KA10.at hS) 0) (And.intro ((KA10.at hS) 1) ((KH.at hS) 2))
     refine startL (S := (fun w' => Below (wr.drew).heap.size (wr.drew) w')) (by kernel_rfl) (Below.refl _ _) (fun hHeld => ?_)
     refine tk 0 ?_
     refine tk 1 ?_
     refine tf 2 z0.out ?_
     refine tk 3 ?_
     refine tk 4 ?_
     refine tk 5 ?_
     refine tk 6 ?_
     refine tk 7 ?_
     refine tf 8 z0.out ?_
     refine tk 9 ?_
     refine tf 10 z0.out ?_
     refine tk 11 ?_
     refine tk 12 ?_
     clear z0; refine doneL (by kernel_rfl) ?_ _
     clear hHeld
     by_cases htl : top < i
     ·have h1 : decide ((top : Int) < (i : Int)) = true := decide_eq_true (by omega)
      go_wp2_with fail
      refine (xf_column p wr.drew gB gH _ top i (c + i) U E V P col B HP.out HTR.out H9 FI.len FI.her htl (by omega) hBl (by omega) (by omega) (HBB.out _ _ _ htl (by omega) FI.tr)).mono ?_; rintro e w12 ⟨rfl, top', U', E', V', H12, hq, b12⟩
      obtain ⟨P', FI'⟩ := FI.step hq
      have F1 := Lib.hid H12; have F2 := Lib.hid FI'; have F3 := Lib.hid (B11.trans b12)
      clear H9 KA10 KH B11 H12 hq b12 FI FI' hbs11
      go_wp2
      go_roundw
      case rel => exact ⟨col + 1, by omega, by go_num, _, _, _, _, _, F1.out, F2.out, F3.out⟩
      case measure => simp [intOf] <;> omega
     ·have h1 : decide ((top : Int) < (i : Int)) = false := decide_eq_false (by omega)
      have FIN := Lib.hid (show RetHf p w i c (aT p c xs) (.returned (.pointer (some ⟨gH, 0, none⟩))) wr.drew from ⟨gH, _, top, U, E, V, P, rfl, H9.mono hgB, FI.full (by omega) (by omega), B9.trans (B11.mono hgB)⟩)
      clear H9 KA10 KH B11 FI
      go_wp2
      go_ret
      exact FIN.out
    ·obtain rfl : col = c := by omega
     go_upto_region 9 with (fail)
     have bd := dw wr
     have H9 := H.next bd
     have KA10 := KA9.next bd
     have KH := H9.blk
     have B11 := B10.trans (bd.mono hbs10)
     clear bd H KA9 B10 hbs10
     refine startL (S := (fun w' => Below (wr.drew).heap.size (wr.drew) w')) (by kernel_rfl) (Below.refl _ _) (fun hHeld => ?_)
     refine tk 0 ?_
     refine tk 1 ?_
     refine tg 2 rfl (fun w hS => by have fa := KA10.at hS; have f1 := fa 0; have f2 := fa 1; clear fa; have fb := KH.at hS; have f3 := fb 2; clear fb; go_simp <;> with_reducible rfl) ?_
     refine tk 3 ?_
     refine tk 4 ?_
     refine skipL 5 rfl (by kernel_rfl) (by kernel_rfl) (by kernel_rfl) (fun _ _ _ h => h) (by rfl) (by assumption) ?_
     simp only [Act.put, zq1, zq2, zq3]
     refine skipL 6 rfl (by kernel_rfl) (by kernel_rfl) (by kernel_rfl) (fun _ _ _ h => h) (by rfl) (by assumption) ?_
     simp only [Act.put, zq1, zq2, zq3]
     refine skipL 7 rfl (by kernel_rfl) (by kernel_rfl) (by kernel_rfl) (fun _ _ _ h => h) (by rfl) (by assumption) ?_
     simp only [Act.put, zq1, zq2, zq3]
     refine skipL 8 rfl (by kernel_rfl) (by kernel_rfl) (by kernel_rfl) (fun _ _ _ h => h) (by rfl) (by assumption) ?_
     simp only [Act.put, zq1, zq2, zq3]
     refine skipL 9 rfl (by kernel_rfl) (by kernel_rfl) (by kernel_rfl) (fun _ _ _ h => h) (by rfl) (by assumption) ?_
     simp only [Act.put, zq1, zq2, zq3]
     refine skipL 10 rfl (by kernel_rfl) (by kernel_rfl) (by kernel_rfl) (fun _ _ _ h => h) (by rfl) (by assumption) ?_
     simp only [Act.put, zq1, zq2, zq3]
     refine skipL 11 rfl (by kernel_rfl) (by kernel_rfl) (by kernel_rfl) (fun _ _ _ h => h) (by rfl) (by assumption) ?_
     simp only [Act.put, zq1, zq2, zq3]
     refine tk 12 ?_
     refine doneL (by kernel_rfl) ?_ _
     clear hHeld
     have FIN := Lib.hid (show RetHf p w i col (aT p col xs) (.returned (.pointer (some ⟨gH, 0, none⟩))) wr.drew from ⟨gH, _, top, U, E, V, P, rfl, H9.mono hgB, FI, B9.trans (B11.mono hgB)⟩)
     clear H9 KA10 KH B11 FI
     go_wp2
     go_ret
     exact FIN.out
end Go.Proofs.Ytkmfhabgempjiaa
/- xform: a matrix of some columns of rows. -/
namespace Go.Proofs.Ytkmfhabgempjiaa
set_option maxHeartbeats 4000000
open Go.RowKit
def RetXq (w : World) (n d : Nat) (G : Nat → Value) (e : Ending) (w' : World) : Prop :=
 ∃ ao k, e = .returned (.agg #[.int .i64 n, .int .i64 d, .slice ao (n * d) k]) ∧ w'.ownsRow w.heap.size 43 1 (.slice ao (n * d) k) (n * d) (rowL (n * d) G) ∧ Below w.heap.size w w'
theorem rowL_grow (i d : Nat) (E : Nat → Nat → Value) : rowL (i * d) (fun j => E (j / d) (j % d)) ++ rowL d (E i) = rowL ((i + 1) * d) fun j => E (j / d) (j % d) := by
 rw [rowL_cat, Nat.succ_mul]
 refine rowL_congr fun k hk => ?_
 by_cases h : k < i * d
 ·rw [if_pos h]
 ·rw [if_neg h]
  obtain ⟨t, rfl⟩ : ∃ t, k = d * i + t := ⟨k - d * i, by rw [Nat.mul_comm d i]; omega⟩
  have ht : t < d := by rw [Nat.mul_comm d i] at hk; omega
  rw [Nat.mul_add_div (by omega), Nat.div_eq_of_lt ht, Nat.mul_add_mod, Nat.mod_eq_of_lt ht, Nat.add_zero, Nat.mul_comm i d, Nat.add_sub_cancel_left]
theorem apWo2 {P : Program} {o : Oper} {a : Act} {K : Act → World → Prop} {Q : Exit → Act → World → Prop} (T e bytes : Nat) (z0 : Value)
  (hu : P.underlying T = some (.slice e)) (hi : (P.info? e).map (fun i => (i.zero, i.size, i.bytes)) = some (some z0, 1, bytes)) (hby : bytes ≤ 32) (hz0 : z0.cells.size = 1)
  (s x : Operand) (ho : o.op = .call { callee := .builtin .append, args := #[s, x], argTypes := #[T, T] })
  (w : World) (base : Nat) (v : Value) (n : Nat) (vs : List Value) (hown : w.ownsRow base e 1 v n vs) (hbase : base ≤ w.heap.size)
  (ad : Addr) (m c : Nat) (news : List Value) (hs : a.eval s = v) (hx : a.eval x = .slice (some ad) m c)
  (hl : news.length = m) (hnews : ∀ j u, news[j]? = some u → w.cell? (ad.add j) = some u) (h1 : ∀ u ∈ news, u.oneCell' = true) (hlen : n + m ≤ 1000000000)
  (h : ∀ (v' : Value) (w' : World), w'.ownsRow base e 1 v' (n + m) (vs ++ news) → Below base w w' → (v = .slice none 0 0 → m = 0 → v' = .slice none 0 0) → K (a.put o.dst v') w') :
  Oper.wp P o a w K Q := by
 obtain ⟨i0, e1, e2, e3, e4⟩ := info_parts hi
 have hb : (n + m) * bytes ≤ (n + m) * 32 := Nat.mul_le_mul_left _ hby
 obtain ⟨v', w', hr, k1, k2, k3, _⟩ := run_append_own_at (P := P) w base T o.type e i0 z0 1 bytes hu e1 e2 e3 e4 hz0 (by decide) v n vs hown ad m c news (by rw [hl, Nat.mul_one]) hnews h1 (by unfold maxLen; omega) (by omega) hbase
 unfold Oper.wp execOp
 simp only [ho, resolve, invoke, builtin, Sem.run_bind, Sem.run_pure, Result.andThen_ok, List.map_toArray, List.map_cons, List.map_nil, hs, hx, hr]
 exact h v' w' k1 (below_grown k2 hbase fun k hk => (World.ownsRow.lt hown k hk).1) fun h1 h2 => k3.2 ⟨h1, h2⟩
theorem apNN {P : Program} {o : Oper} {a : Act} {w : World} {K : Act → World → Prop} {Q : Exit → Act → World → Prop} (T e bytes : Nat) (z0 : Value)
  (hu : P.underlying T = some (.slice e)) (hi : (P.info? e).map (fun i => (i.zero, i.size, i.bytes)) = some (some z0, 1, bytes))
  (s x : Operand) (ho : o.op = .call { callee := .builtin .append, args := #[s, x], argTypes := #[T, T] })
  (hs : a.eval s = .slice none 0 0) (hx : a.eval x = .slice none 0 0) (h : K (a.put o.dst (.slice none 0 0)) w) : Oper.wp P o a w K Q := by
 obtain ⟨i0, e1, e2, e3, e4⟩ := info_parts hi
 have hr : (Builtin.append_ #[T, T] o.type #[.slice none 0 0, .slice none 0 0]).run P w = .ok (.slice none 0 0) w := by
  simp [Builtin.append_, run_underlying hu, sizeOf, typeInfo, e1, Builtin.lenOf, Builtin.firstCells]
 unfold Oper.wp execOp
 simp only [ho, resolve, invoke, builtin, Sem.run_bind, Sem.run_pure, Result.andThen_ok, List.map_toArray, List.map_cons, List.map_nil, hs, hx, hr]
 exact h
set_option maxRecDepth 20000 in
theorem xf_matrix (p : Nat) (w : World) (base : Nat) (rv : Value) (n M fr d : Nat) (U : Nat → Value) (E : Nat → Nat → Value) (W : Nat → Nat → Pol (Zp p)) (h : Xr p w base rv n (fun _ => M) U E W) (hft : fr + d ≤ M) (hM : M ≤ 1000) (hn : n ≤ 1000) :
  Calls Try.prog 73 #[rv, .int .i64 fr, .int .i64 ((fr + d : Nat) : Int)] w (RetXq w n d fun j => E (j / d) (fr + j % d)) := by
 obtain ⟨arv, crv, rfl⟩ := h.slc
 have hfd : ((fr + d : Nat) : Int) - (fr : Int) = (d : Int) := by omega
 obtain ⟨tt, ett⟩ : ∃ tt, tt = fr + d := ⟨_, rfl⟩
 rw [← ett] at hfd ⊢
 have ETT := Lib.hid ett
 clear ett
 obtain ⟨wb, ew, KR, KM, B0, hsz⟩ := boxes2 w 24 24 [.int .i64 0, .int .i64 0, .slice none 0 0] [.int .i64 n, .int .i64 d, .slice none 0 0]
 go_enter Try.func73, Try.ntmps73
 go_upto_region 2 with (fail)
 try rw [hfd]
 rw [← ew]
 obtain ⟨g, eg⟩ : ∃ g, g = w.heap.size := ⟨_, rfl⟩
 rw [← eg] at KR KM hsz ⊢
 have hgb : g + 1 + 1 = wb.heap.size := hsz.symm
 have XB := h.next B0
 have EG := Lib.hid eg
 have st : ∃ ao k, (d = 0 → (.slice ao (0 * d) k : Value) = .slice none 0 0) ∧ Blk 24 wb (g + 1) [.int .i64 n, .int .i64 d, .slice ao (0 * d) k] ∧ Blk 24 wb g [.int .i64 0, .int .i64 0, .slice none 0 0] ∧ wb.ownsRow (g + 1 + 1) 43 1 (.slice ao (0 * d) k) (0 * d) (rowL (0 * d) fun j => E (j / d) (fr + j % d)) ∧ Below w.heap.size w wb :=
  ⟨none, 0, fun _ => by rw [Nat.zero_mul], by rw [Nat.zero_mul]; exact KM, KR, by rw [Nat.zero_mul]; exact World.ownsRow_nil _ _ _ _, B0⟩
 have ST := Lib.hid st
 clear ew hsz KR KM B0 st XB eg hgb
 go_wp2
 go_loopw [18] (fun iv wr => ∃ i : Nat, i ≤ n ∧ iv = .int .i64 i ∧ ∃ ao k, (d = 0 → (.slice ao (i * d) k : Value) = .slice none 0 0) ∧ Blk 24 wr (g + 1) [.int .i64 n, .int .i64 d, .slice ao (i * d) k] ∧ Blk 24 wr g [.int .i64 0, .int .i64 0, .slice none 0 0] ∧ wr.ownsRow (g + 1 + 1) 43 1 (.slice ao (i * d) k) (i * d) (rowL (i * d) fun j => E (j / d) (fr + j % d)) ∧ Below w.heap.size w wr) (fun iv _ => n - (intOf iv).toNat)
 case atStart => exact ⟨0, Nat.zero_le _, rfl, ST.out⟩
 case round =>
  clear ST
  obtain ⟨i, hi, rfl, ao, k, hnn, K1, K0, ho, B0⟩ := hrel
  by_cases hin : i < n
  ·have X := h.next B0
   obtain ⟨gh, cap, e1, -⟩ := X.hdr hin
   simp only [Value.slice.injEq, true_and] at e1
   obtain ⟨rfl, rfl⟩ := e1
   have q1 := (X.cellU hin).1
   have hr := X.row i hin
   rcases rowOwn_shape hr with ⟨eU, eM⟩ | ⟨b, cb, eU, -, -, hcb⟩
   ·obtain ⟨rfl, rfl, rfl⟩ : M = 0 ∧ fr = 0 ∧ d = 0 := by omega
    obtain rfl : tt = 0 := by have := ETT.out; omega
    rw [eU] at q1
    have hgw : g + 1 + 1 ≤ wr.heap.size := by have := K1.lt; omega
    have hnn0 := hnn rfl
    simp only [Nat.mul_zero] at K1 ho hnn0
    obtain ⟨rfl, rfl⟩ : ao = none ∧ k = 0 := by
     simpa using hnn0
    clear X hr
    go_upto_region 5 with (fail)
    have bd := dw wr
    replace K1 := K1.next bd; replace K0 := K0.next bd
    have ho5 := rowOwn_next ho bd (Nat.le_refl _)
    have B5 := B0.trans (bd.mono B0.size)
    have hgw5 : g + 1 + 1 ≤ wr.drew.heap.size := hgw
    clear bd q1 ho B0
    refine startP (S := (fun w' => Below (g + 1 + 1) wr.drew w')) (by kernel_rfl) _ rfl rfl rfl (by kernel_rfl) (Below.refl _ _) (fun hHeld => ?_)
    refine tk 0 ?_
    refine tg 1 rfl (fun w hS => by have f1 := (K1.below hS (Nat.lt_succ_self _)).cell 2; go_simp <;> with_reducible rfl) ?_
    refine tk 2 ?_
    refine tk 3 ?_
    refine tk 4 ?_
    refine tk 5 ?_
    refine on 6 fun K hK => ?_
    refine apNN 22 43 24 (.slice none 0 0) Try.underlying22 (by kernel_rfl) _ _ rfl rfl (by go_simp) ?_
    refine hK.out _ _ hHeld (fun hHeld => ?_)
    clear hK K
    try simp only [Act.put, zq1, zq2, zq3]
    refine tk 7 ?_
    refine doneL (by kernel_rfl) ?_ _
    refine lastL rfl (by rfl) ?_
    have f2 := (K1.below hHeld (by omega)).free 2
    have c2 := (K1.below hHeld (by omega)).cell 2
    have F1 := Lib.hid ((K1.below hHeld (by omega)).set 2 (.slice none 0 0))
    have F2 := Lib.hid ((K0.below hHeld (by omega)).far (a := ⟨g + 1, 2, none⟩) (by simp) (.slice none 0 0))
    have F3 := Lib.hid (World.ownsRow_nil (wr.drew.setCell ⟨g + 1, 2, none⟩ (.slice none 0 0)) (g + 1 + 1) 43 1)
    have F4 := Lib.hid ((B5.trans (hHeld.mono (by have := EG.out; omega))).setCell (p := ⟨g + 1, 2, none⟩) (show w.heap.size ≤ g + 1 by have := EG.out; omega) (.slice none 0 0))
    clear K1 K0 ho5 B5 hHeld hnn
    go_wp2
    go_roundw
    case rel => exact ⟨i + 1, by omega, by go_num, none, 0, fun _ => rfl, F1.out, F2.out, F3.out, F4.out⟩
    case measure => simp [intOf] <;> omega
   rw [eU] at q1 hr
   have hcr : ∀ j, j < M → wr.cell? ⟨b, 0 + j, none⟩ = some (E i j) := fun j hj => by rw [Nat.zero_add, World.ownsRow.cellAt hr j (by omega), rowL_get hj]
   have HNW := Lib.hid (show ∀ j u, (rowL d fun j => E i (fr + j))[j]? = some u → wr.drew.cell? ((⟨b, if cb = fr then 0 else fr, none⟩ : Addr).add j) = some u from fun j u hj => by
    by_cases e : cb = fr
    ·obtain ⟨hj2, -⟩ := rowL_get' hj
     omega
    ·rw [if_neg e]
     have := win_news (w := wr) hcr fr d hft j u hj
     rwa [Nat.zero_add] at this)
   have HONE := Lib.hid (show ∀ u ∈ rowL d fun j => E i (fr + j), u.oneCell' = true from fun u hu => by
    obtain ⟨j, hj, rfl⟩ := List.mem_map.1 hu
    exact (X.el i (fr + j) hin (by have := List.mem_range.1 hj; omega)).one)
   have hs1 : (0 : Int) ≤ (fr : Int) := Int.natCast_nonneg _
   have hs2 : (fr : Int) ≤ (tt : Int) := by have := ETT.out; omega
   have hs3 : (tt : Int) ≤ (cb : Int) := by have := ETT.out; omega
   have hgw : g + 1 + 1 ≤ wr.heap.size := by have := K1.lt; omega
   have hid2 : i * d ≤ 1000000 := Nat.le_trans (Nat.mul_le_mul (show i ≤ 1000 by omega) (show d ≤ 1000 by omega)) (by decide)
   clear X hr hcr
   go_upto_region 5 with (fail)
   have bd := dw wr
   replace K1 := K1.next bd; replace K0 := K0.next bd
   have ho5 := rowOwn_next ho bd (Nat.le_refl _)
   have B5 := B0.trans (bd.mono B0.size)
   have hgw5 : g + 1 + 1 ≤ wr.drew.heap.size := hgw
   clear bd q1 ho B0
   refine startP (S := (fun w' => Below (g + 1 + 1) wr.drew w')) (by kernel_rfl) _ rfl rfl rfl (by kernel_rfl) (Below.refl _ _) (fun hHeld => ?_)
   refine tk 0 ?_
   refine tg 1 rfl (fun w hS => by have f1 := (K1.below hS (Nat.lt_succ_self _)).cell 2; go_simp <;> with_reducible rfl) ?_
   refine tk 2 ?_
   refine tk 3 ?_
   refine tk 4 ?_
   refine tk 5 ?_
   refine on 6 fun K hK => ?_
   refine apWo2 22 43 24 (.slice none 0 0) Try.underlying22 (by kernel_rfl) (by decide) rfl _ _ rfl wr.drew (g + 1 + 1) (.slice ao (i * d) k) (i * d) (rowL (i * d) fun j => E (j / d) (fr + j % d)) ho5 hgw5 ⟨b, if cb = fr then 0 else fr, none⟩ d (cb - fr) (rowL d fun j => E i (fr + j)) rfl ?_ (rowL_length _ _) HNW.out HONE.out (by omega) ?_
   ·have := ETT.out
    by_cases e : cb = fr
    ·go_simp
    ·go_simp
   intro v8 w8 ho8 hb8 hn8
   refine hK.out _ _ hb8 (fun hHeld => ?_)
   clear hK K
   try simp only [Act.put, zq1, zq2, zq3]
   refine tk 7 ?_
   refine doneL (by kernel_rfl) ?_ _
   refine lastL rfl (by rfl) ?_
   have f2 := (K1.below hHeld (by omega)).free 2
   have c2 := (K1.below hHeld (by omega)).cell 2
   obtain ⟨av, cv, ev⟩ : ∃ a k, v8 = .slice a (i * d + d) k := by
    rcases rowOwn_shape ho8 with ⟨e1, e2⟩ | ⟨_, k, e1, _⟩
    ·exact ⟨none, 0, by rw [e1, e2]⟩
    ·exact ⟨_, k, e1⟩
   subst ev
   rw [show (rowL (i * d) fun j => E (j / d) (fr + j % d)) ++ (rowL d fun j => E i (fr + j)) = rowL ((i + 1) * d) fun j => E (j / d) (fr + j % d) from rowL_grow i d fun a b => E a (fr + b), ← Nat.succ_mul] at ho8
   have e8 : (i + 1) * d = i * d + d := Nat.succ_mul i d
   have F0 := Lib.hid (show d = 0 → (.slice av ((i + 1) * d) cv : Value) = .slice none 0 0 from fun hd0 => by
    rw [e8]; exact hn8 (hnn hd0) hd0)
   have F1 := Lib.hid (show Blk 24 (w8.setCell ⟨g + 1, 2, none⟩ (.slice av (i * d + d) cv)) (g + 1) [.int .i64 n, .int .i64 d, .slice av ((i + 1) * d) cv] by rw [e8]; exact (K1.below hHeld (by omega)).set 2 (.slice av (i * d + d) cv))
   have F2 := Lib.hid ((K0.below hHeld (by omega)).far (a := ⟨g + 1, 2, none⟩) (by simp) (.slice av (i * d + d) cv))
   have F3 := Lib.hid (show (w8.setCell ⟨g + 1, 2, none⟩ (.slice av (i * d + d) cv)).ownsRow (g + 1 + 1) 43 1 (.slice av ((i + 1) * d) cv) ((i + 1) * d) (rowL ((i + 1) * d) fun j => E (j / d) (fr + j % d)) from by
    have := ownsRow_setCell_below ho8 (a := ⟨g + 1, 2, none⟩) (Nat.lt_succ_self _) (.slice av (i * d + d) cv)
    rwa [← e8] at this ⊢)
   have F4 := Lib.hid ((B5.trans (hHeld.mono (by have := EG.out; omega))).setCell (p := ⟨g + 1, 2, none⟩) (show w.heap.size ≤ g + 1 by have := EG.out; omega) (.slice av (i * d + d) cv))
   clear K1 K0 ho5 B5 ho8 hb8 hHeld e8 hn8 hnn
   go_wp2
   go_roundw
   case rel => exact ⟨i + 1, by omega, by go_num, _, _, F0.out, F1.out, F2.out, F3.out, F4.out⟩
   case measure => simp [intOf] <;> omega
  ·obtain rfl : i = n := by omega
   have c0 := K1.cell 0; have c1 := K1.cell 1; have c2 := K1.cell 2
   have e0 := K0.cell 0; have e1 := K0.cell 1; have e2 := K0.cell 2
   have f0 := K0.free 0; have f1 := K0.free 1; have f2 := K0.free 2
   have KF := ((K0.set 0 (.int .i64 i)).set 1 (.int .i64 d)).set 2 (.slice ao (i * d) k)
   have d0 := KF.cell 0; have d1 := KF.cell 1; have d2 := KF.cell 2
   have hlt : g < g + 1 + 1 := by omega
   have hof := ownsRow_setCell_below (ownsRow_setCell_below (ownsRow_setCell_below ho (a := ⟨g, 0, none⟩) hlt (.int .i64 i)) (a := ⟨g, 1, none⟩) hlt (.int .i64 d)) (a := ⟨g, 2, none⟩) hlt (.slice ao (i * d) k)
   have hgw2 : w.heap.size ≤ g := by have := EG.out; omega
   have BF := ((B0.setCell (p := ⟨g, 0, none⟩) hgw2 (.int .i64 i)).setCell (p := ⟨g, 1, none⟩) hgw2 (.int .i64 d)).setCell (p := ⟨g, 2, none⟩) hgw2 (.slice ao (i * d) k)
   have FR := Lib.hid (show RetXq w i d (fun j => E (j / d) (fr + j % d)) (.returned (.agg #[.int .i64 i, .int .i64 d, .slice ao (i * d) k])) (((wr.setCell ⟨g, 0, none⟩ (.int .i64 i)).setCell ⟨g, 1, none⟩ (.int .i64 d)).setCell ⟨g, 2, none⟩ (.slice ao (i * d) k)) from ⟨ao, k, rfl, rowOwn_mono hof (by have := EG.out; omega), BF⟩)
   clear KF K1 K0 hof BF ho B0 hnn
   go_wp2
   exact bodyPost_ret (v := .agg #[.int .i64 i, .int .i64 d, .slice ao (i * d) k]) (by simp [results, Try.results73, go_sem, d0, d1, d2]) rfl FR.out
end Go.Proofs.Ytkmfhabgempjiaa
/- xform: Hermite, Rank. -/
namespace Go.Proofs.Ytkmfhabgempjiaa
set_option maxHeartbeats 4000000
open Go.RowKit
def RetX2 (p : Nat) (w : World) (r1 c1 r2 c2 L : Nat) (A B : Nat → Pol (Zp p)) (e : Ending) (w' : World) : Prop :=
 ∃ ao k us ao' k' us', e = .returned (.tuple #[.agg #[.int .i64 r1, .int .i64 c1, .slice ao (r1 * c1) k], .agg #[.int .i64 r2, .int .i64 c2, .slice ao' (r2 * c2) k'], .int .i64 0]) ∧ Qls p w' w.heap.size (.slice ao (r1 * c1) k) us (r1 * c1) L A ∧ Qls p w' w.heap.size (.slice ao' (r2 * c2) k') us' (r2 * c2) L B ∧ Below w.heap.size w w'
theorem qls_of {p : Nat} {w : World} {base base0 n M fr d L : Nat} {rv v : Value} {U : Nat → Value} {E : Nat → Nat → Value} {W : Nat → Nat → Pol (Zp p)} (hp : 0 < p) (X : Xr p w base rv n (fun _ => M) U E W) (hft : fr + d ≤ M) (hb : ∀ i k, i < n → k < M → (W i k).dlt L) (ho : w.ownsRow base0 43 1 v (n * d) (rowL (n * d) fun j => E (j / d) (fr + j % d))) (h0 : base0 ≤ base) :
  Qls p w base0 v (rowL (n * d) fun j => E (j / d) (fr + j % d)) (n * d) L (fun j => W (j / d) (fr + j % d)) := by
 refine ⟨ho, rowL_length _ _, fun j u hj => ?_⟩
 obtain ⟨h1, rfl⟩ := rowL_get' hj
 have hd : 0 < d := Nat.pos_of_ne_zero fun e => by rw [e, Nat.mul_zero] at h1; omega
 have h2 : j / d < n := Nat.div_lt_of_lt_mul (by rwa [Nat.mul_comm] at h1)
 have h3 := Nat.mod_lt j hd
 obtain ⟨zs, k1, k2, k3⟩ := X.el (j / d) (fr + j % d) h2 (by omega)
 exact ⟨zs, k1.mono h0, k2, k3, nrm_len hp k2 (by rw [k3]; exact hb _ _ h2 (by omega))⟩
theorem xf_matrixE (p : Nat) (w : World) (base : Nat) (rv : Value) (n M fr d : Nat) (U : Nat → Value) (E : Nat → Nat → Value) (W : Nat → Nat → Pol (Zp p)) (ff tt : Int) (h : Xr p w base rv n (fun _ => M) U E W) (hf : ff = fr) (ht : tt = ((fr + d : Nat) : Int)) (hft : fr + d ≤ M) (hM : M ≤ 1000) (hn : n ≤ 1000) :
  Calls Try.prog 73 #[rv, .int .i64 ff, .int .i64 tt] w (RetXq w n d fun j => E (j / d) (fr + j % d)) := by
 subst hf ht; exact xf_matrix p w base rv n M fr d U E W h hft hM hn
set_option maxRecDepth 20000 in
theorem xf_Hermite (p : Nat) (a : Value) (r c L : Nat) (xs : List (List Nat)) (w : World) (hp : FP p) (ht : Trial p) (hA : Xm w a r c xs) (hr : r ≤ 64) (hc : c ≤ 64) (hx : xs.length = r * c) (hl : ∀ j, j < r * c → (xs.getD j []).length ≤ L) {B : Nat} (hL1 : 1 ≤ L) (hLb : L ≤ 100000000000) (hBl : B ≤ 100000000000) (hLB : L ≤ B) (hB : CB r (c + r) B (augM c (aT p c xs))) :
  Calls Try.prog 31 #[.agg #[.int .u64 p], a] w (fun e w' => ∃ V P top, FoI r (c + r) c top (augM c (aT p c xs)) V P ∧ RetX2 p w r c r r B (fun j => V (j / c) (0 + j % c)) (fun j => V (j / r) (c + j % r)) e w') := by
 have HFd := Lib.hid (Fd.of hr hc hx)
 obtain ⟨aA, cA, rfl⟩ := hA.agg
 obtain ⟨wb, ew, KF, KA, KH, KU, B0, hsz⟩ := boxes4 w 29 24 24 24 [.int .u64 p] [.int .i64 r, .int .i64 c, .slice aA xs.length cA] [.int .i64 0, .int .i64 0, .slice none 0 0] [.int .i64 0, .int .i64 0, .slice none 0 0]
 clear hsz
 replace hA := hA.next B0
 have HP := Lib.hid hp; have HTR := Lib.hid ht; have HX := Lib.hid hx; have HLL := Lib.hid hl; have HBB := Lib.hid hB; clear hp ht hx hl hB
 obtain ⟨PQ, ePQ⟩ : ∃ PQ : Ending → World → Prop, PQ = fun e w' => ∃ V P top, FoI r (c + r) c top (augM c (aT p c xs)) V P ∧ RetX2 p w r c r r B (fun j => V (j / c) (0 + j % c)) (fun j => V (j / r) (c + j % r)) e w' := ⟨_, rfl⟩
 rw [← ePQ]
 have EPQ := Lib.hid ePQ; clear ePQ
 go_enter Try.func31, Try.ntmps31
 go_upto_region 1 with (fail)
 rw [← ew]
 obtain ⟨g, eg⟩ : ∃ g, g = w.heap.size := ⟨_, rfl⟩
 rw [← eg] at KF KA KH KU ⊢
 have EG := Lib.hid eg
 clear ew eg
 have a0 := KA.cell 0; have a1 := KA.cell 1; have a2 := KA.cell 2
 go_wp2_with fail
 refine (xm_Formed_yes _ r c xs _ hA HFd.out).mono ?_; rintro e w1 ⟨rfl, b1⟩
 clear a0 a1 a2
 replace KF := KF.next b1; replace KA := KA.next b1; replace KH := KH.next b1; replace KU := KU.next b1; replace hA := hA.next b1
 have B1 := B0.trans (b1.mono B0.size)
 have f0 := KF.cell 0; have a0 := KA.cell 0; have a1 := KA.cell 1; have a2 := KA.cell 2
 clear b1 B0
 go_wp2_with fail
 refine (xf_formed p _ r c L xs w1 HP.out HTR.out hA hr hc HX.out HLL.out hLb hBl HBB.out).mono ?_; rintro e w2 ⟨gW, rv, top, U, E, V, P, rfl, HH, FI, b2⟩
 clear f0 a0 a1 a2 hA KF
 have hgl := KU.lt
 have hw12 := b2.size
 replace KA := KA.next b2; replace KH := KH.next b2; replace KU := KU.next b2
 have B2 := B1.trans (b2.mono B1.size)
 clear B1 b2
 go_upto_region 4 with (fail)
 have bd := dw w2
 replace KA := KA.next bd; replace KH := KH.next bd; replace KU := KU.next bd
 replace HH := HH.next bd
 have B4 := B2.trans (bd.mono B2.size)
 have hw12' : w1.heap.size ≤ w2.drew.heap.size := hw12
 have hgW2 : gW ≠ g + 1 + 1 := by have := HH.gw; omega
 have hgW3 : gW ≠ g + 1 + 1 + 1 := by have := HH.gw; omega
 have hg12 : g + 1 ≠ g + 1 + 1 := by omega
 have hg13 : g + 1 ≠ g + 1 + 1 + 1 := by omega
 have HWC := Lib.hid (show IntKind.i64.wrap ((c : Int) + (r : Int)) = ((c + r : Nat) : Int) by rw [IntWalk.i64_in _ ⟨by omega, by omega⟩]; omega)
 have KW := HH.blk
 have X4 := HH.rows
 clear bd B2
 have z0 := Lib.hid fun (w : World) (hS : Blk 116 w gW [.int .u64 p, rv, .int .i64 top] ∧ Blk 24 w (g + 1) [.int .i64 r, .int .i64 c, .slice aA xs.length cA]) => And.intro (hS.1.cell 1) (And.intro (hS.2.cell 0) (hS.2.cell 1))
 refine startL (S := (fun w' => Blk 116 w' gW [.int .u64 p, rv, .int .i64 top] ∧ Blk 24 w' (g + 1) [.int .i64 r, .int .i64 c, .slice aA xs.length cA])) (by kernel_rfl) ⟨KW, KA⟩ (fun hHeld => ?_)
 refine tk 0 ?_
 refine tk 1 ?_
 refine tk 2 ?_
 refine tf 3 z0.out ?_
 refine tk 4 ?_
 refine tf 5 z0.out ?_
 refine tk 7 ?_
 refine tk 8 ?_
 refine tk 9 ?_
 refine tf 10 z0.out ?_
 refine tk 11 ?_
 refine tf 12 z0.out ?_
 refine tk 13 ?_
 refine tf 14 z0.out ?_
 refine tk 15 ?_
 refine tf 16 z0.out ?_
 refine tk 17 ?_
 refine on 6 fun K hK => ?_
 go_simp
 go_at_call 73
 (with_reducible refine (xf_matrixE p _ _ rv r (c + r) 0 c U E V 0 (c : Int) X4 rfl (by omega) (by omega) (by omega) (by omega)).mono ?_); rintro e w5 ⟨aH, kH, rfl, q1, b5⟩
 refine hK.out _ _ (⟨hHeld.1.next b5, hHeld.2.next b5⟩) (fun hHeld => ?_)
 clear hK K
 try simp only [Act.put, zq1, zq2, zq3]
 refine on 18 fun K hK => ?_
 go_simp
 go_at_call 73
 (with_reducible refine (xf_matrixE p _ _ rv r (c + r) c r U E V (c : Int) (IntKind.i64.wrap ((c : Int) + (r : Int))) (X4.next b5) rfl HWC.out (by omega) (by omega) (by omega)).mono ?_); rintro e w6 ⟨aU, kU, rfl, q2, b6⟩
 refine hK.out _ _ (⟨hHeld.1.next b6, hHeld.2.next b6⟩) (fun hHeld => ?_)
 clear hK K
 try simp only [Act.put, zq1, zq2, zq3]
 refine on 19 fun K hK => ?_
 have B6 := (B4.trans (b5.mono B4.size)).trans (b6.mono (Nat.le_trans B4.size b5.size))
 have KH6 := (KH.next b5).next b6; have KU6 := (KU.next b5).next b6
 have X6 := (X4.next b5).next b6
 have e0 := KH6.cell 0; have e1 := KH6.cell 1; have e2 := KH6.cell 2
 have f0 := KH6.free 0; have f1 := KH6.free 1; have f2 := KH6.free 2
 have h0 := KU6.cell 0; have h1 := KU6.cell 1; have h2 := KU6.cell 2
 have i0 := KU6.free 0; have i1 := KU6.free 1; have i2 := KU6.free 2
 have K7 := ((KH6.set 0 (.int .i64 r)).set 1 (.int .i64 c)).set 2 (.slice aH (r * c) kH)
 have U7 := ((KU6.far (a := ⟨g + 1 + 1, 0, none⟩) (by simp) (.int .i64 r)).far (a := ⟨g + 1 + 1, 1, none⟩) (by simp) (.int .i64 c)).far (a := ⟨g + 1 + 1, 2, none⟩) (by simp) (.slice aH (r * c) kH)
 have K8 := ((K7.far (a := ⟨g + 1 + 1 + 1, 0, none⟩) (by simp) (.int .i64 r)).far (a := ⟨g + 1 + 1 + 1, 1, none⟩) (by simp) (.int .i64 r)).far (a := ⟨g + 1 + 1 + 1, 2, none⟩) (by simp) (.slice aU (r * r) kU)
 have U8 := ((U7.set 0 (.int .i64 r)).set 1 (.int .i64 r)).set 2 (.slice aU (r * r) kU)
 have d0 := K8.cell 0; have d1 := K8.cell 1; have d2 := K8.cell 2
 have d3 := U8.cell 0; have d4 := U8.cell 1; have d5 := U8.cell 2
 have hwg : w.heap.size ≤ g := by have := EG.out; omega
 have hbb : ∀ i k, i < r → k < c + r → (V i k).dlt B := ctr_ab HBB.out (fun a k ha hk => dlt_mono (aug_ab HLL.out hL1 a k ha hk) hLB) FI.tr (by omega)
 have Q1 := qls_of HP.out.pos X6 (show 0 + c ≤ c + r by omega) hbb (rowOwn_mono (rowOwn_next q1 b6 (Nat.le_refl _)) hw12') (Nat.le_refl _)
 have Q2 := qls_of HP.out.pos X6 (show c + r ≤ c + r by omega) hbb (rowOwn_mono q2 (Nat.le_trans hw12' b5.size)) (Nat.le_refl _)
 have l1 : g + 1 + 1 < w1.heap.size := by omega
 have hww : w.heap.size ≤ w1.heap.size := by omega
 have FIN := Lib.hid (show PQ (.returned (.tuple #[.agg #[.int .i64 r, .int .i64 c, .slice aH (r * c) kH], .agg #[.int .i64 r, .int .i64 r, .slice aU (r * r) kU], .int .i64 0])) ((((((w6.setCell ⟨g + 1 + 1, 0, none⟩ (.int .i64 r)).setCell ⟨g + 1 + 1, 1, none⟩ (.int .i64 c)).setCell ⟨g + 1 + 1, 2, none⟩ (.slice aH (r * c) kH)).setCell ⟨g + 1 + 1 + 1, 0, none⟩ (.int .i64 r)).setCell ⟨g + 1 + 1 + 1, 1, none⟩ (.int .i64 r)).setCell ⟨g + 1 + 1 + 1, 2, none⟩ (.slice aU (r * r) kU)) by
  rw [EPQ.out]
  exact ⟨V, P, top, FI, aH, kH, _, aU, kU, _, rfl,
   ((((((Q1.low (a := ⟨g + 1 + 1, 0, none⟩) l1 _).low (a := ⟨g + 1 + 1, 1, none⟩) l1 _).low (a := ⟨g + 1 + 1, 2, none⟩) l1 _).low (a := ⟨g + 1 + 1 + 1, 0, none⟩) hgl _).low (a := ⟨g + 1 + 1 + 1, 1, none⟩) hgl _).low (a := ⟨g + 1 + 1 + 1, 2, none⟩) hgl _).mono hww,
   ((((((Q2.low (a := ⟨g + 1 + 1, 0, none⟩) l1 _).low (a := ⟨g + 1 + 1, 1, none⟩) l1 _).low (a := ⟨g + 1 + 1, 2, none⟩) l1 _).low (a := ⟨g + 1 + 1 + 1, 0, none⟩) hgl _).low (a := ⟨g + 1 + 1 + 1, 1, none⟩) hgl _).low (a := ⟨g + 1 + 1 + 1, 2, none⟩) hgl _).mono hww,
   (((((B6.setCell (p := ⟨g + 1 + 1, 0, none⟩) (by simp; omega) _).setCell (p := ⟨g + 1 + 1, 1, none⟩) (by simp; omega) _).setCell (p := ⟨g + 1 + 1, 2, none⟩) (by simp; omega) _).setCell (p := ⟨g + 1 + 1 + 1, 0, none⟩) (by simp; omega) _).setCell (p := ⟨g + 1 + 1 + 1, 1, none⟩) (by simp; omega) _).setCell (p := ⟨g + 1 + 1 + 1, 2, none⟩) (by simp; omega) _⟩)
 clear Q1 Q2 K7 U7 K8 U8 KH6 KU6 X6 X4 HH KW B6 B4 FI hbb
 go_simp
 refine hK.out _ _ ⟨((hHeld.1.far (a := ⟨g + 1 + 1, 0, none⟩) hgW2 _).far (a := ⟨g + 1 + 1, 1, none⟩) hgW2 _).far (a := ⟨g + 1 + 1, 2, none⟩) hgW2 _, ((hHeld.2.far (a := ⟨g + 1 + 1, 0, none⟩) hg12 _).far (a := ⟨g + 1 + 1, 1, none⟩) hg12 _).far (a := ⟨g + 1 + 1, 2, none⟩) hg12 _⟩ (fun hHeld => ?_)
 clear hK K e0 e1 e2 f0 f1 f2
 try simp only [Act.put, zq1, zq2, zq3]
 refine on 20 fun K hK => ?_
 go_simp
 refine hK.out _ _ ⟨((hHeld.1.far (a := ⟨g + 1 + 1 + 1, 0, none⟩) hgW3 _).far (a := ⟨g + 1 + 1 + 1, 1, none⟩) hgW3 _).far (a := ⟨g + 1 + 1 + 1, 2, none⟩) hgW3 _, ((hHeld.2.far (a := ⟨g + 1 + 1 + 1, 0, none⟩) hg13 _).far (a := ⟨g + 1 + 1 + 1, 1, none⟩) hg13 _).far (a := ⟨g + 1 + 1 + 1, 2, none⟩) hg13 _⟩ (fun hHeld => ?_)
 clear hK K
 try simp only [Act.put, zq1, zq2, zq3]
 refine tk 21 ?_
 clear z0; refine doneL (by kernel_rfl) ?_ _
 clear KA KH KU hHeld q1 q2
 go_wp2
 exact bodyPost_ret (v := .tuple #[.agg #[.int .i64 r, .int .i64 c, .slice aH (r * c) kH], .agg #[.int .i64 r, .int .i64 r, .slice aU (r * r) kU], .int .i64 0]) (by simp [results, Try.results31, go_sem, d0, d1, d2, d3, d4, d5]) rfl FIN.out
end Go.Proofs.Ytkmfhabgempjiaa
/- xform: rows in a range of blocks; a multiple of a row is added to another one. -/
namespace Go.Proofs.Ytkmfhabgempjiaa
set_option maxHeartbeats 4000000
open Go.RowKit
def Ch (lo hi : Nat) (w w' : World) : Prop := Chg w w' (fun b => lo ≤ b ∧ b < hi ∧ ¬ Tyb w 27 b)
theorem Ch.refl (lo hi : Nat) (w : World) : Ch lo hi w w := Chg.refl w _
theorem Ch.of {lo hi : Nat} {w w' : World} (h : Below w.heap.size w w') : Ch lo hi w w' := Chg.of h _
theorem Tyb.chg {w w' : World} {S : Nat → Prop} {e : TypeId} {b : Nat} (h : Tyb w e b) (hc : Chg w w' S) (hn : ¬ S b) : Tyb w' e b := by
 obtain ⟨cur, hk⟩ := h
 exact ⟨cur, by rw [hc.block b (Array.getElem?_eq_some_iff.1 hk).1 hn]; exact hk⟩
theorem Ch.trans {lo hi : Nat} {a b c : World} (h : Ch lo hi a b) (k : Ch lo hi b c) : Ch lo hi a c :=
 ⟨k.os.trans h.os, k.tape.trans h.tape, k.output.trans h.output, Nat.le_trans h.size k.size, fun i hi hn => by
  have h1 := h.block i hi hn
  rw [← h1]
  refine k.block i (Nat.lt_of_lt_of_le hi h.size) fun hs => ?_
  by_cases ht : Tyb a 27 i
  ·exact hs.2.2 (ht.chg h hn)
  ·exact hn ⟨hs.1, hs.2.1, ht⟩⟩
theorem Ch.wide {lo hi lo' hi' : Nat} {a b : World} (h : Ch lo hi a b) (h1 : lo' ≤ lo) (h2 : hi ≤ hi') : Ch lo' hi' a b := Chg.mono h fun _ _ hs => ⟨by omega, by omega, hs.2.2⟩
theorem Ch.below {lo hi : Nat} {a b : World} (h : Ch lo hi a b) (hl : lo ≤ a.heap.size) : Below lo a b := Chg.below h (fun _ _ hs => hs.1) hl
theorem Blk.ch {lo hi : Nat} {e : TypeId} {w w' : World} {g : Nat} {vs : List Value} (h : Blk e w g vs) (hc : Ch lo hi w w') (hn : g < lo ∨ hi ≤ g) : Blk e w' g vs := h.chg hc fun hs => by omega
theorem Own.ch {lo hi base : Nat} {w w' : World} {v : Value} {zs : List Nat} (h : Own .u64 27 w base v zs) (hc : Ch lo hi w w') : Own .u64 27 w' base v zs := rowOwn_chg h hc fun _ hb hs => hs.2.2 (rowOwn_tyb h hb).1
def Rw (p : Nat) (w : World) (lo hi : Nat) (rv : Value) (n M : Nat) (U : Nat → Value) (W : Nat → Nat → Pol (Zp p)) : Prop := ∃ E, Xr p w lo rv n (fun _ => M) U E W ∧ (∀ b, Xbl rv n U b → b < hi) ∧ hi ≤ w.heap.size
section
variable {p : Nat} {w w' : World} {lo hi n M : Nat} {rv : Value} {U : Nat → Value} {W : Nat → Nat → Pol (Zp p)}
theorem Rw.chg {S : Nat → Prop} (h : Rw p w lo hi rv n M U W) (hc : Chg w w' S) (hS : ∀ b, b < w.heap.size → S b → ¬ (lo ≤ b ∧ b < hi) ∧ ¬ Tyb w 27 b) : Rw p w' lo hi rv n M U W := by
 obtain ⟨E, h1, h2, h3⟩ := h
 refine ⟨E, h1.chg hc fun b hb hs => ⟨fun hx => ?_, (hS b hb hs).2⟩, h2, Nat.le_trans h3 hc.size⟩
 exact (hS b hb hs).1 ⟨(h1.blk hx).1, h2 b hx⟩
theorem Rw.ch {lo' hi' : Nat} (h : Rw p w lo hi rv n M U W) (hc : Ch lo' hi' w w') (hd : hi ≤ lo' ∨ hi' ≤ lo) : Rw p w' lo hi rv n M U W := h.chg hc fun b _ hs => ⟨fun hx => by have := hs.1; have := hs.2.1; omega, hs.2.2⟩
theorem Rw.next (h : Rw p w lo hi rv n M U W) (hb : Below w.heap.size w w') : Rw p w' lo hi rv n M U W := h.chg (Chg.of hb fun _ => False) fun _ _ hs => absurd hs id
theorem Rw.congr {V : Nat → Nat → Pol (Zp p)} (h : Rw p w lo hi rv n M U W) (e : ∀ i k, i < n → k < M → V i k = W i k) : Rw p w lo hi rv n M U V := by
 obtain ⟨E, h1, h2, h3⟩ := h
 exact ⟨E, h1.congr (fun _ _ => rfl) (fun _ _ => rfl) (fun _ _ _ _ => rfl) e, h2, h3⟩
theorem Rw.set (h : Rw p w lo hi rv n M U W) {i k b cap : Nat} (hi' : i < n) (hk : k < M) (hU : U i = .slice (some ⟨b, 0, none⟩) M cap) {y : Value} {f : Pol (Zp p)} (hy : Vn p w lo y f) :
  Rw p (w.setCell ⟨b, k, none⟩ y) lo hi rv n M U (fun a c => if a = i ∧ c = k then f else W a c) ∧ Ch lo hi w (w.setCell ⟨b, k, none⟩ y) := by
 obtain ⟨E, h1, h2, h3⟩ := h
 have hx : Xbl rv n U b := .inr ⟨i, hi', by rw [hU]; rfl⟩
 have hb := h1.blk hx
 refine ⟨⟨_, h1.setE hi' hk hU hy, h2, by simpa [World.setCell] using h3⟩, (Chg.setCell w ⟨b, k, none⟩ y).mono fun j _ hj => ?_⟩
 subst hj
 refine ⟨hb.1, h2 _ hx, fun ht => ?_⟩
 rcases hb.2.2 with h4 | h4
 ·exact h4.ne ht (by decide) rfl
 ·exact h4.ne ht (by decide) rfl
end
def RetRw (p : Nat) (w : World) (lo hi : Nat) (rv : Value) (n M : Nat) (U : Nat → Value) (W : Nat → Nat → Pol (Zp p)) (e : Ending) (w' : World) : Prop := e = .returned (.tuple #[]) ∧ Rw p w' lo hi rv n M U W ∧ Ch lo hi w w'
set_option maxRecDepth 20000 in
theorem xf_addRow (p : Nat) (w : World) (gS lo hi L : Nat) (vs : List Value) (rv vc : Value) (n M : Nat) (U : Nat → Value) (W : Nat → Nat → Pol (Zp p)) (i k : Nat) (Z : List Nat) (hp : FP p) (hS : Blk 101 w gS (.int .u64 p :: vs)) (hg : gS < lo ∨ hi ≤ gS) (h : Rw p w lo hi rv n M U W) (hin : i < n) (hkn : k < n) (hZ : Own .u64 27 w hi vc Z) (hZl : Z.length ≤ 400000000000) (hL : L ≤ 400000000000) (hM : M ≤ 1000) (hb : ∀ r j, r < n → j < M → (W r j).dlt L) :
  Calls Try.prog 130 #[.pointer (some ⟨gS, 0, none⟩), rv, .int .i64 i, .int .i64 k, vc] w (RetRw p w lo hi rv n M U (fun a j => if a = i then W i j + pl p Z * W k j else W a j)) := by
 have hlw : hi ≤ w.heap.size := h.choose_spec.2.2
 obtain ⟨W', eW'⟩ : ∃ W' : Nat → Nat → Nat → Pol (Zp p), W' = fun t a j => if a = i ∧ j < t then W i j + pl p Z * W k j else W a j := ⟨_, rfl⟩
 have st : Rw p w lo hi rv n M U (W' 0) := h.congr fun a j _ _ => by rw [eW']; exact if_neg (by omega)
 have HP := Lib.hid hp; have HB := Lib.hid hb
 obtain ⟨PQ, ePQ⟩ : ∃ PQ : Ending → World → Prop, PQ = RetRw p w lo hi rv n M U (fun a j => if a = i then W i j + pl p Z * W k j else W a j) := ⟨_, rfl⟩
 rw [← ePQ]
 have EPQ := Lib.hid ePQ; have EW := Lib.hid eW'; have ST := Lib.hid st
 obtain ⟨E0, X0, -, -⟩ := h
 obtain ⟨gh, cap, rfl, -⟩ := X0.hdr hin
 obtain ⟨aU, cU, eU⟩ := X0.rslc hin
 have q1 := (X0.cellU hin).1
 rw [eU] at q1
 clear hp hb ePQ eW' st X0 E0
 go_enter Try.func130, Try.ntmps130
 go_wp2
 clear q1
 go_loopw [16] (fun jv wr => ∃ j : Nat, j ≤ M ∧ jv = .int .i64 j ∧ Rw p wr lo hi (.slice (some ⟨gh, 0, none⟩) n cap) n M U (W' j) ∧ Ch lo hi w wr) (fun jv _ => M - (intOf jv).toNat)
 case atStart => exact ⟨0, Nat.zero_le _, rfl, ST.out, Ch.refl _ _ _⟩
 case round =>
  clear ST
  obtain ⟨j, hj, rfl, R, C⟩ := hrel
  by_cases hjm : j < M
  ·obtain ⟨E, X, hXb, hXs⟩ := id R
   obtain ⟨bI, cI, eI, hI1, hI2, -, -, hIc, hIf⟩ := X.at hin (by omega)
   obtain ⟨bK, cK, eK, -, hK2, -, -, hKc, -⟩ := X.at hkn (by omega)
   obtain ⟨aX, nX, cX, zX, eX, lX, oX, mX, vX⟩ := Vn.open (X.el i j hin hjm)
   obtain ⟨aY, nY, cY, zY, eY, lY, oY, mY, vY⟩ := Vn.open (X.el k j hkn hjm)
   have qi := hIc j hjm; have qk := hKc j hjm
   rw [eX] at qi; rw [eY] at qk
   obtain ⟨q1, lg, -⟩ := X.cellU hin
   have q2 := (X.cellU hkn).1
   rw [eI] at q1; rw [eK] at q2
   have vX' : pl p zX = W i j := by rw [vX, EW.out]; exact if_neg (by omega)
   have vY' : pl p zY = W k j := by rw [vY, EW.out]; exact if_neg (by omega)
   have hzX : zX.length ≤ L := nrm_len HP.out.pos mX (by rw [vX']; exact HB.out i j hin hjm)
   have hzY : zY.length ≤ L := nrm_len HP.out.pos mY (by rw [vY']; exact HB.out k j hkn hjm)
   have tX := oX.sl; have tY := oY.sl
   have KS := hS.ch C hg
   have tZ := (hZ.ch C).sl
   obtain rfl : nX = zX.length := lX.symm
   obtain rfl : nY = zY.length := lY.symm
   have VX := Lib.hid vX'; have VY := Lib.hid vY'; have EI := Lib.hid eI
   have hhw : hi ≤ wr.heap.size := hXs
   clear X hXb hXs hIc hKc vX vY vX' vY' oX oY mX mY lX lY eX eY eI eK hIf
   go_upto_region 3 with (fail)
   have bd := dw wr
   replace KS := KS.next bd; replace tX := tX.next bd; replace tY := tY.next bd; replace tZ := tZ.next bd
   have R3 := R.next bd
   have C3 := C.trans (Ch.of bd)
   have q1' : wr.drew.cell? ⟨gh, i, none⟩ = some (.slice (some ⟨bI, 0, none⟩) M cI) := q1
   have q2' : wr.drew.cell? ⟨gh, k, none⟩ = some (.slice (some ⟨bK, 0, none⟩) M cK) := q2
   have qi' : wr.drew.cell? ⟨bI, j, none⟩ = some (.slice aX zX.length cX) := qi
   have qk' : wr.drew.cell? ⟨bK, j, none⟩ = some (.slice aY zY.length cY) := qk
   have l1' : gh < wr.drew.heap.size := lg
   have l2' : bI < wr.drew.heap.size := hI2
   have l3' : bK < wr.drew.heap.size := hK2
   have hhw' : hi ≤ wr.drew.heap.size := hhw
   clear bd q1 q2 qi qk lg hI2 hK2 hhw C R
   have z0 := Lib.hid fun (w : World) (hS : Below (wr.drew).heap.size (wr.drew) w) => And.intro ((KS.at hS) 0) (And.intro ((hS.cell (p := ⟨gh, i, none⟩) l1').trans q1') (And.intro ((hS.cell (p := ⟨gh, k, none⟩) l1').trans q2') (And.intro ((hS.cell (p := ⟨bI, j, none⟩) l2').trans qi') ((hS.cell (p := ⟨bK, j, none⟩) l3').trans qk'))))
   refine startP (S := (fun w' => Below (wr.drew).heap.size (wr.drew) w')) (by kernel_rfl) _ rfl rfl rfl (by kernel_rfl) (Below.refl _ _) (fun hHeld => ?_)
   refine tk 0 ?_
   refine tk 1 ?_
   refine tk 2 ?_
   refine tf 3 z0.out ?_
   refine tk 4 ?_
   refine tk 5 ?_
   refine tk 6 ?_
   refine tk 7 ?_
   refine tf 8 z0.out ?_
   refine tk 9 ?_
   refine tk 10 ?_
   refine tk 11 ?_
   refine tf 12 z0.out ?_
   refine tk 13 ?_
   refine tk 14 ?_
   refine tf 15 z0.out ?_
   refine tk 16 ?_
   refine tk 17 ?_
   refine tk 18 ?_
   refine tf 19 z0.out ?_
   refine tk 20 ?_
   refine tk 21 ?_
   refine tk 22 ?_
   refine tk 23 ?_
   refine tf 24 z0.out ?_
   refine tk 25 ?_
   refine tk 26 ?_
   refine tf 27 z0.out ?_
   refine on 28 fun K hK => ?_
   go_simp
   go_at_call 65
   (with_reducible refine (fp_Mul p vc _ Z zY _ HP.out (tZ.next hHeld) (tY.next hHeld) (by omega) (by omega)).mono ?_); rintro e w4 ⟨r4, z4, rfl, o4, n4, v4, l4, b4⟩
   have t4 := o4.sl; clear o4 n4
   refine hK.out _ _ (hHeld.trans (b4.mono hHeld.size)) (fun hHeld => ?_)
   clear hK K
   try simp only [Act.put, zq1, zq2, zq3]
   refine on 29 fun K hK => ?_
   go_simp
   go_at_call 90
   (with_reducible refine (fp_Add p _ r4 zX z4 _ HP.out (tX.next hHeld) t4 (by omega) (by omega)).mono ?_); rintro e w5 ⟨r5, z5, rfl, o5, n5, v5, l5, b5⟩
   refine hK.out _ _ (hHeld.trans (b5.mono hHeld.size)) (fun hHeld => ?_)
   clear hK K
   try simp only [Act.put, zq1, zq2, zq3]
   refine tk 30 ?_
   clear z0; refine doneL (by kernel_rfl) ?_ _
   refine lastL rfl (by rfl) ?_
   obtain ⟨a5, c5, e5⟩ := o5.sliced
   subst e5
   have R5 := R3.next hHeld
   have c9 := (hHeld.cell (p := ⟨bI, j, none⟩) l2').trans qi'
   have fz9 : w5.frozen? ⟨bI, j, none⟩ = false := by
    obtain ⟨E5, X5, -, -⟩ := R5
    obtain ⟨b5', c5', e5', -, -, -, -, -, hf5⟩ := X5.at hin (by omega)
    rw [EI.out] at e5'
    simp only [Value.slice.injEq, Option.some.injEq, Addr.mk.injEq, and_true, true_and] at e5'
    rw [e5'.1]; exact hf5 j
   obtain ⟨R6, C6⟩ := R5.set hin hjm EI.out (y := .slice a5 z5.length c5) (f := W i j + pl p Z * W k j) ⟨z5, o5.mono (by have := b4.size; omega), n5, by rw [v5, v4, VX.out, VY.out]⟩
   have F1 := Lib.hid (R6.congr (V := W' (j + 1)) fun a t _ _ => by
    rw [EW.out]
    show (if a = i ∧ t < j + 1 then _ else _) = if a = i ∧ t = j then _ else if a = i ∧ t < j then _ else _
    by_cases h1 : a = i
    ·by_cases h2 : t = j
     ·rw [if_pos ⟨h1, by omega⟩, if_pos ⟨h1, h2⟩, h2]
     ·by_cases h3 : t < j
      ·rw [if_pos ⟨h1, by omega⟩, if_neg (fun h => h2 h.2), if_pos ⟨h1, h3⟩]
      ·rw [if_neg (fun h => by have := h.2; omega), if_neg (fun h => h2 h.2), if_neg (fun h => h3 h.2)]
    ·rw [if_neg (fun h => h1 h.1), if_neg (fun h => h1 h.1), if_neg (fun h => h1 h.1)])
   have F2 := Lib.hid ((C3.trans (Ch.of hHeld)).trans C6)
   clear R3 R5 R6 C3 C6 o5 n5 v5 v4 hHeld KS tX tY tZ q1' q2' qi' qk' b4 b5
   go_wp2
   go_roundw
   case rel => exact ⟨j + 1, by omega, by go_num, F1.out, F2.out⟩
   case measure => simp [intOf] <;> omega
  ·obtain rfl : j = M := by omega
   have FIN := Lib.hid (show PQ (.returned (.tuple #[])) wr by
    rw [EPQ.out]
    exact ⟨rfl, R.congr fun a t _ ht => by
     rw [EW.out]
     show (if a = i then _ else _) = if a = i ∧ t < j then _ else _
     by_cases h1 : a = i
     ·rw [if_pos h1, if_pos ⟨h1, ht⟩]
     ·rw [if_neg h1, if_neg (fun h => h1 h.1)], C⟩)
   clear R C
   go_wp2
   go_end0
   exact FIN.out
end Go.Proofs.Ytkmfhabgempjiaa
