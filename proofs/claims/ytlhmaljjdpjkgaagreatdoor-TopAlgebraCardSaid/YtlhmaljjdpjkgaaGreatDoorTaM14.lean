/- Determinants of no rows; a row and a column left out; the adjugate. -/
import Derived.Test.YtlhmaljjdpjkgaaGreatDoorTaM13
set_option maxHeartbeats 4000000
namespace Go.Proofs.YtlhmaljjdpjkgaaGreatDoor
open Go Go.RowKit
theorem b_begun0 {A : Nat → Nat → Int} : Ec Tryz.prog 525 (own 0) [] [zMA 0 0 A] (Is (.ref 0 0) [.box 463 [nilA,ri .i64 0,nilA,.im (.raw (.bool (decide ((1 : Int) < 0)))),.im (na (1 : Int).natAbs),rb false]]):=by
 refine ec Tryz.func525 ?_
 refine rq [0,1,2,3,4,5] ?_
 refine ce (z_Of (x:=1) (by decide) (by decide)) rfl ?_
 refine lpn 1 ?_
 refine iff_ rfl rfl ?_
 exact fin [1] rfl ⟨rfl,rfl⟩
theorem b_run0 {c1 c2 : IV} : Ec Tryz.prog 526 (own 1) [.box 463 [nilA,ri .i64 0,nilA,.im c1,.im c2,rb false]] [.ref 0 0] (Is (.tup []) [.box 463 [nilA,ri .i64 0,nilA,.im c1,.im c2,rb false]]):=by
 refine ec Tryz.func526 ?_
 refine lpn 1 ?_
 refine rq [0,1,2,3,4,5,6,7,8,9,10,11,12,13,14,15,16,17,18] ?_
 iterate 11 refine gf rfl ?_
 refine tf rfl ?_
 refine iff_ rfl rfl ?_
 exact fin0 ⟨rfl,rfl⟩
theorem b_done0 {A : Nat → Nat → Int} : Pc Tryz.prog 462 [zM 0 0 A] (· = .tup [.ip [.raw (.slice none 0 0),.raw (.int .i64 0),.raw (.slice none 0 0),.raw (.bool (decide ((1 : Int) < 0))),na (1 : Int).natAbs,.raw (.bool false)],.raw (.int .i64 0)]):=by
 refine pc Tryz.func462 ?_
 refine ce (z_Formed (r:=0) (c:=0) (es:=(tq 0 A (0 * 0)).map zc) (by decide) (by decide) (by rw [List.length_map,tq_len])) rfl ?_
 refine iff_ rfl rfl ?_
 refine cxg [] 0 [] (b_begun0 (A:=A)) rfl rfl rfl rfl ?_
 rintro _ _ ⟨rfl,rfl⟩
 refine ⟨.inr rfl,?_⟩
 refine cx 1 b_run0 rfl rfl rfl ?_
 rintro _ _ ⟨rfl,rfl⟩
 refine ⟨.inl rfl,?_⟩
 exact rfl
theorem b_Det0 {A : Nat → Nat → Int} : Pc Tryz.prog 370 [zM 0 0 A] (· = .tup [iz (dn 0 A),.raw (.int .i64 0)]):=by
 refine pc Tryz.func370 ?_
 refine iff_ rfl rfl ?_
 refine ce b_done0 rfl ?_
 refine iff_ rfl rfl ?_
 refine rq [0,1,2,3,4,5,6,7,8] ?_
 refine iff_ rfl rfl ?_
 refine iff_ rfl rfl ?_
 exact rfl
def sk (k b : Nat) : Nat:=if b < k then b else b + 1
def ct (k c : Nat) : Nat:=if c ≤ k then c else c - 1
theorem sk_ct {k c : Nat} (h : c ≠ k) : sk k (ct k c) = c:=by unfold sk ct; split <;> split <;> omega
theorem ct_ne {k c : Nat} (h : c ≠ k) : ct k (c + 1) = ct k c + 1:=by unfold ct; split <;> split <;> omega
theorem ct_eq (k : Nat) : ct k (k + 1) = ct k k:=by unfold ct; split <;> split <;> omega
theorem ct_lt {k c w : Nat} (h : c ≠ k) (hk : k < w + 1) (hc : c < w + 1) : ct k c < w:=by unfold ct; split <;> omega
theorem ct_end {k w : Nat} (hk : k < w + 1) : ct k (w + 1) = w:=by unfold ct; split <;> omega
theorem ct_le {k c w : Nat} (hc : c ≤ w + 1) (hk : k < w + 1) : ct k c ≤ w:=by unfold ct; split <;> omega
theorem ct_zero (k : Nat) : ct k 0 = 0:=if_pos (Nat.zero_le _)
theorem bne_t {a b : Nat} (h : a ≠ b) : ((a : Int) != (b : Int)) = true:=by simp; omega
theorem bne_f (a : Nat) : ((a : Int) != (a : Int)) = false:=by simp
def rest (A : Nat → Nat → Int) (i k : Nat) : Nat → Nat → Int:=fun a b=>A (sk i a) (sk k b)
theorem tq_step {w : Nat} (T : Nat → Nat → Int) (i : Nat) {k : Nat} (hk : k < w) : ((tq w T (i * w + k + 1)).map zc).flatten = ((tq w T (i * w + k)).map zc).flatten ++ zc (T i k):=by
 rw [tq_succ T i hk,List.map_append,List.flatten_append]; simp
theorem b_Without1 {A : Nat → Nat → Int} {i k : Nat} (ha : ZB 5 1 1 A) (hi : i < 1) (hk : k < 1) : Pc Tryz.prog 369 [zM 1 1 A,.raw (.int .i64 (i : Int)),.raw (.int .i64 (k : Int))] (· = .tup [zM 0 0 (rest A i k),.raw (.int .i64 0)]):=by
 have g1 : decide ((i : Int) < 0) = false:=decide_eq_false (by omega)
 have g2 : decide ((i : Int) ≥ ((1 : Nat) : Int)) = false:=decide_eq_false (by omega)
 have g3 : decide ((k : Int) < 0) = false:=decide_eq_false (by omega)
 have g4 : decide ((k : Int) ≥ ((1 : Nat) : Int)) = false:=decide_eq_false (by omega)
 refine pc Tryz.func369 ?_
 refine ce (z_Formed (r:=1) (c:=1) (es:=(tq 1 A (1 * 1)).map zc) (by decide) (by decide) (by rw [List.length_map,tq_len])) rfl ?_
 refine iff_ rfl rfl ?_
 iterate 4 refine gt g1 ?_
 refine tf g1 ?_
 iterate 2 refine gt g2 ?_
 refine tf g2 ?_
 iterate 4 refine gt g3 ?_
 refine tf g3 ?_
 refine iff_ rfl g4 ?_
 refine lfb 2 2 47 2 rfl rfl ?_
 refine lpt (fun r : Nat=>r ≤ 1) (fun r=>[(1,ri .i64 i),(2,ri .i64 k),(3,.ref 0 0),(6,.ref 1 0),(8,.ref 2 0),(44,ri .i64 1),(45,ri .i64 r)]) (fun r=>[.box 24 [ri .i64 1,ri .i64 1,.im (.sl ((tq 1 A (1 * 1)).map zc).length 2 ((tq 1 A (1 * 1)).map zc).flatten)],.box 24 [ri .i64 0,ri .i64 0,nilA],.box 24 [ri .i64 0,ri .i64 0,.own 3],.row 47 2 (ct i r * 0) ((tq 0 (rest A i k) (ct i r * 0)).map zc).flatten]) (fun r=>1 - r) 0 (by decide) (tsr rfl) (by rw [ct_zero,Nat.zero_mul] <;> rfl) ?_
 intro r t hr
 have hcr:=ct_le (w:=0) hr hi
 refine ifs rfl (fun h=>?_) (fun h=>?_)
 ·have h:=of_decide_eq_true h
  have hr : r < 1:=by omega
  by_cases e : r = i
  ·subst e
   refine lpt (fun c : Nat=>c ≤ 1) (fun c=>[(1,ri .i64 r),(2,ri .i64 k),(3,.ref 0 0),(6,.ref 1 0),(8,.ref 2 0),(44,ri .i64 1),(45,ri .i64 r),(9,ri .i64 r),(49,ri .i64 1),(50,ri .i64 c)]) (fun c=>[.box 24 [ri .i64 1,ri .i64 1,.im (.sl ((tq 1 A (1 * 1)).map zc).length 2 ((tq 1 A (1 * 1)).map zc).flatten)],.box 24 [ri .i64 0,ri .i64 0,nilA],.box 24 [ri .i64 0,ri .i64 0,.own 3],.row 47 2 (ct r r * 0) ((tq 0 (rest A r k) (ct r r * 0)).map zc).flatten]) (fun c=>1 - c) 0 (by decide) (tsr rfl) rfl ?_
   intro c t hc
   refine ifs rfl (fun h=>?_) (fun h=>?_)
   ·have h:=of_decide_eq_true h
    iterate 3 refine gf (bne_f r) ?_
    refine tf (bne_f r) ?_
    refine iff_ rfl rfl ?_
    refine nx (c + 1) (by omega) ⟨by omega,⟨rfl,rfl,rfl,rfl,rfl,rfl,rfl,rfl,rfl,congrArg (ri .i64) (i64s (by omega)).symm,trivial⟩,rfl⟩
   ·refine nx (r + 1) (by omega) ⟨by omega,⟨rfl,rfl,rfl,rfl,rfl,rfl,congrArg (ri .i64) (i64s (by omega)).symm,trivial⟩,?_⟩
    exact congrArg (fun q=>([.box 24 [ri .i64 1,ri .i64 1,.im (.sl ((tq 1 A (1 * 1)).map zc).length 2 ((tq 1 A (1 * 1)).map zc).flatten)],.box 24 [ri .i64 0,ri .i64 0,nilA],.box 24 [ri .i64 0,ri .i64 0,.own 3],.row 47 2 (q * 0) ((tq 0 (rest A r k) (q * 0)).map zc).flatten] : List AO)) (ct_eq r).symm
  ·refine lpt (fun c : Nat=>c ≤ 1) (fun c=>[(1,ri .i64 i),(2,ri .i64 k),(3,.ref 0 0),(6,.ref 1 0),(8,.ref 2 0),(44,ri .i64 1),(45,ri .i64 r),(9,ri .i64 r),(49,ri .i64 1),(50,ri .i64 c)]) (fun c=>[.box 24 [ri .i64 1,ri .i64 1,.im (.sl ((tq 1 A (1 * 1)).map zc).length 2 ((tq 1 A (1 * 1)).map zc).flatten)],.box 24 [ri .i64 0,ri .i64 0,nilA],.box 24 [ri .i64 0,ri .i64 0,.own 3],.row 47 2 (ct i r * 0 + ct k c) ((tq 0 (rest A i k) (ct i r * 0 + ct k c)).map zc).flatten]) (fun c=>1 - c) 0 (by decide) (tsr rfl) (by rw [ct_zero,Nat.add_zero] <;> rfl) ?_
   intro c t hc
   have hcc:=ct_le (w:=0) hc hk
   refine ifs rfl (fun h=>?_) (fun h=>?_)
   ·have h:=of_decide_eq_true h
    have hc : c < 1:=by omega
    iterate 3 refine gt (bne_t e) ?_
    refine tw (bne_t e) ?_
    by_cases e2 : c = k
    ·subst e2
     refine iff_ rfl (bne_f c) ?_
     refine nx (c + 1) (by omega) ⟨by omega,⟨rfl,rfl,rfl,rfl,rfl,rfl,rfl,rfl,rfl,congrArg (ri .i64) (i64s (by omega)).symm,trivial⟩,?_⟩
     exact congrArg (fun q=>([.box 24 [ri .i64 1,ri .i64 1,.im (.sl ((tq 1 A (1 * 1)).map zc).length 2 ((tq 1 A (1 * 1)).map zc).flatten)],.box 24 [ri .i64 0,ri .i64 0,nilA],.box 24 [ri .i64 0,ri .i64 0,.own 3],.row 47 2 (ct i r * 0 + q) ((tq 0 (rest A i c) (ct i r * 0 + q)).map zc).flatten] : List AO)) (ct_eq c).symm
    ·refine ift rfl (bne_t e2) ?_
     have hlt:=ct_lt (w:=0) e2 hk hc
     have hv : rest A i k (ct i r) (ct k c) = A r c:=by unfold rest; rw [sk_ct e,sk_ct e2]
     have es:=tq_step (rest A i k) (ct i r) hlt
     rw [hv] at es
     refine rq [0,1,2,3,4,5,6,7,8,9] ?_
     refine ce (zM_At (r:=1) (c:=1) (A:=A) (by decide) (by decide) (ha.mono (by decide)) hr hc) rfl ?_
     refine ⟨⟨?_,?_⟩,?_⟩
     ·show (ct i r * 0 + ct k c + 1) * 32 ≤ _; omega
     ·show ct i r * 0 + ct k c + 1 ≤ _; omega
     refine nxg [0,1,2,3] (c + 1) (by omega) rfl ⟨by omega,⟨rfl,rfl,rfl,rfl,rfl,rfl,rfl,rfl,rfl,congrArg (ri .i64) (i64s (by omega)).symm,trivial⟩,?_⟩
     refine Eq.trans ?_ (congrArg (fun q=>([.box 24 [ri .i64 1,ri .i64 1,.im (.sl ((tq 1 A (1 * 1)).map zc).length 2 ((tq 1 A (1 * 1)).map zc).flatten)],.box 24 [ri .i64 0,ri .i64 0,nilA],.box 24 [ri .i64 0,ri .i64 0,.own 3],.row 47 2 (ct i r * 0 + q) ((tq 0 (rest A i k) (ct i r * 0 + q)).map zc).flatten] : List AO)) (ct_ne e2).symm)
     refine Eq.trans ?_ (congrArg (fun l=>([.box 24 [ri .i64 1,ri .i64 1,.im (.sl ((tq 1 A (1 * 1)).map zc).length 2 ((tq 1 A (1 * 1)).map zc).flatten)],.box 24 [ri .i64 0,ri .i64 0,nilA],.box 24 [ri .i64 0,ri .i64 0,.own 3],.row 47 2 (ct i r * 0 + ct k c + 1) l] : List AO)) es.symm)
     exact rfl
   ·have h:=of_decide_eq_false h
    obtain rfl : c = 1:=by omega
    refine nx (r + 1) (by omega) ⟨by omega,⟨rfl,rfl,rfl,rfl,rfl,rfl,congrArg (ri .i64) (i64s (by omega)).symm,trivial⟩,?_⟩
    have e3 : ct i r * 0 + ct k 1 = ct i (r + 1) * 0:=by rw [ct_end (w:=0) hk,ct_ne e,Nat.add_mul,Nat.one_mul]
    exact congrArg (fun q=>([.box 24 [ri .i64 1,ri .i64 1,.im (.sl ((tq 1 A (1 * 1)).map zc).length 2 ((tq 1 A (1 * 1)).map zc).flatten)],.box 24 [ri .i64 0,ri .i64 0,nilA],.box 24 [ri .i64 0,ri .i64 0,.own 3],.row 47 2 (q) ((tq 0 (rest A i k) (q)).map zc).flatten] : List AO)) e3
 ·have h:=of_decide_eq_false h
  obtain rfl : r = 1:=by omega
  rw [ct_end (w:=0) hi]
  have e4 : zM 0 0 (rest A i k) = .agg [.raw (.int .i64 (0 : Nat)),.raw (.int .i64 (0 : Nat)),.sl (0 * 0) 2 ((tq 0 (rest A i k) (0 * 0)).map zc).flatten]:=by unfold zM zm mc; rw [List.length_map,tq_len]
  rw [e4]
  exact rfl
theorem b_Without2 {A : Nat → Nat → Int} {i k : Nat} (ha : ZB 5 2 2 A) (hi : i < 2) (hk : k < 2) : Pc Tryz.prog 369 [zM 2 2 A,.raw (.int .i64 (i : Int)),.raw (.int .i64 (k : Int))] (· = .tup [zM 1 1 (rest A i k),.raw (.int .i64 0)]):=by
 have g1 : decide ((i : Int) < 0) = false:=decide_eq_false (by omega)
 have g2 : decide ((i : Int) ≥ ((2 : Nat) : Int)) = false:=decide_eq_false (by omega)
 have g3 : decide ((k : Int) < 0) = false:=decide_eq_false (by omega)
 have g4 : decide ((k : Int) ≥ ((2 : Nat) : Int)) = false:=decide_eq_false (by omega)
 refine pc Tryz.func369 ?_
 refine ce (z_Formed (r:=2) (c:=2) (es:=(tq 2 A (2 * 2)).map zc) (by decide) (by decide) (by rw [List.length_map,tq_len])) rfl ?_
 refine iff_ rfl rfl ?_
 iterate 4 refine gt g1 ?_
 refine tf g1 ?_
 iterate 2 refine gt g2 ?_
 refine tf g2 ?_
 iterate 4 refine gt g3 ?_
 refine tf g3 ?_
 refine iff_ rfl g4 ?_
 refine lfb 2 2 47 2 rfl rfl ?_
 refine lpt (fun r : Nat=>r ≤ 2) (fun r=>[(1,ri .i64 i),(2,ri .i64 k),(3,.ref 0 0),(6,.ref 1 0),(8,.ref 2 0),(44,ri .i64 2),(45,ri .i64 r)]) (fun r=>[.box 24 [ri .i64 2,ri .i64 2,.im (.sl ((tq 2 A (2 * 2)).map zc).length 2 ((tq 2 A (2 * 2)).map zc).flatten)],.box 24 [ri .i64 0,ri .i64 0,nilA],.box 24 [ri .i64 1,ri .i64 1,.own 3],.row 47 2 (ct i r * 1) ((tq 1 (rest A i k) (ct i r * 1)).map zc).flatten]) (fun r=>2 - r) 0 (by decide) (tsr rfl) (by rw [ct_zero,Nat.zero_mul] <;> rfl) ?_
 intro r t hr
 have hcr:=ct_le (w:=1) hr hi
 refine ifs rfl (fun h=>?_) (fun h=>?_)
 ·have h:=of_decide_eq_true h
  have hr : r < 2:=by omega
  by_cases e : r = i
  ·subst e
   refine lpt (fun c : Nat=>c ≤ 2) (fun c=>[(1,ri .i64 r),(2,ri .i64 k),(3,.ref 0 0),(6,.ref 1 0),(8,.ref 2 0),(44,ri .i64 2),(45,ri .i64 r),(9,ri .i64 r),(49,ri .i64 2),(50,ri .i64 c)]) (fun c=>[.box 24 [ri .i64 2,ri .i64 2,.im (.sl ((tq 2 A (2 * 2)).map zc).length 2 ((tq 2 A (2 * 2)).map zc).flatten)],.box 24 [ri .i64 0,ri .i64 0,nilA],.box 24 [ri .i64 1,ri .i64 1,.own 3],.row 47 2 (ct r r * 1) ((tq 1 (rest A r k) (ct r r * 1)).map zc).flatten]) (fun c=>2 - c) 0 (by decide) (tsr rfl) rfl ?_
   intro c t hc
   refine ifs rfl (fun h=>?_) (fun h=>?_)
   ·have h:=of_decide_eq_true h
    iterate 3 refine gf (bne_f r) ?_
    refine tf (bne_f r) ?_
    refine iff_ rfl rfl ?_
    refine nx (c + 1) (by omega) ⟨by omega,⟨rfl,rfl,rfl,rfl,rfl,rfl,rfl,rfl,rfl,congrArg (ri .i64) (i64s (by omega)).symm,trivial⟩,rfl⟩
   ·refine nx (r + 1) (by omega) ⟨by omega,⟨rfl,rfl,rfl,rfl,rfl,rfl,congrArg (ri .i64) (i64s (by omega)).symm,trivial⟩,?_⟩
    exact congrArg (fun q=>([.box 24 [ri .i64 2,ri .i64 2,.im (.sl ((tq 2 A (2 * 2)).map zc).length 2 ((tq 2 A (2 * 2)).map zc).flatten)],.box 24 [ri .i64 0,ri .i64 0,nilA],.box 24 [ri .i64 1,ri .i64 1,.own 3],.row 47 2 (q * 1) ((tq 1 (rest A r k) (q * 1)).map zc).flatten] : List AO)) (ct_eq r).symm
  ·refine lpt (fun c : Nat=>c ≤ 2) (fun c=>[(1,ri .i64 i),(2,ri .i64 k),(3,.ref 0 0),(6,.ref 1 0),(8,.ref 2 0),(44,ri .i64 2),(45,ri .i64 r),(9,ri .i64 r),(49,ri .i64 2),(50,ri .i64 c)]) (fun c=>[.box 24 [ri .i64 2,ri .i64 2,.im (.sl ((tq 2 A (2 * 2)).map zc).length 2 ((tq 2 A (2 * 2)).map zc).flatten)],.box 24 [ri .i64 0,ri .i64 0,nilA],.box 24 [ri .i64 1,ri .i64 1,.own 3],.row 47 2 (ct i r * 1 + ct k c) ((tq 1 (rest A i k) (ct i r * 1 + ct k c)).map zc).flatten]) (fun c=>2 - c) 0 (by decide) (tsr rfl) (by rw [ct_zero,Nat.add_zero] <;> rfl) ?_
   intro c t hc
   have hcc:=ct_le (w:=1) hc hk
   refine ifs rfl (fun h=>?_) (fun h=>?_)
   ·have h:=of_decide_eq_true h
    have hc : c < 2:=by omega
    iterate 3 refine gt (bne_t e) ?_
    refine tw (bne_t e) ?_
    by_cases e2 : c = k
    ·subst e2
     refine iff_ rfl (bne_f c) ?_
     refine nx (c + 1) (by omega) ⟨by omega,⟨rfl,rfl,rfl,rfl,rfl,rfl,rfl,rfl,rfl,congrArg (ri .i64) (i64s (by omega)).symm,trivial⟩,?_⟩
     exact congrArg (fun q=>([.box 24 [ri .i64 2,ri .i64 2,.im (.sl ((tq 2 A (2 * 2)).map zc).length 2 ((tq 2 A (2 * 2)).map zc).flatten)],.box 24 [ri .i64 0,ri .i64 0,nilA],.box 24 [ri .i64 1,ri .i64 1,.own 3],.row 47 2 (ct i r * 1 + q) ((tq 1 (rest A i c) (ct i r * 1 + q)).map zc).flatten] : List AO)) (ct_eq c).symm
    ·refine ift rfl (bne_t e2) ?_
     have hlt:=ct_lt (w:=1) e2 hk hc
     have hv : rest A i k (ct i r) (ct k c) = A r c:=by unfold rest; rw [sk_ct e,sk_ct e2]
     have es:=tq_step (rest A i k) (ct i r) hlt
     rw [hv] at es
     refine rq [0,1,2,3,4,5,6,7,8,9] ?_
     refine ce (zM_At (r:=2) (c:=2) (A:=A) (by decide) (by decide) (ha.mono (by decide)) hr hc) rfl ?_
     refine ⟨⟨?_,?_⟩,?_⟩
     ·show (ct i r * 1 + ct k c + 1) * 32 ≤ _; omega
     ·show ct i r * 1 + ct k c + 1 ≤ _; omega
     refine nxg [0,1,2,3] (c + 1) (by omega) rfl ⟨by omega,⟨rfl,rfl,rfl,rfl,rfl,rfl,rfl,rfl,rfl,congrArg (ri .i64) (i64s (by omega)).symm,trivial⟩,?_⟩
     refine Eq.trans ?_ (congrArg (fun q=>([.box 24 [ri .i64 2,ri .i64 2,.im (.sl ((tq 2 A (2 * 2)).map zc).length 2 ((tq 2 A (2 * 2)).map zc).flatten)],.box 24 [ri .i64 0,ri .i64 0,nilA],.box 24 [ri .i64 1,ri .i64 1,.own 3],.row 47 2 (ct i r * 1 + q) ((tq 1 (rest A i k) (ct i r * 1 + q)).map zc).flatten] : List AO)) (ct_ne e2).symm)
     refine Eq.trans ?_ (congrArg (fun l=>([.box 24 [ri .i64 2,ri .i64 2,.im (.sl ((tq 2 A (2 * 2)).map zc).length 2 ((tq 2 A (2 * 2)).map zc).flatten)],.box 24 [ri .i64 0,ri .i64 0,nilA],.box 24 [ri .i64 1,ri .i64 1,.own 3],.row 47 2 (ct i r * 1 + ct k c + 1) l] : List AO)) es.symm)
     exact rfl
   ·have h:=of_decide_eq_false h
    obtain rfl : c = 2:=by omega
    refine nx (r + 1) (by omega) ⟨by omega,⟨rfl,rfl,rfl,rfl,rfl,rfl,congrArg (ri .i64) (i64s (by omega)).symm,trivial⟩,?_⟩
    have e3 : ct i r * 1 + ct k 2 = ct i (r + 1) * 1:=by rw [ct_end (w:=1) hk,ct_ne e,Nat.add_mul,Nat.one_mul]
    exact congrArg (fun q=>([.box 24 [ri .i64 2,ri .i64 2,.im (.sl ((tq 2 A (2 * 2)).map zc).length 2 ((tq 2 A (2 * 2)).map zc).flatten)],.box 24 [ri .i64 0,ri .i64 0,nilA],.box 24 [ri .i64 1,ri .i64 1,.own 3],.row 47 2 (q) ((tq 1 (rest A i k) (q)).map zc).flatten] : List AO)) e3
 ·have h:=of_decide_eq_false h
  obtain rfl : r = 2:=by omega
  rw [ct_end (w:=1) hi]
  have e4 : zM 1 1 (rest A i k) = .agg [.raw (.int .i64 (1 : Nat)),.raw (.int .i64 (1 : Nat)),.sl (1 * 1) 2 ((tq 1 (rest A i k) (1 * 1)).map zc).flatten]:=by unfold zM zm mc; rw [List.length_map,tq_len]
  rw [e4]
  exact rfl
theorem b_Without3 {A : Nat → Nat → Int} {i k : Nat} (ha : ZB 5 3 3 A) (hi : i < 3) (hk : k < 3) : Pc Tryz.prog 369 [zM 3 3 A,.raw (.int .i64 (i : Int)),.raw (.int .i64 (k : Int))] (· = .tup [zM 2 2 (rest A i k),.raw (.int .i64 0)]):=by
 have g1 : decide ((i : Int) < 0) = false:=decide_eq_false (by omega)
 have g2 : decide ((i : Int) ≥ ((3 : Nat) : Int)) = false:=decide_eq_false (by omega)
 have g3 : decide ((k : Int) < 0) = false:=decide_eq_false (by omega)
 have g4 : decide ((k : Int) ≥ ((3 : Nat) : Int)) = false:=decide_eq_false (by omega)
 refine pc Tryz.func369 ?_
 refine ce (z_Formed (r:=3) (c:=3) (es:=(tq 3 A (3 * 3)).map zc) (by decide) (by decide) (by rw [List.length_map,tq_len])) rfl ?_
 refine iff_ rfl rfl ?_
 iterate 4 refine gt g1 ?_
 refine tf g1 ?_
 iterate 2 refine gt g2 ?_
 refine tf g2 ?_
 iterate 4 refine gt g3 ?_
 refine tf g3 ?_
 refine iff_ rfl g4 ?_
 refine lfb 2 2 47 2 rfl rfl ?_
 refine lpt (fun r : Nat=>r ≤ 3) (fun r=>[(1,ri .i64 i),(2,ri .i64 k),(3,.ref 0 0),(6,.ref 1 0),(8,.ref 2 0),(44,ri .i64 3),(45,ri .i64 r)]) (fun r=>[.box 24 [ri .i64 3,ri .i64 3,.im (.sl ((tq 3 A (3 * 3)).map zc).length 2 ((tq 3 A (3 * 3)).map zc).flatten)],.box 24 [ri .i64 0,ri .i64 0,nilA],.box 24 [ri .i64 2,ri .i64 2,.own 3],.row 47 2 (ct i r * 2) ((tq 2 (rest A i k) (ct i r * 2)).map zc).flatten]) (fun r=>3 - r) 0 (by decide) (tsr rfl) (by rw [ct_zero,Nat.zero_mul] <;> rfl) ?_
 intro r t hr
 have hcr:=ct_le (w:=2) hr hi
 refine ifs rfl (fun h=>?_) (fun h=>?_)
 ·have h:=of_decide_eq_true h
  have hr : r < 3:=by omega
  by_cases e : r = i
  ·subst e
   refine lpt (fun c : Nat=>c ≤ 3) (fun c=>[(1,ri .i64 r),(2,ri .i64 k),(3,.ref 0 0),(6,.ref 1 0),(8,.ref 2 0),(44,ri .i64 3),(45,ri .i64 r),(9,ri .i64 r),(49,ri .i64 3),(50,ri .i64 c)]) (fun c=>[.box 24 [ri .i64 3,ri .i64 3,.im (.sl ((tq 3 A (3 * 3)).map zc).length 2 ((tq 3 A (3 * 3)).map zc).flatten)],.box 24 [ri .i64 0,ri .i64 0,nilA],.box 24 [ri .i64 2,ri .i64 2,.own 3],.row 47 2 (ct r r * 2) ((tq 2 (rest A r k) (ct r r * 2)).map zc).flatten]) (fun c=>3 - c) 0 (by decide) (tsr rfl) rfl ?_
   intro c t hc
   refine ifs rfl (fun h=>?_) (fun h=>?_)
   ·have h:=of_decide_eq_true h
    iterate 3 refine gf (bne_f r) ?_
    refine tf (bne_f r) ?_
    refine iff_ rfl rfl ?_
    refine nx (c + 1) (by omega) ⟨by omega,⟨rfl,rfl,rfl,rfl,rfl,rfl,rfl,rfl,rfl,congrArg (ri .i64) (i64s (by omega)).symm,trivial⟩,rfl⟩
   ·refine nx (r + 1) (by omega) ⟨by omega,⟨rfl,rfl,rfl,rfl,rfl,rfl,congrArg (ri .i64) (i64s (by omega)).symm,trivial⟩,?_⟩
    exact congrArg (fun q=>([.box 24 [ri .i64 3,ri .i64 3,.im (.sl ((tq 3 A (3 * 3)).map zc).length 2 ((tq 3 A (3 * 3)).map zc).flatten)],.box 24 [ri .i64 0,ri .i64 0,nilA],.box 24 [ri .i64 2,ri .i64 2,.own 3],.row 47 2 (q * 2) ((tq 2 (rest A r k) (q * 2)).map zc).flatten] : List AO)) (ct_eq r).symm
  ·refine lpt (fun c : Nat=>c ≤ 3) (fun c=>[(1,ri .i64 i),(2,ri .i64 k),(3,.ref 0 0),(6,.ref 1 0),(8,.ref 2 0),(44,ri .i64 3),(45,ri .i64 r),(9,ri .i64 r),(49,ri .i64 3),(50,ri .i64 c)]) (fun c=>[.box 24 [ri .i64 3,ri .i64 3,.im (.sl ((tq 3 A (3 * 3)).map zc).length 2 ((tq 3 A (3 * 3)).map zc).flatten)],.box 24 [ri .i64 0,ri .i64 0,nilA],.box 24 [ri .i64 2,ri .i64 2,.own 3],.row 47 2 (ct i r * 2 + ct k c) ((tq 2 (rest A i k) (ct i r * 2 + ct k c)).map zc).flatten]) (fun c=>3 - c) 0 (by decide) (tsr rfl) (by rw [ct_zero,Nat.add_zero] <;> rfl) ?_
   intro c t hc
   have hcc:=ct_le (w:=2) hc hk
   refine ifs rfl (fun h=>?_) (fun h=>?_)
   ·have h:=of_decide_eq_true h
    have hc : c < 3:=by omega
    iterate 3 refine gt (bne_t e) ?_
    refine tw (bne_t e) ?_
    by_cases e2 : c = k
    ·subst e2
     refine iff_ rfl (bne_f c) ?_
     refine nx (c + 1) (by omega) ⟨by omega,⟨rfl,rfl,rfl,rfl,rfl,rfl,rfl,rfl,rfl,congrArg (ri .i64) (i64s (by omega)).symm,trivial⟩,?_⟩
     exact congrArg (fun q=>([.box 24 [ri .i64 3,ri .i64 3,.im (.sl ((tq 3 A (3 * 3)).map zc).length 2 ((tq 3 A (3 * 3)).map zc).flatten)],.box 24 [ri .i64 0,ri .i64 0,nilA],.box 24 [ri .i64 2,ri .i64 2,.own 3],.row 47 2 (ct i r * 2 + q) ((tq 2 (rest A i c) (ct i r * 2 + q)).map zc).flatten] : List AO)) (ct_eq c).symm
    ·refine ift rfl (bne_t e2) ?_
     have hlt:=ct_lt (w:=2) e2 hk hc
     have hv : rest A i k (ct i r) (ct k c) = A r c:=by unfold rest; rw [sk_ct e,sk_ct e2]
     have es:=tq_step (rest A i k) (ct i r) hlt
     rw [hv] at es
     refine rq [0,1,2,3,4,5,6,7,8,9] ?_
     refine ce (zM_At (r:=3) (c:=3) (A:=A) (by decide) (by decide) (ha.mono (by decide)) hr hc) rfl ?_
     refine ⟨⟨?_,?_⟩,?_⟩
     ·show (ct i r * 2 + ct k c + 1) * 32 ≤ _; omega
     ·show ct i r * 2 + ct k c + 1 ≤ _; omega
     refine nxg [0,1,2,3] (c + 1) (by omega) rfl ⟨by omega,⟨rfl,rfl,rfl,rfl,rfl,rfl,rfl,rfl,rfl,congrArg (ri .i64) (i64s (by omega)).symm,trivial⟩,?_⟩
     refine Eq.trans ?_ (congrArg (fun q=>([.box 24 [ri .i64 3,ri .i64 3,.im (.sl ((tq 3 A (3 * 3)).map zc).length 2 ((tq 3 A (3 * 3)).map zc).flatten)],.box 24 [ri .i64 0,ri .i64 0,nilA],.box 24 [ri .i64 2,ri .i64 2,.own 3],.row 47 2 (ct i r * 2 + q) ((tq 2 (rest A i k) (ct i r * 2 + q)).map zc).flatten] : List AO)) (ct_ne e2).symm)
     refine Eq.trans ?_ (congrArg (fun l=>([.box 24 [ri .i64 3,ri .i64 3,.im (.sl ((tq 3 A (3 * 3)).map zc).length 2 ((tq 3 A (3 * 3)).map zc).flatten)],.box 24 [ri .i64 0,ri .i64 0,nilA],.box 24 [ri .i64 2,ri .i64 2,.own 3],.row 47 2 (ct i r * 2 + ct k c + 1) l] : List AO)) es.symm)
     exact rfl
   ·have h:=of_decide_eq_false h
    obtain rfl : c = 3:=by omega
    refine nx (r + 1) (by omega) ⟨by omega,⟨rfl,rfl,rfl,rfl,rfl,rfl,congrArg (ri .i64) (i64s (by omega)).symm,trivial⟩,?_⟩
    have e3 : ct i r * 2 + ct k 3 = ct i (r + 1) * 2:=by rw [ct_end (w:=2) hk,ct_ne e,Nat.add_mul,Nat.one_mul]
    exact congrArg (fun q=>([.box 24 [ri .i64 3,ri .i64 3,.im (.sl ((tq 3 A (3 * 3)).map zc).length 2 ((tq 3 A (3 * 3)).map zc).flatten)],.box 24 [ri .i64 0,ri .i64 0,nilA],.box 24 [ri .i64 2,ri .i64 2,.own 3],.row 47 2 (q) ((tq 2 (rest A i k) (q)).map zc).flatten] : List AO)) e3
 ·have h:=of_decide_eq_false h
  obtain rfl : r = 3:=by omega
  rw [ct_end (w:=2) hi]
  have e4 : zM 2 2 (rest A i k) = .agg [.raw (.int .i64 (2 : Nat)),.raw (.int .i64 (2 : Nat)),.sl (2 * 2) 2 ((tq 2 (rest A i k) (2 * 2)).map zc).flatten]:=by unfold zM zm mc; rw [List.length_map,tq_len]
  rw [e4]
  exact rfl
theorem b_Without4 {A : Nat → Nat → Int} {i k : Nat} (ha : ZB 5 4 4 A) (hi : i < 4) (hk : k < 4) : Pc Tryz.prog 369 [zM 4 4 A,.raw (.int .i64 (i : Int)),.raw (.int .i64 (k : Int))] (· = .tup [zM 3 3 (rest A i k),.raw (.int .i64 0)]):=by
 have g1 : decide ((i : Int) < 0) = false:=decide_eq_false (by omega)
 have g2 : decide ((i : Int) ≥ ((4 : Nat) : Int)) = false:=decide_eq_false (by omega)
 have g3 : decide ((k : Int) < 0) = false:=decide_eq_false (by omega)
 have g4 : decide ((k : Int) ≥ ((4 : Nat) : Int)) = false:=decide_eq_false (by omega)
 refine pc Tryz.func369 ?_
 refine ce (z_Formed (r:=4) (c:=4) (es:=(tq 4 A (4 * 4)).map zc) (by decide) (by decide) (by rw [List.length_map,tq_len])) rfl ?_
 refine iff_ rfl rfl ?_
 iterate 4 refine gt g1 ?_
 refine tf g1 ?_
 iterate 2 refine gt g2 ?_
 refine tf g2 ?_
 iterate 4 refine gt g3 ?_
 refine tf g3 ?_
 refine iff_ rfl g4 ?_
 refine lfb 2 2 47 2 rfl rfl ?_
 refine lpt (fun r : Nat=>r ≤ 4) (fun r=>[(1,ri .i64 i),(2,ri .i64 k),(3,.ref 0 0),(6,.ref 1 0),(8,.ref 2 0),(44,ri .i64 4),(45,ri .i64 r)]) (fun r=>[.box 24 [ri .i64 4,ri .i64 4,.im (.sl ((tq 4 A (4 * 4)).map zc).length 2 ((tq 4 A (4 * 4)).map zc).flatten)],.box 24 [ri .i64 0,ri .i64 0,nilA],.box 24 [ri .i64 3,ri .i64 3,.own 3],.row 47 2 (ct i r * 3) ((tq 3 (rest A i k) (ct i r * 3)).map zc).flatten]) (fun r=>4 - r) 0 (by decide) (tsr rfl) (by rw [ct_zero,Nat.zero_mul] <;> rfl) ?_
 intro r t hr
 have hcr:=ct_le (w:=3) hr hi
 refine ifs rfl (fun h=>?_) (fun h=>?_)
 ·have h:=of_decide_eq_true h
  have hr : r < 4:=by omega
  by_cases e : r = i
  ·subst e
   refine lpt (fun c : Nat=>c ≤ 4) (fun c=>[(1,ri .i64 r),(2,ri .i64 k),(3,.ref 0 0),(6,.ref 1 0),(8,.ref 2 0),(44,ri .i64 4),(45,ri .i64 r),(9,ri .i64 r),(49,ri .i64 4),(50,ri .i64 c)]) (fun c=>[.box 24 [ri .i64 4,ri .i64 4,.im (.sl ((tq 4 A (4 * 4)).map zc).length 2 ((tq 4 A (4 * 4)).map zc).flatten)],.box 24 [ri .i64 0,ri .i64 0,nilA],.box 24 [ri .i64 3,ri .i64 3,.own 3],.row 47 2 (ct r r * 3) ((tq 3 (rest A r k) (ct r r * 3)).map zc).flatten]) (fun c=>4 - c) 0 (by decide) (tsr rfl) rfl ?_
   intro c t hc
   refine ifs rfl (fun h=>?_) (fun h=>?_)
   ·have h:=of_decide_eq_true h
    iterate 3 refine gf (bne_f r) ?_
    refine tf (bne_f r) ?_
    refine iff_ rfl rfl ?_
    refine nx (c + 1) (by omega) ⟨by omega,⟨rfl,rfl,rfl,rfl,rfl,rfl,rfl,rfl,rfl,congrArg (ri .i64) (i64s (by omega)).symm,trivial⟩,rfl⟩
   ·refine nx (r + 1) (by omega) ⟨by omega,⟨rfl,rfl,rfl,rfl,rfl,rfl,congrArg (ri .i64) (i64s (by omega)).symm,trivial⟩,?_⟩
    exact congrArg (fun q=>([.box 24 [ri .i64 4,ri .i64 4,.im (.sl ((tq 4 A (4 * 4)).map zc).length 2 ((tq 4 A (4 * 4)).map zc).flatten)],.box 24 [ri .i64 0,ri .i64 0,nilA],.box 24 [ri .i64 3,ri .i64 3,.own 3],.row 47 2 (q * 3) ((tq 3 (rest A r k) (q * 3)).map zc).flatten] : List AO)) (ct_eq r).symm
  ·refine lpt (fun c : Nat=>c ≤ 4) (fun c=>[(1,ri .i64 i),(2,ri .i64 k),(3,.ref 0 0),(6,.ref 1 0),(8,.ref 2 0),(44,ri .i64 4),(45,ri .i64 r),(9,ri .i64 r),(49,ri .i64 4),(50,ri .i64 c)]) (fun c=>[.box 24 [ri .i64 4,ri .i64 4,.im (.sl ((tq 4 A (4 * 4)).map zc).length 2 ((tq 4 A (4 * 4)).map zc).flatten)],.box 24 [ri .i64 0,ri .i64 0,nilA],.box 24 [ri .i64 3,ri .i64 3,.own 3],.row 47 2 (ct i r * 3 + ct k c) ((tq 3 (rest A i k) (ct i r * 3 + ct k c)).map zc).flatten]) (fun c=>4 - c) 0 (by decide) (tsr rfl) (by rw [ct_zero,Nat.add_zero] <;> rfl) ?_
   intro c t hc
   have hcc:=ct_le (w:=3) hc hk
   refine ifs rfl (fun h=>?_) (fun h=>?_)
   ·have h:=of_decide_eq_true h
    have hc : c < 4:=by omega
    iterate 3 refine gt (bne_t e) ?_
    refine tw (bne_t e) ?_
    by_cases e2 : c = k
    ·subst e2
     refine iff_ rfl (bne_f c) ?_
     refine nx (c + 1) (by omega) ⟨by omega,⟨rfl,rfl,rfl,rfl,rfl,rfl,rfl,rfl,rfl,congrArg (ri .i64) (i64s (by omega)).symm,trivial⟩,?_⟩
     exact congrArg (fun q=>([.box 24 [ri .i64 4,ri .i64 4,.im (.sl ((tq 4 A (4 * 4)).map zc).length 2 ((tq 4 A (4 * 4)).map zc).flatten)],.box 24 [ri .i64 0,ri .i64 0,nilA],.box 24 [ri .i64 3,ri .i64 3,.own 3],.row 47 2 (ct i r * 3 + q) ((tq 3 (rest A i c) (ct i r * 3 + q)).map zc).flatten] : List AO)) (ct_eq c).symm
    ·refine ift rfl (bne_t e2) ?_
     have hlt:=ct_lt (w:=3) e2 hk hc
     have hv : rest A i k (ct i r) (ct k c) = A r c:=by unfold rest; rw [sk_ct e,sk_ct e2]
     have es:=tq_step (rest A i k) (ct i r) hlt
     rw [hv] at es
     refine rq [0,1,2,3,4,5,6,7,8,9] ?_
     refine ce (zM_At (r:=4) (c:=4) (A:=A) (by decide) (by decide) (ha.mono (by decide)) hr hc) rfl ?_
     refine ⟨⟨?_,?_⟩,?_⟩
     ·show (ct i r * 3 + ct k c + 1) * 32 ≤ _; omega
     ·show ct i r * 3 + ct k c + 1 ≤ _; omega
     refine nxg [0,1,2,3] (c + 1) (by omega) rfl ⟨by omega,⟨rfl,rfl,rfl,rfl,rfl,rfl,rfl,rfl,rfl,congrArg (ri .i64) (i64s (by omega)).symm,trivial⟩,?_⟩
     refine Eq.trans ?_ (congrArg (fun q=>([.box 24 [ri .i64 4,ri .i64 4,.im (.sl ((tq 4 A (4 * 4)).map zc).length 2 ((tq 4 A (4 * 4)).map zc).flatten)],.box 24 [ri .i64 0,ri .i64 0,nilA],.box 24 [ri .i64 3,ri .i64 3,.own 3],.row 47 2 (ct i r * 3 + q) ((tq 3 (rest A i k) (ct i r * 3 + q)).map zc).flatten] : List AO)) (ct_ne e2).symm)
     refine Eq.trans ?_ (congrArg (fun l=>([.box 24 [ri .i64 4,ri .i64 4,.im (.sl ((tq 4 A (4 * 4)).map zc).length 2 ((tq 4 A (4 * 4)).map zc).flatten)],.box 24 [ri .i64 0,ri .i64 0,nilA],.box 24 [ri .i64 3,ri .i64 3,.own 3],.row 47 2 (ct i r * 3 + ct k c + 1) l] : List AO)) es.symm)
     exact rfl
   ·have h:=of_decide_eq_false h
    obtain rfl : c = 4:=by omega
    refine nx (r + 1) (by omega) ⟨by omega,⟨rfl,rfl,rfl,rfl,rfl,rfl,congrArg (ri .i64) (i64s (by omega)).symm,trivial⟩,?_⟩
    have e3 : ct i r * 3 + ct k 4 = ct i (r + 1) * 3:=by rw [ct_end (w:=3) hk,ct_ne e,Nat.add_mul,Nat.one_mul]
    exact congrArg (fun q=>([.box 24 [ri .i64 4,ri .i64 4,.im (.sl ((tq 4 A (4 * 4)).map zc).length 2 ((tq 4 A (4 * 4)).map zc).flatten)],.box 24 [ri .i64 0,ri .i64 0,nilA],.box 24 [ri .i64 3,ri .i64 3,.own 3],.row 47 2 (q) ((tq 3 (rest A i k) (q)).map zc).flatten] : List AO)) e3
 ·have h:=of_decide_eq_false h
  obtain rfl : r = 4:=by omega
  rw [ct_end (w:=3) hi]
  have e4 : zM 3 3 (rest A i k) = .agg [.raw (.int .i64 (3 : Nat)),.raw (.int .i64 (3 : Nat)),.sl (3 * 3) 2 ((tq 3 (rest A i k) (3 * 3)).map zc).flatten]:=by unfold zM zm mc; rw [List.length_map,tq_len]
  rw [e4]
  exact rfl
theorem li_sm {B : Nat} : ∀ (n : Nat) (f : Nat → Int),(∀ i,i < n → li (f i) ≤ B) → li (sm n f) ≤ B + n + 1
 | 0,f,_=>by have : li 0 ≤ 1:=li0; exact Nat.le_trans this (by omega)
 | n + 1,f,h=>by
  show li (sm n f + f n) ≤ _
  have h1:=li_sm n f fun i hi=>h i (by omega)
  have h2:=h n (by omega)
  have:=li_add (sm n f) (f n)
  omega
theorem li_sg (k : Nat) (x : Int) : li (sg k x) = li x:=by
 unfold sg; split
 ·exact li_neg x
 ·rfl
def dLB (L : Nat) : Nat → Nat
 | 0=>1
 | n + 1=>L + dLB L n + (n + 2)
theorem li_dn {L : Nat} : ∀ (n : Nat) (A : Nat → Nat → Int),(∀ i k,i < n → k < n → li (A i k) ≤ L) → li (dn n A) ≤ dLB L n
 | 0,A,_=>Nat.le_of_eq ln_one
 | n + 1,A,h=>by
  refine li_sm (n + 1) (fun k=>sg k (A 0 k * dn n (mnr A k))) fun k hk=>?_
  rw [li_sg]
  have h1:=li_dn n (mnr A k) fun a b ha hb=>by unfold mnr; split <;> exact h _ _ (by omega) (by omega)
  have h2:=h 0 k (by omega) hk
  have:=li_mul (A 0 k) (dn n (mnr A k))
  omega
def adE (w : Nat) (A : Nat → Nat → Int) : Nat → Nat → Int:=fun i k=>if (i + k) % 2 = 1 then -dn w (rest A k i) else dn w (rest A k i)
theorem rest_zb {n L i k : Nat} {A : Nat → Nat → Int} (h : ZB L (n + 1) (n + 1) A) (hi : i < n + 1) (hk : k < n + 1) : ZB L n n (rest A i k):=by
 intro a b ha hb
 unfold rest sk; split <;> split <;> exact h _ _ (by omega) (by omega)
theorem par (i k : Nat) (h : i + k ≤ 100) : (IntKind.i64.wrap ((i : Int) + (k : Int))).tmod 2 = (((i + k) % 2 : Nat) : Int):=by
 rw [show IntKind.i64.wrap ((i : Int) + (k : Int)) = ((i + k : Nat) : Int) from i64n (by omega) (by omega)]
 exact (Int.ofNat_tmod _ _).symm
theorem b_Adjugate1 {A : Nat → Nat → Int} (ha : ZB 5 1 1 A) : Pc Tryz.prog 264 [zM 1 1 A] (· = .tup [zM 1 1 (adE 0 A),.raw (.int .i64 0)]):=by
 refine pc Tryz.func264 ?_
 refine ce (z_Formed (r:=1) (c:=1) (es:=(tq 1 A (1 * 1)).map zc) (by decide) (by decide) (by rw [List.length_map,tq_len])) rfl ?_
 iterate 5 refine gt rfl ?_
 refine tf rfl ?_
 refine iff_ rfl rfl ?_
 refine lfb 2 2 47 2 rfl rfl ?_
 refine lpt (fun i : Nat=>i ≤ 1) (fun i=>[(1,.ref 0 0),(2,.ref 1 0),(4,.ref 2 0),(28,ri .i64 1),(29,ri .i64 i)]) (fun i=>[.box 24 [ri .i64 1,ri .i64 1,.im (.sl ((tq 1 A (1 * 1)).map zc).length 2 ((tq 1 A (1 * 1)).map zc).flatten)],.box 24 [ri .i64 0,ri .i64 0,nilA],.box 24 [ri .i64 1,ri .i64 1,.own 3],.row 47 2 (i * 1) ((tq 1 (adE 0 A) (i * 1)).map zc).flatten]) (fun i=>1 - i) 0 (by decide) (tsr rfl) (by rw [Nat.zero_mul] <;> rfl) ?_
 intro i t hi
 refine ifs rfl (fun h=>?_) (fun h=>?_)
 ·have h:=of_decide_eq_true h
  have hi : i < 1:=by omega
  refine lpt (fun k : Nat=>k ≤ 1) (fun k=>[(1,.ref 0 0),(2,.ref 1 0),(4,.ref 2 0),(28,ri .i64 1),(29,ri .i64 i),(5,ri .i64 i),(33,ri .i64 1),(34,ri .i64 k)]) (fun k=>[.box 24 [ri .i64 1,ri .i64 1,.im (.sl ((tq 1 A (1 * 1)).map zc).length 2 ((tq 1 A (1 * 1)).map zc).flatten)],.box 24 [ri .i64 0,ri .i64 0,nilA],.box 24 [ri .i64 1,ri .i64 1,.own 3],.row 47 2 (i * 1 + k) ((tq 1 (adE 0 A) (i * 1 + k)).map zc).flatten]) (fun k=>1 - k) 0 (by decide) (tsr rfl) (by rw [Nat.add_zero] <;> rfl) ?_
  intro k t hk
  refine ifs rfl (fun h=>?_) (fun h=>?_)
  ·have h:=of_decide_eq_true h
   have hk : k < 1:=by omega
   have hl:=li_dn 0 (rest A k i) (rest_zb (n:=0) ha hk hi)
   have hl2 : dLB 5 0 ≤ 100:=by decide
   have es:=tq_step (w:=1) (adE 0 A) i hk
   refine ce (b_Without1 ha hk hi) rfl ?_
   refine ce (b_Det0) rfl ?_
   refine ⟨by decide,?_⟩
   refine ifs rfl (fun h2=>?_) (fun h2=>?_)
   ·have h2 : (i + k) % 2 = 1:=by have h2:=eq_of_beq h2; rw [par i k (by omega)] at h2; omega
    refine ce (z_Neg (z:=dn 0 (rest A k i)) (by omega)) rfl ?_
    rw [show adE 0 A i k = -dn 0 (rest A k i) from if_pos h2] at es
    refine ⟨⟨?_,?_⟩,?_⟩
    ·show (i * 1 + k + 1) * 32 ≤ _; omega
    ·show i * 1 + k + 1 ≤ _; omega
    refine nxg [0,1,2,3] (k + 1) (by omega) rfl ⟨by omega,⟨rfl,rfl,rfl,rfl,rfl,rfl,rfl,congrArg (ri .i64) (i64s (by omega)).symm,trivial⟩,?_⟩
    refine Eq.trans ?_ (congrArg (fun l=>([.box 24 [ri .i64 1,ri .i64 1,.im (.sl ((tq 1 A (1 * 1)).map zc).length 2 ((tq 1 A (1 * 1)).map zc).flatten)],.box 24 [ri .i64 0,ri .i64 0,nilA],.box 24 [ri .i64 1,ri .i64 1,.own 3],.row 47 2 (i * 1 + k + 1) l] : List AO)) es.symm)
    exact rfl
   ·have h2 : ¬ (i + k) % 2 = 1:=by have h2:=ne_of_beq_false h2; rw [par i k (by omega)] at h2; omega
    rw [show adE 0 A i k = dn 0 (rest A k i) from if_neg h2] at es
    refine ⟨⟨?_,?_⟩,?_⟩
    ·show (i * 1 + k + 1) * 32 ≤ _; omega
    ·show i * 1 + k + 1 ≤ _; omega
    refine nxg [0,1,2,3] (k + 1) (by omega) rfl ⟨by omega,⟨rfl,rfl,rfl,rfl,rfl,rfl,rfl,congrArg (ri .i64) (i64s (by omega)).symm,trivial⟩,?_⟩
    refine Eq.trans ?_ (congrArg (fun l=>([.box 24 [ri .i64 1,ri .i64 1,.im (.sl ((tq 1 A (1 * 1)).map zc).length 2 ((tq 1 A (1 * 1)).map zc).flatten)],.box 24 [ri .i64 0,ri .i64 0,nilA],.box 24 [ri .i64 1,ri .i64 1,.own 3],.row 47 2 (i * 1 + k + 1) l] : List AO)) es.symm)
    exact rfl
  ·have h:=of_decide_eq_false h
   obtain rfl : k = 1:=by omega
   refine nx (i + 1) (by omega) ⟨by omega,⟨rfl,rfl,rfl,rfl,congrArg (ri .i64) (i64s (by omega)).symm,trivial⟩,?_⟩
   have e3 : i * 1 + 1 = (i + 1) * 1:=by omega
   exact congrArg (fun q=>([.box 24 [ri .i64 1,ri .i64 1,.im (.sl ((tq 1 A (1 * 1)).map zc).length 2 ((tq 1 A (1 * 1)).map zc).flatten)],.box 24 [ri .i64 0,ri .i64 0,nilA],.box 24 [ri .i64 1,ri .i64 1,.own 3],.row 47 2 (q) ((tq 1 (adE 0 A) (q)).map zc).flatten] : List AO)) e3
 ·have h:=of_decide_eq_false h
  obtain rfl : i = 1:=by omega
  have e4 : zM 1 1 (adE 0 A) = .agg [.raw (.int .i64 (1 : Nat)),.raw (.int .i64 (1 : Nat)),.sl (1 * 1) 2 ((tq 1 (adE 0 A) (1 * 1)).map zc).flatten]:=by unfold zM zm mc; rw [List.length_map,tq_len]
  rw [e4]
  exact rfl
theorem b_Adjugate2 {A : Nat → Nat → Int} (ha : ZB 5 2 2 A) : Pc Tryz.prog 264 [zM 2 2 A] (· = .tup [zM 2 2 (adE 1 A),.raw (.int .i64 0)]):=by
 refine pc Tryz.func264 ?_
 refine ce (z_Formed (r:=2) (c:=2) (es:=(tq 2 A (2 * 2)).map zc) (by decide) (by decide) (by rw [List.length_map,tq_len])) rfl ?_
 iterate 5 refine gt rfl ?_
 refine tf rfl ?_
 refine iff_ rfl rfl ?_
 refine lfb 2 2 47 2 rfl rfl ?_
 refine lpt (fun i : Nat=>i ≤ 2) (fun i=>[(1,.ref 0 0),(2,.ref 1 0),(4,.ref 2 0),(28,ri .i64 2),(29,ri .i64 i)]) (fun i=>[.box 24 [ri .i64 2,ri .i64 2,.im (.sl ((tq 2 A (2 * 2)).map zc).length 2 ((tq 2 A (2 * 2)).map zc).flatten)],.box 24 [ri .i64 0,ri .i64 0,nilA],.box 24 [ri .i64 2,ri .i64 2,.own 3],.row 47 2 (i * 2) ((tq 2 (adE 1 A) (i * 2)).map zc).flatten]) (fun i=>2 - i) 0 (by decide) (tsr rfl) (by rw [Nat.zero_mul] <;> rfl) ?_
 intro i t hi
 refine ifs rfl (fun h=>?_) (fun h=>?_)
 ·have h:=of_decide_eq_true h
  have hi : i < 2:=by omega
  refine lpt (fun k : Nat=>k ≤ 2) (fun k=>[(1,.ref 0 0),(2,.ref 1 0),(4,.ref 2 0),(28,ri .i64 2),(29,ri .i64 i),(5,ri .i64 i),(33,ri .i64 2),(34,ri .i64 k)]) (fun k=>[.box 24 [ri .i64 2,ri .i64 2,.im (.sl ((tq 2 A (2 * 2)).map zc).length 2 ((tq 2 A (2 * 2)).map zc).flatten)],.box 24 [ri .i64 0,ri .i64 0,nilA],.box 24 [ri .i64 2,ri .i64 2,.own 3],.row 47 2 (i * 2 + k) ((tq 2 (adE 1 A) (i * 2 + k)).map zc).flatten]) (fun k=>2 - k) 0 (by decide) (tsr rfl) (by rw [Nat.add_zero] <;> rfl) ?_
  intro k t hk
  refine ifs rfl (fun h=>?_) (fun h=>?_)
  ·have h:=of_decide_eq_true h
   have hk : k < 2:=by omega
   have hl:=li_dn 1 (rest A k i) (rest_zb (n:=1) ha hk hi)
   have hl2 : dLB 5 1 ≤ 100:=by decide
   have es:=tq_step (w:=2) (adE 1 A) i hk
   refine ce (b_Without2 ha hk hi) rfl ?_
   refine ce (b_Det1 (rest_zb (n:=1) ha hk hi)) rfl ?_
   refine ⟨by decide,?_⟩
   refine ifs rfl (fun h2=>?_) (fun h2=>?_)
   ·have h2 : (i + k) % 2 = 1:=by have h2:=eq_of_beq h2; rw [par i k (by omega)] at h2; omega
    refine ce (z_Neg (z:=dn 1 (rest A k i)) (by omega)) rfl ?_
    rw [show adE 1 A i k = -dn 1 (rest A k i) from if_pos h2] at es
    refine ⟨⟨?_,?_⟩,?_⟩
    ·show (i * 2 + k + 1) * 32 ≤ _; omega
    ·show i * 2 + k + 1 ≤ _; omega
    refine nxg [0,1,2,3] (k + 1) (by omega) rfl ⟨by omega,⟨rfl,rfl,rfl,rfl,rfl,rfl,rfl,congrArg (ri .i64) (i64s (by omega)).symm,trivial⟩,?_⟩
    refine Eq.trans ?_ (congrArg (fun l=>([.box 24 [ri .i64 2,ri .i64 2,.im (.sl ((tq 2 A (2 * 2)).map zc).length 2 ((tq 2 A (2 * 2)).map zc).flatten)],.box 24 [ri .i64 0,ri .i64 0,nilA],.box 24 [ri .i64 2,ri .i64 2,.own 3],.row 47 2 (i * 2 + k + 1) l] : List AO)) es.symm)
    exact rfl
   ·have h2 : ¬ (i + k) % 2 = 1:=by have h2:=ne_of_beq_false h2; rw [par i k (by omega)] at h2; omega
    rw [show adE 1 A i k = dn 1 (rest A k i) from if_neg h2] at es
    refine ⟨⟨?_,?_⟩,?_⟩
    ·show (i * 2 + k + 1) * 32 ≤ _; omega
    ·show i * 2 + k + 1 ≤ _; omega
    refine nxg [0,1,2,3] (k + 1) (by omega) rfl ⟨by omega,⟨rfl,rfl,rfl,rfl,rfl,rfl,rfl,congrArg (ri .i64) (i64s (by omega)).symm,trivial⟩,?_⟩
    refine Eq.trans ?_ (congrArg (fun l=>([.box 24 [ri .i64 2,ri .i64 2,.im (.sl ((tq 2 A (2 * 2)).map zc).length 2 ((tq 2 A (2 * 2)).map zc).flatten)],.box 24 [ri .i64 0,ri .i64 0,nilA],.box 24 [ri .i64 2,ri .i64 2,.own 3],.row 47 2 (i * 2 + k + 1) l] : List AO)) es.symm)
    exact rfl
  ·have h:=of_decide_eq_false h
   obtain rfl : k = 2:=by omega
   refine nx (i + 1) (by omega) ⟨by omega,⟨rfl,rfl,rfl,rfl,congrArg (ri .i64) (i64s (by omega)).symm,trivial⟩,?_⟩
   have e3 : i * 2 + 2 = (i + 1) * 2:=by omega
   exact congrArg (fun q=>([.box 24 [ri .i64 2,ri .i64 2,.im (.sl ((tq 2 A (2 * 2)).map zc).length 2 ((tq 2 A (2 * 2)).map zc).flatten)],.box 24 [ri .i64 0,ri .i64 0,nilA],.box 24 [ri .i64 2,ri .i64 2,.own 3],.row 47 2 (q) ((tq 2 (adE 1 A) (q)).map zc).flatten] : List AO)) e3
 ·have h:=of_decide_eq_false h
  obtain rfl : i = 2:=by omega
  have e4 : zM 2 2 (adE 1 A) = .agg [.raw (.int .i64 (2 : Nat)),.raw (.int .i64 (2 : Nat)),.sl (2 * 2) 2 ((tq 2 (adE 1 A) (2 * 2)).map zc).flatten]:=by unfold zM zm mc; rw [List.length_map,tq_len]
  rw [e4]
  exact rfl
theorem b_Adjugate3 {A : Nat → Nat → Int} (ha : ZB 5 3 3 A) : Pc Tryz.prog 264 [zM 3 3 A] (· = .tup [zM 3 3 (adE 2 A),.raw (.int .i64 0)]):=by
 refine pc Tryz.func264 ?_
 refine ce (z_Formed (r:=3) (c:=3) (es:=(tq 3 A (3 * 3)).map zc) (by decide) (by decide) (by rw [List.length_map,tq_len])) rfl ?_
 iterate 5 refine gt rfl ?_
 refine tf rfl ?_
 refine iff_ rfl rfl ?_
 refine lfb 2 2 47 2 rfl rfl ?_
 refine lpt (fun i : Nat=>i ≤ 3) (fun i=>[(1,.ref 0 0),(2,.ref 1 0),(4,.ref 2 0),(28,ri .i64 3),(29,ri .i64 i)]) (fun i=>[.box 24 [ri .i64 3,ri .i64 3,.im (.sl ((tq 3 A (3 * 3)).map zc).length 2 ((tq 3 A (3 * 3)).map zc).flatten)],.box 24 [ri .i64 0,ri .i64 0,nilA],.box 24 [ri .i64 3,ri .i64 3,.own 3],.row 47 2 (i * 3) ((tq 3 (adE 2 A) (i * 3)).map zc).flatten]) (fun i=>3 - i) 0 (by decide) (tsr rfl) (by rw [Nat.zero_mul] <;> rfl) ?_
 intro i t hi
 refine ifs rfl (fun h=>?_) (fun h=>?_)
 ·have h:=of_decide_eq_true h
  have hi : i < 3:=by omega
  refine lpt (fun k : Nat=>k ≤ 3) (fun k=>[(1,.ref 0 0),(2,.ref 1 0),(4,.ref 2 0),(28,ri .i64 3),(29,ri .i64 i),(5,ri .i64 i),(33,ri .i64 3),(34,ri .i64 k)]) (fun k=>[.box 24 [ri .i64 3,ri .i64 3,.im (.sl ((tq 3 A (3 * 3)).map zc).length 2 ((tq 3 A (3 * 3)).map zc).flatten)],.box 24 [ri .i64 0,ri .i64 0,nilA],.box 24 [ri .i64 3,ri .i64 3,.own 3],.row 47 2 (i * 3 + k) ((tq 3 (adE 2 A) (i * 3 + k)).map zc).flatten]) (fun k=>3 - k) 0 (by decide) (tsr rfl) (by rw [Nat.add_zero] <;> rfl) ?_
  intro k t hk
  refine ifs rfl (fun h=>?_) (fun h=>?_)
  ·have h:=of_decide_eq_true h
   have hk : k < 3:=by omega
   have hl:=li_dn 2 (rest A k i) (rest_zb (n:=2) ha hk hi)
   have hl2 : dLB 5 2 ≤ 100:=by decide
   have es:=tq_step (w:=3) (adE 2 A) i hk
   refine ce (b_Without3 ha hk hi) rfl ?_
   refine ce (b_Det2 (rest_zb (n:=2) ha hk hi)) rfl ?_
   refine ⟨by decide,?_⟩
   refine ifs rfl (fun h2=>?_) (fun h2=>?_)
   ·have h2 : (i + k) % 2 = 1:=by have h2:=eq_of_beq h2; rw [par i k (by omega)] at h2; omega
    refine ce (z_Neg (z:=dn 2 (rest A k i)) (by omega)) rfl ?_
    rw [show adE 2 A i k = -dn 2 (rest A k i) from if_pos h2] at es
    refine ⟨⟨?_,?_⟩,?_⟩
    ·show (i * 3 + k + 1) * 32 ≤ _; omega
    ·show i * 3 + k + 1 ≤ _; omega
    refine nxg [0,1,2,3] (k + 1) (by omega) rfl ⟨by omega,⟨rfl,rfl,rfl,rfl,rfl,rfl,rfl,congrArg (ri .i64) (i64s (by omega)).symm,trivial⟩,?_⟩
    refine Eq.trans ?_ (congrArg (fun l=>([.box 24 [ri .i64 3,ri .i64 3,.im (.sl ((tq 3 A (3 * 3)).map zc).length 2 ((tq 3 A (3 * 3)).map zc).flatten)],.box 24 [ri .i64 0,ri .i64 0,nilA],.box 24 [ri .i64 3,ri .i64 3,.own 3],.row 47 2 (i * 3 + k + 1) l] : List AO)) es.symm)
    exact rfl
   ·have h2 : ¬ (i + k) % 2 = 1:=by have h2:=ne_of_beq_false h2; rw [par i k (by omega)] at h2; omega
    rw [show adE 2 A i k = dn 2 (rest A k i) from if_neg h2] at es
    refine ⟨⟨?_,?_⟩,?_⟩
    ·show (i * 3 + k + 1) * 32 ≤ _; omega
    ·show i * 3 + k + 1 ≤ _; omega
    refine nxg [0,1,2,3] (k + 1) (by omega) rfl ⟨by omega,⟨rfl,rfl,rfl,rfl,rfl,rfl,rfl,congrArg (ri .i64) (i64s (by omega)).symm,trivial⟩,?_⟩
    refine Eq.trans ?_ (congrArg (fun l=>([.box 24 [ri .i64 3,ri .i64 3,.im (.sl ((tq 3 A (3 * 3)).map zc).length 2 ((tq 3 A (3 * 3)).map zc).flatten)],.box 24 [ri .i64 0,ri .i64 0,nilA],.box 24 [ri .i64 3,ri .i64 3,.own 3],.row 47 2 (i * 3 + k + 1) l] : List AO)) es.symm)
    exact rfl
  ·have h:=of_decide_eq_false h
   obtain rfl : k = 3:=by omega
   refine nx (i + 1) (by omega) ⟨by omega,⟨rfl,rfl,rfl,rfl,congrArg (ri .i64) (i64s (by omega)).symm,trivial⟩,?_⟩
   have e3 : i * 3 + 3 = (i + 1) * 3:=by omega
   exact congrArg (fun q=>([.box 24 [ri .i64 3,ri .i64 3,.im (.sl ((tq 3 A (3 * 3)).map zc).length 2 ((tq 3 A (3 * 3)).map zc).flatten)],.box 24 [ri .i64 0,ri .i64 0,nilA],.box 24 [ri .i64 3,ri .i64 3,.own 3],.row 47 2 (q) ((tq 3 (adE 2 A) (q)).map zc).flatten] : List AO)) e3
 ·have h:=of_decide_eq_false h
  obtain rfl : i = 3:=by omega
  have e4 : zM 3 3 (adE 2 A) = .agg [.raw (.int .i64 (3 : Nat)),.raw (.int .i64 (3 : Nat)),.sl (3 * 3) 2 ((tq 3 (adE 2 A) (3 * 3)).map zc).flatten]:=by unfold zM zm mc; rw [List.length_map,tq_len]
  rw [e4]
  exact rfl
theorem b_Adjugate4 {A : Nat → Nat → Int} (ha : ZB 5 4 4 A) : Pc Tryz.prog 264 [zM 4 4 A] (· = .tup [zM 4 4 (adE 3 A),.raw (.int .i64 0)]):=by
 refine pc Tryz.func264 ?_
 refine ce (z_Formed (r:=4) (c:=4) (es:=(tq 4 A (4 * 4)).map zc) (by decide) (by decide) (by rw [List.length_map,tq_len])) rfl ?_
 iterate 5 refine gt rfl ?_
 refine tf rfl ?_
 refine iff_ rfl rfl ?_
 refine lfb 2 2 47 2 rfl rfl ?_
 refine lpt (fun i : Nat=>i ≤ 4) (fun i=>[(1,.ref 0 0),(2,.ref 1 0),(4,.ref 2 0),(28,ri .i64 4),(29,ri .i64 i)]) (fun i=>[.box 24 [ri .i64 4,ri .i64 4,.im (.sl ((tq 4 A (4 * 4)).map zc).length 2 ((tq 4 A (4 * 4)).map zc).flatten)],.box 24 [ri .i64 0,ri .i64 0,nilA],.box 24 [ri .i64 4,ri .i64 4,.own 3],.row 47 2 (i * 4) ((tq 4 (adE 3 A) (i * 4)).map zc).flatten]) (fun i=>4 - i) 0 (by decide) (tsr rfl) (by rw [Nat.zero_mul] <;> rfl) ?_
 intro i t hi
 refine ifs rfl (fun h=>?_) (fun h=>?_)
 ·have h:=of_decide_eq_true h
  have hi : i < 4:=by omega
  refine lpt (fun k : Nat=>k ≤ 4) (fun k=>[(1,.ref 0 0),(2,.ref 1 0),(4,.ref 2 0),(28,ri .i64 4),(29,ri .i64 i),(5,ri .i64 i),(33,ri .i64 4),(34,ri .i64 k)]) (fun k=>[.box 24 [ri .i64 4,ri .i64 4,.im (.sl ((tq 4 A (4 * 4)).map zc).length 2 ((tq 4 A (4 * 4)).map zc).flatten)],.box 24 [ri .i64 0,ri .i64 0,nilA],.box 24 [ri .i64 4,ri .i64 4,.own 3],.row 47 2 (i * 4 + k) ((tq 4 (adE 3 A) (i * 4 + k)).map zc).flatten]) (fun k=>4 - k) 0 (by decide) (tsr rfl) (by rw [Nat.add_zero] <;> rfl) ?_
  intro k t hk
  refine ifs rfl (fun h=>?_) (fun h=>?_)
  ·have h:=of_decide_eq_true h
   have hk : k < 4:=by omega
   have hl:=li_dn 3 (rest A k i) (rest_zb (n:=3) ha hk hi)
   have hl2 : dLB 5 3 ≤ 100:=by decide
   have es:=tq_step (w:=4) (adE 3 A) i hk
   refine ce (b_Without4 ha hk hi) rfl ?_
   refine ce (b_Det3 (rest_zb (n:=3) ha hk hi)) rfl ?_
   refine ⟨by decide,?_⟩
   refine ifs rfl (fun h2=>?_) (fun h2=>?_)
   ·have h2 : (i + k) % 2 = 1:=by have h2:=eq_of_beq h2; rw [par i k (by omega)] at h2; omega
    refine ce (z_Neg (z:=dn 3 (rest A k i)) (by omega)) rfl ?_
    rw [show adE 3 A i k = -dn 3 (rest A k i) from if_pos h2] at es
    refine ⟨⟨?_,?_⟩,?_⟩
    ·show (i * 4 + k + 1) * 32 ≤ _; omega
    ·show i * 4 + k + 1 ≤ _; omega
    refine nxg [0,1,2,3] (k + 1) (by omega) rfl ⟨by omega,⟨rfl,rfl,rfl,rfl,rfl,rfl,rfl,congrArg (ri .i64) (i64s (by omega)).symm,trivial⟩,?_⟩
    refine Eq.trans ?_ (congrArg (fun l=>([.box 24 [ri .i64 4,ri .i64 4,.im (.sl ((tq 4 A (4 * 4)).map zc).length 2 ((tq 4 A (4 * 4)).map zc).flatten)],.box 24 [ri .i64 0,ri .i64 0,nilA],.box 24 [ri .i64 4,ri .i64 4,.own 3],.row 47 2 (i * 4 + k + 1) l] : List AO)) es.symm)
    exact rfl
   ·have h2 : ¬ (i + k) % 2 = 1:=by have h2:=ne_of_beq_false h2; rw [par i k (by omega)] at h2; omega
    rw [show adE 3 A i k = dn 3 (rest A k i) from if_neg h2] at es
    refine ⟨⟨?_,?_⟩,?_⟩
    ·show (i * 4 + k + 1) * 32 ≤ _; omega
    ·show i * 4 + k + 1 ≤ _; omega
    refine nxg [0,1,2,3] (k + 1) (by omega) rfl ⟨by omega,⟨rfl,rfl,rfl,rfl,rfl,rfl,rfl,congrArg (ri .i64) (i64s (by omega)).symm,trivial⟩,?_⟩
    refine Eq.trans ?_ (congrArg (fun l=>([.box 24 [ri .i64 4,ri .i64 4,.im (.sl ((tq 4 A (4 * 4)).map zc).length 2 ((tq 4 A (4 * 4)).map zc).flatten)],.box 24 [ri .i64 0,ri .i64 0,nilA],.box 24 [ri .i64 4,ri .i64 4,.own 3],.row 47 2 (i * 4 + k + 1) l] : List AO)) es.symm)
    exact rfl
  ·have h:=of_decide_eq_false h
   obtain rfl : k = 4:=by omega
   refine nx (i + 1) (by omega) ⟨by omega,⟨rfl,rfl,rfl,rfl,congrArg (ri .i64) (i64s (by omega)).symm,trivial⟩,?_⟩
   have e3 : i * 4 + 4 = (i + 1) * 4:=by omega
   exact congrArg (fun q=>([.box 24 [ri .i64 4,ri .i64 4,.im (.sl ((tq 4 A (4 * 4)).map zc).length 2 ((tq 4 A (4 * 4)).map zc).flatten)],.box 24 [ri .i64 0,ri .i64 0,nilA],.box 24 [ri .i64 4,ri .i64 4,.own 3],.row 47 2 (q) ((tq 4 (adE 3 A) (q)).map zc).flatten] : List AO)) e3
 ·have h:=of_decide_eq_false h
  obtain rfl : i = 4:=by omega
  have e4 : zM 4 4 (adE 3 A) = .agg [.raw (.int .i64 (4 : Nat)),.raw (.int .i64 (4 : Nat)),.sl (4 * 4) 2 ((tq 4 (adE 3 A) (4 * 4)).map zc).flatten]:=by unfold zM zm mc; rw [List.length_map,tq_len]
  rw [e4]
  exact rfl
theorem b_Adjugate0 {A : Nat → Nat → Int} : Pc Tryz.prog 264 [zM 0 0 A] (· = .tup [zM 0 0 A,.raw (.int .i64 0)]):=by
 refine pc Tryz.func264 ?_
 refine ce (z_Formed (r:=0) (c:=0) (es:=(tq 0 A (0 * 0)).map zc) (by decide) (by decide) (by rw [List.length_map,tq_len])) rfl ?_
 iterate 5 refine gt rfl ?_
 refine tf rfl ?_
 refine iff_ rfl rfl ?_
 refine lfb 2 2 47 2 rfl rfl ?_
 refine lpn 1 ?_
 refine iff_ rfl rfl ?_
 exact rfl
theorem t_square {n : Nat} {A : Nat → Nat → Int} (hn : n ≤ 64) : Pc Tryz.prog 367 [zM n n A] (· = .raw (.bool true)):=by
 refine pc Tryz.func367 ?_
 refine ce (z_Formed (r:=n) (c:=n) (es:=(tq n A (n * n)).map zc) hn hn (by rw [List.length_map,tq_len])) rfl ?_
 iterate 5 refine gt rfl ?_
 refine tw rfl ?_
 exact congrArg (fun b=>IV.raw (.bool b)) (by simp)
theorem t_trace {n : Nat} {A : Nat → Nat → Int} (hn : n ≤ 64) (ha : ZB 10000 n n A) : Pc Tryz.prog 368 [zM n n A] (· = iz (sm n fun i=>A i i)):=by
 refine Pc.weak ?_
 refine pc Tryz.func368 ?_
 refine lpt4 (fun (i : Nat) (s : Int) (c1 c2 : IV)=>i ≤ n ∧ s = sm i (fun i=>A i i) ∧ Sub (.agg [c1,c2]) (iz s)) (fun i _ _ _=>[(1,.ref 0 0),(2,.ref 1 0),(3,.ref 2 0),(6,ri .i64 n),(7,ri .i64 i)])
  (fun _ _ c1 c2=>[.box 24 [ri .i64 n,ri .i64 n,.im (.sl ((tq n A (n * n)).map zc).length 2 ((tq n A (n * n)).map zc).flatten)],.box 47 [.im (.raw (.bool false)),nilA],.box 47 [.im c1,.im c2]])
  (fun i _ _ _=>n - i) 0 0 (.raw (.bool false)) (.raw (.slice none 0 0)) ⟨Nat.zero_le _,rfl,z_nil⟩ (tsr rfl) rfl ?_
 rintro i s c1 c2 t ⟨hi,hs,hc⟩
 refine ifs rfl (fun h=>?_) (fun h=>?_)
 ·have h:=of_decide_eq_true h
  have hi : i < n:=by omega
  have hb : li s ≤ 10000 + i + 1:=by rw [hs]; exact li_sm i _ fun j hj=>ha j j (by omega) (by omega)
  have hb2:=ha i i hi hi
  refine rq [0,1,2,3,4,5,6] ?_
  refine ce (zM_At (A:=A) hn hn ha hi hi) rfl ?_
  have ca:=(z_Add (a:=s) (b:=A i i) (by omega) (by omega)).sub (xs:=[.agg [c1,c2],iz (A i i)]) ⟨hc,Sub.refl _,trivial⟩
  refine ce ca rfl ?_
  refine nx4 (i + 1) (s + A i i) (.raw (.bool (decide (s + A i i < 0)))) (na (s + A i i).natAbs) (by omega) ⟨by omega,by rw [hs]; rfl,Sub.refl _⟩ ⟨rfl,rfl,rfl,rfl,congrArg (ri .i64) (i64s (by omega)).symm,trivial⟩ rfl
 ·have h:=of_decide_eq_false h
  obtain rfl : i = n:=by omega
  rw [← hs]
  exact hc
theorem t_Trace {n : Nat} {A : Nat → Nat → Int} (hn : n ≤ 64) (ha : ZB 10000 n n A) : Pc Tryz.prog 263 [zM n n A] (· = .tup [iz (sm n fun i=>A i i),.raw (.int .i64 0)]):=by
 refine pc Tryz.func263 ?_
 refine ce (t_square hn) rfl ?_
 refine iff_ rfl rfl ?_
 refine ce (t_trace hn ha) rfl ?_
 exact rfl
theorem z_made0 {f : IV} : Pc Tryz.prog 342 [.raw (.int .i64 0),.raw (.int .i64 0),f] (· = .agg [.raw (.int .i64 0),.raw (.int .i64 0),.raw (.slice none 0 0)]):=by
 refine pc Tryz.func342 ?_
 refine lpn 1 ?_
 refine iff_ rfl rfl ?_
 exact rfl
theorem z_New0 : Pc Tryz.prog 242 [.raw (.int .i64 0),.raw (.int .i64 0)] (· = .tup [.agg [.raw (.int .i64 0),.raw (.int .i64 0),.raw (.slice none 0 0)],.raw (.int .i64 0)]):=by
 refine pc Tryz.func242 ?_
 refine ce (z_side (n:=0) (by decide)) rfl ?_
 iterate 1 refine gt rfl ?_
 refine gt rfl ?_
 refine ce (z_side (n:=0) (by decide)) rfl ?_
 refine gt rfl ?_
 refine tf rfl ?_
 refine iff_ rfl rfl ?_
 refine ce z_made0 rfl ?_
 exact rfl
end Go.Proofs.YtlhmaljjdpjkgaaGreatDoor
