/- Values: their bits; operations on two. -/
import Derived.Test.YtlhmaljjdpjkgaaGreatDoorTaM16
import Derived.Test.YtlhmaljjdpjkgaaGreatDoorTaM14
import Derived.Test.YtlhmaljjdpjkgaaGreatDoorTaM9
import Derived.Test.YtlhmaljjdpjkgaaGreatDoorTaM10
set_option maxHeartbeats 4000000
namespace Go.Proofs.YtlhmaljjdpjkgaaGreatDoor
open Go Go.RowKit
theorem bl_le (a : Nat) : bl a ≤ 64 * ln a:=by
 obtain ⟨h1,h2⟩:=isBl_bl a
 rcases Nat.lt_or_ge (64 * ln a) (bl a) with h | h
 ·exfalso
  have h3:=h2 (by omega)
  have h4:=lt_ln a
  have h5 : W64 ^ ln a = 2 ^ (64 * ln a):=by rw [Nat.pow_mul]; exact congrArg (· ^ ln a) (by decide)
  have h6 : 2 ^ (64 * ln a) ≤ 2 ^ (bl a - 1):=Nat.pow_le_pow_right (by decide) (by omega)
  omega
 ·exact h
theorem r_Bits' {q : Rat} {L : Nat} (h : lr q ≤ L) (hL : L ≤ 100000) : Pc Tryz.prog 231 [iq q] (fun r=>∃ k : Nat,r = .raw (.int .i64 k) ∧ k ≤ 64 * L):=
 (r_Bits (q:=q) (by omega)).mono fun r e=>by
  subst e
  have h1:=lr_num q; have h2:=lr_den q
  have b1:=bl_le q.num.natAbs; have b2:=bl_le q.den
  have e1 : li q.num = ln q.num.natAbs:=rfl
  have e2 : li (q.den : Int) = ln q.den:=rfl
  split
  ·exact ⟨bl q.den,rfl,by omega⟩
  ·exact ⟨bl q.num.natAbs,rfl,by omega⟩
theorem n_Of0 : Pc Tryz.prog 35 [.raw (.int .u64 0)] (· = na 0):=n_Of (x:=0) rfl (by decide)
theorem blz : bl 0 = 0:=(isBl_bl _).unique ⟨by decide,fun h=>absurd h (by decide)⟩
theorem v_bitsN {q : Rat} {L : Nat} (h : lr q ≤ L) (hL : L ≤ 100000) : Pc Tryz.prog 194 [VN q] (fun r=>∃ k : Nat,r = .raw (.int .i64 k) ∧ k ≤ 64 * L):=by
 refine pc Tryz.func194 ?_
 refine ce n_Of0 rfl ?_
 refine ce (n_Bits (a:=0) (Nat.le_trans li0 (by decide))) rfl ?_
 refine ift rfl rfl ?_
 refine cl (r_Bits' h hL) rfl ?_
 rintro _ ⟨k,rfl,hk⟩
 exact ⟨k,rfl,hk⟩
theorem v_bitsM {r c L : Nat} {A : Nat → Nat → Rat} (hr : r ≤ 64) (hc : c ≤ 64) (ha : LB L r c A) (hL : L ≤ 10000) : Pc Tryz.prog 194 [VM r c A] (fun x=>∃ k : Nat,x = .raw (.int .i64 k) ∧ k ≤ 64 * L):=by
 have hrc : r * c ≤ 64 * 64:=Nat.mul_le_mul hr hc
 have hlen : ((tq c A (r * c)).map qc).length = r * c:=by rw [List.length_map,tq_len]
 refine pc Tryz.func194 ?_
 refine ce n_Of0 rfl ?_
 refine ce (n_Bits (a:=0) (Nat.le_trans li0 (by decide))) rfl ?_
 rw [blz]
 refine iff_ rfl rfl ?_
 refine ift rfl rfl ?_
 refine lpt2 (fun (j k : Nat)=>j ≤ r * c ∧ k ≤ 64 * L) (fun j k=>[(1,.ref 0 0),(3,ri .i64 k),(25,.im (.sl ((tq c A (r * c)).map qc).length 4 ((tq c A (r * c)).map qc).flatten)),(26,ri .i64 ((tq c A (r * c)).map qc).length),(27,ri .i64 j)])
  (fun j k=>[.box 57 [ri .i64 2,rb false,.im nilI,rb false,.im nilI,ri .i64 r,ri .i64 c,.im (.sl ((tq c A (r * c)).map qc).length 4 ((tq c A (r * c)).map qc).flatten),.im nilI,ri .u64 0,ri .i64 0,ri .i64 0,.im nilI,.im nilI,.im nilI]])
  (fun j _=>r * c - j) 0 0 ⟨Nat.zero_le _,Nat.zero_le _⟩ (tsr rfl) rfl ?_
 rintro j k t ⟨hj,hk⟩
 refine ifs rfl (fun h=>?_) (fun h=>?_)
 ·have h:=of_decide_eq_true h
  obtain ⟨x,hx⟩ : ∃ x,(tq c A (r * c))[j]? = some x:=⟨_,List.getElem?_eq_getElem (by rw [tq_len]; omega)⟩
  have hxl : lr x ≤ L:=by obtain ⟨a,b,ha',hb',rfl⟩:=mem_tq (List.mem_of_getElem? hx); exact ha a b ha' hb'
  refine gm (qc_len _) j ⟨by omega,by omega⟩ (by rw [List.getElem?_map,hx]; rfl) (by rw [Int.toNat_natCast]) fun l=>?_
  refine cl (r_Bits' hxl (by omega)) rfl ?_
  rintro _ ⟨b,rfl,hb⟩
  by_cases hlt : b > k
  ·refine nxg2 [0] (j + 1) b (by omega) rfl ⟨by omega,hb⟩ ⟨rfl,congrArg (ri .i64) (if_pos (by omega)),rfl,rfl,congrArg (ri .i64) (i64s (by omega)).symm,trivial⟩ rfl
  ·refine nxg2 [0] (j + 1) k (by omega) rfl ⟨by omega,hk⟩ ⟨rfl,congrArg (ri .i64) (if_neg (by omega)),rfl,rfl,congrArg (ri .i64) (i64s (by omega)).symm,trivial⟩ rfl
 ·exact ⟨k,rfl,hk⟩
theorem v_numbers {q : Rat} {e : Int} : Pc Tryz.prog 232 [iq q,.raw (.bool true),.raw (.int .i64 e)] (· = .tup [VN q,.raw (.int .i64 0)]):=by
 refine pc Tryz.func232 ?_
 refine iff_ rfl rfl ?_
 exact rfl
theorem v_matrices {r c : Nat} {A : Nat → Nat → Rat} : Pc Tryz.prog 234 [qM r c A,.raw (.int .i64 0)] (· = .tup [VM r c A,.raw (.int .i64 0)]):=by
 refine pc Tryz.func234 ?_
 refine iff_ rfl rfl ?_
 exact rfl
theorem lr_neg1 : lr ((-1 : Int) : Rat) ≤ 1:=lr_i (-1) (Nat.le_trans (Nat.le_of_eq (li_neg 1)) (Nat.le_of_eq ln_one))
theorem v_negM {r c : Nat} {A : Nat → Nat → Rat} (hr : r ≤ 64) (hc : c ≤ 64) (ha : LB 4000 r c A) : Pc Tryz.prog 195 [VM r c A] (· = .tup [VM r c fun i k=>A i k * ((-1 : Int) : Rat),.raw (.int .i64 0)]):=by
 refine pc Tryz.func195 ?_
 refine iff_ rfl rfl ?_
 refine ift rfl rfl ?_
 refine rq [0,1,2,3,4,5,6,7,8,9,10,11] ?_
 refine ce (z_Of (x:=-1) (by decide) (by decide)) rfl ?_
 refine ce (r_Of (z:=-1) (Nat.le_trans (Nat.le_trans (Nat.le_of_eq (li_neg 1)) (Nat.le_of_eq ln_one)) (by decide))) rfl ?_
 refine ce (q_Scale (x:=((-1 : Int) : Rat)) hr hc ha (Nat.le_trans lr_neg1 (by decide))) rfl ?_
 refine ce (v_matrices (r:=r) (c:=c) (A:=fun i k=>A i k * ((-1 : Int) : Rat))) rfl ?_
 exact rfl
theorem v_sumM {r c : Nat} {A B : Nat → Nat → Rat} (hr : r ≤ 64) (hc : c ≤ 64) (ha : LB 4000 r c A) (hb : LB 4000 r c B) : Pc Tryz.prog 215 [VM r c A,VM r c B] (· = .tup [VM r c fun i k=>A i k + B i k,.raw (.int .i64 0)]):=by
 refine pc Tryz.func215 ?_
 refine iff_ rfl rfl ?_
 refine iff_ rfl rfl ?_
 refine ift rfl rfl ?_
 refine ce (q_Add hr hc ha hb) rfl ?_
 refine ce (v_matrices (r:=r) (c:=c) (A:=fun i k=>A i k + B i k)) rfl ?_
 exact rfl
theorem v_diffM {r c : Nat} {A B : Nat → Nat → Rat} (hr : r ≤ 64) (hc : c ≤ 64) (ha : LB 3000 r c A) (hb : LB 3000 r c B) : Pc Tryz.prog 216 [VM r c A,VM r c B] (· = .tup [VM r c fun i k=>A i k + B i k * ((-1 : Int) : Rat),.raw (.int .i64 0)]):=by
 have hb2 : LB 4000 r c fun i k=>B i k * ((-1 : Int) : Rat):=fun i k hi hk=>by
  have h1:=hb i k hi hk; have h2:=lr_mul (B i k) ((-1 : Int) : Rat); have h3:=lr_neg1; exact Nat.le_trans h2 (by omega)
 refine pc Tryz.func216 ?_
 refine ce (v_negM hr hc (hb.mono (by decide))) rfl ?_
 refine iff_ rfl rfl ?_
 refine ce (v_sumM hr hc (ha.mono (by decide)) hb2) rfl ?_
 exact rfl
theorem v_prodN {a b : Rat} (ha : lr a ≤ 20000) (hb : lr b ≤ 20000) : Pc Tryz.prog 312 [VN a,VN b] (· = .tup [VN (a * b),.raw (.int .i64 0)]):=by
 refine pc Tryz.func312 ?_
 refine iff_ rfl rfl ?_
 refine ift rfl rfl ?_
 refine ce (r_Mul ha hb) rfl ?_
 refine ce (v_numbers (q:=a * b) (e:=0)) rfl ?_
 exact rfl
theorem v_prodM {r m c : Nat} {A B : Nat → Nat → Rat} (hr : r ≤ 64) (hm : m ≤ 64) (hc : c ≤ 64) (ha : LB 60 r m A) (hb : LB 60 m c B) : Pc Tryz.prog 312 [VM r m A,VM m c B] (· = .tup [VM r c (mm m A B),.raw (.int .i64 0)]):=by
 refine pc Tryz.func312 ?_
 refine iff_ rfl rfl ?_
 refine iff_ rfl rfl ?_
 refine ift rfl rfl ?_
 refine ce (q_Mul hr hm hc ha hb) rfl ?_
 refine ce (v_matrices (r:=r) (c:=c) (A:=mm m A B)) rfl ?_
 exact rfl
theorem v_multM {r c : Nat} {A : Nat → Nat → Rat} {x : Rat} (hr : r ≤ 64) (hc : c ≤ 64) (ha : LB 4000 r c A) (hx : lr x ≤ 4000) : Pc Tryz.prog 313 [VN x,VM r c A] (· = .tup [VM r c fun i k=>A i k * x,.raw (.int .i64 0)]):=by
 refine pc Tryz.func313 ?_
 refine ift rfl rfl ?_
 refine ce (q_Scale (x:=x) hr hc ha hx) rfl ?_
 refine ce (v_matrices (r:=r) (c:=c) (A:=fun i k=>A i k * x)) rfl ?_
 exact rfl
theorem v_timesN {a b : Rat} (ha : lr a ≤ 20000) (hb : lr b ≤ 20000) : Pc Tryz.prog 212 [VN a,VN b] (· = .tup [VN (a * b),.raw (.int .i64 0)]):=by
 refine pc Tryz.func212 ?_
 refine ift rfl rfl ?_
 refine ce (v_prodN ha hb) rfl ?_
 exact rfl
theorem v_timesM {r m c : Nat} {A B : Nat → Nat → Rat} (hr : r ≤ 64) (hm : m ≤ 64) (hc : c ≤ 64) (ha : LB 60 r m A) (hb : LB 60 m c B) : Pc Tryz.prog 212 [VM r m A,VM m c B] (· = .tup [VM r c (mm m A B),.raw (.int .i64 0)]):=by
 refine pc Tryz.func212 ?_
 refine ift rfl rfl ?_
 refine ce (v_prodM hr hm hc ha hb) rfl ?_
 exact rfl
theorem v_timesNM {r c : Nat} {A : Nat → Nat → Rat} {x : Rat} (hr : r ≤ 64) (hc : c ≤ 64) (ha : LB 4000 r c A) (hx : lr x ≤ 4000) : Pc Tryz.prog 212 [VN x,VM r c A] (· = .tup [VM r c fun i k=>A i k * x,.raw (.int .i64 0)]):=by
 refine pc Tryz.func212 ?_
 refine iff_ rfl rfl ?_
 refine ift rfl rfl ?_
 refine ce (v_multM hr hc ha hx) rfl ?_
 exact rfl
theorem v_compare {a b : Rat} (ha : lr a ≤ 20000) (hb : lr b ≤ 20000) (h : a ≤ b) : Pc Tryz.prog 211 [.raw (.int .i64 12),VN a,VN b] (· = .tup [VN 1,.raw (.int .i64 0)]):=by
 have hs : sgnI (a - b).num ≤ 0:=by
  have h1 : (a - b).num ≤ 0:=by
   have h2 : 0 ≤ (b - a).num:=Rat.num_nonneg.2 ((Rat.le_iff_sub_nonneg a b).1 h)
   have h3 : a - b = -(b - a):=(Rat.neg_sub b a).symm
   rw [h3,Rat.neg_num]; omega
  rcases sgnI_cases (a - b).num with ⟨g,e⟩ | ⟨g,e⟩ | ⟨g,e⟩ <;> omega
 refine pc Tryz.func211 ?_
 repeat (first|refine gt rfl ?_|refine gf rfl ?_|refine tw rfl ?_|refine tf rfl ?_)
 refine iff_ rfl rfl ?_
 refine ce (r_Cmp ha hb) rfl ?_
 by_cases h0 : sgnI (a - b).num < 0
 ·have g:=decide_eq_true h0
  iterate 4 refine gf (want:=false) g ?_
  refine tw g ?_
  refine ce (v_Truth true) rfl ?_
  exact rfl
 ·have g:=decide_eq_false h0
  have g2 : (sgnI (a - b).num == 0) = true:=by simp; omega
  have hT:=v_Truth (sgnI (a - b).num == 0)
  rw [if_pos g2] at hT
  iterate 3 refine gt g ?_
  iterate 2 refine gt rfl ?_
  refine gt g ?_
  refine tw rfl ?_
  refine tf g ?_
  refine ce hT rfl ?_
  exact rfl
def idR : Nat → Nat → Rat:=fun i k=>if i = k then 1 else 0
theorem lr_id (i k : Nat) : lr (idR i k) ≤ 1:=by unfold idR; split; exact lr_one; exact lr_zero
theorem bq {i k : Nat} (h : ((i : Int) == (k : Int)) = true) : i = k:=by have:=eq_of_beq h; omega
theorem bnq {i k : Nat} (h : ((i : Int) == (k : Int)) = false) : i ≠ k:=by have:=ne_of_beq_false h; omega
theorem mm_id {n : Nat} (M : Nat → Nat → Rat) {i : Nat} (hi : i < n) (k : Nat) : mm n idR M i k = M i k:=one_mm M hi
theorem lb_mm {n K L : Nat} {A B : Nat → Nat → Rat} (ha : LB K n n A) (hb : LB L n n B) : LB (n * (K + L + 1) + 1) n n (mm n A B):=fun i k hi hk=>
 lr_sm n (fun j=>A i j * B j k) fun j hj=>Nat.le_trans (lr_mul _ _) (Nat.add_le_add (ha i j hi hj) (hb j k hj hk))
theorem lr_nat (e : Nat) (h : e < W64) : lr ((e : Int) : Rat) ≤ 1:=lr_i _ (by unfold li; rw [Int.natAbs_natCast]; exact ln_le (by rw [Nat.pow_one]; exact h))
theorem v_exponent0 {n : Nat} {A : Nat → Nat → Rat} (hn : n ≤ 4) (ha : LB 60 n n A) : Pc Tryz.prog 316 [VM n n A,VN ((0 : Int) : Rat)] (· = .tup [.raw (.int .i64 0),.raw (.int .i64 0)]):=by
 have hl:=lr_nat 0 (by decide)
 refine pc Tryz.func316 ?_
 refine ce (r_Whole (q:=((0 : Int) : Rat)) (Nat.le_trans hl (by decide)) rfl) rfl ?_
 repeat (first|refine gt rfl ?_|refine gf rfl ?_|refine tw rfl ?_|refine tf rfl ?_)
 refine iff_ rfl rfl ?_
 refine ce (z_Small (z:=0) (by decide) (by decide)) rfl ?_
 repeat (first|refine gt rfl ?_|refine gf rfl ?_|refine tw rfl ?_|refine tf rfl ?_)
 refine cl (v_bitsM (r:=n) (c:=n) (by omega) (by omega) ha (by decide)) rfl ?_
 rintro _ ⟨k,rfl,hk⟩
 repeat (first|refine gt rfl ?_|refine gf rfl ?_|refine tw rfl ?_|refine tf rfl ?_)
 refine iff_ rfl ?_ ?_
 ·show decide (IntKind.i64.wrap (0 * (if (k : Int) > 1 then (k : Int) else 1)) > 1048576) = false
  rw [Int.zero_mul]; rfl
 exact rfl
theorem v_exponent2 {n : Nat} {A : Nat → Nat → Rat} (hn : n ≤ 4) (ha : LB 60 n n A) : Pc Tryz.prog 316 [VM n n A,VN ((2 : Int) : Rat)] (· = .tup [.raw (.int .i64 2),.raw (.int .i64 0)]):=by
 have hl:=lr_nat 2 (by decide)
 refine pc Tryz.func316 ?_
 refine ce (r_Whole (q:=((2 : Int) : Rat)) (Nat.le_trans hl (by decide)) rfl) rfl ?_
 repeat (first|refine gt rfl ?_|refine gf rfl ?_|refine tw rfl ?_|refine tf rfl ?_)
 refine iff_ rfl rfl ?_
 refine ce (z_Small (z:=2) (by decide) (by decide)) rfl ?_
 repeat (first|refine gt rfl ?_|refine gf rfl ?_|refine tw rfl ?_|refine tf rfl ?_)
 refine cl (v_bitsM (r:=n) (c:=n) (by omega) (by omega) ha (by decide)) rfl ?_
 rintro _ ⟨k,rfl,hk⟩
 repeat (first|refine gt rfl ?_|refine gf rfl ?_|refine tw rfl ?_|refine tf rfl ?_)
 refine iff_ rfl ?_ ?_
 ·show decide (IntKind.i64.wrap (2 * (if (k : Int) > 1 then (k : Int) else 1)) > 1048576) = false
  have : (if (k : Int) > 1 then (k : Int) else 1) ≤ 4000 ∧ 0 ≤ (if (k : Int) > 1 then (k : Int) else 1):=by split <;> omega
  rw [show IntKind.i64.wrap (2 * (if (k : Int) > 1 then (k : Int) else 1)) = 2 * (if (k : Int) > 1 then (k : Int) else 1) from IntWalk.i64_in _ (by omega)]
  exact decide_eq_false (by omega)
 exact rfl
theorem tq_stepq {w : Nat} (T : Nat → Nat → Rat) (i : Nat) {k : Nat} (hk : k < w) : ((tq w T (i * w + k + 1)).map qc).flatten = ((tq w T (i * w + k)).map qc).flatten ++ qc (T i k):=by
 rw [tq_succ T i hk,List.map_append,List.flatten_append]; simp
theorem qM_eq (r c : Nat) (A : Nat → Nat → Rat) : qM r c A = .agg [.raw (.int .i64 r),.raw (.int .i64 c),.sl (r * c) 4 ((tq c A (r * c)).map qc).flatten]:=by unfold qM qm mc; rw [List.length_map,tq_len]
theorem v_raised {n e : Nat} {A : Nat → Nat → Rat} (hn : n ≤ 4) (ha : LB 5 n n A) (he : e = 0 ∨ e = 2) : Pc Tryz.prog 318 [qM n n A,.raw (.int .i64 e)] (· = qM n n (if e = 0 then idR else mm n idR (mm n A A))):=by
 have hnn : n * n ≤ 4 * 4:=Nat.mul_le_mul hn hn
 refine pc Tryz.func318 ?_
 refine lfb 2 2 49 4 rfl rfl ?_
 refine lpt (fun i : Nat=>i ≤ n) (fun i=>[(1,ri .i64 e),(2,.ref 0 0),(4,.ref 1 0),(5,.ref 2 0),(15,ri .i64 n),(16,ri .i64 i)])
  (fun i=>[.box 40 [ri .i64 n,ri .i64 n,.im (.sl ((tq n A (n * n)).map qc).length 4 ((tq n A (n * n)).map qc).flatten)],.box 40 [ri .i64 0,ri .i64 0,nilA],.box 40 [ri .i64 n,ri .i64 n,.own 3],.row 49 4 (i * n) ((tq n idR (i * n)).map qc).flatten]) (fun i=>n - i) 0 (Nat.zero_le _) (tsr rfl) (by rw [Nat.zero_mul] <;> rfl) ?_
 intro i t hi
 refine ifs rfl (fun h=>?_) (fun h=>?_)
 ·have h:=of_decide_eq_true h
  have hi : i < n:=by omega
  refine lpt (fun k : Nat=>k ≤ n) (fun k=>[(1,ri .i64 e),(2,.ref 0 0),(4,.ref 1 0),(5,.ref 2 0),(15,ri .i64 n),(16,ri .i64 i),(6,ri .i64 i),(20,ri .i64 n),(21,ri .i64 k)])
   (fun k=>[.box 40 [ri .i64 n,ri .i64 n,.im (.sl ((tq n A (n * n)).map qc).length 4 ((tq n A (n * n)).map qc).flatten)],.box 40 [ri .i64 0,ri .i64 0,nilA],.box 40 [ri .i64 n,ri .i64 n,.own 3],.row 49 4 (i * n + k) ((tq n idR (i * n + k)).map qc).flatten]) (fun k=>n - k) 0 (Nat.zero_le _) (tsr rfl) rfl ?_
  intro k t hk
  refine ifs rfl (fun h=>?_) (fun h=>?_)
  ·have h:=of_decide_eq_true h
   have hk : k < n:=by omega
   have hlt:=idx_lt hi hk
   have es:=tq_stepq (w:=n) idR i hk
   refine ce r_Of0 rfl ?_
   refine ifs rfl (fun h2=>?_) (fun h2=>?_)
   ·have h2:=bq h2
    refine ce (z_Of (x:=1) (by decide) (by decide)) rfl ?_
    refine ce (r_Of (z:=1) (Nat.le_trans (Nat.le_of_eq ln_one) (by decide))) rfl ?_
    rw [show idR i k = 1 from if_pos h2] at es
    refine ⟨⟨?_,?_⟩,?_⟩
    ·show (i * n + k + 1) * 64 ≤ _; omega
    ·show i * n + k + 1 ≤ _; omega
    refine nxg [0,1,2,3] (k + 1) (by omega) rfl ⟨by omega,⟨rfl,rfl,rfl,rfl,rfl,rfl,rfl,rfl,congrArg (ri .i64) (i64s (by omega)).symm,trivial⟩,?_⟩
    refine Eq.trans ?_ (congrArg (fun l=>([.box 40 [ri .i64 n,ri .i64 n,.im (.sl ((tq n A (n * n)).map qc).length 4 ((tq n A (n * n)).map qc).flatten)],.box 40 [ri .i64 0,ri .i64 0,nilA],.box 40 [ri .i64 n,ri .i64 n,.own 3],.row 49 4 (i * n + k + 1) l] : List AO)) es.symm)
    exact rfl
   ·have h2:=bnq h2
    rw [show idR i k = 0 from if_neg h2] at es
    refine ⟨⟨?_,?_⟩,?_⟩
    ·show (i * n + k + 1) * 64 ≤ _; omega
    ·show i * n + k + 1 ≤ _; omega
    refine nxg [0,1,2,3] (k + 1) (by omega) rfl ⟨by omega,⟨rfl,rfl,rfl,rfl,rfl,rfl,rfl,rfl,congrArg (ri .i64) (i64s (by omega)).symm,trivial⟩,?_⟩
    refine Eq.trans ?_ (congrArg (fun l=>([.box 40 [ri .i64 n,ri .i64 n,.im (.sl ((tq n A (n * n)).map qc).length 4 ((tq n A (n * n)).map qc).flatten)],.box 40 [ri .i64 0,ri .i64 0,nilA],.box 40 [ri .i64 n,ri .i64 n,.own 3],.row 49 4 (i * n + k + 1) l] : List AO)) es.symm)
    exact rfl
  ·have h:=of_decide_eq_false h
   obtain rfl : k = n:=by omega
   have e3 : i * k + k = (i + 1) * k:=by rw [Nat.add_mul,Nat.one_mul]
   rw [e3]
   refine nx (i + 1) (by omega) ⟨by omega,⟨rfl,rfl,rfl,rfl,rfl,congrArg (ri .i64) (i64s (by omega)).symm,trivial⟩,rfl⟩
 ·have h:=of_decide_eq_false h
  obtain rfl : i = n:=by omega
  rcases he with rfl | rfl
  ·refine lpn 1 ?_
   refine iff_ rfl rfl ?_
   rw [if_pos rfl,qM_eq]
   exact rfl
  ·have h1 : LB 60 i i (mm i A A):=(lb_mm ha ha).mono (by have : i * (5 + 5 + 1) ≤ 4 * 11:=Nat.mul_le_mul_right _ hn; omega)
   refine lpn 3 ?_
   refine ift rfl rfl ?_
   refine ⟨by decide,?_⟩
   refine iff_ rfl rfl ?_
   refine ift rfl rfl ?_
   refine ce (q_Mul (r:=i) (m:=i) (c:=i) (A:=A) (B:=A) (by omega) (by omega) (by omega) (ha.mono (by decide)) (ha.mono (by decide))) rfl ?_
   refine ⟨by decide,?_⟩
   refine ift rfl rfl ?_
   refine ⟨by decide,?_⟩
   refine ift rfl rfl ?_
   refine clk [3] (q_Mul (r:=i) (m:=i) (c:=i) (A:=idR) (B:=mm i A A) (by omega) (by omega) (by omega) (fun a b _ _=>Nat.le_trans (lr_id a b) (by decide)) h1) rfl ?_ ?_
   ·rw [qM_eq i i idR]; exact rfl
   rintro _ rfl
   refine iff_ rfl rfl ?_
   refine ⟨by decide,?_⟩
   refine iff_ rfl rfl ?_
   exact rfl
theorem VM_congr {r c : Nat} {A B : Nat → Nat → Rat} (h : ∀ i k,i < r → k < c → A i k = B i k) : VM r c A = VM r c B:=by unfold VM; rw [tq_congr h]
theorem bne_ff (n : Nat) : ((n : Int) != (n : Int)) = false:=by simp
theorem v_power0 {n : Nat} {A : Nat → Nat → Rat} (hn : n ≤ 4) (ha : LB 5 n n A) : Pc Tryz.prog 214 [VM n n A,VN ((0 : Int) : Rat)] (· = .tup [VM n n idR,.raw (.int .i64 0)]):=by
 refine pc Tryz.func214 ?_
 refine ce (v_exponent0 hn (ha.mono (by decide))) rfl ?_
 refine iff_ rfl rfl ?_
 refine iff_ rfl rfl ?_
 refine iff_ rfl (bne_ff n) ?_
 refine iff_ rfl rfl ?_
 refine ce (v_raised (e:=0) hn ha (.inl rfl)) rfl ?_
 refine ce (v_matrices (r:=n) (c:=n)) rfl ?_
 exact rfl
theorem v_power2 {n : Nat} {A : Nat → Nat → Rat} (hn : n ≤ 4) (ha : LB 5 n n A) : Pc Tryz.prog 214 [VM n n A,VN ((2 : Int) : Rat)] (· = .tup [VM n n (mm n A A),.raw (.int .i64 0)]):=by
 refine pc Tryz.func214 ?_
 refine ce (v_exponent2 hn (ha.mono (by decide))) rfl ?_
 refine iff_ rfl rfl ?_
 refine iff_ rfl rfl ?_
 refine iff_ rfl (bne_ff n) ?_
 refine iff_ rfl rfl ?_
 refine ce (v_raised (e:=2) hn ha (.inr rfl)) rfl ?_
 refine ce (v_matrices (r:=n) (c:=n)) rfl ?_
 refine congrArg (fun v=>IV.tup [v,.raw (.int .i64 0)]) (VM_congr fun i k hi hk=>?_)
 exact mm_id _ hi k
theorem v_eqN {q : Rat} (h : lr q ≤ 20000) : Pc Tryz.prog 174 [.raw (.int .i64 9),VN q,VN q] (· = .tup [VN 1,.raw (.int .i64 0)]):=by
 refine pc Tryz.func174 ?_
 refine ce (v_FormedN (by omega)) rfl ?_
 iterate 1 refine gt rfl ?_
 refine gt rfl ?_
 refine ce (v_FormedN (by omega)) rfl ?_
 repeat (first|refine gt rfl ?_|refine gf rfl ?_|refine tw rfl ?_|refine tf rfl ?_)
 refine iff_ rfl rfl ?_
 refine ift rfl rfl ?_
 refine ce (v_sameN h) rfl ?_
 refine ce (v_Truth true) rfl ?_
 exact rfl
theorem v_eqM {n : Nat} {A : Nat → Nat → Rat} (hn : n ≤ 4) (ha : LB 4000 n n A) : Pc Tryz.prog 174 [.raw (.int .i64 9),VM n n A,VM n n A] (· = .tup [VN 1,.raw (.int .i64 0)]):=by
 refine pc Tryz.func174 ?_
 refine ce (v_FormedM (by omega) (by omega) (ha.mono (by decide))) rfl ?_
 iterate 1 refine gt rfl ?_
 refine gt rfl ?_
 refine ce (v_FormedM (by omega) (by omega) (ha.mono (by decide))) rfl ?_
 repeat (first|refine gt rfl ?_|refine gf rfl ?_|refine tw rfl ?_|refine tf rfl ?_)
 refine iff_ rfl rfl ?_
 refine ift rfl rfl ?_
 refine ce (v_sameM (by omega) (by omega) (ha.mono (by decide))) rfl ?_
 refine ce (v_Truth true) rfl ?_
 exact rfl
theorem v_le {a b : Rat} (ha : lr a ≤ 20000) (hb : lr b ≤ 20000) (h : a ≤ b) : Pc Tryz.prog 174 [.raw (.int .i64 12),VN a,VN b] (· = .tup [VN 1,.raw (.int .i64 0)]):=by
 refine pc Tryz.func174 ?_
 refine ce (v_FormedN (by omega)) rfl ?_
 iterate 1 refine gt rfl ?_
 refine gt rfl ?_
 refine ce (v_FormedN (by omega)) rfl ?_
 repeat (first|refine gt rfl ?_|refine gf rfl ?_|refine tw rfl ?_|refine tf rfl ?_)
 refine iff_ rfl rfl ?_
 refine iff_ rfl rfl ?_
 refine iff_ rfl rfl ?_
 refine iff_ rfl rfl ?_
 refine ift rfl rfl ?_
 refine ce (v_compare ha hb h) rfl ?_
 exact rfl
theorem v_mulN {a b : Rat} (ha : lr a ≤ 20000) (hb : lr b ≤ 20000) : Pc Tryz.prog 174 [.raw (.int .i64 6),VN a,VN b] (· = .tup [VN (a * b),.raw (.int .i64 0)]):=by
 refine pc Tryz.func174 ?_
 refine ce (v_FormedN (by omega)) rfl ?_
 iterate 1 refine gt rfl ?_
 refine gt rfl ?_
 refine ce (v_FormedN (by omega)) rfl ?_
 repeat (first|refine gt rfl ?_|refine gf rfl ?_|refine tw rfl ?_|refine tf rfl ?_)
 refine iff_ rfl rfl ?_
 refine iff_ rfl rfl ?_
 refine iff_ rfl rfl ?_
 refine iff_ rfl rfl ?_
 refine iff_ rfl rfl ?_
 refine ift rfl rfl ?_
 refine ce (v_timesN ha hb) rfl ?_
 exact rfl
theorem v_mulM {n : Nat} {A B : Nat → Nat → Rat} (hn : n ≤ 4) (ha : LB 60 n n A) (hb : LB 60 n n B) : Pc Tryz.prog 174 [.raw (.int .i64 6),VM n n A,VM n n B] (· = .tup [VM n n (mm n A B),.raw (.int .i64 0)]):=by
 refine pc Tryz.func174 ?_
 refine ce (v_FormedM (by omega) (by omega) (ha.mono (by decide))) rfl ?_
 iterate 1 refine gt rfl ?_
 refine gt rfl ?_
 refine ce (v_FormedM (by omega) (by omega) (hb.mono (by decide))) rfl ?_
 repeat (first|refine gt rfl ?_|refine gf rfl ?_|refine tw rfl ?_|refine tf rfl ?_)
 refine iff_ rfl rfl ?_
 refine iff_ rfl rfl ?_
 refine iff_ rfl rfl ?_
 refine iff_ rfl rfl ?_
 refine iff_ rfl rfl ?_
 refine ift rfl rfl ?_
 refine ce (v_timesM (by omega) (by omega) (by omega) ha hb) rfl ?_
 exact rfl
theorem v_mulNM {n : Nat} {A : Nat → Nat → Rat} {x : Rat} (hn : n ≤ 4) (ha : LB 4000 n n A) (hx : lr x ≤ 4000) : Pc Tryz.prog 174 [.raw (.int .i64 6),VN x,VM n n A] (· = .tup [VM n n fun i k=>A i k * x,.raw (.int .i64 0)]):=by
 refine pc Tryz.func174 ?_
 refine ce (v_FormedN (by omega)) rfl ?_
 iterate 1 refine gt rfl ?_
 refine gt rfl ?_
 refine ce (v_FormedM (by omega) (by omega) (ha.mono (by decide))) rfl ?_
 repeat (first|refine gt rfl ?_|refine gf rfl ?_|refine tw rfl ?_|refine tf rfl ?_)
 refine iff_ rfl rfl ?_
 refine iff_ rfl rfl ?_
 refine iff_ rfl rfl ?_
 refine iff_ rfl rfl ?_
 refine iff_ rfl rfl ?_
 refine ift rfl rfl ?_
 refine ce (v_timesNM (by omega) (by omega) ha hx) rfl ?_
 exact rfl
theorem v_pow0 {n : Nat} {A : Nat → Nat → Rat} (hn : n ≤ 4) (ha : LB 5 n n A) : Pc Tryz.prog 174 [.raw (.int .i64 8),VM n n A,VN ((0 : Int) : Rat)] (· = .tup [VM n n idR,.raw (.int .i64 0)]):=by
 refine pc Tryz.func174 ?_
 refine ce (v_FormedM (by omega) (by omega) (ha.mono (by decide))) rfl ?_
 iterate 1 refine gt rfl ?_
 refine gt rfl ?_
 refine ce (v_FormedN (Nat.le_trans (lr_nat 0 (by decide)) (by decide))) rfl ?_
 repeat (first|refine gt rfl ?_|refine gf rfl ?_|refine tw rfl ?_|refine tf rfl ?_)
 refine iff_ rfl rfl ?_
 refine iff_ rfl rfl ?_
 refine iff_ rfl rfl ?_
 refine iff_ rfl rfl ?_
 refine iff_ rfl rfl ?_
 refine iff_ rfl rfl ?_
 refine iff_ rfl rfl ?_
 refine ift rfl rfl ?_
 refine ce (v_power0 hn ha) rfl ?_
 exact rfl
theorem v_pow2 {n : Nat} {A : Nat → Nat → Rat} (hn : n ≤ 4) (ha : LB 5 n n A) : Pc Tryz.prog 174 [.raw (.int .i64 8),VM n n A,VN ((2 : Int) : Rat)] (· = .tup [VM n n (mm n A A),.raw (.int .i64 0)]):=by
 refine pc Tryz.func174 ?_
 refine ce (v_FormedM (by omega) (by omega) (ha.mono (by decide))) rfl ?_
 iterate 1 refine gt rfl ?_
 refine gt rfl ?_
 refine ce (v_FormedN (Nat.le_trans (lr_nat 2 (by decide)) (by decide))) rfl ?_
 repeat (first|refine gt rfl ?_|refine gf rfl ?_|refine tw rfl ?_|refine tf rfl ?_)
 refine iff_ rfl rfl ?_
 refine iff_ rfl rfl ?_
 refine iff_ rfl rfl ?_
 refine iff_ rfl rfl ?_
 refine iff_ rfl rfl ?_
 refine iff_ rfl rfl ?_
 refine iff_ rfl rfl ?_
 refine ift rfl rfl ?_
 refine ce (v_power2 hn ha) rfl ?_
 exact rfl
theorem v_add {n : Nat} {A B : Nat → Nat → Rat} (hn : n ≤ 4) (ha : LB 4000 n n A) (hb : LB 4000 n n B) : Pc Tryz.prog 174 [.raw (.int .i64 4),VM n n A,VM n n B] (· = .tup [VM n n fun i k=>A i k + B i k,.raw (.int .i64 0)]):=by
 refine pc Tryz.func174 ?_
 refine ce (v_FormedM (by omega) (by omega) (ha.mono (by decide))) rfl ?_
 iterate 1 refine gt rfl ?_
 refine gt rfl ?_
 refine ce (v_FormedM (by omega) (by omega) (hb.mono (by decide))) rfl ?_
 repeat (first|refine gt rfl ?_|refine gf rfl ?_|refine tw rfl ?_|refine tf rfl ?_)
 refine iff_ rfl rfl ?_
 refine iff_ rfl rfl ?_
 refine iff_ rfl rfl ?_
 refine iff_ rfl rfl ?_
 refine iff_ rfl rfl ?_
 refine iff_ rfl rfl ?_
 refine iff_ rfl rfl ?_
 refine iff_ rfl rfl ?_
 refine iff_ rfl rfl ?_
 refine ift rfl rfl ?_
 refine ce (v_sumM (by omega) (by omega) ha hb) rfl ?_
 exact rfl
theorem v_sub {n : Nat} {A B : Nat → Nat → Rat} (hn : n ≤ 4) (ha : LB 3000 n n A) (hb : LB 3000 n n B) : Pc Tryz.prog 174 [.raw (.int .i64 5),VM n n A,VM n n B] (· = .tup [VM n n fun i k=>A i k + B i k * ((-1 : Int) : Rat),.raw (.int .i64 0)]):=by
 refine pc Tryz.func174 ?_
 refine ce (v_FormedM (by omega) (by omega) (ha.mono (by decide))) rfl ?_
 iterate 1 refine gt rfl ?_
 refine gt rfl ?_
 refine ce (v_FormedM (by omega) (by omega) (hb.mono (by decide))) rfl ?_
 repeat (first|refine gt rfl ?_|refine gf rfl ?_|refine tw rfl ?_|refine tf rfl ?_)
 refine iff_ rfl rfl ?_
 refine iff_ rfl rfl ?_
 refine iff_ rfl rfl ?_
 refine iff_ rfl rfl ?_
 refine iff_ rfl rfl ?_
 refine iff_ rfl rfl ?_
 refine iff_ rfl rfl ?_
 refine iff_ rfl rfl ?_
 refine iff_ rfl rfl ?_
 refine iff_ rfl rfl ?_
 refine ift rfl rfl ?_
 refine ce (v_diffM (by omega) (by omega) ha hb) rfl ?_
 exact rfl
theorem Pc.weakQ {f : Nat} {xs : List IV} {Q : IV → Prop} (h : Pc Tryz.prog f xs (fun r=>∃ y,Sub r y ∧ Q y)) : Pc Tryz.prog f xs Q:=
 h.imp (fun h=>⟨h.1,fun B w vs hB hG hc=>(h.2 B w vs hB hG hc).mono fun _ _ ⟨r,v,he,⟨y,q,hy⟩,hr,hb⟩=>⟨y,v,he,hy,q _ _ _ hr,hb⟩⟩) fun h B w vs hc=>by
  obtain ⟨r,v,⟨y,q,hy⟩,hr,h2⟩:=h B w vs hc; exact ⟨y,v,hy,q _ _ _ hr,h2⟩
theorem gmC {m o : Nat} {g : Nat → Rat} {p : Prop} (j : Nat) (hj : j < m) {K : AV → Prop} (hp : p) (ho : o = j * 4) (h : ∀ l,K (.im (.ip (qc (g j) ++ l)))) : Gn p ((rC m g).drop o) (fun l=>some (.im (.ip l))) K:=by
 unfold rC
 exact gm (rC_es m g) j hp (rC_get g hj) ho h
theorem sub_nilk (k : Nat) : Sub (.raw (.slice none 0 0)) (.sl 0 k []):=fun M w v h=>by
 cases h
 exact Ci.sl (b:=0) (o:=0) (vs:=fun _=>.bool false) (by simp) (Nat.le_refl _) (fun h=>absurd rfl h) (fun j h=>by simp at h) (fun j x h=>by simp at h) (fun j h=>by simp at h)
def RedA (n : Nat) (A : Nat → Nat → Rat) (r : IV) : Prop:=∃ W P,r = .tup [qM n n W,.sl P.length 1 (pvs P),.raw (.int .i64 0)] ∧ RedR n n A W P
theorem q_red1_1 {W : Nat → Nat → Rat} {P : List Nat} {i k : Nat} (hi : i < 1) (hk : k < 1) : Pc Tryz.prog 383 [.raw (.int .i64 (i : Int)),.raw (.int .i64 (k : Int)),.ip [.ip [.sl 1 1 [.sl 1 4 (rC 1 (W 0))],.raw (.int .i64 (1 : Nat)),.sl P.length 1 (pvs P)]]] (· = iq (W i k)):=by
 refine pc Tryz.func383 ?_
 match i,hi with
 | 0,_=>
  refine ⟨by decide,?_⟩
  rintro _ rfl
  refine gmC k hk ⟨by omega,by omega⟩ (by rw [Int.toNat_natCast]) fun l=>?_
  exact rfl
theorem q_Reduce1 {A : Nat → Nat → Rat} (ha : LB 3 1 1 A) : Pc Tryz.prog 272 [qM 1 1 A] (RedA 1 A):=by
 refine pc Tryz.func272 ?_
 refine ce (qM_Formed (by decide) (by decide)) rfl ?_
 refine iff_ rfl rfl ?_
 refine cl (q_reduced1 (by decide) ha) rfl ?_
 rintro _ ⟨W,P,rfl,hR⟩
 have hW : LB 900 1 1 W:=by obtain ⟨_,_,_,_,h⟩:=hR; exact h
 refine rgc [0,1] rfl ?_
 refine rqa [0,1,2,3,4,6,7,8,9,5,10,11,12] [(6,[1],some []),(7,[1],some []),(8,[1],some []),(9,[1],some []),(10,[],some [1])] ?_
 refine ce (q_made (a:=[]) (b:=[.ip [.ip [.sl 1 1 [.sl 1 4 (rC 1 (W 0))],.raw (.int .i64 (1 : Nat)),.sl P.length 1 (pvs P)]]]) (T:=W) (by decide) (by decide) (fun i k hi hk=>q_red1_1 hi hk) (hW.mono (by decide))) rfl ?_
 exact ⟨W,P,rfl,hR⟩
theorem q_red1_2 {W : Nat → Nat → Rat} {P : List Nat} {i k : Nat} (hi : i < 2) (hk : k < 2) : Pc Tryz.prog 383 [.raw (.int .i64 (i : Int)),.raw (.int .i64 (k : Int)),.ip [.ip [.sl 2 1 [.sl 2 4 (rC 2 (W 0)),.sl 2 4 (rC 2 (W 1))],.raw (.int .i64 (2 : Nat)),.sl P.length 1 (pvs P)]]] (· = iq (W i k)):=by
 refine pc Tryz.func383 ?_
 match i,hi with
 | 0,_=>
  refine ⟨by decide,?_⟩
  rintro _ rfl
  refine gmC k hk ⟨by omega,by omega⟩ (by rw [Int.toNat_natCast]) fun l=>?_
  exact rfl
 | 1,_=>
  refine ⟨by decide,?_⟩
  rintro _ rfl
  refine gmC k hk ⟨by omega,by omega⟩ (by rw [Int.toNat_natCast]) fun l=>?_
  exact rfl
theorem q_Reduce2 {A : Nat → Nat → Rat} (ha : LB 3 2 2 A) : Pc Tryz.prog 272 [qM 2 2 A] (RedA 2 A):=by
 refine pc Tryz.func272 ?_
 refine ce (qM_Formed (by decide) (by decide)) rfl ?_
 refine iff_ rfl rfl ?_
 refine cl (q_reduced2 (by decide) ha) rfl ?_
 rintro _ ⟨W,P,rfl,hR⟩
 have hW : LB 900 2 2 W:=by obtain ⟨_,_,_,_,h⟩:=hR; exact h
 refine rgc [0,1] rfl ?_
 refine rqa [0,1,2,3,4,6,7,8,9,5,10,11,12] [(6,[1],some []),(7,[1],some []),(8,[1],some []),(9,[1],some []),(10,[],some [1])] ?_
 refine ce (q_made (a:=[]) (b:=[.ip [.ip [.sl 2 1 [.sl 2 4 (rC 2 (W 0)),.sl 2 4 (rC 2 (W 1))],.raw (.int .i64 (2 : Nat)),.sl P.length 1 (pvs P)]]]) (T:=W) (by decide) (by decide) (fun i k hi hk=>q_red1_2 hi hk) (hW.mono (by decide))) rfl ?_
 exact ⟨W,P,rfl,hR⟩
theorem q_red1_3 {W : Nat → Nat → Rat} {P : List Nat} {i k : Nat} (hi : i < 3) (hk : k < 3) : Pc Tryz.prog 383 [.raw (.int .i64 (i : Int)),.raw (.int .i64 (k : Int)),.ip [.ip [.sl 3 1 [.sl 3 4 (rC 3 (W 0)),.sl 3 4 (rC 3 (W 1)),.sl 3 4 (rC 3 (W 2))],.raw (.int .i64 (3 : Nat)),.sl P.length 1 (pvs P)]]] (· = iq (W i k)):=by
 refine pc Tryz.func383 ?_
 match i,hi with
 | 0,_=>
  refine ⟨by decide,?_⟩
  rintro _ rfl
  refine gmC k hk ⟨by omega,by omega⟩ (by rw [Int.toNat_natCast]) fun l=>?_
  exact rfl
 | 1,_=>
  refine ⟨by decide,?_⟩
  rintro _ rfl
  refine gmC k hk ⟨by omega,by omega⟩ (by rw [Int.toNat_natCast]) fun l=>?_
  exact rfl
 | 2,_=>
  refine ⟨by decide,?_⟩
  rintro _ rfl
  refine gmC k hk ⟨by omega,by omega⟩ (by rw [Int.toNat_natCast]) fun l=>?_
  exact rfl
theorem q_Reduce3 {A : Nat → Nat → Rat} (ha : LB 3 3 3 A) : Pc Tryz.prog 272 [qM 3 3 A] (RedA 3 A):=by
 refine pc Tryz.func272 ?_
 refine ce (qM_Formed (by decide) (by decide)) rfl ?_
 refine iff_ rfl rfl ?_
 refine cl (q_reduced3 (by decide) ha) rfl ?_
 rintro _ ⟨W,P,rfl,hR⟩
 have hW : LB 900 3 3 W:=by obtain ⟨_,_,_,_,h⟩:=hR; exact h
 refine rgc [0,1] rfl ?_
 refine rqa [0,1,2,3,4,6,7,8,9,5,10,11,12] [(6,[1],some []),(7,[1],some []),(8,[1],some []),(9,[1],some []),(10,[],some [1])] ?_
 refine ce (q_made (a:=[]) (b:=[.ip [.ip [.sl 3 1 [.sl 3 4 (rC 3 (W 0)),.sl 3 4 (rC 3 (W 1)),.sl 3 4 (rC 3 (W 2))],.raw (.int .i64 (3 : Nat)),.sl P.length 1 (pvs P)]]]) (T:=W) (by decide) (by decide) (fun i k hi hk=>q_red1_3 hi hk) (hW.mono (by decide))) rfl ?_
 exact ⟨W,P,rfl,hR⟩
theorem q_red1_4 {W : Nat → Nat → Rat} {P : List Nat} {i k : Nat} (hi : i < 4) (hk : k < 4) : Pc Tryz.prog 383 [.raw (.int .i64 (i : Int)),.raw (.int .i64 (k : Int)),.ip [.ip [.sl 4 1 [.sl 4 4 (rC 4 (W 0)),.sl 4 4 (rC 4 (W 1)),.sl 4 4 (rC 4 (W 2)),.sl 4 4 (rC 4 (W 3))],.raw (.int .i64 (4 : Nat)),.sl P.length 1 (pvs P)]]] (· = iq (W i k)):=by
 refine pc Tryz.func383 ?_
 match i,hi with
 | 0,_=>
  refine ⟨by decide,?_⟩
  rintro _ rfl
  refine gmC k hk ⟨by omega,by omega⟩ (by rw [Int.toNat_natCast]) fun l=>?_
  exact rfl
 | 1,_=>
  refine ⟨by decide,?_⟩
  rintro _ rfl
  refine gmC k hk ⟨by omega,by omega⟩ (by rw [Int.toNat_natCast]) fun l=>?_
  exact rfl
 | 2,_=>
  refine ⟨by decide,?_⟩
  rintro _ rfl
  refine gmC k hk ⟨by omega,by omega⟩ (by rw [Int.toNat_natCast]) fun l=>?_
  exact rfl
 | 3,_=>
  refine ⟨by decide,?_⟩
  rintro _ rfl
  refine gmC k hk ⟨by omega,by omega⟩ (by rw [Int.toNat_natCast]) fun l=>?_
  exact rfl
theorem q_Reduce4 {A : Nat → Nat → Rat} (ha : LB 3 4 4 A) : Pc Tryz.prog 272 [qM 4 4 A] (RedA 4 A):=by
 refine pc Tryz.func272 ?_
 refine ce (qM_Formed (by decide) (by decide)) rfl ?_
 refine iff_ rfl rfl ?_
 refine cl (q_reduced4 (by decide) ha) rfl ?_
 rintro _ ⟨W,P,rfl,hR⟩
 have hW : LB 900 4 4 W:=by obtain ⟨_,_,_,_,h⟩:=hR; exact h
 refine rgc [0,1] rfl ?_
 refine rqa [0,1,2,3,4,6,7,8,9,5,10,11,12] [(6,[1],some []),(7,[1],some []),(8,[1],some []),(9,[1],some []),(10,[],some [1])] ?_
 refine ce (q_made (a:=[]) (b:=[.ip [.ip [.sl 4 1 [.sl 4 4 (rC 4 (W 0)),.sl 4 4 (rC 4 (W 1)),.sl 4 4 (rC 4 (W 2)),.sl 4 4 (rC 4 (W 3))],.raw (.int .i64 (4 : Nat)),.sl P.length 1 (pvs P)]]]) (T:=W) (by decide) (by decide) (fun i k hi hk=>q_red1_4 hi hk) (hW.mono (by decide))) rfl ?_
 exact ⟨W,P,rfl,hR⟩
theorem q_begun0 {A : Nat → Nat → Rat} : Ec Tryz.prog 470 (own 0) [] [qMA 0 0 A,qNA 0] (Is (.ref 0 0) [.box 391 [nilA,ri .i64 0,nilA]]):=by
 refine ec Tryz.func470 ?_
 refine lpn 1 ?_
 refine iff_ rfl rfl ?_
 exact fin [2] rfl ⟨rfl,rfl⟩
theorem q_reduced0 {A : Nat → Nat → Rat} : Pc Tryz.prog 379 [qM 0 0 A,qN 0] (· = .ip [.raw (.slice none 0 0),.raw (.int .i64 0),.raw (.slice none 0 0)]):=by
 refine pc Tryz.func379 ?_
 refine cxg [] 0 [] (q_begun0 (A:=A)) rfl rfl rfl rfl ?_
 rintro _ _ ⟨rfl,rfl⟩
 refine ⟨.inr rfl,?_⟩
 refine lpn 1 ?_
 refine rq [0,1,2,3,4,5,6,7,8,9,10,11,12,13,14,15,16,17,18] ?_
 iterate 11 refine gf rfl ?_
 refine tf rfl ?_
 refine iff_ rfl rfl ?_
 exact rfl
theorem q_Reduce0 {A : Nat → Nat → Rat} : Pc Tryz.prog 272 [qM 0 0 A] (RedA 0 A):=by
 refine Pc.weakQ ?_
 refine pc Tryz.func272 ?_
 refine ce (qM_Formed (r:=0) (c:=0) (A:=A) (by decide) (by decide)) rfl ?_
 refine iff_ rfl rfl ?_
 refine ce (q_reduced0 (A:=A)) rfl ?_
 refine rgc [0,1] rfl ?_
 refine rqa [0,1,2,3,4,6,7,8,9,5,10,11,12] [(6,[1],some []),(7,[1],some []),(8,[1],some []),(9,[1],some []),(10,[],some [1])] ?_
 refine ce (q_made (r:=0) (c:=0) (f:=383) (a:=[]) (b:=[.ip [.ip [.raw (.slice none 0 0),.raw (.int .i64 0),.raw (.slice none 0 0)]]]) (T:=A) (by decide) (by decide) (fun i k hi hk=>by omega) (fun i k hi hk=>by omega)) rfl ?_
 exact ⟨.tup [qM 0 0 A,.sl ([] : List Nat).length 1 (pvs []),.raw (.int .i64 0)],Sub.tup ⟨Sub.refl _,sub_nilk 1,Sub.refl _,trivial⟩,A,[],rfl,0,RedI.start A,Nat.le_refl _,.inl rfl,fun i k hi hk=>by omega⟩
theorem v_Matrix {r c : Nat} {A : Nat → Nat → Rat} (hr : r ≤ 64) (hc : c ≤ 64) (ha : LB 10000 r c A) : Pc Tryz.prog 14 [qM r c A] (· = VM r c A):=by
 have hrc : r * c ≤ 64 * 64:=Nat.mul_le_mul hr hc
 obtain ⟨xs,hxs⟩ : ∃ xs,xs = tq c A (r * c):=⟨_,rfl⟩
 have hxl : xs.length = r * c:=by rw [hxs,tq_len]
 have hL : (xs.map qc).length = r * c:=by rw [List.length_map,hxl]
 have hlx : ∀ x ∈ xs,lr x ≤ 10000:=fun x hx=>by rw [hxs] at hx; obtain ⟨i,k,hi,hk,rfl⟩:=mem_tq hx; exact ha i k hi hk
 have hV : VM r c A = vm (.raw (.int .i64 r)) (.raw (.int .i64 c)) (.sl (r * c) 4 (xs.map qc).flatten):=by unfold VM; rw [← hxs,hL]
 have hF:=qM_Formed (A:=A) hr hc
 have hQ : qM r c A = .agg [.raw (.int .i64 r),.raw (.int .i64 c),.sl (xs.map qc).length 4 (xs.map qc).flatten]:=by unfold qM qm mc; rw [← hxs]
 rw [hV]
 rw [hQ] at hF ⊢
 refine pc Tryz.func14 ?_
 refine ce hF rfl ?_
 refine iff_ rfl rfl ?_
 refine lfb 2 2 49 4 rfl rfl ?_
 refine lpt (fun j : Nat=>j ≤ r * c) (fun j=>[(2,.ref 1 0),(3,.ref 2 0),(16,.im (.sl (xs.map qc).length 4 (xs.map qc).flatten)),(17,ri .i64 (xs.map qc).length),(18,ri .i64 j)])
  (fun j=>[.box 40 [ri .i64 r,ri .i64 c,.im (.sl (xs.map qc).length 4 (xs.map qc).flatten)],.box 57 [ri .i64 0,rb false,nilA,rb false,nilA,ri .i64 0,ri .i64 0,nilA,nilA,ri .u64 0,ri .i64 0,ri .i64 0,nilA,nilA,nilA],.box 40 [ri .i64 r,ri .i64 c,.own 3],.row 49 4 j ((xs.take j).map qc).flatten]) (fun j=>r * c - j) 0 (Nat.zero_le _) (tsr rfl) rfl ?_
 intro j t hj
 refine ifs rfl (fun h=>?_) (fun h=>?_)
 ·have h:=of_decide_eq_true h
  obtain ⟨x,hx⟩ : ∃ x,xs[j]? = some x:=⟨_,List.getElem?_eq_getElem (by omega)⟩
  have hxx:=hlx x (List.mem_of_getElem? hx)
  have e2 : ((xs.take (j + 1)).map qc).flatten = ((xs.take j).map qc).flatten ++ qc x:=by rw [take_snoc' hx,List.map_append,List.flatten_append]; simp
  have ca:=r_Add (a:=x) (b:=0) (by omega) (Nat.le_trans lr_zero (by decide))
  rw [Rat.add_zero] at ca
  refine gm (qc_len xs) j ⟨by omega,by omega⟩ (by rw [List.getElem?_map,hx]; rfl) (by rw [Int.toNat_natCast]) fun l=>?_
  refine rq [0,1,2,3,4,5,6,7,8,9] ?_
  refine ce r_Of0 rfl ?_
  refine ce ca rfl ?_
  refine ⟨(show (j + 1) * 64 ≤ 140737488355328 ∧ j + 1 ≤ 1000000000 by omega),?_⟩
  refine nxg [0,1,2,3] (j + 1) (by omega) rfl ⟨by omega,⟨rfl,rfl,rfl,rfl,congrArg (ri .i64) (i64s (by omega)).symm,trivial⟩,?_⟩
  exact congrArg (fun l=>([.box 40 [ri .i64 r,ri .i64 c,.im (.sl (xs.map qc).length 4 (xs.map qc).flatten)],.box 57 [ri .i64 0,rb false,nilA,rb false,nilA,ri .i64 0,ri .i64 0,nilA,nilA,ri .u64 0,ri .i64 0,ri .i64 0,nilA,nilA,nilA],.box 40 [ri .i64 r,ri .i64 c,.own 3],.row 49 4 (j + 1) l] : List AO)) e2.symm
 ·have h:=of_decide_eq_false h
  obtain rfl : j = r * c:=by omega
  rw [List.take_of_length_le (by omega)]
  exact rfl
theorem zts_one : zts 1 = [49]:=by kernel_rfl
theorem v_text1 : Pc Tryz.prog 37 [VN 1] (· = ts [49]):=by
 have h:=r_Print (z:=1) (by decide)
 rw [zts_one] at h
 refine pc Tryz.func37 ?_
 refine ift rfl rfl ?_
 refine ce h rfl ?_
 exact rfl
theorem v_Print1 : Pc Tryz.prog 21 [VN 1] (· = .tup [ts [49],.raw (.int .i64 0)]):=by
 refine pc Tryz.func21 ?_
 refine ce (v_FormedN (q:=1) (Nat.le_trans lr_one (by decide))) rfl ?_
 refine iff_ rfl rfl ?_
 refine ce v_text1 rfl ?_
 exact rfl
theorem k_whole {z : Int} (h : li z ≤ 20000) : Pc Tryz.prog 344 [VN (z : Rat)] (· = .tup [iz z,.raw (.bool true)]):=by
 refine pc Tryz.func344 ?_
 refine ce (r_Whole (q:=(z : Rat)) (by rw [lr_int,ln_one]; omega) rfl) rfl ?_
 refine rta (PT.app [0,1,2,3,4,5] (.br 6 (PT.app [7,8] .nil) 7 (PT.app [6,8] .nil))) [(3,[1],some []),(4,[1],some []),(5,[1],some []),(7,[],some [1])] ?_
 iterate 3 refine gt rfl ?_
 refine ⟨?_,?_⟩
 ·refine tw rfl ?_
  exact rfl
 ·refine tw rfl ?_
  exact rfl
theorem k_wholes {r c : Nat} {A : Nat → Nat → Int} (hr : r ≤ 64) (hc : c ≤ 64) (ha : ZB 5000 r c A) : Pc Tryz.prog 349 [VM r c fun i k=>((A i k : Int) : Rat)] (· = .tup [zM r c A,.raw (.bool true)]):=by
 refine pc Tryz.func349 ?_
 refine iff_ rfl rfl ?_
 refine ce (q_Clear (r:=r) (c:=c) (A:=A) hr hc ha) rfl ?_
 refine rq [0,1,2,3,4,5] ?_
 refine ce (z_Of (x:=1) (by decide) (by decide)) rfl ?_
 refine ce (z_Same (a:=1) (b:=1) (Nat.le_trans (Nat.le_of_eq ln_one) (by decide)) (Nat.le_trans (Nat.le_of_eq ln_one) (by decide))) rfl ?_
 exact rfl
def v15 (a b c d e f g h i j k l m n o : IV) : IV:=.agg [a,b,c,d,e,f,g,h,i,j,k,l,m,n,o]
def a17 (a b c d e f g h i j k l m n o : IV) : IV:=.agg [a,b,c,d,e,f,g,h,i,j,k,l,m,n,o,.raw (.int .i64 0),.raw (.bool true)]
theorem k_done {a b c d e f g h i j k l m n o : IV} : Pc Tryz.prog 251 [v15 a b c d e f g h i j k l m n o,.raw (.int .i64 0)] (· = a17 a b c d e f g h i j k l m n o):=by
 refine pc Tryz.func251 ?_
 refine iff_ rfl rfl ?_
 exact rfl
theorem k_fine {a b c d e f g h i j k l m n o : IV} : Pc Tryz.prog 247 [v15 a b c d e f g h i j k l m n o] (· = a17 a b c d e f g h i j k l m n o):=by
 refine pc Tryz.func247 ?_
 refine ce (k_done (a:=a) (b:=b) (c:=c) (d:=d) (e:=e) (f:=f) (g:=g) (h:=h) (i:=i) (j:=j) (k:=k) (l:=l) (m:=m) (n:=n) (o:=o)) rfl ?_
 exact rfl
noncomputable def ansN (q : Rat) : IV:=a17 (.raw (.int .i64 1)) (.raw (.bool (decide (q.num < 0)))) (na q.num.natAbs) (.raw (.bool (decide ((q.den : Int) < 0)))) (na (q.den : Int).natAbs) (.raw (.int .i64 0)) (.raw (.int .i64 0)) nilI nilI (.raw (.int .u64 0)) (.raw (.int .i64 0)) (.raw (.int .i64 0)) nilI nilI nilI
noncomputable def ansM (r c : Nat) (A : Nat → Nat → Rat) : IV:=a17 (.raw (.int .i64 2)) (.raw (.bool false)) nilI (.raw (.bool false)) nilI (.raw (.int .i64 r)) (.raw (.int .i64 c)) (.sl ((tq c A (r * c)).map qc).length 4 ((tq c A (r * c)).map qc).flatten) nilI (.raw (.int .u64 0)) (.raw (.int .i64 0)) (.raw (.int .i64 0)) nilI nilI nilI
theorem k_doneN {q : Rat} : Pc Tryz.prog 251 [VN q,.raw (.int .i64 0)] (· = ansN q):=k_done
theorem k_doneM {r c : Nat} {A : Nat → Nat → Rat} : Pc Tryz.prog 251 [VM r c A,.raw (.int .i64 0)] (· = ansM r c A):=k_done
theorem k_fineN {q : Rat} : Pc Tryz.prog 247 [VN q] (· = ansN q):=k_fine
theorem k_number {z : Int} (h : li z ≤ 20000) : Pc Tryz.prog 262 [iz z,.raw (.int .i64 0)] (· = ansN (z : Rat)):=by
 refine pc Tryz.func262 ?_
 refine ce (v_Whole h) rfl ?_
 refine ce (k_doneN (q:=(z : Rat))) rfl ?_
 exact rfl
theorem k_count {n : Nat} (h : n ≤ 1000) : Pc Tryz.prog 248 [.raw (.int .i64 (n : Int))] (· = VN ((n : Int) : Rat)):=by
 have hw : (1000 : Nat) < W64:=by decide
 have hn : li (n : Int) ≤ 20000:=by
  have:=lr_nat n (by omega)
  rw [lr_int,ln_one] at this
  omega
 refine pc Tryz.func248 ?_
 refine ce (z_Of (x:=(n : Int)) (by omega) (by omega)) rfl ?_
 refine ce (v_Whole (z:=(n : Int)) hn) rfl ?_
 exact rfl
def cI (nm : List Nat) (n : Nat) (cs : List IV) : IV:=.agg [ts nm,.sl n 15 cs]
noncomputable def cN (q : Rat) : List IV:=[.raw (.int .i64 1),.raw (.bool (decide (q.num < 0))),na q.num.natAbs,.raw (.bool (decide ((q.den : Int) < 0))),na (q.den : Int).natAbs,.raw (.int .i64 0),.raw (.int .i64 0),nilI,nilI,.raw (.int .u64 0),.raw (.int .i64 0),.raw (.int .i64 0),nilI,nilI,nilI]
def cV (r c m : IV) : List IV:=[.raw (.int .i64 2),.raw (.bool false),nilI,.raw (.bool false),nilI,r,c,m,nilI,.raw (.int .u64 0),.raw (.int .i64 0),.raw (.int .i64 0),nilI,nilI,nilI]
noncomputable def cM (r c : Nat) (A : Nat → Nat → Rat) : List IV:=cV (.raw (.int .i64 r)) (.raw (.int .i64 c)) (.sl ((tq c A (r * c)).map qc).length 4 ((tq c A (r * c)).map qc).flatten)
theorem k_sortN {z : Int} (h : li z ≤ 20000) : Pc Tryz.prog 273 [VN (z : Rat),.raw (.int .u8 110)] (· = .raw (.bool true)):=by
 refine pc Tryz.func273 ?_
 refine ift rfl rfl ?_
 refine ce (k_whole h) rfl ?_
 exact rfl
theorem k_sortM {r c : Nat} {A : Nat → Nat → Int} (hr : r ≤ 64) (hc : c ≤ 64) (ha : ZB 5000 r c A) : Pc Tryz.prog 273 [VM r c fun i k=>((A i k : Int) : Rat),.raw (.int .u8 109)] (· = .raw (.bool true)):=by
 refine pc Tryz.func273 ?_
 refine iff_ rfl rfl ?_
 refine iff_ rfl rfl ?_
 refine ift rfl rfl ?_
 refine ce (k_wholes hr hc ha) rfl ?_
 exact rfl
theorem k_sortX {r c : Nat} {A : Nat → Nat → Rat} : Pc Tryz.prog 273 [VM r c A,.raw (.int .u8 120)] (· = .raw (.bool true)):=by
 refine pc Tryz.func273 ?_
 refine iff_ rfl rfl ?_
 refine iff_ rfl rfl ?_
 refine iff_ rfl rfl ?_
 refine ift rfl rfl ?_
 exact rfl
theorem k_as_no {nm s so : List Nat} {n : Nat} {cs : List IV} (hn : byt nm = true) (hs : byt s = true) (h : eqL nm s = false) : Pc Tryz.prog 241 [cI nm n cs,ts s,ts so] (· = .raw (.bool false)):=by
 have e : (!((tx nm).toList == (tx s).toList)) = true:=by rw [tx_beq hn hs,h]; rfl
 refine pc Tryz.func241 ?_
 iterate 6 refine gf e ?_
 refine tw e ?_
 refine ift rfl rfl ?_
 exact rfl
theorem k_as_x {nm : List Nat} {r c : Nat} {A : Nat → Nat → Rat} (hn : byt nm = true) : Pc Tryz.prog 241 [cI nm 1 (cM r c A),ts nm,ts [120]] (· = .raw (.bool true)):=by
 have e : (!((tx nm).toList == (tx nm).toList)) = false:=by simp
 refine pc Tryz.func241 ?_
 iterate 6 refine gt e ?_
 refine tf e ?_
 refine iff_ rfl rfl ?_
 refine lpn 2 ?_
 refine ift rfl rfl ?_
 refine ⟨by decide,?_⟩
 rintro _ rfl
 refine rq [0,1,2,3,4,5] ?_
 refine ⟨by decide,?_⟩
 refine ce (k_sortX (r:=r) (c:=c) (A:=A)) rfl ?_
 refine iff_ rfl rfl ?_
 refine iff_ rfl rfl ?_
 exact rfl
def ra (A : Nat → Nat → Int) : Nat → Nat → Rat:=fun i k=>((A i k : Int) : Rat)
theorem k_as_m {nm : List Nat} {r c : Nat} {A : Nat → Nat → Int} (hr : r ≤ 64) (hc : c ≤ 64) (ha : ZB 5000 r c A) : Pc Tryz.prog 241 [cI nm 1 (cM r c (ra A)),ts nm,ts [109]] (· = .raw (.bool true)):=by
 have e : (!((tx nm).toList == (tx nm).toList)) = false:=by simp
 refine pc Tryz.func241 ?_
 iterate 6 refine gt e ?_
 refine tf e ?_
 refine iff_ rfl rfl ?_
 refine lpn 2 ?_
 refine ift rfl rfl ?_
 refine ⟨by decide,?_⟩
 rintro _ rfl
 refine rq [0,1,2,3,4,5] ?_
 refine ⟨by decide,?_⟩
 refine ce (k_sortM (r:=r) (c:=c) (A:=A) hr hc ha) rfl ?_
 refine iff_ rfl rfl ?_
 refine iff_ rfl rfl ?_
 exact rfl
theorem k_as_nn {nm : List Nat} {a b : Int} (ha : li a ≤ 20000) (hb : li b ≤ 20000) : Pc Tryz.prog 241 [cI nm 2 (cN (a : Rat) ++ cN (b : Rat)),ts nm,ts [110,110]] (· = .raw (.bool true)):=by
 have e : (!((tx nm).toList == (tx nm).toList)) = false:=by simp
 refine pc Tryz.func241 ?_
 iterate 6 refine gt e ?_
 refine tf e ?_
 refine iff_ rfl rfl ?_
 refine lpn 3 ?_
 refine ift rfl rfl ?_
 refine ⟨by decide,?_⟩
 rintro _ rfl
 refine rq [0,1,2,3,4,5] ?_
 refine ⟨by decide,?_⟩
 refine ce (k_sortN (z:=a) ha) rfl ?_
 refine iff_ rfl rfl ?_
 refine ift rfl rfl ?_
 refine ⟨by decide,?_⟩
 rintro _ rfl
 refine rq [0,1,2,3,4,5] ?_
 refine ⟨by decide,?_⟩
 refine ce (k_sortN (z:=b) hb) rfl ?_
 refine iff_ rfl rfl ?_
 refine iff_ rfl rfl ?_
 exact rfl
theorem k_n0 {nm : List Nat} {a b : Int} (ha : li a ≤ 20000) : Pc Tryz.prog 244 [cI nm 2 (cN (a : Rat) ++ cN (b : Rat)),.raw (.int .i64 0)] (· = iz a):=by
 refine pc Tryz.func244 ?_
 refine ⟨by decide,?_⟩
 rintro _ rfl
 refine ce (k_whole (z:=a) ha) rfl ?_
 exact rfl
theorem k_n1 {nm : List Nat} {a b : Int} (hb : li b ≤ 20000) : Pc Tryz.prog 244 [cI nm 2 (cN (a : Rat) ++ cN (b : Rat)),.raw (.int .i64 1)] (· = iz b):=by
 refine pc Tryz.func244 ?_
 refine ⟨by decide,?_⟩
 rintro _ rfl
 refine ce (k_whole (z:=b) hb) rfl ?_
 exact rfl
theorem k_m {nm : List Nat} {r c : Nat} {A : Nat → Nat → Int} (hr : r ≤ 64) (hc : c ≤ 64) (ha : ZB 5000 r c A) : Pc Tryz.prog 250 [cI nm 1 (cM r c (ra A)),.raw (.int .i64 0)] (· = zM r c A):=by
 refine pc Tryz.func250 ?_
 refine ⟨by decide,?_⟩
 rintro _ rfl
 refine ce (k_wholes (r:=r) (c:=c) (A:=A) hr hc ha) rfl ?_
 exact rfl
theorem k_small0 : Pc Tryz.prog 243 [iz 0] (· = .raw (.int .i64 0)):=by
 refine pc Tryz.func243 ?_
 refine ce (z_Small (z:=0) (by omega) (by omega)) rfl ?_
 repeat (first|refine gt rfl ?_|refine gf rfl ?_|refine tw rfl ?_|refine tf rfl ?_)
 refine iff_ rfl rfl ?_
 exact rfl
theorem lr_k {z : Int} {K : Nat} (h : li z ≤ K) (hK : 1 ≤ K) : lr (z : Rat) ≤ K:=by rw [lr_int,ln_one]; omega
theorem q_FromK {r c : Nat} {es : List (Bool × List Nat)} (hr : r ≤ 64) (hc : c ≤ 64) (hl : es.length = r * c) (hw : ∀ e ∈ es,wf W64 e.2 ∧ e.2.length ≤ 200) (A : Nat → Nat → Int) (hA : ∀ i k,i < r → k < c → ∃ e,es[i * c + k]? = some e ∧ zv e = A i k) :
  Pc Tryz.prog 12 [mc 2 r c (es.map zn)] (· = .tup [qM r c fun i k=>((A i k : Int) : Rat),.raw (.int .i64 0)]):=by
 have h1 : ∀ i k,i < r → k < c → Pc Tryz.prog 32 [.raw (.int .i64 (i : Int)),.raw (.int .i64 (k : Int)),.ip [.raw (.int .i64 (r : Int)),.raw (.int .i64 (c : Int)),.sl (es.map zn).length 2 (es.map zn).flatten],.ip (zc 1)] (· = iq ((A i k : Int) : Rat)):=fun i k hi hk=>by
  obtain ⟨e,he,hv⟩:=hA i k hi hk
  obtain ⟨w1,w2⟩:=hw e (List.mem_of_getElem? he)
  refine pc Tryz.func32 ?_
  refine rq [0,1,2,4,3,5,6] ?_
  refine ce (z_At hr hc hi hk hl he w1 (by omega)) rfl ?_
  rw [hv]
  exact rfl
 have h2 : Pc Tryz.prog 19 [mc 2 r c (es.map zn),iz 1] (· = .tup [qM r c fun i k=>((A i k : Int) : Rat),.raw (.int .i64 0)]):=by
  refine pc Tryz.func19 ?_
  refine ce (z_Formed hr hc (by rw [List.length_map]; exact hl)) rfl ?_
  refine iff_ rfl rfl ?_
  refine ce (z_Sign (Nat.le_trans li1 (by decide))) rfl ?_
  refine iff_ rfl rfl ?_
  refine clk [0,1] (q_made (a:=[]) hr hc h1 fun i k hi hk=>?_) rfl rfl ?_
  ·obtain ⟨e,he,hv⟩:=hA i k hi hk
   obtain ⟨w1,w2⟩:=hw e (List.mem_of_getElem? he)
   refine Nat.le_trans (lr_k (K:=200) ?_ (by decide)) (by decide)
   rw [← hv]
   unfold zv li; rw [zsg_abs]
   refine ln_le ?_
   have:=nv_lt e.2 w1
   exact Nat.lt_of_lt_of_le this (Nat.pow_le_pow_right W64_pos w2)
  ·rintro _ rfl
   exact rfl
 refine pc Tryz.func12 ?_
 refine rq [0,1,2,3,4,5,6] ?_
 refine ce (z_Of (x:=1) (by decide) (by decide)) rfl ?_
 refine ce h2 rfl ?_
 exact rfl
theorem k_table {r c : Nat} {es : List (Bool × List Nat)} (hr : r ≤ 64) (hc : c ≤ 64) (hl : es.length = r * c) (hw : ∀ e ∈ es,wf W64 e.2 ∧ e.2.length ≤ 200) (A : Nat → Nat → Int) (hA : ∀ i k,i < r → k < c → ∃ e,es[i * c + k]? = some e ∧ zv e = A i k) :
  Pc Tryz.prog 253 [mc 2 r c (es.map zn)] (· = VM r c (ra A)):=by
 refine pc Tryz.func253 ?_
 refine ce (q_FromK hr hc hl hw A hA) rfl ?_
 refine ce (v_Matrix (r:=r) (c:=c) (A:=ra A) hr hc (fun i k hi hk=>?_)) rfl ?_
 ·obtain ⟨e,he,hv⟩:=hA i k hi hk
  obtain ⟨w1,w2⟩:=hw e (List.mem_of_getElem? he)
  refine Nat.le_trans (lr_k (K:=200) ?_ (by decide)) (by decide)
  rw [← hv]
  unfold zv li; rw [zsg_abs]
  refine ln_le ?_
  have:=nv_lt e.2 w1
  exact Nat.lt_of_lt_of_le this (Nat.pow_le_pow_right W64_pos w2)
 exact rfl
theorem k_tableM {r c : Nat} {A : Nat → Nat → Int} (hr : r ≤ 64) (hc : c ≤ 64) (ha : ZB 200 r c A) : Pc Tryz.prog 253 [zM r c A] (· = VM r c (ra A)):=by
 have he : ∀ z : Int,zn (decide (z < 0),wd z.natAbs) = zc z:=fun z=>rfl
 have e0 : zM r c A = mc 2 r c (((tq c A (r * c)).map fun z=>(decide (z < 0),wd z.natAbs)).map zn):=by
  unfold zM zm
  rw [List.map_map]; rfl
 rw [e0]
 refine k_table hr hc (by rw [List.length_map,tq_len]) (fun e h=>?_) A fun i k hi hk=>⟨(decide (A i k < 0),wd (A i k).natAbs),?_,?_⟩
 ·obtain ⟨z,hz,rfl⟩:=List.mem_map.1 h
  obtain ⟨i,k,hi,hk,rfl⟩:=mem_tq hz
  exact ⟨(wd_nrm _).1,ha i k hi hk⟩
 ·rw [List.getElem?_map,tq_get A hi hk]; rfl
 ·unfold zv; rw [wd_nv]; exact zsg_of _
theorem k_matrixOf {r c : Nat} {A : Nat → Nat → Int} (hr : r ≤ 64) (hc : c ≤ 64) (ha : ZB 200 r c A) : Pc Tryz.prog 245 [zM r c A,.raw (.int .i64 0)] (· = ansM r c (ra A)):=by
 refine pc Tryz.func245 ?_
 refine ce (k_tableM hr hc ha) rfl ?_
 refine ce k_doneM rfl ?_
 exact rfl
def sgnT : List Nat:=[43,45,42,47,94,40,41,91,93,123,125,44,59,61,60,33,46]
theorem sgnT_all : ((List.range 256).all fun c=>decide (Lib.indexByte (u8 sgnT) c.toUInt8 ≥ 0) == decide (c ∈ sgnT)) = true:=by kernel_rfl
theorem sgnT_ix {c : Nat} (h : c < 256) : decide (Lib.indexByte (u8 sgnT) c.toUInt8 ≥ 0) = decide (c ∈ sgnT):=by
 have:=List.all_eq_true.1 sgnT_all c (List.mem_range.2 h)
 exact eq_of_beq this
theorem beqI {c k : Nat} (h : c ≠ k) : ((c : Int) == (k : Int)) = false:=by simp; omega
theorem beqT {c k : Nat} (h : c = k) : ((c : Int) == (k : Int)) = true:=by simp; omega
theorem x_sort {c : Nat} (h : c < 256) : Pc Tryz.prog 69 [.raw (.int .u8 (c : Int))] (· = .raw (.int .i64 (sortN c : Nat))):=by
 refine pc Tryz.func69 ?_
 by_cases hb : c = 32 ∨ c = 9 ∨ c = 10 ∨ c = 13
 ·rcases hb with rfl | rfl | rfl | rfl <;> (repeat (first|refine gt rfl ?_|refine gf rfl ?_|refine tw rfl ?_|refine tf rfl ?_)) <;> refine ift rfl rfl ?_ <;> exact rfl
 have e1 : ((c : Int) == 32) = false:=beqI (k:=32) (by omega)
 have e2 : ((c : Int) == 9) = false:=beqI (k:=9) (by omega)
 have e3 : ((c : Int) == 10) = false:=beqI (k:=10) (by omega)
 have e4 : ((c : Int) == 13) = false:=beqI (k:=13) (by omega)
 iterate 2 refine gt e1 ?_
 refine tf e1 ?_
 iterate 2 refine gt e2 ?_
 refine tf e2 ?_
 iterate 2 refine gt e3 ?_
 refine tf e3 ?_
 refine iff_ rfl e4 ?_
 by_cases h1 : 48 ≤ c ∧ c ≤ 57
 ·have g1 : decide ((c : Int) ≥ 48) = true:=decide_eq_true (by omega)
  iterate 2 refine gt g1 ?_
  refine tw g1 ?_
  refine ift rfl (decide_eq_true (by omega)) ?_
  have : sortN c = 2:=by unfold sortN; rw [if_neg hb,if_pos h1]
  rw [this]; exact rfl
 by_cases h0 : 48 ≤ c
 case' pos=>
  have g1 : decide ((c : Int) ≥ 48) = true:=decide_eq_true (by omega)
  iterate 2 refine gt g1 ?_
  refine tw g1 ?_
  refine iff_ rfl (decide_eq_false (by omega)) ?_
 case' neg=>
  have g1 : decide ((c : Int) ≥ 48) = false:=decide_eq_false (by omega)
  iterate 2 refine gf g1 ?_
  refine tf g1 ?_
  refine iff_ rfl rfl ?_
 all_goals
  by_cases h2 : 97 ≤ c ∧ c ≤ 122
  ·have g1 : decide ((c : Int) ≥ 97) = true:=decide_eq_true (by omega)
   iterate 2 refine gt g1 ?_
   refine tw g1 ?_
   refine ift rfl (decide_eq_true (by omega)) ?_
   have : sortN c = 3:=by unfold sortN; rw [if_neg hb,if_neg h1,if_pos h2]
   rw [this]; exact rfl
  by_cases h3 : 97 ≤ c
  case' pos=>
   have g1 : decide ((c : Int) ≥ 97) = true:=decide_eq_true (by omega)
   iterate 2 refine gt g1 ?_
   refine tw g1 ?_
   refine iff_ rfl (decide_eq_false (by omega)) ?_
  case' neg=>
   have g1 : decide ((c : Int) ≥ 97) = false:=decide_eq_false (by omega)
   iterate 2 refine gf g1 ?_
   refine tf g1 ?_
   refine iff_ rfl rfl ?_
  all_goals
   by_cases h4 : c = 95
   ·refine ift rfl (beqT (k:=95) h4) ?_
    have : sortN c = 4:=by unfold sortN; rw [if_neg hb,if_neg h1,if_neg h2,if_pos h4]
    rw [this]; exact rfl
   refine iff_ rfl (beqI (k:=95) h4) ?_
   refine ce (l_IndexByte sgnT (c:=c)) rfl ?_
   have hx:=sgnT_ix h
   by_cases h5 : c ∈ sgnT
   ·refine ift rfl (hx.trans (decide_eq_true h5)) ?_
    have : sortN c = 5:=by unfold sortN; rw [if_neg hb,if_neg h1,if_neg h2,if_neg h4]; exact if_pos h5
    rw [this]; exact rfl
   ·refine iff_ rfl (hx.trans (decide_eq_false h5)) ?_
    have : sortN c = 0:=by unfold sortN; rw [if_neg hb,if_neg h1,if_neg h2,if_neg h4]; exact if_neg h5
    rw [this]; exact rfl
theorem x_word {c : Nat} (h : c < 256) : Pc Tryz.prog 119 [.raw (.int .u8 (c : Int))] (· = .raw (.bool (wordB c))):=by
 have hs : sortN c ≤ 5:=by unfold sortN; (repeat' split) <;> omega
 refine pc Tryz.func119 ?_
 refine ce (x_sort h) rfl ?_
 have hw : wordB c = (sortN c == 2 || sortN c == 3 || sortN c == 4):=rfl
 rw [hw]
 generalize sortN c = s at hs
 match s,hs with
 | 0,_=>(repeat (first|refine gt rfl ?_|refine gf rfl ?_|refine tw rfl ?_|refine tf rfl ?_)); exact rfl
 | 1,_=>(repeat (first|refine gt rfl ?_|refine gf rfl ?_|refine tw rfl ?_|refine tf rfl ?_)); exact rfl
 | 2,_=>(repeat (first|refine gt rfl ?_|refine gf rfl ?_|refine tw rfl ?_|refine tf rfl ?_)); exact rfl
 | 3,_=>(repeat (first|refine gt rfl ?_|refine gf rfl ?_|refine tw rfl ?_|refine tf rfl ?_)); exact rfl
 | 4,_=>(repeat (first|refine gt rfl ?_|refine gf rfl ?_|refine tw rfl ?_|refine tf rfl ?_)); exact rfl
 | 5,_=>(repeat (first|refine gt rfl ?_|refine gf rfl ?_|refine tw rfl ?_|refine tf rfl ?_)); exact rfl
theorem runL_of {l : List Nat} {n : Nat} (hn : n ≤ l.length) (h1 : ∀ i c,i < n → l[i]? = some c → wordB c = true) (h2 : ∀ c,l[n]? = some c → wordB c = false) : runL l = n:=by
 unfold runL
 induction l generalizing n with
 | nil=>simp at hn; subst hn; rfl
 | cons a l ih=>
  cases n with
  | zero=>have:=h2 a rfl; simp [this]
  | succ n=>
   have ha:=h1 0 a (by omega) rfl
   rw [List.takeWhile_cons,if_pos ha,List.length_cons,ih (by simpa using hn) (fun i c hi hc=>h1 (i + 1) c (by omega) (by simpa using hc)) (fun c hc=>h2 c (by simpa using hc))]
theorem x_run {l : List Nat} (hb : byt l = true) (hl : l.length ≤ 100000) : Pc Tryz.prog 71 [ts l] (· = .raw (.int .i64 (runL l : Nat))):=by
 have hs:=tx_size l
 refine pc Tryz.func71 ?_
 refine lpt (fun n : Nat=>n ≤ l.length ∧ ∀ i c,i < n → l[i]? = some c → wordB c = true) (fun n=>[(0,.im (ts l)),(3,ri .i64 n)]) (fun _=>[]) (fun n=>l.length - n) 0 ⟨Nat.zero_le _,fun i c h=>by omega⟩ (tsr rfl) rfl ?_
 rintro n t ⟨hn,hw⟩
 by_cases h : n < l.length
 ·obtain ⟨c,hc⟩ : ∃ c,l[n]? = some c:=⟨_,List.getElem?_eq_getElem h⟩
  have g : decide ((n : Int) < ((tx l).size : Int)) = true:=decide_eq_true (by rw [hs]; omega)
  iterate 3 refine gt g ?_
  refine ⟨⟨by omega,by rw [hs]; omega⟩,?_⟩
  refine fr (congrArg (fun z=>AV.im (.raw (.int .u8 z))) (bx hb (j:=(n : Int)) rfl hc)) ?_
  refine gt g ?_
  refine ce (x_word (byt_of hb c (List.mem_of_getElem? hc))) rfl ?_
  refine tw g ?_
  refine ifs rfl (fun e=>?_) (fun e=>?_)
  ·refine nx (n + 1) (by omega) ⟨⟨by omega,fun i d hi hd=>?_⟩,⟨rfl,congrArg (ri .i64) (i64s (by omega)).symm,trivial⟩,rfl⟩
   by_cases hin : i = n
   ·subst hin; rw [hc] at hd; cases hd; exact e
   ·exact hw i d (by omega) hd
  ·rw [runL_of (n:=n) hn hw (fun d hd=>by rw [hc] at hd; cases hd; exact e)]
   exact rfl
 ·have g : decide ((n : Int) < ((tx l).size : Int)) = false:=decide_eq_false (by rw [hs]; omega)
  iterate 4 refine gf g ?_
  refine tf g ?_
  refine iff_ rfl rfl ?_
  rw [runL_of (n:=n) hn hw (fun d hd=>by rw [List.getElem?_eq_none (by omega)] at hd; cases hd)]
  exact rfl
theorem numB_no {t : List Nat} (h : ¬ (1 ≤ t.length ∧ t.length ≤ 2000 ∧ (1 < t.length → t.headD 0 ≠ 48) ∧ ∀ c ∈ t,sortN c = 2)) : numB t = false:=by
 cases hb : numB t with
 | false=>rfl
 | true=>
  exfalso; apply h
  simp only [numB,Bool.and_eq_true,decide_eq_true_eq,Bool.not_eq_true',Bool.and_eq_false_iff,decide_eq_false_iff_not,List.all_eq_true,beq_iff_eq,beq_eq_false_iff_ne] at hb
  obtain ⟨⟨⟨h1,h2⟩,h3⟩,h4⟩:=hb
  exact ⟨h1,h2,fun g=>h3.resolve_left (fun e=>e g),h4⟩
theorem numB_yes {t : List Nat} (h1 : 1 ≤ t.length) (h2 : t.length ≤ 2000) (h3 : 1 < t.length → t.headD 0 ≠ 48) (h4 : ∀ c ∈ t,sortN c = 2) : numB t = true:=by
 simp only [numB,Bool.and_eq_true,decide_eq_true_eq,Bool.not_eq_true',Bool.and_eq_false_iff,decide_eq_false_iff_not,List.all_eq_true,beq_iff_eq,beq_eq_false_iff_ne]
 refine ⟨⟨⟨h1,h2⟩,?_⟩,h4⟩
 by_cases g : 1 < t.length
 ·exact .inr (h3 g)
 ·exact .inl g
theorem head0 {t : List Nat} {c : Nat} (hc : t[0]? = some c) : t.headD 0 = c:=by simp [List.headD_eq_head?_getD,List.head?_eq_getElem?,hc]
theorem x_numeral {t : List Nat} (hb : byt t = true) (hl : t.length ≤ 100000) : Pc Tryz.prog 72 [ts t] (· = .raw (.bool (numB t))):=by
 have hs:=tx_size t
 refine pc Tryz.func72 ?_
 by_cases k1 : t.length < 1
 ·have g1 : decide (((tx t).size : Int) < 1) = true:=decide_eq_true (by rw [hs]; omega)
  rw [numB_no fun h=>by omega]
  iterate 3 refine gf (want:=false) g1 ?_
  refine tw g1 ?_
  repeat (first|refine gt rfl ?_|refine gf rfl ?_|refine tw rfl ?_|refine tf rfl ?_)
  refine ift rfl rfl ?_
  exact rfl
 have g1 : decide (((tx t).size : Int) < 1) = false:=decide_eq_false (by rw [hs]; omega)
 iterate 3 refine gt g1 ?_
 refine tf g1 ?_
 by_cases k2 : t.length > 2000
 ·have g2 : decide (((tx t).size : Int) > 2000) = true:=decide_eq_true (by rw [hs]; omega)
  rw [numB_no fun h=>by omega]
  iterate 5 refine gf (want:=false) g2 ?_
  refine tw g2 ?_
  refine ift rfl rfl ?_
  exact rfl
 have g2 : decide (((tx t).size : Int) > 2000) = false:=decide_eq_false (by rw [hs]; omega)
 iterate 4 refine gt g2 ?_
 obtain ⟨c0,hc0⟩ : ∃ c,t[0]? = some c:=⟨_,List.getElem?_eq_getElem (by omega)⟩
 by_cases k3 : 1 < t.length
 case' pos=>
  have g3 : decide (((tx t).size : Int) > 1) = true:=decide_eq_true (by rw [hs]; omega)
  refine gt g3 ?_
  refine gt g3 ?_
  refine ⟨⟨by decide,by rw [hs]; omega⟩,?_⟩
  refine fr (congrArg (fun z=>AV.im (.raw (.int .u8 z))) (bx hb (j:=0) rfl hc0)) ?_
  refine gt g3 ?_
  refine gt g2 ?_
  refine tw g3 ?_
  refine tf g2 ?_
  by_cases k4 : c0 = 48
  ·refine ift rfl (beqT (k:=48) k4) ?_
   rw [numB_no fun h=>h.2.2.1 k3 ((head0 hc0).trans k4)]
   exact rfl
  refine iff_ rfl (beqI (k:=48) k4) ?_
  have h0 : 1 < t.length → t.headD 0 ≠ 48:=fun _=>by rw [head0 hc0]; exact k4
 case' neg=>
  have g3 : decide (((tx t).size : Int) > 1) = false:=decide_eq_false (by rw [hs]; omega)
  iterate 3 refine gf g3 ?_
  refine gt g2 ?_
  refine tf g3 ?_
  refine tf g2 ?_
  refine iff_ rfl rfl ?_
  have h0 : 1 < t.length → t.headD 0 ≠ 48:=fun h=>(k3 h).elim
 all_goals
  refine lpt (fun i : Nat=>i ≤ t.length ∧ ∀ j c,j < i → t[j]? = some c → sortN c = 2) (fun i=>[(0,.im (ts t)),(23,ri .i64 t.length),(24,ri .i64 i)]) (fun _=>[]) (fun i=>t.length - i) 0 ⟨Nat.zero_le _,fun j c h=>by omega⟩ ⟨rfl,congrArg (ri .i64) (congrArg Int.ofNat hs),rfl,trivial⟩ rfl ?_
  rintro i t' ⟨hi,hw⟩
  refine ifs rfl (fun h3=>?_) (fun h3=>?_)
  ·have h3:=of_decide_eq_true h3
   obtain ⟨c,hc⟩ : ∃ c,t[i]? = some c:=⟨_,List.getElem?_eq_getElem (by omega)⟩
   refine ⟨⟨by omega,by rw [hs]; omega⟩,?_⟩
   refine fr (congrArg (fun z=>AV.im (.raw (.int .u8 z))) (bx hb (j:=(i : Int)) rfl hc)) ?_
   refine ce (x_sort (byt_of hb c (List.mem_of_getElem? hc))) rfl ?_
   by_cases k5 : sortN c = 2
   ·refine iff_ rfl (by rw [k5]; rfl) ?_
    refine nx (i + 1) (by omega) ⟨⟨by omega,fun j d hj hd=>?_⟩,⟨rfl,rfl,congrArg (ri .i64) (i64s (by omega)).symm,trivial⟩,rfl⟩
    by_cases hji : j = i
    ·subst hji; rw [hc] at hd; cases hd; exact k5
    ·exact hw j d (by omega) hd
   ·refine ift rfl (by simp; omega) ?_
    rw [numB_no fun h=>k5 (h.2.2.2 c (List.mem_of_getElem? hc))]
    exact rfl
  ·have h3:=of_decide_eq_false h3
   rw [numB_yes (by omega) (by omega) h0 fun c hc=>by obtain ⟨j,hj⟩:=List.getElem?_of_mem hc; exact hw j c (by have:=(List.getElem?_eq_some_iff.1 hj).1; omega) hj]
   exact rfl
theorem runL_all {t : List Nat} : runL t = t.length ↔ t.all wordB = true:=by
 unfold runL
 induction t with
 | nil=>simp
 | cons a t ih=>
  rw [List.takeWhile_cons]
  by_cases h : wordB a = true
  ·rw [if_pos h]; simp [h]; rw [List.all_eq_true] at ih; exact ih
  ·rw [if_neg h]; simp [h]
theorem x_name {t : List Nat} (hb : byt t = true) (hl : t.length ≤ 100000) : Pc Tryz.prog 73 [ts t] (· = .raw (.bool (nameB t))):=by
 have hs:=tx_size t
 have hN : nameB t = (decide (1 ≤ t.length) && decide (t.length ≤ 30) && sortN (t.headD 0) == 3 && t.all wordB):=rfl
 refine pc Tryz.func73 ?_
 by_cases k1 : 1 ≤ t.length
 case neg=>
  have g1 : decide (((tx t).size : Int) ≥ 1) = false:=decide_eq_false (by rw [hs]; omega)
  iterate 3 refine gf g1 ?_
  refine tf g1 ?_
  repeat (first|refine gt rfl ?_|refine gf rfl ?_|refine tw rfl ?_|refine tf rfl ?_)
  rw [hN,decide_eq_false k1]; exact rfl
 have g1 : decide (((tx t).size : Int) ≥ 1) = true:=decide_eq_true (by rw [hs]; omega)
 iterate 3 refine gt g1 ?_
 refine tw g1 ?_
 by_cases k2 : t.length ≤ 30
 case neg=>
  have g2 : decide (((tx t).size : Int) ≤ 30) = false:=decide_eq_false (by rw [hs]; omega)
  iterate 4 refine gf g2 ?_
  refine tf g2 ?_
  repeat (first|refine gt rfl ?_|refine gf rfl ?_|refine tw rfl ?_|refine tf rfl ?_)
  rw [hN,decide_eq_false k2,Bool.and_false]; exact rfl
 have g2 : decide (((tx t).size : Int) ≤ 30) = true:=decide_eq_true (by rw [hs]; omega)
 obtain ⟨c,hc⟩ : ∃ c,t[0]? = some c:=⟨_,List.getElem?_eq_getElem (by omega)⟩
 refine gt g2 ?_
 refine gt g2 ?_
 refine ⟨⟨by decide,by rw [hs]; omega⟩,?_⟩
 refine fr (congrArg (fun z=>AV.im (.raw (.int .u8 z))) (bx hb (j:=0) rfl hc)) ?_
 refine gt g2 ?_
 refine ce (x_sort (byt_of hb c (List.mem_of_getElem? hc))) rfl ?_
 refine gt g2 ?_
 refine tw g2 ?_
 rw [hN,decide_eq_true k1,decide_eq_true k2,head0 hc]
 by_cases k3 : sortN c = 3
 case neg=>
  have g3 : (((sortN c : Nat) : Int) == 3) = false:=beqI (k:=3) k3
  iterate 5 refine gf g3 ?_
  refine tf g3 ?_
  rw [show (sortN c == 3) = false by simp; exact k3]; exact rfl
 have g3 : (((sortN c : Nat) : Int) == 3) = true:=beqT (k:=3) k3
 iterate 2 refine gt g3 ?_
 refine ce (x_run hb (by omega)) rfl ?_
 iterate 3 refine gt g3 ?_
 refine tw g3 ?_
 rw [k3]
 refine congrArg (fun b=>IV.raw (.bool b)) ?_
 show (((runL t : Nat) : Int) == ((tx t).size : Int)) = t.all wordB
 rw [hs]
 by_cases k4 : t.all wordB = true
 ·rw [k4,runL_all.2 k4]; simp
 ·rw [Bool.eq_false_iff.2 k4]
  exact beqI (fun e=>k4 (runL_all.1 e))
theorem eqL_beq (a b : List Nat) : (a == b) = eqL a b:=by
 by_cases h : a = b
 ·subst h; rw [eqL_iff.2 rfl]; simp
 ·have : eqL a b = false:=Bool.eq_false_iff.2 fun e=>h (eqL_iff.1 e)
  rw [this]; simpa using h
theorem x_two {t : List Nat} (hb : byt t = true) : Pc Tryz.prog 74 [ts t] (· = .raw (.bool (twoB t))):=by
 have e1 : ((tx t).toList == (tx [61,61]).toList) = eqL t [61,61]:=tx_beq hb rfl
 have e2 : ((tx t).toList == (tx [33,61]).toList) = eqL t [33,61]:=tx_beq hb rfl
 have e3 : ((tx t).toList == (tx [60,61]).toList) = eqL t [60,61]:=tx_beq hb rfl
 have e4 : ((tx t).toList == (tx [46,46]).toList) = eqL t [46,46]:=tx_beq hb rfl
 have hT : twoB t = (eqL t [61,61] || eqL t [33,61] || eqL t [60,61] || eqL t [46,46]):=by unfold twoB; rw [eqL_beq,eqL_beq,eqL_beq,eqL_beq]
 refine pc Tryz.func74 ?_
 rw [hT]
 cases h1 : eqL t [61,61] with
 | true=>
  rw [h1] at e1
  iterate 2 refine gf (want:=false) e1 ?_
  refine tw e1 ?_
  repeat (first|refine gt rfl ?_|refine gf rfl ?_|refine tw rfl ?_|refine tf rfl ?_)
  exact rfl
 | false=>
 rw [h1] at e1
 iterate 2 refine gt e1 ?_
 refine tf e1 ?_
 cases h2 : eqL t [33,61] with
 | true=>
  rw [h2] at e2
  iterate 2 refine gf (want:=false) e2 ?_
  refine tw e2 ?_
  repeat (first|refine gt rfl ?_|refine gf rfl ?_|refine tw rfl ?_|refine tf rfl ?_)
  exact rfl
 | false=>
 rw [h2] at e2
 iterate 2 refine gt e2 ?_
 refine tf e2 ?_
 cases h3 : eqL t [60,61] with
 | true=>
  rw [h3] at e3
  iterate 2 refine gf (want:=false) e3 ?_
  refine tw e3 ?_
  exact rfl
 | false=>
 rw [h3] at e3
 iterate 2 refine gt e3 ?_
 refine tf e3 ?_
 exact congrArg (fun b=>IV.raw (.bool b)) e4
def oneL : List Nat:=[43,45,42,47,94,40,41,91,93,123,125,44,59,61,60]
theorem oneL_all : ((List.range 256).all fun c=>decide (0 ≤ Lib.indexByte (u8 oneL) (UInt8.ofNat c)) == oneL.contains c) = true:=by kernel_rfl
theorem x_one {t : List Nat} (hb : byt t = true) : Pc Tryz.prog 75 [ts t] (· = .raw (.bool (oneB t))):=by
 have hs:=tx_size t
 refine pc Tryz.func75 ?_
 by_cases h : t.length = 1
 ·obtain ⟨c,rfl⟩:=List.length_eq_one_iff.1 h
  have hc:=byt_of hb c (by simp)
  have hx:=eq_of_beq (List.all_eq_true.1 oneL_all c (List.mem_range.2 hc))
  refine gt rfl ?_
  refine gt rfl ?_
  refine ce (l_Contains_one oneL (c:=c)) rfl ?_
  refine tw rfl ?_
  rw [hx]
  exact rfl
 ·have g : (((tx t).size : Int) == 1) = false:=by rw [hs]; exact beqI (k:=1) h
  have ho : oneB t = false:=by unfold oneB; rw [show (t.length == 1) = false by simpa using h,Bool.false_and]
  iterate 2 refine gf g ?_
  refine tf g ?_
  rw [ho]
  exact rfl
def tokI (t : Tok) : List IV:=[.raw (.int .i64 (t.1 : Int)),ts t.2.1,.raw (.int .i64 (t.2.2 : Int))]
theorem ts_cut (l : List Nat) (n : Nat) : (tx l).extract 0 n = tx (l.take n):=by rw [tx_extract,List.drop_zero]
theorem x_first {l : List Nat} (hb : byt l = true) (h1 : 1 ≤ l.length) (hl : l.length ≤ 100000) {k : Nat} {t : List Nat} (h : firstL l = some (k,t)) :
  Pc Tryz.prog 42 [ts l] (· = .agg (tokI (k,t,0))):=by
 have hs:=tx_size l
 have hr : runL l ≤ l.length:=by unfold runL; exact List.Sublist.length_le (List.takeWhile_sublist _)
 have hbt : ∀ n,byt (l.take n) = true:=fun n=>byt_sub (List.take_sublist n l) hb
 refine pc Tryz.func42 ?_
 refine ce (x_run hb hl) rfl ?_
 have ec : ∀ n : Nat,(tx l).extract 0 ((n : Nat) : Int).toNat = tx (l.take n):=fun n=>by rw [Int.toNat_natCast,ts_cut]
 have hlt : (l.take (runL l)).length ≤ 100000:=by rw [List.length_take]; omega
 refine ⟨⟨by omega,by rw [hs]; omega⟩,?_⟩
 refine fr (congrArg rs (ec (runL l))) ?_
 refine ce (x_numeral (hbt _) hlt) rfl ?_
 unfold firstL at h
 cases k1 : numB (l.take (runL l)) with
 | true=>
  rw [if_pos k1] at h; cases h
  refine ift rfl rfl ?_
  refine ⟨⟨by omega,by rw [hs]; omega⟩,?_⟩
  refine fr (congrArg rs (ec (runL l))) ?_
  exact rfl
 | false=>
 rw [k1,if_neg (by decide)] at h
 refine iff_ rfl rfl ?_
 refine ⟨⟨by omega,by rw [hs]; omega⟩,?_⟩
 refine fr (congrArg rs (ec (runL l))) ?_
 refine ce (x_name (hbt _) hlt) rfl ?_
 cases k2 : nameB (l.take (runL l)) with
 | true=>
  rw [if_pos k2] at h; cases h
  refine ift rfl rfl ?_
  refine ⟨⟨by omega,by rw [hs]; omega⟩,?_⟩
  refine fr (congrArg rs (ec (runL l))) ?_
  exact rfl
 | false=>
 rw [k2,if_neg (by decide)] at h
 refine iff_ rfl rfl ?_
 by_cases k3 : 2 ≤ l.length
 case' pos=>
  have g : decide (((tx l).size : Int) ≥ 2) = true:=decide_eq_true (by rw [hs]; omega)
  rw [decide_eq_true k3,Bool.true_and] at h
  iterate 2 refine gt g ?_
  refine ⟨⟨by decide,by rw [hs]; omega⟩,?_⟩
  refine fr (congrArg rs (ec 2)) ?_
  refine gt g ?_
  refine ce (x_two (hbt 2)) rfl ?_
  refine tw g ?_
  by_cases k4 : twoB (l.take 2) = true
  ·rw [if_pos k4] at h; cases h
   refine ift rfl k4 ?_
   refine ⟨⟨by decide,by rw [hs]; omega⟩,?_⟩
   refine fr (congrArg rs (ec 2)) ?_
   exact rfl
  rw [if_neg k4] at h
  refine iff_ rfl (Bool.eq_false_iff.2 k4) ?_
 case' neg=>
  have g : decide (((tx l).size : Int) ≥ 2) = false:=decide_eq_false (by rw [hs]; omega)
  rw [decide_eq_false k3,Bool.false_and,if_neg (by decide)] at h
  iterate 3 refine gf g ?_
  refine tf g ?_
  refine iff_ rfl rfl ?_
 all_goals
  refine ⟨⟨by decide,by rw [hs]; omega⟩,?_⟩
  refine fr (congrArg rs (ec 1)) ?_
  refine ce (x_one (hbt 1)) rfl ?_
  by_cases k5 : oneB (l.take 1) = true
  ·rw [if_pos k5] at h; cases h
   refine ift rfl k5 ?_
   refine ⟨⟨by decide,by rw [hs]; omega⟩,?_⟩
   refine fr (congrArg rs (ec 1)) ?_
   exact rfl
  ·rw [if_neg k5] at h; cases h
theorem gapL_of {l : List Nat} {n : Nat} (hn : n ≤ l.length) (h1 : ∀ i c,i < n → l[i]? = some c → sortN c = 1) (h2 : ∀ c,l[n]? = some c → sortN c ≠ 1) : gapL l = n:=by
 unfold gapL
 induction l generalizing n with
 | nil=>simp at hn; subst hn; rfl
 | cons a l ih=>
  cases n with
  | zero=>have:=h2 a rfl; simp [this]
  | succ n=>
   have ha:=h1 0 a (by omega) rfl
   rw [List.takeWhile_cons,if_pos (by simp [ha]),List.length_cons,ih (by simpa using hn) (fun i c hi hc=>h1 (i + 1) c (by omega) (by simpa using hc)) (fun c hc=>h2 c (by simpa using hc))]
theorem x_gap {l : List Nat} (hb : byt l = true) (hl : l.length ≤ 100000) (hc : (l.drop (gapL l)).headD 0 ≠ 35) : Pc Tryz.prog 41 [ts l] (· = .raw (.int .i64 (gapL l : Nat))):=by
 have hs:=tx_size l
 refine pc Tryz.func41 ?_
 refine lpt (fun n : Nat=>n ≤ l.length ∧ ∀ i c,i < n → l[i]? = some c → sortN c = 1) (fun n=>[(0,.im (ts l)),(3,ri .i64 n)]) (fun _=>[]) (fun n=>l.length - n) 0 ⟨Nat.zero_le _,fun i c h=>by omega⟩ (tsr rfl) rfl ?_
 rintro n t ⟨hn,hw⟩
 refine ifs rfl (fun h=>?_) (fun h=>?_)
 ·have h:=of_decide_eq_true h
  have hn : n < l.length:=by omega
  obtain ⟨c,hx⟩ : ∃ c,l[n]? = some c:=⟨_,List.getElem?_eq_getElem hn⟩
  refine ⟨⟨by omega,by rw [hs]; omega⟩,?_⟩
  refine fr (congrArg (fun z=>AV.im (.raw (.int .u8 z))) (bx hb (j:=(n : Int)) rfl hx)) ?_
  refine ce (x_sort (byt_of hb c (List.mem_of_getElem? hx))) rfl ?_
  by_cases k : sortN c = 1
  ·refine ift rfl (beqT (k:=1) k) ?_
   refine nx (n + 1) (by omega) ⟨⟨by omega,fun i d hi hd=>?_⟩,⟨rfl,congrArg (ri .i64) (i64s (by omega)).symm,trivial⟩,rfl⟩
   by_cases hin : i = n
   ·subst hin; rw [hx] at hd; cases hd; exact k
   ·exact hw i d (by omega) hd
  ·have hg:=gapL_of (n:=n) (by omega) hw (fun d hd=>by rw [hx] at hd; cases hd; exact k)
   rw [hg] at hc
   have hc : c ≠ 35:=by
    have e : (l.drop n).headD 0 = c:=by rw [List.headD_eq_head?_getD,List.head?_drop,hx]; rfl
    rw [e] at hc; exact hc
   refine iff_ rfl (beqI (k:=1) k) ?_
   refine ⟨⟨by omega,by rw [hs]; omega⟩,?_⟩
   refine fr (congrArg (fun z=>AV.im (.raw (.int .u8 z))) (bx hb (j:=(n : Int)) rfl hx)) ?_
   refine iff_ rfl (beqI (k:=35) hc) ?_
   rw [hg]
   exact rfl
 ·have h:=of_decide_eq_false h
  rw [gapL_of (n:=n) hn hw (fun d hd=>by rw [List.getElem?_eq_none (by omega)] at hd; cases hd)]
  exact rfl
def isB (k : Nat) (t : List Nat) : Bool:=match k with
 | 1=>numB t
 | 2=>nameB t
 | 3=>oneB t || twoB t
 | _=>false
theorem first_is {l : List Nat} {k : Nat} {t : List Nat} (h : firstL l = some (k,t)) : isB k t = true ∧ 1 ≤ t.length ∧ t.length ≤ l.length ∧ (k = 1 ∨ k = 2 ∨ k = 3) ∧ t = l.take t.length:=by
 have hr : runL l ≤ l.length:=by unfold runL; exact List.Sublist.length_le (List.takeWhile_sublist _)
 have tk : ∀ n,n ≤ l.length → l.take n = l.take (l.take n).length:=fun n hn=>by rw [List.length_take,Nat.min_eq_left hn]
 unfold firstL at h
 split at h
 ·rename_i k1
  cases h
  refine ⟨k1,?_,List.length_take_le' _ _,.inl rfl,tk _ hr⟩
  have:=k1; simp only [numB,Bool.and_eq_true,decide_eq_true_eq] at this; exact this.1.1.1
 ·split at h
  ·rename_i k1
   cases h
   refine ⟨k1,?_,List.length_take_le' _ _,.inr (.inl rfl),tk _ hr⟩
   have:=k1; simp only [nameB,Bool.and_eq_true,decide_eq_true_eq] at this; exact this.1.1.1
  ·split at h
   ·rename_i k1
    cases h
    simp only [Bool.and_eq_true,decide_eq_true_eq] at k1
    refine ⟨by simp [isB,k1.2],?_,List.length_take_le' _ _,.inr (.inr rfl),tk _ k1.1⟩
    rw [List.length_take]; omega
   ·split at h
    ·rename_i k1
     cases h
     have h1 : (l.take 1).length = 1:=by have:=k1; simp only [oneB,Bool.and_eq_true,beq_iff_eq] at this; exact this.1
     refine ⟨by simp [isB,k1],by omega,List.length_take_le' _ _,.inr (.inr rfl),by rw [h1]⟩
    ·cases h
theorem x_Is {k : Nat} {t : List Nat} {a : Int} (hb : byt t = true) (hl : t.length ≤ 100000) (h : isB k t = true) : Pc Tryz.prog 43 [.agg [.raw (.int .i64 (k : Int)),ts t,.raw (.int .i64 a)]] (· = .raw (.bool true)):=by
 refine pc Tryz.func43 ?_
 unfold isB at h
 split at h
 ·refine ift rfl rfl ?_
  refine ce (x_numeral hb hl) rfl ?_
  rw [h]; exact rfl
 ·refine iff_ rfl rfl ?_
  refine ift rfl rfl ?_
  refine ce (x_name hb hl) rfl ?_
  rw [h]; exact rfl
 ·refine iff_ rfl rfl ?_
  refine iff_ rfl rfl ?_
  refine ift rfl rfl ?_
  refine ce (x_one hb) rfl ?_
  cases h1 : oneB t with
  | true=>(repeat (first|refine gt rfl ?_|refine gf rfl ?_|refine tw rfl ?_|refine tf rfl ?_)); exact rfl
  | false=>
   rw [h1,Bool.false_or] at h
   iterate 3 refine gt rfl ?_
   refine ce (x_two hb) rfl ?_
   rw [h]
   repeat (first|refine gt rfl ?_|refine gf rfl ?_|refine tw rfl ?_|refine tf rfl ?_)
   exact rfl
 ·cases h
theorem ts_from {l : List Nat} (a : Nat) : (tx l).extract ((a : Nat) : Int).toNat (tx l).size = tx (l.drop a):=by rw [Int.toNat_natCast,tx_extract,tx_size,List.take_length]
def tkS (T : List Tok) : IV:=.sl T.length 3 (T.map tokI).flatten
theorem x_Lex {l : List Nat} {f : Nat} {T : List Tok} (hb : byt l = true) (hl : l.length ≤ 20000) (hg : gapL l = 0) (h35 : l.headD 0 ≠ 35) (h : lexM f l 0 = some T) :
  Pc Tryz.prog 26 [ts l] (· = .tup [tkS T,.raw (.int .i64 0),.raw (.int .i64 0)]):=by
 have hs:=tx_size l
 have hbd : ∀ n,byt (l.drop n) = true:=fun n=>byt_sub (List.drop_sublist n l) hb
 refine pc Tryz.func26 ?_
 refine iff_ rfl (decide_eq_false (by rw [hs]; omega)) ?_
 refine ce (x_gap hb (by omega) (by rw [hg,List.drop_zero]; exact h35)) rfl ?_
 rw [hg]
 refine lfv 5 97 3 rfl ?_
 refine lpt2 (fun (a : Nat) (out : List Tok)=>a ≤ l.length ∧ out.length ≤ a ∧ ∃ f rest,lexM f (l.drop a) a = some rest ∧ out ++ rest = T) (fun a _=>[(0,.im (ts l)),(5,.own 0),(6,ri .i64 a)])
  (fun _ out=>[.row 97 3 out.length (out.map tokI).flatten]) (fun a _=>l.length - a) 0 [] ⟨Nat.zero_le _,Nat.le_refl _,f,T,h,rfl⟩ (tsr rfl) rfl ?_
 rintro a out t ⟨ha,ho,f,rest,hx,hT⟩
 by_cases hlt : a < l.length
 ·cases f with
  | zero=>cases hx
  | succ f=>
   have hne : (l.drop a).isEmpty = false:=by
    rw [List.isEmpty_eq_false_iff]; intro e; have:=congrArg List.length e; simp at this; omega
   rw [lexM,hne,if_neg (by decide)] at hx
   split at hx
   ·cases hx
   ·rename_i k tt hf
    obtain ⟨i1,i2,i3,i4,i5⟩:=first_is hf
    rw [List.length_drop] at i3
    split at hx
    ·cases hx
    ·rename_i hcm
     rw [Option.map_eq_some_iff] at hx
     obtain ⟨rest',hx1,rfl⟩:=hx
     have e1 : (l.drop a).drop tt.length = l.drop (a + tt.length):=by rw [List.drop_drop]
     rw [e1] at hcm hx1
     obtain ⟨q,hq⟩ : ∃ q,q = gapL (l.drop (a + tt.length)):=⟨_,rfl⟩
     have hg35 : ((l.drop (a + tt.length)).drop (gapL (l.drop (a + tt.length)))).headD 0 ≠ 35:=hcm
     rw [← hq] at hcm hx1
     have e2 : (l.drop (a + tt.length)).drop q = l.drop (a + tt.length + q):=by rw [List.drop_drop]
     rw [e2] at hcm hx1
     have hgl : q ≤ l.length - (a + tt.length):=by
      rw [hq]; unfold gapL
      have:=List.Sublist.length_le (List.takeWhile_sublist (fun c=>sortN c == 1) (l:=l.drop (a + tt.length)))
      rwa [List.length_drop] at this
     have w1 : IntKind.i64.wrap ((a : Int) + ((tx tt).size : Int)) = ((a + tt.length : Nat) : Int):=by rw [tx_size]; exact i64n (by omega) (by omega)
     have w2 : IntKind.i64.wrap (((a + tt.length : Nat) : Int) + (q : Int)) = ((a + tt.length + q : Nat) : Int):=i64n (by omega) (by omega)
     refine ift rfl (decide_eq_true (by rw [hs]; omega)) ?_
     refine ⟨⟨by omega,by rw [hs]; omega⟩,?_⟩
     refine fr (congrArg rs (ts_from a)) ?_
     refine ce (x_first (hbd a) (by rw [List.length_drop]; omega) (by rw [List.length_drop]; omega) hf) rfl ?_
     refine iff_ rfl (beqI (k:=0) (by omega)) ?_
     refine ⟨⟨?_,?_⟩,?_⟩
     ·show (out.length + 1) * 32 ≤ _; omega
     ·show out.length + 1 ≤ _; omega
     refine ⟨by rw [w1,hs]; omega,?_⟩
     refine fr (congrArg rs (show (tx l).extract (IntKind.i64.wrap ((a : Int) + ((tx tt).size : Int))).toNat (tx l).size = tx (l.drop (a + tt.length)) by rw [w1]; exact ts_from _)) ?_
     refine ce (x_gap (hbd (a + tt.length)) (by rw [List.length_drop]; omega) hg35) rfl ?_
     refine nxg2 [0] (a + tt.length + q) (out ++ [(k,tt,a)]) (by omega) rfl ⟨by omega,by simp; omega,f,rest',hx1,by rw [List.append_assoc]; exact hT⟩ ⟨rfl,rfl,congrArg (ri .i64) (by rw [w1,← hq]; exact w2),trivial⟩ ?_
     have e5 : ((out ++ [(k,tt,a)]).map tokI).flatten = (out.map tokI).flatten ++ tokI (k,tt,a):=by rw [List.map_append,List.flatten_append]; simp
     have e6 : (out ++ [(k,tt,a)]).length = out.length + 1:=by simp
     refine Eq.trans ?_ (congrArg (fun n=>([AO.row 97 3 n ((out ++ [(k,tt,a)]).map tokI).flatten] : List AO)) e6.symm)
     refine Eq.trans ?_ (congrArg (fun c=>([AO.row 97 3 (out.length + 1) c] : List AO)) e5.symm)
     exact rfl
 ·obtain rfl : a = l.length:=by omega
  refine iff_ rfl (decide_eq_false (by rw [hs]; omega)) ?_
  rw [List.drop_length] at hx
  have : rest = []:=by
   cases f with
   | zero=>cases hx
   | succ f=>rw [lexM] at hx; simpa using hx.symm
  subst this
  rw [List.append_nil] at hT
  subst hT
  exact rfl
end Go.Proofs.YtlhmaljjdpjkgaaGreatDoor
