/- The law's expressions: calls and operations on its matrices. -/
import Derived.Test.YtlhmaljjdpjkgaaGreatDoorTaM20
set_option maxHeartbeats 4000000
namespace Go.Proofs.YtlhmaljjdpjkgaaGreatDoor
open Go Go.RowKit
theorem mm_ra (n : Nat) (A B : Nat → Nat → Int) (i k : Nat) : mm n (ra A) (ra B) i k = ra (mm n A B) i k:=mm_homo (fun z : Int=>(z : Rat)) rfl (fun a b=>Rat.intCast_add a b) (fun a b=>Rat.intCast_mul a b) n A B i k
theorem abs_sm {K : Nat} : ∀ (n : Nat) (f : Nat → Int),(∀ i,i < n → (f i).natAbs ≤ K) → (sm n f).natAbs ≤ n * K
 | 0,_,_=>by rw [Nat.zero_mul]; exact Nat.le_refl 0
 | n + 1,f,h=>by
  have h1:=abs_sm n f fun i hi=>h i (by omega)
  have h2:=h n (by omega)
  show (sm n f + f n).natAbs ≤ _
  rw [Nat.add_mul,Nat.one_mul]
  exact Nat.le_trans (Int.natAbs_add_le _ _) (Nat.add_le_add h1 h2)
theorem mm_zb {n : Nat} {A B : Nat → Nat → Int} (hn : n ≤ 4) (ha : W1 n A) (hb : W1 n B) : ZB 3 n n (mm n A B):=fun i k hi hk=>by
 have h1 : (mm n A B i k).natAbs ≤ n * (W64 * W64):=abs_sm n (fun j=>A i j * B j k) fun j hj=>by
  rw [Int.natAbs_mul]
  exact Nat.mul_le_mul (Nat.le_of_lt (ha i j hi hj)) (Nat.le_of_lt (hb j k hj hk))
 refine ln_le (Nat.lt_of_le_of_lt h1 (Nat.lt_of_le_of_lt (Nat.mul_le_mul_right _ hn) ?_))
 decide
def XB (Q : Ms → Prop) (N : Nde) (v : V15) (b : Nat) : Prop:=∃ c,c ≤ b ∧ Xp Q N v c
theorem XB.mono {Q : Ms → Prop} {N : Nde} {v : V15} {b b' : Nat} (h : XB Q N v b) (hb : b ≤ b') : XB Q N v b':=by
 obtain ⟨c,hc,h⟩:=h
 exact ⟨c,Nat.le_trans hc hb,h⟩
theorem xb_bin {Q : Ms → Prop} {op : Nat} {N1 N2 : Nde} {u v w : V15} {b1 b2 k : Nat} (ho : op = 4 ∨ op = 5 ∨ op = 6 ∨ op = 8 ∨ op = 9 ∨ op = 12) (h1 : XB Q N1 u b1) (h2 : XB Q N2 v b2)
  (hb : Pc Tryz.prog 174 [.raw (.int .i64 (op : Int)),u.i,v.i] (· = .tup [w.i,.raw (.int .i64 0)])) (hV : VOK w k) (hk : k ≤ 16) : XB Q (.mk op [] [N1,N2]) w (b1 + b2 + 20):=by
 obtain ⟨c1,l1,e1⟩:=h1
 obtain ⟨c2,l2,e2⟩:=h2
 have hL : XpL Q [N1,N2] [u,v] (c1 + (c2 + 0)):=⟨c1,c2 + 0,rfl,e1,c2,0,rfl,e2,rfl⟩
 have f1 : ((op : Int) == 1) = false:=by rcases ho with rfl | rfl | rfl | rfl | rfl | rfl <;> rfl
 have f2 : ((op : Int) == 2) = false:=by rcases ho with rfl | rfl | rfl | rfl | rfl | rfl <;> rfl
 have f14 : ((op : Int) == 14) = false:=by rcases ho with rfl | rfl | rfl | rfl | rfl | rfl <;> rfl
 have f3 : ((op : Int) == 3) = false:=by rcases ho with rfl | rfl | rfl | rfl | rfl | rfl <;> rfl
 have f13 : ((op : Int) == 13) = false:=by rcases ho with rfl | rfl | rfl | rfl | rfl | rfl <;> rfl
 have f17 : ((op : Int) == 17) = false:=by rcases ho with rfl | rfl | rfl | rfl | rfl | rfl <;> rfl
 have f16 : ((op : Int) == 16) = false:=by rcases ho with rfl | rfl | rfl | rfl | rfl | rfl <;> rfl
 have hop:=m_op_bin (op:=op) (t:=[]) (ks:=nkI (.mk op [] [N1,N2])) (u:=u) (v:=v) (w:=w) f3 f13 f17 f16 hb
 exact ⟨_,by omega,xp_op f1 f2 f14 hL (by show 2 ≤ 1000; decide) hop hV⟩
theorem xb_call {Q : Ms → Prop} {nm : List Nat} {N : Nde} {u w : V15} {b k : Nat} (h : XB Q N u b) (hc : Pc Tryz.prog 172 [ts nm,.sl 1 15 u.l] (· = .tup [w.i,.raw (.int .i64 0)])) (hV : VOK w k) (hk : k ≤ 16) : XB Q (.mk 13 nm [N]) w (b + 20):=by
 obtain ⟨c,l,e⟩:=h
 have hL : XpL Q [N] [u] (c + 0):=⟨c,0,rfl,e,rfl⟩
 have hop:=m_op_call (t:=nm) (ks:=nkI (.mk 13 nm [N])) (n:=1) (cs:=u.l) (w:=w) hc
 exact ⟨_,by omega,xp_op (op:=13) rfl rfl rfl hL (by show 1 ≤ 1000; decide) hop hV⟩
theorem xb_call2 {Q : Ms → Prop} {nm : List Nat} {N1 N2 : Nde} {u v w : V15} {b1 b2 k : Nat} (h1 : XB Q N1 u b1) (h2 : XB Q N2 v b2) (hc : Pc Tryz.prog 172 [ts nm,.sl 2 15 (u.l ++ v.l)] (· = .tup [w.i,.raw (.int .i64 0)])) (hV : VOK w k) (hk : k ≤ 16) : XB Q (.mk 13 nm [N1,N2]) w (b1 + b2 + 20):=by
 obtain ⟨c1,l1,e1⟩:=h1
 obtain ⟨c2,l2,e2⟩:=h2
 have hL : XpL Q [N1,N2] [u,v] (c1 + (c2 + 0)):=⟨c1,c2 + 0,rfl,e1,c2,0,rfl,e2,rfl⟩
 have hop:=m_op_call (t:=nm) (ks:=nkI (.mk 13 nm [N1,N2])) (n:=2) (cs:=u.l ++ v.l) (w:=w) hc
 exact ⟨_,by omega,xp_op (op:=13) rfl rfl rfl hL (by show 2 ≤ 1000; decide) hop hV⟩
theorem xb_neg {Q : Ms → Prop} {N : Nde} {q : Rat} {b : Nat} (h : XB Q N (nV q) b) (hq : lr q ≤ 9000) : XB Q (.mk 3 [] [N]) (nV (-q)) (b + 20):=by
 obtain ⟨c,l,e⟩:=h
 have hL : XpL Q [N] [nV q] (c + 0):=⟨c,0,rfl,e,rfl⟩
 have hop:=m_op_neg (t:=[]) (ks:=nkI (.mk 3 [] [N])) (q:=q) (by omega)
 exact ⟨_,by omega,xp_op (op:=3) rfl rfl rfl hL (by show 1 ≤ 1000; decide) hop (vokN (by rw [lr_neg]; omega))⟩
theorem c_det {n : Nat} {A : Nat → Nat → Int} (hn : n ≤ 4) (ha : ZB 5 n n A) (hD : Pc Tryz.prog 370 [zM n n A] (· = .tup [iz (dn n A),.raw (.int .i64 0)])) :
  Pc Tryz.prog 172 [ts [100,101,116],.sl 1 15 (mV n n (ra A)).l] (· = .tup [(nV ((dn n A : Int) : Rat)).i,.raw (.int .i64 0)]):=by
 have hd : li (dn n A) ≤ 10000:=Nat.le_trans (li_dn (L:=5) n A ha) (by
  have : ∀ n,n ≤ 4 → dLB 5 n ≤ 10000:=by decide
  exact this n hn)
 exact k_Call_fractions (nm:=[100,101,116]) (by decide) (v_FormedM (A:=ra A) (by omega) (by omega) ((ha.lb (by decide)).mono (by decide))) (by kernel_rfl) (by kernel_rfl)
  (k_sides_no rfl rfl rfl rfl rfl) (k_forms_no rfl rfl rfl rfl rfl rfl rfl rfl) (k_systems_no rfl rfl rfl rfl rfl rfl rfl rfl) (k_fractions_det (k_det (by omega) (ha.mono (by decide)) hD hd))
theorem det_le {n : Nat} {A : Nat → Nat → Int} (hn : n ≤ 4) (ha : ZB 5 n n A) : li (dn n A) ≤ 40:=Nat.le_trans (li_dn (L:=5) n A ha) (by
 have : ∀ n,n ≤ 4 → dLB 5 n ≤ 40:=by decide
 exact this n hn)
theorem c_trace {n : Nat} {A : Nat → Nat → Int} (hn : n ≤ 4) (ha : ZB 5 n n A) (hs : li (sm n fun i=>A i i) ≤ 20000) :
  Pc Tryz.prog 172 [ts [116,114,97,99,101],.sl 1 15 (mV n n (ra A)).l] (· = .tup [(nV ((sm n fun i=>A i i : Int) : Rat)).i,.raw (.int .i64 0)]):=
 k_Call_systems (nm:=[116,114,97,99,101]) (by decide) (v_FormedM (A:=ra A) (by omega) (by omega) ((ha.lb (by decide)).mono (by decide))) (by kernel_rfl) (by kernel_rfl)
  (k_sides_no rfl rfl rfl rfl rfl) (k_forms_no rfl rfl rfl rfl rfl rfl rfl rfl) (k_systems_trace (by omega) (ha.mono (by decide)) hs)
theorem c_adj {n : Nat} {A D : Nat → Nat → Int} (hn : n ≤ 4) (ha : ZB 5 n n A) (hD : Pc Tryz.prog 264 [zM n n A] (· = .tup [zM n n D,.raw (.int .i64 0)])) (hd : ZB 200 n n D) :
  Pc Tryz.prog 172 [ts [97,100,106],.sl 1 15 (mV n n (ra A)).l] (· = .tup [(mV n n (ra D)).i,.raw (.int .i64 0)]):=
 k_Call_systems (nm:=[97,100,106]) (by decide) (v_FormedM (A:=ra A) (by omega) (by omega) ((ha.lb (by decide)).mono (by decide))) (by kernel_rfl) (by kernel_rfl)
  (k_sides_no rfl rfl rfl rfl rfl) (k_forms_no rfl rfl rfl rfl rfl rfl rfl rfl) (k_systems_adj (by omega) (ha.mono (by decide)) hD hd)
theorem c_transpose {n : Nat} {A : Nat → Nat → Rat} (hn : n ≤ 4) (ha : LB 4000 n n A) :
  Pc Tryz.prog 172 [ts [116,114,97,110,115,112,111,115,101],.sl 1 15 (mV n n A).l] (· = .tup [(mV n n fun i k=>A k i).i,.raw (.int .i64 0)]):=
 k_Call_fractions (nm:=[116,114,97,110,115,112,111,115,101]) (by decide) (v_FormedM (A:=A) (by omega) (by omega) (ha.mono (by decide))) (by kernel_rfl) (by kernel_rfl)
  (k_sides_no rfl rfl rfl rfl rfl) (k_forms_no rfl rfl rfl rfl rfl rfl rfl rfl) (k_systems_no rfl rfl rfl rfl rfl rfl rfl rfl) (k_fractions_transpose (by omega) ha)
theorem c_zero {A : Nat → Nat → Int} : Pc Tryz.prog 172 [ts [122,101,114,111],.sl 2 15 ((nV ((0 : Int) : Rat)).l ++ (nV ((0 : Int) : Rat)).l)] (· = .tup [(mV 0 0 (ra A)).i,.raw (.int .i64 0)]):=
 have hz : lr ((0 : Int) : Rat) ≤ 50000:=lr_k (Nat.le_trans li0 (by decide)) (by decide)
 k_Call_sides (nm:=[122,101,114,111]) (by decide) (v_FormedN (q:=((0 : Int) : Rat)) hz) (v_FormedN (q:=((0 : Int) : Rat)) hz) (by kernel_rfl) (by kernel_rfl) k_sides_zero
theorem p_det {n : Nat} {A : Nat → Nat → Int} (hn : n ≤ 4) (ha : ZB 5 n n A) : Pc Tryz.prog 370 [zM n n A] (· = .tup [iz (dn n A),.raw (.int .i64 0)]):=by
 match n,hn,ha with
 | 0,_,_=>exact b_Det0
 | 1,_,ha=>exact b_Det1 ha
 | 2,_,ha=>exact b_Det2 ha
 | 3,_,ha=>exact b_Det3 ha
 | 4,_,ha=>exact b_Det4 ha
theorem adE_zb {w : Nat} {A : Nat → Nat → Int} (hw : w ≤ 3) (ha : ZB 1 (w + 1) (w + 1) A) : ZB 20 (w + 1) (w + 1) (adE w A):=fun i k hi hk=>by
 have h:=li_dn (L:=1) w (rest A k i) (rest_zb ha hk hi)
 have h2 : ∀ w,w ≤ 3 → dLB 1 w ≤ 20:=by decide
 have h3:=h2 w hw
 unfold adE
 split
 ·rw [li_neg]; omega
 ·omega
theorem p_adj {n : Nat} {A : Nat → Nat → Int} (hn : n ≤ 4) (ha : ZB 1 n n A) : ∃ D,ZB 20 n n D ∧ Pc Tryz.prog 264 [zM n n A] (· = .tup [zM n n D,.raw (.int .i64 0)]) ∧ ∀ i k,i < n → k < n → mm n D A i k = if k = i then dn n A else 0:=by
 have key : ∀ w,w ≤ 3 → n = w + 1 → Pc Tryz.prog 264 [zM (w + 1) (w + 1) A] (· = .tup [zM (w + 1) (w + 1) (adE w A),.raw (.int .i64 0)]) →
   ∃ D,ZB 20 n n D ∧ Pc Tryz.prog 264 [zM n n A] (· = .tup [zM n n D,.raw (.int .i64 0)]) ∧ ∀ i k,i < n → k < n → mm n D A i k = if k = i then dn n A else 0:=by
  rintro w hw rfl hc
  exact ⟨adE w A,adE_zb hw ha,hc,fun i k hi hk=>adG_mul w A hi hk⟩
 match n,hn,ha,key with
 | 0,_,_,_=>exact ⟨A,fun i k hi _=>absurd hi (by omega),b_Adjugate0,fun i k hi _=>absurd hi (by omega)⟩
 | 1,_,ha,key=>exact key 0 (by decide) rfl (b_Adjugate1 (ha.mono (by decide)))
 | 2,_,ha,key=>exact key 1 (by decide) rfl (b_Adjugate2 (ha.mono (by decide)))
 | 3,_,ha,key=>exact key 2 (by decide) rfl (b_Adjugate3 (ha.mono (by decide)))
 | 4,_,ha,key=>exact key 3 (by decide) rfl (b_Adjugate4 (ha.mono (by decide)))
theorem p_red {n : Nat} {A : Nat → Nat → Rat} (hn : n ≤ 4) (ha : LB 3 n n A) : Pc Tryz.prog 272 [qM n n A] (RedA n A):=by
 match n,hn,ha with
 | 0,_,_=>exact q_Reduce0
 | 1,_,ha=>exact q_Reduce1 ha
 | 2,_,ha=>exact q_Reduce2 ha
 | 3,_,ha=>exact q_Reduce3 ha
 | 4,_,ha=>exact q_Reduce4 ha
theorem rank_one {n : Nat} {M : MT Rat n n} {W W' : Nat → Nat → Rat} {P P' : List Nat} (h : RedR n n M.e W P) (h' : RedR n n M.e W' P') : P.length = P'.length:=by
 obtain ⟨c,h1,h2,h3,-⟩:=h
 obtain ⟨c',h1',h2',h3',-⟩:=h'
 have r:=Rk.of h1 h2 h3
 have r':=Rk.of h1' h2' h3'
 have o : (1 : Rat) ≠ 0:=by decide
 refine Nat.le_antisymm ?_ ?_
 ·exact Rk.mul o (B:=MT.one n) r' (by rw [MT.mul_one]; exact r)
 ·exact Rk.mul o (B:=MT.one n) r (by rw [MT.mul_one]; exact r')
theorem c_rank {n : Nat} (hn : n ≤ 4) (M : MT Rat n n) (ha : LB 3 n n M.e) (d : Nat) (hd : d ≤ 4) : ∃ p : Nat,p ≤ 4 ∧ ((∃ W P,RedR n n M.e W P ∧ P.length = p) ∨ p = d) ∧
  Pc Tryz.prog 172 [ts [114,97,110,107],.sl 1 15 (mV n n M.e).l] (· = .tup [(nV ((p : Int) : Rat)).i,.raw (.int .i64 0)]):=by
 have hr:=k_fractions_rank hn (p_red hn ha)
 have hf:=v_FormedM (r:=n) (c:=n) (A:=M.e) (by omega) (by omega) (ha.mono (by decide))
 by_cases hx : ∃ W P,RedR n n M.e W P ∧ P.length ≤ 4
 ·obtain ⟨W,P,h1,h2⟩:=hx
  refine ⟨P.length,h2,.inl ⟨W,P,h1,rfl⟩,?_⟩
  have hr' : Pc Tryz.prog 199 [cI [114,97,110,107] 1 (cM n n M.e)] (· = ansN (((P.length : Nat) : Int) : Rat)):=hr.mono fun r ⟨W',P',k1,k2,k3⟩=>by rw [k3,rank_one k1 h1]
  exact k_Call_fractions (nm:=[114,97,110,107]) (by decide) hf (by kernel_rfl) (by kernel_rfl)
   (k_sides_no rfl rfl rfl rfl rfl) (k_forms_no rfl rfl rfl rfl rfl rfl rfl rfl) (k_systems_no rfl rfl rfl rfl rfl rfl rfl rfl) hr'
 ·refine ⟨d,hd,.inr rfl,?_⟩
  have hr' : Pc Tryz.prog 199 [cI [114,97,110,107] 1 (cM n n M.e)] (· = ansN (((d : Nat) : Int) : Rat)):=hr.mono fun r ⟨W',P',k1,k2,k3⟩=>absurd ⟨W',P',k1,k2⟩ hx
  exact k_Call_fractions (nm:=[114,97,110,107]) (by decide) hf (by kernel_rfl) (by kernel_rfl)
    (k_sides_no rfl rfl rfl rfl rfl) (k_forms_no rfl rfl rfl rfl rfl rfl rfl rfl) (k_systems_no rfl rfl rfl rfl rfl rfl rfl rfl) hr'
theorem vok1 : VOK (nV 1) 1:=vokN (Nat.le_trans lr_one (by decide))
theorem nn16 {n : Nat} (hn : n ≤ 4) : n * n ≤ 16:=Nat.mul_le_mul hn hn
section
variable {n : Nat} {A B : Nat → Nat → Int} (hn : n ≤ 4) (ha : W1 n A) (hb : W1 n B)
include hn ha hb
theorem e_x : XB (Qxy (mV n n (ra A)) (mV n n (ra B))) (.mk 2 [120] []) (mV n n (ra A)) 20:=have _:=hb; ⟨_,by have:=nn16 hn; omega,xp_x (vokM (by omega) (by omega) ((ha.zb.lb (by decide)).mono (by decide)))⟩
theorem e_y : XB (Qxy (mV n n (ra A)) (mV n n (ra B))) (.mk 2 [121] []) (mV n n (ra B)) 20:=have _:=ha; ⟨_,by have:=nn16 hn; omega,xp_y (vokM (by omega) (by omega) ((hb.zb.lb (by decide)).mono (by decide)))⟩
omit ha hb in
theorem b_mul {A B : Nat → Nat → Int} (ha : W1 n A) (hb : W1 n B) : Pc Tryz.prog 174 [.raw (.int .i64 (6 : Nat)),(mV n n (ra A)).i,(mV n n (ra B)).i] (· = .tup [(mV n n (ra (mm n A B))).i,.raw (.int .i64 0)]):=by
 have h:=v_mulM (n:=n) (A:=ra A) (B:=ra B) hn ((ha.zb.lb (by decide)).mono (by decide)) ((hb.zb.lb (by decide)).mono (by decide))
 rw [VM_congr (B:=ra (mm n A B)) fun i k _ _=>mm_ra n A B i k] at h
 exact h
omit ha hb in
theorem vokZ {L : Nat} {C : Nat → Nat → Int} (h : ZB L n n C) (hL : 1 ≤ L) (hL2 : L ≤ 10000) : VOK (mV n n (ra C)) (n * n):=vokM (by omega) (by omega) ((h.lb hL).mono hL2)
theorem e_xy : XB (Qxy (mV n n (ra A)) (mV n n (ra B))) (.mk 6 [] [.mk 2 [120] [],.mk 2 [121] []]) (mV n n (ra (mm n A B))) 60:=
 xb_bin (.inr (.inr (.inl rfl))) (e_x hn ha hb) (e_y hn ha hb) (b_mul hn ha hb) (vokZ hn (mm_zb hn ha hb) (by decide) (by decide)) (nn16 hn)
theorem e_yx : XB (Qxy (mV n n (ra A)) (mV n n (ra B))) (.mk 6 [] [.mk 2 [121] [],.mk 2 [120] []]) (mV n n (ra (mm n B A))) 60:=
 xb_bin (.inr (.inr (.inl rfl))) (e_y hn ha hb) (e_x hn ha hb) (b_mul hn hb ha) (vokZ hn (mm_zb hn hb ha) (by decide) (by decide)) (nn16 hn)
omit ha hb in
theorem e_det {C : Nat → Nat → Int} {N : Nde} {b : Nat} (h : XB (Qxy (mV n n (ra A)) (mV n n (ra B))) N (mV n n (ra C)) b) (hc : ZB 5 n n C) : XB (Qxy (mV n n (ra A)) (mV n n (ra B))) (.mk 13 [100,101,116] [N]) (nV ((dn n C : Int) : Rat)) (b + 20):=
 xb_call h (c_det hn hc (p_det hn hc)) (vokN (lr_k (Nat.le_trans (det_le hn hc) (by decide)) (by decide))) (by decide)
theorem st1 : XB (Qxy (mV n n (ra A)) (mV n n (ra B))) (.mk 9 [] [.mk 13 [100,101,116] [.mk 6 [] [.mk 2 [120] [],.mk 2 [121] []]],.mk 6 [] [.mk 13 [100,101,116] [.mk 2 [120] []],.mk 13 [100,101,116] [.mk 2 [121] []]]]) (nV 1) 1000:=by
 have zc:=(mm_zb hn ha hb).mono (L':=5) (by decide)
 have za:=ha.zb.mono (L':=5) (by decide)
 have zb:=hb.zb.mono (L':=5) (by decide)
 have l1 : lr ((dn n A : Int) : Rat) ≤ 40:=lr_k (det_le hn za) (by decide)
 have l2 : lr ((dn n B : Int) : Rat) ≤ 40:=lr_k (det_le hn zb) (by decide)
 have l3 : lr ((dn n (mm n A B) : Int) : Rat) ≤ 40:=lr_k (det_le hn zc) (by decide)
 have cm:=v_mulN (a:=((dn n A : Int) : Rat)) (b:=((dn n B : Int) : Rat)) (by omega) (by omega)
 rw [← Rat.intCast_mul,← dn_mul] at cm
 have e1:=e_det hn (e_xy hn ha hb) zc
 have e2:=xb_bin (op:=6) (k:=1) (w:=nV ((dn n (mm n A B) : Int) : Rat)) (.inr (.inr (.inl rfl))) (e_det hn (e_x hn ha hb) za) (e_det hn (e_y hn ha hb) zb) cm (vokN (by omega)) (by decide)
 exact (xb_bin (op:=9) (w:=nV 1) (.inr (.inr (.inr (.inr (.inl rfl))))) e1 e2 (v_eqN (q:=((dn n (mm n A B) : Int) : Rat)) (by omega)) vok1 (by decide)).mono (by decide)
theorem st2 : XB (Qxy (mV n n (ra A)) (mV n n (ra B))) (.mk 9 [] [.mk 13 [116,114,97,99,101] [.mk 6 [] [.mk 2 [120] [],.mk 2 [121] []]],.mk 13 [116,114,97,99,101] [.mk 6 [] [.mk 2 [121] [],.mk 2 [120] []]]]) (nV 1) 1000:=by
 have zc:=(mm_zb hn ha hb).mono (L':=5) (by decide)
 have zd:=(mm_zb hn hb ha).mono (L':=5) (by decide)
 have hs : li (sm n fun i=>mm n A B i i) ≤ 40:=by
  have h1:=abs_sm (K:=4 * (W64 * W64)) n (fun i=>mm n A B i i) fun i hi=>Nat.le_trans (abs_sm n (fun j=>A i j * B j i) fun j hj=>by
   rw [Int.natAbs_mul]
   exact Nat.mul_le_mul (Nat.le_of_lt (ha i j hi hj)) (Nat.le_of_lt (hb j i hj hi))) (Nat.mul_le_mul_right _ hn)
  refine Nat.le_trans (ln_le (k:=3) (Nat.lt_of_le_of_lt h1 (Nat.lt_of_le_of_lt (Nat.mul_le_mul_right _ hn) (by decide)))) (by decide)
 have c2:=c_trace hn zd (by rw [trace_mm n B A]; omega)
 rw [trace_mm n B A] at c2
 have c1:=c_trace hn zc (by omega)
 have l1 : lr ((sm n (fun i=>mm n A B i i) : Int) : Rat) ≤ 40:=lr_k hs (by decide)
 exact (xb_bin (op:=9) (w:=nV 1) (.inr (.inr (.inr (.inr (.inl rfl))))) (xb_call (k:=1) (e_xy hn ha hb) c1 (vokN (by omega)) (by decide)) (xb_call (k:=1) (e_yx hn ha hb) c2 (vokN (by omega)) (by decide)) (v_eqN (q:=((sm n (fun i=>mm n A B i i) : Int) : Rat)) (by omega)) vok1 (by decide)).mono (by decide)
theorem st3 : XB (Qxy (mV n n (ra A)) (mV n n (ra B))) (.mk 12 [] [.mk 13 [114,97,110,107] [.mk 6 [] [.mk 2 [120] [],.mk 2 [121] []]],.mk 13 [114,97,110,107] [.mk 2 [120] []]]) (nV 1) 1000:=by
 have zc:=mm_zb hn ha hb
 have hA : mV n n (ra A) = mV n n (MT.of n n (ra A)).e:=by unfold mV; rw [tq_congr (U:=(MT.of n n (ra A)).e) fun i k hi hk=>(MT.of_e (ra A) hi hk).symm]
 have hC : mV n n (ra (mm n A B)) = mV n n (MT.of n n (ra A) * MT.of n n (ra B)).e:=by
  unfold mV
  rw [tq_congr (U:=(MT.of n n (ra A) * MT.of n n (ra B)).e) fun i k hi hk=>by
   rw [MT.e_mul,← mm_ra]
   exact sm_congr fun j hj=>by rw [MT.of_e _ hi hj,MT.of_e _ hj hk]]
 have lA : LB 3 n n (MT.of n n (ra A)).e:=fun i k hi hk=>by rw [MT.of_e _ hi hk]; exact Nat.le_trans (ha.zb.lb (by decide) i k hi hk) (by decide)
 have lC : LB 3 n n (MT.of n n (ra A) * MT.of n n (ra B)).e:=fun i k hi hk=>by
  have e : (MT.of n n (ra A) * MT.of n n (ra B)).e i k = ra (mm n A B) i k:=by
   rw [MT.e_mul,← mm_ra]
   exact sm_congr fun j hj=>by rw [MT.of_e _ hi hj,MT.of_e _ hj hk]
  rw [e]; exact zc.lb (by decide) i k hi hk
 obtain ⟨p1,h1,d1,c1⟩:=c_rank hn _ lC 0 (by decide)
 obtain ⟨p2,h2,d2,c2⟩:=c_rank hn _ lA 4 (by decide)
 rw [← hC] at c1
 rw [← hA] at c2
 have hle : p1 ≤ p2:=by
  rcases d1 with ⟨W,P,k1,rfl⟩ | rfl
  ·rcases d2 with ⟨W',P',k2,rfl⟩ | rfl
   ·obtain ⟨c,g1,g2,g3,-⟩:=k1
    obtain ⟨c',g1',g2',g3',-⟩:=k2
    exact Rk.mul (by decide) (Rk.of g1' g2' g3') (Rk.of g1 g2 g3)
   ·exact h1
  ·exact Nat.zero_le _
 have w0 : (4 : Nat) < W64:=by decide
 have l1 : lr ((p1 : Int) : Rat) ≤ 1:=lr_nat p1 (by omega)
 have l2 : lr ((p2 : Int) : Rat) ≤ 1:=lr_nat p2 (by omega)
 have hq : ((p1 : Int) : Rat) ≤ ((p2 : Int) : Rat):=Rat.intCast_le_intCast.2 (by omega)
 exact (xb_bin (op:=12) (w:=nV 1) (.inr (.inr (.inr (.inr (.inr rfl))))) (xb_call (k:=1) (e_xy hn ha hb) c1 (vokN (by omega)) (by decide)) (xb_call (k:=1) (e_x hn ha hb) c2 (vokN (by omega)) (by decide)) (v_le (by omega) (by omega) hq) vok1 (by decide)).mono (by decide)
theorem st4 : XB (Qxy (mV n n (ra A)) (mV n n (ra B))) (.mk 9 [] [.mk 13 [116,114,97,110,115,112,111,115,101] [.mk 6 [] [.mk 2 [120] [],.mk 2 [121] []]],.mk 6 [] [.mk 13 [116,114,97,110,115,112,111,115,101] [.mk 2 [121] []],.mk 13 [116,114,97,110,115,112,111,115,101] [.mk 2 [120] []]]]) (nV 1) 1000:=by
 have lc:=(mm_zb hn ha hb).lb (by decide)
 have la:=ha.zb.lb (by decide)
 have lb:=hb.zb.lb (by decide)
 have tA : W1 n fun i k=>A k i:=fun i k hi hk=>ha k i hk hi
 have tB : W1 n fun i k=>B k i:=fun i k hi hk=>hb k i hk hi
 have c1:=c_transpose hn (lc.mono (by decide))
 have c2:=c_transpose hn (lb.mono (by decide))
 have c3:=c_transpose hn (la.mono (by decide))
 have cm:=b_mul hn tB tA
 have lt : LB 3 n n fun i k=>ra (mm n A B) k i:=fun i k hi hk=>lc k i hk hi
 have ltA : LB 1 n n fun i k=>ra A k i:=fun i k hi hk=>la k i hk hi
 have ltB : LB 1 n n fun i k=>ra B k i:=fun i k hi hk=>lb k i hk hi
 have e : mV n n (ra (mm n (fun i k=>B k i) fun i k=>A k i)) = mV n n fun i k=>ra (mm n A B) k i:=by
  unfold mV
  rw [tq_congr (U:=fun i k=>ra (mm n A B) k i) fun i k _ _=>by unfold ra; rw [tr_mm]]
 rw [e] at cm
 have ce:=v_eqM hn (lt.mono (by decide))
 exact (xb_bin (op:=9) (w:=nV 1) (.inr (.inr (.inr (.inr (.inl rfl))))) (xb_call (e_xy hn ha hb) c1 (vokM (by omega) (by omega) (lt.mono (by decide))) (nn16 hn))
  (xb_bin (op:=6) (.inr (.inr (.inl rfl))) (xb_call (e_y hn ha hb) c2 (vokM (by omega) (by omega) (ltB.mono (by decide))) (nn16 hn)) (xb_call (e_x hn ha hb) c3 (vokM (by omega) (by omega) (ltA.mono (by decide))) (nn16 hn)) cm (vokM (by omega) (by omega) (lt.mono (by decide))) (nn16 hn)) ce vok1 (by decide)).mono (by decide)
end
theorem dgs2 : dgs 2 = [50]:=by kernel_rfl
theorem dgs0 : dgs 0 = [48]:=by kernel_rfl
theorem e_two {Q : Ms → Prop} : XB Q (.mk 1 [50] []) (nV ((2 : Int) : Rat)) 20:=by
 have h:=xp_num (Q:=Q) (x:=2) (by decide)
 rw [dgs2] at h
 exact ⟨2,by decide,h⟩
theorem e_nil {Q : Ms → Prop} : XB Q (.mk 1 [48] []) (nV ((0 : Int) : Rat)) 20:=by
 have h:=xp_num (Q:=Q) (x:=0) (by decide)
 rw [dgs0] at h
 exact ⟨2,by decide,h⟩
theorem lr_m1 : lr ((-1 : Int) : Rat) ≤ 1:=lr_k (by rw [li_neg]; exact li1) (by decide)
section
variable {n : Nat} {A B : Nat → Nat → Int} (hn : n ≤ 4) (ha : W1 n A) (hb : W1 n B)
include hn ha hb
omit hn ha hb in
theorem lb_sc {L : Nat} {C : Nat → Nat → Rat} (h : LB L n n C) : LB (L + 1) n n fun i k=>C i k * ((-1 : Int) : Rat):=fun i k hi hk=>
 Nat.le_trans (lr_mul _ _) (Nat.add_le_add (h i k hi hk) lr_m1)
omit hn ha hb in
theorem lb_ad {L K : Nat} {C D : Nat → Nat → Rat} (h : LB L n n C) (k : LB K n n D) : LB (L + K + 1) n n fun i k=>C i k + D i k:=fun i j hi hj=>
 Nat.le_trans (lr_add _ _) (by have:=h i j hi hj; have:=k i j hi hj; omega)
theorem st5 : XB (Qxy (mV n n (ra A)) (mV n n (ra B))) (.mk 9 [] [.mk 6 [] [.mk 4 [] [.mk 2 [120] [],.mk 2 [121] []],.mk 5 [] [.mk 2 [120] [],.mk 2 [121] []]],.mk 5 [] [.mk 4 [] [.mk 5 [] [.mk 8 [] [.mk 2 [120] [],.mk 1 [50] []],.mk 6 [] [.mk 2 [120] [],.mk 2 [121] []]],.mk 6 [] [.mk 2 [121] [],.mk 2 [120] []]],.mk 8 [] [.mk 2 [121] [],.mk 1 [50] []]]]) (nV 1) 1000:=by
 have la:=ha.zb.lb (by decide)
 have lb:=hb.zb.lb (by decide)
 have lxy:=(mm_zb hn ha hb).lb (by decide)
 have lyx:=(mm_zb hn hb ha).lb (by decide)
 have lxx:=(mm_zb hn ha ha).lb (by decide)
 have lyy:=(mm_zb hn hb hb).lb (by decide)
 have lsub:=lb_ad la (lb_sc lb)
 have ladd:=lb_ad la lb
 have lmul:=lb_mm ladd lsub
 have hmul : n * (1 + 1 + 1 + (1 + (1 + 1) + 1) + 1) + 1 ≤ 60:=by
  have : n * (1 + 1 + 1 + (1 + (1 + 1) + 1) + 1) ≤ 4 * (1 + 1 + 1 + (1 + (1 + 1) + 1) + 1):=Nat.mul_le_mul_right _ hn
  omega
 have s1:=lb_ad lxx (lb_sc lxy)
 have s2:=lb_ad s1 lyx
 have s3:=lb_ad s2 (lb_sc lyy)
 have o5 : ∀ {L : Nat} {C : Nat → Nat → Rat},LB L n n C → L ≤ 10000 → VOK (mV n n C) (n * n):=fun h hL=>vokM (by omega) (by omega) (h.mono hL)
 have px : Pc Tryz.prog 174 [.raw (.int .i64 (8 : Nat)),(mV n n (ra A)).i,(nV ((2 : Int) : Rat)).i] (· = .tup [(mV n n (ra (mm n A A))).i,.raw (.int .i64 0)]):=by
  have h:=v_pow2 hn (la.mono (by decide))
  rw [VM_congr (B:=ra (mm n A A)) fun i k _ _=>mm_ra n A A i k] at h
  exact h
 have py : Pc Tryz.prog 174 [.raw (.int .i64 (8 : Nat)),(mV n n (ra B)).i,(nV ((2 : Int) : Rat)).i] (· = .tup [(mV n n (ra (mm n B B))).i,.raw (.int .i64 0)]):=by
  have h:=v_pow2 hn (lb.mono (by decide))
  rw [VM_congr (B:=ra (mm n B B)) fun i k _ _=>mm_ra n B B i k] at h
  exact h
 have e2:=xb_bin (op:=8) (.inr (.inr (.inr (.inl rfl)))) (e_x hn ha hb) e_two px (o5 lxx (by decide)) (nn16 hn)
 have e3:=xb_bin (op:=8) (.inr (.inr (.inr (.inl rfl)))) (e_y hn ha hb) e_two py (o5 lyy (by decide)) (nn16 hn)
 have r1:=xb_bin (op:=5) (w:=mV n n fun i k=>ra (mm n A A) i k + ra (mm n A B) i k * ((-1 : Int) : Rat)) (.inr (.inl rfl)) e2 (e_xy hn ha hb) (v_sub hn (lxx.mono (by decide)) (lxy.mono (by decide))) (o5 s1 (by decide)) (nn16 hn)
 have r2:=xb_bin (op:=4) (w:=mV n n fun i k=>ra (mm n A A) i k + ra (mm n A B) i k * ((-1 : Int) : Rat) + ra (mm n B A) i k) (.inl rfl) r1 (e_yx hn ha hb) (v_add hn (s1.mono (by decide)) (lyx.mono (by decide))) (o5 s2 (by decide)) (nn16 hn)
 have r3:=xb_bin (op:=5) (w:=mV n n fun i k=>ra (mm n A A) i k + ra (mm n A B) i k * ((-1 : Int) : Rat) + ra (mm n B A) i k + ra (mm n B B) i k * ((-1 : Int) : Rat)) (.inr (.inl rfl)) r2 e3 (v_sub hn (s2.mono (by decide)) (lyy.mono (by decide))) (o5 s3 (by decide)) (nn16 hn)
 have l1:=xb_bin (op:=4) (w:=mV n n fun i k=>ra A i k + ra B i k) (.inl rfl) (e_x hn ha hb) (e_y hn ha hb) (v_add hn (la.mono (by decide)) (lb.mono (by decide))) (o5 ladd (by decide)) (nn16 hn)
 have l2:=xb_bin (op:=5) (w:=mV n n fun i k=>ra A i k + ra B i k * ((-1 : Int) : Rat)) (.inr (.inl rfl)) (e_x hn ha hb) (e_y hn ha hb) (v_sub hn (la.mono (by decide)) (lb.mono (by decide))) (o5 lsub (by decide)) (nn16 hn)
 have cm:=v_mulM hn (ladd.mono (by decide)) (lsub.mono (by decide))
 have hE : ∀ i k,mm n (fun i k=>ra A i k + ra B i k) (fun i k=>ra A i k + ra B i k * ((-1 : Int) : Rat)) i k = ra (mm n A A) i k + ra (mm n A B) i k * ((-1 : Int) : Rat) + ra (mm n B A) i k + ra (mm n B B) i k * ((-1 : Int) : Rat):=fun i k=>by
  rw [sq_mm,mm_ra,mm_ra,mm_ra,mm_ra]
 rw [VM_congr fun i k _ _=>hE i k] at cm
 have l3:=xb_bin (op:=6) (w:=mV n n fun i k=>ra (mm n A A) i k + ra (mm n A B) i k * ((-1 : Int) : Rat) + ra (mm n B A) i k + ra (mm n B B) i k * ((-1 : Int) : Rat)) (.inr (.inr (.inl rfl))) l1 l2 cm (o5 s3 (by decide)) (nn16 hn)
 exact (xb_bin (op:=9) (w:=nV 1) (.inr (.inr (.inr (.inr (.inl rfl))))) l3 r3 (v_eqM hn (s3.mono (by decide))) vok1 (by decide)).mono (by decide)
theorem st6 : XB (Qxy (mV n n (ra A)) (mV n n (ra B))) (.mk 9 [] [.mk 6 [] [.mk 13 [97,100,106] [.mk 2 [120] []],.mk 2 [120] []],.mk 6 [] [.mk 13 [100,101,116] [.mk 2 [120] []],.mk 8 [] [.mk 2 [120] [],.mk 1 [48] []]]]) (nV 1) 1000:=by
 have la:=ha.zb.lb (by decide)
 have za:=ha.zb.mono (L':=5) (by decide)
 obtain ⟨D,hD,cD,eD⟩:=p_adj hn ha.zb
 have lD:=hD.lb (by decide)
 have ld : lr ((dn n A : Int) : Rat) ≤ 40:=lr_k (det_le hn za) (by decide)
 have o5 : ∀ {L : Nat} {C : Nat → Nat → Rat},LB L n n C → L ≤ 10000 → VOK (mV n n C) (n * n):=fun h hL=>vokM (by omega) (by omega) (h.mono hL)
 have lI : LB 1 n n idR:=fun i k _ _=>by
  unfold idR
  split
  ·exact lr_one
  ·exact lr_zero
 have lR : LB 41 n n fun i k=>idR i k * ((dn n A : Int) : Rat):=fun i k hi hk=>Nat.le_trans (lr_mul _ _) (by have:=lI i k hi hk; omega)
 have ea:=xb_call (e_x hn ha hb) (c_adj hn za cD (hD.mono (by decide))) (o5 lD (by decide)) (nn16 hn)
 have cm:=v_mulM hn (lD.mono (by decide)) (la.mono (by decide))
 have hE : ∀ i k,i < n → k < n → mm n (ra D) (ra A) i k = idR i k * ((dn n A : Int) : Rat):=fun i k hi hk=>by
  rw [mm_ra]
  show ((mm n D A i k : Int) : Rat) = _
  rw [eD i k hi hk]
  unfold idR
  by_cases h : k = i
  ·rw [if_pos h,if_pos h.symm,Rat.one_mul]
  ·rw [if_neg h,if_neg (fun e=>h e.symm),Rat.zero_mul]; rfl
 rw [VM_congr hE] at cm
 have l1:=xb_bin (op:=6) (w:=mV n n fun i k=>idR i k * ((dn n A : Int) : Rat)) (.inr (.inr (.inl rfl))) ea (e_x hn ha hb) cm (o5 lR (by decide)) (nn16 hn)
 have p0:=xb_bin (op:=8) (w:=mV n n idR) (.inr (.inr (.inr (.inl rfl)))) (e_x hn ha hb) e_nil (v_pow0 hn (la.mono (by decide))) (o5 lI (by decide)) (nn16 hn)
 have r1:=xb_bin (op:=6) (w:=mV n n fun i k=>idR i k * ((dn n A : Int) : Rat)) (.inr (.inr (.inl rfl))) (e_det hn (e_x hn ha hb) za) p0 (v_mulNM hn (lI.mono (by decide)) (by omega)) (o5 lR (by decide)) (nn16 hn)
 exact (xb_bin (op:=9) (w:=nV 1) (.inr (.inr (.inr (.inr (.inl rfl))))) l1 r1 (v_eqM hn (lR.mono (by decide))) vok1 (by decide)).mono (by decide)
end
theorem xb_ent {Q : Ms → Prop} {z : Int} (hz : z.natAbs < W64) : XB Q (entN z) (nV (z : Rat)) 40:=by
 have hn : XB Q (.mk 1 (dgs z.natAbs) []) (nV ((z.natAbs : Int) : Rat)) 2:=⟨2,Nat.le_refl _,xp_num hz⟩
 unfold entN
 by_cases h : z < 0
 ·rw [if_pos h]
  have e : ((z : Int) : Rat) = -((z.natAbs : Int) : Rat):=by
   rw [← Rat.intCast_neg]
   congr 1
   omega
  rw [e]
  have hl : lr ((z.natAbs : Int) : Rat) ≤ 1:=lr_nat z.natAbs hz
  exact (xb_neg hn (by omega)).mono (by decide)
 ·rw [if_neg h]
  have e : ((z.natAbs : Int)) = z:=by omega
  rw [e] at hn
  exact hn.mono (by decide)
noncomputable def nvR (r : List Int) : List V15:=r.map fun z=>nV ((z : Int) : Rat)
theorem xl_row {Q : Ms → Prop} : ∀ (r : List Int) (_ : ∀ z ∈ r,z.natAbs < W64),∃ c,c ≤ 40 * r.length ∧ XpL Q (r.map entN) (nvR r) c
 | [],_=>⟨0,Nat.zero_le _,rfl⟩
 | z :: r,h=>by
  obtain ⟨c1,l1,e1⟩:=xb_ent (Q:=Q) (h z (by simp))
  obtain ⟨c2,l2,e2⟩:=xl_row r fun w hw=>h w (List.mem_cons_of_mem _ hw)
  exact ⟨c1 + c2,by rw [List.length_cons]; omega,c1,c2,rfl,e1,e2⟩
theorem xr_rows {Q : Ms → Prop} : ∀ (l : List (List Int)) (_ : ∀ r ∈ l,r ≠ [] ∧ r.length ≤ 4 ∧ ∀ z ∈ r,z.natAbs < W64),∃ c,c ≤ 161 * l.length ∧ XpR Q (l.map fun r=>r.map entN) (l.map nvR) c
 | [],_=>⟨0,Nat.zero_le _,rfl⟩
 | r :: l,h=>by
  obtain ⟨h1,h2,h3⟩:=h r (by simp)
  obtain ⟨c1,l1,e1⟩:=xl_row (Q:=Q) r h3
  obtain ⟨c2,l2,e2⟩:=xr_rows l fun w hw=>h w (List.mem_cons_of_mem _ hw)
  exact ⟨1 + c1 + c2,by rw [List.length_cons]; omega,c1,c2,rfl,by cases r with
   | nil=>exact absurd rfl h1
   | cons z r=>simp,by rw [List.length_map]; omega,e1,e2⟩
theorem rwsA_mem {n : Nat} {A : Nat → Nat → Int} (hA : W1 n A) {r : List Int} (h : r ∈ rwsA n n A) : r.length = n ∧ ∀ z ∈ r,z.natAbs < W64:=by
 unfold rwsA at h
 simp only [List.mem_map,List.mem_range] at h
 obtain ⟨i,hi,rfl⟩:=h
 refine ⟨by simp,fun z hz=>?_⟩
 simp only [List.mem_map,List.mem_range] at hz
 obtain ⟨k,hk,rfl⟩:=hz
 exact hA i k hi hk
theorem rwsA_len (n : Nat) (A : Nat → Nat → Int) : (rwsA n n A).length = n:=by unfold rwsA; simp
theorem vrI_rows (n : Nat) (A : Nat → Nat → Int) : vrI ((rwsA n n A).map nvR) = rowsI n n A:=by
 unfold vrI rwsA rowsI
 rw [List.map_map,List.map_map]
 refine List.map_congr_left fun i hi=>?_
 show IV.sl (nvR ((List.range n).map fun k=>A i k)).length 15 (vcL' (nvR ((List.range n).map fun k=>A i k))) = _
 have e : nvR ((List.range n).map fun k=>A i k) = rwV n A i:=by
  unfold nvR rwV
  rw [List.map_map]; rfl
 rw [e]
 have hl : (rwV n A i).length = n:=by unfold rwV; simp
 rw [hl]
theorem xb_mat {Q : Ms → Prop} {n : Nat} {A : Nat → Nat → Int} (hn : n ≤ 4) (hA : W1 n A) : XB Q (matN (rwsA n n A)) (mV n n (ra A)) 1000:=by
 rcases Nat.eq_zero_or_pos n with rfl | h0
 ·exact (xb_call2 (k:=0) e_nil e_nil (c_zero (A:=A)) (vokM (by omega) (by omega) (fun i k hi _=>absurd hi (by omega))) (by decide)).mono (by decide)
 ·have hm:=m_matrix (r:=n) (c:=n) (A:=A) h0 (by omega) (by omega) ((hA.zb.lb (by decide)).mono (by decide))
  rw [← vrI_rows] at hm
  obtain ⟨c,hc,e⟩:=xr_rows (Q:=Q) (rwsA n n A) fun r hr=>by
   obtain ⟨h1,h2⟩:=rwsA_mem hA hr
   exact ⟨fun e=>by rw [e] at h1; simp at h1; omega,by omega,h2⟩
  have hl:=rwsA_len n A
  have hV : ((rwsA n n A).map nvR).length = n:=by rw [List.length_map,hl]
  generalize rwsA n n A = L at *
  cases L with
  | nil=>simp at hl; omega
  | cons r L=>
   have e2 : matN (r :: L) = .mk 14 [] ((r.map entN :: L.map fun r=>r.map entN).map rwN):=by
    rw [matN]
    congr 1
    show lineN r :: L.map lineN = rwN (r.map entN) :: (L.map fun r=>r.map entN).map rwN
    rw [List.map_map]; rfl
   rw [e2]
   refine ⟨_,?_,xp_mat (Vs:=(r :: L).map nvR) (c:=c) (k:=n * n) (w:=mV n n (ra A)) e ?_ ?_ (vokM (by omega) (by omega) ((hA.zb.lb (by decide)).mono (by decide)))⟩
   ·have:=nn16 hn
    omega
   ·show ((r :: L).map fun r=>r.map entN).length ≤ 1000
    rw [List.length_map]; omega
   ·rw [hV]; exact hm
theorem r_parsed {W : List Wrd} {l : List Nde} {g : Nat} (hw : wrdB W = true) (hl : (cat W).length ≤ 10000) (hg : gapL (cat W) = 0) (h35 : (cat W).headD 0 ≠ 35) (hp : pgM (eu 5).1 g (toks W 0) = some l) (hB : ∀ j,(levL j l).length ≤ 100) (hD : levL 201 l = []) :
  Pc Tryz.prog 15 [ts (cat W),budI] (· = .tup [.sl l.length 3 (ndL l),.raw (.int .i64 0)]):=by
 have hwl:=toks_le W hw
 have hT : TokB (toks W 0):=⟨by rw [toks_len]; omega,fun t ht=>toks_ok hw 0 t ht⟩
 have hL:=x_Lex (l:=cat W) (f:=W.length + 1) (T:=toks W 0) (cat_by hw) (by omega) hg h35 (lex_cat W (W.length + 1) 0 hw (by omega))
 have hP:=p_Parse hT (p_eu hT 5).1 (by decide) hp (fun j=>Nat.le_trans (hB j) (by decide)) hD
 exact m_parsed hL hP
theorem run_awake : Pc Tryz.prog 8 [ts (cat awakeW),budI] (· = .tup [ts [53,10],.raw (.int .i64 0)]):=by
 have hp:=r_parsed (W:=awakeW) (l:=awakeN) (g:=2) awake_wrd (by decide) (by decide) (by decide) awake_pg (fun j=>Nat.le_trans (lev_awake j).1 (by decide)) ((lev_awake 201).2 (by decide))
 have e2 : XB (fun _=>True) (.mk 1 [50] []) (nV ((2 : Int) : Rat)) 20:=e_two
 have e3 : XB (fun _=>True) (.mk 1 [51] []) (nV ((3 : Int) : Rat)) 20:=by
  have h:=xp_num (Q:=fun _=>True) (x:=3) (by decide)
  rw [show dgs 3 = [51] by kernel_rfl] at h
  exact ⟨2,by decide,h⟩
 have l2 : lr ((2 : Int) : Rat) ≤ 20000:=lr_k (Nat.le_trans (ln_word (by decide)) (by decide)) (by decide)
 have l3 : lr ((3 : Int) : Rat) ≤ 20000:=lr_k (Nat.le_trans (ln_word (by decide)) (by decide)) (by decide)
 have l5 : lr ((5 : Int) : Rat) ≤ 10000:=lr_k (Nat.le_trans (ln_word (by decide)) (by decide)) (by decide)
 have ca:=v_addN l2 l3
 rw [← Rat.intCast_add] at ca
 obtain ⟨c,hc,e5⟩:=xb_bin (op:=4) (w:=nV 5) (k:=1) (.inl rfl) e2 e3 ca (vokN l5) (by decide)
 have hs:=m_st_ae (Q:=fun _=>True) (F:=1000000) (q:=5) v_Print5 e5 trivial (by omega) (by decide)
 exact m_Run_e hp (m_block1 hs) rfl (by decide)
theorem w_awake' : Pc Tryz.prog 4 [] (· = .raw (.bool true)):=w_awake run_awake
theorem run_law {n : Nat} {A B : Nat → Nat → Int} (hn : n ≤ 4) (ha : W1 n A) (hb : W1 n B) :
  Pc Tryz.prog 8 [ts (progL (rwsA n n A) (rwsA n n B)),budI] (· = .tup [ts [49,10,49,10,49,10,49,10,49,10,49,10],.raw (.int .i64 0)]):=by
 have hW:=W64_lt
 have ma:=fun r hr=>rwsA_mem ha (r:=r) hr
 have mb:=fun r hr=>rwsA_mem hb (r:=r) hr
 have sa : ∀ s ∈ rwsA n n A,∀ z ∈ s,smI z:=fun s hs z hz=>Nat.lt_trans ((ma s hs).2 z hz) hW
 have sb : ∀ s ∈ rwsA n n B,∀ z ∈ s,smI z:=fun s hs z hz=>Nat.lt_trans ((mb s hs).2 z hz) hW
 have la:=rwsA_len n A
 have lb:=rwsA_len n B
 have na : ∀ r ∈ rwsA n n A,r ≠ []:=fun r hr e=>by
  have:=(ma r hr).1
  rw [e] at this
  have h0 : n = 0:=this.symm
  subst h0
  rw [List.length_eq_zero_iff.1 la] at hr
  exact absurd hr (by simp)
 have nb : ∀ r ∈ rwsA n n B,r ≠ []:=fun r hr e=>by
  have:=(mb r hr).1
  rw [e] at this
  have h0 : n = 0:=this.symm
  subst h0
  rw [List.length_eq_zero_iff.1 lb] at hr
  exact absurd hr (by simp)
 have wp:=prog_wrd sa sb
 have hl:=prog_len (tab_len (by omega) (fun r hr=>by rw [(ma r hr).1]; omega) sa) (tab_len (by omega) (fun r hr=>by rw [(mb r hr).1]; omega) sb)
 obtain ⟨lv1,lv2⟩:=lev_prog (a:=rwsA n n A) (b:=rwsA n n B) (by omega) (fun r hr=>by rw [(ma r hr).1]; omega) (by omega) (fun r hr=>by rw [(mb r hr).1]; omega)
 have hp:=r_parsed wp (by rw [cat_prog]; omega) rfl (by show (120 : Nat) ≠ 35; decide) (prog_pg na nb) lv1 lv2
 rw [cat_prog] at hp
 obtain ⟨c0,k0,e0⟩:=xb_mat (Q:=fun _=>True) hn ha
 obtain ⟨c1,k1,e1⟩:=xb_mat (Q:=fun _=>True) hn hb
 obtain ⟨c2,k2,e2⟩:=st1 hn ha hb
 obtain ⟨c3,k3,e3⟩:=st2 hn ha hb
 obtain ⟨c4,k4,e4⟩:=st3 hn ha hb
 obtain ⟨c5,k5,e5⟩:=st4 hn ha hb
 obtain ⟨c6,k6,e6⟩:=st5 hn ha hb
 obtain ⟨c7,k7,e7⟩:=st6 hn ha hb
 have s0:=m_set_ab (F:=1000000) e0 trivial (by omega) (by decide)
 have s1:=m_set_bc (x:=mV n n (ra A)) (F:=1000000 - (1 + c0)) e1 trivial (by omega) (by omega)
 have s2:=m_st_cd (x:=mV n n (ra A)) (y:=mV n n (ra B)) (q:=1) (F:=1000000 - (1 + c0) - (1 + c1)) v_Print1 e2 ⟨rfl,rfl⟩ (by omega) (by omega)
 have s3:=m_st_dd (x:=mV n n (ra A)) (y:=mV n n (ra B)) (tl:=[49,10]) (q0:=1) (q:=1) (F:=1000000 - (1 + c0) - (1 + c1) - (1 + c2)) v_Print1 (by decide) e3 ⟨rfl,rfl⟩ (by omega) (by omega)
 have s4:=m_st_dd (x:=mV n n (ra A)) (y:=mV n n (ra B)) (tl:=[49,10] ++ [49,10]) (q0:=1) (q:=1) (F:=1000000 - (1 + c0) - (1 + c1) - (1 + c2) - (1 + c3)) v_Print1 (by decide) e4 ⟨rfl,rfl⟩ (by omega) (by omega)
 have s5:=m_st_dd (x:=mV n n (ra A)) (y:=mV n n (ra B)) (tl:=[49,10] ++ [49,10] ++ [49,10]) (q0:=1) (q:=1) (F:=1000000 - (1 + c0) - (1 + c1) - (1 + c2) - (1 + c3) - (1 + c4)) v_Print1 (by decide) e5 ⟨rfl,rfl⟩ (by omega) (by omega)
 have s6:=m_st_dd (x:=mV n n (ra A)) (y:=mV n n (ra B)) (tl:=[49,10] ++ [49,10] ++ [49,10] ++ [49,10]) (q0:=1) (q:=1) (F:=1000000 - (1 + c0) - (1 + c1) - (1 + c2) - (1 + c3) - (1 + c4) - (1 + c5)) v_Print1 (by decide) e6 ⟨rfl,rfl⟩ (by omega) (by omega)
 have s7:=m_st_dd (x:=mV n n (ra A)) (y:=mV n n (ra B)) (tl:=[49,10] ++ [49,10] ++ [49,10] ++ [49,10] ++ [49,10]) (q0:=1) (q:=1) (F:=1000000 - (1 + c0) - (1 + c1) - (1 + c2) - (1 + c3) - (1 + c4) - (1 + c5) - (1 + c6)) v_Print1 (by decide) e7 ⟨rfl,rfl⟩ (by omega) (by omega)
 exact m_Run_d hp (m_block8 s0 s1 s2 s3 s4 s5 s6 s7) rfl (by decide)
theorem progL_tx (a b : List (List Int)) : ts (progL a b) = .raw (.string (tx [120,32,61,32] ++ tx (tabL a) ++ tx [59,32,121,32,61,32] ++ tx (tabL b) ++ tx [59,32] ++ tx restL)):=by
 rw [tx_append,tx_append,tx_append,tx_append,tx_append]; rfl
def inA (n : Nat) (es : List (Bool × List Nat)) : Nat → Nat → Int:=fun i k=>zv (es.getD (i * n + k) (false,[]))
theorem inA_at {n i k : Nat} {es : List (Bool × List Nat)} (hl : es.length = n * n) (hi : i < n) (hk : k < n) : ∃ e,es[i * n + k]? = some e ∧ zv e = inA n es i k:=by
 have:=idx_lt hi hk
 refine ⟨es[i * n + k]'(by omega),List.getElem?_eq_getElem _,?_⟩
 unfold inA
 rw [List.getD_eq_getElem?_getD,List.getElem?_eq_getElem (by omega)]; rfl
theorem inA_w {n : Nat} {es : List (Bool × List Nat)} (hl : es.length = n * n) (hw : ∀ e ∈ es,wf W64 e.2 ∧ e.2.length ≤ 1) : W1 n (inA n es):=fun i k hi hk=>by
 obtain ⟨e,he,h⟩:=inA_at hl hi hk
 obtain ⟨w1,w2⟩:=hw e (List.mem_of_getElem? he)
 rw [← h]
 unfold zv; rw [zsg_abs]
 have h1:=nv_lt e.2 w1
 have h2 : W64 ^ e.2.length ≤ W64 ^ 1:=Nat.pow_le_pow_right W64_pos w2
 rw [Nat.pow_one] at h2
 omega
theorem law {R C R' C' : Int} {es es' : List (Bool × List Nat)} (hw : ∀ e ∈ es,wf W64 e.2) (hw' : ∀ e ∈ es',wf W64 e.2) :
  Pc Tryz.prog 3 [aI R C es,aI R' C' es'] (· = .raw (.bool true)):=by
 refine pc Tryz.func3 ?_
 refine ce w_awake' rfl ?_
 refine gt rfl ?_
 refine gt rfl ?_
 refine cl (w_small (R:=R) (C:=C) (es:=es)) rfl ?_
 rintro _ ⟨b,rfl,hb⟩
 refine gt rfl ?_
 refine tf rfl ?_
 cases b with
 | false=>
  iterate 3 refine gf rfl ?_
  refine tw rfl ?_
  iterate 5 refine gf rfl ?_
  refine tw rfl ?_
  iterate 5 refine gf rfl ?_
  refine tw rfl ?_
  iterate 5 refine gf rfl ?_
  refine tw rfl ?_
  refine ift rfl rfl ?_
  refine ce w_awake' rfl ?_
  exact rfl
 | true=>
 refine gt rfl ?_
 refine gt rfl ?_
 refine cl (w_small (R:=R') (C:=C') (es:=es')) rfl ?_
 rintro _ ⟨b,rfl,hb'⟩
 refine gt rfl ?_
 refine tf rfl ?_
 cases b with
 | false=>
  iterate 5 refine gf rfl ?_
  refine tw rfl ?_
  iterate 5 refine gf rfl ?_
  refine tw rfl ?_
  iterate 5 refine gf rfl ?_
  refine tw rfl ?_
  refine ift rfl rfl ?_
  refine ce w_awake' rfl ?_
  exact rfl
 | true=>
 obtain ⟨p1,p2,p3,p4,p5,p6⟩:=hb rfl
 obtain ⟨q1,q2,q3,q4,q5,q6⟩:=hb' rfl
 iterate 5 refine gt rfl ?_
 refine tf rfl ?_
 by_cases h1 : R ≠ C
 ·have g1 : (R != C) = true:=by simpa using h1
  iterate 5 refine gf g1 ?_
  refine tw g1 ?_
  iterate 5 refine gf rfl ?_
  refine tw rfl ?_
  refine ift rfl rfl ?_
  refine ce w_awake' rfl ?_
  exact rfl
 have h1 : R = C:=by omega
 have g1 : (R != C) = false:=by simpa using h1
 iterate 5 refine gt g1 ?_
 refine tf g1 ?_
 by_cases h2 : R' ≠ C'
 ·have g2 : (R' != C') = true:=by simpa using h2
  iterate 5 refine gf g2 ?_
  refine tw g2 ?_
  refine ift rfl rfl ?_
  refine ce w_awake' rfl ?_
  exact rfl
 have h2 : R' = C':=by omega
 have g2 : (R' != C') = false:=by simpa using h2
 iterate 5 refine gt g2 ?_
 refine tf g2 ?_
 by_cases h3 : R ≠ R'
 ·have g3 : (R != R') = true:=by simpa using h3
  refine ift rfl g3 ?_
  refine ce w_awake' rfl ?_
  exact rfl
 have h3 : R = R':=by omega
 have g3 : (R != R') = false:=by simpa using h3
 refine iff_ rfl g3 ?_
 subst h1 h2 h3
 obtain ⟨n,rfl⟩ : ∃ n : Nat,R = n:=⟨R.toNat,by omega⟩
 have hn4 : n ≤ 4:=by omega
 have hl : es.length = n * n:=by rw [← Int.natCast_mul] at p5; omega
 have hl' : es'.length = n * n:=by rw [← Int.natCast_mul] at q5; omega
 have wa : ∀ e ∈ es,wf W64 e.2 ∧ e.2.length ≤ 1:=fun e he=>⟨hw e he,p6 e he⟩
 have wb : ∀ e ∈ es',wf W64 e.2 ∧ e.2.length ≤ 1:=fun e he=>⟨hw' e he,q6 e he⟩
 have WA:=inA_w hl wa
 have WB:=inA_w hl' wb
 have ma : ∀ es : List (Bool × List Nat),mc 2 n n (es.map zn) = aI n n es:=fun es=>by unfold mc aI; rw [List.length_map]
 have ct:=w_table hn4 hl wa (fun i k hi hk=>inA_at hl hi hk) WA
 have cu:=w_table hn4 hl' wb (fun i k hi hk=>inA_at hl' hi hk) WB
 rw [ma] at ct cu
 have cs:=w_says (w:=[49,10,49,10,49,10,49,10,49,10,49,10]) rfl (run_law hn4 WA WB)
 rw [progL_tx] at cs
 have la:=rwsA_len n (inA n es)
 have lb:=rwsA_len n (inA n es')
 have hW:=W64_lt
 have ta : (tabL (rwsA n n (inA n es))).length ≤ 700:=tab_len (by omega) (fun r hr=>by rw [(rwsA_mem WA hr).1]; omega) fun r hr z hz=>Nat.lt_trans ((rwsA_mem WA hr).2 z hz) hW
 have tb : (tabL (rwsA n n (inA n es'))).length ≤ 700:=tab_len (by omega) (fun r hr=>by rw [(rwsA_mem WB hr).1]; omega) fun r hr z hz=>Nat.lt_trans ((rwsA_mem WB hr).2 z hz) hW
 generalize tabL (rwsA n n (inA n es)) = A at *
 generalize tabL (rwsA n n (inA n es')) = B at *
 refine rq [0,4,1,2,3,5,6,7,8] ?_
 refine ce ct rfl ?_
 refine ⟨?_,?_⟩
 ·show (tx [120,32,61,32]).size + (tx A).size ≤ _
  rw [tx_size,tx_size]; show 4 + _ ≤ _; omega
 refine ⟨?_,?_⟩
 ·show (tx [120,32,61,32] ++ tx A).size + (tx [59,32,121,32,61,32]).size ≤ _
  rw [tx_append,tx_size,tx_size,List.length_append]; show 4 + _ + 6 ≤ _; omega
 refine ce cu rfl ?_
 refine ⟨?_,?_⟩
 ·show (tx [120,32,61,32] ++ tx A ++ tx [59,32,121,32,61,32]).size + (tx B).size ≤ _
  rw [tx_append,tx_append,tx_size,tx_size,List.length_append,List.length_append]; show 4 + _ + 6 + _ ≤ _; omega
 refine ⟨?_,?_⟩
 ·show (tx [120,32,61,32] ++ tx A ++ tx [59,32,121,32,61,32] ++ tx B).size + (tx [59,32]).size ≤ _
  rw [tx_append,tx_append,tx_append,tx_size,tx_size,List.length_append,List.length_append,List.length_append]; show 4 + _ + 6 + _ + 2 ≤ _; omega
 refine ⟨?_,?_⟩
 ·refine Nat.le_trans (Nat.add_le_add (b:=3000) (d:=1000) ?_ (Nat.le_of_ble_eq_true (by kernel_rfl))) (by decide)
  show (tx [120,32,61,32] ++ tx A ++ tx [59,32,121,32,61,32] ++ tx B ++ tx [59,32]).size ≤ _
  rw [tx_append,tx_append,tx_append,tx_append,tx_size,List.length_append,List.length_append,List.length_append,List.length_append]; show 4 + _ + 6 + _ + 2 ≤ _; omega
 refine ce cs (by kernel_rfl) ?_
 exact rfl
end Go.Proofs.YtlhmaljjdpjkgaaGreatDoor
