/- The parser: what stands here. -/
import Derived.Laws.Externs
import Derived.Lib.Builder
import Derived.Test.YtlhmaljjdpjkgaaGreatDoorTaM10
import Derived.Test.YtlhmaljjdpjkgaaGreatDoorTaM17
import Derived.Test.YtlhmaljjdpjkgaaGreatDoorTaM7
import Derived.Test.YtlhmaljjdpjkgaaGreatDoorTaM3
set_option maxHeartbeats 4000000
namespace Go.Proofs.YtlhmaljjdpjkgaaGreatDoor
open Go Go.RowKit
def pB (T : List Tok) (a o : Nat) : AO:=.box 102 [.im (tkS T),ri .i64 a,ri .i64 o,ri .i64 0,rb false,ri .i64 0]
def TokB (T : List Tok) : Prop:=T.length ≤ 20000 ∧ ∀ t ∈ T,byt t.2.1 = true ∧ t.2.1.length ≤ 100000 ∧ isB t.1 t.2.1 = true
theorem tokI_len (T : List Tok) : ∀ e ∈ T.map tokI,e.length = 3:=fun e he=>by obtain ⟨q,-,rfl⟩:=List.mem_map.1 he; rfl
theorem tok_at {T : List Tok} {a : Nat} {t : Tok} (h : T[a]? = some t) : (T.map tokI)[a]? = some (tokI t):=by rw [List.getElem?_map,h]; rfl
theorem isT_at {T : List Tok} {a : Nat} {t : Tok} (h : T[a]? = some t) (s : List Nat) : isT (T.drop a) s = (!(Nat.beq t.1 1) && eqL t.2.1 s):=by
 obtain ⟨h1,h2⟩:=List.getElem?_eq_some_iff.1 h
 rw [List.drop_eq_getElem_cons h1,h2]; rfl
theorem isT_end {T : List Tok} {a : Nat} (h : T.length ≤ a) (s : List Nat) : isT (T.drop a) s = false:=by rw [List.drop_eq_nil_of_le h]; rfl
theorem beq1 (k : Nat) : ((k : Int) != 1) = !(Nat.beq k 1):=by
 by_cases h : k = 1
 ·subst h; rfl
 ·have : Nat.beq k 1 = false:=Bool.eq_false_iff.2 fun e=>h (Nat.eq_of_beq_eq_true e)
  rw [this]; simp; omega
theorem p_is {T : List Tok} {a o : Nat} {s : List Nat} (hT : TokB T) (hs : byt s = true) : Ec Tryz.prog 121 (own 1) [pB T a o] [.ref 0 0,.im (ts s)] (Is (rb (isT (T.drop a) s)) [pB T a o]):=by
 refine ec Tryz.func121 ?_
 refine rq [0,1,2,3,4,5,6,7,8,9,10,11,12,13,14,15,16,17,18,19,20,21,22,23,24,25,26,27,28,29,30,31,32,33,34,35,36,37,38,39,40,41,42,43,44,45,46] ?_
 iterate 10 refine gt rfl ?_
 refine tw rfl ?_
 by_cases ha : a < T.length
 ·obtain ⟨t,ht⟩ : ∃ t,T[a]? = some t:=⟨_,List.getElem?_eq_getElem ha⟩
  have hbt:=hT.2 t (List.mem_of_getElem? ht)
  have g : decide ((a : Int) < (T.length : Int)) = true:=decide_eq_true (by omega)
  have e2 : ((tx t.2.1).toList == (tx s).toList) = eqL t.2.1 s:=tx_beq hbt.1 hs
  rw [isT_at ht]
  iterate 9 refine gt g ?_
  refine gm (tokI_len T) a ⟨by omega,by omega⟩ (tok_at ht) (by rw [Int.toNat_natCast]) fun l=>?_
  iterate 3 refine gt g ?_
  refine tw g ?_
  have e1:=beq1 t.1
  cases hk : Nat.beq t.1 1 with
  | true=>
   rw [hk] at e1
   iterate 13 refine gf e1 ?_
   refine tf e1 ?_
   exact fin0 ⟨rfl,rfl⟩
  | false=>
   rw [hk] at e1
   iterate 9 refine gt e1 ?_
   refine gm (tokI_len T) a ⟨by omega,by omega⟩ (tok_at ht) (by rw [Int.toNat_natCast]) fun l=>?_
   iterate 4 refine gt e1 ?_
   refine tw e1 ?_
   exact fin0 ⟨congrArg rb e2,rfl⟩
 ·have g : decide ((a : Int) < (T.length : Int)) = false:=decide_eq_false (by omega)
  rw [isT_end (by omega)]
  iterate 12 refine gf g ?_
  refine tf g ?_
  repeat (first|refine gt rfl ?_|refine gf rfl ?_|refine tw rfl ?_|refine tf rfl ?_)
  exact fin0 ⟨rfl,rfl⟩
theorem isT_lt {T : List Tok} {a : Nat} {s : List Nat} (h : isT (T.drop a) s = true) : a < T.length:=by
 rcases Nat.lt_or_ge a T.length with g | g
 ·exact g
 ·rw [isT_end g] at h; cases h
theorem p_take {T : List Tok} {a o : Nat} {s : List Nat} (hT : TokB T) (hs : byt s = true) : Ec Tryz.prog 76 (own 1) [pB T a o] [.ref 0 0,.im (ts s)] (Is (rb (isT (T.drop a) s)) [pB T (if isT (T.drop a) s = true then a + 1 else a) o]):=by
 refine ec Tryz.func76 ?_
 refine cxe 1 (p_is hT hs) rfl rfl rfl (.inl rfl) ?_
 cases h : isT (T.drop a) s with
 | true=>
  have ha:=isT_lt h
  have hl:=hT.1
  refine iff_ rfl rfl ?_
  refine fin0 ⟨rfl,?_⟩
  exact congrArg (fun z=>([AO.box 102 [.im (tkS T),ri .i64 z,ri .i64 o,ri .i64 0,rb false,ri .i64 0]] : List AO)) (i64s (by omega)).symm
 | false=>
  refine ift rfl rfl ?_
  exact fin0 ⟨rfl,rfl⟩
theorem p_yes {T : List Tok} {a o : Nat} {s : List Nat} (hT : TokB T) (hs : byt s = true) (h : isT (T.drop a) s = true) : Ec Tryz.prog 76 (own 1) [pB T a o] [.ref 0 0,.im (ts s)] (Is (rb true) [pB T (a + 1) o]):=by
 have:=p_take (T:=T) (a:=a) (o:=o) hT hs; rwa [h,if_pos rfl] at this
theorem p_no {T : List Tok} {a o : Nat} {s : List Nat} (hT : TokB T) (hs : byt s = true) (h : isT (T.drop a) s = false) : Ec Tryz.prog 76 (own 1) [pB T a o] [.ref 0 0,.im (ts s)] (Is (rb false) [pB T a o]):=by
 have:=p_take (T:=T) (a:=a) (o:=o) hT hs; rwa [h,if_neg (by decide)] at this
theorem p_must {T : List Tok} {a o : Nat} {s : List Nat} (hT : TokB T) (hs : byt s = true) (h : isT (T.drop a) s = true) : Ec Tryz.prog 80 (own 1) [pB T a o] [.ref 0 0,.im (ts s)] (Is (.tup []) [pB T (a + 1) o]):=by
 refine ec Tryz.func80 ?_
 refine cxe 1 (p_yes hT hs h) rfl rfl rfl (.inl rfl) ?_
 refine iff_ rfl rfl ?_
 exact fin0 ⟨rfl,rfl⟩
theorem p_enter {T : List Tok} {a o : Nat} (ho : o < 600) : Ec Tryz.prog 162 (own 1) [pB T a o] [.ref 0 0] (Is (rb true) [pB T a (o + 1)]):=by
 have w : IntKind.i64.wrap ((o : Int) + 1) = ((o + 1 : Nat) : Int):=(i64s (by omega)).symm
 refine ec Tryz.func162 ?_
 refine iff_ rfl (by rw [w]; exact decide_eq_false (by omega)) ?_
 refine fin0 ⟨rfl,?_⟩
 exact congrArg (fun z=>([AO.box 102 [.im (tkS T),ri .i64 a,ri .i64 z,ri .i64 0,rb false,ri .i64 0]] : List AO)) w
theorem p_own {t : List Nat} (hb : byt t = true) : Pc Tryz.prog 126 [ts t] (· = .raw (.bool (ownB t))):=by
 have e1 : ((tx t).toList == (tx [105,102]).toList) = eqL t [105,102]:=tx_beq hb rfl
 have e2 : ((tx t).toList == (tx [101,108,115,101]).toList) = eqL t [101,108,115,101]:=tx_beq hb rfl
 have e3 : ((tx t).toList == (tx [102,111,114]).toList) = eqL t [102,111,114]:=tx_beq hb rfl
 refine pc Tryz.func126 ?_
 unfold ownB
 cases h1 : eqL t [105,102] with
 | true=>
  rw [h1] at e1
  iterate 2 refine gf (want:=false) e1 ?_
  refine tw e1 ?_
  repeat (first|refine gt rfl ?_|refine gf rfl ?_|refine tw rfl ?_|refine tf rfl ?_)
  exact rfl
 | false=>
 rw [h1] at e1
 iterate 2 refine gt e1 ?_
 refine tf e1 ?_
 cases h2 : eqL t [101,108,115,101] with
 | true=>
  rw [h2] at e2
  iterate 2 refine gf (want:=false) e2 ?_
  refine tw e2 ?_
  exact rfl
 | false=>
 rw [h2] at e2
 iterate 2 refine gt e2 ?_
 refine tf e2 ?_
 exact congrArg (fun b=>IV.raw (.bool b)) e3
def ndOp : Nde → Nat
 | .mk op _ _=>op
def ndTx : Nde → List Nat
 | .mk _ t _=>t
def ndKs : Nde → List Nde
 | .mk _ _ ks=>ks
def kI (n : Nat) (cs : List IV) : IV:=match n with
 | 0=>nilI
 | _=>.sl n 3 cs
mutual
def nkI : Nde → IV
 | .mk _ _ ks=>kI ks.length (ndL ks)
def ndL : List Nde → List IV
 | []=>[]
 | n :: l=>.raw (.int .i64 (ndOp n : Nat)) :: ts (ndTx n) :: nkI n :: ndL l
end
def ndC (n : Nde) : List IV:=[.raw (.int .i64 (ndOp n : Nat)),ts (ndTx n),nkI n]
def ndA (n : Nde) : AV:=.agg [.im (.raw (.int .i64 (ndOp n : Nat))),.im (ts (ndTx n)),.im (nkI n)]
theorem ndL_append : ∀ (l r : List Nde),ndL (l ++ r) = ndL l ++ ndL r
 | [],_=>rfl
 | n :: l,r=>by rw [List.cons_append,ndL,ndL_append l r]; rw [ndL]; rfl
def Gx (T : List Tok) (F : Nat) (M : Ps) (dd : Nat) : Prop:=∀ (a o : Nat) (n : Nde) (r : List Tok),M (T.drop a) = some (n,r) → o + dd ≤ 600 → ∃ a',r = T.drop a' ∧ a < a' ∧ a' ≤ T.length ∧ Ec Tryz.prog F (own 1) [pB T a o] [.ref 0 0] (Is (ndA n) [pB T a' o])
theorem Gx.mono {T : List Tok} {F : Nat} {M : Ps} {dd d2 : Nat} (h : Gx T F M dd) (hd : dd ≤ d2) : Gx T F M d2:=fun a o n r hm ho=>h a o n r hm (by omega)
theorem isT_tail {T : List Tok} {a : Nat} : (T.drop a).tail = T.drop (a + 1):=by rw [List.tail_drop]
theorem drop_inj {T : List Tok} {a b : Nat} (ha : a ≤ T.length) (hb : b ≤ T.length) (h : T.drop a = T.drop b) : a = b:=by
 have:=congrArg List.length h; simp at this; omega
theorem p_chain {T : List Tok} {S : Nat} {M : Ps} {dd : Nat} {A B : List Nat} {x y : Nat} (hT : TokB T) (hA : byt A = true) (hB : byt B = true) (hS : Gx T S M dd) {a o : Nat} {n : Nde} {r : List Tok} (h : cnM M A x B y (T.drop a) = some (n,r)) (ho : o + dd ≤ 600) :
  ∃ a',r = T.drop a' ∧ a < a' ∧ a' ≤ T.length ∧ Ec Tryz.prog 160 (own 1) [pB T a o] [.ref 0 0,.fn S [.ref 0 0] [],.im (ts A),ri .i64 x,.im (ts B),ri .i64 y] (Is (ndA n) [pB T a' o]):=by
 unfold cnM at h
 split at h
 ·cases h
 ·rename_i n0 r0 h0
  obtain ⟨a0,rfl,l0,l1,c0⟩:=hS a o n0 r0 h0 ho
  -- where the chain ends
  have key : ∀ (g : Nat) (a : Nat) (m : Nde),a ≤ T.length → chM M A x B y g m (T.drop a) = some (n,r) → ∃ a',r = T.drop a' ∧ a ≤ a' ∧ a' ≤ T.length:=by
   intro g
   induction g with
   | zero=>intro a m _ h; cases h
   | succ g ih=>
    intro a m ha h
    rw [chM] at h
    split at h
    ·split at h
     ·cases h
     ·rename_i m' r' h'
      rw [isT_tail] at h'
      obtain ⟨a1,rfl,k1,k2,-⟩:=hS (a + 1) o m' r' h' ho
      obtain ⟨a2,e,k3,k4⟩:=ih a1 _ k2 h
      exact ⟨a2,e,by omega,k4⟩
    ·split at h
     ·split at h
      ·cases h
      ·rename_i m' r' h'
       rw [isT_tail] at h'
       obtain ⟨a1,rfl,k1,k2,-⟩:=hS (a + 1) o m' r' h' ho
       obtain ⟨a2,e,k3,k4⟩:=ih a1 _ k2 h
       exact ⟨a2,e,by omega,k4⟩
     ·cases h; exact ⟨a,rfl,Nat.le_refl _,ha⟩
  obtain ⟨a',rfl,k1,k2⟩:=key _ a0 n0 l1 h
  refine ⟨a',rfl,by omega,k2,?_⟩
  refine ec Tryz.func160 ?_
  refine cxe 1 c0 rfl rfl rfl (.inl rfl) ?_
  refine lpt3 (fun (g : Nat) (b : Nat) (m : Nde)=>b ≤ T.length ∧ chM M A x B y g m (T.drop b) = some (n,T.drop a')) (fun _ _ _=>[(0,.ref 0 0),(1,.fn S [.ref 0 0] []),(2,.im (ts A)),(3,ri .i64 x),(4,.im (ts B)),(5,ri .i64 y),(12,.ref 1 0),(13,.ref 2 0)])
   (fun _ b m=>[pB T b o,.box 104 [ri .i64 0,.im (ts []),.im nilI],.box 104 [.im (.raw (.int .i64 (ndOp m : Nat))),.im (ts (ndTx m)),.im (nkI m)]]) (fun g _ _=>g) _ a0 n0 ⟨l1,h⟩ (tsr rfl) rfl ?_
  rintro g b m t ⟨hb,hc⟩
  cases g with
  | zero=>cases hc
  | succ g=>
   rw [chM] at hc
   cases hA2 : isT (T.drop b) A with
   | true=>
    rw [if_pos hA2] at hc
    split at hc
    ·cases hc
    ·rename_i m' r' h'
     rw [isT_tail] at h'
     obtain ⟨b1,rfl,j1,j2,c1⟩:=hS (b + 1) o m' r' h' ho
     refine cxe 1 (p_yes hT hA hA2) rfl rfl rfl (.inl rfl) ?_
     refine ift rfl rfl ?_
     refine rqa [0,1,2,3,4,5,6] [(0,[0],some []),(1,[0],some []),(2,[0],some []),(3,[],some [0])] ?_
     refine cxe 1 c1 rfl rfl rfl (.inl rfl) ?_
     exact nxg3 [0,1,2] g b1 (.mk x [] [m,m']) (Nat.lt_succ_self g) rfl ⟨j2,hc⟩ ⟨rfl,rfl,rfl,rfl,rfl,rfl,rfl,rfl,trivial⟩ rfl
   | false=>
    rw [hA2,if_neg (by decide)] at hc
    refine cxe 1 (p_no hT hA hA2) rfl rfl rfl (.inl rfl) ?_
    refine iff_ rfl rfl ?_
    cases hB2 : isT (T.drop b) B with
    | true=>
     rw [if_pos hB2] at hc
     split at hc
     ·cases hc
     ·rename_i m' r' h'
      rw [isT_tail] at h'
      obtain ⟨b1,rfl,j1,j2,c1⟩:=hS (b + 1) o m' r' h' ho
      refine cxe 1 (p_yes hT hB hB2) rfl rfl rfl (.inl rfl) ?_
      refine ift rfl rfl ?_
      refine rqa [0,1,2,3,4,5,6] [(0,[0],some []),(1,[0],some []),(2,[0],some []),(3,[],some [0])] ?_
      refine cxe 1 c1 rfl rfl rfl (.inl rfl) ?_
      exact nxg3 [0,1,2] g b1 (.mk y [] [m,m']) (Nat.lt_succ_self g) rfl ⟨j2,hc⟩ ⟨rfl,rfl,rfl,rfl,rfl,rfl,rfl,rfl,trivial⟩ rfl
    | false=>
     rw [hB2,if_neg (by decide)] at hc
     obtain ⟨rfl,e⟩:=Prod.mk.inj (Option.some.inj hc)
     obtain rfl:=drop_inj hb k2 e
     refine cxe 1 (p_no hT hB hB2) rfl rfl rfl (.inl rfl) ?_
     refine iff_ rfl rfl ?_
     exact fin [0] rfl ⟨rfl,rfl⟩
theorem p_product {T : List Tok} {M : Ps} {dd : Nat} (hT : TokB T) (hS : Gx T 190 M dd) : Gx T 161 (cnM M [42] 6 [47] 7) dd:=by
 intro a o n r h ho
 obtain ⟨a',e,l1,l2,c⟩:=p_chain hT rfl rfl hS h ho
 refine ⟨a',e,l1,l2,?_⟩
 refine ec Tryz.func161 ?_
 refine cxe 1 c rfl rfl rfl (.inl rfl) ?_
 exact fin [0] rfl ⟨rfl,rfl⟩
theorem p_sum {T : List Tok} {M : Ps} {dd : Nat} (hT : TokB T) (hS : Gx T 161 M dd) : Gx T 122 (cnM M [43] 4 [45] 5) dd:=by
 intro a o n r h ho
 obtain ⟨a',e,l1,l2,c⟩:=p_chain hT rfl rfl hS h ho
 refine ⟨a',e,l1,l2,?_⟩
 refine ec Tryz.func122 ?_
 refine cxe 1 c rfl rfl rfl (.inl rfl) ?_
 exact fin [0] rfl ⟨rfl,rfl⟩
theorem p_expr {T : List Tok} {M : Ps} {dd : Nat} (hT : TokB T) (hS : Gx T 122 M dd) : Gx T 77 (exM M) dd:=by
 intro a o n r h ho
 unfold exM at h
 split at h
 ·cases h
 ·rename_i n0 r0 h0
  obtain ⟨a0,rfl,l0,l1,c0⟩:=hS a o n0 r0 h0 ho
  have two : ∀ (k : Nat) (s : List Nat),isT (T.drop a0) s = true → ((M (T.drop a0).tail).map fun p=>(Nde.mk k [] [n0,p.1],p.2)) = some (n,r) → ∃ m a',r = T.drop a' ∧ a < a' ∧ a' ≤ T.length ∧ n = .mk k [] [n0,m] ∧ Ec Tryz.prog 122 (own 1) [pB T (a0 + 1) o] [.ref 0 0] (Is (ndA m) [pB T a' o]):=by
   intro k s hs hm
   rw [Option.map_eq_some_iff] at hm
   obtain ⟨⟨m,r1⟩,h1,h2⟩:=hm
   rw [isT_tail] at h1
   obtain ⟨a1,rfl,j1,j2,c1⟩:=hS (a0 + 1) o m r1 h1 ho
   cases h2
   exact ⟨m,a1,rfl,by omega,j2,rfl,c1⟩
  have b0 : byt [61,61] = true:=rfl
  have b1 : byt [33,61] = true:=rfl
  have b2 : byt [60] = true:=rfl
  have b3 : byt [60,61] = true:=rfl
  cases e0 : isT (T.drop a0) [61,61] with
  | true=>
   rw [if_pos e0] at h
   obtain ⟨m,a',rfl,q1,q2,rfl,c1⟩:=two 9 _ e0 h
   refine ⟨a',rfl,q1,q2,?_⟩
   refine ec Tryz.func77 ?_
   refine cxe 1 c0 rfl rfl rfl (.inl rfl) ?_
   refine lpn 1 ?_
   refine ift rfl rfl ?_
   refine ⟨by decide,?_⟩
   rintro _ rfl
   refine cxe 1 (p_yes hT b0 e0) rfl rfl rfl (.inl rfl) ?_
   refine ift rfl rfl ?_
   refine rqa [0,1,2,3,4,5,6,7] [(0,[0],some []),(1,[0],some []),(2,[0],some []),(3,[0],some []),(4,[],some [0])] ?_
   refine cxe 1 c1 rfl rfl rfl (.inl rfl) ?_
   exact fin [0] rfl ⟨rfl,rfl⟩
  | false=>
  rw [e0,if_neg (by decide)] at h
  cases e1 : isT (T.drop a0) [33,61] with
  | true=>
   rw [if_pos e1] at h
   obtain ⟨m,a',rfl,q1,q2,rfl,c1⟩:=two 10 _ e1 h
   refine ⟨a',rfl,q1,q2,?_⟩
   refine ec Tryz.func77 ?_
   refine cxe 1 c0 rfl rfl rfl (.inl rfl) ?_
   refine lpn 2 ?_
   refine ift rfl rfl ?_
   refine ⟨by decide,?_⟩
   rintro _ rfl
   refine cxe 1 (p_no hT b0 e0) rfl rfl rfl (.inl rfl) ?_
   refine iff_ rfl rfl ?_
   refine ift rfl rfl ?_
   refine ⟨by decide,?_⟩
   rintro _ rfl
   refine cxe 1 (p_yes hT b1 e1) rfl rfl rfl (.inl rfl) ?_
   refine ift rfl rfl ?_
   refine rqa [0,1,2,3,4,5,6,7] [(0,[0],some []),(1,[0],some []),(2,[0],some []),(3,[0],some []),(4,[],some [0])] ?_
   refine cxe 1 c1 rfl rfl rfl (.inl rfl) ?_
   exact fin [0] rfl ⟨rfl,rfl⟩
  | false=>
  rw [e1,if_neg (by decide)] at h
  cases e2 : isT (T.drop a0) [60] with
  | true=>
   rw [if_pos e2] at h
   obtain ⟨m,a',rfl,q1,q2,rfl,c1⟩:=two 11 _ e2 h
   refine ⟨a',rfl,q1,q2,?_⟩
   refine ec Tryz.func77 ?_
   refine cxe 1 c0 rfl rfl rfl (.inl rfl) ?_
   refine lpn 3 ?_
   refine ift rfl rfl ?_
   refine ⟨by decide,?_⟩
   rintro _ rfl
   refine cxe 1 (p_no hT b0 e0) rfl rfl rfl (.inl rfl) ?_
   refine iff_ rfl rfl ?_
   refine ift rfl rfl ?_
   refine ⟨by decide,?_⟩
   rintro _ rfl
   refine cxe 1 (p_no hT b1 e1) rfl rfl rfl (.inl rfl) ?_
   refine iff_ rfl rfl ?_
   refine ift rfl rfl ?_
   refine ⟨by decide,?_⟩
   rintro _ rfl
   refine cxe 1 (p_yes hT b2 e2) rfl rfl rfl (.inl rfl) ?_
   refine ift rfl rfl ?_
   refine rqa [0,1,2,3,4,5,6,7] [(0,[0],some []),(1,[0],some []),(2,[0],some []),(3,[0],some []),(4,[],some [0])] ?_
   refine cxe 1 c1 rfl rfl rfl (.inl rfl) ?_
   exact fin [0] rfl ⟨rfl,rfl⟩
  | false=>
  rw [e2,if_neg (by decide)] at h
  cases e3 : isT (T.drop a0) [60,61] with
  | true=>
   rw [if_pos e3] at h
   obtain ⟨m,a',rfl,q1,q2,rfl,c1⟩:=two 12 _ e3 h
   refine ⟨a',rfl,q1,q2,?_⟩
   refine ec Tryz.func77 ?_
   refine cxe 1 c0 rfl rfl rfl (.inl rfl) ?_
   refine lpn 4 ?_
   refine ift rfl rfl ?_
   refine ⟨by decide,?_⟩
   rintro _ rfl
   refine cxe 1 (p_no hT b0 e0) rfl rfl rfl (.inl rfl) ?_
   refine iff_ rfl rfl ?_
   refine ift rfl rfl ?_
   refine ⟨by decide,?_⟩
   rintro _ rfl
   refine cxe 1 (p_no hT b1 e1) rfl rfl rfl (.inl rfl) ?_
   refine iff_ rfl rfl ?_
   refine ift rfl rfl ?_
   refine ⟨by decide,?_⟩
   rintro _ rfl
   refine cxe 1 (p_no hT b2 e2) rfl rfl rfl (.inl rfl) ?_
   refine iff_ rfl rfl ?_
   refine ift rfl rfl ?_
   refine ⟨by decide,?_⟩
   rintro _ rfl
   refine cxe 1 (p_yes hT b3 e3) rfl rfl rfl (.inl rfl) ?_
   refine ift rfl rfl ?_
   refine rqa [0,1,2,3,4,5,6,7] [(0,[0],some []),(1,[0],some []),(2,[0],some []),(3,[0],some []),(4,[],some [0])] ?_
   refine cxe 1 c1 rfl rfl rfl (.inl rfl) ?_
   exact fin [0] rfl ⟨rfl,rfl⟩
  | false=>
  rw [e3,if_neg (by decide)] at h
  obtain ⟨rfl,rfl⟩:=Prod.mk.inj (Option.some.inj h)
  refine ⟨a0,rfl,l0,l1,?_⟩
  refine ec Tryz.func77 ?_
  refine cxe 1 c0 rfl rfl rfl (.inl rfl) ?_
  refine lpn 5 ?_
  refine ift rfl rfl ?_
  refine ⟨by decide,?_⟩
  rintro _ rfl
  refine cxe 1 (p_no hT b0 e0) rfl rfl rfl (.inl rfl) ?_
  refine iff_ rfl rfl ?_
  refine ift rfl rfl ?_
  refine ⟨by decide,?_⟩
  rintro _ rfl
  refine cxe 1 (p_no hT b1 e1) rfl rfl rfl (.inl rfl) ?_
  refine iff_ rfl rfl ?_
  refine ift rfl rfl ?_
  refine ⟨by decide,?_⟩
  rintro _ rfl
  refine cxe 1 (p_no hT b2 e2) rfl rfl rfl (.inl rfl) ?_
  refine iff_ rfl rfl ?_
  refine ift rfl rfl ?_
  refine ⟨by decide,?_⟩
  rintro _ rfl
  refine cxe 1 (p_no hT b3 e3) rfl rfl rfl (.inl rfl) ?_
  refine iff_ rfl rfl ?_
  refine iff_ rfl rfl ?_
  exact fin [0] rfl ⟨rfl,rfl⟩
end Go.Proofs.YtlhmaljjdpjkgaaGreatDoor
namespace Go.Proofs.YtlhmaljjdpjkgaaGreatDoor
open Go Go.RowKit Go.Proofs
set_option maxRecDepth 100000 in
theorem b_raw (g : Nat) (w : World) (vs : List Value) (hg : w.heap[g]? = some (.cells vs.toArray 70 (0,0))) (hl : vs.length = 21) (h3 : vs[3]? = some (.pointer none)) :
  Calls Tryz.prog 152 #[.pointer (some ⟨g,3,none⟩)] w fun e w'=>e = .returned (.tuple #[]) ∧ w' = w.setCell ⟨g,3,none⟩ (.pointer (some ⟨g,3,none⟩)):=by
 have h0 : w.cell? ⟨g,3,none⟩ = some (.pointer none):=by simp [World.cell?,hg,h3]
 have hsh : w.shape? g = some (70,21):=by simp [World.shape?,hg,hl]
 have hfz : w.frozen? ⟨g,3,none⟩ = false:=by simp [World.frozen?,hg]
 obtain ⟨j,hj,hjs⟩ : ∃ j,Tryz.prog.info? 68 = some j ∧ j.size ≠ 0:=⟨_,rfl,by decide⟩
 go_enter Tryz.func152,Tryz.ntmps152
 go_wp2
 rw [Lib.run_to_unsafe w ⟨g,3,none⟩ (by kernel_rfl) (by kernel_rfl) hj hjs hsh (by show 3 < 21; omega)]
 simp only [Result.andThen]
 rw [Oper.upon_value]
 go_wp2
 rw [run_callFunc_extern (e:=Extern.AbiNoEscape.same) Tryz.func185 (by kernel_rfl) (by kernel_rfl) (by kernel_rfl) (by kernel_rfl)]
 rw [Lib.run_noEscape]
 simp only [Result.andThen]
 rw [Oper.upon_value]
 go_wp2
 rw [Lib.run_from_unsafe w ⟨g,3,none⟩ (by kernel_rfl) (by kernel_rfl) hj hsh (by kernel_rfl)]
 simp only [Result.andThen]
 rw [Oper.upon_value]
 go_wp2
 go_end0
 exact ⟨rfl,rfl⟩
theorem b_new {R : Nat → Bool} {cs : List AV} {rest : List AO} (hl : cs.length = 21) (h3 : cs[3]? = some (.im (.raw (.pointer none)))) :
  Ec Tryz.prog 152 R (.box 70 cs :: rest) [.ref 0 3] (Is (.tup []) (.box 70 (cs.set 3 (.ref 0 3)) :: rest)):=by
 refine ⟨ent_of Tryz.func152 (by kernel_rfl),fun B w μ vs lies hc=>?_⟩
 obtain ⟨u,hu⟩ : ∃ u,μ[0]? = some u:=⟨_,List.getElem?_eq_getElem (by rw [lies.len]; simp)⟩
 obtain ⟨g,us,rfl,h1,h2,h4⟩:=lies.obj 0 _ u rfl hu
 have hul : us.length = 21:=h2.1.trans hl
 obtain ⟨v,hv⟩ : ∃ v,us[3]? = some v:=⟨_,List.getElem?_eq_getElem (by omega)⟩
 have hv3 : v = .pointer none:=by
  have:=h2.2 3 _ v h3 hv
  cases this with
  | im h=>cases h; rfl
 subst hv3
 obtain ⟨a,rfl⟩ : ∃ a,vs = [a]:=List.length_eq_one_iff.1 hc.1
 have ha : a = .pointer (some ⟨g,3,none⟩):=by
  have:=hc.2 0 _ a rfl rfl
  cases this with
  | ref h hb=>rw [hu] at h; cases h; simp [blk] at hb; subst hb; rfl
 subst ha
 refine (b_raw g w us h1 hul hv).mono ?_
 rintro e w' ⟨rfl,rfl⟩
 have st : St 0 (Own' μ (.box 70 cs :: rest)) B w μ R μ (fun _=>.im .any) (.box 70 cs :: rest) { tmps:=#[],defers:=[] } w:=
  ⟨rfl,rfl,fun j=>.im (.any _),lies,Kept.refl _ _,fun b hb=>.inl hb,fun i u _ h=>h⟩
 have hk : Kept (fun b=>b = g) w (w.setCell ⟨g,3,none⟩ (.pointer (some ⟨g,3,none⟩))):=
  ⟨rfl,rfl,rfl,by simp [World.setCell],fun k _ hn=>by simp only [World.setCell]; rw [Array.getElem?_modify,if_neg (fun e=>hn e.symm)]⟩
 have hM : Mut μ B (.box 70 cs :: rest) g:=.inr ⟨0,_,_,rfl,rfl,hu,rfl⟩
 have h5 : LieO μ (Mut μ B (.box 70 cs :: rest)) (w.setCell ⟨g,3,none⟩ (.pointer (some ⟨g,3,none⟩))) (.pointer (some ⟨g,0,none⟩)) (.box 70 (cs.set 3 (.ref 0 3))):=by
  refine ⟨g,us.set 3 (.pointer (some ⟨g,3,none⟩)),rfl,?_,⟨by simp [h2.1],?_⟩,?_⟩
  ·simp [World.setCell,Array.getElem?_modify,h1]
  ·intro j x v hx hv
   by_cases hj : 3 = j
   ·subst hj
    rw [List.getElem?_set_self (by omega)] at hx hv
    cases hx; cases hv
    exact .ref hu rfl
   ·rw [List.getElem?_set_ne hj] at hx hv
    exact (h2.2 j x v hx hv).keep (fun _ _ h=>h) (mut_keep hM hk)
  ·intro v hv
   rcases List.mem_or_eq_of_mem_set hv with h | rfl
   ·exact h4 v h
   ·rfl
 have s2:=st.upd (o':=.box 70 (cs.set 3 (.ref 0 3))) rfl hu rfl rfl rfl hk h5
 exact ⟨μ,_,_,_,rfl,⟨rfl,rfl⟩,s2.lies,.tup (vs:=[]) rfl (fun j x v a b=>by cases b),s2.kept,s2.new,s2.fix⟩
end Go.Proofs.YtlhmaljjdpjkgaaGreatDoor
namespace Go.Proofs.YtlhmaljjdpjkgaaGreatDoor
open Go Go.RowKit
structure V15 where
 (c0 c1 c2 c3 c4 c5 c6 c7 c8 c9 c10 c11 c12 c13 c14 : IV)
def V15.l (v : V15) : List IV:=[v.c0,v.c1,v.c2,v.c3,v.c4,v.c5,v.c6,v.c7,v.c8,v.c9,v.c10,v.c11,v.c12,v.c13,v.c14]
def V15.i (v : V15) : IV:=.agg [v.c0,v.c1,v.c2,v.c3,v.c4,v.c5,v.c6,v.c7,v.c8,v.c9,v.c10,v.c11,v.c12,v.c13,v.c14]
def V15.a (v : V15) : AV:=.agg [.im v.c0,.im v.c1,.im v.c2,.im v.c3,.im v.c4,.im v.c5,.im v.c6,.im v.c7,.im v.c8,.im v.c9,.im v.c10,.im v.c11,.im v.c12,.im v.c13,.im v.c14]
noncomputable def nV (q : Rat) : V15:=⟨.raw (.int .i64 1),.raw (.bool (decide (q.num < 0))),na q.num.natAbs,.raw (.bool (decide ((q.den : Int) < 0))),na (q.den : Int).natAbs,.raw (.int .i64 0),.raw (.int .i64 0),nilI,nilI,.raw (.int .u64 0),.raw (.int .i64 0),.raw (.int .i64 0),nilI,nilI,nilI⟩
noncomputable def mV (r c : Nat) (A : Nat → Nat → Rat) : V15:=⟨.raw (.int .i64 2),.raw (.bool false),nilI,.raw (.bool false),nilI,.raw (.int .i64 r),.raw (.int .i64 c),.sl ((tq c A (r * c)).map qc).length 4 ((tq c A (r * c)).map qc).flatten,nilI,.raw (.int .u64 0),.raw (.int .i64 0),.raw (.int .i64 0),nilI,nilI,nilI⟩
inductive Ms where
 | a
 | b (x : V15)
 | c (x y : V15)
 | d (x y : V15) (tl : List Nat) (tq : Rat)
 | e (tl : List Nat) (tq : Rat)
noncomputable def MX (fu : AV) : Ms → List AO
 | .a=>[.box 70 [fu,ri .i64 1000000,.own 1,.im (.raw (.pointer none)),nilA,ri .i64 0,rb false,nilA,rb false,nilA,ri .i64 0,ri .i64 0,nilA,nilA,ri .u64 0,ri .i64 0,ri .i64 0,nilA,nilA,nilA,ri .i64 0],.mp []]
 | .b x=>[.box 70 [fu,ri .i64 1000000,.own 1,.im (.raw (.pointer none)),nilA,ri .i64 0,rb false,nilA,rb false,nilA,ri .i64 0,ri .i64 0,nilA,nilA,ri .u64 0,ri .i64 0,ri .i64 0,nilA,nilA,nilA,ri .i64 0],.mp [(tx [120],x.a)]]
 | .c x y=>[.box 70 [fu,ri .i64 1000000,.own 1,.im (.raw (.pointer none)),nilA,ri .i64 0,rb false,nilA,rb false,nilA,ri .i64 0,ri .i64 0,nilA,nilA,ri .u64 0,ri .i64 0,ri .i64 0,nilA,nilA,nilA,ri .i64 0],.mp [(tx [120],x.a),(tx [121],y.a)]]
 | .d x y tl q=>[.box 70 [fu,ri .i64 1000000,.own 1,.ref 0 3,.own 2,.im (.raw (.int .i64 1)),.im (.raw (.bool (decide (q.num < 0)))),.im (na q.num.natAbs),.im (.raw (.bool (decide ((q.den : Int) < 0)))),.im (na (q.den : Int).natAbs),ri .i64 0,ri .i64 0,nilA,nilA,ri .u64 0,ri .i64 0,ri .i64 0,nilA,nilA,nilA,ri .i64 0],.mp [(tx [120],x.a),(tx [121],y.a)],.row 5 1 tl.length (bs tl)]
 | .e tl q=>[.box 70 [fu,ri .i64 1000000,.own 1,.ref 0 3,.own 2,.im (.raw (.int .i64 1)),.im (.raw (.bool (decide (q.num < 0)))),.im (na q.num.natAbs),.im (.raw (.bool (decide ((q.den : Int) < 0)))),.im (na (q.den : Int).natAbs),ri .i64 0,ri .i64 0,nilA,nilA,ri .u64 0,ri .i64 0,ri .i64 0,nilA,nilA,nilA,ri .i64 0],.mp [],.row 5 1 tl.length (bs tl)]
noncomputable def MH (F : Nat) (s : Ms) : List AO:=MX (ri .i64 F) s
def MR : Ms → Nat → Bool
 | .d _ _ _ _=>own 3
 | .e _ _=>own 3
 | _=>own 2
theorem m_take {F n : Nat} {s : Ms} (h : n ≤ F) (hF : F ≤ 1000000) : Ec Tryz.prog 82 (MR s) (MH F s) [.ref 0 0,ri .i64 n] (Is (rb true) (MH (F - n) s)):=by
 have g : decide ((n : Int) > (F : Int)) = false:=decide_eq_false (by omega)
 have w : IntKind.i64.wrap ((F : Int) - (n : Int)) = ((F - n : Nat) : Int):=i64n (by omega) (by omega)
 cases s with
 | a=>
  refine ec Tryz.func82 ?_
  refine ift rfl rfl ?_
  refine iff_ rfl g ?_
  exact fin0 ⟨rfl,congrArg (fun z=>MX (ri .i64 z) .a) w⟩
 | b x=>
  refine ec Tryz.func82 ?_
  refine ift rfl rfl ?_
  refine iff_ rfl g ?_
  exact fin0 ⟨rfl,congrArg (fun z=>MX (ri .i64 z) (.b x)) w⟩
 | c x y=>
  refine ec Tryz.func82 ?_
  refine ift rfl rfl ?_
  refine iff_ rfl g ?_
  exact fin0 ⟨rfl,congrArg (fun z=>MX (ri .i64 z) (.c x y)) w⟩
 | d x y tl tq=>
  refine ec Tryz.func82 ?_
  refine ift rfl rfl ?_
  refine iff_ rfl g ?_
  exact fin0 ⟨rfl,congrArg (fun z=>MX (ri .i64 z) (.d x y tl tq)) w⟩
 | e tl tq=>
  refine ec Tryz.func82 ?_
  refine ift rfl rfl ?_
  refine iff_ rfl g ?_
  exact fin0 ⟨rfl,congrArg (fun z=>MX (ri .i64 z) (.e tl tq)) w⟩
theorem m_nestedN {q : Rat} : Pc Tryz.prog 166 [VN q] (· = .raw (.int .i64 0)):=by
 refine pc Tryz.func166 ?_
 refine ift rfl rfl ?_
 exact rfl
theorem m_nestedM {r c : Nat} {A : Nat → Nat → Rat} : Pc Tryz.prog 166 [VM r c A] (· = .raw (.int .i64 0)):=by
 refine pc Tryz.func166 ?_
 refine ift rfl rfl ?_
 exact rfl
theorem m_sizeN {q : Rat} : Pc Tryz.prog 168 [VN q] (· = .raw (.int .i64 (1 : Nat))):=by
 refine pc Tryz.func168 ?_
 iterate 4 refine iff_ rfl rfl ?_
 refine lpn 1 ?_
 refine iff_ rfl rfl ?_
 exact rfl
theorem m_sizeM {r c : Nat} {A : Nat → Nat → Rat} : Pc Tryz.prog 168 [VM r c A] (· = .raw (.int .i64 (r * c : Nat))):=by
 obtain ⟨xs,hxs⟩ : ∃ xs,xs = tq c A (r * c):=⟨_,rfl⟩
 have hL : (xs.map qc).length = r * c:=by rw [List.length_map,hxs,tq_len]
 unfold VM
 rw [← hxs]
 refine pc Tryz.func168 ?_
 refine ift rfl rfl ?_
 exact congrArg (fun n : Nat=>IV.raw (.int .i64 n)) hL
theorem m_BitsN {q : Rat} (h : lr q ≤ 10000) : Pc Tryz.prog 167 [VN q] (fun r=>∃ k : Nat,r = .raw (.int .i64 k) ∧ k ≤ 1000000):=by
 refine pc Tryz.func167 ?_
 refine ce (v_FormedN (q:=q) (by omega)) rfl ?_
 refine iff_ rfl rfl ?_
 refine cl (v_bitsN h (by decide)) rfl ?_
 rintro _ ⟨k,rfl,hk⟩
 exact ⟨k,rfl,by omega⟩
theorem m_BitsM {r c : Nat} {A : Nat → Nat → Rat} (hr : r ≤ 64) (hc : c ≤ 64) (ha : LB 10000 r c A) : Pc Tryz.prog 167 [VM r c A] (fun r=>∃ k : Nat,r = .raw (.int .i64 k) ∧ k ≤ 1000000):=by
 refine pc Tryz.func167 ?_
 refine ce (v_FormedM hr hc ha) rfl ?_
 refine iff_ rfl rfl ?_
 refine cl (v_bitsM hr hc ha (by decide)) rfl ?_
 rintro _ ⟨k,rfl,hk⟩
 exact ⟨k,rfl,by omega⟩
structure VOK (v : V15) (s : Nat) : Prop where
 nst : Pc Tryz.prog 166 [v.i] (· = .raw (.int .i64 0))
 bit : Pc Tryz.prog 167 [v.i] (fun r=>∃ k : Nat,r = .raw (.int .i64 k) ∧ k ≤ 1000000)
 siz : Pc Tryz.prog 168 [v.i] (· = .raw (.int .i64 (s : Nat)))
theorem vokN {q : Rat} (h : lr q ≤ 10000) : VOK (nV q) 1:=⟨m_nestedN,m_BitsN h,m_sizeN⟩
theorem vokM {r c : Nat} {A : Nat → Nat → Rat} (hr : r ≤ 64) (hc : c ≤ 64) (ha : LB 10000 r c A) : VOK (mV r c A) (r * c):=⟨m_nestedM,m_BitsM hr hc ha,m_sizeM⟩
theorem m_came {F k : Nat} {s : Ms} {v : V15} {x : AV} (hV : VOK v k) (hx : x = .im v.i ∨ x = v.a) (h : k ≤ F) (hF : F ≤ 1000000) : Ec Tryz.prog 129 (MR s) (MH F s) [.ref 0 0,x,ri .i64 0] (Is v.a (MH (F - k) s)):=by
 rcases hx with rfl | rfl
 ·cases s with
  | a=>
   refine ec Tryz.func129 ?_
   refine iff_ rfl rfl ?_
   refine iff_ rfl rfl ?_
   refine ce hV.nst rfl ?_
   refine iff_ rfl rfl ?_
   refine rq [0,2,3,4,5,1,6,7] ?_
   refine cl hV.bit rfl ?_
   rintro _ ⟨kb,rfl,hk⟩
   refine iff_ rfl (decide_eq_false (by omega)) ?_
   refine ce hV.siz rfl ?_
   refine cxe 2 (m_take (s:=.a) h hF) rfl rfl rfl (.inl rfl) ?_
   refine iff_ rfl rfl ?_
   exact fin [0,1] rfl ⟨rfl,rfl⟩
  | b x=>
   refine ec Tryz.func129 ?_
   refine iff_ rfl rfl ?_
   refine iff_ rfl rfl ?_
   refine ce hV.nst rfl ?_
   refine iff_ rfl rfl ?_
   refine rq [0,2,3,4,5,1,6,7] ?_
   refine cl hV.bit rfl ?_
   rintro _ ⟨kb,rfl,hk⟩
   refine iff_ rfl (decide_eq_false (by omega)) ?_
   refine ce hV.siz rfl ?_
   refine cxe 2 (m_take (s:=(.b x)) h hF) rfl rfl rfl (.inl rfl) ?_
   refine iff_ rfl rfl ?_
   exact fin [0,1] rfl ⟨rfl,rfl⟩
  | c x y=>
   refine ec Tryz.func129 ?_
   refine iff_ rfl rfl ?_
   refine iff_ rfl rfl ?_
   refine ce hV.nst rfl ?_
   refine iff_ rfl rfl ?_
   refine rq [0,2,3,4,5,1,6,7] ?_
   refine cl hV.bit rfl ?_
   rintro _ ⟨kb,rfl,hk⟩
   refine iff_ rfl (decide_eq_false (by omega)) ?_
   refine ce hV.siz rfl ?_
   refine cxe 2 (m_take (s:=(.c x y)) h hF) rfl rfl rfl (.inl rfl) ?_
   refine iff_ rfl rfl ?_
   exact fin [0,1] rfl ⟨rfl,rfl⟩
  | d x y tl tq=>
   refine ec Tryz.func129 ?_
   refine iff_ rfl rfl ?_
   refine iff_ rfl rfl ?_
   refine ce hV.nst rfl ?_
   refine iff_ rfl rfl ?_
   refine rq [0,2,3,4,5,1,6,7] ?_
   refine cl hV.bit rfl ?_
   rintro _ ⟨kb,rfl,hk⟩
   refine iff_ rfl (decide_eq_false (by omega)) ?_
   refine ce hV.siz rfl ?_
   refine cxe 3 (m_take (s:=(.d x y tl tq)) h hF) rfl rfl rfl (.inl rfl) ?_
   refine iff_ rfl rfl ?_
   exact fin [0,1,2] rfl ⟨rfl,rfl⟩
  | e tl tq=>
   refine ec Tryz.func129 ?_
   refine iff_ rfl rfl ?_
   refine iff_ rfl rfl ?_
   refine ce hV.nst rfl ?_
   refine iff_ rfl rfl ?_
   refine rq [0,2,3,4,5,1,6,7] ?_
   refine cl hV.bit rfl ?_
   rintro _ ⟨kb,rfl,hk⟩
   refine iff_ rfl (decide_eq_false (by omega)) ?_
   refine ce hV.siz rfl ?_
   refine cxe 3 (m_take (s:=(.e tl tq)) h hF) rfl rfl rfl (.inl rfl) ?_
   refine iff_ rfl rfl ?_
   exact fin [0,1,2] rfl ⟨rfl,rfl⟩
 ·cases s with
  | a=>
   refine ec Tryz.func129 ?_
   refine iff_ rfl rfl ?_
   refine iff_ rfl rfl ?_
   refine ce hV.nst rfl ?_
   refine iff_ rfl rfl ?_
   refine rq [0,2,3,4,5,1,6,7] ?_
   refine cl hV.bit rfl ?_
   rintro _ ⟨kb,rfl,hk⟩
   refine iff_ rfl (decide_eq_false (by omega)) ?_
   refine ce hV.siz rfl ?_
   refine cxe 2 (m_take (s:=.a) h hF) rfl rfl rfl (.inl rfl) ?_
   refine iff_ rfl rfl ?_
   exact fin [0,1] rfl ⟨rfl,rfl⟩
  | b x=>
   refine ec Tryz.func129 ?_
   refine iff_ rfl rfl ?_
   refine iff_ rfl rfl ?_
   refine ce hV.nst rfl ?_
   refine iff_ rfl rfl ?_
   refine rq [0,2,3,4,5,1,6,7] ?_
   refine cl hV.bit rfl ?_
   rintro _ ⟨kb,rfl,hk⟩
   refine iff_ rfl (decide_eq_false (by omega)) ?_
   refine ce hV.siz rfl ?_
   refine cxe 2 (m_take (s:=(.b x)) h hF) rfl rfl rfl (.inl rfl) ?_
   refine iff_ rfl rfl ?_
   exact fin [0,1] rfl ⟨rfl,rfl⟩
  | c x y=>
   refine ec Tryz.func129 ?_
   refine iff_ rfl rfl ?_
   refine iff_ rfl rfl ?_
   refine ce hV.nst rfl ?_
   refine iff_ rfl rfl ?_
   refine rq [0,2,3,4,5,1,6,7] ?_
   refine cl hV.bit rfl ?_
   rintro _ ⟨kb,rfl,hk⟩
   refine iff_ rfl (decide_eq_false (by omega)) ?_
   refine ce hV.siz rfl ?_
   refine cxe 2 (m_take (s:=(.c x y)) h hF) rfl rfl rfl (.inl rfl) ?_
   refine iff_ rfl rfl ?_
   exact fin [0,1] rfl ⟨rfl,rfl⟩
  | d x y tl tq=>
   refine ec Tryz.func129 ?_
   refine iff_ rfl rfl ?_
   refine iff_ rfl rfl ?_
   refine ce hV.nst rfl ?_
   refine iff_ rfl rfl ?_
   refine rq [0,2,3,4,5,1,6,7] ?_
   refine cl hV.bit rfl ?_
   rintro _ ⟨kb,rfl,hk⟩
   refine iff_ rfl (decide_eq_false (by omega)) ?_
   refine ce hV.siz rfl ?_
   refine cxe 3 (m_take (s:=(.d x y tl tq)) h hF) rfl rfl rfl (.inl rfl) ?_
   refine iff_ rfl rfl ?_
   exact fin [0,1,2] rfl ⟨rfl,rfl⟩
  | e tl tq=>
   refine ec Tryz.func129 ?_
   refine iff_ rfl rfl ?_
   refine iff_ rfl rfl ?_
   refine ce hV.nst rfl ?_
   refine iff_ rfl rfl ?_
   refine rq [0,2,3,4,5,1,6,7] ?_
   refine cl hV.bit rfl ?_
   rintro _ ⟨kb,rfl,hk⟩
   refine iff_ rfl (decide_eq_false (by omega)) ?_
   refine ce hV.siz rfl ?_
   refine cxe 3 (m_take (s:=(.e tl tq)) h hF) rfl rfl rfl (.inl rfl) ?_
   refine iff_ rfl rfl ?_
   exact fin [0,1,2] rfl ⟨rfl,rfl⟩
theorem lkF {x y : AV} {K : AV → Prop} (h : x = y) (hk : K y) : orF [x].head? K:=by subst h; exact hk
theorem bxy : (tx [121] == tx [120]) = false:=by
 rw [Bool.eq_false_iff]
 intro h
 have:=congrArg (fun b : ByteArray=>b.data.toList) ((MapKept.bytes_beq _ _).1 h)
 exact absurd this (by decide)
theorem bqr (b : ByteArray) : (b == b) = true:=(MapKept.bytes_beq _ _).2 rfl
theorem fnd_x (z : List Value) (x y : AV) : lookA z (tx [120]) [(tx [120],x),(tx [121],y)] = .tup [x,rb true]:=by
 have e : findA (tx [120]) [(tx [120],x),(tx [121],y)] = some x:=by show (bif (tx [120] == tx [120]) then some x else _) = _; rw [bqr]; rfl
 unfold lookA
 rw [e]
theorem fnd_y (z : List Value) (x y : AV) : lookA z (tx [121]) [(tx [120],x),(tx [121],y)] = .tup [y,rb true]:=by
 have e : findA (tx [121]) [(tx [120],x),(tx [121],y)] = some y:=by show (bif (tx [121] == tx [120]) then some x else (bif (tx [121] == tx [121]) then some y else none)) = _; rw [bxy,bqr]; rfl
 unfold lookA
 rw [e]
theorem m_named_xc {F : Nat} {x y : V15} : Ec Tryz.prog 131 (MR (.c x y)) (MH F (.c x y)) [.ref 0 0,.im (ts [120])] (Is (.tup [x.a,ri .i64 0]) (MH F (.c x y))):=by
 refine ec Tryz.func131 ?_
 refine ⟨trivial,?_⟩
 rintro _ rfl
 refine lkF (fnd_x _ _ _) ?_
 refine iff_ rfl rfl ?_
 exact fin [0,1] rfl ⟨rfl,rfl⟩
theorem m_named_xd {F : Nat} {x y : V15} {tl : List Nat} {tq : Rat} : Ec Tryz.prog 131 (MR (.d x y tl tq)) (MH F (.d x y tl tq)) [.ref 0 0,.im (ts [120])] (Is (.tup [x.a,ri .i64 0]) (MH F (.d x y tl tq))):=by
 refine ec Tryz.func131 ?_
 refine ⟨trivial,?_⟩
 rintro _ rfl
 refine lkF (fnd_x _ _ _) ?_
 refine iff_ rfl rfl ?_
 exact fin [0,1,2] rfl ⟨rfl,rfl⟩
theorem m_named_yc {F : Nat} {x y : V15} : Ec Tryz.prog 131 (MR (.c x y)) (MH F (.c x y)) [.ref 0 0,.im (ts [121])] (Is (.tup [y.a,ri .i64 0]) (MH F (.c x y))):=by
 refine ec Tryz.func131 ?_
 refine ⟨trivial,?_⟩
 rintro _ rfl
 refine lkF (fnd_y _ _ _) ?_
 refine iff_ rfl rfl ?_
 exact fin [0,1] rfl ⟨rfl,rfl⟩
theorem m_named_yd {F : Nat} {x y : V15} {tl : List Nat} {tq : Rat} : Ec Tryz.prog 131 (MR (.d x y tl tq)) (MH F (.d x y tl tq)) [.ref 0 0,.im (ts [121])] (Is (.tup [y.a,ri .i64 0]) (MH F (.d x y tl tq))):=by
 refine ec Tryz.func131 ?_
 refine ⟨trivial,?_⟩
 rintro _ rfl
 refine lkF (fnd_y _ _ _) ?_
 refine iff_ rfl rfl ?_
 exact fin [0,1,2] rfl ⟨rfl,rfl⟩
def bP : AO:=.box 100 [.ref 0 0]
def bT (t : Tok) : AO:=.box 97 [.im (.raw (.int .i64 (t.1 : Int))),.im (ts t.2.1),.im (.raw (.int .i64 (t.2.2 : Int)))]
theorem p_insideA {T : List Tok} {w : Tok} {F a a' o : Nat} {n : Nde} (ho : o < 600) (c : Ec Tryz.prog F (own 3) [pB T a (o + 1),bP,bT w] [.ref 2 0,.ref 1 0] (Is (ndA n) [pB T a' (o + 1),bP,bT w])) :
  Ec Tryz.prog 123 (own 3) [pB T a o,bP,bT w] [.ref 0 0,.fn F [] [.ref 2 0,.ref 1 0]] (Is (ndA n) [pB T a' o,bP,bT w]):=by
 refine ec Tryz.func123 ?_
 refine cxe 1 (p_enter ho) rfl rfl rfl (.inl rfl) ?_
 refine iff_ rfl rfl ?_
 refine cxe 3 c rfl rfl rfl (.inl rfl) ?_
 refine fin [0,1,2] rfl ⟨rfl,?_⟩
 have hw : IntKind.i64.wrap (((o + 1 : Nat) : Int) - 1) = ((o : Nat) : Int):=i64n (by omega) (by omega)
 exact congrArg (fun z=>([AO.box 102 [.im (tkS T),ri .i64 a',ri .i64 z,ri .i64 0,rb false,ri .i64 0],bP,bT w] : List AO)) hw
theorem p_insideB {T : List Tok} {F a a' o : Nat} {n : Nde} (ho : o < 600) (c : Ec Tryz.prog F (own 2) [pB T a (o + 1),bP] [.ref 1 0] (Is (ndA n) [pB T a' (o + 1),bP])) :
  Ec Tryz.prog 123 (own 2) [pB T a o,bP] [.ref 0 0,.fn F [] [.ref 1 0]] (Is (ndA n) [pB T a' o,bP]):=by
 refine ec Tryz.func123 ?_
 refine cxe 1 (p_enter ho) rfl rfl rfl (.inl rfl) ?_
 refine iff_ rfl rfl ?_
 refine cxe 2 c rfl rfl rfl (.inl rfl) ?_
 refine fin [0,1] rfl ⟨rfl,?_⟩
 have hw : IntKind.i64.wrap (((o + 1 : Nat) : Int) - 1) = ((o : Nat) : Int):=i64n (by omega) (by omega)
 exact congrArg (fun z=>([AO.box 102 [.im (tkS T),ri .i64 a',ri .i64 z,ri .i64 0,rb false,ri .i64 0],bP] : List AO)) hw
theorem p_insideC {T : List Tok} {F a a' o : Nat} {n : Nde} (ho : o < 600) (c : Ec Tryz.prog F (own 1) [pB T a (o + 1)] [.ref 0 0] (Is (ndA n) [pB T a' (o + 1)])) :
  Ec Tryz.prog 123 (own 1) [pB T a o] [.ref 0 0,.fn F [.ref 0 0] []] (Is (ndA n) [pB T a' o]):=by
 refine ec Tryz.func123 ?_
 refine cxe 1 (p_enter ho) rfl rfl rfl (.inl rfl) ?_
 refine iff_ rfl rfl ?_
 refine cxe 1 c rfl rfl rfl (.inl rfl) ?_
 refine fin [0] rfl ⟨rfl,?_⟩
 have hw : IntKind.i64.wrap (((o + 1 : Nat) : Int) - 1) = ((o : Nat) : Int):=i64n (by omega) (by omega)
 exact congrArg (fun z=>([AO.box 102 [.im (tkS T),ri .i64 a',ri .i64 z,ri .i64 0,rb false,ri .i64 0]] : List AO)) hw
def pfM (P : Ps) : Ps:=fun ts=>match P ts with
 | none=>none
 | some (n,r)=>if isT r [91] = true then none else some (n,r)
theorem p_postfix {T : List Tok} {M : Ps} {dd : Nat} (hT : TokB T) (hS : Gx T 436 M dd) : Gx T 330 (pfM M) dd:=by
 intro a o n r h ho
 unfold pfM at h
 split at h
 ·cases h
 ·rename_i n0 r0 h0
  obtain ⟨a0,rfl,l0,l1,c0⟩:=hS a o n0 r0 h0 ho
  cases e : isT (T.drop a0) [91] with
  | true=>rw [if_pos e] at h; cases h
  | false=>
   rw [e,if_neg (by decide)] at h
   obtain ⟨rfl,rfl⟩:=Prod.mk.inj (Option.some.inj h)
   refine ⟨a0,rfl,l0,l1,?_⟩
   refine ec Tryz.func330 ?_
   refine cxe 1 c0 rfl rfl rfl (.inl rfl) ?_
   refine lpn 1 ?_
   refine cxe 1 (p_no hT rfl e) rfl rfl rfl (.inl rfl) ?_
   refine iff_ rfl rfl ?_
   exact fin [0] rfl ⟨rfl,rfl⟩
theorem p_power {T : List Tok} {U P : Ps} {dd : Nat} (hT : TokB T) (hP : Gx T 436 P dd) (hU : Gx T 190 U dd) : Gx T 228 (pwM U P) dd:=by
 intro a o n r h ho
 unfold pwM at h
 split at h
 ·cases h
 ·rename_i n0 r0 h0
  cases e : isT r0 [91] with
  | true=>rw [if_pos e] at h; cases h
  | false=>
   rw [e,if_neg (by decide)] at h
   have h1 : pfM P (T.drop a) = some (n0,r0):=by unfold pfM; rw [h0]; dsimp only; rw [e,if_neg (by decide)]
   obtain ⟨a0,rfl,l0,l1,c0⟩:=p_postfix hT hP a o n0 r0 h1 ho
   cases e2 : isT (T.drop a0) [94] with
   | true=>
    rw [if_pos e2,Option.map_eq_some_iff] at h
    obtain ⟨⟨m,r1⟩,g1,g2⟩:=h
    rw [isT_tail] at g1
    obtain ⟨a1,rfl,j1,j2,c1⟩:=hU (a0 + 1) o m r1 g1 ho
    cases g2
    refine ⟨a1,rfl,by omega,j2,?_⟩
    refine ec Tryz.func228 ?_
    refine cxe 1 c0 rfl rfl rfl (.inl rfl) ?_
    refine cxe 1 (p_yes hT rfl e2) rfl rfl rfl (.inl rfl) ?_
    refine iff_ rfl rfl ?_
    refine rqa [0,1,2,3,4,5] [(0,[0],some []),(1,[0],some []),(2,[],some [0])] ?_
    refine cxe 1 c1 rfl rfl rfl (.inl rfl) ?_
    exact fin [0] rfl ⟨rfl,rfl⟩
   | false=>
    rw [e2,if_neg (by decide)] at h
    obtain ⟨rfl,rfl⟩:=Prod.mk.inj (Option.some.inj h)
    refine ⟨a0,rfl,l0,l1,?_⟩
    refine ec Tryz.func228 ?_
    refine cxe 1 c0 rfl rfl rfl (.inl rfl) ?_
    refine cxe 1 (p_no hT rfl e2) rfl rfl rfl (.inl rfl) ?_
    refine ift rfl rfl ?_
    exact fin [0] rfl ⟨rfl,rfl⟩
theorem p_unary {T : List Tok} {U W : Ps} {dd : Nat} (hT : TokB T) (hW : Gx T 228 W (dd + 1)) (hU : Gx T 190 U dd) : Gx T 190 (unM U W) (dd + 1):=by
 intro a o n r h ho
 unfold unM at h
 cases e : isT (T.drop a) [45] with
 | true=>
  rw [if_pos e,Option.map_eq_some_iff] at h
  obtain ⟨⟨m,r1⟩,g1,g2⟩:=h
  rw [isT_tail] at g1
  obtain ⟨a1,rfl,j1,j2,c1⟩:=hU (a + 1) (o + 1) m r1 g1 (by omega)
  cases g2
  refine ⟨a1,rfl,by omega,j2,?_⟩
  have c2 : Ec Tryz.prog 229 (own 2) [pB T (a + 1) (o + 1),bP] [.ref 1 0] (Is (ndA (.mk 3 [] [m])) [pB T a1 (o + 1),bP]):=by
   refine ec Tryz.func229 ?_
   refine cxe 1 c1 rfl rfl rfl (.inl rfl) ?_
   exact fin [0,1] rfl ⟨rfl,rfl⟩
  refine ec Tryz.func190 ?_
  refine cxe 1 (p_yes hT rfl e) rfl rfl rfl (.inl rfl) ?_
  refine iff_ rfl rfl ?_
  refine cxe 2 (p_insideB (by omega) c2) rfl rfl rfl (.inl rfl) ?_
  exact fin [0] rfl ⟨rfl,rfl⟩
 | false=>
  rw [e,if_neg (by decide)] at h
  obtain ⟨a0,rfl,l0,l1,c0⟩:=hW a o n r h ho
  refine ⟨a0,rfl,l0,l1,?_⟩
  refine ec Tryz.func190 ?_
  refine cxe 1 (p_no hT rfl e) rfl rfl rfl (.inl rfl) ?_
  refine ift rfl rfl ?_
  refine cxe 1 c0 rfl rfl rfl (.inl rfl) ?_
  exact fin [0] rfl ⟨rfl,rfl⟩
theorem namedT_at {T : List Tok} {a : Nat} {t : Tok} (h : T[a]? = some t) : namedT (T.drop a) = (Nat.beq t.1 2 && !ownB t.2.1):=by
 obtain ⟨h1,h2⟩:=List.getElem?_eq_some_iff.1 h
 rw [List.drop_eq_getElem_cons h1,h2]; rfl
theorem namedT_end {T : List Tok} {a : Nat} (h : T.length ≤ a) : namedT (T.drop a) = false:=by rw [List.drop_eq_nil_of_le h]; rfl
theorem beq2 (k : Nat) : ((k : Int) == 2) = Nat.beq k 2:=by
 by_cases h : k = 2
 ·subst h; rfl
 ·have : Nat.beq k 2 = false:=Bool.eq_false_iff.2 fun e=>h (Nat.eq_of_beq_eq_true e)
  rw [this]; simp; omega
theorem p_named {T : List Tok} {a o : Nat} (hT : TokB T) : Ec Tryz.prog 81 (own 1) [pB T a o] [.ref 0 0] (Is (rb (namedT (T.drop a))) [pB T a o]):=by
 refine ec Tryz.func81 ?_
 refine rq [0,1,2,3,4,5,6,7,8,9,10,11,12,13,14,15,16,17,18,19,20,21,22,23,24,25,26,27,28,29,30,31,32,33,34,35,36,37,38,39,40,41,42,43,44,45,46] ?_
 iterate 10 refine gt rfl ?_
 refine tw rfl ?_
 by_cases ha : a < T.length
 ·obtain ⟨t,ht⟩ : ∃ t,T[a]? = some t:=⟨_,List.getElem?_eq_getElem ha⟩
  have hbt:=hT.2 t (List.mem_of_getElem? ht)
  have g : decide ((a : Int) < (T.length : Int)) = true:=decide_eq_true (by omega)
  rw [namedT_at ht]
  iterate 9 refine gt g ?_
  refine gm (tokI_len T) a ⟨by omega,by omega⟩ (tok_at ht) (by rw [Int.toNat_natCast]) fun l=>?_
  iterate 3 refine gt g ?_
  refine tw g ?_
  have e1:=beq2 t.1
  cases hk : Nat.beq t.1 2 with
  | false=>
   rw [hk] at e1
   iterate 13 refine gf e1 ?_
   refine tf e1 ?_
   exact fin0 ⟨rfl,rfl⟩
  | true=>
   rw [hk] at e1
   iterate 9 refine gt e1 ?_
   refine gm (tokI_len T) a ⟨by omega,by omega⟩ (tok_at ht) (by rw [Int.toNat_natCast]) fun l=>?_
   iterate 3 refine gt e1 ?_
   refine ce (p_own hbt.1) rfl ?_
   refine gt e1 ?_
   refine tw e1 ?_
   exact fin0 ⟨rfl,rfl⟩
 ·have g : decide ((a : Int) < (T.length : Int)) = false:=decide_eq_false (by omega)
  rw [namedT_end (by omega)]
  iterate 12 refine gf g ?_
  refine tf g ?_
  repeat (first|refine gt rfl ?_|refine gf rfl ?_|refine tw rfl ?_|refine tf rfl ?_)
  exact fin0 ⟨rfl,rfl⟩
theorem kI_pos {n : Nat} (h : 0 < n) (cs : List IV) : kI n cs = .sl n 3 cs:=by
 cases n with
 | zero=>omega
 | succ n=>rfl
theorem p_list {T : List Tok} {E : Ps} {dd : Nat} {e : List Nat} (hT : TokB T) (he : byt e = true) (hE : Gx T 77 E dd) {a o : Nat} {ns : List Nde} {r : List Tok} (h : argsM E e (T.drop a) = some (ns,r)) (ho : o + dd ≤ 600) :
  ∃ a',r = T.drop a' ∧ a < a' ∧ a' ≤ T.length ∧ Ec Tryz.prog 506 (own 1) [pB T a o] [.ref 0 0,.im (ts e)] (Is (.im (kI ns.length (ndL ns))) [pB T a' o]):=by
 unfold argsM at h
 have hl:=hT.1
 cases e0 : isT (T.drop a) e with
 | true=>
  rw [if_pos e0] at h
  obtain ⟨rfl,rfl⟩:=Prod.mk.inj (Option.some.inj h)
  have:=isT_lt e0
  refine ⟨a + 1,isT_tail,by omega,by omega,?_⟩
  refine ec Tryz.func506 ?_
  refine cxe 1 (p_yes hT he e0) rfl rfl rfl (.inl rfl) ?_
  refine ift rfl rfl ?_
  exact fin [0] rfl ⟨rfl,rfl⟩
 | false=>
  rw [e0,if_neg (by decide)] at h
  have hal : a ≤ T.length:=by
   rcases Nat.le_total a T.length with g | g
   ·exact g
   ·rw [List.drop_eq_nil_of_le g] at h
    have h2:=h
    simp only [lsM] at h2
    split at h2
    ·cases h2
    ·rename_i n1 r1 h1
     have : E (T.drop T.length) = some (n1,r1):=by rw [List.drop_length]; exact h1
     obtain ⟨a1,-,l0,l1,-⟩:=hE _ o n1 r1 this ho
     omega
  have key : ∀ (g : Nat) (b : Nat) (ms : List Nde),b ≤ T.length → lsM E e g (T.drop b) = some (ms,r) → ∃ a',r = T.drop a' ∧ b < a' ∧ a' ≤ T.length ∧ 0 < ms.length:=by
   intro g
   induction g with
   | zero=>intro b ms _ h; cases h
   | succ g ih=>
    intro b ms hb h
    rw [lsM] at h
    split at h
    ·cases h
    ·rename_i n1 r1 h1
     obtain ⟨a1,rfl,l0,l1,-⟩:=hE b o n1 r1 h1 ho
     split at h
     ·rename_i q
      obtain ⟨rfl,rfl⟩:=Prod.mk.inj (Option.some.inj h)
      have:=isT_lt q
      exact ⟨a1 + 1,isT_tail,by omega,by omega,by simp⟩
     ·split at h
      ·rename_i q
       have:=isT_lt q
       rw [Option.map_eq_some_iff] at h
       obtain ⟨⟨ms',r2⟩,h2,h3⟩:=h
       cases h3
       rw [isT_tail] at h2
       obtain ⟨a2,rfl,l2,l3,-⟩:=ih (a1 + 1) ms' (by omega) h2
       exact ⟨a2,rfl,by omega,l3,by simp⟩
      ·cases h
  obtain ⟨a',rfl,k1,k2,k3⟩:=key _ a ns hal h
  refine ⟨a',rfl,k1,k2,?_⟩
  rw [kI_pos k3]
  refine ec Tryz.func506 ?_
  refine cxe 1 (p_no hT he e0) rfl rfl rfl (.inl rfl) ?_
  refine iff_ rfl rfl ?_
  refine lfv 5 104 3 rfl ?_
  refine lpt3 (fun (g : Nat) (b : Nat) (acc : List Nde)=>b ≤ T.length ∧ acc.length ≤ b ∧ ∃ ms,lsM E e g (T.drop b) = some (ms,T.drop a') ∧ acc ++ ms = ns) (fun _ _ _=>[(0,.ref 0 0),(1,.im (ts e)),(5,.own 1)])
   (fun _ b acc=>[pB T b o,.row 104 3 acc.length (ndL acc)]) (fun g _ _=>g) _ a [] ⟨hal,Nat.zero_le _,ns,h,rfl⟩ (tsr rfl) rfl ?_
  rintro g b acc t ⟨hb,hac,ms,hm,hns⟩
  cases g with
  | zero=>cases hm
  | succ g=>
   rw [lsM] at hm
   split at hm
   ·cases hm
   ·rename_i n1 r1 h1
    obtain ⟨a1,rfl,l0,l1,c1⟩:=hE b o n1 r1 h1 ho
    have en : ndL (acc ++ [n1]) = ndL acc ++ ndC n1:=by rw [ndL_append]; rfl
    refine ift rfl rfl ?_
    refine cxe 1 c1 rfl rfl rfl (.inl rfl) ?_
    refine ⟨⟨?_,?_⟩,?_⟩
    ·show (acc.length + 1) * 48 ≤ _; omega
    ·show acc.length + 1 ≤ _; omega
    cases e1 : isT (T.drop a1) e with
    | true=>
     rw [if_pos e1] at hm
     obtain ⟨rfl,e2⟩:=Prod.mk.inj (Option.some.inj hm)
     have:=isT_lt e1
     rw [isT_tail] at e2
     obtain rfl:=drop_inj (by omega) k2 e2
     refine cxe 1 (p_yes hT he e1) rfl rfl rfl (.inl rfl) ?_
     refine ift rfl rfl ?_
     refine fin [0] rfl ⟨Eq.trans (b:=AV.im (.sl (acc.length + 1) 3 (ndL acc ++ ndC n1))) rfl ?_,rfl⟩
     rw [← hns,en,List.length_append,List.length_singleton]
    | false=>
     rw [e1,if_neg (by decide)] at hm
     cases e3 : isT (T.drop a1) [44] with
     | false=>rw [e3,if_neg (by decide)] at hm; cases hm
     | true=>
      rw [if_pos e3,Option.map_eq_some_iff] at hm
      obtain ⟨⟨ms',r2⟩,h2,h3⟩:=hm
      obtain ⟨rfl,rfl⟩:=Prod.mk.inj h3
      have:=isT_lt e3
      rw [isT_tail] at h2
      refine cxe 1 (p_no hT he e1) rfl rfl rfl (.inl rfl) ?_
      refine iff_ rfl rfl ?_
      refine cxe 1 (p_must hT rfl e3) rfl rfl rfl (.inl rfl) ?_
      refine nxg3 [0,1] g (a1 + 1) (acc ++ [n1]) (Nat.lt_succ_self g) rfl ⟨by omega,by simp; omega,ms',h2,by rw [List.append_assoc]; exact hns⟩ ⟨rfl,rfl,rfl,trivial⟩ ?_
      refine Eq.trans ?_ (congrArg (fun k=>([pB T (a1 + 1) o,.row 104 3 k (ndL (acc ++ [n1]))] : List AO)) (by simp : acc.length + 1 = (acc ++ [n1]).length))
      exact congrArg (fun l=>([pB T (a1 + 1) o,.row 104 3 (acc.length + 1) l] : List AO)) en.symm
def mxH (T : List Tok) (o b : Nat) (row rows : List Nde) : List AO:=
 match row with
 | []=>[pB T b o,.box 104 [ri .i64 0,.im (ts []),.im nilI],.box 104 [ri .i64 14,.im (ts []),.own 4],.box 104 [ri .i64 15,.im (ts []),.im nilI],.row 104 3 rows.length (ndL rows)]
 | n :: l=>[pB T b o,.box 104 [ri .i64 0,.im (ts []),.im nilI],.box 104 [ri .i64 14,.im (ts []),.own 4],.box 104 [ri .i64 15,.im (ts []),.own 5],.row 104 3 rows.length (ndL rows),.row 104 3 (n :: l).length (ndL (n :: l))]
theorem ndL_snoc (l : List Nde) (n : Nde) : ndL (l ++ [n]) = ndL l ++ ndC n:=by rw [ndL_append]; rfl
theorem p_matrix {T : List Tok} {E : Ps} {dd : Nat} (hT : TokB T) (hE : Gx T 77 E dd) : ∀ (a o : Nat) (n : Nde) (r : List Tok) (g : Nat),mtM E g [] [] (T.drop a) = some (n,r) → o + dd ≤ 600 → ∃ a',r = T.drop a' ∧ a < a' ∧ a' ≤ T.length ∧ Ec Tryz.prog 508 (own 1) [pB T a o] [.ref 0 0] (Is (ndA n) [pB T a' o]):=by
 intro a o n r g0 h ho
 have hl:=hT.1
 have key : ∀ (g : Nat) (b : Nat) (row rows : List Nde),mtM E g row rows (T.drop b) = some (n,r) → ∃ a',r = T.drop a' ∧ b < a' ∧ a' ≤ T.length:=by
  intro g
  induction g with
  | zero=>intro b row rows h; cases h
  | succ g ih=>
   intro b row rows h
   rw [mtM] at h
   split at h
   ·cases h
   ·rename_i n1 r1 h1
    obtain ⟨a1,rfl,l0,l1,-⟩:=hE b o n1 r1 h1 ho
    split at h
    ·rename_i q
     rw [isT_tail] at h
     obtain ⟨a2,e,l2,l3⟩:=ih _ _ _ h
     exact ⟨a2,e,by omega,l3⟩
    ·split at h
     ·rename_i q
      rw [isT_tail] at h
      obtain ⟨a2,e,l2,l3⟩:=ih _ _ _ h
      exact ⟨a2,e,by omega,l3⟩
     ·split at h
      ·rename_i q
       have:=isT_lt q
       obtain ⟨rfl,rfl⟩:=Prod.mk.inj (Option.some.inj h)
       exact ⟨a1 + 1,isT_tail,by omega,by omega⟩
      ·cases h
 obtain ⟨a',rfl,k1,k2⟩:=key _ a [] [] h
 refine ⟨a',rfl,k1,k2,?_⟩
 refine ec Tryz.func508 ?_
 refine lfb 2 2 104 3 rfl rfl ?_
 refine lpt4 (fun (g : Nat) (b : Nat) (row rows : List Nde)=>row.length + rows.length ≤ b ∧ b ≤ 40000 ∧ mtM E g row rows (T.drop b) = some (n,T.drop a')) (fun _ _ _ _=>[(0,.ref 0 0),(2,.ref 1 0),(3,.ref 2 0),(4,.ref 3 0)])
  (fun _ b row rows=>mxH T o b row rows) (fun g _ _ _=>g) g0 a [] [] ⟨Nat.zero_le _,by omega,h⟩ (tsr rfl) rfl ?_
 rintro g b row rows t ⟨hb,hb2,hm⟩
 cases g with
 | zero=>cases hm
 | succ g=>
  rw [mtM] at hm
  split at hm
  ·cases hm
  ·rename_i n1 r1 h1
   obtain ⟨a1,rfl,l0,l1,c1⟩:=hE b o n1 r1 h1 ho
   have er:=ndL_snoc row n1
   cases row with
   | nil=>
    have hm : (if isT (T.drop a1) [44] = true then mtM E g ([] ++ [n1]) rows (T.drop a1).tail else if isT (T.drop a1) [59] = true then mtM E g [] (rows ++ [.mk 15 [] ([] ++ [n1])]) (T.drop a1).tail else if isT (T.drop a1) [93] = true then some (.mk 14 [] (rows ++ [.mk 15 [] ([] ++ [n1])]),(T.drop a1).tail) else none) = some (n,T.drop a'):=hm
    rw [isT_tail] at hm
    refine ift rfl rfl ?_
    refine rqa [0,1,2,3,4,5,6,7] [(0,[0],some []),(1,[0],some []),(2,[0],some []),(3,[],some [0])] ?_
    refine cxe 1 c1 rfl rfl rfl (.inl rfl) ?_
    refine ⟨(by decide : 1 * 48 ≤ 140737488355328 ∧ 1 ≤ 1000000000),?_⟩
    cases e1 : isT (T.drop a1) [44] with
    | true=>
     rw [if_pos e1] at hm
     have:=isT_lt e1
     refine cxe 1 (p_yes hT rfl e1) rfl rfl rfl (.inl rfl) ?_
     refine ift rfl rfl ?_
     refine nxg4 [0,1,2,3,4,6] g (a1 + 1) ([] ++ [n1]) rows (Nat.lt_succ_self g) rfl ⟨by simp at hb ⊢; omega,by omega,hm⟩ ⟨rfl,rfl,rfl,rfl,trivial⟩ ?_
     exact rfl
    | false=>
    rw [e1,if_neg (by decide)] at hm
    have el : ([] ++ [n1]).length = 1:=by simp
    have en:=ndL_snoc rows (.mk 15 [] ([] ++ [n1]))
    have hk : ndC (.mk 15 [] ([] ++ [n1])) = [.raw (.int .i64 15),ts [],.sl 1 3 (ndC n1)]:=by
     show [IV.raw (.int .i64 15),ts [],kI ([] ++ [n1]).length (ndL ([] ++ [n1]))] = _
     rw [el,kI_pos (by omega),er]; rfl
    rw [hk] at en
    refine cxe 1 (p_no hT rfl e1) rfl rfl rfl (.inl rfl) ?_
    refine iff_ rfl rfl ?_
    cases e2 : isT (T.drop a1) [59] with
    | true=>
     rw [if_pos e2] at hm
     have:=isT_lt e2
     refine cxg [0,1,2,3,4] 1 [] (p_yes hT rfl e2) rfl rfl rfl rfl ?_
     rintro _ _ ⟨rfl,rfl⟩
     refine ⟨.inl rfl,?_⟩
     refine ift rfl rfl ?_
     refine ⟨(show (rows.length + 1) * 48 ≤ 140737488355328 ∧ rows.length + 1 ≤ 1000000000 by simp at hb; omega),?_⟩
     refine nxg4 [0,1,2,3,4] g (a1 + 1) [] (rows ++ [.mk 15 [] ([] ++ [n1])]) (Nat.lt_succ_self g) rfl ⟨by simp at hb ⊢; omega,by omega,hm⟩ ⟨rfl,rfl,rfl,rfl,trivial⟩ ?_
     refine Eq.trans ?_ (congrArg (fun c=>([pB T (a1 + 1) o,.box 104 [ri .i64 0,.im (ts []),.im nilI],.box 104 [ri .i64 14,.im (ts []),.own 4],.box 104 [ri .i64 15,.im (ts []),.im nilI],.row 104 3 c (ndL (rows ++ [.mk 15 [] ([] ++ [n1])]))] : List AO)) (by simp : rows.length + 1 = (rows ++ [Nde.mk 15 [] ([] ++ [n1])]).length))
     exact congrArg (fun c=>([pB T (a1 + 1) o,.box 104 [ri .i64 0,.im (ts []),.im nilI],.box 104 [ri .i64 14,.im (ts []),.own 4],.box 104 [ri .i64 15,.im (ts []),.im nilI],.row 104 3 (rows.length + 1) c] : List AO)) en.symm
    | false=>
    rw [e2,if_neg (by decide)] at hm
    cases e3 : isT (T.drop a1) [93] with
    | false=>rw [e3,if_neg (by decide)] at hm; cases hm
    | true=>
     rw [if_pos e3] at hm
     have:=isT_lt e3
     obtain ⟨rfl,e4⟩:=Prod.mk.inj (Option.some.inj hm)
     obtain rfl:=drop_inj (by omega) k2 e4
     refine cxe 1 (p_no hT rfl e2) rfl rfl rfl (.inl rfl) ?_
     refine iff_ rfl rfl ?_
     refine cxg [0,1,2,3,4] 1 [] (p_must hT rfl e3) rfl rfl rfl rfl ?_
     rintro _ _ ⟨rfl,rfl⟩
     refine ⟨.inl rfl,?_⟩
     refine ⟨(show (rows.length + 1) * 48 ≤ 140737488355328 ∧ rows.length + 1 ≤ 1000000000 by simp at hb; omega),?_⟩
     refine fin [0] rfl ⟨?_,rfl⟩
     refine Eq.trans (b:=AV.agg [ri .i64 14,.im (ts []),.im (.sl (rows.length + 1) 3 (ndL rows ++ [.raw (.int .i64 15),ts [],.sl 1 3 (ndC n1)]))]) rfl ?_
     rw [← en]
     refine congrArg (fun z=>AV.agg [ri .i64 14,.im (ts []),.im z]) ?_
     show _ = kI (rows ++ [Nde.mk 15 [] ([] ++ [n1])]).length (ndL (rows ++ [Nde.mk 15 [] ([] ++ [n1])]))
     rw [List.length_append,List.length_singleton,kI_pos (by omega)]
   | cons n2 l=>
    have hm : (if isT (T.drop a1) [44] = true then mtM E g ((n2 :: l) ++ [n1]) rows (T.drop a1).tail else if isT (T.drop a1) [59] = true then mtM E g [] (rows ++ [.mk 15 [] ((n2 :: l) ++ [n1])]) (T.drop a1).tail else if isT (T.drop a1) [93] = true then some (.mk 14 [] (rows ++ [.mk 15 [] ((n2 :: l) ++ [n1])]),(T.drop a1).tail) else none) = some (n,T.drop a'):=hm
    rw [isT_tail] at hm
    have hb : (n2 :: l).length + rows.length ≤ b:=hb
    refine ift rfl rfl ?_
    refine rqa [0,1,2,3,4,5,6,7] [(0,[0],some []),(1,[0],some []),(2,[0],some []),(3,[],some [0])] ?_
    refine cxe 1 c1 rfl rfl rfl (.inl rfl) ?_
    refine ⟨(show ((n2 :: l).length + 1) * 48 ≤ 140737488355328 ∧ (n2 :: l).length + 1 ≤ 1000000000 by omega),?_⟩
    cases e1 : isT (T.drop a1) [44] with
    | true=>
     rw [if_pos e1] at hm
     have:=isT_lt e1
     refine cxe 1 (p_yes hT rfl e1) rfl rfl rfl (.inl rfl) ?_
     refine ift rfl rfl ?_
     refine nxg4 [0,1,2,3,4,5] g (a1 + 1) ((n2 :: l) ++ [n1]) rows (Nat.lt_succ_self g) rfl ⟨by simp at hb ⊢; omega,by omega,hm⟩ ⟨rfl,rfl,rfl,rfl,trivial⟩ ?_
     refine Eq.trans ?_ (congrArg (fun c=>([pB T (a1 + 1) o,.box 104 [ri .i64 0,.im (ts []),.im nilI],.box 104 [ri .i64 14,.im (ts []),.own 4],.box 104 [ri .i64 15,.im (ts []),.own 5],.row 104 3 rows.length (ndL rows),.row 104 3 c (ndL ((n2 :: l) ++ [n1]))] : List AO)) (by simp : (n2 :: l).length + 1 = ((n2 :: l) ++ [n1]).length))
     exact congrArg (fun c=>([pB T (a1 + 1) o,.box 104 [ri .i64 0,.im (ts []),.im nilI],.box 104 [ri .i64 14,.im (ts []),.own 4],.box 104 [ri .i64 15,.im (ts []),.own 5],.row 104 3 rows.length (ndL rows),.row 104 3 ((n2 :: l).length + 1) c] : List AO)) er.symm
    | false=>
    rw [e1,if_neg (by decide)] at hm
    have el : ((n2 :: l) ++ [n1]).length = ((n2 :: l).length + 1):=by simp
    have en:=ndL_snoc rows (.mk 15 [] ((n2 :: l) ++ [n1]))
    have hk : ndC (.mk 15 [] ((n2 :: l) ++ [n1])) = [.raw (.int .i64 15),ts [],.sl ((n2 :: l).length + 1) 3 (ndL (n2 :: l) ++ ndC n1)]:=by
     show [IV.raw (.int .i64 15),ts [],kI ((n2 :: l) ++ [n1]).length (ndL ((n2 :: l) ++ [n1]))] = _
     rw [el,kI_pos (by omega),er]
    rw [hk] at en
    refine cxe 1 (p_no hT rfl e1) rfl rfl rfl (.inl rfl) ?_
    refine iff_ rfl rfl ?_
    cases e2 : isT (T.drop a1) [59] with
    | true=>
     rw [if_pos e2] at hm
     have:=isT_lt e2
     refine cxg [0,1,2,3,4] 1 [] (p_yes hT rfl e2) rfl rfl rfl rfl ?_
     rintro _ _ ⟨rfl,rfl⟩
     refine ⟨.inl rfl,?_⟩
     refine ift rfl rfl ?_
     refine ⟨(show (rows.length + 1) * 48 ≤ 140737488355328 ∧ rows.length + 1 ≤ 1000000000 by simp at hb; omega),?_⟩
     refine nxg4 [0,1,2,3,4] g (a1 + 1) [] (rows ++ [.mk 15 [] ((n2 :: l) ++ [n1])]) (Nat.lt_succ_self g) rfl ⟨by simp at hb ⊢; omega,by omega,hm⟩ ⟨rfl,rfl,rfl,rfl,trivial⟩ ?_
     refine Eq.trans ?_ (congrArg (fun c=>([pB T (a1 + 1) o,.box 104 [ri .i64 0,.im (ts []),.im nilI],.box 104 [ri .i64 14,.im (ts []),.own 4],.box 104 [ri .i64 15,.im (ts []),.im nilI],.row 104 3 c (ndL (rows ++ [.mk 15 [] ((n2 :: l) ++ [n1])]))] : List AO)) (by simp : rows.length + 1 = (rows ++ [Nde.mk 15 [] ((n2 :: l) ++ [n1])]).length))
     exact congrArg (fun c=>([pB T (a1 + 1) o,.box 104 [ri .i64 0,.im (ts []),.im nilI],.box 104 [ri .i64 14,.im (ts []),.own 4],.box 104 [ri .i64 15,.im (ts []),.im nilI],.row 104 3 (rows.length + 1) c] : List AO)) en.symm
    | false=>
    rw [e2,if_neg (by decide)] at hm
    cases e3 : isT (T.drop a1) [93] with
    | false=>rw [e3,if_neg (by decide)] at hm; cases hm
    | true=>
     rw [if_pos e3] at hm
     have:=isT_lt e3
     obtain ⟨rfl,e4⟩:=Prod.mk.inj (Option.some.inj hm)
     obtain rfl:=drop_inj (by omega) k2 e4
     refine cxe 1 (p_no hT rfl e2) rfl rfl rfl (.inl rfl) ?_
     refine iff_ rfl rfl ?_
     refine cxg [0,1,2,3,4] 1 [] (p_must hT rfl e3) rfl rfl rfl rfl ?_
     rintro _ _ ⟨rfl,rfl⟩
     refine ⟨.inl rfl,?_⟩
     refine ⟨(show (rows.length + 1) * 48 ≤ 140737488355328 ∧ rows.length + 1 ≤ 1000000000 by simp at hb; omega),?_⟩
     refine fin [0] rfl ⟨?_,rfl⟩
     refine Eq.trans (b:=AV.agg [ri .i64 14,.im (ts []),.im (.sl (rows.length + 1) 3 (ndL rows ++ [.raw (.int .i64 15),ts [],.sl ((n2 :: l).length + 1) 3 (ndL (n2 :: l) ++ ndC n1)]))]) rfl ?_
     rw [← en]
     refine congrArg (fun z=>AV.agg [ri .i64 14,.im (ts []),.im z]) ?_
     show _ = kI (rows ++ [Nde.mk 15 [] ((n2 :: l) ++ [n1])]).length (ndL (rows ++ [Nde.mk 15 [] ((n2 :: l) ++ [n1])]))
     rw [List.length_append,List.length_singleton,kI_pos (by omega)]
theorem pB_w {T : List Tok} {a o : Nat} (ha : a ≤ 1000000) : ([AO.box 102 [.im (tkS T),ri .i64 (IntKind.i64.wrap ((a : Int) + 1)),ri .i64 o,ri .i64 0,rb false,ri .i64 0]] : List AO) = [pB T (a + 1) o]:=
 congrArg (fun z=>([AO.box 102 [.im (tkS T),ri .i64 z,ri .i64 o,ri .i64 0,rb false,ri .i64 0]] : List AO)) (i64s (by omega)).symm
theorem p_primary {T : List Tok} {E : Ps} {dd : Nat} (hT : TokB T) (hE : Gx T 77 E dd) : Gx T 436 (prM E) (dd + 1):=by
 intro a o n r h ho
 have hl:=hT.1
 rcases Nat.lt_or_ge a T.length with ha | ha
 case inr=>rw [List.drop_eq_nil_of_le ha] at h; cases h
 obtain ⟨t,ht⟩ : ∃ t,T[a]? = some t:=⟨_,List.getElem?_eq_getElem ha⟩
 have hcons : T.drop a = t :: T.drop (a + 1):=by
  obtain ⟨h1,h2⟩:=List.getElem?_eq_some_iff.1 ht
  rw [List.drop_eq_getElem_cons h1,h2]
 have hbt:=hT.2 t (List.mem_of_getElem? ht)
 have g1 : decide ((a : Int) ≥ (T.length : Int)) = false:=decide_eq_false (by omega)
 obtain ⟨k,tt,p⟩:=t
 have hp : prM E (T.drop a) = if Nat.beq k 1 = true then some (.mk 1 tt [],T.drop (a + 1)) else if namedT (T.drop a) = true then
   (if isT (T.drop (a + 1)) [40] = true then (argsM E [41] (T.drop (a + 1)).tail).map fun p=>(.mk 13 tt p.1,p.2) else some (.mk 2 tt [],T.drop (a + 1)))
  else if isT (T.drop a) [40] = true then (match E (T.drop (a + 1)) with
   | none=>none
   | some (n,r')=>if isT r' [41] = true then some (n,r'.tail) else none)
  else if isT (T.drop a) [91] = true then mtM E ((T.drop (a + 1)).length + 1) [] [] (T.drop (a + 1)) else none:=by rw [hcons]; rfl
 rw [hp] at h
 clear hp
 cases hk : Nat.beq k 1 with
 | true=>
  rw [if_pos hk] at h
  obtain ⟨rfl,rfl⟩:=Prod.mk.inj (Option.some.inj h)
  refine ⟨a + 1,rfl,by omega,by omega,?_⟩
  refine ec Tryz.func436 ?_
  refine rq [0,1,2,3,4,5,6,7,8,9,10,11,12,13,14,15] ?_
  iterate 10 refine gt rfl ?_
  refine tf rfl ?_
  refine iff_ rfl g1 ?_
  refine rq [0,1,2,3,4,5,6,7,8,9,10,11] ?_
  refine gm (tokI_len T) a ⟨by omega,by omega⟩ (tok_at ht) (by rw [Int.toNat_natCast]) fun l=>?_
  refine ift rfl (beqT (k:=1) (Nat.eq_of_beq_eq_true hk)) ?_
  exact fin [0] rfl ⟨rfl,pB_w (by omega)⟩
 | false=>
 rw [hk,if_neg (by decide)] at h
 have hk1 : k ≠ 1:=fun e=>by rw [e] at hk; cases hk
 cases hn : namedT (T.drop a) with
 | true=>
  rw [if_pos hn] at h
  cases h40 : isT (T.drop (a + 1)) [40] with
  | true=>
   rw [if_pos h40,isT_tail,Option.map_eq_some_iff] at h
   obtain ⟨⟨ns,r1⟩,q1,q2⟩:=h
   obtain ⟨rfl,rfl⟩:=Prod.mk.inj q2
   obtain ⟨a',rfl,l1,l2,c1⟩:=p_list hT (e:=[41]) rfl hE (a:=a + 1 + 1) (o:=o + 1) q1 (by omega)
   refine ⟨a',rfl,by omega,l2,?_⟩
   have c2 : Ec Tryz.prog 505 (own 3) [pB T (a + 1 + 1) (o + 1),bP,bT (k,tt,p)] [.ref 2 0,.ref 1 0] (Is (ndA (.mk 13 tt ns)) [pB T a' (o + 1),bP,bT (k,tt,p)]):=by
    refine ec Tryz.func505 ?_
    cases ns with
    | nil=>
     refine rqa [0,1,2,3,4,5] [(0,[0],some []),(1,[0],some []),(2,[0],some []),(3,[],some [0])] ?_
     refine cxe 1 c1 rfl rfl rfl (.inl rfl) ?_
     exact fin [0,1,2] rfl ⟨rfl,rfl⟩
    | cons n2 l2=>
     refine rqa [0,1,2,3,4,5] [(0,[0],some []),(1,[0],some []),(2,[0],some []),(3,[],some [0])] ?_
     refine cxe 1 c1 rfl rfl rfl (.inl rfl) ?_
     exact fin [0,1,2] rfl ⟨rfl,rfl⟩
   refine ec Tryz.func436 ?_
   refine rq [0,1,2,3,4,5,6,7,8,9,10,11,12,13,14,15] ?_
   iterate 10 refine gt rfl ?_
   refine tf rfl ?_
   refine iff_ rfl g1 ?_
   refine rq [0,1,2,3,4,5,6,7,8,9,10,11] ?_
   refine gm (tokI_len T) a ⟨by omega,by omega⟩ (tok_at ht) (by rw [Int.toNat_natCast]) fun l=>?_
   refine iff_ rfl (beqI (k:=1) hk1) ?_
   refine cxe 1 (p_named hT) rfl rfl rfl (.inl rfl) ?_
   refine ift rfl hn ?_
   refine cxe 1 (p_yes hT rfl h40) (pB_w (by omega)) rfl rfl (.inl rfl) ?_
   refine ift rfl rfl ?_
   refine cxg [0,1,3,2] 3 [] (p_insideA (by omega) c2) rfl rfl rfl rfl ?_
   rintro _ _ ⟨rfl,rfl⟩
   refine ⟨.inl rfl,?_⟩
   exact fin [0] rfl ⟨rfl,rfl⟩
  | false=>
   rw [h40,if_neg (by decide)] at h
   obtain ⟨rfl,rfl⟩:=Prod.mk.inj (Option.some.inj h)
   refine ⟨a + 1,rfl,by omega,by omega,?_⟩
   refine ec Tryz.func436 ?_
   refine rq [0,1,2,3,4,5,6,7,8,9,10,11,12,13,14,15] ?_
   iterate 10 refine gt rfl ?_
   refine tf rfl ?_
   refine iff_ rfl g1 ?_
   refine rq [0,1,2,3,4,5,6,7,8,9,10,11] ?_
   refine gm (tokI_len T) a ⟨by omega,by omega⟩ (tok_at ht) (by rw [Int.toNat_natCast]) fun l=>?_
   refine iff_ rfl (beqI (k:=1) hk1) ?_
   refine cxe 1 (p_named hT) rfl rfl rfl (.inl rfl) ?_
   refine ift rfl hn ?_
   refine cxe 1 (p_no hT rfl h40) (pB_w (by omega)) rfl rfl (.inl rfl) ?_
   refine iff_ rfl rfl ?_
   exact fin [0] rfl ⟨rfl,rfl⟩
 | false=>
 rw [hn,if_neg (by decide)] at h
 cases h40 : isT (T.drop a) [40] with
 | true=>
  rw [if_pos h40] at h
  split at h
  ·cases h
  ·rename_i n1 r1 h1
   obtain ⟨a1,rfl,l0,l1,c1⟩:=hE (a + 1) (o + 1) n1 r1 h1 (by omega)
   cases h41 : isT (T.drop a1) [41] with
   | false=>rw [h41,if_neg (by decide)] at h; cases h
   | true=>
    rw [if_pos h41,isT_tail] at h
    have:=isT_lt h41
    obtain ⟨rfl,rfl⟩:=Prod.mk.inj (Option.some.inj h)
    refine ⟨a1 + 1,rfl,by omega,by omega,?_⟩
    have c2 : Ec Tryz.prog 507 (own 2) [pB T (a + 1) (o + 1),bP] [.ref 1 0] (Is (ndA n1) [pB T (a1 + 1) (o + 1),bP]):=by
     refine ec Tryz.func507 ?_
     refine cxe 1 c1 rfl rfl rfl (.inl rfl) ?_
     refine cxe 1 (p_must hT rfl h41) rfl rfl rfl (.inl rfl) ?_
     exact fin [0,1] rfl ⟨rfl,rfl⟩
    refine ec Tryz.func436 ?_
    refine rq [0,1,2,3,4,5,6,7,8,9,10,11,12,13,14,15] ?_
    iterate 10 refine gt rfl ?_
    refine tf rfl ?_
    refine iff_ rfl g1 ?_
    refine rq [0,1,2,3,4,5,6,7,8,9,10,11] ?_
    refine gm (tokI_len T) a ⟨by omega,by omega⟩ (tok_at ht) (by rw [Int.toNat_natCast]) fun l=>?_
    refine iff_ rfl (beqI (k:=1) hk1) ?_
    refine cxe 1 (p_named hT) rfl rfl rfl (.inl rfl) ?_
    refine iff_ rfl hn ?_
    refine cxe 1 (p_yes hT rfl h40) rfl rfl rfl (.inl rfl) ?_
    refine ift rfl rfl ?_
    refine cxe 2 (p_insideB (by omega) c2) rfl rfl rfl (.inl rfl) ?_
    exact fin [0] rfl ⟨rfl,rfl⟩
 | false=>
 rw [h40,if_neg (by decide)] at h
 cases h91 : isT (T.drop a) [91] with
 | false=>rw [h91,if_neg (by decide)] at h; cases h
 | true=>
  rw [if_pos h91] at h
  obtain ⟨a',rfl,l0,l1,c1⟩:=p_matrix hT hE (a + 1) (o + 1) n r _ h (by omega)
  refine ⟨a',rfl,by omega,l1,?_⟩
  refine ec Tryz.func436 ?_
  refine rq [0,1,2,3,4,5,6,7,8,9,10,11,12,13,14,15] ?_
  iterate 10 refine gt rfl ?_
  refine tf rfl ?_
  refine iff_ rfl g1 ?_
  refine rq [0,1,2,3,4,5,6,7,8,9,10,11] ?_
  refine gm (tokI_len T) a ⟨by omega,by omega⟩ (tok_at ht) (by rw [Int.toNat_natCast]) fun l=>?_
  refine iff_ rfl (beqI (k:=1) hk1) ?_
  refine cxe 1 (p_named hT) rfl rfl rfl (.inl rfl) ?_
  refine iff_ rfl hn ?_
  refine cxe 1 (p_no hT rfl h40) rfl rfl rfl (.inl rfl) ?_
  refine iff_ rfl rfl ?_
  refine cxe 1 (p_yes hT rfl h91) rfl rfl rfl (.inl rfl) ?_
  refine ift rfl rfl ?_
  refine cxe 1 (p_insideC (by omega) c1) rfl rfl rfl (.inl rfl) ?_
  exact fin [0] rfl ⟨rfl,rfl⟩
theorem p_eu {T : List Tok} (hT : TokB T) : ∀ f,Gx T 77 (eu f).1 f ∧ Gx T 190 (eu f).2 f
 | 0=>⟨fun _ _ _ _ h=>(by cases h),fun _ _ _ _ h=>(by cases h)⟩
 | f + 1=>by
  obtain ⟨hE,hU⟩:=p_eu hT f
  have hP:=p_primary hT hE
  have hW:=p_power hT hP (hU.mono (Nat.le_succ f))
  have hN : Gx T 190 (eu (f + 1)).2 (f + 1):=p_unary hT hW hU
  exact ⟨p_expr hT (p_sum hT (p_product hT hN)),hN⟩
theorem namedT_lt {T : List Tok} {a : Nat} (h : namedT (T.drop a) = true) : a < T.length:=by
 rcases Nat.lt_or_ge a T.length with g | g
 ·exact g
 ·rw [namedT_end g] at h; cases h
theorem textT_at {T : List Tok} {a : Nat} {t : Tok} (h : T[a]? = some t) : textT (T.drop a) = t.2.1:=by
 obtain ⟨h1,h2⟩:=List.getElem?_eq_some_iff.1 h
 rw [List.drop_eq_getElem_cons h1,h2]; rfl
theorem p_name {T : List Tok} {a o : Nat} (hT : TokB T) (h : namedT (T.drop a) = true) : Ec Tryz.prog 79 (own 1) [pB T a o] [.ref 0 0] (Is (.im (ts (textT (T.drop a)))) [pB T (a + 1) o]):=by
 have hl:=hT.1
 have ha:=namedT_lt h
 obtain ⟨t,ht⟩ : ∃ t,T[a]? = some t:=⟨_,List.getElem?_eq_getElem ha⟩
 have w : IntKind.i64.wrap (IntKind.i64.wrap ((a : Int) + 1) - 1) = (a : Int):=by rw [← i64s (by omega)]; exact i64n (by omega) (by omega)
 refine ec Tryz.func79 ?_
 refine cxe 1 (p_named hT) rfl rfl rfl (.inl rfl) ?_
 refine iff_ rfl (by rw [h]; rfl) ?_
 refine rq [0,1,2,3,4,5,6,7,8,9,10,11,12] ?_
 refine gm (tokI_len T) a (by rw [w]; omega) (tok_at ht) (by rw [w,Int.toNat_natCast]) fun l=>?_
 rw [textT_at ht]
 exact fin0 ⟨rfl,pB_w (by omega)⟩
theorem eq61 {t : List Nat} (hb : byt t = true) : ((tx t).toList == (tx [61]).toList) = eqL t [61]:=tx_beq hb rfl
theorem p_statement {T : List Tok} {E : Ps} {dd : Nat} (hT : TokB T) (hE : Gx T 77 E dd) : Gx T 44 (stM E) dd:=by
 intro a o n r h ho
 have hl:=hT.1
 unfold stM at h
 cases i1 : isT (T.drop a) [105,102] with
 | true=>rw [if_pos i1] at h; cases h
 | false=>
 rw [i1,if_neg (by decide)] at h
 cases i2 : isT (T.drop a) [102,111,114] with
 | true=>rw [if_pos i2] at h; cases h
 | false=>
 rw [i2,if_neg (by decide)] at h
 have w : IntKind.i64.wrap ((a : Int) + 1) = ((a + 1 : Nat) : Int) ∨ 1000000 < a:=by
  rcases Nat.lt_or_ge 1000000 a with g | g
  ·exact .inr g
  ·exact .inl (i64s (by omega)).symm
 rw [show decide (isT (T.drop a).tail [61] = true) = isT (T.drop a).tail [61] from by cases isT (T.drop a).tail [61] <;> rfl] at h
 by_cases hc : (namedT (T.drop a) && isT (T.drop a).tail [61]) = true
 ·rw [if_pos hc] at h
  simp only [Bool.and_eq_true] at hc
  obtain ⟨hn,h61⟩:=hc
  rw [isT_tail] at h61
  have ha:=namedT_lt hn
  have ha1:=isT_lt h61
  have w : IntKind.i64.wrap ((a : Int) + 1) = ((a + 1 : Nat) : Int):=(i64s (by omega)).symm
  obtain ⟨t,ht⟩ : ∃ t,T[a + 1]? = some t:=⟨_,List.getElem?_eq_getElem ha1⟩
  have hbt:=hT.2 t (List.mem_of_getElem? ht)
  have e61 : eqL t.2.1 [61] = true:=by rw [isT_at ht,Bool.and_eq_true] at h61; exact h61.2
  split at h
  ·cases h
  ·rename_i n1 r1 h1
   rw [isT_tail,isT_tail] at h1
   obtain ⟨a1,rfl,l0,l1,c1⟩:=hE (a + 1 + 1) o n1 r1 h1 ho
   cases h59 : isT (T.drop a1) [59] with
   | false=>rw [h59,if_neg (by decide)] at h; cases h
   | true=>
    have:=isT_lt h59
    rw [if_pos h59,isT_tail] at h
    obtain ⟨rfl,rfl⟩:=Prod.mk.inj (Option.some.inj h)
    refine ⟨a1 + 1,rfl,by omega,by omega,?_⟩
    have g : decide (IntKind.i64.wrap ((a : Int) + 1) < (T.length : Int)) = true:=decide_eq_true (by rw [w]; omega)
    refine ec Tryz.func44 ?_
    refine cxe 1 (p_no hT rfl i1) rfl rfl rfl (.inl rfl) ?_
    refine iff_ rfl rfl ?_
    refine cxe 1 (p_no hT rfl i2) rfl rfl rfl (.inl rfl) ?_
    refine iff_ rfl rfl ?_
    refine rqa [0,1,2,3,4,5,6,7,8,9,10,11,12,13,14,15,16,17,18,19,20,21,22,23,24,25,26,27,28,29,30] [(0,[0],some []),(1,[],some [0])] ?_
    refine cxe 1 (p_named hT) rfl rfl rfl (.inl rfl) ?_
    iterate 11 refine gt hn ?_
    refine tw hn ?_
    iterate 10 refine gt g ?_
    refine gm (tokI_len T) (a + 1) (by rw [w]; omega) (tok_at ht) (by rw [w,Int.toNat_natCast]) fun l=>?_
    iterate 3 refine gt g ?_
    refine tw g ?_
    refine ift rfl ((eq61 hbt.1).trans e61) ?_
    refine cxe 1 (p_name hT hn) rfl rfl rfl (.inl rfl) ?_
    refine cxe 1 (p_must hT rfl h61) rfl rfl rfl (.inl rfl) ?_
    refine cxe 1 c1 rfl rfl rfl (.inl rfl) ?_
    refine cxe 1 (p_must hT rfl h59) rfl rfl rfl (.inl rfl) ?_
    exact fin [0] rfl ⟨rfl,rfl⟩
 ·rw [if_neg hc] at h
  cases h61 : eqL (textT (T.drop a).tail) [61] with
  | true=>rw [if_pos h61] at h; cases h
  | false=>
  rw [h61,if_neg (by decide)] at h
  split at h
  ·cases h
  ·rename_i n1 r1 h1
   obtain ⟨a1,rfl,l0,l1,c1⟩:=hE a o n1 r1 h1 ho
   cases h59 : isT (T.drop a1) [59] with
   | false=>rw [h59,if_neg (by decide)] at h; cases h
   | true=>
    have:=isT_lt h59
    rw [if_pos h59,isT_tail] at h
    obtain ⟨rfl,rfl⟩:=Prod.mk.inj (Option.some.inj h)
    refine ⟨a1 + 1,rfl,by omega,by omega,?_⟩
    have w : IntKind.i64.wrap ((a : Int) + 1) = ((a + 1 : Nat) : Int):=(i64s (by omega)).symm
    refine ec Tryz.func44 ?_
    refine cxe 1 (p_no hT rfl i1) rfl rfl rfl (.inl rfl) ?_
    refine iff_ rfl rfl ?_
    refine cxe 1 (p_no hT rfl i2) rfl rfl rfl (.inl rfl) ?_
    refine iff_ rfl rfl ?_
    refine rqa [0,1,2,3,4,5,6,7,8,9,10,11,12,13,14,15,16,17,18,19,20,21,22,23,24,25,26,27,28,29,30] [(0,[0],some []),(1,[],some [0])] ?_
    refine cxe 1 (p_named hT) rfl rfl rfl (.inl rfl) ?_
    cases hn : namedT (T.drop a) with
    | false=>
     iterate 11 refine gf rfl ?_
     refine tf rfl ?_
     iterate 13 refine gf rfl ?_
     refine tf rfl ?_
     refine iff_ rfl rfl ?_
     refine cxe 1 c1 rfl rfl rfl (.inl rfl) ?_
     refine cxe 1 (p_must hT rfl h59) rfl rfl rfl (.inl rfl) ?_
     exact fin [0] rfl ⟨rfl,rfl⟩
    | true=>
     iterate 11 refine gt rfl ?_
     refine tw rfl ?_
     by_cases ha1 : a + 1 < T.length
     ·obtain ⟨t,ht⟩ : ∃ t,T[a + 1]? = some t:=⟨_,List.getElem?_eq_getElem ha1⟩
      have hbt:=hT.2 t (List.mem_of_getElem? ht)
      have g : decide (IntKind.i64.wrap ((a : Int) + 1) < (T.length : Int)) = true:=decide_eq_true (by rw [w]; omega)
      rw [isT_tail,textT_at ht] at h61
      iterate 10 refine gt g ?_
      refine gm (tokI_len T) (a + 1) (by rw [w]; omega) (tok_at ht) (by rw [w,Int.toNat_natCast]) fun l=>?_
      iterate 3 refine gt g ?_
      refine tw g ?_
      refine iff_ rfl ((eq61 hbt.1).trans h61) ?_
      refine cxe 1 c1 rfl rfl rfl (.inl rfl) ?_
      refine cxe 1 (p_must hT rfl h59) rfl rfl rfl (.inl rfl) ?_
      exact fin [0] rfl ⟨rfl,rfl⟩
     ·have g : decide (IntKind.i64.wrap ((a : Int) + 1) < (T.length : Int)) = false:=decide_eq_false (by rw [w]; omega)
      iterate 13 refine gf g ?_
      refine tf g ?_
      refine iff_ rfl rfl ?_
      refine cxe 1 c1 rfl rfl rfl (.inl rfl) ?_
      refine cxe 1 (p_must hT rfl h59) rfl rfl rfl (.inl rfl) ?_
      exact fin [0] rfl ⟨rfl,rfl⟩
end Go.Proofs.YtlhmaljjdpjkgaaGreatDoor
