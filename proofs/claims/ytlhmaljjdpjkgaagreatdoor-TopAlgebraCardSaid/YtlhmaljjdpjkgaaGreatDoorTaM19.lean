/- The parser: how deep; programs. -/
import Derived.Test.YtlhmaljjdpjkgaaGreatDoorTaM18
import Derived.Test.YtlhmaljjdpjkgaaGreatDoorTaM9
import Derived.Test.YtlhmaljjdpjkgaaGreatDoorTaM10
import Derived.Test.YtlhmaljjdpjkgaaGreatDoorTaM17
set_option maxHeartbeats 4000000
namespace Go.Proofs.YtlhmaljjdpjkgaaGreatDoor
open Go Go.RowKit
theorem ndL_flat : ∀ l,ndL l = (l.map ndC).flatten
 | []=>rfl
 | n :: l=>by rw [ndL,ndL_flat l]; rfl
theorem ndC_len (l : List Nde) : ∀ e ∈ l.map ndC,e.length = 3:=fun e he=>by obtain ⟨q,-,rfl⟩:=List.mem_map.1 he; rfl
theorem kidsL_snoc (l : List Nde) (n : Nde) : kidsL (l ++ [n]) = kidsL l ++ ndKs n:=by
 rw [kidsL_append]
 cases n with
 | mk op t ks=>simp [kidsL,ndKs]
theorem kids_le : ∀ (l : List Nde) (j : Nat),(kidsL (l.take j)).length ≤ (kidsL l).length
 | [],j=>by simp
 | n :: l,0=>by simp [kidsL]
 | .mk op t ks :: l,j + 1=>by
  have:=kids_le l j
  simp only [List.take_succ_cons,kidsL,List.length_append]; omega
theorem p_Depth {l : List Nde} {D : Nat} (hB : ∀ j,(levL j l).length ≤ 100000) (hD : levL (D + 1) l = []) (hD2 : D ≤ 100000) : Ec Tryz.prog 45 (own 0) [] [.im (.sl l.length 3 (ndL l))] (fun x H'=>(∃ d : Nat,x = ri .i64 d ∧ d ≤ D) ∧ H' = []):=by
 have hnil : ∀ j k,levL j l = [] → levL (j + k) l = []:=by
  intro j k h
  have add : ∀ (j : Nat) (l : List Nde),levL (j + k) l = levL k (levL j l):=by
   intro j
   induction j with
   | zero=>intro l; rw [Nat.zero_add]; rfl
   | succ j ih=>intro l; rw [Nat.succ_add,levL,ih]; rfl
  rw [add,h]
  have : ∀ k,levL k [] = []:=by intro k; induction k with
   | zero=>rfl
   | succ k ih=>rw [levL]; exact ih
  exact this k
 have hsucc : ∀ (j : Nat) (l : List Nde),levL (j + 1) l = kidsL (levL j l):=by
  intro j
  induction j with
  | zero=>intro l; rfl
  | succ j ih=>intro l; rw [levL,ih]; rfl
 refine ec Tryz.func45 ?_
 refine lpt2 (fun (j d : Nat)=>j ≤ D + 1 ∧ d ≤ D ∧ d ≤ j) (fun j d=>[(3,.im (.sl (levL j l).length 3 (ndL (levL j l)))),(4,ri .i64 d),(5,ri .i64 j)]) (fun _ _=>[]) (fun j _=>D + 1 - j) 0 0 ⟨Nat.zero_le _,Nat.zero_le _,Nat.zero_le _⟩ (tsr rfl) rfl ?_
 rintro j d t ⟨hj,hd,hdj⟩
 obtain ⟨L,hL⟩ : ∃ L,L = levL j l:=⟨_,rfl⟩
 have hLl : L.length ≤ 100000:=by rw [hL]; exact hB j
 have hK : (kidsL L).length ≤ 100000:=by rw [hL,← hsucc]; exact hB (j + 1)
 rw [← hL]
 refine lfv 6 104 3 rfl ?_
 refine lpt (fun i : Nat=>i ≤ L.length) (fun i=>[(3,.im (.sl L.length 3 (ndL L))),(4,ri .i64 d),(5,ri .i64 j),(6,.own 0),(12,.im (.sl L.length 3 (ndL L))),(13,ri .i64 L.length),(14,ri .i64 i)])
  (fun i=>[.row 104 3 (kidsL (L.take i)).length (ndL (kidsL (L.take i)))]) (fun i=>L.length - i) 0 (Nat.zero_le _) (tsr rfl) rfl ?_
 intro i t' hi
 refine ifs rfl (fun h=>?_) (fun h=>?_)
 ·have h:=of_decide_eq_true h
  have hi : i < L.length:=by omega
  obtain ⟨n,hn⟩ : ∃ n,L[i]? = some n:=⟨_,List.getElem?_eq_getElem hi⟩
  have hk : kidsL (L.take (i + 1)) = kidsL (L.take i) ++ ndKs n:=by rw [take_snoc' hn,kidsL_snoc]
  have hle:=kids_le L (i + 1)
  rw [hk,List.length_append] at hle
  rw [ndL_flat L]
  refine gm (ndC_len L) i ⟨by omega,by omega⟩ (by rw [List.getElem?_map,hn]; rfl) (by rw [Int.toNat_natCast]) fun l'=>?_
  cases n with
  | mk op tt ks=>
   have hle : (kidsL (L.take i)).length + ks.length ≤ (kidsL L).length:=hle
   have hk : kidsL (L.take (i + 1)) = kidsL (L.take i) ++ ks:=hk
   have e1 : (kidsL (L.take (i + 1))).length = (kidsL (L.take i)).length + ks.length:=by rw [hk,List.length_append]
   have e2 : ndL (kidsL (L.take (i + 1))) = ndL (kidsL (L.take i)) ++ ndL ks:=by rw [hk,ndL_append]
   cases ks with
   | nil=>
    refine ⟨(show ((kidsL (L.take i)).length + 0) * 48 ≤ 140737488355328 ∧ (kidsL (L.take i)).length + 0 ≤ 1000000000 by omega),?_⟩
    refine nxg [0] (i + 1) (by omega) rfl ⟨by omega,⟨rfl,rfl,rfl,rfl,rfl,rfl,congrArg (ri .i64) (i64s (by omega)).symm,trivial⟩,?_⟩
    refine Eq.trans ?_ (congrArg (fun c=>([AO.row 104 3 c (ndL (kidsL (L.take (i + 1))))] : List AO)) e1.symm)
    exact congrArg (fun c=>([AO.row 104 3 ((kidsL (L.take i)).length + 0) c] : List AO)) e2.symm
   | cons n2 l2=>
    refine ⟨(show ((kidsL (L.take i)).length + (n2 :: l2).length) * 48 ≤ 140737488355328 ∧ (kidsL (L.take i)).length + (n2 :: l2).length ≤ 1000000000 by omega),?_⟩
    refine nxg [0] (i + 1) (by omega) rfl ⟨by omega,⟨rfl,rfl,rfl,rfl,rfl,rfl,congrArg (ri .i64) (i64s (by omega)).symm,trivial⟩,?_⟩
    refine Eq.trans ?_ (congrArg (fun c=>([AO.row 104 3 c (ndL (kidsL (L.take (i + 1))))] : List AO)) e1.symm)
    exact congrArg (fun c=>([AO.row 104 3 ((kidsL (L.take i)).length + (n2 :: l2).length) c] : List AO)) e2.symm
 ·have h:=of_decide_eq_false h
  obtain rfl : i = L.length:=by omega
  rw [List.take_length]
  by_cases hz : L.length = 0
  ·refine ift rfl (beqT (k:=0) hz) ?_
   exact fin [] rfl ⟨⟨d,rfl,hd⟩,rfl⟩
  ·refine iff_ rfl (beqI (k:=0) hz) ?_
   have hne : L ≠ []:=fun e=>hz (by rw [e]; rfl)
   have hjD : j ≤ D:=by
    rcases Nat.lt_or_ge D j with g | g
    ·exfalso
     have : j = D + 1:=by omega
     rw [this,hD] at hL; exact hne hL
    ·exact g
   have hs : levL (j + 1) l = kidsL L:=by rw [hsucc,hL]
   refine nxg2 [] (j + 1) j (by omega) rfl ⟨by omega,hjD,by omega⟩ ⟨?_,rfl,congrArg (ri .i64) (i64s (by omega)).symm,trivial⟩ rfl
   rw [hs]
   exact rfl
theorem pg_lt {T : List Tok} {E : Ps} {dd : Nat} (hT : TokB T) (hE : Gx T 77 E dd) (hd : dd ≤ 600) {g a : Nat} {l : List Nde} (h : pgM E g (T.drop a) = some l) (ha : a < T.length) :
  ∃ g' n a1 l',g = g' + 1 ∧ l = n :: l' ∧ a < a1 ∧ a1 ≤ T.length ∧ pgM E g' (T.drop a1) = some l' ∧ Ec Tryz.prog 44 (own 1) [pB T a 0] [.ref 0 0] (Is (ndA n) [pB T a1 0]):=by
 have hc:=List.drop_eq_getElem_cons ha
 rw [hc] at h
 cases g with
 | zero=>cases h
 | succ g=>
  simp only [pgM] at h
  rw [← hc] at h
  split at h
  ·cases h
  ·rename_i n r h1
   obtain ⟨a1,rfl,l0,l1,c⟩:=p_statement hT hE a 0 n r h1 (by omega)
   rw [Option.map_eq_some_iff] at h
   obtain ⟨l',h2,rfl⟩:=h
   exact ⟨g,n,a1,l',rfl,rfl,l0,l1,h2,c⟩
theorem p_Parse {T : List Tok} {E : Ps} {dd : Nat} (hT : TokB T) (hE : Gx T 77 E dd) (hd : dd ≤ 600) {g : Nat} {l : List Nde} (h : pgM E g T = some l) (hB : ∀ j,(levL j l).length ≤ 100000) (hD : levL (200 + 1) l = []) :
  Pc Tryz.prog 27 [tkS T,.raw (.int .i64 200)] (· = .tup [.sl l.length 3 (ndL l),.raw (.int .i64 0),.raw (.int .i64 0)]):=by
 have hl:=hT.1
 refine pc Tryz.func27 ?_
 repeat (first|refine gt rfl ?_|refine gf rfl ?_|refine tw rfl ?_|refine tf rfl ?_)
 refine iff_ rfl rfl ?_
 refine lpt (fun i : Nat=>i ≤ T.length) (fun i=>[(0,.im (tkS T)),(1,ri .i64 200),(17,.im (tkS T)),(18,ri .i64 T.length),(19,ri .i64 i)]) (fun _=>[]) (fun i=>T.length - i) 0 (Nat.zero_le _) (tsr rfl) rfl ?_
 intro i t hi
 refine ifs rfl (fun h3=>?_) (fun h3=>?_)
 ·have h3:=of_decide_eq_true h3
  obtain ⟨w,hw⟩ : ∃ w,T[i]? = some w:=⟨_,List.getElem?_eq_getElem (by omega)⟩
  have hbt:=hT.2 w (List.mem_of_getElem? hw)
  refine gm (tokI_len T) i ⟨by omega,by omega⟩ (tok_at hw) (by rw [Int.toNat_natCast]) fun l'=>?_
  refine ce (x_Is (k:=w.1) (t:=w.2.1) (a:=(w.2.2 : Int)) hbt.1 hbt.2.1 hbt.2.2) rfl ?_
  refine iff_ rfl rfl ?_
  exact nxg [] (i + 1) (by omega) rfl ⟨by omega,⟨rfl,rfl,rfl,rfl,congrArg (ri .i64) (i64s (by omega)).symm,trivial⟩,rfl⟩
 ·clear h3
  refine lfv 10 104 3 rfl ?_
  refine lpt3 (fun (g : Nat) (a : Nat) (acc : List Nde)=>a ≤ T.length ∧ acc.length ≤ a ∧ ∃ rest,pgM E g (T.drop a) = some rest ∧ acc ++ rest = l) (fun _ _ _=>[(0,.im (tkS T)),(1,ri .i64 200),(9,.ref 0 0),(10,.own 1)])
   (fun _ a acc=>[pB T a 0,.row 104 3 acc.length (ndL acc)]) (fun _ a _=>T.length - a) g 0 [] ⟨Nat.zero_le _,Nat.le_refl _,l,h,rfl⟩ (tsr rfl) rfl ?_
  rintro g a acc t ⟨ha,hac,rest,hr,hx⟩
  iterate 7 refine gt rfl ?_
  refine tw rfl ?_
  by_cases hlt : a < T.length
  ·obtain ⟨g',n,a1,l',rfl,rfl,l0,l1,h2,c⟩:=pg_lt hT hE hd hr hlt
   refine ift rfl (decide_eq_true (by omega)) ?_
   refine cxe 1 c rfl rfl rfl (.inl rfl) ?_
   refine ⟨(show (acc.length + 1) * 48 ≤ 140737488355328 ∧ acc.length + 1 ≤ 1000000000 by omega),?_⟩
   have e2 : ndL (acc ++ [n]) = ndL acc ++ ndC n:=ndL_snoc acc n
   refine nxg3 [0,1] g' a1 (acc ++ [n]) (by omega) rfl ⟨l1,by simp; omega,l',h2,by rw [List.append_assoc]; exact hx⟩ ⟨rfl,rfl,rfl,rfl,trivial⟩ ?_
   refine Eq.trans ?_ (congrArg (fun c=>([pB T a1 0,.row 104 3 c (ndL (acc ++ [n]))] : List AO)) (by simp : acc.length + 1 = (acc ++ [n]).length))
   exact congrArg (fun c=>([pB T a1 0,.row 104 3 (acc.length + 1) c] : List AO)) e2.symm
  ·obtain rfl : a = T.length:=by omega
   rw [List.drop_length] at hr
   have : rest = []:=by cases g <;> simpa [pgM] using hr.symm
   subst this
   rw [List.append_nil] at hx
   subst hx
   refine iff_ rfl (decide_eq_false (by omega)) ?_
   refine iff_ rfl rfl ?_
   refine cxg [] 0 [] (p_Depth hB hD (by decide)) rfl rfl rfl rfl ?_
   rintro _ _ ⟨⟨d,rfl,hd⟩,rfl⟩
   refine ⟨.inl rfl,?_⟩
   refine iff_ rfl (decide_eq_false (by omega)) ?_
   exact rfl
theorem v_negN {q : Rat} (h : lr q ≤ 10000) : Pc Tryz.prog 195 [VN q] (· = .tup [VN (-q),.raw (.int .i64 0)]):=by
 refine pc Tryz.func195 ?_
 refine ift rfl rfl ?_
 refine ce (r_Neg (q:=q) (by omega)) rfl ?_
 refine ce (v_numbers (q:=-q) (e:=0)) rfl ?_
 exact rfl
theorem v_Unary {q : Rat} (h : lr q ≤ 10000) : Pc Tryz.prog 171 [.raw (.int .i64 3),VN q] (· = .tup [VN (-q),.raw (.int .i64 0)]):=by
 refine pc Tryz.func171 ?_
 refine ce (v_FormedN (q:=q) (by omega)) rfl ?_
 refine iff_ rfl rfl ?_
 refine iff_ rfl rfl ?_
 refine ce (v_negN h) rfl ?_
 exact rfl
def ndI (n : Nde) : IV:=.agg (ndC n)
theorem m_op_bin {op : Nat} {t : List Nat} {ks : IV} {u v w : V15} (h3 : ((op : Int) == 3) = false) (h13 : ((op : Int) == 13) = false) (h17 : ((op : Int) == 17) = false) (h16 : ((op : Int) == 16) = false)
  (hb : Pc Tryz.prog 174 [.raw (.int .i64 (op : Int)),u.i,v.i] (· = .tup [w.i,.raw (.int .i64 0)])) :
  Pc Tryz.prog 134 [.agg [.raw (.int .i64 (op : Int)),ts t,ks],.sl 2 15 (u.l ++ v.l)] (· = .tup [w.i,.raw (.int .i64 0)]):=by
 refine pc Tryz.func134 ?_
 refine iff_ rfl h3 ?_
 refine iff_ rfl h13 ?_
 refine iff_ rfl h17 ?_
 refine iff_ rfl h16 ?_
 refine rq [0,1,2,3,4,5,6,7,8,9,10,11,12] ?_
 refine ⟨by decide,?_⟩
 rintro _ rfl
 refine ⟨by decide,?_⟩
 rintro _ rfl
 refine ce hb rfl ?_
 exact rfl
theorem m_op_neg {t : List Nat} {ks : IV} {q : Rat} (h : lr q ≤ 10000) : Pc Tryz.prog 134 [.agg [.raw (.int .i64 3),ts t,ks],.sl 1 15 (nV q).l] (· = .tup [(nV (-q)).i,.raw (.int .i64 0)]):=by
 refine pc Tryz.func134 ?_
 refine ift rfl rfl ?_
 refine rq [0,1,2,3,4,5,6,7,8,9] ?_
 refine ⟨by decide,?_⟩
 rintro _ rfl
 refine ce (v_Unary h) rfl ?_
 exact rfl
theorem m_op_call {t : List Nat} {ks : IV} {n : Nat} {cs : List IV} {w : V15} (hc : Pc Tryz.prog 172 [ts t,.sl n 15 cs] (· = .tup [w.i,.raw (.int .i64 0)])) :
  Pc Tryz.prog 134 [.agg [.raw (.int .i64 13),ts t,ks],.sl n 15 cs] (· = .tup [w.i,.raw (.int .i64 0)]):=by
 refine pc Tryz.func134 ?_
 refine iff_ rfl rfl ?_
 refine ift rfl rfl ?_
 refine ce hc rfl ?_
 exact rfl
def Xp (Q : Ms → Prop) (N : Nde) (v : V15) (c : Nat) : Prop:=∀ s,Q s → ∀ F,c ≤ F → F ≤ 1000000 → Ec Tryz.prog 83 (MR s) (MH F s) [.ref 0 0,ndA N] (Is v.a (MH (F - c) s))
def XpL (Q : Ms → Prop) : List Nde → List V15 → Nat → Prop
 | [],[],c=>c = 0
 | N :: Ns,v :: vs,c=>∃ c1 c2,c = c1 + c2 ∧ Xp Q N v c1 ∧ XpL Q Ns vs c2
 | _,_,_=>False
def vcL' (vs : List V15) : List IV:=(vs.map V15.l).flatten
theorem vcL_snoc (vs : List V15) (v : V15) : vcL' (vs ++ [v]) = vcL' vs ++ v.l:=by unfold vcL'; simp
theorem m_all {Q : Ms → Prop} {Ns : List Nde} {vs : List V15} {c : Nat} (h : XpL Q Ns vs c) (hne : Ns ≠ []) (hl : Ns.length ≤ 1000) {s : Ms} (hs : Q s) {F : Nat} (hc : c ≤ F) (hF : F ≤ 1000000) :
  Ec Tryz.prog 133 (MR s) (MH F s) [.ref 0 0,.im (.sl Ns.length 3 (ndL Ns))] (Is (.im (.sl vs.length 15 (vcL' vs))) (MH (F - c) s)):=by
 cases s with
 | a=>
  refine ec Tryz.func133 ?_
  refine lfv 5 57 15 rfl ?_
  refine lpt3 (fun (j g : Nat) (acc : List V15)=>j ≤ Ns.length ∧ g ≤ 1000000 ∧ acc.length = j ∧ ∃ rest cr,XpL Q (Ns.drop j) rest cr ∧ cr ≤ g ∧ g - cr = F - c ∧ acc ++ rest = vs)
   (fun j _ _=>[(0,.ref 0 0),(5,.own 2),(8,.im (.sl Ns.length 3 (ndL Ns))),(9,ri .i64 Ns.length),(10,ri .i64 j)])
   (fun _ g acc=>MH g .a ++ [.row 57 15 acc.length (vcL' acc)]) (fun j _ _=>Ns.length - j) 0 F [] ⟨Nat.zero_le _,hF,rfl,vs,c,h,hc,rfl,rfl⟩ (tsr rfl) rfl ?_
  rintro j g acc t ⟨hj,hg,hacc,rest,cr,hx,hcr,hgc,hv⟩
  refine ifs rfl (fun h1=>?_) (fun h1=>?_)
  ·have h1:=of_decide_eq_true h1
   have hj : j < Ns.length:=by omega
   obtain ⟨N,hN⟩ : ∃ N,Ns[j]? = some N:=⟨_,List.getElem?_eq_getElem hj⟩
   have hd : Ns.drop j = N :: Ns.drop (j + 1):=by
    obtain ⟨p1,p2⟩:=List.getElem?_eq_some_iff.1 hN
    rw [List.drop_eq_getElem_cons p1,p2]
   rw [hd] at hx
   cases rest with
   | nil=>exact hx.elim
   | cons v rest=>
    obtain ⟨c1,c2,rfl,e1,e2⟩:=hx
    rw [ndL_flat Ns]
    refine gm (ndC_len Ns) j ⟨by omega,by omega⟩ (by rw [List.getElem?_map,hN]; rfl) (by rw [Int.toNat_natCast]) fun l'=>?_
    refine cxe 2 (e1 .a hs g (by omega) hg) rfl rfl rfl (.inl rfl) ?_
    refine ⟨(show (acc.length + 1) * 232 ≤ 140737488355328 ∧ acc.length + 1 ≤ 1000000000 by omega),?_⟩
    have en : vcL' (acc ++ [v]) = vcL' acc ++ v.l:=vcL_snoc acc v
    refine nxg3 [0,1,2] (j + 1) (g - c1) (acc ++ [v]) (by omega) rfl ⟨by omega,by omega,by simp; omega,rest,c2,e2,by omega,by omega,by rw [List.append_assoc]; exact hv⟩ ⟨rfl,rfl,rfl,rfl,congrArg (ri .i64) (i64s (by omega)).symm,trivial⟩ ?_
    refine Eq.trans ?_ (congrArg (fun k=>(MH (g - c1) .a ++ [.row 57 15 k (vcL' (acc ++ [v]))] : List AO)) (by simp : acc.length + 1 = (acc ++ [v]).length))
    exact congrArg (fun l=>(MH (g - c1) .a ++ [.row 57 15 (acc.length + 1) l] : List AO)) en.symm
  ·have h1:=of_decide_eq_false h1
   obtain rfl : j = Ns.length:=by omega
   rw [List.drop_length] at hx
   cases rest with
   | cons _ _=>exact hx.elim
   | nil=>
    obtain rfl : cr = 0:=hx
    rw [List.append_nil] at hv
    subst hv
    have : g = F - c:=by omega
    subst this
    exact fin [0,1] rfl ⟨rfl,rfl⟩
 | b x=>
  refine ec Tryz.func133 ?_
  refine lfv 5 57 15 rfl ?_
  refine lpt3 (fun (j g : Nat) (acc : List V15)=>j ≤ Ns.length ∧ g ≤ 1000000 ∧ acc.length = j ∧ ∃ rest cr,XpL Q (Ns.drop j) rest cr ∧ cr ≤ g ∧ g - cr = F - c ∧ acc ++ rest = vs)
   (fun j _ _=>[(0,.ref 0 0),(5,.own 2),(8,.im (.sl Ns.length 3 (ndL Ns))),(9,ri .i64 Ns.length),(10,ri .i64 j)])
   (fun _ g acc=>MH g (.b x) ++ [.row 57 15 acc.length (vcL' acc)]) (fun j _ _=>Ns.length - j) 0 F [] ⟨Nat.zero_le _,hF,rfl,vs,c,h,hc,rfl,rfl⟩ (tsr rfl) rfl ?_
  rintro j g acc t ⟨hj,hg,hacc,rest,cr,hx,hcr,hgc,hv⟩
  refine ifs rfl (fun h1=>?_) (fun h1=>?_)
  ·have h1:=of_decide_eq_true h1
   have hj : j < Ns.length:=by omega
   obtain ⟨N,hN⟩ : ∃ N,Ns[j]? = some N:=⟨_,List.getElem?_eq_getElem hj⟩
   have hd : Ns.drop j = N :: Ns.drop (j + 1):=by
    obtain ⟨p1,p2⟩:=List.getElem?_eq_some_iff.1 hN
    rw [List.drop_eq_getElem_cons p1,p2]
   rw [hd] at hx
   cases rest with
   | nil=>exact hx.elim
   | cons v rest=>
    obtain ⟨c1,c2,rfl,e1,e2⟩:=hx
    rw [ndL_flat Ns]
    refine gm (ndC_len Ns) j ⟨by omega,by omega⟩ (by rw [List.getElem?_map,hN]; rfl) (by rw [Int.toNat_natCast]) fun l'=>?_
    refine cxe 2 (e1 (.b x) hs g (by omega) hg) rfl rfl rfl (.inl rfl) ?_
    refine ⟨(show (acc.length + 1) * 232 ≤ 140737488355328 ∧ acc.length + 1 ≤ 1000000000 by omega),?_⟩
    have en : vcL' (acc ++ [v]) = vcL' acc ++ v.l:=vcL_snoc acc v
    refine nxg3 [0,1,2] (j + 1) (g - c1) (acc ++ [v]) (by omega) rfl ⟨by omega,by omega,by simp; omega,rest,c2,e2,by omega,by omega,by rw [List.append_assoc]; exact hv⟩ ⟨rfl,rfl,rfl,rfl,congrArg (ri .i64) (i64s (by omega)).symm,trivial⟩ ?_
    refine Eq.trans ?_ (congrArg (fun k=>(MH (g - c1) (.b x) ++ [.row 57 15 k (vcL' (acc ++ [v]))] : List AO)) (by simp : acc.length + 1 = (acc ++ [v]).length))
    exact congrArg (fun l=>(MH (g - c1) (.b x) ++ [.row 57 15 (acc.length + 1) l] : List AO)) en.symm
  ·have h1:=of_decide_eq_false h1
   obtain rfl : j = Ns.length:=by omega
   rw [List.drop_length] at hx
   cases rest with
   | cons _ _=>exact hx.elim
   | nil=>
    obtain rfl : cr = 0:=hx
    rw [List.append_nil] at hv
    subst hv
    have : g = F - c:=by omega
    subst this
    exact fin [0,1] rfl ⟨rfl,rfl⟩
 | c x y=>
  refine ec Tryz.func133 ?_
  refine lfv 5 57 15 rfl ?_
  refine lpt3 (fun (j g : Nat) (acc : List V15)=>j ≤ Ns.length ∧ g ≤ 1000000 ∧ acc.length = j ∧ ∃ rest cr,XpL Q (Ns.drop j) rest cr ∧ cr ≤ g ∧ g - cr = F - c ∧ acc ++ rest = vs)
   (fun j _ _=>[(0,.ref 0 0),(5,.own 2),(8,.im (.sl Ns.length 3 (ndL Ns))),(9,ri .i64 Ns.length),(10,ri .i64 j)])
   (fun _ g acc=>MH g (.c x y) ++ [.row 57 15 acc.length (vcL' acc)]) (fun j _ _=>Ns.length - j) 0 F [] ⟨Nat.zero_le _,hF,rfl,vs,c,h,hc,rfl,rfl⟩ (tsr rfl) rfl ?_
  rintro j g acc t ⟨hj,hg,hacc,rest,cr,hx,hcr,hgc,hv⟩
  refine ifs rfl (fun h1=>?_) (fun h1=>?_)
  ·have h1:=of_decide_eq_true h1
   have hj : j < Ns.length:=by omega
   obtain ⟨N,hN⟩ : ∃ N,Ns[j]? = some N:=⟨_,List.getElem?_eq_getElem hj⟩
   have hd : Ns.drop j = N :: Ns.drop (j + 1):=by
    obtain ⟨p1,p2⟩:=List.getElem?_eq_some_iff.1 hN
    rw [List.drop_eq_getElem_cons p1,p2]
   rw [hd] at hx
   cases rest with
   | nil=>exact hx.elim
   | cons v rest=>
    obtain ⟨c1,c2,rfl,e1,e2⟩:=hx
    rw [ndL_flat Ns]
    refine gm (ndC_len Ns) j ⟨by omega,by omega⟩ (by rw [List.getElem?_map,hN]; rfl) (by rw [Int.toNat_natCast]) fun l'=>?_
    refine cxe 2 (e1 (.c x y) hs g (by omega) hg) rfl rfl rfl (.inl rfl) ?_
    refine ⟨(show (acc.length + 1) * 232 ≤ 140737488355328 ∧ acc.length + 1 ≤ 1000000000 by omega),?_⟩
    have en : vcL' (acc ++ [v]) = vcL' acc ++ v.l:=vcL_snoc acc v
    refine nxg3 [0,1,2] (j + 1) (g - c1) (acc ++ [v]) (by omega) rfl ⟨by omega,by omega,by simp; omega,rest,c2,e2,by omega,by omega,by rw [List.append_assoc]; exact hv⟩ ⟨rfl,rfl,rfl,rfl,congrArg (ri .i64) (i64s (by omega)).symm,trivial⟩ ?_
    refine Eq.trans ?_ (congrArg (fun k=>(MH (g - c1) (.c x y) ++ [.row 57 15 k (vcL' (acc ++ [v]))] : List AO)) (by simp : acc.length + 1 = (acc ++ [v]).length))
    exact congrArg (fun l=>(MH (g - c1) (.c x y) ++ [.row 57 15 (acc.length + 1) l] : List AO)) en.symm
  ·have h1:=of_decide_eq_false h1
   obtain rfl : j = Ns.length:=by omega
   rw [List.drop_length] at hx
   cases rest with
   | cons _ _=>exact hx.elim
   | nil=>
    obtain rfl : cr = 0:=hx
    rw [List.append_nil] at hv
    subst hv
    have : g = F - c:=by omega
    subst this
    exact fin [0,1] rfl ⟨rfl,rfl⟩
 | d x y tl tq=>
  refine ec Tryz.func133 ?_
  refine lfv 5 57 15 rfl ?_
  refine lpt3 (fun (j g : Nat) (acc : List V15)=>j ≤ Ns.length ∧ g ≤ 1000000 ∧ acc.length = j ∧ ∃ rest cr,XpL Q (Ns.drop j) rest cr ∧ cr ≤ g ∧ g - cr = F - c ∧ acc ++ rest = vs)
   (fun j _ _=>[(0,.ref 0 0),(5,.own 3),(8,.im (.sl Ns.length 3 (ndL Ns))),(9,ri .i64 Ns.length),(10,ri .i64 j)])
   (fun _ g acc=>MH g (.d x y tl tq) ++ [.row 57 15 acc.length (vcL' acc)]) (fun j _ _=>Ns.length - j) 0 F [] ⟨Nat.zero_le _,hF,rfl,vs,c,h,hc,rfl,rfl⟩ (tsr rfl) rfl ?_
  rintro j g acc t ⟨hj,hg,hacc,rest,cr,hx,hcr,hgc,hv⟩
  refine ifs rfl (fun h1=>?_) (fun h1=>?_)
  ·have h1:=of_decide_eq_true h1
   have hj : j < Ns.length:=by omega
   obtain ⟨N,hN⟩ : ∃ N,Ns[j]? = some N:=⟨_,List.getElem?_eq_getElem hj⟩
   have hd : Ns.drop j = N :: Ns.drop (j + 1):=by
    obtain ⟨p1,p2⟩:=List.getElem?_eq_some_iff.1 hN
    rw [List.drop_eq_getElem_cons p1,p2]
   rw [hd] at hx
   cases rest with
   | nil=>exact hx.elim
   | cons v rest=>
    obtain ⟨c1,c2,rfl,e1,e2⟩:=hx
    rw [ndL_flat Ns]
    refine gm (ndC_len Ns) j ⟨by omega,by omega⟩ (by rw [List.getElem?_map,hN]; rfl) (by rw [Int.toNat_natCast]) fun l'=>?_
    refine cxe 3 (e1 (.d x y tl tq) hs g (by omega) hg) rfl rfl rfl (.inl rfl) ?_
    refine ⟨(show (acc.length + 1) * 232 ≤ 140737488355328 ∧ acc.length + 1 ≤ 1000000000 by omega),?_⟩
    have en : vcL' (acc ++ [v]) = vcL' acc ++ v.l:=vcL_snoc acc v
    refine nxg3 [0,1,2,3] (j + 1) (g - c1) (acc ++ [v]) (by omega) rfl ⟨by omega,by omega,by simp; omega,rest,c2,e2,by omega,by omega,by rw [List.append_assoc]; exact hv⟩ ⟨rfl,rfl,rfl,rfl,congrArg (ri .i64) (i64s (by omega)).symm,trivial⟩ ?_
    refine Eq.trans ?_ (congrArg (fun k=>(MH (g - c1) (.d x y tl tq) ++ [.row 57 15 k (vcL' (acc ++ [v]))] : List AO)) (by simp : acc.length + 1 = (acc ++ [v]).length))
    exact congrArg (fun l=>(MH (g - c1) (.d x y tl tq) ++ [.row 57 15 (acc.length + 1) l] : List AO)) en.symm
  ·have h1:=of_decide_eq_false h1
   obtain rfl : j = Ns.length:=by omega
   rw [List.drop_length] at hx
   cases rest with
   | cons _ _=>exact hx.elim
   | nil=>
    obtain rfl : cr = 0:=hx
    rw [List.append_nil] at hv
    subst hv
    have : g = F - c:=by omega
    subst this
    exact fin [0,1,2] rfl ⟨rfl,rfl⟩
 | e tl tq=>
  refine ec Tryz.func133 ?_
  refine lfv 5 57 15 rfl ?_
  refine lpt3 (fun (j g : Nat) (acc : List V15)=>j ≤ Ns.length ∧ g ≤ 1000000 ∧ acc.length = j ∧ ∃ rest cr,XpL Q (Ns.drop j) rest cr ∧ cr ≤ g ∧ g - cr = F - c ∧ acc ++ rest = vs)
   (fun j _ _=>[(0,.ref 0 0),(5,.own 3),(8,.im (.sl Ns.length 3 (ndL Ns))),(9,ri .i64 Ns.length),(10,ri .i64 j)])
   (fun _ g acc=>MH g (.e tl tq) ++ [.row 57 15 acc.length (vcL' acc)]) (fun j _ _=>Ns.length - j) 0 F [] ⟨Nat.zero_le _,hF,rfl,vs,c,h,hc,rfl,rfl⟩ (tsr rfl) rfl ?_
  rintro j g acc t ⟨hj,hg,hacc,rest,cr,hx,hcr,hgc,hv⟩
  refine ifs rfl (fun h1=>?_) (fun h1=>?_)
  ·have h1:=of_decide_eq_true h1
   have hj : j < Ns.length:=by omega
   obtain ⟨N,hN⟩ : ∃ N,Ns[j]? = some N:=⟨_,List.getElem?_eq_getElem hj⟩
   have hd : Ns.drop j = N :: Ns.drop (j + 1):=by
    obtain ⟨p1,p2⟩:=List.getElem?_eq_some_iff.1 hN
    rw [List.drop_eq_getElem_cons p1,p2]
   rw [hd] at hx
   cases rest with
   | nil=>exact hx.elim
   | cons v rest=>
    obtain ⟨c1,c2,rfl,e1,e2⟩:=hx
    rw [ndL_flat Ns]
    refine gm (ndC_len Ns) j ⟨by omega,by omega⟩ (by rw [List.getElem?_map,hN]; rfl) (by rw [Int.toNat_natCast]) fun l'=>?_
    refine cxe 3 (e1 (.e tl tq) hs g (by omega) hg) rfl rfl rfl (.inl rfl) ?_
    refine ⟨(show (acc.length + 1) * 232 ≤ 140737488355328 ∧ acc.length + 1 ≤ 1000000000 by omega),?_⟩
    have en : vcL' (acc ++ [v]) = vcL' acc ++ v.l:=vcL_snoc acc v
    refine nxg3 [0,1,2,3] (j + 1) (g - c1) (acc ++ [v]) (by omega) rfl ⟨by omega,by omega,by simp; omega,rest,c2,e2,by omega,by omega,by rw [List.append_assoc]; exact hv⟩ ⟨rfl,rfl,rfl,rfl,congrArg (ri .i64) (i64s (by omega)).symm,trivial⟩ ?_
    refine Eq.trans ?_ (congrArg (fun k=>(MH (g - c1) (.e tl tq) ++ [.row 57 15 k (vcL' (acc ++ [v]))] : List AO)) (by simp : acc.length + 1 = (acc ++ [v]).length))
    exact congrArg (fun l=>(MH (g - c1) (.e tl tq) ++ [.row 57 15 (acc.length + 1) l] : List AO)) en.symm
  ·have h1:=of_decide_eq_false h1
   obtain rfl : j = Ns.length:=by omega
   rw [List.drop_length] at hx
   cases rest with
   | cons _ _=>exact hx.elim
   | nil=>
    obtain rfl : cr = 0:=hx
    rw [List.append_nil] at hv
    subst hv
    have : g = F - c:=by omega
    subst this
    exact fin [0,1,2] rfl ⟨rfl,rfl⟩
end Go.Proofs.YtlhmaljjdpjkgaaGreatDoor
namespace Go.Proofs.YtlhmaljjdpjkgaaGreatDoor
def entW (z : Int) : List Wrd:=if z < 0 then [(3,[45],0),(1,dgs z.natAbs,0)] else [(1,dgs z.natAbs,0)]
def rowW : List Int → List Wrd
 | []=>[]
 | [z]=>entW z
 | z :: y :: r=>entW z ++ ((3,[44],1) :: rowW (y :: r))
def rowsW : List (List Int) → List Wrd
 | []=>[]
 | [r]=>rowW r
 | r :: s :: l=>rowW r ++ ((3,[59],1) :: rowsW (s :: l))
def zeroW : List Wrd:=[(2,[122,101,114,111],0),(3,[40],0),(1,[48],0),(3,[44],1),(1,[48],0),(3,[41],0)]
def matW : List (List Int) → List Wrd
 | []=>zeroW
 | r :: l=>(3,[91],0) :: (rowsW (r :: l) ++ [(3,[93],0)])
def restW : List Wrd:=[(2,[100,101,116],0),(3,[40],0),(2,[120],1),(3,[42],1),(2,[121],0),(3,[41],1),(3,[61,61],1),(2,[100,101,116],0),(3,[40],0),(2,[120],0),(3,[41],1),(3,[42],1),(2,[100,101,116],0),(3,[40],0),(2,[121],0),(3,[41],0),(3,[59],1),(2,[116,114,97,99,101],0),(3,[40],0),(2,[120],1),(3,[42],1),(2,[121],0),(3,[41],1),(3,[61,61],1),(2,[116,114,97,99,101],0),(3,[40],0),(2,[121],1),(3,[42],1),(2,[120],0),(3,[41],0),(3,[59],1),(2,[114,97,110,107],0),(3,[40],0),(2,[120],1),(3,[42],1),(2,[121],0),(3,[41],1),(3,[60,61],1),(2,[114,97,110,107],0),(3,[40],0),(2,[120],0),(3,[41],0),(3,[59],1),(2,[116,114,97,110,115,112,111,115,101],0),(3,[40],0),(2,[120],1),(3,[42],1),(2,[121],0),(3,[41],1),(3,[61,61],1),(2,[116,114,97,110,115,112,111,115,101],0),(3,[40],0),(2,[121],0),(3,[41],1),(3,[42],1),(2,[116,114,97,110,115,112,111,115,101],0),(3,[40],0),(2,[120],0),(3,[41],0),(3,[59],1),(3,[40],0),(2,[120],1),(3,[43],1),(2,[121],0),(3,[41],1),(3,[42],1),(3,[40],0),(2,[120],1),(3,[45],1),(2,[121],0),(3,[41],1),(3,[61,61],1),(2,[120],1),(3,[94],1),(1,[50],1),(3,[45],1),(2,[120],1),(3,[42],1),(2,[121],1),(3,[43],1),(2,[121],1),(3,[42],1),(2,[120],1),(3,[45],1),(2,[121],1),(3,[94],1),(1,[50],0),(3,[59],1),(2,[97,100,106],0),(3,[40],0),(2,[120],0),(3,[41],1),(3,[42],1),(2,[120],1),(3,[61,61],1),(2,[100,101,116],0),(3,[40],0),(2,[120],0),(3,[41],1),(3,[42],1),(2,[120],1),(3,[94],1),(1,[48],0),(3,[59],0)]
def awakeW : List Wrd:=[(1,[50],1),(3,[43],1),(1,[51],0),(3,[59],0)]
def progW (a b : List (List Int)) : List Wrd:=
 [(2,[120],1),(3,[61],1)] ++ (matW a ++ ([(3,[59],1),(2,[121],1),(3,[61],1)] ++ (matW b ++ ((3,[59],1) :: restW))))
def entN (z : Int) : Nde:=if z < 0 then .mk 3 [] [.mk 1 (dgs z.natAbs) []] else .mk 1 (dgs z.natAbs) []
def lineN (r : List Int) : Nde:=.mk 15 [] (r.map entN)
def matN : List (List Int) → Nde
 | []=>.mk 13 [122,101,114,111] [.mk 1 [48] [],.mk 1 [48] []]
 | r :: l=>.mk 14 [] ((r :: l).map lineN)
def restN : List Nde:=[.mk 19 [] [.mk 9 [] [.mk 13 [100,101,116] [.mk 6 [] [.mk 2 [120] [],.mk 2 [121] []]],.mk 6 [] [.mk 13 [100,101,116] [.mk 2 [120] []],.mk 13 [100,101,116] [.mk 2 [121] []]]]],
 .mk 19 [] [.mk 9 [] [.mk 13 [116,114,97,99,101] [.mk 6 [] [.mk 2 [120] [],.mk 2 [121] []]],.mk 13 [116,114,97,99,101] [.mk 6 [] [.mk 2 [121] [],.mk 2 [120] []]]]],
 .mk 19 [] [.mk 12 [] [.mk 13 [114,97,110,107] [.mk 6 [] [.mk 2 [120] [],.mk 2 [121] []]],.mk 13 [114,97,110,107] [.mk 2 [120] []]]],
 .mk 19 [] [.mk 9 [] [.mk 13 [116,114,97,110,115,112,111,115,101] [.mk 6 [] [.mk 2 [120] [],.mk 2 [121] []]],.mk 6 [] [.mk 13 [116,114,97,110,115,112,111,115,101] [.mk 2 [121] []],.mk 13 [116,114,97,110,115,112,111,115,101] [.mk 2 [120] []]]]],
 .mk 19 [] [.mk 9 [] [.mk 6 [] [.mk 4 [] [.mk 2 [120] [],.mk 2 [121] []],.mk 5 [] [.mk 2 [120] [],.mk 2 [121] []]],.mk 5 [] [.mk 4 [] [.mk 5 [] [.mk 8 [] [.mk 2 [120] [],.mk 1 [50] []],.mk 6 [] [.mk 2 [120] [],.mk 2 [121] []]],.mk 6 [] [.mk 2 [121] [],.mk 2 [120] []]],.mk 8 [] [.mk 2 [121] [],.mk 1 [50] []]]]],
 .mk 19 [] [.mk 9 [] [.mk 6 [] [.mk 13 [97,100,106] [.mk 2 [120] []],.mk 2 [120] []],.mk 6 [] [.mk 13 [100,101,116] [.mk 2 [120] []],.mk 8 [] [.mk 2 [120] [],.mk 1 [48] []]]]]]
def awakeN : List Nde:=[.mk 19 [] [.mk 4 [] [.mk 1 [50] [],.mk 1 [51] []]]]
def progN (a b : List (List Int)) : List Nde:=.mk 18 [120] [matN a] :: .mk 18 [121] [matN b] :: restN
def smI (z : Int) : Prop:=z.natAbs < 10 ^ 36
theorem cat_append : ∀ l r : List Wrd,cat (l ++ r) = cat l ++ cat r
 | [],_=>rfl
 | (k,t,g) :: l,r=>by rw [List.cons_append,cat,cat,cat_append l r]; simp
theorem toks_append : ∀ (l r : List Wrd) (a : Nat),toks (l ++ r) a = toks l a ++ toks r (a + (cat l).length)
 | [],_,_=>rfl
 | (k,t,g) :: l,r,a=>by
  rw [List.cons_append,toks,toks,toks_append l r,cat]
  have e : a + t.length + g + (cat l).length = a + (t ++ (spc g ++ cat l)).length:=by simp [spc]; omega
  rw [e]; rfl
def nwB (l : List Wrd) : Bool:=!((cat l).head?.any wordB)
theorem one_sep {c : Nat} (h : c ∈ [43,45,42,47,94,40,41,91,93,123,125,44,59]) (d : Option Nat) : sepB 3 [c] d = true:=by
 have h1 : ∀ x ∈ [43,45,42,47,94,40,41,91,93,123,125,44,59],oneB [x] = true ∧ ∀ d,twoB [x,d] = false:=by
  intro x hx
  simp only [List.mem_cons,List.not_mem_nil,or_false] at hx
  rcases hx with rfl | rfl | rfl | rfl | rfl | rfl | rfl | rfl | rfl | rfl | rfl | rfl | rfl <;> exact ⟨rfl,fun d=>by simp [twoB]⟩
 obtain ⟨h2,h3⟩:=h1 c h
 show ((twoB [c] || (oneB [c] && !(d.any fun d=>twoB ([c] ++ [d])))) && 3 == 3) = true
 rw [h2]
 cases d with
 | none=>simp
 | some d=>show ((twoB [c] || (true && !(twoB [c,d]))) && true) = true; rw [h3]; simp
theorem wrd_cons {k : Nat} {t : List Nat} {g : Nat} {l : List Wrd} (h : sepB k t (spc g ++ cat l).head? = true) (hl : wrdB l = true) : wrdB ((k,t,g) :: l) = true:=by
 rw [wrdB,h,hl]; rfl
theorem ent_wrd {z : Int} (hz : smI z) {l : List Wrd} (hl : wrdB l = true) (hn : nwB l = true) : wrdB (entW z ++ l) = true:=by
 have h1 : wrdB ((1,dgs z.natAbs,0) :: l) = true:=wrd_cons (by
  show (numB (dgs z.natAbs) && !((cat l).head?.any wordB)) = true
  rw [numB_dgs hz]; exact hn) hl
 unfold entW
 split
 ·exact wrd_cons (one_sep (by decide) _) h1
 ·exact h1
theorem row_wrd : ∀ {r : List Int} (_ : ∀ z ∈ r,smI z) {l : List Wrd} (_ : wrdB l = true) (_ : nwB l = true),wrdB (rowW r ++ l) = true
 | [],_,l,hl,_=>hl
 | [z],h,l,hl,hn=>ent_wrd (h z (by simp)) hl hn
 | z :: y :: r,h,l,hl,hn=>by
  rw [rowW,List.append_assoc]
  exact ent_wrd (h z (by simp)) (wrd_cons (one_sep (by decide) _) (row_wrd (fun w hw=>h w (List.mem_cons_of_mem _ hw)) hl hn)) rfl
theorem rows_wrd : ∀ {r : List (List Int)} (_ : ∀ s ∈ r,∀ z ∈ s,smI z) {l : List Wrd} (_ : wrdB l = true) (_ : nwB l = true),wrdB (rowsW r ++ l) = true
 | [],_,l,hl,_=>hl
 | [s],h,l,hl,hn=>row_wrd (h s (by simp)) hl hn
 | s :: t :: r,h,l,hl,hn=>by
  rw [rowsW,List.append_assoc]
  exact row_wrd (h s (by simp)) (wrd_cons (one_sep (by decide) _) (rows_wrd (fun w hw=>h w (List.mem_cons_of_mem _ hw)) hl hn)) rfl
theorem zero_wrd {l : List Wrd} (hl : wrdB l = true) : wrdB (zeroW ++ l) = true:=by
 refine wrd_cons (by rfl) (wrd_cons (by rfl) (wrd_cons (by rfl) (wrd_cons (by rfl) (wrd_cons (by rfl) (wrd_cons (one_sep (by decide) _) hl)))))
theorem mat_wrd {r : List (List Int)} (h : ∀ s ∈ r,∀ z ∈ s,smI z) {l : List Wrd} (hl : wrdB l = true) : wrdB (matW r ++ l) = true:=by
 cases r with
 | nil=>exact zero_wrd hl
 | cons s r=>
  show wrdB ((3,[91],0) :: (rowsW (s :: r) ++ [(3,[93],0)] ++ l)) = true
  rw [List.append_assoc]
  exact wrd_cons (one_sep (by decide) _) (rows_wrd h (wrd_cons (one_sep (by decide) _) hl) rfl)
theorem rest_wrd : wrdB restW = true:=by decide
theorem awake_wrd : wrdB awakeW = true:=by decide
theorem prog_wrd {a b : List (List Int)} (ha : ∀ s ∈ a,∀ z ∈ s,smI z) (hb : ∀ s ∈ b,∀ z ∈ s,smI z) : wrdB (progW a b) = true:=by
 refine wrd_cons (by rfl) (wrd_cons (by rfl) (mat_wrd ha (wrd_cons (one_sep (by decide) _) (wrd_cons (by rfl) (wrd_cons (by rfl) (mat_wrd hb (wrd_cons (one_sep (by decide) _) rest_wrd)))))))
theorem eu_ent (f : Nat) (z : Int) (a b : Nat) {s : List Nat} (hs : s = [44] ∨ s = [59] ∨ s = [93]) (R : List Tok) : (eu (f + 2)).1 (toks (entW z) a ++ (3,s,b) :: R) = some (entN z,(3,s,b) :: R):=by
 unfold entW entN
 by_cases hz : z < 0
 ·rw [if_pos hz,if_pos hz]
  rcases hs with rfl | rfl | rfl <;> rfl
 ·rw [if_neg hz,if_neg hz]
  rcases hs with rfl | rfl | rfl <;> rfl
theorem mt_step {E : Ps} {g : Nat} {row rows : List Nde} {ts r : List Tok} {n : Nde} {b : Nat} (h : E ts = some (n,(3,[44],b) :: r)) : mtM E (g + 1) row rows ts = mtM E g (row ++ [n]) rows r:=by
 rw [mtM,h]; rfl
theorem mt_line {E : Ps} {g : Nat} {row rows : List Nde} {ts r : List Tok} {n : Nde} {b : Nat} (h : E ts = some (n,(3,[59],b) :: r)) : mtM E (g + 1) row rows ts = mtM E g [] (rows ++ [.mk 15 [] (row ++ [n])]) r:=by
 rw [mtM,h]; rfl
theorem mt_end {E : Ps} {g : Nat} {row rows : List Nde} {ts r : List Tok} {n : Nde} {b : Nat} (h : E ts = some (n,(3,[93],b) :: r)) : mtM E (g + 1) row rows ts = some (.mk 14 [] (rows ++ [.mk 15 [] (row ++ [n])]),r):=by
 rw [mtM,h]; rfl
theorem mt_rowA (f : Nat) : ∀ (r : List Int) (_ : r ≠ []) (g a b : Nat) (row rows : List Nde) (R : List Tok),
  mtM (eu (f + 2)).1 (g + r.length) row rows (toks (rowW r) a ++ (3,[59],b) :: R) = mtM (eu (f + 2)).1 g [] (rows ++ [.mk 15 [] (row ++ r.map entN)]) R
 | [],h,_,_,_,_,_,_=>absurd rfl h
 | [z],_,g,a,b,row,rows,R=>mt_line (eu_ent f z a b (.inr (.inl rfl)) R)
 | z :: y :: r,_,g,a,b,row,rows,R=>by
  have h1:=mt_rowA f (y :: r) (by simp) g (a + (cat (entW z)).length + 1 + 1) b (row ++ [entN z]) rows R
  rw [rowW,toks_append,List.append_assoc]
  have h2:=mt_step (g:=g + (y :: r).length) (row:=row) (rows:=rows) (eu_ent f z a (a + (cat (entW z)).length) (s:=[44]) (.inl rfl) (toks (rowW (y :: r)) (a + (cat (entW z)).length + 1 + 1) ++ (3,[59],b) :: R))
  refine Eq.trans h2 (Eq.trans h1 ?_)
  simp
theorem mt_rowB (f : Nat) : ∀ (r : List Int) (_ : r ≠ []) (g a b : Nat) (row rows : List Nde) (R : List Tok),
  mtM (eu (f + 2)).1 (g + r.length) row rows (toks (rowW r) a ++ (3,[93],b) :: R) = some (.mk 14 [] (rows ++ [.mk 15 [] (row ++ r.map entN)]),R)
 | [],h,_,_,_,_,_,_=>absurd rfl h
 | [z],_,g,a,b,row,rows,R=>mt_end (eu_ent f z a b (.inr (.inr rfl)) R)
 | z :: y :: r,_,g,a,b,row,rows,R=>by
  have h1:=mt_rowB f (y :: r) (by simp) g (a + (cat (entW z)).length + 1 + 1) b (row ++ [entN z]) rows R
  rw [rowW,toks_append,List.append_assoc]
  have h2:=mt_step (g:=g + (y :: r).length) (row:=row) (rows:=rows) (eu_ent f z a (a + (cat (entW z)).length) (s:=[44]) (.inl rfl) (toks (rowW (y :: r)) (a + (cat (entW z)).length + 1 + 1) ++ (3,[93],b) :: R))
  refine Eq.trans h2 (Eq.trans h1 ?_)
  simp
def cntL : List (List Int) → Nat
 | []=>0
 | r :: l=>cntL l + r.length
theorem mt_rows (f : Nat) : ∀ (l : List (List Int)) (_ : l ≠ []) (_ : ∀ r ∈ l,r ≠ []) (g a b : Nat) (rows : List Nde) (R : List Tok),
  mtM (eu (f + 2)).1 (g + cntL l) [] rows (toks (rowsW l) a ++ (3,[93],b) :: R) = some (.mk 14 [] (rows ++ l.map lineN),R)
 | [],h,_,_,_,_,_,_=>absurd rfl h
 | [r],_,h,g,a,b,rows,R=>by
  have:=mt_rowB f r (h r (by simp)) g a b [] rows R
  rw [List.nil_append] at this
  rw [show g + cntL [r] = g + r.length by simp [cntL]]
  exact this
 | r :: s :: l,_,h,g,a,b,rows,R=>by
  have h1:=mt_rows f (s :: l) (by simp) (fun r hr=>h r (List.mem_cons_of_mem _ hr)) g (a + (cat (rowW r)).length + 1 + 1) b (rows ++ [lineN r]) R
  have h2:=mt_rowA f r (h r (by simp)) (g + cntL (s :: l)) a (a + (cat (rowW r)).length) [] rows (toks (rowsW (s :: l)) (a + (cat (rowW r)).length + 1 + 1) ++ (3,[93],b) :: R)
  rw [List.nil_append] at h2
  rw [rowsW,toks_append,List.append_assoc]
  refine Eq.trans (b:=mtM (eu (f + 2)).1 (g + cntL (s :: l) + r.length) [] rows (toks (rowW r) a ++ (3,[59],a + (cat (rowW r)).length) :: (toks (rowsW (s :: l)) (a + (cat (rowW r)).length + 1 + 1) ++ (3,[93],b) :: R))) ?_ ?_
  ·rw [show g + cntL (r :: s :: l) = g + cntL (s :: l) + r.length by simp [cntL]; omega]; rfl
  ·refine Eq.trans h2 (Eq.trans h1 ?_)
   simp
theorem toks_len : ∀ (l : List Wrd) (a : Nat),(toks l a).length = l.length
 | [],_=>rfl
 | (k,t,g) :: l,a=>by rw [toks,List.length_cons,toks_len l,List.length_cons]
theorem row_cnt : ∀ r : List Int,r.length ≤ (rowW r).length
 | []=>Nat.le_refl 0
 | [z]=>by rw [rowW]; unfold entW; split <;> simp
 | z :: y :: r=>by
  have:=row_cnt (y :: r)
  have h : 1 ≤ (entW z).length:=by unfold entW; split <;> simp
  rw [rowW,List.length_append]; simp only [List.length_cons] at *; omega
theorem rows_cnt : ∀ l : List (List Int),cntL l ≤ (rowsW l).length
 | []=>Nat.le_refl 0
 | [r]=>by have:=row_cnt r; simp only [cntL,rowsW]; omega
 | r :: s :: l=>by
  have h1:=row_cnt r
  have:=rows_cnt (s :: l)
  rw [rowsW,List.length_append,cntL,List.length_cons]; omega
theorem eu_mat (f : Nat) (l : List (List Int)) (h : ∀ r ∈ l,r ≠ []) (a b : Nat) (R : List Tok) : (eu (f + 3)).1 (toks (matW l) a ++ (3,[59],b) :: R) = some (matN l,(3,[59],b) :: R):=by
 cases l with
 | nil=>rfl
 | cons r l=>
  have hc:=rows_cnt (r :: l)
  obtain ⟨g,hg⟩ : ∃ g,(toks (rowsW (r :: l)) (a + 1 + 0) ++ (3,[93],a + 1 + 0 + (cat (rowsW (r :: l))).length) :: (3,[59],b) :: R).length + 1 = g + cntL (r :: l):=⟨_,(Nat.sub_add_cancel (by rw [List.length_append,toks_len]; omega)).symm⟩
  have h1:=mt_rows f (r :: l) (by simp) h g (a + 1 + 0) (a + 1 + 0 + (cat (rowsW (r :: l))).length) [] ((3,[59],b) :: R)
  rw [← hg] at h1
  have e1 : toks (matW (r :: l)) a ++ (3,[59],b) :: R = (3,[91],a) :: (toks (rowsW (r :: l)) (a + 1 + 0) ++ (3,[93],a + 1 + 0 + (cat (rowsW (r :: l))).length) :: (3,[59],b) :: R):=by
   rw [matW,toks,toks_append]; simp [toks]
  rw [e1]
  generalize hT : toks (rowsW (r :: l)) (a + 1 + 0) ++ (3,[93],a + 1 + 0 + (cat (rowsW (r :: l))).length) :: (3,[59],b) :: R = T at h1 ⊢
  have h2 : prM (eu (f + 2)).1 ((3,[91],a) :: T) = some (matN (r :: l),(3,[59],b) :: R):=by
   refine Eq.trans ?_ (h1.trans ?_)
   ·rfl
   ·rw [List.nil_append,matN]
  have h3 : uM (eu (f + 2)).1 (eu (f + 2)).2 ((3,[91],a) :: T) = some (matN (r :: l),(3,[59],b) :: R):=by
   show unM _ (pwM _ _) _ = _
   unfold unM
   rw [if_neg (by show ¬ (false = true); decide)]
   unfold pwM
   rw [h2]; rfl
  have h4 : dM (eu (f + 2)).1 (eu (f + 2)).2 ((3,[91],a) :: T) = some (matN (r :: l),(3,[59],b) :: R):=by
   unfold dM cnM; rw [h3]; rfl
  have h5 : sM (eu (f + 2)).1 (eu (f + 2)).2 ((3,[91],a) :: T) = some (matN (r :: l),(3,[59],b) :: R):=by
   unfold sM cnM; rw [h4]; rfl
  show exM (sM (eu (f + 2)).1 (eu (f + 2)).2) _ = _
  unfold exM
  rw [h5]; rfl
theorem st_mat (f c : Nat) (l : List (List Int)) (h : ∀ r ∈ l,r ≠ []) (hc : c = 120 ∨ c = 121) (a a1 a2 b : Nat) (R : List Tok) : stM (eu (f + 3)).1 ((2,[c],a) :: (3,[61],a1) :: (toks (matW l) a2 ++ (3,[59],b) :: R)) = some (.mk 18 [c] [matN l],R):=by
 have h1:=eu_mat f l h a2 b R
 rcases hc with rfl | rfl
 ·refine Eq.trans (b:=match (eu (f + 3)).1 (toks (matW l) a2 ++ (3,[59],b) :: R) with
   | none=>none
   | some (n,r)=>if isT r [59] = true then some (.mk 18 [120] [n],r.tail) else none) rfl ?_
  rw [h1]; rfl
 ·refine Eq.trans (b:=match (eu (f + 3)).1 (toks (matW l) a2 ++ (3,[59],b) :: R) with
   | none=>none
   | some (n,r)=>if isT r [59] = true then some (.mk 18 [121] [n],r.tail) else none) rfl ?_
  rw [h1]; rfl
theorem rest_pg (a : Nat) : pgM (eu 5).1 7 (toks restW a) = some restN:=rfl
theorem awake_pg : pgM (eu 5).1 2 (toks awakeW 0) = some awakeN:=rfl
theorem pg_step {E : Ps} {g : Nat} {t : Tok} {ts r : List Tok} {n : Nde} {l : List Nde} (h : stM E (t :: ts) = some (n,r)) (h2 : pgM E g r = some l) : pgM E (g + 1) (t :: ts) = some (n :: l):=by
 show (match stM E (t :: ts) with
  | none=>none
  | some (n,r)=>(pgM E g r).map (n :: ·)) = _
 rw [h]; show (pgM E g r).map _ = _; rw [h2]; rfl
theorem prog_pg {a b : List (List Int)} (ha : ∀ r ∈ a,r ≠ []) (hb : ∀ r ∈ b,r ≠ []) : pgM (eu 5).1 9 (toks (progW a b) 0) = some (progN a b):=by
 have h1:=st_mat 2 120 a ha (.inl rfl) 0 2 4 (4 + (cat (matW a)).length)
 have h2:=st_mat 2 121 b hb (.inr rfl)
 have e : ∃ p q r s u,toks (progW a b) 0 = (2,[120],0) :: (3,[61],2) :: (toks (matW a) 4 ++ (3,[59],p) :: (2,[121],q) :: (3,[61],r) :: (toks (matW b) s ++ (3,[59],u) :: toks restW (u + 1 + 1))):=
  ⟨4 + (cat (matW a)).length,4 + (cat (matW a)).length + 1 + 1,4 + (cat (matW a)).length + 1 + 1 + 1 + 1,4 + (cat (matW a)).length + 1 + 1 + 1 + 1 + 1 + 1,4 + (cat (matW a)).length + 1 + 1 + 1 + 1 + 1 + 1 + (cat (matW b)).length,by
   unfold progW
   rw [List.cons_append,List.cons_append,List.nil_append,toks,toks,toks_append]
   show _ :: _ :: (_ ++ _ :: _ :: _ :: toks (matW b ++ _) _) = _
   rw [toks_append]; rfl⟩
 obtain ⟨p,q,r,s,u,e⟩:=e
 rw [e]
 exact pg_step (st_mat 2 120 a ha (.inl rfl) 0 2 4 p _) (pg_step (h2 q r s u _) (rest_pg _))
def ztx (z : Int) : List Nat:=if z < 0 then 45 :: dgs z.natAbs else dgs z.natAbs
def jnL : List (List Nat) → List Nat → List Nat
 | [],_=>[]
 | [x],_=>x
 | x :: y :: r,s=>x ++ (s ++ jnL (y :: r) s)
def tabL : List (List Int) → List Nat
 | []=>[122,101,114,111,40,48,44,32,48,41]
 | r :: l=>91 :: (jnL ((r :: l).map fun r=>jnL (r.map ztx) [44,32]) [59,32] ++ [93])
theorem cat_ent (z : Int) : cat (entW z) = ztx z:=by
 unfold entW ztx
 split <;> simp [cat,spc]
theorem cat_row : ∀ r : List Int,cat (rowW r) = jnL (r.map ztx) [44,32]
 | []=>rfl
 | [z]=>cat_ent z
 | z :: y :: r=>by
  have:=cat_row (y :: r)
  rw [rowW,cat_append,cat_ent,cat,this]; rfl
theorem cat_rows : ∀ l : List (List Int),cat (rowsW l) = jnL (l.map fun r=>jnL (r.map ztx) [44,32]) [59,32]
 | []=>rfl
 | [r]=>cat_row r
 | r :: s :: l=>by
  have:=cat_rows (s :: l)
  rw [rowsW,cat_append,cat_row,cat,this]; rfl
theorem cat_mat : ∀ l : List (List Int),cat (matW l) = tabL l
 | []=>by decide
 | r :: l=>by rw [matW,cat,cat_append,cat_rows]; rfl
def restL : List Nat:=cat restW
def progL (a b : List (List Int)) : List Nat:=[120,32,61,32] ++ tabL a ++ [59,32,121,32,61,32] ++ tabL b ++ [59,32] ++ restL
theorem cat_prog (a b : List (List Int)) : cat (progW a b) = progL a b:=by
 unfold progW progL restL
 rw [cat_append,cat_append,cat_mat,cat_append,cat_append,cat_mat]
 simp [cat,spc]
def byP (l : List Nat) : Bool:=l.all fun c=>decide (c < 256)
def isP (k : Nat) (t : List Nat) : Bool:=match k with
 | 1=>numB t
 | 2=>nameB t
 | 3=>oneB t || twoB t
 | _=>false
theorem sort_lt {c : Nat} (h : sortN c ≠ 0) : c < 256:=by
 unfold sortN at h
 split at h
 ·omega
 split at h
 ·omega
 split at h
 ·omega
 split at h
 ·omega
 split at h
 ·rename_i h5
  have : ∀ x ∈ [43,45,42,47,94,40,41,91,93,123,125,44,59,61,60,33,46],x < 256:=by decide
  exact this c h5
 ·exact absurd rfl h
theorem word_lt {c : Nat} (h : wordB c = true) : c < 256:=by
 refine sort_lt fun e=>?_
 unfold wordB at h; rw [e] at h; cases h
theorem sep_ok {k : Nat} {t : List Nat} {c : Option Nat} (h : sepB k t c = true) : byP t = true ∧ t.length ≤ 100000 ∧ isP k t = true:=by
 unfold sepB at h
 split at h
 ·simp only [Bool.and_eq_true] at h
  have h2:=h.1
  have h1:=numB_all h.1
  unfold numB at h2
  simp only [Bool.and_eq_true,decide_eq_true_eq] at h2
  refine ⟨List.all_eq_true.2 fun c hc=>decide_eq_true (word_lt (List.all_eq_true.1 h1 c hc)),by omega,h.1⟩
 ·simp only [Bool.and_eq_true] at h
  have h2:=h.1
  have h1:=nameB_all h.1
  unfold nameB at h2
  simp only [Bool.and_eq_true,decide_eq_true_eq] at h2
  refine ⟨List.all_eq_true.2 fun c hc=>decide_eq_true (word_lt (List.all_eq_true.1 h1 c hc)),by omega,h.1⟩
 ·simp only [Bool.and_eq_true,Bool.or_eq_true] at h
  obtain ⟨h,hk⟩:=h
  have hk : k = 3:=by simpa using hk
  subst hk
  rcases h with h | ⟨h,-⟩
  ·refine ⟨?_,?_,by simp [isP,h]⟩
   all_goals
    simp only [twoB,Bool.or_eq_true,beq_iff_eq] at h
    rcases h with ((h | h) | h) | h <;> subst h <;> decide
  ·refine ⟨?_,?_,by simp [isP,h]⟩
   all_goals
    simp only [oneB,Bool.and_eq_true,beq_iff_eq] at h
    obtain ⟨c,rfl⟩ : ∃ c,t = [c]:=List.length_eq_one_iff.1 h.1
    have hm : c ∈ [43,45,42,47,94,40,41,91,93,123,125,44,59,61,60]:=by simpa using h.2
    have : ∀ x ∈ [43,45,42,47,94,40,41,91,93,123,125,44,59,61,60],byP [x] = true ∧ [x].length ≤ 100000:=by decide
    first
     | exact (this c hm).1
     | exact (this c hm).2
theorem toks_ok : ∀ {l : List Wrd} (_ : wrdB l = true) (a : Nat),∀ t ∈ toks l a,byP t.2.1 = true ∧ t.2.1.length ≤ 100000 ∧ isP t.1 t.2.1 = true
 | [],_,_,t,ht=>by simp [toks] at ht
 | (k,t,g) :: l,h,a,u,hu=>by
  simp only [wrdB,Bool.and_eq_true] at h
  rw [toks,List.mem_cons] at hu
  rcases hu with rfl | hu
  ·exact sep_ok h.1
  ·exact toks_ok h.2 _ u hu
theorem byP_append {a b : List Nat} (ha : byP a = true) (hb : byP b = true) : byP (a ++ b) = true:=by unfold byP at *; rw [List.all_append,ha,hb]; rfl
theorem byP_spc (g : Nat) : byP (spc g) = true:=by
 refine List.all_eq_true.2 fun c hc=>?_
 rw [spc,List.mem_replicate] at hc
 rw [hc.2]; rfl
theorem cat_by : ∀ {l : List Wrd} (_ : wrdB l = true),byP (cat l) = true
 | [],_=>rfl
 | (k,t,g) :: l,h=>by
  simp only [wrdB,Bool.and_eq_true] at h
  exact byP_append (sep_ok h.1).1 (byP_append (byP_spc g) (cat_by h.2))
theorem ztx_len {z : Int} (h : smI z) : (ztx z).length ≤ 37:=by
 have h1:=(dgs_len z.natAbs (by unfold smI at h; omega)).2
 unfold ztx
 split <;> simp <;> omega
theorem jn_len {s : List Nat} {K : Nat} : ∀ (l : List (List Nat)) (_ : ∀ x ∈ l,x.length ≤ K),(jnL l s).length ≤ l.length * (K + s.length)
 | [],_=>Nat.zero_le _
 | [x],h=>by have:=h x (by simp); simp [jnL]; omega
 | x :: y :: r,h=>by
  have h1:=h x (by simp)
  have:=jn_len (s:=s) (y :: r) (fun w hw=>h w (List.mem_cons_of_mem _ hw))
  rw [jnL,List.length_append,List.length_append,List.length_cons,Nat.add_mul]
  omega
theorem tab_len {l : List (List Int)} (hl : l.length ≤ 4) (h4 : ∀ r ∈ l,r.length ≤ 4) (h : ∀ r ∈ l,∀ z ∈ r,smI z) : (tabL l).length ≤ 700:=by
 cases l with
 | nil=>decide
 | cons r l=>
  have h1:=jn_len (s:=[59,32]) (K:=156) ((r :: l).map fun r=>jnL (r.map ztx) [44,32]) (fun x hx=>by
   simp only [List.mem_map] at hx
   obtain ⟨r',hr,rfl⟩:=hx
   have h2:=jn_len (s:=[44,32]) (K:=37) (r'.map ztx) (fun y hy=>by
    simp only [List.mem_map] at hy
    obtain ⟨z,hz,rfl⟩:=hy
    exact ztx_len (h r' hr z hz))
   rw [List.length_map] at h2
   have:=h4 r' hr
   have : r'.length * (37 + 2) ≤ 4 * 39:=Nat.mul_le_mul this (Nat.le_refl _)
   exact Nat.le_trans h2 this)
  rw [List.length_map] at h1
  have h3 : (r :: l).length * (156 + 2) ≤ 4 * 158:=Nat.mul_le_mul hl (Nat.le_refl _)
  have h1 : (jnL ((r :: l).map fun r=>jnL (r.map ztx) [44,32]) [59,32]).length ≤ (r :: l).length * (156 + 2):=h1
  rw [tabL,List.length_cons,List.length_append]
  have : ([93] : List Nat).length = 1:=rfl
  omega
set_option maxRecDepth 8000 in
theorem restL_len : restL.length = 215:=by decide
theorem prog_len {a b : List (List Int)} (ha : (tabL a).length ≤ 700) (hb : (tabL b).length ≤ 700) : (progL a b).length ≤ 2000:=by
 have hr:=restL_len
 unfold progL
 simp only [List.length_append,List.length_cons,List.length_nil,hr]; omega
theorem toks_le : ∀ (l : List Wrd) (_ : wrdB l = true),l.length ≤ (cat l).length
 | [],_=>Nat.le_refl 0
 | (k,t,g) :: l,h=>by
  simp only [wrdB,Bool.and_eq_true] at h
  have:=toks_le l h.2
  obtain ⟨d,h1,-⟩:=sep_head h.1
  have h2 : 1 ≤ t.length:=by cases t with
   | nil=>simp at h1
   | cons _ _=>simp
  rw [cat,List.length_append,List.length_append,List.length_cons]; omega
theorem lev_nil : ∀ n,levL n [] = []
 | 0=>rfl
 | n + 1=>lev_nil n
theorem kids_map : ∀ l : List (List Int),kidsL (l.map lineN) = (l.map fun r=>r.map entN).flatten
 | []=>rfl
 | r :: l=>by rw [List.map_cons,lineN,kidsL,kids_map l]; rfl
theorem kids_ent : ∀ r : List Int,(kidsL (r.map entN)).length ≤ r.length ∧ kidsL (kidsL (r.map entN)) = []
 | []=>⟨Nat.le_refl _,rfl⟩
 | z :: r=>by
  obtain ⟨h1,h2⟩:=kids_ent r
  rw [List.map_cons]
  by_cases hz : z < 0
  ·have e : entN z = .mk 3 [] [.mk 1 (dgs z.natAbs) []]:=if_pos hz
   rw [e]
   exact ⟨by rw [kidsL,List.length_append,List.length_cons,List.length_cons,List.length_nil]; omega,by rw [kidsL,kidsL_append,h2]; rfl⟩
  ·have e : entN z = .mk 1 (dgs z.natAbs) []:=if_neg hz
   rw [e]
   exact ⟨by rw [kidsL,List.nil_append,List.length_cons]; omega,by rw [kidsL]; exact h2⟩
theorem kids_ents (l : List (List Int)) : (kidsL (l.map fun r=>r.map entN).flatten).length ≤ l.flatten.length ∧ kidsL (kidsL (l.map fun r=>r.map entN).flatten) = []:=by
 have e : (l.map fun r=>r.map entN).flatten = l.flatten.map entN:=by rw [List.map_flatten]
 rw [e]; exact kids_ent _
theorem flat_le : ∀ (l : List (List Int)) (_ : ∀ r ∈ l,r.length ≤ 4),l.flatten.length ≤ l.length * 4
 | [],_=>Nat.le_refl 0
 | r :: l,h=>by
  have h1:=h r (by simp)
  have:=flat_le l (fun s hs=>h s (List.mem_cons_of_mem _ hs))
  rw [List.flatten_cons,List.length_append,List.length_cons]; omega
theorem lev_mat {l : List (List Int)} (hl : l.length ≤ 4) (h4 : ∀ r ∈ l,r.length ≤ 4) (c : List Nat) : ∀ j,(levL j [.mk 18 c [matN l]]).length ≤ 16 ∧ (5 ≤ j → levL j [.mk 18 c [matN l]] = []):=by
 cases l with
 | nil=>
  intro j
  match j with
  | 0=>exact ⟨Nat.le_trans (Nat.le_refl 1) (by decide),fun h=>by omega⟩
  | 1=>exact ⟨Nat.le_trans (Nat.le_refl 1) (by decide),fun h=>by omega⟩
  | 2=>exact ⟨Nat.le_trans (Nat.le_refl 2) (by decide),fun h=>by omega⟩
  | n + 3=>rw [show levL (n + 3) [Nde.mk 18 c [matN []]] = levL n [] from rfl,lev_nil]; exact ⟨Nat.zero_le _,fun _=>rfl⟩
 | cons r l=>
  intro j
  have hf:=flat_le (r :: l) h4
  obtain ⟨h1,h2⟩:=kids_ents (r :: l)
  have e2 : ∀ n,levL (n + 2) [Nde.mk 18 c [matN (r :: l)]] = levL n ((r :: l).map lineN):=by
   intro n
   show levL n (kidsL (kidsL [Nde.mk 18 c [matN (r :: l)]])) = _
   rw [show kidsL [Nde.mk 18 c [matN (r :: l)]] = [matN (r :: l)] from rfl,matN,kidsL,kidsL,List.append_nil]
  have e3 : ∀ n,levL (n + 3) [Nde.mk 18 c [matN (r :: l)]] = levL n ((r :: l).map fun r=>r.map entN).flatten:=by
   intro n
   rw [e2 (n + 1),levL,kids_map]
  have hm : ((r :: l).map fun r=>r.map entN).flatten.length = (r :: l).flatten.length:=by
   rw [show ((r :: l).map fun r=>r.map entN).flatten = (r :: l).flatten.map entN by rw [List.map_flatten],List.length_map]
  match j with
  | 0=>exact ⟨Nat.le_trans (Nat.le_refl 1) (by decide),fun h=>by omega⟩
  | 1=>exact ⟨Nat.le_trans (Nat.le_refl 1) (by decide),fun h=>by omega⟩
  | 2=>
   rw [e2 0]
   exact ⟨by rw [levL,List.length_map]; omega,fun h=>by omega⟩
  | 3=>
   rw [e3 0]
   exact ⟨by rw [levL,hm]; omega,fun h=>by omega⟩
  | 4=>
   rw [e3 1]
   exact ⟨by rw [levL,levL]; omega,fun h=>by omega⟩
  | n + 5=>
   rw [e3 (n + 2),levL,levL,h2,lev_nil]; exact ⟨Nat.zero_le _,fun _=>rfl⟩
theorem lev_rest : ∀ j,(levL j restN).length ≤ 30 ∧ (8 ≤ j → levL j restN = []):=by
 intro j
 match j with
 | 0=>exact ⟨by decide,fun h=>by omega⟩
 | 1=>exact ⟨by decide,fun h=>by omega⟩
 | 2=>exact ⟨by decide,fun h=>by omega⟩
 | 3=>exact ⟨by decide,fun h=>by omega⟩
 | 4=>exact ⟨by decide,fun h=>by omega⟩
 | 5=>exact ⟨by decide,fun h=>by omega⟩
 | 6=>exact ⟨by decide,fun h=>by omega⟩
 | 7=>exact ⟨by decide,fun h=>by omega⟩
 | n + 8=>rw [show levL (n + 8) restN = levL n [] from rfl,lev_nil]; exact ⟨Nat.zero_le _,fun _=>rfl⟩
theorem lev_awake : ∀ j,(levL j awakeN).length ≤ 30 ∧ (8 ≤ j → levL j awakeN = []):=by
 intro j
 match j with
 | 0=>exact ⟨by decide,fun h=>by omega⟩
 | 1=>exact ⟨by decide,fun h=>by omega⟩
 | 2=>exact ⟨by decide,fun h=>by omega⟩
 | n + 3=>rw [show levL (n + 3) awakeN = levL n [] from rfl,lev_nil]; exact ⟨Nat.zero_le _,fun _=>rfl⟩
theorem lev_prog {a b : List (List Int)} (ha : a.length ≤ 4) (ha4 : ∀ r ∈ a,r.length ≤ 4) (hb : b.length ≤ 4) (hb4 : ∀ r ∈ b,r.length ≤ 4) : (∀ j,(levL j (progN a b)).length ≤ 100) ∧ levL 201 (progN a b) = []:=by
 have e : ∀ j,levL j (progN a b) = levL j [.mk 18 [120] [matN a]] ++ (levL j [.mk 18 [121] [matN b]] ++ levL j restN):=by
  intro j
  rw [← levL_append,← levL_append]; rfl
 refine ⟨fun j=>?_,?_⟩
 ·have h1:=(lev_mat ha ha4 [120] j).1
  have h2:=(lev_mat hb hb4 [121] j).1
  have h3:=(lev_rest j).1
  rw [e,List.length_append,List.length_append]; omega
 ·rw [e,(lev_mat ha ha4 [120] 201).2 (by decide),(lev_mat hb hb4 [121] 201).2 (by decide),(lev_rest 201).2 (by decide)]; rfl
end Go.Proofs.YtlhmaljjdpjkgaaGreatDoor
namespace Go.Proofs.YtlhmaljjdpjkgaaGreatDoor
open Go Go.RowKit
theorem v_sumN {a b : Rat} (ha : lr a ≤ 20000) (hb : lr b ≤ 20000) : Pc Tryz.prog 215 [VN a,VN b] (· = .tup [VN (a + b),.raw (.int .i64 0)]):=by
 refine pc Tryz.func215 ?_
 refine iff_ rfl rfl ?_
 refine ift rfl rfl ?_
 refine ce (r_Add ha hb) rfl ?_
 refine ce (v_numbers (q:=a + b) (e:=0)) rfl ?_
 exact rfl
theorem v_addN {a b : Rat} (ha : lr a ≤ 20000) (hb : lr b ≤ 20000) : Pc Tryz.prog 174 [.raw (.int .i64 4),VN a,VN b] (· = .tup [VN (a + b),.raw (.int .i64 0)]):=by
 refine pc Tryz.func174 ?_
 refine ce (v_FormedN (by omega)) rfl ?_
 iterate 1 refine gt rfl ?_
 refine gt rfl ?_
 refine ce (v_FormedN (by omega)) rfl ?_
 repeat (first|refine gt rfl ?_|refine gf rfl ?_|refine tw rfl ?_|refine tf rfl ?_)
 iterate 9 refine iff_ rfl rfl ?_
 refine ift rfl rfl ?_
 refine ce (v_sumN ha hb) rfl ?_
 exact rfl
theorem zts_five : zts 5 = [53]:=by kernel_rfl
theorem v_text5 : Pc Tryz.prog 37 [VN 5] (· = ts [53]):=by
 have h:=r_Print (z:=5) (by decide)
 rw [zts_five] at h
 refine pc Tryz.func37 ?_
 refine ift rfl rfl ?_
 refine ce h rfl ?_
 exact rfl
theorem v_Print5 : Pc Tryz.prog 21 [VN 5] (· = .tup [ts [53],.raw (.int .i64 0)]):=by
 refine pc Tryz.func21 ?_
 refine ce (v_FormedN (q:=5) (by have h : lr ((5 : Int) : Rat) ≤ 50000:=lr_k (K:=50000) (Nat.le_trans (ln_word (by decide)) (by decide)) (by decide); exact h)) rfl ?_
 refine iff_ rfl rfl ?_
 refine ce v_text5 rfl ?_
 exact rfl
theorem jn_eq : ∀ (l : List (List Nat)) (s : List Nat),joinN l s = jnL l s
 | [],_=>rfl
 | [x],_=>rfl
 | x :: y :: r,s=>by rw [joinN,jnL,jn_eq (y :: r) s]
def txR (c : Nat) (T : Nat → List Nat) (i k : Nat) : List (List Nat):=(List.range k).map fun k=>T (i * c + k)
def txO (c : Nat) (T : Nat → List Nat) (i : Nat) : List (List Nat):=(List.range i).map fun i=>joinN (txR c T i c) [44,32]
theorem txR_succ (c : Nat) (T : Nat → List Nat) (i k : Nat) : txR c T i (k + 1) = txR c T i k ++ [T (i * c + k)]:=by unfold txR; rw [List.range_succ,List.map_append]; rfl
theorem txO_succ (c : Nat) (T : Nat → List Nat) (i : Nat) : txO c T (i + 1) = txO c T i ++ [joinN (txR c T i c) [44,32]]:=by unfold txO; rw [List.range_succ,List.map_append]; rfl
theorem v_tableN {r c f : Nat} {a b : List IV} {T : Nat → List Nat} (hr0 : 0 < r) (hr : r ≤ 64) (hc0 : 0 < c) (hc : c ≤ 64) (hf : ∀ i k,i < r → k < c → Pc Tryz.prog f (a ++ [.raw (.int .i64 ((i * c + k : Nat) : Int))] ++ b) (· = ts (T (i * c + k))))
  (hT : ∀ i k,i < r → k < c → (T (i * c + k)).length ≤ 40) : Pc Tryz.prog 55 [.raw (.int .i64 (r : Int)),.raw (.int .i64 (c : Int)),.fn f a b] (· = ts (91 :: (joinN (txO c T r) [59,32] ++ [93]))):=by
 have g1 : ((r : Int) == 0) = false:=by simp; omega
 have g2 : ((c : Int) == 0) = false:=by simp; omega
 have hlR : ∀ i,i < r → (joinN (txR c T i c) [44,32]).length ≤ 2688:=fun i hi=>by
  rw [jn_eq]
  have h:=jn_len (s:=[44,32]) (K:=40) (txR c T i c) (fun x hx=>by
   unfold txR at hx
   simp only [List.mem_map,List.mem_range] at hx
   obtain ⟨k,hk,rfl⟩:=hx
   exact hT i k hi hk)
  have h2 : (txR c T i c).length * (40 + 2) ≤ 64 * 42:=Nat.mul_le_mul (by unfold txR; simp; omega) (Nat.le_refl _)
  exact Nat.le_trans h h2
 have hlO : (joinN (txO c T r) [59,32]).length ≤ 172160:=by
  rw [jn_eq]
  have h:=jn_len (s:=[59,32]) (K:=2688) (txO c T r) (fun x hx=>by
   unfold txO at hx
   simp only [List.mem_map,List.mem_range] at hx
   obtain ⟨i,hi,rfl⟩:=hx
   exact hlR i hi)
  have h2 : (txO c T r).length * (2688 + 2) ≤ 64 * 2690:=Nat.mul_le_mul (by unfold txO; simp; omega) (Nat.le_refl _)
  exact Nat.le_trans h h2
 refine pc Tryz.func55 ?_
 iterate 2 refine gt g1 ?_
 refine tf g1 ?_
 refine iff_ rfl g2 ?_
 refine lfv 7 9 1 rfl ?_
 refine lpt (fun i : Nat=>i ≤ r) (fun i=>[(0,ri .i64 r),(1,ri .i64 c),(2,.im (.fn f a b)),(7,.own 0),(27,ri .i64 r),(28,ri .i64 i)])
  (fun i=>[.row 9 1 i ((txO c T i).map ts)]) (fun i=>r - i) 0 (Nat.zero_le _) (tsr rfl) rfl ?_
 intro i t hi
 refine ifs rfl (fun h=>?_) (fun h=>?_)
 ·have h:=of_decide_eq_true h
  have hi : i < r:=by omega
  refine lfv 9 9 1 rfl ?_
  refine lpt (fun k : Nat=>k ≤ c) (fun k=>[(0,ri .i64 r),(1,ri .i64 c),(2,.im (.fn f a b)),(7,.own 0),(8,ri .i64 i),(9,.own 1),(27,ri .i64 r),(28,ri .i64 i),(31,ri .i64 c),(32,ri .i64 k)])
   (fun k=>[.row 9 1 i ((txO c T i).map ts),.row 9 1 k ((txR c T i k).map ts)]) (fun k=>c - k) 0 (Nat.zero_le _) (tsr rfl) rfl ?_
  intro k t' hk
  refine ifs rfl (fun h2=>?_) (fun h2=>?_)
  ·have h2:=of_decide_eq_true h2
   have hk : k < c:=by omega
   have cf:=hf i k hi hk
   rw [← idx_w hr hc hi hk] at cf
   refine ce cf (fzL_fn a b (l:=[_]) rfl) ?_
   refine ⟨(show (k + 1) * 16 ≤ 140737488355328 ∧ k + 1 ≤ 1000000000 by omega),?_⟩
   refine nxg [0,1] (k + 1) (by omega) rfl ⟨by omega,⟨rfl,rfl,rfl,rfl,rfl,rfl,rfl,rfl,rfl,congrArg (ri .i64) (i64s (by omega)).symm,trivial⟩,?_⟩
   have e : (txR c T i (k + 1)).map ts = (txR c T i k).map ts ++ [ts (T (i * c + k))]:=by rw [txR_succ,List.map_append]; rfl
   exact congrArg (fun l=>([.row 9 1 i ((txO c T i).map ts),.row 9 1 (k + 1) l] : List AO)) e.symm
  ·have h2:=of_decide_eq_false h2
   obtain rfl : k = c:=by omega
   have hxl : (txR k T i k).length = k:=by unfold txR; simp
   have cj:=l_Join (txR k T i k) [44,32] (by omega) (by have:=hlR i hi; omega)
   rw [hxl] at cj
   refine clk [1] cj rfl rfl ?_
   rintro _ rfl
   refine ⟨(show (i + 1) * 16 ≤ 140737488355328 ∧ i + 1 ≤ 1000000000 by omega),?_⟩
   refine nxg [0] (i + 1) (by omega) rfl ⟨by omega,⟨rfl,rfl,rfl,rfl,rfl,congrArg (ri .i64) (i64s (by omega)).symm,trivial⟩,?_⟩
   have e : (txO k T (i + 1)).map ts = (txO k T i).map ts ++ [ts (joinN (txR k T i k) [44,32])]:=by rw [txO_succ,List.map_append]; rfl
   exact congrArg (fun l=>([.row 9 1 (i + 1) l] : List AO)) e.symm
 ·have h:=of_decide_eq_false h
  obtain rfl : i = r:=by omega
  have hxl : (txO c T i).length = i:=by unfold txO; simp
  have cj:=l_Join (txO c T i) [59,32] (by omega) (by omega)
  rw [hxl] at cj
  refine clk [0] cj rfl rfl ?_
  rintro _ rfl
  refine ⟨?_,?_⟩
  ·show (tx [91]).size + (tx _).size ≤ _
   rw [tx_size,tx_size]; show 1 + _ ≤ _; omega
  refine ⟨?_,?_⟩
  ·show (tx [91] ++ tx _).size + (tx [93]).size ≤ _
   rw [tx_append,tx_size,tx_size,List.length_append]; show 1 + _ + 1 ≤ _; omega
  refine congrArg (fun b=>IV.raw (.string b)) ?_
  show tx [91] ++ tx _ ++ tx [93] = _
  rw [tx_append,tx_append]; rfl
theorem xp_op {Q : Ms → Prop} {op : Nat} {t : List Nat} {N0 : Nde} {Ns : List Nde} {vs : List V15} {v : V15} {c k : Nat} (h1 : ((op : Int) == 1) = false) (h2 : ((op : Int) == 2) = false) (h14 : ((op : Int) == 14) = false)
  (h : XpL Q (N0 :: Ns) vs c) (hl : (N0 :: Ns).length ≤ 1000) (ho : Pc Tryz.prog 134 [ndI (.mk op t (N0 :: Ns)),.sl vs.length 15 (vcL' vs)] (· = .tup [v.i,.raw (.int .i64 0)])) (hV : VOK v k) : Xp Q (.mk op t (N0 :: Ns)) v (1 + c + k):=by
 intro s hs F hc hF
 cases s with
 | a=>
  refine ec Tryz.func83 ?_
  refine cxe 2 (m_take (s:=.a) (n:=1) (by omega) hF) rfl rfl rfl (.inl rfl) ?_
  refine iff_ rfl rfl ?_
  refine iff_ rfl h1 ?_
  refine iff_ rfl h2 ?_
  refine iff_ rfl h14 ?_
  refine cxe 2 (m_all (s:=.a) h (by simp) hl hs (F:=F - 1) (by omega) (by omega)) rfl rfl rfl (.inl rfl) ?_
  refine iff_ rfl rfl ?_
  refine ce ho rfl ?_
  refine cxe 2 (m_came (s:=.a) (F:=F - 1 - c) (k:=k) hV (.inl rfl) (by omega) (by omega)) rfl rfl rfl (.inl rfl) ?_
  exact fin [0,1] rfl ⟨rfl,congrArg (fun n=>MH n .a) (by omega)⟩
 | b x=>
  refine ec Tryz.func83 ?_
  refine cxe 2 (m_take (s:=(.b x)) (n:=1) (by omega) hF) rfl rfl rfl (.inl rfl) ?_
  refine iff_ rfl rfl ?_
  refine iff_ rfl h1 ?_
  refine iff_ rfl h2 ?_
  refine iff_ rfl h14 ?_
  refine cxe 2 (m_all (s:=(.b x)) h (by simp) hl hs (F:=F - 1) (by omega) (by omega)) rfl rfl rfl (.inl rfl) ?_
  refine iff_ rfl rfl ?_
  refine ce ho rfl ?_
  refine cxe 2 (m_came (s:=(.b x)) (F:=F - 1 - c) (k:=k) hV (.inl rfl) (by omega) (by omega)) rfl rfl rfl (.inl rfl) ?_
  exact fin [0,1] rfl ⟨rfl,congrArg (fun n=>MH n (.b x)) (by omega)⟩
 | c x y=>
  refine ec Tryz.func83 ?_
  refine cxe 2 (m_take (s:=(.c x y)) (n:=1) (by omega) hF) rfl rfl rfl (.inl rfl) ?_
  refine iff_ rfl rfl ?_
  refine iff_ rfl h1 ?_
  refine iff_ rfl h2 ?_
  refine iff_ rfl h14 ?_
  refine cxe 2 (m_all (s:=(.c x y)) h (by simp) hl hs (F:=F - 1) (by omega) (by omega)) rfl rfl rfl (.inl rfl) ?_
  refine iff_ rfl rfl ?_
  refine ce ho rfl ?_
  refine cxe 2 (m_came (s:=(.c x y)) (F:=F - 1 - c) (k:=k) hV (.inl rfl) (by omega) (by omega)) rfl rfl rfl (.inl rfl) ?_
  exact fin [0,1] rfl ⟨rfl,congrArg (fun n=>MH n (.c x y)) (by omega)⟩
 | d x y tl tq=>
  refine ec Tryz.func83 ?_
  refine cxe 3 (m_take (s:=(.d x y tl tq)) (n:=1) (by omega) hF) rfl rfl rfl (.inl rfl) ?_
  refine iff_ rfl rfl ?_
  refine iff_ rfl h1 ?_
  refine iff_ rfl h2 ?_
  refine iff_ rfl h14 ?_
  refine cxe 3 (m_all (s:=(.d x y tl tq)) h (by simp) hl hs (F:=F - 1) (by omega) (by omega)) rfl rfl rfl (.inl rfl) ?_
  refine iff_ rfl rfl ?_
  refine ce ho rfl ?_
  refine cxe 3 (m_came (s:=(.d x y tl tq)) (F:=F - 1 - c) (k:=k) hV (.inl rfl) (by omega) (by omega)) rfl rfl rfl (.inl rfl) ?_
  exact fin [0,1,2] rfl ⟨rfl,congrArg (fun n=>MH n (.d x y tl tq)) (by omega)⟩
 | e tl tq=>
  refine ec Tryz.func83 ?_
  refine cxe 3 (m_take (s:=(.e tl tq)) (n:=1) (by omega) hF) rfl rfl rfl (.inl rfl) ?_
  refine iff_ rfl rfl ?_
  refine iff_ rfl h1 ?_
  refine iff_ rfl h2 ?_
  refine iff_ rfl h14 ?_
  refine cxe 3 (m_all (s:=(.e tl tq)) h (by simp) hl hs (F:=F - 1) (by omega) (by omega)) rfl rfl rfl (.inl rfl) ?_
  refine iff_ rfl rfl ?_
  refine ce ho rfl ?_
  refine cxe 3 (m_came (s:=(.e tl tq)) (F:=F - 1 - c) (k:=k) hV (.inl rfl) (by omega) (by omega)) rfl rfl rfl (.inl rfl) ?_
  exact fin [0,1,2] rfl ⟨rfl,congrArg (fun n=>MH n (.e tl tq)) (by omega)⟩
theorem xp_num {Q : Ms → Prop} {x : Nat} (hx : x < W64) : Xp Q (.mk 1 (dgs x) []) (nV ((x : Int) : Rat)) 2:=by
 intro s hs F hc hF
 have hli : li (x : Int) ≤ 1:=ln_word (by rw [Int.natAbs_natCast]; exact hx)
 have cw:=v_Whole (z:=(x : Int)) (by omega)
 have hV : VOK (nV ((x : Int) : Rat)) 1:=vokN (by rw [lr_int,ln_one]; omega)
 obtain ⟨q,hq⟩ : ∃ q : Rat,q = ((x : Int) : Rat):=⟨_,rfl⟩
 rw [← hq] at cw hV ⊢
 cases s with
 | a=>
  refine ec Tryz.func83 ?_
  refine cxe 2 (m_take (s:=.a) (n:=1) (by omega) hF) rfl rfl rfl (.inl rfl) ?_
  refine iff_ rfl rfl ?_
  refine ift rfl rfl ?_
  refine ce (z_Parse hx) rfl ?_
  refine ce cw rfl ?_
  refine cxe 2 (m_came (s:=.a) (v:=nV q) (F:=F - 1) (k:=1) hV (.inl rfl) (by omega) (by omega)) rfl rfl rfl (.inl rfl) ?_
  exact fin [0,1] rfl ⟨rfl,congrArg (fun n=>MH n .a) (by omega)⟩
 | b x=>
  refine ec Tryz.func83 ?_
  refine cxe 2 (m_take (s:=(.b x)) (n:=1) (by omega) hF) rfl rfl rfl (.inl rfl) ?_
  refine iff_ rfl rfl ?_
  refine ift rfl rfl ?_
  refine ce (z_Parse hx) rfl ?_
  refine ce cw rfl ?_
  refine cxe 2 (m_came (s:=(.b x)) (v:=nV q) (F:=F - 1) (k:=1) hV (.inl rfl) (by omega) (by omega)) rfl rfl rfl (.inl rfl) ?_
  exact fin [0,1] rfl ⟨rfl,congrArg (fun n=>MH n (.b x)) (by omega)⟩
 | c x y=>
  refine ec Tryz.func83 ?_
  refine cxe 2 (m_take (s:=(.c x y)) (n:=1) (by omega) hF) rfl rfl rfl (.inl rfl) ?_
  refine iff_ rfl rfl ?_
  refine ift rfl rfl ?_
  refine ce (z_Parse hx) rfl ?_
  refine ce cw rfl ?_
  refine cxe 2 (m_came (s:=(.c x y)) (v:=nV q) (F:=F - 1) (k:=1) hV (.inl rfl) (by omega) (by omega)) rfl rfl rfl (.inl rfl) ?_
  exact fin [0,1] rfl ⟨rfl,congrArg (fun n=>MH n (.c x y)) (by omega)⟩
 | d x y tl tq=>
  refine ec Tryz.func83 ?_
  refine cxe 3 (m_take (s:=(.d x y tl tq)) (n:=1) (by omega) hF) rfl rfl rfl (.inl rfl) ?_
  refine iff_ rfl rfl ?_
  refine ift rfl rfl ?_
  refine ce (z_Parse hx) rfl ?_
  refine ce cw rfl ?_
  refine cxe 3 (m_came (s:=(.d x y tl tq)) (v:=nV q) (F:=F - 1) (k:=1) hV (.inl rfl) (by omega) (by omega)) rfl rfl rfl (.inl rfl) ?_
  exact fin [0,1,2] rfl ⟨rfl,congrArg (fun n=>MH n (.d x y tl tq)) (by omega)⟩
 | e tl tq=>
  refine ec Tryz.func83 ?_
  refine cxe 3 (m_take (s:=(.e tl tq)) (n:=1) (by omega) hF) rfl rfl rfl (.inl rfl) ?_
  refine iff_ rfl rfl ?_
  refine ift rfl rfl ?_
  refine ce (z_Parse hx) rfl ?_
  refine ce cw rfl ?_
  refine cxe 3 (m_came (s:=(.e tl tq)) (v:=nV q) (F:=F - 1) (k:=1) hV (.inl rfl) (by omega) (by omega)) rfl rfl rfl (.inl rfl) ?_
  exact fin [0,1,2] rfl ⟨rfl,congrArg (fun n=>MH n (.e tl tq)) (by omega)⟩
def Qxy (x y : V15) : Ms → Prop
 | .c x' y'=>x' = x ∧ y' = y
 | .d x' y' _ _=>x' = x ∧ y' = y
 | _=>False
theorem xp_x {x y : V15} {k : Nat} (hV : VOK x k) : Xp (Qxy x y) (.mk 2 [120] []) x (1 + k):=by
 intro s hs F hc hF
 cases s with
 | a=>exact hs.elim
 | b x=>exact hs.elim
 | c x' y'=>
  obtain ⟨rfl,rfl⟩:=hs
  refine ec Tryz.func83 ?_
  refine cxe 2 (m_take (s:=(.c x' y')) (n:=1) (by omega) hF) rfl rfl rfl (.inl rfl) ?_
  refine iff_ rfl rfl ?_
  refine iff_ rfl rfl ?_
  refine ift rfl rfl ?_
  refine cxe 2 (m_named_xc (F:=F - 1)) rfl rfl rfl (.inl rfl) ?_
  refine cxe 2 (m_came (s:=(.c x' y')) (F:=F - 1) (k:=k) hV (.inr rfl) (by omega) (by omega)) rfl rfl rfl (.inl rfl) ?_
  exact fin [0,1] rfl ⟨rfl,congrArg (fun n=>MH n (.c x' y')) (by omega)⟩
 | d x' y' tl tq=>
  obtain ⟨rfl,rfl⟩:=hs
  refine ec Tryz.func83 ?_
  refine cxe 3 (m_take (s:=(.d x' y' tl tq)) (n:=1) (by omega) hF) rfl rfl rfl (.inl rfl) ?_
  refine iff_ rfl rfl ?_
  refine iff_ rfl rfl ?_
  refine ift rfl rfl ?_
  refine cxe 3 (m_named_xd (F:=F - 1)) rfl rfl rfl (.inl rfl) ?_
  refine cxe 3 (m_came (s:=(.d x' y' tl tq)) (F:=F - 1) (k:=k) hV (.inr rfl) (by omega) (by omega)) rfl rfl rfl (.inl rfl) ?_
  exact fin [0,1,2] rfl ⟨rfl,congrArg (fun n=>MH n (.d x' y' tl tq)) (by omega)⟩
 | e tl tq=>exact hs.elim
theorem xp_y {x y : V15} {k : Nat} (hV : VOK y k) : Xp (Qxy x y) (.mk 2 [121] []) y (1 + k):=by
 intro s hs F hc hF
 cases s with
 | a=>exact hs.elim
 | b x=>exact hs.elim
 | c x' y'=>
  obtain ⟨rfl,rfl⟩:=hs
  refine ec Tryz.func83 ?_
  refine cxe 2 (m_take (s:=(.c x' y')) (n:=1) (by omega) hF) rfl rfl rfl (.inl rfl) ?_
  refine iff_ rfl rfl ?_
  refine iff_ rfl rfl ?_
  refine ift rfl rfl ?_
  refine cxe 2 (m_named_yc (F:=F - 1)) rfl rfl rfl (.inl rfl) ?_
  refine cxe 2 (m_came (s:=(.c x' y')) (F:=F - 1) (k:=k) hV (.inr rfl) (by omega) (by omega)) rfl rfl rfl (.inl rfl) ?_
  exact fin [0,1] rfl ⟨rfl,congrArg (fun n=>MH n (.c x' y')) (by omega)⟩
 | d x' y' tl tq=>
  obtain ⟨rfl,rfl⟩:=hs
  refine ec Tryz.func83 ?_
  refine cxe 3 (m_take (s:=(.d x' y' tl tq)) (n:=1) (by omega) hF) rfl rfl rfl (.inl rfl) ?_
  refine iff_ rfl rfl ?_
  refine iff_ rfl rfl ?_
  refine ift rfl rfl ?_
  refine cxe 3 (m_named_yd (F:=F - 1)) rfl rfl rfl (.inl rfl) ?_
  refine cxe 3 (m_came (s:=(.d x' y' tl tq)) (F:=F - 1) (k:=k) hV (.inr rfl) (by omega) (by omega)) rfl rfl rfl (.inl rfl) ?_
  exact fin [0,1,2] rfl ⟨rfl,congrArg (fun n=>MH n (.d x' y' tl tq)) (by omega)⟩
 | e tl tq=>exact hs.elim
noncomputable def qb (fu ad bf : AV) (q : Rat) : List AV:=[fu,ri .i64 1000000,.own 1,ad,bf,.im (.raw (.int .i64 1)),.im (.raw (.bool (decide (q.num < 0)))),.im (na q.num.natAbs),.im (.raw (.bool (decide ((q.den : Int) < 0)))),.im (na (q.den : Int).natAbs),ri .i64 0,ri .i64 0,nilA,nilA,ri .u64 0,ri .i64 0,ri .i64 0,nilA,nilA,nilA,ri .i64 0]
def nilP : AV:=.im (.raw (.pointer none))
theorem bs_app (a b : List Nat) : bs (a ++ b) = bs a ++ bs b:=by unfold bs; rw [List.map_append]
theorem b_write0_n {n : Int} {q : Rat} {s : List Nat} (hb : byt s = true) (hs : s.length ≤ 1000) : Ec Tryz.prog 105 (own 2) [.box 70 (qb (ri .i64 n) nilP nilA q),.mp []] [.ref 0 3,.im (ts s)] (fun _ H'=>H' = [.box 70 (qb (ri .i64 n) (.ref 0 3) (.own 2) q),.mp [],.row 5 1 s.length (bs s)]):=by
 have hz:=tx_size s
 refine ec Tryz.func105 ?_
 refine cxe 2 (b_new (R:=own 2) rfl rfl) rfl rfl rfl (.inl rfl) ?_
 refine ⟨⟨by unfold U8; kernel_rfl,by rw [hz]; omega⟩,?_⟩
 refine fin0 ?_
 show [_,_,AO.row _ 1 (tx s).size (strI (tx s))] = _
 rw [hz,tx_strI hb]; rfl
theorem b_String_n {n : Int} {q : Rat} {tl : List Nat} (hb : byt tl = true) (h0 : 0 < tl.length) : Ec Tryz.prog 17 (own 3) [.box 70 (qb (ri .i64 n) (.ref 0 3) (.own 2) q),.mp [],.row 5 1 tl.length (bs tl)] [.ref 0 3] (fun x H'=>x = .im (ts tl)):=by
 refine ec Tryz.func17 ?_
 refine rq [0,1,2,3,4,5,6,7,8,9,10,11] ?_
 refine ⟨h0,?_⟩
 refine ⟨⟨by kernel_rfl,by kernel_rfl,rfl,h0⟩,?_⟩
 refine ⟨⟨tx tl,(tx_strI hb).symm,?_⟩⟩
 exact fin0 rfl
theorem b_used_m {x y : V15} {fu : AV} {q : Rat} {tl : List Nat} (hf : ∃ n : Int,fu = ri .i64 n) : Ec Tryz.prog 152 (own 3) [.box 70 (qb fu (.ref 0 3) (.own 2) q),.mp [(tx [120],x.a),(tx [121],y.a)],.row 5 1 tl.length (bs tl)] [.ref 0 3] (Is (.tup []) [.box 70 (qb fu (.ref 0 3) (.own 2) q),.mp [(tx [120],x.a),(tx [121],y.a)],.row 5 1 tl.length (bs tl)]):=by
 obtain ⟨n,rfl⟩:=hf
 refine ec Tryz.func152 ?_
 refine iff_ rfl rfl ?_
 refine iff_ rfl rfl ?_
 exact fin0 ⟨rfl,rfl⟩
theorem b_write0_m {x y : V15} {n : Int} {q : Rat} {s : List Nat} (hb : byt s = true) (hs : s.length ≤ 1000) : Ec Tryz.prog 105 (own 2) [.box 70 (qb (ri .i64 n) nilP nilA q),.mp [(tx [120],x.a),(tx [121],y.a)]] [.ref 0 3,.im (ts s)] (fun _ H'=>H' = [.box 70 (qb (ri .i64 n) (.ref 0 3) (.own 2) q),.mp [(tx [120],x.a),(tx [121],y.a)],.row 5 1 s.length (bs s)]):=by
 have hz:=tx_size s
 refine ec Tryz.func105 ?_
 refine cxe 2 (b_new (R:=own 2) rfl rfl) rfl rfl rfl (.inl rfl) ?_
 refine ⟨⟨by unfold U8; kernel_rfl,by rw [hz]; omega⟩,?_⟩
 refine fin0 ?_
 show [_,_,AO.row _ 1 (tx s).size (strI (tx s))] = _
 rw [hz,tx_strI hb]; rfl
theorem b_write1_m {x y : V15} {n : Int} {q : Rat} {tl s : List Nat} (hb : byt s = true) (hs : s.length ≤ 1000) (hl : tl.length ≤ 100000) : Ec Tryz.prog 105 (ownm 3 [2]) [.box 70 (qb (ri .i64 n) (.ref 0 3) (.own 2) q),.mp [(tx [120],x.a),(tx [121],y.a)],.row 5 1 tl.length (bs tl)] [.ref 0 3,.im (ts s)] (fun _ H'=>H' = [.box 70 (qb (ri .i64 n) (.ref 0 3) (.own 2) q),.mp [(tx [120],x.a),(tx [121],y.a)],.row 5 1 (tl ++ s).length (bs (tl ++ s))]):=by
 have hz:=tx_size s
 refine ec Tryz.func105 ?_
 refine cxe 3 (b_used_m ⟨n,rfl⟩) rfl rfl rfl (.inl rfl) ?_
 refine ⟨⟨by unfold U8; kernel_rfl,by rw [hz]; omega⟩,?_⟩
 refine fin0 ?_
 show [_,_,AO.row _ 1 (tl.length + (tx s).size) (bs tl ++ strI (tx s))] = _
 rw [hz,tx_strI hb,bs_app,List.length_append]; rfl
theorem b_String_m {x y : V15} {n : Int} {q : Rat} {tl : List Nat} (hb : byt tl = true) (h0 : 0 < tl.length) : Ec Tryz.prog 17 (own 3) [.box 70 (qb (ri .i64 n) (.ref 0 3) (.own 2) q),.mp [(tx [120],x.a),(tx [121],y.a)],.row 5 1 tl.length (bs tl)] [.ref 0 3] (fun x H'=>x = .im (ts tl)):=by
 refine ec Tryz.func17 ?_
 refine rq [0,1,2,3,4,5,6,7,8,9,10,11] ?_
 refine ⟨h0,?_⟩
 refine ⟨⟨by kernel_rfl,by kernel_rfl,rfl,h0⟩,?_⟩
 refine ⟨⟨tx tl,(tx_strI hb).symm,?_⟩⟩
 exact fin0 rfl
def tlen : Ms → Nat
 | .d _ _ tl _=>tl.length
 | .e tl _=>tl.length
 | _=>0
theorem b_Len {F : Nat} {s : Ms} : Ec Tryz.prog 135 (MR s) (MH F s) [.ref 0 3] (Is (ri .i64 (tlen s)) (MH F s)):=by
 cases s with
 | a=>
  refine ec Tryz.func135 ?_
  exact fin0 ⟨rfl,rfl⟩
 | b x=>
  refine ec Tryz.func135 ?_
  exact fin0 ⟨rfl,rfl⟩
 | c x y=>
  refine ec Tryz.func135 ?_
  exact fin0 ⟨rfl,rfl⟩
 | d x y tl tq=>
  refine ec Tryz.func135 ?_
  exact fin0 ⟨rfl,rfl⟩
 | e tl tq=>
  refine ec Tryz.func135 ?_
  exact fin0 ⟨rfl,rfl⟩
theorem m_show_ae {F : Nat} {q : Rat} (hP : Pc Tryz.prog 21 [(nV q).i] (· = .tup [ts [53],.raw (.int .i64 0)])) : Ec Tryz.prog 84 (own 2) (MH F .a) [.ref 0 0,(nV q).a] (Is (.tup []) (MH F (.e [53,10] q))):=by
 have hs : ts ([53,10] : List Nat) = .raw (.string (tx [53] ++ tx [10])):=by rw [tx_append]; rfl
 have cw:=b_write0_n (n:=(F : Int)) (q:=q) (s:=[53,10]) rfl (by decide)
 rw [hs] at cw
 refine ec Tryz.func84 ?_
 refine ce hP rfl ?_
 refine iff_ rfl rfl ?_
 refine iff_ rfl rfl ?_
 refine cxe 2 (b_Len (s:=.a)) rfl rfl rfl (.inl rfl) ?_
 refine iff_ rfl rfl ?_
 refine ⟨(by decide),?_⟩
 refine cxg [0,1] 2 [] cw rfl rfl rfl rfl ?_
 rintro _ _ rfl
 refine ⟨.inr rfl,?_⟩
 exact fin0 ⟨rfl,rfl⟩
theorem m_show_cd {x y : V15} {F : Nat} {q : Rat} (hP : Pc Tryz.prog 21 [(nV q).i] (· = .tup [ts [49],.raw (.int .i64 0)])) : Ec Tryz.prog 84 (own 2) (MH F (.c x y)) [.ref 0 0,(nV q).a] (Is (.tup []) (MH F (.d x y [49,10] q))):=by
 have hs : ts ([49,10] : List Nat) = .raw (.string (tx [49] ++ tx [10])):=by rw [tx_append]; rfl
 have cw:=b_write0_m (n:=(F : Int)) (q:=q) (x:=x) (y:=y) (s:=[49,10]) rfl (by decide)
 rw [hs] at cw
 refine ec Tryz.func84 ?_
 refine ce hP rfl ?_
 refine iff_ rfl rfl ?_
 refine iff_ rfl rfl ?_
 refine cxe 2 (b_Len (s:=(.c x y))) rfl rfl rfl (.inl rfl) ?_
 refine iff_ rfl rfl ?_
 refine ⟨(by decide),?_⟩
 refine cxg [0,1] 2 [] cw rfl rfl rfl rfl ?_
 rintro _ _ rfl
 refine ⟨.inr rfl,?_⟩
 exact fin0 ⟨rfl,rfl⟩
theorem m_show_dd {x y : V15} {tl : List Nat} {q0 : Rat} {F : Nat} {q : Rat} (hP : Pc Tryz.prog 21 [(nV q).i] (· = .tup [ts [49],.raw (.int .i64 0)])) (hl : tl.length ≤ 1000) : Ec Tryz.prog 84 (ownm 3 [2]) (MH F (.d x y tl q0)) [.ref 0 0,(nV q).a] (Is (.tup []) (MH F (.d x y (tl ++ [49,10]) q))):=by
 have g : decide (IntKind.i64.wrap (IntKind.i64.wrap ((tl.length : Int) + ((tx [49]).size : Int)) + 1) > 100000) = false:=by
  have e1 : ((tx [49]).size : Int) = 1:=rfl
  have e2 : IntKind.i64.wrap ((tl.length : Int) + 1) = ((tl.length + 1 : Nat) : Int):=(i64s (by omega)).symm
  have e3 : IntKind.i64.wrap (((tl.length + 1 : Nat) : Int) + 1) = ((tl.length + 1 + 1 : Nat) : Int):=(i64s (by omega)).symm
  rw [e1,e2,e3]; exact decide_eq_false (by omega)
 have hs : ts ([49,10] : List Nat) = .raw (.string (tx [49] ++ tx [10])):=by rw [tx_append]; rfl
 have cw:=b_write1_m (n:=(F : Int)) (q:=q) (x:=x) (y:=y) (tl:=tl) (s:=[49,10]) rfl (by decide) (by omega)
 rw [hs] at cw
 refine ec Tryz.func84 ?_
 refine ce hP rfl ?_
 refine iff_ rfl rfl ?_
 refine iff_ rfl rfl ?_
 refine cxe 3 (b_Len (s:=(.d x y tl q0))) rfl rfl rfl (.inl rfl) ?_
 refine iff_ rfl g ?_
 refine ⟨(by decide),?_⟩
 refine cxg [0,1,2] 3 [2] cw rfl rfl rfl rfl ?_
 rintro _ _ rfl
 refine ⟨.inr rfl,?_⟩
 exact fin0 ⟨rfl,rfl⟩
end Go.Proofs.YtlhmaljjdpjkgaaGreatDoor
