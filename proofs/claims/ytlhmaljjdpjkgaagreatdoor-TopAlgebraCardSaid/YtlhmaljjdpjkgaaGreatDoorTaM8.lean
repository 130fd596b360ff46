/- Division of naturals: the rows. -/
import Derived.Laws.Bits64b
import Derived.Test.YtlhmaljjdpjkgaaGreatDoorTaM7
namespace Go.Proofs.YtlhmaljjdpjkgaaGreatDoor
open Go Go.RowKit
def uw (x : Nat) : IV:=.raw (.int .u64 (x : Int))
theorem b_Add64 {a b c : Int} {x y z : Nat} (ha : a = x) (hb : b = y) (hc : c = z) (h : z ≤ 1 ∨ y ≤ 1 ∨ z = 0) (h1 : z ≤ 1) : Pc Tryz.prog 110 [.raw (.int .u64 a),.raw (.int .u64 b),.raw (.int .u64 c)] (· = .tup [uw (ads x y z),uw (adc x y z)]):=
 .inr fun B w vs hc'=>by
  subst ha hb hc
  match vs,hc' with
  | [u,v,q],hc'=>
   have e1:=hc'.2 0 _ _ rfl rfl
   have e2:=hc'.2 1 _ _ rfl rfl
   have e3:=hc'.2 2 _ _ rfl rfl
   cases e1; cases e2; cases e3
   exact ⟨_,_,rfl,.tup (vs:=[.int .u64 (ads x y z : Nat),.int .u64 (adc x y z : Nat)]) rfl (fun j x u a b=>by
    match j with
    | 0=>simp at a b; subst a b; exact .raw _
    | 1=>simp at a b; subst a b; exact .raw _
    | j + 2=>simp at a),bits_Add64 x y z h1 w⟩
  | [],hc'=>have:=hc'.1; simp at this
  | [_],hc'=>have:=hc'.1; simp at this
  | [_,_],hc'=>have:=hc'.1; simp at this
  | _ :: _ :: _ :: _ :: _,hc'=>have:=hc'.1; simp at this
theorem b_Sub64 {a b c : Int} {x y z : Nat} (ha : a = x) (hb : b = y) (hc : c = z) (h1 : z ≤ 1) : Pc Tryz.prog 112 [.raw (.int .u64 a),.raw (.int .u64 b),.raw (.int .u64 c)] (· = .tup [uw (sbs x y z),uw (sbb x y z)]):=
 .inr fun B w vs hc'=>by
  subst ha hb hc
  match vs,hc' with
  | [u,v,q],hc'=>
   have e1:=hc'.2 0 _ _ rfl rfl
   have e2:=hc'.2 1 _ _ rfl rfl
   have e3:=hc'.2 2 _ _ rfl rfl
   cases e1; cases e2; cases e3
   exact ⟨_,_,rfl,.tup (vs:=[.int .u64 (sbs x y z : Nat),.int .u64 (sbb x y z : Nat)]) rfl (fun j x u a b=>by
    match j with
    | 0=>simp at a b; subst a b; exact .raw _
    | 1=>simp at a b; subst a b; exact .raw _
    | j + 2=>simp at a),bits_Sub64 x y z h1 w⟩
  | [],hc'=>have:=hc'.1; simp at this
  | [_],hc'=>have:=hc'.1; simp at this
  | [_,_],hc'=>have:=hc'.1; simp at this
  | _ :: _ :: _ :: _ :: _,hc'=>have:=hc'.1; simp at this
theorem b_Mul64 {a b : Int} {x y : Nat} (ha : a = x) (hb : b = y) (hx : x < W64) (hy : y < W64) : Pc Tryz.prog 188 [.raw (.int .u64 a),.raw (.int .u64 b)] (· = .tup [uw (mhi x y),uw (mlo x y)]):=
 pc_tup (l:=[.int .u64 (mhi x y : Nat),.int .u64 (mlo x y : Nat)]) (ent_of Tryz.func188 (by kernel_rfl)) fun w vs hc=>by
  subst ha hb
  obtain ⟨u,v,rfl,h1,h2⟩:=ci2 hc
  cases h1; cases h2
  exact (bits_Mul64 x y hx hy w).mono fun e w' h=>⟨h.1,dr_refl h.2⟩
def wds : Nat → Nat → List Nat
 | 0,_=>[]
 | k + 1,x=>x % W64 :: wds k (x / W64)
theorem wds_len : ∀ (k x : Nat),(wds k x).length = k
 | 0,_=>rfl
 | k + 1,x=>by simp [wds,wds_len k]
theorem wds_wf : ∀ (k x : Nat),wf W64 (wds k x)
 | 0,_=>fun y hy=>by simp [wds] at hy
 | k + 1,x=>fun y hy=>by
  simp only [wds,List.mem_cons] at hy
  rcases hy with rfl | hy
  ·exact Nat.mod_lt _ W64_pos
  ·exact wds_wf k _ y hy
theorem wds_nv : ∀ (k x : Nat),nv W64 (wds k x) = x % W64 ^ k
 | 0,x=>by simp [wds,nv,Nat.mod_one]
 | k + 1,x=>by rw [wds,nv_cons,wds_nv k,Nat.pow_succ,Nat.mul_comm (W64 ^ k),Nat.mod_mul]
theorem wds_snoc : ∀ (k x : Nat),wds (k + 1) x = wds k x ++ [x / W64 ^ k % W64]
 | 0,x=>by simp [wds]
 | k + 1,x=>by
  have:=wds_snoc k (x / W64)
  rw [wds,this,wds,List.cons_append,Nat.div_div_eq_div_mul,Nat.pow_succ,Nat.mul_comm W64]
theorem wds_add : ∀ (k x z : Nat),wds k (x + W64 ^ k * z) = wds k x
 | 0,_,_=>rfl
 | k + 1,x,z=>by
  have e : x + W64 ^ (k + 1) * z = x + W64 * (W64 ^ k * z):=by rw [Nat.pow_succ,Nat.mul_comm (W64 ^ k),Nat.mul_assoc]
  rw [wds,wds,e,Nat.add_mul_mod_self_left,Nat.add_mul_div_left _ _ W64_pos,wds_add k]
theorem at2 {α : Type} {A B D : List α} {y : α} {n : Nat} (h : n = A.length + B.length) : (A ++ (B ++ (y :: D)))[n]? = some y:=by
 subst h
 rw [List.getElem?_append_right (by omega),List.getElem?_append_right (by omega)]
 simp
theorem set2 {α : Type} {A B D : List α} {y x : α} {n : Nat} (h : n = A.length + B.length) : (A ++ (B ++ (y :: D))).set n x = A ++ ((B ++ [x]) ++ D):=by
 subst h
 rw [List.set_append_right _ _ (by omega),List.set_append_right _ _ (by omega)]
 simp
theorem at3 {α : Type} {A B D C E : List α} {y : α} {n : Nat} (hd : D = y :: E) (h : n = A.length + B.length) : (A ++ (B ++ (D ++ C)))[n]? = some y:=by
 rw [hd,List.cons_append]; exact at2 h
theorem set3 {α : Type} {A B D C E : List α} {y x : α} {n : Nat} (hd : D = y :: E) (h : n = A.length + B.length) : (A ++ (B ++ (D ++ C))).set n x = A ++ ((B ++ [x]) ++ (E ++ C)):=by
 rw [hd,List.cons_append]; exact set2 h
section
variable {K : AV → Prop}
theorem ws_drop {us : List Nat} {o x : Nat} (hx : us[o]? = some x) : (ws us).drop o = uw x :: (ws us).drop (o + 1):=by
 have h:=(List.getElem?_eq_some_iff.1 hx).1
 have h2 : o < (ws us).length:=by simpa [ws] using h
 rw [List.drop_eq_getElem_cons h2]
 congr 1
 have:=(List.getElem?_eq_some_iff.1 hx).2
 simp [ws,uw,this]
theorem gw {us : List Nat} {o : Nat} (i : Nat) {x : Nat} (hx : us[i]? = some x) (ho : o = i) (hk : K (.im (uw x))) : Gn True ((ws us).drop o) (ldI false 1) K:=by
 subst ho
 refine ⟨trivial,fun l e=>?_⟩
 rw [e,ws_drop hx]; exact hk
theorem gi {us : List Nat} {o : Nat} {p : Prop} (i : Nat) {x : Nat} (hp : p) (hx : us[i]? = some x) (ho : o = i) (hk : ∀ l,K (.im (.ip (uw x :: l)))) : Gn p ((ws us).drop o) (fun l=>some (.im (.ip l))) K:=by
 subst ho
 refine ⟨hp,fun l e=>?_⟩
 rw [e,ws_drop hx]; exact hk _
end
theorem ws_put (us : List Nat) (o x : Nat) : putAt (ws us) o [uw x] = ws (us.set o x):=by
 show (ws us).set o (uw x) = _
 simp [ws,uw,List.map_set]
theorem take_snoc' {α : Type} {l : List α} {i : Nat} {x : α} (h : l[i]? = some x) : l.take (i + 1) = l.take i ++ [x]:=by
 rw [List.take_add_one,h]; rfl
theorem drop_cons {α : Type} {l : List α} {i : Nat} {x : α} (h : l[i]? = some x) : l.drop i = x :: l.drop (i + 1):=by
 have hi:=(List.getElem?_eq_some_iff.1 h).1
 rw [List.drop_eq_getElem_cons hi]
 congr 1
 exact (List.getElem?_eq_some_iff.1 h).2
theorem nv_take {l : List Nat} {i x : Nat} (h : l[i]? = some x) : nv W64 (l.take (i + 1)) = nv W64 (l.take i) + W64 ^ i * x:=by
 have hi:=(List.getElem?_eq_some_iff.1 h).1
 rw [take_snoc' h,nv_append,nv_cons]
 simp [nv,Nat.min_eq_left (Nat.le_of_lt hi)]
def bS (ys vs : List Nat) (i : Nat) : Nat:=nv W64 (ys.take i) + nv W64 (vs.take i)
theorem bS_succ {ys vs : List Nat} {i y v : Nat} (hy : ys[i]? = some y) (hv : vs[i]? = some v) : bS ys vs (i + 1) = bS ys vs i + W64 ^ i * (y + v):=by
 unfold bS; rw [nv_take hy,nv_take hv,Nat.mul_add]; omega
theorem bS_carry {ys vs : List Nat} {i y v : Nat} (hy : ys[i]? = some y) (hv : vs[i]? = some v) : bS ys vs (i + 1) / W64 ^ (i + 1) = adc y v (bS ys vs i / W64 ^ i) ∧ wds (i + 1) (bS ys vs (i + 1)) = wds i (bS ys vs i) ++ [ads y v (bS ys vs i / W64 ^ i)]:=by
 have hp : 0 < W64 ^ i:=Nat.pow_pos W64_pos
 have e : bS ys vs (i + 1) / W64 ^ i = y + v + bS ys vs i / W64 ^ i:=by
  rw [bS_succ hy hv,Nat.add_mul_div_left _ _ hp]; omega
 refine ⟨?_,?_⟩
 ·rw [Nat.pow_succ,← Nat.div_div_eq_div_mul,e]; rfl
 ·rw [wds_snoc,e]
  congr 1
  rw [bS_succ hy hv,wds_add]
theorem i64s {i : Nat} (h : i ≤ 1000000000) : (((i + 1 : Nat)) : Int) = IntKind.i64.wrap ((i : Int) + 1):=by
 rw [IntWalk.i64_in _ (by omega)]; omega
theorem u64w (n : Nat) : IntKind.u64.wrap (n : Int) = ((n % W64 : Nat) : Int):=by
 rw [IntKind.wrap_u64]; unfold W64; omega
theorem u64w2 (a b : Nat) : IntKind.u64.wrap ((a : Int) + (b : Int)) = (((a + b) % W64 : Nat) : Int):=by
 rw [← u64w]; rfl
theorem bS_zero (ys vs : List Nat) : bS ys vs 0 / W64 ^ 0 = 0:=by simp [bS,nv]
theorem d_back {N : Nat} {A ys C vs : List Nat} (hn : ys.length = vs.length + 1) (hN : A.length + ys.length + C.length = N) (hb : N ≤ 1000000000) (hy : wf W64 ys) (hv : wf W64 vs) :
  Ec Tryz.prog 328 (own 1) [.row 51 1 N (ws (A ++ (ys ++ C)))] [.sub 0 A.length 1 (vs.length + 1),.im (nt vs)] (Is (.tup []) [.row 51 1 N (ws (A ++ (wds (vs.length + 1) (nv W64 ys + nv W64 vs) ++ C)))]):=by
 refine ec Tryz.func328 ?_
 refine lpt (fun i=>i ≤ vs.length) (fun i=>[(0,.sub 0 A.length 1 (vs.length + 1)),(1,.im (nt vs)),(4,.im (uw (bS ys vs i / W64 ^ i))),(7,.im (nt vs)),(8,ri .i64 vs.length),(9,ri .i64 i)])
  (fun i=>[.row 51 1 N (ws (A ++ (wds i (bS ys vs i) ++ (ys.drop i ++ C))))]) (fun i=>vs.length - i) 0 (Nat.zero_le _) (by rw [bS_zero]; exact tsr rfl) rfl ?_
 intro i t hi
 refine ifs rfl (fun hlt=>?_) (fun hge=>?_)
 ·have hlt' : i < vs.length:=by simpa using hlt
  obtain ⟨v,hv'⟩ : ∃ v,vs[i]? = some v:=⟨_,List.getElem?_eq_getElem hlt'⟩
  obtain ⟨y,hy'⟩ : ∃ y,ys[i]? = some y:=⟨_,List.getElem?_eq_getElem (by omega)⟩
  have hl:=wds_len i (bS ys vs i)
  have hc : bS ys vs i / W64 ^ i ≤ 1:=by
   have h1:=nv_lt (ys.take i) (wf_take hy i)
   have h2:=nv_lt (vs.take i) (wf_take hv i)
   rw [List.length_take,Nat.min_eq_left (by omega)] at h1 h2
   have : bS ys vs i < W64 ^ i * 2:=by unfold bS; omega
   exact Nat.le_of_lt_succ (Nat.div_lt_of_lt_mul this)
  obtain ⟨e1,e2⟩:=bS_carry hy' hv'
  have hd:=drop_cons hy'
  refine gi i ⟨by omega,by omega⟩ hv' (by omega) fun l=>?_
  refine ⟨⟨by omega,by omega⟩,?_⟩
  refine gw (A.length + i) (at3 hd (by omega)) (by omega) ?_
  refine ce (b_Add64 rfl rfl rfl (.inl hc) hc) rfl ?_
  refine ⟨⟨by omega,by omega⟩,?_⟩
  refine ⟨by simp [ws]; omega,?_⟩
  refine nx (i + 1) (by omega) ⟨by omega,?_,?_⟩
  ·exact ⟨rfl,rfl,congrArg (fun x=>AV.im (uw x)) e1.symm,rfl,rfl,congrArg (ri .i64) (i64s (by omega)).symm,trivial⟩
  ·show [AO.row 51 1 N (putAt (ws _) ((A.length + i) * 1) [uw (ads y v (bS ys vs i / W64 ^ i))])] = _
   rw [ws_put,set3 hd (by rw [hl]; omega),e2]
 ·have hi' : i = vs.length:=by simp at hge; omega
  subst hi'
  refine ⟨⟨by omega,by omega⟩,?_⟩
  obtain ⟨y,hy'⟩ : ∃ y,ys[vs.length]? = some y:=⟨_,List.getElem?_eq_getElem (by omega)⟩
  have hl:=wds_len vs.length (bS ys vs vs.length)
  have hd:=drop_cons hy'
  refine gw (A.length + vs.length) (at3 hd (by omega)) (by omega) ?_
  refine ⟨⟨by omega,by omega⟩,?_⟩
  refine ⟨by simp [ws]; omega,?_⟩
  refine fin0 ⟨rfl,?_⟩
  show [AO.row 51 1 N (putAt (ws _) ((A.length + vs.length) * 1) [.raw (.int .u64 (IntKind.u64.wrap ((y : Int) + (bS ys vs vs.length / W64 ^ vs.length : Nat))))])] = _
  have hd0 : ys.drop (vs.length + 1) = []:=List.drop_eq_nil_of_le (by omega)
  have e3 : bS ys vs vs.length + W64 ^ vs.length * y = nv W64 ys + nv W64 vs:=by
   have h1:=nv_take hy'
   rw [List.take_of_length_le (by omega)] at h1
   unfold bS; rw [List.take_of_length_le (Nat.le_refl vs.length)]; omega
  have e4 : wds (vs.length + 1) (nv W64 ys + nv W64 vs) = wds vs.length (bS ys vs vs.length) ++ [(y + bS ys vs vs.length / W64 ^ vs.length) % W64]:=by
   rw [← e3,wds_snoc,wds_add,Nat.add_mul_div_left _ _ (Nat.pow_pos W64_pos),Nat.add_comm y]
  rw [u64w2]
  rw [show [IV.raw (.int .u64 (((y + bS ys vs vs.length / W64 ^ vs.length) % W64 : Nat) : Int))] = [uw ((y + bS ys vs vs.length / W64 ^ vs.length) % W64)] from rfl,ws_put,set3 hd (by rw [hl]; omega),e4,hd0]
  rfl
structure Tk (ys vs : List Nat) (g i : Nat) (B : List Nat) (m b : Nat) : Prop where
 le : i ≤ vs.length
 len : B.length = i
 wf : wf W64 B
 b1 : b ≤ 1
 m1 : m < W64
 eq : nv W64 (ys.take i) + W64 ^ i * (m + b) = nv W64 B + g * nv W64 (vs.take i)
theorem Tk.step {ys vs B : List Nat} {g i m b y v : Nat} (h : Tk ys vs g i B m b) (hlt : i < vs.length) (hg : g < W64) (hy : ys[i]? = some y) (hv : vs[i]? = some v) (hyw : y < W64) (hvw : v < W64) :
  mhi g v + adc (mlo g v) m 0 < W64 ∧ Tk ys vs g (i + 1) (B ++ [sbs y (ads (mlo g v) m 0) b]) (mhi g v + adc (mlo g v) m 0) (sbb y (ads (mlo g v) m 0) b):=by
 have h1:=mhi_mlo g v
 have h2:=ads_adc (mlo g v) m 0
 have h3:=sbs_sbb y (ads (mlo g v) m 0) b hyw (ads_lt _ _ _) h.b1
 have hm : mhi g v + adc (mlo g v) m 0 < W64:=by
  have h4 : g * v ≤ (W64 - 1) * (W64 - 1):=Nat.mul_le_mul (by omega) (by omega)
  have h5:=h.m1
  have e : (W64 - 1) * (W64 - 1) + (W64 - 1) < W64 * W64:=by decide
  have h6 : W64 * (mhi g v + adc (mlo g v) m 0) < W64 * W64:=by rw [Nat.mul_add]; omega
  exact Nat.lt_of_mul_lt_mul_left h6
 refine ⟨hm,hlt,by simp [h.len],wf_append h.wf (wf_cons (sbs_lt _ _ _) (wf_nil _)),sbb_le _ _ _,hm,?_⟩
 rw [nv_take hy,nv_take hv,nv_snoc,h.len]
 have e:=h.eq
 have key : y + W64 * (mhi g v + adc (mlo g v) m 0 + sbb y (ads (mlo g v) m 0) b) = sbs y (ads (mlo g v) m 0) b + b + m + g * v:=by
  rw [Nat.mul_add,Nat.mul_add]; omega
 have key2 : W64 ^ i * (y + W64 * (mhi g v + adc (mlo g v) m 0 + sbb y (ads (mlo g v) m 0) b)) = W64 ^ i * (sbs y (ads (mlo g v) m 0) b + b + m + g * v):=by rw [key]
 have e5 : W64 ^ (i + 1) * (mhi g v + adc (mlo g v) m 0 + sbb y (ads (mlo g v) m 0) b) = W64 ^ i * (W64 * (mhi g v + adc (mlo g v) m 0 + sbb y (ads (mlo g v) m 0) b)):=by rw [Nat.pow_succ,Nat.mul_assoc]
 have e6 : g * (nv W64 (vs.take i) + W64 ^ i * v) = g * nv W64 (vs.take i) + W64 ^ i * (g * v):=by rw [Nat.mul_add,Nat.mul_left_comm]
 rw [e5,e6]
 simp only [Nat.mul_add] at e key2 ⊢
 omega
structure Tkn (ys vs : List Nat) (g : Nat) (zs : List Nat) (b : Nat) : Prop where
 len : zs.length = ys.length
 wf : wf W64 zs
 b1 : b ≤ 1
 eq : nv W64 ys + W64 ^ ys.length * b = nv W64 zs + g * nv W64 vs
theorem d_take {N : Nat} {A ys C vs : List Nat} {g : Nat} {gi_ : Int} (hgi : gi_ = g) (hg : g < W64) (hn : ys.length = vs.length + 1) (hN : A.length + ys.length + C.length = N) (hb : N ≤ 1000000000) (hy : wf W64 ys) (hv : wf W64 vs) :
  Ec Tryz.prog 327 (own 1) [.row 51 1 N (ws (A ++ (ys ++ C)))] [.sub 0 A.length 1 (vs.length + 1),.im (nt vs),.im (.raw (.int .u64 gi_))]
   (fun x H=>∃ zs b,Tkn ys vs g zs b ∧ x = rb (decide (b ≠ 0)) ∧ H = [.row 51 1 N (ws (A ++ (zs ++ C)))]):=by
 subst hgi
 refine ec Tryz.func327 ?_
 refine lpt4 (Tk ys vs g) (fun i B m b=>[(0,.sub 0 A.length 1 (vs.length + 1)),(1,.im (nt vs)),(2,.im (uw g)),(7,.im (uw m)),(8,.im (uw b)),(14,.im (nt vs)),(15,ri .i64 vs.length),(16,ri .i64 i)])
  (fun i B m b=>[.row 51 1 N (ws (A ++ (B ++ (ys.drop i ++ C))))]) (fun i B m b=>vs.length - i) 0 [] 0 0 ⟨Nat.zero_le _,rfl,wf_nil _,Nat.zero_le _,W64_pos,by simp [nv]⟩ (tsr rfl) rfl ?_
 intro i B m b t hi
 refine ifs rfl (fun hlt=>?_) (fun hge=>?_)
 ·have hlt' : i < vs.length:=by simpa using hlt
  obtain ⟨v,hv'⟩ : ∃ v,vs[i]? = some v:=⟨_,List.getElem?_eq_getElem hlt'⟩
  obtain ⟨y,hy'⟩ : ∃ y,ys[i]? = some y:=⟨_,List.getElem?_eq_getElem (by omega)⟩
  have hvw:=hv v (List.mem_of_getElem? hv')
  have hyw:=hy y (List.mem_of_getElem? hy')
  obtain ⟨hm,hs⟩:=hi.step hlt' hg hy' hv' hyw hvw
  have hl:=hi.len
  have hd:=drop_cons hy'
  refine gi i ⟨by omega,by omega⟩ hv' (by omega) fun l=>?_
  refine ce (b_Mul64 rfl rfl hg hvw) rfl ?_
  refine ce (b_Add64 rfl rfl (z:=0) rfl (.inr (.inr rfl)) (by omega)) rfl ?_
  refine ⟨⟨by omega,by omega⟩,?_⟩
  refine gw (A.length + i) (at3 hd (by omega)) (by omega) ?_
  refine ce (b_Sub64 rfl rfl rfl hi.b1) rfl ?_
  refine ⟨⟨by omega,by omega⟩,?_⟩
  refine ⟨by simp [ws]; omega,?_⟩
  refine nx4 (i + 1) (B ++ [sbs y (ads (mlo g v) m 0) b]) (mhi g v + adc (mlo g v) m 0) (sbb y (ads (mlo g v) m 0) b) (by omega) hs ?_ ?_
  ·have em : uw (mhi g v + adc (mlo g v) m 0) = .raw (.int .u64 (IntKind.u64.wrap ((mhi g v : Int) + (adc (mlo g v) m 0 : Nat)))):=by rw [u64w2,Nat.mod_eq_of_lt hm]; rfl
   exact ⟨rfl,rfl,rfl,congrArg AV.im em.symm,rfl,rfl,rfl,congrArg (ri .i64) (i64s (by omega)).symm,trivial⟩
  ·show [AO.row 51 1 N (putAt (ws _) ((A.length + i) * 1) [uw (sbs y (ads (mlo g v) m 0) b)])] = _
   rw [ws_put,set3 hd (by omega)]
 ·have hi' : i = vs.length:=by have:=hi.le; simp at hge; omega
  subst hi'
  obtain ⟨y,hy'⟩ : ∃ y,ys[vs.length]? = some y:=⟨_,List.getElem?_eq_getElem (by omega)⟩
  have hyw:=hy y (List.mem_of_getElem? hy')
  have hl:=hi.len
  have hd:=drop_cons hy'
  have hd0 : ys.drop (vs.length + 1) = []:=List.drop_eq_nil_of_le (by omega)
  refine ⟨⟨by omega,by omega⟩,?_⟩
  refine gw (A.length + vs.length) (at3 hd (by omega)) (by omega) ?_
  refine ce (b_Sub64 rfl rfl rfl hi.b1) rfl ?_
  refine ⟨⟨by omega,by omega⟩,?_⟩
  refine ⟨by simp [ws]; omega,?_⟩
  refine fin0 ⟨B ++ [sbs y m b],sbb y m b,⟨by simp [hl,hn],wf_append hi.wf (wf_cons (sbs_lt _ _ _) (wf_nil _)),sbb_le _ _ _,?_⟩,?_,?_⟩
  ·have h3:=sbs_sbb y m b hyw hi.m1 hi.b1
   have h1:=nv_take hy'
   rw [List.take_of_length_le (by omega)] at h1
   have e:=hi.eq
   rw [List.take_of_length_le (Nat.le_refl vs.length)] at e
   rw [h1,nv_snoc,hl,hn,Nat.pow_succ]
   have key : W64 ^ vs.length * (y + W64 * sbb y m b) = W64 ^ vs.length * (sbs y m b + m + b):=by rw [h3]
   simp only [Nat.mul_add,← Nat.mul_assoc] at key e ⊢
   omega
  ·show rb (((sbb y m b : Nat) : Int) != 0) = _
   by_cases h0 : sbb y m b = 0 <;> simp [h0,rb]
  ·show [AO.row 51 1 N (putAt (ws _) ((A.length + vs.length) * 1) [uw (sbs y m b)])] = _
   rw [ws_put,set3 hd (by omega),hd0]; rfl
end Go.Proofs.YtlhmaljjdpjkgaaGreatDoor
namespace Go.Proofs.YtlhmaljjdpjkgaaGreatDoor
structure Hq (H u u1 y1 y0 q r : Nat) : Prop where
 lo : (u * H + u1) / (y1 * H + y0) ≤ q
 eq : q * y1 + r = u
theorem Hq.start {H u u1 y1 y0 : Nat} (hy1 : 0 < y1) (hu1 : u1 < H) : Hq H u u1 y1 y0 (u / y1) (u - u / y1 * y1):=by
 have h1 : u / y1 * y1 ≤ u:=Nat.div_mul_le_self u y1
 refine ⟨?_,by omega⟩
 apply Nat.le_of_lt_succ
 have hy : 0 < y1 * H + y0:=Nat.add_pos_left (Nat.mul_pos hy1 (by omega)) _
 rw [Nat.div_lt_iff_lt_mul hy]
 have h2 : u < (u / y1 + 1) * y1:=by
  have:=Nat.div_add_mod u y1
  have h3:=Nat.mod_lt u hy1
  rw [Nat.add_mul,Nat.one_mul,Nat.mul_comm (u / y1) y1]; omega
 calc u * H + u1 < (u + 1) * H:=by rw [Nat.add_mul,Nat.one_mul]; omega
  _ ≤ ((u / y1 + 1) * y1) * H:=Nat.mul_le_mul_right H h2
  _ = (u / y1 + 1) * (y1 * H):=Nat.mul_assoc _ _ _
  _ ≤ (u / y1 + 1) * (y1 * H + y0):=Nat.mul_le_mul_left _ (Nat.le_add_right _ _)
section
variable {H u u1 y1 y0 q r : Nat}
theorem Hq.test (h : Hq H u u1 y1 y0 q r) : q * y0 ≤ H * r + u1 ↔ q * (y1 * H + y0) ≤ u * H + u1:=by
 have e : u * H = q * (y1 * H) + H * r:=by rw [← h.eq,Nat.add_mul,Nat.mul_assoc,Nat.mul_comm r H]
 rw [Nat.mul_add,e]; omega
theorem Hq.step (h : Hq H u u1 y1 y0 q r) (hq : 0 < q) (hu : u < y1 * H + y0) (hu1 : u1 < H) (ht : H ≤ q ∨ ¬ q * y0 ≤ H * r + u1) : Hq H u u1 y1 y0 (q - 1) (r + y1):=by
 refine ⟨?_,?_⟩
 ·have hy : 0 < y1 * H + y0:=by omega
  have h2 : (u * H + u1) / (y1 * H + y0) < q:=by
   rw [Nat.div_lt_iff_lt_mul hy]
   rcases ht with ht | ht
   ·calc u * H + u1 < (u + 1) * H:=by rw [Nat.add_mul,Nat.one_mul]; omega
     _ ≤ (y1 * H + y0) * H:=Nat.mul_le_mul_right H hu
     _ = H * (y1 * H + y0):=Nat.mul_comm _ _
     _ ≤ q * (y1 * H + y0):=Nat.mul_le_mul_right _ ht
   ·exact Nat.lt_of_not_le fun e=>ht (h.test.2 e)
  omega
 ·obtain ⟨k,rfl⟩ : ∃ k,q = k + 1:=⟨q - 1,by omega⟩
  have:=h.eq
  rw [Nat.add_mul,Nat.one_mul] at this
  rw [Nat.add_sub_cancel]; omega
theorem Hq.done (h : Hq H u u1 y1 y0 q r) (hy : 0 < y1 * H + y0) (hle : q * (y1 * H + y0) ≤ u * H + u1) : q = (u * H + u1) / (y1 * H + y0):=
 Nat.le_antisymm ((Nat.le_div_iff_mul_le hy).2 hle) h.lo
theorem Hq.far (h : Hq H u u1 y1 y0 q r) (hu : u < y1 * H + y0) (hy0 : y0 < H) (hr : H ≤ r) : q < H ∧ q * (y1 * H + y0) ≤ u * H + u1:=by
 have hq : q < H:=by
  apply Nat.lt_of_not_le
  intro e
  have h1:=h.eq
  have h2 : H * y1 ≤ q * y1:=Nat.mul_le_mul_right _ e
  rw [Nat.mul_comm H y1] at h2
  omega
 refine ⟨hq,h.test.1 ?_⟩
 calc q * y0 ≤ H * H:=Nat.mul_le_mul (Nat.le_of_lt hq) (Nat.le_of_lt hy0)
  _ ≤ H * r:=Nat.mul_le_mul_left _ hr
  _ ≤ H * r + u1:=Nat.le_add_right _ _
theorem Hq.le (h : Hq H u u1 y1 y0 q r) (hu : u < y1 * H + y0) (hy0 : y0 < H) (hyH : H ≤ 2 * y1) : q ≤ H + 1:=by
 apply Nat.le_of_not_lt
 intro e
 have h1:=h.eq
 have h2 : (H + 2) * y1 ≤ q * y1:=Nat.mul_le_mul_right _ e
 rw [Nat.add_mul,Nat.mul_comm H y1] at h2
 omega
end
theorem halves {H u u1 u0 y q1 q0 : Nat} (hy : 0 < y) (h1 : q1 = (u * H + u1) / y) (h0 : q0 = ((u * H + u1) % y * H + u0) / y) : (u * (H * H) + (u1 * H + u0)) / y = q1 * H + q0 ∧ (u * (H * H) + (u1 * H + u0)) % y = ((u * H + u1) % y * H + u0) % y:=by
 have e : u * (H * H) + (u1 * H + u0) = ((u * H + u1) % y * H + u0) + (q1 * H) * y:=by
  have h2:=Nat.div_add_mod (u * H + u1) y
  rw [← h1] at h2
  have h3 : (u * H + u1) * H = (y * q1 + (u * H + u1) % y) * H:=by rw [h2]
  rw [Nat.add_mul,Nat.add_mul] at h3
  rw [← Nat.mul_assoc,Nat.mul_comm (q1 * H) y,← Nat.mul_assoc]
  omega
 rw [e]
 exact ⟨by rw [Nat.add_mul_div_right _ _ hy,← h0,Nat.add_comm],Nat.add_mul_mod_self_right _ _ _⟩
end Go.Proofs.YtlhmaljjdpjkgaaGreatDoor
namespace Go.Proofs.YtlhmaljjdpjkgaaGreatDoor
open Go Go.RowKit
def lz (x : Nat) : Nat:=64 - Lib.bitLen x
theorem b_Len64 {a : Int} {x : Nat} (ha : a = x) (hx : x < W64) : Pc Tryz.prog 88 [.raw (.int .u64 a)] (· = .raw (.int .i64 (Lib.bitLen x : Nat))):=
 pc_raw (ent_of Tryz.func88 (by kernel_rfl)) fun w vs hc=>by
  subst ha
  obtain ⟨v,rfl,h1⟩:=ci1 hc; cases h1
  have:=bits_Len64_raw (x : Int) w (by omega) (by unfold W64 at hx; omega)
  exact this.mono fun e w' h=>⟨by rw [h.1]; rfl,dr_refl h.2.symm⟩
theorem bitLen64 {x : Nat} (hx : x < W64) : Lib.bitLen x ≤ 64:=Lib.bitLen_le x 64 (by unfold W64 at hx; omega) (by unfold W64 at hx; omega)
theorem b_Lz {a : Int} {x : Nat} (ha : a = x) (hx : x < W64) : Pc Tryz.prog 221 [.raw (.int .u64 a)] (· = .raw (.int .i64 (lz x : Nat))):=by
 refine pc Tryz.func221 ?_
 refine ce (b_Len64 ha hx) rfl ?_
 have h:=bitLen64 hx
 rw [show (lz x : Int) = IntKind.i64.wrap (64 - (Lib.bitLen x : Nat)) from by rw [IntWalk.i64_in _ (by omega)]; unfold lz; omega]
 exact rfl
theorem shl_e {x s : Nat} {b : Int} (hb : b = s) (hs : s ≤ 64) : IntKind.u64.wrap ((x : Int) * 2 ^ (min b.toNat IntKind.u64.bits)) = ((x * 2 ^ s % W64 : Nat) : Int):=by
 subst hb
 have : min ((s : Nat) : Int).toNat IntKind.u64.bits = s:=by simp [IntKind.bits]; omega
 rw [this,← u64w]; simp
theorem shr_e {x s : Nat} {b : Int} (hb : b = s) (hs : s ≤ 64) : ((x : Int)).fdiv (2 ^ (min b.toNat IntKind.u64.bits)) = ((x / 2 ^ s : Nat) : Int):=by
 subst hb
 have : min ((s : Nat) : Int).toNat IntKind.u64.bits = s:=by simp [IntKind.bits]; omega
 rw [this,Int.fdiv_eq_ediv_of_nonneg _ (Int.le_of_lt (Int.pow_pos (by decide)))]; simp
theorem and_e {x : Nat} {b : Int} (hb : b = 4294967295) (hx : x < W64) : IntKind.u64.wrap (BitVec.ofInt IntKind.u64.bits (x : Int) &&& BitVec.ofInt IntKind.u64.bits b).toNat = ((x % 4294967296 : Nat) : Int):=by
 subst hb
 have:=bits_and_u64_nat x 4294967295 (by unfold W64 at hx; exact hx) (by decide)
 rw [show (4294967295 : Nat) = 2 ^ 32 - 1 from rfl,Nat.and_two_pow_sub_one_eq_mod] at this
 exact this
theorem quo_e {x y : Nat} (hx : x < W64) (hy : 0 < y) : IntKind.u64.wrap ((x : Int).tdiv (y : Int)) = ((x / y : Nat) : Int):=by
 rw [IntWalk.u64_quo _ _ ⟨by omega,by unfold W64 at hx; omega,by omega⟩]; rfl
theorem sub_e {u a b : Nat} (h : a * b ≤ u) (hu : u < W64) : IntKind.u64.wrap ((u : Int) - IntKind.u64.wrap ((a : Int) * (b : Int))) = ((u - a * b : Nat) : Int):=by
 have e : (a : Int) * (b : Int) = ((a * b : Nat) : Int):=by simp
 unfold W64 at hu
 rw [e,IntWalk.u64_in ((a * b : Nat) : Int) ⟨by omega,by omega⟩,IntWalk.u64_in _ ⟨by omega,by omega⟩]; omega
theorem rem_e {u u1 q Y : Nat} (hq : q = (u * 4294967296 + u1) / Y) (hv : (u * 4294967296 + u1) % Y < Y) (hY : Y < W64) :
  IntKind.u64.wrap (IntKind.u64.wrap (IntKind.u64.wrap ((u : Int) * 4294967296) + (u1 : Int)) - IntKind.u64.wrap ((q : Int) * (Y : Int))) = (((u * 4294967296 + u1) % Y : Nat) : Int):=by
 have h:=Nat.div_add_mod (u * 4294967296 + u1) Y
 rw [← hq,Nat.mul_comm] at h
 have e : (q : Int) * (Y : Int) = ((q * Y : Nat) : Int):=by simp
 rw [e]
 unfold W64 at hY
 generalize q * Y = a at *
 generalize (u * 4294967296 + u1) % Y = b at *
 simp only [IntKind.wrap_u64]
 omega
theorem or_e {x h s : Nat} (hs : s < 64) (hh : h < W64) : IntKind.u64.wrap (BitVec.ofInt IntKind.u64.bits ((x * 2 ^ s % W64 : Nat) : Int) ||| BitVec.ofInt IntKind.u64.bits ((h / 2 ^ (64 - s) : Nat) : Int)).toNat = ((x * 2 ^ s % W64 + h / 2 ^ (64 - s) : Nat) : Int):=by
 have hl : x * 2 ^ s % W64 < W64:=Nat.mod_lt _ (by decide)
 have h1:=shl_hi_lt h s hs hh
 have hhl : h / 2 ^ (64 - s) < W64:=Nat.lt_of_lt_of_le h1 (by rw [show W64 = 2 ^ 64 from rfl]; exact Nat.pow_le_pow_right (by decide) (by omega))
 have:=bits_or_u64_nat (x * 2 ^ s % W64) (h / 2 ^ (64 - s)) hl hhl
 refine (show _ = _ from this).trans ?_
 have e2 : x * 2 ^ s % W64 = 2 ^ s * (x % 2 ^ (64 - s)):=by
  rw [show W64 = 2 ^ s * 2 ^ (64 - s) from by rw [← Nat.pow_add,show s + (64 - s) = 64 from by omega]; rfl,Nat.mul_comm x,Nat.mul_mod_mul_left]
 rw [e2,← Nat.two_pow_add_eq_or_of_lt h1]
theorem lz_spec {y : Nat} (h0 : y ≠ 0) (hy : y < W64) : lz y < 64 ∧ y * 2 ^ lz y < W64 ∧ W64 ≤ 2 * (y * 2 ^ lz y):=by
 obtain ⟨h1,h2⟩ : IsBl y (Lib.bitLen y):=isBl_aux 64 y hy
 have hb:=bitLen64 hy
 have hp : 0 < Lib.bitLen y:=by
  apply Nat.pos_of_ne_zero; intro e; rw [e] at h1; simp at h1; exact h0 h1
 have h2:=h2 hp
 unfold lz
 obtain ⟨b,hb'⟩ : ∃ b,Lib.bitLen y = b + 1:=⟨Lib.bitLen y - 1,by omega⟩
 rw [hb'] at h1 h2 hb ⊢
 have e1 : 2 ^ (b + 1) * 2 ^ (64 - (b + 1)) = W64:=by rw [← Nat.pow_add,show b + 1 + (64 - (b + 1)) = 64 by omega]; rfl
 refine ⟨by omega,?_,?_⟩
 ·rw [← e1]; exact Nat.mul_lt_mul_of_pos_right h1 (Nat.two_pow_pos _)
 ·rw [← e1,Nat.pow_succ,Nat.mul_comm (2 ^ b) 2,Nat.mul_assoc]
  exact Nat.mul_le_mul_left 2 (Nat.mul_le_mul_right _ h2)
set_option maxHeartbeats 2000000 in
theorem b_Div64 {a b c : Int} {hi lo y : Nat} (ha : a = hi) (hb : b = lo) (hc : c = y) (hy : y < W64) (hlo : lo < W64) (hlt : hi < y) :
  Pc Tryz.prog 325 [.raw (.int .u64 a),.raw (.int .u64 b),.raw (.int .u64 c)] (· = .tup [uw ((hi * W64 + lo) / y),uw ((hi * W64 + lo) % y)]):=by
 subst ha hb hc
 have hhi : hi < W64:=Nat.lt_trans hlt hy
 obtain ⟨s1,s2,s3⟩:=lz_spec (by omega) hy
 refine pc Tryz.func325 ?_
 refine iff_ rfl (by simp; omega) ?_
 refine iff_ rfl (by simp; omega) ?_
 refine ifs rfl (fun h0=>?_) (fun h0=>?_)
 ·have h0 : hi = 0:=by simpa using h0
  subst h0
  refine rq [0,1,2,3,4,5,6,7] ?_
  refine ⟨by omega,?_⟩
  refine ⟨by omega,?_⟩
  show IV.tup [.raw (.int .u64 (IntKind.u64.wrap ((lo : Int).tdiv (y : Int)))),.raw (.int .u64 ((lo : Int).tmod (y : Int)))] = _
  have hq : IntKind.u64.wrap ((lo : Int).tdiv (y : Int)) = ((lo / y : Nat) : Int):=by
   rw [IntWalk.u64_quo _ _ ⟨by omega,by unfold W64 at hlo; omega,by omega⟩]; rfl
  have hr : (lo : Int).tmod (y : Int) = ((lo % y : Nat) : Int):=rfl
  rw [hq,hr,Nat.zero_mul,Nat.zero_add]; rfl
 have hsw : IntKind.u64.wrap (lz y : Int) = (lz y : Int):=by rw [u64w,Nat.mod_eq_of_lt (by unfold W64; omega)]
 generalize hsz : lz y = s at *
 generalize hyn : y * 2 ^ s = Y at *
 refine ce (b_Lz rfl hy) (by rfl) ?_
 rw [hsz]
 refine ⟨by rw [hsw]; omega,?_⟩
 rw [hsw,shl_e rfl (by omega),hyn,Nat.mod_eq_of_lt s2]
 refine ⟨by omega,?_⟩
 rw [shr_e (b:=32) (s:=32) rfl (by omega)]
 refine ⟨by omega,?_⟩
 rw [and_e (b:=4294967295) rfl s2,shl_e rfl (by omega)]
 have e64 : IntKind.u64.wrap (64 - (s : Int)) = ((64 - s : Nat) : Int):=by rw [IntWalk.u64_in _ ⟨by omega,by omega⟩]; omega
 refine ⟨by rw [e64]; omega,?_⟩
 rw [e64,shr_e rfl (by omega)]
 refine ⟨by omega,?_⟩
 rw [or_e s1 hlo,shl_e rfl (by omega)]
 refine ⟨by omega,?_⟩
 rw [shr_e (b:=32) (s:=32) rfl (by omega)]
 have xlt : lo * 2 ^ s % W64 < W64:=Nat.mod_lt _ W64_pos
 have hY1 : Y / 2 ^ 32 < 4294967296:=Nat.div_lt_of_lt_mul (by unfold W64 at s2; omega)
 have hY2 : 4294967296 ≤ 2 * (Y / 2 ^ 32):=by
  have : 2 ^ 32 = 4294967296:=rfl
  unfold W64 at s3; omega
 have hYe : Y / 2 ^ 32 * 4294967296 + Y % 4294967296 = Y:=by rw [Nat.mul_comm]; exact Nat.div_add_mod _ _
 have hh : hi * 2 ^ s < W64:=Nat.lt_of_le_of_lt (Nat.mul_le_mul_right _ (Nat.le_of_lt hlt)) (by rw [hyn]; exact s2)
 have hu0 : hi * 2 ^ s % W64 = hi * 2 ^ s:=Nat.mod_eq_of_lt hh
 have hsp:=shl_split lo s s1
 have hE : (hi * W64 + lo) * 2 ^ s = (hi * 2 ^ s + lo / 2 ^ (64 - s)) * W64 + lo * 2 ^ s % W64:=by
  rw [Nat.add_mul,Nat.add_mul,Nat.mul_right_comm hi W64,Nat.mul_comm (lo / _) W64]; omega
 have hT : (hi * W64 + lo) * 2 ^ s < Y * W64:=by
  have h1 : hi * W64 + lo < y * W64:=by
   have : (hi + 1) * W64 ≤ y * W64:=Nat.mul_le_mul_right _ hlt
   rw [Nat.add_mul,Nat.one_mul] at this; omega
  have:=Nat.mul_lt_mul_of_pos_right h1 (Nat.two_pow_pos s)
  rwa [Nat.mul_right_comm,hyn] at this
 have hX : lo * 2 ^ s % W64 / 2 ^ 32 * 4294967296 + lo * 2 ^ s % W64 % 4294967296 = lo * 2 ^ s % W64:=by rw [Nat.mul_comm]; exact Nat.div_add_mod _ _
 have hX1 : lo * 2 ^ s % W64 / 2 ^ 32 < 4294967296:=Nat.div_lt_of_lt_mul (by unfold W64 at xlt; exact xlt)
 have hX0 : lo * 2 ^ s % W64 % 4294967296 < 4294967296:=Nat.mod_lt _ (by decide)
 have y0H : Y % 4294967296 < 4294967296:=Nat.mod_lt _ (by decide)
 rw [hu0]
 refine fr rfl ?_
 refine ⟨by omega,?_⟩
 rw [and_e (b:=4294967295) rfl xlt]
 generalize Y / 2 ^ 32 = y1 at *
 generalize Y % 4294967296 = y0 at *
 generalize lo * 2 ^ s % W64 / 2 ^ 32 = u1 at *
 generalize lo * 2 ^ s % W64 % 4294967296 = u0 at *
 generalize lo * 2 ^ s % W64 = X at *
 generalize hi * 2 ^ s + lo / 2 ^ (64 - s) = u at *
 have uY : u < Y:=by
  apply Nat.lt_of_mul_lt_mul_right (a:=W64)
  omega
 have y1p : 0 < y1:=by omega
 have hyH:=hY2
 have u1H:=hX1
 have u0H:=hX0
 rw [quo_e (by omega) y1p]
 have ur0 : u / y1 * y1 ≤ u:=Nat.div_mul_le_self u y1
 have ur : u - u / y1 * y1 < 4294967296:=by
  have h1:=Nat.div_add_mod u y1
  have h2:=Nat.mod_lt u y1p
  rw [Nat.mul_comm] at h1; omega
 have e16 : IntKind.u64.wrap ((u : Int) - IntKind.u64.wrap (((u / y1 : Nat) : Int) * (y1 : Int))) = ((u - u / y1 * y1 : Nat) : Int):=sub_e ur0 (by omega)
 refine fr rfl ?_
 refine lpq 0 (fun q=>q = (u * 4294967296 + u1) / Y) (fun q=>[(2,.im (uw Y)),(8,.im (uw s)),(9,.im (uw y1)),(10,.im (uw y0)),(11,.im (uw u)),(13,.im (uw u1)),(14,.im (uw u0)),(15,.im (uw q))]) (fun _=>[]) ?_ ?_
 ·refine lpt2 (fun q r=>Hq 4294967296 u u1 y1 y0 q r ∧ r < 4294967296 ∧ q ≤ 4294967296 + 1) (fun q r=>[(2,.im (uw Y)),(8,.im (uw s)),(9,.im (uw y1)),(10,.im (uw y0)),(11,.im (uw u)),(13,.im (uw u1)),(14,.im (uw u0)),(15,.im (uw q)),(16,.im (uw r))]) (fun _ _=>[]) (fun q r=>q) (u / y1) (u - u / y1 * y1) ⟨Hq.start y1p u1H,ur,(Hq.start (y0:=y0) y1p u1H).le (by rw [hYe]; exact uY) y0H hyH⟩ ⟨rfl,rfl,rfl,rfl,rfl,rfl,rfl,rfl,congrArg (ri .u64) e16,trivial⟩ rfl ?_
  intro q r t hI
  have hq0 : Hq 4294967296 u u1 y1 y0 q r:=hI.1
  have hr0:=hI.2.1
  have hqle:=hI.2.2
  have stepq : q ≠ 0 → IntKind.u64.wrap ((q : Int) - 1) = ((q - 1 : Nat) : Int):=fun h=>by rw [IntWalk.u64_in _ ⟨by omega,by omega⟩]; omega
  have stepr : IntKind.u64.wrap ((r : Int) + (y1 : Int)) = ((r + y1 : Nat) : Int):=by rw [u64w2,Nat.mod_eq_of_lt (by unfold W64; omega)]
  have nz : 0 < q → (4294967296 ≤ q ∨ ¬ q * y0 ≤ 4294967296 * r + u1) → Hq 4294967296 u u1 y1 y0 (q - 1) (r + y1):=fun h0 h=>hq0.step h0 (by rw [hYe]; exact uY) u1H h
  by_cases hqH : 4294967296 ≤ q
  ·have hd : decide ((q : Int) ≥ 4294967296) = true:=decide_eq_true (by omega)
   iterate 8 refine gf (by rw [hd]; rfl) ?_
   refine tw hd ?_
   refine ift rfl rfl ?_
   have hs':=nz (by omega) (.inl hqH)
   have hq1 : q ≠ 0:=by omega
   refine ifs rfl (fun hb=>?_) (fun hb=>?_)
   ·have hb : 4294967296 ≤ r + y1:=by
     have hb:=of_decide_eq_true hb
     rw [stepr] at hb; omega
    obtain ⟨f1,f2⟩:=hs'.far (by rw [hYe]; exact uY) y0H hb
    have f3:=hs'.done (by omega) f2
    rw [hYe] at f3
    refine ex (q - 1) f3 ⟨rfl,rfl,rfl,rfl,rfl,rfl,rfl,congrArg AV.im (congrArg IV.raw (congrArg (Value.int .u64) (stepq hq1))),trivial⟩ rfl
   ·have hb : r + y1 < 4294967296:=by
     have hb:=of_decide_eq_false hb
     rw [stepr] at hb; omega
    exact nx2 (q - 1) (r + y1) (by omega) ⟨hs',hb,by omega⟩ ⟨rfl,rfl,rfl,rfl,rfl,rfl,rfl,congrArg AV.im (congrArg IV.raw (congrArg (Value.int .u64) (stepq hq1))),congrArg AV.im (congrArg IV.raw (congrArg (Value.int .u64) stepr)),trivial⟩ rfl
  ·have hd : decide ((q : Int) ≥ 4294967296) = false:=decide_eq_false (by omega)
   iterate 8 refine gt hd ?_
   refine tf hd ?_
   have m1 : q * y0 < W64:=Nat.lt_of_lt_of_le (Nat.mul_lt_mul'' (Nat.lt_of_not_le hqH) y0H) (by decide)
   have c1 : IntKind.u64.wrap ((q : Int) * (y0 : Int)) = ((q * y0 : Nat) : Int):=by
    rw [show (q : Int) * (y0 : Int) = ((q * y0 : Nat) : Int) from by simp,u64w,Nat.mod_eq_of_lt m1]
   have c2 : IntKind.u64.wrap (IntKind.u64.wrap (4294967296 * (r : Int)) + (u1 : Int)) = ((4294967296 * r + u1 : Nat) : Int):=by
    rw [IntWalk.u64_in (4294967296 * (r : Int)) ⟨by omega,by omega⟩,IntWalk.u64_in _ ⟨by omega,by omega⟩]; omega
   refine ifs rfl (fun hb=>?_) (fun hb=>?_)
   ·have hb : ¬ q * y0 ≤ 4294967296 * r + u1:=by
     have hb:=of_decide_eq_true hb
     rw [c1,c2] at hb; omega
    have hq1' : q ≠ 0:=fun e=>hb (by rw [e,Nat.zero_mul]; exact Nat.zero_le _)
    have hs':=nz (by omega) (.inr hb)
    have hq1 : q ≠ 0:=by omega
    refine ifs rfl (fun hb=>?_) (fun hb=>?_)
    ·have hb : 4294967296 ≤ r + y1:=by
      have hb:=of_decide_eq_true hb
      rw [stepr] at hb; omega
     obtain ⟨f1,f2⟩:=hs'.far (by rw [hYe]; exact uY) y0H hb
     have f3:=hs'.done (by omega) f2
     rw [hYe] at f3
     refine ex (q - 1) f3 ⟨rfl,rfl,rfl,rfl,rfl,rfl,rfl,congrArg AV.im (congrArg IV.raw (congrArg (Value.int .u64) (stepq hq1))),trivial⟩ rfl
    ·have hb : r + y1 < 4294967296:=by
      have hb:=of_decide_eq_false hb
      rw [stepr] at hb; omega
     exact nx2 (q - 1) (r + y1) (by omega) ⟨hs',hb,by omega⟩ ⟨rfl,rfl,rfl,rfl,rfl,rfl,rfl,congrArg AV.im (congrArg IV.raw (congrArg (Value.int .u64) (stepq hq1))),congrArg AV.im (congrArg IV.raw (congrArg (Value.int .u64) stepr)),trivial⟩ rfl
   ·have hb : q * y0 ≤ 4294967296 * r + u1:=by
     have hb:=of_decide_eq_false hb
     rw [c1,c2] at hb; omega
    have f3:=hq0.done (by omega) (hq0.test.1 hb)
    rw [hYe] at f3
    refine ex q f3 (tsr rfl) rfl
 intro q1 t hq1
 have hv:=Nat.mod_lt (u * 4294967296 + u1) (y:=Y) (by omega)
 have e17 : IntKind.u64.wrap (IntKind.u64.wrap (IntKind.u64.wrap ((u : Int) * 4294967296) + (u1 : Int)) - IntKind.u64.wrap ((q1 : Int) * (Y : Int))) = (((u * 4294967296 + u1) % Y : Nat) : Int):=rem_e hq1 hv s2
 refine ⟨by omega,?_⟩
 rw [e17]
 generalize hv' : (u * 4294967296 + u1) % Y = v at *
 have vY:=hv
 rw [quo_e (by omega) y1p]
 have vr0 : v / y1 * y1 ≤ v:=Nat.div_mul_le_self v y1
 have vr : v - v / y1 * y1 < 4294967296:=by
  have h1:=Nat.div_add_mod v y1
  have h2:=Nat.mod_lt v y1p
  rw [Nat.mul_comm] at h1; omega
 have e16b : IntKind.u64.wrap ((v : Int) - IntKind.u64.wrap (((v / y1 : Nat) : Int) * (y1 : Int))) = ((v - v / y1 * y1 : Nat) : Int):=sub_e vr0 (by omega)
 refine fr rfl ?_
 refine lpq 2 (fun q=>q = (v * 4294967296 + u0) / Y) (fun q=>[(2,.im (uw Y)),(8,.im (uw s)),(9,.im (uw y1)),(10,.im (uw y0)),(14,.im (uw u0)),(15,.im (uw q1)),(17,.im (uw v)),(18,.im (uw q))]) (fun _=>[]) ?_ ?_
 ·refine lpt2 (fun q r=>Hq 4294967296 v u0 y1 y0 q r ∧ r < 4294967296 ∧ q ≤ 4294967296 + 1) (fun q r=>[(2,.im (uw Y)),(8,.im (uw s)),(9,.im (uw y1)),(10,.im (uw y0)),(14,.im (uw u0)),(15,.im (uw q1)),(17,.im (uw v)),(18,.im (uw q)),(16,.im (uw r))]) (fun _ _=>[]) (fun q r=>q) (v / y1) (v - v / y1 * y1) ⟨Hq.start y1p u0H,vr,(Hq.start (y0:=y0) y1p u0H).le (by rw [hYe]; exact vY) y0H hyH⟩ ⟨rfl,rfl,rfl,rfl,rfl,rfl,rfl,rfl,congrArg (ri .u64) e16b,trivial⟩ rfl ?_
  intro q r t hI
  have hq0 : Hq 4294967296 v u0 y1 y0 q r:=hI.1
  have hr0:=hI.2.1
  have hqle:=hI.2.2
  have stepq : q ≠ 0 → IntKind.u64.wrap ((q : Int) - 1) = ((q - 1 : Nat) : Int):=fun h=>by rw [IntWalk.u64_in _ ⟨by omega,by omega⟩]; omega
  have stepr : IntKind.u64.wrap ((r : Int) + (y1 : Int)) = ((r + y1 : Nat) : Int):=by rw [u64w2,Nat.mod_eq_of_lt (by unfold W64; omega)]
  have nz : 0 < q → (4294967296 ≤ q ∨ ¬ q * y0 ≤ 4294967296 * r + u0) → Hq 4294967296 v u0 y1 y0 (q - 1) (r + y1):=fun h0 h=>hq0.step h0 (by rw [hYe]; exact vY) u0H h
  by_cases hqH : 4294967296 ≤ q
  ·have hd : decide ((q : Int) ≥ 4294967296) = true:=decide_eq_true (by omega)
   iterate 8 refine gf (by rw [hd]; rfl) ?_
   refine tw hd ?_
   refine ift rfl rfl ?_
   have hs':=nz (by omega) (.inl hqH)
   have hq1 : q ≠ 0:=by omega
   refine ifs rfl (fun hb=>?_) (fun hb=>?_)
   ·have hb : 4294967296 ≤ r + y1:=by
     have hb:=of_decide_eq_true hb
     rw [stepr] at hb; omega
    obtain ⟨f1,f2⟩:=hs'.far (by rw [hYe]; exact vY) y0H hb
    have f3:=hs'.done (by omega) f2
    rw [hYe] at f3
    refine ex (q - 1) f3 ⟨rfl,rfl,rfl,rfl,rfl,rfl,rfl,congrArg AV.im (congrArg IV.raw (congrArg (Value.int .u64) (stepq hq1))),trivial⟩ rfl
   ·have hb : r + y1 < 4294967296:=by
     have hb:=of_decide_eq_false hb
     rw [stepr] at hb; omega
    exact nx2 (q - 1) (r + y1) (by omega) ⟨hs',hb,by omega⟩ ⟨rfl,rfl,rfl,rfl,rfl,rfl,rfl,congrArg AV.im (congrArg IV.raw (congrArg (Value.int .u64) (stepq hq1))),congrArg AV.im (congrArg IV.raw (congrArg (Value.int .u64) stepr)),trivial⟩ rfl
  ·have hd : decide ((q : Int) ≥ 4294967296) = false:=decide_eq_false (by omega)
   iterate 8 refine gt hd ?_
   refine tf hd ?_
   have m1 : q * y0 < W64:=Nat.lt_of_lt_of_le (Nat.mul_lt_mul'' (Nat.lt_of_not_le hqH) y0H) (by decide)
   have c1 : IntKind.u64.wrap ((q : Int) * (y0 : Int)) = ((q * y0 : Nat) : Int):=by
    rw [show (q : Int) * (y0 : Int) = ((q * y0 : Nat) : Int) from by simp,u64w,Nat.mod_eq_of_lt m1]
   have c2 : IntKind.u64.wrap (IntKind.u64.wrap (4294967296 * (r : Int)) + (u0 : Int)) = ((4294967296 * r + u0 : Nat) : Int):=by
    rw [IntWalk.u64_in (4294967296 * (r : Int)) ⟨by omega,by omega⟩,IntWalk.u64_in _ ⟨by omega,by omega⟩]; omega
   refine ifs rfl (fun hb=>?_) (fun hb=>?_)
   ·have hb : ¬ q * y0 ≤ 4294967296 * r + u0:=by
     have hb:=of_decide_eq_true hb
     rw [c1,c2] at hb; omega
    have hq1' : q ≠ 0:=fun e=>hb (by rw [e,Nat.zero_mul]; exact Nat.zero_le _)
    have hs':=nz (by omega) (.inr hb)
    have hq1 : q ≠ 0:=by omega
    refine ifs rfl (fun hb=>?_) (fun hb=>?_)
    ·have hb : 4294967296 ≤ r + y1:=by
      have hb:=of_decide_eq_true hb
      rw [stepr] at hb; omega
     obtain ⟨f1,f2⟩:=hs'.far (by rw [hYe]; exact vY) y0H hb
     have f3:=hs'.done (by omega) f2
     rw [hYe] at f3
     refine ex (q - 1) f3 ⟨rfl,rfl,rfl,rfl,rfl,rfl,rfl,congrArg AV.im (congrArg IV.raw (congrArg (Value.int .u64) (stepq hq1))),trivial⟩ rfl
    ·have hb : r + y1 < 4294967296:=by
      have hb:=of_decide_eq_false hb
      rw [stepr] at hb; omega
     exact nx2 (q - 1) (r + y1) (by omega) ⟨hs',hb,by omega⟩ ⟨rfl,rfl,rfl,rfl,rfl,rfl,rfl,congrArg AV.im (congrArg IV.raw (congrArg (Value.int .u64) (stepq hq1))),congrArg AV.im (congrArg IV.raw (congrArg (Value.int .u64) stepr)),trivial⟩ rfl
   ·have hb : q * y0 ≤ 4294967296 * r + u0:=by
     have hb:=of_decide_eq_false hb
     rw [c1,c2] at hb; omega
    have f3:=hq0.done (by omega) (hq0.test.1 hb)
    rw [hYe] at f3
    refine ex q f3 (tsr rfl) rfl
 intro q0 t hq0
 have hw:=Nat.mod_lt (v * 4294967296 + u0) (y:=Y) (by omega)
 have e18 : IntKind.u64.wrap (IntKind.u64.wrap (IntKind.u64.wrap ((v : Int) * 4294967296) + (u0 : Int)) - IntKind.u64.wrap ((q0 : Int) * (Y : Int))) = (((v * 4294967296 + u0) % Y : Nat) : Int):=rem_e hq0 hw s2
 refine ⟨by omega,?_⟩
 rw [e18,shr_e rfl (by omega)]
 obtain ⟨k1,k2⟩:=halves (H:=4294967296) (u:=u) (u1:=u1) (u0:=u0) (q0:=q0) (by omega) hq1 (by rw [hv']; exact hq0)
 have eN : u * (4294967296 * 4294967296) + (u1 * 4294967296 + u0) = (hi * W64 + lo) * 2 ^ s:=by rw [hE,hX]; rfl
 rw [eN,← hyn,Nat.mul_div_mul_right _ _ (Nat.two_pow_pos s)] at k1
 rw [eN,hv',← hyn,Nat.mul_mod_mul_right,hyn] at k2
 have hqlt : (hi * W64 + lo) / y < W64:=by
  apply Nat.div_lt_of_lt_mul
  have : (hi + 1) * W64 ≤ y * W64:=Nat.mul_le_mul_right _ hlt
  rw [Nat.add_mul,Nat.one_mul] at this; omega
 have e19 : IntKind.u64.wrap (IntKind.u64.wrap ((q1 : Int) * 4294967296) + (q0 : Int)) = (((hi * W64 + lo) / y : Nat) : Int):=by
  rw [k1]
  unfold W64 at hqlt
  unfold W64 at k1
  simp only [IntKind.wrap_u64]; omega
 rw [← k2,Nat.mul_div_cancel _ (Nat.two_pow_pos s)]
 show IV.tup [.raw (.int .u64 (IntKind.u64.wrap (IntKind.u64.wrap ((q1 : Int) * 4294967296) + (q0 : Int)))),.raw (.int .u64 (((hi * W64 + lo) % y : Nat) : Int))] = _
 rw [e19]; rfl
end Go.Proofs.YtlhmaljjdpjkgaaGreatDoor
namespace Go.Proofs.YtlhmaljjdpjkgaaGreatDoor
theorem guess_ok {B K u3 ul v2 vl q3 : Nat} (hul : ul < K) (hvl : vl < K) (hV : B ≤ v2) (hu : u3 * K + ul < (v2 * K + vl) * B) (h1 : q3 * v2 ≤ u3) (hB : q3 < B) (h2 : q3 + 1 = B ∨ u3 < (q3 + 1) * v2) :
  (u3 * K + ul) / (v2 * K + vl) ≤ q3 ∧ q3 ≤ (u3 * K + ul) / (v2 * K + vl) + 1:=by
 have hK : 0 < K:=by omega
 have hv : 0 < v2 * K + vl:=Nat.pos_of_ne_zero fun e=>by rw [e,Nat.zero_mul] at hu; omega
 constructor
 ·rcases h2 with h2 | h2
  ·have:=(Nat.div_lt_iff_lt_mul hv).2 (by rw [Nat.mul_comm]; exact hu)
   omega
  ·apply Nat.le_of_lt_succ
   rw [Nat.div_lt_iff_lt_mul hv]
   calc u3 * K + ul < (u3 + 1) * K:=by rw [Nat.add_mul,Nat.one_mul]; omega
    _ ≤ ((q3 + 1) * v2) * K:=Nat.mul_le_mul_right K h2
    _ = (q3 + 1) * (v2 * K):=Nat.mul_assoc _ _ _
    _ ≤ (q3 + 1) * (v2 * K + vl):=Nat.mul_le_mul_left _ (Nat.le_add_right _ _)
 ·by_cases h0 : q3 = 0
  ·rw [h0]; exact Nat.zero_le _
  obtain ⟨q,rfl⟩ : ∃ q,q3 = q + 1:=⟨q3 - 1,by omega⟩
  apply Nat.add_le_add_right
  rw [Nat.le_div_iff_mul_le hv]
  have e1 : (q + 1) * v2 * K ≤ u3 * K:=Nat.mul_le_mul_right K h1
  have e2 : (q + 1) * vl ≤ v2 * K:=Nat.le_trans (Nat.mul_le_mul (Nat.le_of_lt hB) (Nat.le_of_lt hvl)) (Nat.mul_le_mul_right K hV)
  have e3 : (q + 1) * v2 * K = q * (v2 * K) + v2 * K:=by rw [Nat.mul_assoc,Nat.add_mul,Nat.one_mul]
  have e4 : (q + 1) * vl = q * vl + vl:=by rw [Nat.add_mul,Nat.one_mul]
  rw [Nat.mul_add]
  omega
end Go.Proofs.YtlhmaljjdpjkgaaGreatDoor
namespace Go.Proofs.YtlhmaljjdpjkgaaGreatDoor
open Go Go.RowKit
structure Gs (u u0 v1 v0 q r : Nat) : Prop where
 eq : q * v1 + r = u
 lt : q < W64
 up : q + 1 = W64 ∨ u * W64 + u0 < (q + 1) * (v1 * W64 + v0)
theorem Gs.test {u u0 v1 v0 q r : Nat} (h : Gs u u0 v1 v0 q r) : q * v0 ≤ r * W64 + u0 ↔ q * (v1 * W64 + v0) ≤ u * W64 + u0:=by
 rw [← h.eq,Nat.mul_add,Nat.add_mul,← Nat.mul_assoc]; omega
theorem Gs.step {u u0 v1 v0 q r : Nat} (h : Gs u u0 v1 v0 q r) (ht : ¬ q * v0 ≤ r * W64 + u0) : 0 < q ∧ Gs u u0 v1 v0 (q - 1) (r + v1):=by
 have hq : 0 < q:=Nat.pos_of_ne_zero fun e=>ht (by rw [e,Nat.zero_mul]; exact Nat.zero_le _)
 have h2 : ¬ q * (v1 * W64 + v0) ≤ u * W64 + u0:=fun e=>ht (h.test.2 e)
 obtain ⟨k,rfl⟩ : ∃ k,q = k + 1:=⟨q - 1,by omega⟩
 have h1:=h.eq
 rw [Nat.add_mul,Nat.one_mul] at h1
 exact ⟨hq,by rw [Nat.add_sub_cancel]; omega,by have:=h.lt; omega,.inr (by rw [Nat.add_sub_cancel]; omega)⟩
theorem Gs.far {u u0 v1 v0 q r : Nat} (h : Gs u u0 v1 v0 q r) (hv : v0 < W64) (hr : W64 ≤ r) : q * (v1 * W64 + v0) ≤ u * W64 + u0:=by
 refine h.test.1 ?_
 have h1 : q * v0 ≤ W64 * W64:=Nat.mul_le_mul (Nat.le_of_lt h.lt) (Nat.le_of_lt hv)
 have h2 : W64 * W64 ≤ r * W64:=Nat.mul_le_mul_right _ hr
 omega
theorem Gs.start {u2 u1 u0 v1 v0 : Nat} (hv : u2 < v1) (h1 : u1 < W64) (h0 : u0 < W64) : Gs (u2 * W64 + u1) u0 v1 v0 ((u2 * W64 + u1) / v1) ((u2 * W64 + u1) % v1):=by
 refine ⟨by rw [Nat.mul_comm]; exact Nat.div_add_mod _ _,?_,.inr ?_⟩
 ·apply Nat.div_lt_of_lt_mul
  have : (u2 + 1) * W64 ≤ v1 * W64:=Nat.mul_le_mul_right _ hv
  rw [Nat.add_mul,Nat.one_mul] at this; omega
 ·generalize u2 * W64 + u1 = u
  have h2 : u < (u / v1 + 1) * v1:=by
   have:=Nat.div_add_mod u v1
   have h3:=Nat.mod_lt u (y:=v1) (by omega)
   rw [Nat.add_mul,Nat.one_mul,Nat.mul_comm (u / v1) v1]; omega
  calc u * W64 + u0 < (u + 1) * W64:=by rw [Nat.add_mul,Nat.one_mul]; omega
   _ ≤ ((u / v1 + 1) * v1) * W64:=Nat.mul_le_mul_right _ h2
   _ = (u / v1 + 1) * (v1 * W64):=Nat.mul_assoc _ _ _
   _ ≤ (u / v1 + 1) * (v1 * W64 + v0):=Nat.mul_le_mul_left _ (Nat.le_add_right _ _)
theorem hilo_le {q v r u : Nat} (hu : u < W64) : q * v ≤ r * W64 + u ↔ mhi q v < r ∨ (mhi q v = r ∧ mlo q v ≤ u):=by
 have h:=mhi_mlo q v
 have hl:=mlo_lt q v
 rw [← h]
 generalize mhi q v = a
 generalize mlo q v = b at *
 unfold W64 at *; omega
theorem dec_e {q : Nat} (h : 0 < q) (hq : q < W64) : ((q - 1 : Nat) : Int) = IntKind.u64.wrap ((q : Int) - 1):=by
 unfold W64 at hq
 rw [IntWalk.u64_in _ ⟨by omega,by omega⟩]; omega
structure Gd (u3 v2 q : Nat) : Prop where
 lt : q < W64
 le : q * v2 ≤ u3
 up : q + 1 = W64 ∨ u3 < (q + 1) * v2
theorem d_guess {a b c d e : Int} {u2 u1 u0 v1 v0 : Nat} (ha : a = u2) (hb : b = u1) (hc : c = u0) (hd : d = v1) (he : e = v0) (h2 : u2 ≤ v1) (h1 : u1 < W64) (h0 : u0 < W64) (hv1 : v1 < W64) (hv0 : v0 < W64) :
    Pc Tryz.prog 326 [.raw (.int .u64 a), .raw (.int .u64 b), .raw (.int .u64 c), .raw (.int .u64 d), .raw (.int .u64 e)] (fun r => ∃ q, r = uw q ∧ Gd ((u2 * W64 + u1) * W64 + u0) (v1 * W64 + v0) q) := by
  subst ha hb hc hd he
  refine pc Tryz.func326 ?_
  refine iff_ rfl (by simp; omega) ?_
  refine ifj (fun s : Nat × Nat × Nat => Gs (u2 * W64 + u1) u0 v1 v0 s.1 (s.2.1 + W64 * s.2.2) ∧ s.2.1 < W64 ∧ s.2.2 ≤ 1)
    (fun s => [(2, .im (uw u0)), (3, .im (uw v1)), (4, .im (uw v0)), (11, .im (uw s.1)), (12, .im (uw s.2.1)), (13, .im (uw s.2.2))]) (fun _ => []) ?_ ?_
  · refine ifs rfl (fun hb => ?_) (fun hb => ?_)
    · have hb : u2 = v1 := by have := eq_of_beq hb; omega
      subst hb
      refine ce (b_Add64 rfl rfl (z := 0) rfl (.inr (.inr rfl)) (by omega)) rfl ?_
      refine jx (18446744073709551615, ads u1 u2 0, adc u1 u2 0) ⟨⟨?_, by unfold W64; omega, .inl rfl⟩, ads_lt _ _ _, adc_le _ _ _ h1 hv1 (by omega)⟩ (tsr rfl) rfl
      rw [ads_adc]; unfold W64; omega
    · have hb : u2 ≠ v1 := by rintro rfl; simp at hb
      refine ce (b_Div64 rfl rfl rfl hv1 h1 (by omega)) rfl ?_
      have g := Gs.start (v0 := v0) (show u2 < v1 by omega) h1 h0
      have hm : (u2 * W64 + u1) % v1 < W64 := Nat.lt_trans (Nat.mod_lt _ (by omega)) hv1
      generalize (u2 * W64 + u1) % v1 = r at *
      generalize (u2 * W64 + u1) / v1 = q at *
      have g2 : Gs (u2 * W64 + u1) u0 v1 v0 q (r + W64 * 0) := by rw [Nat.mul_zero, Nat.add_zero]; exact g
      exact jx (q, r, 0) ⟨g2, hm, Nat.zero_le _⟩ (tsr rfl) rfl
  · rintro ⟨q, r, o⟩ t ⟨g, hr, ho⟩
    refine lpt3 (fun q r o => Gs (u2 * W64 + u1) u0 v1 v0 q (r + W64 * o) ∧ r < W64 ∧ o ≤ 1) (fun q r o => [(2, .im (uw u0)), (3, .im (uw v1)), (4, .im (uw v0)), (11, .im (uw q)), (12, .im (uw r)), (13, .im (uw o))]) (fun _ _ _ => [])
      (fun q r o => q) q r o ⟨g, hr, ho⟩ (tsr rfl) rfl ?_
    clear g hr ho q r o t
    rintro q r o t ⟨g, hr, ho⟩
    refine ifs rfl (fun hb => ?_) (fun hb => ?_)
    · have hb : o = 0 := by have := eq_of_beq hb; omega
      subst hb
      have g' : Gs (u2 * W64 + u1) u0 v1 v0 q r := by rw [Nat.mul_zero, Nat.add_zero] at g; exact g
      refine ce (b_Mul64 rfl rfl g.lt hv0) rfl ?_
      have ht := hilo_le (q := q) (v := v0) (r := r) h0
      by_cases c1 : mhi q v0 < r
      · have hd : decide ((mhi q v0 : Int) < (r : Int)) = true := decide_eq_true (by omega)
        iterate 4 refine gf hd ?_
        refine gf hd ?_
        refine tw hd ?_
        refine ift rfl rfl ?_
        exact ⟨q, rfl, g.lt, g'.test.1 (ht.2 (.inl c1)), g.up⟩
      · have hd : decide ((mhi q v0 : Int) < (r : Int)) = false := decide_eq_false (by omega)
        iterate 4 refine gt hd ?_
        by_cases c2 : mhi q v0 = r
        · have hd2 : ((mhi q v0 : Int) == (r : Int)) = true := by rw [c2]; exact beq_self_eq_true _
          iterate 3 refine gt hd2 ?_
          refine gt hd ?_
          refine tw hd2 ?_
          refine tf hd ?_
          refine ifs rfl (fun hb => ?_) (fun hb => ?_)
          · have hb := of_decide_eq_true hb
            exact ⟨q, rfl, g.lt, g'.test.1 (ht.2 (.inr ⟨c2, by omega⟩)), g.up⟩
          · have hb := of_decide_eq_false hb
            obtain ⟨s1, s2⟩ := g'.step (fun e => by rcases ht.1 e with h | h <;> omega)
            have s2' : Gs (u2 * W64 + u1) u0 v1 v0 (q - 1) (ads r v1 0 + W64 * adc r v1 0) := by rw [ads_adc]; exact s2
            refine ce (b_Add64 rfl rfl (z := 0) rfl (.inr (.inr rfl)) (by omega)) rfl ?_
            exact nx3 (q - 1) (ads r v1 0) (adc r v1 0) (by omega) ⟨s2', ads_lt _ _ _, adc_le _ _ _ hr hv1 (by omega)⟩ ⟨rfl, rfl, rfl, congrArg (ri .u64) (dec_e s1 g.lt).symm, rfl, rfl, trivial⟩ rfl
        · have hd2 : ((mhi q v0 : Int) == (r : Int)) = false := by rw [beq_eq_false_iff_ne]; omega
          iterate 3 refine gf hd2 ?_
          refine gt hd ?_
          refine tf hd2 ?_
          refine tf hd ?_
          refine iff_ rfl rfl ?_
          obtain ⟨s1, s2⟩ := g'.step (fun e => by rcases ht.1 e with h | h <;> omega)
          have s2' : Gs (u2 * W64 + u1) u0 v1 v0 (q - 1) (ads r v1 0 + W64 * adc r v1 0) := by rw [ads_adc]; exact s2
          refine ce (b_Add64 rfl rfl (z := 0) rfl (.inr (.inr rfl)) (by omega)) rfl ?_
          exact nx3 (q - 1) (ads r v1 0) (adc r v1 0) (by omega) ⟨s2', ads_lt _ _ _, adc_le _ _ _ hr hv1 (by omega)⟩ ⟨rfl, rfl, rfl, congrArg (ri .u64) (dec_e s1 g.lt).symm, rfl, rfl, trivial⟩ rfl
    · have hb : o = 1 := by have : o ≠ 0 := by rintro rfl; cases hb
                            omega
      subst hb
      exact ⟨q, rfl, g.lt, g.far hv0 (by omega), g.up⟩
structure Ln (u0 V N n k J : Nat) (us hq : List Nat) : Prop where
 len : us.length = N
 wf : wf W64 us
 lt : nv W64 us < V * W64 ^ J
 hql : hq.length = k - J
 hqw : Go.Proofs.YtlhmaljjdpjkgaaGreatDoor.wf W64 hq
 Jk : J ≤ k
 eq : u0 = nv W64 us + V * (W64 ^ J * nv W64 hq)
structure Wn (N n j : Nat) (us A ys C : List Nat) : Prop where
 eq : us = A ++ (ys ++ C)
 lA : A.length = j
 ly : ys.length = n + 1
 zC : nv W64 C = 0
 wy : wf W64 ys
 wA : wf W64 A
 wC : wf W64 C
theorem Wn.of {u0 V N n k j : Nat} {us hq : List Nat} (h : Ln u0 V N n k (j + 1) us hq) (hV : V < W64 ^ n) (hN : N = n + k) : ∃ A ys C,Wn N n j us A ys C:=by
 have hjk:=h.Jk
 have hlen:=h.len
 have e : us = us.take j ++ ((us.drop j).take (n + 1) ++ us.drop (j + (n + 1))):=by
  rw [← List.drop_drop,List.take_append_drop,List.take_append_drop]
 refine ⟨us.take j,(us.drop j).take (n + 1),us.drop (j + (n + 1)),e,by simp; omega,by simp; omega,?_,wf_take (wf_drop h.wf _) _,wf_take h.wf _,wf_drop h.wf _⟩
 rw [nv_drop _ _ h.wf]
 apply Nat.div_eq_of_lt
 refine Nat.lt_of_lt_of_le h.lt ?_
 rw [show j + (n + 1) = n + (j + 1) by omega,Nat.pow_add W64 n]
 exact Nat.mul_le_mul_right _ (Nat.le_of_lt hV)
theorem Wn.nv {N n j : Nat} {us A ys C : List Nat} (h : Wn N n j us A ys C) : Go.Proofs.YtlhmaljjdpjkgaaGreatDoor.nv W64 us = Go.Proofs.YtlhmaljjdpjkgaaGreatDoor.nv W64 A + W64 ^ j * Go.Proofs.YtlhmaljjdpjkgaaGreatDoor.nv W64 ys:=by
 rw [h.eq,nv_append,nv_append,h.zC,Nat.mul_zero,Nat.add_zero,h.lA]
theorem Wn.lt {u0 V N n k j : Nat} {us hq A ys C : List Nat} (h : Ln u0 V N n k (j + 1) us hq) (hw : Wn N n j us A ys C) : Go.Proofs.YtlhmaljjdpjkgaaGreatDoor.nv W64 ys < V * W64:=by
 have h1:=h.lt
 rw [hw.nv,Nat.pow_succ] at h1
 apply Nat.lt_of_mul_lt_mul_left (a:=W64 ^ j)
 rw [show W64 ^ j * (V * W64) = V * (W64 ^ j * W64) from by rw [← Nat.mul_assoc,← Nat.mul_assoc,Nat.mul_comm V]]; omega
theorem Ln.step {u0 V N n k j : Nat} {us hq A ys C zs : List Nat} (h : Ln u0 V N n k (j + 1) us hq) (hw : Wn N n j us A ys C) (hV : 0 < V) (hz : zs.length = n + 1) (hzw : Go.Proofs.YtlhmaljjdpjkgaaGreatDoor.wf W64 zs) (hzv : nv W64 zs = nv W64 ys % V) :
  Ln u0 V N n k j (A ++ (zs ++ C)) (nv W64 ys / V :: hq):=by
 have hlt:=hw.lt h
 have hq1 : nv W64 ys / V < W64:=Nat.div_lt_of_lt_mul hlt
 have hA:=nv_lt A hw.wA
 rw [hw.lA] at hA
 have hm:=Nat.mod_lt (nv W64 ys) hV
 have e1 : nv W64 (A ++ (zs ++ C)) = nv W64 A + W64 ^ j * (nv W64 ys % V):=by
  rw [nv_append,nv_append,hw.zC,Nat.mul_zero,Nat.add_zero,hw.lA,hzv]
 have hl:=h.len
 have hl2:=congrArg List.length hw.eq
 have:=hw.lA; have:=hw.ly; have:=h.hql; have:=h.Jk
 refine ⟨by simp at hl2 ⊢; omega,wf_append hw.wA (wf_append hzw hw.wC),?_,by simp; omega,wf_cons hq1 h.hqw,by omega,?_⟩
 ·rw [e1]
  calc nv W64 A + W64 ^ j * (nv W64 ys % V) < W64 ^ j * 1 + W64 ^ j * (nv W64 ys % V):=by omega
   _ = W64 ^ j * (1 + nv W64 ys % V):=by rw [Nat.mul_add]
   _ ≤ W64 ^ j * V:=Nat.mul_le_mul_left _ (by omega)
   _ = V * W64 ^ j:=Nat.mul_comm _ _
 ·rw [h.eq,e1,hw.nv,nv_cons]
  have h3:=Nat.div_add_mod (nv W64 ys) V
  have h4 : W64 ^ j * nv W64 ys = W64 ^ j * (V * (nv W64 ys / V)) + W64 ^ j * (nv W64 ys % V):=by rw [← Nat.mul_add,h3]
  have h5 : V * (W64 ^ j * (nv W64 ys / V + W64 * nv W64 hq)) = W64 ^ j * (V * (nv W64 ys / V)) + V * (W64 ^ (j + 1) * nv W64 hq):=by
   rw [Nat.mul_add,Nat.mul_add,Nat.pow_succ,Nat.mul_left_comm V,Nat.mul_assoc (W64 ^ j)]
  rw [h4,h5]; omega
theorem tried {ys vs zs : List Nat} {q b V : Nat} (hV : nv W64 vs = V) (hV0 : 0 < V) (ht : Tkn ys vs q zs b) (hy : wf W64 ys) (h1 : nv W64 ys / V ≤ q) (h2 : q ≤ nv W64 ys / V + 1) :
  (b = 0 → q = nv W64 ys / V ∧ nv W64 zs = nv W64 ys % V) ∧ (b ≠ 0 → 0 < q ∧ q - 1 = nv W64 ys / V ∧ (nv W64 zs + V) % W64 ^ ys.length = nv W64 ys % V):=by
 have e:=ht.eq
 rw [hV] at e
 have hd:=Nat.div_add_mod (nv W64 ys) V
 have hm:=Nat.mod_lt (nv W64 ys) hV0
 have hyl:=nv_lt ys hy
 have hzl:=nv_lt zs ht.wf
 rw [ht.len] at hzl
 generalize nv W64 ys / V = d at *
 generalize nv W64 ys % V = r at *
 constructor
 ·rintro rfl
  rw [Nat.mul_zero,Nat.add_zero] at e
  have hq : q = d:=by
   rcases Nat.lt_or_ge d q with h | h
   ·have : (d + 1) * V ≤ q * V:=Nat.mul_le_mul_right _ h
    rw [Nat.add_mul,Nat.one_mul,Nat.mul_comm d V] at this; omega
   ·omega
  subst hq
  rw [Nat.mul_comm V] at hd
  exact ⟨rfl,by omega⟩
 ·intro hb
  have hb1 : b = 1:=by have:=ht.b1; omega
  subst hb1
  rw [Nat.mul_one] at e
  have hq : q = d + 1:=by
   rcases Nat.lt_or_ge d q with h | h
   ·omega
   ·have : q * V ≤ V * d:=by rw [Nat.mul_comm V]; exact Nat.mul_le_mul_right _ h
    omega
  subst hq
  rw [Nat.add_mul,Nat.one_mul,Nat.mul_comm d V] at e
  refine ⟨by omega,by omega,?_⟩
  rw [show nv W64 zs + V = r + W64 ^ ys.length by omega,Nat.add_mod_right,Nat.mod_eq_of_lt (by omega)]
theorem full {l : List Nat} {m : Nat} (h : l.length = m) : nv W64 (l.take m) = nv W64 l:=by rw [List.take_of_length_le (by omega)]
theorem guessed {ys vs : List Nat} {m a b c d e : Nat} (hy : ys.length = m + 3) (hv : vs.length = m + 2) (wy : wf W64 ys) (wv : wf W64 vs) (ha : ys[m + 2]? = some a) (hb : ys[m + 1]? = some b) (hc : ys[m]? = some c) (hd : vs[m + 1]? = some d) (he : vs[m]? = some e)
  (hlt : nv W64 ys < nv W64 vs * W64) (hd0 : d ≠ 0) : a ≤ d ∧ ∀ q,Gd ((a * W64 + b) * W64 + c) (d * W64 + e) q → nv W64 ys / nv W64 vs ≤ q ∧ q ≤ nv W64 ys / nv W64 vs + 1:=by
 have y1:=nv_take ha; rw [full (show ys.length = m + 2 + 1 by omega)] at y1
 have y2:=nv_take hb
 have y3:=nv_take hc
 have v1:=nv_take hd; rw [full (show vs.length = m + 1 + 1 by omega)] at v1
 have v2:=nv_take he
 have ly:=nv_lt (ys.take m) (wf_take wy m)
 have lv:=nv_lt (vs.take m) (wf_take wv m)
 rw [List.length_take,Nat.min_eq_left (by omega)] at ly lv
 have hae : e < W64:=wv e (List.mem_of_getElem? he)
 have p1 : W64 ^ (m + 1) = W64 ^ m * W64:=Nat.pow_succ _ _
 have p2 : W64 ^ (m + 2) = W64 ^ m * W64 * W64:=by rw [Nat.pow_succ,Nat.pow_succ]
 have ey : nv W64 ys = ((a * W64 + b) * W64 + c) * W64 ^ m + nv W64 (ys.take m):=by
  rw [y1,y2,y3,p2,p1]
  generalize W64 ^ m = p
  generalize W64 = q
  have e1 : p * q * q * a = a * q * q * p:=by rw [Nat.mul_comm _ a,Nat.mul_assoc p,Nat.mul_comm p,Nat.mul_assoc a q q,Nat.mul_assoc a]
  have e2 : p * q * b = b * q * p:=by rw [Nat.mul_comm _ b,Nat.mul_comm p,Nat.mul_assoc b]
  rw [Nat.add_mul,Nat.add_mul,Nat.add_mul,e1,e2,Nat.mul_comm p c]; omega
 have ev : nv W64 vs = (d * W64 + e) * W64 ^ m + nv W64 (vs.take m):=by
  rw [v1,v2,p1]
  generalize W64 ^ m = p
  generalize W64 = q
  have e2 : p * q * d = d * q * p:=by rw [Nat.mul_comm _ d,Nat.mul_comm p,Nat.mul_assoc d]
  rw [Nat.add_mul,e2,Nat.mul_comm p e]; omega
 have hW : W64 ≤ d * W64 + e:=by
  have : 1 * W64 ≤ d * W64:=Nat.mul_le_mul_right _ (by omega)
  omega
 refine ⟨?_,fun q hq=>?_⟩
 ·apply Nat.le_of_lt_succ
  apply Nat.lt_of_mul_lt_mul_right (a:=W64 ^ (m + 2))
  have hvl:=nv_lt (vs.take (m + 1)) (wf_take wv _)
  rw [List.length_take,Nat.min_eq_left (by omega)] at hvl
  have h1 : nv W64 vs < (d + 1) * W64 ^ (m + 1):=by rw [v1,Nat.add_mul,Nat.one_mul,Nat.mul_comm d]; omega
  have h2 : nv W64 vs * W64 < (d + 1) * W64 ^ (m + 1) * W64:=Nat.mul_lt_mul_of_pos_right h1 W64_pos
  have h3 : (d + 1) * W64 ^ (m + 1) * W64 = (d + 1) * W64 ^ (m + 2):=by rw [Nat.mul_assoc,← Nat.pow_succ]
  have h4 : a * W64 ^ (m + 2) ≤ nv W64 ys:=by rw [y1,Nat.mul_comm a]; exact Nat.le_add_left _ _
  show a * _ < (d + 1) * _
  omega
 ·rw [ey,ev]
  rw [ey,ev] at hlt
  exact guess_ok ly lv hW hlt hq.le hq.lt hq.up
theorem i64n {a : Nat} {x : Int} (h : x = a) (ha : a ≤ 9000000000000000000) : IntKind.i64.wrap x = (a : Int):=by subst h; exact IntWalk.i64_in _ (by omega)
theorem d_long {us vs : List Nat} {m k : Nat} (hv : vs.length = m + 2) (hu : us.length = m + 2 + k) (hN : us.length ≤ 100000000) (wu : wf W64 us) (wv : wf W64 vs) (hV : 0 < nv W64 vs) (hlt : nv W64 us < nv W64 vs * W64 ^ k) (hd0 : ∀ d,vs[m + 1]? = some d → d ≠ 0) :
  Ec Tryz.prog 223 (own 1) [.row 51 1 us.length (ws us)] [.own 0,.im (nt vs)]
   (fun x H=>∃ qs zs,x = .im (nt qs) ∧ H = [.row 51 1 us.length (ws zs)] ∧ qs.length = k ∧ zs.length = us.length ∧ wf W64 qs ∧ wf W64 zs ∧ nv W64 qs = nv W64 us / nv W64 vs ∧ nv W64 zs = nv W64 us % nv W64 vs):=by
 refine ec Tryz.func223 ?_
 have e1 : IntKind.i64.wrap ((us.length : Int) - (vs.length : Int)) = ((k : Nat) : Int):=i64n (by omega) (by omega)
 refine ⟨by rw [e1]; omega,?_⟩
 rw [e1]
 refine lpt3 (Ln (nv W64 us) (nv W64 vs) us.length (m + 2) k) (fun J zs hq=>[(0,.own 0),(1,.im (nt vs)),(5,ri .i64 vs.length),(6,.own 1),(7,ri .i64 ((J : Int) - 1))])
  (fun J zs hq=>[.row 51 1 us.length (ws zs),.row 51 1 k (ws (List.replicate J 0 ++ hq))]) (fun J _ _=>J) k us [] ?_ ?_ ?_ ?_
 ·exact ⟨rfl,wu,hlt,by simp,wf_nil _,Nat.le_refl _,by simp [nv]⟩
 ·exact ⟨rfl,rfl,rfl,rfl,congrArg (ri .i64) (IntWalk.i64_in _ (by omega)),trivial⟩
 ·show [AO.row 51 1 us.length (ws us),AO.row 51 1 k (List.replicate k (.raw (.int .u64 0)))] = _
  simp [ws]
 intro J zs hq t hL
 cases J with
 | zero=>
  refine iff_ rfl rfl ?_
  have hl:=hL.hql
  have he:=hL.eq
  have hlt':=hL.lt
  rw [Nat.pow_zero,Nat.mul_one] at hlt'
  rw [Nat.pow_zero,Nat.one_mul] at he
  refine fin [0] (by rfl) ⟨hq,zs,?_,rfl,by omega,hL.len,hL.hqw,hL.wf,?_,?_⟩
  ·show AV.im (.sl k 1 (ws ([] ++ hq))) = .im (.sl hq.length 1 (ws hq))
   rw [hl,Nat.sub_zero]; rfl
  ·rw [he,Nat.add_mul_div_left _ _ hV,Nat.div_eq_of_lt hlt',Nat.zero_add]
  ·rw [he,Nat.add_mul_mod_self_left,Nat.mod_eq_of_lt hlt']
 | succ j=>
  have hjk:=hL.Jk
  have ej : (((j + 1 : Nat)) : Int) - 1 = (j : Int):=by omega
  rw [ej]
  have hVn : nv W64 vs < W64 ^ (m + 2):=by have:=nv_lt vs wv; rwa [hv] at this
  obtain ⟨A,ys,C,hw⟩:=Wn.of hL hVn hu
  have hyl:=hw.lt hL
  have lA:=hw.lA
  have ly:=hw.ly
  obtain ⟨a,ha⟩ : ∃ a,ys[m + 2]? = some a:=⟨_,List.getElem?_eq_getElem (by omega)⟩
  obtain ⟨b,hb⟩ : ∃ a,ys[m + 1]? = some a:=⟨_,List.getElem?_eq_getElem (by omega)⟩
  obtain ⟨c,hc⟩ : ∃ a,ys[m]? = some a:=⟨_,List.getElem?_eq_getElem (by omega)⟩
  obtain ⟨d,hd⟩ : ∃ a,vs[m + 1]? = some a:=⟨_,List.getElem?_eq_getElem (by omega)⟩
  obtain ⟨e,he⟩ : ∃ a,vs[m]? = some a:=⟨_,List.getElem?_eq_getElem (by omega)⟩
  have at_ : ∀ {i x n : Nat},ys[i]? = some x → n = j + i → zs[n]? = some x:=by
   intro i x n hx hn
   have hil:=(List.getElem?_eq_some_iff.1 hx).1
   rw [hw.eq,List.getElem?_append_right (by omega),List.getElem?_append_left (by omega),show n - A.length = i by omega]; exact hx
  have wlt : ∀ {i x : Nat},ys[i]? = some x → x < W64:=fun h=>hw.wy _ (List.mem_of_getElem? h)
  have vlt : ∀ {i x : Nat},vs[i]? = some x → x < W64:=fun h=>wv _ (List.mem_of_getElem? h)
  obtain ⟨hle,hgs⟩:=guessed (by omega) hv hw.wy wv ha hb hc hd he hyl (hd0 d hd)
  have f1 : IntKind.i64.wrap ((j : Int) + (vs.length : Int)) = ((j + vs.length : Nat) : Int):=i64n (by omega) (by omega)
  have f2 : IntKind.i64.wrap (((j + vs.length : Nat) : Int) - 1) = ((j + (m + 1) : Nat) : Int):=i64n (by omega) (by omega)
  have f3 : IntKind.i64.wrap (((j + vs.length : Nat) : Int) - 2) = ((j + m : Nat) : Int):=i64n (by omega) (by omega)
  have f4 : IntKind.i64.wrap ((vs.length : Int) - 1) = ((m + 1 : Nat) : Int):=i64n (by omega) (by omega)
  have f5 : IntKind.i64.wrap ((vs.length : Int) - 2) = ((m : Nat) : Int):=i64n (by omega) (by omega)
  have f6 : IntKind.i64.wrap (((j + vs.length : Nat) : Int) + 1) = ((j + vs.length + 1 : Nat) : Int):=i64n (by omega) (by omega)
  refine ift rfl (decide_eq_true (by omega)) ?_
  refine rq [0,1,2,3,4,5,6,7,8,9,10,11,12,13,14,15,16,17,18,19,20,21,22,23,24,25,26,27,28,29,30,31] ?_
  refine ⟨by rw [f1]; omega,?_⟩
  rw [f1]
  refine gw (j + (m + 2)) (at_ ha (by omega)) (by omega) ?_
  refine ⟨by rw [f1,f2]; omega,?_⟩
  rw [f1,f2]
  refine gw (j + (m + 1)) (at_ hb (by omega)) (by omega) ?_
  refine ⟨by rw [f1,f3]; omega,?_⟩
  rw [f1,f3]
  refine gw (j + m) (at_ hc (by omega)) (by omega) ?_
  refine gi (m + 1) (by rw [f4]; omega) hd (by rw [f4]; omega) fun l1=>?_
  refine gi m (by rw [f5]; omega) he (by rw [f5]; omega) fun l2=>?_
  refine cl (d_guess rfl rfl rfl rfl rfl hle (wlt hb) (wlt hc) (vlt hd) (vlt he)) rfl ?_
  rintro _ ⟨q,rfl,hq'⟩
  obtain ⟨q1,q2⟩:=hgs q hq'
  refine ⟨by rw [f1,f6]; omega,?_⟩
  refine fr (show _ = AV.sub 0 A.length 1 (vs.length + 1) from ?_) ?_
  ·rw [f1,f6]; congr 1 <;> omega
  have hCl : A.length + ys.length + C.length = us.length:=by have:=congrArg List.length hw.eq; simp at this; have:=hL.len; omega
  refine cx 1 (d_take (A:=A) (ys:=ys) (C:=C) (vs:=vs) rfl hq'.lt (by omega) hCl (by omega) hw.wy wv) (by rw [← hw.eq]; rfl) rfl rfl ?_
  rintro x H' ⟨zs1,b1,hk,rfl,rfl⟩
  refine ⟨.inl rfl,?_⟩
  obtain ⟨t1,t2⟩:=tried rfl hV hk hw.wy q1 q2
  have lz1:=hk.len
  refine ifj (fun s : Nat × List Nat=>s.1 = nv W64 ys / nv W64 vs ∧ s.2.length = m + 3 ∧ wf W64 s.2 ∧ nv W64 s.2 = nv W64 ys % nv W64 vs)
   (fun s=>[(0,.own 0),(1,.im (nt vs)),(5,ri .i64 vs.length),(6,.own 1),(7,ri .i64 (j : Int)),(8,.im (uw s.1))]) (fun s=>[.row 51 1 us.length (ws (A ++ (s.2 ++ C))),.row 51 1 k (ws (List.replicate (j + 1) 0 ++ hq))]) ?_ ?_
  ·refine ifs rfl (fun hb=>?_) (fun hb=>?_)
   ·have hb:=of_decide_eq_true hb
    obtain ⟨u1,u2,u3⟩:=t2 hb
    refine cxe 1 (d_back (A:=A) (ys:=zs1) (C:=C) (vs:=vs) (by omega) (by omega) (by omega) hk.wf wv) rfl rfl rfl (.inl rfl) ?_
    refine jx (q - 1,wds (vs.length + 1) (nv W64 zs1 + nv W64 vs)) ⟨u2,?_,wds_wf _ _,?_⟩ ⟨rfl,rfl,rfl,rfl,rfl,congrArg (ri .u64) (dec_e u1 hq'.lt).symm,trivial⟩ rfl
    ·rw [wds_len]; omega
    ·rw [wds_nv,show vs.length + 1 = ys.length by omega]; exact u3
   ·have hb : b1 = 0:=by have hb:=of_decide_eq_false hb; omega
    obtain ⟨u1,u2⟩:=t1 hb
    exact jx (q,zs1) ⟨u1,by rw [lz1]; omega,hk.wf,u2⟩ (tsr rfl) rfl
  ·rintro ⟨q',zs2⟩ t' ⟨hq2,hz2,hw2,hv2⟩
   refine ⟨⟨by omega,by omega⟩,?_⟩
   refine ⟨by simp [ws],?_⟩
   have hs:=hL.step hw hV (by omega) hw2 hv2
   rw [← show q' = nv W64 ys / nv W64 vs from hq2] at hs
   refine nx3 j (A ++ (zs2 ++ C)) (q' :: hq) (Nat.lt_succ_self j) hs ⟨rfl,rfl,rfl,rfl,congrArg (ri .i64) (IntWalk.i64_in _ (by omega)),trivial⟩ ?_
   show [AO.row 51 1 us.length (ws (A ++ (zs2 ++ C))),AO.row 51 1 k (putAt (ws (List.replicate (j + 1) 0 ++ hq)) (j * 1) [uw q'])] = _
   have e5 : List.replicate (j + 1) 0 ++ hq = List.replicate j 0 ++ ([] ++ (0 :: hq)):=by rw [List.replicate_succ']; simp
   rw [ws_put,e5,set2 (by simp)]; rfl
theorem n_NormF {xs : List Nat} (hm : xs.length ≤ 1000000000) (hx : wf W64 xs) : Fc Tryz.prog 52 [nt xs] 51 1 (fun n us=>n = ln (nv W64 xs) ∧ us = vs .u64 (wd (nv W64 xs))):=
 ⟨ent_of Tryz.func52 (by kernel_rfl),fun B w vs hB hG hc=>by
  obtain ⟨v,rfl,h1⟩:=ci1 (hc.keep (M':=fun _=>False) fun _ _ _=>⟨id,rfl⟩)
  refine (nat_Norm v xs w (nt_sl h1) hm hx).mono ?_
  rintro e w' ⟨r,zs,he,ho,hn,hv,hl,hb⟩
  have hz:=wd_of hn hv
  refine ⟨r,zs.length,_,he,⟨by rw [hz]; rfl,by rw [hz]⟩,ho,?_,hb⟩
  intro u hu
  simp only [Go.Proofs.YtlhmaljjdpjkgaaGreatDoor.vs,List.mem_map] at hu
  obtain ⟨_,_,rfl⟩:=hu; rfl⟩
theorem vs_ws (zs : List Nat) : (vs .u64 zs).map IV.raw = ws zs:=by simp [vs,ws]
theorem cn {n : Nat} (h : ln n ≤ 1000000000) {T : TT} {tc : Option (List Nat)} {xs : List AV} {H : List AO} {k : Mv → AV → List AO → Prop} (hz : fzL (fz H (isIn []) 6) xs = some [na n]) (hk : k .no (.own H.length) (H ++ [.row 51 1 (ln n) (ws (wd n))])) :
  callsP Tryz.prog T tc 52 xs H k:=
 cf (n_NormF (xs:=wd n) h (wd_nrm n).1) hz fun m us hq=>by
  obtain ⟨rfl,rfl⟩:=hq
  rw [vs_ws,wd_nv]; exact hk
theorem d_Small {a y : Nat} {b : Int} (hb : b = y) (hy : y ≠ 0) (hyw : y < W64) (ha : ln a ≤ 100000000) : Pc Tryz.prog 220 [na a,.raw (.int .u64 b)] (· = .tup [na (a / y),uw (a % y),.raw (.bool true)]):=by
 subst hb
 refine pc Tryz.func220 ?_
 refine iff_ rfl (by rw [beq_eq_false_iff_ne]; omega) ?_
 refine cn (by omega) rfl ?_
 have hw:=(wd_nrm a).1
 have hl : (wd a).length = ln a:=rfl
 refine lpt3 (fun J qs r=>J + qs.length = ln a ∧ wf W64 qs ∧ r < y ∧ nv W64 ((wd a).drop J) = y * nv W64 qs + r) (fun J qs r=>[(0,.own 0),(1,.im (uw y)),(7,.im (uw r)),(8,ri .i64 ((J : Int) - 1))])
  (fun J qs r=>[.row 51 1 (ln a) (ws ((wd a).take J ++ qs))]) (fun J _ _=>J) (ln a) [] 0 ?_ ?_ ?_ ?_
 ·exact ⟨rfl,wf_nil _,by omega,by rw [List.drop_eq_nil_of_le (Nat.le_of_eq hl)]; simp [nv]⟩
 ·exact ⟨rfl,rfl,rfl,congrArg (ri .i64) (IntWalk.i64_in _ (by omega)),trivial⟩
 ·rw [List.take_of_length_le (Nat.le_of_eq hl),List.append_nil]; rfl
 rintro J qs r t ⟨h1,h2,h3,h4⟩
 cases J with
 | zero=>
  refine iff_ rfl rfl ?_
  rw [List.drop_zero,wd_nv] at h4
  have e1 : nv W64 qs = a / y:=by rw [h4,Nat.mul_add_div (by omega),Nat.div_eq_of_lt h3,Nat.add_zero]
  have e2 : r = a % y:=by rw [h4,Nat.mul_add_mod,Nat.mod_eq_of_lt h3]
  refine clk [0] (n_Norm (xs:=qs) (by omega) h2) rfl ?_ ?_
  ·show some [IV.sl (ln a) 1 (ws ([] ++ qs))] = some [IV.sl qs.length 1 (ws qs)]
   rw [← h1,Nat.zero_add]; rfl
  rintro _ rfl
  rw [e1,e2]; exact rfl
 | succ j=>
  have ej : (((j + 1 : Nat)) : Int) - 1 = (j : Int):=by omega
  rw [ej]
  obtain ⟨x,hx⟩ : ∃ x,(wd a)[j]? = some x:=⟨_,List.getElem?_eq_getElem (by omega)⟩
  have hxw:=hw x (List.mem_of_getElem? hx)
  have hta : (wd a).take (j + 1) ++ qs = (wd a).take j ++ ([] ++ (x :: qs)):=by rw [take_snoc' hx]; simp
  have hd:=Nat.div_add_mod (r * W64 + x) y
  have hm:=Nat.mod_lt (r * W64 + x) (y:=y) (by omega)
  refine ift rfl (decide_eq_true (by omega)) ?_
  refine ⟨⟨by omega,by omega⟩,?_⟩
  refine gw j (by rw [hta]; exact at2 (by simp; omega)) (by omega) ?_
  refine ce (b_Div64 rfl rfl rfl hyw hxw h3) rfl ?_
  refine ⟨⟨by omega,by omega⟩,?_⟩
  refine ⟨by simp [ws]; omega,?_⟩
  refine nx3 j ((r * W64 + x) / y :: qs) ((r * W64 + x) % y) (Nat.lt_succ_self j) ⟨by simp; omega,wf_cons ?_ h2,hm,?_⟩ ⟨rfl,rfl,rfl,congrArg (ri .i64) (IntWalk.i64_in _ (by omega)),trivial⟩ ?_
  ·apply Nat.div_lt_of_lt_mul
   have : (r + 1) * W64 ≤ y * W64:=Nat.mul_le_mul_right _ h3
   rw [Nat.add_mul,Nat.one_mul] at this; omega
  ·rw [drop_cons hx,nv_cons,h4,nv_cons,Nat.mul_add,Nat.mul_add]
   have e1 : W64 * (y * nv W64 qs) = y * (W64 * nv W64 qs):=Nat.mul_left_comm _ _ _
   have e2 : W64 * r = r * W64:=Nat.mul_comm _ _
   rw [e1,e2]; omega
  ·show [AO.row 51 1 (ln a) (putAt (ws _) (j * 1) [uw ((r * W64 + x) / y)])] = _
   rw [ws_put,hta,set2 (by simp; omega)]; rfl
theorem sub_nil : Sub (.raw (.slice none 0 0)) (na 0):=fun M w v h=>by
 cases h
 rw [na,wd_zero]
 exact Ci.mk_sl (b:=0) (o:=0) (vs:=[]) ⟨rfl,fun j x v h=>by simp [ws] at h⟩ (by simp [ws]) (Nat.le_refl _) (fun j u hu=>by simp at hu) (fun v h=>by simp at h) (fun hne=>absurd rfl hne)
theorem Sub.tup {l r : List IV} (h : SubL l r) : Sub (.tup l) (.tup r):=fun M w v hc=>by
 cases hc with
 | tup hl hh=>have:=h.ci (vs:=_) ⟨hl,hh⟩; exact .tup this.1 this.2
theorem Sub.agg {l r : List IV} (h : SubL l r) : Sub (.agg l) (.agg r):=fun M w v hc=>by
 cases hc with
 | agg hl hh h1=>have:=h.ci (vs:=_) ⟨hl,hh⟩; exact .agg this.1 this.2 h1
theorem Pc.weak {f : Nat} {xs : List IV} {y : IV} (h : Pc Tryz.prog f xs (fun r=>Sub r y)) : Pc Tryz.prog f xs (· = y):=
 h.imp (fun h=>⟨h.1,fun B w vs hB hG hc=>(h.2 B w vs hB hG hc).mono fun _ _ ⟨r,v,he,q,hr,hb⟩=>⟨y,v,he,rfl,q _ _ _ hr,hb⟩⟩) fun h B w vs hc=>by
  obtain ⟨r,v,q,hr,h2⟩:=h B w vs hc; exact ⟨y,v,rfl,q _ _ _ hr,h2⟩
theorem n_Shr0 {xs : List Nat} {n : Nat} (ha : xs.length ≤ 100000000) (hx : wf W64 xs) (hn : (n : Int) ≤ 9223372036854775807) : Pc Tryz.prog 224 [nt xs,.raw (.int .i64 n)] (· = .tup [na (nv W64 xs / 2 ^ n),.raw (.bool true)]):=
 pc_natB (ent_of Tryz.func224 (by kernel_rfl)) fun w vs hc=>by
  obtain ⟨u,v,rfl,h1,h2⟩:=ci2 hc
  cases h2
  exact nat_Shr u _ n w (nt_sl h1) ha hx hn
theorem ln_pos {b : Nat} (h : b ≠ 0) : 0 < ln b:=Nat.pos_of_ne_zero fun e=>h (by have:=lt_ln b; rw [e] at this; simpa using this)
theorem ln_zero : ln 0 = 0:=by simp [ln,wd_zero]
theorem cmp_neg {a b : Nat} : decide (cmpN a b < 0) = decide (a < b):=by
 unfold cmpN; split <;> (try split) <;> simp <;> omega
theorem wd_last {b : Nat} (h : b ≠ 0) {d : Nat} (hd : (wd b)[ln b - 1]? = some d) : d ≠ 0 ∧ W64 ^ (ln b - 1) ≤ b:=by
 have hp:=ln_pos h
 have hl : (wd b).length = ln b:=rfl
 have h1:=nv_take hd
 rw [show ln b - 1 + 1 = ln b by omega,List.take_of_length_le (by omega),wd_nv] at h1
 have h2:=nv_lt ((wd b).take (ln b - 1)) (wf_take (wd_nrm b).1 _)
 rw [List.length_take,Nat.min_eq_left (by omega)] at h2
 have hd0 : d ≠ 0:=by
  rintro rfl
  rw [Nat.mul_zero,Nat.add_zero] at h1
  have : ln b ≤ ln b - 1:=ln_le (by omega)
  omega
 refine ⟨hd0,?_⟩
 have : W64 ^ (ln b - 1) * 1 ≤ W64 ^ (ln b - 1) * d:=Nat.mul_le_mul_left _ (by omega)
 omega
theorem d_DivMod {a b : Nat} (hb : b ≠ 0) (ha : ln a ≤ 10000000) (hb' : ln b ≤ 10000000) : Pc Tryz.prog 183 [na a,na b] (· = .tup [na (a / b),na (a % b),.raw (.bool true)]):=by
 refine Pc.weak (pc Tryz.func183 ?_)
 refine ce (n_Norm' (by omega)) rfl ?_
 refine ce (n_Norm' (by omega)) rfl ?_
 have hp:=ln_pos hb
 have hlb : (wd b).length = ln b:=rfl
 refine iff_ rfl (by rw [beq_eq_false_iff_ne]; omega) ?_
 refine ce (n_Cmp (by omega) (by omega)) rfl ?_
 refine ifs rfl (fun h=>?_) (fun h=>?_)
 ·rw [cmp_neg] at h
  have h:=of_decide_eq_true h
  rw [Nat.div_eq_of_lt h,Nat.mod_eq_of_lt h]
  exact Sub.tup ⟨sub_nil,Sub.refl _,Sub.refl _,trivial⟩
 rw [cmp_neg] at h
 have h:=of_decide_eq_false h
 have hab : ln b ≤ ln a:=ln_mono (by omega)
 obtain ⟨d,hd⟩ : ∃ d,(wd b)[ln b - 1]? = some d:=⟨_,List.getElem?_eq_getElem (by omega)⟩
 obtain ⟨hd0,hbl⟩:=wd_last hb hd
 have hdw : d < W64:=(wd_nrm b).1 _ (List.mem_of_getElem? hd)
 refine ifs rfl (fun h1=>?_) (fun h1=>?_)
 ·have h1 : ln b = 1:=by have:=eq_of_beq h1; omega
  have hbd : b = d:=by
   have:=nv_take hd
   rw [h1] at this
   simp [nv] at this
   rw [List.take_of_length_le (by omega),wd_nv] at this; exact this
  subst hbd
  refine gi 0 ⟨by omega,by omega⟩ (by rw [h1] at hd; exact hd) rfl fun l=>?_
  refine ce (d_Small rfl hb hdw (by omega)) rfl ?_
  refine ce (n_Of rfl (Nat.lt_trans (Nat.mod_lt _ (Nat.pos_of_ne_zero hb)) hdw)) rfl ?_
  exact Sub.refl _
 ·have h2 : 2 ≤ ln b:=by
   have : ln b ≠ 1:=by rintro e; rw [← hlb] at e; rw [e] at h1; cases h1
   omega
  have hs64:=(lz_spec hd0 hdw).1
  have hds:=(lz_spec hd0 hdw).2.1
  refine gi (ln b - 1) ⟨?_,?_⟩ hd ?_ fun l=>?_
  ·rw [i64n (a:=ln b - 1) (by omega) (by omega)]; omega
  ·rw [i64n (a:=ln b - 1) (by omega) (by omega)]; omega
  ·rw [i64n (a:=ln b - 1) (by omega) (by omega)]; simp
  refine ce (b_Lz rfl hdw) rfl ?_
  refine ce (n_Shl (n:=lz d) (by omega) (by omega)) rfl ?_
  refine ce (n_Shl (n:=lz d) (by omega) (by omega)) rfl ?_
  generalize hs : lz d = s at *
  have hsp:=Nat.two_pow_pos s
  have la2 : ln (a * 2 ^ s) ≤ ln a + 1:=by
   apply ln_le
   rw [Nat.pow_succ]
   have h3 : 2 ^ s ≤ W64:=by rw [show W64 = 2 ^ 64 from rfl]; exact Nat.pow_le_pow_right (by decide) (by omega)
   exact Nat.lt_of_lt_of_le (Nat.mul_lt_mul_of_pos_right (lt_ln a) hsp) (Nat.mul_le_mul_left _ h3)
  have lb2 : ln (b * 2 ^ s) = ln b:=by
   apply Nat.le_antisymm
   ·apply ln_le
    have h3:=nv_take hd
    rw [show ln b - 1 + 1 = ln b by omega,List.take_of_length_le (by omega),wd_nv] at h3
    have h4:=nv_lt ((wd b).take (ln b - 1)) (wf_take (wd_nrm b).1 _)
    rw [List.length_take,Nat.min_eq_left (by omega)] at h4
    have h5 : b < (d + 1) * W64 ^ (ln b - 1):=by rw [Nat.add_mul,Nat.one_mul,Nat.mul_comm d]; omega
    have h6 : (d + 1) * 2 ^ s ≤ W64:=by
     rw [show W64 = 2 ^ (64 - s) * 2 ^ s from by rw [← Nat.pow_add,show 64 - s + s = 64 by omega]; rfl] at hds ⊢
     exact Nat.mul_le_mul_right _ (Nat.lt_of_mul_lt_mul_right hds)
    calc b * 2 ^ s < (d + 1) * W64 ^ (ln b - 1) * 2 ^ s:=Nat.mul_lt_mul_of_pos_right h5 hsp
     _ = (d + 1) * 2 ^ s * W64 ^ (ln b - 1):=Nat.mul_right_comm _ _ _
     _ ≤ W64 * W64 ^ (ln b - 1):=Nat.mul_le_mul_right _ h6
     _ = W64 ^ (ln b):=by rw [Nat.mul_comm,← Nat.pow_succ,show (ln b - 1).succ = ln b by omega]
   ·exact ln_mono (Nat.le_mul_of_pos_right _ hsp)
  have hb2 : b * 2 ^ s ≠ 0:=Nat.mul_ne_zero hb (by omega)
  have e1 : IntKind.i64.wrap (((wd a).length : Int) + 1) = ((ln a + 1 : Nat) : Int):=i64n (by show ((ln a : Nat) : Int) + 1 = _; omega) (by omega)
  refine ⟨⟨rfl,by rw [e1]; omega,by rw [e1]; omega⟩,?_⟩
  rw [e1]
  refine ⟨la2,?_⟩
  -- the row that is divided
  obtain ⟨us,hus⟩ : ∃ us,us = wd (a * 2 ^ s) ++ List.replicate (ln a + 1 - ln (a * 2 ^ s)) 0:=⟨_,rfl⟩
  have hul : us.length = ln a + 1:=by rw [hus,List.length_append,List.length_replicate]; show ln (a * 2 ^ s) + _ = _; omega
  have huw : wf W64 us:=by rw [hus]; exact wf_append (wd_nrm _).1 (wf_replicate0 W64_pos _)
  have huv : nv W64 us = a * 2 ^ s:=by rw [hus,nv_append,nv_replicate0,Nat.mul_zero,Nat.add_zero,wd_nv]
  have hrow : putAt (List.replicate (ln a + 1) (IV.raw (.int .u64 0))) 0 (ws (wd (a * 2 ^ s))) = ws us:=by
   have hwl : (ws (wd (a * 2 ^ s))).length = ln (a * 2 ^ s):=by simp [ws]; rfl
   rw [putAt_eq _ _ _ (by rw [hwl,List.length_replicate]; omega),hwl,List.drop_replicate,hus]
   simp [ws]
  have hbv : nv W64 (wd (b * 2 ^ s)) = b * 2 ^ s:=wd_nv _
  have hbln : (wd (b * 2 ^ s)).length = ln b:=lb2
  have hlt : nv W64 us < nv W64 (wd (b * 2 ^ s)) * W64 ^ (ln a + 1 - ln b):=by
   rw [huv,hbv]
   have h3 : a < b * W64 ^ (ln a + 1 - ln b):=by
    refine Nat.lt_of_lt_of_le (lt_ln a) ?_
    have : W64 ^ ln a = W64 ^ (ln b - 1) * W64 ^ (ln a + 1 - ln b):=by rw [← Nat.pow_add]; congr 1; omega
    rw [this]; exact Nat.mul_le_mul_right _ hbl
   rw [Nat.mul_right_comm]; exact Nat.mul_lt_mul_of_pos_right h3 hsp
  refine cx 1 (d_long (us:=us) (vs:=wd (b * 2 ^ s)) (m:=ln b - 2) (k:=ln a + 1 - ln b) (by omega) (by omega) (by omega) huw (wd_nrm _).1 (by rw [hbv]; omega) hlt (fun d' hd'=>(wd_last hb2 (by rw [lb2,show ln b - 1 = ln b - 2 + 1 by omega]; exact hd')).1)) ?_ rfl rfl ?_
  ·show [AO.row 51 1 (ln a + 1) (putAt (List.replicate (ln a + 1) (IV.raw (.int .u64 0))) 0 (ws (wd (a * 2 ^ s))))] = _
   rw [hrow,hul]
  rintro x H' ⟨qs,zs,rfl,rfl,k1,k2,k3,k4,k5,k6⟩
  refine ⟨.inl rfl,?_⟩
  refine clk [0] (n_Shr0 (xs:=zs) (n:=s) (by omega) k4 (by omega)) rfl ?_ ?_
  ·show some [IV.sl us.length 1 (ws zs),_] = some [IV.sl zs.length 1 (ws zs),_]
   rw [k2]
  rintro _ rfl
  refine ce (n_Norm (by omega) k3) rfl ?_
  rw [k5,k6,huv,hbv,Nat.mul_div_mul_right _ _ hsp,Nat.mul_mod_mul_right,Nat.mul_div_cancel _ hsp]
  exact Sub.refl _
theorem d_Mod {a b : Nat} (hb : b ≠ 0) (ha : ln a ≤ 10000000) (hb' : ln b ≤ 10000000) : Pc Tryz.prog 187 [na a,na b] (· = .tup [na (a % b),.raw (.bool true)]):=by
 refine pc Tryz.func187 ?_
 refine ce (d_DivMod hb ha hb') rfl ?_
 exact rfl
theorem wd_pos' {n : Nat} : (((wd n).length : Int) > 0) ↔ 0 < n:=by
 have:=wd_pos (n:=n)
 by_cases h : 0 < n
 ·rw [decide_eq_true h] at this; exact ⟨fun _=>h,fun _=>of_decide_eq_true this⟩
 ·rw [decide_eq_false h] at this; exact ⟨fun e=>(of_decide_eq_false this e).elim,fun e=>(h e).elim⟩
theorem d_Exact {a b : Nat} (hb : b ≠ 0) (hab : b ∣ a) (ha : ln a ≤ 10000000) (hb' : ln b ≤ 10000000) : Pc Tryz.prog 530 [na a,na b] (· = .tup [na (a / b),.raw (.bool true)]):=by
 refine pc Tryz.func530 ?_
 refine ce (d_DivMod hb ha hb') rfl ?_
 have h0 : a % b = 0:=Nat.mod_eq_zero_of_dvd hab
 iterate 3 refine gt rfl ?_
 refine tf rfl ?_
 refine iff_ rfl (decide_eq_false (by rw [wd_pos']; omega)) ?_
 exact rfl
theorem d_Gcd {a b : Nat} (ha : ln a ≤ 10000000) (hb' : ln b ≤ 10000000) : Pc Tryz.prog 154 [na a,na b] (· = na (Nat.gcd a b)):=by
 refine pc Tryz.func154 ?_
 refine ce (n_Norm' (by omega)) rfl ?_
 refine ce (n_Norm' (by omega)) rfl ?_
 refine lpt2 (fun x y=>Nat.gcd x y = Nat.gcd a b ∧ ln x ≤ 10000000 ∧ ln y ≤ 10000000) (fun x y=>[(0,.im (na x)),(1,.im (na y))]) (fun _ _=>[]) (fun _ y=>y) a b ⟨rfl,ha,hb'⟩ (tsr rfl) rfl ?_
 rintro x y t ⟨h1,h2,h3⟩
 refine ifs rfl (fun h=>?_) (fun h=>?_)
 ·have h : 0 < y:=wd_pos'.1 (of_decide_eq_true h)
  refine ce (d_Mod (by omega) h2 h3) rfl ?_
  have hm:=Nat.mod_lt x h
  exact nx2 y (x % y) hm ⟨by rw [← h1,Nat.gcd_comm x y,Nat.gcd_rec y x,Nat.gcd_comm],h3,Nat.le_trans (ln_mono (Nat.le_of_lt hm)) h3⟩ (tsr rfl) rfl
 ·have h : ¬ 0 < y:=fun e=>of_decide_eq_false h (wd_pos'.2 e)
  obtain rfl : y = 0:=by omega
  rw [Nat.gcd_zero_right] at h1
  rw [← h1]
  exact rfl
theorem zsg_tdiv (a b : Int) : zsg (!(decide (a < 0) == decide (b < 0))) (a.natAbs / b.natAbs) = a.tdiv b:=by
 cases a with
 | ofNat m=>cases b with
  | ofNat n=>rw [decide_eq_false (by simp),decide_eq_false (by simp)]; rfl
  | negSucc n=>rw [decide_eq_false (by simp),decide_eq_true (Int.negSucc_lt_zero n)]; rfl
 | negSucc m=>cases b with
  | ofNat n=>rw [decide_eq_true (Int.negSucc_lt_zero m),decide_eq_false (by simp)]; rfl
  | negSucc n=>rw [decide_eq_true (Int.negSucc_lt_zero m),decide_eq_true (Int.negSucc_lt_zero n)]; rfl
theorem zsg_tmod (a b : Int) : zsg (decide (a < 0)) (a.natAbs % b.natAbs) = a.tmod b:=by
 cases a with
 | ofNat m=>rw [decide_eq_false (by simp)]; cases b <;> rfl
 | negSucc m=>rw [decide_eq_true (Int.negSucc_lt_zero m)]; cases b <;> rfl
theorem z_Quo {a b : Int} (hb : b ≠ 0) (ha : li a ≤ 10000000) (hb' : li b ≤ 10000000) : Pc Tryz.prog 155 [iz a,iz b] (· = .tup [iz (a.tdiv b),iz (a.tmod b),.raw (.bool true)]):=by
 refine pc Tryz.func155 ?_
 refine ce (d_DivMod (by omega) ha hb') rfl ?_
 have h1 : ln (a.natAbs / b.natAbs) ≤ 1000000000:=Nat.le_trans (ln_mono (Nat.div_le_self _ _)) (Nat.le_trans ha (by decide))
 have h2 : ln (a.natAbs % b.natAbs) ≤ 1000000000:=Nat.le_trans (ln_mono (Nat.mod_le _ _)) (Nat.le_trans ha (by decide))
 refine rqa [0,1,2,3,4,5,7,8,9,11,6,10,12,13,14] [(11,[2,3],some []),(12,[],some [2]),(13,[],some [3])] ?_
 refine ce (z_From h1) rfl ?_
 refine ce (z_From h2) rfl ?_
 rw [zsg_tdiv,zsg_tmod]
 exact rfl
theorem z_Exact {a b : Int} (hb : b ≠ 0) (hab : b ∣ a) (ha : li a ≤ 10000000) (hb' : li b ≤ 10000000) : Pc Tryz.prog 109 [iz a,iz b] (· = .tup [iz (a / b),.raw (.bool true)]):=by
 refine pc Tryz.func109 ?_
 refine ce (z_Quo hb ha hb') rfl ?_
 have h0 : a.tmod b = 0:=Int.tmod_eq_zero_of_dvd hab
 have h1 : a.tdiv b = a / b:=by rw [Int.tdiv_eq_ediv_of_dvd hab]
 rw [h0,h1]
 refine gt rfl ?_
 refine gt rfl ?_
 refine ce (z_Sign (by unfold li; rw [show (0 : Int).natAbs = 0 from rfl,ln_zero]; decide)) rfl ?_
 refine gt rfl ?_
 refine tf rfl ?_
 refine iff_ rfl rfl ?_
 exact rfl
theorem z_Gcd {a b : Int} (ha : li a ≤ 10000000) (hb' : li b ≤ 10000000) : Pc Tryz.prog 108 [iz a,iz b] (· = iz (Nat.gcd a.natAbs b.natAbs : Nat)):=by
 refine pc Tryz.func108 ?_
 refine ce (d_Gcd ha hb') rfl ?_
 refine ce (z_From (s:=false) ?_) rfl ?_
 ·refine Nat.le_trans ?_ (show 10000000 ≤ 1000000000 by decide)
  by_cases h : a.natAbs = 0
  ·rw [h,Nat.gcd_zero_left]; exact hb'
  ·exact Nat.le_trans (ln_mono (Nat.gcd_le_left _ (by omega))) ha
 exact rfl
end Go.Proofs.YtlhmaljjdpjkgaaGreatDoor
