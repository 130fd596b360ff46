/- Operations that act: what is to be shown of them, and that it is enough. -/
import Derived.Lib.AppendStr
import Derived.IntWalk
import Derived.Lib.UnsafeStr
import Derived.Test.YtlhmaljjdpjkgaaGreatDoorTaM4
namespace Go.Proofs.YtlhmaljjdpjkgaaGreatDoor
open Go Go.RowKit
def gH : Option (List Nat) → List AO → List AO
 | none,H=>H
 | some ps,H=>gcH H ps
def gX : Option (List Nat) → List AO → List AV → List AV
 | none,_,xs=>xs
 | some ps,H,xs=>xs.map (gcA H ps 6)
def gOK (R : Nat → Bool) : Option (List Nat) → List AO → Bool
 | none,_=>true
 | some ps,H=>gcOK R H ps
def mvOf : Option (List Nat) → List AO → List Nat → Mv
 | none,_,[]=>.no
 | none,_,ks=>.st ks
 | some ps,H,ks=>.gc H ps ks
def lendOK (tc : Option (List Nat)) (R R' : Nat → Bool) (mv : List Nat) (m : Nat) (H : List AO) (xs : List AV) : Bool:=
 (List.range m).all (okT tc) && Nat.ble m H.length && (H.take m).all (scO m) && xs.all (sc m 6) && (List.range m).all fun i=>!R' i || (isIn mv i && R i)
structure callsP (P : Program) (T : TT) (tc : Option (List Nat)) (f : Nat) (xs : List AV) (H : List AO) (k : Mv → AV → List AO → Prop) : Prop where
 out : (∃ ks ivs,ks.all (okT tc) = true ∧ fzL (fz H (isIn ks) 6) xs = some ivs ∧ ((∃ Q,Pc P f ivs Q ∧ ∀ r,Q r → k .no (.im r) (kill ks H)) ∨
  ∃ e m Q,Fc P f ivs e m Q ∧ ∀ n us,Q n us → k .no (.own (kill ks H).length) (kill ks H ++ [.row e m n (us.map .raw)]))) ∨
  ∃ (g : Option (List Nat)) (m : Nat) (mv : List Nat) (R : Nat → Bool) (Q : AV → List AO → Prop),(tc = none ∨ (g = none ∧ mv = [])) ∧ gOK T.mv g H = true ∧ lendOK tc T.mv R mv m (gH g H) (gX g H xs) = true ∧
   Ec P f R ((gH g H).take m) (gX g H xs) Q ∧ ∀ x H',Q x H' → (H'.length = m ∨ m = (gH g H).length) ∧ k (mvOf g H mv) x (H' ++ stlH mv ((gH g H).drop m))
def appI (H : List AO) (k : Nat) : AV → Option (Nat × List IV)
 | .im (.sl m k' xs)=>bif Nat.beq k k' then some (m,xs) else none
 | .im (.raw (.slice none 0 0))=>some (0,[])
 | .own j=>match H[j]? with
  | some (.row _ k' m xs)=>bif Nat.beq k k' then some (m,xs) else none
  | _=>none
 | _=>none
def appA (H : List AO) (k : Nat) : AV → Option (Nat × List AV)
 | .own j=>match H[j]? with
  | some (.rowa _ k' m xs)=>bif Nat.beq k k' then some (m,xs) else none
  | _=>none
 | _=>none
def appB (H : List AO) (k : Nat) (x : AV) : Option (Nat × List AV):=
 match appI H k x with
 | some q=>some (q.1,q.2.map .im)
 | none=>appA H k x
theorem bifF {b : Bool} {p : Prop} : (bif b then p else False) ↔ b = true ∧ p:=by cases b <;> simp
structure Two (b : Bool) (A B : Prop) : Prop where
 l : b = true → A
 r : b = false → B
def vcApp (T : TT) (tc : Option (List Nat)) (H : List AO) (c : Mv → AV → List AO → Prop) (ty : Nat) (s x : AV) : Prop:=
 match look T ty with
 | some ⟨_,_,_,.sc e k _ _ bt⟩=>bif Nat.ble 1 k then
  match s with
  | .own i=>bif okT tc i && T.mv i then
   match H[i]? with
   | some (.row e' k' n cs)=>bif Nat.beq e e' && Nat.beq k k' then (match appI H k x with
    | some q=>Nd ((n + q.1) * bt ≤ 140737488355328 ∧ n + q.1 ≤ 1000000000) (c (.st [i]) (.own i) ((H.map (staleO [i])).set i (.row e k (n + q.1) (cs ++ q.2))))
    | none=>orF (appA H k x) fun q=>Nd ((n + q.1) * bt ≤ 140737488355328 ∧ n + q.1 ≤ 1000000000) (c (.st [i]) (.own i) ((H.map (staleO [i])).set i (.rowa e k (n + q.1) ((cs.map AV.im ++ q.2).map (stale [i] 6)))))) else False
   | some (.rowa e' k' n cs)=>bif Nat.beq e e' && Nat.beq k k' then orF (appB H k x) fun q=>
     Nd ((n + q.1) * bt ≤ 140737488355328 ∧ n + q.1 ≤ 1000000000) (c (.st [i]) (.own i) ((H.map (staleO [i])).set i (.rowa e k (n + q.1) ((cs ++ q.2).map (stale [i] 6))))) else False
   | _=>False
   else False
  | .im (.raw (.slice none 0 0))=>match appI H k x with
   | some q=>Nd (q.1 * bt ≤ 140737488355328 ∧ q.1 ≤ 1000000000) (c .no (.own H.length) (H ++ [.row e k q.1 q.2]))
   | none=>orF (appA H k x) fun q=>Nd (q.1 * bt ≤ 140737488355328 ∧ q.1 ≤ 1000000000) (c .no (.own H.length) (H ++ [.rowa e k q.1 q.2]))
  | _=>False
  else False
 | _=>False
def strI (b : ByteArray) : List IV:=b.data.toList.map fun x=>.raw (.int .u8 x.toNat)
def U8 (P : Program) (e : Nat) : Prop:=(P.info? e).bind (·.zero) = some (.int .u8 0)
def vcAppS (P : Program) (T : TT) (tc : Option (List Nat)) (H : List AO) (c : Mv → AV → List AO → Prop) (ty ty' : Nat) (s x : AV) : Prop:=
 match look T ty,look T ty',x with
 | some ⟨_,_,_,.sc e 1 _ [.int .u8 0] 1⟩,some ⟨_,_,_,.str⟩,.im (.raw (.string b))=>
  match s with
  | .own i=>bif okT tc i && T.mv i then
   match H[i]? with
   | some (.row e' k' n cs)=>bif Nat.beq e e' && Nat.beq k' 1 then Nd (U8 P e ∧ n + b.size ≤ 1000000000) (c (.st [i]) (.own i) ((H.map (staleO [i])).set i (.row e 1 (n + b.size) (cs ++ strI b)))) else False
   | _=>False
   else False
  | .im (.raw (.slice none 0 0))=>Nd (U8 P e ∧ b.size ≤ 1000000000) (c .no (.own H.length) (H ++ [.row e 1 b.size (strI b)]))
  | _=>False
 | _,_,_=>False
structure Tx (cs : List IV) (K : ByteArray → Prop) : Prop where
 out : ∃ b,cs = strI b ∧ K b
def vcText (P : Program) (H : List AO) (c : Mv → AV → List AO → Prop) (tc : Option (List Nat)) (pt : Nat) (p l : AV) : Prop:=
 match p,l with
 | .ref i 0,.im (.raw (.int .i64 n'))=>match H[i]? with
  | some (.row e 1 n cs)=>bif okT tc i then Nd (P.underlying pt = some (.pointer e) ∧ P.cellsOf e = 1 ∧ n' = n ∧ 0 < n) (Tx cs fun b=>c .no (rs b) (H.set i .dead)) else False
  | _=>False
 | _,_=>False
def vcStore (tc : Option (List Nat)) (H : List AO) (c : Mv → AV → List AO → Prop) (td : TD) (a x : AV) : Prop:=
 match a with
 | .ref i o=>orF (cellA x) fun xs=>bif okT tc i && Nat.beq td.size xs.length then
  match H[i]? with
  | some (.box e cs)=>bif Nat.ble (o + xs.length) cs.length then c .no (.im .any) (H.set i (.box e (putAt cs o xs))) else False
  | some (.row e k n cs)=>orF (imL xs) fun ys=>Nd (o + ys.length ≤ cs.length) (c .no (.im .any) (H.set i (.row e k n (putAt cs o ys))))
  | some (.rowa e k n cs)=>Nd (o + xs.length ≤ cs.length) (c .no (.im .any) (H.set i (.rowa e k n (putAt cs o xs))))
  | _=>False
  else False
 | _=>False
def vcCopy (T : TT) (tc : Option (List Nat)) (H : List AO) (c : Mv → AV → List AO → Prop) (ty : Nat) (s x : AV) : Prop:=
 match look T ty with
 | some ⟨_,_,_,.sc _ k _ _ _⟩=>match s with
  | .own i=>bif Nat.ble 1 k && okT tc i then
   match H[i]? with
   | some (.row e' k' n cs)=>bif Nat.beq k k' then orF (appI H k x) fun q=>Nd (q.1 ≤ n) (c .no (ri .i64 q.1) (H.set i (.row e' k' n (putAt cs 0 q.2)))) else False
   | _=>False
   else False
  | _=>False
 | _=>False
def vcE (P : Program) (T : TT) (tc : Option (List Nat)) (e : Operand → AV) (H : List AO) (c : Mv → AV → List AO → Prop) : Op → Prop
 | .alloc et=>orF (look T et) fun td=>c .no (.ref H.length 0) (H ++ [.box et (td.zero.map fun z=>.im (.raw z))])
 | .box et x=>orF (cellA (e x)) fun cs=>c .no (.ref H.length 0) (H ++ [.box et cs])
 | .store ty a x=>orF (look T ty) fun td=>vcStore tc H c td (e a) (e x)
 | .pick b x y=>match e b with
  | .im (.raw (.bool b))=>Two b (force (e x) fun x=>c .no x H) (force (e y) fun y=>c .no y H)
  | _=>False
 | .buildSlice ty n ps=>match look T ty with
  | some ⟨_,_,_,.sc et k _ _ _⟩=>bif Nat.ble n 16777216 && Nat.ble (n * k) 16777216 then orF (fillA (fun i=>some (i * k,k)) (List.replicate (n * k) (.im .any)) (ps.toList.map fun p=>(p.1,e p.2))) fun cs=>
    c .no (.own H.length) (H ++ [rowOf et k n cs]) else False
  | _=>False
 | .makeSlice ty l m=>match look T ty,e l,e m with
  | some ⟨_,_,_,.sc et k _ [z] bt⟩,.im (.raw (.int _ l)),.im (.raw (.int _ m))=>bif Nat.beq k 1 && Nat.ble bt 64 then Nd (l = m ∧ 0 ≤ l ∧ l ≤ 1000000000)
    (c .no (.own H.length) (H ++ [.row et k l.toNat (List.replicate l.toNat (.raw z))])) else False
  | _,_,_=>False
 | .makeMap t none=>match look T t with
  | some ⟨_,_,_,.mp _ _⟩=>c .no (.own H.length) (H ++ [.mp []])
  | _=>False
 | .mapUpdate t m k x=>match look T t,e m,e k with
  | some ⟨_,_,_,.mp _ _⟩,.own i,.im (.raw (.string s))=>bif okT tc i then
   match H[i]? with
   | some (.mp es)=>c .no (.im .any) (H.set i (.mp (updA s (e x) es)))
   | _=>False
   else False
  | _,_,_=>False
 | .call cl=>match cl.callee with
  | .value f=>match calleeA (e f) (cl.args.toList.map e) with
   | some (f,xs)=>callsP P T tc f xs H c
   | none=>False
  | .builtin .append=>match cl.args,cl.argTypes with
   | ⟨[s,x]⟩,⟨[ty,ty']⟩=>bif Nat.beq ty ty' then vcApp T tc H c ty (e s) (e x) else vcAppS P T tc H c ty ty' (e s) (e x)
   | _,_=>False
  | .builtin .copy=>match cl.args,cl.argTypes with
   | ⟨[s,x]⟩,⟨[ty,ty']⟩=>bif Nat.beq ty ty' then vcCopy T tc H c ty (e s) (e x) else False
   | _,_=>False
  | .builtin .unsafeString=>match cl.args,cl.argTypes with
   | ⟨[p,l]⟩,⟨[pt,_]⟩=>vcText P H c tc pt (e p) (e l)
   | _,_=>False
  | _=>False
 | _=>False
section
variable {P : Program} {T : TT} {n : Nat} {L B : Nat → Prop} {w0 : World} {m0 : List Value} {μ : List Value} {t : Nat → AV} {H : List AO} {a : Act} {w : World} {Q : Exit → Act → World → Prop} {K : (Nat → AV) → List AO → Prop}
theorem tm_list (h : St n L B w0 m0 T.mv μ t H a w) (l : List Operand) : CnL μ (Mut μ B H) w (l.map (ev t)) (l.map a.eval):=cnl_map h.ev l
theorem Sts.mk {R : Nat → Bool} (h : St n L B w0 m0 R μ t H a w) (hk : K t H) : Sts n L B w0 m0 R K a w:=⟨μ,t,H,hk,h⟩
theorem upon_value {o : Oper} {v : Value} {w' : World} {K' : Act → World → Prop} (h : (execOp a.eval o).run P w = .ok (.value v) w') (hk : K' (a.put o.dst v) w') : o.wp P a w K' Q:=by
 unfold Oper.wp; rw [h]; exact hk
theorem upon_skip' {o : Oper} {w' : World} {K' : Act → World → Prop} (h : (execOp a.eval o).run P w = .ok .skip w') (hk : K' (a.put o.dst undef) w') : o.wp P a w K' Q:=by
 unfold Oper.wp; rw [h]; exact hk
theorem calls_sound (h : St n L B w0 m0 T.mv μ t H a w) {f : Nat} {xs : List AV} {vs : List Value} (hc : CnL μ (Mut μ B H) w xs vs) {o : Oper} (hd : dstOK n o.dst = true) {tc : Option (List Nat)} (hv : callsP P T tc f xs H (kk t o.dst K))
  (hrun : (execOp a.eval o).run P w = (callFunc f vs.toArray).run P w) : o.wp P a w (Sts n L B w0 m0 T.mv K) Q:=by
 rcases hv.out with hv | ⟨g,m,mv,R,Q',h0,h1,h2,h3,h4⟩
 rotate_left
 ·simp only [lendOK,Bool.and_eq_true] at h2
  obtain ⟨⟨⟨⟨-,e2⟩,e3⟩,e4⟩,e5⟩:=h2
  have e2:=Nat.le_of_ble_eq_true e2
  have core : ∀ {μ : List Value} {t' : Nat → AV},St n L B w0 m0 T.mv μ t' (gH g H) a w → CnL μ (Mut μ B (gH g H)) w (gX g H xs) vs → (∀ j,stl mv (t' j) = mvT (mvOf g H mv) t j) → o.wp P a w (Sts n L B w0 m0 T.mv K) Q:=by
   intro μ t' hst hx ht
   unfold Oper.wp
   rw [hrun,h3.1]
   refine (h3.2 (Bl μ B (gH g H) m) w (μ.take m) vs (lend_lies hst.lies e3) (scL_sound (fun j u hj hu=>get_take hj hu) (fun b hb=>lend_mut.1 hb) e4 hx)).mono ?_
   rintro r w' ⟨μ',H',x,v,rfl,hq,k1,k2,k3,k4,k5⟩
   obtain ⟨l1,l2⟩:=h4 x H' hq
   obtain ⟨b1,b2⟩:=hst.back e5 e2 k1 k2 k3 k4 k5 l1
   have e : (fun j=>stl mv (t' j)) = mvT (mvOf g H mv) t:=funext ht
   rw [e] at b1
   exact ⟨_,_,_,l2,b1.put hd b2⟩
  cases g with
  | none=>exact core h hc (fun j=>by cases mv <;> rfl)
  | some ps=>
   simp only [gOK] at h1
   have h1':=h1
   simp only [gcOK,Bool.and_eq_true] at h1'
   exact core (h.gc h1) (gcAL_sound h.lies h1'.1.2 hc) (fun j=>rfl)
 obtain ⟨ks,ivs,-,hf,⟨R,hp,hk⟩ | ⟨e,m,R,hp,hk⟩⟩:=hv
 rotate_left
 ·have hi:=fzL_sound (B:=B) (fz_sound h.lies (p:=isIn ks) (M':=Mut μ B (kill ks H)) (fun b hb=>mut_kill hb) (fun i o u g h1 h2 h3 h4 h5=>off_kill h.lies h1 h2 h3 h4 h5) 6) hf hc
  have h':=h.kill ks
  unfold Oper.wp
  rw [hrun,hp.1]
  refine (hp.2 (Mut μ B (kill ks H)) w vs (fun b hb=>h'.lies.mut_lt hb) h'.lies.gl hi).mono ?_
  rintro r w' ⟨v,n',us,rfl,hq,hr,ho,hb⟩
  have hr0 : w'.ownsRow 0 e m v n' us:=⟨hr.1,hr.2.imp id fun ⟨g,cap,cur,a,b,c⟩=>⟨g,cap,cur,a,Nat.zero_le _,c⟩⟩
  have hone : v.oneCell' = true:=by rcases hr.2 with ⟨rfl,-⟩ | ⟨g,cap,cur,rfl,-⟩ <;> rfl
  have hst:=h'.add (o:=.row e m n' (us.map .raw)) (Kept.of_below hb) hone (fun g hg=>by
   rcases hr.2 with ⟨rfl,-⟩ | ⟨g',cap,cur,rfl,hb',-⟩
   ·simp [blk] at hg
   ·simp [blk] at hg; omega) ⟨us,hr0,⟨by simp,fun j x u a b=>by
    simp only [List.getElem?_map,b,Option.map_some,Option.some.injEq] at a; subst a; exact .raw _⟩,ho⟩
  refine ⟨_,_,_,hk n' us hq,hst.put hd (.own ?_)⟩
  rw [List.getElem?_append_right (by rw [h'.lies.len]; exact Nat.le_refl _),h'.lies.len]; simp
 have hi:=fzL_sound (B:=B) (fz_sound h.lies (p:=isIn ks) (M':=Mut μ B (kill ks H)) (fun b hb=>mut_kill hb) (fun i o u g h1 h2 h3 h4 h5=>off_kill h.lies h1 h2 h3 h4 h5) 6) hf hc
 have h':=h.kill ks
 rcases hp with hp | hp
 ·unfold Oper.wp
  rw [hrun,hp.1]
  refine (hp.2 (Mut μ B (kill ks H)) w vs (fun b hb=>h'.lies.mut_lt hb) h'.lies.gl hi).mono ?_
  rintro e w' ⟨r,v,rfl,hq,hr,hb⟩
  exact ⟨μ,_,_,hk r hq,(h'.same hb).put hd (.im hr)⟩
 ·obtain ⟨r,v,hq,hr,he⟩:=hp (Mut μ B (kill ks H)) w vs hi
  exact upon_value (hrun.trans he) ⟨μ,_,_,hk r hq,h'.put hd (.im hr)⟩
theorem run_call {f : Nat} {p q : List Value} {c : Call} {fo : Operand} (hcal : c.callee = .value fo) (hf : a.eval fo = .func (.func f) p.toArray q.toArray) {o : Oper} (ho : o.op = .call c) :
  (execOp a.eval o).run P w = (callFunc f (p ++ c.args.toList.map a.eval ++ q).toArray).run P w:=by
 have e1 : (p ++ c.args.toList.map a.eval ++ q).toArray = p.toArray ++ c.args.map a.eval ++ q.toArray:=by
  simp [List.append_toArray,← List.map_toArray]
 rw [e1]
 simp [execOp,ho,resolve,hcal,hf,Deferred.ofValue,invoke]
theorem call_sound (h : St n L B w0 m0 T.mv μ t H a w) {c : Call} {fo : Operand} (hcal : c.callee = .value fo) {o : Oper} (ho : o.op = .call c) (hd : dstOK n o.dst = true) {f : Nat} {xs : List AV} (hx : calleeA (ev t fo) (c.args.toList.map (ev t)) = some (f,xs)) {tc : Option (List Nat)} (hv : callsP P T tc f xs H (kk t o.dst K)) : o.wp P a w (Sts n L B w0 m0 T.mv K) Q:=by
 have hf:=h.ev fo
 generalize hfv : a.eval fo = u at hf
 unfold calleeA at hx
 split at hx
 ·rename_i f' p q he
  rw [he] at hf
  simp at hx; obtain ⟨rfl,rfl⟩:=hx
  cases hf with
  | @fn _ _ _ az bs hl hh kl kh=>
   exact calls_sound h ((CnL.append ⟨hl,hh⟩ (tm_list h _)).append ⟨kl,kh⟩) hd (by simpa using hv) (run_call hcal hfv ho)
 ·rename_i f' p q he
  rw [he] at hf
  simp at hx; obtain ⟨rfl,rfl⟩:=hx
  cases hf with
  | im hf=>
   cases hf with
   | @fn _ _ _ az bs hl hh kl kh=>
    exact calls_sound h ((CnL.append (CiL.cn ⟨hl,hh⟩) (tm_list h _)).append (CiL.cn ⟨kl,kh⟩)) hd (by simpa using hv) (run_call hcal hfv ho)
 ·cases hx
end
theorem putAt_eq {α : Type} (vs us : List α) (o : Nat) (h : o + us.length ≤ vs.length) : putAt vs o us = vs.take o ++ us ++ vs.drop (o + us.length):=by
 apply List.ext_getElem?
 intro j
 rw [putAt_get us vs o h]
 by_cases h1 : j < o
 ·rw [if_neg (by omega),List.append_assoc,List.getElem?_append_left (by simp; omega),List.getElem?_take,if_pos h1]
 ·by_cases h2 : j < o + us.length
  ·rw [if_pos ⟨by omega,h2⟩,List.getElem?_append_left (by simp; omega),List.getElem?_append_right (by simp; omega)]
   congr 1; simp; omega
  ·rw [if_neg (by omega),List.getElem?_append_right (by simp; omega)]
   simp only [List.getElem?_drop,List.length_append,List.length_take]
   congr 1; omega
theorem take_putAt {α : Type} (l us : List α) (o N : Nat) (h : o + us.length ≤ N) (hN : N ≤ l.length) : (putAt l o us).take N = putAt (l.take N) o us:=by
 apply List.ext_getElem?
 intro j
 rw [List.getElem?_take,putAt_get us l o (by omega),putAt_get us (l.take N) o (by simp; omega),List.getElem?_take]
 by_cases hj : j < N
 ·rw [if_pos hj,if_pos hj]
 ·rw [if_neg hj,if_neg hj,if_neg (by omega)]
section
variable {P : Program} {T : TT} {n : Nat} {L B : Nat → Prop} {w0 : World} {m0 : List Value} {R : Nat → Bool} {μ : List Value} {t : Nat → AV} {H : List AO} {a : Act} {w : World} {Q : Exit → Act → World → Prop} {K : (Nat → AV) → List AO → Prop}
theorem mut_set {i : Nat} {o o' : AO} (ho : H[i]? = some o) (hl : o.live = true) {b : Nat} (h : Mut μ B (H.set i o') b) : Mut μ B H b:=by
 rcases h with h | ⟨j,p,u,h1,h2,h3,h4⟩
 ·exact .inl h
 ·by_cases hj : i = j
  ·subst hj; exact .inr ⟨i,o,u,ho,hl,h3,h4⟩
  ·rw [List.getElem?_set_ne hj] at h1; exact .inr ⟨j,p,u,h1,h2,h3,h4⟩
theorem St.updD (h : St n L B w0 m0 R μ t H a w) {i g : Nat} {o o' : AO} {u : Value} (ho : H[i]? = some o) (hu : μ[i]? = some u) (hb : blk u = some g) (hl : o.live = true) {w' : World}
  (hw : Kept (fun b=>b = g) w w') (ho' : LieO μ (Mut μ B H) w' u o') : St n L B w0 m0 R μ t (H.set i o') a w':=by
 have hg : Mut μ B H g:=.inr ⟨i,o,u,ho,hl,hu,hb⟩
 have hk : ∀ b,b < w.heap.size → ¬ Mut μ B H b → ¬ Mut μ B (H.set i o') b ∧ w'.heap[b]? = w.heap[b]?:=fun b hlt hn=>
  ⟨fun hm=>hn (mut_set ho hl hm),hw.block b hlt fun e=>hn (e ▸ hg)⟩
 have sub : ∀ (j : Nat) (p : AO),(H.set i o')[j]? = some p → p.live = true → ∃ q : AO,H[j]? = some q ∧ q.live = true:=fun j p hp hlp=>by
  by_cases hj : i = j
  ·subst hj; exact ⟨o,ho,hl⟩
  ·rw [List.getElem?_set_ne hj] at hp; exact ⟨p,hp,hlp⟩
 refine ⟨h.dfr,h.sz,fun j=>(h.tm j).keep (fun _ _ h=>h) hk,⟨by simp [h.lies.len],?_,fun b hB=>Nat.lt_of_lt_of_le (h.lies.out b hB) hw.size,?_,h.lies.one,?_,h.lies.gl.keep hk⟩,?_,?_,h.fix⟩
 ·intro j p v hp hv
  by_cases hj : i = j
  ·subst hj
   rw [List.getElem?_set_self (List.getElem?_eq_some_iff.1 ho).1] at hp
   rw [hu] at hv
   cases hp; cases hv
   exact ho'.keep (fun _ _ h=>h) (fun b _ hn=>⟨fun hm=>hn (mut_set ho hl hm),rfl⟩) (fun _ _ _=>rfl)
  ·rw [List.getElem?_set_ne hj] at hp
   exact (h.lies.obj j p v hp hv).keep (fun _ _ h=>h) hk fun g' hlp hg'=>hw.block g' (h.lies.lt hp hlp hv hg') fun e=>hj (h.lies.inj i j o p u v g ho hp hl hlp hu hv hb (e ▸ hg'))
 ·intro j p v g' hp hlp hv hg'
  obtain ⟨q,h1,h2⟩:=sub j p hp hlp
  exact h.lies.sep j q v g' h1 h2 hv hg'
 ·intro j j' p p' v v' g' hp hp' hlp hlp' hv hv' hg1 hg2
  obtain ⟨q,h1,h2⟩:=sub j p hp hlp
  obtain ⟨q',h1',h2'⟩:=sub j' p' hp' hlp'
  exact h.lies.inj j j' q q' v v' g' h1 h1' h2 h2' hv hv' hg1 hg2
 ·refine ⟨hw.os.trans h.kept.os,hw.tape.trans h.kept.tape,hw.output.trans h.kept.output,Nat.le_trans h.kept.size hw.size,fun b hlt hn=>?_⟩
  refine (hw.block b (Nat.lt_of_lt_of_le hlt h.kept.size) fun e=>?_).trans (h.kept.block b hlt hn)
  subst e
  rcases h.new b ⟨i,o,u,ho,hl,hu,hb⟩ with h1 | h1
  ·exact hn h1
  ·omega
 ·rintro b ⟨j,p,v,h1,h2,h3,h4⟩
  obtain ⟨q,k1,k2⟩:=sub j p h1 h2
  exact h.new b ⟨j,q,v,k1,k2,h3,h4⟩
theorem St.upd (h : St n L B w0 m0 R μ t H a w) {i g : Nat} {o o' : AO} {u : Value} (ho : H[i]? = some o) (hu : μ[i]? = some u) (hb : blk u = some g) (hl : o.live = true) (_ : o'.live = true) {w' : World}
  (hw : Kept (fun b=>b = g) w w') (ho' : LieO μ (Mut μ B H) w' u o') : St n L B w0 m0 R μ t (H.set i o') a w':=h.updD ho hu hb hl hw ho'
theorem kept_setRow (w : World) (g : Nat) (cs : Array Value) : Kept (fun b=>b = g) w (w.setRow g cs):=
 ⟨rfl,rfl,rfl,by simp [World.setRow],fun k _ hn=>setRow_other w g k cs hn⟩
theorem run_storeVar_at {ty : Nat} {d : TD} (hd : td P ty = some d) {g o e : Nat} {cur : List Value} (hg : w.heap[g]? = some (.cells cur.toArray e (0,0))) {v : Value} (hs : d.size = v.cells.size) (ho : Ones v.cells.toList) (hle : o + v.cells.size ≤ cur.length) :
  (storeVar ty ⟨g,o,none⟩ v).run P w = .ok () (w.setRow g (putAt cur o v.cells.toList).toArray):=by
 obtain ⟨i,z,h1,h2,h3,h4,h5,h6,h7,h8,h9⟩:=td_parts hd
 have:=run_storeCells_at P g o e v.cells.toList 0 cur.toArray w hg (by simpa using hle) ho
 simp only [Nat.add_zero] at this
 rw [putAt_eq _ _ _ (by simpa using hle)]
 simp [storeVar,run_size h1,h5,hs,this]
theorem store_ptr {ty : Nat} {ad : Addr} {v : Value} : (Instr.storeAt ty (.pointer (some ad)) v).run P w = (storeVar ty ad v).run P w:=by
 simp [Instr.storeAt,Instr.sureAddr]
theorem mut_keep {M : Nat → Prop} {g : Nat} (hg : M g) {w' : World} (hw : Kept (fun b=>b = g) w w') : ∀ b,b < w.heap.size → ¬ M b → ¬ M b ∧ w'.heap[b]? = w.heap[b]?:=
 fun b hlt hn=>⟨hn,hw.block b hlt fun e=>hn (e ▸ hg)⟩
theorem store_sound (h : St n L B w0 m0 T.mv μ t H a w) {ty : Nat} {d : TD} (hd : td P ty = some d) {tc : Option (List Nat)} {av xv : AV} {ua ux : Value} (ha : Cn μ (Mut μ B H) w av ua) (hx : Cn μ (Mut μ B H) w xv ux) {dst : Option Nat} (hdst : dstOK n dst = true)
  (hv : vcStore tc H (kk t dst K) d av xv) : ∃ w',(Instr.storeAt ty ua ux).run P w = .ok () w' ∧ Sts n L B w0 m0 T.mv K (a.put dst undef) w':=by
 unfold vcStore at hv
 split at hv
 ·rename_i i o
  cases hc : cellA xv with
  | none=>rw [hc] at hv; exact hv.elim
  | some xs=>
   rw [hc] at hv
   have hv':=bifF.1 hv
   clear hv
   obtain ⟨hb0,hv⟩:=hv'
   simp only [Bool.and_eq_true] at hb0
   have hsz:=beq_of hb0.2
   obtain ⟨c1,c2⟩:=cellA_sound h.lies hc hx
   have hs : d.size = ux.cells.size:=by rw [hsz]; have:=c1.1; simpa using this.symm
   have hxl : xs.length = ux.cells.size:=by have:=c1.1; simpa using this.symm
   cases ha with
   | @ref _ _ g u hi hb=>
    split at hv
    ·rename_i e cs hO
     have hv':=bifF.1 hv
     clear hv
     obtain ⟨hle,hv⟩:=hv'
     have hle:=Nat.le_of_ble_eq_true hle
     obtain ⟨g',vs,rfl,h1,h2,h3⟩:=h.lies.obj _ _ _ hO hi
     simp [blk] at hb; subst hb
     have hvl:=h2.1
     have hr:=run_storeVar_at (P:=P) (o:=o) hd h1 hs c2 (by omega)
     have hw:=kept_setRow w g' (putAt vs o ux.cells.toList).toArray
     refine ⟨_,by rw [store_ptr]; exact hr,Sts.mk ((h.upd (o':=.box e (putAt cs o xs)) hO hi rfl rfl rfl hw ⟨g',putAt vs o ux.cells.toList,rfl,?_,?_,?_⟩).put hdst (.im (.any _))) hv⟩
     ·exact setRow_heap w g' _ _ e (0,0) h1
     ·exact (h2.put c1 hle).keep (fun _ _ h=>h) (mut_keep (.inr ⟨i,_,_,hO,rfl,hi,rfl⟩) hw)
     ·exact h3.put c2 (by simp; omega)
    ·rename_i e k m cs hO
     cases hy : imL xs with
     | none=>rw [hy] at hv; exact hv.elim
     | some ys=>
      rw [hy] at hv
      obtain ⟨hle,hv⟩:=hv
      have hxy:=imL_sound hy
      rw [hxy] at c1
      have c1:=c1.im
      have hyl : ys.length = xs.length:=by rw [hxy]; simp
      obtain ⟨vs,h1,h2,h3⟩:=h.lies.obj _ _ _ hO hi
      have hvl:=h2.1
      rcases h1.2 with ⟨rfl,-⟩ | ⟨g',cap,cur,rfl,k1,k2,k3,k4,k5,k6⟩
      ·simp [blk] at hb
      ·simp [blk] at hb; subst hb
       have hcur : cur.toList.toArray = cur:=by simp
       have hle2 : o + ux.cells.size ≤ m * k:=by have:=h1.1; omega
       have hcl : m * k ≤ cur.toList.length:=by
        have:=Nat.mul_le_mul_right k k3
        simp [k5]; omega
       have hr:=run_storeVar_at (P:=P) (o:=o) (cur:=cur.toList) hd (by rw [hcur]; exact k2) hs c2 (by omega)
       have hw:=kept_setRow w g' (putAt cur.toList o ux.cells.toList).toArray
       refine ⟨_,by rw [store_ptr]; exact hr,Sts.mk ((h.upd (o':=.row e k m (putAt cs o ys)) hO hi rfl rfl rfl hw ⟨putAt vs o ux.cells.toList,⟨?_,.inr ⟨g',cap,(putAt cur.toList o ux.cells.toList).toArray,rfl,k1,?_,k3,k4,?_,?_⟩⟩,?_,?_⟩).put hdst (.im (.any _))) hv⟩
       ·rw [putAt_len]; exact h1.1
       ·exact setRow_heap w g' _ _ e (0,0) k2
       ·simp [putAt_len,k5]
       ·rw [← k6]; exact take_putAt _ _ _ _ (by simpa using hle2) hcl
       ·exact (h2.put c1 (by omega)).keep (mut_keep (.inr ⟨i,_,_,hO,rfl,hi,rfl⟩) hw)
       ·exact h3.put c2 (by simp; omega)
    ·rename_i e k m cs hO
     obtain ⟨hle,hv⟩:=hv
     obtain ⟨vs,h1,h2,h3⟩:=h.lies.obj _ _ _ hO hi
     have hvl:=h2.1
     rcases h1.2 with ⟨rfl,-⟩ | ⟨g',cap,cur,rfl,k1,k2,k3,k4,k5,k6⟩
     ·simp [blk] at hb
     ·simp [blk] at hb; subst hb
      have hcur : cur.toList.toArray = cur:=by simp
      have hle2 : o + ux.cells.size ≤ m * k:=by have:=h1.1; omega
      have hcl : m * k ≤ cur.toList.length:=by
       have:=Nat.mul_le_mul_right k k3
       simp [k5]; omega
      have hr:=run_storeVar_at (P:=P) (o:=o) (cur:=cur.toList) hd (by rw [hcur]; exact k2) hs c2 (by omega)
      have hw:=kept_setRow w g' (putAt cur.toList o ux.cells.toList).toArray
      refine ⟨_,by rw [store_ptr]; exact hr,Sts.mk ((h.upd (o':=.rowa e k m (putAt cs o xs)) hO hi rfl rfl rfl hw ⟨putAt vs o ux.cells.toList,⟨?_,.inr ⟨g',cap,(putAt cur.toList o ux.cells.toList).toArray,rfl,k1,?_,k3,k4,?_,?_⟩⟩,?_,?_⟩).put hdst (.im (.any _))) hv⟩
      ·rw [putAt_len]; exact h1.1
      ·exact setRow_heap w g' _ _ e (0,0) k2
      ·simp [putAt_len,k5]
      ·rw [← k6]; exact take_putAt _ _ _ _ (by simpa using hle2) hcl
      ·exact (h2.put c1 hle).keep (fun _ _ h=>h) (mut_keep (.inr ⟨i,_,_,hO,rfl,hi,rfl⟩) hw)
      ·exact h3.put c2 (by simp; omega)
    ·exact hv.elim
 ·exact hv.elim
end
section
variable {P : Program} {T : TT} {n : Nat} {L B : Nat → Prop} {w0 : World} {m0 : List Value} {R : Nat → Bool} {μ : List Value} {t : Nat → AV} {H : List AO} {a : Act} {w : World} {Q : Exit → Act → World → Prop} {K : (Nat → AV) → List AO → Prop}
theorem app_get {i : Nat} {o' p : AO} {j : Nat} (h : ((H.map (staleO [i])).set i o')[j]? = some p) : (i = j ∧ p = o' ∧ i < H.length) ∨ (i ≠ j ∧ ∃ q,H[j]? = some q ∧ p = staleO [i] q):=by
 rcases set_get h with ⟨h1,h2,h3⟩ | ⟨h1,h2⟩
 ·exact .inl ⟨h1,h2,by simpa using h3⟩
 ·obtain ⟨q,hq,rfl⟩:=map_at h2
  exact .inr ⟨h1,q,hq,rfl⟩
theorem St.move (h : St n L B w0 m0 R μ t H a w) {i : Nat} {o o' : AO} {u u' : Value} (ho : H[i]? = some o) (hu : μ[i]? = some u) (hl : o.live = true) (hR : R i = true) (h1 : u'.oneCell' = true) {w' : World}
  (hb : ∀ g,blk u' = some g → blk u = some g ∨ w.heap.size ≤ g) (hw : Kept (fun b=>blk u = some b) w w')
  (ho' : LieO (μ.set i u') (Mut (μ.set i u') B ((H.map (staleO [i])).set i o')) w' u' o') :
  St n L B w0 m0 R (μ.set i u') (fun j=>stale [i] 6 (t j)) ((H.map (staleO [i])).set i o') a w':=by
 have hlen:=h.lies.len
 have hil : i < μ.length:=(List.getElem?_eq_some_iff.1 hu).1
 have back : ∀ (j : Nat) (p : AO) v g,((H.map (staleO [i])).set i o')[j]? = some p → p.live = true → (μ.set i u')[j]? = some v → blk v = some g → (∃ q u,H[j]? = some q ∧ q.live = true ∧ μ[j]? = some u ∧ blk u = some g) ∨ (j = i ∧ w.heap.size ≤ g):=by
  intro j p v g hp hlp hv hg
  rcases app_get hp with ⟨rfl,rfl,-⟩ | ⟨hne,q,hq,rfl⟩
  ·rw [List.getElem?_set_self hil] at hv; cases hv
   rcases hb g hg with hb | hb
   ·exact .inl ⟨o,u,ho,hl,hu,hb⟩
   ·exact .inr ⟨rfl,hb⟩
  ·rw [List.getElem?_set_ne hne] at hv
   rw [staleO_live] at hlp
   exact .inl ⟨q,v,hq,hlp,hv,hg⟩
 have hM : ∀ b,Mut (μ.set i u') B ((H.map (staleO [i])).set i o') b → Mut μ B H b ∨ w.heap.size ≤ b:=by
  rintro b (hB | ⟨j,p,v,k1,k2,k3,k4⟩)
  ·exact .inl (.inl hB)
  ·rcases back j p v b k1 k2 k3 k4 with ⟨q,u,e1,e2,e3,e4⟩ | ⟨-,e⟩
   ·exact .inl (.inr ⟨j,q,u,e1,e2,e3,e4⟩)
   ·exact .inr e
 have hk : ∀ b,b < w.heap.size → ¬ Mut μ B H b → ¬ Mut (μ.set i u') B ((H.map (staleO [i])).set i o') b ∧ w'.heap[b]? = w.heap[b]?:=by
  intro b hlt hn
  refine ⟨fun hm=>?_,hw.block b hlt fun e=>hn (.inr ⟨i,o,u,ho,hl,hu,e⟩)⟩
  rcases hM b hm with hm | hm
  ·exact hn hm
  ·omega
 have hm : ∀ (j : Nat) v,isIn [i] j = false → μ[j]? = some v → (μ.set i u')[j]? = some v:=fun j v hj hv=>by
  rw [List.getElem?_set_ne]
  ·exact hv
  ·rintro rfl; simp [isIn] at hj
 refine ⟨h.dfr,h.sz,fun j=>stale_sound hm hk 6 _ _ (h.tm j),⟨by simp [hlen],?_,fun b hB=>Nat.lt_of_lt_of_le (h.lies.out b hB) hw.size,?_,?_,?_,h.lies.gl.keep hk⟩,?_,?_,?_⟩
 ·intro j p v hp hv
  rcases app_get hp with ⟨rfl,rfl,-⟩ | ⟨hne,q,hq,rfl⟩
  ·rw [List.getElem?_set_self hil] at hv; cases hv; exact ho'
  ·rw [List.getElem?_set_ne hne] at hv
   exact staleO_sound hm hk (fun g hlq hg=>hw.block g (h.lies.lt hq hlq hv hg) fun e=>hne (h.lies.inj i j o q u v g ho hq hl hlq hu hv e hg)) (h.lies.obj j q v hq hv)
 ·intro j p v g hp hlp hv hg hB
  rcases back j p v g hp hlp hv hg with ⟨q,u,e1,e2,e3,e4⟩ | ⟨-,e⟩
  ·exact h.lies.sep j q u g e1 e2 e3 e4 hB
  ·have:=h.lies.out g hB; omega
 ·intro j v hv
  rcases set_get hv with ⟨-,rfl,-⟩ | ⟨-,hv⟩
  ·exact h1
  ·exact h.lies.one j v hv
 ·intro j j' p p' v v' g hp hp' hlp hlp' hv hv' hg hg'
  rcases back j p v g hp hlp hv hg with ⟨q,u,e1,e2,e3,e4⟩ | ⟨e,e5⟩ <;> rcases back j' p' v' g hp' hlp' hv' hg' with ⟨q',u',f1,f2,f3,f4⟩ | ⟨f,f5⟩
  ·exact h.lies.inj j j' q q' u u' g e1 f1 e2 f2 e3 f3 e4 f4
  ·have:=h.lies.lt e1 e2 e3 e4; omega
  ·have:=h.lies.lt f1 f2 f3 f4; omega
  ·rw [e,f]
 ·refine ⟨hw.os.trans h.kept.os,hw.tape.trans h.kept.tape,hw.output.trans h.kept.output,Nat.le_trans h.kept.size hw.size,fun b hlt hn=>?_⟩
  refine (hw.block b (Nat.lt_of_lt_of_le hlt h.kept.size) fun e=>?_).trans (h.kept.block b hlt hn)
  rcases h.new b ⟨i,o,u,ho,hl,hu,e⟩ with k | k
  ·exact hn k
  ·omega
 ·rintro b ⟨j,p,v,k1,k2,k3,k4⟩
  rcases back j p v b k1 k2 k3 k4 with ⟨q,u,e1,e2,e3,e4⟩ | ⟨-,e⟩
  ·exact h.new b ⟨j,q,u,e1,e2,e3,e4⟩
  ·exact .inr (Nat.le_trans h.kept.size e)
 ·intro j v hRj hv
  have:=h.fix j v hRj hv
  rw [List.getElem?_set_ne]
  ·exact this
  ·rintro rfl; rw [hR] at hRj; cases hRj
structure Src (w : World) (k m : Nat) (v : Value) (vs : List Value) : Prop where
 len : vs.length = m * k
 one : Ones vs
 at_ : ∃ ao c,v = .slice ao m c ∧ (ao = none → vs = []) ∧ ∀ ad,ao = some ad → ∀ (j : Nat) u,vs[j]? = some u → w.cell? (ad.add j) = some u
theorem appI_sound (h : Lies μ B w H) {k m : Nat} {x : AV} {v : Value} {xs : List IV} (hk : 1 ≤ k) (hx : appI H k x = some (m,xs)) (hc : Cn μ (Mut μ B H) w x v) : ∃ vs,Src w k m v vs ∧ CiL (Mut μ B H) w xs vs:=by
 unfold appI at hx
 split at hx
 ·rename_i m' k' xs'
  cases hb : Nat.beq k k' with
  | false=>rw [hb] at hx; cases hx
  | true=>
   rw [hb] at hx
   obtain rfl:=beq_of hb
   simp at hx; obtain ⟨rfl,rfl⟩:=hx
   cases hc with
   | im hc=>
    obtain ⟨ao,b,o,cap,vs,rfl,c1,c2,c3,c4,c5,c6⟩:=hc.slice
    refine ⟨vs,⟨by rw [c4.1,c2],c6,ao,cap,rfl,fun e=>?_,fun ad e j u hu=>?_⟩,c4⟩
    ·by_cases hne : xs' = []
     ·subst hne; exact List.length_eq_zero_iff.1 c4.1
     ·have:=(c3 hne).1; rw [e] at this; cases this
    ·by_cases hne : xs' = []
     ·subst hne; have:=c4.1; simp at this; subst this; simp at hu
     ·have:=(c3 hne).1; rw [e] at this; cases this; rw [add_spot]; exact c5 j u hu
 ·simp at hx; obtain ⟨rfl,rfl⟩:=hx
  obtain rfl:=cn_raw hc
  exact ⟨[],⟨by simp,fun _ h=>by simp at h,none,0,rfl,fun _=>rfl,fun ad e=>by cases e⟩,rfl,fun j x v h=>by simp at h⟩
 ·split at hx
  ·rename_i e k' m' xs' ho
   cases hb : Nat.beq k k' with
   | false=>rw [hb] at hx; cases hx
   | true=>
    rw [hb] at hx
    obtain rfl:=beq_of hb
    simp at hx; obtain ⟨rfl,rfl⟩:=hx
    cases hc with
    | own hi=>
     obtain ⟨vs,h1,h2,h3⟩:=h.obj _ _ _ ho hi
     refine ⟨vs,⟨h1.1,h3,?_⟩,h2⟩
     rcases row_cells h1 with ⟨rfl,rfl,rfl⟩ | ⟨g,cap,rfl,h4,h5⟩
     ·exact ⟨none,0,rfl,fun _=>rfl,fun ad e=>by cases e⟩
     ·exact ⟨_,cap,rfl,fun e=>by (cases e),fun ad e j u hu=>by cases e; rw [add_spot]; exact h5 j u hu⟩
  ·cases hx
 ·cases hx
theorem appA_sound (h : Lies μ B w H) {k m : Nat} {x : AV} {v : Value} {xs : List AV} (hx : appA H k x = some (m,xs)) (hc : Cn μ (Mut μ B H) w x v) : ∃ vs,Src w k m v vs ∧ CnL μ (Mut μ B H) w xs vs:=by
 unfold appA at hx
 split at hx
 ·split at hx
  ·rename_i e k' m' xs' ho
   cases hb : Nat.beq k k' with
   | false=>rw [hb] at hx; cases hx
   | true=>
    rw [hb] at hx
    obtain rfl:=beq_of hb
    simp at hx; obtain ⟨rfl,rfl⟩:=hx
    cases hc with
    | own hi=>
     obtain ⟨vs,h1,h2,h3⟩:=h.obj _ _ _ ho hi
     refine ⟨vs,⟨h1.1,h3,?_⟩,h2⟩
     rcases row_cells h1 with ⟨rfl,rfl,rfl⟩ | ⟨g,cap,rfl,h4,h5⟩
     ·exact ⟨none,0,rfl,fun _=>rfl,fun ad e=>by cases e⟩
     ·exact ⟨_,cap,rfl,fun e=>by (cases e),fun ad e j u hu=>by cases e; rw [add_spot]; exact h5 j u hu⟩
  ·cases hx
 ·cases hx
theorem run_app {t ty e k n m bt : Nat} {d : TD} {ag : Bool} {z : List Value} (hd : td P t = some d) (hs : d.sh = .sc e k ag z bt) (hk : 1 ≤ k) {v x : Value} {xs vs : List Value} (ho : w.ownsRow 0 e k v n xs) (hx : Src w k m x vs)
  (h1 : (n + m) * bt ≤ 140737488355328) (h2 : n + m ≤ 1000000000) :
  ∃ v' w',(Builtin.append_ #[t,t] ty #[v,x]).run P w = .ok v' w' ∧ w'.ownsRow 0 e k v' (n + m) (xs ++ vs) ∧ w.grownBy w' v.ownBlock ∧ (v'.ownBlock = v.ownBlock ∨ v'.ownBlock = some w.heap.size) ∧ v'.oneCell' = true:=by
 obtain ⟨g0,i,zv,g1,g2,g3,g4,g5,g6,g7,g8,g9⟩:=sc_parts hd hs
 obtain ⟨hl,hone,ao,c,rfl,hn,hc⟩:=hx
 have one : ∀ {w : World} {v' : Value} {n : Nat} {l : List Value},w.ownsRow 0 e k v' n l → v'.oneCell' = true:=fun h=>by
  rcases h.2 with ⟨rfl,-⟩ | ⟨g,cap,cur,rfl,-⟩ <;> rfl
 cases ao with
 | none=>
  have:=hn rfl; subst this
  have hm : m = 0:=by
   have : m * k = 0:=by simpa using hl.symm
   rcases Nat.mul_eq_zero.1 this with h | h
   ·exact h
   ·omega
  subst hm
  refine ⟨v,w,?_,by simpa using ho,⟨rfl,rfl,rfl,Nat.le_refl _,fun _ _ _=>rfl⟩,.inl rfl,one ho⟩
  have hr:=run_append_owned_none (P:=P) w 0 t ty e i k g0 g1 v n xs ho
  have : ∀ c,(Builtin.append_ #[t,t] ty #[v,.slice none 0 c]).run P w = .ok v w:=by
   intro c
   have e1 : (Builtin.append_ #[t,t] ty #[v,.slice none 0 c]) = (Builtin.append_ #[t,t] ty #[v,.slice none 0 0]):=rfl
   rw [e1]; exact hr
  exact this c
 | some ad=>
  obtain ⟨v',w',k1,k2,k3,k4,k5⟩:=run_append_own_at (P:=P) w 0 t ty e i zv k bt g0 g1 g2 g5 g9 (by rw [g3,g5]) (by omega) v n xs ho ad m c vs hl (hc ad rfl) hone (by unfold maxLen; omega) h1 (Nat.zero_le _)
  exact ⟨v',w',k1,k2,k3,k5,one k2⟩
theorem run_app_str {t t2 ty e n : Nat} {d d2 : TD} {ag : Bool} (hd : td P t = some d) (hs : d.sh = .sc e 1 ag [.int .u8 0] 1) (hd2 : td P t2 = some d2) (hs2 : d2.sh = .str) (h8 : U8 P e) {v : Value} {xs : List Value} (ho : w.ownsRow 0 e 1 v n xs) {s : ByteArray} (h2 : n + s.size ≤ 1000000000) :
  ∃ v' w',(Builtin.append_ #[t,t2] ty #[v,.string s]).run P w = .ok v' w' ∧ w'.ownsRow 0 e 1 v' (n + s.size) (xs ++ Lib.strCells s) ∧ w.grownBy w' v.ownBlock ∧ (v'.ownBlock = v.ownBlock ∨ v'.ownBlock = some w.heap.size) ∧ v'.oneCell' = true:=by
 obtain ⟨g0,i,zv,g1,g2,g3,g4,g5,g6,g7,g8,g9⟩:=sc_parts hd hs
 have hu:=str_parts hd2 hs2
 have one : ∀ {w : World} {v' : Value} {n : Nat} {l : List Value},w.ownsRow 0 e 1 v' n l → v'.oneCell' = true:=fun h=>by
  rcases h.2 with ⟨rfl,-⟩ | ⟨g,cap,cur,rfl,-⟩ <;> rfl
 have hz : i.zero = some (.int .u8 0):=by unfold U8 at h8; rw [g1] at h8; exact h8
 obtain ⟨v',w',r1,r2,r3,r4⟩:=Lib.run_append_own_string (P:=P) w 0 t t2 ty e i g0 hu g1 hz g5 g9 v n xs ho s (by unfold maxLen; omega) (by omega) (Nat.zero_le _)
 refine ⟨v',w',r1,r2,r3,?_,one r2⟩
 have hcs:=fun g=>ho.cells (g:=g)
 rcases ho.2 with ⟨rfl,rfl⟩ | ⟨g,cap,cur,rfl,-,k2,k3,k4,k5,k6⟩
 ·by_cases h0 : s.size = 0
  ·rw [r4.2 ⟨rfl,h0⟩]; exact .inl rfl
  ·have:=run_append_nil_string (P:=P) w t t2 ty e i (.int .u8 0) g0 hu g1 hz s (by omega) (by omega) (by rw [g9]; omega)
   rw [r1] at this
   cases this
   exact .inr rfl
 ·by_cases hr : n + s.size ≤ cap
  ·have:=Lib.run_append_room_string (P:=P) w t t2 ty e i g0 hu g1 g5 g n cap cur k2 s hr (by rw [k5]; omega)
   rw [r1] at this
   cases this
   exact .inl rfl
  ·have:=Lib.run_append_grow_string (P:=P) w t t2 ty e i (.int .u8 0) g0 hu g1 hz ⟨g,0,none⟩ n cap xs (by rw [g5]; exact ho.1) (hcs g rfl) s (by omega) (by omega) (by rw [g9]; exact growslice_fits (by omega) (by omega))
   rw [r1] at this
   cases this
   exact .inr rfl
theorem blk_own {e k n : Nat} {v : Value} {xs : List Value} (h : w.ownsRow 0 e k v n xs) : blk v = v.ownBlock:=by
 rcases h.2 with ⟨rfl,-⟩ | ⟨g,cap,cur,rfl,-⟩ <;> rfl
end
section
variable {P : Program} {T : TT} {n : Nat} {L B : Nat → Prop} {w0 : World} {m0 : List Value} {μ : List Value} {t : Nat → AV} {H : List AO} {a : Act} {w : World} {Q : Exit → Act → World → Prop} {K : (Nat → AV) → List AO → Prop}
theorem Kept.of_grown {w' : World} {row : Option Nat} (hg : w.grownBy w' row) : Kept (fun b=>row = some b) w w':=
 ⟨hg.os,hg.tape,hg.output,hg.size,fun k hk hn=>hg.block k hk fun e=>hn e.symm⟩
theorem last_ref {μ : List Value} {M : Nat → Prop} {u : Value} {g : Nat} (hl : μ.length = H.length) (hb : blk u = some g) (o : Nat) : Cn (μ ++ [u]) M w (.ref H.length o) (.pointer (some ⟨g,o,none⟩)):=
 .ref (by rw [List.getElem?_append_right (by omega),hl]; simp) hb
theorem last_own {μ : List Value} {M : Nat → Prop} {u : Value} (hl : μ.length = H.length) : Cn (μ ++ [u]) M w (.own H.length) u:=
 .own (by rw [List.getElem?_append_right (by omega),hl]; simp)
theorem St.newRow (h : St n L B w0 m0 T.mv μ t H a w) {e k m : Nat} {o : AO} {vs : List Value} (hl : vs.length = m * k) (hm : m ≤ maxLen) (hvs : Ones vs)
  (ho : ∀ μ' M' w',(∀ (i : Nat) v,μ[i]? = some v → μ'[i]? = some v) → (∀ b,b < w.heap.size → ¬ Mut μ B H b → ¬ M' b ∧ w'.heap[b]? = w.heap[b]?) → ∀ u,w'.ownsRow 0 e k u m vs → LieO μ' M' w' u o) :
  St n L B w0 m0 T.mv (μ ++ [.slice (some ⟨w.heap.size,0,none⟩) m m]) t (H ++ [o]) a (w.alloc (.cells vs.toArray e)):=by
 have hb : ∀ g,blk (.slice (some ⟨w.heap.size,0,none⟩) m m) = some g → w.heap.size ≤ g:=fun g hg=>by simp [blk] at hg; omega
 refine h.add (Kept.alloc _ _ _) rfl hb (ho _ _ _ app_keep (fun b hlt hn=>⟨fun hm=>?_,Below.heap_alloc _ _ _ hlt⟩) _ ⟨hl,.inr ⟨w.heap.size,m,vs.toArray,rfl,Nat.zero_le _,heap_new _ _,Nat.le_refl _,hm,by simp [hl],by simp [← hl]⟩⟩)
 rcases mut_add h.lies.len hm with hm | ⟨-,hm⟩
 ·exact hn hm
 ·have:=hb b hm; omega
theorem rowOf_lie {e k m : Nat} {cs : List AV} {vs : List Value} (hc : CnL μ (Mut μ B H) w cs vs) (hvs : Ones vs) : ∀ μ' M' w',(∀ (i : Nat) v,μ[i]? = some v → μ'[i]? = some v) → (∀ b,b < w.heap.size → ¬ Mut μ B H b → ¬ M' b ∧ w'.heap[b]? = w.heap[b]?) → ∀ u,w'.ownsRow 0 e k u m vs → LieO μ' M' w' u (rowOf e k m cs):=by
 intro μ' M' w' hm hk u hu
 unfold rowOf
 split
 ·rename_i l hl
  have:=imL_sound hl; subst this
  exact ⟨vs,hu,hc.im.keep hk,hvs⟩
 ·exact ⟨vs,hu,hc.keep hm hk,hvs⟩
theorem app_rowa (h : St n L B w0 m0 T.mv μ t H a w) {d : Option Nat} (hd : dstOK n d = true) {ty ty2 : Nat} {td' : TD} (htd : td P ty = some td') {e k bt : Nat} {ag : Bool} {z : List Value} (hsh : td'.sh = .sc e k ag z bt) (hk : 1 ≤ k) {us ux : Value} {i : Nat} {o : AO} (ho : H[i]? = some o) (hl : o.live = true) (hi : μ[i]? = some us) (hR : T.mv i = true)
  {m m2 : Nat} {us' vs : List Value} {cs xs : List AV} (k1 : w.ownsRow 0 e k us m us') (k2 : CnL μ (Mut μ B H) w cs us') (k3 : Ones us') (hsrc : Src w k m2 ux vs) (hxs : CnL μ (Mut μ B H) w xs vs) (h1 : (m + m2) * bt ≤ 140737488355328) (h2 : m + m2 ≤ 1000000000)
  (hv : kk t d K (.st [i]) (.own i) ((H.map (staleO [i])).set i (.rowa e k (m + m2) ((cs ++ xs).map (stale [i] 6))))) :
  ∃ v w',(Builtin.append_ #[ty,ty] ty2 #[us,ux]).run P w = .ok v w' ∧ Sts n L B w0 m0 T.mv K (a.put d v) w':=by
 obtain ⟨v',w',r1,r2,r3,r4,r5⟩:=run_app (P:=P) (ty:=ty2) htd hsh hk k1 hsrc h1 h2
 have hw : Kept (fun b=>blk us = some b) w w':=by rw [blk_own k1]; exact Kept.of_grown r3
 have hil:=(List.getElem?_eq_some_iff.1 hi).1
 have hst:=h.move (o':=.rowa e k (m + m2) ((cs ++ xs).map (stale [i] 6))) (u':=v') ho hi hl hR r5 (fun g hg=>by
  rw [blk_own r2] at hg; rw [blk_own k1]
  rcases r4 with r4 | r4 <;> rw [r4] at hg
  ·exact .inl hg
  ·simp at hg; exact .inr (by omega)) hw ⟨us' ++ vs,r2,?_,fun v hv=>by rcases List.mem_append.1 hv with hv | hv <;> first | exact k3 v hv | exact hsrc.one v hv⟩
 ·refine ⟨v',w',r1,Sts.mk (hst.put hd (.own ?_)) hv⟩
  rw [List.getElem?_set_self hil]
 ·refine staleL_sound (fun j v hj hv=>?_) (fun b hlt hn=>⟨fun hm=>?_,hw.block b hlt fun e=>hn (.inr ⟨i,_,_,ho,hl,hi,e⟩)⟩) 6 (k2.append hxs)
  ·rw [List.getElem?_set_ne]
   ·exact hv
   ·rintro rfl; simp [isIn] at hj
  ·rcases hm with hB | ⟨j,p,v,e1,e2,e3,e4⟩
   ·exact hn (.inl hB)
   ·rcases app_get e1 with ⟨rfl,rfl,-⟩ | ⟨hne,q,hq,rfl⟩
    ·rw [List.getElem?_set_self hil] at e3; cases e3
     rw [blk_own r2] at e4
     rcases r4 with r4 | r4 <;> rw [r4] at e4
     ·exact hn (.inr ⟨_,_,_,ho,hl,hi,by rw [blk_own k1]; exact e4⟩)
     ·simp at e4; omega
    ·rw [List.getElem?_set_ne hne] at e3; rw [staleO_live] at e2; exact hn (.inr ⟨j,q,v,hq,e2,e3,e4⟩)
theorem app_new (h : St n L B w0 m0 T.mv μ t H a w) {d : Option Nat} (hd : dstOK n d = true) {ty ty2 : Nat} {td' : TD} (htd : td P ty = some td') {e k bt : Nat} {ag : Bool} {z : List Value} (hsh : td'.sh = .sc e k ag z bt) (hk : 1 ≤ k) {ux : Value} {m2 : Nat} {vs : List Value} (hsrc : Src w k m2 ux vs) (h1 : m2 * bt ≤ 140737488355328) (h2 : m2 ≤ 1000000000) {o : AO}
  (ho : ∀ μ' M' w',(∀ (i : Nat) v,μ[i]? = some v → μ'[i]? = some v) → (∀ b,b < w.heap.size → ¬ Mut μ B H b → ¬ M' b ∧ w'.heap[b]? = w.heap[b]?) → ∀ u,w'.ownsRow 0 e k u m2 vs → LieO μ' M' w' u o)
  (hv : kk t d K .no (.own H.length) (H ++ [o])) :
  ∃ v w',(Builtin.append_ #[ty,ty] ty2 #[.slice none 0 0,ux]).run P w = .ok v w' ∧ Sts n L B w0 m0 T.mv K (a.put d v) w':=by
 have k1 : w.ownsRow 0 e k (.slice none 0 0) 0 []:=World.ownsRow_nil _ _ _ _
 obtain ⟨v',w',r1,r2,r3,r4,r5⟩:=run_app (P:=P) (ty:=ty2) htd hsh hk k1 hsrc (by simpa using h1) (by simpa using h2)
 have hw0 : Kept (fun _=>False) w w':=by
  have:=Kept.of_grown r3
  exact this.mono fun x _ hx=>by simp [Value.ownBlock] at hx
 have hb : ∀ g,blk v' = some g → w.heap.size ≤ g:=fun g hg=>by
  rw [blk_own r2] at hg
  rcases r4 with r4 | r4 <;> rw [r4] at hg
  ·simp [Value.ownBlock] at hg
  ·simp at hg; omega
 rw [List.nil_append,Nat.zero_add] at r2
 have hst:=h.add (o:=o) hw0 r5 hb (ho _ _ _ app_keep (fun b hlt hn=>⟨fun hm=>?_,hw0.block b hlt id⟩) _ r2)
 ·exact ⟨v',w',r1,Sts.mk (hst.put hd (last_own h.lies.len)) hv⟩
 ·rcases mut_add h.lies.len hm with hm | ⟨-,hm⟩
  ·exact hn hm
  ·have:=hb b hm; omega
theorem app_sound (hT : TdOK P T) (h : St n L B w0 m0 T.mv μ t H a w) {tc : Option (List Nat)} {d : Option Nat} (hd : dstOK n d = true) {ty ty2 : Nat} {s x : AV} {us ux : Value} (hs : Cn μ (Mut μ B H) w s us) (hx : Cn μ (Mut μ B H) w x ux) (hv : vcApp T tc H (kk t d K) ty s x) :
  ∃ v w',(Builtin.append_ #[ty,ty] ty2 #[us,ux]).run P w = .ok v w' ∧ Sts n L B w0 m0 T.mv K (a.put d v) w':=by
 unfold vcApp at hv
 split at hv
 ·rename_i sz ag0 z0 e k ag z bt hlook
  have htd:=hT.at hlook
  have hv':=bifF.1 hv
  clear hv
  obtain ⟨hk,hv⟩:=hv'
  have hk:=Nat.le_of_ble_eq_true hk
  split at hv
  ·rename_i i
   have hv':=bifF.1 hv
   clear hv
   obtain ⟨hR,hv⟩:=hv'
   simp only [Bool.and_eq_true] at hR
   have hR:=hR.2
   cases hs with
   | own hi=>
    split at hv
    ·rename_i e' k' m cs ho
     have hv':=bifF.1 hv
     clear hv
     obtain ⟨hee,hv⟩:=hv'
     simp only [Bool.and_eq_true] at hee
     obtain rfl:=beq_of hee.1
     obtain rfl:=beq_of hee.2
     cases hq : appI H k x with
     | none=>
      rw [hq] at hv; simp only at hv
      cases hq' : appA H k x with
      | none=>rw [hq'] at hv; exact hv.elim
      | some q=>
       obtain ⟨m2,xs⟩:=q
       rw [hq'] at hv
       obtain ⟨⟨h1,h2⟩,hv⟩:=hv
       obtain ⟨vs,hsrc,hxs⟩:=appA_sound h.lies hq' hx
       obtain ⟨us',k1,k2,k3⟩:=h.lies.obj _ _ _ ho hi
       exact app_rowa h hd htd rfl hk ho rfl hi hR k1 k2.cn k3 hsrc hxs h1 h2 hv
     | some q=>
      obtain ⟨m2,xs⟩:=q
      rw [hq] at hv
      obtain ⟨⟨h1,h2⟩,hv⟩:=hv
      obtain ⟨vs,hsrc,hxs⟩:=appI_sound h.lies hk hq hx
      obtain ⟨us',k1,k2,k3⟩:=h.lies.obj _ _ _ ho hi
      obtain ⟨v',w',r1,r2,r3,r4,r5⟩:=run_app (P:=P) (ty:=ty2) htd rfl hk k1 hsrc h1 h2
      have hw : Kept (fun b=>blk us = some b) w w':=by rw [blk_own k1]; exact Kept.of_grown r3
      have hst:=h.move (o':=.row e k (m + m2) (cs ++ xs)) (u':=v') ho hi rfl hR r5 (fun g hg=>by
       rw [blk_own r2] at hg; rw [blk_own k1]
       rcases r4 with r4 | r4 <;> rw [r4] at hg
       ·exact .inl hg
       ·simp at hg; exact .inr (by omega)) hw ⟨us' ++ vs,r2,?_,fun v hv=>by rcases List.mem_append.1 hv with hv | hv <;> first | exact k3 v hv | exact hsrc.one v hv⟩
      ·refine ⟨v',w',r1,Sts.mk (hst.put hd (.own ?_)) hv⟩
       rw [List.getElem?_set_self (List.getElem?_eq_some_iff.1 hi).1]
      ·refine (k2.append hxs).keep fun b hlt hn=>⟨fun hm=>?_,hw.block b hlt fun e=>hn (.inr ⟨i,_,_,ho,rfl,hi,e⟩)⟩
       rcases hm with hB | ⟨j,p,v,e1,e2,e3,e4⟩
       ·exact hn (.inl hB)
       ·rcases app_get e1 with ⟨rfl,rfl,-⟩ | ⟨hne,q,hq,rfl⟩
        ·rw [List.getElem?_set_self (List.getElem?_eq_some_iff.1 hi).1] at e3; cases e3
         rw [blk_own r2] at e4
         rcases r4 with r4 | r4 <;> rw [r4] at e4
         ·exact hn (.inr ⟨_,_,_,ho,rfl,hi,by rw [blk_own k1]; exact e4⟩)
         ·simp at e4; omega
        ·rw [List.getElem?_set_ne hne] at e3; rw [staleO_live] at e2; exact hn (.inr ⟨j,q,v,hq,e2,e3,e4⟩)
    ·rename_i e' k' m cs ho
     have hv':=bifF.1 hv
     clear hv
     obtain ⟨hee,hv⟩:=hv'
     simp only [Bool.and_eq_true] at hee
     obtain rfl:=beq_of hee.1
     obtain rfl:=beq_of hee.2
     cases hq : appB H k x with
     | none=>rw [hq] at hv; exact hv.elim
     | some q=>
      obtain ⟨m2,xs⟩:=q
      rw [hq] at hv
      obtain ⟨⟨h1,h2⟩,hv⟩:=hv
      obtain ⟨us',k1,k2,k3⟩:=h.lies.obj _ _ _ ho hi
      unfold appB at hq
      split at hq
      ·rename_i q' hq'
       simp at hq; obtain ⟨rfl,rfl⟩:=hq
       obtain ⟨vs,hsrc,hxs⟩:=appI_sound h.lies hk hq' hx
       exact app_rowa h hd htd rfl hk ho rfl hi hR k1 k2 k3 hsrc hxs.cn h1 h2 hv
      ·obtain ⟨vs,hsrc,hxs⟩:=appA_sound h.lies hq hx
       exact app_rowa h hd htd rfl hk ho rfl hi hR k1 k2 k3 hsrc hxs h1 h2 hv
    ·exact hv.elim
  ·obtain rfl:=cn_raw hs
   cases hq : appI H k x with
   | none=>
    rw [hq] at hv; simp only at hv
    cases hq' : appA H k x with
    | none=>rw [hq'] at hv; exact hv.elim
    | some q=>
     obtain ⟨m2,xs⟩:=q
     rw [hq'] at hv
     obtain ⟨⟨h1,h2⟩,hv⟩:=hv
     obtain ⟨vs,hsrc,hxs⟩:=appA_sound h.lies hq' hx
     exact app_new (o:=.rowa e k m2 xs) h hd htd rfl hk hsrc h1 h2 (fun μ' M' w' hm hk' u hu=>⟨vs,hu,hxs.keep hm hk',hsrc.one⟩) hv
   | some q=>
    obtain ⟨m2,xs⟩:=q
    rw [hq] at hv
    obtain ⟨⟨h1,h2⟩,hv⟩:=hv
    obtain ⟨vs,hsrc,hxs⟩:=appI_sound h.lies hk hq hx
    exact app_new (o:=.row e k m2 xs) h hd htd rfl hk hsrc h1 h2 (fun μ' M' w' hm hk' u hu=>⟨vs,hu,hxs.keep hk',hsrc.one⟩) hv
  ·exact hv.elim
 ·exact hv.elim
theorem strI_ci {M : Nat → Prop} (b : ByteArray) : CiL M w (strI b) (Lib.strCells b):=by
 refine ⟨by simp [strI,Lib.strCells],fun j x v hx hv=>?_⟩
 simp only [strI,Lib.strCells] at hx hv
 obtain ⟨c,rfl,rfl⟩:=map2_at hx hv
 exact .raw _
theorem app_str_sound (hT : TdOK P T) (h : St n L B w0 m0 T.mv μ t H a w) {tc : Option (List Nat)} {d : Option Nat} (hd : dstOK n d = true) {ty ty' ty2 : Nat} {s x : AV} {us ux : Value} (hs : Cn μ (Mut μ B H) w s us) (hx : Cn μ (Mut μ B H) w x ux) (hv : vcAppS P T tc H (kk t d K) ty ty' s x) :
  ∃ v w',(Builtin.append_ #[ty,ty'] ty2 #[us,ux]).run P w = .ok v w' ∧ Sts n L B w0 m0 T.mv K (a.put d v) w':=by
 unfold vcAppS at hv
 split at hv
 ·rename_i sz ag0 z0 e ag sz' ag0' z0' b hlook hlook'
  have htd:=hT.at hlook
  have htd':=hT.at hlook'
  obtain rfl:=cn_raw hx
  have hone:=Lib.strCells_oneCell b
  split at hv
  ·rename_i i
   have hv':=bifF.1 hv
   clear hv
   obtain ⟨hR,hv⟩:=hv'
   simp only [Bool.and_eq_true] at hR
   have hR:=hR.2
   cases hs with
   | own hi=>
    split at hv
    ·rename_i e' k' m cs ho
     have hv':=bifF.1 hv
     clear hv
     obtain ⟨hee,hv⟩:=hv'
     simp only [Bool.and_eq_true] at hee
     obtain rfl:=beq_of hee.1
     obtain rfl:=beq_of hee.2
     obtain ⟨⟨h8,h2⟩,hv⟩:=hv
     obtain ⟨us',k1,k2,k3⟩:=h.lies.obj _ _ _ ho hi
     obtain ⟨v',w',r1,r2,r3,r4,r5⟩:=run_app_str (P:=P) (ty:=ty2) htd rfl htd' rfl h8 k1 h2
     have hw : Kept (fun b=>blk us = some b) w w':=by rw [blk_own k1]; exact Kept.of_grown r3
     have hil:=(List.getElem?_eq_some_iff.1 hi).1
     have hst:=h.move (o':=.row e 1 (m + b.size) (cs ++ strI b)) (u':=v') ho hi rfl hR r5 (fun g hg=>by
      rw [blk_own r2] at hg; rw [blk_own k1]
      rcases r4 with r4 | r4 <;> rw [r4] at hg
      ·exact .inl hg
      ·simp at hg; exact .inr (by omega)) hw ⟨us' ++ Lib.strCells b,r2,?_,fun v hv=>by rcases List.mem_append.1 hv with hv | hv <;> first | exact k3 v hv | exact hone v hv⟩
     ·refine ⟨v',w',r1,Sts.mk (hst.put hd (.own ?_)) hv⟩
      rw [List.getElem?_set_self hil]
     ·refine (k2.append (strI_ci b)).keep fun b' hlt hn=>⟨fun hm=>?_,hw.block b' hlt fun e=>hn (.inr ⟨i,_,_,ho,rfl,hi,e⟩)⟩
      rcases hm with hB | ⟨j,p,v,e1,e2,e3,e4⟩
      ·exact hn (.inl hB)
      ·rcases app_get e1 with ⟨rfl,rfl,-⟩ | ⟨hne,q,hq,rfl⟩
       ·rw [List.getElem?_set_self hil] at e3; cases e3
        rw [blk_own r2] at e4
        rcases r4 with r4 | r4 <;> rw [r4] at e4
        ·exact hn (.inr ⟨_,_,_,ho,rfl,hi,by rw [blk_own k1]; exact e4⟩)
        ·simp at e4; omega
       ·rw [List.getElem?_set_ne hne] at e3; rw [staleO_live] at e2; exact hn (.inr ⟨j,q,v,hq,e2,e3,e4⟩)
    ·exact hv.elim
  ·obtain rfl:=cn_raw hs
   obtain ⟨⟨h8,h2⟩,hv⟩:=hv
   have k1 : w.ownsRow 0 e 1 (.slice none 0 0) 0 []:=World.ownsRow_nil _ _ _ _
   obtain ⟨v',w',r1,r2,r3,r4,r5⟩:=run_app_str (P:=P) (ty:=ty2) htd rfl htd' rfl h8 k1 (s:=b) (by omega)
   have hw0 : Kept (fun _=>False) w w':=by
    have:=Kept.of_grown r3
    exact this.mono fun x _ hx=>by simp [Value.ownBlock] at hx
   have hb : ∀ g,blk v' = some g → w.heap.size ≤ g:=fun g hg=>by
    rw [blk_own r2] at hg
    rcases r4 with r4 | r4 <;> rw [r4] at hg
    ·simp [Value.ownBlock] at hg
    ·simp at hg; omega
   rw [List.nil_append,Nat.zero_add] at r2
   have hst:=h.add (o:=.row e 1 b.size (strI b)) hw0 r5 hb ⟨_,r2,strI_ci b,hone⟩
   exact ⟨v',w',r1,Sts.mk (hst.put hd (last_own h.lies.len)) hv⟩
  ·exact hv.elim
 ·exact hv.elim
theorem kept_freeze (w : World) (g o m : Nat) : Kept (fun b=>b = g) w (w.freeze ⟨g,o,none⟩ m):=by
 unfold World.freeze
 split
 ·exact Kept.refl _ w
 ·exact ⟨rfl,rfl,rfl,by simp,fun k _ hn=>by
   simp only [Array.getElem?_modify]
   rw [if_neg (fun e=>hn e.symm)]⟩
theorem strI_vs {M : Nat → Prop} {b : ByteArray} {vs : List Value} (h : CiL M w (strI b) vs) : vs = Lib.strCells b:=by
 have hl : (Lib.strCells b).length = (strI b).length:=by simp [strI,Lib.strCells]
 apply List.ext_getElem?
 intro j
 by_cases hj : j < (strI b).length
 ·obtain ⟨v,h1,h2⟩:=h.at (List.getElem?_eq_getElem hj)
  obtain ⟨v',h3,h4⟩:=(strI_ci (w:=w) (M:=M) b).at (List.getElem?_eq_getElem hj)
  rw [h1,h3]
  have : (strI b)[j] = .raw (.int .u8 (b.data.toList[j]'(by simpa [strI] using hj)).toNat):=by simp [strI]
  rw [this] at h2 h4
  cases h2; cases h4; rfl
 ·rw [List.getElem?_eq_none (by have:=h.1; omega),List.getElem?_eq_none (by omega)]
theorem text_sound (hT : TdOK P T) (h : St n L B w0 m0 T.mv μ t H a w) {tc : Option (List Nat)} {d : Option Nat} (hd : dstOK n d = true) {pt it ty : Nat} {p l : AV} {up ul : Value} (hp : Cn μ (Mut μ B H) w p up) (hl : Cn μ (Mut μ B H) w l ul) (hv : vcText P H (kk t d K) tc pt p l) :
  ∃ v w',(Builtin.unsafeString_ #[pt,it] ty #[up,ul]).run P w = .ok v w' ∧ Sts n L B w0 m0 T.mv K (a.put d v) w':=by
 unfold vcText at hv
 split at hv
 ·rename_i i n'
  obtain rfl:=cn_raw hl
  split at hv
  ·rename_i e m cs ho
   have hv':=bifF.1 hv
   clear hv
   obtain ⟨-,⟨h1,h2,rfl,h3⟩,hv⟩:=hv'
   obtain ⟨b,rfl,hv2⟩:=hv.out
   cases hp with
   | @ref _ _ g u hi hbk=>
    obtain ⟨vs,k1,k2,k3⟩:=h.lies.obj _ _ _ ho hi
    have hvs:=strI_vs k2
    rcases k1.2 with ⟨rfl,-⟩ | ⟨g',cap,cur,rfl,q1,q2,q3,q4,q5,q6⟩
    ·simp [blk] at hbk
    ·simp [blk] at hbk; subst hbk
     have hcs:=k1.cells (g:=g') rfl
     have hnl : b.data.toList.length = m:=by have:=k1.1; rw [hvs] at this; simpa [Lib.strCells] using this
     have hr:=Lib.run_unsafeString_row (P:=P) w pt it ty e h1 h2 g' cur.size (by simp [World.shape?,q2]) b.data.toList (by intro e; rw [e] at hnl; simp at hnl; omega) (by rw [hnl]; omega) (by unfold maxLen at q4; omega) (fun j x hj=>hcs j _ (by rw [hvs]; simp [Lib.strCells,List.getElem?_map,hj]))
     rw [hnl] at hr
     refine ⟨_,_,hr,Sts.mk ((h.updD (o':=.dead) ho hi rfl rfl (kept_freeze w g' 0 m) trivial).put hd (.im (.raw _))) ?_⟩
     have : (⟨b.data.toList.toArray⟩ : ByteArray) = b:=by cases b; simp
     rw [this]; exact hv2
  ·exact hv.elim
 ·exact hv.elim
theorem copy_sound (hT : TdOK P T) (h : St n L B w0 m0 T.mv μ t H a w) {tc : Option (List Nat)} {d : Option Nat} (hd : dstOK n d = true) {ty ty2 : Nat} {s x : AV} {us ux : Value} (hs : Cn μ (Mut μ B H) w s us) (hx : Cn μ (Mut μ B H) w x ux) (hv : vcCopy T tc H (kk t d K) ty s x) :
  ∃ v w',(Builtin.copy_ #[ty,ty] ty2 #[us,ux]).run P w = .ok v w' ∧ Sts n L B w0 m0 T.mv K (a.put d v) w':=by
 unfold vcCopy at hv
 split at hv
 ·rename_i sz ag0 z0 e k ag z bt hlook
  obtain ⟨g0,ii,zv,g1,g2,g3,g4,g5,g6,g7,g8,g9⟩:=sc_parts (hT.at hlook) rfl
  split at hv
  ·rename_i i
   have hv':=bifF.1 hv
   clear hv
   obtain ⟨hk,hv⟩:=hv'
   simp only [Bool.and_eq_true] at hk
   have hk1:=Nat.le_of_ble_eq_true hk.1
   cases hs with
   | own hi=>
    split at hv
    ·rename_i e' k' m cs ho
     have hv':=bifF.1 hv
     clear hv
     obtain ⟨hkk,hv⟩:=hv'
     obtain rfl:=beq_of hkk
     cases hq : appI H k x with
     | none=>rw [hq] at hv; exact hv.elim
     | some q=>
      obtain ⟨m2,xs⟩:=q
      rw [hq] at hv
      obtain ⟨h1,hv⟩:=hv
      simp only at h1 hv
      obtain ⟨vs,hsrc,hxs⟩:=appI_sound h.lies hk1 hq hx
      obtain ⟨us',k1,k2,k3⟩:=h.lies.obj _ _ _ ho hi
      obtain ⟨s1,s2,ao,c,rfl,s3,s4⟩:=hsrc
      have hmin : Nat.min m2 m = m2:=Nat.min_eq_left h1
      have first : (Builtin.firstCells k m2 (.slice ao m2 c)).run P w = .ok vs.toArray w:=by
       cases ao with
       | none=>rw [s3 rfl]; rfl
       | some ad=>
        have:=run_loadCells_list (P:=P) w ad vs (s4 ad rfl)
        show (loadCells ad (m2 * k)).run P w = _
        rw [← s1]; exact this
      rcases k1.2 with ⟨rfl,rfl⟩ | ⟨g,cap,cur,rfl,c1,c2,c3,c4,c5,c6⟩
      ·have : m2 = 0:=by omega
       subst this
       have hvs : vs = []:=List.length_eq_zero_iff.1 (by simpa using s1)
       subst hvs
       have hxs0 : xs = []:=List.length_eq_zero_iff.1 (by simpa using hxs.1.symm)
       subst hxs0
       have hset : H.set i (.row e' k 0 (putAt cs 0 [])) = H:=by
        simp only [putAt]
        apply List.ext_getElem?
        intro j
        by_cases hj : i = j
        ·subst hj; rw [List.getElem?_set_self (List.getElem?_eq_some_iff.1 ho).1,ho]
        ·rw [List.getElem?_set_ne hj]
       rw [hset] at hv
       refine ⟨.int .i64 0,w,?_,Sts.mk (h.put hd (.im (.raw _))) hv⟩
       have first:=first
       simp [Builtin.copy_,run_und g0,run_size g1,Builtin.lenOf,g5,first,goInt]
      ·have hcur : cur.toList.toArray = cur:=by simp
       have hle : 0 + vs.length ≤ m * k:=by rw [s1,Nat.zero_add]; exact Nat.mul_le_mul_right _ h1
       have hcl : m * k ≤ cur.toList.length:=by
        have:=Nat.mul_le_mul_right k c3
        simp [c5]; omega
       have hw:=kept_setRow w g (putAt cur.toList 0 vs).toArray
       have hrun:=run_storeCells_at P g 0 e' vs 0 cur w c2 (by simp at hcl; omega) s2
       simp only [Nat.add_zero] at hrun
       refine ⟨.int .i64 m2,_,?_,Sts.mk ((h.upd (o':=.row e' k m (putAt cs 0 xs)) ho hi rfl rfl rfl hw ⟨putAt us' 0 vs,⟨?_,.inr ⟨g,cap,(putAt cur.toList 0 vs).toArray,rfl,c1,?_,c3,c4,?_,?_⟩⟩,?_,?_⟩).put hd (.im (.raw _))) hv⟩
       ·rw [putAt_eq _ _ _ (by simp at hcl ⊢; omega)]
        simp [Builtin.copy_,run_und g0,run_size g1,Builtin.lenOf,g5,hmin,first,hrun,goInt]
       ·rw [putAt_len]; exact k1.1
       ·exact setRow_heap w g _ _ e' (0,0) c2
       ·simp [putAt_len,c5]
       ·rw [← c6]; exact take_putAt _ _ _ _ hle hcl
       ·have hxl : xs.length = vs.length:=hxs.1.symm
        exact (k2.put hxs (by have:=k2.1; have:=k1.1; omega)).keep (mut_keep (.inr ⟨i,_,_,ho,rfl,hi,rfl⟩) hw)
       ·exact k3.put s2 (by have:=k1.1; omega)
    ·exact hv.elim
  ·exact hv.elim
 ·exact hv.elim
theorem any_cn {M : Nat → Prop} (vs : List Value) (m : Nat) (h : vs.length = m) : CnL μ M w (List.replicate m (.im .any)) vs:=
 ⟨by simp [h],fun j x v a b=>by
  have:=List.mem_of_getElem? a
  simp at this; rw [this.2]; exact .im (.any _)⟩
theorem fillA_len {place : Nat → Option (Nat × Nat)} : ∀ {ps : List (Nat × AV)} {cs cs' : List AV},fillA place cs ps = some cs' → cs'.length = cs.length
 | [],cs,cs',h=>by simp [fillA] at h; subst h; rfl
 | (i,x) :: ps,cs,cs',h=>by
  simp only [fillA] at h
  split at h
  ·rename_i o k l _ _
   cases hb : Nat.beq l.length k && Nat.ble (o + k) cs.length with
   | false=>rw [hb] at h; cases h
   | true=>rw [hb] at h; rw [fillA_len h,putAt_len]
  ·cases h
theorem toList_range_map (n : Nat) (f : Nat → Value) : ((Array.range n).map f).toList = (List.range n).map f:=by simp
theorem vcE_sound (hT : TdOK P T) (h : St n L B w0 m0 T.mv μ t H a w) {tc : Option (List Nat)} {o : Oper} (hd : dstOK n o.dst = true) (hv : vcE P T tc (ev t) H (kk t o.dst K) o.op) : o.wp P a w (Sts n L B w0 m0 T.mv K) Q:=by
 obtain ⟨dst,op,type,pos,after,guard⟩:=o
 simp only at hd hv
 cases op <;> simp only [vcE] at hv <;> try (exact hv.elim)
 case pick c x y=>
  have hc:=h.ev c
  split at hv
  ·rename_i b e
   rw [e] at hc
   have hc:=cn_raw hc
   cases b with
   | true=>exact upon_value (v:=a.eval x) (w':=w) (by simp [execOp,hc,asBool]) (Sts.mk (h.put hd (h.ev x)) ((force_eq _ _).mp (hv.1 rfl)))
   | false=>exact upon_value (v:=a.eval y) (w':=w) (by simp [execOp,hc,asBool]) (Sts.mk (h.put hd (h.ev y)) ((force_eq _ _).mp (hv.2 rfl)))
  ·exact hv.elim
 case alloc e=>
  cases hl : look T e with
  | none=>rw [hl] at hv; exact hv.elim
  | some d=>
   rw [hl] at hv
   obtain ⟨i,z,h1,h2,h3,h4,h5,h6,h7,h8,h9⟩:=td_parts (hT.at hl)
   have hst:=h.box (e:=e) (cs:=d.zero.map fun z=>.im (.raw z)) (vs:=d.zero) (zero_cn _) h9
   refine upon_value (v:=.pointer (some ⟨w.heap.size,0,none⟩)) (w':=w.alloc (.cells d.zero.toArray e)) ?_ (Sts.mk (hst.put hd (last_ref h.lies.len rfl 0)) hv)
   have : z.cells = d.zero.toArray:=by rw [← h4]
   simp [execOp,Instr.alloc,run_zero h1 h2,newVar,newRow,newObj,Sem.run,this]
 case box e x=>
  cases hc : cellA (ev t x) with
  | none=>rw [hc] at hv; exact hv.elim
  | some cs=>
   rw [hc] at hv
   obtain ⟨c1,c2⟩:=cellA_sound h.lies hc (h.ev x)
   have hst:=h.box (e:=e) c1 c2
   refine upon_value (v:=.pointer (some ⟨w.heap.size,0,none⟩)) (w':=w.alloc (.cells (a.eval x).cells.toList.toArray e)) ?_ (Sts.mk (hst.put hd (last_ref h.lies.len rfl 0)) hv)
   simp [execOp,Instr.box,newVar,newRow,newObj,Sem.run]
 case store ty ad x=>
  cases hl : look T ty with
  | none=>rw [hl] at hv; exact hv.elim
  | some d=>
   rw [hl] at hv
   obtain ⟨w',r1,r2⟩:=store_sound (P:=P) h (hT.at hl) (h.ev ad) (h.ev x) hd hv
   exact upon_skip' (w':=w') (by simp [execOp,r1]) r2
 case buildSlice ty m ps=>
  split at hv
  ·rename_i sz ag0 z0 e k ag z bt hlook
   have hv':=bifF.1 hv
   clear hv
   obtain ⟨hmm,hv⟩:=hv'
   simp only [Bool.and_eq_true] at hmm
   have hm:=Nat.le_of_ble_eq_true hmm.1
   have hle:=Nat.le_of_ble_eq_true hmm.2
   obtain ⟨g0,i,zv,g1,g2,g3,g4,rfl,g6,g7,g8,g9⟩:=sc_parts (hT.at hlook) rfl
   cases hf : fillA (fun j=>some (j * i.size,i.size)) (List.replicate (m * i.size) (.im .any)) (ps.toList.map fun p=>(p.1,ev t p.2)) with
   | none=>rw [hf] at hv; exact hv.elim
   | some cs=>
    rw [hf] at hv
    have hz : ∀ zz : Array Value,(m * i.size ≠ 0 → zz = zv.cells) → Ones ((Array.range (m * i.size)).map (zz[· % zz.size]!)).toList:=by
     intro zz hzz v hv
     rw [toList_range_map] at hv
     simp only [List.mem_map,List.mem_range] at hv
     obtain ⟨j,hj,rfl⟩:=hv
     have hne : m * i.size ≠ 0:=by omega
     have h0 : 0 < i.size:=by rcases Nat.eq_zero_or_pos i.size with h | h; rw [h] at hne; simp at hne; exact h
     rw [hzz hne,g3]
     have hlt : j % i.size < zv.cells.size:=by rw [g3]; exact Nat.mod_lt _ h0
     rw [getElem!_pos zv.cells _ hlt]
     refine g8 _ ?_
     rw [← g4]; simp
    have key : ∀ zz : Array Value,(m * i.size ≠ 0 → zz = zv.cells) → ∃ vs' : Array Value,Instr.fill (fun j=>some (j * i.size,i.size)) ((Array.range (m * i.size)).map (zz[· % zz.size]!)) ((ps.map fun (j,x)=>(j,a.eval x)).toList) = some vs' ∧ CnL μ (Mut μ B H) w cs vs'.toList ∧ Ones vs'.toList:=by
     intro zz hzz
     refine fillA_sound h.lies _ _ _ ((Array.range (m * i.size)).map (zz[· % zz.size]!)) ?_ ?_ (any_cn _ _ (by simp)) (hz zz hzz) hf
     ·simp [Function.comp_def]
     ·intro j p q x y
      simp only [Array.toList_map] at y
      obtain ⟨c,rfl,rfl⟩:=map2_at x y
      exact h.ev _
    by_cases h0 : m * i.size = 0
    ·obtain ⟨vs',f1,f2,f3⟩:=key #[] (fun h=>(h h0).elim)
     have hlen : vs'.toList.length = m * i.size:=by rw [f2.1]; have:=fillA_len hf; simpa using this
     have hst:=h.newRow (e:=e) (k:=i.size) (m:=m) hlen (by unfold maxLen; omega) f3 (rowOf_lie f2 f3)
     refine upon_value (v:=.slice (some ⟨w.heap.size,0,none⟩) m m) (w':=w.alloc (.cells vs'.toList.toArray e)) ?_ (Sts.mk (hst.put hd (last_own h.lies.len)) hv)
     simp only [Array.toList_map] at f1
     simp [h0] at f1
     simp [execOp,Instr.buildSlice,run_und g0,run_size g1,h0,newRow,newObj,Sem.run,f1]
    ·obtain ⟨vs',f1,f2,f3⟩:=key zv.cells (fun _=>rfl)
     have hlen : vs'.toList.length = m * i.size:=by rw [f2.1]; have:=fillA_len hf; simpa using this
     have hst:=h.newRow (e:=e) (k:=i.size) (m:=m) hlen (by unfold maxLen; omega) f3 (rowOf_lie f2 f3)
     refine upon_value (v:=.slice (some ⟨w.heap.size,0,none⟩) m m) (w':=w.alloc (.cells vs'.toList.toArray e)) ?_ (Sts.mk (hst.put hd (last_own h.lies.len)) hv)
     simp only [Array.toList_map] at f1
     have : ¬ (16777216 < m * i.size):=by omega
     simp [execOp,Instr.buildSlice,run_und g0,run_size g1,h0,run_zero g1 g2,newRow,newObj,Sem.run,f1,this]
  ·exact hv.elim
 case makeSlice ty l c=>
  have hl:=h.ev l
  have hc:=h.ev c
  split at hv
  ·rename_i sz ag0 z0 e k ag z bt k1 l' k2 c' hlook e1 e2
   rw [e1] at hl; rw [e2] at hc
   have hl:=cn_raw hl
   have hc:=cn_raw hc
   have hv':=bifF.1 hv
   clear hv
   obtain ⟨hkb,hv⟩:=hv'
   simp only [Bool.and_eq_true] at hkb
   obtain rfl:=beq_of hkb.1
   have b2:=Nat.le_of_ble_eq_true hkb.2
   obtain ⟨⟨rfl,b0,b1⟩,hv⟩:=hv
   obtain ⟨g0,i,zv,g1,g2,g3,g4,g5,g6,g7,g8,g9⟩:=sc_parts (hT.at hlook) rfl
   obtain ⟨m,rfl⟩ : ∃ m : Nat,l' = m:=⟨l'.toNat,by omega⟩
   have hzc : zv.cells = #[z]:=by rw [← Array.toArray_toList (xs:=zv.cells),g4]
   have hst:=h.newRow (e:=e) (k:=1) (m:=m) (o:=.row e 1 m (List.replicate m (.raw z))) (vs:=List.replicate m z) (by simp) (by unfold maxLen; omega)
    (fun v hv=>by simp at hv; rw [hv.2]; exact g8 z (by simp))
    (fun μ' M' w' hm hk u hu=>⟨_,hu,⟨by simp,fun j x v a b=>by
     have h1:=List.mem_of_getElem? a
     have h2:=List.mem_of_getElem? b
     simp at h1 h2; rw [h1.2,h2.2]; exact .raw _⟩,fun v hv=>by simp at hv; rw [hv.2]; exact g8 z (by simp)⟩)
   have hw : IntKind.i64.wrap (m : Int) = m:=IntWalk.i64_in _ (by omega)
   refine upon_value (v:=.slice (some ⟨w.heap.size,0,none⟩) m m) (w':=w.alloc (.cells (List.replicate m z).toArray e)) ?_ (Sts.mk (hst.put hd (last_own h.lies.len)) (by rw [Int.toNat_natCast] at hv; exact hv))
   have hby : (i.bytes : Int) * m ≤ 2 ^ 48:=by
    have h1 : i.bytes * m ≤ 64 * 1000000000:=Nat.mul_le_mul (by omega) (by omega)
    have h2 : ((i.bytes * m : Nat) : Int) ≤ 64 * 1000000000:=by omega
    rw [Int.natCast_mul] at h2
    exact Int.le_trans h2 (by decide)
   have hby2 : ¬ ((i.bytes : Int) * m > 2 ^ 48):=by omega
   have hroom : ¬ (m * i.bytes > roomBytes):=by
    have h1 : m * i.bytes ≤ 1000000000 * 64:=Nat.mul_le_mul (by omega) (by omega)
    have : roomBytes = 140737488355328:=rfl
    omega
   have hm0 : ¬ ((m : Int) < 0):=by omega
   have harr : (Array.range m).map (fun _=>z) = (List.replicate m z).toArray:=by
    apply Array.ext'
    rw [toList_range_map]
    apply List.ext_getElem?
    intro j
    simp only [List.getElem?_map,List.getElem?_replicate]
    by_cases hj : j < m
    ·rw [List.getElem?_range hj]; simp [hj]
    ·rw [List.getElem?_eq_none (by simpa using hj)]; simp [hj]
   have hby3 : ¬ (281474976710656 < (i.bytes : Int) * m):=by
    have : (2 ^ 48 : Int) = 281474976710656:=by decide
    omega
   by_cases h0 : m = 0
   ·subst h0
    have hw0 : IntKind.i64.wrap 0 = 0:=rfl
    simp [execOp,Instr.makeSlice,run_und g0,hl,hc,asInt,asIntOf,run_info g1,run_size g1,g5,hw0,askRoom,newRow,newObj,Sem.run]
    congr 2; apply Array.ext'; rw [toList_range_map]; rfl
   ·simp [execOp,Instr.makeSlice,run_und g0,hl,hc,asInt,asIntOf,run_info g1,run_size g1,g5,hw,askRoom,newRow,newObj,Sem.run,run_zero g1 g2,hzc,hby3,hm0,hroom,h0,Nat.mod_one]
    rw [harr]; congr 2
  ·exact hv.elim
 case makeMap ty rv=>
  cases rv with
  | some r=>exact hv.elim
  | none=>
   simp only at hv
   split at hv
   ·rename_i hlook
    have hst:=h.add (o:=.mp []) (u:=.map (some w.heap.size)) (Kept.alloc _ _ (.map #[] 0)) rfl (fun g hg=>by simp [blk] at hg; omega)
     ⟨w.heap.size,[],0,rfl,heap_new w _,rfl,fun j p m a b=>by simp at a⟩
    refine upon_value (v:=.map (some w.heap.size)) (w':=w.alloc (.map #[] 0)) ?_ (Sts.mk (hst.put hd (last_own h.lies.len)) hv)
    simp [execOp,Instr.makeMap,newObj,Sem.run]
   ·exact hv.elim
 case mapUpdate ty m k x=>
  have hm:=h.ev m
  have hk:=h.ev k
  split at hv
  ·rename_i sz ag0 z0 ag z i s hlook e1 e2
   rw [e1] at hm; rw [e2] at hk
   have hk:=cn_raw hk
   have hv':=bifF.1 hv
   clear hv
   obtain ⟨-,hv⟩:=hv'
   split at hv
   ·rename_i es ho
    cases hm with
    | own hu=>
     obtain ⟨r,w',hur,r1,r2,r3⟩:=update_sound (P:=P) h.lies (hT.at hlook) rfl hu ho s (h.ev x)
     refine upon_skip' (w':=w') (by simp [execOp,hk,r1]) (Sts.mk ((h.upd (o':=.mp (updA s (ev t x) es)) ho hu (by rw [hur]; rfl) rfl rfl r2 r3).put hd (.im (.any _))) hv)
   ·exact hv.elim
  ·exact hv.elim
 case call c=>
  split at hv
  ·rename_i fo hcal
   split at hv
   ·rename_i f xs hx
    exact call_sound h hcal rfl hd hx hv
   ·exact hv.elim
  ·rename_i hcal
   split at hv
   ·rename_i s x ty ty' e1 e2
    have key : ∃ v w',(Builtin.append_ #[ty,ty'] type #[a.eval s,a.eval x]).run P w = .ok v w' ∧ Sts n L B w0 m0 T.mv K (a.put dst v) w':=by
     cases hty : Nat.beq ty ty' with
     | true=>
      rw [hty] at hv
      obtain rfl:=beq_of hty
      exact app_sound (P:=P) (ty2:=type) hT h hd (h.ev s) (h.ev x) hv
     | false=>
      rw [hty] at hv
      exact app_str_sound (P:=P) (ty2:=type) hT h hd (h.ev s) (h.ev x) hv
    obtain ⟨v,w',r1,r2⟩:=key
    refine upon_value (v:=v) (w':=w') ?_ r2
    obtain ⟨cal,args,tys⟩:=c
    simp only at hcal e1 e2
    subst hcal e1 e2
    simp [execOp,resolve,invoke,builtin,r1]
   ·exact hv.elim
  ·rename_i hcal
   split at hv
   ·rename_i s x ty ty' e1 e2
    have hv':=bifF.1 hv
    clear hv
    obtain ⟨hty,hv⟩:=hv'
    obtain rfl:=beq_of hty
    obtain ⟨v,w',r1,r2⟩:=copy_sound (P:=P) (ty2:=type) hT h hd (h.ev s) (h.ev x) hv
    refine upon_value (v:=v) (w':=w') ?_ r2
    obtain ⟨cal,args,tys⟩:=c
    simp only at hcal e1 e2
    subst hcal e1 e2
    simp [execOp,resolve,invoke,builtin,r1]
   ·exact hv.elim
  ·rename_i hcal
   split at hv
   ·rename_i p l pt it e1 e2
    obtain ⟨v,w',r1,r2⟩:=text_sound (P:=P) (it:=it) (ty:=type) hT h hd (h.ev p) (h.ev l) hv
    refine upon_value (v:=v) (w':=w') ?_ r2
    obtain ⟨cal,args,tys⟩:=c
    simp only at hcal e1 e2
    subst hcal e1 e2
    simp [execOp,resolve,invoke,builtin,r1]
   ·exact hv.elim
  ·exact hv.elim
end
def isQ : Op → Bool
 | .move _ | .assign _ | .load _ _ | .fieldAddr _ _ _ | .field _ _ _ | .indexAddr _ _ _ | .index _ _ _ | .binOp _ _ _ _ _ | .unOp _ _ _ | .convert _ _ _ | .extract _ _ | .build _ _ | .makeFunc _ _ _ | .nilCheck _=>true
 | .slice _ _ _ _ m=>m.isNone
 | .lookup _ _ _ b=>b
 | .call c=>match c.callee with
  | .builtin .len=>true
  | .builtin .max=>true
  | .builtin .min=>true
  | .builtin .unsafeSliceData=>true
  | _=>false
 | _=>false
def vcO (P : Program) (T : TT) (fb : List Nat) (tc : Option (List Nat)) (t : Nat → AV) (H : List AO) (o : Oper) (K : (Nat → AV) → List AO → Prop) : Prop:=
 bif isQ o.op then vcQ (qv T (ev t) H fb o.op) (fun x=>K (put t o.dst x) H) else vcE P T tc (ev t) H (kk t o.dst K) o.op
def vcG (P : Program) (T : TT) (ops : Array Oper) (fb : List Nat) (tc : Option (List Nat)) (t : Nat → AV) (H : List AO) (o : Oper) (K : (Nat → AV) → List AO → Prop) : Prop:=
 match o.guard with
 | none=>vcO P T fb tc t H o K
 | some (g,want)=>match (ops[g]?).bind (·.dst) with
  | some d=>match t d with
   | .im (.raw (.bool b))=>(b = want → vcO P T fb tc t H o K) ∧ (b = !want → K (put t o.dst (.im (.raw undef))) H)
   | .im (.raw (.tuple _))=>K (put t o.dst (.im (.raw undef))) H
   | _=>False
  | none=>False
def vcL (P : Program) (T : TT) (ops : Array Oper) : List Oper → (Nat → AV) → List AO → ((Nat → AV) → List AO → Prop) → Prop
 | [],t,H,K=>K t H
 | o :: l,t,H,K=>vcG P T ops [] none t H o fun t H=>vcL P T ops l t H K
def dstsOK (n : Nat) (l : List Oper) : Bool:=l.all fun o=>dstOK n o.dst
section
variable {P : Program} {T : TT} {n : Nat} {L B : Nat → Prop} {w0 : World} {m0 : List Value} {μ : List Value} {t : Nat → AV} {H : List AO} {a : Act} {w : World} {Q : Exit → Act → World → Prop} {K : (Nat → AV) → List AO → Prop}
theorem vcO_sound (hT : TdOK P T) (h : St n L B w0 m0 T.mv μ t H a w) {fb : List Nat} {tc : Option (List Nat)} {o : Oper} (hd : dstOK n o.dst = true) (hv : vcO P T fb tc t H o K) : o.wp P a w (Sts n L B w0 m0 T.mv K) Q:=by
 unfold vcO at hv
 cases hq : isQ o.op with
 | true=>
  rw [hq] at hv; simp only [cond_true] at hv
  obtain ⟨x,hx,hk⟩:=vcQ_iff.1 hv
  obtain ⟨v,r1,r2⟩:=qv_sound (P:=P) hT h.lies h.ev o hx
  exact upon_value r1 (Sts.mk (h.put hd r2) hk)
 | false=>
  rw [hq] at hv; simp only [cond_false] at hv
  exact vcE_sound hT h hd hv
theorem vcG_sound (hT : TdOK P T) (h : St n L B w0 m0 T.mv μ t H a w) {ops : Array Oper} {fb : List Nat} {tc : Option (List Nat)} {o : Oper} (hd : dstOK n o.dst = true) (hv : vcG P T ops fb tc t H o K) :
  if Region.wanted o (yielded ops a.tmps) = true then o.wp P a w (Sts n L B w0 m0 T.mv K) Q else Sts n L B w0 m0 T.mv K (a.put o.dst undef) w:=by
 unfold vcG at hv
 split at hv
 ·rename_i hg
  rw [if_pos (by simp [Region.wanted,hg])]
  exact vcO_sound hT h hd hv
 ·rename_i g want hg
  split at hv
  ·rename_i d hdst
   split at hv
   ·rename_i b hb
    have hy : yielded ops a.tmps g = some b:=by
     have:=h.tm d
     rw [hb] at this
     have:=cn_raw this
     unfold yielded
     rw [hdst]
     simp only [Array.getD_eq_getD_getElem?] at this
     cases he : a.tmps[d]? with
     | none=>rw [he] at this; cases this
     | some v=>rw [he] at this; simp at this; subst this; simp [he]
    by_cases hbw : b = want
    ·rw [if_pos (by simp [Region.wanted,hg,hy,hbw])]
     exact vcO_sound hT h hd (hv.1 hbw)
    ·rw [if_neg (by simp [Region.wanted,hg,hy,hbw])]
     exact Sts.mk (h.put hd (.im (.raw _))) (hv.2 (by cases b <;> cases want <;> simp_all))
   ·rename_i vs hb
    have hy : yielded ops a.tmps g = none:=by
     have:=h.tm d
     rw [hb] at this
     have:=cn_raw this
     unfold yielded
     rw [hdst]
     simp only [Array.getD_eq_getD_getElem?] at this
     cases he : a.tmps[d]? with
     | none=>simp [he]
     | some v=>rw [he] at this; simp at this; subst this; simp [he]
    rw [if_neg (by simp [Region.wanted,hg,hy])]
    exact Sts.mk (h.put hd (.im (.raw _))) hv
   ·exact hv.elim
  ·exact hv.elim
theorem vcL_sound (hT : TdOK P T) {ops : Array Oper} : ∀ (l : List Oper) {μ : List Value} {t : Nat → AV} {H : List AO} {a : Act} {w : World},St n L B w0 m0 T.mv μ t H a w → dstsOK n l = true → vcL P T ops l t H K →
  (∀ a w,Sts n L B w0 m0 T.mv K a w → Q .normal a w) → wpList P ops Q l a w
 | [],_,_,_,_,_,h,_,hv,hQ=>hQ _ _ (Sts.mk h hv)
 | o :: l,μ,t,H,a,w,h,hd,hv,hQ=>by
  simp only [dstsOK,List.all_cons,Bool.and_eq_true] at hd
  have:=vcG_sound (Q:=Q) hT h hd.1 hv
  unfold wpList
  have step : ∀ a w,Sts n L B w0 m0 T.mv (fun t H=>vcL P T ops l t H K) a w → wpList P ops Q l a w:=fun a w ⟨μ,t,H,hk,h⟩=>vcL_sound hT l h hd.2 hk hQ
  split
  ·rename_i hw; rw [if_pos hw] at this; exact .inl (Oper.wp_mono step this)
  ·rename_i hw; rw [if_neg hw] at this; exact step _ _ this
end
end Go.Proofs.YtlhmaljjdpjkgaaGreatDoor
