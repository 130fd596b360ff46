/- A region that draws its order: one order is enough. -/
import Derived.Deep.LoopGhost
import Derived.Test.YtlhmaljjdpjkgaaGreatDoorTaM5
namespace Go.Proofs.YtlhmaljjdpjkgaaGreatDoor
open Go Go.RowKit
abbrev Ann:=Nat → List Nat × Option (List Nat)
section
variable {P : Program} {T : TT}
theorem orF_mono {α : Type} {o : Option α} {K K' : α → Prop} (hk : ∀ x,K x → K' x) (h : orF o K) : orF o K':=by
 cases o with
 | none=>exact h
 | some x=>exact hk x h
theorem vcQ_mono {q : QR} {K K' : AV → Prop} (hk : ∀ x,K x → K' x) (h : vcQ q K) : vcQ q K':=by
 obtain ⟨x,h1,h2⟩:=vcQ_iff.1 h
 exact vcQ_iff.2 ⟨x,h1,hk x h2⟩
theorem callsP_mono {tc : Option (List Nat)} {f : Nat} {xs : List AV} {H : List AO} {c c' : Mv → AV → List AO → Prop} (hc : ∀ ks x H',c ks x H' → c' ks x H') (h : callsP P T tc f xs H c) : callsP P T tc f xs H c':=by
 rcases h.out with ⟨ks,ivs,h1,h2,⟨Q,h3,h4⟩ | ⟨e,m,Q,h3,h4⟩⟩ | ⟨g,m,mv,R,Q,h0,h1,h2,h3,h4⟩
 ·exact ⟨.inl ⟨ks,ivs,h1,h2,.inl ⟨Q,h3,fun r hr=>hc _ _ _ (h4 r hr)⟩⟩⟩
 ·exact ⟨.inl ⟨ks,ivs,h1,h2,.inr ⟨e,m,Q,h3,fun n us hr=>hc _ _ _ (h4 n us hr)⟩⟩⟩
 ·exact ⟨.inr ⟨g,m,mv,R,Q,h0,h1,h2,h3,fun x H' hq=>⟨(h4 x H' hq).1,hc _ _ _ (h4 x H' hq).2⟩⟩⟩
theorem bif_mono {b : Bool} {p q : Prop} (h : p → q) (hp : bif b then p else False) : bif b then q else False:=by cases b <;> simp_all
theorem vcStore_mono {tc : Option (List Nat)} {H : List AO} {c c' : Mv → AV → List AO → Prop} (hc : ∀ ks x H',c ks x H' → c' ks x H') {d : TD} {a x : AV} (h : vcStore tc H c d a x) : vcStore tc H c' d a x:=by
 unfold vcStore at *
 split at h
 ·refine orF_mono (fun xs hx=>bif_mono (fun hx=>?_) hx) h
  split at hx
  ·exact bif_mono (fun h=>hc _ _ _ h) hx
  ·exact orF_mono (fun ys hy=>⟨hy.1,hc _ _ _ hy.2⟩) hx
  ·exact ⟨hx.1,hc _ _ _ hx.2⟩
  ·exact hx.elim
 ·exact h.elim
theorem vcApp_mono {tc : Option (List Nat)} {H : List AO} {c c' : Mv → AV → List AO → Prop} (hc : ∀ ks x H',c ks x H' → c' ks x H') {ty : Nat} {s x : AV} (h : vcApp T tc H c ty s x) : vcApp T tc H c' ty s x:=by
 unfold vcApp at *
 split at h
 ·refine bif_mono (fun h=>?_) h
  split at h
  ·refine bif_mono (fun h=>?_) h
   split at h
   ·refine bif_mono (fun h=>?_) h
    split at h
    ·exact ⟨h.1,hc _ _ _ h.2⟩
    ·exact orF_mono (fun q hq=>⟨hq.1,hc _ _ _ hq.2⟩) h
   ·exact bif_mono (fun h=>orF_mono (fun q hq=>⟨hq.1,hc _ _ _ hq.2⟩) h) h
   ·exact h.elim
  ·split at h
   ·exact ⟨h.1,hc _ _ _ h.2⟩
   ·exact orF_mono (fun q hq=>⟨hq.1,hc _ _ _ hq.2⟩) h
  ·exact h.elim
 ·exact h.elim
theorem vcCopy_mono {tc : Option (List Nat)} {H : List AO} {c c' : Mv → AV → List AO → Prop} (hc : ∀ ks x H',c ks x H' → c' ks x H') {ty : Nat} {s x : AV} (h : vcCopy T tc H c ty s x) : vcCopy T tc H c' ty s x:=by
 unfold vcCopy at *
 split at h
 ·split at h
  ·refine bif_mono (fun h=>?_) h
   split at h
   ·exact bif_mono (fun h=>orF_mono (fun q hq=>⟨hq.1,hc _ _ _ hq.2⟩) h) h
   ·exact h.elim
  ·exact h.elim
 ·exact h.elim
theorem vcAppS_mono {tc : Option (List Nat)} {H : List AO} {c c' : Mv → AV → List AO → Prop} (hc : ∀ ks x H',c ks x H' → c' ks x H') {ty ty' : Nat} {s x : AV} (h : vcAppS P T tc H c ty ty' s x) : vcAppS P T tc H c' ty ty' s x:=by
 unfold vcAppS at *
 split at h <;> try (exact h.elim)
 split at h
 ·refine bif_mono (fun h=>?_) h
  split at h
  ·exact bif_mono (fun h=>⟨h.1,hc _ _ _ h.2⟩) h
  ·exact h.elim
 ·exact ⟨h.1,hc _ _ _ h.2⟩
 ·exact h.elim
theorem vcText_mono {tc : Option (List Nat)} {H : List AO} {c c' : Mv → AV → List AO → Prop} (hc : ∀ ks x H',c ks x H' → c' ks x H') {pt : Nat} {p l : AV} (h : vcText P H c tc pt p l) : vcText P H c' tc pt p l:=by
 unfold vcText at *
 split at h <;> try (exact h.elim)
 split at h <;> try (exact h.elim)
 refine bif_mono (fun h=>⟨h.1,?_⟩) h
 obtain ⟨b,h1,h2⟩:=h.2.out
 exact ⟨⟨b,h1,hc _ _ _ h2⟩⟩
theorem vcE_mono {tc : Option (List Nat)} {e : Operand → AV} {H : List AO} {c c' : Mv → AV → List AO → Prop} (hc : ∀ ks x H',c ks x H' → c' ks x H') {op : Op} (h : vcE P T tc e H c op) : vcE P T tc e H c' op:=by
 cases op <;> simp only [vcE] at h ⊢ <;> try (exact h.elim)
 case pick b x y=>
  split at h
  ·exact ⟨fun e=>(force_eq _ _).mpr (hc _ _ _ ((force_eq _ _).mp (h.1 e))),fun e=>(force_eq _ _).mpr (hc _ _ _ ((force_eq _ _).mp (h.2 e)))⟩
  ·exact h.elim
 case alloc et=>exact orF_mono (fun _ h=>hc _ _ _ h) h
 case box et x=>exact orF_mono (fun _ h=>hc _ _ _ h) h
 case store ty a x=>exact orF_mono (fun _ h=>vcStore_mono hc h) h
 case buildSlice ty n ps=>
  split at h
  ·exact bif_mono (fun h=>orF_mono (fun _ h=>hc _ _ _ h) h) h
  ·exact h.elim
 case makeSlice ty l m=>
  split at h
  ·exact bif_mono (fun h=>⟨h.1,hc _ _ _ h.2⟩) h
  ·exact h.elim
 case makeMap ty rv=>
  cases rv with
  | some r=>exact h.elim
  | none=>
   simp only at h ⊢
   split at h
   ·exact hc _ _ _ h
   ·exact h.elim
 case mapUpdate ty m k x=>
  split at h
  ·refine bif_mono (fun h=>?_) h
   split at h
   ·exact hc _ _ _ h
   ·exact h.elim
  ·exact h.elim
 case call cl=>
  split at h
  ·split at h
   ·exact callsP_mono hc h
   ·exact h.elim
  ·split at h
   ·rename_i s x ty ty' _ _
    cases hty : Nat.beq ty ty' with
    | true=>rw [hty] at h; exact vcApp_mono hc h
    | false=>rw [hty] at h; exact vcAppS_mono hc h
   ·exact h.elim
  ·split at h
   ·exact bif_mono (fun h=>vcCopy_mono hc h) h
   ·exact h.elim
  ·split at h
   ·exact vcText_mono hc h
   ·exact h.elim
  ·exact h.elim
theorem vcO_mono {fb : List Nat} {tc : Option (List Nat)} {t : Nat → AV} {H : List AO} {o : Oper} {K K' : (Nat → AV) → List AO → Prop} (hk : ∀ t H,K t H → K' t H) (h : vcO P T fb tc t H o K) : vcO P T fb tc t H o K':=by
 unfold vcO at *
 cases hq : isQ o.op with
 | true=>rw [hq] at h; exact vcQ_mono (fun x h=>hk _ _ h) h
 | false=>rw [hq] at h; simp only [cond_false] at h ⊢; exact vcE_mono (c':=kk t o.dst K') (fun ks x H' h=>hk _ _ h) h
theorem vcG_mono {ops : Array Oper} {fb : List Nat} {tc : Option (List Nat)} {t : Nat → AV} {H : List AO} {o : Oper} {K K' : (Nat → AV) → List AO → Prop} (hk : ∀ t H,K t H → K' t H) (h : vcG P T ops fb tc t H o K) : vcG P T ops fb tc t H o K':=by
 unfold vcG at *
 split at h
 ·exact vcO_mono hk h
 ·split at h
  ·split at h
   ·exact ⟨fun e=>vcO_mono hk (h.1 e),fun e=>hk _ _ (h.2 e)⟩
   ·exact hk _ _ h
   ·exact h.elim
  ·exact h.elim
def Stays (l : Option (List Nat)) (H H' : List AO) : Prop:=∀ (i : Nat) (o : AO),okT l i = false → H[i]? = some o → H'[i]? = some o
theorem Stays.refl (l : Option (List Nat)) (H : List AO) : Stays l H H:=fun _ _ _ h=>h
theorem Stays.trans {l : Option (List Nat)} {a b c : List AO} (h : Stays l a b) (k : Stays l b c) : Stays l a c:=fun i o hi ho=>k i o hi (h i o hi ho)
theorem Stays.app (l : Option (List Nat)) (H : List AO) (o : AO) : Stays l H (H ++ [o]):=fun i p _ h=>by
 rw [List.getElem?_append_left (List.getElem?_eq_some_iff.1 h).1]; exact h
theorem Stays.set {l : Option (List Nat)} {H : List AO} {i : Nat} {o : AO} (h : okT l i = true) : Stays l H (H.set i o):=fun j p hj hp=>by
 rw [List.getElem?_set_ne]
 ·exact hp
 ·rintro rfl; rw [h] at hj; cases hj
theorem all_isIn {l : List Nat} {p : Nat → Bool} (h : l.all p = true) {i : Nat} (hi : isIn l i = true) : p i = true:=by
 induction l with
 | nil=>cases hi
 | cons a l ih=>
  simp only [List.all_cons,Bool.and_eq_true] at h
  simp only [isIn] at hi
  cases hb : Nat.beq a i with
  | true=>obtain rfl:=beq_of hb; exact h.1
  | false=>rw [hb] at hi; exact ih h.2 (by simpa using hi)
theorem Stays.kill {l : Option (List Nat)} {H : List AO} {ks : List Nat} (h : ks.all (okT l) = true) : Stays l H (kill ks H):=fun j p hj hp=>by
 have hlt : j < (Go.Proofs.YtlhmaljjdpjkgaaGreatDoor.kill ks H).length:=by rw [kill_len]; exact (List.getElem?_eq_some_iff.1 hp).1
 obtain ⟨q,hq,h2⟩:=kill_get (List.getElem?_eq_getElem hlt)
 rw [hp] at hq; cases hq
 rcases h2 with ⟨h2,-⟩ | ⟨-,h2⟩
 ·have:=all_isIn h h2; rw [this] at hj; cases hj
 ·rw [List.getElem?_eq_getElem hlt,h2]
def safeB (o : Oper) : Bool:=
 match o.op with
 | .call c=>match c.callee with
  | .builtin .append=>false
  | .builtin .copy=>false
  | .builtin .unsafeString=>false
  | _=>true
 | _=>true
theorem vcStore_keeps {tc : Option (List Nat)} {H : List AO} {c : Mv → AV → List AO → Prop} {d : TD} {a x : AV} (h : vcStore tc H c d a x) : vcStore tc H (fun ks x H'=>c ks x H' ∧ ks = .no ∧ Stays tc H H') d a x:=by
 unfold vcStore at *
 split at h
 ·refine orF_mono (fun xs hx=>bifF.2 ?_) h
  obtain ⟨h1,hx⟩:=bifF.1 hx
  refine ⟨h1,?_⟩
  simp only [Bool.and_eq_true] at h1
  have h1:=h1.1
  split at hx
  ·exact bif_mono (fun h=>⟨h,rfl,Stays.set h1⟩) hx
  ·exact orF_mono (fun ys hy=>⟨hy.1,hy.2,rfl,Stays.set h1⟩) hx
  ·exact ⟨hx.1,hx.2,rfl,Stays.set h1⟩
  ·exact hx.elim
 ·exact h.elim
theorem vcE_keeps {tc : Option (List Nat)} (htc : tc ≠ none) {e : Operand → AV} {H : List AO} {c : Mv → AV → List AO → Prop} {o : Oper} (hs : safeB o = true) (h : vcE P T tc e H c o.op) : vcE P T tc e H (fun ks x H'=>c ks x H' ∧ ks = .no ∧ Stays tc H H') o.op:=by
 obtain ⟨dst,op,type,pos,after,guard⟩:=o
 cases op <;> simp only [vcE] at h ⊢ <;> try (exact h.elim)
 case pick b x y=>
  split at h
  ·exact ⟨fun e=>(force_eq _ _).mpr ⟨(force_eq _ _).mp (h.1 e),by trivial,Stays.refl _ _⟩,fun e=>(force_eq _ _).mpr ⟨(force_eq _ _).mp (h.2 e),by trivial,Stays.refl _ _⟩⟩
  ·exact h.elim
 case alloc et=>exact orF_mono (fun _ h=>⟨h,by trivial,Stays.app _ _ _⟩) h
 case box et x=>exact orF_mono (fun _ h=>⟨h,by trivial,Stays.app _ _ _⟩) h
 case store ty a x=>exact orF_mono (fun _ h=>vcStore_keeps h) h
 case buildSlice ty n ps=>
  split at h
  ·exact bif_mono (fun h=>orF_mono (fun _ h=>⟨h,by trivial,Stays.app _ _ _⟩) h) h
  ·exact h.elim
 case makeSlice ty l m=>
  split at h
  ·exact bif_mono (fun h=>⟨h.1,h.2,by trivial,Stays.app _ _ _⟩) h
  ·exact h.elim
 case makeMap ty rv=>
  cases rv with
  | some r=>exact h.elim
  | none=>
   simp only at h ⊢
   split at h
   ·exact ⟨h,by trivial,Stays.app _ _ _⟩
   ·exact h.elim
 case mapUpdate ty m k x=>
  split at h
  ·obtain ⟨h1,h⟩:=bifF.1 h
   refine bifF.2 ⟨h1,?_⟩
   split at h
   ·exact ⟨h,by trivial,Stays.set h1⟩
   ·exact h.elim
  ·exact h.elim
 case call cl=>
  split at h
  ·split at h
   ·rcases h.out with ⟨ks,ivs,h1,h2,⟨Q,h3,h4⟩ | ⟨e,m,Q,h3,h4⟩⟩ | ⟨g,m,mv,R,Q,h0,h1,h2,h3,h4⟩
    ·exact ⟨.inl ⟨ks,ivs,h1,h2,.inl ⟨Q,h3,fun r hr=>⟨h4 r hr,by trivial,Stays.kill h1⟩⟩⟩⟩
    ·exact ⟨.inl ⟨ks,ivs,h1,h2,.inr ⟨e,m,Q,h3,fun n us hr=>⟨h4 n us hr,by trivial,(Stays.kill h1).trans (Stays.app _ _ _)⟩⟩⟩⟩
    ·rcases h0 with h0 | ⟨rfl,rfl⟩
     ·exact (htc h0).elim
     ·refine ⟨.inr ⟨none,m,[],R,Q,.inr ⟨rfl,rfl⟩,h1,h2,h3,fun x H' hq=>⟨(h4 x H' hq).1,(h4 x H' hq).2,by trivial,fun i o hi ho=>?_⟩⟩⟩
      simp only [lendOK,Bool.and_eq_true] at h2
      have hall:=h2.1.1.1.1
      have him : m ≤ i:=by
       rcases Nat.lt_or_ge i m with hlt | hge
       ·have:=List.all_eq_true.1 hall i (List.mem_range.2 hlt)
        rw [hi] at this; cases this
       ·exact hge
      have hil:=(List.getElem?_eq_some_iff.1 ho).1
      rcases (h4 x H' hq).1 with hl | hl
      ·rw [List.getElem?_append_right (by omega),hl]
       show (H.drop m)[i - m]? = _
       rw [List.getElem?_drop,show m + (i - m) = i by omega]; exact ho
      ·simp only [gH] at hl; omega
   ·exact h.elim
  ·rename_i hc
   simp [safeB,hc] at hs
  ·rename_i hc
   simp [safeB,hc] at hs
  ·rename_i hc
   simp [safeB,hc] at hs
  ·exact h.elim
theorem map_congr_ops {e e' : Operand → AV} {l : List Operand} (h : ∀ x ∈ l,e x = e' x) : l.map e = l.map e':=List.map_congr_left h
theorem vcE_congr {tc : Option (List Nat)} {e e' : Operand → AV} {H : List AO} {c : Mv → AV → List AO → Prop} {op : Op} (he : ∀ x ∈ op.operands.toList,e x = e' x) : vcE P T tc e H c op = vcE P T tc e' H c op:=by
 cases op <;> simp only [vcE,Op.operands] at he ⊢
 case pick b x y=>rw [he b (by simp),he x (by simp),he y (by simp)]
 case box et x=>rw [he x (by simp)]
 case store ty a x=>rw [he a (by simp),he x (by simp)]
 case buildSlice ty n ps=>
  have : ps.toList.map (fun p=>(p.1,e p.2)) = ps.toList.map (fun p=>(p.1,e' p.2)):=List.map_congr_left fun p hp=>by
   rw [he p.2 (by simp only [List.toList_toArray,List.mem_map]; exact ⟨p,hp,rfl⟩)]
  rw [this]
 case makeSlice ty l m=>rw [he l (by simp),he m (by simp)]
 case makeMap ty rv=>cases rv <;> rfl
 case mapUpdate ty m k x=>rw [he m (by simp),he k (by simp),he x (by simp)]
 case call cl=>
  obtain ⟨cal,args,tys⟩:=cl
  cases cal with
  | value f=>
   simp only [Call.operands] at he ⊢
   rw [he f (by simp),map_congr_ops (l:=args.toList) fun x hx=>he x (by simp [hx])]
  | invoke r m=>rfl
  | builtin b=>
   simp only [Call.operands] at he ⊢
   cases b <;> try rfl
   case unsafeString=>
    obtain ⟨l⟩:=args
    rcases l with _ | ⟨s,_ | ⟨x,_ | _⟩⟩ <;> try rfl
    obtain ⟨ts⟩:=tys
    rcases ts with _ | ⟨ty,_ | ⟨ty',_ | _⟩⟩ <;> try rfl
    dsimp only
    rw [he s (by simp),he x (by simp)]
   case append=>
    obtain ⟨l⟩:=args
    rcases l with _ | ⟨s,_ | ⟨x,_ | _⟩⟩ <;> try rfl
    obtain ⟨ts⟩:=tys
    rcases ts with _ | ⟨ty,_ | ⟨ty',_ | _⟩⟩ <;> try rfl
    dsimp only
    rw [he s (by simp),he x (by simp)]
   case copy=>
    obtain ⟨l⟩:=args
    rcases l with _ | ⟨s,_ | ⟨x,_ | _⟩⟩ <;> try rfl
    obtain ⟨ts⟩:=tys
    rcases ts with _ | ⟨ty,_ | ⟨ty',_ | _⟩⟩ <;> try rfl
    dsimp only
    rw [he s (by simp),he x (by simp)]
theorem qv_congr {e e' : Operand → AV} {H : List AO} {fb : List Nat} {op : Op} (he : ∀ x ∈ op.operands.toList,e x = e' x) : qv T e H fb op = qv T e' H fb op:=by
 cases op <;> simp only [qv,Op.operands] at he ⊢
 case move x=>rw [he x (by simp)]
 case assign x=>rw [he x (by simp)]
 case load t a=>rw [he a (by simp)]
 case build t ps=>
  have : ps.toList.map (fun p=>(p.1,e p.2)) = ps.toList.map (fun p=>(p.1,e' p.2)):=List.map_congr_left fun p hp=>by
   rw [he p.2 (by simp only [List.toList_toArray,List.mem_map]; exact ⟨p,hp,rfl⟩)]
  rw [this]
 case nilCheck x=>rw [he x (by simp)]
 case binOp op t x y yt=>rw [he x (by simp),he y (by simp)]
 case unOp op t x=>rw [he x (by simp)]
 case convert s d x=>rw [he x (by simp)]
 case makeFunc f a b=>rw [map_congr_ops (l:=a.toList) fun x hx=>he x (by simp [hx]),map_congr_ops (l:=b.toList) fun x hx=>he x (by simp [hx])]
 case slice t x lo hi mx=>
  cases mx with
  | some m=>rfl
  | none=>
   have h1 : lo.map e = lo.map e':=by cases lo with
    | none=>rfl
    | some l=>simp only [Option.map_some]; rw [he l (by simp)]
   have h2 : hi.map e = hi.map e':=by cases hi with
    | none=>rfl
    | some l=>simp only [Option.map_some]; rw [he l (by simp)]
   simp only [h1,h2]; rw [he x (by simp)]
 case fieldAddr s x f=>rw [he x (by simp)]
 case field s x f=>rw [he x (by simp)]
 case indexAddr t x i=>rw [he x (by simp),he i (by simp)]
 case index t x i=>rw [he x (by simp),he i (by simp)]
 case extract x i=>rw [he x (by simp)]
 case lookup t x i b=>cases b with
  | false=>rfl
  | true=>simp only; rw [he x (by simp),he i (by simp)]
 case call cl=>
  obtain ⟨cal,args,tys⟩:=cl
  simp only [Call.operands] at he ⊢
  cases cal with
  | value f=>rfl
  | invoke r m=>rfl
  | builtin b=>
   cases b <;> try rfl
   case len=>
    obtain ⟨l⟩:=args
    rcases l with _ | ⟨x,_ | _⟩ <;> try rfl
    obtain ⟨ts⟩:=tys
    rcases ts with _ | ⟨ty,_ | _⟩ <;> try rfl
    dsimp only
    rw [he x (by simp)]
   case max=>
    obtain ⟨l⟩:=args
    rcases l with _ | ⟨x,_ | ⟨y,_ | _⟩⟩ <;> try rfl
    dsimp only
    rw [he x (by simp),he y (by simp)]
   case min=>
    obtain ⟨l⟩:=args
    rcases l with _ | ⟨x,_ | ⟨y,_ | _⟩⟩ <;> try rfl
    dsimp only
    rw [he x (by simp),he y (by simp)]
   case unsafeSliceData=>
    obtain ⟨l⟩:=args
    rcases l with _ | ⟨x,_ | _⟩ <;> try rfl
    dsimp only
    rw [he x (by simp)]
theorem qload_keep {H H' : List AO} {fb : List Nat} (hk : ∀ (i : Nat) (o : AO),isIn fb i = false → H[i]? = some o → H'[i]? = some o) {d : TD} {a x : AV} (h : (qload H fb d a).val x) : (qload H' fb d a).val x:=by
 unfold qload at *
 split at h
 ·rename_i i o
  cases hf : isIn fb i with
  | true=>rw [hf] at h; exact h.elim
  | false=>
   rw [hf] at h; simp only [cond_false] at h ⊢
   split at h
   ·rename_i heq; simp only [hk _ _ hf heq]; exact h
   ·rename_i heq; simp only [hk _ _ hf heq]; exact h
   ·rename_i heq; simp only [hk _ _ hf heq]; exact h
   ·exact h.elim
 ·exact h
 ·exact h.elim
theorem qlen_keep {H H' : List AO} {fb : List Nat} (hk : ∀ (i : Nat) (o : AO),isIn fb i = false → H[i]? = some o → H'[i]? = some o) {s : Sh} {a x : AV} (h : (qlen H fb s a).val x) : (qlen H' fb s a).val x:=by
 unfold qlen at *
 split at h
 ·exact h
 ·split at h
  ·exact h
  ·exact h
  ·rename_i i
   cases hf : isIn fb i with
   | true=>rw [hf] at h; exact h.elim
   | false=>
    rw [hf] at h; simp only [cond_false] at h ⊢
    split at h
    ·rename_i heq; simp only [hf,cond_false,hk _ _ hf heq]; exact h
    ·rename_i heq; simp only [hf,cond_false,hk _ _ hf heq]; exact h
    ·exact h.elim
  ·exact h
  ·exact h.elim
 ·exact h.elim
theorem qindexAddr_keep {H H' : List AO} {fb : List Nat} (hk : ∀ (i : Nat) (o : AO),isIn fb i = false → H[i]? = some o → H'[i]? = some o) {s : Sh} {a x : AV} {j : Int} (h : (qindexAddr H fb s a j).val x) : (qindexAddr H' fb s a j).val x:=by
 unfold qindexAddr at *
 split at h
 ·split at h
  ·exact h
  ·rename_i i
   cases hf : isIn fb i with
   | true=>rw [hf] at h; exact h.elim
   | false=>
    rw [hf] at h; simp only [cond_false] at h ⊢
    split at h
    ·rename_i heq; simp only [hf,cond_false,hk _ _ hf heq]; exact h
    ·rename_i heq; simp only [hf,cond_false,hk _ _ hf heq]; exact h
    ·exact h.elim
  ·exact h
  ·exact h.elim
 ·exact h
 ·exact h.elim
theorem subR_keep {H H' : List AO} {k i : Nat} (hk : ∀ (o : AO),H[i]? = some o → H'[i]? = some o) {l hh : Int} {x : AV} (h : (subR H k i l hh).val x) : (subR H' k i l hh).val x ∧ rowN H' i = rowN H i:=by
 unfold subR rowN at *
 split at h
 ·rename_i heq; simp only [hk _ heq,heq]; exact ⟨h,by trivial⟩
 ·rename_i heq; simp only [hk _ heq,heq]; exact ⟨h,by trivial⟩
 ·exact h.elim
theorem qslice_keep {H H' : List AO} {fb : List Nat} (hk : ∀ (i : Nat) (o : AO),isIn fb i = false → H[i]? = some o → H'[i]? = some o) {s : Sh} {a x : AV} {lo hi : Option AV} (h : (qslice H fb s a lo hi).val x) : (qslice H' fb s a lo hi).val x:=by
 unfold qslice at *
 split at h
 ·rename_i i
  cases hf : isIn fb i with
  | true=>rw [hf] at h; exact h.elim
  | false=>
   rw [hf] at h; simp only [cond_false] at h ⊢
   split at h
   ·split at h
    ·obtain ⟨h1,h2⟩:=subR_keep (hk i · hf) h
     rename_i he; rw [h2]; exact h1
    ·exact h.elim
   ·split at h
    ·exact (subR_keep (hk i · hf) h).1
    ·exact h.elim
   ·split at h
    ·exact (subR_keep (hk i · hf) h).1
    ·exact h.elim
   ·exact h.elim
 all_goals exact h
theorem qbytes_keep {H H' : List AO} {fb : List Nat} (hk : ∀ (i : Nat) (o : AO),isIn fb i = false → H[i]? = some o → H'[i]? = some o) {s : Sh} {a x : AV} (h : (qbytes T H fb s a).val x) : (qbytes T H' fb s a).val x:=by
 unfold qbytes at *
 split at h <;> try (exact h.elim)
 split at h <;> try (exact h.elim)
 split at h
 ·exact h
 ·rename_i i
  cases hf : isIn fb i with
  | true=>rw [hf] at h; exact h.elim
  | false=>
   rw [hf] at h; simp only [cond_false] at h ⊢
   split at h
   ·rename_i heq; simp only [hf,cond_false,hk _ _ hf heq]; exact h
   ·exact h.elim
 ·exact h.elim
theorem qv_keep {e : Operand → AV} {H H' : List AO} {fb : List Nat} (hk : ∀ (i : Nat) (o : AO),isIn fb i = false → H[i]? = some o → H'[i]? = some o) {op : Op} {x : AV} (h : (qv T e H fb op).val x) : (qv T e H' fb op).val x:=by
 cases op <;> simp only [qv] at h ⊢ <;> try (exact h)
 case load t a=>
  split at h
  ·exact qload_keep hk h
  ·exact h.elim
 case indexAddr t y i=>
  split at h
  ·exact qindexAddr_keep hk h
  ·exact h.elim
 case convert s d y=>
  split at h
  ·exact h
  ·exact h
  ·exact qbytes_keep hk h
  ·exact h.elim
 case lookup t y i b=>
  cases b with
  | false=>exact h
  | true=>
   simp only at h ⊢
   split at h <;> try (exact h.elim)
   rename_i z j s _ _ _
   unfold qlookup at h ⊢
   cases hb : (isIn fb j || Nat.ble z.length 1) with
   | true=>rw [hb] at h; exact h.elim
   | false=>
    rw [hb] at h
    simp only [cond_false] at h ⊢
    simp only [Bool.or_eq_false_iff] at hb
    split at h
    ·rename_i heq; rw [hk _ _ hb.1 heq]; exact h
    ·exact h.elim
 case slice t y lo hi mx=>
  cases mx with
  | some m=>exact h
  | none=>
   simp only at h ⊢
   split at h
   ·exact qslice_keep hk h
   ·exact h.elim
 case call cl=>
  split at h
  ·split at h
   ·split at h
    ·exact qlen_keep hk h
    ·exact h.elim
   ·exact h.elim
  ·exact h
  ·exact h
  ·split at h
   ·unfold qsdata at h ⊢
    split at h <;> try (exact h.elim)
    rename_i i heq
    cases hf : isIn fb i with
    | true=>rw [hf] at h; exact h.elim
    | false=>
     rw [hf] at h; simp only [cond_false] at h
     split at h <;> try (exact h.elim)
     rename_i ho
     simp only [heq,hf,cond_false,hk _ _ hf ho]; exact h
   ·exact h.elim
  ·exact h.elim
end
def bef (ops : Array Oper) : Nat → Nat → Nat → Bool
 | 0,_,_=>false
 | f + 1,j,i=>match ops[j]? with
  | some o=>o.after.toList.any fun e=>Region.binds .any e && (Nat.beq e.on i || bef ops f e.on i)
  | none=>false
def subB (l : Option (List Nat)) (m : List Nat) : Bool:=
 match l with
 | none=>false
 | some l=>l.all (isIn m)
def freeB (ops : Array Oper) (an : Ann) (ls : Array Bool) (i : Nat) (oi : Oper) : Bool:=
 (List.range ops.size).all fun j=>Nat.beq j i || ls.getD j true || bef ops ops.size j i ||
  match ops[j]? with
  | some oj=>oi.apart ops oj && safeB oj && subB (an j).2 (an i).1
  | none=>true
def planOK (ops : Array Oper) (an : Ann) : List Nat → Array Bool → Bool
 | [],ls=>(Region.ready .any ops ls).isEmpty
 | i :: l,ls=>((match ops[i]? with
   | some oi=>isQ oi.op && (Region.ready .any ops ls).contains i && freeB ops an ls i oi
   | none=>false) || (Region.ready .any ops ls == [i])) && planOK ops an l (ls.setIfInBounds i true)
inductive PT where
 | nil
 | on (i : Nat) (p : PT)
 | br (i : Nat) (p : PT) (j : Nat) (q : PT)
def PT.dep : PT → Nat
 | .nil=>0
 | .on _ p=>p.dep + 1
 | .br _ p _ q=>max p.dep q.dep + 1
def planT (ops : Array Oper) (an : Ann) : PT → Array Bool → Bool
 | .nil,ls=>(Region.ready .any ops ls).isEmpty
 | .on i p,ls=>((match ops[i]? with
   | some oi=>isQ oi.op && (Region.ready .any ops ls).contains i && freeB ops an ls i oi
   | none=>false) || (Region.ready .any ops ls == [i])) && planT ops an p (ls.setIfInBounds i true)
 | .br i p j q,ls=>(Region.ready .any ops ls == [i,j]) && planT ops an p (ls.setIfInBounds i true) && planT ops an q (ls.setIfInBounds j true)
section
variable {P : Program} {T : TT} {ops : Array Oper} {an : Ann} {K : (Nat → AV) → List AO → Prop}
def aAny (P : Program) (T : TT) (ops : Array Oper) (an : Ann) (K : (Nat → AV) → List AO → Prop) : Nat → Array Bool → (Nat → AV) → List AO → Prop
 | 0,ls,t,H=>Region.ready .any ops ls = [] ∧ K t H
 | f + 1,ls,t,H=>(Region.ready .any ops ls = [] → K t H) ∧ ∀ i ∈ Region.ready .any ops ls,∀ o,ops[i]? = some o → vcG P T ops (an i).1 (an i).2 t H o (aAny P T ops an K f (ls.setIfInBounds i true))
def vcP (P : Program) (T : TT) (ops : Array Oper) (an : Ann) : List Nat → (Nat → AV) → List AO → ((Nat → AV) → List AO → Prop) → Prop
 | [],t,H,K=>K t H
 | i :: l,t,H,K=>match ops[i]? with
  | some o=>vcG P T ops (an i).1 (an i).2 t H o fun t H=>vcP P T ops an l t H K
  | none=>False
structure Br (A B : Prop) : Prop where
 l : A
 r : B
def vcT (P : Program) (T : TT) (ops : Array Oper) (an : Ann) : PT → (Nat → AV) → List AO → ((Nat → AV) → List AO → Prop) → Prop
 | .nil,t,H,K=>K t H
 | .on i p,t,H,K=>match ops[i]? with
  | some o=>vcG P T ops (an i).1 (an i).2 t H o fun t H=>vcT P T ops an p t H K
  | none=>False
 | .br i p j q,t,H,K=>match ops[i]?,ops[j]? with
  | some o,some o'=>Br (vcG P T ops (an i).1 (an i).2 t H o fun t H=>vcT P T ops an p t H K) (vcG P T ops (an j).1 (an j).2 t H o' fun t H=>vcT P T ops an q t H K)
  | _,_=>False
def Closed (ops : Array Oper) (ls : Array Bool) : Prop:=∀ (j : Nat) (o : Oper),ops[j]? = some o → ls.getD j false = true → ∀ e ∈ o.after,Region.binds .any e = true → ls.getD e.on false = true
theorem bef_listed {ls : Array Bool} (hc : Closed ops ls) : ∀ (f j i : Nat),(∀ o,ops[j]? = some o → ∀ e ∈ o.after,Region.binds .any e = true → ls.getD e.on false = true) → bef ops f j i = true → ls.getD i false = true
 | 0,_,_,_,h=>by cases h
 | f + 1,j,i,hj,h=>by
  unfold bef at h
  split at h
  ·rename_i o ho
   simp only [List.any_eq_true,Bool.and_eq_true,Bool.or_eq_true] at h
   obtain ⟨e,he,hb,h⟩:=h
   have hl:=hj o ho e (by simpa using he) hb
   rcases h with h | h
   ·obtain rfl:=beq_of h; exact hl
   ·exact bef_listed hc f e.on i (fun o ho=>hc e.on o ho hl) h
  ·cases h
theorem ready_closed {ls : Array Bool} (hc : Closed ops ls) {i : Nat} (hi : i ∈ Region.ready .any ops ls) : Closed ops (ls.setIfInBounds i true):=by
 obtain ⟨_,oi,hoi,hall⟩:=mem_ready.1 hi
 intro j o ho hl e he hb
 by_cases hij : i = j
 ·subst hij
  have : o = oi:=Option.some.inj (ho.symm.trans hoi)
  subst this
  exact getD_set_true (hall e he hb)
 ·rw [getD_set_ne false hij] at hl
  exact getD_set_true (hc j o ho hl e he hb)
theorem put_comm (t : Nat → AV) {d e : Option Nat} (h : ∀ x,d = some x → e ≠ some x) (x y : AV) : put (put t d x) e y = put (put t e y) d x:=by
 cases d with
 | none=>rfl
 | some d=>
  cases e with
  | none=>rfl
  | some e=>
   have hne : d ≠ e:=fun he=>h d rfl (by rw [he])
   funext j
   simp only [put]
   by_cases h1 : j = e
   ·subst h1
    have h2 : Nat.beq j d = false:=Bool.eq_false_iff.2 fun h=>hne (Nat.eq_of_beq_eq_true h).symm
    rw [h2]; simp
   ·have h2 : Nat.beq j e = false:=Bool.eq_false_iff.2 fun h=>h1 (Nat.eq_of_beq_eq_true h)
    rw [h2]; simp
theorem put_ne (t : Nat → AV) {d : Option Nat} {x : AV} {j : Nat} (h : ∀ y,d = some y → y ≠ j) : put t d x j = t j:=by
 cases d with
 | none=>rfl
 | some d=>
  have : Nat.beq j d = false:=Bool.eq_false_iff.2 fun e=>h d rfl (Nat.eq_of_beq_eq_true e).symm
  simp [put,this]
def Agree (ops : Array Oper) (o : Oper) (t t' : Nat → AV) : Prop:=∀ y ∈ o.looksAt ops,t' y = t y
theorem Agree.ev {o : Oper} {t t' : Nat → AV} (h : Agree ops o t t') : ∀ x ∈ o.op.operands.toList,ev t' x = ev t x:=by
 intro x hx
 cases x with
 | tmp j=>exact h j (List.mem_append_left _ (List.mem_filterMap.2 ⟨.tmp j,hx,rfl⟩))
 | const v=>rfl
 | global g=>rfl
 | func f=>rfl
theorem Agree.guard {o : Oper} {t t' : Nat → AV} (h : Agree ops o t t') {g : Nat} {want : Bool} (hg : o.guard = some (g,want)) {d : Nat} (hd : (ops[g]?).bind (·.dst) = some d) : t' d = t d:=
 h d (List.mem_append_right _ (by simp [hg,hd]))
def Yv (T : TT) (ops : Array Oper) (fb : List Nat) (o : Oper) (x : AV) (t : Nat → AV) (H : List AO) : Prop:=
 match o.guard with
 | none=>(qv T (ev t) H fb o.op).val x
 | some (g,want)=>∃ d,(ops[g]?).bind (·.dst) = some d ∧ ((∃ b,t d = .im (.raw (.bool b)) ∧ ((b = want ∧ (qv T (ev t) H fb o.op).val x) ∨ (b = !want ∧ x = .im (.raw undef)))) ∨ ∃ vs,t d = .im (.raw (.tuple vs)) ∧ x = .im (.raw undef))
theorem Yv.keep {fb : List Nat} {o : Oper} {x : AV} {t t' : Nat → AV} {H H' : List AO} (h : Yv T ops fb o x t H) (ha : Agree ops o t t') (hk : ∀ (i : Nat) (o : AO),isIn fb i = false → H[i]? = some o → H'[i]? = some o) : Yv T ops fb o x t' H':=by
 have q : (qv T (Go.Proofs.YtlhmaljjdpjkgaaGreatDoor.ev t) H fb o.op).val x → (qv T (Go.Proofs.YtlhmaljjdpjkgaaGreatDoor.ev t') H' fb o.op).val x:=fun h=>by
  rw [qv_congr ha.ev]; exact qv_keep hk h
 unfold Yv at *
 split
 ·rename_i hg; simp only [hg] at h; exact q h
 ·rename_i g want hg
  simp only [hg] at h
  obtain ⟨d,h1,⟨b,h2,h3⟩ | ⟨vs,h2,h3⟩⟩:=h
  ·exact ⟨d,h1,.inl ⟨b,by rw [ha.guard hg h1]; exact h2,h3.imp (fun ⟨a,b⟩=>⟨a,q b⟩) id⟩⟩
  ·exact ⟨d,h1,.inr ⟨vs,by rw [ha.guard hg h1]; exact h2,h3⟩⟩
theorem Yv.vcG {fb : List Nat} {tc : Option (List Nat)} {o : Oper} {x : AV} {t : Nat → AV} {H : List AO} (hq : isQ o.op = true) (h : Yv T ops fb o x t H) {K : (Nat → AV) → List AO → Prop} (hk : K (put t o.dst x) H) : vcG P T ops fb tc t H o K:=by
 have q : (qv T (ev t) H fb o.op).val x → vcO P T fb tc t H o K:=fun h=>by
  unfold vcO; rw [hq]; exact vcQ_iff.2 ⟨x,h,hk⟩
 unfold Yv at h
 unfold Go.Proofs.YtlhmaljjdpjkgaaGreatDoor.vcG
 split
 ·rename_i hg; simp only [hg] at h; exact q h
 ·rename_i g want hg
  simp only [hg] at h
  obtain ⟨d,h1,⟨b,h2,h3⟩ | ⟨vs,h2,rfl⟩⟩:=h
  rotate_left
  ·rw [h1]; simp only [h2]; exact hk
  rw [h1]; simp only [h2]
  rcases h3 with ⟨h3,h4⟩ | ⟨h3,rfl⟩
  ·exact ⟨fun _=>q h4,fun e=>(by rw [e] at h3; cases want <;> cases h3)⟩
  ·exact ⟨fun e=>(by rw [e] at h3; cases want <;> cases h3),fun _=>hk⟩
theorem vcG_yv {fb : List Nat} {tc : Option (List Nat)} {o : Oper} {t : Nat → AV} {H : List AO} (hq : isQ o.op = true) {K : (Nat → AV) → List AO → Prop} (h : Go.Proofs.YtlhmaljjdpjkgaaGreatDoor.vcG P T ops fb tc t H o K) : ∃ x,Yv T ops fb o x t H ∧ K (put t o.dst x) H:=by
 have q : vcO P T fb tc t H o K → ∃ x,(qv T (ev t) H fb o.op).val x ∧ K (put t o.dst x) H:=fun h=>by
  unfold vcO at h; rw [hq] at h; exact vcQ_iff.1 h
 unfold Yv
 unfold Go.Proofs.YtlhmaljjdpjkgaaGreatDoor.vcG at h
 split at h
 ·rename_i hg; simp only [hg]; exact q h
 ·rename_i g want hg
  split at h
  ·rename_i d hd
   split at h
   ·rename_i b hb
    by_cases e : b = want
    ·obtain ⟨x,h1,h2⟩:=q (h.1 e)
     exact ⟨x,by simp only [hg]; exact ⟨d,hd,.inl ⟨b,hb,.inl ⟨e,h1⟩⟩⟩,h2⟩
    ·have e' : b = !want:=by cases b <;> cases want <;> simp_all
     exact ⟨_,by simp only [hg]; exact ⟨d,hd,.inl ⟨b,hb,.inr ⟨e',by trivial⟩⟩⟩,h.2 e'⟩
   ·rename_i vs hb
    exact ⟨_,by simp only [hg]; exact ⟨d,hd,.inr ⟨vs,hb,by trivial⟩⟩,h⟩
   ·exact h.elim
  ·exact h.elim
theorem vcG_comm {fb : List Nat} {tc : Option (List Nat)} {oi oj : Oper} {x : AV} {t : Nat → AV} {H : List AO} (hap : oi.apart ops oj = true) (hs : safeB oj = true) (htc : tc ≠ none) (h : vcG P T ops fb tc (put t oi.dst x) H oj K) :
  vcG P T ops fb tc t H oj fun t' H'=>K (put t' oi.dst x) H' ∧ Agree ops oi t t' ∧ Stays tc H H':=by
 obtain ⟨h1,h2,h3⟩:=Oper.apart_spec hap
 have ag : Agree ops oj t (put t oi.dst x):=fun y hy=>put_ne t fun d hd=>by rintro rfl; exact h1 _ hd hy
 have agi : ∀ z,Agree ops oi t (put t oj.dst z):=fun z y hy=>put_ne t fun d hd=>by rintro rfl; exact h3 _ hd hy
 have o : vcO P T fb tc (put t oi.dst x) H oj K → vcO P T fb tc t H oj fun t' H'=>K (put t' oi.dst x) H' ∧ Agree ops oi t t' ∧ Stays tc H H':=by
  intro h
  unfold vcO at *
  cases hq : isQ oj.op with
  | true=>
   rw [hq] at h
   simp only [cond_true] at h ⊢
   rw [qv_congr ag.ev] at h
   exact vcQ_mono (fun z hz=>⟨by rw [← put_comm t h2]; exact hz,agi z,Stays.refl _ _⟩) h
  | false=>
   rw [hq] at h
   simp only [cond_false] at h ⊢
   rw [vcE_congr ag.ev] at h
   exact vcE_mono (fun ks z H' ⟨h,hks,hst⟩=>by
    subst hks
    exact ⟨by simp only [kk,mvT] at h; show K (put (put t oj.dst z) oi.dst x) H'; rw [← put_comm t h2]; exact h,agi z,hst⟩) (vcE_keeps htc hs h)
 unfold vcG at *
 split at h
 ·exact o h
 ·rename_i g want hg
  split at h
  ·rename_i d hd
   rw [ag.guard hg hd] at h
   split at h
   ·exact ⟨fun e=>o (h.1 e),fun e=>⟨by rw [← put_comm t h2]; exact h.2 e,agi _,Stays.refl _ _⟩⟩
   ·exact ⟨by rw [← put_comm t h2]; exact h,agi _,Stays.refl _ _⟩
   ·exact h.elim
  ·exact h.elim
theorem sub_stays {l : Option (List Nat)} {m : List Nat} (h : subB l m = true) {H H' : List AO} (hs : Stays l H H') : ∀ (i : Nat) (o : AO),isIn m i = false → H[i]? = some o → H'[i]? = some o:=by
 intro i o hi ho
 refine hs i o ?_ ho
 cases l with
 | none=>cases h
 | some l=>
  simp only [subB] at h
  cases hk : isIn l i with
  | false=>exact hk
  | true=>have:=all_isIn h hk; rw [this] at hi; cases hi
theorem freeB_spec {ls : Array Bool} {i : Nat} {oi : Oper} (h : freeB ops an ls i oi = true) : ∀ (j : Nat) (oj : Oper),ops[j]? = some oj → j ≠ i → ls.getD j true = false → bef ops ops.size j i = false → oi.apart ops oj = true ∧ safeB oj = true ∧ subB (an j).2 (an i).1 = true:=by
 intro j oj hj hne hl hb
 have hlt : j < ops.size:=(Array.getElem?_eq_some_iff.1 hj).1
 have:=List.all_eq_true.1 h j (List.mem_range.2 hlt)
 have h1 : Nat.beq j i = false:=Bool.eq_false_iff.2 fun h=>hne (Nat.eq_of_beq_eq_true h)
 rw [h1,hl,hb,hj] at this
 simpa [Bool.and_eq_true,and_assoc] using this
theorem aAny_take {i : Nat} {oi : Oper} {x : AV} (hi : ops[i]? = some oi) (hq : isQ oi.op = true) :
  ∀ (f : Nat) (ls : Array Bool) (t : Nat → AV) (H : List AO),Closed ops ls → i ∈ Region.ready .any ops ls →
   (∀ (j : Nat) (oj : Oper),ops[j]? = some oj → j ≠ i → ls.getD j true = false → bef ops ops.size j i = false → oi.apart ops oj = true ∧ safeB oj = true ∧ subB (an j).2 (an i).1 = true) →
   Yv T ops (an i).1 oi x t H → aAny P T ops an K f (ls.setIfInBounds i true) (put t oi.dst x) H → aAny P T ops an K (f + 1) ls t H:=by
 intro f
 induction f with
 | zero=>
  intro ls t H _ hr _ hy h
  refine ⟨fun h0=>(by rw [h0] at hr; cases hr),fun j hj oj hoj=>?_⟩
  by_cases hji : j = i
  ·subst hji
   obtain rfl : oj = oi:=Option.some.inj (hoj.symm.trans hi)
   exact hy.vcG hq h
  ·have:=ready_mono hj hji
   rw [h.1] at this
   cases this
 | succ f ih=>
  intro ls t H hc hr hfree hy h
  refine ⟨fun h0=>(by rw [h0] at hr; cases hr),fun j hj oj hoj=>?_⟩
  by_cases hji : j = i
  ·subst hji
   obtain rfl : oj = oi:=Option.some.inj (hoj.symm.trans hi)
   exact hy.vcG hq h
  ·have h1:=h.2 j (ready_mono hj hji) oj hoj
   obtain ⟨hjun,oj',hoj',hall⟩:=mem_ready.1 hj
   obtain rfl : oj' = oj:=Option.some.inj (hoj'.symm.trans hoj)
   have hun:=(mem_ready.1 hr).1
   have hnb : bef ops ops.size j i = false:=by
    cases hb : bef ops ops.size j i with
    | false=>rfl
    | true=>
     have:=bef_listed hc ops.size j i (fun o ho e he hbb=>by
      obtain rfl : o = oj':=Option.some.inj (ho.symm.trans hoj)
      exact hall e he hbb) hb
     rcases Nat.lt_or_ge i ls.size with h' | h'
     ·simp [h'] at hun this; rw [hun] at this; cases this
     ·simp [Array.getElem?_eq_none h'] at this
   obtain ⟨f1,f2,f3⟩:=hfree j oj' hoj hji hjun hnb
   refine vcG_mono (fun t' H' ⟨k1,k2,k3⟩=>?_) (vcG_comm f1 f2 (fun e=>by rw [e] at f3; cases f3) h1)
   refine ih (ls.setIfInBounds j true) t' H' (ready_closed hc hj) (ready_mono hr (Ne.symm hji)) ?_ (hy.keep k2 (sub_stays f3 k3)) ?_
   ·intro k ok hk hki hkl hkb
    refine hfree k ok hk hki ?_ hkb
    by_cases hjk : j = k
    ·subst hjk; exact hjun
    ·rw [getD_set_ne true hjk] at hkl; exact hkl
   ·rw [Array.setIfInBounds_comm _ _ hji]; exact k1
theorem aAny_nil {ls : Array Bool} (h : Region.ready .any ops ls = []) {t : Nat → AV} {H : List AO} (hk : K t H) : ∀ f,aAny P T ops an K f ls t H
 | 0=>⟨h,hk⟩
 | _ + 1=>⟨fun _=>hk,fun i hi=>by rw [h] at hi; cases hi⟩
theorem plan_sound : ∀ (l : List Nat) (ls : Array Bool) (t : Nat → AV) (H : List AO) (f : Nat),Closed ops ls → planOK ops an l ls = true → l.length ≤ f → vcP P T ops an l t H K → aAny P T ops an K f ls t H
 | [],ls,t,H,f,_,hp,_,hv=>aAny_nil (by simpa [planOK] using hp) hv f
 | i :: l,ls,t,H,0,_,_,hf,_=>by simp at hf
 | i :: l,ls,t,H,f + 1,hc,hp,hf,hv=>by
  simp only [planOK,Bool.and_eq_true,Bool.or_eq_true] at hp
  obtain ⟨hp,hp'⟩:=hp
  simp only [List.length_cons,Nat.add_le_add_iff_right] at hf
  simp only [vcP] at hv
  split at hv
  ·rename_i o ho
   rw [ho] at hp
   rcases hp with hp | hp
   ·simp only [Bool.and_eq_true] at hp
    obtain ⟨⟨hq,hr⟩,hfree⟩:=hp
    have hr : i ∈ Region.ready .any ops ls:=by simpa using hr
    obtain ⟨x,hy,hk⟩:=vcG_yv hq hv
    exact aAny_take ho hq f ls t H hc hr (freeB_spec hfree) hy (plan_sound l _ _ _ f (ready_closed hc hr) hp' hf hk)
   ·have hr : Region.ready .any ops ls = [i]:=by simpa using hp
    have hri : i ∈ Region.ready .any ops ls:=by rw [hr]; simp
    refine ⟨fun h0=>(by rw [hr] at h0; cases h0),fun j hj oj hoj=>?_⟩
    rw [hr] at hj
    simp at hj; subst hj
    obtain rfl : oj = o:=Option.some.inj (hoj.symm.trans ho)
    exact vcG_mono (fun t' H' hk=>plan_sound l _ t' H' f (ready_closed hc hri) hp' hf hk) hv
  ·exact hv.elim
theorem planT_sound : ∀ (l : PT) (ls : Array Bool) (t : Nat → AV) (H : List AO) (f : Nat),Closed ops ls → planT ops an l ls = true → l.dep ≤ f → vcT P T ops an l t H K → aAny P T ops an K f ls t H
 | .nil,ls,t,H,f,_,hp,_,hv=>aAny_nil (by simpa [planT] using hp) hv f
 | .on i l,ls,t,H,0,_,_,hf,_=>by simp [PT.dep] at hf
 | .br i p j q,ls,t,H,0,_,_,hf,_=>by simp [PT.dep] at hf
 | .on i l,ls,t,H,f + 1,hc,hp,hf,hv=>by
  simp only [planT,Bool.and_eq_true,Bool.or_eq_true] at hp
  obtain ⟨hp,hp'⟩:=hp
  simp only [PT.dep,Nat.add_le_add_iff_right] at hf
  simp only [vcT] at hv
  split at hv
  ·rename_i o ho
   rw [ho] at hp
   rcases hp with hp | hp
   ·simp only [Bool.and_eq_true] at hp
    obtain ⟨⟨hq,hr⟩,hfree⟩:=hp
    have hr : i ∈ Region.ready .any ops ls:=by simpa using hr
    obtain ⟨x,hy,hk⟩:=vcG_yv hq hv
    exact aAny_take ho hq f ls t H hc hr (freeB_spec hfree) hy (planT_sound l _ _ _ f (ready_closed hc hr) hp' hf hk)
   ·have hr : Region.ready .any ops ls = [i]:=by simpa using hp
    have hri : i ∈ Region.ready .any ops ls:=by rw [hr]; simp
    refine ⟨fun h0=>(by rw [hr] at h0; cases h0),fun j hj oj hoj=>?_⟩
    rw [hr] at hj
    simp at hj; subst hj
    obtain rfl : oj = o:=Option.some.inj (hoj.symm.trans ho)
    exact vcG_mono (fun t' H' hk=>planT_sound l _ t' H' f (ready_closed hc hri) hp' hf hk) hv
  ·exact hv.elim
 | .br i p j q,ls,t,H,f + 1,hc,hp,hf,hv=>by
  simp only [planT,Bool.and_eq_true] at hp
  obtain ⟨⟨hr,hp1⟩,hp2⟩:=hp
  simp only [PT.dep,Nat.add_le_add_iff_right] at hf
  simp only [vcT] at hv
  have hr : Region.ready .any ops ls = [i,j]:=by simpa using hr
  have hri : i ∈ Region.ready .any ops ls:=by rw [hr]; simp
  have hrj : j ∈ Region.ready .any ops ls:=by rw [hr]; simp
  split at hv
  ·rename_i o o' ho ho'
   refine ⟨fun h0=>(by rw [hr] at h0; cases h0),fun k hk ok hok=>?_⟩
   rw [hr] at hk
   simp at hk
   rcases hk with rfl | rfl
   ·obtain rfl : ok = o:=Option.some.inj (hok.symm.trans ho)
    exact vcG_mono (fun t' H' hk=>planT_sound p _ t' H' f (ready_closed hc hri) hp1 (by omega) hk) hv.l
   ·obtain rfl : ok = o':=Option.some.inj (hok.symm.trans ho')
    exact vcG_mono (fun t' H' hk=>planT_sound q _ t' H' f (ready_closed hc hrj) hp2 (by omega) hk) hv.r
  ·exact hv.elim
end
section
variable {P : Program} {T : TT} {ops : Array Oper} {an : Ann} {n : Nat} {L B : Nat → Prop} {w0 : World} {m0 : List Value} {Q : Exit → Act → World → Prop} {K : (Nat → AV) → List AO → Prop}
theorem aAny_sound (hT : TdOK P T) (hd : dstsOK n ops.toList = true) (hQ : ∀ a w,Sts n L B w0 m0 T.mv K a w → Q .normal a w) :
  ∀ (f : Nat) (ls : Array Bool) {μ : List Value} {t : Nat → AV} {H : List AO} {a : Act} {w : World},St n L B w0 m0 T.mv μ t H a w → aAny P T ops an K f ls t H → wpAny P .any ops Q f ls a w
 | 0,ls,_,_,_,_,_,h,hv=>⟨hv.1,hQ _ _ (Sts.mk h hv.2)⟩
 | f + 1,ls,μ,t,H,a,w,h,hv=>by
  refine ⟨fun h0=>hQ _ _ (Sts.mk h (hv.1 h0)),fun i hi=>?_⟩
  obtain ⟨_,o,ho,_⟩:=mem_ready.1 hi
  have hdo : dstOK n o.dst = true:=List.all_eq_true.1 hd o (by
   have:=Array.mem_of_getElem? ho; simpa using this)
  have:=vcG_sound (Q:=Q) hT h hdo (hv.2 i hi o ho)
  have step : ∀ a w,Sts n L B w0 m0 T.mv (aAny P T ops an K f (ls.setIfInBounds i true)) a w → wpAny P .any ops Q f (ls.setIfInBounds i true) a w:=fun a w ⟨μ,t,H,hk,h⟩=>aAny_sound hT hd hQ f _ h hk
  unfold wpOp
  simp only [ho]
  split
  ·rename_i hw; rw [if_pos hw] at this; exact .inl (Oper.wp_mono step this)
  ·rename_i hw; rw [if_neg hw] at this; exact step _ _ this
theorem St.drew {μ : List Value} {t : Nat → AV} {H : List AO} {a : Act} {w : World} (h : St n L B w0 m0 T.mv μ t H a w) : St n L B w0 m0 T.mv μ t H a { w with drawn:=w.drawn + 1 }:=
 h.same (w':={ w with drawn:=w.drawn + 1 }) ⟨rfl,rfl,rfl,Nat.le_refl _,fun _ _=>rfl⟩
theorem region_sound (hT : TdOK P T) (hm : P.follows .mixedOrders = true) (hd : dstsOK n ops.toList = true) {l : List Nat} (hp : planOK ops an l (Array.replicate ops.size false) = true) (hl : l.length ≤ ops.size)
  (hQ : ∀ a w,Sts n L B w0 m0 T.mv K a w → Q .normal a w) {id : Nat} {μ : List Value} {t : Nat → AV} {H : List AO} {a : Act} {w : World} (h : St n L B w0 m0 T.mv μ t H a w) (hv : vcP P T ops an l t H K) : (Code.region id ops true).wp P Q a w:=by
 refine wp_region_any hm (aAny_sound (an:=an) (K:=K) hT hd hQ _ _ h.drew (plan_sound l _ t H _ (fun j o _ hl e he hb=>?_) hp hl hv))
 have : (Array.replicate ops.size false).getD j false = false:=by simp only [Array.getD_eq_getD_getElem?,Array.getElem?_replicate]; split <;> rfl
 rw [this] at hl; cases hl
theorem regionT_sound (hT : TdOK P T) (hm : P.follows .mixedOrders = true) (hd : dstsOK n ops.toList = true) {l : PT} (hp : planT ops an l (Array.replicate ops.size false) = true) (hl : l.dep ≤ ops.size)
  (hQ : ∀ a w,Sts n L B w0 m0 T.mv K a w → Q .normal a w) {id : Nat} {μ : List Value} {t : Nat → AV} {H : List AO} {a : Act} {w : World} (h : St n L B w0 m0 T.mv μ t H a w) (hv : vcT P T ops an l t H K) : (Code.region id ops true).wp P Q a w:=by
 refine wp_region_any hm (aAny_sound (an:=an) (K:=K) hT hd hQ _ _ h.drew (planT_sound l _ t H _ (fun j o _ hl e he hb=>?_) hp hl hv))
 have : (Array.replicate ops.size false).getD j false = false:=by simp only [Array.getD_eq_getD_getElem?,Array.getElem?_replicate]; split <;> rfl
 rw [this] at hl; cases hl
end
abbrev KK:=Exit → (Nat → AV) → List AO → Prop
structure vcIf (x : AV) (A B : Prop) : Prop where
 out : match x with
 | .im (.raw (.bool b))=>(b = true → A) ∧ (b = false → B)
 | _=>False
def gT : Option (List Nat) → List AO → (Nat → AV) → Nat → AV
 | none,_,t=>t
 | some ps,H,t=>gcT H ps t
def gA : Option (List Nat) → List AO → AV → AV
 | none,_,x=>x
 | some ps,H,x=>gcA H ps 6 x
structure Nx {σ : Type} (R : Nat → Bool) (I : σ → (Nat → AV) → List AO → Prop) (m : σ → Nat) (s : σ) (t : Nat → AV) (H : List AO) : Prop where
 out : ∃ s' g,gOK R g H = true ∧ I s' (gT g H t) (gH g H) ∧ m s' < m s
def rndK {σ : Type} (R : Nat → Bool) (I : σ → (Nat → AV) → List AO → Prop) (m : σ → Nat) (s : σ) (K : KK) : KK:=fun e t H=>
 match e with
 | .normal=>Nx R I m s t H
 | e=>K e t H
def nilA : AV:=.im (.raw (.slice none 0 0))
def lfvT (j m : Nat) (t : Nat → AV) : Nat → AV:=fun i=>bif Nat.beq i j then .own m else t i
inductive Tr (R : Nat → Bool) : (Nat → AV) → List AO → (Nat → AV) → List AO → Prop
 | refl (t : Nat → AV) (H : List AO) : Tr R t H t H
 | gc {ps : List Nat} {t t' : Nat → AV} {H H' : List AO} (h : gcOK R H ps = true) (k : Tr R (gcT H ps t) (gcH H ps) t' H') : Tr R t H t' H'
 | lfv {j e k : Nat} {t t' : Nat → AV} {H H' : List AO} (h : t j = nilA) (k : Tr R (lfvT j H.length t) (H ++ [.row e k 0 []]) t' H') : Tr R t H t' H'
 | lfb {b j e0 e k : Nat} {cs : List AV} {t t' : Nat → AV} {H H' : List AO} (h : H[b]? = some (.box e0 cs)) (hj : cs[j]? = some nilA) (k : Tr R t (H.set b (.box e0 (cs.set j (.own H.length))) ++ [.row e k 0 []]) t' H') : Tr R t H t' H'
structure Reg (P : Program) (T : TT) (ops : Array Oper) (t : Nat → AV) (H : List AO) (K : (Nat → AV) → List AO → Prop) : Prop where
 out : ∃ (t' : Nat → AV) (H' : List AO),Tr T.mv t H t' H' ∧ ((∃ (l : List Nat) (an : Ann),planOK ops an l (Array.replicate ops.size false) = true ∧ l.length ≤ ops.size ∧ vcP P T ops an l t' H' K) ∨
  ∃ (l : PT) (an : Ann),planT ops an l (Array.replicate ops.size false) = true ∧ l.dep ≤ ops.size ∧ vcT P T ops an l t' H' K)
structure Loop (R : Nat → Bool) (F : (Nat → AV) → List AO → KK → Prop) (t : Nat → AV) (H : List AO) (K : KK) : Prop where
 out : ∃ (σ : Type) (I : σ → (Nat → AV) → List AO → Prop) (m : σ → Nat) (s : σ) (t' : Nat → AV) (H' : List AO),Tr R t H t' H' ∧ I s t' H' ∧ ∀ s t H,I s t H → F t H (rndK R I m s K)
def seqK (F : (Nat → AV) → List AO → Prop) (K : KK) : KK:=fun e t H=>
 match e with
 | .normal=>F t H
 | e=>K e t H
def blkK (id : Nat) (K : KK) : KK:=fun e t H=>
 match e with
 | .exit i=>bif Nat.beq i id then K .normal t H else K (.exit i) t H
 | e=>K e t H
def vcC (P : Program) (T : TT) : Code → (Nat → AV) → List AO → KK → Prop
 | .skip,t,H,K=>K .normal t H
 | .label _,t,H,K=>K .normal t H
 | .exit id,t,H,K=>K (.exit id) t H
 | .goto l,t,H,K=>K (.goto l) t H
 | .ret,t,H,K=>K .ret t H
 | .seq a b,t,H,K=>vcC P T a t H (seqK (fun t H=>vcC P T b t H K) K)
 | .cond c x y,t,H,K=>vcIf (ev t c) (vcC P T x t H K) (vcC P T y t H K)
 | .block id c,t,H,K=>vcC P T c t H (blkK id K)
 | .loop c,t,H,K=>Loop T.mv (fun t H K=>vcC P T c t H K) t H K
 | .region _ ops d,t,H,K=>match d with
  | true=>Reg P T ops t H (K .normal)
  | false=>vcL P T ops ops.toList t H (K .normal)
 | _,_,_,_=>False
def codeOK (n : Nat) : Code → Bool
 | .seq a b=>codeOK n a && codeOK n b
 | .cond _ a b=>codeOK n a && codeOK n b
 | .block _ c=>codeOK n c
 | .loop c=>codeOK n c
 | .region _ ops _=>dstsOK n ops.toList
 | _=>true
def StsK (n : Nat) (L B : Nat → Prop) (w0 : World) (m0 : List Value) (R : Nat → Bool) (K : KK) (e : Exit) (a : Act) (w : World) : Prop:=Sts n L B w0 m0 R (K e) a w
section
variable {P : Program} {T : TT} {n : Nat} {L B : Nat → Prop} {w0 : World} {m0 : List Value}
theorem wp_loop_nat {c : Code} {Q : Exit → Act → World → Prop} (J : Nat → Act → World → Prop) (round : ∀ n a w,J n a w → c.wp P (Exit.then (fun a' w'=>∃ n',n' < n ∧ J n' a' w') Q) a w) {n : Nat} {a : Act} {w : World} (h : J n a w) : (Code.loop c).wp P Q a w:=by
 intro b k cs
 have key : ∀ n a w,J n a w →
   ∃ e a' w',Q e a' w' ∧ Arrives P (lone (b.at a (.code c :: .inLoop c :: k)) cs w) b k cs e a' w':=by
  intro n
  induction n using Nat.strongRecOn with
  | _ n ih=>
   intro a w hI
   obtain ⟨e,a₁,w₁,hq,harr⟩:=round n a w hI b (.inLoop c :: k) cs
   cases e with
   | normal=>
    obtain ⟨n',hlt,hI₁⟩:=hq
    obtain ⟨e₂,a₂,w₂,hq₂,harr₂⟩:=ih n' hlt a₁ w₁ hI₁
    exact ⟨e₂,a₂,w₂,hq₂,.of_steps (Steps.trans harr (.one step_inLoop)) harr₂⟩
   | exit id=>exact ⟨_,a₁,w₁,hq,.pass (x:=.inLoop c) rfl (fun _ _=>.inl (by simp)) harr⟩
   | goto l=>exact ⟨_,a₁,w₁,hq,.pass (x:=.inLoop c) rfl (fun _ _=>.inl (by simp)) harr⟩
   | ret=>exact ⟨_,a₁,w₁,hq,.pass (x:=.inLoop c) rfl (fun _ _=>.inl (by simp)) harr⟩
   | panic ch=>exact ⟨_,a₁,w₁,hq,.pass (x:=.inLoop c) rfl (fun _ _=>.inl (by simp)) harr⟩
   | outgrown=>exact ⟨_,a₁,w₁,hq,.pass (x:=.inLoop c) rfl (fun _ _=>.inl (by simp)) harr⟩
 obtain ⟨e,a',w',hq,harr⟩:=key n a w h
 exact ⟨e,a',w',hq,.of_steps (.one step_loop) harr⟩
theorem st_g {R : Nat → Bool} {μ : List Value} {t : Nat → AV} {H : List AO} {a : Act} {w : World} (h : St n L B w0 m0 R μ t H a w) {g : Option (List Nat)} (hg : gOK R g H = true) {K : (Nat → AV) → List AO → Prop} (hk : K (gT g H t) (gH g H)) : Sts n L B w0 m0 R K a w:=by
 cases g with
 | none=>exact Sts.mk h hk
 | some ps=>exact Sts.mk (h.gc hg) hk
theorem st_tr {R : Nat → Bool} {t t' : Nat → AV} {H H' : List AO} (k : Tr R t H t' H') : ∀ {μ : List Value} {a : Act} {w : World},St n L B w0 m0 R μ t H a w → ∃ μ',St n L B w0 m0 R μ' t' H' a w:=by
 have add : ∀ {t : Nat → AV} {H : List AO} {μ : List Value} {a : Act} {w : World} (e k : Nat),St n L B w0 m0 R μ t H a w → St n L B w0 m0 R (μ ++ [.slice none 0 0]) t (H ++ [.row e k 0 []]) a w:=fun e k h=>
  h.add (Kept.refl _ _) rfl (fun g hg=>by simp [blk] at hg) ⟨[],World.ownsRow_nil _ _ _ _,⟨rfl,fun j x v a b=>by simp at a⟩,fun v hv=>by simp at hv⟩
 induction k with
 | refl t H=>exact fun h=>⟨_,h⟩
 | gc hg _ ih=>exact fun h=>ih (h.gc hg)
 | @lfv j e k t t' H H' hj _ ih=>
  intro μ a w h
  have h2:=add e k h
  refine ih ⟨h2.dfr,h2.sz,fun i=>?_,h2.lies,h2.kept,h2.new,h2.fix⟩
  unfold lfvT
  cases hb : Nat.beq i j with
  | false=>exact h2.tm i
  | true=>
   obtain rfl:=beq_of hb
   have h3:=h.tm i
   rw [hj] at h3
   have h3:=cn_raw h3
   rw [h3]
   exact last_own h.lies.len
 | @lfb b j e0 e k cs t t' H H' hb hj _ ih=>
  intro μ a w h
  have h2:=add e k h
  have hbl:=(List.getElem?_eq_some_iff.1 hb).1
  have hb2 : (H ++ [AO.row e k 0 []])[b]? = some (.box e0 cs):=by rw [List.getElem?_append_left hbl]; exact hb
  obtain ⟨u,hu⟩ : ∃ u,(μ ++ [.slice none 0 0])[b]? = some u:=⟨_,List.getElem?_eq_getElem (by have:=h.lies.len; simp; omega)⟩
  obtain ⟨g,vs,rfl,k1,k2,k3⟩:=h2.lies.obj _ _ _ hb2 hu
  have hcn : CnL (μ ++ [.slice none 0 0]) (Mut (μ ++ [.slice none 0 0]) B (H ++ [.row e k 0 []])) w (cs.set j (.own H.length)) vs:=by
   refine ⟨by simp [k2.1],fun i x v hx hv=>?_⟩
   rcases set_get hx with ⟨rfl,rfl,-⟩ | ⟨-,hx⟩
   ·obtain ⟨v',q1,q2⟩:=k2.at hj
    rw [hv] at q1; cases q1
    have q2:=cn_raw q2
    rw [q2]; exact last_own h.lies.len
   ·exact k2.2 i x v hx hv
  have h3:=h2.updD (o':=.box e0 (cs.set j (.own H.length))) hb2 hu rfl rfl (Kept.refl _ _) ⟨g,vs,rfl,k1,hcn,k3⟩
  rw [List.set_append_left _ _ hbl] at h3
  exact ih h3
theorem vcC_sound (hT : TdOK P T) (hm : P.follows .mixedOrders = true) : ∀ (c : Code) {K : KK} {μ : List Value} {t : Nat → AV} {H : List AO} {a : Act} {w : World},codeOK n c = true → St n L B w0 m0 T.mv μ t H a w → vcC P T c t H K → c.wp P (StsK n L B w0 m0 T.mv K) a w
 | .skip,_,_,_,_,_,_,_,h,hv=>wp_skip (Sts.mk h hv)
 | .label _,_,_,_,_,_,_,_,h,hv=>wp_label (Sts.mk h hv)
 | .exit id,_,_,_,_,_,_,_,h,hv=>wp_exit (Sts.mk h hv)
 | .goto l,_,_,_,_,_,_,_,h,hv=>wp_goto (Sts.mk h hv)
 | .ret,_,_,_,_,_,_,_,h,hv=>wp_ret (Sts.mk h hv)
 | .seq x y,K,μ,t,H,a,w,hd,h,hv=>by
  simp only [codeOK,Bool.and_eq_true] at hd
  refine wp_seq (wp_mono (vcC_sound hT hm x hd.1 h hv) ?_)
  rintro e a w ⟨μ,t,H,hk,h⟩
  cases e with
  | normal=>exact vcC_sound hT hm y hd.2 h hk
  | _=>exact Sts.mk h hk
 | .cond c x y,K,μ,t,H,a,w,hd,h,hv=>by
  simp only [codeOK,Bool.and_eq_true] at hd
  have hc:=h.ev c
  unfold vcC at hv
  have hv:=hv.out
  split at hv
  ·rename_i b hb
   rw [hb] at hc
   refine wp_cond_split (cn_raw hc) (fun e=>vcC_sound hT hm x hd.1 h (hv.1 e)) (fun e=>vcC_sound hT hm y hd.2 h (hv.2 e))
  ·exact hv.elim
 | .block id c,K,μ,t,H,a,w,hd,h,hv=>by
  refine wp_block (wp_mono (vcC_sound hT hm c hd h hv) ?_)
  rintro e a w ⟨μ,t,H,hk,h⟩
  cases e with
  | exit i=>
   simp only [blkK] at hk
   by_cases e : i = id
   ·subst e
    have : Nat.beq i i = true:=by simp
    rw [this] at hk
    show if i = i then _ else _
    rw [if_pos rfl]; exact Sts.mk h hk
   ·have : Nat.beq i id = false:=Bool.eq_false_iff.2 fun h=>e (Nat.eq_of_beq_eq_true h)
    rw [this] at hk
    show if i = id then _ else _
    rw [if_neg e]; exact Sts.mk h hk
  | _=>exact Sts.mk h hk
 | .loop c,K,μ,t,H,a,w,hd,h,hv=>by
  obtain ⟨σ,I,m,s,t',H',hg,h0,hr⟩:=hv.out
  obtain ⟨μ',h'⟩:=st_tr hg h
  refine wp_loop_nat (fun k a w=>∃ s,m s = k ∧ Sts n L B w0 m0 T.mv (I s) a w) ?_ (n:=m s) ⟨s,rfl,Sts.mk h' h0⟩
  rintro k a w ⟨s,rfl,μ,t,H,hI,h⟩
  refine wp_mono (vcC_sound hT hm c (by simpa [codeOK] using hd) h (hr s t H hI)) ?_
  rintro e a w ⟨μ,t,H,hk,h⟩
  cases e with
  | normal=>obtain ⟨s',g,hg,h1,h2⟩:=hk.out; exact ⟨m s',h2,s',rfl,st_g h hg h1⟩
  | _=>exact Sts.mk h hk
 | .region id ops d,K,μ,t,H,a,w,hd,h,hv=>by
  cases d with
  | true=>
   obtain ⟨t',H',hg,hv⟩:=hv.out
   obtain ⟨μ',h⟩:=st_tr hg h
   rcases hv with ⟨l,an,hp,hl,hv⟩ | ⟨l,an,hp,hl,hv⟩
   ·exact region_sound hT hm hd hp hl (fun a w h=>h) h hv
   ·exact regionT_sound hT hm hd hp hl (fun a w h=>h) h hv
  | false=>exact wp_region_list (vcL_sound hT ops.toList h hd hv fun a w h=>h)
 | .rangeFunc _ _ _ _,_,_,_,_,_,_,_,_,hv=>hv.elim
 | .scope _,_,_,_,_,_,_,_,_,hv=>hv.elim
 | .refuse _,_,_,_,_,_,_,_,_,hv=>hv.elim
def resV (T : TT) (t : Nat → AV) (H : List AO) : ResultVar → Option AV
 | .tmp j=>some (t j)
 | .cell ad ty=>match look T ty with
  | some d=>match qload H [] d (t ad) with
   | .ok x=>some x
   | _=>none
  | none=>none
def resL (T : TT) (t : Nat → AV) (H : List AO) : List ResultVar → Option (List AV)
 | []=>some []
 | r :: l=>match resV T t H r,resL T t H l with
  | some x,some xs=>some (x :: xs)
  | _,_=>none
def retv (T : TT) (rs : List ResultVar) (t : Nat → AV) (H : List AO) : Option AV:=
 match resL T t H rs with
 | some [x]=>some x
 | some l=>some (.tup l)
 | none=>none
def RetK (T : TT) (rs : List ResultVar) (Q : AV → List AO → Prop) : KK:=fun e t H=>
 match e with
 | .normal=>orF (retv T rs t H) fun x=>Q x H
 | .ret=>orF (retv T rs t H) fun x=>Q x H
 | _=>False
def resM (tmps : Array Value) : ResultVar → Sem Value
 | .tmp t=>pure (tmps.getD t undef)
 | .cell ad t=>do loadVar t (← asAddr (tmps.getD ad undef))
theorem results_eq (fn : Func) (tmps : Array Value) : results fn tmps = (do let vs ← fn.results.mapM (resM tmps); pure (if h : vs.size = 1 then vs[0] else .tuple vs)):=by
 have : resM tmps = (fun | .tmp t=>pure (tmps.getD t undef) | .cell a t=>do loadVar t (← asAddr (tmps.getD a undef)) : ResultVar → Sem Value):=by
  funext r
  cases r <;> rfl
 unfold results
 rw [this]
 rfl
theorem resL_sound (hT : TdOK P T) {μ : List Value} {t : Nat → AV} {H : List AO} {a : Act} {w : World} (h : St n L B w0 m0 T.mv μ t H a w) : ∀ (rs : List ResultVar) (xs : List AV),resL T t H rs = some xs →
  ∃ vs : List Value,(rs.mapM (resM a.tmps)).run P w = .ok vs w ∧ CnL μ (Mut μ B H) w xs vs
 | [],xs,hr=>by simp [resL] at hr; subst hr; exact ⟨[],by simp,CnL.nil⟩
 | r :: rs,xs,hr=>by
  simp only [resL] at hr
  split at hr
  ·rename_i x xs' h1 h2
   simp at hr; subst hr
   obtain ⟨vs,e1,e2⟩:=resL_sound hT h rs xs' h2
   have key : ∃ v,(resM a.tmps r).run P w = .ok v w ∧ Cn μ (Mut μ B H) w x v:=by
    cases r with
    | tmp j=>simp [resV] at h1; subst h1; exact ⟨_,by simp only [resM]; rfl,h.tm j⟩
    | cell ad ty=>
     simp only [resV] at h1
     split at h1
     ·rename_i d hd
      split at h1
      ·rename_i y hy
       simp at h1; subst h1
       obtain ⟨v,g1,g2⟩:=qload_sound (P:=P) (fb:=[]) h.lies (hT.at hd) (h.tm ad) (x:=y) (by rw [hy]; rfl)
       refine ⟨v,?_,g2⟩
       have ht:=h.tm ad
       unfold qload at hy
       simp only [resM]
       generalize a.tmps.getD ad undef = u at ht g1 ⊢
       split at hy
       ·rename_i i o hta
        rw [hta] at ht
        cases ht with
        | ref hi hb=>rw [load_ptr] at g1; simpa [asAddr] using g1
       ·rename_i cs hta
        rw [hta] at ht
        cases ht with
        | im ht=>
         obtain ⟨b,o,vs,rfl,-⟩:=ht.cells
         rw [load_ptr] at g1; simpa [asAddr] using g1
       ·cases hy
      ·cases h1
     ·cases h1
   obtain ⟨v,k1,k2⟩:=key
   refine ⟨v :: vs,?_,CnL.cons k2 e2⟩
   rw [List.mapM_cons,Sem.run_bind,k1]
   simp only [Result.andThen_ok,Sem.run_bind,e1]
   simp
  ·cases hr
theorem retv_sound (hT : TdOK P T) {fn : Func} {rs : List ResultVar} (hrs : fn.results = rs.toArray) {μ : List Value} {t : Nat → AV} {H : List AO} {a : Act} {w : World} (h : St n L B w0 m0 T.mv μ t H a w) {x : AV} (hx : retv T rs t H = some x) :
  ∃ v,(results fn a.tmps).run P w = .ok v w ∧ Cn μ (Mut μ B H) w x v:=by
 unfold retv at hx
 have run : ∀ {xs},resL T t H rs = some xs → ∃ vs : List Value,(results fn a.tmps).run P w = .ok (if h : vs.length = 1 then vs[0] else .tuple vs.toArray) w ∧ CnL μ (Mut μ B H) w xs vs:=by
  intro xs hl
  obtain ⟨vs,e1,e2⟩:=resL_sound hT h rs xs hl
  refine ⟨vs,?_,e2⟩
  rw [results_eq,hrs,List.mapM_toArray,Sem.run_bind,Sem.run_map,e1]
  simp
 split at hx
 ·rename_i y hl
  simp at hx; subst hx
  obtain ⟨vs,e1,e2⟩:=run hl
  obtain ⟨v,us,rfl,e3,e4⟩:=e2.uncons
  have : us = []:=List.length_eq_zero_iff.1 e4.1
  subst this
  exact ⟨v,by simpa using e1,e3⟩
 ·rename_i l hne hl
  simp at hx; subst hx
  obtain ⟨vs,e1,e2⟩:=run hl
  have h1 : ¬ vs.length = 1:=by
   intro h1
   have h2:=e2.1
   rw [h1] at h2
   obtain ⟨z,rfl⟩:=List.length_eq_one_iff.1 h2.symm
   exact hne z rfl
  refine ⟨.tuple vs.toArray,by rw [e1,dif_neg h1],.tup e2.1 e2.2⟩
 ·cases hx
def t0 : List AV → Nat → AV
 | [],_=>.im (.raw undef)
 | x :: _,0=>x
 | _ :: l,j + 1=>t0 l j
theorem t0_sound {μ : List Value} {M : Nat → Prop} {w : World} : ∀ {xs : List AV} {vs : List Value} (k : Nat),CnL μ M w xs vs → ∀ j,Cn μ M w (t0 xs j) ((vs.toArray ++ Array.replicate k undef).getD j undef)
 | [],vs,k,h,j=>by
  have : vs = []:=List.length_eq_zero_iff.1 h.1
  subst this
  have : ((([] : List Value).toArray ++ Array.replicate k undef).getD j undef) = undef:=by
   simp only [Array.getD_eq_getD_getElem?,Array.empty_append,Array.getElem?_replicate]; split <;> rfl
  simp only [t0]; rw [this]; exact .im (.raw _)
 | x :: xs,vs,k,h,j=>by
  obtain ⟨v,us,rfl,h1,h2⟩:=h.uncons
  cases j with
  | zero=>
   have e : (((v :: us).toArray ++ Array.replicate k undef).getD 0 undef) = v:=by
    simp only [Array.getD_eq_getD_getElem?]
    rw [← Array.getElem?_toList]
    simp
   rw [e]; exact h1
  | succ j=>
   have:=t0_sound k h2 j
   simp only [t0]
   have e : (((v :: us).toArray ++ Array.replicate k undef).getD (j + 1) undef) = ((us.toArray ++ Array.replicate k undef).getD j undef):=by
    simp only [Array.getD_eq_getD_getElem?]
    congr 1
    rw [← Array.getElem?_toList,← Array.getElem?_toList]
    simp
   rw [e]; exact this
def entB (fn : Func) : Bool:=(!(fn.name == "runtime.NumGoroutine")) && fn.body.isSome
theorem ent_of {f : Nat} {fn : Func} (hf : P.funcs[f]? = some fn) (h : entB fn = true) : Ent P f:=by
 intro args w
 simp only [entB,Bool.and_eq_true,Bool.not_eq_true'] at h
 obtain ⟨h1,h2⟩:=h
 have h1 : ¬ fn.name = "runtime.NumGoroutine":=by simpa using h1
 have h3 : ¬ fn.body = none:=by intro e; rw [e] at h2; cases h2
 simp [callFunc,program,Sem.run,hf,h1,h3]
theorem pc_of (hT : TdOK P T) (hm : P.follows .mixedOrders = true) {f : Nat} {fn : Func} {c : Code} (hf : P.funcs[f]? = some fn) (hE : entB fn = true) (hb : fn.body = some c) {rs : List ResultVar} (hrs : fn.results = rs.toArray) (xs : List IV) (Q : IV → Prop)
  (hd : codeOK fn.ntmps c = true) (hl : Nat.ble xs.length fn.ntmps = true) (hv : vcC P T c (t0 (xs.map .im)) [] (RetK T rs fun x H=>orF (fz H (fun _=>true) 8 x) Q)) : Pc P f xs Q:=by
 have hl:=Nat.le_of_ble_eq_true hl
 refine .inl ⟨ent_of hf hE,fun B w vs hB hG hc=>calls_of_wp hf hb ?_⟩
 have hsz : vs.toArray.size = xs.length:=by simp [hc.1]
 have lies : Lies [] B w []:=⟨rfl,fun i o u h=>by simp at h,hB,fun i o u g h=>by simp at h,fun i u h=>by simp at h,fun i j o p u v g h=>by simp at h,hG.keep fun b _ hn=>⟨fun hm=>by rcases hm with hm | ⟨i,o,u,h,_⟩ <;> first | exact hn hm | simp at h,rfl⟩⟩
 have st : St fn.ntmps (fun _=>False) B w [] T.mv [] (t0 (xs.map .im)) [] { tmps:=vs.toArray ++ Array.replicate (fn.ntmps - vs.toArray.size) undef,defers:=[] } w:=by
  refine ⟨rfl,by simp only [Array.size_append,Array.size_replicate]; omega,fun j=>t0_sound _ ?_ j,lies,Kept.refl _ _,fun b ⟨i,o,u,h,_⟩=>(by simp at h),fun i u _ h=>(by simp at h)⟩
  exact CiL.cn (hc.keep fun b _ hn=>⟨fun hm=>by rcases hm with hm | ⟨i,o,u,h,_⟩ <;> first | exact hn hm | simp at h,rfl⟩)
 have fin : ∀ {t : Nat → AV} {H : List AO} {μ : List Value} {a : Act} {w' : World},St fn.ntmps (fun _=>False) B w [] T.mv μ t H a w' → orF (retv T rs t H) (fun x=>orF (fz H (fun _=>true) 8 x) Q) →
   a.defers = [] ∧ ∃ v,(results fn a.tmps).run P w' = .ok v w' ∧ ∃ r v',Ending.returned v = .returned v' ∧ Q r ∧ Ci B w' r v' ∧ Below w.heap.size w w':=by
  intro t H μ a w' h hk
  cases hx : retv T rs t H with
  | none=>rw [hx] at hk; exact hk.elim
  | some x=>
   rw [hx] at hk
   obtain ⟨v,e1,e2⟩:=retv_sound hT hrs h hx
   simp only [orF] at hk
   split at hk
   ·rename_i r hr
    refine ⟨h.dfr,v,e1,r,v,rfl,hk,fz_sound h.lies (fun b hb=>.inl hb) (fun i o u g h1 h2 h3 h4 _=>h.lies.sep i o u g h1 h2 h3 h4) 8 x r v hr e2,h.kept.below⟩
   ·exact hk.elim
 refine wp_mono (vcC_sound hT hm c hd st hv) ?_
 rintro e a w' ⟨μ,t,H,hk,h⟩
 cases e with
 | normal=>exact fin h hk
 | ret=>exact fin h hk
 | _=>exact hk.elim
structure EndE (R : Nat → Bool) (Q : AV → List AO → Prop) (x : AV) (H : List AO) : Prop where
 out : ∃ g,gOK R g H = true ∧ Q (gA g H x) (gH g H)
theorem ec_of (hT : TdOK P T) (hm : P.follows .mixedOrders = true) {f : Nat} {fn : Func} {c : Code} (hf : P.funcs[f]? = some fn) (hE : entB fn = true) (hb : fn.body = some c) {rs : List ResultVar} (hrs : fn.results = rs.toArray) (H : List AO) (xs : List AV) (Q : AV → List AO → Prop)
  (hd : codeOK fn.ntmps c = true) (hl : Nat.ble xs.length fn.ntmps = true) (hv : vcC P T c (t0 xs) H (RetK T rs (EndE T.mv Q))) : Ec P f T.mv H xs Q:=by
 have hl:=Nat.le_of_ble_eq_true hl
 refine ⟨ent_of hf hE,fun B w μ vs lies hc=>calls_of_wp hf hb ?_⟩
 have hsz : vs.toArray.size = xs.length:=by simp [hc.1]
 have st : St fn.ntmps (Own' μ H) B w μ T.mv μ (t0 xs) H { tmps:=vs.toArray ++ Array.replicate (fn.ntmps - vs.toArray.size) undef,defers:=[] } w:=
  ⟨rfl,by simp only [Array.size_append,Array.size_replicate]; omega,fun j=>t0_sound _ hc j,lies,Kept.refl _ _,fun b hb=>.inl hb,fun i u _ h=>h⟩
 have fin : ∀ {t : Nat → AV} {H' : List AO} {μ' : List Value} {a : Act} {w' : World},St fn.ntmps (Own' μ H) B w μ T.mv μ' t H' a w' → orF (retv T rs t H') (fun x=>EndE T.mv Q x H') →
   a.defers = [] ∧ ∃ v,(results fn a.tmps).run P w' = .ok v w' ∧ ∃ μ' H' x v',Ending.returned v = .returned v' ∧ Q x H' ∧ Lies μ' B w' H' ∧ Cn μ' (Mut μ' B H') w' x v' ∧ Kept (Own' μ H) w w' ∧ (∀ b,Own' μ' H' b → Own' μ H b ∨ w.heap.size ≤ b) ∧
    ∀ (i : Nat) u,T.mv i = false → μ[i]? = some u → μ'[i]? = some u:=by
  intro t H' μ' a w' h hk
  cases hx : retv T rs t H' with
  | none=>rw [hx] at hk; exact hk.elim
  | some x=>
   rw [hx] at hk
   obtain ⟨v,e1,e2⟩:=retv_sound hT hrs h hx
   obtain ⟨g,hg,hq⟩:=hk.out
   refine ⟨h.dfr,v,e1,?_⟩
   cases g with
   | none=>exact ⟨_,_,_,v,rfl,hq,h.lies,e2,h.kept,h.new,h.fix⟩
   | some ps=>
    have h':=h.gc hg
    simp only [gOK,gcOK,Bool.and_eq_true] at hg
    exact ⟨_,_,_,v,rfl,hq,h'.lies,gcA_sound h.lies hg.1.2 6 x v e2,h'.kept,h'.new,h'.fix⟩
 refine wp_mono (vcC_sound hT hm c hd st hv) ?_
 rintro e a w' ⟨μ,t,H,hk,h⟩
 cases e with
 | normal=>exact fin h hk
 | ret=>exact fin h hk
 | _=>exact hk.elim
structure EndF (e k : Nat) (Q : Nat → List Value → Prop) (x : AV) (H : List AO) : Prop where
 out : ∃ i n us,x = .own i ∧ H[i]? = some (.row e k n (us.map .raw)) ∧ Q n us
theorem fc_of (hT : TdOK P T) (hm : P.follows .mixedOrders = true) {f : Nat} {fn : Func} {c : Code} (hf : P.funcs[f]? = some fn) (hE : entB fn = true) (hb : fn.body = some c) {rs : List ResultVar} (hrs : fn.results = rs.toArray) (xs : List IV) (e k : Nat) (Q : Nat → List Value → Prop)
  (hd : codeOK fn.ntmps c = true) (hl : Nat.ble xs.length fn.ntmps = true) (hv : vcC P T c (t0 (xs.map .im)) [] (RetK T rs (EndF e k Q))) : Fc P f xs e k Q:=by
 have hl:=Nat.le_of_ble_eq_true hl
 refine ⟨ent_of hf hE,fun B w vs hB hG hc=>calls_of_wp hf hb ?_⟩
 have hsz : vs.toArray.size = xs.length:=by simp [hc.1]
 have lies : Lies [] B w []:=⟨rfl,fun i o u h=>by simp at h,hB,fun i o u g h=>by simp at h,fun i u h=>by simp at h,fun i j o p u v g h=>by simp at h,hG.keep fun b _ hn=>⟨fun hm=>by rcases hm with hm | ⟨i,o,u,h,_⟩ <;> first | exact hn hm | simp at h,rfl⟩⟩
 have st : St fn.ntmps (fun _=>False) B w [] T.mv [] (t0 (xs.map .im)) [] { tmps:=vs.toArray ++ Array.replicate (fn.ntmps - vs.toArray.size) undef,defers:=[] } w:=by
  refine ⟨rfl,by simp only [Array.size_append,Array.size_replicate]; omega,fun j=>t0_sound _ ?_ j,lies,Kept.refl _ _,fun b ⟨i,o,u,h,_⟩=>(by simp at h),fun i u _ h=>(by simp at h)⟩
  exact CiL.cn (hc.keep fun b _ hn=>⟨fun hm=>by rcases hm with hm | ⟨i,o,u,h,_⟩ <;> first | exact hn hm | simp at h,rfl⟩)
 have fin : ∀ {t : Nat → AV} {H : List AO} {μ : List Value} {a : Act} {w' : World},St fn.ntmps (fun _=>False) B w [] T.mv μ t H a w' → orF (retv T rs t H) (fun x=>EndF e k Q x H) →
   a.defers = [] ∧ ∃ v,(results fn a.tmps).run P w' = .ok v w' ∧ ∃ v' n us,Ending.returned v = .returned v' ∧ Q n us ∧ w'.ownsRow w.heap.size e k v' n us ∧ Ones us ∧ Below w.heap.size w w':=by
  intro t H μ a w' h hk
  cases hx : retv T rs t H with
  | none=>rw [hx] at hk; exact hk.elim
  | some x=>
   rw [hx] at hk
   obtain ⟨v,e1,e2⟩:=retv_sound hT hrs h hx
   obtain ⟨i,n,us,rfl,ho,hq⟩:=EndF.out hk
   cases e2 with
   | own hi=>
    obtain ⟨vs',k1,k2,k3⟩:=h.lies.obj _ _ _ ho hi
    have : vs' = us:=by
     apply List.ext_getElem?
     intro j
     by_cases hj : j < us.length
     ·obtain ⟨z,hz,hn⟩:=k2.at (j:=j) (x:=.raw us[j]) (by simp [hj])
      cases hn
      rw [hz]; simp [hj]
     ·rw [List.getElem?_eq_none (by have:=k2.1; simp at this; omega),List.getElem?_eq_none (by omega)]
    subst this
    refine ⟨h.dfr,v,e1,v,n,vs',rfl,hq,⟨k1.1,k1.2.imp id fun ⟨g,cap,cur,q1,q2,q3⟩=>⟨g,cap,cur,q1,?_,q3⟩⟩,k3,h.kept.below⟩
    subst q1
    rcases h.new g ⟨i,_,_,ho,rfl,hi,rfl⟩ with hf | hf
    ·exact hf.elim
    ·exact hf
 refine wp_mono (vcC_sound hT hm c hd st hv) ?_
 rintro e a w' ⟨μ,t,H,hk,h⟩
 cases e with
 | normal=>exact fin h hk
 | ret=>exact fin h hk
 | _=>exact hk.elim
end
end Go.Proofs.YtlhmaljjdpjkgaaGreatDoor
