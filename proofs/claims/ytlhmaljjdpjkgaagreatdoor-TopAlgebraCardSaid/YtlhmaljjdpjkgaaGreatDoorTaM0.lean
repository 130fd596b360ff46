/- The steps of a proof over code. -/
import Derived.KernelRfl
import Derived.Test.YtlhmaljjdpjkgaaGreatDoorProg
import Derived.Test.YtlhmaljjdpjkgaaGreatDoorTaM6
import Derived.Test.YtlhmaljjdpjkgaaGreatDoorTaM1
import Derived.Test.YtlhmaljjdpjkgaaGreatDoorTaM2
namespace Go.Proofs.YtlhmaljjdpjkgaaGreatDoor
open Go Go.RowKit
section
variable {P : Program} {T : TT}
theorem cl {f : Nat} {ivs : List IV} {Q : IV → Prop} {tc : Option (List Nat)} {xs : List AV} {H : List AO} {k : Mv → AV → List AO → Prop} (h : Pc P f ivs Q) (hz : fzL (fz H (isIn []) 6) xs = some ivs) (hk : ∀ r,Q r → k .no (.im r) H) : callsP P T tc f xs H k:=
 ⟨.inl ⟨[],ivs,rfl,hz,.inl ⟨Q,h,hk⟩⟩⟩
theorem ce {f : Nat} {ivs : List IV} {y : IV} {tc : Option (List Nat)} {xs : List AV} {H : List AO} {k : Mv → AV → List AO → Prop} (h : Pc P f ivs (· = y)) (hz : fzL (fz H (isIn []) 6) xs = some ivs) (hk : k .no (.im y) H) : callsP P T tc f xs H k:=
 cl h hz fun _ e=>by subst e; exact hk
theorem cf {f : Nat} {ivs : List IV} {e m : Nat} {Q : Nat → List Value → Prop} {tc : Option (List Nat)} {xs : List AV} {H : List AO} {k : Mv → AV → List AO → Prop} (h : Fc P f ivs e m Q) (hz : fzL (fz H (isIn []) 6) xs = some ivs) (hk : ∀ n us,Q n us → k .no (.own H.length) (H ++ [.row e m n (us.map .raw)])) : callsP P T tc f xs H k:=
 ⟨.inl ⟨[],ivs,rfl,hz,.inr ⟨e,m,Q,h,hk⟩⟩⟩
theorem clk (ks : List Nat) {f : Nat} {ivs : List IV} {Q : IV → Prop} {tc : Option (List Nat)} {xs : List AV} {H : List AO} {k : Mv → AV → List AO → Prop} (h : Pc P f ivs Q) (h0 : ks.all (okT tc) = true) (hz : fzL (fz H (isIn ks) 6) xs = some ivs) (hk : ∀ r,Q r → k .no (.im r) (kill ks H)) : callsP P T tc f xs H k:=
 ⟨.inl ⟨ks,ivs,h0,hz,.inl ⟨Q,h,hk⟩⟩⟩
theorem cx (m : Nat) {f : Nat} {R : Nat → Bool} {Hl : List AO} {xl : List AV} {Q : AV → List AO → Prop} {tc : Option (List Nat)} {xs : List AV} {H : List AO} {k : Mv → AV → List AO → Prop} (h : Ec P f R Hl xl Q) (hH : H.take m = Hl) (hx : xs = xl) (h1 : lendOK tc T.mv R [] m H xs = true)
  (hk : ∀ x H',Q x H' → (H'.length = m ∨ m = H.length) ∧ k .no x (H' ++ H.drop m)) : callsP P T tc f xs H k:=
 ⟨.inr ⟨none,m,[],R,Q,.inr ⟨rfl,rfl⟩,rfl,h1,by subst hH hx; exact h,hk⟩⟩
def Is (x : AV) (H : List AO) : AV → List AO → Prop:=fun x' H'=>x' = x ∧ H' = H
theorem cxe (m : Nat) {f : Nat} {R : Nat → Bool} {Hl H2 : List AO} {xl : List AV} {x : AV} {tc : Option (List Nat)} {xs : List AV} {H : List AO} {k : Mv → AV → List AO → Prop} (h : Ec P f R Hl xl (Is x H2)) (hH : H.take m = Hl) (hx : xs = xl) (h1 : lendOK tc T.mv R [] m H xs = true)
  (h2 : H2.length = m ∨ m = H.length) (hk : k .no x (H2 ++ H.drop m)) : callsP P T tc f xs H k:=
 cx m h hH hx h1 fun _ _ e=>by obtain ⟨rfl,rfl⟩:=e; exact ⟨h2,hk⟩
theorem cxg (ps : List Nat) (m : Nat) (mv : List Nat) {f : Nat} {R : Nat → Bool} {Hl : List AO} {xl : List AV} {Q : AV → List AO → Prop} {xs : List AV} {H : List AO} {k : Mv → AV → List AO → Prop} (h : Ec P f R Hl xl Q) (h0 : gcOK T.mv H ps = true) (hH : (gcH H ps).take m = Hl) (hx : xs.map (gcA H ps 6) = xl) (h1 : lendOK none T.mv R mv m (gcH H ps) (xs.map (gcA H ps 6)) = true)
  (hk : ∀ x H',Q x H' → (H'.length = m ∨ m = (gcH H ps).length) ∧ k (.gc H ps mv) x (H' ++ stlH mv ((gcH H ps).drop m))) : callsP P T none f xs H k:=
 ⟨.inr ⟨some ps,m,mv,R,Q,.inl rfl,h0,h1,by subst hH hx; exact h,hk⟩⟩
def own (m : Nat) : Nat → Bool:=fun i=>Nat.ble m i
def ownm (m : Nat) (mv : List Nat) : Nat → Bool:=fun i=>Nat.ble m i || isIn mv i
theorem rg (l : List Nat) (an : Ann) {ops : Array Oper} {t : Nat → AV} {H : List AO} {K : (Nat → AV) → List AO → Prop} (hp : planOK ops an l (Array.replicate ops.size false) = true) (hl : Nat.ble l.length ops.size = true) (h : vcP P T ops an l t H K) : Reg P T ops t H K:=
 ⟨⟨t,H,.refl t H,.inl ⟨l,an,hp,Nat.le_of_ble_eq_true hl,h⟩⟩⟩
def dA (ops : Array Oper) : Ann:=fun j=>([],match ops[j]? with
 | some o=>match o.op with
  | .store _ _ _=>none
  | .call c=>match c.callee with
   | .value _=>some []
   | .builtin .len=>some []
   | _=>none
  | _=>some []
 | none=>none)
theorem rq (l : List Nat) {ops : Array Oper} {t : Nat → AV} {H : List AO} {K : (Nat → AV) → List AO → Prop} (h : vcP P T ops (dA ops) l t H K) (hp : planOK ops (dA ops) l (Array.replicate ops.size false) = true:=by kernel_rfl) (hl : Nat.ble l.length ops.size = true:=by rfl) : Reg P T ops t H K:=
 rg l _ hp hl h
def dB (l : List (Nat × List Nat × Option (List Nat))) (ops : Array Oper) : Ann:=fun j=>match l.find? (fun p=>Nat.beq p.1 j) with
 | some p=>p.2
 | none=>dA ops j
def PT.app : List Nat → PT → PT
 | [],p=>p
 | i :: l,p=>.on i (PT.app l p)
theorem rt (l : PT) {ops : Array Oper} {t : Nat → AV} {H : List AO} {K : (Nat → AV) → List AO → Prop} (h : vcT P T ops (dA ops) l t H K) (hp : planT ops (dA ops) l (Array.replicate ops.size false) = true:=by kernel_rfl) (hl : Nat.ble l.dep ops.size = true:=by rfl) : Reg P T ops t H K:=
 ⟨⟨t,H,.refl t H,.inr ⟨l,_,hp,Nat.le_of_ble_eq_true hl,h⟩⟩⟩
theorem rqa (l : List Nat) (an : List (Nat × List Nat × Option (List Nat))) {ops : Array Oper} {t : Nat → AV} {H : List AO} {K : (Nat → AV) → List AO → Prop} (h : vcP P T ops (dB an ops) l t H K) (hp : planOK ops (dB an ops) l (Array.replicate ops.size false) = true:=by kernel_rfl) (hl : Nat.ble l.length ops.size = true:=by rfl) : Reg P T ops t H K:=
 rg l _ hp hl h
theorem rta (l : PT) (an : List (Nat × List Nat × Option (List Nat))) {ops : Array Oper} {t : Nat → AV} {H : List AO} {K : (Nat → AV) → List AO → Prop} (h : vcT P T ops (dB an ops) l t H K) (hp : planT ops (dB an ops) l (Array.replicate ops.size false) = true:=by kernel_rfl) (hl : Nat.ble l.dep ops.size = true:=by rfl) : Reg P T ops t H K:=
 ⟨⟨t,H,.refl t H,.inr ⟨l,_,hp,Nat.le_of_ble_eq_true hl,h⟩⟩⟩
theorem rgc (ps : List Nat) {ops : Array Oper} {t : Nat → AV} {H : List AO} {K : (Nat → AV) → List AO → Prop} (hg : gcOK T.mv H ps = true) (h : Reg P T ops (gcT H ps t) (gcH H ps) K) : Reg P T ops t H K:=by
 obtain ⟨t',H',h1,h2⟩:=h.out
 exact ⟨⟨t',H',.gc hg h1,h2⟩⟩
theorem ift {x : AV} {A B : Prop} {b : Bool} (hx : x = .im (.raw (.bool b))) (hb : b = true) (h : A) : vcIf x A B:=by
 subst hx hb; exact ⟨⟨fun _=>h,fun h=>(by cases h)⟩⟩
theorem iff_ {x : AV} {A B : Prop} {b : Bool} (hx : x = .im (.raw (.bool b))) (hb : b = false) (h : B) : vcIf x A B:=by
 subst hx hb; exact ⟨⟨fun h=>(by cases h),fun _=>h⟩⟩
theorem ifs {x : AV} {A B : Prop} {b : Bool} (hx : x = .im (.raw (.bool b))) (h : b = true → A) (k : b = false → B) : vcIf x A B:=by
 subst hx; exact ⟨⟨h,k⟩⟩
theorem lp {σ : Type} (I : σ → (Nat → AV) → List AO → Prop) (m : σ → Nat) (s : σ) {R : Nat → Bool} {F : (Nat → AV) → List AO → KK → Prop} {t : Nat → AV} {H : List AO} {K : KK} (h0 : I s t H) (hr : ∀ s t H,I s t H → F t H (rndK R I m s K)) : Loop R F t H K:=
 ⟨⟨σ,I,m,s,t,H,.refl _ _,h0,hr⟩⟩
theorem nx {σ : Type} {R : Nat → Bool} {I : σ → (Nat → AV) → List AO → Prop} {m : σ → Nat} {s : σ} {t : Nat → AV} {H : List AO} (s' : σ) (hm : m s' < m s) (h : I s' t H) : Nx R I m s t H:=⟨⟨s',none,rfl,h,hm⟩⟩
theorem nxg (ps : List Nat) {σ : Type} {R : Nat → Bool} {I : σ → (Nat → AV) → List AO → Prop} {m : σ → Nat} {s : σ} {t : Nat → AV} {H : List AO} (s' : σ) (hm : m s' < m s) (hg : gcOK R H ps = true) (h : I s' (gcT H ps t) (gcH H ps)) : Nx R I m s t H:=⟨⟨s',some ps,hg,h,hm⟩⟩
theorem lgc (ps : List Nat) {R : Nat → Bool} {F : (Nat → AV) → List AO → KK → Prop} {t : Nat → AV} {H : List AO} {K : KK} (hg : gcOK R H ps = true) (h : Loop R F (gcT H ps t) (gcH H ps) K) : Loop R F t H K:=by
 obtain ⟨σ,I,m,s,t',H',h1,h2⟩:=h.out
 exact ⟨⟨σ,I,m,s,t',H',.gc hg h1,h2⟩⟩
theorem lfv (j e k : Nat) {R : Nat → Bool} {F : (Nat → AV) → List AO → KK → Prop} {t : Nat → AV} {H : List AO} {K : KK} (hj : t j = nilA) (h : Loop R F (lfvT j H.length t) (H ++ [.row e k 0 []]) K) : Loop R F t H K:=by
 obtain ⟨σ,I,m,s,t',H',h1,h2⟩:=h.out
 exact ⟨⟨σ,I,m,s,t',H',.lfv hj h1,h2⟩⟩
theorem lfb (b j e k : Nat) {e0 : Nat} {cs : List AV} {R : Nat → Bool} {F : (Nat → AV) → List AO → KK → Prop} {t : Nat → AV} {H : List AO} {K : KK} (hb : H[b]? = some (.box e0 cs)) (hj : cs[j]? = some nilA) (h : Loop R F t (H.set b (.box e0 (cs.set j (.own H.length))) ++ [.row e k 0 []]) K) : Loop R F t H K:=by
 obtain ⟨σ,I,m,s,t',H',h1,h2⟩:=h.out
 exact ⟨⟨σ,I,m,s,t',H',.lfb hb hj h1,h2⟩⟩
def Ts : List (Nat × AV) → (Nat → AV) → Prop
 | [],_=>True
 | (i,x) :: l,t=>t i = x ∧ Ts l t
theorem tsr {l : List (Nat × AV)} {t : Nat → AV} (h : l.map (fun p=>t p.1) = l.map (·.2)) : Ts l t:=by
 induction l with
 | nil=>trivial
 | cons p l ih=>
  simp only [List.map_cons,List.cons.injEq] at h
  exact ⟨h.1,ih h.2⟩
def mkT : List (Nat × AV) → (Nat → AV) → Nat → AV
 | [],t=>t
 | (i,x) :: l,t=>fun j=>bif Nat.beq j i then x else mkT l t j
theorem Ts.mk {l : List (Nat × AV)} {t : Nat → AV} (h : Ts l t) : t = mkT l t:=by
 induction l with
 | nil=>rfl
 | cons p l ih=>
  obtain ⟨i,x⟩:=p
  have:=ih h.2
  funext j
  simp only [mkT]
  cases hb : Nat.beq j i with
  | true=>have:=beq_of hb; subst this; exact h.1
  | false=>simp only [cond_false]; exact congrFun this j
structure At {σ : Type} (I : σ → Prop) (l : σ → List (Nat × AV)) (h : σ → List AO) (s : σ) (t : Nat → AV) (H : List AO) : Prop where
 i : I s
 t : Ts (l s) t
 h : H = h s
theorem lpt {σ : Type} (I : σ → Prop) (l : σ → List (Nat × AV)) (h : σ → List AO) (m : σ → Nat) (s : σ) {R : Nat → Bool} {F : (Nat → AV) → List AO → KK → Prop} {t : Nat → AV} {H : List AO} {K : KK} (h0 : I s) (ht : Ts (l s) t) (hh : H = h s)
  (hr : ∀ s t,I s → F (mkT (l s) t) (h s) (rndK R (At I l h) m s K)) : Loop R F t H K:=
 lp (At I l h) m s ⟨h0,ht,hh⟩ fun s t H hs=>by
  have e:=hs.t.mk
  rw [e,hs.h]; exact hr s t hs.i
structure At2 {α β : Type} (I : α → β → Prop) (l : α → β → List (Nat × AV)) (h : α → β → List AO) (s : α × β) (t : Nat → AV) (H : List AO) : Prop where
 i : I s.1 s.2
 t : Ts (l s.1 s.2) t
 h : H = h s.1 s.2
def ms2 {α β : Type} (m : α → β → Nat) (s : α × β) : Nat:=m s.1 s.2
theorem lpt2 {α β : Type} (I : α → β → Prop) (l : α → β → List (Nat × AV)) (h : α → β → List AO) (m : α → β → Nat) (a : α) (b : β) {R : Nat → Bool} {F : (Nat → AV) → List AO → KK → Prop} {t : Nat → AV} {H : List AO} {K : KK} (h0 : I a b) (ht : Ts (l a b) t) (hh : H = h a b)
  (hr : ∀ a b t,I a b → F (mkT (l a b) t) (h a b) (rndK R (At2 I l h) (ms2 m) (a,b) K)) : Loop R F t H K:=
 lp (At2 I l h) (ms2 m) (a,b) ⟨h0,ht,hh⟩ fun s t H hs=>by
  obtain ⟨a,b⟩:=s
  have e:=hs.t.mk
  rw [e,hs.h]; exact hr a b t hs.i
theorem nx2 {α β : Type} {I : α → β → Prop} {l : α → β → List (Nat × AV)} {h : α → β → List AO} {m : α → β → Nat} {a : α} {b : β} {R : Nat → Bool} {t : Nat → AV} {H : List AO} (a' : α) (b' : β) (hm : m a' b' < m a b) (h0 : I a' b') (ht : Ts (l a' b') t) (hh : H = h a' b') : Nx R (At2 I l h) (ms2 m) (a,b) t H:=
 nx (a',b') hm ⟨h0,ht,hh⟩
theorem nxg2 (ps : List Nat) {α β : Type} {I : α → β → Prop} {l : α → β → List (Nat × AV)} {h : α → β → List AO} {m : α → β → Nat} {a : α} {b : β} {R : Nat → Bool} {t : Nat → AV} {H : List AO} (a' : α) (b' : β) (hm : m a' b' < m a b) (hg : gcOK R H ps = true) (h0 : I a' b') (ht : Ts (l a' b') (gcT H ps t)) (hh : gcH H ps = h a' b') : Nx R (At2 I l h) (ms2 m) (a,b) t H:=
 nxg ps (a',b') hm hg ⟨h0,ht,hh⟩
structure At3 {α β γ : Type} (I : α → β → γ → Prop) (l : α → β → γ → List (Nat × AV)) (h : α → β → γ → List AO) (s : α × β × γ) (t : Nat → AV) (H : List AO) : Prop where
 i : I s.1 s.2.1 s.2.2
 t : Ts (l s.1 s.2.1 s.2.2) t
 h : H = h s.1 s.2.1 s.2.2
def ms3 {α β γ : Type} (m : α → β → γ → Nat) (s : α × β × γ) : Nat:=m s.1 s.2.1 s.2.2
theorem lpt3 {α β γ : Type} (I : α → β → γ → Prop) (l : α → β → γ → List (Nat × AV)) (h : α → β → γ → List AO) (m : α → β → γ → Nat) (a : α) (b : β) (c : γ) {R : Nat → Bool} {F : (Nat → AV) → List AO → KK → Prop} {t : Nat → AV} {H : List AO} {K : KK} (h0 : I a b c) (ht : Ts (l a b c) t) (hh : H = h a b c)
  (hr : ∀ a b c t,I a b c → F (mkT (l a b c) t) (h a b c) (rndK R (At3 I l h) (ms3 m) (a,b,c) K)) : Loop R F t H K:=
 lp (At3 I l h) (ms3 m) (a,b,c) ⟨h0,ht,hh⟩ fun s t H hs=>by
  obtain ⟨a,b,c⟩:=s
  have e:=hs.t.mk
  rw [e,hs.h]; exact hr a b c t hs.i
theorem nx3 {α β γ : Type} {I : α → β → γ → Prop} {l : α → β → γ → List (Nat × AV)} {h : α → β → γ → List AO} {m : α → β → γ → Nat} {a : α} {b : β} {c : γ} {R : Nat → Bool} {t : Nat → AV} {H : List AO} (a' : α) (b' : β) (c' : γ) (hm : m a' b' c' < m a b c) (h0 : I a' b' c') (ht : Ts (l a' b' c') t) (hh : H = h a' b' c') : Nx R (At3 I l h) (ms3 m) (a,b,c) t H:=
 nx (a',b',c') hm ⟨h0,ht,hh⟩
theorem nxg3 (ps : List Nat) {α β γ : Type} {I : α → β → γ → Prop} {l : α → β → γ → List (Nat × AV)} {h : α → β → γ → List AO} {m : α → β → γ → Nat} {a : α} {b : β} {c : γ} {R : Nat → Bool} {t : Nat → AV} {H : List AO} (a' : α) (b' : β) (c' : γ) (hm : m a' b' c' < m a b c) (hg : gcOK R H ps = true) (h0 : I a' b' c') (ht : Ts (l a' b' c') (gcT H ps t)) (hh : gcH H ps = h a' b' c') : Nx R (At3 I l h) (ms3 m) (a,b,c) t H:=
 nxg ps (a',b',c') hm hg ⟨h0,ht,hh⟩
structure At4 {α β γ δ : Type} (I : α → β → γ → δ → Prop) (l : α → β → γ → δ → List (Nat × AV)) (h : α → β → γ → δ → List AO) (s : α × β × γ × δ) (t : Nat → AV) (H : List AO) : Prop where
 i : I s.1 s.2.1 s.2.2.1 s.2.2.2
 t : Ts (l s.1 s.2.1 s.2.2.1 s.2.2.2) t
 h : H = h s.1 s.2.1 s.2.2.1 s.2.2.2
def ms4 {α β γ δ : Type} (m : α → β → γ → δ → Nat) (s : α × β × γ × δ) : Nat:=m s.1 s.2.1 s.2.2.1 s.2.2.2
theorem lpt4 {α β γ δ : Type} (I : α → β → γ → δ → Prop) (l : α → β → γ → δ → List (Nat × AV)) (h : α → β → γ → δ → List AO) (m : α → β → γ → δ → Nat) (a : α) (b : β) (c : γ) (d : δ) {R : Nat → Bool} {F : (Nat → AV) → List AO → KK → Prop} {t : Nat → AV} {H : List AO} {K : KK} (h0 : I a b c d) (ht : Ts (l a b c d) t) (hh : H = h a b c d)
  (hr : ∀ a b c d t,I a b c d → F (mkT (l a b c d) t) (h a b c d) (rndK R (At4 I l h) (ms4 m) (a,b,c,d) K)) : Loop R F t H K:=
 lp (At4 I l h) (ms4 m) (a,b,c,d) ⟨h0,ht,hh⟩ fun s t H hs=>by
  obtain ⟨a,b,c,d⟩:=s
  have e:=hs.t.mk
  rw [e,hs.h]; exact hr a b c d t hs.i
theorem nx4 {α β γ δ : Type} {I : α → β → γ → δ → Prop} {l : α → β → γ → δ → List (Nat × AV)} {h : α → β → γ → δ → List AO} {m : α → β → γ → δ → Nat} {a : α} {b : β} {c : γ} {d : δ} {R : Nat → Bool} {t : Nat → AV} {H : List AO} (a' : α) (b' : β) (c' : γ) (d' : δ) (hm : m a' b' c' d' < m a b c d) (h0 : I a' b' c' d') (ht : Ts (l a' b' c' d') t) (hh : H = h a' b' c' d') : Nx R (At4 I l h) (ms4 m) (a,b,c,d) t H:=
 nx (a',b',c',d') hm ⟨h0,ht,hh⟩
theorem nxg4 (ps : List Nat) {α β γ δ : Type} {I : α → β → γ → δ → Prop} {l : α → β → γ → δ → List (Nat × AV)} {h : α → β → γ → δ → List AO} {m : α → β → γ → δ → Nat} {a : α} {b : β} {c : γ} {d : δ} {R : Nat → Bool} {t : Nat → AV} {H : List AO} (a' : α) (b' : β) (c' : γ) (d' : δ) (hm : m a' b' c' d' < m a b c d) (hg : gcOK R H ps = true) (h0 : I a' b' c' d') (ht : Ts (l a' b' c' d') (gcT H ps t)) (hh : gcH H ps = h a' b' c' d') : Nx R (At4 I l h) (ms4 m) (a,b,c,d) t H:=
 nxg ps (a',b',c',d') hm hg ⟨h0,ht,hh⟩
theorem fin (ps : List Nat) {R : Nat → Bool} {Q : AV → List AO → Prop} {x : AV} {H : List AO} (hg : gcOK R H ps = true) (h : Q (gcA H ps 6 x) (gcH H ps)) : EndE R Q x H:=⟨⟨some ps,hg,h⟩⟩
theorem fin0 {R : Nat → Bool} {Q : AV → List AO → Prop} {x : AV} {H : List AO} (h : Q x H) : EndE R Q x H:=⟨⟨none,rfl,h⟩⟩
theorem vcP_mono {ops : Array Oper} {an : Ann} : ∀ (l : List Nat) {t : Nat → AV} {H : List AO} {K K' : (Nat → AV) → List AO → Prop},(∀ t H,K t H → K' t H) → vcP P T ops an l t H K → vcP P T ops an l t H K'
 | [],_,_,_,_,hk,h=>hk _ _ h
 | i :: l,_,_,_,_,hk,h=>by
  simp only [vcP] at h ⊢
  split at h
  ·exact vcG_mono (fun t H h=>vcP_mono l hk h) h
  ·exact h.elim
theorem vcT_mono {ops : Array Oper} {an : Ann} : ∀ (l : PT) {t : Nat → AV} {H : List AO} {K K' : (Nat → AV) → List AO → Prop},(∀ t H,K t H → K' t H) → vcT P T ops an l t H K → vcT P T ops an l t H K'
 | .nil,_,_,_,_,hk,h=>hk _ _ h
 | .on i l,_,_,_,_,hk,h=>by
  simp only [vcT] at h ⊢
  split at h
  ·exact vcG_mono (fun t H h=>vcT_mono l hk h) h
  ·exact h.elim
 | .br i p j q,_,_,_,_,hk,h=>by
  simp only [vcT] at h ⊢
  split at h
  ·exact ⟨vcG_mono (fun t H h=>vcT_mono p hk h) h.l,vcG_mono (fun t H h=>vcT_mono q hk h) h.r⟩
  ·exact h.elim
theorem vcL_mono {ops : Array Oper} : ∀ (l : List Oper) {t : Nat → AV} {H : List AO} {K K' : (Nat → AV) → List AO → Prop},(∀ t H,K t H → K' t H) → vcL P T ops l t H K → vcL P T ops l t H K'
 | [],_,_,_,_,hk,h=>hk _ _ h
 | o :: l,_,_,_,_,hk,h=>by
  simp only [vcL] at h ⊢
  exact vcG_mono (fun t H h=>vcL_mono l hk h) h
theorem vcC_mono : ∀ (c : Code) {t : Nat → AV} {H : List AO} {K K' : KK},(∀ e t H,K e t H → K' e t H) → vcC P T c t H K → vcC P T c t H K'
 | .skip,_,_,_,_,hk,h=>hk _ _ _ h
 | .label _,_,_,_,_,hk,h=>hk _ _ _ h
 | .exit _,_,_,_,_,hk,h=>hk _ _ _ h
 | .goto _,_,_,_,_,hk,h=>hk _ _ _ h
 | .ret,_,_,_,_,hk,h=>hk _ _ _ h
 | .seq a b,_,_,_,_,hk,h=>by
  refine vcC_mono a (fun e t H h=>?_) h
  cases e with
  | normal=>exact vcC_mono b hk h
  | _=>exact hk _ _ _ h
 | .cond c x y,_,_,_,_,hk,h=>by
  unfold vcC at h ⊢
  have h:=h.out
  refine ⟨?_⟩
  split at h
  ·exact ⟨fun e=>vcC_mono x hk (h.1 e),fun e=>vcC_mono y hk (h.2 e)⟩
  ·exact h.elim
 | .block id c,_,_,_,_,hk,h=>by
  refine vcC_mono c (fun e t H h=>?_) h
  cases e with
  | exit i=>
   simp only [blkK] at h ⊢
   cases hb : Nat.beq i id with
   | true=>rw [hb] at h; exact hk _ _ _ h
   | false=>rw [hb] at h; exact hk _ _ _ h
  | _=>exact hk _ _ _ h
 | .loop c,_,_,_,_,hk,h=>by
  obtain ⟨σ,I,m,s,t',H',hg,h0,hr⟩:=Loop.out h
  refine ⟨⟨σ,I,m,s,t',H',hg,h0,fun s t H hI=>vcC_mono c (fun e t H h=>?_) (hr s t H hI)⟩⟩
  cases e with
  | normal=>exact h
  | _=>exact hk _ _ _ h
 | .region id ops d,_,_,_,_,hk,h=>by
  cases d with
  | true=>
   obtain ⟨t',H',hg,⟨l,an,hp,hl,hv⟩ | ⟨l,an,hp,hl,hv⟩⟩:=Reg.out h
   ·exact ⟨⟨t',H',hg,.inl ⟨l,an,hp,hl,vcP_mono l (hk _) hv⟩⟩⟩
   ·exact ⟨⟨t',H',hg,.inr ⟨l,an,hp,hl,vcT_mono l (hk _) hv⟩⟩⟩
  | false=>exact vcL_mono _ (hk _) h
 | .rangeFunc _ _ _ _,_,_,_,_,_,h=>h.elim
 | .scope _,_,_,_,_,_,h=>h.elim
 | .refuse _,_,_,_,_,_,h=>h.elim
def LoopN (P : Program) (T : TT) (c : Code) (K : KK) : Nat → (Nat → AV) → List AO → Prop
 | 0,_,_=>False
 | n + 1,t,H=>vcC P T c t H fun e t H=>match e with
  | .normal=>LoopN P T c K n t H
  | e=>K e t H
theorem lpn (n : Nat) {c : Code} {t : Nat → AV} {H : List AO} {K : KK} (h : LoopN P T c K n t H) : Loop T.mv (fun t H K=>vcC P T c t H K) t H K:=by
 refine ⟨⟨Nat,fun s t H=>LoopN P T c K s t H,id,n,t,H,.refl _ _,h,fun s t H hI=>?_⟩⟩
 cases s with
 | zero=>exact hI.elim
 | succ s=>
  refine vcC_mono c (fun e t H h=>?_) hI
  cases e with
  | normal=>exact ⟨s,none,rfl,h,Nat.lt_succ_self s⟩
  | _=>exact h
structure Ex {σ : Type} (id : Nat) (I : σ → Prop) (l : σ → List (Nat × AV)) (h : σ → List AO) (e : Exit) (t : Nat → AV) (H : List AO) : Prop where
 out : e = .exit id ∧ ∃ s,At I l h s t H
theorem ex {σ : Type} {id : Nat} {I : σ → Prop} {l : σ → List (Nat × AV)} {h : σ → List AO} {t : Nat → AV} {H : List AO} (s : σ) (h0 : I s) (ht : Ts (l s) t) (hh : H = h s) : Ex id I l h (.exit id) t H:=⟨rfl,s,h0,ht,hh⟩
theorem lpq {σ : Type} (id : Nat) (I : σ → Prop) (l : σ → List (Nat × AV)) (h : σ → List AO) {c : Code} {t : Nat → AV} {H : List AO} {K : KK} (h1 : Loop T.mv (fun t H K=>vcC P T c t H K) t H (Ex id I l h)) (h2 : ∀ s t,I s → K (.exit id) (mkT (l s) t) (h s)) : Loop T.mv (fun t H K=>vcC P T c t H K) t H K:=
 vcC_mono (.loop c) (fun e t H hx=>by
  obtain ⟨rfl,s,hs⟩:=hx.out
  have e:=hs.t.mk
  rw [e,hs.h]; exact h2 s t hs.i) h1
theorem fr {x x' : AV} {K : AV → Prop} (e : x = x') (h : force x' K) : force x K:=e ▸ h
theorem gt {b want : Bool} {A B : Prop} (h : b = want) (hk : A) : (b = want → A) ∧ (b = !want → B):=⟨fun _=>hk,fun e=>(by subst h; cases b <;> cases e)⟩
theorem gf {b want : Bool} {A B : Prop} (h : b = !want) (hk : B) : (b = want → A) ∧ (b = !want → B):=⟨fun e=>(by subst e; cases b <;> cases h),fun _=>hk⟩
theorem tw {b : Bool} {A B : Prop} (h : b = true) (hk : A) : Two b A B:=⟨fun _=>hk,fun e=>(by rw [h] at e; cases e)⟩
theorem tf {b : Bool} {A B : Prop} (h : b = false) (hk : B) : Two b A B:=⟨fun e=>(by rw [h] at e; cases e),fun _=>hk⟩
structure Jx {σ : Type} (I : σ → Prop) (l : σ → List (Nat × AV)) (h : σ → List AO) (t : Nat → AV) (H : List AO) : Prop where
 out : ∃ s,At I l h s t H
theorem jx {σ : Type} {I : σ → Prop} {l : σ → List (Nat × AV)} {h : σ → List AO} {t : Nat → AV} {H : List AO} (s : σ) (h0 : I s) (ht : Ts (l s) t) (hh : H = h s) : Jx I l h t H:=⟨s,h0,ht,hh⟩
def Jn {σ : Type} (I : σ → Prop) (l : σ → List (Nat × AV)) (h : σ → List AO) (K : KK) : KK:=fun e t H=>
 match e with
 | .normal=>Jx I l h t H
 | e=>K e t H
theorem ifj {σ : Type} (I : σ → Prop) (l : σ → List (Nat × AV)) (h : σ → List AO) {c1 c2 : Code} {t : Nat → AV} {H : List AO} {K : KK} {v : AV} (h1 : vcIf v (vcC P T c1 t H (Jn I l h K)) (vcC P T c2 t H (Jn I l h K))) (h2 : ∀ s t,I s → K .normal (mkT (l s) t) (h s)) : vcIf v (vcC P T c1 t H K) (vcC P T c2 t H K):=by
 have m : ∀ c,vcC P T c t H (Jn I l h K) → vcC P T c t H K:=fun c=>vcC_mono c fun e t H hx=>by
  cases e with
  | normal=>
   obtain ⟨s,hs⟩:=Jx.out hx
   have e:=hs.t.mk
   rw [e,hs.h]; exact h2 s t hs.i
  | _=>exact hx
 have:=h1.out
 refine ⟨?_⟩
 split at this
 ·exact ⟨fun e=>m c1 (this.1 e),fun e=>m c2 (this.2 e)⟩
 ·exact this.elim
end
def TbL : List (Nat × TD):=[
 (57,⟨15,true,[.int .i64 0,.bool false,.slice none 0 0,.bool false,.slice none 0 0,.int .i64 0,.int .i64 0,.slice none 0 0,.slice none 0 0,.int .u64 0,.int .i64 0,.int .i64 0,.slice none 0 0,.slice none 0 0,.slice none 0 0],.st [(0,1,false),(1,4,true),(5,3,true),(8,1,false),(9,1,false),(10,3,true),(13,1,false),(14,1,false)]⟩),
 (47,⟨2,true,[.bool false,.slice none 0 0],.st [(0,1,false),(1,1,false)]⟩),
 (24,⟨3,true,[.int .i64 0,.int .i64 0,.slice none 0 0],.st [(0,1,false),(1,1,false),(2,1,false)]⟩),
 (3,⟨1,false,[.int .i64 0],.int .i64⟩),
 (49,⟨4,true,[.bool false,.slice none 0 0,.bool false,.slice none 0 0],.st [(0,2,true),(2,2,true)]⟩),
 (40,⟨3,true,[.int .i64 0,.int .i64 0,.slice none 0 0],.st [(0,1,false),(1,1,false),(2,1,false)]⟩),
 (104,⟨3,true,[.int .i64 0,.string ⟨#[]⟩,.slice none 0 0],.st [(0,1,false),(1,1,false),(2,1,false)]⟩),
 (45,⟨1,false,[.slice none 0 0],.sc 51 1 false [.int .u64 0] 8⟩),
 (55,⟨1,false,[.slice none 0 0],.sc 57 15 true [.int .i64 0,.bool false,.slice none 0 0,.bool false,.slice none 0 0,.int .i64 0,.int .i64 0,.slice none 0 0,.slice none 0 0,.int .u64 0,.int .i64 0,.int .i64 0,.slice none 0 0,.slice none 0 0,.slice none 0 0] 232⟩),
 (225,⟨2,true,[.string ⟨#[]⟩,.slice none 0 0],.st [(0,1,false),(1,1,false)]⟩),
 (230,⟨17,true,[.int .i64 0,.bool false,.slice none 0 0,.bool false,.slice none 0 0,.int .i64 0,.int .i64 0,.slice none 0 0,.slice none 0 0,.int .u64 0,.int .i64 0,.int .i64 0,.slice none 0 0,.slice none 0 0,.slice none 0 0,.int .i64 0,.bool false],.st [(0,15,true),(15,1,false),(16,1,false)]⟩),
 (9,⟨1,false,[.string ⟨#[]⟩],.str⟩),
 (51,⟨1,false,[.int .u64 0],.int .u64⟩),
 (38,⟨1,false,[.slice none 0 0],.sc 49 4 true [.bool false,.slice none 0 0,.bool false,.slice none 0 0] 64⟩),
 (22,⟨1,false,[.slice none 0 0],.sc 47 2 true [.bool false,.slice none 0 0] 32⟩),
 (59,⟨1,false,[.slice none 0 0],.sc 104 3 true [.int .i64 0,.string ⟨#[]⟩,.slice none 0 0] 48⟩),
 (53,⟨3,true,[.int .i64 0,.int .i64 0,.slice none 0 0],.st [(0,1,false),(1,1,false),(2,1,false)]⟩),
 (50,⟨1,false,[.slice none 0 0],.sc 47 2 true [.bool false,.slice none 0 0] 32⟩),
 (175,⟨1,false,[.slice none 0 0],.sc 3 1 false [.int .i64 0] 8⟩),
 (102,⟨6,true,[.slice none 0 0,.int .i64 0,.int .i64 0,.int .i64 0,.bool false,.int .i64 0],.st [(0,1,false),(1,1,false),(2,1,false),(3,1,false),(4,1,false),(5,1,false)]⟩),
 (54,⟨1,false,[.slice none 0 0],.sc 51 1 false [.int .u64 0] 8⟩),
 (4,⟨1,false,[.bool false],.bo⟩),
 (97,⟨3,true,[.int .i64 0,.string ⟨#[]⟩,.int .i64 0],.st [(0,1,false),(1,1,false),(2,1,false)]⟩),
 (100,⟨1,false,[.pointer none],.po⟩),
 (255,⟨1,true,[.int .u64 0],.st [(0,1,false)]⟩),
 (389,⟨1,false,[.slice none 0 0],.sc 38 1 false [.slice none 0 0] 24⟩),
 (463,⟨6,true,[.slice none 0 0,.int .i64 0,.slice none 0 0,.bool false,.slice none 0 0,.bool false],.st [(0,1,false),(1,1,false),(2,1,false),(3,2,true),(5,1,false)]⟩),
 (352,⟨1,false,[.slice none 0 0],.sc 22 1 false [.slice none 0 0] 24⟩),
 (70,⟨21,true,[.int .i64 0,.int .i64 0,.map none,.pointer none,.slice none 0 0,.int .i64 0,.bool false,.slice none 0 0,.bool false,.slice none 0 0,.int .i64 0,.int .i64 0,.slice none 0 0,.slice none 0 0,.int .u64 0,.int .i64 0,.int .i64 0,.slice none 0 0,.slice none 0 0,.slice none 0 0,.int .i64 0],.st [(0,1,false),(1,1,false),(2,1,false),(3,2,true),(5,15,true),(20,1,false)]⟩),
 (79,⟨1,false,[.slice none 0 0],.sc 97 3 true [.int .i64 0,.string ⟨#[]⟩,.int .i64 0] 32⟩),
 (66,⟨1,false,[.slice none 0 0],.sc 5 1 false [.int .u8 0] 1⟩),
 (44,⟨1,false,[.slice none 0 0],.sc 51 1 false [.int .u64 0] 8⟩),
 (391,⟨3,true,[.slice none 0 0,.int .i64 0,.slice none 0 0],.st [(0,1,false),(1,1,false),(2,1,false)]⟩),
 (30,⟨1,false,[.int .i64 0],.int .i64⟩),
 (121,⟨1,false,[.slice none 0 0],.sc 9 1 false [.string ⟨#[]⟩] 16⟩),
 (68,⟨2,true,[.pointer none,.slice none 0 0],.st [(0,1,false),(1,1,false)]⟩),
 (387,⟨1,false,[.pointer none],.po⟩),
 (34,⟨3,true,[.int .i64 0,.int .i64 0,.int .i64 0],.st [(0,1,false),(1,1,false),(2,1,false)]⟩),
 (184,⟨1,false,[.slice none 0 0],.sc 45 1 false [.slice none 0 0] 24⟩),
 (383,⟨1,false,[.slice none 0 0],.sc 24 3 true [.int .i64 0,.int .i64 0,.slice none 0 0] 40⟩),
 (64,⟨1,false,[.map none],.mp true [.int .i64 0,.bool false,.slice none 0 0,.bool false,.slice none 0 0,.int .i64 0,.int .i64 0,.slice none 0 0,.slice none 0 0,.int .u64 0,.int .i64 0,.int .i64 0,.slice none 0 0,.slice none 0 0,.slice none 0 0]⟩),
 (370,⟨6,true,[.bool false,.slice none 0 0,.int .i64 0,.int .i64 0,.slice none 0 0,.slice none 0 0],.st [(0,1,false),(1,1,false),(2,3,true),(5,1,false)]⟩),
 (2,⟨1,false,[.int .i64 0],.int .i64⟩),
 (5,⟨1,false,[.int .u8 0],.int .u8⟩),
 (198,⟨1,false,[.slice none 0 0],.sc 55 1 false [.slice none 0 0] 24⟩),
 (65,⟨1,false,[.pointer none],.po⟩),
 (228,⟨1,false,[.slice none 0 0],.sc 226 1 false [.nilFunc] 8⟩),
 (174,⟨1,false,[.int .u64 0],.int .u64⟩),
 (21,⟨1,false,[.int .i32 0],.int .i32⟩),
 (159,⟨4,true,[.string ⟨#[]⟩,.string ⟨#[]⟩,.string ⟨#[]⟩,.string ⟨#[]⟩],.ar 4 1 false⟩),
 (218,⟨1,false,[.pointer none],.ce⟩),
 (399,⟨1,false,[.slice none 0 0],.sc 54 1 false [.slice none 0 0] 24⟩),
 (394,⟨1,false,[.slice none 0 0],.sc 44 1 false [.slice none 0 0] 24⟩),
 (85,⟨1,false,[.pointer none],.po⟩),
 (226,⟨1,false,[.nilFunc],.ce⟩),
 (513,⟨1,false,[.slice none 0 0],.sc 2 1 false [.int .i64 0] 8⟩)]
def Tb (R : Nat → Bool) : TT:=⟨TbL,R⟩
theorem tbOK (R : Nat → Bool) : TdOK Tryz.prog (Tb R):=by
 show TdOKL Tryz.prog TbL
 unfold TdOKL; kernel_rfl
def aT : Nat → Bool:=fun _=>true
theorem pc {f : Nat} {fn : Func} {c : Code} {rs : List ResultVar} {xs : List IV} {Q : IV → Prop} (hf : Tryz.prog.funcs[f]? = some fn) (hv : vcC Tryz.prog (Tb aT) c (t0 (xs.map .im)) [] (RetK (Tb aT) rs fun x H=>orF (fz H (fun _=>true) 8 x) Q))
  (hb : fn.body = some c:=by rfl) (hrs : fn.results = rs.toArray:=by rfl) (hE : entB fn = true:=by kernel_rfl) (hd : codeOK fn.ntmps c = true:=by kernel_rfl) (hl : Nat.ble xs.length fn.ntmps = true:=by rfl) : Pc Tryz.prog f xs Q:=
 pc_of (tbOK aT) (by kernel_rfl) hf hE hb hrs xs Q hd hl hv
theorem ec {f : Nat} {fn : Func} {c : Code} {rs : List ResultVar} {R : Nat → Bool} {H : List AO} {xs : List AV} {Q : AV → List AO → Prop} (hf : Tryz.prog.funcs[f]? = some fn) (hv : vcC Tryz.prog (Tb R) c (t0 xs) H (RetK (Tb R) rs (EndE R Q)))
  (hb : fn.body = some c:=by rfl) (hrs : fn.results = rs.toArray:=by rfl) (hE : entB fn = true:=by kernel_rfl) (hd : codeOK fn.ntmps c = true:=by kernel_rfl) (hl : Nat.ble xs.length fn.ntmps = true:=by rfl) : Ec Tryz.prog f R H xs Q:=
 ec_of (tbOK R) (by kernel_rfl) hf hE hb hrs H xs Q hd hl hv
theorem fc {f : Nat} {fn : Func} {c : Code} {rs : List ResultVar} {xs : List IV} {e k : Nat} {Q : Nat → List Value → Prop} (hf : Tryz.prog.funcs[f]? = some fn) (hv : vcC Tryz.prog (Tb aT) c (t0 (xs.map .im)) [] (RetK (Tb aT) rs (EndF e k Q)))
  (hb : fn.body = some c:=by rfl) (hrs : fn.results = rs.toArray:=by rfl) (hE : entB fn = true:=by kernel_rfl) (hd : codeOK fn.ntmps c = true:=by kernel_rfl) (hl : Nat.ble xs.length fn.ntmps = true:=by rfl) : Fc Tryz.prog f xs e k Q:=
 fc_of (tbOK aT) (by kernel_rfl) hf hE hb hrs xs e k Q hd hl hv
end Go.Proofs.YtlhmaljjdpjkgaaGreatDoor
namespace Go.Proofs.YtlhmaljjdpjkgaaGreatDoor
open Go.RowKit
def RetS (w : World) (xs : List Nat) (e : Ending) (w' : World) : Prop:=∃ r,e = .returned r ∧ Sl .u64 w r xs ∧ w = w'
set_option maxHeartbeats 400000 in
theorem mul_low (v : Value) (xs : List Nat) (n : Nat) (w : World) (hv : Sl .u64 w v xs) :
  Calls Tryz.prog 114 #[v,.int .i64 n] w (RetS w (xs.take n)):=by
 obtain ⟨ao,b,off,cap,rfl,hl,hcs⟩:=hv
 have hn0 : (0 : Int) ≤ (n : Int):=Int.natCast_nonneg _
 by_cases h : xs.length ≤ n
 ·rw [List.take_of_length_le h]
  go_enter Tryz.func114,Tryz.ntmps114
  go_wp2
  go_ret
  exact ⟨_,rfl,⟨ao,b,off,cap,rfl,hl,hcs⟩,rfl⟩
 ·have hlen : (xs.take n).length = n:=by simp; omega
  have hc2:=hcs.take n
  obtain ⟨X,eX⟩ : ∃ X,X = xs.take n:=⟨_,rfl⟩
  rw [← eX] at hlen hc2 ⊢
  have EX:=Lib.hid eX
  have HL:=Lib.hid hlen
  clear eX hlen
  go_enter Tryz.func114,Tryz.ntmps114
  go_wp2
  go_ret
  exact ⟨_,rfl,⟨ao,b,off,cap,by rw [HL.out]; rfl,by rw [HL.out]; omega,hc2⟩,rfl⟩
set_option maxHeartbeats 400000 in
theorem mul_high (v : Value) (xs : List Nat) (n : Nat) (w : World) (hv : Sl .u64 w v xs) :
  Calls Tryz.prog 115 #[v,.int .i64 n] w (RetS w (xs.drop n)):=by
 obtain ⟨ao,b,off,cap,rfl,hl,hcs⟩:=hv
 have hn0 : (0 : Int) ≤ (n : Int):=Int.natCast_nonneg _
 by_cases h : xs.length ≤ n
 ·rw [List.drop_eq_nil_of_le h]
  go_enter Tryz.func115,Tryz.ntmps115
  go_wp2
  go_ret
  exact ⟨_,rfl,Sl.nil _ _,rfl⟩
 ·obtain rfl:=hcs.ao (by intro h0; subst h0; simp at h)
  have hqc : ¬ cap = n:=by omega
  have hlen : (xs.drop n).length = xs.length - n:=by simp
  have hc2 : Cs .u64 w (some ⟨b,off + n,none⟩) b (off + n) (xs.drop n):=⟨fun _=>rfl,fun j hj=>by
   have e : (xs.drop n).getD j 0 = xs.getD (n + j) 0:=by simp [List.getD,List.getElem?_drop]
   rw [e,Nat.add_assoc]; exact hcs.cell (n + j) (by simp at hj; omega)⟩
  obtain ⟨X,eX⟩ : ∃ X,X = xs.drop n:=⟨_,rfl⟩
  rw [← eX] at hlen hc2 ⊢
  have HL:=Lib.hid hlen
  clear eX hlen
  go_enter Tryz.func115,Tryz.ntmps115
  go_wp2
  go_ret
  exact ⟨_,rfl,⟨_,b,off + n,cap - n,by rw [HL.out]; rfl,by rw [HL.out]; omega,hc2⟩,rfl⟩
set_option maxHeartbeats 400000 in
theorem mul_less (v u : Value) (xs ys : List Nat) (w : World) (hv : Sl .u64 w v xs) (hu : Sl .u64 w u ys) (hm : xs.length ≤ 100000000) (hn : ys.length ≤ 100000000) (hx : wf W64 xs) (hy : wf W64 ys)
  (hge : nv W64 ys ≤ nv W64 xs) :
  Calls Tryz.prog 116 #[v,u] w (RetN w xs.length (nv W64 xs - nv W64 ys)):=by
 have HGE:=Lib.hid hge; clear hge
 go_enter Tryz.func116,Tryz.ntmps116
 go_wp2_with fail
 refine (nat_Sub_yes v u xs ys _ hv hu hm hn hx hy HGE.out).mono ?_; rintro e w1 ⟨r,z,rfl,o,m,vv,l,b⟩
 have V1:=Lib.hid vv; clear vv
 go_wp2
 go_ret
 exact ⟨r,z,rfl,o,m,V1.out,l,b⟩
theorem wp_make2 {P : Program} {ops : Array Oper} {rest : List Oper} {o : Oper} {a : Act} {Q : Exit → Act → World → Prop} (k : IntKind) (T e bytes : Nat)
  (hu : P.underlying T = some (.slice e)) (hi : (P.info? e).map (fun i=>(i.zero,i.size,i.bytes)) = some (some (.int k 0),1,bytes)) (hby : bytes ≤ 8)
  (hgd : o.guard = none) (l c : Operand) (ho : o.op = .makeSlice T l c) (kl kc : IntKind) (n m : Nat) (hnm : n ≤ m) (hm : m ≤ 1000000000)
  (w : World) (L C : Int) (hl : a.eval l = .int kl L) (hc : a.eval c = .int kc C) (hL : L = n) (hC : C = m)
  (h : ∀ (w' : World),Own k e w' w.heap.size (.slice (some ⟨w.heap.size,0,none⟩) n m) (List.replicate n 0) → Below w.heap.size w w' → wpList P ops Q rest (a.put o.dst (.slice (some ⟨w.heap.size,0,none⟩) n m)) w') :
  wpList P ops Q (o :: rest) a w:=by
 obtain ⟨i0,h1,h2,h3,h4⟩:=info_parts hi
 subst h4 hL hC
 have hb : i0.bytes * m ≤ 8 * m:=Nat.mul_le_mul_right _ hby
 have hb2 : (i0.bytes : Int) * (m : Int) ≤ 281474976710656:=by
  have h9 : ((i0.bytes * m : Nat) : Int) ≤ 281474976710656:=by omega
  rwa [Int.natCast_mul] at h9
 have hr:=run_make (P:=P) w T e i0 (.int k 0) hu h1 h2 kl kc (n : Int) (m : Int) (by omega) (by omega) hb2 (by omega)
 have hcells : (madeCells (Value.int k 0).cells (((m : Int)).toNat * i0.size)).toList = vs k (List.replicate m 0):=by
  rw [h3,vs_replicate]; simp [Value.cells,toList_madeCells_one]
 have hsz : (madeCells (Value.int k 0).cells (((m : Int)).toNat * i0.size)).size = m * 1:=by rw [size_madeCells,h3]; simp
 have hown:=World.ownsRow_lit (base:=w.heap.size) (e:=e) (size:=1) w (madeCells (Value.int k 0).cells (((m : Int)).toNat * i0.size)) m (Nat.le_refl _) (by unfold maxLen; omega) hsz
 rw [hcells] at hown
 have ho2 : Own k e (w.alloc (.cells (madeCells (Value.int k 0).cells (((m : Int)).toNat * i0.size)) e)) w.heap.size (.slice (some ⟨w.heap.size,0,none⟩) m m) (List.replicate m 0):=by
  unfold Own; rw [List.length_replicate]; exact hown
 have ho3:=ho2.take n (by simp; exact hnm)
 rw [List.take_replicate,Nat.min_eq_left hnm] at ho3
 refine wpList_plain hgd fun K hK'=>?_
 unfold Oper.wp
 simp [execOp,ho,hl,hc,hr,Result.andThen]
 exact hK' _ _ (by simpa using h _ ho3 ((Below.refl _ _).alloc (Nat.le_refl _) _))
set_option maxHeartbeats 400000 in
theorem mul_up (v : Value) (xs : List Nat) (n : Nat) (w : World) (hv : Sl .u64 w v xs) (hm : xs.length ≤ 100000000) (hn : n ≤ 100000000) (hx : wf W64 xs) :
  Calls Tryz.prog 157 #[v,.int .i64 n] w fun e w'=>∃ r zs,e = .returned r ∧ Own .u64 51 w' w.heap.size r zs ∧ wf W64 zs ∧ nv W64 zs = W64 ^ n * nv W64 xs ∧ zs.length ≤ n + xs.length ∧ Below w.heap.size w w':=by
 obtain ⟨ao,b,off,cap,rfl,hl,hcs⟩:=hv
 by_cases h : xs.length = 0
 ·have h0 : xs = []:=List.length_eq_zero_iff.1 h
  subst h0
  go_enter Tryz.func157,Tryz.ntmps157
  go_wp2
  go_ret
  exact ⟨_,[],rfl,Own.nil _ _ _ _,wf_nil _,by simp [nv],by simp,Below.refl _ _⟩
 ·obtain rfl:=hcs.ao (by intro h0; subst h0; simp at h)
  have hne : (((xs.length : Nat) : Int) == 0) = false:=by simpa using h
  have hpos : 0 < xs.length:=by omega
  clear h
  go_enter Tryz.func157,Tryz.ntmps157
  go_wp2_with (first | (at_make; refine wp_make2 .u64 45 51 8 Tryz.underlying45 (by kernel_rfl) (by decide) rfl _ _ rfl .i64 .i64 n (n + xs.length) (by omega) (by omega) _ _ _ rfl rfl (by omega) (by omega) ?_; intro w1 hown hbel; have hcs1:=hcs.below hbel (Nat.le_refl _)) | (at_builtin; refine wp_appS .u64 45 51 8 Tryz.underlying45 (by kernel_rfl) (by decide) rfl _ _ rfl _ w.heap.size _ (List.replicate n 0) xs hown (by simp; omega) hbel.size rfl _ b off cap rfl hcs1 ?_; intro v' w2 hown2 hbel2 hgr))
  go_ret
  exact ⟨_,List.replicate n 0 ++ xs,rfl,hown2,wf_append (wf_replicate0 (by decide) _) hx,by rw [nv_append,nv_replicate0]; simp,by simp,hbel.trans hbel2⟩
set_option maxHeartbeats 1000000 in
theorem mul_joined (v0 v1 v2 : Value) (x0 x1 x2 : List Nat) (n : Nat) (w : World) (s0 : Sl .u64 w v0 x0) (s1 : Sl .u64 w v1 x1) (s2 : Sl .u64 w v2 x2) (l0 : x0.length ≤ 1000000) (l1 : x1.length ≤ 1000000) (l2 : x2.length ≤ 1000000) (hn : n ≤ 1000000)
  (f0 : wf W64 x0) (f1 : wf W64 x1) (f2 : wf W64 x2) :
  Calls Tryz.prog 117 #[v0,v1,v2,.int .i64 n] w fun e w'=>∃ r zs,e = .returned r ∧ Own .u64 51 w' w.heap.size r zs ∧ Nrm W64 zs ∧ nv W64 zs = nv W64 x0 + W64 ^ n * nv W64 x1 + W64 ^ (2 * n) * nv W64 x2 ∧ Below w.heap.size w w':=by
 have hn0 : (0 : Int) ≤ (n : Int):=Int.natCast_nonneg _
 go_enter Tryz.func117,Tryz.ntmps117
 go_wp2_with fail
 refine (mul_up v1 x1 n _ s1 (by omega) (by omega) f1).mono ?_; rintro e w1 ⟨r1,z1,rfl,o1,m1,e1,k1,b1⟩
 have E1:=Lib.hid e1; clear e1
 replace s0:=s0.next b1
 replace s2:=s2.next b1
 go_wp2_with fail
 refine (nat_Add v0 r1 x0 z1 _ s0 o1.sl (by omega) (by omega) f0 m1).mono ?_; rintro e w2 ⟨r2,z2,rfl,o2,m2,e2,k2,b2⟩
 have E2:=Lib.hid e2; clear e2
 replace s2:=s2.next b2
 have B:=b1.trans (b2.mono b1.size)
 go_wp2_with fail
 refine (mul_up v2 x2 (2 * n) _ s2 (by omega) (by omega) f2).mono ?_; rintro e w3 ⟨r3,z3,rfl,o3,m3,e3,k3,b3⟩
 have E3:=Lib.hid e3; clear e3
 have o2':=o2.next b3
 replace B:=B.trans (b3.mono B.size)
 go_wp2_with fail
 refine (nat_Add r2 r3 z2 z3 _ o2'.sl o3.sl (by omega) (by omega) m2.1 m3).mono ?_; rintro e w4 ⟨r4,z4,rfl,o4,m4,e4,k4,b4⟩
 have E4:=Lib.hid e4; clear e4
 go_wp2
 go_ret
 exact ⟨_,z4,rfl,o4.mono B.size,m4,by rw [E4.out,E2.out,E1.out,E3.out],B.trans (b4.mono B.size)⟩
theorem mul_len {xs ys zs : List Nat} (hx : wf W64 xs) (hy : wf W64 ys) (hz : Nrm W64 zs) (hv : nv W64 zs = nv W64 xs * nv W64 ys) : zs.length ≤ xs.length + ys.length:=by
 refine nrm_len_le (by decide) hz ?_
 rw [hv,Nat.pow_add]
 exact Nat.mul_lt_mul'' (nv_lt xs hx) (nv_lt ys hy)
theorem nv_split (xs : List Nat) (n : Nat) : nv W64 xs = nv W64 (xs.take n) + W64 ^ n * nv W64 (xs.drop n):=by
 by_cases h : n ≤ xs.length
 ·exact nv_take_drop W64 xs n h
 ·rw [List.take_of_length_le (by omega),List.drop_eq_nil_of_le (by omega)]; simp [nv]
theorem add_len {xs ys zs : List Nat} {n : Nat} (hx : wf W64 xs) (hy : wf W64 ys) (hz : Nrm W64 zs) (hv : nv W64 zs = nv W64 xs + nv W64 ys) (lx : xs.length ≤ n) (ly : ys.length ≤ n) : zs.length ≤ n + 1:=by
 refine nrm_len_le (by decide) hz ?_
 have h1:=nv_lt xs hx
 have h2:=nv_lt ys hy
 have h3 : W64 ^ xs.length ≤ W64 ^ n:=Nat.pow_le_pow_right (by decide) lx
 have h4 : W64 ^ ys.length ≤ W64 ^ n:=Nat.pow_le_pow_right (by decide) ly
 rw [hv,Nat.pow_succ]
 have h5 : W64 ^ n * 2 ≤ W64 ^ n * W64:=Nat.mul_le_mul_left _ (by decide)
 omega
theorem kar_arith (P Q R S N : Nat) : P * R + N * ((P + Q) * (R + S) - P * R - Q * S) + N ^ 2 * (Q * S) = (P + N * Q) * (R + N * S):=by
 have e : (P + Q) * (R + S) - P * R - Q * S = P * S + Q * R:=by
  have : (P + Q) * (R + S) = P * R + Q * S + (P * S + Q * R):=by simp [Nat.add_mul,Nat.mul_add]; omega
  omega
 rw [e]
 simp only [Nat.add_mul,Nat.mul_add,Nat.pow_two]
 have h1 : P * (N * S) = N * (P * S):=by simp [Nat.mul_left_comm]
 have h2 : N * Q * R = N * (Q * R):=by simp [Nat.mul_assoc]
 have h3 : N * Q * (N * S) = N * N * (Q * S):=by simp [Nat.mul_assoc,Nat.mul_left_comm]
 rw [h1,h2,h3]; omega
theorem kar_le1 (P Q R S : Nat) : P * R ≤ (P + Q) * (R + S):=Nat.mul_le_mul (by omega) (by omega)
theorem kar_le2 (P Q R S : Nat) : Q * S ≤ (P + Q) * (R + S) - P * R:=by
 have : (P + Q) * (R + S) = P * R + Q * S + (P * S + Q * R):=by simp [Nat.add_mul,Nat.mul_add]; omega
 omega
set_option maxHeartbeats 4000000 in
theorem mul_Mul_aux (k : Nat) : ∀ (v u : Value) (xs ys : List Nat) (w : World), Sl .u64 w v xs → Sl .u64 w u ys → xs.length ≤ k → ys.length ≤ k → k ≤ 100000 → wf W64 xs → wf W64 ys →
    Calls Tryz.prog 68 #[v, u] w (RetN w (xs.length + ys.length) (nv W64 xs * nv W64 ys)) := by
  induction k using Nat.strongRecOn with
  | ind k ih =>
    intro v u xs ys w s0 s1 l0 l1 hk f0 f1
    have IH := Lib.hid ih; clear ih
    go_enter Tryz.func68, Tryz.ntmps68
    go_wp2_with fail
    refine (nat_Norm v xs _ s0 (by omega) f0).mono ?_; rintro e w1 ⟨r1, z1, rfl, o1, m1, e1, k1, b1⟩
    have E1 := Lib.hid e1; clear e1
    replace s1 := s1.next b1
    go_wp2_with fail
    refine (nat_Norm u ys _ s1 (by omega) f1).mono ?_; rintro e w2 ⟨r2, z2, rfl, o2, m2, e2, k2, b2⟩
    have E2 := Lib.hid e2; clear e2
    have B := b1.trans (b2.mono b1.size)
    have t1 := (o1.next b2).sl
    have t2 := o2.sl
    clear o1 o2 s0 s1
    obtain ⟨a1, p1, q1, c1, rfl, g1, i1⟩ := t1
    obtain ⟨a2, p2, q2, c2, rfl, g2, i2⟩ := t2
    have t1 : Sl .u64 w2 (.slice a1 z1.length c1) z1 := ⟨a1, p1, q1, c1, rfl, g1, i1⟩
    have t2 : Sl .u64 w2 (.slice a2 z2.length c2) z2 := ⟨a2, p2, q2, c2, rfl, g2, i2⟩
    clear i1 i2
    by_cases h : z1.length ≤ 8 ∨ z2.length ≤ 8
    · by_cases hc : z2.length < z1.length
      all_goals
        have h8 : z2.length ≤ 8 ∨ z1.length ≤ 8 := by omega
        first
          | (have hs : (z2.length : Int) ≤ 8 := by omega
             clear h h8
             go_wp2_with fail
             refine (nat_Mul _ _ z1 z2 _ t1 t2 (by omega) (by omega) m1.1 m2.1).mono ?_; rintro e w3 ⟨r3, z3, rfl, o3, m3, e3, k3, b3⟩)
          | (have hs : (z1.length : Int) ≤ 8 := by omega
             clear h h8
             go_wp2_with fail
             refine (nat_Mul _ _ z1 z2 _ t1 t2 (by omega) (by omega) m1.1 m2.1).mono ?_; rintro e w3 ⟨r3, z3, rfl, o3, m3, e3, k3, b3⟩)
        have hl := mul_len m1.1 m2.1 m3 e3
        have E3 := Lib.hid e3; clear e3
        go_wp2
        go_ret
        exact ⟨_, z3, rfl, o3.mono B.size, m3, by rw [E3.out, E1.out, E2.out], by omega, B.trans (b3.mono B.size)⟩
    · have h1 : 8 < z1.length := by omega
      have h2 : 8 < z2.length := by omega
      clear h
      obtain ⟨n, hn1, hn2, hn3, hn4⟩ : ∃ n : Nat, z1.length ≤ 2 * n ∧ z2.length ≤ 2 * n ∧ n + 1 < k ∧ ((z1.length < z2.length ∧ n = (z2.length + 1) / 2) ∨ (z2.length ≤ z1.length ∧ n = (z1.length + 1) / 2)) := by
        by_cases hc : z1.length < z2.length
        · exact ⟨(z2.length + 1) / 2, by omega, by omega, by omega, .inl ⟨hc, rfl⟩⟩
        · exact ⟨(z1.length + 1) / 2, by omega, by omega, by omega, .inr ⟨by omega, rfl⟩⟩
      have v1 := nv_split z1 n
      have v2 := nv_split z2 n
      have dl1 : (z1.drop n).length ≤ n := by simp; omega
      have dl2 : (z2.drop n).length ≤ n := by simp; omega
      have tl1 : (z1.take n).length ≤ n := by simp; omega
      have tl2 : (z2.take n).length ≤ n := by simp; omega
      have wp := wf_take m1.1 n
      have wq := wf_drop m1.1 n
      have wr := wf_take m2.1 n
      have ws := wf_drop m2.1 n
      have lowp := mul_low _ z1 n _ t1
      have higq := mul_high _ z1 n _ t1
      have lowr := mul_low _ z2 n _ t2
      have higs := mul_high _ z2 n _ t2
      generalize z1.take n = P at *
      generalize z1.drop n = Q at *
      generalize z2.take n = R at *
      generalize z2.drop n = S at *
      have LP := Lib.hid lowp
      have HQ := Lib.hid higq
      have LR := Lib.hid lowr
      have HS := Lib.hid higs
      have V1 := Lib.hid v1
      have V2 := Lib.hid v2
      clear lowp higq lowr higs v1 v2
      rcases hn4 with ⟨hc, hn⟩ | ⟨hc, hn⟩
      all_goals
        first
          | (have hd : ((z2.length : Int) + 1) / 2 = (n : Int) := by omega
             have hs : (8 : Int) < z1.length := by omega
             have hcc : ¬ z2.length < z1.length := by omega
             have HN := Lib.hid hn; clear hn
             go_wp2_with fail
             refine LP.out.mono ?_)
          | (have hd : ((z1.length : Int) + 1) / 2 = (n : Int) := by omega
             have hcc : ¬ z1.length < z2.length := by omega
             have HN := Lib.hid hn; clear hn
             by_cases hce : z2.length < z1.length
             all_goals
               go_wp2_with fail
               refine LP.out.mono ?_)
        all_goals
          rintro e w' ⟨vp, rfl, sp, rfl⟩
          go_wp2_with fail
          refine HQ.out.mono ?_; rintro e w' ⟨vq, rfl, sq, rfl⟩
          go_wp2_with fail
          refine LR.out.mono ?_; rintro e w' ⟨vr, rfl, sr, rfl⟩
          go_wp2_with fail
          refine HS.out.mono ?_; rintro e w' ⟨vs, rfl, ss, rfl⟩
          clear t1 t2
          go_wp2_with fail
          refine (IH.out n (by omega) vp vr P R _ sp sr tl1 tl2 (by omega) wp wr).mono ?_; rintro e w3 ⟨r3, z3, rfl, o3, m3, e3, k3, b3⟩
          have E3 := Lib.hid e3; clear e3
          replace sp := sp.next b3
          replace sq := sq.next b3
          replace sr := sr.next b3
          replace ss := ss.next b3
          replace B := B.trans (b3.mono B.size)
          go_wp2_with fail
          refine (IH.out n (by omega) vq vs Q S _ sq ss dl1 dl2 (by omega) wq ws).mono ?_; rintro e w4 ⟨r4, z4, rfl, o4, m4, e4, k4, b4⟩
          have E4 := Lib.hid e4; clear e4
          replace sp := sp.next b4
          replace sq := sq.next b4
          replace sr := sr.next b4
          replace ss := ss.next b4
          replace o3 := o3.next b4
          replace B := B.trans (b4.mono B.size)
          go_wp2_with fail
          refine (nat_Add vp vq P Q _ sp sq (by omega) (by omega) wp wq).mono ?_; rintro e w5 ⟨r5, z5, rfl, o5, m5, e5, k5, b5⟩
          have j5 := add_len wp wq m5 e5 tl1 dl1
          have E5 := Lib.hid e5; clear e5 k5
          replace sr := sr.next b5
          replace ss := ss.next b5
          replace o3 := o3.next b5
          replace o4 := o4.next b5
          replace B := B.trans (b5.mono B.size)
          clear sp sq
          go_wp2_with fail
          refine (nat_Add vr vs R S _ sr ss (by omega) (by omega) wr ws).mono ?_; rintro e w6 ⟨r6, z6, rfl, o6, m6, e6, k6, b6⟩
          have j6 := add_len wr ws m6 e6 tl2 dl2
          have E6 := Lib.hid e6; clear e6 k6
          replace o3 := o3.next b6
          replace o4 := o4.next b6
          replace o5 := o5.next b6
          replace B := B.trans (b6.mono B.size)
          clear sr ss
          go_wp2_with fail
          refine (IH.out (n + 1) (by omega) r5 r6 z5 z6 _ o5.sl o6.sl j5 j6 (by omega) m5.1 m6.1).mono ?_; rintro e w7 ⟨r7, z7, rfl, o7, m7, e7, k7, b7⟩
          have E7 := Lib.hid e7; clear e7
          replace o3 := o3.next b7
          replace o4 := o4.next b7
          replace B := B.trans (b7.mono B.size)
          clear o5 o6
          go_wp2_with fail
          refine (mul_less r7 r3 z7 z3 _ o7.sl o3.sl (by omega) (by omega) m7.1 m3.1 (by rw [E7.out, E5.out, E6.out, E3.out]; exact kar_le1 _ _ _ _)).mono ?_; rintro e w8 ⟨r8, z8, rfl, o8, m8, e8, k8, b8⟩
          have E8 := Lib.hid e8; clear e8
          replace o3 := o3.next b8
          replace o4 := o4.next b8
          replace B := B.trans (b8.mono B.size)
          clear o7
          go_wp2_with fail
          refine (mul_less r8 r4 z8 z4 _ o8.sl o4.sl (by omega) (by omega) m8.1 m4.1 (by rw [E8.out, E7.out, E5.out, E6.out, E3.out, E4.out]; exact kar_le2 _ _ _ _)).mono ?_; rintro e w9 ⟨r9, z9, rfl, o9, m9, e9, k9, b9⟩
          have E9 := Lib.hid e9; clear e9
          replace o3 := o3.next b9
          replace o4 := o4.next b9
          replace B := B.trans (b9.mono B.size)
          clear o8
          go_wp2_with fail
          refine (mul_joined r3 r9 r4 z3 z9 z4 n _ o3.sl o9.sl o4.sl (by omega) (by omega) (by omega) (by omega) m3.1 m9.1 m4.1).mono ?_; rintro e w10 ⟨ra, za, rfl, oa, ma, ea, ba⟩
          have hval : nv W64 za = nv W64 z1 * nv W64 z2 := by
            rw [ea, E9.out, E8.out, E7.out, E5.out, E6.out, E3.out, E4.out, V1.out, V2.out, Nat.mul_comm 2 n, Nat.pow_mul]
            exact kar_arith _ _ _ _ _
          have hl := mul_len m1.1 m2.1 ma hval
          have EA := Lib.hid hval; clear hval ea
          go_wp2
          go_ret
          exact ⟨_, za, rfl, oa.mono B.size, ma, by rw [EA.out, E1.out, E2.out], by omega, B.trans (ba.mono B.size)⟩
end Go.Proofs.YtlhmaljjdpjkgaaGreatDoor
