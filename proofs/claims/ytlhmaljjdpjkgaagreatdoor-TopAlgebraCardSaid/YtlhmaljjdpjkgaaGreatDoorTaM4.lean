/- Quiet operations, all together. -/
import Derived.Laws.BytesString
import Derived.Lib.UnsafeStr
import Derived.Test.YtlhmaljjdpjkgaaGreatDoorTaM3
namespace Go.Proofs.YtlhmaljjdpjkgaaGreatDoor
open Go Go.RowKit
section
variable {P : Program} {T : TT} {μ : List Value} {B : Nat → Prop} {w : World} {H : List AO}
theorem run_eqGuard_int {op : BinOp} {t : Nat} {x y : Operand} {k k' : IntKind} {a b : Int} : (eqGuard op t x y (.int k a) (.int k' b)).run P w = .ok () w:=by
 cases op <;> simp [eqGuard]
theorem run_eqGuard_str {op : BinOp} {t : Nat} {x y : Operand} {a b : ByteArray} : (eqGuard op t x y (.string a) (.string b)).run P w = .ok () w:=by
 cases op <;> simp [eqGuard]
theorem run_eqGuard_bool {op : BinOp} {t : Nat} {x y : Operand} {a b : Bool} : (eqGuard op t x y (.bool a) (.bool b)).run P w = .ok () w:=by
 cases op <;> simp [eqGuard]
theorem run_eqGuard_ptr {op : BinOp} {t : Nat} {x y : Operand} {a b : Option Addr} : (eqGuard op t x y (.pointer a) (.pointer b)).run P w = .ok () w:=by
 unfold eqGuard; split <;> simp
theorem po_parts {t : Nat} {d : TD} (hd : td P t = some d) (hs : d.sh = .po) : ∃ e i,P.underlying t = some (.pointer e) ∧ P.info? e = some i ∧ i.size ≠ 0:=by
 obtain ⟨_,_,_,_,_,_,_,_,_,h8,_⟩:=td_parts hd
 rw [hs] at h8
 unfold shof at h8
 split at h8
 all_goals (try (cases h8; done))
 ·split at h8 <;> cases h8
 ·split at h8 <;> cases h8
 ·rw [Option.map_eq_some_iff] at h8; obtain ⟨_,_,h⟩:=h8; cases h
 ·split at h8
  ·rw [Option.map_eq_some_iff] at h8; obtain ⟨_,_,h⟩:=h8; cases h
  ·cases h8
 ·rename_i e hu
  split at h8
  ·rename_i hi
   cases hi' : P.info? e with
   | none=>rw [hi'] at hi; cases hi
   | some i=>rw [hi'] at hi; exact ⟨e,i,hu,hi',by simpa using hi⟩
  ·cases h8
theorem qptr_sound (hL : Lies μ B w H) {a b : AV} {u v : Value} (hu : Cn μ (Mut μ B H) w a u) (hv : Cn μ (Mut μ B H) w b v) {op : BinOp} {x : AV} (hx : (qptr op a b).val x) {t : Nat} {d : TD} (hd : td P t = some d) (hs : d.sh = .po) :
  ∃ r p q,u = .pointer p ∧ v = .pointer q ∧ (binOp op t u v).run P w = .ok r w ∧ Cn μ (Mut μ B H) w x r:=by
 obtain ⟨e,i,g1,g2,g3⟩:=po_parts hd hs
 have key : ∀ {b' : Bool},sameP a b = some b' → ∃ p q,u = .pointer p ∧ v = .pointer q ∧ (Op.equal t u v).run P w = .ok b' w:=by
  intro b' hb
  unfold sameP at hb
  split at hb <;> try (cases hb)
  ·rename_i ii o j p
   cases hu with
   | @ref _ _ g u' h1 h2=>cases hv with
    | @ref _ _ g' v' k1 k2=>
     cases hij : Nat.beq ii j with
     | false=>rw [hij] at hb; cases hb
     | true=>
      rw [hij] at hb
      obtain rfl:=beq_of hij
      rw [h1] at k1; cases k1
      rw [h2] at k2; cases k2
      cases hb
      refine ⟨_,_,rfl,rfl,?_⟩
      unfold Op.equal Op.maxDepth Op.equalIn
      simp [run_und g1,run_size g2,g3,sameAddr]
      have : ((⟨g,o,none⟩ : Addr) == ⟨g,p,none⟩) = Nat.beq o p:=by
       by_cases hop : o = p
       ·subst hop; simp
       ·have h1 : Nat.beq o p = false:=Bool.eq_false_iff.2 fun h=>hop (beq_of h)
        rw [h1]; simp
      rw [this]
  ·cases hu with
   | ref h1 h2=>obtain rfl:=cn_raw hv; exact ⟨_,_,rfl,rfl,by unfold Op.equal Op.maxDepth Op.equalIn; simp [run_und g1]⟩
  ·cases hv with
   | ref h1 h2=>obtain rfl:=cn_raw hu; exact ⟨_,_,rfl,rfl,by unfold Op.equal Op.maxDepth Op.equalIn; simp [run_und g1]⟩
  ·obtain rfl:=cn_raw hv; obtain rfl:=cn_raw hu; exact ⟨_,_,rfl,rfl,by unfold Op.equal Op.maxDepth Op.equalIn; simp [run_und g1]⟩
 unfold qptr at hx
 split at hx <;> try (exact hx.elim)
 ·rename_i b' hb
  obtain ⟨p,q,rfl,rfl,h1⟩:=key hb
  cases hx
  exact ⟨_,p,q,rfl,rfl,by simp [binOp,Sem.run_bind,h1],.im (.raw _)⟩
 ·rename_i b' hb
  obtain ⟨p,q,rfl,rfl,h1⟩:=key hb
  cases hx
  exact ⟨_,p,q,rfl,rfl,by simp [binOp,Sem.run_bind,h1],.im (.raw _)⟩
theorem qlen_sound (hL : Lies μ B w H) {t ty : Nat} {d : TD} (hd : td P t = some d) {fb : List Nat} {a : AV} {u : Value} (hu : Cn μ (Mut μ B H) w a u) {x : AV} (hx : (qlen H fb d.sh a).val x) :
  ∃ v,(Builtin.len_ #[t] ty #[u]).run P w = .ok v w ∧ Cn μ (Mut μ B H) w x v:=by
 unfold qlen at hx
 split at hx
 ·rename_i hs
  have h:=str_parts hd hs
  split at hx
  ·cases hx
   obtain rfl:=cn_raw hu
   exact ⟨_,by simp [Builtin.len_,run_und h,goInt],.im (.raw _)⟩
  ·exact hx.elim
 ·rename_i e k ag z bt hs
  have h:=(sc_parts hd hs).1
  split at hx
  ·cases hx
   cases hu with
   | im hu=>
    obtain ⟨ao,b,o,cap,vs,rfl,-⟩:=hu.slice
    exact ⟨_,by simp [Builtin.len_,run_und h,goInt],.im (.raw _)⟩
  ·cases hx
   obtain rfl:=cn_raw hu
   exact ⟨_,by simp [Builtin.len_,run_und h,goInt],.im (.raw _)⟩
  ·rename_i i
   cases hf : isIn fb i with
   | true=>rw [hf] at hx; exact hx.elim
   | false=>
    rw [hf] at hx; simp only [cond_false] at hx
    cases hu with
    | own hi=>
     split at hx
     ·rename_i e k n cs ho
      cases hx
      obtain ⟨vs,⟨-,h1⟩,-⟩:=hL.obj _ _ _ ho hi
      rcases h1 with ⟨rfl,rfl⟩ | ⟨g,cap,cur,rfl,-⟩
      ·exact ⟨_,by simp [Builtin.len_,run_und h,goInt],.im (.raw _)⟩
      ·exact ⟨_,by simp [Builtin.len_,run_und h,goInt],.im (.raw _)⟩
     ·rename_i e k n cs ho
      cases hx
      obtain ⟨vs,⟨-,h1⟩,-⟩:=hL.obj _ _ _ ho hi
      rcases h1 with ⟨rfl,rfl⟩ | ⟨g,cap,cur,rfl,-⟩
      ·exact ⟨_,by simp [Builtin.len_,run_und h,goInt],.im (.raw _)⟩
      ·exact ⟨_,by simp [Builtin.len_,run_und h,goInt],.im (.raw _)⟩
     ·exact hx.elim
  ·cases hx
   cases hu with
   | sub hi=>exact ⟨_,by simp [Builtin.len_,run_und h,goInt],.im (.raw _)⟩
  ·exact hx.elim
 ·exact hx.elim
theorem qsdata_sound (hL : Lies μ B w H) {a : AV} {u : Value} (hu : Cn μ (Mut μ B H) w a u) {fb : List Nat} {x : AV} (hx : (qsdata H fb a).val x) {ts : Array Nat} {ty : Nat} : ∃ r,(Builtin.unsafeSliceData_ ts ty #[u]).run P w = .ok r w ∧ Cn μ (Mut μ B H) w x r:=by
 unfold qsdata at hx
 split at hx <;> try (exact hx.elim)
 rename_i i
 cases hf : isIn fb i with
 | true=>rw [hf] at hx; exact hx.elim
 | false=>
  rw [hf] at hx; simp only [cond_false] at hx
  split at hx <;> try (exact hx.elim)
  rename_i e k n cs ho
  cases hk : Nat.ble 1 k with
  | false=>rw [hk] at hx; exact hx.elim
  | true=>
   rw [hk] at hx
   obtain ⟨hn,rfl⟩:=hx
   have hk:=Nat.le_of_ble_eq_true hk
   cases hu with
   | own hi=>
    obtain ⟨vs,h1,h2,h3⟩:=hL.obj _ _ _ ho hi
    rcases h1.2 with ⟨rfl,h⟩ | ⟨g,cap,cur,rfl,-,-,hc,-⟩
    ·omega
    ·exact ⟨_,Lib.run_unsafeSliceData_row _ _ _ _ _ _ (by omega),.ref hi rfl⟩
theorem map_at {α β : Type} {f : α → β} {l : List α} {j : Nat} {x : β} (h : (l.map f)[j]? = some x) : ∃ a,l[j]? = some a ∧ f a = x:=by
 simpa [List.getElem?_map,Option.map_eq_some_iff] using h
theorem map2_at {α β γ : Type} {f : α → β} {g : α → γ} {l : List α} {j : Nat} {x : β} {y : γ} (h : (l.map f)[j]? = some x) (k : (l.map g)[j]? = some y) : ∃ a,f a = x ∧ g a = y:=by
 obtain ⟨a,h1,h2⟩:=map_at h
 obtain ⟨b,k1,k2⟩:=map_at k
 rw [h1] at k1; cases k1
 exact ⟨a,h2,k2⟩
theorem qbuild_sound (hT : TdOK P T) (hL : Lies μ B w H) {e : Operand → AV} {ρ : Operand → Value} (he : ∀ x,Cn μ (Mut μ B H) w (e x) (ρ x)) {t : Nat} {ps : Array (Nat × Operand)} {H' : List AO} {fb : List Nat} {x : AV} (hx : (qv T e H' fb (.build t ps)).val x) :
  ∃ v,(Instr.build t (ps.map fun (i,x)=>(i,ρ x))).run P w = .ok v w ∧ Cn μ (Mut μ B H) w x v:=by
 simp only [qv] at hx
 split at hx
 ·rename_i d hd
  have hd:=hT.at hd
  obtain ⟨i,z,h1,h2,h3,h4,h5,h6,h7,h8,h9⟩:=td_parts hd
  have parts : ∀ place : Nat → Option (Nat × Nat),∀ {cs},fillA place (d.zero.map fun z=>.im (.raw z)) (ps.toList.map fun p=>(p.1,e p.2)) = some cs →
    ∃ vs' : Array Value,Instr.fill place z.cells ((ps.map fun (i,x)=>(i,ρ x)).toList) = some vs' ∧ CnL μ (Mut μ B H) w cs vs'.toList ∧ Ones vs'.toList:=by
   intro place cs hf
   refine fillA_sound hL _ _ _ z.cells ?_ ?_ (by rw [h4]; exact zero_cn _) (by rw [h4]; exact h9) hf
   ·simp [Function.comp_def]
   ·intro j p q a b
    simp only [Array.toList_map] at b
    obtain ⟨c,rfl,rfl⟩:=map2_at a b
    exact he _
  split at hx
  ·rename_i fs hs
   obtain ⟨ff,g1,g2,g3⟩:=st_parts hd hs
   split at hx
   ·rename_i cs hf
    cases hx
    obtain ⟨vs',f1,f2,f3⟩:=parts _ hf
    refine ⟨.agg vs',?_,by have:=Cn.agg f2.1 f2.2 f3; simpa using this⟩
    have hm : ∀ (l : List Field),(∀ f ∈ l,(P.info? f.type).isSome = true) → (l.mapM (fun f=>Functor.map (Prod.mk f.offset) (sizeOf f.type))).run P w = .ok (l.map fun f=>(f.offset,P.cellsOf f.type)) w:=by
     intro l
     induction l with
     | nil=>intro _; simp
     | cons f l ih=>
      intro hl
      cases hi : P.info? f.type with
      | none=>have:=hl f (by simp); simp [hi] at this
      | some i=>
       have:=ih (fun f hf=>hl f (by simp [hf]))
       simp [List.mapM_cons,run_size hi,this,Program.cellsOf,hi]
    have hm' : (ff.mapM (fun f=>Functor.map (Prod.mk f.offset) (sizeOf f.type))).run P w = .ok (ff.map fun f=>(f.offset,P.cellsOf f.type)) w:=by
     have:=hm ff.toList (fun f hf=>by
      have:=Array.all_eq_true_iff_forall_mem.1 g2 f (by simpa using hf)
      simp only [Bool.and_eq_true] at this; exact this.1)
     rw [← Array.toArray_toList (xs:=ff),List.mapM_toArray]
     simp only [Sem.run_map,this,Result.andThen_ok]
     rw [← List.map_toArray]
    simp only [Array.toList_map] at f1
    simp [Instr.build,run_zero h1 h2,run_und g1,hm']
    rw [← g3] at f1
    simp [Function.comp_def] at f1
    rw [f1]; simp
   ·exact hx.elim
  ·rename_i n k ag hs
   obtain ⟨e',i',g0,g1,rfl,g3,g4⟩:=ar_parts hd hs
   split at hx
   ·rename_i cs hf
    cases hx
    obtain ⟨vs',f1,f2,f3⟩:=parts _ hf
    refine ⟨.agg vs',?_,by have:=Cn.agg f2.1 f2.2 f3; simpa using this⟩
    simp only [Array.toList_map] at f1
    simp [Instr.build,run_zero h1 h2,run_und g0,run_size g1,f1]
   ·exact hx.elim
  ·exact hx.elim
 ·exact hx.elim
theorem qmm_sound {mx : Bool} {a b : AV} {u v : Value} (hu : Cn μ (Mut μ B H) w a u) (hv : Cn μ (Mut μ B H) w b v) {x : AV} (hx : (qmm mx a b).val x) {ts : Array Nat} {ty : Nat} :
  ∃ r,(match mx with | true=>Builtin.max_ ts ty #[u,v] | false=>Builtin.min_ ts ty #[u,v]).run P w = .ok r w ∧ Cn μ (Mut μ B H) w x r:=by
 unfold qmm at hx
 split at hx
 ·obtain rfl:=cn_raw hu
  obtain rfl:=cn_raw hv
  cases hx
  cases mx
  ·exact ⟨_,by simp [Builtin.min_,Builtin.min2],.im (.raw _)⟩
  ·exact ⟨_,by simp [Builtin.max_,Builtin.max2],.im (.raw _)⟩
 ·exact hx.elim
theorem qextract_sound {a : AV} {u : Value} {i : Nat} (hu : Cn μ (Mut μ B H) w a u) {x : AV} (hx : (qextract a i).val x) : ∃ r,(Instr.extract u i).run P w = .ok r w ∧ Cn μ (Mut μ B H) w x r:=by
 unfold qextract at hx
 split at hx
 ·cases hu with
  | im hu=>
   cases hu with
   | tup hl hh=>
    have:=okO_val hx
    simp only [Option.map_eq_some_iff] at this
    obtain ⟨y,hy,rfl⟩:=this
    obtain ⟨v,hv,hn⟩:=CiL.at ⟨hl,hh⟩ hy
    exact ⟨v,by simp [Instr.extract,hv],.im hn⟩
 ·cases hu with
  | tup hl hh=>
   obtain ⟨v,hv,hn⟩:=CnL.at ⟨hl,hh⟩ (okO_val hx)
   exact ⟨v,by simp [Instr.extract,hv],hn⟩
 ·exact hx.elim
theorem cnl_map {e : Operand → AV} {ρ : Operand → Value} (he : ∀ x,Cn μ (Mut μ B H) w (e x) (ρ x)) (l : List Operand) : CnL μ (Mut μ B H) w (l.map e) (l.map ρ):=
 ⟨by simp,fun j x v a b=>by obtain ⟨c,rfl,rfl⟩:=map2_at a b; exact he c⟩
theorem bytesI_eq : ∀ {cs : List IV} {ns : List Int},bytesI cs = some ns → cs = ns.map fun n=>.raw (.int .u8 n)
 | [],ns,h=>by simp [bytesI] at h; subst h; rfl
 | c :: cs,ns,h=>by
  unfold bytesI at h
  split at h
  ·cases h
   simp_all
  ·rename_i n l he
   cases he
   simp only [Option.map_eq_some_iff] at h
   obtain ⟨ns',h1,rfl⟩:=h
   rw [bytesI_eq h1]; rfl
  ·cases h
theorem ci_bytes {M : Nat → Prop} {cs : List IV} {vs : List Value} {ns : List Int} (h : bytesI cs = some ns) (hc : CiL M w cs vs) : vs = ns.map (Value.int .u8):=by
 have:=bytesI_eq h
 subst this
 apply List.ext_getElem?
 intro j
 by_cases hj : j < ns.length
 ·have h1 : (ns.map fun n=>IV.raw (.int .u8 n))[j]? = some (.raw (.int .u8 ns[j])):=by simp [hj]
  obtain ⟨v,hv,hn⟩:=hc.at h1
  cases hn
  rw [hv]; simp [hj]
 ·rw [List.getElem?_eq_none (by have:=hc.1; simp at this; omega),List.getElem?_eq_none (by simp; omega)]
theorem qbytes_sound (hT : TdOK P T) (hL : Lies μ B w H) {s t : Nat} {d : TD} (hd : td P s = some d) (ht : P.underlying t = some .string) {fb : List Nat} {a : AV} {u : Value} (hu : Cn μ (Mut μ B H) w a u) {x : AV} (hx : (qbytes T H fb d.sh a).val x) :
  ∃ v,(convert s t u).run P w = .ok v w ∧ Cn μ (Mut μ B H) w x v:=by
 unfold qbytes at hx
 split at hx <;> try (exact hx.elim)
 rename_i el ag z bt hs
 have h1:=(sc_parts hd hs).1
 split at hx <;> try (exact hx.elim)
 rename_i hl
 have h2:=int_parts (hT.at hl) rfl
 have fin : ∀ {cs : List IV} {vs : List Value} {ao : Option Addr} {n c : Nat} {b o : Nat},n * 1 = cs.length → CiL (Mut μ B H) w cs vs → (cs ≠ [] → ao = some ⟨b,o,none⟩) → (∀ (j : Nat) v,vs[j]? = some v → w.cell? ⟨b,o + j,none⟩ = some v) →
   (bytesI cs).map (fun ns=>rs (txt ns)) = some x → ∃ v,(convert s t (.slice ao n c)).run P w = .ok v w ∧ Cn μ (Mut μ B H) w x v:=by
  intro cs vs ao n c b o hn hc ha hcell hx
  simp only [Option.map_eq_some_iff] at hx
  obtain ⟨ns,h3,rfl⟩:=hx
  have hv:=ci_bytes h3 hc
  refine ⟨.string (txt ns),?_,.im (.raw _)⟩
  rw [run_convert_bytes_string w s t el ao n c h1 h2 ht]
  have hln : vs.length = n:=by rw [hc.1]; omega
  cases ao with
  | none=>
   have : cs = []:=Classical.byContradiction fun e=>by have:=ha e; cases this
   subst this
   simp [bytesI] at h3; subst h3
   rfl
  | some ad=>
   refine run_bytesToString w ad n c ns ?_
   rw [← hv,← hln]
   refine run_loadCells_list (P:=P) w ad vs fun j v hj=>?_
   have hne : cs ≠ []:=by rintro rfl; have:=hc.1; simp at this; subst this; simp at hj
   have:=ha hne
   cases this
   rw [add_spot]; exact hcell j v hj
 split at hx
 ·cases hu with
  | im hu=>
   obtain ⟨ao,b,o,cap,vs,rfl,c1,c2,c3,c4,c5,c6⟩:=hu.slice
   exact fin c2 c4 (fun h=>(c3 h).1) c5 hx.2
 ·rename_i i
  cases hf : isIn fb i with
  | true=>rw [hf] at hx; exact hx.elim
  | false=>
   rw [hf] at hx; simp only [cond_false] at hx
   cases hu with
   | own hi=>
    split at hx
    ·rename_i e n cs ho
     obtain ⟨vs,⟨k0,k1⟩,k2,k3⟩:=hL.obj _ _ _ ho hi
     have hn : n * 1 = cs.length:=by rw [← k2.1]; exact k0.symm
     have hr : w.ownsRow 0 e 1 _ n vs:=⟨k0,k1⟩
     rcases k1 with ⟨rfl,rfl⟩ | ⟨g,cap,cur,rfl,-⟩
     ·exact fin (b:=0) (o:=0) hn k2 (fun hne=>absurd (List.length_eq_zero_iff.1 (by omega)) hne) (fun j v hj=>by
       have : vs = []:=List.length_eq_zero_iff.1 (by have:=k2.1; omega)
       subst this; simp at hj) hx.2
     ·exact fin (b:=g) (o:=0) hn k2 (fun _=>rfl) (fun j v hj=>by
       have:=hr.cells (g:=g) rfl j v hj
       rwa [add_spot] at this) hx.2
    ·exact hx.elim
 ·exact hx.elim
theorem qv_sound (hT : TdOK P T) (hL : Lies μ B w H) {e : Operand → AV} {ρ : Operand → Value} (he : ∀ x,Cn μ (Mut μ B H) w (e x) (ρ x)) {fb : List Nat} (o : Oper) {x : AV} (hx : (qv T e H fb o.op).val x) :
  ∃ v,(execOp ρ o).run P w = .ok (.value v) w ∧ Cn μ (Mut μ B H) w x v:=by
 obtain ⟨dst,op,type,pos,after,guard⟩:=o
 cases op <;> simp only [qv] at hx <;> try (exact hx.elim)
 case move y=>cases hx; exact ⟨_,by simp [execOp],he y⟩
 case assign y=>cases hx; exact ⟨_,by simp [execOp],he y⟩
 case build t ps=>
  obtain ⟨v,h1,h2⟩:=qbuild_sound (H':=H) (fb:=fb) hT hL he (by simp only [qv]; exact hx)
  exact ⟨v,by simp only [execOp,Sem.run_bind,h1]; rfl,h2⟩
 case load t a=>
  split at hx
  ·rename_i d hd
   obtain ⟨v,h1,h2⟩:=qload_sound (P:=P) hL (hT.at hd) (he a) hx
   exact ⟨v,by simp only [execOp,Sem.run_bind,h1]; rfl,h2⟩
  ·exact hx.elim
 case nilCheck y=>
  have hy:=he y
  generalize hv : ρ y = u at hy
  split at hx <;> try (exact hx.elim)
  all_goals (rename_i hey; rw [hey] at hy; cases hx)
  ·cases hy with
   | ref a b=>exact ⟨_,by simp only [execOp,hv]; rfl,.ref a b⟩
  ·cases hy with
   | im hy=>
    obtain ⟨b,o,vs,rfl,-⟩:=id hy.cells
    exact ⟨_,by simp only [execOp,hv]; rfl,.im hy⟩
  ·cases hy with
   | im hy=>
    cases hy with
    | fn a b c d=>exact ⟨_,by simp only [execOp,hv]; rfl,.im (.fn a b c d)⟩
  ·cases hy with
   | fn a b c d=>exact ⟨_,by simp only [execOp,hv]; rfl,.fn a b c d⟩
 case binOp op t y z yt=>
  have hy:=he y
  have hz:=he z
  split at hx
  ·rename_i k a k' b e1 e2
   rw [e1] at hy; rw [e2] at hz
   have hy:=cn_raw hy
   have hz:=cn_raw hz
   obtain ⟨v,h1,h2⟩:=arith2_sound (P:=P) (w:=w) (μ:=μ) (B:=B) (H:=H) hx t
   exact ⟨v,by simp only [execOp,Sem.run_bind,hy,hz,run_eqGuard_int,Result.andThen_ok,h1]; rfl,h2⟩
  ·rename_i a b e1 e2
   rw [e1] at hy; rw [e2] at hz
   have hy:=cn_raw hy
   have hz:=cn_raw hz
   obtain ⟨v,h1,h2⟩:=strop_sound (P:=P) (w:=w) (μ:=μ) (B:=B) (H:=H) hx t
   exact ⟨v,by simp only [execOp,Sem.run_bind,hy,hz,run_eqGuard_str,Result.andThen_ok,h1]; rfl,h2⟩
  ·rename_i a b e1 e2
   rw [e1] at hy; rw [e2] at hz
   have hy:=cn_raw hy
   have hz:=cn_raw hz
   split at hx <;> try (exact hx.elim)
   rename_i hd
   obtain ⟨v,h1,h2⟩:=boolop_sound (P:=P) (w:=w) (μ:=μ) (B:=B) (H:=H) hx (bo_parts (hT.at hd) rfl)
   exact ⟨v,by simp only [execOp,Sem.run_bind,hy,hz,run_eqGuard_bool,Result.andThen_ok,h1]; rfl,h2⟩
  ·split at hx <;> try (exact hx.elim)
   rename_i hd
   obtain ⟨v,p,q,e1,e2,h1,h2⟩:=qptr_sound (P:=P) (w:=w) hL hy hz hx (hT.at hd) rfl
   rw [e1,e2] at h1
   exact ⟨v,by simp only [execOp,Sem.run_bind,e1,e2,run_eqGuard_ptr,Result.andThen_ok,h1]; rfl,h2⟩
 case unOp op t y=>
  have hy:=he y
  split at hx
  ·rename_i b e1
   rw [e1] at hy
   cases hx
   exact ⟨_,by simp [execOp,cn_raw hy,Op.unary],.im (.raw _)⟩
  ·rename_i k n e1
   rw [e1] at hy
   cases hx
   exact ⟨_,by simp [execOp,cn_raw hy,Op.unary,Op.intArith],.im (.raw _)⟩
  ·exact hx.elim
 case convert s d y=>
  have hy:=he y
  split at hx
  ·rename_i a b k kk n e1 e2 e3
   rw [e3] at hy
   cases hx
   have:=cn_raw hy
   have hd:=int_parts (hT.at e2) rfl
   obtain ⟨i,z',h1,h2,h3,h4,h5,h6,h7,h8,-⟩:=td_parts (hT.at e1)
   have hs : ∃ u,P.underlying s = some u:=by
    unfold shof at h8
    cases hu : P.underlying s with
    | none=>rw [hu] at h8; cases h8
    | some u=>exact ⟨u,rfl⟩
   obtain ⟨u,hs⟩:=hs
   exact ⟨_,by simp [execOp,this,convert,run_und hs,run_und hd,Conv.intToInt],.im (.raw _)⟩
  ·rename_i a b kk e1 e2 e3
   rw [e3] at hy
   cases hx
   have:=cn_raw hy
   have hd:=str_parts (hT.at e2) rfl
   obtain ⟨i,z',h1,h2,h3,h4,h5,h6,h7,h8,-⟩:=td_parts (hT.at e1)
   have hs : ∃ u,P.underlying s = some u:=by
    unfold shof at h8
    cases hu : P.underlying s with
    | none=>rw [hu] at h8; cases h8
    | some u=>exact ⟨u,rfl⟩
   obtain ⟨u,hs⟩:=hs
   exact ⟨_,by simp [execOp,this,convert,run_und hs,run_und hd],.im (.raw _)⟩
  ·rename_i d1 a1 b1 c1 e1 e2 hne
   obtain ⟨v,r1,r2⟩:=qbytes_sound hT hL (hT.at e1) (str_parts (hT.at e2) rfl) hy hx
   exact ⟨v,by simp only [execOp,Sem.run_bind,r1]; rfl,r2⟩
  ·exact hx.elim
 case makeFunc fn a b=>
  split at hx
  ·cases hx
   have h1:=cnl_map he a.toList
   have h2:=cnl_map he b.toList
   refine ⟨.func (.func _) (a.toList.map ρ).toArray (b.toList.map ρ).toArray,?_,.fn h1.1 h1.2 h2.1 h2.2⟩
   simp [execOp,Instr.makeFunc,List.map_toArray]
   exact ⟨by rw [← List.map_toArray],by rw [← List.map_toArray]⟩
  ·exact hx.elim
 case slice t y lo hi mx=>
  cases mx with
  | some m=>exact hx.elim
  | none=>
   simp only at hx
   split at hx
   ·rename_i d hd
    obtain ⟨v,h1,h2⟩:=qslice_sound (P:=P) hL (hT.at hd) (he y) (vl:=lo.map ρ) (vh:=hi.map ρ) (fun x h=>by
      cases lo with
      | none=>cases h
      | some l=>simp at h; subst h; exact ⟨_,rfl,he l⟩) (fun h=>by cases lo <;> first | rfl | cases h) (fun x h=>by
      cases hi with
      | none=>cases h
      | some l=>simp at h; subst h; exact ⟨_,rfl,he l⟩) (fun h=>by cases hi <;> first | rfl | cases h) hx
    exact ⟨v,by simp only [execOp,Sem.run_bind,Option.map_none,h1]; rfl,h2⟩
   ·exact hx.elim
 case fieldAddr s y f=>
  split at hx
  ·rename_i d hd
   split at hx
   ·rename_i fs hs
    obtain ⟨v,h1,h2⟩:=qfieldAddr_sound (P:=P) (hT.at hd) hs (he y) hx
    exact ⟨v,by simp only [execOp,Sem.run_bind,h1]; rfl,h2⟩
   ·exact hx.elim
  ·exact hx.elim
 case field s y f=>
  split at hx
  ·rename_i d hd
   split at hx
   ·rename_i fs hs
    obtain ⟨v,h1,h2⟩:=qfield_sound (P:=P) (hT.at hd) hs (he y) hx
    exact ⟨v,by simp only [execOp,Sem.run_bind,h1]; rfl,h2⟩
   ·exact hx.elim
  ·exact hx.elim
 case indexAddr t y i=>
  have hi:=he i
  split at hx
  ·rename_i d k j hd e1
   rw [e1] at hi
   have hi:=cn_raw hi
   obtain ⟨v,h1,h2⟩:=qindexAddr_sound (P:=P) (k:=k) hL (hT.at hd) (he y) hx
   exact ⟨v,by simp only [execOp,Sem.run_bind,hi,h1]; rfl,h2⟩
  ·exact hx.elim
 case index t y i=>
  have hi:=he i
  split at hx
  ·rename_i d k j hd e1
   rw [e1] at hi
   have hi:=cn_raw hi
   obtain ⟨v,h1,h2⟩:=qindex_sound (P:=P) (k:=k) (hT.at hd) (he y) hx
   exact ⟨v,by simp only [execOp,Sem.run_bind,hi,h1]; rfl,h2⟩
  ·exact hx.elim
 case extract y i=>
  obtain ⟨v,h1,h2⟩:=qextract_sound (P:=P) (he y) hx
  exact ⟨v,by simp only [execOp,Sem.run_bind,h1]; rfl,h2⟩
 case lookup t y i ok=>
  have hi:=he i
  have hy:=he y
  cases ok with
  | false=>exact hx.elim
  | true=>
   simp only at hx
   split at hx <;> try (exact hx.elim)
   rename_i sz ag0 z0 ag z j s hd e1 e2
   rw [e1] at hy; rw [e2] at hi
   have hi:=cn_raw hi
   unfold qlookup at hx
   cases hb : (isIn fb j || Nat.ble z.length 1) with
   | true=>rw [hb] at hx; exact hx.elim
   | false=>
    rw [hb] at hx
    simp only [cond_false] at hx
    simp only [Bool.or_eq_false_iff] at hb
    have hz1 : 1 < z.length:=by
     have:=hb.2
     rcases Nat.lt_or_ge 1 z.length with h | h
     ·exact h
     ·rw [Nat.ble_eq_true_of_le h] at this; cases this
    split at hx <;> try (exact hx.elim)
    rename_i es ho
    obtain ⟨-,hx⟩:=hx
    simp at hx
    cases hy with
    | own hu=>
     obtain ⟨v,h1,h2⟩:=lookup_sound (P:=P) hL (hT.at hd) rfl hz1 hu ho s
     exact ⟨v,by simp only [execOp,Sem.run_bind,hi,h1]; rfl,hx ▸ h2⟩
 case call c=>
  obtain ⟨callee,args,tys⟩:=c
  simp only at hx
  split at hx <;> try (exact hx.elim)
  ·split at hx <;> try (exact hx.elim)
   rename_i y t
   split at hx <;> try (exact hx.elim)
   rename_i d hd
   obtain ⟨v,h1,h2⟩:=qlen_sound (P:=P) (ty:=type) hL (hT.at hd) (he y) hx
   exact ⟨v,by simp [execOp,resolve,invoke,builtin,h1],h2⟩
  ·split at hx <;> try (exact hx.elim)
   rename_i y z
   obtain ⟨v,h1,h2⟩:=qmm_sound (P:=P) (ts:=tys) (ty:=type) (he y) (he z) hx
   exact ⟨v,by simp [execOp,resolve,invoke,builtin,h1],h2⟩
  ·split at hx <;> try (exact hx.elim)
   rename_i y z
   obtain ⟨v,h1,h2⟩:=qmm_sound (P:=P) (ts:=tys) (ty:=type) (he y) (he z) hx
   exact ⟨v,by simp [execOp,resolve,invoke,builtin,h1],h2⟩
  ·split at hx <;> try (exact hx.elim)
   rename_i y
   obtain ⟨v,h1,h2⟩:=qsdata_sound (P:=P) (ts:=tys) (ty:=type) hL (he y) hx
   exact ⟨v,by simp [execOp,resolve,invoke,builtin,h1],h2⟩
end
def Own' (μ : List Value) (H : List AO) (b : Nat) : Prop:=∃ (i : Nat) (o : AO) (u : Value),H[i]? = some o ∧ o.live = true ∧ μ[i]? = some u ∧ blk u = some b
def put (t : Nat → AV) (d : Option Nat) (x : AV) : Nat → AV:=
 match d with
 | none=>t
 | some d=>fun j=>bif Nat.beq j d then x else t j
structure St (n : Nat) (L B : Nat → Prop) (w0 : World) (m0 : List Value) (R : Nat → Bool) (μ : List Value) (t : Nat → AV) (H : List AO) (a : Act) (w : World) : Prop where
 dfr : a.defers = []
 sz : a.tmps.size = n
 tm : ∀ j,Cn μ (Mut μ B H) w (t j) (a.tmps.getD j undef)
 lies : Lies μ B w H
 kept : Kept L w0 w
 new : ∀ b,Own' μ H b → L b ∨ w0.heap.size ≤ b
 fix : ∀ (i : Nat) u,R i = false → m0[i]? = some u → μ[i]? = some u
def Sts (n : Nat) (L B : Nat → Prop) (w0 : World) (m0 : List Value) (R : Nat → Bool) (K : (Nat → AV) → List AO → Prop) (a : Act) (w : World) : Prop:=∃ μ t H,K t H ∧ St n L B w0 m0 R μ t H a w
def dstOK (n : Nat) : Option Nat → Bool
 | none=>true
 | some d=>Nat.blt d n
section
variable {P : Program} {T : TT} {n : Nat} {L B : Nat → Prop} {w0 : World} {m0 : List Value} {R : Nat → Bool} {μ : List Value} {t : Nat → AV} {H : List AO} {a : Act} {w : World}
theorem St.ev (h : St n L B w0 m0 R μ t H a w) (x : Operand) : Cn μ (Mut μ B H) w (ev t x) (a.eval x):=by
 cases x with
 | tmp j=>exact h.tm j
 | const v=>
  have : ∀ v : Value,Ci (Mut μ B H) w (ofV v) v:=by
   intro v
   unfold ofV
   split
   ·rename_i cs
    cases hc : cs.toList.all (·.oneCell') with
    | true=>
     simp only [cond_true]
     have:=Ci.agg (M:=Mut μ B H) (w:=w) (cs:=cs.toList.map .raw) (vs:=cs.toList) (by simp) (fun j x v a b=>by
      simp only [List.getElem?_map,b,Option.map_some,Option.some.injEq] at a; subst a; exact .raw _) (List.all_eq_true.1 hc)
     simpa using this
    | false=>exact .raw _
   ·exact .raw _
  exact .im (this v)
 | global g=>exact .im (.any _)
 | func f=>exact .im (.fn (az:=[]) (bs:=[]) rfl (by intro j x v h; simp at h) rfl (by intro j x v h; simp at h))
theorem St.put (h : St n L B w0 m0 R μ t H a w) {d : Option Nat} (hd : dstOK n d = true) {x : AV} {v : Value} (hv : Cn μ (Mut μ B H) w x v) : St n L B w0 m0 R μ (put t d x) H (a.put d v) w:=by
 cases d with
 | none=>exact h
 | some d=>
  have hlt : d < n:=by simpa [dstOK] using hd
  refine ⟨h.dfr,by simpa [Act.put] using h.sz,fun j=>?_,h.lies,h.kept,h.new,h.fix⟩
  simp only [Go.Proofs.YtlhmaljjdpjkgaaGreatDoor.put,Act.put]
  by_cases hj : j = d
  ·subst hj
   have : Nat.beq j j = true:=by simp
   rw [this]
   have : (a.tmps.setIfInBounds j v).getD j undef = v:=by simp [h.sz,hlt]
   rw [this]; exact hv
  ·have : Nat.beq j d = false:=Bool.eq_false_iff.2 fun h=>hj (Nat.eq_of_beq_eq_true h)
   rw [this]
   have : (a.tmps.setIfInBounds d v).getD j undef = a.tmps.getD j undef:=by simp [Array.getElem?_setIfInBounds_ne (Ne.symm hj)]
   rw [this]; exact h.tm j
theorem app_keep {μ : List Value} {u : Value} (i : Nat) (v : Value) (h : μ[i]? = some v) : (μ ++ [u])[i]? = some v:=by
 rw [List.getElem?_append_left (List.getElem?_eq_some_iff.1 h).1]; exact h
theorem mut_add {μ : List Value} {H : List AO} (hl : μ.length = H.length) {o : AO} {u : Value} {b : Nat} (h : Mut (μ ++ [u]) B (H ++ [o]) b) : Mut μ B H b ∨ (o.live = true ∧ blk u = some b):=by
 rcases h with h | ⟨i,p,v,h1,h2,h3,h4⟩
 ·exact .inl (.inl h)
 ·by_cases hi : i < H.length
  ·rw [List.getElem?_append_left hi] at h1
   rw [List.getElem?_append_left (by omega)] at h3
   exact .inl (.inr ⟨i,p,v,h1,h2,h3,h4⟩)
  ·rw [List.getElem?_append_right (by omega)] at h1
   rw [List.getElem?_append_right (by omega),hl] at h3
   have : i - H.length = 0:=by
    have:=(List.getElem?_eq_some_iff.1 h1).1; simp at this; omega
   rw [this] at h1 h3
   simp at h1 h3
   subst h1 h3
   exact .inr ⟨h2,h4⟩
theorem own_add {μ : List Value} {H : List AO} (hl : μ.length = H.length) {o : AO} {u : Value} {b : Nat} (h : Own' (μ ++ [u]) (H ++ [o]) b) : Own' μ H b ∨ (o.live = true ∧ blk u = some b):=by
 rcases mut_add (B:=fun _=>False) hl (.inr h) with (h | h) | h
 ·exact h.elim
 ·exact .inl h
 ·exact .inr h
theorem St.add (h : St n L B w0 m0 R μ t H a w) {w' : World} (hw : Kept (fun _=>False) w w') {o : AO} {u : Value} (h1 : u.oneCell' = true) (hb : ∀ g,blk u = some g → w.heap.size ≤ g)
  (ho : LieO (μ ++ [u]) (Mut (μ ++ [u]) B (H ++ [o])) w' u o) : St n L B w0 m0 R (μ ++ [u]) t (H ++ [o]) a w':=by
 have hlen:=h.lies.len
 have hk : ∀ b,b < w.heap.size → ¬ Mut μ B H b → ¬ Mut (μ ++ [u]) B (H ++ [o]) b ∧ w'.heap[b]? = w.heap[b]?:=by
  intro b hlt hn
  refine ⟨fun hm=>?_,hw.block b hlt id⟩
  rcases mut_add hlen hm with hm | ⟨-,hm⟩
  ·exact hn hm
  ·have:=hb b hm; omega
 refine ⟨h.dfr,h.sz,fun j=>(h.tm j).keep app_keep hk,⟨by simp [hlen],?_,?_,?_,?_,?_,h.lies.gl.keep hk⟩,h.kept.trans (hw.mono fun _ _ h=>h.elim),?_,?_⟩
 ·intro i p v hp hv
  by_cases hi : i < H.length
  ·rw [List.getElem?_append_left hi] at hp
   rw [List.getElem?_append_left (by omega)] at hv
   exact (h.lies.obj i p v hp hv).keep app_keep hk fun g hl hg=>hw.block g (h.lies.lt hp hl hv hg) id
  ·rw [List.getElem?_append_right (by omega)] at hp
   rw [List.getElem?_append_right (by omega),hlen] at hv
   have : i - H.length = 0:=by
    have:=(List.getElem?_eq_some_iff.1 hp).1; simp at this; omega
   rw [this] at hp hv
   simp at hp hv
   subst hp hv
   exact ho
 ·exact fun b hB=>Nat.lt_of_lt_of_le (h.lies.out b hB) hw.size
 ·intro i p v g hp hl hv hg hB
  by_cases hi : i < H.length
  ·rw [List.getElem?_append_left hi] at hp
   rw [List.getElem?_append_left (by omega)] at hv
   exact h.lies.sep i p v g hp hl hv hg hB
  ·rw [List.getElem?_append_right (by omega),hlen] at hv
   have hv' : v = u:=by
    have:=(List.getElem?_eq_some_iff.1 hv).1
    have h0 : i - H.length = 0:=by simp at this; omega
    rw [h0] at hv; simpa using hv.symm
   subst hv'
   have:=hb g hg; have:=h.lies.out g hB; omega
 ·intro i v hv
  by_cases hi : i < μ.length
  ·rw [List.getElem?_append_left hi] at hv; exact h.lies.one i v hv
  ·rw [List.getElem?_append_right (by omega)] at hv
   have:=List.mem_of_getElem? hv
   simp at this; subst this; exact h1
 ·intro i j p q v v' g hp hq hlp hlq hv hv' hg hg'
  have side : ∀ i p v,(H ++ [o])[i]? = some p → p.live = true → (μ ++ [u])[i]? = some v → blk v = some g → (i < H.length ∧ H[i]? = some p ∧ μ[i]? = some v ∧ g < w.heap.size) ∨ (i = H.length ∧ w.heap.size ≤ g):=by
   intro i p v hp hl hv hg
   by_cases hi : i < H.length
   ·rw [List.getElem?_append_left hi] at hp
    rw [List.getElem?_append_left (by omega)] at hv
    exact .inl ⟨hi,hp,hv,h.lies.lt hp hl hv hg⟩
   ·have hi' : i = H.length:=by have:=(List.getElem?_eq_some_iff.1 hp).1; simp at this; omega
    rw [List.getElem?_append_right (by omega)] at hv
    have:=List.mem_of_getElem? hv
    simp at this; subst this
    exact .inr ⟨hi',hb g hg⟩
  rcases side i p v hp hlp hv hg with ⟨a1,a2,a3,a4⟩ | ⟨a1,a2⟩ <;> rcases side j q v' hq hlq hv' hg' with ⟨b1,b2,b3,b4⟩ | ⟨b1,b2⟩
  ·exact h.lies.inj i j p q v v' g a2 b2 hlp hlq a3 b3 hg hg'
  ·omega
  ·omega
  ·omega
 ·intro b hb'
  rcases own_add hlen hb' with hb' | ⟨-,hb'⟩
  ·exact h.new b hb'
  ·exact .inr (Nat.le_trans h.kept.size (hb b hb'))
 ·exact fun i u hR hu=>app_keep i u (h.fix i u hR hu)
theorem heap_new (w : World) (o : Obj) : (w.alloc o).heap[w.heap.size]? = some o:=by
 show (w.heap.push o)[w.heap.size]? = _
 simp
theorem St.box (h : St n L B w0 m0 R μ t H a w) {e : Nat} {cs : List AV} {vs : List Value} (hc : CnL μ (Mut μ B H) w cs vs) (ho : Ones vs) :
  St n L B w0 m0 R (μ ++ [.pointer (some ⟨w.heap.size,0,none⟩)]) t (H ++ [.box e cs]) a (w.alloc (.cells vs.toArray e)):=by
 have hb : ∀ g,blk (.pointer (some ⟨w.heap.size,0,none⟩)) = some g → w.heap.size ≤ g:=fun g hg=>by simp [blk] at hg; omega
 refine h.add (Kept.alloc _ _ _) rfl hb ⟨w.heap.size,vs,rfl,heap_new _ _,hc.keep app_keep fun b hlt hn=>⟨fun hm=>?_,Below.heap_alloc _ _ _ hlt⟩,ho⟩
 rcases mut_add h.lies.len hm with hm | ⟨-,hm⟩
 ·exact hn hm
 ·have:=hb b hm; omega
end
def killAt (ks : List Nat) : Nat → List AO → List AO
 | _,[]=>[]
 | i,o :: l=>(bif isIn ks i then .dead else o) :: killAt ks (i + 1) l
def kill (ks : List Nat) (H : List AO) : List AO:=
 match ks with
 | []=>H
 | _=>killAt ks 0 H
theorem killAt_len (ks : List Nat) : ∀ (l : List AO) (i : Nat),(killAt ks i l).length = l.length
 | [],_=>rfl
 | o :: l,i=>by simp [killAt,killAt_len ks l]
theorem kill_len (ks : List Nat) (H : List AO) : (kill ks H).length = H.length:=by
 unfold kill; split
 ·rfl
 ·exact killAt_len _ _ _
theorem killAt_get (ks : List Nat) : ∀ (l : List AO) (i j : Nat) (o : AO),(killAt ks i l)[j]? = some o → ∃ p,l[j]? = some p ∧ ((isIn ks (i + j) = true ∧ o = .dead) ∨ (isIn ks (i + j) = false ∧ o = p))
 | [],i,j,o,h=>by simp [killAt] at h
 | p :: l,i,j,o,h=>by
  cases j with
  | zero=>
   simp only [killAt,List.getElem?_cons_zero,Option.some.injEq] at h
   refine ⟨p,rfl,?_⟩
   simp only [Nat.add_zero]
   cases hk : isIn ks i with
   | true=>rw [hk] at h; exact .inl ⟨rfl,h.symm⟩
   | false=>rw [hk] at h; exact .inr ⟨rfl,h.symm⟩
  | succ j=>
   simp only [killAt,List.getElem?_cons_succ] at h
   obtain ⟨q,h1,h2⟩:=killAt_get ks l (i + 1) j o h
   rw [show i + 1 + j = i + (j + 1) by omega] at h2
   exact ⟨q,by simpa using h1,h2⟩
theorem kill_get {ks : List Nat} {H : List AO} {j : Nat} {o : AO} (h : (kill ks H)[j]? = some o) : ∃ p,H[j]? = some p ∧ ((isIn ks j = true ∧ o = .dead) ∨ (isIn ks j = false ∧ o = p)):=by
 unfold kill at h
 split at h
 ·exact ⟨o,h,.inr ⟨rfl,rfl⟩⟩
 ·have:=killAt_get ks H 0 j o h
  simpa using this
theorem kill_live {ks : List Nat} {H : List AO} {j : Nat} {o : AO} (h : (kill ks H)[j]? = some o) (hl : o.live = true) : H[j]? = some o ∧ isIn ks j = false:=by
 obtain ⟨p,h1,⟨-,rfl⟩ | ⟨h2,rfl⟩⟩:=kill_get h
 ·cases hl
 ·exact ⟨h1,h2⟩
section
variable {P : Program} {T : TT} {n : Nat} {L B : Nat → Prop} {w0 : World} {m0 : List Value} {R : Nat → Bool} {μ : List Value} {t : Nat → AV} {H : List AO} {a : Act} {w : World}
theorem mut_kill {ks : List Nat} {b : Nat} (h : Mut μ B (kill ks H) b) : Mut μ B H b:=by
 rcases h with h | ⟨i,o,u,h1,h2,h3,h4⟩
 ·exact .inl h
 ·exact .inr ⟨i,o,u,(kill_live h1 h2).1,h2,h3,h4⟩
theorem own_kill {ks : List Nat} {b : Nat} (h : Own' μ (kill ks H) b) : Own' μ H b:=by
 obtain ⟨i,o,u,h1,h2,h3,h4⟩:=h
 exact ⟨i,o,u,(kill_live h1 h2).1,h2,h3,h4⟩
theorem Lies.kill (h : Lies μ B w H) (ks : List Nat) : Lies μ B w (kill ks H):=by
 refine ⟨by rw [kill_len]; exact h.len,fun i o u ho hu=>?_,h.out,fun i o u g ho hl hu hg=>?_,h.one,fun i j o p u v g ho hp hlo hlp hu hv hg hg'=>?_,h.gl.keep fun b _ hn=>⟨fun hm=>hn (mut_kill hm),rfl⟩⟩
 ·obtain ⟨p,h1,⟨-,rfl⟩ | ⟨h2,rfl⟩⟩:=kill_get ho
  ·trivial
  ·exact (h.obj i o u h1 hu).keep (fun _ _ h=>h) (fun b _ hn=>⟨fun hm=>hn (mut_kill hm),rfl⟩) (fun _ _ _=>rfl)
 ·exact h.sep i o u g (kill_live ho hl).1 hl hu hg
 ·exact h.inj i j o p u v g (kill_live ho hlo).1 (kill_live hp hlp).1 hlo hlp hu hv hg hg'
theorem St.kill (h : St n L B w0 m0 R μ t H a w) (ks : List Nat) : St n L B w0 m0 R μ t (kill ks H) a w:=
 ⟨h.dfr,h.sz,fun j=>(h.tm j).keep (fun _ _ h=>h) (fun b _ hn=>⟨fun hm=>hn (mut_kill hm),rfl⟩),h.lies.kill ks,h.kept,fun b hb=>h.new b (own_kill hb),h.fix⟩
theorem off_kill (h : Lies μ B w H) {ks : List Nat} {i g : Nat} {o : AO} {u : Value} (ho : H[i]? = some o) (hl : o.live = true) (hu : μ[i]? = some u) (hg : blk u = some g) (hk : isIn ks i = true) : ¬ Mut μ B (Go.Proofs.YtlhmaljjdpjkgaaGreatDoor.kill ks H) g:=by
 rintro (hB | ⟨j,p,v,h1,h2,h3,h4⟩)
 ·exact h.sep i o u g ho hl hu hg hB
 ·obtain ⟨k1,k2⟩:=kill_live h1 h2
  have:=h.inj i j o p u v g ho k1 hl h2 hu h3 hg h4
  subst this; rw [hk] at k2; cases k2
def fzL (g : AV → Option IV) : List AV → Option (List IV)
 | []=>some []
 | x :: l=>match g x,fzL g l with
  | some y,some r=>some (y :: r)
  | _,_=>none
theorem fzL_at {g : AV → Option IV} : ∀ {l : List AV} {r : List IV},fzL g l = some r → r.length = l.length ∧ ∀ (j : Nat) y,r[j]? = some y → ∃ x,l[j]? = some x ∧ g x = some y
 | [],r,h=>by simp [fzL] at h; subst h; exact ⟨rfl,fun j y h=>by simp at h⟩
 | x :: l,r,h=>by
  simp only [fzL] at h
  split at h
  ·rename_i y r' h1 h2
   simp at h; subst h
   obtain ⟨k1,k2⟩:=fzL_at h2
   refine ⟨by simp [k1],fun j z hz=>?_⟩
   cases j with
   | zero=>simp at hz; subst hz; exact ⟨x,rfl,h1⟩
   | succ j=>exact k2 j z (by simpa using hz)
  ·cases h
def fz (H : List AO) (p : Nat → Bool) : Nat → AV → Option IV
 | _,.im x=>some x
 | 0,_=>none
 | k + 1,.agg cs=>(fzL (fz H p k) cs).map .agg
 | k + 1,.tup cs=>(fzL (fz H p k) cs).map .tup
 | k + 1,.fn f a b=>match fzL (fz H p k) a,fzL (fz H p k) b with
  | some a,some b=>some (.fn f a b)
  | _,_=>none
 | k + 1,.own i=>bif p i then
   match H[i]? with
   | some (.row _ k' m cs)=>some (.sl m k' cs)
   | some (.rowa _ k' m cs)=>(fzL (fz H p k) cs).map (.sl m k')
   | _=>none
  else none
 | k + 1,.ref i o=>bif p i then
   match H[i]? with
   | some (.box _ cs)=>(fzL (fz H p k) (cs.drop o)).map .ip
   | some (.row _ _ _ cs)=>some (.ip (cs.drop o))
   | _=>none
  else none
 | _ + 1,.sub _ _ _ _=>none
theorem fzL_sound {M' : Nat → Prop} {g : AV → Option IV} (hg : ∀ x y v,g x = some y → Cn μ (Mut μ B H) w x v → Ci M' w y v) {cs : List AV} {r : List IV} {vs : List Value} (h : fzL g cs = some r) (hc : CnL μ (Mut μ B H) w cs vs) : CiL M' w r vs:=by
 obtain ⟨h1,h2⟩:=fzL_at h
 refine ⟨by rw [hc.1,h1],fun j y v hy hv=>?_⟩
 obtain ⟨x,hx,he⟩:=h2 j y hy
 exact hg x y v he (hc.2 j x v hx hv)
theorem row_cells {e k m : Nat} {u : Value} {vs : List Value} (h : w.ownsRow 0 e k u m vs) : (u = .slice none 0 0 ∧ m = 0 ∧ vs = []) ∨ ∃ g cap,u = .slice (some ⟨g,0,none⟩) m cap ∧ m ≤ cap ∧ ∀ (j : Nat) v,vs[j]? = some v → w.cell? ⟨g,0 + j,none⟩ = some v:=by
 rcases h.2 with ⟨rfl,rfl⟩ | ⟨g,cap,cur,rfl,h1,h2,h3,h4⟩
 ·exact .inl ⟨rfl,rfl,List.length_eq_zero_iff.1 (by have:=h.1; simpa using this)⟩
 ·refine .inr ⟨g,cap,rfl,h3,fun j v hv=>?_⟩
  have:=h.cells (g:=g) rfl j v hv
  rwa [add_spot] at this
theorem fz_sound (h : Lies μ B w H) {p : Nat → Bool} {M' : Nat → Prop} (hM : ∀ b,M' b → Mut μ B H b) (hp : ∀ (i : Nat) (o : AO) (u : Value) g,H[i]? = some o → o.live = true → μ[i]? = some u → blk u = some g → p i = true → ¬ M' g) :
  ∀ (k : Nat) (x : AV) (y : IV) (v : Value),fz H p k x = some y → Cn μ (Mut μ B H) w x v → Ci M' w y v:=by
 have im : ∀ {x : IV} {v : Value},Cn μ (Mut μ B H) w (.im x) v → Ci M' w x v:=fun hc=>by
  cases hc with
  | im hc=>exact hc.mono fun b hb=>hM b hb
 intro k
 induction k with
 | zero=>
  intro x y v hf hc
  cases x <;> simp [fz] at hf
  subst hf; exact im hc
 | succ k ih=>
  intro x y v hf hc
  cases x with
  | im x=>simp [fz] at hf; subst hf; exact im hc
  | agg cs=>
   simp only [fz,Option.map_eq_some_iff] at hf
   obtain ⟨r,hr,rfl⟩:=hf
   cases hc with
   | agg hl hh h1=>have:=fzL_sound ih hr ⟨hl,hh⟩; exact .agg this.1 this.2 h1
  | tup cs=>
   simp only [fz,Option.map_eq_some_iff] at hf
   obtain ⟨r,hr,rfl⟩:=hf
   cases hc with
   | tup hl hh=>have:=fzL_sound ih hr ⟨hl,hh⟩; exact .tup this.1 this.2
  | fn f p' q'=>
   simp only [fz] at hf
   split at hf
   ·rename_i p1 q1 h1 h2
    simp at hf; subst hf
    cases hc with
    | fn hl hh kl kh=>
     have e1:=fzL_sound ih h1 ⟨hl,hh⟩
     have e2:=fzL_sound ih h2 ⟨kl,kh⟩
     exact .fn e1.1 e1.2 e2.1 e2.2
   ·cases hf
  | sub i o k n=>simp [fz] at hf
  | own i=>
   simp only [fz] at hf
   cases hk : p i with
   | false=>rw [hk] at hf; cases hf
   | true=>
    rw [hk] at hf; simp only [cond_true] at hf
    cases hc with
    | own hi=>
     split at hf
     ·rename_i e k' m cs ho
      simp at hf; subst hf
      obtain ⟨vs,h1,h2,h3⟩:=h.obj _ _ _ ho hi
      have h2' : CiL M' w cs vs:=h2.keep fun b _ hn=>⟨fun hm=>hn (hM b hm),rfl⟩
      have hlen : m * k' = cs.length:=by rw [← h2.1]; exact h1.1.symm
      rcases row_cells h1 with ⟨rfl,rfl,rfl⟩ | ⟨g,cap,rfl,h4,h5⟩
      ·have : cs = []:=List.length_eq_zero_iff.1 (by have:=h2.1; simpa using this.symm)
       subst this
       exact Ci.mk_sl (b:=0) (o:=0) (vs:=[]) h2' hlen (Nat.le_refl _) (fun j u hu=>by simp at hu) h3 (fun hne=>absurd rfl hne)
      ·exact Ci.mk_sl h2' hlen h4 h5 h3 fun _=>⟨rfl,hp _ _ _ _ ho rfl hi rfl hk⟩
     ·rename_i e k' m cs ho
      simp only [Option.map_eq_some_iff] at hf
      obtain ⟨r,hr,rfl⟩:=hf
      obtain ⟨vs,h1,h2,h3⟩:=h.obj _ _ _ ho hi
      have h2':=fzL_sound ih hr h2
      have hlen : m * k' = r.length:=by rw [← h2'.1]; exact h1.1.symm
      rcases row_cells h1 with ⟨rfl,rfl,rfl⟩ | ⟨g,cap,rfl,h4,h5⟩
      ·have : r = []:=List.length_eq_zero_iff.1 (by have:=h2'.1; simpa using this.symm)
       subst this
       exact Ci.mk_sl (b:=0) (o:=0) (vs:=[]) h2' hlen (Nat.le_refl _) (fun j u hu=>by simp at hu) h3 (fun hne=>absurd rfl hne)
      ·exact Ci.mk_sl h2' hlen h4 h5 h3 fun _=>⟨rfl,hp _ _ _ _ ho rfl hi rfl hk⟩
     ·cases hf
  | ref i o=>
   simp only [fz] at hf
   cases hk : p i with
   | false=>rw [hk] at hf; cases hf
   | true=>
    rw [hk] at hf; simp only [cond_true] at hf
    cases hc with
    | ref hi hb=>
     split at hf
     ·rename_i e cs ho
      simp only [Option.map_eq_some_iff] at hf
      obtain ⟨r,hr,rfl⟩:=hf
      obtain ⟨vs,h1,h3,h2⟩:=h.cells hi hb ho
      exact Ci.mk_ip (fzL_sound ih hr (h1.drop o)) (fun j u hu=>h2 _ u (by simpa using hu)) (h3.drop o) fun _=>hp _ _ _ _ ho rfl hi hb hk
     ·rename_i e k' m cs ho
      simp at hf; subst hf
      obtain ⟨vs,h1,h3,h2⟩:=h.cells hi hb ho
      exact Ci.mk_ip ((h1.drop o).keep fun b _ hn=>⟨fun hm=>hn (hM b hm),rfl⟩) (fun j u hu=>h2 _ u (by simpa using hu)) (h3.drop o) fun _=>hp _ _ _ _ ho rfl hi hb hk
     ·cases hf
def Ent (P : Program) (f : Nat) : Prop:=∀ args w,(callFunc f args).run P w = .ok (.enter f args) w
def Sub (x y : IV) : Prop:=∀ M w v,Ci M w x v → Ci M w y v
theorem Sub.refl (x : IV) : Sub x x:=fun _ _ _ h=>h
def SubL : List IV → List IV → Prop
 | [],[]=>True
 | x :: l,y :: r=>Sub x y ∧ SubL l r
 | _,_=>False
theorem SubL.ci {M : Nat → Prop} : ∀ {xs ys : List IV} {vs : List Value},SubL xs ys → CiL M w xs vs → CiL M w ys vs
 | [],[],vs,_,h=>h
 | x :: xs,y :: ys,vs,hs,h=>by
  cases vs with
  | nil=>have:=h.1; simp at this
  | cons v vs=>
   have ht : CiL M w xs vs:=⟨by have:=h.1; simpa using this,fun j x v a b=>h.2 (j + 1) x v (by simpa using a) (by simpa using b)⟩
   have:=SubL.ci hs.2 ht
   refine ⟨by simp [this.1],fun j z u a b=>?_⟩
   cases j with
   | zero=>simp at a b; subst a b; exact hs.1 _ _ _ (h.2 0 _ _ rfl rfl)
   | succ j=>exact this.2 j z u (by simpa using a) (by simpa using b)
 | [],_ :: _,_,hs,_=>hs.elim
 | _ :: _,[],_,hs,_=>hs.elim
def Pc (P : Program) (f : Nat) (xs : List IV) (Q : IV → Prop) : Prop:=
 (Ent P f ∧ ∀ (B : Nat → Prop) (w : World) (vs : List Value),(∀ b,B b → b < w.heap.size) → Gl B w → CiL B w xs vs →
  Calls P f vs.toArray w fun e w'=>∃ r v,e = .returned v ∧ Q r ∧ Ci B w' r v ∧ Below w.heap.size w w') ∨
 ∀ (B : Nat → Prop) (w : World) (vs : List Value),CiL B w xs vs → ∃ r v,Q r ∧ Ci B w r v ∧ (callFunc f vs.toArray).run P w = .ok (.value v) w
theorem Pc.mono {P : Program} {f : Nat} {xs : List IV} {Q Q' : IV → Prop} (h : Pc P f xs Q) (hq : ∀ r,Q r → Q' r) : Pc P f xs Q':=
 h.imp (fun h=>⟨h.1,fun B w vs hB hG hc=>(h.2 B w vs hB hG hc).mono fun _ _ ⟨r,v,he,q,hr⟩=>⟨r,v,he,hq r q,hr⟩⟩) fun h B w vs hc=>by
  obtain ⟨r,v,h1,h2⟩:=h B w vs hc; exact ⟨r,v,hq r h1,h2⟩
theorem Pc.sub {P : Program} {f : Nat} {xs ys : List IV} {Q : IV → Prop} (h : Pc P f ys Q) (hs : SubL xs ys) : Pc P f xs Q:=
 h.imp (fun h=>⟨h.1,fun B w vs hB hG hc=>h.2 B w vs hB hG (hs.ci hc)⟩) fun h B w vs hc=>h B w vs (hs.ci hc)
def Fc (P : Program) (f : Nat) (xs : List IV) (e k : Nat) (Q : Nat → List Value → Prop) : Prop:=
 Ent P f ∧ ∀ (B : Nat → Prop) (w : World) (vs : List Value),(∀ b,B b → b < w.heap.size) → Gl B w → CiL B w xs vs →
  Calls P f vs.toArray w fun r w'=>∃ v n us,r = .returned v ∧ Q n us ∧ w'.ownsRow w.heap.size e k v n us ∧ Ones us ∧ Below w.heap.size w w'
def calleeA (x : AV) (l : List AV) : Option (Nat × List AV):=
 match x with
 | .fn f a b=>some (f,a ++ l ++ b)
 | .im (.fn f a b)=>some (f,a.map .im ++ l ++ b.map .im)
 | _=>none
theorem St.same (h : St n L B w0 m0 R μ t H a w) {w' : World} (hw : Below w.heap.size w w') : St n L B w0 m0 R μ t H a w':=
 ⟨h.dfr,h.sz,fun j=>(h.tm j).keep (fun _ _ h=>h) (fun b hb hn=>⟨hn,hw.block b hb⟩),h.lies.same hw.size hw.block,h.kept.trans (Kept.of_below hw),h.new,h.fix⟩
end
def imL : List AV → Option (List IV)
 | []=>some []
 | .im x :: l=>(imL l).map (x :: ·)
 | _=>none
def rowOf (e k n : Nat) (cs : List AV) : AO:=
 match imL cs with
 | some l=>.row e k n l
 | none=>.rowa e k n cs
def pos : List Nat → Nat → Nat → Option Nat
 | [],_,_=>none
 | p :: l,i,k=>bif Nat.beq p i then some k else pos l i (k + 1)
def nodupB : List Nat → Bool
 | []=>true
 | p :: l=>!(isIn l p) && nodupB l
def gcA (H : List AO) (ps : List Nat) : Nat → AV → AV
 | _,.im x=>.im x
 | 0,_=>.im .any
 | _ + 1,.ref i o=>match pos ps i 0 with
  | some j=>.ref j o
  | none=>match fz H (fun i=>(pos ps i 0).isNone) 6 (.ref i o) with
   | some y=>.im y
   | none=>.im .any
 | _ + 1,.own i=>match pos ps i 0 with
  | some j=>.own j
  | none=>match fz H (fun i=>(pos ps i 0).isNone) 6 (.own i) with
   | some y=>.im y
   | none=>.im .any
 | _ + 1,.sub i o k n=>match pos ps i 0 with
  | some j=>.sub j o k n
  | none=>.im .any
 | n + 1,.agg cs=>.agg (cs.map (gcA H ps n))
 | n + 1,.tup cs=>.tup (cs.map (gcA H ps n))
 | n + 1,.fn f a b=>.fn f (a.map (gcA H ps n)) (b.map (gcA H ps n))
def gcO (H : List AO) (ps : List Nat) : AO → AO
 | .box e cs=>.box e (cs.map (gcA H ps 6))
 | .rowa e k n cs=>rowOf e k n (cs.map (gcA H ps 6))
 | .mp es=>.mp (es.map fun p=>(p.1,gcA H ps 6 p.2))
 | o=>o
def gcL (H : List AO) (ps : List Nat) : List Nat → List AO
 | []=>[]
 | i :: l=>(match H[i]? with
  | some o=>gcO H ps o
  | none=>.dead) :: gcL H ps l
def gcH (H : List AO) (ps : List Nat) : List AO:=gcL H ps ps
def gcT (H : List AO) (ps : List Nat) (t : Nat → AV) : Nat → AV:=fun j=>gcA H ps 6 (t j)
def gcOK (R : Nat → Bool) (H : List AO) (ps : List Nat) : Bool:=
 nodupB ps && ps.all (fun i=>Nat.blt i H.length) && (List.range H.length).all fun i=>R i || (pos ps i 0 == some i)
theorem imL_sound {xs : List AV} {ys : List IV} (h : imL xs = some ys) : xs = ys.map .im:=by
 induction xs generalizing ys with
 | nil=>simp [imL] at h; subst h; rfl
 | cons x xs ih=>
  cases x with
  | im x=>
   simp only [imL,Option.map_eq_some_iff] at h
   obtain ⟨r,h1,rfl⟩:=h
   rw [ih h1]; rfl
  | _=>simp [imL] at h
theorem CnL.im {μ : List Value} {w : World} {M : Nat → Prop} {ys : List IV} {vs : List Value} (h : CnL μ M w (ys.map .im) vs) : CiL M w ys vs:=by
 refine ⟨by simpa using h.1,fun j x v hx hv=>?_⟩
 have:=h.2 j (.im x) v (by simp [hx]) hv
 cases this with
 | im h=>exact h
theorem pos_some : ∀ {ps : List Nat} {i k j : Nat},pos ps i k = some j → ∃ m,j = k + m ∧ ps[m]? = some i
 | [],i,k,j,h=>by cases h
 | p :: l,i,k,j,h=>by
  simp only [pos] at h
  cases hb : Nat.beq p i with
  | true=>
   rw [hb] at h; simp at h
   exact ⟨0,by omega,by rw [beq_of hb]; rfl⟩
  | false=>
   rw [hb] at h; simp only [cond_false] at h
   obtain ⟨m,h1,h2⟩:=pos_some h
   exact ⟨m + 1,by omega,by simpa using h2⟩
theorem pos_none : ∀ {ps : List Nat} {i k m : Nat},ps[m]? = some i → (pos ps i k).isNone = false
 | [],i,k,m,h=>by simp at h
 | p :: l,i,k,m,h=>by
  simp only [pos]
  cases hb : Nat.beq p i with
  | true=>rfl
  | false=>
   cases m with
   | zero=>simp at h; subst h; simp at hb
   | succ m=>exact pos_none (by simpa using h)
theorem isIn_of {l : List Nat} {m i : Nat} (h : l[m]? = some i) : isIn l i = true:=by
 induction l generalizing m with
 | nil=>simp at h
 | cons a l ih=>
  simp only [isIn,Bool.or_eq_true]
  cases m with
  | zero=>simp at h; subst h; exact .inl (by simp)
  | succ m=>exact .inr (ih (by simpa using h))
theorem nodup_of : ∀ {ps : List Nat} (_ : nodupB ps = true) {i j x : Nat},ps[i]? = some x → ps[j]? = some x → i = j
 | [],_,i,j,x,h,_=>by simp at h
 | p :: l,hn,i,j,x,h,k=>by
  simp only [nodupB,Bool.and_eq_true,Bool.not_eq_true'] at hn
  cases i with
  | zero=>
   simp at h; subst h
   cases j with
   | zero=>rfl
   | succ j=>have:=isIn_of (show l[j]? = some p by simpa using k); rw [hn.1] at this; cases this
  | succ i=>
   cases j with
   | zero=>simp at k; subst k; have:=isIn_of (show l[i]? = some p by simpa using h); rw [hn.1] at this; cases this
   | succ j=>rw [nodup_of hn.2 (show l[i]? = some x by simpa using h) (show l[j]? = some x by simpa using k)]
theorem gcL_get (H : List AO) (ps : List Nat) : ∀ (l : List Nat) (j : Nat) (o : AO),(gcL H ps l)[j]? = some o → ∃ i,l[j]? = some i ∧ o = (match H[i]? with
  | some o=>gcO H ps o
  | none=>.dead)
 | [],j,o,h=>by simp [gcL] at h
 | i :: l,j,o,h=>by
  cases j with
  | zero=>simp only [gcL,List.getElem?_cons_zero,Option.some.injEq] at h; exact ⟨i,rfl,h.symm⟩
  | succ j=>
   simp only [gcL,List.getElem?_cons_succ] at h
   obtain ⟨k,h1,h2⟩:=gcL_get H ps l j o h
   exact ⟨k,by simpa using h1,h2⟩
theorem gcL_len (H : List AO) (ps l : List Nat) : (gcL H ps l).length = l.length:=by
 induction l with
 | nil=>rfl
 | cons i l ih=>simp [gcL,ih]
theorem gcO_live {H : List AO} {ps : List Nat} {o : AO} (h : (gcO H ps o).live = true) : o.live = true:=by
 cases o <;> first | rfl | exact h
section
variable {P : Program} {n : Nat} {L B : Nat → Prop} {w0 : World} {m0 : List Value} {R : Nat → Bool} {μ : List Value} {t : Nat → AV} {H : List AO} {a : Act} {w : World}
def gcM (μ : List Value) (ps : List Nat) : List Value:=ps.map fun i=>μ.getD i undef
theorem gcM_get (hl : μ.length = H.length) {ps : List Nat} (h : ps.all (fun i=>Nat.blt i H.length) = true) {j i : Nat} (hj : ps[j]? = some i) : ∃ u,μ[i]? = some u ∧ (gcM μ ps)[j]? = some u ∧ ∃ o,H[i]? = some o:=by
 have h1:=List.all_eq_true.1 h i (List.mem_of_getElem? hj)
 have h2 : i < H.length:=by simp [Nat.blt] at h1; omega
 have h3 : i < μ.length:=by omega
 refine ⟨μ[i],List.getElem?_eq_getElem h3,?_,H[i],List.getElem?_eq_getElem h2⟩
 simp [gcM,hj,List.getD,List.getElem?_eq_getElem h3]
theorem gc_obj (hL : Lies μ B w H) {ps : List Nat} (h : ps.all (fun i=>Nat.blt i H.length) = true) {j : Nat} {o : AO} {u : Value} (ho : (gcH H ps)[j]? = some o) (hu : (gcM μ ps)[j]? = some u) : ∃ i p,ps[j]? = some i ∧ H[i]? = some p ∧ o = gcO H ps p ∧ μ[i]? = some u:=by
 obtain ⟨i,h1,h2⟩:=gcL_get H ps ps j o ho
 obtain ⟨v,k1,k2,p,k3⟩:=gcM_get hL.len h h1
 rw [k2] at hu; cases hu
 rw [k3] at h2
 exact ⟨i,p,h1,k3,h2,k1⟩
theorem gc_mut (hL : Lies μ B w H) {ps : List Nat} (h : ps.all (fun i=>Nat.blt i H.length) = true) {b : Nat} (hb : Mut (gcM μ ps) B (gcH H ps) b) : Mut μ B H b:=by
 rcases hb with hb | ⟨j,o,u,h1,h2,h3,h4⟩
 ·exact .inl hb
 ·obtain ⟨i,p,k1,k2,rfl,k4⟩:=gc_obj hL h h1 h3
  exact .inr ⟨i,p,u,k2,gcO_live h2,k4,h4⟩
theorem gc_off (hL : Lies μ B w H) {ps : List Nat} (h : ps.all (fun i=>Nat.blt i H.length) = true) {i : Nat} {o : AO} {u : Value} {g : Nat} (ho : H[i]? = some o) (hl : o.live = true) (hu : μ[i]? = some u) (hg : blk u = some g) (hp : (pos ps i 0).isNone = true) : ¬ Mut (gcM μ ps) B (gcH H ps) g:=by
 rintro (hB | ⟨j,p,v,h1,h2,h3,h4⟩)
 ·exact hL.sep i o u g ho hl hu hg hB
 ·obtain ⟨i',q,k1,k2,rfl,k4⟩:=gc_obj hL h h1 h3
  have:=hL.inj i i' o q u v g ho k2 hl (gcO_live h2) hu k4 hg h4
  subst this
  rw [pos_none k1] at hp; cases hp
theorem gcA_sound (hL : Lies μ B w H) {ps : List Nat} (h : ps.all (fun i => Nat.blt i H.length) = true) :
    ∀ (k : Nat) (x : AV) (v : Value), Cn μ (Mut μ B H) w x v → Cn (gcM μ ps) (Mut (gcM μ ps) B (gcH H ps)) w (gcA H ps k x) v := by
  have mp : ∀ (k : Nat), (∀ (x : AV) (v : Value), Cn μ (Mut μ B H) w x v → Cn (gcM μ ps) (Mut (gcM μ ps) B (gcH H ps)) w (gcA H ps k x) v) → ∀ {cs : List AV} {vs : List Value}, CnL μ (Mut μ B H) w cs vs → CnL (gcM μ ps) (Mut (gcM μ ps) B (gcH H ps)) w (cs.map (gcA H ps k)) vs := by
    intro k ih cs vs h
    refine ⟨by simp [h.1], fun j x v hx hv => ?_⟩
    simp only [List.getElem?_map, Option.map_eq_some_iff] at hx
    obtain ⟨y, hy, rfl⟩ := hx
    exact ih y v (h.2 j y v hy hv)
  have frz : ∀ {x : AV} {v : Value}, Cn μ (Mut μ B H) w x v → Cn (gcM μ ps) (Mut (gcM μ ps) B (gcH H ps)) w (match fz H (fun i => (pos ps i 0).isNone) 6 x with
      | some y => .im y
      | none => .im .any) v := by
    intro x v hc
    split
    · rename_i y hy
      exact .im (fz_sound hL (fun b hb => gc_mut hL h hb) (fun i o u g h1 h2 h3 h4 h5 => gc_off hL h h1 h2 h3 h4 h5) 6 x y v hy hc)
    · exact .im (.any _)
  have at_ : ∀ {i j : Nat} {u : Value}, pos ps i 0 = some j → μ[i]? = some u → (gcM μ ps)[j]? = some u := by
    intro i j u hp hu
    obtain ⟨m, h1, h2⟩ := pos_some hp
    obtain ⟨v, k1, k2, -⟩ := gcM_get hL.len h h2
    rw [hu] at k1; cases k1
    rw [h1, Nat.zero_add]; exact k2
  have imc : ∀ {x : IV} {v : Value}, Cn μ (Mut μ B H) w (.im x) v → Cn (gcM μ ps) (Mut (gcM μ ps) B (gcH H ps)) w (.im x) v := fun hc => by
    cases hc with
    | im hc => exact .im (hc.mono fun b hb => gc_mut hL h hb)
  intro k
  induction k with
  | zero =>
    intro x v hc
    cases x with
    | im x => exact imc hc
    | _ => exact .im (.any _)
  | succ k ih =>
    intro x v hc
    cases x with
    | im x => exact imc hc
    | ref i o =>
      simp only [gcA]
      split
      · rename_i j hj
        cases hc with
        | ref h1 h2 => exact .ref (at_ hj h1) h2
      · exact frz hc
    | own i =>
      simp only [gcA]
      split
      · rename_i j hj
        cases hc with
        | own h1 => exact .own (at_ hj h1)
      · exact frz hc
    | sub i o k n =>
      simp only [gcA]
      split
      · rename_i j hj
        cases hc with
        | sub h1 => exact .sub (at_ hj h1)
      · exact .im (.any _)
    | agg cs => cases hc with
                | agg h1 h2 h3 => have := mp k ih ⟨h1, h2⟩; exact .agg this.1 this.2 h3
    | tup cs => cases hc with
                | tup h1 h2 => have := mp k ih ⟨h1, h2⟩; exact .tup this.1 this.2
    | fn f p q => cases hc with
                  | fn h1 h2 h3 h4 => have e1 := mp k ih ⟨h1, h2⟩; have e2 := mp k ih ⟨h3, h4⟩; exact .fn e1.1 e1.2 e2.1 e2.2
theorem gcAL_sound (hL : Lies μ B w H) {ps : List Nat} (h : ps.all (fun i=>Nat.blt i H.length) = true) {cs : List AV} {vs : List Value} (hc : CnL μ (Mut μ B H) w cs vs) : CnL (gcM μ ps) (Mut (gcM μ ps) B (gcH H ps)) w (cs.map (gcA H ps 6)) vs:=by
 refine ⟨by simp [hc.1],fun j x v hx hv=>?_⟩
 simp only [List.getElem?_map,Option.map_eq_some_iff] at hx
 obtain ⟨y,hy,rfl⟩:=hx
 exact gcA_sound hL h 6 y v (hc.2 j y v hy hv)
theorem gcO_sound (hL : Lies μ B w H) {ps : List Nat} (h : ps.all (fun i=>Nat.blt i H.length) = true) {u : Value} {o : AO} (hc : LieO μ (Mut μ B H) w u o) : LieO (gcM μ ps) (Mut (gcM μ ps) B (gcH H ps)) w u (gcO H ps o):=by
 cases o with
 | box e cs=>obtain ⟨g,vs,rfl,h1,h2,h3⟩:=hc; exact ⟨g,vs,rfl,h1,gcAL_sound hL h h2,h3⟩
 | row e k n cs=>obtain ⟨vs,h1,h2,h3⟩:=hc; exact ⟨vs,h1,h2.keep fun b _ hn=>⟨fun hm=>hn (gc_mut hL h hm),rfl⟩,h3⟩
 | rowa e k n cs=>
  obtain ⟨vs,h1,h2,h3⟩:=hc
  have h2:=gcAL_sound hL h h2
  simp only [gcO,rowOf]
  split
  ·rename_i l hl
   rw [imL_sound hl] at h2
   exact ⟨vs,h1,h2.im,h3⟩
  ·exact ⟨vs,h1,h2,h3⟩
 | mp es=>
  obtain ⟨r,ents,c,rfl,h1,h2,h3⟩:=hc
  refine ⟨r,ents,c,rfl,h1,by simp [h2],fun j p m a b=>?_⟩
  simp only [List.getElem?_map,Option.map_eq_some_iff] at a
  obtain ⟨q,hq,rfl⟩:=a
  exact ⟨(h3 j q m hq b).1,gcA_sound hL h 6 _ _ (h3 j q m hq b).2⟩
 | dead=>trivial
theorem St.gc (h : St n L B w0 m0 R μ t H a w) {ps : List Nat} (hk : gcOK R H ps = true) : St n L B w0 m0 R (gcM μ ps) (gcT H ps t) (gcH H ps) a w:=by
 simp only [gcOK,Bool.and_eq_true] at hk
 obtain ⟨⟨h1,h2⟩,h3⟩:=hk
 have hL:=h.lies
 refine ⟨h.dfr,h.sz,fun j=>gcA_sound hL h2 6 _ _ (h.tm j),⟨?_,?_,hL.out,?_,?_,?_,hL.gl.keep fun b _ hn=>⟨fun hm=>hn (gc_mut hL h2 hm),rfl⟩⟩,h.kept,?_,?_⟩
 ·simp [gcM,gcH,gcL_len]
 ·intro j o u ho hu
  obtain ⟨i,p,k1,k2,rfl,k4⟩:=gc_obj hL h2 ho hu
  exact gcO_sound hL h2 (hL.obj i p u k2 k4)
 ·intro j o u g ho hl hu hg
  obtain ⟨i,p,k1,k2,rfl,k4⟩:=gc_obj hL h2 ho hu
  exact hL.sep i p u g k2 (gcO_live hl) k4 hg
 ·intro j u hu
  simp only [gcM,List.getElem?_map,Option.map_eq_some_iff] at hu
  obtain ⟨i,hi,rfl⟩:=hu
  obtain ⟨v,k1,k2,-⟩:=gcM_get hL.len h2 hi
  have : μ.getD i undef = v:=by simp [List.getD,k1]
  rw [this]; exact hL.one i v k1
 ·intro i j o p u v g ho hp hlo hlp hu hv hg hg'
  obtain ⟨i',o',k1,k2,rfl,k4⟩:=gc_obj hL h2 ho hu
  obtain ⟨j',p',l1,l2,rfl,l4⟩:=gc_obj hL h2 hp hv
  have:=hL.inj i' j' o' p' u v g k2 l2 (gcO_live hlo) (gcO_live hlp) k4 l4 hg hg'
  subst this
  exact nodup_of h1 k1 l1
 ·rintro b ⟨j,o,u,ho,hl,hu,hg⟩
  obtain ⟨i,p,k1,k2,rfl,k4⟩:=gc_obj hL h2 ho hu
  exact h.new b ⟨i,p,u,k2,gcO_live hl,k4,hg⟩
 ·intro i u hR hu
  have hμ:=h.fix i u hR hu
  have hi : i < H.length:=by rw [← hL.len]; exact (List.getElem?_eq_some_iff.1 hμ).1
  have:=List.all_eq_true.1 h3 i (List.mem_range.2 hi)
  rw [hR] at this
  simp only [Bool.false_or,beq_iff_eq] at this
  obtain ⟨m,e1,e2⟩:=pos_some this
  obtain ⟨v,k1,k2,-⟩:=gcM_get hL.len h2 e2
  rw [hμ] at k1; cases k1
  rw [e1,Nat.zero_add]; exact k2
end
def okT (tc : Option (List Nat)) (i : Nat) : Bool:=
 match tc with
 | none=>true
 | some l=>isIn l i
def stale (ks : List Nat) : Nat → AV → AV
 | _,.im x=>.im x
 | 0,_=>.im .any
 | _ + 1,.ref i o=>bif isIn ks i then .im .any else .ref i o
 | _ + 1,.own i=>bif isIn ks i then .im .any else .own i
 | _ + 1,.sub i o k n=>bif isIn ks i then .im .any else .sub i o k n
 | n + 1,.agg cs=>.agg (cs.map (stale ks n))
 | n + 1,.tup cs=>.tup (cs.map (stale ks n))
 | n + 1,.fn f a b=>.fn f (a.map (stale ks n)) (b.map (stale ks n))
def staleO (ks : List Nat) : AO → AO
 | .box e cs=>.box e (cs.map (stale ks 6))
 | .rowa e k n cs=>.rowa e k n (cs.map (stale ks 6))
 | .mp es=>.mp (es.map fun p=>(p.1,stale ks 6 p.2))
 | o=>o
inductive Mv where
 | no
 | st (ks : List Nat)
 | gc (H : List AO) (ps ks : List Nat)
def stl (ks : List Nat) (x : AV) : AV:=
 match ks with
 | []=>x
 | _=>stale ks 6 x
def stlH (ks : List Nat) (H : List AO) : List AO:=
 match ks with
 | []=>H
 | _=>H.map (staleO ks)
def mvT : Mv → (Nat → AV) → Nat → AV
 | .no,t=>t
 | .st ks,t=>fun j=>stale ks 6 (t j)
 | .gc H ps ks,t=>fun j=>stl ks (gcA H ps 6 (t j))
abbrev kk (t : Nat → AV) (d : Option Nat) (K : (Nat → AV) → List AO → Prop) : Mv → AV → List AO → Prop:=fun ks x H=>K (put (mvT ks t) d x) H
def sc (m : Nat) : Nat → AV → Bool
 | _,.im _=>true
 | 0,_=>false
 | _ + 1,.ref i _=>Nat.blt i m
 | _ + 1,.own i=>Nat.blt i m
 | _ + 1,.sub i _ _ _=>Nat.blt i m
 | k + 1,.agg cs=>cs.all (sc m k)
 | k + 1,.tup cs=>cs.all (sc m k)
 | k + 1,.fn _ a b=>a.all (sc m k) && b.all (sc m k)
def scO (m : Nat) : AO → Bool
 | .box _ cs=>cs.all (sc m 6)
 | .rowa _ _ _ cs=>cs.all (sc m 6)
 | .mp es=>es.all fun p=>sc m 6 p.2
 | _=>true
def Ec (P : Program) (f : Nat) (R : Nat → Bool) (H : List AO) (xs : List AV) (Q : AV → List AO → Prop) : Prop:=
 Ent P f ∧ ∀ (B : Nat → Prop) (w : World) (μ : List Value) (vs : List Value),Lies μ B w H → CnL μ (Mut μ B H) w xs vs →
  Calls P f vs.toArray w fun e w'=>∃ μ' H' x v,e = .returned v ∧ Q x H' ∧ Lies μ' B w' H' ∧ Cn μ' (Mut μ' B H') w' x v ∧ Kept (Own' μ H) w w' ∧ (∀ b,Own' μ' H' b → Own' μ H b ∨ w.heap.size ≤ b) ∧
   ∀ (i : Nat) u,R i = false → μ[i]? = some u → μ'[i]? = some u
section
variable {P : Program} {n : Nat} {L B : Nat → Prop} {w0 : World} {m0 : List Value} {R : Nat → Bool} {μ : List Value} {t : Nat → AV} {H : List AO} {a : Act} {w : World}
theorem stale_sound {ks : List Nat} {μ' : List Value} {M M' : Nat → Prop} {w' : World} (hm : ∀ (j : Nat) u, isIn ks j = false → μ[j]? = some u → μ'[j]? = some u) (hk : ∀ b, b < w.heap.size → ¬ M b → ¬ M' b ∧ w'.heap[b]? = w.heap[b]?) :
    ∀ (k : Nat) (x : AV) (v : Value), Cn μ M w x v → Cn μ' M' w' (stale ks k x) v := by
  have mp : ∀ (k : Nat), (∀ (x : AV) (v : Value), Cn μ M w x v → Cn μ' M' w' (stale ks k x) v) → ∀ {cs : List AV} {vs : List Value}, CnL μ M w cs vs → CnL μ' M' w' (cs.map (stale ks k)) vs := by
    intro k ih cs vs h
    refine ⟨by simp [h.1], fun j x v hx hv => ?_⟩
    obtain ⟨y, hy, rfl⟩ := map_at hx
    exact ih y v (h.2 j y v hy hv)
  intro k
  induction k with
  | zero =>
    intro x v h
    cases x with
    | im x => cases h with
              | im h => exact .im (h.keep hk)
    | _ => exact .im (.any _)
  | succ k ih =>
    intro x v h
    cases x with
    | im x => cases h with
              | im h => exact .im (h.keep hk)
    | ref i o =>
      simp only [stale]
      cases hi : isIn ks i with
      | true => exact .im (.any _)
      | false => cases h with
                 | ref h1 h2 => exact .ref (hm _ _ hi h1) h2
    | own i =>
      simp only [stale]
      cases hi : isIn ks i with
      | true => exact .im (.any _)
      | false => cases h with
                 | own h1 => exact .own (hm _ _ hi h1)
    | sub i o k n =>
      simp only [stale]
      cases hi : isIn ks i with
      | true => exact .im (.any _)
      | false => cases h with
                 | sub h1 => exact .sub (hm _ _ hi h1)
    | agg cs => cases h with
                | agg h1 h2 h3 => have := mp k ih ⟨h1, h2⟩; exact .agg this.1 this.2 h3
    | tup cs => cases h with
                | tup h1 h2 => have := mp k ih ⟨h1, h2⟩; exact .tup this.1 this.2
    | fn f p q => cases h with
                  | fn h1 h2 h3 h4 => have e1 := mp k ih ⟨h1, h2⟩; have e2 := mp k ih ⟨h3, h4⟩; exact .fn e1.1 e1.2 e2.1 e2.2
theorem staleL_sound {ks : List Nat} {μ' : List Value} {M M' : Nat → Prop} {w' : World} (hm : ∀ (j : Nat) u,isIn ks j = false → μ[j]? = some u → μ'[j]? = some u) (hk : ∀ b,b < w.heap.size → ¬ M b → ¬ M' b ∧ w'.heap[b]? = w.heap[b]?) (k : Nat)
  {cs : List AV} {vs : List Value} (h : CnL μ M w cs vs) : CnL μ' M' w' (cs.map (stale ks k)) vs:=by
 refine ⟨by simp [h.1],fun j x v hx hv=>?_⟩
 obtain ⟨y,hy,rfl⟩:=map_at hx
 exact stale_sound hm hk k y v (h.2 j y v hy hv)
theorem staleO_live {ks : List Nat} {o : AO} : (staleO ks o).live = o.live:=by cases o <;> rfl
theorem staleO_sound {ks : List Nat} {μ' : List Value} {M M' : Nat → Prop} {w' : World} (hm : ∀ (j : Nat) u,isIn ks j = false → μ[j]? = some u → μ'[j]? = some u) (hk : ∀ b,b < w.heap.size → ¬ M b → ¬ M' b ∧ w'.heap[b]? = w.heap[b]?)
  {u : Value} {o : AO} (hu : ∀ g,o.live = true → blk u = some g → w'.heap[g]? = w.heap[g]?) (h : LieO μ M w u o) : LieO μ' M' w' u (staleO ks o):=by
 have own : ∀ {e k n : Nat} {vs : List Value},(∀ g,blk u = some g → w'.heap[g]? = w.heap[g]?) → w.ownsRow 0 e k u n vs → w'.ownsRow 0 e k u n vs:=fun hu h1=>by
  refine ⟨h1.1,?_⟩
  rcases h1.2 with h | ⟨g,cap,cur,rfl,a,b,c⟩
  ·exact .inl h
  ·exact .inr ⟨g,cap,cur,rfl,a,(hu g rfl).trans b,c⟩
 cases o with
 | box e cs=>obtain ⟨g,vs,rfl,h1,h2,h3⟩:=h; exact ⟨g,vs,rfl,(hu g rfl rfl).trans h1,staleL_sound hm hk 6 h2,h3⟩
 | row e k n cs=>obtain ⟨vs,h1,h2,h3⟩:=h; exact ⟨vs,own (fun g=>hu g rfl) h1,h2.keep hk,h3⟩
 | rowa e k n cs=>obtain ⟨vs,h1,h2,h3⟩:=h; exact ⟨vs,own (fun g=>hu g rfl) h1,staleL_sound hm hk 6 h2,h3⟩
 | mp es=>
  obtain ⟨r,ents,c,rfl,h1,h2,h3⟩:=h
  refine ⟨r,ents,c,rfl,(hu r rfl rfl).trans h1,by simp [h2],fun j p m a b=>?_⟩
  obtain ⟨q,hq,rfl⟩:=map_at a
  exact ⟨(h3 j q m hq b).1,stale_sound hm hk 6 _ _ (h3 j q m hq b).2⟩
 | dead=>trivial
theorem set_get {α : Type} {l : List α} {i j : Nat} {x y : α} (h : (l.set i x)[j]? = some y) : (i = j ∧ y = x ∧ i < l.length) ∨ (i ≠ j ∧ l[j]? = some y):=by
 by_cases hj : i = j
 ·subst hj
  have hlt : i < l.length:=by have:=(List.getElem?_eq_some_iff.1 h).1; simpa using this
  rw [List.getElem?_set_self hlt] at h; simp at h; exact .inl ⟨rfl,h.symm,hlt⟩
 ·rw [List.getElem?_set_ne hj] at h; exact .inr ⟨hj,h⟩
theorem stl_sound {ks : List Nat} {μ' : List Value} {M M' : Nat → Prop} {w' : World} (hm : ∀ (j : Nat) u,isIn ks j = false → μ[j]? = some u → μ'[j]? = some u) (hk : ∀ b,b < w.heap.size → ¬ M b → ¬ M' b ∧ w'.heap[b]? = w.heap[b]?)
  (x : AV) (v : Value) (h : Cn μ M w x v) : Cn μ' M' w' (stl ks x) v:=by
 cases ks with
 | nil=>exact h.keep (fun j u hu=>hm j u rfl hu) hk
 | cons a l=>exact stale_sound hm hk 6 x v h
theorem stlH_get {ks : List Nat} {H : List AO} {i : Nat} {o : AO} (h : (stlH ks H)[i]? = some o) : ∃ p,H[i]? = some p ∧ (o = p ∧ ks = [] ∨ o = staleO ks p):=by
 cases ks with
 | nil=>exact ⟨o,h,.inl ⟨rfl,rfl⟩⟩
 | cons a l=>obtain ⟨p,hp,rfl⟩:=map_at h; exact ⟨p,hp,.inr rfl⟩
theorem stlH_len {ks : List Nat} {H : List AO} : (stlH ks H).length = H.length:=by cases ks <;> simp [stlH]
theorem sc_sound {m : Nat} {μ' : List Value} {M M' : Nat → Prop} (hm : ∀ (j : Nat) u, j < m → μ[j]? = some u → μ'[j]? = some u) (hM : ∀ b, M' b → M b) :
    ∀ (k : Nat) (x : AV) (v : Value), sc m k x = true → Cn μ M w x v → Cn μ' M' w x v := by
  have bl : ∀ {i : Nat}, Nat.blt i m = true → i < m := fun h => by simp [Nat.blt] at h; omega
  have mp : ∀ (k : Nat), (∀ (x : AV) (v : Value), sc m k x = true → Cn μ M w x v → Cn μ' M' w x v) → ∀ {cs : List AV} {vs : List Value}, cs.all (sc m k) = true → CnL μ M w cs vs → CnL μ' M' w cs vs := by
    intro k ih cs vs hs h
    exact ⟨h.1, fun j x v hx hv => ih x v (List.all_eq_true.1 hs x (List.mem_of_getElem? hx)) (h.2 j x v hx hv)⟩
  have imc : ∀ {x : IV} {v : Value}, Cn μ M w (.im x) v → Cn μ' M' w (.im x) v := fun h => by
    cases h with
    | im h => exact .im (h.mono hM)
  intro k
  induction k with
  | zero =>
    intro x v hs h
    cases x <;> first | exact imc h | cases hs
  | succ k ih =>
    intro x v hs h
    cases x with
    | im x => exact imc h
    | ref i o => cases h with
                 | ref h1 h2 => exact .ref (hm _ _ (bl hs) h1) h2
    | own i => cases h with
               | own h1 => exact .own (hm _ _ (bl hs) h1)
    | sub i o k n => cases h with
                     | sub h1 => exact .sub (hm _ _ (bl hs) h1)
    | agg cs => cases h with
                | agg h1 h2 h3 => have := mp k ih hs ⟨h1, h2⟩; exact .agg this.1 this.2 h3
    | tup cs => cases h with
                | tup h1 h2 => have := mp k ih hs ⟨h1, h2⟩; exact .tup this.1 this.2
    | fn f p q =>
      simp only [sc, Bool.and_eq_true] at hs
      cases h with
      | fn h1 h2 h3 h4 => have e1 := mp k ih hs.1 ⟨h1, h2⟩; have e2 := mp k ih hs.2 ⟨h3, h4⟩; exact .fn e1.1 e1.2 e2.1 e2.2
theorem scL_sound {m : Nat} {μ' : List Value} {M M' : Nat → Prop} (hm : ∀ (j : Nat) u,j < m → μ[j]? = some u → μ'[j]? = some u) (hM : ∀ b,M' b → M b) {cs : List AV} {vs : List Value} (hs : cs.all (sc m 6) = true) (h : CnL μ M w cs vs) : CnL μ' M' w cs vs:=
 ⟨h.1,fun j x v hx hv=>sc_sound hm hM 6 x v (List.all_eq_true.1 hs x (List.mem_of_getElem? hx)) (h.2 j x v hx hv)⟩
theorem scO_sound {m : Nat} {μ' : List Value} {M M' : Nat → Prop} (hm : ∀ (j : Nat) u,j < m → μ[j]? = some u → μ'[j]? = some u) (hM : ∀ b,M' b → M b) {u : Value} {o : AO} (hs : scO m o = true) (h : LieO μ M w u o) : LieO μ' M' w u o:=by
 cases o with
 | box e cs=>obtain ⟨g,vs,rfl,h1,h2,h3⟩:=h; exact ⟨g,vs,rfl,h1,scL_sound hm hM hs h2,h3⟩
 | row e k n cs=>obtain ⟨vs,h1,h2,h3⟩:=h; exact ⟨vs,h1,h2.keep fun b _ hn=>⟨fun h=>hn (hM b h),rfl⟩,h3⟩
 | rowa e k n cs=>obtain ⟨vs,h1,h2,h3⟩:=h; exact ⟨vs,h1,scL_sound hm hM hs h2,h3⟩
 | mp es=>
  obtain ⟨r,ents,c,rfl,h1,h2,h3⟩:=h
  exact ⟨r,ents,c,rfl,h1,h2,fun j p q a b=>⟨(h3 j p q a b).1,sc_sound hm hM 6 _ _ (List.all_eq_true.1 hs p (List.mem_of_getElem? a)) (h3 j p q a b).2⟩⟩
 | dead=>trivial
def Bl (μ : List Value) (B : Nat → Prop) (H : List AO) (m : Nat) (b : Nat) : Prop:=B b ∨ ∃ (i : Nat) (o : AO) (u : Value),m ≤ i ∧ H[i]? = some o ∧ o.live = true ∧ μ[i]? = some u ∧ blk u = some b
theorem take_get {α : Type} {l : List α} {m i : Nat} {x : α} (h : (l.take m)[i]? = some x) : i < m ∧ l[i]? = some x:=by
 rw [List.getElem?_take] at h
 by_cases hi : i < m
 ·rw [if_pos hi] at h; exact ⟨hi,h⟩
 ·rw [if_neg hi] at h; cases h
theorem get_take {α : Type} {l : List α} {m i : Nat} {x : α} (hi : i < m) (h : l[i]? = some x) : (l.take m)[i]? = some x:=by
 rw [List.getElem?_take,if_pos hi]; exact h
theorem lend_mut {m : Nat} {b : Nat} : Mut (μ.take m) (Bl μ B H m) (H.take m) b ↔ Mut μ B H b:=by
 constructor
 ·rintro ((h | ⟨i,o,u,-,h1,h2,h3,h4⟩) | ⟨i,o,u,h1,h2,h3,h4⟩)
  ·exact .inl h
  ·exact .inr ⟨i,o,u,h1,h2,h3,h4⟩
  ·exact .inr ⟨i,o,u,(take_get h1).2,h2,(take_get h3).2,h4⟩
 ·rintro (h | ⟨i,o,u,h1,h2,h3,h4⟩)
  ·exact .inl (.inl h)
  ·by_cases hi : i < m
   ·exact .inr ⟨i,o,u,get_take hi h1,h2,get_take hi h3,h4⟩
   ·exact .inl (.inr ⟨i,o,u,by omega,h1,h2,h3,h4⟩)
theorem lend_lies (h : Lies μ B w H) {m : Nat} (hs : (H.take m).all (scO m) = true) : Lies (μ.take m) (Bl μ B H m) w (H.take m):=by
 refine ⟨by simp [h.len],fun i o u ho hu=>?_,fun b hb=>?_,fun i o u g ho hl hu hg hb=>?_,fun i u hu=>h.one i u (take_get hu).2,fun i j o p u v g ho hp hlo hlp hu hv hg hg'=>h.inj i j o p u v g (take_get ho).2 (take_get hp).2 hlo hlp (take_get hu).2 (take_get hv).2 hg hg',h.gl.keep fun b _ hn=>⟨fun hm=>hn (lend_mut.1 hm),rfl⟩⟩
 ·exact scO_sound (fun j u hj hu=>get_take hj hu) (fun b hb=>lend_mut.1 hb) (List.all_eq_true.1 hs o (List.mem_of_getElem? ho)) (h.obj i o u (take_get ho).2 (take_get hu).2)
 ·rcases hb with hb | ⟨i,o,u,-,h1,h2,h3,h4⟩
  ·exact h.out b hb
  ·exact h.lt h1 h2 h3 h4
 ·rcases hb with hb | ⟨j,p,v,hj,h1,h2,h3,h4⟩
  ·exact h.sep i o u g (take_get ho).2 hl (take_get hu).2 hg hb
  ·have:=h.inj i j o p u v g (take_get ho).2 h1 hl h2 (take_get hu).2 h3 hg h4
   have:=(take_get ho).1
   omega
theorem St.back (h : St n L B w0 m0 R μ t H a w) {m : Nat} {mv : List Nat} {R' : Nat → Bool} (hR : (List.range m).all (fun i=>!R' i || (isIn mv i && R i)) = true) (hmH : m ≤ H.length) {w' : World} {μ' : List Value} {H' : List AO} {x : AV} {v : Value}
  (h2 : Lies μ' (Bl μ B H m) w' H') (hx : Cn μ' (Mut μ' (Bl μ B H m) H') w' x v) (hw : Kept (Own' (μ.take m) (H.take m)) w w') (hn : ∀ b,Own' μ' H' b → Own' (μ.take m) (H.take m) b ∨ w.heap.size ≤ b)
  (hf : ∀ (i : Nat) u,R' i = false → (μ.take m)[i]? = some u → μ'[i]? = some u) (hl : H'.length = m ∨ m = H.length) :
  St n L B w0 m0 R (μ' ++ μ.drop m) (fun j=>stl mv (t j)) (H' ++ stlH mv (H.drop m)) a w' ∧ Cn (μ' ++ μ.drop m) (Mut (μ' ++ μ.drop m) B (H' ++ stlH mv (H.drop m))) w' x v:=by
 have hL:=h.lies
 have hlen:=hL.len
 have hlen':=h2.len
 -- places of the new memory
 have place : ∀ (i : Nat) (o : AO) (u : Value),(H' ++ stlH mv (H.drop m))[i]? = some o → (μ' ++ μ.drop m)[i]? = some u → (H'[i]? = some o ∧ μ'[i]? = some u) ∨ (H'.length = m ∧ m ≤ i ∧ ∃ p,H[i]? = some p ∧ μ[i]? = some u ∧ (o = p ∧ mv = [] ∨ o = staleO mv p)):=by
  intro i o u ho hu
  by_cases hi : i < H'.length
  ·rw [List.getElem?_append_left hi] at ho
   rw [List.getElem?_append_left (by omega)] at hu
   exact .inl ⟨ho,hu⟩
  ·rw [List.getElem?_append_right (by omega)] at ho
   rw [List.getElem?_append_right (by omega),hlen'] at hu
   obtain ⟨p,hp,he⟩:=stlH_get ho
   rw [List.getElem?_drop] at hp hu
   rcases hl with hl | hl
   ·rw [hl,show m + (i - m) = i by omega] at hp hu
    exact .inr ⟨hl,by omega,p,hp,hu,he⟩
   ·have:=(List.getElem?_eq_some_iff.1 hp).1; omega
 have live : ∀ {o p : AO},(o = p ∧ mv = [] ∨ o = staleO mv p) → o.live = true → p.live = true:=by
  rintro o p (⟨rfl,-⟩ | rfl) hl
  ·exact hl
  ·rwa [staleO_live] at hl
 have mut2 : ∀ b,Mut (μ' ++ μ.drop m) B (H' ++ stlH mv (H.drop m)) b → Mut μ' (Bl μ B H m) H' b:=by
  rintro b (hB | ⟨i,o,u,k1,k2,k3,k4⟩)
  ·exact .inl (.inl hB)
  ·rcases place i o u k1 k3 with ⟨e1,e2⟩ | ⟨-,e0,p,e1,e2,e3⟩
   ·exact .inr ⟨i,o,u,e1,k2,e2,k4⟩
   ·exact .inl (.inr ⟨i,p,u,e0,e1,live e3 k2,e2,k4⟩)
 have own1 : ∀ b,Own' (μ.take m) (H.take m) b → Own' μ H b:=by
  rintro b ⟨i,o,u,k1,k2,k3,k4⟩
  exact ⟨i,o,u,(take_get k1).2,k2,(take_get k3).2,k4⟩
 have hk : ∀ b,b < w.heap.size → ¬ Mut μ B H b → ¬ Mut (μ' ++ μ.drop m) B (H' ++ stlH mv (H.drop m)) b ∧ w'.heap[b]? = w.heap[b]?:=by
  intro b hlt hnm
  refine ⟨fun hm=>?_,hw.block b hlt fun ho=>hnm (.inr (own1 b ho))⟩
  rcases mut2 b hm with hb | hb
  ·rcases hb with hb | ⟨i,o,u,-,k1,k2,k3,k4⟩
   ·exact hnm (.inl hb)
   ·exact hnm (.inr ⟨i,o,u,k1,k2,k3,k4⟩)
  ·rcases hn b hb with hb | hb
   ·exact hnm (.inr (own1 b hb))
   ·omega
 have hR' : ∀ (i : Nat),i < m → R' i = true → isIn mv i = true ∧ R i = true:=by
  intro i hi hr
  have:=List.all_eq_true.1 hR i (List.mem_range.2 hi)
  rw [hr] at this
  simpa using this
 have fixd : ∀ (j : Nat) u,(j < m → R' j = false) → μ[j]? = some u → (μ' ++ μ.drop m)[j]? = some u:=by
  intro j u hj hu
  have hjl:=(List.getElem?_eq_some_iff.1 hu).1
  by_cases hjm : j < m
  ·have:=hf j u (hj hjm) (get_take hjm hu)
   rw [List.getElem?_append_left (List.getElem?_eq_some_iff.1 this).1]; exact this
  ·rcases hl with hl | hl
   ·rw [List.getElem?_append_right (by omega),List.getElem?_drop,hlen',hl,show m + (j - m) = j by omega]; exact hu
   ·omega
 have hm' : ∀ (j : Nat) u,isIn mv j = false → μ[j]? = some u → (μ' ++ μ.drop m)[j]? = some u:=by
  intro j u hj hu
  refine fixd j u (fun hjm=>?_) hu
  cases hr : R' j with
  | false=>rfl
  | true=>rw [(hR' j hjm hr).1] at hj; cases hj
 have hkn : ∀ b,b < w'.heap.size → ¬ Mut μ' (Bl μ B H m) H' b → ¬ Mut (μ' ++ μ.drop m) B (H' ++ stlH mv (H.drop m)) b ∧ w'.heap[b]? = w'.heap[b]?:=fun b _ hnm=>⟨fun hm=>hnm (mut2 b hm),rfl⟩
 have hmn : ∀ (i : Nat) u,μ'[i]? = some u → (μ' ++ μ.drop m)[i]? = some u:=fun i u hu=>by
  rw [List.getElem?_append_left (List.getElem?_eq_some_iff.1 hu).1]; exact hu
 refine ⟨⟨h.dfr,h.sz,fun j=>stl_sound hm' hk _ _ (h.tm j),⟨?_,?_,?_,?_,?_,?_,hL.gl.keep hk⟩,?_,?_,?_⟩,hx.keep hmn hkn⟩
 ·simp [hlen',hlen,stlH_len]
 ·intro i o u ho hu
  rcases place i o u ho hu with ⟨e1,e2⟩ | ⟨e4,e0,p,e1,e2,e3⟩
  ·exact (h2.obj i o u e1 e2).keep hmn hkn fun _ _ _=>rfl
  ·have hu' : ∀ g,p.live = true → blk u = some g → w'.heap[g]? = w.heap[g]?:=by
    intro g hlp hg
    refine hw.block g (hL.lt e1 hlp e2 hg) ?_
    rintro ⟨j,q,z,k1,k2,k3,k4⟩
    have:=hL.inj i j p q u z g e1 (take_get k1).2 hlp k2 e2 (take_get k3).2 hg k4
    have:=(take_get k1).1
    omega
   rcases e3 with ⟨rfl,he⟩ | rfl
   ·exact (hL.obj i o u e1 e2).keep (fun j z hz=>hm' j z (by rw [he]; rfl) hz) hk hu'
   ·exact staleO_sound hm' hk hu' (hL.obj i p u e1 e2)
 ·exact fun b hB=>Nat.lt_of_lt_of_le (hL.out b hB) hw.size
 ·intro i o u g ho hlo hu hg hB
  rcases place i o u ho hu with ⟨e1,e2⟩ | ⟨-,e0,p,e1,e2,e3⟩
  ·exact h2.sep i o u g e1 hlo e2 hg (.inl hB)
  ·exact hL.sep i p u g e1 (live e3 hlo) e2 hg hB
 ·intro i u hu
  by_cases hi : i < μ'.length
  ·rw [List.getElem?_append_left hi] at hu; exact h2.one i u hu
  ·rw [List.getElem?_append_right (by omega),List.getElem?_drop] at hu; exact hL.one _ u hu
 ·intro i j o p u z g ho hp hlo hlp hu hz hg hg'
  rcases place i o u ho hu with ⟨e1,e2⟩ | ⟨-,e0,o',e1,e2,e3⟩ <;> rcases place j p z hp hz with ⟨f1,f2⟩ | ⟨-,f0,p',f1,f2,f3⟩
  ·exact h2.inj i j o p u z g e1 f1 hlo hlp e2 f2 hg hg'
  ·exact (h2.sep i o u g e1 hlo e2 hg (.inr ⟨j,p',z,f0,f1,live f3 hlp,f2,hg'⟩)).elim
  ·exact (h2.sep j p z g f1 hlp f2 hg' (.inr ⟨i,o',u,e0,e1,live e3 hlo,e2,hg⟩)).elim
  ·exact hL.inj i j o' p' u z g e1 f1 (live e3 hlo) (live f3 hlp) e2 f2 hg hg'
 ·refine ⟨hw.os.trans h.kept.os,hw.tape.trans h.kept.tape,hw.output.trans h.kept.output,Nat.le_trans h.kept.size hw.size,fun b hlt hnl=>?_⟩
  refine (hw.block b (Nat.lt_of_lt_of_le hlt h.kept.size) fun e=>?_).trans (h.kept.block b hlt hnl)
  rcases h.new b (own1 b e) with k | k
  ·exact hnl k
  ·omega
 ·rintro b ⟨i,o,u,ho,hlo,hu,hg⟩
  rcases place i o u ho hu with ⟨e1,e2⟩ | ⟨-,e0,p,e1,e2,e3⟩
  ·rcases hn b ⟨i,o,u,e1,hlo,e2,hg⟩ with k | k
   ·exact h.new b (own1 b k)
   ·exact .inr (Nat.le_trans h.kept.size k)
  ·exact h.new b ⟨i,p,u,e1,live e3 hlo,e2,hg⟩
 ·intro i u hRi hu
  refine fixd i u (fun him=>?_) (h.fix i u hRi hu)
  cases hr : R' i with
  | false=>rfl
  | true=>rw [(hR' i him hr).2] at hRi; cases hRi
end
end Go.Proofs.YtlhmaljjdpjkgaaGreatDoor
