/- The law's row: for all two matrices of whole numbers. -/
import Derived.Deep.DeepHandedRow
import Derived.Lib.LaidTab
import Derived.OpenShut
import Derived.ProofKit
import Derived.Shelf.Vars
import Derived.Test.YtlhmaljjdpjkgaaGreatDoorCards
import Derived.Test.YtlhmaljjdpjkgaaGreatDoorTaClosed
import Derived.Test.YtlhmaljjdpjkgaaGreatDoorTaM2
import Derived.Test.YtlhmaljjdpjkgaaGreatDoorTaM21
namespace Go.Proofs.YtlhmaljjdpjkgaaGreatDoor.topAlgebra
open Go.ChangeShapes Go.WideShapes Go.ChangeAt Go.RowKit
theorem own : ownKnob Tryz.prog.godebug = none:=by kernel_rfl
theorem laidOut : laidOutB Tryz.prog = true:=by kernel_rfl
theorem ci_word {M : Nat → Prop} {w : World} {u : Value} {xs : List Nat} (h : Sl .u64 w u xs) (hM : ∀ b,¬ M b) : Ci M w (nt xs) u:=by
 obtain ⟨ao,b,off,cap,rfl,hl,hc⟩:=h
 refine .sl (vs:=fun j=>.int .u64 (xs.getD j 0 : Nat)) (by unfold ws; simp) hl (fun hne=>⟨hc.ao (fun e=>hne (by rw [e]; rfl)),hM b⟩) (fun j hj=>?_) (fun j x hx=>?_) (fun j _=>rfl)
 ·unfold ws at hj; rw [List.length_map] at hj; exact hc.cell j hj
 ·unfold ws at hx
  rw [List.getElem?_map,Option.map_eq_some_iff] at hx
  obtain ⟨y,hy,rfl⟩:=hx
  rw [List.getD_eq_getElem?_getD,hy]; exact .raw _
theorem zn_flat : ∀ (ps : List (Bool × List Nat)) (i : Nat),((ps.map zn).flatten)[i * 2]? = ps[i]?.map (fun p=>IV.raw (.bool p.1)) ∧ ((ps.map zn).flatten)[i * 2 + 1]? = ps[i]?.map fun p=>nt p.2
 | [],i=>by simp
 | p :: ps,0=>⟨rfl,rfl⟩
 | p :: ps,i + 1=>by
  obtain ⟨h1,h2⟩:=zn_flat ps i
  have e1 : (i + 1) * 2 = i * 2 + 1 + 1:=by omega
  rw [e1]
  exact ⟨h1,h2⟩
theorem zn_flat_len : ∀ ps : List (Bool × List Nat),((ps.map zn).flatten).length = ps.length * 2
 | []=>rfl
 | p :: ps=>by rw [List.map_cons,List.flatten_cons,List.length_append,zn_flat_len ps,List.length_cons]; show 2 + _ = _; omega
theorem ci_mat {w : World} {v : Value} {R C : Int} {ps : List (Bool × List Nat)} (h : Mw w v R C ps) : Ci (fun _=>False) w (aI R C ps) v ∧ ∀ e ∈ ps,wf W64 e.2:=by
 obtain ⟨u,rfl,ao,b,off,cap,rfl,hl,hz⟩:=h
 refine ⟨?_,fun e he=>?_⟩
 ·refine .agg (vs:=[.int .i64 R,.int .i64 C,.slice ao ps.length cap]) rfl (fun j x v hx hv=>?_) (fun v hv=>by simp at hv; rcases hv with rfl | rfl | rfl <;> rfl)
  match j with
  | 0=>cases hx; cases hv; exact .raw _
  | 1=>cases hx; cases hv; exact .raw _
  | 2=>
   cases hx; cases hv
   have cell : ∀ j,j < ps.length * 2 → ∃ u,w.cell? ⟨b,off + j,none⟩ = some u ∧ u.oneCell' = true ∧ ∀ x,((ps.map zn).flatten)[j]? = some x → Ci (fun _=>False) w x u:=by
    intro j hj
    obtain ⟨i,rfl | rfl⟩ : ∃ i,j = i * 2 ∨ j = i * 2 + 1:=⟨j / 2,by omega⟩
    ·have hi : i < ps.length:=by omega
     obtain ⟨u,h1,-⟩:=hz.cell i hi
     refine ⟨_,h1,rfl,fun x hx=>?_⟩
     rw [(zn_flat ps i).1,List.getElem?_eq_getElem hi] at hx
     rw [List.getD_eq_getElem?_getD,List.getElem?_eq_getElem hi]
     cases hx; exact .raw _
    ·have hi : i < ps.length:=by omega
     obtain ⟨u,-,h2,h3,-⟩:=hz.cell i hi
     refine ⟨u,by rw [← Nat.add_assoc]; exact h2,by obtain ⟨_,_,_,_,rfl,-⟩:=h3; rfl,fun x hx=>?_⟩
     rw [(zn_flat ps i).2,List.getElem?_eq_getElem hi] at hx
     rw [List.getD_eq_getElem?_getD,List.getElem?_eq_getElem hi] at h3
     cases hx; exact ci_word h3 fun _ h=>h
   refine .sl (b:=b) (o:=off) (vs:=fun j=>(w.cell? ⟨b,off + j,none⟩).getD undef) (zn_flat_len ps).symm hl (fun hne=>⟨hz.ao (fun e=>hne (by rw [e]; rfl)),id⟩) (fun j hj=>?_) (fun j x hx=>?_) (fun j hj=>?_)
   ·rw [zn_flat_len] at hj
    obtain ⟨u,h1,-⟩:=cell j hj
    rw [h1]; rfl
   ·have hj : j < ps.length * 2:=by rw [← zn_flat_len]; exact (List.getElem?_eq_some_iff.1 hx).1
    obtain ⟨u,h1,-,h3⟩:=cell j hj
    rw [h1]; exact h3 x hx
   ·rw [zn_flat_len] at hj
    obtain ⟨u,h1,h2,-⟩:=cell j hj
    rw [h1]; exact h2
  | j + 3=>simp at hx
 ·obtain ⟨j,hj⟩:=List.getElem?_of_mem he
  have hlt:=(List.getElem?_eq_some_iff.1 hj).1
  obtain ⟨u,-,-,-,h4⟩:=hz.cell j hlt
  rw [List.getD_eq_getElem?_getD,hj] at h4
  exact h4
theorem max_len {W : World} (h : W.ShapedOpen Tryz.prog) : ∃ m,W.cell? ⟨0,0,none⟩ = some (.int .i64 m):=
 cell_of_shapedOpen_int (P:=Tryz.prog) (g:=0) (t:=3) (zero:=#[.int .i64 0]) (k:=.i64) h (of_decide_eq_true (by kernel_rfl)) (by kernel_rfl) rfl (by kernel_rfl) (by kernel_rfl) Tryz.underlying3
theorem walk {W : World} {v0 v1 : Value} {R C R' C' : Int} {ps ps' : List (Bool × List Nat)} (h0 : Mw W v0 R C ps) (h1 : Mw W v1 R' C' ps') (hs : W.ShapedOpen Tryz.prog) :
  Calls Tryz.prog 3 #[v0,v1] W fun e W'=>e = .returned (.bool true) ∧ Below W.heap.size W W':=by
 obtain ⟨c0,w0⟩:=ci_mat h0
 obtain ⟨c1,w1⟩:=ci_mat h1
 obtain ⟨m,hm⟩:=max_len hs
 have hc : CiL (fun _=>False) W [aI R C ps,aI R' C' ps'] [v0,v1]:=⟨rfl,fun j x v hx hv=>by
  match j with
  | 0=>cases hx; cases hv; exact c0
  | 1=>cases hx; cases hv; exact c1
  | j + 2=>simp at hx⟩
 have hE:=ent_of (P:=Tryz.prog) Tryz.func3 (by kernel_rfl) #[v0,v1] W
 rcases law (R:=R) (C:=C) (R':=R') (C':=C') w0 w1 with ⟨-,h⟩ | h
 ·refine (h (fun _=>False) W [v0,v1] (fun _ h=>h.elim) ⟨⟨m,hm⟩,id⟩ hc).mono ?_
  rintro e W' ⟨r,v,rfl,rfl,hr,hb⟩
  cases hr
  exact ⟨rfl,hb⟩
 ·obtain ⟨r,v,-,-,hx⟩:=h (fun _=>False) W [v0,v1] hc
  have:=hE.symm.trans hx
  cases this
set_option maxRecDepth 100000 in
theorem contract (H : Type) (enc : TypeId × Value → H) (W : World) (base : Nat) (args : Array Value) (ds gs : List (DataW H)) (before : List MemPlace)
  (hval0 : ∀ (j : Nat) t v,Tryz.f3.params[j]? = some t → args[j]? = some v → Value.okWide Tryz.prog W .any base t v)
  (hW : DataW.Whole enc Tryz.prog Tryz.f3.params.toList Rows.topAlgebraSpec.vars false W args.toList ds gs before) (hs : W.ShapedOpen Tryz.prog) :
  Calls Tryz.prog 3 args W fun e W'=>∃ v,e = .returned v ∧ Rows.topAlgebraSpec.post enc Tryz.prog Tryz.f3 false true false false W args v W':=by
 have hval : ∀ (j : Nat) t v,Tryz.f3.params[j]? = some t → args[j]? = some v → Value.okWide Tryz.prog W .any base t v:=hval0
 have hW':=hW
 obtain ⟨p,q,hA0,hV,rfl,hfz,hnd⟩:=hW
 have hA : DataW.TrodAll enc Tryz.prog W 0 (fun _=>true) true Tryz.f3.params.toList args.toList ds p:=hA0
 rw [Tryz.params3] at hA hval
 obtain ⟨v0,vs0,d0,ds0,p0,q0,hargs,rfl,rfl,h0,r0⟩:=trodAll_cons hA
 obtain ⟨v1,vs1,d1,ds1,p1,q1,rfl,rfl,rfl,h1,r1⟩:=trodAll_cons r0
 obtain ⟨rfl,rfl,rfl⟩:=trodAll_nil r1
 obtain rfl : args = #[v0,v1]:=by cases args; simp_all
 obtain ⟨rfl,rfl⟩:=trodVars_none hV
 have k0:=h0
 have lt0 : ∀ x ∈ p0,x.block < W.heap.size:=by obtain ⟨m,hm⟩:=k0; exact DataW.trod_lt m _ _ _ hm
 obtain ⟨R,C,ps,m0,-,-⟩:=open_mat (hval 0 24 v0 rfl rfl) h0
 have k1:=h1
 have lt1 : ∀ x ∈ p1,x.block < W.heap.size:=by obtain ⟨m,hm⟩:=k1; exact DataW.trod_lt m _ _ _ hm
 obtain ⟨R',C',ps',m1,-,-⟩:=open_mat (hval 1 24 v1 rfl rfl) h1
 clear hA0 hval0
 refine (walk m0 m1 hs).mono fun e W' ⟨he,bel⟩=>?_
 subst he
 exact ⟨_,rfl,_,_,_,[],_,[],hW',trodAll_mk1 (shut_bool Tryz.underlying4 _),(trodAll_cons_mk (Below.trod laidOut (by kernel_rfl) (of_decide_eq_true (by kernel_rfl)) k0 bel lt0) (trodAll_cons_mk (Below.trod laidOut (by kernel_rfl) (of_decide_eq_true (by kernel_rfl)) k1 bel lt1) trodAll_mk0)),rfl,bel.frame _,fun h=>by cases h⟩
def lc0 : DataW Unit → List Value
 | .lit (.int k n)=>[.int k n]
 | _=>[]
def lc1 : DataW Unit → List Value
 | .agg ps=>(ps.map lc0).flatten
 | d=>lc0 d
def lc2 : DataW Unit → List Value
 | .agg ps=>(ps.map lc1).flatten
 | d=>lc0 d
def putC (cs : List Value) : Obj → Obj
 | .cells _ t frozen=>.cells cs.toArray t frozen
 | o=>o
noncomputable def laidWorld (os : Os) : World:=
 { World.holding Tryz.prog os ⟨#[],#[],[]⟩ with heap:=((World.holding Tryz.prog os ⟨#[],#[],[]⟩).heap.modify 1 (putC (lc1 Rows.laid_unicode_utf8_first))).modify 2 (putC (lc2 (Rows.laid_unicode_utf8_acceptRanges (H:=Unit)))) }
def a0v : Array Value:=#[.agg #[.int .i64 0,.int .i64 0,.slice none 0 0],.agg #[.int .i64 0,.int .i64 0,.slice none 0 0]]
theorem laid_met (os : Os) : laidMet Tryz.prog Rows.topAlgebraRow.laid ((laidWorld os).forCall (fun _ _=>0) ⟨#[],a0v,[]⟩).memory:=
 laidMet_of_run' 8 (by kernel_rfl) (by kernel_rfl)
theorem reads (os : Os) {H : Type} (enc : TypeId × Value → H) : ∃ ds places,DataW.whole enc Tryz.prog ((laidWorld os).forCall (fun _ _=>0) ⟨#[],a0v,[]⟩).memory Tryz.f3.params.toList Rows.topAlgebraSpec.vars false a0v.toList 8 = some (ds,[],places):=
 ⟨[.agg [.lit (.int .i64 0),.lit (.int .i64 0),.nil],.agg [.lit (.int .i64 0),.lit (.int .i64 0),.nil]],[],by kernel_rfl⟩
set_option maxRecDepth 100000 in
theorem lifted (os : Os) (started : os.Started) (H : Type) (enc : TypeId × Value → H) (F : Stop.Interp) :
  ReturnsInHanded {} Tryz.checked os 3 .any ((OpenSpec.ofChange Rows.topAlgebraSpec).preRow enc Tryz.prog Tryz.f3 Rows.topAlgebraRow.domain false Rows.topAlgebraRow.laid) (((OpenSpec.ofChange Rows.topAlgebraSpec).at F).post enc Tryz.prog Tryz.f3 false true false false):=by
 obtain ⟨ds,places,hx⟩:=reads os enc
 refine returnsInHanded_of_row (C:=Tryz.checked) (s:=OpenSpec.ofChange Rows.topAlgebraSpec) own started (by kernel_rfl) Tryz.func3
  (witness_row_at (enc:=enc) (C:=Tryz.checked) false (laidWorld os) a0v rfl (by kernel_rfl) (by kernel_rfl) (by kernel_rfl)
   (OpenSpec.preRow_of_cond 8 hx (by kernel_rfl) (fun k hk=>by cases hk) (by kernel_rfl) (laid_met os))) ?_
 intro W base args ds gs before hval hW _ _ _ _ hs _
 exact contract H enc W base args ds gs before hval hW hs
theorem said : Rows.TopAlgebraSaid:=
 OpenClaim.holds_of_cond 3 Tryz.f3 rfl rfl rfl rfl rfl rfl rfl ⟨rfl,rfl,rfl,rfl,rfl⟩ rfl rfl rfl rfl rfl f_name Tryz.func3 closed
  (of_decide_eq_true (by kernel_rfl)) (by unfold Func.isWrapper; first | (rw [if_pos (by decide +kernel)]; kernel_rfl) | (rw [if_neg (by decide +kernel)]; exact ⟨rfl,rfl⟩))
  (fun os started H enc _ F=>by rw [OpenClaim.pre_eq_preRow]; exact lifted os started H enc F)
end Go.Proofs.YtlhmaljjdpjkgaaGreatDoor.topAlgebra
