import Derived.BigQuiet
import Derived.BigRegion
import Derived.Deep.DeepCutAuto
import Derived.Deep.QuietTactic
import Derived.Deep.RegionHeld3
import Derived.Deep.RegionLaw
import Derived.Deep.RegionWith
import Derived.Lib.Hide
import Derived.WalkKit
import Derived.WalkLawsBesides
import Derived.WalkSpells
import Derived.OpenShut
import Derived.ProofKit
import Derived.Test.YtlhmaljjdpjkgaaGreatDoorProg
import Derived.Shelf.Bits.Mul64
namespace Go.Proofs.YtlhmaljjdpjkgaaGreatDoor
def W64 : Nat:=18446744073709551616
def nv (B : Nat) : List Nat → Nat
 | []=>0
 | x :: xs=>x + B * nv B xs
def wf (B : Nat) (xs : List Nat) : Prop:=∀ x,x ∈ xs → x < B
def tr : List Nat → List Nat
 | []=>[]
 | x :: xs=>match tr xs with
  | []=>if x = 0 then [] else [x]
  | y :: ys=>x :: y :: ys
def Nrm (B : Nat) (xs : List Nat) : Prop:=wf B xs ∧ tr xs = xs
theorem tr_cons (x : Nat) (xs : List Nat) : tr (x :: xs) = if tr xs = [] ∧ x = 0 then [] else x :: tr xs:=by
 simp only [tr]
 cases h : tr xs with
 | nil=>by_cases hx : x = 0 <;> simp [hx]
 | cons y ys=>simp
theorem tr_snoc0 (xs : List Nat) : tr (xs ++ [0]) = tr xs:=by
 induction xs with
 | nil=>rfl
 | cons x xs ih=>simp [tr_cons,ih]
theorem tr_snoc (xs : List Nat) (x : Nat) (h : x ≠ 0) : tr (xs ++ [x]) = xs ++ [x]:=by
 induction xs with
 | nil=>simp [tr,h]
 | cons y xs ih=>simp [tr_cons,ih]
theorem getD_lt (xs : List Nat) (k : Nat) (hk : k < xs.length) : xs.getD k 0 = xs[k]:=by
 unfold List.getD; rw [List.getElem?_eq_getElem hk]; rfl
theorem take_snoc (xs : List Nat) (k : Nat) (hk : k < xs.length) : xs.take (k + 1) = xs.take k ++ [xs.getD k 0]:=by
 rw [List.take_succ_eq_append_getElem hk,getD_lt xs k hk]
theorem last_split (xs : List Nat) (hx : xs ≠ []) : xs = xs.take (xs.length - 1) ++ [xs.getD (xs.length - 1) 0]:=by
 have hl : 0 < xs.length:=List.length_pos_iff.2 hx
 rw [← take_snoc xs _ (by omega),Nat.sub_add_cancel hl,List.take_length]
theorem tr_idem (xs : List Nat) : tr (tr xs) = tr xs:=by
 induction xs with
 | nil=>rfl
 | cons x xs ih=>
  rw [tr_cons]
  split
  ·rfl
  ·rename_i h
   rw [tr_cons,ih,if_neg h]
theorem tr_len (xs : List Nat) : (tr xs).length ≤ xs.length:=by
 induction xs with
 | nil=>simp [tr]
 | cons x xs ih=>rw [tr_cons]; split <;> simp <;> omega
theorem tr_take (xs : List Nat) : tr xs = xs.take (tr xs).length:=by
 induction xs with
 | nil=>rfl
 | cons x xs ih=>
  rw [tr_cons]
  split
  ·simp
  ·simp only [List.length_cons,List.take_succ_cons]; rw [← ih]
theorem tr_mem (xs : List Nat) {x : Nat} (h : x ∈ tr xs) : x ∈ xs:=by
 rw [tr_take] at h; exact List.mem_of_mem_take h
theorem wf_tr {B : Nat} {xs : List Nat} (h : wf B xs) : wf B (tr xs):=fun _ hx=>h _ (tr_mem xs hx)
theorem wf_nil (B : Nat) : wf B []:=by intro x hx; simp at hx
theorem wf_cons {B x : Nat} {xs : List Nat} (h : x < B) (hs : wf B xs) : wf B (x :: xs):=by
 intro y hy; rcases List.mem_cons.1 hy with rfl | hy
 ·exact h
 ·exact hs _ hy
theorem wf_append {B : Nat} {xs ys : List Nat} (h : wf B xs) (hs : wf B ys) : wf B (xs ++ ys):=by
 intro y hy; rcases List.mem_append.1 hy with hy | hy
 ·exact h _ hy
 ·exact hs _ hy
theorem wf_take {B : Nat} {xs : List Nat} (h : wf B xs) (k : Nat) : wf B (xs.take k):=fun _ hx=>h _ (List.mem_of_mem_take hx)
theorem wf_drop {B : Nat} {xs : List Nat} (h : wf B xs) (k : Nat) : wf B (xs.drop k):=fun _ hx=>h _ (List.mem_of_mem_drop hx)
theorem wf_replicate0 {B : Nat} (h : 0 < B) (k : Nat) : wf B (List.replicate k 0):=by
 intro x hx; rw [List.eq_of_mem_replicate hx]; exact h
theorem wf_getD {B : Nat} {xs : List Nat} (h : wf B xs) (hB : 0 < B) (j : Nat) : xs.getD j 0 < B:=by
 by_cases hj : j < xs.length
 ·simp [List.getD,List.getElem?_eq_getElem hj]; exact h _ (List.getElem_mem hj)
 ·simp [List.getD,List.getElem?_eq_none (Nat.le_of_not_lt hj)]; exact hB
theorem nrm_tr {B : Nat} {xs : List Nat} (h : wf B xs) : Nrm B (tr xs):=⟨wf_tr h,tr_idem xs⟩
theorem nrm_nil (B : Nat) : Nrm B []:=⟨wf_nil B,rfl⟩
theorem nv_cons (B x : Nat) (xs : List Nat) : nv B (x :: xs) = x + B * nv B xs:=rfl
theorem nv_append (B : Nat) (xs ys : List Nat) : nv B (xs ++ ys) = nv B xs + B ^ xs.length * nv B ys:=by
 induction xs with
 | nil=>simp [nv]
 | cons x xs ih=>simp [nv,ih,Nat.pow_succ,Nat.mul_add,Nat.mul_assoc,Nat.mul_left_comm,Nat.add_assoc]
theorem nv_snoc (B : Nat) (xs : List Nat) (x : Nat) : nv B (xs ++ [x]) = nv B xs + B ^ xs.length * x:=by
 rw [nv_append]; simp [nv]
theorem nv_replicate0 (B k : Nat) : nv B (List.replicate k 0) = 0:=by
 induction k with
 | zero=>rfl
 | succ k ih=>simp [List.replicate_succ,nv,ih]
theorem nv_tr (B : Nat) (xs : List Nat) : nv B (tr xs) = nv B xs:=by
 induction xs with
 | nil=>rfl
 | cons x xs ih=>
  rw [tr_cons]
  split
  ·rename_i h; obtain ⟨h1,h2⟩:=h; rw [h1] at ih; simp [nv,← ih,h2]
  ·simp [nv,ih]
theorem nv_lt {B : Nat} (xs : List Nat) (h : wf B xs) : nv B xs < B ^ xs.length:=by
 induction xs with
 | nil=>simp [nv]
 | cons x xs ih=>
  have h1 : x < B:=h x (by simp)
  have h2:=ih (fun y hy=>h y (by simp [hy]))
  simp only [nv,List.length_cons,Nat.pow_succ]
  have h3 : B * nv B xs + B ≤ B * B ^ xs.length:=by
   rw [← Nat.mul_succ]; exact Nat.mul_le_mul_left _ h2
  have:=Nat.mul_comm B (B ^ xs.length)
  omega
theorem tr_nil_of_nv {B : Nat} (hB : 0 < B) (xs : List Nat) (h : nv B xs = 0) : tr xs = []:=by
 induction xs with
 | nil=>rfl
 | cons x xs ih=>
  simp only [nv] at h
  have h1 : x = 0:=by omega
  have h2 : nv B xs = 0:=by
   have : B * nv B xs = 0:=by omega
   rcases Nat.mul_eq_zero.1 this with h | h
   ·omega
   ·exact h
  rw [tr_cons,if_pos ⟨ih h2,h1⟩]
theorem nrm_inj {B : Nat} (hB : 0 < B) : ∀ {xs ys : List Nat},Nrm B xs → Nrm B ys → nv B xs = nv B ys → xs = ys
 | [],ys,_,hy,h=>by
  have:=tr_nil_of_nv hB ys h.symm
  rw [hy.2] at this; exact this.symm
 | x :: xs,[],hx,_,h=>by
  have:=tr_nil_of_nv hB (x :: xs) h
  rw [hx.2] at this; exact this
 | x :: xs,y :: ys,hx,hy,h=>by
  simp only [nv] at h
  have h1 : x < B:=hx.1 x (by simp)
  have h2 : y < B:=hy.1 y (by simp)
  have e1 : x = y:=by
   have:=congrArg (· % B) h
   simpa [Nat.add_mul_mod_self_left,Nat.mod_eq_of_lt h1,Nat.mod_eq_of_lt h2] using this
  have e2 : nv B xs = nv B ys:=by
   subst e1
   exact Nat.eq_of_mul_eq_mul_left hB (by omega)
  have tl : ∀ {z : Nat} {zs : List Nat},Nrm B (z :: zs) → Nrm B zs:=by
   intro z zs hz
   refine ⟨fun w hw=>hz.1 w (by simp [hw]),?_⟩
   have:=hz.2
   rw [tr_cons] at this
   split at this
   ·simp at this
   ·simpa using this
  rw [e1,nrm_inj hB (tl hx) (tl hy) e2]
theorem nrm_last {B : Nat} {xs : List Nat} (h : Nrm B xs) (hx : xs ≠ []) : xs.getD (xs.length - 1) 0 ≠ 0:=by
 intro h0
 have e:=last_split xs hx
 rw [h0] at e
 have h2:=h.2
 rw [e,tr_snoc0] at h2
 have:=tr_len (xs.take (xs.length - 1))
 rw [h2] at this
 simp at this
 have hl : 0 < xs.length:=List.length_pos_iff.2 hx
 omega
theorem nrm_ge {B : Nat} {xs : List Nat} (h : Nrm B xs) (hx : xs ≠ []) : B ^ (xs.length - 1) ≤ nv B xs:=by
 have h1:=nrm_last h hx
 have hl : 0 < xs.length:=List.length_pos_iff.2 hx
 have e:=congrArg (nv B) (last_split xs hx)
 rw [nv_snoc] at e
 have el : (xs.take (xs.length - 1)).length = xs.length - 1:=by simp
 rw [el] at e
 have:=Nat.le_mul_of_pos_right (B ^ (xs.length - 1)) (Nat.pos_of_ne_zero h1)
 omega
theorem nrm_len_le {B : Nat} (hB : 1 < B) {xs : List Nat} (h : Nrm B xs) {k : Nat} (hk : nv B xs < B ^ k) : xs.length ≤ k:=by
 by_cases hx : xs = []
 ·simp [hx]
 ·have:=nrm_ge h hx
  have hl : 0 < xs.length:=List.length_pos_iff.2 hx
  have h3 : B ^ (xs.length - 1) < B ^ k:=by omega
  have:=(Nat.pow_lt_pow_iff_right hB).1 h3
  omega
theorem nv_take_drop (B : Nat) (xs : List Nat) (k : Nat) (hk : k ≤ xs.length) : nv B xs = nv B (xs.take k) + B ^ k * nv B (xs.drop k):=by
 conv=>lhs; rw [← List.take_append_drop k xs]
 rw [nv_append]; simp [Nat.min_eq_left hk]
theorem nv_take_succ (B : Nat) (xs : List Nat) (k : Nat) (hk : k < xs.length) : nv B (xs.take (k + 1)) = nv B (xs.take k) + B ^ k * xs.getD k 0:=by
 rw [take_snoc xs k hk,nv_snoc]; simp [Nat.min_eq_left (Nat.le_of_lt hk)]
theorem take_set_succ (zs : List Nat) (k x : Nat) (hk : k < zs.length) : (zs.set k x).take (k + 1) = zs.take k ++ [x]:=by
 rw [List.take_set,take_snoc zs k hk,List.set_append_right _ _ (by simp; omega)]
 simp [Nat.min_eq_left (Nat.le_of_lt hk)]
theorem nv_set_succ (B : Nat) (zs : List Nat) (k x : Nat) (hk : k < zs.length) : nv B ((zs.set k x).take (k + 1)) = nv B (zs.take k) + B ^ k * x:=by
 rw [take_set_succ zs k x hk,nv_snoc]; simp [Nat.min_eq_left (Nat.le_of_lt hk)]
theorem wf_set {B : Nat} {xs : List Nat} (h : wf B xs) (k x : Nat) (hx : x < B) : wf B (xs.set k x):=by
 intro y hy
 rcases List.mem_or_eq_of_mem_set hy with h1 | rfl
 ·exact h _ h1
 ·exact hx
theorem nv_take_succ' (B : Nat) (xs : List Nat) (k : Nat) : nv B (xs.take (k + 1)) = nv B (xs.take k) + B ^ k * xs.getD k 0:=by
 by_cases hk : k < xs.length
 ·exact nv_take_succ B xs k hk
 ·have h1 : xs.getD k 0 = 0:=by unfold List.getD; rw [List.getElem?_eq_none (by omega)]; rfl
  rw [List.take_of_length_le (by omega),List.take_of_length_le (by omega),h1]; simp
theorem drop_get {xs ys : List Nat} {j : Nat} (h : xs.drop j = ys.drop j) : xs.getD j 0 = ys.getD j 0:=by
 have:=congrArg (fun l : List Nat=>l.getD 0 0) h
 simpa [List.getD,List.getElem?_drop] using this
theorem drop_succ_eq {xs ys : List Nat} {j : Nat} (h : xs.drop j = ys.drop j) : xs.drop (j + 1) = ys.drop (j + 1):=by
 have:=congrArg (fun l : List Nat=>l.drop 1) h
 simpa [List.drop_drop] using this
theorem drop_set_lt (xs : List Nat) (j m x : Nat) (h : j < m) : (xs.set j x).drop m = xs.drop m:=by
 rw [List.drop_set,if_pos h]
theorem nv_cmp_of {B : Nat} (xs ys : List Nat) (k : Nat) (hx : wf B xs) (h : xs.length = ys.length) (hk : k < xs.length)
  (hs : xs.drop (k + 1) = ys.drop (k + 1)) (hlt : xs.getD k 0 < ys.getD k 0) : nv B xs < nv B ys:=by
 rw [nv_take_drop B xs (k + 1) (by omega),nv_take_drop B ys (k + 1) (by omega),hs]
 rw [nv_take_succ B xs k hk,nv_take_succ B ys k (by omega)]
 have h1:=nv_lt (xs.take k) (wf_take hx k)
 have e1 : (xs.take k).length = k:=by simp; omega
 rw [e1] at h1
 have h2 : B ^ k * xs.getD k 0 + B ^ k ≤ B ^ k * ys.getD k 0:=by
  rw [← Nat.mul_succ]; exact Nat.mul_le_mul_left _ hlt
 omega
theorem nrm_lt_len {B : Nat} (hB : 1 < B) {xs ys : List Nat} (hx : Nrm B xs) (hy : Nrm B ys) (h : xs.length < ys.length) : nv B xs < nv B ys:=by
 have h1:=nv_lt xs hx.1
 have h2:=nrm_ge hy (by intro e; simp [e] at h)
 have h3 : B ^ xs.length ≤ B ^ (ys.length - 1):=Nat.pow_le_pow_right (by omega) (by omega)
 omega
end Go.Proofs.YtlhmaljjdpjkgaaGreatDoor
namespace Go.Proofs.YtlhmaljjdpjkgaaGreatDoor
open Go.RowKit
def vs (k : IntKind) (xs : List Nat) : List Value:=xs.map fun (x : Nat)=>.int k (x : Int)
theorem vs_append (k : IntKind) (xs ys : List Nat) : vs k (xs ++ ys) = vs k xs ++ vs k ys:=by simp [vs]
theorem vs_take (k : IntKind) (xs : List Nat) (n : Nat) : (vs k xs).take n = vs k (xs.take n):=by simp [vs,List.map_take]
theorem vs_set (k : IntKind) (xs : List Nat) (i x : Nat) : (vs k xs).set i (.int k (x : Int)) = vs k (xs.set i x):=by simp [vs,List.map_set]
theorem vs_get (k : IntKind) (xs : List Nat) (i : Nat) (h : i < xs.length) : (vs k xs)[i]? = some (.int k (xs.getD i 0 : Nat)):=by
 simp [vs,List.getElem?_eq_getElem h]
theorem vs_replicate (k : IntKind) (n x : Nat) : vs k (List.replicate n x) = List.replicate n (.int k (x : Int)):=by simp [vs]
structure Cs (k : IntKind) (w : World) (ao : Option Addr) (b off : Nat) (xs : List Nat) : Prop where
 ao : xs ≠ [] → ao = some ⟨b,off,none⟩
 cell : ∀ j,j < xs.length → w.cell? ⟨b,off + j,none⟩ = some (.int k (xs.getD j 0 : Nat))
def Sl (k : IntKind) (w : World) (v : Value) (xs : List Nat) : Prop:=
 ∃ ao b off cap,v = .slice ao xs.length cap ∧ xs.length ≤ cap ∧ Cs k w ao b off xs
theorem Cs.lt {k : IntKind} {w : World} {ao : Option Addr} {b off : Nat} {xs : List Nat} (h : Cs k w ao b off xs) (hx : xs ≠ []) : b < w.heap.size:=
 World.block_lt_of_cell? w _ (h.cell 0 (List.length_pos_iff.2 hx))
theorem Cs.below {k : IntKind} {w w' : World} {ao : Option Addr} {b off : Nat} {xs : List Nat} (h : Cs k w ao b off xs) {B : Nat} (hb : Below B w w') (hB : w.heap.size ≤ B) : Cs k w' ao b off xs:=
 ⟨h.ao,fun j hj=>by rw [hb.cell (by have:=World.block_lt_of_cell? w _ (h.cell j hj); simp at this ⊢; omega)]; exact h.cell j hj⟩
theorem Cs.take {k : IntKind} {w : World} {ao : Option Addr} {b off : Nat} {xs : List Nat} (h : Cs k w ao b off xs) (n : Nat) : Cs k w ao b off (xs.take n):=by
 refine ⟨fun hx=>h.ao (fun e=>hx (by simp [e])),fun j hj=>?_⟩
 have hj' : j < xs.length:=by simp at hj; omega
 rw [h.cell j hj',getD_lt xs j hj',getD_lt _ j hj]; simp
theorem Cs.trim {k : IntKind} {w : World} {ao : Option Addr} {b off : Nat} {xs : List Nat} (h : Cs k w ao b off xs) : Cs k w ao b off (tr xs):=by
 have:=h.take (tr xs).length
 rwa [← tr_take] at this
theorem Sl.below {k : IntKind} {w w' : World} {v : Value} {xs : List Nat} (h : Sl k w v xs) {B : Nat} (hb : Below B w w') (hB : w.heap.size ≤ B) : Sl k w' v xs:=by
 obtain ⟨ao,b,off,cap,e,hc,hcs⟩:=h
 exact ⟨ao,b,off,cap,e,hc,hcs.below hb hB⟩
theorem Sl.next {k : IntKind} {w w' : World} {v : Value} {xs : List Nat} (h : Sl k w v xs) (hb : Below w.heap.size w w') : Sl k w' v xs:=h.below hb (Nat.le_refl _)
theorem Sl.nil (k : IntKind) (w : World) : Sl k w (.slice none 0 0) []:=⟨none,0,0,0,rfl,Nat.le_refl _,fun h=>absurd rfl h,fun j hj=>by simp at hj⟩
def Drawn (w w' : World) : Prop:=∃ n,w' = w.drewN n
theorem Drawn.refl (w : World) : Drawn w w:=⟨0,rfl⟩
theorem Drawn.add {w w' : World} (h : Drawn w w') (n : Nat) : Drawn w (w'.drewN n):=by
 obtain ⟨m,rfl⟩:=h; exact ⟨m + n,by rw [World.drewN_drewN]⟩
theorem Drawn.below {w w' : World} (h : Drawn w w') (B : Nat) : Below B w w':=by
 obtain ⟨n,rfl⟩:=h; exact below_drewN (Below.refl _ _) n
theorem Drawn.size {w w' : World} (h : Drawn w w') : w'.heap.size = w.heap.size:=by
 obtain ⟨n,rfl⟩:=h; rfl
theorem Cs.drawn {k : IntKind} {w w' : World} {ao : Option Addr} {b off : Nat} {xs : List Nat} (h : Cs k w ao b off xs) (hq : Drawn w w') : Cs k w' ao b off xs:=
 h.below (hq.below w.heap.size) (Nat.le_refl _)
theorem Cs.grown {k : IntKind} {w w' : World} {ao : Option Addr} {b off g : Nat} {xs : List Nat} (h : Cs k w ao b off xs) (hg : w.grownBy w' (some g)) (hne : xs ≠ [] → b ≠ g) : Cs k w' ao b off xs:=
 ⟨h.ao,fun j hj=>hg.cell (h.cell j hj) (by simp; exact hne (by intro e; subst e; simp at hj))⟩
theorem grown_trans {a b c : World} {row : Option Nat} (h : a.grownBy b row) (k : b.grownBy c row) : a.grownBy c row:=
 ⟨k.os.trans h.os,k.tape.trans h.tape,k.output.trans h.output,Nat.le_trans h.size k.size,fun i hi hne=>(k.block i (Nat.lt_of_lt_of_le hi h.size) hne).trans (h.block i hi hne)⟩
theorem grown_below {a b : World} {g B : Nat} (h : a.grownBy b (some g)) (hB : B ≤ g) (hs : B ≤ a.heap.size) : Below B a b:=
 (Below.refl B a).grown h hs (fun k hk=>by simp at hk; omega)
def RetQ (w : World) (v : Value) (e : Ending) (w' : World) : Prop:=e = .returned v ∧ Drawn w w'
def Own (k : IntKind) (e : TypeId) (w : World) (base : Nat) (v : Value) (xs : List Nat) : Prop:=w.ownsRow base e 1 v xs.length (vs k xs)
theorem Own.nil (k : IntKind) (e : TypeId) (w : World) (base : Nat) : Own k e w base (.slice none 0 0) []:=World.ownsRow_nil _ _ _ _
theorem Own.mono {k : IntKind} {e : TypeId} {w : World} {base base' : Nat} {v : Value} {xs : List Nat} (h : Own k e w base v xs) (hb : base' ≤ base) : Own k e w base' v xs:=by
 refine ⟨h.1,?_⟩
 rcases h.2 with h | ⟨g,cap,cur,a,b,c⟩
 ·exact .inl h
 ·exact .inr ⟨g,cap,cur,a,Nat.le_trans hb b,c⟩
theorem Own.shape {k : IntKind} {e : TypeId} {w : World} {base : Nat} {v : Value} {xs : List Nat} (h : Own k e w base v xs) :
  (v = .slice none 0 0 ∧ xs = []) ∨ ∃ g cap,v = .slice (some ⟨g,0,none⟩) xs.length cap ∧ base ≤ g ∧ g < w.heap.size ∧ xs.length ≤ cap ∧ cap ≤ maxLen:=by
 rcases h.2 with ⟨a,b⟩ | ⟨g,cap,cur,rfl,hb,hg,hn,hm,_⟩
 ·exact .inl ⟨a,List.length_eq_zero_iff.1 b⟩
 ·exact .inr ⟨g,cap,rfl,hb,(Array.getElem?_eq_some_iff.1 hg).1,hn,hm⟩
theorem Own.sl {k : IntKind} {e : TypeId} {w : World} {base : Nat} {v : Value} {xs : List Nat} (h : Own k e w base v xs) : Sl k w v xs:=by
 rcases h.shape with ⟨rfl,rfl⟩ | ⟨g,cap,rfl,_,_,hn,_⟩
 ·exact Sl.nil _ _
 ·refine ⟨_,g,0,cap,rfl,hn,fun _=>rfl,fun j hj=>?_⟩
  have:=World.ownsRow.cellAt h j (by simpa using hj)
  rw [Nat.zero_add,this,vs_get k xs j hj]
theorem Own.below {k : IntKind} {e : TypeId} {w w' : World} {base : Nat} {v : Value} {xs : List Nat} (h : Own k e w base v xs) {B : Nat} (hb : Below B w w') (hB : w.heap.size ≤ B) : Own k e w' base v xs:=by
 refine ⟨h.1,?_⟩
 rcases h.2 with h | ⟨g,cap,cur,a,b,c,d⟩
 ·exact .inl h
 ·refine .inr ⟨g,cap,cur,a,b,?_,d⟩
  rw [hb.block g (by have:=(Array.getElem?_eq_some_iff.1 c).1; omega)]; exact c
theorem Own.next {k : IntKind} {e : TypeId} {w w' : World} {base : Nat} {v : Value} {xs : List Nat} (h : Own k e w base v xs) (hb : Below w.heap.size w w') : Own k e w' base v xs:=h.below hb (Nat.le_refl _)
theorem Own.store {k : IntKind} {e : TypeId} {w : World} {base g cap n : Nat} {xs : List Nat} (h : Own k e w base (.slice (some ⟨g,0,none⟩) n cap) xs) (j x : Nat) :
  Own k e (w.setCell ⟨g,j,none⟩ (.int k (x : Int))) base (.slice (some ⟨g,0,none⟩) n cap) (xs.set j x) ∧ w.grownBy (w.setCell ⟨g,j,none⟩ (.int k (x : Int))) (some g):=by
 have hn : n = xs.length:=by
  rcases h.shape with ⟨h,_⟩ | ⟨g',cap',h,_⟩ <;> simp at h
  exact h.2.1
 subst hn
 have:=World.ownsRow.stored h j (.int k (x : Int))
 rw [vs_set] at this
 refine ⟨?_,this.2⟩
 unfold Own; rw [List.length_set]; exact this.1
theorem Own.cellAt {k : IntKind} {e : TypeId} {w : World} {base g cap n : Nat} {xs : List Nat} (h : Own k e w base (.slice (some ⟨g,0,none⟩) n cap) xs) (j : Nat) (hj : j < xs.length) :
  w.cell? ⟨g,j,none⟩ = some (.int k (xs.getD j 0 : Nat)):=by
 have hn : n = xs.length:=by
  rcases h.shape with ⟨h,_⟩ | ⟨g',cap',h,_⟩ <;> simp at h
  exact h.2.1
 subst hn
 rw [World.ownsRow.cellAt h j (by simpa using hj),vs_get k xs j hj]
theorem Own.frozenAt {k : IntKind} {e : TypeId} {w : World} {base g cap n : Nat} {xs : List Nat} (h : Own k e w base (.slice (some ⟨g,0,none⟩) n cap) xs) (j : Nat) :
  w.frozen? ⟨g,j,none⟩ = false:=by
 have hn : n = xs.length:=by
  rcases h.shape with ⟨h,_⟩ | ⟨g',cap',h,_⟩ <;> simp at h
  exact h.2.1
 subst hn
 exact World.ownsRow.frozenAt h j
theorem Own.take {k : IntKind} {e : TypeId} {w : World} {base g cap n : Nat} {xs : List Nat} (h : Own k e w base (.slice (some ⟨g,0,none⟩) n cap) xs) (m : Nat) (hm : m ≤ xs.length) :
  Own k e w base (.slice (some ⟨g,0,none⟩) m cap) (xs.take m):=by
 have hl : (xs.take m).length = m:=by simp; omega
 refine ⟨by simp [vs],?_⟩
 rcases h.2 with ⟨h,_⟩ | ⟨g',cap',cur,h0,h1,h2,h3,h4,h5,h6⟩
 ·simp at h
 ·simp only [Value.slice.injEq,Option.some.injEq,Addr.mk.injEq] at h0
  obtain ⟨⟨rfl,-⟩,rfl,rfl⟩:=h0
  refine .inr ⟨g,cap,cur,by rw [hl],h1,h2,by omega,h4,h5,?_⟩
  rw [hl,← vs_take,← h6,List.take_take]; congr 1; omega
theorem Own.normal {k : IntKind} {e : TypeId} {w : World} {base g cap n : Nat} {xs : List Nat} (h : Own k e w base (.slice (some ⟨g,0,none⟩) n cap) xs) :
  Own k e w base (if tr xs = [] then .slice none 0 0 else .slice (some ⟨g,0,none⟩) (tr xs).length cap) (tr xs):=by
 split
 ·rename_i h0; rw [h0]; exact Own.nil _ _ _ _
 ·have:=h.take (tr xs).length (tr_len xs)
  rwa [← tr_take] at this
theorem Own.cs {k : IntKind} {e : TypeId} {w : World} {base g cap n : Nat} {xs : List Nat} (h : Own k e w base (.slice (some ⟨g,0,none⟩) n cap) xs) : Cs k w (some ⟨g,0,none⟩) g 0 xs:=
 ⟨fun _=>rfl,fun j hj=>by rw [Nat.zero_add]; exact h.cellAt j hj⟩
theorem Own.drawn {k : IntKind} {e : TypeId} {w w' : World} {base : Nat} {v : Value} {xs : List Nat} (h : Own k e w base v xs) (hq : Drawn w w') : Own k e w' base v xs:=
 h.below (hq.below w.heap.size) (Nat.le_refl _)
theorem below_grown {w w' : World} {base : Nat} {v : Value} (hg : w.grownBy w' v.ownBlock) (hb : base ≤ w.heap.size) (hv : ∀ k,v.ownBlock = some k → base ≤ k) : Below base w w':=
 (Below.refl base w).grown hg hb hv
theorem Own.block_ge {k : IntKind} {e : TypeId} {w : World} {base : Nat} {v : Value} {xs : List Nat} (h : Own k e w base v xs) : ∀ j,v.ownBlock = some j → base ≤ j:=fun j hj=>(World.ownsRow.lt h j hj).1
theorem wp_appS {P : Program} {ops : Array Oper} {rest : List Oper} {o : Oper} {a : Act} {Q : Exit → Act → World → Prop} (k : IntKind) (T e bytes : Nat)
  (hu : P.underlying T = some (.slice e)) (hi : (P.info? e).map (fun i=>(i.zero,i.size,i.bytes)) = some (some (.int k 0),1,bytes)) (hby : bytes ≤ 8)
  (hgd : o.guard = none) (s x : Operand) (ho : o.op = .call { callee:=.builtin .append,args:=#[s,x],argTypes:=#[T,T] })
  (w : World) (base : Nat) (v : Value) (xs ys : List Nat) (hown : Own k e w base v xs) (hlen : xs.length + ys.length ≤ 2000000000) (hbase : base ≤ w.heap.size)
  (hs : a.eval s = v) (ad : Addr) (b off c : Nat) (hx : a.eval x = .slice (some ad) ys.length c) (hcs : Cs k w (some ad) b off ys)
  (h : ∀ (v' : Value) (w' : World),Own k e w' base v' (xs ++ ys) → Below base w w' → w.grownBy w' v.ownBlock → wpList P ops Q rest (a.put o.dst v') w') :
  wpList P ops Q (o :: rest) a w:=by
 obtain ⟨i0,h1,h2,h3,h4⟩:=info_parts hi
 refine wpList_append_own _ hgd s x T ho base e i0 (.int k 0) 1 bytes hu h1 h2 h3 h4 rfl (by decide) v xs.length (vs k xs) hs hown ad ys.length c (vs k ys) hx (by simp [vs]) ?_ ?_ ?_ ?_ hbase ?_
 ·intro j u hj
  have hj' : j < ys.length:=by
   have:=List.getElem?_eq_some_iff.1 hj
   simpa [vs] using this.1
  have ea : ad = ⟨b,off,none⟩:=by simpa using hcs.ao (by intro h; subst h; simp at hj')
  subst ea
  rw [vs_get k ys j hj'] at hj
  simp only [Option.some.injEq] at hj; subst hj
  rw [← hcs.cell j hj']; congr 1; unfold Addr.add; split
  ·rename_i h; subst h; rfl
  ·rfl
 ·intro u hu; simp [vs] at hu; obtain ⟨z,_,rfl⟩:=hu; rfl
 ·unfold maxLen; omega
 ·have : (xs.length + ys.length) * bytes ≤ (xs.length + ys.length) * 8:=Nat.mul_le_mul_left _ hby
  omega
 ·intro v' w' h1 h2 h3
  refine h v' w' ?_ (below_grown h2 hbase hown.block_ge) h2
  unfold Own; rw [vs_append,List.length_append]; exact h1
theorem Own.lit0 (k : IntKind) (e : TypeId) (w : World) (base : Nat) (hb : base ≤ w.heap.size) : Own k e (w.alloc (.cells #[] e)) base (.slice (some ⟨w.heap.size,0,none⟩) 0 0) []:=
 World.ownsRow_lit w #[] 0 hb (by unfold maxLen; omega) rfl
theorem wp_make {P : Program} {ops : Array Oper} {rest : List Oper} {o : Oper} {a : Act} {Q : Exit → Act → World → Prop} (k : IntKind) (T e bytes : Nat)
  (hu : P.underlying T = some (.slice e)) (hi : (P.info? e).map (fun i=>(i.zero,i.size,i.bytes)) = some (some (.int k 0),1,bytes)) (hby : bytes ≤ 8)
  (hgd : o.guard = none) (l c : Operand) (ho : o.op = .makeSlice T l c) (kl kc : IntKind) (n : Nat) (hn : n ≤ 1000000000)
  (w : World) (L C : Int) (hl : a.eval l = .int kl L) (hc : a.eval c = .int kc C) (hL : L = n) (hC : C = n)
  (h : ∀ (w' : World),Own k e w' w.heap.size (.slice (some ⟨w.heap.size,0,none⟩) n n) (List.replicate n 0) → Below w.heap.size w w' → w.heap.size < w'.heap.size → wpList P ops Q rest (a.put o.dst (.slice (some ⟨w.heap.size,0,none⟩) n n)) w') :
  wpList P ops Q (o :: rest) a w:=by
 obtain ⟨i0,h1,h2,h3,h4⟩:=info_parts hi
 subst h4
 refine wpList_make_full w hgd l c T ho w.heap.size e i0 (.int k 0) 1 hu h1 h2 h3 kl kc L C n hl hc hL hC ?_ ?_ (Nat.le_refl _) ?_
 ·have : i0.bytes * n ≤ 8 * n:=Nat.mul_le_mul_right _ hby
  omega
 ·unfold maxLen; omega
 ·intro w' h5 h6
  refine h w' ?_ ((Below.refl _ w).grown h6 (Nat.le_refl _) (fun k hk=>by simp at hk)) ?_
  ·unfold Own
   rw [List.length_replicate,vs_replicate]
   simpa [Value.cells,toList_madeCells_one] using h5
  ·rcases h5.2 with ⟨h,_⟩ | ⟨g,cap,cur,hv,_,hg,_⟩
   ·simp at h
   ·simp only [Value.slice.injEq,Option.some.injEq,Addr.mk.injEq] at hv
    obtain ⟨⟨rfl,-⟩,-⟩:=hv
    exact (Array.getElem?_eq_some_iff.1 hg).1
end Go.Proofs.YtlhmaljjdpjkgaaGreatDoor
namespace Go.Proofs.YtlhmaljjdpjkgaaGreatDoor
open Go.ChangeShapes Go.WideShapes Go.ChangeAt Go.RowKit
theorem wf_u64_bounds {n : Int} (h : (Lit.int .u64 n).wf = true) : 0 ≤ n ∧ n < 18446744073709551616:=by
 simp only [Lit.wf,Bool.and_eq_true,decide_eq_true_eq] at h
 have h1 : IntKind.u64.min = 0:=rfl
 have h2 : IntKind.u64.max = 18446744073709551615:=rfl
 rw [h1,h2] at h; omega
theorem wf_i64_bounds {n : Int} (h : (Lit.int .i64 n).wf = true) : -9223372036854775808 ≤ n ∧ n ≤ 9223372036854775807:=by
 simp only [Lit.wf,Bool.and_eq_true,decide_eq_true_eq] at h
 have h1 : IntKind.i64.min = -9223372036854775808:=rfl
 have h2 : IntKind.i64.max = 9223372036854775807:=rfl
 rw [h1,h2] at h; omega
end Go.Proofs.YtlhmaljjdpjkgaaGreatDoor
namespace Go.Proofs.YtlhmaljjdpjkgaaGreatDoor
open Go.RowKit
set_option maxHeartbeats 400000 in
theorem nat_trim (ao : Option Addr) (b off cap : Nat) (xs : List Nat) (w : World) (hcs : Cs .u64 w ao b off xs) (hl : xs.length ≤ cap) (hm : xs.length ≤ 1000000000) :
    Calls Tryz.prog 87 #[.slice ao xs.length cap] w fun e w' => e = .returned (.slice ao (tr xs).length cap) ∧ w = w' := by
  obtain ⟨hao, hc⟩ := hcs
  go_enter Tryz.func87, Tryz.ntmps87
  go_wp2
  go_loop [3] (fun i => ∃ k : Nat, k ≤ xs.length ∧ i = .int .i64 k ∧ tr xs = tr (xs.take k)) (fun i => (intOf i).toNat)
  case atStart => exact ⟨xs.length, Nat.le_refl _, rfl, by rw [List.take_length]⟩
  case round =>
    obtain ⟨k, hk, rfl, ht⟩ := hrel
    have HT := Lib.hid ht; clear ht
    by_cases h0 : 0 < k
    · obtain rfl := hao (by intro h; subst h; simp at hk; omega)
      have hcell := hc (k-1) (by omega)
      have hts : xs.take k = xs.take (k - 1) ++ [xs.getD (k - 1) 0] := by
        have := take_snoc xs (k - 1) (by omega)
        rwa [Nat.sub_add_cancel h0] at this
      have HS := Lib.hid hts; clear hts
      by_cases hz : xs.getD (k - 1) 0 = 0
      · have HZ := Lib.hid hz
        have hz' : (((xs[k - 1]?.getD 0 : Nat) : Int) == 0) = true := by simpa using hz
        clear hz
        go_wp2
        go_round
        case rel => exact ⟨k - 1, by omega, by go_num, by rw [HT.out, HS.out, HZ.out, tr_snoc0]⟩
        case measure => simp [intOf]; omega
      · have HZ := Lib.hid hz
        have hz' : (((xs[k - 1]?.getD 0 : Nat) : Int) == 0) = false := by simpa using hz
        clear hz
        go_wp2
        go_ret
        refine ⟨?_, rfl⟩
        have e : (tr xs).length = k := by rw [HT.out, HS.out, tr_snoc _ _ HZ.out]; simp; omega
        rw [e]; rfl
    · have e : (tr xs).length = k := by rw [HT.out]; obtain rfl : k = 0 := by omega
                                        simp [tr]
      have E := Lib.hid e; clear e
      go_wp2
      go_ret
      exact ⟨by rw [E.out]; rfl, rfl⟩
def ads (x y c : Nat) : Nat:=(x + y + c) % W64
def adc (x y c : Nat) : Nat:=(x + y + c) / W64
theorem bits_Add64 (x y c : Nat) (hc : c ≤ 1) (w : World) :
  (callFunc 110 #[.int .u64 x,.int .u64 y,.int .u64 c]).run Tryz.prog w = .ok (.value (.tuple #[.int .u64 (ads x y c : Nat),.int .u64 (adc x y c : Nat)])) w:=by
 rw [run_callFunc_extern Tryz.func110 (by kernel_rfl) (by kernel_rfl) (by kernel_rfl) (e:=add64Entry) (by kernel_rfl),run_add64 x y c (by omega) (by omega) (by omega) (by omega)]
 simp only [Result.andThen,ads,adc,W64]
 congr 5 <;> omega
set_option maxHeartbeats 400000 in
theorem nat_normal (ao : Option Addr) (b off cap : Nat) (xs : List Nat) (w : World) (hcs : Cs .u64 w ao b off xs) (hl : xs.length ≤ cap) (hm : xs.length ≤ 1000000000) :
  Calls Tryz.prog 89 #[.slice ao xs.length cap] w fun e w'=>e = .returned (if tr xs = [] then .slice none 0 0 else .slice ao (tr xs).length cap) ∧ w = w':=by
 by_cases h0 : tr xs = []
 ·have h1 : ((((tr xs).length : Nat) : Int) == 0) = true:=by simp [h0]
  go_enter Tryz.func89,Tryz.ntmps89
  go_wp2_with (go_at_call 87; refine (nat_trim ao b off cap xs _ hcs hl hm).mono ?_; rintro e w' ⟨rfl,rfl⟩)
  go_ret
  exact ⟨rfl,rfl⟩
 ·have h1 : ((((tr xs).length : Nat) : Int) == 0) = false:=by simpa using h0
  go_enter Tryz.func89,Tryz.ntmps89
  go_wp2_with (go_at_call 87; refine (nat_trim ao b off cap xs _ hcs hl hm).mono ?_; rintro e w' ⟨rfl,rfl⟩)
  go_ret
  exact ⟨rfl,rfl⟩
theorem nat_normal_own (g n cap : Nat) (xs : List Nat) (w : World) (base : Nat) (ho : Own .u64 51 w base (.slice (some ⟨g,0,none⟩) n cap) xs) (hl : xs.length = n) (hn : n ≤ cap) (hm : n ≤ 1000000000) :
  Calls Tryz.prog 89 #[.slice (some ⟨g,0,none⟩) n cap] w fun e w'=>∃ r,e = .returned r ∧ Own .u64 51 w base r (tr xs) ∧ w = w':=by
 subst hl
 exact (nat_normal _ g 0 cap xs w ho.cs hn hm).mono fun e w' ⟨he,hw⟩=>⟨_,he,ho.normal,hw⟩
def RetN (w : World) (L N : Nat) (e : Ending) (w' : World) : Prop:=
 ∃ r zs,e = .returned r ∧ Own .u64 51 w' w.heap.size r zs ∧ Nrm W64 zs ∧ nv W64 zs = N ∧ zs.length ≤ L ∧ Below w.heap.size w w'
def AddCut (w wc : World) (xs ys : List Nat) (s0 s1 : Value) : Prop:=
 w = wc ∧ ∃ ao b off cap X bo c pff dap Y,s0 = .slice ao (List.length X) cap ∧ s1 = .slice bo (List.length Y) dap ∧ Cs .u64 w ao b off X ∧ Cs .u64 w bo c pff Y ∧ Y.length ≤ X.length ∧ X.length ≤ xs.length + ys.length ∧
  wf W64 X ∧ wf W64 Y ∧ nv W64 X + nv W64 Y = nv W64 xs + nv W64 ys
def AddRel (w wr : World) (B : Nat) (X Y : List Nat) (k c : Nat) (zs : List Nat) : Prop:=
 c ≤ 1 ∧ Own .u64 51 wr B (.slice (some ⟨B,0,none⟩) (X.length + 1) (X.length + 1)) zs ∧ Below B w wr ∧ zs.length = X.length + 1 ∧ wf W64 zs ∧
  nv W64 (zs.take k) + W64 ^ k * c = nv W64 (X.take k) + nv W64 (Y.take k)
theorem ads_lt (x y c : Nat) : ads x y c < W64:=Nat.mod_lt _ (by decide)
theorem adc_le (x y c : Nat) (hx : x < W64) (hy : y < W64) (hc : c ≤ 1) : adc x y c ≤ 1:=by unfold adc; unfold W64 at *; omega
theorem ads_adc (x y c : Nat) : ads x y c + W64 * adc x y c = x + y + c:=by unfold ads adc; have:=Nat.mod_add_div (x + y + c) W64; omega
theorem AddRel.step {w wr : World} {B : Nat} {X Y : List Nat} {k c : Nat} {zs : List Nat} (hc : c ≤ 1) (ho : Own .u64 51 wr B (.slice (some ⟨B,0,none⟩) (X.length + 1) (X.length + 1)) zs) (hb : Below B w wr)
  (hl : zs.length = X.length + 1) (hw : wf W64 zs) (hv : nv W64 (zs.take k) + W64 ^ k * c = nv W64 (X.take k) + nv W64 (Y.take k)) (hk : k < X.length) {x y : Nat} (hx : x = X.getD k 0) (hy : y = Y.getD k 0) (wX : wf W64 X) (wY : wf W64 Y) :
  AddRel w (wr.setCell ⟨B,k,none⟩ (.int .u64 (ads x y c : Nat))) B X Y (k + 1) (adc x y c) (zs.set k (ads x y c)):=by
 have h1 : x < W64:=by rw [hx]; exact wf_getD wX (by decide) k
 have h2 : y < W64:=by rw [hy]; exact wf_getD wY (by decide) k
 refine ⟨adc_le x y c h1 h2 hc,(ho.store k (ads x y c)).1,hb.setCell (Nat.le_refl _) _,by simp [hl],wf_set hw _ _ (ads_lt _ _ _),?_⟩
 rw [nv_set_succ _ _ _ _ (by omega),nv_take_succ',nv_take_succ',← hx,← hy,Nat.pow_succ]
 have h3:=ads_adc x y c
 have h4 : W64 ^ k * (ads x y c + W64 * adc x y c) = W64 ^ k * (x + y + c):=by rw [h3]
 simp only [Nat.mul_add] at h4
 rw [Nat.mul_assoc]
 omega
set_option maxHeartbeats 400000 in
theorem nat_Add (v u : Value) (xs ys : List Nat) (w : World) (hv : Sl .u64 w v xs) (hu : Sl .u64 w u ys) (hm : xs.length ≤ 100000000) (hn : ys.length ≤ 100000000) (hx : wf W64 xs) (hy : wf W64 ys) :
  Calls Tryz.prog 66 #[v,u] w (RetN w (xs.length + ys.length + 1) (nv W64 xs + nv W64 ys)):=by
 obtain ⟨ao,b,off,cap,rfl,hl,hcs⟩:=hv
 obtain ⟨bo,c,pff,dap,rfl,kl,kcs⟩:=hu
 go_enter Tryz.func66,Tryz.ntmps66
 go_upto_if 17 with (first | (go_at_call_of 87 (Value.slice ao xs.length cap); refine (nat_trim ao b off cap xs _ hcs hl (by omega)).mono ?_; rintro e w' ⟨rfl,rfl⟩) | (go_at_call_of 87 (Value.slice bo ys.length dap); refine (nat_trim bo c pff dap ys _ kcs kl (by omega)).mono ?_; rintro e w' ⟨rfl,rfl⟩))
 go_cut [0,1] (fun s0 s1 wc=>AddCut w wc xs ys s0 s1)
 case first=>
  go_wp2_with fail
  ·have hlt : (tr xs).length < (tr ys).length:=by assumption
   go_meet
   exact ⟨rfl,_,_,_,_,tr ys,_,_,_,_,tr xs,rfl,rfl,kcs.trim,hcs.trim,by omega,by have:=tr_len ys; omega,wf_tr hy,wf_tr hx,by rw [nv_tr,nv_tr,Nat.add_comm]⟩
  ·have hlt : ¬ (tr xs).length < (tr ys).length:=by assumption
   go_meet
   exact ⟨rfl,_,_,_,_,tr xs,_,_,_,_,tr ys,rfl,rfl,hcs.trim,kcs.trim,by omega,by have:=tr_len xs; omega,wf_tr hx,wf_tr hy,by rw [nv_tr,nv_tr]⟩
 case rest=>
  obtain ⟨rfl,ao',b',off',cap',X,bo',c',pff',dap',Y,rfl,rfl,hX,hY,hXY,hXl,wX,wY,hs⟩:=hcut
  have HS:=Lib.hid hs; clear hs
  go_wp2_with (at_make; refine wp_make .u64 45 51 8 Tryz.underlying45 (by kernel_rfl) (by decide) rfl _ _ rfl .i64 .i64 (X.length + 1) (by omega) _ _ _ rfl rfl (by omega) (by omega) ?_; intro w1 hown hbel hsz)
  go_loopw [6,26] (fun cv i wr=>∃ k c zs,k ≤ X.length ∧ i = .int .i64 (k : Nat) ∧ cv = .int .u64 (c : Nat) ∧ AddRel w wr w.heap.size X Y k c zs) (fun _ i _=>X.length - (intOf i).toNat)
  case atStart=>exact ⟨0,0,List.replicate (X.length + 1) 0,by omega,rfl,rfl,by omega,hown,hbel,by simp,wf_replicate0 (by decide) _,by simp [nv]⟩
  case round=>
   obtain ⟨k,c,zs,hk,rfl,rfl,hc,ho,hb,hzl,hzw,hzv⟩:=hrel
   have HV:=Lib.hid hzv; clear hzv
   have HL:=Lib.hid hzl; clear hzl
   by_cases hlt : k < X.length
   ·obtain rfl:=hX.ao (by intro h; subst h; simp at hlt)
    obtain ⟨x,ex⟩ : ∃ x,x = X.getD k 0:=⟨_,rfl⟩
    obtain ⟨y,ey⟩ : ∃ y,y = Y.getD k 0:=⟨_,rfl⟩
    have hcx:=(hX.below hb (Nat.le_refl _)).cell k hlt
    have hco:=ho.cellAt k (by rw [HL.out]; omega)
    have hfo:=ho.frozenAt k
    have hadd:=bits_Add64 x y c hc
    rw [← ex] at hcx
    have EX:=Lib.hid ex; clear ex
    by_cases hlt2 : k < Y.length
    ·obtain rfl:=hY.ao (by intro h; subst h; simp at hlt2)
     have hcy:=(hY.below hb (Nat.le_refl _)).cell k hlt2
     rw [← ey] at hcy
     have EY:=Lib.hid ey; clear ey
     go_wp2
     go_roundw
     case rel=>exact ⟨k + 1,adc x y c,_,by omega,by go_num,rfl,AddRel.step hc ho hb HL.out hzw HV.out hlt EX.out EY.out wX wY⟩
     case measure=>simp [intOf]; omega
    ·have hy0 : y = 0:=by rw [ey]; unfold List.getD; rw [List.getElem?_eq_none (by omega)]; rfl
     subst hy0
     rw [show ((0 : Nat) : Int) = 0 from rfl] at hadd
     have EY:=Lib.hid ey; clear ey
     go_wp2
     go_roundw
     case rel=>exact ⟨k + 1,adc x 0 c,_,by omega,by go_num,rfl,AddRel.step hc ho hb HL.out hzw HV.out hlt EX.out EY.out wX wY⟩
     case measure=>simp [intOf]; omega
   ·obtain rfl : k = X.length:=by omega
    have hco:=ho.cellAt X.length (by rw [HL.out]; omega)
    have hfo:=ho.frozenAt X.length
    have hs:=ho.store X.length c
    have hs1:=hs.1
    have hll : (zs.set X.length c).length = X.length + 1:=by simp [HL.out]
    have HLL:=Lib.hid hll; clear hll
    go_wp2_with (go_at_call 89; refine (nat_normal_own _ _ _ _ _ _ hs1 HLL.out (Nat.le_refl _) (by omega)).mono ?_; rintro e w' ⟨r,rfl,hr,rfl⟩)
    go_ret
    refine ⟨_,tr (zs.set X.length c),rfl,hr,nrm_tr (wf_set hzw _ _ (by unfold W64; omega)),?_,?_,hb.setCell (Nat.le_refl _) _⟩
    ·rw [nv_tr]
     have e1:=nv_set_succ W64 zs X.length c (by rw [HL.out]; omega)
     rw [List.take_of_length_le (by rw [HLL.out]; exact Nat.le_refl _)] at e1
     have e2:=HV.out
     rw [List.take_length,List.take_of_length_le hXY] at e2
     rw [e1,e2,HS.out]
    ·have:=tr_len (zs.set X.length c)
     rw [HLL.out] at this; omega
set_option maxHeartbeats 400000 in
theorem nat_Of (x : Nat) (hx : x < W64) (w : World) : Calls Tryz.prog 35 #[.int .u64 x] w (RetN w 1 x):=by
 by_cases h0 : x = 0
 ·subst h0
  go_enter Tryz.func35,Tryz.ntmps35
  go_wp2
  go_ret
  exact ⟨_,[],rfl,Own.nil _ _ _ _,nrm_nil _,rfl,by simp,Below.refl _ _⟩
 ·have h1 : ((x : Int) == 0) = false:=by simpa using h0
  go_enter Tryz.func35,Tryz.ntmps35
  go_wp2
  go_ret
  refine ⟨_,[x],rfl,?_,⟨wf_cons hx (wf_nil _),by simp [tr,h0]⟩,by simp [nv],by simp,(Below.refl _ _).alloc (Nat.le_refl _) _⟩
  exact World.ownsRow_lit w #[.int .u64 x] 1 (Nat.le_refl _) (by unfold maxLen; omega) rfl
set_option maxHeartbeats 400000 in
theorem slices_Clone (v : Value) (xs : List Nat) (w : World) (hv : Sl .u64 w v xs) (hm : xs.length ≤ 1000000000) :
  Calls Tryz.prog 90 #[v] w fun e w'=>∃ r,e = .returned r ∧ Own .u64 51 w' w.heap.size r xs ∧ Below w.heap.size w w':=by
 obtain ⟨ao,b,off,cap,rfl,hl,hcs⟩:=hv
 have heq:=fun w=>Lib.run_eql_slice_nil (P:=Tryz.prog) w 45 51 ao xs.length cap 0 0 Tryz.underlying45
 cases ao with
 | none=>
  obtain rfl : xs = []:=by
   by_cases h : xs = []
   ·exact h
   ·have:=hcs.ao h; simp at this
  simp only [List.length_nil] at heq
  go_enter Tryz.func90,Tryz.ntmps90
  go_wp2
  go_ret
  exact ⟨_,rfl,Own.nil _ _ _ _,Below.refl _ _⟩
 | some ad=>
  go_enter Tryz.func90,Tryz.ntmps90
  have hb0 : Below w.heap.size w (w.alloc (.cells #[] 51)):=(Below.refl _ _).alloc (Nat.le_refl _) _
  have hcs1:=hcs.below hb0 (Nat.le_refl _)
  have ho0:=Own.lit0 .u64 51 w w.heap.size (Nat.le_refl _)
  go_wp2_with (at_builtin; go_loud (refine wp_appS .u64 45 51 8 Tryz.underlying45 (by kernel_rfl) (by decide) rfl _ _ rfl _ w.heap.size _ [] xs ho0 (by simp; omega) (by simp) rfl ad b off cap rfl hcs1 ?_); intro v' w1 hown hbel hgr)
  go_ret
  exact ⟨_,rfl,hown,hb0.trans hbel⟩
theorem nat_normal_any (v : Value) (xs : List Nat) (w : World) (base : Nat) (ho : Own .u64 51 w base v xs) (hm : xs.length ≤ 1000000000) :
  Calls Tryz.prog 89 #[v] w fun e w'=>∃ r,e = .returned r ∧ Own .u64 51 w base r (tr xs) ∧ w = w':=by
 rcases ho.shape with ⟨rfl,rfl⟩ | ⟨g,cap,rfl,h1,h2,h3,h4⟩
 ·exact (nat_normal none 0 0 0 [] w ⟨fun h=>absurd rfl h,fun j hj=>by simp at hj⟩ (by simp) (by simp)).mono fun e w' ⟨he,hw⟩=>⟨_,he,Own.nil _ _ _ _,hw⟩
 ·exact nat_normal_own g _ cap xs w base ho rfl h3 hm
set_option maxHeartbeats 400000 in
theorem nat_Norm (v : Value) (xs : List Nat) (w : World) (hv : Sl .u64 w v xs) (hm : xs.length ≤ 1000000000) (hx : wf W64 xs) :
  Calls Tryz.prog 52 #[v] w (RetN w xs.length (nv W64 xs)):=by
 obtain ⟨ao,b,off,cap,rfl,hl,hcs⟩:=hv
 have htl:=tr_len xs
 have hs2 : Sl .u64 w (.slice ao (tr xs).length cap) (tr xs):=⟨ao,b,off,cap,rfl,by omega,hcs.trim⟩
 go_enter Tryz.func52,Tryz.ntmps52
 go_wp2_with fail
 refine (nat_trim ao b off cap xs _ hcs hl (by omega)).mono ?_; rintro e w' ⟨rfl,rfl⟩
 go_wp2_with fail
 refine (slices_Clone _ (tr xs) _ hs2 (by omega)).mono ?_; rintro e w1 ⟨r,rfl,hr,hb⟩
 go_wp2_with fail
 refine (nat_normal_any r (tr xs) _ _ hr (by omega)).mono ?_; rintro e w2 ⟨r',rfl,hr',rfl⟩
 go_wp2
 go_ret
 exact ⟨_,_,rfl,hr',nrm_tr (wf_tr hx),by rw [nv_tr,nv_tr],by have:=tr_len (tr xs); omega,hb⟩
def cmpN (a b : Nat) : Int:=if a < b then -1 else if b < a then 1 else 0
theorem cmpN_lt {a b : Nat} (h : a < b) : cmpN a b = -1:=by unfold cmpN; rw [if_pos h]
theorem cmpN_gt {a b : Nat} (h : b < a) : cmpN a b = 1:=by unfold cmpN; rw [if_neg (by omega),if_pos h]
theorem cmpN_eq {a b : Nat} (h : a = b) : cmpN a b = 0:=by unfold cmpN; rw [if_neg (by omega),if_neg (by omega)]
theorem ret_i64 {a b : Int} (h : a = b) : Ending.returned (.int .i64 a) = Ending.returned (.int .i64 b):=by rw [h]
set_option maxHeartbeats 800000 in
theorem nat_Cmp (v u : Value) (xs ys : List Nat) (w : World) (hv : Sl .u64 w v xs) (hu : Sl .u64 w u ys) (hm : xs.length ≤ 1000000000) (hn : ys.length ≤ 1000000000) (hx : wf W64 xs) (hy : wf W64 ys) :
  Calls Tryz.prog 111 #[v,u] w (RetQ w (.int .i64 (cmpN (nv W64 xs) (nv W64 ys)))):=by
 obtain ⟨ao,b,off,cap,rfl,hl,hcs⟩:=hv
 obtain ⟨bo,c,pff,dap,rfl,kl,kcs⟩:=hu
 have hlx:=tr_len xs
 have hly:=tr_len ys
 obtain ⟨X,eX⟩ : ∃ X,X = tr xs:=⟨_,rfl⟩
 obtain ⟨Y,eY⟩ : ∃ Y,Y = tr ys:=⟨_,rfl⟩
 have nX : Nrm W64 X:=by rw [eX]; exact nrm_tr hx
 have nY : Nrm W64 Y:=by rw [eY]; exact nrm_tr hy
 have hX : Cs .u64 w ao b off X:=by rw [eX]; exact hcs.trim
 have hY : Cs .u64 w bo c pff Y:=by rw [eY]; exact kcs.trim
 have e1 : nv W64 xs = nv W64 X:=by rw [eX,nv_tr]
 have e2 : nv W64 ys = nv W64 Y:=by rw [eY,nv_tr]
 rw [e1,e2]
 have c1:=nat_trim ao b off cap xs w hcs hl (by omega)
 have c2:=nat_trim bo c pff dap ys w kcs kl (by omega)
 rw [← eX] at c1 hlx
 rw [← eY] at c2 hly
 have C1:=Lib.hid c1
 have C2:=Lib.hid c2
 clear c1 c2 e1 e2 eX eY hcs kcs
 rcases Nat.lt_trichotomy X.length Y.length with hlen | hlen | hlen
 ·have hf : cmpN (nv W64 X) (nv W64 Y) = -1:=cmpN_lt (nrm_lt_len (by decide) nX nY hlen)
  rw [hf]; clear hf
  have hne : (((X.length : Nat) : Int) != (Y.length : Nat)) = true:=by simp; omega
  go_enter Tryz.func111,Tryz.ntmps111
  go_wp2_with (first | (go_at_call_of 87 (Value.slice ao xs.length cap); refine C1.out.mono ?_; rintro e w' ⟨rfl,rfl⟩) | (go_at_call_of 87 (Value.slice bo ys.length dap); refine C2.out.mono ?_; rintro e w' ⟨rfl,rfl⟩))
  go_ret
  exact ⟨rfl,Drawn.refl _⟩
 ·have hne : (((X.length : Nat) : Int) != (Y.length : Nat)) = false:=by simp [hlen]
  have HL:=Lib.hid hlen
  have hl1 : X.length ≤ Y.length:=by omega
  have hl2 : Y.length ≤ X.length:=by omega
  clear hlen
  go_enter Tryz.func111,Tryz.ntmps111
  go_wp2_with (first | (go_at_call_of 87 (Value.slice ao xs.length cap); refine C1.out.mono ?_; rintro e w' ⟨rfl,rfl⟩) | (go_at_call_of 87 (Value.slice bo ys.length dap); refine C2.out.mono ?_; rintro e w' ⟨rfl,rfl⟩))
  go_loopw [5] (fun i wr=>∃ k : Nat,k ≤ X.length ∧ i = .int .i64 ((k : Int) - 1) ∧ Drawn w wr ∧ X.drop k = Y.drop k) (fun i _=>(intOf i + 1).toNat)
  case atStart=>exact ⟨X.length,Nat.le_refl _,rfl,Drawn.refl _,by rw [List.drop_length,HL.out,List.drop_length]⟩
  case round=>
   obtain ⟨k,hk,rfl,hq,hd⟩:=hrel
   have HD:=Lib.hid hd; clear hd
   by_cases h0 : 0 < k
   ·obtain rfl:=hX.ao (by intro h; subst h; simp at hk; omega)
    obtain rfl:=hY.ao (by intro h; subst h; simp at hl1; simp [hl1] at hk; omega)
    have hcx:=(hX.drawn hq).cell (k - 1) (by omega)
    have hcy:=(hY.drawn hq).cell (k - 1) (by omega)
    obtain ⟨x,ex⟩ : ∃ x,x = X.getD (k - 1) 0:=⟨_,rfl⟩
    obtain ⟨y,ey⟩ : ∃ y,y = Y.getD (k - 1) 0:=⟨_,rfl⟩
    rw [← ex] at hcx
    rw [← ey] at hcy
    have EX:=Lib.hid ex; clear ex
    have EY:=Lib.hid ey; clear ey
    have hlk : k - 1 < X.length:=by omega
    have hdk : X.drop (k - 1) = x :: X.drop k:=by
     have:=List.drop_eq_getElem_cons hlk
     rw [this,EX.out,getD_lt X _ hlk,Nat.sub_add_cancel h0]
    have hdk2 : Y.drop (k - 1) = y :: Y.drop k:=by
     have hlk2 : k - 1 < Y.length:=by omega
     have:=List.drop_eq_getElem_cons hlk2
     rw [this,EY.out,getD_lt Y _ hlk2,Nat.sub_add_cancel h0]
    have HDX:=Lib.hid hdk; clear hdk
    have HDY:=Lib.hid hdk2; clear hdk2
    have hkk : k - 1 + 1 = k:=by omega
    have HKK:=Lib.hid hkk; clear hkk
    rcases Nat.lt_trichotomy x y with hxy | hxy | hxy
    ·have hf : cmpN (nv W64 X) (nv W64 Y) = -1:=cmpN_lt (nv_cmp_of X Y (k - 1) nX.1 HL.out hlk (by rw [HKK.out]; exact HD.out) (by rw [← EX.out,← EY.out]; exact hxy))
     have HF:=Lib.hid hf; clear hf
     go_wp2
     go_quiet (fail)
     go_wp2
     go_ret
     exact ⟨ret_i64 HF.out.symm,hq.add nq⟩
    ·have HXY:=Lib.hid hxy
     subst hxy
     go_wp2
     go_quiet (fail)
     go_wp2
     have hq2:=hq.add nq
     have hcx2 : (wr.drewN nq).cell? _ = _:=hcx
     have hcy2 : (wr.drewN nq).cell? _ = _:=hcy
     clear hcx hcy hq
     generalize wr.drewN nq = w2 at *
     go_quiet (fail)
     go_wp2
     go_roundw
     case rel=>exact ⟨k - 1,by omega,by go_num,hq2.add _,by rw [HDX.out,HDY.out,HD.out]⟩
     case measure=>simp [intOf]; omega
    ·have hf : cmpN (nv W64 X) (nv W64 Y) = 1:=cmpN_gt (nv_cmp_of Y X (k - 1) nY.1 HL.out.symm (by omega) (by rw [HKK.out]; exact HD.out.symm) (by rw [← EX.out,← EY.out]; exact hxy))
     have HF:=Lib.hid hf; clear hf
     go_wp2
     go_quiet (fail)
     go_wp2
     have hq2:=hq.add nq
     have hcx2 : (wr.drewN nq).cell? _ = _:=hcx
     have hcy2 : (wr.drewN nq).cell? _ = _:=hcy
     clear hcx hcy hq
     generalize wr.drewN nq = w2 at *
     go_quiet (fail)
     go_wp2
     go_ret
     exact ⟨ret_i64 HF.out.symm,hq2.add _⟩
   ·obtain rfl : k = 0:=by omega
    have hf : cmpN (nv W64 X) (nv W64 Y) = 0:=cmpN_eq (by have:=HD.out; simp at this; rw [this])
    have HF:=Lib.hid hf; clear hf
    go_wp2
    go_ret
    exact ⟨ret_i64 HF.out.symm,hq⟩
 ·have hf : cmpN (nv W64 X) (nv W64 Y) = 1:=cmpN_gt (nrm_lt_len (by decide) nY nX hlen)
  rw [hf]; clear hf
  have hne : (((X.length : Nat) : Int) != (Y.length : Nat)) = true:=by simp; omega
  go_enter Tryz.func111,Tryz.ntmps111
  go_wp2_with (first | (go_at_call_of 87 (Value.slice ao xs.length cap); refine C1.out.mono ?_; rintro e w' ⟨rfl,rfl⟩) | (go_at_call_of 87 (Value.slice bo ys.length dap); refine C2.out.mono ?_; rintro e w' ⟨rfl,rfl⟩))
  go_ret
  exact ⟨rfl,Drawn.refl _⟩
end Go.Proofs.YtlhmaljjdpjkgaaGreatDoor
namespace Go.Proofs.YtlhmaljjdpjkgaaGreatDoor
open Go.Shelf
def lays264_ren : Go.Shelf.Ren:=⟨fun | 264=>188 | n=>n,fun | 53=>51 | 46=>174 | n=>n,fun | n=>n⟩
theorem lays264 : Go.Proofs.Lays.n264 Tryz.prog lays264_ren:={
 mixed:=by kernel_rfl
 f264:=Tryz.func188.trans (congrArg some (by kernel_rfl))
 t46:=Tryz.underlying174
 a46:=Tryz.isAgg174
 z46:=Tryz.sizeOf174
 v46:=Tryz.zeroValue174
 t53:=Tryz.underlying51
 a53:=Tryz.isAgg51
 z53:=Tryz.sizeOf51
 v53:=Tryz.zeroValue51 }
theorem bits_Mul64_raw (x y : Nat) (hx : x < 18446744073709551616) (hy : y < 18446744073709551616) (w : World) :
  Calls Tryz.prog 188 #[.int .u64 x,.int .u64 y] w fun e w'=>e = .returned (.tuple #[.int .u64 ((x * y / 18446744073709551616 : Nat) : Int),.int .u64 ((x * y % 18446744073709551616 : Nat) : Int)]) ∧ w' = w:=Any.bits_Mul64 lays264 x y hx hy w
end Go.Proofs.YtlhmaljjdpjkgaaGreatDoor
namespace Go.Proofs.YtlhmaljjdpjkgaaGreatDoor
open Go.RowKit
def sbs (x y b : Nat) : Nat:=(x + W64 - y - b) % W64
def sbb (x y b : Nat) : Nat:=if x < y + b then 1 else 0
def sub64Ent : Array Value → Sem Value:=fun args=>do
 let (x,y,b) ← Extern.MathBitsCarry.three "Sub64" args
 pure (Extern.MathBitsCarry.pair ((x + Extern.MathBitsCarry.m64 - y - b) % Extern.MathBitsCarry.m64) (if x < y + b then 1 else 0))
theorem bits_Sub64 (x y b : Nat) (hb : b ≤ 1) (w : World) :
  (callFunc 112 #[.int .u64 x,.int .u64 y,.int .u64 b]).run Tryz.prog w = .ok (.value (.tuple #[.int .u64 (sbs x y b : Nat),.int .u64 (sbb x y b : Nat)])) w:=by
 rw [run_callFunc_extern Tryz.func112 (by kernel_rfl) (by kernel_rfl) (by kernel_rfl) (e:=sub64Ent) (by kernel_rfl)]
 have : b = 0 ∨ b = 1:=by omega
 rcases this with rfl | rfl <;> rfl
theorem sbs_lt (x y b : Nat) : sbs x y b < W64:=Nat.mod_lt _ (by decide)
theorem sbb_le (x y b : Nat) : sbb x y b ≤ 1:=by unfold sbb; split <;> omega
theorem sbs_sbb (x y b : Nat) (hx : x < W64) (hy : y < W64) (hb : b ≤ 1) : x + W64 * sbb x y b = sbs x y b + y + b:=by
 unfold sbs sbb; unfold W64 at *; split <;> omega
def RetNB (w : World) (L N : Nat) (e : Ending) (w' : World) : Prop:=
 ∃ r zs,e = .returned (.tuple #[r,.bool true]) ∧ Own .u64 51 w' w.heap.size r zs ∧ Nrm W64 zs ∧ nv W64 zs = N ∧ zs.length ≤ L ∧ Below w.heap.size w w'
def SubRel (w wr : World) (B : Nat) (X Y : List Nat) (k c : Nat) (zs : List Nat) : Prop:=
 c ≤ 1 ∧ Own .u64 51 wr B (.slice (some ⟨B,0,none⟩) X.length X.length) zs ∧ Below B w wr ∧ zs.length = X.length ∧ wf W64 zs ∧
  nv W64 (X.take k) + W64 ^ k * c = nv W64 (zs.take k) + nv W64 (Y.take k)
theorem SubRel.step {w wr : World} {B : Nat} {X Y : List Nat} {k c : Nat} {zs : List Nat} (hc : c ≤ 1) (ho : Own .u64 51 wr B (.slice (some ⟨B,0,none⟩) X.length X.length) zs) (hb : Below B w wr)
  (hl : zs.length = X.length) (hw : wf W64 zs) (hv : nv W64 (X.take k) + W64 ^ k * c = nv W64 (zs.take k) + nv W64 (Y.take k)) (hk : k < X.length) {x y : Nat} (hx : x = X.getD k 0) (hy : y = Y.getD k 0) (wX : wf W64 X) (wY : wf W64 Y) :
  SubRel w (wr.setCell ⟨B,k,none⟩ (.int .u64 (sbs x y c : Nat))) B X Y (k + 1) (sbb x y c) (zs.set k (sbs x y c)):=by
 have h1 : x < W64:=by rw [hx]; exact wf_getD wX (by decide) k
 have h2 : y < W64:=by rw [hy]; exact wf_getD wY (by decide) k
 refine ⟨sbb_le x y c,(ho.store k (sbs x y c)).1,hb.setCell (Nat.le_refl _) _,by simp [hl],wf_set hw _ _ (sbs_lt _ _ _),?_⟩
 rw [nv_set_succ _ _ _ _ (by omega),nv_take_succ',nv_take_succ',← hx,← hy,Nat.pow_succ]
 have h3:=sbs_sbb x y c h1 h2 hc
 have h4 : W64 ^ k * (x + W64 * sbb x y c) = W64 ^ k * (sbs x y c + y + c):=by rw [h3]
 simp only [Nat.mul_add] at h4
 rw [Nat.mul_assoc]
 omega
set_option maxHeartbeats 400000 in
theorem nat_Sub_no (v u : Value) (xs ys : List Nat) (w : World) (hv : Sl .u64 w v xs) (hu : Sl .u64 w u ys) (hm : xs.length ≤ 100000000) (hn : ys.length ≤ 100000000) (hx : wf W64 xs) (hy : wf W64 ys)
  (hlt : nv W64 xs < nv W64 ys) :
  Calls Tryz.prog 67 #[v,u] w (RetQ w (.tuple #[.slice none 0 0,.bool false])):=by
 have hc:=nat_Cmp v u xs ys w hv hu (by omega) (by omega) hx hy
 rw [cmpN_lt hlt] at hc
 have HC:=Lib.hid hc; clear hc
 go_enter Tryz.func67,Tryz.ntmps67
 go_wp2_with fail
 refine HC.out.mono ?_; rintro e w' ⟨rfl,hq⟩
 go_wp2
 go_ret2
 exact ⟨rfl,hq⟩
set_option maxHeartbeats 1000000 in
theorem nat_Sub_yes (v u : Value) (xs ys : List Nat) (w : World) (hv : Sl .u64 w v xs) (hu : Sl .u64 w u ys) (hm : xs.length ≤ 100000000) (hn : ys.length ≤ 100000000) (hx : wf W64 xs) (hy : wf W64 ys)
  (hge : nv W64 ys ≤ nv W64 xs) :
  Calls Tryz.prog 67 #[v,u] w (RetNB w xs.length (nv W64 xs - nv W64 ys)):=by
 have hc:=nat_Cmp v u xs ys w hv hu (by omega) (by omega) hx hy
 have HC:=Lib.hid hc; clear hc
 obtain ⟨t,ht,ht0⟩ : ∃ t : Int,t = cmpN (nv W64 xs) (nv W64 ys) ∧ 0 ≤ t:=⟨_,rfl,by unfold cmpN; split <;> (try split) <;> omega⟩
 rw [← ht] at HC
 clear ht
 obtain ⟨ao,b,off,cap,rfl,hl,hcs⟩:=hv
 obtain ⟨bo,c,pff,dap,rfl,kl,kcs⟩:=hu
 have hlx:=tr_len xs
 have hly:=tr_len ys
 obtain ⟨X,eX⟩ : ∃ X,X = tr xs:=⟨_,rfl⟩
 obtain ⟨Y,eY⟩ : ∃ Y,Y = tr ys:=⟨_,rfl⟩
 have nX : Nrm W64 X:=by rw [eX]; exact nrm_tr hx
 have nY : Nrm W64 Y:=by rw [eY]; exact nrm_tr hy
 have hX0 : Cs .u64 w ao b off X:=by rw [eX]; exact hcs.trim
 have hY0 : Cs .u64 w bo c pff Y:=by rw [eY]; exact kcs.trim
 have e1 : nv W64 xs = nv W64 X:=by rw [eX,nv_tr]
 have e2 : nv W64 ys = nv W64 Y:=by rw [eY,nv_tr]
 rw [e1,e2] at hge ⊢
 have hYX : Y.length ≤ X.length:=by
  by_cases h : X.length < Y.length
  ·have:=nrm_lt_len (by decide) nX nY h; omega
  ·omega
 rw [← eX] at hlx
 rw [← eY] at hly
 have EX:=Lib.hid eX
 have EY:=Lib.hid eY
 clear e1 e2 eX eY
 go_enter Tryz.func67,Tryz.ntmps67
 go_wp2_with fail
 refine HC.out.mono ?_; rintro e w1 ⟨rfl,hq⟩
 have hX:=hX0.drawn hq
 have hY:=hY0.drawn hq
 have c1:=nat_trim ao b off cap xs w1 (hcs.drawn hq) hl (by omega)
 have c2:=nat_trim bo c pff dap ys w1 (kcs.drawn hq) kl (by omega)
 rw [← EX.out] at c1
 rw [← EY.out] at c2
 have C1:=Lib.hid c1
 have C2:=Lib.hid c2
 have hsz:=hq.size
 have HS:=Lib.hid hsz
 clear c1 c2 hcs kcs hX0 hY0 hsz
 go_wp2_with (first | (at_make; refine wp_make .u64 45 51 8 Tryz.underlying45 (by kernel_rfl) (by decide) rfl _ _ rfl .i64 .i64 X.length (by omega) _ _ _ rfl rfl rfl rfl ?_; intro w2 hown hbel hsz) | (go_at_call_of 87 (Value.slice ao xs.length cap); refine C1.out.mono ?_; rintro e w' ⟨rfl,rfl⟩) | (go_at_call_of 87 (Value.slice bo ys.length dap); refine C2.out.mono ?_; rintro e w' ⟨rfl,rfl⟩))
 go_loopw [7,23] (fun cv i wr=>∃ k c zs,k ≤ X.length ∧ i = .int .i64 (k : Nat) ∧ cv = .int .u64 (c : Nat) ∧ SubRel w1 wr w1.heap.size X Y k c zs) (fun _ i _=>X.length - (intOf i).toNat)
 case atStart=>exact ⟨0,0,List.replicate X.length 0,by omega,rfl,rfl,by omega,hown,hbel,by simp,wf_replicate0 (by decide) _,by simp [nv]⟩
 case round=>
  obtain ⟨k,c,zs,hk,rfl,rfl,hc,ho,hb,hzl,hzw,hzv⟩:=hrel
  have HV:=Lib.hid hzv; clear hzv
  have HL:=Lib.hid hzl; clear hzl
  by_cases hlt : k < X.length
  ·obtain rfl:=hX.ao (by intro h; subst h; simp at hlt)
   obtain ⟨x,ex⟩ : ∃ x,x = X.getD k 0:=⟨_,rfl⟩
   obtain ⟨y,ey⟩ : ∃ y,y = Y.getD k 0:=⟨_,rfl⟩
   have hcx:=(hX.below hb (Nat.le_refl _)).cell k hlt
   have hco:=ho.cellAt k (by rw [HL.out]; omega)
   have hfo:=ho.frozenAt k
   have hadd:=bits_Sub64 x y c hc
   rw [← ex] at hcx
   have EX:=Lib.hid ex; clear ex
   by_cases hlt2 : k < Y.length
   ·obtain rfl:=hY.ao (by intro h; subst h; simp at hlt2)
    have hcy:=(hY.below hb (Nat.le_refl _)).cell k hlt2
    rw [← ey] at hcy
    have EY:=Lib.hid ey; clear ey
    go_wp2
    go_roundw
    case rel=>exact ⟨k + 1,sbb x y c,_,by omega,by go_num,rfl,SubRel.step hc ho hb HL.out hzw HV.out hlt EX.out EY.out nX.1 nY.1⟩
    case measure=>simp [intOf]; omega
   ·have hy0 : y = 0:=by rw [ey]; unfold List.getD; rw [List.getElem?_eq_none (by omega)]; rfl
    subst hy0
    rw [show ((0 : Nat) : Int) = 0 from rfl] at hadd
    have EY:=Lib.hid ey; clear ey
    go_wp2
    go_roundw
    case rel=>exact ⟨k + 1,sbb x 0 c,_,by omega,by go_num,rfl,SubRel.step hc ho hb HL.out hzw HV.out hlt EX.out EY.out nX.1 nY.1⟩
    case measure=>simp [intOf]; omega
  ·obtain rfl : k = X.length:=by omega
   go_wp2_with (go_at_call 89; refine (nat_normal_own _ _ _ _ _ _ ho HL.out (Nat.le_refl _) (by omega)).mono ?_; rintro e w' ⟨r,rfl,hr,rfl⟩)
   go_ret2
   have e1:=HV.out
   rw [List.take_length,List.take_of_length_le (by rw [HL.out]; exact Nat.le_refl _),List.take_of_length_le hYX] at e1
   have h2:=nv_lt zs hzw
   rw [HL.out] at h2
   have hc0 : c = 0:=by
    have : c = 0 ∨ c = 1:=by omega
    rcases this with h | h
    ·exact h
    ·subst h; omega
   subst hc0
   refine ⟨_,tr zs,rfl,by rw [← HS.out]; exact hr,nrm_tr hzw,by rw [nv_tr]; omega,by have:=tr_len zs; rw [HL.out] at this; omega,(hq.below _).trans (hb.mono (by rw [HS.out]; exact Nat.le_refl _))⟩
def mhi (x y : Nat) : Nat:=x * y / W64
def mlo (x y : Nat) : Nat:=x * y % W64
theorem bits_Mul64 (x y : Nat) (hx : x < W64) (hy : y < W64) (w : World) :
  Calls Tryz.prog 188 #[.int .u64 x,.int .u64 y] w fun e w'=>e = .returned (.tuple #[.int .u64 (mhi x y : Nat),.int .u64 (mlo x y : Nat)]) ∧ w = w':=
 (bits_Mul64_raw x y hx hy w).mono fun _ _ ⟨he,hw⟩=>⟨he,hw.symm⟩
theorem mhi_mlo (x y : Nat) : mlo x y + W64 * mhi x y = x * y:=by unfold mlo mhi; exact Nat.mod_add_div _ _
theorem mlo_lt (x y : Nat) : mlo x y < W64:=Nat.mod_lt _ (by decide)
def rhi (x y z c : Nat) : Nat:=mhi x y + adc (mlo x y) z 0 + adc (ads (mlo x y) z 0) c 0
def rlo (x y z c : Nat) : Nat:=ads (ads (mlo x y) z 0) c 0
theorem rlo_rhi (x y z c : Nat) : rlo x y z c + W64 * rhi x y z c = x * y + z + c:=by
 unfold rlo rhi
 have h1:=ads_adc (mlo x y) z 0
 have h2:=ads_adc (ads (mlo x y) z 0) c 0
 have h3:=mhi_mlo x y
 simp only [Nat.mul_add]
 omega
theorem rlo_lt (x y z c : Nat) : rlo x y z c < W64:=ads_lt _ _ _
theorem rhi_lt (x y z c : Nat) (hx : x < W64) (hy : y < W64) (hz : z < W64) (hc : c < W64) : rhi x y z c < W64:=by
 have h:=rlo_rhi x y z c
 have h1 : x * y ≤ (W64 - 1) * (W64 - 1):=Nat.mul_le_mul (by omega) (by omega)
 have h2 : (W64 - 1) * (W64 - 1) + (W64 - 1) + (W64 - 1) < W64 * W64:=by decide
 have h3 : W64 * rhi x y z c < W64 * W64:=by omega
 exact Nat.lt_of_mul_lt_mul_left h3
theorem wrap_nat (a : Nat) (h : a < W64) : IntKind.u64.wrap (a : Int) = a:=by
 rw [IntKind.wrap_u64]; unfold W64 at h; omega
theorem wrap_rhi (x y z c : Nat) (hx : x < W64) (hy : y < W64) (hz : z < W64) (hc : c < W64) :
  IntKind.u64.wrap (IntKind.u64.wrap ((mhi x y : Int) + (adc (mlo x y) z 0 : Nat)) + (adc (ads (mlo x y) z 0) c 0 : Nat)) = (rhi x y z c : Nat):=by
 have h:=rhi_lt x y z c hx hy hz hc
 unfold rhi at h ⊢
 rw [show ((mhi x y : Int) + (adc (mlo x y) z 0 : Nat)) = ((mhi x y + adc (mlo x y) z 0 : Nat) : Int) from rfl,wrap_nat _ (by omega)]
 exact wrap_nat _ h
def RowRel (w wr : World) (g i n : Nat) (A zs0 : List Nat) (x k c : Nat) (zs : List Nat) : Prop:=
 c < W64 ∧ Own .u64 51 wr g (.slice (some ⟨g,0,none⟩) n n) zs ∧ w.grownBy wr (some g) ∧ zs.length = n ∧ wf W64 zs ∧
  nv W64 (zs.take (i + k)) + W64 ^ (i + k) * c = nv W64 (zs0.take (i + k)) + W64 ^ i * (x * nv W64 (A.take k)) ∧ zs.drop (i + k) = zs0.drop (i + k)
theorem RowRel.step {w wr : World} {g i n : Nat} {A zs0 : List Nat} {x k c : Nat} {zs : List Nat} (hc : c < W64) (ho : Own .u64 51 wr g (.slice (some ⟨g,0,none⟩) n n) zs) (hg : w.grownBy wr (some g))
  (hl : zs.length = n) (hw : wf W64 zs) (hv : nv W64 (zs.take (i + k)) + W64 ^ (i + k) * c = nv W64 (zs0.take (i + k)) + W64 ^ i * (x * nv W64 (A.take k))) (hd : zs.drop (i + k) = zs0.drop (i + k))
  (hk : i + k < n) (hx : x < W64) (wA : wf W64 A) {y z : Nat} (hy : y = A.getD k 0) (hz : z = zs.getD (i + k) 0) :
  RowRel w (wr.setCell ⟨g,i + k,none⟩ (.int .u64 (rlo x y z c : Nat))) g i n A zs0 x (k + 1) (rhi x y z c) (zs.set (i + k) (rlo x y z c)):=by
 have h2 : y < W64:=by rw [hy]; exact wf_getD wA (by decide) k
 have h3 : z < W64:=by rw [hz]; exact wf_getD hw (by decide) _
 refine ⟨rhi_lt x y z c hx h2 h3 hc,(ho.store _ _).1,grown_trans hg (ho.store _ _).2,by simp [hl],wf_set hw _ _ (rlo_lt _ _ _ _),?_,?_⟩
 ·have e0 : i + (k + 1) = (i + k) + 1:=by omega
  rw [e0,nv_set_succ _ _ _ _ (by omega),nv_take_succ',nv_take_succ',← hy,← drop_get hd,← hz,Nat.pow_succ]
  have h4:=rlo_rhi x y z c
  have h5 : W64 ^ (i + k) * (rlo x y z c + W64 * rhi x y z c) = W64 ^ (i + k) * (x * y + z + c):=by rw [h4]
  simp only [Nat.mul_add] at h5 ⊢
  rw [Nat.mul_assoc]
  have h6 : W64 ^ i * (x * (W64 ^ k * y)) = W64 ^ (i + k) * (x * y):=by rw [Nat.pow_add]; simp [Nat.mul_assoc,Nat.mul_left_comm,Nat.mul_comm]
  omega
 ·have e0 : i + (k + 1) = (i + k) + 1:=by omega
  rw [e0,drop_set_lt _ _ _ _ (by omega)]; exact drop_succ_eq hd
def RowPost (w : World) (g i n : Nat) (A zs0 : List Nat) (x : Nat) (e : Ending) (w' : World) : Prop:=
 e = .returned (.tuple #[]) ∧ ∃ zs,Own .u64 51 w' g (.slice (some ⟨g,0,none⟩) n n) zs ∧ w.grownBy w' (some g) ∧ zs.length = n ∧ wf W64 zs ∧
  nv W64 (zs.take (i + A.length + 1)) = nv W64 (zs0.take (i + A.length)) + W64 ^ i * (x * nv W64 A) ∧ zs.drop (i + A.length + 1) = zs0.drop (i + A.length + 1)
set_option maxHeartbeats 800000 in
theorem nat_row (g i n : Nat) (ao : Option Addr) (b off cap : Nat) (A zs : List Nat) (x : Nat) (w : World) (hA : Cs .u64 w ao b off A) (hne : A ≠ [] → b ≠ g) (ho : Own .u64 51 w g (.slice (some ⟨g,0,none⟩) n n) zs)
  (hzl : zs.length = n) (hn : n ≤ 1000000000) (hi : i + A.length < n) (hx : x < W64) (wA : wf W64 A) (wz : wf W64 zs) :
  Calls Tryz.prog 156 #[.slice (some ⟨g,i,none⟩) (n - i) (n - i),.slice ao A.length cap,.int .u64 x] w (RowPost w g i n A zs x):=by
 go_enter Tryz.func156,Tryz.ntmps156
 go_wp2
 go_loopw [6,14] (fun cv ix wr=>∃ k c zz,k ≤ A.length ∧ ix = .int .i64 (k : Nat) ∧ cv = .int .u64 (c : Nat) ∧ RowRel w wr g i n A zs x k c zz) (fun _ ix _=>A.length - (intOf ix).toNat)
 case atStart=>exact ⟨0,0,zs,by omega,rfl,rfl,by decide,ho,World.grownBy.refl _ _,hzl,wz,by simp [nv],rfl⟩
 case round=>
  obtain ⟨k,c,zz,hk,rfl,rfl,hc,hoz,hg,hl,hw,hzv,hd⟩:=hrel
  have HV:=Lib.hid hzv; clear hzv
  have HL:=Lib.hid hl; clear hl
  have HD:=Lib.hid hd; clear hd
  by_cases hlt : k < A.length
  ·obtain rfl:=hA.ao (by intro h; subst h; simp at hlt)
   obtain ⟨y,ey⟩ : ∃ y,y = A.getD k 0:=⟨_,rfl⟩
   obtain ⟨z,ez⟩ : ∃ z,z = zz.getD (i + k) 0:=⟨_,rfl⟩
   have hcy:=(hA.grown hg hne).cell k hlt
   have hcz:=hoz.cellAt (i + k) (by rw [HL.out]; omega)
   have hfz:=hoz.frozenAt (i + k)
   have hyl : y < W64:=by rw [ey]; exact wf_getD wA (by decide) k
   have a1:=bits_Add64 (mlo x y) z 0 (by omega)
   have a2:=bits_Add64 (ads (mlo x y) z 0) c 0 (by omega)
   rw [show ((0 : Nat) : Int) = 0 from rfl] at a1 a2
   rw [← ey] at hcy
   rw [← ez] at hcz
   have EY:=Lib.hid ey; clear ey
   have EZ:=Lib.hid ez; clear ez
   go_wp2_with (go_at_call 188; refine (bits_Mul64 x y hx hyl _).mono ?_; rintro e w' ⟨rfl,rfl⟩)
   go_roundw
   case rel=>exact ⟨k + 1,rhi x y z c,_,by omega,by go_num,by rw [wrap_rhi x y z c hx hyl (by rw [EZ.out]; exact wf_getD hw (by decide) _) hc],RowRel.step hc hoz hg HL.out hw HV.out HD.out (by omega) hx wA EY.out EZ.out⟩
   case measure=>simp [intOf]; omega
  ·obtain rfl : k = A.length:=by omega
   have hco:=hoz.cellAt (i + A.length) (by rw [HL.out]; omega)
   have hfo:=hoz.frozenAt (i + A.length)
   have hs:=hoz.store (i + A.length) c
   have HSS:=Lib.hid hs; clear hs
   go_wp2
   go_end0
   refine ⟨rfl,zz.set (i + A.length) c,HSS.out.1,grown_trans hg HSS.out.2,by simp [HL.out],wf_set hw _ _ hc,?_,?_⟩
   ·rw [nv_set_succ _ _ _ _ (by rw [HL.out]; omega),HV.out,List.take_length]
   ·rw [drop_set_lt _ _ _ _ (by omega)]; exact drop_succ_eq HD.out
def MulRel (w wr : World) (g n : Nat) (A B : List Nat) (i : Nat) (zs : List Nat) : Prop:=
 Own .u64 51 wr g (.slice (some ⟨g,0,none⟩) n n) zs ∧ Below g w wr ∧ zs.length = n ∧ wf W64 zs ∧
  nv W64 (zs.take (i + A.length)) = nv W64 A * nv W64 (B.take i) ∧ zs.drop (i + A.length) = List.replicate (n - (i + A.length)) 0
set_option maxHeartbeats 800000 in
theorem nat_Mul (v u : Value) (xs ys : List Nat) (w : World) (hv : Sl .u64 w v xs) (hu : Sl .u64 w u ys) (hm : xs.length ≤ 100000000) (hn : ys.length ≤ 100000000) (hx : wf W64 xs) (hy : wf W64 ys) :
  Calls Tryz.prog 113 #[v,u] w (RetN w (xs.length + ys.length + 1) (nv W64 xs * nv W64 ys)):=by
 obtain ⟨ao,b,off,cap,rfl,hl,hcs⟩:=hv
 obtain ⟨bo,c,pff,dap,rfl,kl,kcs⟩:=hu
 have hlx:=tr_len xs
 have hly:=tr_len ys
 obtain ⟨X,eX⟩ : ∃ X,X = tr xs:=⟨_,rfl⟩
 obtain ⟨Y,eY⟩ : ∃ Y,Y = tr ys:=⟨_,rfl⟩
 have wX : wf W64 X:=by rw [eX]; exact wf_tr hx
 have wY : wf W64 Y:=by rw [eY]; exact wf_tr hy
 have hX : Cs .u64 w ao b off X:=by rw [eX]; exact hcs.trim
 have hY : Cs .u64 w bo c pff Y:=by rw [eY]; exact kcs.trim
 have e1 : nv W64 xs = nv W64 X:=by rw [eX,nv_tr]
 have e2 : nv W64 ys = nv W64 Y:=by rw [eY,nv_tr]
 rw [e1,e2]
 have c1:=nat_trim ao b off cap xs w hcs hl (by omega)
 have c2:=nat_trim bo c pff dap ys w kcs kl (by omega)
 rw [← eX] at c1 hlx
 rw [← eY] at c2 hly
 have C1:=Lib.hid c1
 have C2:=Lib.hid c2
 clear c1 c2 e1 e2 eX eY hcs kcs
 go_enter Tryz.func113,Tryz.ntmps113
 go_wp2_with (first | (at_make; refine wp_make .u64 45 51 8 Tryz.underlying45 (by kernel_rfl) (by decide) rfl _ _ rfl .i64 .i64 (X.length + Y.length + 1) (by omega) _ _ _ rfl rfl (by omega) (by omega) ?_; intro w1 hown hbel hsz) | (go_at_call_of 87 (Value.slice ao xs.length cap); refine C1.out.mono ?_; rintro e w' ⟨rfl,rfl⟩) | (go_at_call_of 87 (Value.slice bo ys.length dap); refine C2.out.mono ?_; rintro e w' ⟨rfl,rfl⟩))
 go_loopw [21] (fun ix wr=>∃ k zs,k ≤ Y.length ∧ ix = .int .i64 (k : Nat) ∧ MulRel w wr w.heap.size (X.length + Y.length + 1) X Y k zs) (fun ix _=>Y.length - (intOf ix).toNat)
 case atStart=>exact ⟨0,List.replicate (X.length + Y.length + 1) 0,by omega,rfl,hown,hbel,by simp,wf_replicate0 (by decide) _,by rw [List.take_replicate,nv_replicate0]; simp [nv],by simp⟩
 case round=>
  obtain ⟨k,zs,hk,rfl,ho,hb,hl2,hw,hzv,hd⟩:=hrel
  have HV:=Lib.hid hzv; clear hzv
  have HL:=Lib.hid hl2; clear hl2
  have HD:=Lib.hid hd; clear hd
  by_cases hlt : k < Y.length
  ·obtain rfl:=hY.ao (by intro h; subst h; simp at hlt)
   obtain ⟨y,ey⟩ : ∃ y,y = Y.getD k 0:=⟨_,rfl⟩
   have hcy:=(hY.below hb (Nat.le_refl _)).cell k hlt
   have hyl : y < W64:=by rw [ey]; exact wf_getD wY (by decide) k
   rw [← ey] at hcy
   have EY:=Lib.hid ey; clear ey
   have hrow:=nat_row w.heap.size k (X.length + Y.length + 1) ao b off cap X zs y wr (hX.below hb (Nat.le_refl _)) (fun h=>by have:=hX.lt h; omega) ho HL.out (by omega) (by omega) hyl wX hw
   have HR:=Lib.hid hrow; clear hrow
   go_wp2_with fail
   refine HR.out.mono ?_; rintro e w2 ⟨rfl,zs2,ho2,hg2,hl2,hw2,hv2,hd2⟩
   have HV2:=Lib.hid hv2; clear hv2
   have HL2:=Lib.hid hl2; clear hl2
   have HD2:=Lib.hid hd2; clear hd2
   go_wp2
   go_roundw
   case rel=>
    refine ⟨k + 1,zs2,by omega,by go_num,ho2,hb.trans (grown_below hg2 (Nat.le_refl _) (by have:=hb.size; omega)),HL2.out,hw2,?_,?_⟩
    ·rw [show k + 1 + X.length = k + X.length + 1 from by omega,HV2.out,HV.out,nv_take_succ',← EY.out,Nat.mul_add]
     congr 1; simp [Nat.mul_left_comm,Nat.mul_comm,Nat.mul_assoc]
    ·rw [show k + 1 + X.length = k + X.length + 1 from by omega,HD2.out]
     have:=congrArg (List.drop 1) HD.out
     rw [List.drop_drop,List.drop_replicate] at this
     rw [this]; congr 1
   case measure=>simp [intOf]; omega
  ·obtain rfl : k = Y.length:=by omega
   go_wp2_with (go_at_call 89; refine (nat_normal_own _ _ _ _ _ _ ho HL.out (Nat.le_refl _) (by omega)).mono ?_; rintro e w' ⟨r,rfl,hr,rfl⟩)
   go_ret
   refine ⟨_,tr zs,rfl,hr,nrm_tr hw,?_,by have:=tr_len zs; rw [HL.out] at this; omega,hb⟩
   rw [nv_tr,nv_take_drop W64 zs (Y.length + X.length) (by rw [HL.out]; omega),HV.out,HD.out,nv_replicate0,List.take_length]
   simp
def MulAddRel (w wr : World) (g n : Nat) (A : List Nat) (x y k c : Nat) (zs : List Nat) : Prop:=
 c < W64 ∧ Own .u64 51 wr g (.slice (some ⟨g,0,none⟩) n n) zs ∧ Below g w wr ∧ zs.length = n ∧ wf W64 zs ∧
  nv W64 (zs.take k) + W64 ^ k * c = nv W64 (A.take k) * x + y
theorem MulAddRel.step {w wr : World} {g n : Nat} {A : List Nat} {x y k c : Nat} {zs : List Nat} (hc : c < W64) (ho : Own .u64 51 wr g (.slice (some ⟨g,0,none⟩) n n) zs) (hb : Below g w wr)
  (hl : zs.length = n) (hw : wf W64 zs) (hv : nv W64 (zs.take k) + W64 ^ k * c = nv W64 (A.take k) * x + y)
  (hk : k < n) (hx : x < W64) (wA : wf W64 A) {z : Nat} (hz : z = A.getD k 0) :
  MulAddRel w (wr.setCell ⟨g,k,none⟩ (.int .u64 (ads (mlo x z) c 0 : Nat))) g n A x y (k + 1) (mhi x z + adc (mlo x z) c 0) (zs.set k (ads (mlo x z) c 0)):=by
 have h2 : z < W64:=by rw [hz]; exact wf_getD wA (by decide) k
 have h1:=ads_adc (mlo x z) c 0
 have h3:=mhi_mlo x z
 refine ⟨?_,(ho.store _ _).1,hb.setCell (Nat.le_refl _) _,by simp [hl],wf_set hw _ _ (ads_lt _ _ _),?_⟩
 ·have h4 : x * z ≤ (W64 - 1) * (W64 - 1):=Nat.mul_le_mul (by omega) (by omega)
  have h5 : (W64 - 1) * (W64 - 1) + (W64 - 1) < W64 * W64:=by decide
  have h6 : W64 * (mhi x z + adc (mlo x z) c 0) < W64 * W64:=by rw [Nat.mul_add]; omega
  exact Nat.lt_of_mul_lt_mul_left h6
 ·rw [nv_set_succ _ _ _ _ (by omega),nv_take_succ',← hz,Nat.pow_succ]
  have h5 : W64 ^ k * (ads (mlo x z) c 0 + W64 * (mhi x z + adc (mlo x z) c 0)) = W64 ^ k * (x * z + c):=by
   congr 1; rw [Nat.mul_add]; omega
  simp only [Nat.mul_add,Nat.add_mul] at h5 ⊢
  simp only [Nat.mul_assoc]
  have h6 : W64 ^ k * (x * z) = W64 ^ k * (z * x):=by rw [Nat.mul_comm x z]
  omega
set_option maxHeartbeats 800000 in
theorem nat_MulAdd (v : Value) (xs : List Nat) (x y : Nat) (w : World) (hv : Sl .u64 w v xs) (hm : xs.length ≤ 100000000) (hx : wf W64 xs) (hxl : x < W64) (hyl : y < W64) :
  Calls Tryz.prog 193 #[v,.int .u64 x,.int .u64 y] w (RetN w (xs.length + 1) (nv W64 xs * x + y)):=by
 obtain ⟨ao,b,off,cap,rfl,hl,hcs⟩:=hv
 have hlx:=tr_len xs
 obtain ⟨X,eX⟩ : ∃ X,X = tr xs:=⟨_,rfl⟩
 have wX : wf W64 X:=by rw [eX]; exact wf_tr hx
 have hX : Cs .u64 w ao b off X:=by rw [eX]; exact hcs.trim
 have e1 : nv W64 xs = nv W64 X:=by rw [eX,nv_tr]
 rw [e1]
 have c1:=nat_trim ao b off cap xs w hcs hl (by omega)
 rw [← eX] at c1 hlx
 have C1:=Lib.hid c1
 clear c1 e1 eX hcs
 go_enter Tryz.func193,Tryz.ntmps193
 go_wp2_with (first | (at_make; refine wp_make .u64 45 51 8 Tryz.underlying45 (by kernel_rfl) (by decide) rfl _ _ rfl .i64 .i64 (X.length + 1) (by omega) _ _ _ rfl rfl (by omega) (by omega) ?_; intro w1 hown hbel hsz) | (go_at_call 87; refine C1.out.mono ?_; rintro e w' ⟨rfl,rfl⟩))
 go_loopw [8,23] (fun cv ix wr=>∃ k c zs,k ≤ X.length ∧ ix = .int .i64 (k : Nat) ∧ cv = .int .u64 (c : Nat) ∧ MulAddRel w wr w.heap.size (X.length + 1) X x y k c zs) (fun _ ix _=>X.length - (intOf ix).toNat)
 case atStart=>exact ⟨0,y,List.replicate (X.length + 1) 0,by omega,rfl,rfl,hyl,hown,hbel,by simp,wf_replicate0 (by decide) _,by simp [nv]⟩
 case round=>
  obtain ⟨k,c,zs,hk,rfl,rfl,hc,ho,hb,hl2,hw,hzv⟩:=hrel
  have HV:=Lib.hid hzv; clear hzv
  have HL:=Lib.hid hl2; clear hl2
  by_cases hlt : k < X.length
  ·obtain rfl:=hX.ao (by intro h; subst h; simp at hlt)
   obtain ⟨z,ez⟩ : ∃ z,z = X.getD k 0:=⟨_,rfl⟩
   have hcz:=(hX.below hb (Nat.le_refl _)).cell k hlt
   have hco:=ho.cellAt k (by rw [HL.out]; omega)
   have hfo:=ho.frozenAt k
   have hzl : z < W64:=by rw [ez]; exact wf_getD wX (by decide) k
   have a1:=bits_Add64 (mlo x z) c 0 (by omega)
   rw [show ((0 : Nat) : Int) = 0 from rfl] at a1
   rw [← ez] at hcz
   have EZ:=Lib.hid ez; clear ez
   go_wp2_with (go_at_call 188; refine (bits_Mul64 x z hxl hzl _).mono ?_; rintro e w' ⟨rfl,rfl⟩)
   go_roundw
   case rel=>
    have R:=MulAddRel.step (k:=k) hc ho hb HL.out hw HV.out (by omega) hxl wX EZ.out
    exact ⟨k + 1,mhi x z + adc (mlo x z) c 0,_,by omega,by go_num,by rw [← wrap_nat _ R.1]; rfl,R⟩
   case measure=>simp [intOf]; omega
  ·obtain rfl : k = X.length:=by omega
   have hco:=ho.cellAt X.length (by rw [HL.out]; omega)
   have hfo:=ho.frozenAt X.length
   have hs:=(ho.store X.length c).1
   have hll : (zs.set X.length c).length = X.length + 1:=by simp [HL.out]
   have HLL:=Lib.hid hll; clear hll
   go_wp2_with (go_at_call 89; refine (nat_normal_own _ _ _ _ _ _ hs HLL.out (Nat.le_refl _) (by omega)).mono ?_; rintro e w' ⟨r,rfl,hr,rfl⟩)
   go_ret
   refine ⟨_,tr (zs.set X.length c),rfl,hr,nrm_tr (wf_set hw _ _ hc),?_,by have:=tr_len (zs.set X.length c); rw [HLL.out] at this; omega,hb.setCell (Nat.le_refl _) _⟩
   have e1:=nv_set_succ W64 zs X.length c (by rw [HL.out]; omega)
   rw [List.take_of_length_le (by rw [HLL.out]; exact Nat.le_refl _),HV.out,List.take_length] at e1
   rw [nv_tr,e1]
end Go.Proofs.YtlhmaljjdpjkgaaGreatDoor
