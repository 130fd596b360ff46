/- Lengths of numbers. -/
import Derived.Shelf.Strconv.Itoa0
import Derived.Test.YtlhmaljjdpjkgaaGreatDoorTaM0
namespace Go.Proofs.YtlhmaljjdpjkgaaGreatDoor
open Go.Shelf
def lays129_ren : Go.Shelf.Ren:=⟨fun | 129=>88 | n=>n,fun | 53=>51 | 3=>3 | 4=>4 | 46=>174 | 5=>5 | 9=>9 | n=>n,fun | n=>n⟩
theorem lays129 : Go.Proofs.Lays.n129 Tryz.prog lays129_ren:={
 mixed:=by kernel_rfl
 f129:=Tryz.func88.trans (congrArg some (by kernel_rfl))
 t3:=Tryz.underlying3
 a3:=Tryz.isAgg3
 z3:=Tryz.sizeOf3
 v3:=Tryz.zeroValue3
 t4:=Tryz.underlying4
 a4:=Tryz.isAgg4
 z4:=Tryz.sizeOf4
 v4:=Tryz.zeroValue4
 t5:=Tryz.underlying5
 a5:=Tryz.isAgg5
 z5:=Tryz.sizeOf5
 v5:=Tryz.zeroValue5
 t9:=Tryz.underlying9
 a9:=Tryz.isAgg9
 z9:=Tryz.sizeOf9
 v9:=Tryz.zeroValue9
 t46:=Tryz.underlying174
 a46:=Tryz.isAgg174
 z46:=Tryz.sizeOf174
 v46:=Tryz.zeroValue174
 t53:=Tryz.underlying51
 a53:=Tryz.isAgg51
 z53:=Tryz.sizeOf51
 v53:=Tryz.zeroValue51 }
theorem bits_Len64_raw (x : Int) (w : World) (h0 : 0 ≤ x) (h1 : x ≤ 18446744073709551615) :
  Calls Tryz.prog 88 #[.int .u64 x] w fun e w'=>e = .returned (.int .i64 (Lib.bitLen x.toNat)) ∧ w' = w:=Any.bits_Len64 lays129 x w h0 h1
end Go.Proofs.YtlhmaljjdpjkgaaGreatDoor
namespace Go.Proofs.YtlhmaljjdpjkgaaGreatDoor
open Go.RowKit
def IsBl (n b : Nat) : Prop:=n < 2 ^ b ∧ (0 < b → 2 ^ (b - 1) ≤ n)
theorem IsBl.unique {n b c : Nat} (h : IsBl n b) (k : IsBl n c) : b = c:=by
 rcases Nat.lt_trichotomy b c with hlt | he | hlt
 ·have h1:=k.2 (by omega)
  have h2 : 2 ^ b ≤ 2 ^ (c - 1):=Nat.pow_le_pow_right (by decide) (by omega)
  have:=h.1; omega
 ·exact he
 ·have h1:=h.2 (by omega)
  have h2 : 2 ^ c ≤ 2 ^ (b - 1):=Nat.pow_le_pow_right (by decide) (by omega)
  have:=k.1; omega
def bl (n : Nat) : Nat:=if n = 0 then 0 else n.log2 + 1
theorem isBl_bl (n : Nat) : IsBl n (bl n):=by
 unfold bl IsBl
 split
 ·rename_i h; subst h; simp
 ·rename_i h; exact ⟨Nat.lt_log2_self,fun _=>by simpa using Nat.log2_self_le h⟩
theorem isBl_aux : ∀ (f x : Nat),x < 2 ^ f → IsBl x (Lib.bitLenAux f x)
 | 0,x,h=>by
  have : x = 0:=by simpa using h
  subst this; exact ⟨by simp [Lib.bitLenAux],by simp [Lib.bitLenAux]⟩
 | f + 1,x,h=>by
  unfold Lib.bitLenAux
  split
  ·rename_i h0; subst h0; exact ⟨by simp,by simp⟩
  ·rename_i h0
   have ih:=isBl_aux f (x / 2) (by rw [Nat.pow_succ] at h; omega)
   refine ⟨?_,fun _=>?_⟩
   ·have:=ih.1
    rw [Nat.pow_add]; simp; omega
   ·rw [show 1 + Lib.bitLenAux f (x / 2) - 1 = Lib.bitLenAux f (x / 2) from by omega]
    by_cases hb : 0 < Lib.bitLenAux f (x / 2)
    ·have h2:=ih.2 hb
     obtain ⟨c,hc⟩ : ∃ c,Lib.bitLenAux f (x / 2) = c + 1:=⟨_,(Nat.sub_add_cancel hb).symm⟩
     rw [hc] at h2 ⊢
     simp at h2
     rw [Nat.pow_succ]; omega
    ·have : Lib.bitLenAux f (x / 2) = 0:=by omega
     rw [this]; simp; omega
theorem bitLen_eq (x : Nat) (h : x < W64) : Lib.bitLen x = bl x:=(isBl_aux 64 x h).unique (isBl_bl x)
theorem bl_words {xs : List Nat} (h : Nrm W64 xs) (hx : xs ≠ []) : bl (nv W64 xs) = 64 * (xs.length - 1) + bl (xs.getD (xs.length - 1) 0):=by
 have hl : 0 < xs.length:=List.length_pos_iff.2 hx
 have e:=congrArg (nv W64) (last_split xs hx)
 rw [nv_snoc] at e
 have el : (xs.take (xs.length - 1)).length = xs.length - 1:=by simp
 have h1:=nv_lt (xs.take (xs.length - 1)) (wf_take h.1 _)
 rw [el] at e h1
 obtain ⟨k,hk⟩ : ∃ k,k = xs.length - 1:=⟨_,rfl⟩
 obtain ⟨y,hy⟩ : ∃ y,y = xs.getD (xs.length - 1) 0:=⟨_,rfl⟩
 have hy0 : y ≠ 0:=by rw [hy]; exact nrm_last h hx
 rw [← hy] at e ⊢
 rw [← hk] at e h1 ⊢
 have hb:=isBl_bl y
 have hb0 : 0 < bl y:=by unfold bl; rw [if_neg hy0]; omega
 have hW : W64 ^ k = 2 ^ (64 * k):=by rw [show W64 = 2 ^ 64 from rfl,← Nat.pow_mul]
 rw [hW] at e h1
 refine (isBl_bl _).unique ⟨?_,fun _=>?_⟩
 ·rw [e,Nat.pow_add]
  have h2 : 2 ^ (64 * k) * (y + 1) ≤ 2 ^ (64 * k) * 2 ^ bl y:=Nat.mul_le_mul_left _ hb.1
  rw [Nat.mul_succ] at h2; omega
 ·rw [e,show 64 * k + bl y - 1 = 64 * k + (bl y - 1) from by omega,Nat.pow_add]
  have h2 : 2 ^ (64 * k) * 2 ^ (bl y - 1) ≤ 2 ^ (64 * k) * y:=Nat.mul_le_mul_left _ (hb.2 hb0)
  omega
theorem bl_le_of_lt {n k : Nat} (h : n < 2 ^ k) : bl n ≤ k:=by
 by_cases hb : 0 < bl n
 ·have h1:=(isBl_bl n).2 hb
  have h2 : 2 ^ (bl n - 1) < 2 ^ k:=by omega
  have:=(Nat.pow_lt_pow_iff_right (by decide)).1 h2
  omega
 ·omega
theorem bl_word (y : Nat) (h : y < W64) : bl y ≤ 64:=bl_le_of_lt h
set_option maxHeartbeats 400000 in
theorem nat_Bits (v : Value) (xs : List Nat) (w : World) (hv : Sl .u64 w v xs) (hm : xs.length ≤ 100000000) (hx : wf W64 xs) :
  Calls Tryz.prog 48 #[v] w fun e w'=>e = .returned (.int .i64 (bl (nv W64 xs) : Nat)) ∧ w = w':=by
 obtain ⟨ao,b,off,cap,rfl,hl,hcs⟩:=hv
 have hlx:=tr_len xs
 obtain ⟨X,eX⟩ : ∃ X,X = tr xs:=⟨_,rfl⟩
 have nX : Nrm W64 X:=by rw [eX]; exact nrm_tr hx
 have hX : Cs .u64 w ao b off X:=by rw [eX]; exact hcs.trim
 have e1 : nv W64 xs = nv W64 X:=by rw [eX,nv_tr]
 rw [e1]
 have c1:=nat_trim ao b off cap xs w hcs hl (by omega)
 rw [← eX] at c1 hlx
 have C1:=Lib.hid c1
 clear c1 e1 eX hcs
 by_cases h0 : X.length = 0
 ·have hX0 : X = []:=List.length_eq_zero_iff.1 h0
  subst hX0
  go_enter Tryz.func48,Tryz.ntmps48
  go_wp2_with (go_at_call 87; refine C1.out.mono ?_; rintro e w' ⟨rfl,rfl⟩)
  go_ret
  exact ⟨rfl,rfl⟩
 ·have hXn : X ≠ []:=by intro h; subst h; simp at h0
  obtain rfl:=hX.ao hXn
  have hne : (((X.length : Nat) : Int) == 0) = false:=by simpa using h0
  have hpos : 0 < X.length:=by omega
  have hbl:=bl_words nX hXn
  have hcx:=hX.cell (X.length - 1) (by omega)
  obtain ⟨y,ey⟩ : ∃ y,y = X.getD (X.length - 1) 0:=⟨_,rfl⟩
  rw [← ey] at hcx hbl
  have hyl : y < W64:=by rw [ey]; exact wf_getD nX.1 (by decide) (X.length - 1)
  have hlen:=bits_Len64_raw (y : Int) w (by omega) (by unfold W64 at hyl; omega)
  rw [show ((y : Int)).toNat = y from by simp,bitLen_eq y hyl] at hlen
  have hby:=bl_word y hyl
  obtain ⟨c,ec⟩ : ∃ c,c = bl y:=⟨_,rfl⟩
  rw [← ec] at hlen hby hbl
  have HLEN:=Lib.hid hlen
  have HBL:=Lib.hid hbl
  clear hlen hbl h0 hXn ey ec hyl
  go_enter Tryz.func48,Tryz.ntmps48
  go_wp2_with (first | (go_at_call 87; refine C1.out.mono ?_; rintro e w' ⟨rfl,rfl⟩) | (go_at_call 88; refine HLEN.out.mono ?_; rintro e w' ⟨rfl,hww⟩; subst hww))
  go_ret
  refine ⟨?_,rfl⟩
  rw [HBL.out]
  congr 2
  go_num
theorem mul_Mul (v u : Value) (xs ys : List Nat) (w : World) (hv : Sl .u64 w v xs) (hu : Sl .u64 w u ys) (hm : xs.length ≤ 50000) (hn : ys.length ≤ 50000) (hx : wf W64 xs) (hy : wf W64 ys) :
  Calls Tryz.prog 68 #[v,u] w (RetN w (xs.length + ys.length) (nv W64 xs * nv W64 ys)):=
 mul_Mul_aux (xs.length + ys.length) v u xs ys w hv hu (by omega) (by omega) (by omega) hx hy
end Go.Proofs.YtlhmaljjdpjkgaaGreatDoor
namespace Go.Proofs.YtlhmaljjdpjkgaaGreatDoor
open Go Go.RowKit
theorem W64_pos : 0 < W64:=by decide
theorem wd_ex : ∀ (n : Nat),∃ xs,Nrm W64 xs ∧ nv W64 xs = n:=by
 intro n
 induction n using Nat.strongRecOn with
 | _ n ih=>
  by_cases h : n = 0
  ·subst h; exact ⟨[],nrm_nil _,rfl⟩
  ·obtain ⟨xs,h1,h2⟩:=ih (n / W64) (Nat.div_lt_self (by omega) (by decide))
   have hw : wf W64 (n % W64 :: xs):=fun y hy=>by
    rcases List.mem_cons.1 hy with rfl | hy
    ·exact Nat.mod_lt _ W64_pos
    ·exact h1.1 y hy
   refine ⟨tr (n % W64 :: xs),nrm_tr hw,?_⟩
   rw [nv_tr,nv_cons,h2]; exact Nat.mod_add_div _ _
noncomputable def wd (n : Nat) : List Nat:=Classical.choose (wd_ex n)
theorem wd_nrm (n : Nat) : Nrm W64 (wd n):=(Classical.choose_spec (wd_ex n)).1
theorem wd_nv (n : Nat) : nv W64 (wd n) = n:=(Classical.choose_spec (wd_ex n)).2
theorem wd_of {xs : List Nat} (h : Nrm W64 xs) {n : Nat} (e : nv W64 xs = n) : xs = wd n:=nrm_inj W64_pos h (wd_nrm n) (by rw [e,wd_nv])
theorem wd_zero : wd 0 = []:=(wd_of (nrm_nil _) rfl).symm
theorem wd_word {x : Nat} (h0 : x ≠ 0) (h : x < W64) : wd x = [x]:=by
 refine (wd_of (xs:=[x]) ⟨fun y hy=>by simp at hy; omega,?_⟩ (by simp [nv])).symm
 simp [tr,h0]
noncomputable def ln (n : Nat) : Nat:=(wd n).length
theorem ln_le {n k : Nat} (h : n < W64 ^ k) : ln n ≤ k:=nrm_len_le (by decide) (wd_nrm n) (by rw [wd_nv]; exact h)
theorem lt_ln (n : Nat) : n < W64 ^ ln n:=by have:=nv_lt (wd n) (wd_nrm n).1; rwa [wd_nv] at this
theorem ln_mono {a b : Nat} (h : a ≤ b) : ln a ≤ ln b:=ln_le (Nat.lt_of_le_of_lt h (lt_ln b))
theorem ln_add (a b : Nat) : ln (a + b) ≤ max (ln a) (ln b) + 1:=by
 apply ln_le
 have h1:=Nat.lt_of_lt_of_le (lt_ln a) (Nat.pow_le_pow_right W64_pos (Nat.le_max_left (ln a) (ln b)))
 have h2:=Nat.lt_of_lt_of_le (lt_ln b) (Nat.pow_le_pow_right W64_pos (Nat.le_max_right (ln a) (ln b)))
 rw [Nat.pow_succ]
 have : W64 ^ max (ln a) (ln b) * 2 ≤ W64 ^ max (ln a) (ln b) * W64:=Nat.mul_le_mul_left _ (by decide)
 omega
theorem ln_mul (a b : Nat) : ln (a * b) ≤ ln a + ln b:=by
 apply ln_le
 rw [Nat.pow_add]
 exact Nat.mul_lt_mul'' (lt_ln a) (lt_ln b)
theorem ln_word {x : Nat} (h : x < W64) : ln x ≤ 1:=ln_le (by simpa using h)
def ws (xs : List Nat) : List IV:=xs.map fun (x : Nat)=>.raw (.int .u64 (x : Int))
def nt (xs : List Nat) : IV:=.sl xs.length 1 (ws xs)
noncomputable def na (n : Nat) : IV:=nt (wd n)
section
variable {M : Nat → Prop} {w : World} {v : Value} {xs : List Nat}
theorem nt_sl (h : Ci M w (nt xs) v) : Sl .u64 w v xs:=by
 obtain ⟨ao,b,o,cap,vs,rfl,h1,h2,h3,h4,h5,h6⟩:=h.slice
 refine ⟨ao,b,o,cap,rfl,h1,fun hne=>(h3 (by simpa [ws] using hne)).1,fun j hj=>?_⟩
 obtain ⟨u,hu,hn⟩:=h4.at (j:=j) (x:=.raw (.int .u64 (xs.getD j 0 : Nat))) (by simp [ws,List.getD,List.getElem?_eq_getElem hj])
 cases hn
 exact h5 j _ hu
theorem own_nt {e : TypeId} {base : Nat} (h : Own .u64 e w base v xs) (hM : ∀ b, M b → b < base) : Ci M w (nt xs) v := by
  have hc : CiL M w (ws xs) (vs .u64 xs) := ⟨by simp [ws, vs], fun j x u a b => by
    simp only [ws, vs] at a b
    obtain ⟨c, rfl, rfl⟩ := map2_at a b
    exact .raw _⟩
  have ho : Ones (vs .u64 xs) := fun u hu => by simp only [vs, List.mem_map] at hu; obtain ⟨_, _, rfl⟩ := hu; rfl
  rcases row_cells (base0 h) with ⟨rfl, h1, h2⟩ | ⟨g, cap, rfl, h1, h2⟩
  · have : xs = [] := List.length_eq_zero_iff.1 h1
    subst this
    exact Ci.mk_sl (b := 0) (o := 0) hc (by simp [ws]) (Nat.le_refl _) (fun j u hu => by simp [vs] at hu) ho (fun hne => absurd rfl hne)
  · refine Ci.mk_sl hc (by simp [ws]) h1 h2 ho fun _ => ⟨rfl, fun hm => ?_⟩
    have := hM g hm
    have := h.block_ge g rfl
    omega
 where
  base0 {e : TypeId} {base : Nat} (h : Own .u64 e w base v xs) : w.ownsRow 0 e 1 v xs.length (vs .u64 xs) := by
    refine ⟨h.1, h.2.imp id fun ⟨g, cap, cur, a, b, c⟩ => ⟨g, cap, cur, a, Nat.zero_le _, c⟩⟩
end
theorem ci1 {M : Nat → Prop} {w : World} {x : IV} {vs : List Value} (h : CiL M w [x] vs) : ∃ v,vs = [v] ∧ Ci M w x v:=by
 match vs,h with
 | [v],h=>exact ⟨v,rfl,h.2 0 _ _ rfl rfl⟩
 | [],h=>have:=h.1; simp at this
 | _ :: _ :: _,h=>have:=h.1; simp at this
theorem ci2 {M : Nat → Prop} {w : World} {x y : IV} {vs : List Value} (h : CiL M w [x,y] vs) : ∃ u v,vs = [u,v] ∧ Ci M w x u ∧ Ci M w y v:=by
 match vs,h with
 | [u,v],h=>exact ⟨u,v,rfl,h.2 0 _ _ rfl rfl,h.2 1 _ _ rfl rfl⟩
 | [],h=>have:=h.1; simp at this
 | [_],h=>have:=h.1; simp at this
 | _ :: _ :: _ :: _,h=>have:=h.1; simp at this
theorem pc_nat {f L n : Nat} (hE : Ent Tryz.prog f) {xs : List IV} (h : ∀ w vs,CiL (fun _=>False) w xs vs → Calls Tryz.prog f vs.toArray w (RetN w L n)) : Pc Tryz.prog f xs (· = na n):=
 .inl ⟨hE,fun B w vs hB hG hc=>(h w vs (hc.keep fun _ _ _=>⟨id,rfl⟩)).mono fun e w' ⟨r,zs,he,ho,hn,hv,hl,hb⟩=>
  ⟨_,r,he,rfl,by rw [na,← wd_of hn hv]; exact own_nt ho hB,hb⟩⟩
theorem pc_natB {f L n : Nat} (hE : Ent Tryz.prog f) {xs : List IV} (h : ∀ w vs,CiL (fun _=>False) w xs vs → Calls Tryz.prog f vs.toArray w (RetNB w L n)) : Pc Tryz.prog f xs (· = .tup [na n,.raw (.bool true)]):=
 .inl ⟨hE,fun B w vs hB hG hc=>(h w vs (hc.keep fun _ _ _=>⟨id,rfl⟩)).mono fun e w' ⟨r,zs,he,ho,hn,hv,hl,hb⟩=>
  ⟨_,_,he,rfl,.tup (vs:=[r,.bool true]) rfl (fun j x u a b=>by
   match j with
   | 0=>simp at a b; subst a b; rw [na,← wd_of hn hv]; exact own_nt ho hB
   | 1=>simp at a b; subst a b; exact .raw _
   | j + 2=>simp at a),hb⟩⟩
theorem pc_raw {f : Nat} (hE : Ent Tryz.prog f) {xs : List IV} {v : Value} (h : ∀ w vs,CiL (fun _=>False) w xs vs → Calls Tryz.prog f vs.toArray w fun e w'=>e = .returned v ∧ Drawn w w') : Pc Tryz.prog f xs (· = .raw v):=
 .inl ⟨hE,fun B w vs hB hG hc=>(h w vs (hc.keep fun _ _ _=>⟨id,rfl⟩)).mono fun e w' ⟨he,hd⟩=>⟨_,_,he,rfl,.raw _,hd.below _⟩⟩
theorem pc_tup {f : Nat} (hE : Ent Tryz.prog f) {xs : List IV} {l : List Value} (h : ∀ w vs,CiL (fun _=>False) w xs vs → Calls Tryz.prog f vs.toArray w fun e w'=>e = .returned (.tuple l.toArray) ∧ Drawn w w') : Pc Tryz.prog f xs (· = .tup (l.map .raw)):=
 .inl ⟨hE,fun B w vs hB hG hc=>(h w vs (hc.keep fun _ _ _=>⟨id,rfl⟩)).mono fun e w' ⟨he,hd⟩=>⟨_,_,he,rfl,.tup (vs:=l) (by simp) (fun j x u a b=>by
  simp only [List.getElem?_map,b,Option.map_some,Option.some.injEq] at a; subst a; exact .raw _),hd.below _⟩⟩
theorem dr_refl {w w' : World} (h : w = w') : Drawn w w':=h ▸ Drawn.refl w
theorem n_Norm {xs : List Nat} (hm : xs.length ≤ 1000000000) (hx : wf W64 xs) : Pc Tryz.prog 52 [nt xs] (· = na (nv W64 xs)):=
 pc_nat (ent_of Tryz.func52 (by kernel_rfl)) fun w vs hc=>by
  obtain ⟨v,rfl,h1⟩:=ci1 hc; exact nat_Norm v xs w (nt_sl h1) hm hx
theorem n_Norm' {n : Nat} (hm : ln n ≤ 1000000000) : Pc Tryz.prog 52 [na n] (· = na n):=by
 have:=n_Norm hm (wd_nrm n).1
 rwa [wd_nv] at this
theorem n_Of {v : Int} {x : Nat} (hv : v = x) (hx : x < W64) : Pc Tryz.prog 35 [.raw (.int .u64 v)] (· = na x):=hv ▸
 pc_nat (ent_of Tryz.func35 (by kernel_rfl)) fun w vs hc=>by
  obtain ⟨v,rfl,h1⟩:=ci1 hc; cases h1; exact nat_Of x hx w
theorem n_Add {a b : Nat} (ha : ln a ≤ 100000000) (hb : ln b ≤ 100000000) : Pc Tryz.prog 66 [na a,na b] (· = na (a + b)):=
 pc_nat (ent_of Tryz.func66 (by kernel_rfl)) fun w vs hc=>by
  obtain ⟨u,v,rfl,h1,h2⟩:=ci2 hc
  have:=nat_Add u v _ _ w (nt_sl h1) (nt_sl h2) ha hb (wd_nrm a).1 (wd_nrm b).1
  rwa [wd_nv,wd_nv] at this
theorem n_Sub {a b : Nat} (ha : ln a ≤ 100000000) (hb : ln b ≤ 100000000) (h : b ≤ a) : Pc Tryz.prog 67 [na a,na b] (· = .tup [na (a - b),.raw (.bool true)]):=
 pc_natB (ent_of Tryz.func67 (by kernel_rfl)) fun w vs hc=>by
  obtain ⟨u,v,rfl,h1,h2⟩:=ci2 hc
  have:=nat_Sub_yes u v _ _ w (nt_sl h1) (nt_sl h2) ha hb (wd_nrm a).1 (wd_nrm b).1 (by rw [wd_nv,wd_nv]; exact h)
  rwa [wd_nv,wd_nv] at this
theorem n_Sub_no {a b : Nat} (ha : ln a ≤ 100000000) (hb : ln b ≤ 100000000) (h : a < b) : Pc Tryz.prog 67 [na a,na b] (· = .tup [.raw (.slice none 0 0),.raw (.bool false)]):=
 pc_tup (l:=[.slice none 0 0,.bool false]) (ent_of Tryz.func67 (by kernel_rfl)) fun w vs hc=>by
  obtain ⟨u,v,rfl,h1,h2⟩:=ci2 hc
  exact nat_Sub_no u v _ _ w (nt_sl h1) (nt_sl h2) ha hb (wd_nrm a).1 (wd_nrm b).1 (by rw [wd_nv,wd_nv]; exact h)
theorem n_Cmp {a b : Nat} (ha : ln a ≤ 1000000000) (hb : ln b ≤ 1000000000) : Pc Tryz.prog 111 [na a,na b] (· = .raw (.int .i64 (cmpN a b))):=
 pc_raw (ent_of Tryz.func111 (by kernel_rfl)) fun w vs hc=>by
  obtain ⟨u,v,rfl,h1,h2⟩:=ci2 hc
  have:=nat_Cmp u v _ _ w (nt_sl h1) (nt_sl h2) ha hb (wd_nrm a).1 (wd_nrm b).1
  rwa [wd_nv,wd_nv] at this
theorem n_Bits {a : Nat} (ha : ln a ≤ 100000000) : Pc Tryz.prog 48 [na a] (· = .raw (.int .i64 (bl a : Nat))):=
 pc_raw (ent_of Tryz.func48 (by kernel_rfl)) fun w vs hc=>by
  obtain ⟨u,rfl,h1⟩:=ci1 hc
  have:=nat_Bits u _ w (nt_sl h1) ha (wd_nrm a).1
  rw [wd_nv] at this
  exact this.mono fun e w' h=>⟨h.1,dr_refl h.2⟩
theorem n_trim {xs : List Nat} (hx : Nrm W64 xs) (hm : xs.length ≤ 1000000000) : Pc Tryz.prog 87 [nt xs] (· = nt xs):=
 .inl ⟨ent_of Tryz.func87 (by kernel_rfl),fun B w vs hB hG hc=>by
  obtain ⟨v,rfl,h1⟩:=ci1 hc
  obtain ⟨ao,b,off,cap,rfl,hl,hcs⟩:=nt_sl h1
  refine (nat_trim ao b off cap xs w hcs hl hm).mono ?_
  rintro e w' ⟨he,rfl⟩
  rw [hx.2] at he
  exact ⟨_,_,he,rfl,h1,Below.refl _ _⟩⟩
theorem n_Word {a : Nat} (h : a < W64) : Pc Tryz.prog 181 [na a] (· = .tup [.raw (.int .u64 a),.raw (.bool true)]):=by
 have hn:=wd_nrm a
 have hl : (wd a).length ≤ 1000000000:=Nat.le_trans (ln_word h) (by decide)
 by_cases h0 : a = 0
 ·subst h0
  rw [na,wd_zero] at *
  refine pc Tryz.func181 ?_
  refine ce (n_trim hn hl) rfl ?_
  refine ift rfl rfl ?_
  exact rfl
 ·rw [na,wd_word h0 h] at *
  refine pc Tryz.func181 ?_
  refine ce (n_trim hn hl) rfl ?_
  refine iff_ rfl rfl ?_
  refine ift rfl rfl ?_
  refine ⟨by simp,?_⟩; rintro _ rfl
  exact rfl
theorem n_Mul {a b : Nat} (ha : ln a ≤ 50000) (hb : ln b ≤ 50000) : Pc Tryz.prog 68 [na a,na b] (· = na (a * b)):=
 pc_nat (ent_of Tryz.func68 (by kernel_rfl)) fun w vs hc=>by
  obtain ⟨u,v,rfl,h1,h2⟩:=ci2 hc
  have:=mul_Mul u v _ _ w (nt_sl h1) (nt_sl h2) ha hb (wd_nrm a).1 (wd_nrm b).1
  rwa [wd_nv,wd_nv] at this
theorem n_Shl {a n : Nat} (ha : ln a ≤ 100000000) (hn : n ≤ 1048576) : Pc Tryz.prog 222 [na a,.raw (.int .i64 n)] (· = .tup [na (a * 2 ^ n),.raw (.bool true)]):=
 pc_natB (ent_of Tryz.func222 (by kernel_rfl)) fun w vs hc=>by
  obtain ⟨u,v,rfl,h1,h2⟩:=ci2 hc
  cases h2
  have:=nat_Shl u _ n w (nt_sl h1) ha (wd_nrm a).1 hn
  rwa [wd_nv] at this
theorem n_MulAdd {a x y : Nat} (ha : ln a ≤ 100000000) (hx : x < W64) (hy : y < W64) : Pc Tryz.prog 193 [na a,.raw (.int .u64 x),.raw (.int .u64 y)] (· = na (a * x + y)):=
 pc_nat (ent_of Tryz.func193 (by kernel_rfl)) fun w vs hc=>by
  match vs,hc with
  | [u,v,z],hc=>
   have h1:=hc.2 0 _ _ rfl rfl
   have h2:=hc.2 1 _ _ rfl rfl
   have h3:=hc.2 2 _ _ rfl rfl
   cases h2; cases h3
   have:=nat_MulAdd u _ x y w (nt_sl h1) ha (wd_nrm a).1 hx hy
   rwa [wd_nv] at this
  | [],hc=>have:=hc.1; simp at this
  | [_],hc=>have:=hc.1; simp at this
  | [_,_],hc=>have:=hc.1; simp at this
  | _ :: _ :: _ :: _ :: _,hc=>have:=hc.1; simp at this
def zsg (s : Bool) (n : Nat) : Int:=if s then -(n : Int) else n
theorem zsg_abs (s : Bool) (n : Nat) : (zsg s n).natAbs = n:=by cases s <;> simp [zsg]
theorem zsg_neg (s : Bool) (n : Nat) : decide (zsg s n < 0) = (s && decide (0 < n)):=by cases s <;> simp [zsg]
theorem zsg_of (z : Int) : zsg (decide (z < 0)) z.natAbs = z:=by
 by_cases h : z < 0
 ·simp [zsg,h]; omega
 ·simp [zsg,h]; omega
noncomputable def iz (z : Int) : IV:=.agg [.raw (.bool (decide (z < 0))),na z.natAbs]
noncomputable def li (z : Int) : Nat:=ln z.natAbs
theorem li_neg (z : Int) : li (-z) = li z:=by simp [li]
theorem li_mul (a b : Int) : li (a * b) ≤ li a + li b:=by unfold li; rw [Int.natAbs_mul]; exact ln_mul _ _
theorem li_add (a b : Int) : li (a + b) ≤ max (li a) (li b) + 1:=by
 unfold li
 exact Nat.le_trans (ln_mono (Int.natAbs_add_le a b)) (ln_add _ _)
theorem li_sub (a b : Int) : li (a - b) ≤ max (li a) (li b) + 1:=by
 have:=li_add a (-b)
 rwa [li_neg] at this
theorem iz_zsg (s : Bool) (n : Nat) : iz (zsg s n) = .agg [.raw (.bool (s && decide (0 < n))),na n]:=by rw [iz,zsg_abs,zsg_neg]
theorem wd_pos {n : Nat} : decide (((wd n).length : Int) > 0) = decide (0 < n):=by
 by_cases h : n = 0
 ·subst h; rw [wd_zero]; rfl
 ·have : wd n ≠ []:=fun e=>by have:=wd_nv n; rw [e] at this; exact h this.symm
  have:=List.length_pos_iff.2 this
  rw [decide_eq_true (by omega),decide_eq_true (by omega)]
theorem z_From0 {xs : List Nat} {s : Bool} (hm : xs.length ≤ 1000000000) (hx : wf W64 xs) : Pc Tryz.prog 34 [nt xs,.raw (.bool s)] (· = iz (zsg s (nv W64 xs))):=by
 refine pc Tryz.func34 ?_
 refine ce (n_Norm hm hx) rfl ?_
 generalize nv W64 xs = n
 rw [iz_zsg]
 cases s with
 | true=>
  refine And.intro (fun _=>?_) (fun h=>(by cases h))
  refine And.intro (fun _=>?_) (fun h=>(by cases h))
  refine And.intro (fun _=>?_) (fun h=>(by cases h))
  refine Two.mk (fun _=>?_) (fun h=>(by cases h))
  rw [← wd_pos]; exact rfl
 | false=>
  refine And.intro (fun h=>(by cases h)) (fun _=>?_)
  refine And.intro (fun h=>(by cases h)) (fun _=>?_)
  refine And.intro (fun h=>(by cases h)) (fun _=>?_)
  refine Two.mk (fun h=>(by cases h)) (fun _=>?_)
  exact rfl
theorem z_From {n : Nat} {s : Bool} (hm : ln n ≤ 1000000000) : Pc Tryz.prog 34 [na n,.raw (.bool s)] (· = iz (zsg s n)):=by
 have:=z_From0 (s:=s) hm (wd_nrm n).1
 rwa [wd_nv] at this
theorem zsg_not (z : Int) : zsg (!decide (z < 0)) z.natAbs = -z:=by
 by_cases h : z < 0 <;> simp [zsg,h] <;> omega
theorem z_Neg {z : Int} (h : li z ≤ 1000000000) : Pc Tryz.prog 107 [iz z] (· = iz (-z)):=by
 refine pc Tryz.func107 ?_
 refine ce (z_From h) rfl ?_; rw [zsg_not]
 exact rfl
theorem z_Of {x : Int} (h0 : -9223372036854775808 ≤ x) (h1 : x ≤ 9223372036854775807) : Pc Tryz.prog 20 [.raw (.int .i64 x)] (· = iz x):=by
 refine pc Tryz.func20 ?_
 by_cases h : x < 0
 ·refine ift rfl (by simpa using h) ?_
  refine ce (n_Of (x:=x.natAbs) (by simp [IntKind.wrap,IntKind.signed,IntKind.bits]; omega) (by unfold W64; omega)) rfl ?_
  refine ce (z_From (Nat.le_trans (ln_word (by unfold W64; omega)) (by decide))) rfl ?_
  rw [show zsg true x.natAbs = x by simp [zsg]; omega]
  exact rfl
 ·refine iff_ rfl (by simpa using h) ?_
  refine ce (n_Of (x:=x.natAbs) (by simp [IntKind.wrap,IntKind.signed,IntKind.bits]; omega) (by unfold W64; omega)) rfl ?_
  refine ce (z_From (Nat.le_trans (ln_word (by unfold W64; omega)) (by decide))) rfl ?_
  rw [show zsg false x.natAbs = x by simp [zsg]; omega]
  exact rfl
theorem z_Bits {z : Int} (h : li z ≤ 100000000) : Pc Tryz.prog 141 [iz z] (· = .raw (.int .i64 (bl z.natAbs : Nat))):=by
 refine pc Tryz.func141 ?_
 refine ce (n_Bits h) rfl ?_
 exact rfl
theorem bl_zero {n : Nat} : (((bl n : Nat) : Int) == 0) = decide (n = 0):=by
 unfold bl; by_cases h : n = 0 <;> simp [h]; omega
def sgnI (z : Int) : Int:=if z < 0 then -1 else if z = 0 then 0 else 1
theorem sgnI_cases (z : Int) : (z < 0 ∧ sgnI z = -1) ∨ (z = 0 ∧ sgnI z = 0) ∨ (0 < z ∧ sgnI z = 1):=by unfold sgnI; repeat' split <;> omega
theorem z_Sign {z : Int} (h : li z ≤ 100000000) : Pc Tryz.prog 30 [iz z] (· = .raw (.int .i64 (sgnI z))):=by
 refine pc Tryz.func30 ?_
 refine ce (n_Bits h) rfl ?_
 refine ifs rfl (fun e=>?_) (fun e=>?_) <;> rw [bl_zero] at e
 ·have e0 : z = 0:=by simpa using e
  subst e0; exact rfl
 ·have e0 : z ≠ 0:=by simpa using e
  refine ifs rfl (fun e=>?_) (fun e=>?_)
  ·simp at e; rw [sgnI,if_pos e]; exact rfl
  ·simp at e; rw [sgnI,if_neg (by omega),if_neg e0]; exact rfl
theorem z_Mul {a b : Int} (ha : li a ≤ 50000) (hb : li b ≤ 50000) : Pc Tryz.prog 40 [iz a,iz b] (· = iz (a * b)):=by
 refine pc Tryz.func40 ?_
 refine rq [0,1,2,3,5,6,7,8,9,4,10,11] ?_
 refine ce (n_Mul ha hb) rfl ?_
 refine cl (z_From (Nat.le_trans (ln_mul _ _) (by unfold li at ha hb; omega))) rfl ?_
 have e : zsg (!(decide (a < 0) == decide (b < 0))) (a.natAbs * b.natAbs) = a * b:=by
  by_cases h1 : a < 0 <;> by_cases h2 : b < 0 <;> simp [zsg,h1,h2,← Int.natAbs_mul]
  ·exact Int.natAbs_of_nonneg (Int.le_of_lt (Int.mul_pos_of_neg_of_neg h1 h2))
  ·have:=Int.mul_nonpos_of_nonpos_of_nonneg (Int.le_of_lt h1) (Int.not_lt.1 h2); omega
  ·have:=Int.mul_nonpos_of_nonneg_of_nonpos (Int.not_lt.1 h1) (Int.le_of_lt h2); omega
  ·exact Int.natAbs_of_nonneg (Int.mul_nonneg (Int.not_lt.1 h1) (Int.not_lt.1 h2))
 rw [e]; rintro _ rfl
 exact rfl
theorem z_Add {a b : Int} (ha : li a ≤ 50000) (hb : li b ≤ 50000) : Pc Tryz.prog 39 [iz a,iz b] (· = iz (a + b)):=by
 have hl:=li_add a b
 have ha' : ln a.natAbs ≤ 50000:=ha
 have hb' : ln b.natAbs ≤ 50000:=hb
 refine pc Tryz.func39 ?_
 refine ifs rfl (fun e=>?_) (fun e=>?_)
 ·refine rq [0,1,2,3,5,6,4,7,8] ?_
  refine ce (n_Add (by omega) (by omega)) rfl ?_
  have e1 : zsg (decide (a < 0)) (a.natAbs + b.natAbs) = a + b:=by
   have e : (a < 0 ↔ b < 0):=by simpa using e
   by_cases h1 : a < 0 <;> simp [zsg,h1] <;> omega
  refine ce (z_From (by have:=ln_add a.natAbs b.natAbs; omega)) rfl ?_
  rw [e1]
  exact rfl
 ·have e : ¬ (a < 0 ↔ b < 0):=by simpa using e
  by_cases h : b.natAbs ≤ a.natAbs
  ·refine ce (n_Sub (by omega) (by omega) h) rfl ?_
   refine ift rfl rfl ?_
   refine ce (z_From (by have:=ln_mono (Nat.sub_le a.natAbs b.natAbs); omega)) rfl ?_
   rw [show zsg (decide (a < 0)) (a.natAbs - b.natAbs) = a + b by by_cases h1 : a < 0 <;> simp [zsg,h1] <;> omega]
   exact rfl
  ·refine ce (n_Sub_no (by omega) (by omega) (by omega)) rfl ?_
   refine iff_ rfl rfl ?_
   refine ce (n_Sub (by omega) (by omega) (by omega)) rfl ?_
   refine ce (z_From (by have:=ln_mono (Nat.sub_le b.natAbs a.natAbs); omega)) rfl ?_
   rw [show zsg (decide (b < 0)) (b.natAbs - a.natAbs) = a + b by by_cases h1 : b < 0 <;> simp [zsg,h1] <;> omega]
   exact rfl
theorem z_Sub {a b : Int} (ha : li a ≤ 50000) (hb : li b ≤ 50000) : Pc Tryz.prog 334 [iz a,iz b] (· = iz (a - b)):=by
 refine pc Tryz.func334 ?_
 refine rq [0,1,2,3,4] ?_
 refine ce (z_Neg (by omega)) rfl ?_
 refine ce (z_Add ha (by rw [li_neg]; exact hb)) rfl ?_
 rw [Int.sub_eq_add_neg]; exact rfl
def cmpZ (a b : Int) : Int:=if a < b then -1 else if b < a then 1 else 0
theorem z_Cmp {a b : Int} (ha : li a ≤ 50000) (hb : li b ≤ 50000) : Pc Tryz.prog 138 [iz a,iz b] (· = .raw (.int .i64 (cmpZ a b))):=by
 have ha' : ln a.natAbs ≤ 50000:=ha
 have hb' : ln b.natAbs ≤ 50000:=hb
 have ca:=sgnI_cases a
 have cb:=sgnI_cases b
 refine pc Tryz.func138 ?_
 refine rq [0,2,1,3,4,5] ?_
 refine ce (z_Sign (by omega)) rfl ?_
 refine ce (z_Sign (by omega)) rfl ?_
 refine ifs rfl (fun e=>?_) (fun e=>?_) <;> simp only [decide_eq_true_eq,decide_eq_false_iff_not] at e
 ·rw [cmpZ,if_pos (by omega)]; exact rfl
 refine ifs rfl (fun e1=>?_) (fun e1=>?_) <;> simp only [decide_eq_true_eq,decide_eq_false_iff_not] at e1
 ·rw [cmpZ,if_neg (by omega),if_pos (by omega)]; exact rfl
 refine ifs rfl (fun e2=>?_) (fun e2=>?_) <;> simp only [decide_eq_true_eq,decide_eq_false_iff_not] at e2
 ·refine ce (n_Cmp (by omega) (by omega)) rfl ?_
  rw [show cmpZ a b = cmpN b.natAbs a.natAbs by unfold cmpN cmpZ; repeat' split <;> omega]
  exact rfl
 ·refine ce (n_Cmp (by omega) (by omega)) rfl ?_
  rw [show cmpZ a b = cmpN a.natAbs b.natAbs by unfold cmpN cmpZ; repeat' split <;> omega]
  exact rfl
theorem cmpZ_eq (a b : Int) : (cmpZ a b == 0) = decide (a = b):=by
 by_cases h : a = b
 ·subst h; simp [cmpZ]
 ·rw [decide_eq_false h]
  have : cmpZ a b ≠ 0:=by unfold cmpZ; repeat' split <;> omega
  simpa using this
theorem z_Same {a b : Int} (ha : li a ≤ 50000) (hb : li b ≤ 50000) : Pc Tryz.prog 102 [iz a,iz b] (· = .raw (.bool (decide (a = b)))):=by
 refine pc Tryz.func102 ?_
 refine ce (z_Cmp ha hb) rfl ?_
 rw [← cmpZ_eq]; exact rfl
end Go.Proofs.YtlhmaljjdpjkgaaGreatDoor
