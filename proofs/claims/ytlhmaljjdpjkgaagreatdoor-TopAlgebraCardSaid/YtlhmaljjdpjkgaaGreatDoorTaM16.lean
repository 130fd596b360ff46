/- A column of a reduced form. -/
import Derived.Test.YtlhmaljjdpjkgaaGreatDoorTaM11
import Derived.Test.YtlhmaljjdpjkgaaGreatDoorTaM15
import Derived.Test.YtlhmaljjdpjkgaaGreatDoorTaM10
import Derived.Test.YtlhmaljjdpjkgaaGreatDoorTaM14
set_option maxHeartbeats 4000000
namespace Go.Proofs.YtlhmaljjdpjkgaaGreatDoor
open Go Go.RowKit
theorem q_ct4_1 {m col L : Nat} {W : Nat → Nat → Rat} {P : List Nat} (hm : m ≤ 64) (hc : col < m) (hL : L ≤ 900) (hl : ∀ i k,i < 4 → k < m → lr (W i k) ≤ L) {i : Nat} (hi : 1 ≤ i) (hin : i < 4) (h0 : W i col ≠ 0) (t : Nat → AV) :
  vcC Tryz.prog (Tb (fun i=>!Nat.beq i 6)) (dropC 9 (codeOf Tryz.f471)) (mkT [(0,.ref 6 0),(3,.ref 0 0),(4,ri .i64 1),(6,.own 2),(7,.ref 8 0),(74,ri .i64 m),(75,ri .i64 0)] t) [bC col,RW m ((swp W 1 i) 0),RW m (swp W 1 i 1),RW m ((swp W 1 i) 2),RW m ((swp W 1 i) 3),.rowa 38 1 4 [.own 1,.own 2,.own 3,.own 4],.box 391 [.own 5,ri .i64 m,.own 7],PV 1 P,.box 49 ((qc (1 / (swp W 1 i) 1 col)).map .im)]
   (RetK (Tb (fun i=>!Nat.beq i 6)) [] (EndE (fun i=>!Nat.beq i 6) (fun x H'=>x = .tup [] ∧ ((H' = hw4 m W 1 P ∧ ∀ i,1 ≤ i → i < 4 → W i col = 0) ∨ ∃ i,1 ≤ i ∧ i < 4 ∧ W i col ≠ 0 ∧ H' = hw4 m (elm W 1 i col (1 / W i col)) 2 (P ++ [col]))))):=by
 obtain ⟨V,hV⟩ : ∃ V,V = swp W 1 i:=⟨_,rfl⟩
 have hVl : ∀ r k,r < 4 → k < m → lr (V r k) ≤ L:=fun r k hr hk=>by rw [hV]; unfold swp; (repeat' split) <;> first | exact hl i k hin hk | exact hl 1 k (by decide) hk | exact hl r k hr hk
 have hVq : ∀ k,V 1 k = W i k:=fun k=>by rw [hV]; unfold swp; rw [if_pos rfl]
 have hVn : V 1 col ≠ 0:=by rw [hVq]; exact h0
 have hcl : lr (1 / V 1 col) ≤ L:=Nat.le_trans (lr_inv _ hVn) (hVl 1 col (by decide) hc)
 rw [← hV]
 refine lpt (fun j : Nat=>j ≤ m) (fun j=>[(0,.ref 6 0),(3,.ref 0 0),(4,ri .i64 1),(6,.own 2),(7,.ref 8 0),(74,ri .i64 m),(75,ri .i64 j)]) (fun j=>[bC col,RW m (V 0),RW m (mix j (fun k=>V 1 k * (1 / V 1 col)) (V 1)),RW m (V 2),RW m (V 3),.rowa 38 1 4 [.own 1,.own 2,.own 3,.own 4],.box 391 [.own 5,ri .i64 m,.own 7],PV 1 P,.box 49 ((qc (1 / V 1 col)).map .im)]) (fun j=>m - j) 0 (Nat.zero_le _) (tsr rfl) (by rw [mix_zero] <;> rfl) ?_
 intro j t hj
 refine ifs rfl (fun hlt=>?_) (fun hge=>?_)
 ·have hlt:=of_decide_eq_true hlt
  have hjm : j < m:=by omega
  have l1:=hVl 1 j (by decide) hjm
  refine rq [0,1,2,3,4,5,6,7,8,9] ?_
  refine ⟨⟨by omega,by omega⟩,?_⟩
  refine gq j hjm (by rw [Int.toNat_natCast]) ?_
  rw [mix_at]
  refine ce (r_Mul (a:=V 1 j) (b:=1 / V 1 col) (by omega) (by omega)) rfl ?_
  refine ⟨⟨by omega,by omega⟩,?_⟩
  refine ⟨by rw [rC_len]; show (j : Int).toNat * 4 + 4 ≤ _; omega,?_⟩
  refine nxg [0,1,2,3,4,5,6,7,8] (j + 1) (by omega) rfl ⟨by omega,⟨rfl,rfl,rfl,rfl,rfl,rfl,congrArg (ri .i64) (i64s (by omega)).symm,trivial⟩,?_⟩
  have e : putAt (rC m (mix j (fun k=>V 1 k * (1 / V 1 col)) (V 1))) (j * 4) (qc (V 1 j * (1 / V 1 col))) = rC m (mix (j + 1) (fun k=>V 1 k * (1 / V 1 col)) (V 1)):=by
   rw [rC_put _ hjm]; exact congrArg _ (mix_succ j (fun k=>V 1 k * (1 / V 1 col)) (V 1))
  exact congrArg (fun l=>[bC col,RW m (V 0),.row 49 4 m l,RW m (V 2),RW m (V 3),.rowa 38 1 4 [.own 1,.own 2,.own 3,.own 4],.box 391 [.own 5,ri .i64 m,.own 7],PV 1 P,.box 49 ((qc (1 / V 1 col)).map .im)]) e
 ·have hge:=of_decide_eq_false hge
  obtain rfl : j = m:=by omega
  refine lpn 5 ?_
  obtain ⟨g,hg⟩ : ∃ g,g = mix j (fun k=>V 1 k * (1 / V 1 col)) (V 1):=⟨_,rfl⟩
  have hgk : ∀ k,k < j → g k = V 1 k * (1 / V 1 col):=fun k hk=>by rw [hg]; exact if_pos hk
  have hgl : ∀ k,k < j → lr (g k) ≤ 9000:=fun k hk=>by rw [hgk k hk]; have l1:=hVl 1 k (by decide) hk; have:=lr_mul (V 1 k) (1 / V 1 col); omega
  have hvl : ∀ r k,r < 4 → k < j → lr (V r k) ≤ 9000:=fun r k hr hk=>by have:=hVl r k hr hk; omega
  rw [← hg]
  refine ift rfl rfl ?_
  refine ⟨by decide,?_⟩
  refine ga ?_
  refine ift rfl rfl ?_
  refine ⟨⟨by omega,by omega⟩,?_⟩
  refine gq col hc (by rw [Int.toNat_natCast]) ?_
  refine cxg [1,2,3,4,0,5,6,7,8] 2 [] (q_take (g:=V 0) (h:=g) (f:=V 0 col) hm (fun k hk=>hvl 0 k (by decide) hk) hgl (hvl 0 col (by decide) hc)) rfl rfl rfl rfl ?_
  rintro _ _ ⟨rfl,rfl⟩
  refine ⟨.inl rfl,?_⟩
  refine ift rfl rfl ?_
  refine ⟨by decide,?_⟩
  refine ga ?_
  refine iff_ rfl rfl ?_
  refine ift rfl rfl ?_
  refine ⟨by decide,?_⟩
  refine ga ?_
  refine ift rfl rfl ?_
  refine ⟨⟨by omega,by omega⟩,?_⟩
  refine gq col hc (by rw [Int.toNat_natCast]) ?_
  refine cxg [2,1,0,3,4,5,6,7,8] 2 [] (q_take (g:=V 2) (h:=g) (f:=V 2 col) hm (fun k hk=>hvl 2 k (by decide) hk) hgl (hvl 2 col (by decide) hc)) rfl rfl rfl rfl ?_
  rintro _ _ ⟨rfl,rfl⟩
  refine ⟨.inl rfl,?_⟩
  refine ift rfl rfl ?_
  refine ⟨by decide,?_⟩
  refine ga ?_
  refine ift rfl rfl ?_
  refine ⟨⟨by omega,by omega⟩,?_⟩
  refine gq col hc (by rw [Int.toNat_natCast]) ?_
  refine cxg [3,1,2,0,4,5,6,7,8] 2 [] (q_take (g:=V 3) (h:=g) (f:=V 3 col) hm (fun k hk=>hvl 3 k (by decide) hk) hgl (hvl 3 col (by decide) hc)) rfl rfl rfl rfl ?_
  rintro _ _ ⟨rfl,rfl⟩
  refine ⟨.inl rfl,?_⟩
  refine iff_ rfl rfl ?_
  have he : [.row 3 1 2 (pvs P ++ [.raw (.int .i64 (col : Int))]),RW j (fun k=>V 0 k - V 0 col * g k),RW j g,RW j (fun k=>V 2 k - V 2 col * g k),RW j (fun k=>V 3 k - V 3 col * g k),.rowa 38 1 4 [.own 1,.own 2,.own 3,.own 4],.box 391 [.own 5,ri .i64 j,.own 0]] = hw4 j (elm W 1 i col (1 / W i col)) 2 (P ++ [col]):=by
   rw [pvs_app,rW_congr (g:=fun k=>V 0 k - V 0 col * g k) (h:=elm W 1 i col (1 / W i col) 0) (fun k hk=>by rw [hgk k hk,elm_ne _ _ (by decide),hVq,hVq,hV]),rW_congr (g:=g) (h:=elm W 1 i col (1 / W i col) 1) (fun k hk=>by rw [hgk k hk,elm_top,hVq,hVq]),rW_congr (g:=fun k=>V 2 k - V 2 col * g k) (h:=elm W 1 i col (1 / W i col) 2) (fun k hk=>by rw [hgk k hk,elm_ne _ _ (by decide),hVq,hVq,hV]),rW_congr (g:=fun k=>V 3 k - V 3 col * g k) (h:=elm W 1 i col (1 / W i col) 3) (fun k hk=>by rw [hgk k hk,elm_ne _ _ (by decide),hVq,hVq,hV])]; rfl
  have hd : (1 + 1) * 8 ≤ 140737488355328 ∧ 1 + 1 ≤ 1000000000:=by decide
  refine rt (PT.app [1,2,3,4,5] (.br 0 (PT.app [6,7,8,9,10] .nil) 6 (.br 0 (PT.app [7,8,9,10] .nil) 7 (PT.app [0,8,9,10] .nil)))) ?_
  refine ⟨?_,?_,?_⟩ <;> refine ⟨hd,?_⟩ <;> exact fin [7,2,1,3,0,5,6] rfl ⟨rfl,.inr ⟨i,hi,hin,h0,Eq.trans rfl he⟩⟩
theorem q_col4_1 {m col L : Nat} {W : Nat → Nat → Rat} {P : List Nat} (hm : m ≤ 64) (hc : col < m) (hL : L ≤ 900) (hl : ∀ i k,i < 4 → k < m → lr (W i k) ≤ L) :
  Ec Tryz.prog 471 (fun i=>!Nat.beq i 6) (hw4 m W 1 P) [.ref 6 0,ri .i64 col] (fun x H'=>x = .tup [] ∧ ((H' = hw4 m W 1 P ∧ ∀ i,1 ≤ i → i < 4 → W i col = 0) ∨ ∃ i,1 ≤ i ∧ i < 4 ∧ W i col ≠ 0 ∧ H' = hw4 m (elm W 1 i col (1 / W i col)) 2 (P ++ [col]))):=by
 have hl' : ∀ i,i < 4 → lr (W i col) ≤ 100000:=fun i hi=>by have:=hl i col hi hc; omega
 refine ec Tryz.func471 ?_
 refine ⟨(by decide : (0 : Int) ≤ 1 ∧ (1 : Int) < 4 ∧ (4 : Int) ≤ 4),?_⟩
 refine cxg [7,1,2,3,4,5,6,0] 6 [1,2,3,4] (q_idx4_1 (W:=W) hm hc hl') rfl rfl rfl rfl ?_
 rintro x _ ⟨rfl,hx⟩
 refine ⟨.inl rfl,?_⟩
 rcases hx with ⟨rfl,h0⟩ | ⟨i,hi,rfl,h0⟩
 ·refine ift rfl rfl ?_
  exact fin [7,1,2,3,4,5,6] rfl ⟨rfl,.inl ⟨rfl,h0⟩⟩
 ·have hi : i = 0 ∨ i = 1 ∨ i = 2:=by omega
  rcases hi with rfl | rfl | rfl
  ·refine iff_ rfl rfl ?_
   refine rqa [0,1,2,3,4,5,6,7,8,9,10,11,12,13,14,15,16,17,18,19,20,21,22,23,24,25,26,27,28,29,30,31] [(9,[5],some []),(10,[5],some []),(11,[5],some []),(29,[],some [5])] ?_
   refine ⟨(by decide : (0 : Int) ≤ IntKind.i64.wrap ((1 : Int) + 0) ∧ IntKind.i64.wrap ((1 : Int) + 0) < 4),?_⟩
   refine ga ?_
   refine ⟨(by decide : (0 : Int) ≤ 1 ∧ (1 : Int) < 4),?_⟩
   refine ga ?_
   refine ⟨(by decide : (0 : Int) ≤ 1 ∧ (1 : Int) < 4),?_⟩
   refine ⟨(by decide : 1 + 1 ≤ 4),?_⟩
   refine ⟨(by decide : (0 : Int) ≤ IntKind.i64.wrap ((1 : Int) + 0) ∧ IntKind.i64.wrap ((1 : Int) + 0) < 4),?_⟩
   refine ⟨(by decide : 1 + 1 ≤ 4),?_⟩
   refine ⟨(by decide : (0 : Int) ≤ 1 ∧ (1 : Int) < 4),?_⟩
   refine ga ?_
   have hb:=hl 1 col (by decide) hc
   have hq:=r_Quo (a:=1) (b:=W 1 col) h0 (Nat.le_trans lr_one (by decide)) (by omega)
   refine rta (PT.app [1,2,3,4] (.br 0 (.br 5 (PT.app [6,7,8,9,10,11] .nil) 9 (PT.app [5,6,7,8,10,11] .nil)) 9 (PT.app [0,5,6,7,8,10,11] .nil))) [(8,[8],some []),(10,[],some [8])] ?_
   refine ⟨⟨by omega,by omega⟩,?_⟩
   refine gq col hc (by rw [Int.toNat_natCast]) ?_
   refine ⟨?_,?_⟩
   ·refine ce c_one rfl ?_
    refine ⟨?_,?_⟩
    ·refine ce hq rfl ?_
     refine lgc [0,1,2,3,4,5,6,7,8] rfl ?_
     refine meetL [(0,.ref 6 0),(3,.ref 0 0),(4,ri .i64 1),(6,.own 2),(7,.ref 8 0),(74,ri .i64 m),(75,ri .i64 0)] (tsr rfl) (h:=[bC col,RW m ((swp W 1 1) 0),RW m (swp W 1 1 1),RW m ((swp W 1 1) 2),RW m ((swp W 1 1) 3),.rowa 38 1 4 [.own 1,.own 2,.own 3,.own 4],.box 391 [.own 5,ri .i64 m,.own 7],PV 1 P,.box 49 ((qc (1 / (swp W 1 1) 1 col)).map .im)]) rfl ?_
     exact q_ct4_1 hm hc hL hl (i:=1) (by decide) (by decide) h0 _
    ·refine ce hq rfl ?_
     refine lgc [0,1,2,3,4,5,6,7,8] rfl ?_
     refine meetL [(0,.ref 6 0),(3,.ref 0 0),(4,ri .i64 1),(6,.own 2),(7,.ref 8 0),(74,ri .i64 m),(75,ri .i64 0)] (tsr rfl) (h:=[bC col,RW m ((swp W 1 1) 0),RW m (swp W 1 1 1),RW m ((swp W 1 1) 2),RW m ((swp W 1 1) 3),.rowa 38 1 4 [.own 1,.own 2,.own 3,.own 4],.box 391 [.own 5,ri .i64 m,.own 7],PV 1 P,.box 49 ((qc (1 / (swp W 1 1) 1 col)).map .im)]) rfl ?_
     exact q_ct4_1 hm hc hL hl (i:=1) (by decide) (by decide) h0 _
   ·refine ce c_one rfl ?_
    refine ce hq rfl ?_
    refine lgc [0,1,2,3,4,5,6,7,8] rfl ?_
    refine meetL [(0,.ref 6 0),(3,.ref 0 0),(4,ri .i64 1),(6,.own 2),(7,.ref 8 0),(74,ri .i64 m),(75,ri .i64 0)] (tsr rfl) (h:=[bC col,RW m ((swp W 1 1) 0),RW m (swp W 1 1 1),RW m ((swp W 1 1) 2),RW m ((swp W 1 1) 3),.rowa 38 1 4 [.own 1,.own 2,.own 3,.own 4],.box 391 [.own 5,ri .i64 m,.own 7],PV 1 P,.box 49 ((qc (1 / (swp W 1 1) 1 col)).map .im)]) rfl ?_
    exact q_ct4_1 hm hc hL hl (i:=1) (by decide) (by decide) h0 _
  ·refine iff_ rfl rfl ?_
   refine rqa [0,1,2,3,4,5,6,7,8,9,10,11,12,13,14,15,16,17,18,19,20,21,22,23,24,25,26,27,28,29,30,31] [(9,[5],some []),(10,[5],some []),(11,[5],some []),(29,[],some [5])] ?_
   refine ⟨(by decide : (0 : Int) ≤ IntKind.i64.wrap ((1 : Int) + 1) ∧ IntKind.i64.wrap ((1 : Int) + 1) < 4),?_⟩
   refine ga ?_
   refine ⟨(by decide : (0 : Int) ≤ 1 ∧ (1 : Int) < 4),?_⟩
   refine ga ?_
   refine ⟨(by decide : (0 : Int) ≤ 1 ∧ (1 : Int) < 4),?_⟩
   refine ⟨(by decide : 1 + 1 ≤ 4),?_⟩
   refine ⟨(by decide : (0 : Int) ≤ IntKind.i64.wrap ((1 : Int) + 1) ∧ IntKind.i64.wrap ((1 : Int) + 1) < 4),?_⟩
   refine ⟨(by decide : 2 + 1 ≤ 4),?_⟩
   refine ⟨(by decide : (0 : Int) ≤ 1 ∧ (1 : Int) < 4),?_⟩
   refine ga ?_
   have hb:=hl 2 col (by decide) hc
   have hq:=r_Quo (a:=1) (b:=W 2 col) h0 (Nat.le_trans lr_one (by decide)) (by omega)
   refine rta (PT.app [1,2,3,4] (.br 0 (.br 5 (PT.app [6,7,8,9,10,11] .nil) 9 (PT.app [5,6,7,8,10,11] .nil)) 9 (PT.app [0,5,6,7,8,10,11] .nil))) [(8,[8],some []),(10,[],some [8])] ?_
   refine ⟨⟨by omega,by omega⟩,?_⟩
   refine gq col hc (by rw [Int.toNat_natCast]) ?_
   refine ⟨?_,?_⟩
   ·refine ce c_one rfl ?_
    refine ⟨?_,?_⟩
    ·refine ce hq rfl ?_
     refine lgc [0,1,3,2,4,5,6,7,8] rfl ?_
     refine meetL [(0,.ref 6 0),(3,.ref 0 0),(4,ri .i64 1),(6,.own 2),(7,.ref 8 0),(74,ri .i64 m),(75,ri .i64 0)] (tsr rfl) (h:=[bC col,RW m ((swp W 1 2) 0),RW m (swp W 1 2 1),RW m ((swp W 1 2) 2),RW m ((swp W 1 2) 3),.rowa 38 1 4 [.own 1,.own 2,.own 3,.own 4],.box 391 [.own 5,ri .i64 m,.own 7],PV 1 P,.box 49 ((qc (1 / (swp W 1 2) 1 col)).map .im)]) rfl ?_
     exact q_ct4_1 hm hc hL hl (i:=2) (by decide) (by decide) h0 _
    ·refine ce hq rfl ?_
     refine lgc [0,1,3,2,4,5,6,7,8] rfl ?_
     refine meetL [(0,.ref 6 0),(3,.ref 0 0),(4,ri .i64 1),(6,.own 2),(7,.ref 8 0),(74,ri .i64 m),(75,ri .i64 0)] (tsr rfl) (h:=[bC col,RW m ((swp W 1 2) 0),RW m (swp W 1 2 1),RW m ((swp W 1 2) 2),RW m ((swp W 1 2) 3),.rowa 38 1 4 [.own 1,.own 2,.own 3,.own 4],.box 391 [.own 5,ri .i64 m,.own 7],PV 1 P,.box 49 ((qc (1 / (swp W 1 2) 1 col)).map .im)]) rfl ?_
     exact q_ct4_1 hm hc hL hl (i:=2) (by decide) (by decide) h0 _
   ·refine ce c_one rfl ?_
    refine ce hq rfl ?_
    refine lgc [0,1,3,2,4,5,6,7,8] rfl ?_
    refine meetL [(0,.ref 6 0),(3,.ref 0 0),(4,ri .i64 1),(6,.own 2),(7,.ref 8 0),(74,ri .i64 m),(75,ri .i64 0)] (tsr rfl) (h:=[bC col,RW m ((swp W 1 2) 0),RW m (swp W 1 2 1),RW m ((swp W 1 2) 2),RW m ((swp W 1 2) 3),.rowa 38 1 4 [.own 1,.own 2,.own 3,.own 4],.box 391 [.own 5,ri .i64 m,.own 7],PV 1 P,.box 49 ((qc (1 / (swp W 1 2) 1 col)).map .im)]) rfl ?_
    exact q_ct4_1 hm hc hL hl (i:=2) (by decide) (by decide) h0 _
  ·refine iff_ rfl rfl ?_
   refine rqa [0,1,2,3,4,5,6,7,8,9,10,11,12,13,14,15,16,17,18,19,20,21,22,23,24,25,26,27,28,29,30,31] [(9,[5],some []),(10,[5],some []),(11,[5],some []),(29,[],some [5])] ?_
   refine ⟨(by decide : (0 : Int) ≤ IntKind.i64.wrap ((1 : Int) + 2) ∧ IntKind.i64.wrap ((1 : Int) + 2) < 4),?_⟩
   refine ga ?_
   refine ⟨(by decide : (0 : Int) ≤ 1 ∧ (1 : Int) < 4),?_⟩
   refine ga ?_
   refine ⟨(by decide : (0 : Int) ≤ 1 ∧ (1 : Int) < 4),?_⟩
   refine ⟨(by decide : 1 + 1 ≤ 4),?_⟩
   refine ⟨(by decide : (0 : Int) ≤ IntKind.i64.wrap ((1 : Int) + 2) ∧ IntKind.i64.wrap ((1 : Int) + 2) < 4),?_⟩
   refine ⟨(by decide : 3 + 1 ≤ 4),?_⟩
   refine ⟨(by decide : (0 : Int) ≤ 1 ∧ (1 : Int) < 4),?_⟩
   refine ga ?_
   have hb:=hl 3 col (by decide) hc
   have hq:=r_Quo (a:=1) (b:=W 3 col) h0 (Nat.le_trans lr_one (by decide)) (by omega)
   refine rta (PT.app [1,2,3,4] (.br 0 (.br 5 (PT.app [6,7,8,9,10,11] .nil) 9 (PT.app [5,6,7,8,10,11] .nil)) 9 (PT.app [0,5,6,7,8,10,11] .nil))) [(8,[8],some []),(10,[],some [8])] ?_
   refine ⟨⟨by omega,by omega⟩,?_⟩
   refine gq col hc (by rw [Int.toNat_natCast]) ?_
   refine ⟨?_,?_⟩
   ·refine ce c_one rfl ?_
    refine ⟨?_,?_⟩
    ·refine ce hq rfl ?_
     refine lgc [0,1,4,3,2,5,6,7,8] rfl ?_
     refine meetL [(0,.ref 6 0),(3,.ref 0 0),(4,ri .i64 1),(6,.own 2),(7,.ref 8 0),(74,ri .i64 m),(75,ri .i64 0)] (tsr rfl) (h:=[bC col,RW m ((swp W 1 3) 0),RW m (swp W 1 3 1),RW m ((swp W 1 3) 2),RW m ((swp W 1 3) 3),.rowa 38 1 4 [.own 1,.own 2,.own 3,.own 4],.box 391 [.own 5,ri .i64 m,.own 7],PV 1 P,.box 49 ((qc (1 / (swp W 1 3) 1 col)).map .im)]) rfl ?_
     exact q_ct4_1 hm hc hL hl (i:=3) (by decide) (by decide) h0 _
    ·refine ce hq rfl ?_
     refine lgc [0,1,4,3,2,5,6,7,8] rfl ?_
     refine meetL [(0,.ref 6 0),(3,.ref 0 0),(4,ri .i64 1),(6,.own 2),(7,.ref 8 0),(74,ri .i64 m),(75,ri .i64 0)] (tsr rfl) (h:=[bC col,RW m ((swp W 1 3) 0),RW m (swp W 1 3 1),RW m ((swp W 1 3) 2),RW m ((swp W 1 3) 3),.rowa 38 1 4 [.own 1,.own 2,.own 3,.own 4],.box 391 [.own 5,ri .i64 m,.own 7],PV 1 P,.box 49 ((qc (1 / (swp W 1 3) 1 col)).map .im)]) rfl ?_
     exact q_ct4_1 hm hc hL hl (i:=3) (by decide) (by decide) h0 _
   ·refine ce c_one rfl ?_
    refine ce hq rfl ?_
    refine lgc [0,1,4,3,2,5,6,7,8] rfl ?_
    refine meetL [(0,.ref 6 0),(3,.ref 0 0),(4,ri .i64 1),(6,.own 2),(7,.ref 8 0),(74,ri .i64 m),(75,ri .i64 0)] (tsr rfl) (h:=[bC col,RW m ((swp W 1 3) 0),RW m (swp W 1 3 1),RW m ((swp W 1 3) 2),RW m ((swp W 1 3) 3),.rowa 38 1 4 [.own 1,.own 2,.own 3,.own 4],.box 391 [.own 5,ri .i64 m,.own 7],PV 1 P,.box 49 ((qc (1 / (swp W 1 3) 1 col)).map .im)]) rfl ?_
    exact q_ct4_1 hm hc hL hl (i:=3) (by decide) (by decide) h0 _
theorem q_ct4_2 {m col L : Nat} {W : Nat → Nat → Rat} {P : List Nat} (hm : m ≤ 64) (hc : col < m) (hL : L ≤ 900) (hl : ∀ i k,i < 4 → k < m → lr (W i k) ≤ L) {i : Nat} (hi : 2 ≤ i) (hin : i < 4) (h0 : W i col ≠ 0) (t : Nat → AV) :
  vcC Tryz.prog (Tb (fun i=>!Nat.beq i 6)) (dropC 9 (codeOf Tryz.f471)) (mkT [(0,.ref 6 0),(3,.ref 0 0),(4,ri .i64 2),(6,.own 3),(7,.ref 8 0),(74,ri .i64 m),(75,ri .i64 0)] t) [bC col,RW m ((swp W 2 i) 0),RW m ((swp W 2 i) 1),RW m (swp W 2 i 2),RW m ((swp W 2 i) 3),.rowa 38 1 4 [.own 1,.own 2,.own 3,.own 4],.box 391 [.own 5,ri .i64 m,.own 7],PV 2 P,.box 49 ((qc (1 / (swp W 2 i) 2 col)).map .im)]
   (RetK (Tb (fun i=>!Nat.beq i 6)) [] (EndE (fun i=>!Nat.beq i 6) (fun x H'=>x = .tup [] ∧ ((H' = hw4 m W 2 P ∧ ∀ i,2 ≤ i → i < 4 → W i col = 0) ∨ ∃ i,2 ≤ i ∧ i < 4 ∧ W i col ≠ 0 ∧ H' = hw4 m (elm W 2 i col (1 / W i col)) 3 (P ++ [col]))))):=by
 obtain ⟨V,hV⟩ : ∃ V,V = swp W 2 i:=⟨_,rfl⟩
 have hVl : ∀ r k,r < 4 → k < m → lr (V r k) ≤ L:=fun r k hr hk=>by rw [hV]; unfold swp; (repeat' split) <;> first | exact hl i k hin hk | exact hl 2 k (by decide) hk | exact hl r k hr hk
 have hVq : ∀ k,V 2 k = W i k:=fun k=>by rw [hV]; unfold swp; rw [if_pos rfl]
 have hVn : V 2 col ≠ 0:=by rw [hVq]; exact h0
 have hcl : lr (1 / V 2 col) ≤ L:=Nat.le_trans (lr_inv _ hVn) (hVl 2 col (by decide) hc)
 rw [← hV]
 refine lpt (fun j : Nat=>j ≤ m) (fun j=>[(0,.ref 6 0),(3,.ref 0 0),(4,ri .i64 2),(6,.own 3),(7,.ref 8 0),(74,ri .i64 m),(75,ri .i64 j)]) (fun j=>[bC col,RW m (V 0),RW m (V 1),RW m (mix j (fun k=>V 2 k * (1 / V 2 col)) (V 2)),RW m (V 3),.rowa 38 1 4 [.own 1,.own 2,.own 3,.own 4],.box 391 [.own 5,ri .i64 m,.own 7],PV 2 P,.box 49 ((qc (1 / V 2 col)).map .im)]) (fun j=>m - j) 0 (Nat.zero_le _) (tsr rfl) (by rw [mix_zero] <;> rfl) ?_
 intro j t hj
 refine ifs rfl (fun hlt=>?_) (fun hge=>?_)
 ·have hlt:=of_decide_eq_true hlt
  have hjm : j < m:=by omega
  have l1:=hVl 2 j (by decide) hjm
  refine rq [0,1,2,3,4,5,6,7,8,9] ?_
  refine ⟨⟨by omega,by omega⟩,?_⟩
  refine gq j hjm (by rw [Int.toNat_natCast]) ?_
  rw [mix_at]
  refine ce (r_Mul (a:=V 2 j) (b:=1 / V 2 col) (by omega) (by omega)) rfl ?_
  refine ⟨⟨by omega,by omega⟩,?_⟩
  refine ⟨by rw [rC_len]; show (j : Int).toNat * 4 + 4 ≤ _; omega,?_⟩
  refine nxg [0,1,2,3,4,5,6,7,8] (j + 1) (by omega) rfl ⟨by omega,⟨rfl,rfl,rfl,rfl,rfl,rfl,congrArg (ri .i64) (i64s (by omega)).symm,trivial⟩,?_⟩
  have e : putAt (rC m (mix j (fun k=>V 2 k * (1 / V 2 col)) (V 2))) (j * 4) (qc (V 2 j * (1 / V 2 col))) = rC m (mix (j + 1) (fun k=>V 2 k * (1 / V 2 col)) (V 2)):=by
   rw [rC_put _ hjm]; exact congrArg _ (mix_succ j (fun k=>V 2 k * (1 / V 2 col)) (V 2))
  exact congrArg (fun l=>[bC col,RW m (V 0),RW m (V 1),.row 49 4 m l,RW m (V 3),.rowa 38 1 4 [.own 1,.own 2,.own 3,.own 4],.box 391 [.own 5,ri .i64 m,.own 7],PV 2 P,.box 49 ((qc (1 / V 2 col)).map .im)]) e
 ·have hge:=of_decide_eq_false hge
  obtain rfl : j = m:=by omega
  refine lpn 5 ?_
  obtain ⟨g,hg⟩ : ∃ g,g = mix j (fun k=>V 2 k * (1 / V 2 col)) (V 2):=⟨_,rfl⟩
  have hgk : ∀ k,k < j → g k = V 2 k * (1 / V 2 col):=fun k hk=>by rw [hg]; exact if_pos hk
  have hgl : ∀ k,k < j → lr (g k) ≤ 9000:=fun k hk=>by rw [hgk k hk]; have l1:=hVl 2 k (by decide) hk; have:=lr_mul (V 2 k) (1 / V 2 col); omega
  have hvl : ∀ r k,r < 4 → k < j → lr (V r k) ≤ 9000:=fun r k hr hk=>by have:=hVl r k hr hk; omega
  rw [← hg]
  refine ift rfl rfl ?_
  refine ⟨by decide,?_⟩
  refine ga ?_
  refine ift rfl rfl ?_
  refine ⟨⟨by omega,by omega⟩,?_⟩
  refine gq col hc (by rw [Int.toNat_natCast]) ?_
  refine cxg [1,3,2,4,0,5,6,7,8] 2 [] (q_take (g:=V 0) (h:=g) (f:=V 0 col) hm (fun k hk=>hvl 0 k (by decide) hk) hgl (hvl 0 col (by decide) hc)) rfl rfl rfl rfl ?_
  rintro _ _ ⟨rfl,rfl⟩
  refine ⟨.inl rfl,?_⟩
  refine ift rfl rfl ?_
  refine ⟨by decide,?_⟩
  refine ga ?_
  refine ift rfl rfl ?_
  refine ⟨⟨by omega,by omega⟩,?_⟩
  refine gq col hc (by rw [Int.toNat_natCast]) ?_
  refine cxg [2,1,0,3,4,5,6,7,8] 2 [] (q_take (g:=V 1) (h:=g) (f:=V 1 col) hm (fun k hk=>hvl 1 k (by decide) hk) hgl (hvl 1 col (by decide) hc)) rfl rfl rfl rfl ?_
  rintro _ _ ⟨rfl,rfl⟩
  refine ⟨.inl rfl,?_⟩
  refine ift rfl rfl ?_
  refine ⟨by decide,?_⟩
  refine ga ?_
  refine iff_ rfl rfl ?_
  refine ift rfl rfl ?_
  refine ⟨by decide,?_⟩
  refine ga ?_
  refine ift rfl rfl ?_
  refine ⟨⟨by omega,by omega⟩,?_⟩
  refine gq col hc (by rw [Int.toNat_natCast]) ?_
  refine cxg [3,1,2,0,4,5,6,7,8] 2 [] (q_take (g:=V 3) (h:=g) (f:=V 3 col) hm (fun k hk=>hvl 3 k (by decide) hk) hgl (hvl 3 col (by decide) hc)) rfl rfl rfl rfl ?_
  rintro _ _ ⟨rfl,rfl⟩
  refine ⟨.inl rfl,?_⟩
  refine iff_ rfl rfl ?_
  have he : [.row 3 1 3 (pvs P ++ [.raw (.int .i64 (col : Int))]),RW j (fun k=>V 0 k - V 0 col * g k),RW j (fun k=>V 1 k - V 1 col * g k),RW j g,RW j (fun k=>V 3 k - V 3 col * g k),.rowa 38 1 4 [.own 1,.own 2,.own 3,.own 4],.box 391 [.own 5,ri .i64 j,.own 0]] = hw4 j (elm W 2 i col (1 / W i col)) 3 (P ++ [col]):=by
   rw [pvs_app,rW_congr (g:=fun k=>V 0 k - V 0 col * g k) (h:=elm W 2 i col (1 / W i col) 0) (fun k hk=>by rw [hgk k hk,elm_ne _ _ (by decide),hVq,hVq,hV]),rW_congr (g:=fun k=>V 1 k - V 1 col * g k) (h:=elm W 2 i col (1 / W i col) 1) (fun k hk=>by rw [hgk k hk,elm_ne _ _ (by decide),hVq,hVq,hV]),rW_congr (g:=g) (h:=elm W 2 i col (1 / W i col) 2) (fun k hk=>by rw [hgk k hk,elm_top,hVq,hVq]),rW_congr (g:=fun k=>V 3 k - V 3 col * g k) (h:=elm W 2 i col (1 / W i col) 3) (fun k hk=>by rw [hgk k hk,elm_ne _ _ (by decide),hVq,hVq,hV])]; rfl
  have hd : (2 + 1) * 8 ≤ 140737488355328 ∧ 2 + 1 ≤ 1000000000:=by decide
  refine rt (PT.app [1,2,3,4,5] (.br 0 (PT.app [6,7,8,9,10] .nil) 6 (.br 0 (PT.app [7,8,9,10] .nil) 7 (PT.app [0,8,9,10] .nil)))) ?_
  refine ⟨?_,?_,?_⟩ <;> refine ⟨hd,?_⟩ <;> exact fin [7,2,3,1,0,5,6] rfl ⟨rfl,.inr ⟨i,hi,hin,h0,Eq.trans rfl he⟩⟩
theorem q_col4_2 {m col L : Nat} {W : Nat → Nat → Rat} {P : List Nat} (hm : m ≤ 64) (hc : col < m) (hL : L ≤ 900) (hl : ∀ i k,i < 4 → k < m → lr (W i k) ≤ L) :
  Ec Tryz.prog 471 (fun i=>!Nat.beq i 6) (hw4 m W 2 P) [.ref 6 0,ri .i64 col] (fun x H'=>x = .tup [] ∧ ((H' = hw4 m W 2 P ∧ ∀ i,2 ≤ i → i < 4 → W i col = 0) ∨ ∃ i,2 ≤ i ∧ i < 4 ∧ W i col ≠ 0 ∧ H' = hw4 m (elm W 2 i col (1 / W i col)) 3 (P ++ [col]))):=by
 have hl' : ∀ i,i < 4 → lr (W i col) ≤ 100000:=fun i hi=>by have:=hl i col hi hc; omega
 refine ec Tryz.func471 ?_
 refine ⟨(by decide : (0 : Int) ≤ 2 ∧ (2 : Int) < 4 ∧ (4 : Int) ≤ 4),?_⟩
 refine cxg [7,1,2,3,4,5,6,0] 6 [1,2,3,4] (q_idx4_2 (W:=W) hm hc hl') rfl rfl rfl rfl ?_
 rintro x _ ⟨rfl,hx⟩
 refine ⟨.inl rfl,?_⟩
 rcases hx with ⟨rfl,h0⟩ | ⟨i,hi,rfl,h0⟩
 ·refine ift rfl rfl ?_
  exact fin [7,1,2,3,4,5,6] rfl ⟨rfl,.inl ⟨rfl,h0⟩⟩
 ·have hi : i = 0 ∨ i = 1:=by omega
  rcases hi with rfl | rfl
  ·refine iff_ rfl rfl ?_
   refine rqa [0,1,2,3,4,5,6,7,8,9,10,11,12,13,14,15,16,17,18,19,20,21,22,23,24,25,26,27,28,29,30,31] [(9,[5],some []),(10,[5],some []),(11,[5],some []),(29,[],some [5])] ?_
   refine ⟨(by decide : (0 : Int) ≤ IntKind.i64.wrap ((2 : Int) + 0) ∧ IntKind.i64.wrap ((2 : Int) + 0) < 4),?_⟩
   refine ga ?_
   refine ⟨(by decide : (0 : Int) ≤ 2 ∧ (2 : Int) < 4),?_⟩
   refine ga ?_
   refine ⟨(by decide : (0 : Int) ≤ 2 ∧ (2 : Int) < 4),?_⟩
   refine ⟨(by decide : 2 + 1 ≤ 4),?_⟩
   refine ⟨(by decide : (0 : Int) ≤ IntKind.i64.wrap ((2 : Int) + 0) ∧ IntKind.i64.wrap ((2 : Int) + 0) < 4),?_⟩
   refine ⟨(by decide : 2 + 1 ≤ 4),?_⟩
   refine ⟨(by decide : (0 : Int) ≤ 2 ∧ (2 : Int) < 4),?_⟩
   refine ga ?_
   have hb:=hl 2 col (by decide) hc
   have hq:=r_Quo (a:=1) (b:=W 2 col) h0 (Nat.le_trans lr_one (by decide)) (by omega)
   refine rta (PT.app [1,2,3,4] (.br 0 (.br 5 (PT.app [6,7,8,9,10,11] .nil) 9 (PT.app [5,6,7,8,10,11] .nil)) 9 (PT.app [0,5,6,7,8,10,11] .nil))) [(8,[8],some []),(10,[],some [8])] ?_
   refine ⟨⟨by omega,by omega⟩,?_⟩
   refine gq col hc (by rw [Int.toNat_natCast]) ?_
   refine ⟨?_,?_⟩
   ·refine ce c_one rfl ?_
    refine ⟨?_,?_⟩
    ·refine ce hq rfl ?_
     refine lgc [0,1,2,3,4,5,6,7,8] rfl ?_
     refine meetL [(0,.ref 6 0),(3,.ref 0 0),(4,ri .i64 2),(6,.own 3),(7,.ref 8 0),(74,ri .i64 m),(75,ri .i64 0)] (tsr rfl) (h:=[bC col,RW m ((swp W 2 2) 0),RW m ((swp W 2 2) 1),RW m (swp W 2 2 2),RW m ((swp W 2 2) 3),.rowa 38 1 4 [.own 1,.own 2,.own 3,.own 4],.box 391 [.own 5,ri .i64 m,.own 7],PV 2 P,.box 49 ((qc (1 / (swp W 2 2) 2 col)).map .im)]) rfl ?_
     exact q_ct4_2 hm hc hL hl (i:=2) (by decide) (by decide) h0 _
    ·refine ce hq rfl ?_
     refine lgc [0,1,2,3,4,5,6,7,8] rfl ?_
     refine meetL [(0,.ref 6 0),(3,.ref 0 0),(4,ri .i64 2),(6,.own 3),(7,.ref 8 0),(74,ri .i64 m),(75,ri .i64 0)] (tsr rfl) (h:=[bC col,RW m ((swp W 2 2) 0),RW m ((swp W 2 2) 1),RW m (swp W 2 2 2),RW m ((swp W 2 2) 3),.rowa 38 1 4 [.own 1,.own 2,.own 3,.own 4],.box 391 [.own 5,ri .i64 m,.own 7],PV 2 P,.box 49 ((qc (1 / (swp W 2 2) 2 col)).map .im)]) rfl ?_
     exact q_ct4_2 hm hc hL hl (i:=2) (by decide) (by decide) h0 _
   ·refine ce c_one rfl ?_
    refine ce hq rfl ?_
    refine lgc [0,1,2,3,4,5,6,7,8] rfl ?_
    refine meetL [(0,.ref 6 0),(3,.ref 0 0),(4,ri .i64 2),(6,.own 3),(7,.ref 8 0),(74,ri .i64 m),(75,ri .i64 0)] (tsr rfl) (h:=[bC col,RW m ((swp W 2 2) 0),RW m ((swp W 2 2) 1),RW m (swp W 2 2 2),RW m ((swp W 2 2) 3),.rowa 38 1 4 [.own 1,.own 2,.own 3,.own 4],.box 391 [.own 5,ri .i64 m,.own 7],PV 2 P,.box 49 ((qc (1 / (swp W 2 2) 2 col)).map .im)]) rfl ?_
    exact q_ct4_2 hm hc hL hl (i:=2) (by decide) (by decide) h0 _
  ·refine iff_ rfl rfl ?_
   refine rqa [0,1,2,3,4,5,6,7,8,9,10,11,12,13,14,15,16,17,18,19,20,21,22,23,24,25,26,27,28,29,30,31] [(9,[5],some []),(10,[5],some []),(11,[5],some []),(29,[],some [5])] ?_
   refine ⟨(by decide : (0 : Int) ≤ IntKind.i64.wrap ((2 : Int) + 1) ∧ IntKind.i64.wrap ((2 : Int) + 1) < 4),?_⟩
   refine ga ?_
   refine ⟨(by decide : (0 : Int) ≤ 2 ∧ (2 : Int) < 4),?_⟩
   refine ga ?_
   refine ⟨(by decide : (0 : Int) ≤ 2 ∧ (2 : Int) < 4),?_⟩
   refine ⟨(by decide : 2 + 1 ≤ 4),?_⟩
   refine ⟨(by decide : (0 : Int) ≤ IntKind.i64.wrap ((2 : Int) + 1) ∧ IntKind.i64.wrap ((2 : Int) + 1) < 4),?_⟩
   refine ⟨(by decide : 3 + 1 ≤ 4),?_⟩
   refine ⟨(by decide : (0 : Int) ≤ 2 ∧ (2 : Int) < 4),?_⟩
   refine ga ?_
   have hb:=hl 3 col (by decide) hc
   have hq:=r_Quo (a:=1) (b:=W 3 col) h0 (Nat.le_trans lr_one (by decide)) (by omega)
   refine rta (PT.app [1,2,3,4] (.br 0 (.br 5 (PT.app [6,7,8,9,10,11] .nil) 9 (PT.app [5,6,7,8,10,11] .nil)) 9 (PT.app [0,5,6,7,8,10,11] .nil))) [(8,[8],some []),(10,[],some [8])] ?_
   refine ⟨⟨by omega,by omega⟩,?_⟩
   refine gq col hc (by rw [Int.toNat_natCast]) ?_
   refine ⟨?_,?_⟩
   ·refine ce c_one rfl ?_
    refine ⟨?_,?_⟩
    ·refine ce hq rfl ?_
     refine lgc [0,1,2,4,3,5,6,7,8] rfl ?_
     refine meetL [(0,.ref 6 0),(3,.ref 0 0),(4,ri .i64 2),(6,.own 3),(7,.ref 8 0),(74,ri .i64 m),(75,ri .i64 0)] (tsr rfl) (h:=[bC col,RW m ((swp W 2 3) 0),RW m ((swp W 2 3) 1),RW m (swp W 2 3 2),RW m ((swp W 2 3) 3),.rowa 38 1 4 [.own 1,.own 2,.own 3,.own 4],.box 391 [.own 5,ri .i64 m,.own 7],PV 2 P,.box 49 ((qc (1 / (swp W 2 3) 2 col)).map .im)]) rfl ?_
     exact q_ct4_2 hm hc hL hl (i:=3) (by decide) (by decide) h0 _
    ·refine ce hq rfl ?_
     refine lgc [0,1,2,4,3,5,6,7,8] rfl ?_
     refine meetL [(0,.ref 6 0),(3,.ref 0 0),(4,ri .i64 2),(6,.own 3),(7,.ref 8 0),(74,ri .i64 m),(75,ri .i64 0)] (tsr rfl) (h:=[bC col,RW m ((swp W 2 3) 0),RW m ((swp W 2 3) 1),RW m (swp W 2 3 2),RW m ((swp W 2 3) 3),.rowa 38 1 4 [.own 1,.own 2,.own 3,.own 4],.box 391 [.own 5,ri .i64 m,.own 7],PV 2 P,.box 49 ((qc (1 / (swp W 2 3) 2 col)).map .im)]) rfl ?_
     exact q_ct4_2 hm hc hL hl (i:=3) (by decide) (by decide) h0 _
   ·refine ce c_one rfl ?_
    refine ce hq rfl ?_
    refine lgc [0,1,2,4,3,5,6,7,8] rfl ?_
    refine meetL [(0,.ref 6 0),(3,.ref 0 0),(4,ri .i64 2),(6,.own 3),(7,.ref 8 0),(74,ri .i64 m),(75,ri .i64 0)] (tsr rfl) (h:=[bC col,RW m ((swp W 2 3) 0),RW m ((swp W 2 3) 1),RW m (swp W 2 3 2),RW m ((swp W 2 3) 3),.rowa 38 1 4 [.own 1,.own 2,.own 3,.own 4],.box 391 [.own 5,ri .i64 m,.own 7],PV 2 P,.box 49 ((qc (1 / (swp W 2 3) 2 col)).map .im)]) rfl ?_
    exact q_ct4_2 hm hc hL hl (i:=3) (by decide) (by decide) h0 _
theorem q_ct4_3 {m col L : Nat} {W : Nat → Nat → Rat} {P : List Nat} (hm : m ≤ 64) (hc : col < m) (hL : L ≤ 900) (hl : ∀ i k,i < 4 → k < m → lr (W i k) ≤ L) {i : Nat} (hi : 3 ≤ i) (hin : i < 4) (h0 : W i col ≠ 0) (t : Nat → AV) :
  vcC Tryz.prog (Tb (fun i=>!Nat.beq i 6)) (dropC 9 (codeOf Tryz.f471)) (mkT [(0,.ref 6 0),(3,.ref 0 0),(4,ri .i64 3),(6,.own 4),(7,.ref 8 0),(74,ri .i64 m),(75,ri .i64 0)] t) [bC col,RW m ((swp W 3 i) 0),RW m ((swp W 3 i) 1),RW m ((swp W 3 i) 2),RW m (swp W 3 i 3),.rowa 38 1 4 [.own 1,.own 2,.own 3,.own 4],.box 391 [.own 5,ri .i64 m,.own 7],PV 3 P,.box 49 ((qc (1 / (swp W 3 i) 3 col)).map .im)]
   (RetK (Tb (fun i=>!Nat.beq i 6)) [] (EndE (fun i=>!Nat.beq i 6) (fun x H'=>x = .tup [] ∧ ((H' = hw4 m W 3 P ∧ ∀ i,3 ≤ i → i < 4 → W i col = 0) ∨ ∃ i,3 ≤ i ∧ i < 4 ∧ W i col ≠ 0 ∧ H' = hw4 m (elm W 3 i col (1 / W i col)) 4 (P ++ [col]))))):=by
 obtain ⟨V,hV⟩ : ∃ V,V = swp W 3 i:=⟨_,rfl⟩
 have hVl : ∀ r k,r < 4 → k < m → lr (V r k) ≤ L:=fun r k hr hk=>by rw [hV]; unfold swp; (repeat' split) <;> first | exact hl i k hin hk | exact hl 3 k (by decide) hk | exact hl r k hr hk
 have hVq : ∀ k,V 3 k = W i k:=fun k=>by rw [hV]; unfold swp; rw [if_pos rfl]
 have hVn : V 3 col ≠ 0:=by rw [hVq]; exact h0
 have hcl : lr (1 / V 3 col) ≤ L:=Nat.le_trans (lr_inv _ hVn) (hVl 3 col (by decide) hc)
 rw [← hV]
 refine lpt (fun j : Nat=>j ≤ m) (fun j=>[(0,.ref 6 0),(3,.ref 0 0),(4,ri .i64 3),(6,.own 4),(7,.ref 8 0),(74,ri .i64 m),(75,ri .i64 j)]) (fun j=>[bC col,RW m (V 0),RW m (V 1),RW m (V 2),RW m (mix j (fun k=>V 3 k * (1 / V 3 col)) (V 3)),.rowa 38 1 4 [.own 1,.own 2,.own 3,.own 4],.box 391 [.own 5,ri .i64 m,.own 7],PV 3 P,.box 49 ((qc (1 / V 3 col)).map .im)]) (fun j=>m - j) 0 (Nat.zero_le _) (tsr rfl) (by rw [mix_zero] <;> rfl) ?_
 intro j t hj
 refine ifs rfl (fun hlt=>?_) (fun hge=>?_)
 ·have hlt:=of_decide_eq_true hlt
  have hjm : j < m:=by omega
  have l1:=hVl 3 j (by decide) hjm
  refine rq [0,1,2,3,4,5,6,7,8,9] ?_
  refine ⟨⟨by omega,by omega⟩,?_⟩
  refine gq j hjm (by rw [Int.toNat_natCast]) ?_
  rw [mix_at]
  refine ce (r_Mul (a:=V 3 j) (b:=1 / V 3 col) (by omega) (by omega)) rfl ?_
  refine ⟨⟨by omega,by omega⟩,?_⟩
  refine ⟨by rw [rC_len]; show (j : Int).toNat * 4 + 4 ≤ _; omega,?_⟩
  refine nxg [0,1,2,3,4,5,6,7,8] (j + 1) (by omega) rfl ⟨by omega,⟨rfl,rfl,rfl,rfl,rfl,rfl,congrArg (ri .i64) (i64s (by omega)).symm,trivial⟩,?_⟩
  have e : putAt (rC m (mix j (fun k=>V 3 k * (1 / V 3 col)) (V 3))) (j * 4) (qc (V 3 j * (1 / V 3 col))) = rC m (mix (j + 1) (fun k=>V 3 k * (1 / V 3 col)) (V 3)):=by
   rw [rC_put _ hjm]; exact congrArg _ (mix_succ j (fun k=>V 3 k * (1 / V 3 col)) (V 3))
  exact congrArg (fun l=>[bC col,RW m (V 0),RW m (V 1),RW m (V 2),.row 49 4 m l,.rowa 38 1 4 [.own 1,.own 2,.own 3,.own 4],.box 391 [.own 5,ri .i64 m,.own 7],PV 3 P,.box 49 ((qc (1 / V 3 col)).map .im)]) e
 ·have hge:=of_decide_eq_false hge
  obtain rfl : j = m:=by omega
  refine lpn 5 ?_
  obtain ⟨g,hg⟩ : ∃ g,g = mix j (fun k=>V 3 k * (1 / V 3 col)) (V 3):=⟨_,rfl⟩
  have hgk : ∀ k,k < j → g k = V 3 k * (1 / V 3 col):=fun k hk=>by rw [hg]; exact if_pos hk
  have hgl : ∀ k,k < j → lr (g k) ≤ 9000:=fun k hk=>by rw [hgk k hk]; have l1:=hVl 3 k (by decide) hk; have:=lr_mul (V 3 k) (1 / V 3 col); omega
  have hvl : ∀ r k,r < 4 → k < j → lr (V r k) ≤ 9000:=fun r k hr hk=>by have:=hVl r k hr hk; omega
  rw [← hg]
  refine ift rfl rfl ?_
  refine ⟨by decide,?_⟩
  refine ga ?_
  refine ift rfl rfl ?_
  refine ⟨⟨by omega,by omega⟩,?_⟩
  refine gq col hc (by rw [Int.toNat_natCast]) ?_
  refine cxg [1,4,2,3,0,5,6,7,8] 2 [] (q_take (g:=V 0) (h:=g) (f:=V 0 col) hm (fun k hk=>hvl 0 k (by decide) hk) hgl (hvl 0 col (by decide) hc)) rfl rfl rfl rfl ?_
  rintro _ _ ⟨rfl,rfl⟩
  refine ⟨.inl rfl,?_⟩
  refine ift rfl rfl ?_
  refine ⟨by decide,?_⟩
  refine ga ?_
  refine ift rfl rfl ?_
  refine ⟨⟨by omega,by omega⟩,?_⟩
  refine gq col hc (by rw [Int.toNat_natCast]) ?_
  refine cxg [2,1,0,3,4,5,6,7,8] 2 [] (q_take (g:=V 1) (h:=g) (f:=V 1 col) hm (fun k hk=>hvl 1 k (by decide) hk) hgl (hvl 1 col (by decide) hc)) rfl rfl rfl rfl ?_
  rintro _ _ ⟨rfl,rfl⟩
  refine ⟨.inl rfl,?_⟩
  refine ift rfl rfl ?_
  refine ⟨by decide,?_⟩
  refine ga ?_
  refine ift rfl rfl ?_
  refine ⟨⟨by omega,by omega⟩,?_⟩
  refine gq col hc (by rw [Int.toNat_natCast]) ?_
  refine cxg [3,1,2,0,4,5,6,7,8] 2 [] (q_take (g:=V 2) (h:=g) (f:=V 2 col) hm (fun k hk=>hvl 2 k (by decide) hk) hgl (hvl 2 col (by decide) hc)) rfl rfl rfl rfl ?_
  rintro _ _ ⟨rfl,rfl⟩
  refine ⟨.inl rfl,?_⟩
  refine ift rfl rfl ?_
  refine ⟨by decide,?_⟩
  refine ga ?_
  refine iff_ rfl rfl ?_
  refine iff_ rfl rfl ?_
  have he : [.row 3 1 4 (pvs P ++ [.raw (.int .i64 (col : Int))]),RW j (fun k=>V 0 k - V 0 col * g k),RW j (fun k=>V 1 k - V 1 col * g k),RW j (fun k=>V 2 k - V 2 col * g k),RW j g,.rowa 38 1 4 [.own 1,.own 2,.own 3,.own 4],.box 391 [.own 5,ri .i64 j,.own 0]] = hw4 j (elm W 3 i col (1 / W i col)) 4 (P ++ [col]):=by
   rw [pvs_app,rW_congr (g:=fun k=>V 0 k - V 0 col * g k) (h:=elm W 3 i col (1 / W i col) 0) (fun k hk=>by rw [hgk k hk,elm_ne _ _ (by decide),hVq,hVq,hV]),rW_congr (g:=fun k=>V 1 k - V 1 col * g k) (h:=elm W 3 i col (1 / W i col) 1) (fun k hk=>by rw [hgk k hk,elm_ne _ _ (by decide),hVq,hVq,hV]),rW_congr (g:=fun k=>V 2 k - V 2 col * g k) (h:=elm W 3 i col (1 / W i col) 2) (fun k hk=>by rw [hgk k hk,elm_ne _ _ (by decide),hVq,hVq,hV]),rW_congr (g:=g) (h:=elm W 3 i col (1 / W i col) 3) (fun k hk=>by rw [hgk k hk,elm_top,hVq,hVq])]; rfl
  have hd : (3 + 1) * 8 ≤ 140737488355328 ∧ 3 + 1 ≤ 1000000000:=by decide
  refine rt (PT.app [1,2,3,4,5] (.br 0 (PT.app [6,7,8,9,10] .nil) 6 (.br 0 (PT.app [7,8,9,10] .nil) 7 (PT.app [0,8,9,10] .nil)))) ?_
  refine ⟨?_,?_,?_⟩ <;> refine ⟨hd,?_⟩ <;> exact fin [7,2,3,0,1,5,6] rfl ⟨rfl,.inr ⟨i,hi,hin,h0,Eq.trans rfl he⟩⟩
theorem q_col4_3 {m col L : Nat} {W : Nat → Nat → Rat} {P : List Nat} (hm : m ≤ 64) (hc : col < m) (hL : L ≤ 900) (hl : ∀ i k,i < 4 → k < m → lr (W i k) ≤ L) :
  Ec Tryz.prog 471 (fun i=>!Nat.beq i 6) (hw4 m W 3 P) [.ref 6 0,ri .i64 col] (fun x H'=>x = .tup [] ∧ ((H' = hw4 m W 3 P ∧ ∀ i,3 ≤ i → i < 4 → W i col = 0) ∨ ∃ i,3 ≤ i ∧ i < 4 ∧ W i col ≠ 0 ∧ H' = hw4 m (elm W 3 i col (1 / W i col)) 4 (P ++ [col]))):=by
 have hl' : ∀ i,i < 4 → lr (W i col) ≤ 100000:=fun i hi=>by have:=hl i col hi hc; omega
 refine ec Tryz.func471 ?_
 refine ⟨(by decide : (0 : Int) ≤ 3 ∧ (3 : Int) < 4 ∧ (4 : Int) ≤ 4),?_⟩
 refine cxg [7,1,2,3,4,5,6,0] 6 [1,2,3,4] (q_idx4_3 (W:=W) hm hc hl') rfl rfl rfl rfl ?_
 rintro x _ ⟨rfl,hx⟩
 refine ⟨.inl rfl,?_⟩
 rcases hx with ⟨rfl,h0⟩ | ⟨i,hi,rfl,h0⟩
 ·refine ift rfl rfl ?_
  exact fin [7,1,2,3,4,5,6] rfl ⟨rfl,.inl ⟨rfl,h0⟩⟩
 ·have hi : i = 0:=by omega
  rcases hi with rfl
  ·refine iff_ rfl rfl ?_
   refine rqa [0,1,2,3,4,5,6,7,8,9,10,11,12,13,14,15,16,17,18,19,20,21,22,23,24,25,26,27,28,29,30,31] [(9,[5],some []),(10,[5],some []),(11,[5],some []),(29,[],some [5])] ?_
   refine ⟨(by decide : (0 : Int) ≤ IntKind.i64.wrap ((3 : Int) + 0) ∧ IntKind.i64.wrap ((3 : Int) + 0) < 4),?_⟩
   refine ga ?_
   refine ⟨(by decide : (0 : Int) ≤ 3 ∧ (3 : Int) < 4),?_⟩
   refine ga ?_
   refine ⟨(by decide : (0 : Int) ≤ 3 ∧ (3 : Int) < 4),?_⟩
   refine ⟨(by decide : 3 + 1 ≤ 4),?_⟩
   refine ⟨(by decide : (0 : Int) ≤ IntKind.i64.wrap ((3 : Int) + 0) ∧ IntKind.i64.wrap ((3 : Int) + 0) < 4),?_⟩
   refine ⟨(by decide : 3 + 1 ≤ 4),?_⟩
   refine ⟨(by decide : (0 : Int) ≤ 3 ∧ (3 : Int) < 4),?_⟩
   refine ga ?_
   have hb:=hl 3 col (by decide) hc
   have hq:=r_Quo (a:=1) (b:=W 3 col) h0 (Nat.le_trans lr_one (by decide)) (by omega)
   refine rta (PT.app [1,2,3,4] (.br 0 (.br 5 (PT.app [6,7,8,9,10,11] .nil) 9 (PT.app [5,6,7,8,10,11] .nil)) 9 (PT.app [0,5,6,7,8,10,11] .nil))) [(8,[8],some []),(10,[],some [8])] ?_
   refine ⟨⟨by omega,by omega⟩,?_⟩
   refine gq col hc (by rw [Int.toNat_natCast]) ?_
   refine ⟨?_,?_⟩
   ·refine ce c_one rfl ?_
    refine ⟨?_,?_⟩
    ·refine ce hq rfl ?_
     refine lgc [0,1,2,3,4,5,6,7,8] rfl ?_
     refine meetL [(0,.ref 6 0),(3,.ref 0 0),(4,ri .i64 3),(6,.own 4),(7,.ref 8 0),(74,ri .i64 m),(75,ri .i64 0)] (tsr rfl) (h:=[bC col,RW m ((swp W 3 3) 0),RW m ((swp W 3 3) 1),RW m ((swp W 3 3) 2),RW m (swp W 3 3 3),.rowa 38 1 4 [.own 1,.own 2,.own 3,.own 4],.box 391 [.own 5,ri .i64 m,.own 7],PV 3 P,.box 49 ((qc (1 / (swp W 3 3) 3 col)).map .im)]) rfl ?_
     exact q_ct4_3 hm hc hL hl (i:=3) (by decide) (by decide) h0 _
    ·refine ce hq rfl ?_
     refine lgc [0,1,2,3,4,5,6,7,8] rfl ?_
     refine meetL [(0,.ref 6 0),(3,.ref 0 0),(4,ri .i64 3),(6,.own 4),(7,.ref 8 0),(74,ri .i64 m),(75,ri .i64 0)] (tsr rfl) (h:=[bC col,RW m ((swp W 3 3) 0),RW m ((swp W 3 3) 1),RW m ((swp W 3 3) 2),RW m (swp W 3 3 3),.rowa 38 1 4 [.own 1,.own 2,.own 3,.own 4],.box 391 [.own 5,ri .i64 m,.own 7],PV 3 P,.box 49 ((qc (1 / (swp W 3 3) 3 col)).map .im)]) rfl ?_
     exact q_ct4_3 hm hc hL hl (i:=3) (by decide) (by decide) h0 _
   ·refine ce c_one rfl ?_
    refine ce hq rfl ?_
    refine lgc [0,1,2,3,4,5,6,7,8] rfl ?_
    refine meetL [(0,.ref 6 0),(3,.ref 0 0),(4,ri .i64 3),(6,.own 4),(7,.ref 8 0),(74,ri .i64 m),(75,ri .i64 0)] (tsr rfl) (h:=[bC col,RW m ((swp W 3 3) 0),RW m ((swp W 3 3) 1),RW m ((swp W 3 3) 2),RW m (swp W 3 3 3),.rowa 38 1 4 [.own 1,.own 2,.own 3,.own 4],.box 391 [.own 5,ri .i64 m,.own 7],PV 3 P,.box 49 ((qc (1 / (swp W 3 3) 3 col)).map .im)]) rfl ?_
    exact q_ct4_3 hm hc hL hl (i:=3) (by decide) (by decide) h0 _
theorem rC_succ (k : Nat) (g : Nat → Rat) : rC (k + 1) g = rC k g ++ qc (g k):=by
 unfold rC; rw [List.range_succ,List.map_append,List.flatten_append]; simp
def LL : Nat → Nat
 | 0=>3
 | k + 1=>4 * LL k + 1
theorem LL_le : ∀ {k : Nat},k < 4 → LL k ≤ 213:=by decide
noncomputable def qN (r : Nat) : IV:=.agg [.raw (.int .i64 (r : Int)),.raw (.int .i64 0),.raw (.slice none 0 0)]
noncomputable def qMA (r c : Nat) (A : Nat → Nat → Rat) : AV:=.agg [ri .i64 r,ri .i64 c,.im (.sl ((tq c A (r * c)).map qc).length 4 ((tq c A (r * c)).map qc).flatten)]
def qNA (r : Nat) : AV:=.agg [ri .i64 r,ri .i64 0,nilA]
theorem elm_lb {n m L q i col : Nat} {W : Nat → Nat → Rat} (hq : q < n) (hi : i < n) (hc : col < m) (h0 : W i col ≠ 0) (hl : LB L n m W) : LB (4 * L + 1) n m (elm W q i col (1 / W i col)):=by
 intro r k hr hk
 have l1:=hl i k hi hk
 have l2 : lr (1 / W i col) ≤ L:=Nat.le_trans (lr_inv _ h0) (hl i col hi hc)
 have l3:=lr_mul (W i k) (1 / W i col)
 have hs : ∀ k,k < m → lr (swp W q i r k) ≤ L:=fun k hk=>by
  unfold swp; (repeat' split) <;> first | exact hl i k hi hk | exact hl q k hq hk | exact hl r k hr hk
 by_cases e : r = q
 ·subst e; rw [elm_top]; exact Nat.le_trans l3 (by omega)
 ·rw [elm_ne _ _ e]
  have l4:=hs k hk; have l5:=hs col hc
  have l6:=lr_mul (swp W q i r col) (W i k * (1 / W i col))
  refine Nat.le_trans (lr_sub (swp W q i r k) (swp W q i r col * (W i k * (1 / W i col)))) ?_
  omega
theorem mul_inv1 {a : Rat} (h : a ≠ 0) : a * (1 / a) = 1:=by rw [Rat.div_def,Rat.one_mul,Rat.mul_inv_cancel a h]
def RedR (n m : Nat) (A : Nat → Nat → Rat) (W : Nat → Nat → Rat) (P : List Nat) : Prop:=∃ col,RedI n m col A W P ∧ col ≤ m ∧ (P.length = n ∨ col = m) ∧ LB 900 n m W
theorem q_begun1 {m : Nat} {A : Nat → Nat → Rat} (hm : m ≤ 64) (ha : LB 10000 1 m A) :
  Ec Tryz.prog 470 (own 0) [] [qMA 1 m A,qNA 1] (Is (.ref 2 0) [RW m (A 0),.rowa 38 1 1 [.own 0],.box 391 [.own 1,ri .i64 m,nilA]]):=by
 refine ec Tryz.func470 ?_
 refine lpn 2 ?_
 refine ift rfl rfl ?_
 refine lfv 7 49 4 rfl ?_
 refine lgc [0,1,2,3] rfl ?_
 refine lpt (fun k : Nat=>k ≤ m) (fun k=>[(2,.ref 0 0),(3,.ref 1 0),(5,.ref 2 0),(6,ri .i64 0),(7,.own 3),(15,ri .i64 1),(16,ri .i64 0),(20,ri .i64 m),(21,ri .i64 k)])
  (fun k=>[.box 40 [ri .i64 1,ri .i64 m,.im (.sl ((tq m A (1 * m)).map qc).length 4 ((tq m A (1 * m)).map qc).flatten)],.box 40 [ri .i64 1,ri .i64 0,nilA],.box 391 [nilA,ri .i64 m,nilA],.row 49 4 k (rC k (A 0))]) (fun k=>m - k) 0 (Nat.zero_le _) (tsr rfl) rfl ?_
 intro k t hk
 refine ifs rfl (fun hlt=>?_) (fun hge=>?_)
 ·have hlt:=of_decide_eq_true hlt
  have hkm : k < m:=by omega
  refine ce (q_At (r:=1) (A:=A) (i:=0) (by decide) hm ha (by decide) hkm) rfl ?_
  refine ⟨⟨?_,?_⟩,?_⟩
  ·show (k + 1) * 64 ≤ _; omega
  ·show k + 1 ≤ _; omega
  refine nxg [0,1,2,3] (k + 1) (by omega) rfl ⟨by omega,⟨rfl,rfl,rfl,rfl,rfl,rfl,rfl,rfl,congrArg (ri .i64) (i64s (by omega)).symm,trivial⟩,?_⟩
  exact congrArg (fun l=>([.box 40 [ri .i64 1,ri .i64 m,.im (.sl ((tq m A (1 * m)).map qc).length 4 ((tq m A (1 * m)).map qc).flatten)],.box 40 [ri .i64 1,ri .i64 0,nilA],.box 391 [nilA,ri .i64 m,nilA],.row 49 4 (k + 1) l] : List AO)) (rC_succ k (A 0)).symm
 have hge:=of_decide_eq_false hge
 obtain rfl : m = k:=by omega
 refine lpn 1 ?_
 refine iff_ rfl rfl ?_
 refine ⟨(by decide : 1 * 24 ≤ 140737488355328 ∧ 1 ≤ 1000000000),?_⟩
 refine iff_ rfl rfl ?_
 exact fin [3,5,2] rfl ⟨rfl,rfl⟩
theorem q_begun2 {m : Nat} {A : Nat → Nat → Rat} (hm : m ≤ 64) (ha : LB 10000 2 m A) :
  Ec Tryz.prog 470 (own 0) [] [qMA 2 m A,qNA 2] (Is (.ref 3 0) [RW m (A 0),RW m (A 1),.rowa 38 1 2 [.own 0,.own 1],.box 391 [.own 2,ri .i64 m,nilA]]):=by
 refine ec Tryz.func470 ?_
 refine lpn 3 ?_
 refine ift rfl rfl ?_
 refine lfv 7 49 4 rfl ?_
 refine lgc [0,1,2,3] rfl ?_
 refine lpt (fun k : Nat=>k ≤ m) (fun k=>[(2,.ref 0 0),(3,.ref 1 0),(5,.ref 2 0),(6,ri .i64 0),(7,.own 3),(15,ri .i64 2),(16,ri .i64 0),(20,ri .i64 m),(21,ri .i64 k)])
  (fun k=>[.box 40 [ri .i64 2,ri .i64 m,.im (.sl ((tq m A (2 * m)).map qc).length 4 ((tq m A (2 * m)).map qc).flatten)],.box 40 [ri .i64 2,ri .i64 0,nilA],.box 391 [nilA,ri .i64 m,nilA],.row 49 4 k (rC k (A 0))]) (fun k=>m - k) 0 (Nat.zero_le _) (tsr rfl) rfl ?_
 intro k t hk
 refine ifs rfl (fun hlt=>?_) (fun hge=>?_)
 ·have hlt:=of_decide_eq_true hlt
  have hkm : k < m:=by omega
  refine ce (q_At (r:=2) (A:=A) (i:=0) (by decide) hm ha (by decide) hkm) rfl ?_
  refine ⟨⟨?_,?_⟩,?_⟩
  ·show (k + 1) * 64 ≤ _; omega
  ·show k + 1 ≤ _; omega
  refine nxg [0,1,2,3] (k + 1) (by omega) rfl ⟨by omega,⟨rfl,rfl,rfl,rfl,rfl,rfl,rfl,rfl,congrArg (ri .i64) (i64s (by omega)).symm,trivial⟩,?_⟩
  exact congrArg (fun l=>([.box 40 [ri .i64 2,ri .i64 m,.im (.sl ((tq m A (2 * m)).map qc).length 4 ((tq m A (2 * m)).map qc).flatten)],.box 40 [ri .i64 2,ri .i64 0,nilA],.box 391 [nilA,ri .i64 m,nilA],.row 49 4 (k + 1) l] : List AO)) (rC_succ k (A 0)).symm
 have hge:=of_decide_eq_false hge
 obtain rfl : m = k:=by omega
 refine lpn 1 ?_
 refine iff_ rfl rfl ?_
 refine ⟨(by decide : 1 * 24 ≤ 140737488355328 ∧ 1 ≤ 1000000000),?_⟩
 clear hk hge
 refine ift rfl rfl ?_
 refine lfv 7 49 4 rfl ?_
 refine lgc [0,1,2,3,5,6] rfl ?_
 refine lpt (fun k : Nat=>k ≤ m) (fun k=>[(2,.ref 0 0),(3,.ref 1 0),(5,.ref 2 0),(6,ri .i64 1),(7,.own 5),(15,ri .i64 2),(16,ri .i64 1),(20,ri .i64 m),(21,ri .i64 k)])
  (fun k=>[.box 40 [ri .i64 2,ri .i64 m,.im (.sl ((tq m A (2 * m)).map qc).length 4 ((tq m A (2 * m)).map qc).flatten)],.box 40 [ri .i64 2,ri .i64 0,nilA],.box 391 [.own 4,ri .i64 m,nilA],RW m (A 0),.rowa 38 1 1 [.own 3],.row 49 4 k (rC k (A 1))]) (fun k=>m - k) 0 (Nat.zero_le _) (tsr rfl) rfl ?_
 intro k t hk
 refine ifs rfl (fun hlt=>?_) (fun hge=>?_)
 ·have hlt:=of_decide_eq_true hlt
  have hkm : k < m:=by omega
  refine ce (q_At (r:=2) (A:=A) (i:=1) (by decide) hm ha (by decide) hkm) rfl ?_
  refine ⟨⟨?_,?_⟩,?_⟩
  ·show (k + 1) * 64 ≤ _; omega
  ·show k + 1 ≤ _; omega
  refine nxg [0,1,2,3,4,5] (k + 1) (by omega) rfl ⟨by omega,⟨rfl,rfl,rfl,rfl,rfl,rfl,rfl,rfl,congrArg (ri .i64) (i64s (by omega)).symm,trivial⟩,?_⟩
  exact congrArg (fun l=>([.box 40 [ri .i64 2,ri .i64 m,.im (.sl ((tq m A (2 * m)).map qc).length 4 ((tq m A (2 * m)).map qc).flatten)],.box 40 [ri .i64 2,ri .i64 0,nilA],.box 391 [.own 4,ri .i64 m,nilA],RW m (A 0),.rowa 38 1 1 [.own 3],.row 49 4 (k + 1) l] : List AO)) (rC_succ k (A 1)).symm
 have hge:=of_decide_eq_false hge
 obtain rfl : m = k:=by omega
 refine lpn 1 ?_
 refine iff_ rfl rfl ?_
 refine ⟨(by decide : (1 + 1) * 24 ≤ 140737488355328 ∧ 1 + 1 ≤ 1000000000),?_⟩
 refine iff_ rfl rfl ?_
 exact fin [3,5,4,2] rfl ⟨rfl,rfl⟩
theorem q_begun3 {m : Nat} {A : Nat → Nat → Rat} (hm : m ≤ 64) (ha : LB 10000 3 m A) :
  Ec Tryz.prog 470 (own 0) [] [qMA 3 m A,qNA 3] (Is (.ref 4 0) [RW m (A 0),RW m (A 1),RW m (A 2),.rowa 38 1 3 [.own 0,.own 1,.own 2],.box 391 [.own 3,ri .i64 m,nilA]]):=by
 refine ec Tryz.func470 ?_
 refine lpn 4 ?_
 refine ift rfl rfl ?_
 refine lfv 7 49 4 rfl ?_
 refine lgc [0,1,2,3] rfl ?_
 refine lpt (fun k : Nat=>k ≤ m) (fun k=>[(2,.ref 0 0),(3,.ref 1 0),(5,.ref 2 0),(6,ri .i64 0),(7,.own 3),(15,ri .i64 3),(16,ri .i64 0),(20,ri .i64 m),(21,ri .i64 k)])
  (fun k=>[.box 40 [ri .i64 3,ri .i64 m,.im (.sl ((tq m A (3 * m)).map qc).length 4 ((tq m A (3 * m)).map qc).flatten)],.box 40 [ri .i64 3,ri .i64 0,nilA],.box 391 [nilA,ri .i64 m,nilA],.row 49 4 k (rC k (A 0))]) (fun k=>m - k) 0 (Nat.zero_le _) (tsr rfl) rfl ?_
 intro k t hk
 refine ifs rfl (fun hlt=>?_) (fun hge=>?_)
 ·have hlt:=of_decide_eq_true hlt
  have hkm : k < m:=by omega
  refine ce (q_At (r:=3) (A:=A) (i:=0) (by decide) hm ha (by decide) hkm) rfl ?_
  refine ⟨⟨?_,?_⟩,?_⟩
  ·show (k + 1) * 64 ≤ _; omega
  ·show k + 1 ≤ _; omega
  refine nxg [0,1,2,3] (k + 1) (by omega) rfl ⟨by omega,⟨rfl,rfl,rfl,rfl,rfl,rfl,rfl,rfl,congrArg (ri .i64) (i64s (by omega)).symm,trivial⟩,?_⟩
  exact congrArg (fun l=>([.box 40 [ri .i64 3,ri .i64 m,.im (.sl ((tq m A (3 * m)).map qc).length 4 ((tq m A (3 * m)).map qc).flatten)],.box 40 [ri .i64 3,ri .i64 0,nilA],.box 391 [nilA,ri .i64 m,nilA],.row 49 4 (k + 1) l] : List AO)) (rC_succ k (A 0)).symm
 have hge:=of_decide_eq_false hge
 obtain rfl : m = k:=by omega
 refine lpn 1 ?_
 refine iff_ rfl rfl ?_
 refine ⟨(by decide : 1 * 24 ≤ 140737488355328 ∧ 1 ≤ 1000000000),?_⟩
 clear hk hge
 refine ift rfl rfl ?_
 refine lfv 7 49 4 rfl ?_
 refine lgc [0,1,2,3,5,6] rfl ?_
 refine lpt (fun k : Nat=>k ≤ m) (fun k=>[(2,.ref 0 0),(3,.ref 1 0),(5,.ref 2 0),(6,ri .i64 1),(7,.own 5),(15,ri .i64 3),(16,ri .i64 1),(20,ri .i64 m),(21,ri .i64 k)])
  (fun k=>[.box 40 [ri .i64 3,ri .i64 m,.im (.sl ((tq m A (3 * m)).map qc).length 4 ((tq m A (3 * m)).map qc).flatten)],.box 40 [ri .i64 3,ri .i64 0,nilA],.box 391 [.own 4,ri .i64 m,nilA],RW m (A 0),.rowa 38 1 1 [.own 3],.row 49 4 k (rC k (A 1))]) (fun k=>m - k) 0 (Nat.zero_le _) (tsr rfl) rfl ?_
 intro k t hk
 refine ifs rfl (fun hlt=>?_) (fun hge=>?_)
 ·have hlt:=of_decide_eq_true hlt
  have hkm : k < m:=by omega
  refine ce (q_At (r:=3) (A:=A) (i:=1) (by decide) hm ha (by decide) hkm) rfl ?_
  refine ⟨⟨?_,?_⟩,?_⟩
  ·show (k + 1) * 64 ≤ _; omega
  ·show k + 1 ≤ _; omega
  refine nxg [0,1,2,3,4,5] (k + 1) (by omega) rfl ⟨by omega,⟨rfl,rfl,rfl,rfl,rfl,rfl,rfl,rfl,congrArg (ri .i64) (i64s (by omega)).symm,trivial⟩,?_⟩
  exact congrArg (fun l=>([.box 40 [ri .i64 3,ri .i64 m,.im (.sl ((tq m A (3 * m)).map qc).length 4 ((tq m A (3 * m)).map qc).flatten)],.box 40 [ri .i64 3,ri .i64 0,nilA],.box 391 [.own 4,ri .i64 m,nilA],RW m (A 0),.rowa 38 1 1 [.own 3],.row 49 4 (k + 1) l] : List AO)) (rC_succ k (A 1)).symm
 have hge:=of_decide_eq_false hge
 obtain rfl : m = k:=by omega
 refine lpn 1 ?_
 refine iff_ rfl rfl ?_
 refine ⟨(by decide : (1 + 1) * 24 ≤ 140737488355328 ∧ 1 + 1 ≤ 1000000000),?_⟩
 clear hk hge
 refine ift rfl rfl ?_
 refine lfv 7 49 4 rfl ?_
 refine lgc [0,1,2,3,5,4,7] rfl ?_
 refine lpt (fun k : Nat=>k ≤ m) (fun k=>[(2,.ref 0 0),(3,.ref 1 0),(5,.ref 2 0),(6,ri .i64 2),(7,.own 6),(15,ri .i64 3),(16,ri .i64 2),(20,ri .i64 m),(21,ri .i64 k)])
  (fun k=>[.box 40 [ri .i64 3,ri .i64 m,.im (.sl ((tq m A (3 * m)).map qc).length 4 ((tq m A (3 * m)).map qc).flatten)],.box 40 [ri .i64 3,ri .i64 0,nilA],.box 391 [.own 5,ri .i64 m,nilA],RW m (A 0),RW m (A 1),.rowa 38 1 2 [.own 3,.own 4],.row 49 4 k (rC k (A 2))]) (fun k=>m - k) 0 (Nat.zero_le _) (tsr rfl) rfl ?_
 intro k t hk
 refine ifs rfl (fun hlt=>?_) (fun hge=>?_)
 ·have hlt:=of_decide_eq_true hlt
  have hkm : k < m:=by omega
  refine ce (q_At (r:=3) (A:=A) (i:=2) (by decide) hm ha (by decide) hkm) rfl ?_
  refine ⟨⟨?_,?_⟩,?_⟩
  ·show (k + 1) * 64 ≤ _; omega
  ·show k + 1 ≤ _; omega
  refine nxg [0,1,2,3,4,5,6] (k + 1) (by omega) rfl ⟨by omega,⟨rfl,rfl,rfl,rfl,rfl,rfl,rfl,rfl,congrArg (ri .i64) (i64s (by omega)).symm,trivial⟩,?_⟩
  exact congrArg (fun l=>([.box 40 [ri .i64 3,ri .i64 m,.im (.sl ((tq m A (3 * m)).map qc).length 4 ((tq m A (3 * m)).map qc).flatten)],.box 40 [ri .i64 3,ri .i64 0,nilA],.box 391 [.own 5,ri .i64 m,nilA],RW m (A 0),RW m (A 1),.rowa 38 1 2 [.own 3,.own 4],.row 49 4 (k + 1) l] : List AO)) (rC_succ k (A 2)).symm
 have hge:=of_decide_eq_false hge
 obtain rfl : m = k:=by omega
 refine lpn 1 ?_
 refine iff_ rfl rfl ?_
 refine ⟨(by decide : (2 + 1) * 24 ≤ 140737488355328 ∧ 2 + 1 ≤ 1000000000),?_⟩
 refine iff_ rfl rfl ?_
 exact fin [3,4,6,5,2] rfl ⟨rfl,rfl⟩
theorem q_begun4 {m : Nat} {A : Nat → Nat → Rat} (hm : m ≤ 64) (ha : LB 10000 4 m A) :
  Ec Tryz.prog 470 (own 0) [] [qMA 4 m A,qNA 4] (Is (.ref 5 0) [RW m (A 0),RW m (A 1),RW m (A 2),RW m (A 3),.rowa 38 1 4 [.own 0,.own 1,.own 2,.own 3],.box 391 [.own 4,ri .i64 m,nilA]]):=by
 refine ec Tryz.func470 ?_
 refine lpn 5 ?_
 refine ift rfl rfl ?_
 refine lfv 7 49 4 rfl ?_
 refine lgc [0,1,2,3] rfl ?_
 refine lpt (fun k : Nat=>k ≤ m) (fun k=>[(2,.ref 0 0),(3,.ref 1 0),(5,.ref 2 0),(6,ri .i64 0),(7,.own 3),(15,ri .i64 4),(16,ri .i64 0),(20,ri .i64 m),(21,ri .i64 k)])
  (fun k=>[.box 40 [ri .i64 4,ri .i64 m,.im (.sl ((tq m A (4 * m)).map qc).length 4 ((tq m A (4 * m)).map qc).flatten)],.box 40 [ri .i64 4,ri .i64 0,nilA],.box 391 [nilA,ri .i64 m,nilA],.row 49 4 k (rC k (A 0))]) (fun k=>m - k) 0 (Nat.zero_le _) (tsr rfl) rfl ?_
 intro k t hk
 refine ifs rfl (fun hlt=>?_) (fun hge=>?_)
 ·have hlt:=of_decide_eq_true hlt
  have hkm : k < m:=by omega
  refine ce (q_At (r:=4) (A:=A) (i:=0) (by decide) hm ha (by decide) hkm) rfl ?_
  refine ⟨⟨?_,?_⟩,?_⟩
  ·show (k + 1) * 64 ≤ _; omega
  ·show k + 1 ≤ _; omega
  refine nxg [0,1,2,3] (k + 1) (by omega) rfl ⟨by omega,⟨rfl,rfl,rfl,rfl,rfl,rfl,rfl,rfl,congrArg (ri .i64) (i64s (by omega)).symm,trivial⟩,?_⟩
  exact congrArg (fun l=>([.box 40 [ri .i64 4,ri .i64 m,.im (.sl ((tq m A (4 * m)).map qc).length 4 ((tq m A (4 * m)).map qc).flatten)],.box 40 [ri .i64 4,ri .i64 0,nilA],.box 391 [nilA,ri .i64 m,nilA],.row 49 4 (k + 1) l] : List AO)) (rC_succ k (A 0)).symm
 have hge:=of_decide_eq_false hge
 obtain rfl : m = k:=by omega
 refine lpn 1 ?_
 refine iff_ rfl rfl ?_
 refine ⟨(by decide : 1 * 24 ≤ 140737488355328 ∧ 1 ≤ 1000000000),?_⟩
 clear hk hge
 refine ift rfl rfl ?_
 refine lfv 7 49 4 rfl ?_
 refine lgc [0,1,2,3,5,6] rfl ?_
 refine lpt (fun k : Nat=>k ≤ m) (fun k=>[(2,.ref 0 0),(3,.ref 1 0),(5,.ref 2 0),(6,ri .i64 1),(7,.own 5),(15,ri .i64 4),(16,ri .i64 1),(20,ri .i64 m),(21,ri .i64 k)])
  (fun k=>[.box 40 [ri .i64 4,ri .i64 m,.im (.sl ((tq m A (4 * m)).map qc).length 4 ((tq m A (4 * m)).map qc).flatten)],.box 40 [ri .i64 4,ri .i64 0,nilA],.box 391 [.own 4,ri .i64 m,nilA],RW m (A 0),.rowa 38 1 1 [.own 3],.row 49 4 k (rC k (A 1))]) (fun k=>m - k) 0 (Nat.zero_le _) (tsr rfl) rfl ?_
 intro k t hk
 refine ifs rfl (fun hlt=>?_) (fun hge=>?_)
 ·have hlt:=of_decide_eq_true hlt
  have hkm : k < m:=by omega
  refine ce (q_At (r:=4) (A:=A) (i:=1) (by decide) hm ha (by decide) hkm) rfl ?_
  refine ⟨⟨?_,?_⟩,?_⟩
  ·show (k + 1) * 64 ≤ _; omega
  ·show k + 1 ≤ _; omega
  refine nxg [0,1,2,3,4,5] (k + 1) (by omega) rfl ⟨by omega,⟨rfl,rfl,rfl,rfl,rfl,rfl,rfl,rfl,congrArg (ri .i64) (i64s (by omega)).symm,trivial⟩,?_⟩
  exact congrArg (fun l=>([.box 40 [ri .i64 4,ri .i64 m,.im (.sl ((tq m A (4 * m)).map qc).length 4 ((tq m A (4 * m)).map qc).flatten)],.box 40 [ri .i64 4,ri .i64 0,nilA],.box 391 [.own 4,ri .i64 m,nilA],RW m (A 0),.rowa 38 1 1 [.own 3],.row 49 4 (k + 1) l] : List AO)) (rC_succ k (A 1)).symm
 have hge:=of_decide_eq_false hge
 obtain rfl : m = k:=by omega
 refine lpn 1 ?_
 refine iff_ rfl rfl ?_
 refine ⟨(by decide : (1 + 1) * 24 ≤ 140737488355328 ∧ 1 + 1 ≤ 1000000000),?_⟩
 clear hk hge
 refine ift rfl rfl ?_
 refine lfv 7 49 4 rfl ?_
 refine lgc [0,1,2,3,5,4,7] rfl ?_
 refine lpt (fun k : Nat=>k ≤ m) (fun k=>[(2,.ref 0 0),(3,.ref 1 0),(5,.ref 2 0),(6,ri .i64 2),(7,.own 6),(15,ri .i64 4),(16,ri .i64 2),(20,ri .i64 m),(21,ri .i64 k)])
  (fun k=>[.box 40 [ri .i64 4,ri .i64 m,.im (.sl ((tq m A (4 * m)).map qc).length 4 ((tq m A (4 * m)).map qc).flatten)],.box 40 [ri .i64 4,ri .i64 0,nilA],.box 391 [.own 5,ri .i64 m,nilA],RW m (A 0),RW m (A 1),.rowa 38 1 2 [.own 3,.own 4],.row 49 4 k (rC k (A 2))]) (fun k=>m - k) 0 (Nat.zero_le _) (tsr rfl) rfl ?_
 intro k t hk
 refine ifs rfl (fun hlt=>?_) (fun hge=>?_)
 ·have hlt:=of_decide_eq_true hlt
  have hkm : k < m:=by omega
  refine ce (q_At (r:=4) (A:=A) (i:=2) (by decide) hm ha (by decide) hkm) rfl ?_
  refine ⟨⟨?_,?_⟩,?_⟩
  ·show (k + 1) * 64 ≤ _; omega
  ·show k + 1 ≤ _; omega
  refine nxg [0,1,2,3,4,5,6] (k + 1) (by omega) rfl ⟨by omega,⟨rfl,rfl,rfl,rfl,rfl,rfl,rfl,rfl,congrArg (ri .i64) (i64s (by omega)).symm,trivial⟩,?_⟩
  exact congrArg (fun l=>([.box 40 [ri .i64 4,ri .i64 m,.im (.sl ((tq m A (4 * m)).map qc).length 4 ((tq m A (4 * m)).map qc).flatten)],.box 40 [ri .i64 4,ri .i64 0,nilA],.box 391 [.own 5,ri .i64 m,nilA],RW m (A 0),RW m (A 1),.rowa 38 1 2 [.own 3,.own 4],.row 49 4 (k + 1) l] : List AO)) (rC_succ k (A 2)).symm
 have hge:=of_decide_eq_false hge
 obtain rfl : m = k:=by omega
 refine lpn 1 ?_
 refine iff_ rfl rfl ?_
 refine ⟨(by decide : (2 + 1) * 24 ≤ 140737488355328 ∧ 2 + 1 ≤ 1000000000),?_⟩
 clear hk hge
 refine ift rfl rfl ?_
 refine lfv 7 49 4 rfl ?_
 refine lgc [0,1,2,3,4,6,5,8] rfl ?_
 refine lpt (fun k : Nat=>k ≤ m) (fun k=>[(2,.ref 0 0),(3,.ref 1 0),(5,.ref 2 0),(6,ri .i64 3),(7,.own 7),(15,ri .i64 4),(16,ri .i64 3),(20,ri .i64 m),(21,ri .i64 k)])
  (fun k=>[.box 40 [ri .i64 4,ri .i64 m,.im (.sl ((tq m A (4 * m)).map qc).length 4 ((tq m A (4 * m)).map qc).flatten)],.box 40 [ri .i64 4,ri .i64 0,nilA],.box 391 [.own 6,ri .i64 m,nilA],RW m (A 0),RW m (A 1),RW m (A 2),.rowa 38 1 3 [.own 3,.own 4,.own 5],.row 49 4 k (rC k (A 3))]) (fun k=>m - k) 0 (Nat.zero_le _) (tsr rfl) rfl ?_
 intro k t hk
 refine ifs rfl (fun hlt=>?_) (fun hge=>?_)
 ·have hlt:=of_decide_eq_true hlt
  have hkm : k < m:=by omega
  refine ce (q_At (r:=4) (A:=A) (i:=3) (by decide) hm ha (by decide) hkm) rfl ?_
  refine ⟨⟨?_,?_⟩,?_⟩
  ·show (k + 1) * 64 ≤ _; omega
  ·show k + 1 ≤ _; omega
  refine nxg [0,1,2,3,4,5,6,7] (k + 1) (by omega) rfl ⟨by omega,⟨rfl,rfl,rfl,rfl,rfl,rfl,rfl,rfl,congrArg (ri .i64) (i64s (by omega)).symm,trivial⟩,?_⟩
  exact congrArg (fun l=>([.box 40 [ri .i64 4,ri .i64 m,.im (.sl ((tq m A (4 * m)).map qc).length 4 ((tq m A (4 * m)).map qc).flatten)],.box 40 [ri .i64 4,ri .i64 0,nilA],.box 391 [.own 6,ri .i64 m,nilA],RW m (A 0),RW m (A 1),RW m (A 2),.rowa 38 1 3 [.own 3,.own 4,.own 5],.row 49 4 (k + 1) l] : List AO)) (rC_succ k (A 3)).symm
 have hge:=of_decide_eq_false hge
 obtain rfl : m = k:=by omega
 refine lpn 1 ?_
 refine iff_ rfl rfl ?_
 refine ⟨(by decide : (3 + 1) * 24 ≤ 140737488355328 ∧ 3 + 1 ≤ 1000000000),?_⟩
 refine iff_ rfl rfl ?_
 exact fin [3,4,5,7,6,2] rfl ⟨rfl,rfl⟩
theorem q_cl1 {m col L : Nat} {W : Nat → Nat → Rat} {P : List Nat} (hq : P.length < 1) (hm : m ≤ 64) (hc : col < m) (hL : L ≤ 900) (hl : LB L 1 m W) :
  Ec Tryz.prog 471 (fun i=>!Nat.beq i 3) (hw1 m W P.length P) [.ref 3 0,ri .i64 col]
   (fun x H'=>x = .tup [] ∧ ((H' = hw1 m W P.length P ∧ ∀ i,P.length ≤ i → i < 1 → W i col = 0) ∨ ∃ i,P.length ≤ i ∧ i < 1 ∧ W i col ≠ 0 ∧ H' = hw1 m (elm W P.length i col (1 / W i col)) (P.length + 1) (P ++ [col]))):=by
 obtain ⟨q,e⟩ : ∃ q,q = P.length:=⟨_,rfl⟩
 rw [← e] at hq ⊢
 match q,hq with
 | 0,_=>exact q_col1_0 hm hc hL hl
theorem q_cl2 {m col L : Nat} {W : Nat → Nat → Rat} {P : List Nat} (hq : P.length < 2) (hm : m ≤ 64) (hc : col < m) (hL : L ≤ 900) (hl : LB L 2 m W) :
  Ec Tryz.prog 471 (fun i=>!Nat.beq i 4) (hw2 m W P.length P) [.ref 4 0,ri .i64 col]
   (fun x H'=>x = .tup [] ∧ ((H' = hw2 m W P.length P ∧ ∀ i,P.length ≤ i → i < 2 → W i col = 0) ∨ ∃ i,P.length ≤ i ∧ i < 2 ∧ W i col ≠ 0 ∧ H' = hw2 m (elm W P.length i col (1 / W i col)) (P.length + 1) (P ++ [col]))):=by
 obtain ⟨q,e⟩ : ∃ q,q = P.length:=⟨_,rfl⟩
 rw [← e] at hq ⊢
 match q,hq with
 | 0,_=>exact q_col2_0 hm hc hL hl
 | 1,_=>exact q_col2_1 hm hc hL hl
theorem q_cl3 {m col L : Nat} {W : Nat → Nat → Rat} {P : List Nat} (hq : P.length < 3) (hm : m ≤ 64) (hc : col < m) (hL : L ≤ 900) (hl : LB L 3 m W) :
  Ec Tryz.prog 471 (fun i=>!Nat.beq i 5) (hw3 m W P.length P) [.ref 5 0,ri .i64 col]
   (fun x H'=>x = .tup [] ∧ ((H' = hw3 m W P.length P ∧ ∀ i,P.length ≤ i → i < 3 → W i col = 0) ∨ ∃ i,P.length ≤ i ∧ i < 3 ∧ W i col ≠ 0 ∧ H' = hw3 m (elm W P.length i col (1 / W i col)) (P.length + 1) (P ++ [col]))):=by
 obtain ⟨q,e⟩ : ∃ q,q = P.length:=⟨_,rfl⟩
 rw [← e] at hq ⊢
 match q,hq with
 | 0,_=>exact q_col3_0 hm hc hL hl
 | 1,_=>exact q_col3_1 hm hc hL hl
 | 2,_=>exact q_col3_2 hm hc hL hl
theorem q_cl4 {m col L : Nat} {W : Nat → Nat → Rat} {P : List Nat} (hq : P.length < 4) (hm : m ≤ 64) (hc : col < m) (hL : L ≤ 900) (hl : LB L 4 m W) :
  Ec Tryz.prog 471 (fun i=>!Nat.beq i 6) (hw4 m W P.length P) [.ref 6 0,ri .i64 col]
   (fun x H'=>x = .tup [] ∧ ((H' = hw4 m W P.length P ∧ ∀ i,P.length ≤ i → i < 4 → W i col = 0) ∨ ∃ i,P.length ≤ i ∧ i < 4 ∧ W i col ≠ 0 ∧ H' = hw4 m (elm W P.length i col (1 / W i col)) (P.length + 1) (P ++ [col]))):=by
 obtain ⟨q,e⟩ : ∃ q,q = P.length:=⟨_,rfl⟩
 rw [← e] at hq ⊢
 match q,hq with
 | 0,_=>exact q_col4_0 hm hc hL hl
 | 1,_=>exact q_col4_1 hm hc hL hl
 | 2,_=>exact q_col4_2 hm hc hL hl
 | 3,_=>exact q_col4_3 hm hc hL hl
theorem q_reduced1 {m : Nat} {A : Nat → Nat → Rat} (hm : m ≤ 4) (ha : LB 3 1 m A) :
    Pc Tryz.prog 379 [qM 1 m A, qN 1] (fun r => ∃ W P, r = .ip [.sl 1 1 [.sl m 4 (rC m (W 0))], .raw (.int .i64 (m : Int)), .sl P.length 1 (pvs P)] ∧ RedR 1 m A W P) := by
  refine pc Tryz.func379 ?_
  refine cxg [] 0 [] (q_begun1 (A := A) (by omega) (ha.mono (by decide))) rfl rfl rfl rfl ?_
  rintro _ _ ⟨rfl, rfl⟩
  refine ⟨.inr rfl, ?_⟩
  refine lfb 2 2 3 1 rfl rfl ?_
  refine lgc [3, 0, 1, 2] rfl ?_
  refine lpt3 (fun (col : Nat) (W : Nat → Nat → Rat) (P : List Nat) => RedI 1 m col A W P ∧ col ≤ m ∧ LB (LL col) 1 m W) (fun col _ _ => [(5, .ref 3 0), (6, ri .i64 col)])
    (fun _ W P => hw1 m W P.length P) (fun col _ _ => m - col) 0 A [] ⟨RedI.start A, Nat.zero_le _, ha⟩ (tsr rfl) rfl ?_
  rintro col W P t ⟨hR, hc, hl⟩
  by_cases hcm : col < m
  · have hb : decide ((col : Int) < (m : Int)) = true := decide_eq_true (by omega)
    have hL := LL_le (k := col) (by omega)
    refine rqa [0, 1, 2, 3, 4, 5, 6, 7, 8, 9, 10, 11, 12, 13, 14, 15, 16, 17, 18] [(11, [], some []), (16, [], some [])] ?_
    iterate 11 refine gt hb ?_
    refine tw hb ?_
    refine ifs rfl (fun hp => ?_) (fun hp => ?_)
    · have hp := of_decide_eq_true hp
      have hp : P.length < 1 := by omega
      refine cxg [0, 1, 2, 3] 4 [0, 1, 2] (q_cl1 hp (by omega) hcm (Nat.le_trans hL (by decide)) hl) rfl rfl rfl rfl ?_
      rintro _ _ ⟨rfl, ⟨rfl, h0⟩ | ⟨i, h1, h2, h3, rfl⟩⟩
      · refine ⟨.inl rfl, ?_⟩
        exact nx3 (col + 1) W P (by omega) ⟨hR.none h0, by omega, hl.mono (by show LL col ≤ 4 * LL col + 1; omega)⟩ ⟨rfl, congrArg (ri .i64) (i64s (by omega)).symm, trivial⟩ rfl
      · refine ⟨.inl rfl, ?_⟩
        refine nx3 (col + 1) (elm W P.length i col (1 / W i col)) (P ++ [col]) (by omega) ⟨hR.step h1 h2 (mul_inv1 h3), by omega, elm_lb (by omega) h2 hcm h3 hl⟩ ⟨rfl, congrArg (ri .i64) (i64s (by omega)).symm, trivial⟩ ?_
        exact congrArg (fun k => hw1 m (elm W P.length i col (1 / W i col)) k (P ++ [col])) (by simp)
    · have hp := of_decide_eq_false hp
      refine ⟨W, P, rfl, col, hR, hc, .inl (Nat.le_antisymm hR.len (by omega)), hl.mono (by omega)⟩
  · have hb : decide ((col : Int) < (m : Int)) = false := decide_eq_false (by omega)
    refine rqa [0, 1, 2, 3, 4, 5, 6, 7, 8, 9, 10, 11, 12, 13, 14, 15, 16, 17, 18] [(11, [], some []), (16, [], some [])] ?_
    iterate 11 refine gf hb ?_
    refine tf hb ?_
    refine iff_ rfl rfl ?_
    have hLL : LL col ≤ 900 := by have : ∀ k : Nat, k < 5 → LL k ≤ 900 := by decide
                                  exact this col (by omega)
    refine ⟨W, P, rfl, col, hR, hc, .inr (by omega), hl.mono hLL⟩
theorem q_reduced2 {m : Nat} {A : Nat → Nat → Rat} (hm : m ≤ 4) (ha : LB 3 2 m A) :
    Pc Tryz.prog 379 [qM 2 m A, qN 2] (fun r => ∃ W P, r = .ip [.sl 2 1 [.sl m 4 (rC m (W 0)), .sl m 4 (rC m (W 1))], .raw (.int .i64 (m : Int)), .sl P.length 1 (pvs P)] ∧ RedR 2 m A W P) := by
  refine pc Tryz.func379 ?_
  refine cxg [] 0 [] (q_begun2 (A := A) (by omega) (ha.mono (by decide))) rfl rfl rfl rfl ?_
  rintro _ _ ⟨rfl, rfl⟩
  refine ⟨.inr rfl, ?_⟩
  refine lfb 3 2 3 1 rfl rfl ?_
  refine lgc [4, 0, 1, 2, 3] rfl ?_
  refine lpt3 (fun (col : Nat) (W : Nat → Nat → Rat) (P : List Nat) => RedI 2 m col A W P ∧ col ≤ m ∧ LB (LL col) 2 m W) (fun col _ _ => [(5, .ref 4 0), (6, ri .i64 col)])
    (fun _ W P => hw2 m W P.length P) (fun col _ _ => m - col) 0 A [] ⟨RedI.start A, Nat.zero_le _, ha⟩ (tsr rfl) rfl ?_
  rintro col W P t ⟨hR, hc, hl⟩
  by_cases hcm : col < m
  · have hb : decide ((col : Int) < (m : Int)) = true := decide_eq_true (by omega)
    have hL := LL_le (k := col) (by omega)
    refine rqa [0, 1, 2, 3, 4, 5, 6, 7, 8, 9, 10, 11, 12, 13, 14, 15, 16, 17, 18] [(11, [], some []), (16, [], some [])] ?_
    iterate 11 refine gt hb ?_
    refine tw hb ?_
    refine ifs rfl (fun hp => ?_) (fun hp => ?_)
    · have hp := of_decide_eq_true hp
      have hp : P.length < 2 := by omega
      refine cxg [0, 1, 2, 3, 4] 5 [0, 1, 2, 3] (q_cl2 hp (by omega) hcm (Nat.le_trans hL (by decide)) hl) rfl rfl rfl rfl ?_
      rintro _ _ ⟨rfl, ⟨rfl, h0⟩ | ⟨i, h1, h2, h3, rfl⟩⟩
      · refine ⟨.inl rfl, ?_⟩
        exact nx3 (col + 1) W P (by omega) ⟨hR.none h0, by omega, hl.mono (by show LL col ≤ 4 * LL col + 1; omega)⟩ ⟨rfl, congrArg (ri .i64) (i64s (by omega)).symm, trivial⟩ rfl
      · refine ⟨.inl rfl, ?_⟩
        refine nx3 (col + 1) (elm W P.length i col (1 / W i col)) (P ++ [col]) (by omega) ⟨hR.step h1 h2 (mul_inv1 h3), by omega, elm_lb (by omega) h2 hcm h3 hl⟩ ⟨rfl, congrArg (ri .i64) (i64s (by omega)).symm, trivial⟩ ?_
        exact congrArg (fun k => hw2 m (elm W P.length i col (1 / W i col)) k (P ++ [col])) (by simp)
    · have hp := of_decide_eq_false hp
      refine ⟨W, P, rfl, col, hR, hc, .inl (Nat.le_antisymm hR.len (by omega)), hl.mono (by omega)⟩
  · have hb : decide ((col : Int) < (m : Int)) = false := decide_eq_false (by omega)
    refine rqa [0, 1, 2, 3, 4, 5, 6, 7, 8, 9, 10, 11, 12, 13, 14, 15, 16, 17, 18] [(11, [], some []), (16, [], some [])] ?_
    iterate 11 refine gf hb ?_
    refine tf hb ?_
    refine iff_ rfl rfl ?_
    have hLL : LL col ≤ 900 := by have : ∀ k : Nat, k < 5 → LL k ≤ 900 := by decide
                                  exact this col (by omega)
    refine ⟨W, P, rfl, col, hR, hc, .inr (by omega), hl.mono hLL⟩
theorem q_reduced3 {m : Nat} {A : Nat → Nat → Rat} (hm : m ≤ 4) (ha : LB 3 3 m A) :
    Pc Tryz.prog 379 [qM 3 m A, qN 3] (fun r => ∃ W P, r = .ip [.sl 3 1 [.sl m 4 (rC m (W 0)), .sl m 4 (rC m (W 1)), .sl m 4 (rC m (W 2))], .raw (.int .i64 (m : Int)), .sl P.length 1 (pvs P)] ∧ RedR 3 m A W P) := by
  refine pc Tryz.func379 ?_
  refine cxg [] 0 [] (q_begun3 (A := A) (by omega) (ha.mono (by decide))) rfl rfl rfl rfl ?_
  rintro _ _ ⟨rfl, rfl⟩
  refine ⟨.inr rfl, ?_⟩
  refine lfb 4 2 3 1 rfl rfl ?_
  refine lgc [5, 0, 1, 2, 3, 4] rfl ?_
  refine lpt3 (fun (col : Nat) (W : Nat → Nat → Rat) (P : List Nat) => RedI 3 m col A W P ∧ col ≤ m ∧ LB (LL col) 3 m W) (fun col _ _ => [(5, .ref 5 0), (6, ri .i64 col)])
    (fun _ W P => hw3 m W P.length P) (fun col _ _ => m - col) 0 A [] ⟨RedI.start A, Nat.zero_le _, ha⟩ (tsr rfl) rfl ?_
  rintro col W P t ⟨hR, hc, hl⟩
  by_cases hcm : col < m
  · have hb : decide ((col : Int) < (m : Int)) = true := decide_eq_true (by omega)
    have hL := LL_le (k := col) (by omega)
    refine rqa [0, 1, 2, 3, 4, 5, 6, 7, 8, 9, 10, 11, 12, 13, 14, 15, 16, 17, 18] [(11, [], some []), (16, [], some [])] ?_
    iterate 11 refine gt hb ?_
    refine tw hb ?_
    refine ifs rfl (fun hp => ?_) (fun hp => ?_)
    · have hp := of_decide_eq_true hp
      have hp : P.length < 3 := by omega
      refine cxg [0, 1, 2, 3, 4, 5] 6 [0, 1, 2, 3, 4] (q_cl3 hp (by omega) hcm (Nat.le_trans hL (by decide)) hl) rfl rfl rfl rfl ?_
      rintro _ _ ⟨rfl, ⟨rfl, h0⟩ | ⟨i, h1, h2, h3, rfl⟩⟩
      · refine ⟨.inl rfl, ?_⟩
        exact nx3 (col + 1) W P (by omega) ⟨hR.none h0, by omega, hl.mono (by show LL col ≤ 4 * LL col + 1; omega)⟩ ⟨rfl, congrArg (ri .i64) (i64s (by omega)).symm, trivial⟩ rfl
      · refine ⟨.inl rfl, ?_⟩
        refine nx3 (col + 1) (elm W P.length i col (1 / W i col)) (P ++ [col]) (by omega) ⟨hR.step h1 h2 (mul_inv1 h3), by omega, elm_lb (by omega) h2 hcm h3 hl⟩ ⟨rfl, congrArg (ri .i64) (i64s (by omega)).symm, trivial⟩ ?_
        exact congrArg (fun k => hw3 m (elm W P.length i col (1 / W i col)) k (P ++ [col])) (by simp)
    · have hp := of_decide_eq_false hp
      refine ⟨W, P, rfl, col, hR, hc, .inl (Nat.le_antisymm hR.len (by omega)), hl.mono (by omega)⟩
  · have hb : decide ((col : Int) < (m : Int)) = false := decide_eq_false (by omega)
    refine rqa [0, 1, 2, 3, 4, 5, 6, 7, 8, 9, 10, 11, 12, 13, 14, 15, 16, 17, 18] [(11, [], some []), (16, [], some [])] ?_
    iterate 11 refine gf hb ?_
    refine tf hb ?_
    refine iff_ rfl rfl ?_
    have hLL : LL col ≤ 900 := by have : ∀ k : Nat, k < 5 → LL k ≤ 900 := by decide
                                  exact this col (by omega)
    refine ⟨W, P, rfl, col, hR, hc, .inr (by omega), hl.mono hLL⟩
theorem q_reduced4 {m : Nat} {A : Nat → Nat → Rat} (hm : m ≤ 4) (ha : LB 3 4 m A) :
    Pc Tryz.prog 379 [qM 4 m A, qN 4] (fun r => ∃ W P, r = .ip [.sl 4 1 [.sl m 4 (rC m (W 0)), .sl m 4 (rC m (W 1)), .sl m 4 (rC m (W 2)), .sl m 4 (rC m (W 3))], .raw (.int .i64 (m : Int)), .sl P.length 1 (pvs P)] ∧ RedR 4 m A W P) := by
  refine pc Tryz.func379 ?_
  refine cxg [] 0 [] (q_begun4 (A := A) (by omega) (ha.mono (by decide))) rfl rfl rfl rfl ?_
  rintro _ _ ⟨rfl, rfl⟩
  refine ⟨.inr rfl, ?_⟩
  refine lfb 5 2 3 1 rfl rfl ?_
  refine lgc [6, 0, 1, 2, 3, 4, 5] rfl ?_
  refine lpt3 (fun (col : Nat) (W : Nat → Nat → Rat) (P : List Nat) => RedI 4 m col A W P ∧ col ≤ m ∧ LB (LL col) 4 m W) (fun col _ _ => [(5, .ref 6 0), (6, ri .i64 col)])
    (fun _ W P => hw4 m W P.length P) (fun col _ _ => m - col) 0 A [] ⟨RedI.start A, Nat.zero_le _, ha⟩ (tsr rfl) rfl ?_
  rintro col W P t ⟨hR, hc, hl⟩
  by_cases hcm : col < m
  · have hb : decide ((col : Int) < (m : Int)) = true := decide_eq_true (by omega)
    have hL := LL_le (k := col) (by omega)
    refine rqa [0, 1, 2, 3, 4, 5, 6, 7, 8, 9, 10, 11, 12, 13, 14, 15, 16, 17, 18] [(11, [], some []), (16, [], some [])] ?_
    iterate 11 refine gt hb ?_
    refine tw hb ?_
    refine ifs rfl (fun hp => ?_) (fun hp => ?_)
    · have hp := of_decide_eq_true hp
      have hp : P.length < 4 := by omega
      refine cxg [0, 1, 2, 3, 4, 5, 6] 7 [0, 1, 2, 3, 4, 5] (q_cl4 hp (by omega) hcm (Nat.le_trans hL (by decide)) hl) rfl rfl rfl rfl ?_
      rintro _ _ ⟨rfl, ⟨rfl, h0⟩ | ⟨i, h1, h2, h3, rfl⟩⟩
      · refine ⟨.inl rfl, ?_⟩
        exact nx3 (col + 1) W P (by omega) ⟨hR.none h0, by omega, hl.mono (by show LL col ≤ 4 * LL col + 1; omega)⟩ ⟨rfl, congrArg (ri .i64) (i64s (by omega)).symm, trivial⟩ rfl
      · refine ⟨.inl rfl, ?_⟩
        refine nx3 (col + 1) (elm W P.length i col (1 / W i col)) (P ++ [col]) (by omega) ⟨hR.step h1 h2 (mul_inv1 h3), by omega, elm_lb (by omega) h2 hcm h3 hl⟩ ⟨rfl, congrArg (ri .i64) (i64s (by omega)).symm, trivial⟩ ?_
        exact congrArg (fun k => hw4 m (elm W P.length i col (1 / W i col)) k (P ++ [col])) (by simp)
    · have hp := of_decide_eq_false hp
      refine ⟨W, P, rfl, col, hR, hc, .inl (Nat.le_antisymm hR.len (by omega)), hl.mono (by omega)⟩
  · have hb : decide ((col : Int) < (m : Int)) = false := decide_eq_false (by omega)
    refine rqa [0, 1, 2, 3, 4, 5, 6, 7, 8, 9, 10, 11, 12, 13, 14, 15, 16, 17, 18] [(11, [], some []), (16, [], some [])] ?_
    iterate 11 refine gf hb ?_
    refine tf hb ?_
    refine iff_ rfl rfl ?_
    have hLL : LL col ≤ 900 := by have : ∀ k : Nat, k < 5 → LL k ≤ 900 := by decide
                                  exact this col (by omega)
    refine ⟨W, P, rfl, col, hR, hc, .inr (by omega), hl.mono hLL⟩
def nilI : IV:=.raw (.slice none 0 0)
noncomputable def VN (q : Rat) : IV:=.agg [.raw (.int .i64 1),.raw (.bool (decide (q.num < 0))),na q.num.natAbs,.raw (.bool (decide ((q.den : Int) < 0))),na (q.den : Int).natAbs,.raw (.int .i64 0),.raw (.int .i64 0),nilI,nilI,.raw (.int .u64 0),.raw (.int .i64 0),.raw (.int .i64 0),nilI,nilI,nilI]
def vm (r c : IV) (m : IV) : IV:=.agg [.raw (.int .i64 2),.raw (.bool false),nilI,.raw (.bool false),nilI,r,c,m,nilI,.raw (.int .u64 0),.raw (.int .i64 0),.raw (.int .i64 0),nilI,nilI,nilI]
noncomputable def VM (r c : Nat) (A : Nat → Nat → Rat) : IV:=vm (.raw (.int .i64 r)) (.raw (.int .i64 c)) (.sl ((tq c A (r * c)).map qc).length 4 ((tq c A (r * c)).map qc).flatten)
theorem v_whole {z : Int} (h : li z ≤ 1000000) : Pc Tryz.prog 97 [iz z] (· = .raw (.bool true)):=by
 refine pc Tryz.func97 ?_
 by_cases hz : z = 0
 ·subst hz
  have h0 : (((wd (0 : Int).natAbs).length : Int) == 0) = true:=by rw [show wd (0 : Int).natAbs = [] from wd_zero]; rfl
  iterate 3 refine gt h0 ?_
  refine tw h0 ?_
  repeat (first|refine gt rfl ?_|refine gf rfl ?_|refine tw rfl ?_|refine tf rfl ?_)
  exact rfl
 ·have hn : z.natAbs ≠ 0:=by omega
  have hp : 0 < ln z.natAbs:=ln_pos hn
  have hl : (wd z.natAbs).length = ln z.natAbs:=rfl
  have h : ln z.natAbs ≤ 1000000:=h
  have h0 : (((wd z.natAbs).length : Int) == 0) = false:=by rw [hl]; simp; omega
  have h1 : decide (((wd z.natAbs).length : Int) > 0) = true:=decide_eq_true (by omega)
  obtain ⟨x,hx⟩ : ∃ x,(wd z.natAbs)[ln z.natAbs - 1]? = some x:=⟨_,List.getElem?_eq_getElem (by omega)⟩
  have hx0:=(wd_last hn hx).1
  have hw : IntKind.i64.wrap (((wd z.natAbs).length : Int) - 1) = ((ln z.natAbs - 1 : Nat) : Int):=i64n (by omega) (by omega)
  iterate 3 refine gf h0 ?_
  refine tf h0 ?_
  iterate 3 refine gt rfl ?_
  iterate 5 refine gt h1 ?_
  refine gi (ln z.natAbs - 1) (by rw [hw]; omega) hx (by rw [hw]; omega) fun l=>?_
  iterate 2 refine gt h1 ?_
  refine gt rfl ?_
  refine tw h1 ?_
  refine tf rfl ?_
  have hb : ((x : Int) != 0) = true:=by simp; omega
  exact congrArg (fun b=>IV.raw (.bool b)) hb
theorem v_fraction {q : Rat} (h : lr q ≤ 50000) : Pc Tryz.prog 92 [iq q] (· = .raw (.bool true)):=by
 have a1:=lr_num q; have a2:=lr_den q
 have hd : (q.den : Int) > 0:=by have:=q.den_pos; omega
 have hs : sgnI (q.den : Int) = 1:=by rcases sgnI_cases (q.den : Int) with ⟨g,e⟩ | ⟨g,e⟩ | ⟨g,e⟩ <;> omega
 have hs1 : decide (sgnI (q.den : Int) > 0) = true:=by rw [hs]; rfl
 have hg : ((Nat.gcd q.num.natAbs (q.den : Int).natAbs : Nat) : Int) = 1:=by rw [Int.natAbs_natCast]; have:=q.reduced; unfold Nat.Coprime at this; omega
 refine pc Tryz.func92 ?_
 refine ce (v_whole (z:=q.num) (by omega)) rfl ?_
 iterate 2 refine gt rfl ?_
 refine gt rfl ?_
 refine ce (v_whole (z:=(q.den : Int)) (by omega)) rfl ?_
 refine tw rfl ?_
 iterate 2 refine gt rfl ?_
 refine gt rfl ?_
 refine ce (z_Sign (z:=(q.den : Int)) (by omega)) rfl ?_
 refine gt rfl ?_
 refine tw rfl ?_
 iterate 4 refine gt hs1 ?_
 refine gt hs1 ?_
 refine ce (z_Gcd (a:=q.num) (b:=(q.den : Int)) (by omega) (by omega)) rfl ?_
 refine gt hs1 ?_
 refine ce (z_Of (x:=1) (by decide) (by decide)) rfl ?_
 refine gt hs1 ?_
 refine ce (z_Same (a:=((Nat.gcd q.num.natAbs (q.den : Int).natAbs : Nat) : Int)) (b:=1) (by rw [hg]; exact Nat.le_trans (Nat.le_of_eq ln_one) (by decide)) (Nat.le_trans (Nat.le_of_eq ln_one) (by decide))) rfl ?_
 refine tw hs1 ?_
 exact congrArg (fun b=>IV.raw (.bool b)) (decide_eq_true hg)
theorem c_Index1 (k x : Int) : Pc Tryz.prog 175 [.sl 1 1 [.raw (.int .i64 k)],.raw (.int .i64 x)] (· = .raw (.int .i64 (if x = k then 0 else -1))):=by
 refine pc Tryz.func175 ?_
 refine lpn 2 ?_
 refine ift rfl rfl ?_
 refine ⟨by decide,?_⟩
 rintro _ rfl
 refine ifs rfl (fun h=>?_) (fun h=>?_)
 ·rw [if_pos (eq_of_beq h)]; exact rfl
 ·rw [if_neg (ne_of_beq_false h)]
  refine iff_ rfl rfl ?_
  exact rfl
theorem c_Contains1 (k x : Int) : Pc Tryz.prog 140 [.sl 1 1 [.raw (.int .i64 k)],.raw (.int .i64 x)] (· = .raw (.bool (decide (x = k)))):=by
 refine pc Tryz.func140 ?_
 refine ce (c_Index1 k x) rfl ?_
 by_cases h : x = k
 ·rw [if_pos h,decide_eq_true h]; exact rfl
 ·rw [if_neg h,decide_eq_false h]; exact rfl
def bK (k : Int) : AO:=.box 175 [.im (.sl 1 1 [.raw (.int .i64 k)])]
theorem v_has (k x : Int) : Ec Tryz.prog 139 (own 1) [bK k] [ri .i64 x,.ref 0 0] (Is (rb (!decide (x = k))) [bK k]):=by
 refine ec Tryz.func139 ?_
 refine ce (c_Contains1 k x) rfl ?_
 exact fin0 ⟨rfl,rfl⟩
theorem v_blankN {q : Rat} : Pc Tryz.prog 91 [VN q,.sl 1 1 [.raw (.int .i64 1)]] (· = .raw (.bool true)):=by
 refine pc Tryz.func91 ?_
 refine cxg [1,0] 1 [] (v_has 1 1) rfl rfl rfl rfl ?_
 rintro _ _ ⟨rfl,rfl⟩
 refine ⟨.inl rfl,?_⟩
 repeat (first|refine gt rfl ?_|refine gf rfl ?_|refine tw rfl ?_|refine tf rfl ?_)
 refine iff_ rfl rfl ?_
 refine cx 1 (v_has 1 2) rfl rfl rfl ?_
 rintro _ _ ⟨rfl,rfl⟩
 refine ⟨.inl rfl,?_⟩
 repeat (first|refine gt rfl ?_|refine gf rfl ?_|refine tw rfl ?_|refine tf rfl ?_)
 refine iff_ rfl rfl ?_
 refine cx 1 (v_has 1 4) rfl rfl rfl ?_
 rintro _ _ ⟨rfl,rfl⟩
 refine ⟨.inl rfl,?_⟩
 repeat (first|refine gt rfl ?_|refine gf rfl ?_|refine tw rfl ?_|refine tf rfl ?_)
 refine iff_ rfl rfl ?_
 refine cx 1 (v_has 1 4) rfl rfl rfl ?_
 rintro _ _ ⟨rfl,rfl⟩
 refine ⟨.inl rfl,?_⟩
 repeat (first|refine gt rfl ?_|refine gf rfl ?_|refine tw rfl ?_|refine tf rfl ?_)
 refine cx 1 (v_has 1 5) rfl rfl rfl ?_
 rintro _ _ ⟨rfl,rfl⟩
 refine ⟨.inl rfl,?_⟩
 repeat (first|refine gt rfl ?_|refine gf rfl ?_|refine tw rfl ?_|refine tf rfl ?_)
 refine iff_ rfl rfl ?_
 refine cx 1 (v_has 1 3) rfl rfl rfl ?_
 rintro _ _ ⟨rfl,rfl⟩
 refine ⟨.inl rfl,?_⟩
 repeat (first|refine gt rfl ?_|refine gf rfl ?_|refine tw rfl ?_|refine tf rfl ?_)
 refine cx 1 (v_has 1 5) rfl rfl rfl ?_
 rintro _ _ ⟨rfl,rfl⟩
 refine ⟨.inl rfl,?_⟩
 repeat (first|refine gt rfl ?_|refine gf rfl ?_|refine tw rfl ?_|refine tf rfl ?_)
 refine cx 1 (v_has 1 6) rfl rfl rfl ?_
 rintro _ _ ⟨rfl,rfl⟩
 refine ⟨.inl rfl,?_⟩
 repeat (first|refine gt rfl ?_|refine gf rfl ?_|refine tw rfl ?_|refine tf rfl ?_)
 exact rfl
theorem v_blankM {n m : Int} {x : IV} : Pc Tryz.prog 91 [vm (.raw (.int .i64 n)) (.raw (.int .i64 m)) x,.sl 1 1 [.raw (.int .i64 2)]] (· = .raw (.bool true)):=by
 have hB : bl (0 : Int).natAbs = 0:=(isBl_bl _).unique ⟨by decide,fun h=>absurd h (by decide)⟩
 have hb : decide (((bl (0 : Int).natAbs : Nat) : Int) > 0) = false:=by rw [hB]; rfl
 have hc:=(z_Bits (z:=0) (Nat.le_trans li0 (by decide))).sub (xs:=[.agg [.raw (.bool false),.raw (.slice none 0 0)]]) ⟨z_nil,trivial⟩
 refine pc Tryz.func91 ?_
 refine cxg [1,0] 1 [] (v_has 2 1) rfl rfl rfl rfl ?_
 rintro _ _ ⟨rfl,rfl⟩
 refine ⟨.inl rfl,?_⟩
 iterate 4 refine gt rfl ?_
 refine ce hc rfl ?_
 iterate 2 refine gt rfl ?_
 iterate 4 refine gt hb ?_
 refine ce hc rfl ?_
 refine gt hb ?_
 refine gt rfl ?_
 refine tf hb ?_
 refine gt rfl ?_
 iterate 12 refine gt hb ?_
 refine gt rfl ?_
 refine tf hb ?_
 repeat (first|refine gt rfl ?_|refine gf rfl ?_|refine tw rfl ?_|refine tf rfl ?_)
 refine iff_ rfl rfl ?_
 refine cx 1 (v_has 2 2) rfl rfl rfl ?_
 rintro _ _ ⟨rfl,rfl⟩
 refine ⟨.inl rfl,?_⟩
 repeat (first|refine gt rfl ?_|refine gf rfl ?_|refine tw rfl ?_|refine tf rfl ?_)
 refine iff_ rfl rfl ?_
 refine cx 1 (v_has 2 4) rfl rfl rfl ?_
 rintro _ _ ⟨rfl,rfl⟩
 refine ⟨.inl rfl,?_⟩
 repeat (first|refine gt rfl ?_|refine gf rfl ?_|refine tw rfl ?_|refine tf rfl ?_)
 refine iff_ rfl rfl ?_
 refine cx 1 (v_has 2 4) rfl rfl rfl ?_
 rintro _ _ ⟨rfl,rfl⟩
 refine ⟨.inl rfl,?_⟩
 repeat (first|refine gt rfl ?_|refine gf rfl ?_|refine tw rfl ?_|refine tf rfl ?_)
 refine cx 1 (v_has 2 5) rfl rfl rfl ?_
 rintro _ _ ⟨rfl,rfl⟩
 refine ⟨.inl rfl,?_⟩
 repeat (first|refine gt rfl ?_|refine gf rfl ?_|refine tw rfl ?_|refine tf rfl ?_)
 refine iff_ rfl rfl ?_
 refine cx 1 (v_has 2 3) rfl rfl rfl ?_
 rintro _ _ ⟨rfl,rfl⟩
 refine ⟨.inl rfl,?_⟩
 repeat (first|refine gt rfl ?_|refine gf rfl ?_|refine tw rfl ?_|refine tf rfl ?_)
 refine cx 1 (v_has 2 5) rfl rfl rfl ?_
 rintro _ _ ⟨rfl,rfl⟩
 refine ⟨.inl rfl,?_⟩
 repeat (first|refine gt rfl ?_|refine gf rfl ?_|refine tw rfl ?_|refine tf rfl ?_)
 refine cx 1 (v_has 2 6) rfl rfl rfl ?_
 rintro _ _ ⟨rfl,rfl⟩
 refine ⟨.inl rfl,?_⟩
 repeat (first|refine gt rfl ?_|refine gf rfl ?_|refine tw rfl ?_|refine tf rfl ?_)
 exact rfl
theorem v_formed1 {q : Rat} (h : lr q ≤ 50000) : Pc Tryz.prog 94 [iq q] (· = .raw (.bool false)):=by
 refine pc Tryz.func94 ?_
 refine ce (v_fraction h) rfl ?_
 exact rfl
theorem v_formedN {q : Rat} (h : lr q ≤ 50000) {d : Int} : Pc Tryz.prog 53 [VN q,.raw (.int .i64 d)] (· = .raw (.bool true)):=by
 refine pc Tryz.func53 ?_
 refine clk [2] (v_blankN (q:=q)) rfl rfl ?_
 rintro _ rfl
 refine iff_ rfl rfl ?_
 refine ift rfl rfl ?_
 refine ce (v_fraction h) rfl ?_
 exact rfl
theorem v_formedM {r c : Nat} {A : Nat → Nat → Rat} (hr : r ≤ 64) (hc : c ≤ 64) (ha : LB 10000 r c A) {d : Int} : Pc Tryz.prog 53 [VM r c A,.raw (.int .i64 d)] (· = .raw (.bool true)):=by
 have hrc : r * c ≤ 64 * 64:=Nat.mul_le_mul hr hc
 refine pc Tryz.func53 ?_
 refine clk [2] (v_blankM (n:=r) (m:=c) (x:=.sl ((tq c A (r * c)).map qc).length 4 ((tq c A (r * c)).map qc).flatten)) rfl rfl ?_
 rintro _ rfl
 refine iff_ rfl rfl ?_
 refine iff_ rfl rfl ?_
 refine ift rfl rfl ?_
 refine ce (qM_Formed hr hc) rfl ?_
 iterate 4 refine gt rfl ?_
 refine ce (q_ContainsFunc (f:=94) (a:=[]) (b:=[]) (xs:=tq c A (r * c)) (by rw [tq_len]; omega) (fun x hx=>by obtain ⟨i,k,hi,hk,rfl⟩:=mem_tq hx; exact v_formed1 (by have:=ha i k hi hk; omega))) rfl ?_
 repeat (first|refine gt rfl ?_|refine gf rfl ?_|refine tw rfl ?_|refine tf rfl ?_)
 exact rfl
theorem v_FormedN {q : Rat} (h : lr q ≤ 50000) : Pc Tryz.prog 36 [VN q] (· = .raw (.bool true)):=by
 refine pc Tryz.func36 ?_
 refine ce (v_formedN h) rfl ?_
 exact rfl
theorem v_FormedM {r c : Nat} {A : Nat → Nat → Rat} (hr : r ≤ 64) (hc : c ≤ 64) (ha : LB 10000 r c A) : Pc Tryz.prog 36 [VM r c A] (· = .raw (.bool true)):=by
 refine pc Tryz.func36 ?_
 refine ce (v_formedM hr hc ha) rfl ?_
 exact rfl
theorem v_sameN {q : Rat} (h : lr q ≤ 20000) : Pc Tryz.prog 210 [VN q,VN q] (· = .raw (.bool true)):=by
 refine pc Tryz.func210 ?_
 repeat (first|refine gt rfl ?_|refine gf rfl ?_|refine tw rfl ?_|refine tf rfl ?_)
 refine iff_ rfl rfl ?_
 refine ift rfl rfl ?_
 refine ce (r_Cmp (a:=q) (b:=q) h h) rfl ?_
 rw [Rat.sub_self]
 exact rfl
theorem v_sameM {r c : Nat} {A : Nat → Nat → Rat} (hr : r ≤ 64) (hc : c ≤ 64) (ha : LB 10000 r c A) : Pc Tryz.prog 210 [VM r c A,VM r c A] (· = .raw (.bool true)):=by
 refine pc Tryz.func210 ?_
 repeat (first|refine gt rfl ?_|refine gf rfl ?_|refine tw rfl ?_|refine tf rfl ?_)
 refine iff_ rfl rfl ?_
 refine iff_ rfl rfl ?_
 refine ift rfl rfl ?_
 refine ce (q_Same hr hc ha) rfl ?_
 exact rfl
theorem v_Number {q : Rat} (h : lr q ≤ 20000) : Pc Tryz.prog 169 [iq q] (· = VN q):=by
 refine pc Tryz.func169 ?_
 refine rq [0,1,2,3,4,5] ?_
 refine ce r_Of0 rfl ?_
 refine ce (r_Add (a:=q) (b:=0) h (Nat.le_trans lr_zero (by decide))) rfl ?_
 rw [Rat.add_zero]
 exact rfl
theorem v_Whole {z : Int} (h : li z ≤ 20000) : Pc Tryz.prog 130 [iz z] (· = VN (z : Rat)):=by
 refine pc Tryz.func130 ?_
 refine ce (r_Of (z:=z) (by omega)) rfl ?_
 refine ce (v_Number (q:=(z : Rat)) (by rw [lr_int,ln_one]; omega)) rfl ?_
 exact rfl
theorem v_Truth (b : Bool) : Pc Tryz.prog 209 [.raw (.bool b)] (· = VN (if b = true then 1 else 0)):=by
 refine pc Tryz.func209 ?_
 cases b with
 | true=>
  refine ift rfl rfl ?_
  refine ce (z_Of (x:=1) (by decide) (by decide)) rfl ?_
  refine ce (v_Whole (z:=1) (Nat.le_trans (Nat.le_of_eq ln_one) (by decide))) rfl ?_
  exact rfl
 | false=>
  refine iff_ rfl rfl ?_
  refine ce ((v_Whole (z:=0) (Nat.le_trans li0 (by decide))).sub (xs:=[.agg [.raw (.bool false),.raw (.slice none 0 0)]]) ⟨z_nil,trivial⟩) rfl ?_
  exact rfl
end Go.Proofs.YtlhmaljjdpjkgaaGreatDoor
