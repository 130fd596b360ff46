/- A column of a reduced form. -/
import Derived.Test.YtlhmaljjdpjkgaaGreatDoorTaM11
set_option maxHeartbeats 4000000
namespace Go.Proofs.YtlhmaljjdpjkgaaGreatDoor
open Go Go.RowKit
theorem q_ct1_0 {m col L : Nat} {W : Nat → Nat → Rat} {P : List Nat} (hm : m ≤ 64) (hc : col < m) (hL : L ≤ 900) (hl : ∀ i k,i < 1 → k < m → lr (W i k) ≤ L) {i : Nat} (hi : 0 ≤ i) (hin : i < 1) (h0 : W i col ≠ 0) (t : Nat → AV) :
  vcC Tryz.prog (Tb (fun i=>!Nat.beq i 3)) (dropC 9 (codeOf Tryz.f471)) (mkT [(0,.ref 3 0),(3,.ref 0 0),(4,ri .i64 0),(6,.own 1),(7,.ref 5 0),(74,ri .i64 m),(75,ri .i64 0)] t) [bC col,RW m (swp W 0 i 0),.rowa 38 1 1 [.own 1],.box 391 [.own 2,ri .i64 m,.own 4],PV 0 P,.box 49 ((qc (1 / (swp W 0 i) 0 col)).map .im)]
   (RetK (Tb (fun i=>!Nat.beq i 3)) [] (EndE (fun i=>!Nat.beq i 3) (fun x H'=>x = .tup [] ∧ ((H' = hw1 m W 0 P ∧ ∀ i,0 ≤ i → i < 1 → W i col = 0) ∨ ∃ i,0 ≤ i ∧ i < 1 ∧ W i col ≠ 0 ∧ H' = hw1 m (elm W 0 i col (1 / W i col)) 1 (P ++ [col]))))):=by
 obtain ⟨V,hV⟩ : ∃ V,V = swp W 0 i:=⟨_,rfl⟩
 have hVl : ∀ r k,r < 1 → k < m → lr (V r k) ≤ L:=fun r k hr hk=>by rw [hV]; unfold swp; (repeat' split) <;> first | exact hl i k hin hk | exact hl 0 k (by decide) hk | exact hl r k hr hk
 have hVq : ∀ k,V 0 k = W i k:=fun k=>by rw [hV]; unfold swp; rw [if_pos rfl]
 have hVn : V 0 col ≠ 0:=by rw [hVq]; exact h0
 have hcl : lr (1 / V 0 col) ≤ L:=Nat.le_trans (lr_inv _ hVn) (hVl 0 col (by decide) hc)
 rw [← hV]
 refine lpt (fun j : Nat=>j ≤ m) (fun j=>[(0,.ref 3 0),(3,.ref 0 0),(4,ri .i64 0),(6,.own 1),(7,.ref 5 0),(74,ri .i64 m),(75,ri .i64 j)]) (fun j=>[bC col,RW m (mix j (fun k=>V 0 k * (1 / V 0 col)) (V 0)),.rowa 38 1 1 [.own 1],.box 391 [.own 2,ri .i64 m,.own 4],PV 0 P,.box 49 ((qc (1 / V 0 col)).map .im)]) (fun j=>m - j) 0 (Nat.zero_le _) (tsr rfl) (by rw [mix_zero] <;> rfl) ?_
 intro j t hj
 refine ifs rfl (fun hlt=>?_) (fun hge=>?_)
 ·have hlt:=of_decide_eq_true hlt
  have hjm : j < m:=by omega
  have l1:=hVl 0 j (by decide) hjm
  refine rq [0,1,2,3,4,5,6,7,8,9] ?_
  refine ⟨⟨by omega,by omega⟩,?_⟩
  refine gq j hjm (by rw [Int.toNat_natCast]) ?_
  rw [mix_at]
  refine ce (r_Mul (a:=V 0 j) (b:=1 / V 0 col) (by omega) (by omega)) rfl ?_
  refine ⟨⟨by omega,by omega⟩,?_⟩
  refine ⟨by rw [rC_len]; show (j : Int).toNat * 4 + 4 ≤ _; omega,?_⟩
  refine nxg [0,1,2,3,4,5] (j + 1) (by omega) rfl ⟨by omega,⟨rfl,rfl,rfl,rfl,rfl,rfl,congrArg (ri .i64) (i64s (by omega)).symm,trivial⟩,?_⟩
  have e : putAt (rC m (mix j (fun k=>V 0 k * (1 / V 0 col)) (V 0))) (j * 4) (qc (V 0 j * (1 / V 0 col))) = rC m (mix (j + 1) (fun k=>V 0 k * (1 / V 0 col)) (V 0)):=by
   rw [rC_put _ hjm]; exact congrArg _ (mix_succ j (fun k=>V 0 k * (1 / V 0 col)) (V 0))
  exact congrArg (fun l=>[bC col,.row 49 4 m l,.rowa 38 1 1 [.own 1],.box 391 [.own 2,ri .i64 m,.own 4],PV 0 P,.box 49 ((qc (1 / V 0 col)).map .im)]) e
 ·have hge:=of_decide_eq_false hge
  obtain rfl : j = m:=by omega
  refine lpn 2 ?_
  obtain ⟨g,hg⟩ : ∃ g,g = mix j (fun k=>V 0 k * (1 / V 0 col)) (V 0):=⟨_,rfl⟩
  have hgk : ∀ k,k < j → g k = V 0 k * (1 / V 0 col):=fun k hk=>by rw [hg]; exact if_pos hk
  have hgl : ∀ k,k < j → lr (g k) ≤ 9000:=fun k hk=>by rw [hgk k hk]; have l1:=hVl 0 k (by decide) hk; have:=lr_mul (V 0 k) (1 / V 0 col); omega
  have hvl : ∀ r k,r < 1 → k < j → lr (V r k) ≤ 9000:=fun r k hr hk=>by have:=hVl r k hr hk; omega
  rw [← hg]
  refine ift rfl rfl ?_
  refine ⟨by decide,?_⟩
  refine ga ?_
  refine iff_ rfl rfl ?_
  refine iff_ rfl rfl ?_
  have he : [.row 3 1 1 (pvs P ++ [.raw (.int .i64 (col : Int))]),RW j g,.rowa 38 1 1 [.own 1],.box 391 [.own 2,ri .i64 j,.own 0]] = hw1 j (elm W 0 i col (1 / W i col)) 1 (P ++ [col]):=by
   rw [pvs_app,rW_congr (g:=g) (h:=elm W 0 i col (1 / W i col) 0) (fun k hk=>by rw [hgk k hk,elm_top,hVq,hVq])]; rfl
  have hd : (0 + 1) * 8 ≤ 140737488355328 ∧ 0 + 1 ≤ 1000000000:=by decide
  refine rt (PT.app [1,2,3,4,5] (.br 0 (PT.app [6,7,8,9,10] .nil) 6 (.br 0 (PT.app [7,8,9,10] .nil) 7 (PT.app [0,8,9,10] .nil)))) ?_
  refine ⟨?_,?_,?_⟩ <;> refine ⟨hd,?_⟩ <;> exact fin [4,1,2,3] rfl ⟨rfl,.inr ⟨i,hi,hin,h0,Eq.trans rfl he⟩⟩
theorem q_col1_0 {m col L : Nat} {W : Nat → Nat → Rat} {P : List Nat} (hm : m ≤ 64) (hc : col < m) (hL : L ≤ 900) (hl : ∀ i k,i < 1 → k < m → lr (W i k) ≤ L) :
  Ec Tryz.prog 471 (fun i=>!Nat.beq i 3) (hw1 m W 0 P) [.ref 3 0,ri .i64 col] (fun x H'=>x = .tup [] ∧ ((H' = hw1 m W 0 P ∧ ∀ i,0 ≤ i → i < 1 → W i col = 0) ∨ ∃ i,0 ≤ i ∧ i < 1 ∧ W i col ≠ 0 ∧ H' = hw1 m (elm W 0 i col (1 / W i col)) 1 (P ++ [col]))):=by
 have hl' : ∀ i,i < 1 → lr (W i col) ≤ 100000:=fun i hi=>by have:=hl i col hi hc; omega
 refine ec Tryz.func471 ?_
 refine ⟨(by decide : (0 : Int) ≤ 0 ∧ (0 : Int) < 1 ∧ (1 : Int) ≤ 1),?_⟩
 refine cxg [4,1,2,3,0] 3 [1] (q_idx1_0 (W:=W) hm hc hl') rfl rfl rfl rfl ?_
 rintro x _ ⟨rfl,hx⟩
 refine ⟨.inl rfl,?_⟩
 rcases hx with ⟨rfl,h0⟩ | ⟨i,hi,rfl,h0⟩
 ·refine ift rfl rfl ?_
  exact fin [4,1,2,3] rfl ⟨rfl,.inl ⟨rfl,h0⟩⟩
 ·have hi : i = 0:=by omega
  rcases hi with rfl
  ·refine iff_ rfl rfl ?_
   refine rqa [0,1,2,3,4,5,6,7,8,9,10,11,12,13,14,15,16,17,18,19,20,21,22,23,24,25,26,27,28,29,30,31] [(9,[2],some []),(10,[2],some []),(11,[2],some []),(29,[],some [2])] ?_
   refine ⟨(by decide : (0 : Int) ≤ IntKind.i64.wrap ((0 : Int) + 0) ∧ IntKind.i64.wrap ((0 : Int) + 0) < 1),?_⟩
   refine ga ?_
   refine ⟨(by decide : (0 : Int) ≤ 0 ∧ (0 : Int) < 1),?_⟩
   refine ga ?_
   refine ⟨(by decide : (0 : Int) ≤ 0 ∧ (0 : Int) < 1),?_⟩
   refine ⟨(by decide : 0 + 1 ≤ 1),?_⟩
   refine ⟨(by decide : (0 : Int) ≤ IntKind.i64.wrap ((0 : Int) + 0) ∧ IntKind.i64.wrap ((0 : Int) + 0) < 1),?_⟩
   refine ⟨(by decide : 0 + 1 ≤ 1),?_⟩
   refine ⟨(by decide : (0 : Int) ≤ 0 ∧ (0 : Int) < 1),?_⟩
   refine ga ?_
   have hb:=hl 0 col (by decide) hc
   have hq:=r_Quo (a:=1) (b:=W 0 col) h0 (Nat.le_trans lr_one (by decide)) (by omega)
   refine rta (PT.app [1,2,3,4] (.br 0 (.br 5 (PT.app [6,7,8,9,10,11] .nil) 9 (PT.app [5,6,7,8,10,11] .nil)) 9 (PT.app [0,5,6,7,8,10,11] .nil))) [(8,[5],some []),(10,[],some [5])] ?_
   refine ⟨⟨by omega,by omega⟩,?_⟩
   refine gq col hc (by rw [Int.toNat_natCast]) ?_
   refine ⟨?_,?_⟩
   ·refine ce c_one rfl ?_
    refine ⟨?_,?_⟩
    ·refine ce hq rfl ?_
     refine lgc [0,1,2,3,4,5] rfl ?_
     refine meetL [(0,.ref 3 0),(3,.ref 0 0),(4,ri .i64 0),(6,.own 1),(7,.ref 5 0),(74,ri .i64 m),(75,ri .i64 0)] (tsr rfl) (h:=[bC col,RW m (swp W 0 0 0),.rowa 38 1 1 [.own 1],.box 391 [.own 2,ri .i64 m,.own 4],PV 0 P,.box 49 ((qc (1 / (swp W 0 0) 0 col)).map .im)]) rfl ?_
     exact q_ct1_0 hm hc hL hl (i:=0) (by decide) (by decide) h0 _
    ·refine ce hq rfl ?_
     refine lgc [0,1,2,3,4,5] rfl ?_
     refine meetL [(0,.ref 3 0),(3,.ref 0 0),(4,ri .i64 0),(6,.own 1),(7,.ref 5 0),(74,ri .i64 m),(75,ri .i64 0)] (tsr rfl) (h:=[bC col,RW m (swp W 0 0 0),.rowa 38 1 1 [.own 1],.box 391 [.own 2,ri .i64 m,.own 4],PV 0 P,.box 49 ((qc (1 / (swp W 0 0) 0 col)).map .im)]) rfl ?_
     exact q_ct1_0 hm hc hL hl (i:=0) (by decide) (by decide) h0 _
   ·refine ce c_one rfl ?_
    refine ce hq rfl ?_
    refine lgc [0,1,2,3,4,5] rfl ?_
    refine meetL [(0,.ref 3 0),(3,.ref 0 0),(4,ri .i64 0),(6,.own 1),(7,.ref 5 0),(74,ri .i64 m),(75,ri .i64 0)] (tsr rfl) (h:=[bC col,RW m (swp W 0 0 0),.rowa 38 1 1 [.own 1],.box 391 [.own 2,ri .i64 m,.own 4],PV 0 P,.box 49 ((qc (1 / (swp W 0 0) 0 col)).map .im)]) rfl ?_
    exact q_ct1_0 hm hc hL hl (i:=0) (by decide) (by decide) h0 _
theorem q_ct2_0 {m col L : Nat} {W : Nat → Nat → Rat} {P : List Nat} (hm : m ≤ 64) (hc : col < m) (hL : L ≤ 900) (hl : ∀ i k,i < 2 → k < m → lr (W i k) ≤ L) {i : Nat} (hi : 0 ≤ i) (hin : i < 2) (h0 : W i col ≠ 0) (t : Nat → AV) :
  vcC Tryz.prog (Tb (fun i=>!Nat.beq i 4)) (dropC 9 (codeOf Tryz.f471)) (mkT [(0,.ref 4 0),(3,.ref 0 0),(4,ri .i64 0),(6,.own 1),(7,.ref 6 0),(74,ri .i64 m),(75,ri .i64 0)] t) [bC col,RW m (swp W 0 i 0),RW m ((swp W 0 i) 1),.rowa 38 1 2 [.own 1,.own 2],.box 391 [.own 3,ri .i64 m,.own 5],PV 0 P,.box 49 ((qc (1 / (swp W 0 i) 0 col)).map .im)]
   (RetK (Tb (fun i=>!Nat.beq i 4)) [] (EndE (fun i=>!Nat.beq i 4) (fun x H'=>x = .tup [] ∧ ((H' = hw2 m W 0 P ∧ ∀ i,0 ≤ i → i < 2 → W i col = 0) ∨ ∃ i,0 ≤ i ∧ i < 2 ∧ W i col ≠ 0 ∧ H' = hw2 m (elm W 0 i col (1 / W i col)) 1 (P ++ [col]))))):=by
 obtain ⟨V,hV⟩ : ∃ V,V = swp W 0 i:=⟨_,rfl⟩
 have hVl : ∀ r k,r < 2 → k < m → lr (V r k) ≤ L:=fun r k hr hk=>by rw [hV]; unfold swp; (repeat' split) <;> first | exact hl i k hin hk | exact hl 0 k (by decide) hk | exact hl r k hr hk
 have hVq : ∀ k,V 0 k = W i k:=fun k=>by rw [hV]; unfold swp; rw [if_pos rfl]
 have hVn : V 0 col ≠ 0:=by rw [hVq]; exact h0
 have hcl : lr (1 / V 0 col) ≤ L:=Nat.le_trans (lr_inv _ hVn) (hVl 0 col (by decide) hc)
 rw [← hV]
 refine lpt (fun j : Nat=>j ≤ m) (fun j=>[(0,.ref 4 0),(3,.ref 0 0),(4,ri .i64 0),(6,.own 1),(7,.ref 6 0),(74,ri .i64 m),(75,ri .i64 j)]) (fun j=>[bC col,RW m (mix j (fun k=>V 0 k * (1 / V 0 col)) (V 0)),RW m (V 1),.rowa 38 1 2 [.own 1,.own 2],.box 391 [.own 3,ri .i64 m,.own 5],PV 0 P,.box 49 ((qc (1 / V 0 col)).map .im)]) (fun j=>m - j) 0 (Nat.zero_le _) (tsr rfl) (by rw [mix_zero] <;> rfl) ?_
 intro j t hj
 refine ifs rfl (fun hlt=>?_) (fun hge=>?_)
 ·have hlt:=of_decide_eq_true hlt
  have hjm : j < m:=by omega
  have l1:=hVl 0 j (by decide) hjm
  refine rq [0,1,2,3,4,5,6,7,8,9] ?_
  refine ⟨⟨by omega,by omega⟩,?_⟩
  refine gq j hjm (by rw [Int.toNat_natCast]) ?_
  rw [mix_at]
  refine ce (r_Mul (a:=V 0 j) (b:=1 / V 0 col) (by omega) (by omega)) rfl ?_
  refine ⟨⟨by omega,by omega⟩,?_⟩
  refine ⟨by rw [rC_len]; show (j : Int).toNat * 4 + 4 ≤ _; omega,?_⟩
  refine nxg [0,1,2,3,4,5,6] (j + 1) (by omega) rfl ⟨by omega,⟨rfl,rfl,rfl,rfl,rfl,rfl,congrArg (ri .i64) (i64s (by omega)).symm,trivial⟩,?_⟩
  have e : putAt (rC m (mix j (fun k=>V 0 k * (1 / V 0 col)) (V 0))) (j * 4) (qc (V 0 j * (1 / V 0 col))) = rC m (mix (j + 1) (fun k=>V 0 k * (1 / V 0 col)) (V 0)):=by
   rw [rC_put _ hjm]; exact congrArg _ (mix_succ j (fun k=>V 0 k * (1 / V 0 col)) (V 0))
  exact congrArg (fun l=>[bC col,.row 49 4 m l,RW m (V 1),.rowa 38 1 2 [.own 1,.own 2],.box 391 [.own 3,ri .i64 m,.own 5],PV 0 P,.box 49 ((qc (1 / V 0 col)).map .im)]) e
 ·have hge:=of_decide_eq_false hge
  obtain rfl : j = m:=by omega
  refine lpn 3 ?_
  obtain ⟨g,hg⟩ : ∃ g,g = mix j (fun k=>V 0 k * (1 / V 0 col)) (V 0):=⟨_,rfl⟩
  have hgk : ∀ k,k < j → g k = V 0 k * (1 / V 0 col):=fun k hk=>by rw [hg]; exact if_pos hk
  have hgl : ∀ k,k < j → lr (g k) ≤ 9000:=fun k hk=>by rw [hgk k hk]; have l1:=hVl 0 k (by decide) hk; have:=lr_mul (V 0 k) (1 / V 0 col); omega
  have hvl : ∀ r k,r < 2 → k < j → lr (V r k) ≤ 9000:=fun r k hr hk=>by have:=hVl r k hr hk; omega
  rw [← hg]
  refine ift rfl rfl ?_
  refine ⟨by decide,?_⟩
  refine ga ?_
  refine iff_ rfl rfl ?_
  refine ift rfl rfl ?_
  refine ⟨by decide,?_⟩
  refine ga ?_
  refine ift rfl rfl ?_
  refine ⟨⟨by omega,by omega⟩,?_⟩
  refine gq col hc (by rw [Int.toNat_natCast]) ?_
  refine cxg [2,1,0,3,4,5,6] 2 [] (q_take (g:=V 1) (h:=g) (f:=V 1 col) hm (fun k hk=>hvl 1 k (by decide) hk) hgl (hvl 1 col (by decide) hc)) rfl rfl rfl rfl ?_
  rintro _ _ ⟨rfl,rfl⟩
  refine ⟨.inl rfl,?_⟩
  refine iff_ rfl rfl ?_
  have he : [.row 3 1 1 (pvs P ++ [.raw (.int .i64 (col : Int))]),RW j g,RW j (fun k=>V 1 k - V 1 col * g k),.rowa 38 1 2 [.own 1,.own 2],.box 391 [.own 3,ri .i64 j,.own 0]] = hw2 j (elm W 0 i col (1 / W i col)) 1 (P ++ [col]):=by
   rw [pvs_app,rW_congr (g:=g) (h:=elm W 0 i col (1 / W i col) 0) (fun k hk=>by rw [hgk k hk,elm_top,hVq,hVq]),rW_congr (g:=fun k=>V 1 k - V 1 col * g k) (h:=elm W 0 i col (1 / W i col) 1) (fun k hk=>by rw [hgk k hk,elm_ne _ _ (by decide),hVq,hVq,hV])]; rfl
  have hd : (0 + 1) * 8 ≤ 140737488355328 ∧ 0 + 1 ≤ 1000000000:=by decide
  refine rt (PT.app [1,2,3,4,5] (.br 0 (PT.app [6,7,8,9,10] .nil) 6 (.br 0 (PT.app [7,8,9,10] .nil) 7 (PT.app [0,8,9,10] .nil)))) ?_
  refine ⟨?_,?_,?_⟩ <;> refine ⟨hd,?_⟩ <;> exact fin [5,1,0,3,4] rfl ⟨rfl,.inr ⟨i,hi,hin,h0,Eq.trans rfl he⟩⟩
theorem q_col2_0 {m col L : Nat} {W : Nat → Nat → Rat} {P : List Nat} (hm : m ≤ 64) (hc : col < m) (hL : L ≤ 900) (hl : ∀ i k,i < 2 → k < m → lr (W i k) ≤ L) :
  Ec Tryz.prog 471 (fun i=>!Nat.beq i 4) (hw2 m W 0 P) [.ref 4 0,ri .i64 col] (fun x H'=>x = .tup [] ∧ ((H' = hw2 m W 0 P ∧ ∀ i,0 ≤ i → i < 2 → W i col = 0) ∨ ∃ i,0 ≤ i ∧ i < 2 ∧ W i col ≠ 0 ∧ H' = hw2 m (elm W 0 i col (1 / W i col)) 1 (P ++ [col]))):=by
 have hl' : ∀ i,i < 2 → lr (W i col) ≤ 100000:=fun i hi=>by have:=hl i col hi hc; omega
 refine ec Tryz.func471 ?_
 refine ⟨(by decide : (0 : Int) ≤ 0 ∧ (0 : Int) < 2 ∧ (2 : Int) ≤ 2),?_⟩
 refine cxg [5,1,2,3,4,0] 4 [1,2] (q_idx2_0 (W:=W) hm hc hl') rfl rfl rfl rfl ?_
 rintro x _ ⟨rfl,hx⟩
 refine ⟨.inl rfl,?_⟩
 rcases hx with ⟨rfl,h0⟩ | ⟨i,hi,rfl,h0⟩
 ·refine ift rfl rfl ?_
  exact fin [5,1,2,3,4] rfl ⟨rfl,.inl ⟨rfl,h0⟩⟩
 ·have hi : i = 0 ∨ i = 1:=by omega
  rcases hi with rfl | rfl
  ·refine iff_ rfl rfl ?_
   refine rqa [0,1,2,3,4,5,6,7,8,9,10,11,12,13,14,15,16,17,18,19,20,21,22,23,24,25,26,27,28,29,30,31] [(9,[3],some []),(10,[3],some []),(11,[3],some []),(29,[],some [3])] ?_
   refine ⟨(by decide : (0 : Int) ≤ IntKind.i64.wrap ((0 : Int) + 0) ∧ IntKind.i64.wrap ((0 : Int) + 0) < 2),?_⟩
   refine ga ?_
   refine ⟨(by decide : (0 : Int) ≤ 0 ∧ (0 : Int) < 2),?_⟩
   refine ga ?_
   refine ⟨(by decide : (0 : Int) ≤ 0 ∧ (0 : Int) < 2),?_⟩
   refine ⟨(by decide : 0 + 1 ≤ 2),?_⟩
   refine ⟨(by decide : (0 : Int) ≤ IntKind.i64.wrap ((0 : Int) + 0) ∧ IntKind.i64.wrap ((0 : Int) + 0) < 2),?_⟩
   refine ⟨(by decide : 0 + 1 ≤ 2),?_⟩
   refine ⟨(by decide : (0 : Int) ≤ 0 ∧ (0 : Int) < 2),?_⟩
   refine ga ?_
   have hb:=hl 0 col (by decide) hc
   have hq:=r_Quo (a:=1) (b:=W 0 col) h0 (Nat.le_trans lr_one (by decide)) (by omega)
   refine rta (PT.app [1,2,3,4] (.br 0 (.br 5 (PT.app [6,7,8,9,10,11] .nil) 9 (PT.app [5,6,7,8,10,11] .nil)) 9 (PT.app [0,5,6,7,8,10,11] .nil))) [(8,[6],some []),(10,[],some [6])] ?_
   refine ⟨⟨by omega,by omega⟩,?_⟩
   refine gq col hc (by rw [Int.toNat_natCast]) ?_
   refine ⟨?_,?_⟩
   ·refine ce c_one rfl ?_
    refine ⟨?_,?_⟩
    ·refine ce hq rfl ?_
     refine lgc [0,1,2,3,4,5,6] rfl ?_
     refine meetL [(0,.ref 4 0),(3,.ref 0 0),(4,ri .i64 0),(6,.own 1),(7,.ref 6 0),(74,ri .i64 m),(75,ri .i64 0)] (tsr rfl) (h:=[bC col,RW m (swp W 0 0 0),RW m ((swp W 0 0) 1),.rowa 38 1 2 [.own 1,.own 2],.box 391 [.own 3,ri .i64 m,.own 5],PV 0 P,.box 49 ((qc (1 / (swp W 0 0) 0 col)).map .im)]) rfl ?_
     exact q_ct2_0 hm hc hL hl (i:=0) (by decide) (by decide) h0 _
    ·refine ce hq rfl ?_
     refine lgc [0,1,2,3,4,5,6] rfl ?_
     refine meetL [(0,.ref 4 0),(3,.ref 0 0),(4,ri .i64 0),(6,.own 1),(7,.ref 6 0),(74,ri .i64 m),(75,ri .i64 0)] (tsr rfl) (h:=[bC col,RW m (swp W 0 0 0),RW m ((swp W 0 0) 1),.rowa 38 1 2 [.own 1,.own 2],.box 391 [.own 3,ri .i64 m,.own 5],PV 0 P,.box 49 ((qc (1 / (swp W 0 0) 0 col)).map .im)]) rfl ?_
     exact q_ct2_0 hm hc hL hl (i:=0) (by decide) (by decide) h0 _
   ·refine ce c_one rfl ?_
    refine ce hq rfl ?_
    refine lgc [0,1,2,3,4,5,6] rfl ?_
    refine meetL [(0,.ref 4 0),(3,.ref 0 0),(4,ri .i64 0),(6,.own 1),(7,.ref 6 0),(74,ri .i64 m),(75,ri .i64 0)] (tsr rfl) (h:=[bC col,RW m (swp W 0 0 0),RW m ((swp W 0 0) 1),.rowa 38 1 2 [.own 1,.own 2],.box 391 [.own 3,ri .i64 m,.own 5],PV 0 P,.box 49 ((qc (1 / (swp W 0 0) 0 col)).map .im)]) rfl ?_
    exact q_ct2_0 hm hc hL hl (i:=0) (by decide) (by decide) h0 _
  ·refine iff_ rfl rfl ?_
   refine rqa [0,1,2,3,4,5,6,7,8,9,10,11,12,13,14,15,16,17,18,19,20,21,22,23,24,25,26,27,28,29,30,31] [(9,[3],some []),(10,[3],some []),(11,[3],some []),(29,[],some [3])] ?_
   refine ⟨(by decide : (0 : Int) ≤ IntKind.i64.wrap ((0 : Int) + 1) ∧ IntKind.i64.wrap ((0 : Int) + 1) < 2),?_⟩
   refine ga ?_
   refine ⟨(by decide : (0 : Int) ≤ 0 ∧ (0 : Int) < 2),?_⟩
   refine ga ?_
   refine ⟨(by decide : (0 : Int) ≤ 0 ∧ (0 : Int) < 2),?_⟩
   refine ⟨(by decide : 0 + 1 ≤ 2),?_⟩
   refine ⟨(by decide : (0 : Int) ≤ IntKind.i64.wrap ((0 : Int) + 1) ∧ IntKind.i64.wrap ((0 : Int) + 1) < 2),?_⟩
   refine ⟨(by decide : 1 + 1 ≤ 2),?_⟩
   refine ⟨(by decide : (0 : Int) ≤ 0 ∧ (0 : Int) < 2),?_⟩
   refine ga ?_
   have hb:=hl 1 col (by decide) hc
   have hq:=r_Quo (a:=1) (b:=W 1 col) h0 (Nat.le_trans lr_one (by decide)) (by omega)
   refine rta (PT.app [1,2,3,4] (.br 0 (.br 5 (PT.app [6,7,8,9,10,11] .nil) 9 (PT.app [5,6,7,8,10,11] .nil)) 9 (PT.app [0,5,6,7,8,10,11] .nil))) [(8,[6],some []),(10,[],some [6])] ?_
   refine ⟨⟨by omega,by omega⟩,?_⟩
   refine gq col hc (by rw [Int.toNat_natCast]) ?_
   refine ⟨?_,?_⟩
   ·refine ce c_one rfl ?_
    refine ⟨?_,?_⟩
    ·refine ce hq rfl ?_
     refine lgc [0,2,1,3,4,5,6] rfl ?_
     refine meetL [(0,.ref 4 0),(3,.ref 0 0),(4,ri .i64 0),(6,.own 1),(7,.ref 6 0),(74,ri .i64 m),(75,ri .i64 0)] (tsr rfl) (h:=[bC col,RW m (swp W 0 1 0),RW m ((swp W 0 1) 1),.rowa 38 1 2 [.own 1,.own 2],.box 391 [.own 3,ri .i64 m,.own 5],PV 0 P,.box 49 ((qc (1 / (swp W 0 1) 0 col)).map .im)]) rfl ?_
     exact q_ct2_0 hm hc hL hl (i:=1) (by decide) (by decide) h0 _
    ·refine ce hq rfl ?_
     refine lgc [0,2,1,3,4,5,6] rfl ?_
     refine meetL [(0,.ref 4 0),(3,.ref 0 0),(4,ri .i64 0),(6,.own 1),(7,.ref 6 0),(74,ri .i64 m),(75,ri .i64 0)] (tsr rfl) (h:=[bC col,RW m (swp W 0 1 0),RW m ((swp W 0 1) 1),.rowa 38 1 2 [.own 1,.own 2],.box 391 [.own 3,ri .i64 m,.own 5],PV 0 P,.box 49 ((qc (1 / (swp W 0 1) 0 col)).map .im)]) rfl ?_
     exact q_ct2_0 hm hc hL hl (i:=1) (by decide) (by decide) h0 _
   ·refine ce c_one rfl ?_
    refine ce hq rfl ?_
    refine lgc [0,2,1,3,4,5,6] rfl ?_
    refine meetL [(0,.ref 4 0),(3,.ref 0 0),(4,ri .i64 0),(6,.own 1),(7,.ref 6 0),(74,ri .i64 m),(75,ri .i64 0)] (tsr rfl) (h:=[bC col,RW m (swp W 0 1 0),RW m ((swp W 0 1) 1),.rowa 38 1 2 [.own 1,.own 2],.box 391 [.own 3,ri .i64 m,.own 5],PV 0 P,.box 49 ((qc (1 / (swp W 0 1) 0 col)).map .im)]) rfl ?_
    exact q_ct2_0 hm hc hL hl (i:=1) (by decide) (by decide) h0 _
theorem q_ct2_1 {m col L : Nat} {W : Nat → Nat → Rat} {P : List Nat} (hm : m ≤ 64) (hc : col < m) (hL : L ≤ 900) (hl : ∀ i k,i < 2 → k < m → lr (W i k) ≤ L) {i : Nat} (hi : 1 ≤ i) (hin : i < 2) (h0 : W i col ≠ 0) (t : Nat → AV) :
  vcC Tryz.prog (Tb (fun i=>!Nat.beq i 4)) (dropC 9 (codeOf Tryz.f471)) (mkT [(0,.ref 4 0),(3,.ref 0 0),(4,ri .i64 1),(6,.own 2),(7,.ref 6 0),(74,ri .i64 m),(75,ri .i64 0)] t) [bC col,RW m ((swp W 1 i) 0),RW m (swp W 1 i 1),.rowa 38 1 2 [.own 1,.own 2],.box 391 [.own 3,ri .i64 m,.own 5],PV 1 P,.box 49 ((qc (1 / (swp W 1 i) 1 col)).map .im)]
   (RetK (Tb (fun i=>!Nat.beq i 4)) [] (EndE (fun i=>!Nat.beq i 4) (fun x H'=>x = .tup [] ∧ ((H' = hw2 m W 1 P ∧ ∀ i,1 ≤ i → i < 2 → W i col = 0) ∨ ∃ i,1 ≤ i ∧ i < 2 ∧ W i col ≠ 0 ∧ H' = hw2 m (elm W 1 i col (1 / W i col)) 2 (P ++ [col]))))):=by
 obtain ⟨V,hV⟩ : ∃ V,V = swp W 1 i:=⟨_,rfl⟩
 have hVl : ∀ r k,r < 2 → k < m → lr (V r k) ≤ L:=fun r k hr hk=>by rw [hV]; unfold swp; (repeat' split) <;> first | exact hl i k hin hk | exact hl 1 k (by decide) hk | exact hl r k hr hk
 have hVq : ∀ k,V 1 k = W i k:=fun k=>by rw [hV]; unfold swp; rw [if_pos rfl]
 have hVn : V 1 col ≠ 0:=by rw [hVq]; exact h0
 have hcl : lr (1 / V 1 col) ≤ L:=Nat.le_trans (lr_inv _ hVn) (hVl 1 col (by decide) hc)
 rw [← hV]
 refine lpt (fun j : Nat=>j ≤ m) (fun j=>[(0,.ref 4 0),(3,.ref 0 0),(4,ri .i64 1),(6,.own 2),(7,.ref 6 0),(74,ri .i64 m),(75,ri .i64 j)]) (fun j=>[bC col,RW m (V 0),RW m (mix j (fun k=>V 1 k * (1 / V 1 col)) (V 1)),.rowa 38 1 2 [.own 1,.own 2],.box 391 [.own 3,ri .i64 m,.own 5],PV 1 P,.box 49 ((qc (1 / V 1 col)).map .im)]) (fun j=>m - j) 0 (Nat.zero_le _) (tsr rfl) (by rw [mix_zero] <;> rfl) ?_
 intro j t hj
 refine ifs rfl (fun hlt=>?_) (fun hge=>?_)
 ·have hlt:=of_decide_eq_true hlt
  have hjm : j < m:=by omega
  have l1:=hVl 1 j (by decide) hjm
  refine rq [0,1,2,3,4,5,6,7,8,9] ?_
  refine ⟨⟨by omega,by omega⟩,?_⟩
  refine gq j hjm (by rw [Int.toNat_natCast]) ?_
  rw [mix_at]
  refine ce (r_Mul (a:=V 1 j) (b:=1 / V 1 col) (by omega) (by omega)) rfl ?_
  refine ⟨⟨by omega,by omega⟩,?_⟩
  refine ⟨by rw [rC_len]; show (j : Int).toNat * 4 + 4 ≤ _; omega,?_⟩
  refine nxg [0,1,2,3,4,5,6] (j + 1) (by omega) rfl ⟨by omega,⟨rfl,rfl,rfl,rfl,rfl,rfl,congrArg (ri .i64) (i64s (by omega)).symm,trivial⟩,?_⟩
  have e : putAt (rC m (mix j (fun k=>V 1 k * (1 / V 1 col)) (V 1))) (j * 4) (qc (V 1 j * (1 / V 1 col))) = rC m (mix (j + 1) (fun k=>V 1 k * (1 / V 1 col)) (V 1)):=by
   rw [rC_put _ hjm]; exact congrArg _ (mix_succ j (fun k=>V 1 k * (1 / V 1 col)) (V 1))
  exact congrArg (fun l=>[bC col,RW m (V 0),.row 49 4 m l,.rowa 38 1 2 [.own 1,.own 2],.box 391 [.own 3,ri .i64 m,.own 5],PV 1 P,.box 49 ((qc (1 / V 1 col)).map .im)]) e
 ·have hge:=of_decide_eq_false hge
  obtain rfl : j = m:=by omega
  refine lpn 3 ?_
  obtain ⟨g,hg⟩ : ∃ g,g = mix j (fun k=>V 1 k * (1 / V 1 col)) (V 1):=⟨_,rfl⟩
  have hgk : ∀ k,k < j → g k = V 1 k * (1 / V 1 col):=fun k hk=>by rw [hg]; exact if_pos hk
  have hgl : ∀ k,k < j → lr (g k) ≤ 9000:=fun k hk=>by rw [hgk k hk]; have l1:=hVl 1 k (by decide) hk; have:=lr_mul (V 1 k) (1 / V 1 col); omega
  have hvl : ∀ r k,r < 2 → k < j → lr (V r k) ≤ 9000:=fun r k hr hk=>by have:=hVl r k hr hk; omega
  rw [← hg]
  refine ift rfl rfl ?_
  refine ⟨by decide,?_⟩
  refine ga ?_
  refine ift rfl rfl ?_
  refine ⟨⟨by omega,by omega⟩,?_⟩
  refine gq col hc (by rw [Int.toNat_natCast]) ?_
  refine cxg [1,2,0,3,4,5,6] 2 [] (q_take (g:=V 0) (h:=g) (f:=V 0 col) hm (fun k hk=>hvl 0 k (by decide) hk) hgl (hvl 0 col (by decide) hc)) rfl rfl rfl rfl ?_
  rintro _ _ ⟨rfl,rfl⟩
  refine ⟨.inl rfl,?_⟩
  refine ift rfl rfl ?_
  refine ⟨by decide,?_⟩
  refine ga ?_
  refine iff_ rfl rfl ?_
  refine iff_ rfl rfl ?_
  have he : [.row 3 1 2 (pvs P ++ [.raw (.int .i64 (col : Int))]),RW j (fun k=>V 0 k - V 0 col * g k),RW j g,.rowa 38 1 2 [.own 1,.own 2],.box 391 [.own 3,ri .i64 j,.own 0]] = hw2 j (elm W 1 i col (1 / W i col)) 2 (P ++ [col]):=by
   rw [pvs_app,rW_congr (g:=fun k=>V 0 k - V 0 col * g k) (h:=elm W 1 i col (1 / W i col) 0) (fun k hk=>by rw [hgk k hk,elm_ne _ _ (by decide),hVq,hVq,hV]),rW_congr (g:=g) (h:=elm W 1 i col (1 / W i col) 1) (fun k hk=>by rw [hgk k hk,elm_top,hVq,hVq])]; rfl
  have hd : (1 + 1) * 8 ≤ 140737488355328 ∧ 1 + 1 ≤ 1000000000:=by decide
  refine rt (PT.app [1,2,3,4,5] (.br 0 (PT.app [6,7,8,9,10] .nil) 6 (.br 0 (PT.app [7,8,9,10] .nil) 7 (PT.app [0,8,9,10] .nil)))) ?_
  refine ⟨?_,?_,?_⟩ <;> refine ⟨hd,?_⟩ <;> exact fin [5,0,1,3,4] rfl ⟨rfl,.inr ⟨i,hi,hin,h0,Eq.trans rfl he⟩⟩
theorem q_col2_1 {m col L : Nat} {W : Nat → Nat → Rat} {P : List Nat} (hm : m ≤ 64) (hc : col < m) (hL : L ≤ 900) (hl : ∀ i k,i < 2 → k < m → lr (W i k) ≤ L) :
  Ec Tryz.prog 471 (fun i=>!Nat.beq i 4) (hw2 m W 1 P) [.ref 4 0,ri .i64 col] (fun x H'=>x = .tup [] ∧ ((H' = hw2 m W 1 P ∧ ∀ i,1 ≤ i → i < 2 → W i col = 0) ∨ ∃ i,1 ≤ i ∧ i < 2 ∧ W i col ≠ 0 ∧ H' = hw2 m (elm W 1 i col (1 / W i col)) 2 (P ++ [col]))):=by
 have hl' : ∀ i,i < 2 → lr (W i col) ≤ 100000:=fun i hi=>by have:=hl i col hi hc; omega
 refine ec Tryz.func471 ?_
 refine ⟨(by decide : (0 : Int) ≤ 1 ∧ (1 : Int) < 2 ∧ (2 : Int) ≤ 2),?_⟩
 refine cxg [5,1,2,3,4,0] 4 [1,2] (q_idx2_1 (W:=W) hm hc hl') rfl rfl rfl rfl ?_
 rintro x _ ⟨rfl,hx⟩
 refine ⟨.inl rfl,?_⟩
 rcases hx with ⟨rfl,h0⟩ | ⟨i,hi,rfl,h0⟩
 ·refine ift rfl rfl ?_
  exact fin [5,1,2,3,4] rfl ⟨rfl,.inl ⟨rfl,h0⟩⟩
 ·have hi : i = 0:=by omega
  rcases hi with rfl
  ·refine iff_ rfl rfl ?_
   refine rqa [0,1,2,3,4,5,6,7,8,9,10,11,12,13,14,15,16,17,18,19,20,21,22,23,24,25,26,27,28,29,30,31] [(9,[3],some []),(10,[3],some []),(11,[3],some []),(29,[],some [3])] ?_
   refine ⟨(by decide : (0 : Int) ≤ IntKind.i64.wrap ((1 : Int) + 0) ∧ IntKind.i64.wrap ((1 : Int) + 0) < 2),?_⟩
   refine ga ?_
   refine ⟨(by decide : (0 : Int) ≤ 1 ∧ (1 : Int) < 2),?_⟩
   refine ga ?_
   refine ⟨(by decide : (0 : Int) ≤ 1 ∧ (1 : Int) < 2),?_⟩
   refine ⟨(by decide : 1 + 1 ≤ 2),?_⟩
   refine ⟨(by decide : (0 : Int) ≤ IntKind.i64.wrap ((1 : Int) + 0) ∧ IntKind.i64.wrap ((1 : Int) + 0) < 2),?_⟩
   refine ⟨(by decide : 1 + 1 ≤ 2),?_⟩
   refine ⟨(by decide : (0 : Int) ≤ 1 ∧ (1 : Int) < 2),?_⟩
   refine ga ?_
   have hb:=hl 1 col (by decide) hc
   have hq:=r_Quo (a:=1) (b:=W 1 col) h0 (Nat.le_trans lr_one (by decide)) (by omega)
   refine rta (PT.app [1,2,3,4] (.br 0 (.br 5 (PT.app [6,7,8,9,10,11] .nil) 9 (PT.app [5,6,7,8,10,11] .nil)) 9 (PT.app [0,5,6,7,8,10,11] .nil))) [(8,[6],some []),(10,[],some [6])] ?_
   refine ⟨⟨by omega,by omega⟩,?_⟩
   refine gq col hc (by rw [Int.toNat_natCast]) ?_
   refine ⟨?_,?_⟩
   ·refine ce c_one rfl ?_
    refine ⟨?_,?_⟩
    ·refine ce hq rfl ?_
     refine lgc [0,1,2,3,4,5,6] rfl ?_
     refine meetL [(0,.ref 4 0),(3,.ref 0 0),(4,ri .i64 1),(6,.own 2),(7,.ref 6 0),(74,ri .i64 m),(75,ri .i64 0)] (tsr rfl) (h:=[bC col,RW m ((swp W 1 1) 0),RW m (swp W 1 1 1),.rowa 38 1 2 [.own 1,.own 2],.box 391 [.own 3,ri .i64 m,.own 5],PV 1 P,.box 49 ((qc (1 / (swp W 1 1) 1 col)).map .im)]) rfl ?_
     exact q_ct2_1 hm hc hL hl (i:=1) (by decide) (by decide) h0 _
    ·refine ce hq rfl ?_
     refine lgc [0,1,2,3,4,5,6] rfl ?_
     refine meetL [(0,.ref 4 0),(3,.ref 0 0),(4,ri .i64 1),(6,.own 2),(7,.ref 6 0),(74,ri .i64 m),(75,ri .i64 0)] (tsr rfl) (h:=[bC col,RW m ((swp W 1 1) 0),RW m (swp W 1 1 1),.rowa 38 1 2 [.own 1,.own 2],.box 391 [.own 3,ri .i64 m,.own 5],PV 1 P,.box 49 ((qc (1 / (swp W 1 1) 1 col)).map .im)]) rfl ?_
     exact q_ct2_1 hm hc hL hl (i:=1) (by decide) (by decide) h0 _
   ·refine ce c_one rfl ?_
    refine ce hq rfl ?_
    refine lgc [0,1,2,3,4,5,6] rfl ?_
    refine meetL [(0,.ref 4 0),(3,.ref 0 0),(4,ri .i64 1),(6,.own 2),(7,.ref 6 0),(74,ri .i64 m),(75,ri .i64 0)] (tsr rfl) (h:=[bC col,RW m ((swp W 1 1) 0),RW m (swp W 1 1 1),.rowa 38 1 2 [.own 1,.own 2],.box 391 [.own 3,ri .i64 m,.own 5],PV 1 P,.box 49 ((qc (1 / (swp W 1 1) 1 col)).map .im)]) rfl ?_
    exact q_ct2_1 hm hc hL hl (i:=1) (by decide) (by decide) h0 _
theorem q_ct3_0 {m col L : Nat} {W : Nat → Nat → Rat} {P : List Nat} (hm : m ≤ 64) (hc : col < m) (hL : L ≤ 900) (hl : ∀ i k,i < 3 → k < m → lr (W i k) ≤ L) {i : Nat} (hi : 0 ≤ i) (hin : i < 3) (h0 : W i col ≠ 0) (t : Nat → AV) :
  vcC Tryz.prog (Tb (fun i=>!Nat.beq i 5)) (dropC 9 (codeOf Tryz.f471)) (mkT [(0,.ref 5 0),(3,.ref 0 0),(4,ri .i64 0),(6,.own 1),(7,.ref 7 0),(74,ri .i64 m),(75,ri .i64 0)] t) [bC col,RW m (swp W 0 i 0),RW m ((swp W 0 i) 1),RW m ((swp W 0 i) 2),.rowa 38 1 3 [.own 1,.own 2,.own 3],.box 391 [.own 4,ri .i64 m,.own 6],PV 0 P,.box 49 ((qc (1 / (swp W 0 i) 0 col)).map .im)]
   (RetK (Tb (fun i=>!Nat.beq i 5)) [] (EndE (fun i=>!Nat.beq i 5) (fun x H'=>x = .tup [] ∧ ((H' = hw3 m W 0 P ∧ ∀ i,0 ≤ i → i < 3 → W i col = 0) ∨ ∃ i,0 ≤ i ∧ i < 3 ∧ W i col ≠ 0 ∧ H' = hw3 m (elm W 0 i col (1 / W i col)) 1 (P ++ [col]))))):=by
 obtain ⟨V,hV⟩ : ∃ V,V = swp W 0 i:=⟨_,rfl⟩
 have hVl : ∀ r k,r < 3 → k < m → lr (V r k) ≤ L:=fun r k hr hk=>by rw [hV]; unfold swp; (repeat' split) <;> first | exact hl i k hin hk | exact hl 0 k (by decide) hk | exact hl r k hr hk
 have hVq : ∀ k,V 0 k = W i k:=fun k=>by rw [hV]; unfold swp; rw [if_pos rfl]
 have hVn : V 0 col ≠ 0:=by rw [hVq]; exact h0
 have hcl : lr (1 / V 0 col) ≤ L:=Nat.le_trans (lr_inv _ hVn) (hVl 0 col (by decide) hc)
 rw [← hV]
 refine lpt (fun j : Nat=>j ≤ m) (fun j=>[(0,.ref 5 0),(3,.ref 0 0),(4,ri .i64 0),(6,.own 1),(7,.ref 7 0),(74,ri .i64 m),(75,ri .i64 j)]) (fun j=>[bC col,RW m (mix j (fun k=>V 0 k * (1 / V 0 col)) (V 0)),RW m (V 1),RW m (V 2),.rowa 38 1 3 [.own 1,.own 2,.own 3],.box 391 [.own 4,ri .i64 m,.own 6],PV 0 P,.box 49 ((qc (1 / V 0 col)).map .im)]) (fun j=>m - j) 0 (Nat.zero_le _) (tsr rfl) (by rw [mix_zero] <;> rfl) ?_
 intro j t hj
 refine ifs rfl (fun hlt=>?_) (fun hge=>?_)
 ·have hlt:=of_decide_eq_true hlt
  have hjm : j < m:=by omega
  have l1:=hVl 0 j (by decide) hjm
  refine rq [0,1,2,3,4,5,6,7,8,9] ?_
  refine ⟨⟨by omega,by omega⟩,?_⟩
  refine gq j hjm (by rw [Int.toNat_natCast]) ?_
  rw [mix_at]
  refine ce (r_Mul (a:=V 0 j) (b:=1 / V 0 col) (by omega) (by omega)) rfl ?_
  refine ⟨⟨by omega,by omega⟩,?_⟩
  refine ⟨by rw [rC_len]; show (j : Int).toNat * 4 + 4 ≤ _; omega,?_⟩
  refine nxg [0,1,2,3,4,5,6,7] (j + 1) (by omega) rfl ⟨by omega,⟨rfl,rfl,rfl,rfl,rfl,rfl,congrArg (ri .i64) (i64s (by omega)).symm,trivial⟩,?_⟩
  have e : putAt (rC m (mix j (fun k=>V 0 k * (1 / V 0 col)) (V 0))) (j * 4) (qc (V 0 j * (1 / V 0 col))) = rC m (mix (j + 1) (fun k=>V 0 k * (1 / V 0 col)) (V 0)):=by
   rw [rC_put _ hjm]; exact congrArg _ (mix_succ j (fun k=>V 0 k * (1 / V 0 col)) (V 0))
  exact congrArg (fun l=>[bC col,.row 49 4 m l,RW m (V 1),RW m (V 2),.rowa 38 1 3 [.own 1,.own 2,.own 3],.box 391 [.own 4,ri .i64 m,.own 6],PV 0 P,.box 49 ((qc (1 / V 0 col)).map .im)]) e
 ·have hge:=of_decide_eq_false hge
  obtain rfl : j = m:=by omega
  refine lpn 4 ?_
  obtain ⟨g,hg⟩ : ∃ g,g = mix j (fun k=>V 0 k * (1 / V 0 col)) (V 0):=⟨_,rfl⟩
  have hgk : ∀ k,k < j → g k = V 0 k * (1 / V 0 col):=fun k hk=>by rw [hg]; exact if_pos hk
  have hgl : ∀ k,k < j → lr (g k) ≤ 9000:=fun k hk=>by rw [hgk k hk]; have l1:=hVl 0 k (by decide) hk; have:=lr_mul (V 0 k) (1 / V 0 col); omega
  have hvl : ∀ r k,r < 3 → k < j → lr (V r k) ≤ 9000:=fun r k hr hk=>by have:=hVl r k hr hk; omega
  rw [← hg]
  refine ift rfl rfl ?_
  refine ⟨by decide,?_⟩
  refine ga ?_
  refine iff_ rfl rfl ?_
  refine ift rfl rfl ?_
  refine ⟨by decide,?_⟩
  refine ga ?_
  refine ift rfl rfl ?_
  refine ⟨⟨by omega,by omega⟩,?_⟩
  refine gq col hc (by rw [Int.toNat_natCast]) ?_
  refine cxg [2,1,3,0,4,5,6,7] 2 [] (q_take (g:=V 1) (h:=g) (f:=V 1 col) hm (fun k hk=>hvl 1 k (by decide) hk) hgl (hvl 1 col (by decide) hc)) rfl rfl rfl rfl ?_
  rintro _ _ ⟨rfl,rfl⟩
  refine ⟨.inl rfl,?_⟩
  refine ift rfl rfl ?_
  refine ⟨by decide,?_⟩
  refine ga ?_
  refine ift rfl rfl ?_
  refine ⟨⟨by omega,by omega⟩,?_⟩
  refine gq col hc (by rw [Int.toNat_natCast]) ?_
  refine cxg [2,1,0,3,4,5,6,7] 2 [] (q_take (g:=V 2) (h:=g) (f:=V 2 col) hm (fun k hk=>hvl 2 k (by decide) hk) hgl (hvl 2 col (by decide) hc)) rfl rfl rfl rfl ?_
  rintro _ _ ⟨rfl,rfl⟩
  refine ⟨.inl rfl,?_⟩
  refine iff_ rfl rfl ?_
  have he : [.row 3 1 1 (pvs P ++ [.raw (.int .i64 (col : Int))]),RW j g,RW j (fun k=>V 1 k - V 1 col * g k),RW j (fun k=>V 2 k - V 2 col * g k),.rowa 38 1 3 [.own 1,.own 2,.own 3],.box 391 [.own 4,ri .i64 j,.own 0]] = hw3 j (elm W 0 i col (1 / W i col)) 1 (P ++ [col]):=by
   rw [pvs_app,rW_congr (g:=g) (h:=elm W 0 i col (1 / W i col) 0) (fun k hk=>by rw [hgk k hk,elm_top,hVq,hVq]),rW_congr (g:=fun k=>V 1 k - V 1 col * g k) (h:=elm W 0 i col (1 / W i col) 1) (fun k hk=>by rw [hgk k hk,elm_ne _ _ (by decide),hVq,hVq,hV]),rW_congr (g:=fun k=>V 2 k - V 2 col * g k) (h:=elm W 0 i col (1 / W i col) 2) (fun k hk=>by rw [hgk k hk,elm_ne _ _ (by decide),hVq,hVq,hV])]; rfl
  have hd : (0 + 1) * 8 ≤ 140737488355328 ∧ 0 + 1 ≤ 1000000000:=by decide
  refine rt (PT.app [1,2,3,4,5] (.br 0 (PT.app [6,7,8,9,10] .nil) 6 (.br 0 (PT.app [7,8,9,10] .nil) 7 (PT.app [0,8,9,10] .nil)))) ?_
  refine ⟨?_,?_,?_⟩ <;> refine ⟨hd,?_⟩ <;> exact fin [6,1,2,0,4,5] rfl ⟨rfl,.inr ⟨i,hi,hin,h0,Eq.trans rfl he⟩⟩
theorem q_col3_0 {m col L : Nat} {W : Nat → Nat → Rat} {P : List Nat} (hm : m ≤ 64) (hc : col < m) (hL : L ≤ 900) (hl : ∀ i k,i < 3 → k < m → lr (W i k) ≤ L) :
  Ec Tryz.prog 471 (fun i=>!Nat.beq i 5) (hw3 m W 0 P) [.ref 5 0,ri .i64 col] (fun x H'=>x = .tup [] ∧ ((H' = hw3 m W 0 P ∧ ∀ i,0 ≤ i → i < 3 → W i col = 0) ∨ ∃ i,0 ≤ i ∧ i < 3 ∧ W i col ≠ 0 ∧ H' = hw3 m (elm W 0 i col (1 / W i col)) 1 (P ++ [col]))):=by
 have hl' : ∀ i,i < 3 → lr (W i col) ≤ 100000:=fun i hi=>by have:=hl i col hi hc; omega
 refine ec Tryz.func471 ?_
 refine ⟨(by decide : (0 : Int) ≤ 0 ∧ (0 : Int) < 3 ∧ (3 : Int) ≤ 3),?_⟩
 refine cxg [6,1,2,3,4,5,0] 5 [1,2,3] (q_idx3_0 (W:=W) hm hc hl') rfl rfl rfl rfl ?_
 rintro x _ ⟨rfl,hx⟩
 refine ⟨.inl rfl,?_⟩
 rcases hx with ⟨rfl,h0⟩ | ⟨i,hi,rfl,h0⟩
 ·refine ift rfl rfl ?_
  exact fin [6,1,2,3,4,5] rfl ⟨rfl,.inl ⟨rfl,h0⟩⟩
 ·have hi : i = 0 ∨ i = 1 ∨ i = 2:=by omega
  rcases hi with rfl | rfl | rfl
  ·refine iff_ rfl rfl ?_
   refine rqa [0,1,2,3,4,5,6,7,8,9,10,11,12,13,14,15,16,17,18,19,20,21,22,23,24,25,26,27,28,29,30,31] [(9,[4],some []),(10,[4],some []),(11,[4],some []),(29,[],some [4])] ?_
   refine ⟨(by decide : (0 : Int) ≤ IntKind.i64.wrap ((0 : Int) + 0) ∧ IntKind.i64.wrap ((0 : Int) + 0) < 3),?_⟩
   refine ga ?_
   refine ⟨(by decide : (0 : Int) ≤ 0 ∧ (0 : Int) < 3),?_⟩
   refine ga ?_
   refine ⟨(by decide : (0 : Int) ≤ 0 ∧ (0 : Int) < 3),?_⟩
   refine ⟨(by decide : 0 + 1 ≤ 3),?_⟩
   refine ⟨(by decide : (0 : Int) ≤ IntKind.i64.wrap ((0 : Int) + 0) ∧ IntKind.i64.wrap ((0 : Int) + 0) < 3),?_⟩
   refine ⟨(by decide : 0 + 1 ≤ 3),?_⟩
   refine ⟨(by decide : (0 : Int) ≤ 0 ∧ (0 : Int) < 3),?_⟩
   refine ga ?_
   have hb:=hl 0 col (by decide) hc
   have hq:=r_Quo (a:=1) (b:=W 0 col) h0 (Nat.le_trans lr_one (by decide)) (by omega)
   refine rta (PT.app [1,2,3,4] (.br 0 (.br 5 (PT.app [6,7,8,9,10,11] .nil) 9 (PT.app [5,6,7,8,10,11] .nil)) 9 (PT.app [0,5,6,7,8,10,11] .nil))) [(8,[7],some []),(10,[],some [7])] ?_
   refine ⟨⟨by omega,by omega⟩,?_⟩
   refine gq col hc (by rw [Int.toNat_natCast]) ?_
   refine ⟨?_,?_⟩
   ·refine ce c_one rfl ?_
    refine ⟨?_,?_⟩
    ·refine ce hq rfl ?_
     refine lgc [0,1,2,3,4,5,6,7] rfl ?_
     refine meetL [(0,.ref 5 0),(3,.ref 0 0),(4,ri .i64 0),(6,.own 1),(7,.ref 7 0),(74,ri .i64 m),(75,ri .i64 0)] (tsr rfl) (h:=[bC col,RW m (swp W 0 0 0),RW m ((swp W 0 0) 1),RW m ((swp W 0 0) 2),.rowa 38 1 3 [.own 1,.own 2,.own 3],.box 391 [.own 4,ri .i64 m,.own 6],PV 0 P,.box 49 ((qc (1 / (swp W 0 0) 0 col)).map .im)]) rfl ?_
     exact q_ct3_0 hm hc hL hl (i:=0) (by decide) (by decide) h0 _
    ·refine ce hq rfl ?_
     refine lgc [0,1,2,3,4,5,6,7] rfl ?_
     refine meetL [(0,.ref 5 0),(3,.ref 0 0),(4,ri .i64 0),(6,.own 1),(7,.ref 7 0),(74,ri .i64 m),(75,ri .i64 0)] (tsr rfl) (h:=[bC col,RW m (swp W 0 0 0),RW m ((swp W 0 0) 1),RW m ((swp W 0 0) 2),.rowa 38 1 3 [.own 1,.own 2,.own 3],.box 391 [.own 4,ri .i64 m,.own 6],PV 0 P,.box 49 ((qc (1 / (swp W 0 0) 0 col)).map .im)]) rfl ?_
     exact q_ct3_0 hm hc hL hl (i:=0) (by decide) (by decide) h0 _
   ·refine ce c_one rfl ?_
    refine ce hq rfl ?_
    refine lgc [0,1,2,3,4,5,6,7] rfl ?_
    refine meetL [(0,.ref 5 0),(3,.ref 0 0),(4,ri .i64 0),(6,.own 1),(7,.ref 7 0),(74,ri .i64 m),(75,ri .i64 0)] (tsr rfl) (h:=[bC col,RW m (swp W 0 0 0),RW m ((swp W 0 0) 1),RW m ((swp W 0 0) 2),.rowa 38 1 3 [.own 1,.own 2,.own 3],.box 391 [.own 4,ri .i64 m,.own 6],PV 0 P,.box 49 ((qc (1 / (swp W 0 0) 0 col)).map .im)]) rfl ?_
    exact q_ct3_0 hm hc hL hl (i:=0) (by decide) (by decide) h0 _
  ·refine iff_ rfl rfl ?_
   refine rqa [0,1,2,3,4,5,6,7,8,9,10,11,12,13,14,15,16,17,18,19,20,21,22,23,24,25,26,27,28,29,30,31] [(9,[4],some []),(10,[4],some []),(11,[4],some []),(29,[],some [4])] ?_
   refine ⟨(by decide : (0 : Int) ≤ IntKind.i64.wrap ((0 : Int) + 1) ∧ IntKind.i64.wrap ((0 : Int) + 1) < 3),?_⟩
   refine ga ?_
   refine ⟨(by decide : (0 : Int) ≤ 0 ∧ (0 : Int) < 3),?_⟩
   refine ga ?_
   refine ⟨(by decide : (0 : Int) ≤ 0 ∧ (0 : Int) < 3),?_⟩
   refine ⟨(by decide : 0 + 1 ≤ 3),?_⟩
   refine ⟨(by decide : (0 : Int) ≤ IntKind.i64.wrap ((0 : Int) + 1) ∧ IntKind.i64.wrap ((0 : Int) + 1) < 3),?_⟩
   refine ⟨(by decide : 1 + 1 ≤ 3),?_⟩
   refine ⟨(by decide : (0 : Int) ≤ 0 ∧ (0 : Int) < 3),?_⟩
   refine ga ?_
   have hb:=hl 1 col (by decide) hc
   have hq:=r_Quo (a:=1) (b:=W 1 col) h0 (Nat.le_trans lr_one (by decide)) (by omega)
   refine rta (PT.app [1,2,3,4] (.br 0 (.br 5 (PT.app [6,7,8,9,10,11] .nil) 9 (PT.app [5,6,7,8,10,11] .nil)) 9 (PT.app [0,5,6,7,8,10,11] .nil))) [(8,[7],some []),(10,[],some [7])] ?_
   refine ⟨⟨by omega,by omega⟩,?_⟩
   refine gq col hc (by rw [Int.toNat_natCast]) ?_
   refine ⟨?_,?_⟩
   ·refine ce c_one rfl ?_
    refine ⟨?_,?_⟩
    ·refine ce hq rfl ?_
     refine lgc [0,2,1,3,4,5,6,7] rfl ?_
     refine meetL [(0,.ref 5 0),(3,.ref 0 0),(4,ri .i64 0),(6,.own 1),(7,.ref 7 0),(74,ri .i64 m),(75,ri .i64 0)] (tsr rfl) (h:=[bC col,RW m (swp W 0 1 0),RW m ((swp W 0 1) 1),RW m ((swp W 0 1) 2),.rowa 38 1 3 [.own 1,.own 2,.own 3],.box 391 [.own 4,ri .i64 m,.own 6],PV 0 P,.box 49 ((qc (1 / (swp W 0 1) 0 col)).map .im)]) rfl ?_
     exact q_ct3_0 hm hc hL hl (i:=1) (by decide) (by decide) h0 _
    ·refine ce hq rfl ?_
     refine lgc [0,2,1,3,4,5,6,7] rfl ?_
     refine meetL [(0,.ref 5 0),(3,.ref 0 0),(4,ri .i64 0),(6,.own 1),(7,.ref 7 0),(74,ri .i64 m),(75,ri .i64 0)] (tsr rfl) (h:=[bC col,RW m (swp W 0 1 0),RW m ((swp W 0 1) 1),RW m ((swp W 0 1) 2),.rowa 38 1 3 [.own 1,.own 2,.own 3],.box 391 [.own 4,ri .i64 m,.own 6],PV 0 P,.box 49 ((qc (1 / (swp W 0 1) 0 col)).map .im)]) rfl ?_
     exact q_ct3_0 hm hc hL hl (i:=1) (by decide) (by decide) h0 _
   ·refine ce c_one rfl ?_
    refine ce hq rfl ?_
    refine lgc [0,2,1,3,4,5,6,7] rfl ?_
    refine meetL [(0,.ref 5 0),(3,.ref 0 0),(4,ri .i64 0),(6,.own 1),(7,.ref 7 0),(74,ri .i64 m),(75,ri .i64 0)] (tsr rfl) (h:=[bC col,RW m (swp W 0 1 0),RW m ((swp W 0 1) 1),RW m ((swp W 0 1) 2),.rowa 38 1 3 [.own 1,.own 2,.own 3],.box 391 [.own 4,ri .i64 m,.own 6],PV 0 P,.box 49 ((qc (1 / (swp W 0 1) 0 col)).map .im)]) rfl ?_
    exact q_ct3_0 hm hc hL hl (i:=1) (by decide) (by decide) h0 _
  ·refine iff_ rfl rfl ?_
   refine rqa [0,1,2,3,4,5,6,7,8,9,10,11,12,13,14,15,16,17,18,19,20,21,22,23,24,25,26,27,28,29,30,31] [(9,[4],some []),(10,[4],some []),(11,[4],some []),(29,[],some [4])] ?_
   refine ⟨(by decide : (0 : Int) ≤ IntKind.i64.wrap ((0 : Int) + 2) ∧ IntKind.i64.wrap ((0 : Int) + 2) < 3),?_⟩
   refine ga ?_
   refine ⟨(by decide : (0 : Int) ≤ 0 ∧ (0 : Int) < 3),?_⟩
   refine ga ?_
   refine ⟨(by decide : (0 : Int) ≤ 0 ∧ (0 : Int) < 3),?_⟩
   refine ⟨(by decide : 0 + 1 ≤ 3),?_⟩
   refine ⟨(by decide : (0 : Int) ≤ IntKind.i64.wrap ((0 : Int) + 2) ∧ IntKind.i64.wrap ((0 : Int) + 2) < 3),?_⟩
   refine ⟨(by decide : 2 + 1 ≤ 3),?_⟩
   refine ⟨(by decide : (0 : Int) ≤ 0 ∧ (0 : Int) < 3),?_⟩
   refine ga ?_
   have hb:=hl 2 col (by decide) hc
   have hq:=r_Quo (a:=1) (b:=W 2 col) h0 (Nat.le_trans lr_one (by decide)) (by omega)
   refine rta (PT.app [1,2,3,4] (.br 0 (.br 5 (PT.app [6,7,8,9,10,11] .nil) 9 (PT.app [5,6,7,8,10,11] .nil)) 9 (PT.app [0,5,6,7,8,10,11] .nil))) [(8,[7],some []),(10,[],some [7])] ?_
   refine ⟨⟨by omega,by omega⟩,?_⟩
   refine gq col hc (by rw [Int.toNat_natCast]) ?_
   refine ⟨?_,?_⟩
   ·refine ce c_one rfl ?_
    refine ⟨?_,?_⟩
    ·refine ce hq rfl ?_
     refine lgc [0,3,2,1,4,5,6,7] rfl ?_
     refine meetL [(0,.ref 5 0),(3,.ref 0 0),(4,ri .i64 0),(6,.own 1),(7,.ref 7 0),(74,ri .i64 m),(75,ri .i64 0)] (tsr rfl) (h:=[bC col,RW m (swp W 0 2 0),RW m ((swp W 0 2) 1),RW m ((swp W 0 2) 2),.rowa 38 1 3 [.own 1,.own 2,.own 3],.box 391 [.own 4,ri .i64 m,.own 6],PV 0 P,.box 49 ((qc (1 / (swp W 0 2) 0 col)).map .im)]) rfl ?_
     exact q_ct3_0 hm hc hL hl (i:=2) (by decide) (by decide) h0 _
    ·refine ce hq rfl ?_
     refine lgc [0,3,2,1,4,5,6,7] rfl ?_
     refine meetL [(0,.ref 5 0),(3,.ref 0 0),(4,ri .i64 0),(6,.own 1),(7,.ref 7 0),(74,ri .i64 m),(75,ri .i64 0)] (tsr rfl) (h:=[bC col,RW m (swp W 0 2 0),RW m ((swp W 0 2) 1),RW m ((swp W 0 2) 2),.rowa 38 1 3 [.own 1,.own 2,.own 3],.box 391 [.own 4,ri .i64 m,.own 6],PV 0 P,.box 49 ((qc (1 / (swp W 0 2) 0 col)).map .im)]) rfl ?_
     exact q_ct3_0 hm hc hL hl (i:=2) (by decide) (by decide) h0 _
   ·refine ce c_one rfl ?_
    refine ce hq rfl ?_
    refine lgc [0,3,2,1,4,5,6,7] rfl ?_
    refine meetL [(0,.ref 5 0),(3,.ref 0 0),(4,ri .i64 0),(6,.own 1),(7,.ref 7 0),(74,ri .i64 m),(75,ri .i64 0)] (tsr rfl) (h:=[bC col,RW m (swp W 0 2 0),RW m ((swp W 0 2) 1),RW m ((swp W 0 2) 2),.rowa 38 1 3 [.own 1,.own 2,.own 3],.box 391 [.own 4,ri .i64 m,.own 6],PV 0 P,.box 49 ((qc (1 / (swp W 0 2) 0 col)).map .im)]) rfl ?_
    exact q_ct3_0 hm hc hL hl (i:=2) (by decide) (by decide) h0 _
theorem q_ct3_1 {m col L : Nat} {W : Nat → Nat → Rat} {P : List Nat} (hm : m ≤ 64) (hc : col < m) (hL : L ≤ 900) (hl : ∀ i k,i < 3 → k < m → lr (W i k) ≤ L) {i : Nat} (hi : 1 ≤ i) (hin : i < 3) (h0 : W i col ≠ 0) (t : Nat → AV) :
  vcC Tryz.prog (Tb (fun i=>!Nat.beq i 5)) (dropC 9 (codeOf Tryz.f471)) (mkT [(0,.ref 5 0),(3,.ref 0 0),(4,ri .i64 1),(6,.own 2),(7,.ref 7 0),(74,ri .i64 m),(75,ri .i64 0)] t) [bC col,RW m ((swp W 1 i) 0),RW m (swp W 1 i 1),RW m ((swp W 1 i) 2),.rowa 38 1 3 [.own 1,.own 2,.own 3],.box 391 [.own 4,ri .i64 m,.own 6],PV 1 P,.box 49 ((qc (1 / (swp W 1 i) 1 col)).map .im)]
   (RetK (Tb (fun i=>!Nat.beq i 5)) [] (EndE (fun i=>!Nat.beq i 5) (fun x H'=>x = .tup [] ∧ ((H' = hw3 m W 1 P ∧ ∀ i,1 ≤ i → i < 3 → W i col = 0) ∨ ∃ i,1 ≤ i ∧ i < 3 ∧ W i col ≠ 0 ∧ H' = hw3 m (elm W 1 i col (1 / W i col)) 2 (P ++ [col]))))):=by
 obtain ⟨V,hV⟩ : ∃ V,V = swp W 1 i:=⟨_,rfl⟩
 have hVl : ∀ r k,r < 3 → k < m → lr (V r k) ≤ L:=fun r k hr hk=>by rw [hV]; unfold swp; (repeat' split) <;> first | exact hl i k hin hk | exact hl 1 k (by decide) hk | exact hl r k hr hk
 have hVq : ∀ k,V 1 k = W i k:=fun k=>by rw [hV]; unfold swp; rw [if_pos rfl]
 have hVn : V 1 col ≠ 0:=by rw [hVq]; exact h0
 have hcl : lr (1 / V 1 col) ≤ L:=Nat.le_trans (lr_inv _ hVn) (hVl 1 col (by decide) hc)
 rw [← hV]
 refine lpt (fun j : Nat=>j ≤ m) (fun j=>[(0,.ref 5 0),(3,.ref 0 0),(4,ri .i64 1),(6,.own 2),(7,.ref 7 0),(74,ri .i64 m),(75,ri .i64 j)]) (fun j=>[bC col,RW m (V 0),RW m (mix j (fun k=>V 1 k * (1 / V 1 col)) (V 1)),RW m (V 2),.rowa 38 1 3 [.own 1,.own 2,.own 3],.box 391 [.own 4,ri .i64 m,.own 6],PV 1 P,.box 49 ((qc (1 / V 1 col)).map .im)]) (fun j=>m - j) 0 (Nat.zero_le _) (tsr rfl) (by rw [mix_zero] <;> rfl) ?_
 intro j t hj
 refine ifs rfl (fun hlt=>?_) (fun hge=>?_)
 ·have hlt:=of_decide_eq_true hlt
  have hjm : j < m:=by omega
  have l1:=hVl 1 j (by decide) hjm
  refine rq [0,1,2,3,4,5,6,7,8,9] ?_
  refine ⟨⟨by omega,by omega⟩,?_⟩
  refine gq j hjm (by rw [Int.toNat_natCast]) ?_
  rw [mix_at]
  refine ce (r_Mul (a:=V 1 j) (b:=1 / V 1 col) (by omega) (by omega)) rfl ?_
  refine ⟨⟨by omega,by omega⟩,?_⟩
  refine ⟨by rw [rC_len]; show (j : Int).toNat * 4 + 4 ≤ _; omega,?_⟩
  refine nxg [0,1,2,3,4,5,6,7] (j + 1) (by omega) rfl ⟨by omega,⟨rfl,rfl,rfl,rfl,rfl,rfl,congrArg (ri .i64) (i64s (by omega)).symm,trivial⟩,?_⟩
  have e : putAt (rC m (mix j (fun k=>V 1 k * (1 / V 1 col)) (V 1))) (j * 4) (qc (V 1 j * (1 / V 1 col))) = rC m (mix (j + 1) (fun k=>V 1 k * (1 / V 1 col)) (V 1)):=by
   rw [rC_put _ hjm]; exact congrArg _ (mix_succ j (fun k=>V 1 k * (1 / V 1 col)) (V 1))
  exact congrArg (fun l=>[bC col,RW m (V 0),.row 49 4 m l,RW m (V 2),.rowa 38 1 3 [.own 1,.own 2,.own 3],.box 391 [.own 4,ri .i64 m,.own 6],PV 1 P,.box 49 ((qc (1 / V 1 col)).map .im)]) e
 ·have hge:=of_decide_eq_false hge
  obtain rfl : j = m:=by omega
  refine lpn 4 ?_
  obtain ⟨g,hg⟩ : ∃ g,g = mix j (fun k=>V 1 k * (1 / V 1 col)) (V 1):=⟨_,rfl⟩
  have hgk : ∀ k,k < j → g k = V 1 k * (1 / V 1 col):=fun k hk=>by rw [hg]; exact if_pos hk
  have hgl : ∀ k,k < j → lr (g k) ≤ 9000:=fun k hk=>by rw [hgk k hk]; have l1:=hVl 1 k (by decide) hk; have:=lr_mul (V 1 k) (1 / V 1 col); omega
  have hvl : ∀ r k,r < 3 → k < j → lr (V r k) ≤ 9000:=fun r k hr hk=>by have:=hVl r k hr hk; omega
  rw [← hg]
  refine ift rfl rfl ?_
  refine ⟨by decide,?_⟩
  refine ga ?_
  refine ift rfl rfl ?_
  refine ⟨⟨by omega,by omega⟩,?_⟩
  refine gq col hc (by rw [Int.toNat_natCast]) ?_
  refine cxg [1,2,3,0,4,5,6,7] 2 [] (q_take (g:=V 0) (h:=g) (f:=V 0 col) hm (fun k hk=>hvl 0 k (by decide) hk) hgl (hvl 0 col (by decide) hc)) rfl rfl rfl rfl ?_
  rintro _ _ ⟨rfl,rfl⟩
  refine ⟨.inl rfl,?_⟩
  refine ift rfl rfl ?_
  refine ⟨by decide,?_⟩
  refine ga ?_
  refine iff_ rfl rfl ?_
  refine ift rfl rfl ?_
  refine ⟨by decide,?_⟩
  refine ga ?_
  refine ift rfl rfl ?_
  refine ⟨⟨by omega,by omega⟩,?_⟩
  refine gq col hc (by rw [Int.toNat_natCast]) ?_
  refine cxg [2,1,0,3,4,5,6,7] 2 [] (q_take (g:=V 2) (h:=g) (f:=V 2 col) hm (fun k hk=>hvl 2 k (by decide) hk) hgl (hvl 2 col (by decide) hc)) rfl rfl rfl rfl ?_
  rintro _ _ ⟨rfl,rfl⟩
  refine ⟨.inl rfl,?_⟩
  refine iff_ rfl rfl ?_
  have he : [.row 3 1 2 (pvs P ++ [.raw (.int .i64 (col : Int))]),RW j (fun k=>V 0 k - V 0 col * g k),RW j g,RW j (fun k=>V 2 k - V 2 col * g k),.rowa 38 1 3 [.own 1,.own 2,.own 3],.box 391 [.own 4,ri .i64 j,.own 0]] = hw3 j (elm W 1 i col (1 / W i col)) 2 (P ++ [col]):=by
   rw [pvs_app,rW_congr (g:=fun k=>V 0 k - V 0 col * g k) (h:=elm W 1 i col (1 / W i col) 0) (fun k hk=>by rw [hgk k hk,elm_ne _ _ (by decide),hVq,hVq,hV]),rW_congr (g:=g) (h:=elm W 1 i col (1 / W i col) 1) (fun k hk=>by rw [hgk k hk,elm_top,hVq,hVq]),rW_congr (g:=fun k=>V 2 k - V 2 col * g k) (h:=elm W 1 i col (1 / W i col) 2) (fun k hk=>by rw [hgk k hk,elm_ne _ _ (by decide),hVq,hVq,hV])]; rfl
  have hd : (1 + 1) * 8 ≤ 140737488355328 ∧ 1 + 1 ≤ 1000000000:=by decide
  refine rt (PT.app [1,2,3,4,5] (.br 0 (PT.app [6,7,8,9,10] .nil) 6 (.br 0 (PT.app [7,8,9,10] .nil) 7 (PT.app [0,8,9,10] .nil)))) ?_
  refine ⟨?_,?_,?_⟩ <;> refine ⟨hd,?_⟩ <;> exact fin [6,2,1,0,4,5] rfl ⟨rfl,.inr ⟨i,hi,hin,h0,Eq.trans rfl he⟩⟩
theorem q_col3_1 {m col L : Nat} {W : Nat → Nat → Rat} {P : List Nat} (hm : m ≤ 64) (hc : col < m) (hL : L ≤ 900) (hl : ∀ i k,i < 3 → k < m → lr (W i k) ≤ L) :
  Ec Tryz.prog 471 (fun i=>!Nat.beq i 5) (hw3 m W 1 P) [.ref 5 0,ri .i64 col] (fun x H'=>x = .tup [] ∧ ((H' = hw3 m W 1 P ∧ ∀ i,1 ≤ i → i < 3 → W i col = 0) ∨ ∃ i,1 ≤ i ∧ i < 3 ∧ W i col ≠ 0 ∧ H' = hw3 m (elm W 1 i col (1 / W i col)) 2 (P ++ [col]))):=by
 have hl' : ∀ i,i < 3 → lr (W i col) ≤ 100000:=fun i hi=>by have:=hl i col hi hc; omega
 refine ec Tryz.func471 ?_
 refine ⟨(by decide : (0 : Int) ≤ 1 ∧ (1 : Int) < 3 ∧ (3 : Int) ≤ 3),?_⟩
 refine cxg [6,1,2,3,4,5,0] 5 [1,2,3] (q_idx3_1 (W:=W) hm hc hl') rfl rfl rfl rfl ?_
 rintro x _ ⟨rfl,hx⟩
 refine ⟨.inl rfl,?_⟩
 rcases hx with ⟨rfl,h0⟩ | ⟨i,hi,rfl,h0⟩
 ·refine ift rfl rfl ?_
  exact fin [6,1,2,3,4,5] rfl ⟨rfl,.inl ⟨rfl,h0⟩⟩
 ·have hi : i = 0 ∨ i = 1:=by omega
  rcases hi with rfl | rfl
  ·refine iff_ rfl rfl ?_
   refine rqa [0,1,2,3,4,5,6,7,8,9,10,11,12,13,14,15,16,17,18,19,20,21,22,23,24,25,26,27,28,29,30,31] [(9,[4],some []),(10,[4],some []),(11,[4],some []),(29,[],some [4])] ?_
   refine ⟨(by decide : (0 : Int) ≤ IntKind.i64.wrap ((1 : Int) + 0) ∧ IntKind.i64.wrap ((1 : Int) + 0) < 3),?_⟩
   refine ga ?_
   refine ⟨(by decide : (0 : Int) ≤ 1 ∧ (1 : Int) < 3),?_⟩
   refine ga ?_
   refine ⟨(by decide : (0 : Int) ≤ 1 ∧ (1 : Int) < 3),?_⟩
   refine ⟨(by decide : 1 + 1 ≤ 3),?_⟩
   refine ⟨(by decide : (0 : Int) ≤ IntKind.i64.wrap ((1 : Int) + 0) ∧ IntKind.i64.wrap ((1 : Int) + 0) < 3),?_⟩
   refine ⟨(by decide : 1 + 1 ≤ 3),?_⟩
   refine ⟨(by decide : (0 : Int) ≤ 1 ∧ (1 : Int) < 3),?_⟩
   refine ga ?_
   have hb:=hl 1 col (by decide) hc
   have hq:=r_Quo (a:=1) (b:=W 1 col) h0 (Nat.le_trans lr_one (by decide)) (by omega)
   refine rta (PT.app [1,2,3,4] (.br 0 (.br 5 (PT.app [6,7,8,9,10,11] .nil) 9 (PT.app [5,6,7,8,10,11] .nil)) 9 (PT.app [0,5,6,7,8,10,11] .nil))) [(8,[7],some []),(10,[],some [7])] ?_
   refine ⟨⟨by omega,by omega⟩,?_⟩
   refine gq col hc (by rw [Int.toNat_natCast]) ?_
   refine ⟨?_,?_⟩
   ·refine ce c_one rfl ?_
    refine ⟨?_,?_⟩
    ·refine ce hq rfl ?_
     refine lgc [0,1,2,3,4,5,6,7] rfl ?_
     refine meetL [(0,.ref 5 0),(3,.ref 0 0),(4,ri .i64 1),(6,.own 2),(7,.ref 7 0),(74,ri .i64 m),(75,ri .i64 0)] (tsr rfl) (h:=[bC col,RW m ((swp W 1 1) 0),RW m (swp W 1 1 1),RW m ((swp W 1 1) 2),.rowa 38 1 3 [.own 1,.own 2,.own 3],.box 391 [.own 4,ri .i64 m,.own 6],PV 1 P,.box 49 ((qc (1 / (swp W 1 1) 1 col)).map .im)]) rfl ?_
     exact q_ct3_1 hm hc hL hl (i:=1) (by decide) (by decide) h0 _
    ·refine ce hq rfl ?_
     refine lgc [0,1,2,3,4,5,6,7] rfl ?_
     refine meetL [(0,.ref 5 0),(3,.ref 0 0),(4,ri .i64 1),(6,.own 2),(7,.ref 7 0),(74,ri .i64 m),(75,ri .i64 0)] (tsr rfl) (h:=[bC col,RW m ((swp W 1 1) 0),RW m (swp W 1 1 1),RW m ((swp W 1 1) 2),.rowa 38 1 3 [.own 1,.own 2,.own 3],.box 391 [.own 4,ri .i64 m,.own 6],PV 1 P,.box 49 ((qc (1 / (swp W 1 1) 1 col)).map .im)]) rfl ?_
     exact q_ct3_1 hm hc hL hl (i:=1) (by decide) (by decide) h0 _
   ·refine ce c_one rfl ?_
    refine ce hq rfl ?_
    refine lgc [0,1,2,3,4,5,6,7] rfl ?_
    refine meetL [(0,.ref 5 0),(3,.ref 0 0),(4,ri .i64 1),(6,.own 2),(7,.ref 7 0),(74,ri .i64 m),(75,ri .i64 0)] (tsr rfl) (h:=[bC col,RW m ((swp W 1 1) 0),RW m (swp W 1 1 1),RW m ((swp W 1 1) 2),.rowa 38 1 3 [.own 1,.own 2,.own 3],.box 391 [.own 4,ri .i64 m,.own 6],PV 1 P,.box 49 ((qc (1 / (swp W 1 1) 1 col)).map .im)]) rfl ?_
    exact q_ct3_1 hm hc hL hl (i:=1) (by decide) (by decide) h0 _
  ·refine iff_ rfl rfl ?_
   refine rqa [0,1,2,3,4,5,6,7,8,9,10,11,12,13,14,15,16,17,18,19,20,21,22,23,24,25,26,27,28,29,30,31] [(9,[4],some []),(10,[4],some []),(11,[4],some []),(29,[],some [4])] ?_
   refine ⟨(by decide : (0 : Int) ≤ IntKind.i64.wrap ((1 : Int) + 1) ∧ IntKind.i64.wrap ((1 : Int) + 1) < 3),?_⟩
   refine ga ?_
   refine ⟨(by decide : (0 : Int) ≤ 1 ∧ (1 : Int) < 3),?_⟩
   refine ga ?_
   refine ⟨(by decide : (0 : Int) ≤ 1 ∧ (1 : Int) < 3),?_⟩
   refine ⟨(by decide : 1 + 1 ≤ 3),?_⟩
   refine ⟨(by decide : (0 : Int) ≤ IntKind.i64.wrap ((1 : Int) + 1) ∧ IntKind.i64.wrap ((1 : Int) + 1) < 3),?_⟩
   refine ⟨(by decide : 2 + 1 ≤ 3),?_⟩
   refine ⟨(by decide : (0 : Int) ≤ 1 ∧ (1 : Int) < 3),?_⟩
   refine ga ?_
   have hb:=hl 2 col (by decide) hc
   have hq:=r_Quo (a:=1) (b:=W 2 col) h0 (Nat.le_trans lr_one (by decide)) (by omega)
   refine rta (PT.app [1,2,3,4] (.br 0 (.br 5 (PT.app [6,7,8,9,10,11] .nil) 9 (PT.app [5,6,7,8,10,11] .nil)) 9 (PT.app [0,5,6,7,8,10,11] .nil))) [(8,[7],some []),(10,[],some [7])] ?_
   refine ⟨⟨by omega,by omega⟩,?_⟩
   refine gq col hc (by rw [Int.toNat_natCast]) ?_
   refine ⟨?_,?_⟩
   ·refine ce c_one rfl ?_
    refine ⟨?_,?_⟩
    ·refine ce hq rfl ?_
     refine lgc [0,1,3,2,4,5,6,7] rfl ?_
     refine meetL [(0,.ref 5 0),(3,.ref 0 0),(4,ri .i64 1),(6,.own 2),(7,.ref 7 0),(74,ri .i64 m),(75,ri .i64 0)] (tsr rfl) (h:=[bC col,RW m ((swp W 1 2) 0),RW m (swp W 1 2 1),RW m ((swp W 1 2) 2),.rowa 38 1 3 [.own 1,.own 2,.own 3],.box 391 [.own 4,ri .i64 m,.own 6],PV 1 P,.box 49 ((qc (1 / (swp W 1 2) 1 col)).map .im)]) rfl ?_
     exact q_ct3_1 hm hc hL hl (i:=2) (by decide) (by decide) h0 _
    ·refine ce hq rfl ?_
     refine lgc [0,1,3,2,4,5,6,7] rfl ?_
     refine meetL [(0,.ref 5 0),(3,.ref 0 0),(4,ri .i64 1),(6,.own 2),(7,.ref 7 0),(74,ri .i64 m),(75,ri .i64 0)] (tsr rfl) (h:=[bC col,RW m ((swp W 1 2) 0),RW m (swp W 1 2 1),RW m ((swp W 1 2) 2),.rowa 38 1 3 [.own 1,.own 2,.own 3],.box 391 [.own 4,ri .i64 m,.own 6],PV 1 P,.box 49 ((qc (1 / (swp W 1 2) 1 col)).map .im)]) rfl ?_
     exact q_ct3_1 hm hc hL hl (i:=2) (by decide) (by decide) h0 _
   ·refine ce c_one rfl ?_
    refine ce hq rfl ?_
    refine lgc [0,1,3,2,4,5,6,7] rfl ?_
    refine meetL [(0,.ref 5 0),(3,.ref 0 0),(4,ri .i64 1),(6,.own 2),(7,.ref 7 0),(74,ri .i64 m),(75,ri .i64 0)] (tsr rfl) (h:=[bC col,RW m ((swp W 1 2) 0),RW m (swp W 1 2 1),RW m ((swp W 1 2) 2),.rowa 38 1 3 [.own 1,.own 2,.own 3],.box 391 [.own 4,ri .i64 m,.own 6],PV 1 P,.box 49 ((qc (1 / (swp W 1 2) 1 col)).map .im)]) rfl ?_
    exact q_ct3_1 hm hc hL hl (i:=2) (by decide) (by decide) h0 _
theorem q_ct3_2 {m col L : Nat} {W : Nat → Nat → Rat} {P : List Nat} (hm : m ≤ 64) (hc : col < m) (hL : L ≤ 900) (hl : ∀ i k,i < 3 → k < m → lr (W i k) ≤ L) {i : Nat} (hi : 2 ≤ i) (hin : i < 3) (h0 : W i col ≠ 0) (t : Nat → AV) :
  vcC Tryz.prog (Tb (fun i=>!Nat.beq i 5)) (dropC 9 (codeOf Tryz.f471)) (mkT [(0,.ref 5 0),(3,.ref 0 0),(4,ri .i64 2),(6,.own 3),(7,.ref 7 0),(74,ri .i64 m),(75,ri .i64 0)] t) [bC col,RW m ((swp W 2 i) 0),RW m ((swp W 2 i) 1),RW m (swp W 2 i 2),.rowa 38 1 3 [.own 1,.own 2,.own 3],.box 391 [.own 4,ri .i64 m,.own 6],PV 2 P,.box 49 ((qc (1 / (swp W 2 i) 2 col)).map .im)]
   (RetK (Tb (fun i=>!Nat.beq i 5)) [] (EndE (fun i=>!Nat.beq i 5) (fun x H'=>x = .tup [] ∧ ((H' = hw3 m W 2 P ∧ ∀ i,2 ≤ i → i < 3 → W i col = 0) ∨ ∃ i,2 ≤ i ∧ i < 3 ∧ W i col ≠ 0 ∧ H' = hw3 m (elm W 2 i col (1 / W i col)) 3 (P ++ [col]))))):=by
 obtain ⟨V,hV⟩ : ∃ V,V = swp W 2 i:=⟨_,rfl⟩
 have hVl : ∀ r k,r < 3 → k < m → lr (V r k) ≤ L:=fun r k hr hk=>by rw [hV]; unfold swp; (repeat' split) <;> first | exact hl i k hin hk | exact hl 2 k (by decide) hk | exact hl r k hr hk
 have hVq : ∀ k,V 2 k = W i k:=fun k=>by rw [hV]; unfold swp; rw [if_pos rfl]
 have hVn : V 2 col ≠ 0:=by rw [hVq]; exact h0
 have hcl : lr (1 / V 2 col) ≤ L:=Nat.le_trans (lr_inv _ hVn) (hVl 2 col (by decide) hc)
 rw [← hV]
 refine lpt (fun j : Nat=>j ≤ m) (fun j=>[(0,.ref 5 0),(3,.ref 0 0),(4,ri .i64 2),(6,.own 3),(7,.ref 7 0),(74,ri .i64 m),(75,ri .i64 j)]) (fun j=>[bC col,RW m (V 0),RW m (V 1),RW m (mix j (fun k=>V 2 k * (1 / V 2 col)) (V 2)),.rowa 38 1 3 [.own 1,.own 2,.own 3],.box 391 [.own 4,ri .i64 m,.own 6],PV 2 P,.box 49 ((qc (1 / V 2 col)).map .im)]) (fun j=>m - j) 0 (Nat.zero_le _) (tsr rfl) (by rw [mix_zero] <;> rfl) ?_
 intro j t hj
 refine ifs rfl (fun hlt=>?_) (fun hge=>?_)
 ·have hlt:=of_decide_eq_true hlt
  have hjm : j < m:=by omega
  have l1:=hVl 2 j (by decide) hjm
  refine rq [0,1,2,3,4,5,6,7,8,9] ?_
  refine ⟨⟨by omega,by omega⟩,?_⟩
  refine gq j hjm (by rw [Int.toNat_natCast]) ?_
  rw [mix_at]
  refine ce (r_Mul (a:=V 2 j) (b:=1 / V 2 col) (by omega) (by omega)) rfl ?_
  refine ⟨⟨by omega,by omega⟩,?_⟩
  refine ⟨by rw [rC_len]; show (j : Int).toNat * 4 + 4 ≤ _; omega,?_⟩
  refine nxg [0,1,2,3,4,5,6,7] (j + 1) (by omega) rfl ⟨by omega,⟨rfl,rfl,rfl,rfl,rfl,rfl,congrArg (ri .i64) (i64s (by omega)).symm,trivial⟩,?_⟩
  have e : putAt (rC m (mix j (fun k=>V 2 k * (1 / V 2 col)) (V 2))) (j * 4) (qc (V 2 j * (1 / V 2 col))) = rC m (mix (j + 1) (fun k=>V 2 k * (1 / V 2 col)) (V 2)):=by
   rw [rC_put _ hjm]; exact congrArg _ (mix_succ j (fun k=>V 2 k * (1 / V 2 col)) (V 2))
  exact congrArg (fun l=>[bC col,RW m (V 0),RW m (V 1),.row 49 4 m l,.rowa 38 1 3 [.own 1,.own 2,.own 3],.box 391 [.own 4,ri .i64 m,.own 6],PV 2 P,.box 49 ((qc (1 / V 2 col)).map .im)]) e
 ·have hge:=of_decide_eq_false hge
  obtain rfl : j = m:=by omega
  refine lpn 4 ?_
  obtain ⟨g,hg⟩ : ∃ g,g = mix j (fun k=>V 2 k * (1 / V 2 col)) (V 2):=⟨_,rfl⟩
  have hgk : ∀ k,k < j → g k = V 2 k * (1 / V 2 col):=fun k hk=>by rw [hg]; exact if_pos hk
  have hgl : ∀ k,k < j → lr (g k) ≤ 9000:=fun k hk=>by rw [hgk k hk]; have l1:=hVl 2 k (by decide) hk; have:=lr_mul (V 2 k) (1 / V 2 col); omega
  have hvl : ∀ r k,r < 3 → k < j → lr (V r k) ≤ 9000:=fun r k hr hk=>by have:=hVl r k hr hk; omega
  rw [← hg]
  refine ift rfl rfl ?_
  refine ⟨by decide,?_⟩
  refine ga ?_
  refine ift rfl rfl ?_
  refine ⟨⟨by omega,by omega⟩,?_⟩
  refine gq col hc (by rw [Int.toNat_natCast]) ?_
  refine cxg [1,3,2,0,4,5,6,7] 2 [] (q_take (g:=V 0) (h:=g) (f:=V 0 col) hm (fun k hk=>hvl 0 k (by decide) hk) hgl (hvl 0 col (by decide) hc)) rfl rfl rfl rfl ?_
  rintro _ _ ⟨rfl,rfl⟩
  refine ⟨.inl rfl,?_⟩
  refine ift rfl rfl ?_
  refine ⟨by decide,?_⟩
  refine ga ?_
  refine ift rfl rfl ?_
  refine ⟨⟨by omega,by omega⟩,?_⟩
  refine gq col hc (by rw [Int.toNat_natCast]) ?_
  refine cxg [2,1,0,3,4,5,6,7] 2 [] (q_take (g:=V 1) (h:=g) (f:=V 1 col) hm (fun k hk=>hvl 1 k (by decide) hk) hgl (hvl 1 col (by decide) hc)) rfl rfl rfl rfl ?_
  rintro _ _ ⟨rfl,rfl⟩
  refine ⟨.inl rfl,?_⟩
  refine ift rfl rfl ?_
  refine ⟨by decide,?_⟩
  refine ga ?_
  refine iff_ rfl rfl ?_
  refine iff_ rfl rfl ?_
  have he : [.row 3 1 3 (pvs P ++ [.raw (.int .i64 (col : Int))]),RW j (fun k=>V 0 k - V 0 col * g k),RW j (fun k=>V 1 k - V 1 col * g k),RW j g,.rowa 38 1 3 [.own 1,.own 2,.own 3],.box 391 [.own 4,ri .i64 j,.own 0]] = hw3 j (elm W 2 i col (1 / W i col)) 3 (P ++ [col]):=by
   rw [pvs_app,rW_congr (g:=fun k=>V 0 k - V 0 col * g k) (h:=elm W 2 i col (1 / W i col) 0) (fun k hk=>by rw [hgk k hk,elm_ne _ _ (by decide),hVq,hVq,hV]),rW_congr (g:=fun k=>V 1 k - V 1 col * g k) (h:=elm W 2 i col (1 / W i col) 1) (fun k hk=>by rw [hgk k hk,elm_ne _ _ (by decide),hVq,hVq,hV]),rW_congr (g:=g) (h:=elm W 2 i col (1 / W i col) 2) (fun k hk=>by rw [hgk k hk,elm_top,hVq,hVq])]; rfl
  have hd : (2 + 1) * 8 ≤ 140737488355328 ∧ 2 + 1 ≤ 1000000000:=by decide
  refine rt (PT.app [1,2,3,4,5] (.br 0 (PT.app [6,7,8,9,10] .nil) 6 (.br 0 (PT.app [7,8,9,10] .nil) 7 (PT.app [0,8,9,10] .nil)))) ?_
  refine ⟨?_,?_,?_⟩ <;> refine ⟨hd,?_⟩ <;> exact fin [6,2,0,1,4,5] rfl ⟨rfl,.inr ⟨i,hi,hin,h0,Eq.trans rfl he⟩⟩
theorem q_col3_2 {m col L : Nat} {W : Nat → Nat → Rat} {P : List Nat} (hm : m ≤ 64) (hc : col < m) (hL : L ≤ 900) (hl : ∀ i k,i < 3 → k < m → lr (W i k) ≤ L) :
  Ec Tryz.prog 471 (fun i=>!Nat.beq i 5) (hw3 m W 2 P) [.ref 5 0,ri .i64 col] (fun x H'=>x = .tup [] ∧ ((H' = hw3 m W 2 P ∧ ∀ i,2 ≤ i → i < 3 → W i col = 0) ∨ ∃ i,2 ≤ i ∧ i < 3 ∧ W i col ≠ 0 ∧ H' = hw3 m (elm W 2 i col (1 / W i col)) 3 (P ++ [col]))):=by
 have hl' : ∀ i,i < 3 → lr (W i col) ≤ 100000:=fun i hi=>by have:=hl i col hi hc; omega
 refine ec Tryz.func471 ?_
 refine ⟨(by decide : (0 : Int) ≤ 2 ∧ (2 : Int) < 3 ∧ (3 : Int) ≤ 3),?_⟩
 refine cxg [6,1,2,3,4,5,0] 5 [1,2,3] (q_idx3_2 (W:=W) hm hc hl') rfl rfl rfl rfl ?_
 rintro x _ ⟨rfl,hx⟩
 refine ⟨.inl rfl,?_⟩
 rcases hx with ⟨rfl,h0⟩ | ⟨i,hi,rfl,h0⟩
 ·refine ift rfl rfl ?_
  exact fin [6,1,2,3,4,5] rfl ⟨rfl,.inl ⟨rfl,h0⟩⟩
 ·have hi : i = 0:=by omega
  rcases hi with rfl
  ·refine iff_ rfl rfl ?_
   refine rqa [0,1,2,3,4,5,6,7,8,9,10,11,12,13,14,15,16,17,18,19,20,21,22,23,24,25,26,27,28,29,30,31] [(9,[4],some []),(10,[4],some []),(11,[4],some []),(29,[],some [4])] ?_
   refine ⟨(by decide : (0 : Int) ≤ IntKind.i64.wrap ((2 : Int) + 0) ∧ IntKind.i64.wrap ((2 : Int) + 0) < 3),?_⟩
   refine ga ?_
   refine ⟨(by decide : (0 : Int) ≤ 2 ∧ (2 : Int) < 3),?_⟩
   refine ga ?_
   refine ⟨(by decide : (0 : Int) ≤ 2 ∧ (2 : Int) < 3),?_⟩
   refine ⟨(by decide : 2 + 1 ≤ 3),?_⟩
   refine ⟨(by decide : (0 : Int) ≤ IntKind.i64.wrap ((2 : Int) + 0) ∧ IntKind.i64.wrap ((2 : Int) + 0) < 3),?_⟩
   refine ⟨(by decide : 2 + 1 ≤ 3),?_⟩
   refine ⟨(by decide : (0 : Int) ≤ 2 ∧ (2 : Int) < 3),?_⟩
   refine ga ?_
   have hb:=hl 2 col (by decide) hc
   have hq:=r_Quo (a:=1) (b:=W 2 col) h0 (Nat.le_trans lr_one (by decide)) (by omega)
   refine rta (PT.app [1,2,3,4] (.br 0 (.br 5 (PT.app [6,7,8,9,10,11] .nil) 9 (PT.app [5,6,7,8,10,11] .nil)) 9 (PT.app [0,5,6,7,8,10,11] .nil))) [(8,[7],some []),(10,[],some [7])] ?_
   refine ⟨⟨by omega,by omega⟩,?_⟩
   refine gq col hc (by rw [Int.toNat_natCast]) ?_
   refine ⟨?_,?_⟩
   ·refine ce c_one rfl ?_
    refine ⟨?_,?_⟩
    ·refine ce hq rfl ?_
     refine lgc [0,1,2,3,4,5,6,7] rfl ?_
     refine meetL [(0,.ref 5 0),(3,.ref 0 0),(4,ri .i64 2),(6,.own 3),(7,.ref 7 0),(74,ri .i64 m),(75,ri .i64 0)] (tsr rfl) (h:=[bC col,RW m ((swp W 2 2) 0),RW m ((swp W 2 2) 1),RW m (swp W 2 2 2),.rowa 38 1 3 [.own 1,.own 2,.own 3],.box 391 [.own 4,ri .i64 m,.own 6],PV 2 P,.box 49 ((qc (1 / (swp W 2 2) 2 col)).map .im)]) rfl ?_
     exact q_ct3_2 hm hc hL hl (i:=2) (by decide) (by decide) h0 _
    ·refine ce hq rfl ?_
     refine lgc [0,1,2,3,4,5,6,7] rfl ?_
     refine meetL [(0,.ref 5 0),(3,.ref 0 0),(4,ri .i64 2),(6,.own 3),(7,.ref 7 0),(74,ri .i64 m),(75,ri .i64 0)] (tsr rfl) (h:=[bC col,RW m ((swp W 2 2) 0),RW m ((swp W 2 2) 1),RW m (swp W 2 2 2),.rowa 38 1 3 [.own 1,.own 2,.own 3],.box 391 [.own 4,ri .i64 m,.own 6],PV 2 P,.box 49 ((qc (1 / (swp W 2 2) 2 col)).map .im)]) rfl ?_
     exact q_ct3_2 hm hc hL hl (i:=2) (by decide) (by decide) h0 _
   ·refine ce c_one rfl ?_
    refine ce hq rfl ?_
    refine lgc [0,1,2,3,4,5,6,7] rfl ?_
    refine meetL [(0,.ref 5 0),(3,.ref 0 0),(4,ri .i64 2),(6,.own 3),(7,.ref 7 0),(74,ri .i64 m),(75,ri .i64 0)] (tsr rfl) (h:=[bC col,RW m ((swp W 2 2) 0),RW m ((swp W 2 2) 1),RW m (swp W 2 2 2),.rowa 38 1 3 [.own 1,.own 2,.own 3],.box 391 [.own 4,ri .i64 m,.own 6],PV 2 P,.box 49 ((qc (1 / (swp W 2 2) 2 col)).map .im)]) rfl ?_
    exact q_ct3_2 hm hc hL hl (i:=2) (by decide) (by decide) h0 _
theorem q_ct4_0 {m col L : Nat} {W : Nat → Nat → Rat} {P : List Nat} (hm : m ≤ 64) (hc : col < m) (hL : L ≤ 900) (hl : ∀ i k,i < 4 → k < m → lr (W i k) ≤ L) {i : Nat} (hi : 0 ≤ i) (hin : i < 4) (h0 : W i col ≠ 0) (t : Nat → AV) :
  vcC Tryz.prog (Tb (fun i=>!Nat.beq i 6)) (dropC 9 (codeOf Tryz.f471)) (mkT [(0,.ref 6 0),(3,.ref 0 0),(4,ri .i64 0),(6,.own 1),(7,.ref 8 0),(74,ri .i64 m),(75,ri .i64 0)] t) [bC col,RW m (swp W 0 i 0),RW m ((swp W 0 i) 1),RW m ((swp W 0 i) 2),RW m ((swp W 0 i) 3),.rowa 38 1 4 [.own 1,.own 2,.own 3,.own 4],.box 391 [.own 5,ri .i64 m,.own 7],PV 0 P,.box 49 ((qc (1 / (swp W 0 i) 0 col)).map .im)]
   (RetK (Tb (fun i=>!Nat.beq i 6)) [] (EndE (fun i=>!Nat.beq i 6) (fun x H'=>x = .tup [] ∧ ((H' = hw4 m W 0 P ∧ ∀ i,0 ≤ i → i < 4 → W i col = 0) ∨ ∃ i,0 ≤ i ∧ i < 4 ∧ W i col ≠ 0 ∧ H' = hw4 m (elm W 0 i col (1 / W i col)) 1 (P ++ [col]))))):=by
 obtain ⟨V,hV⟩ : ∃ V,V = swp W 0 i:=⟨_,rfl⟩
 have hVl : ∀ r k,r < 4 → k < m → lr (V r k) ≤ L:=fun r k hr hk=>by rw [hV]; unfold swp; (repeat' split) <;> first | exact hl i k hin hk | exact hl 0 k (by decide) hk | exact hl r k hr hk
 have hVq : ∀ k,V 0 k = W i k:=fun k=>by rw [hV]; unfold swp; rw [if_pos rfl]
 have hVn : V 0 col ≠ 0:=by rw [hVq]; exact h0
 have hcl : lr (1 / V 0 col) ≤ L:=Nat.le_trans (lr_inv _ hVn) (hVl 0 col (by decide) hc)
 rw [← hV]
 refine lpt (fun j : Nat=>j ≤ m) (fun j=>[(0,.ref 6 0),(3,.ref 0 0),(4,ri .i64 0),(6,.own 1),(7,.ref 8 0),(74,ri .i64 m),(75,ri .i64 j)]) (fun j=>[bC col,RW m (mix j (fun k=>V 0 k * (1 / V 0 col)) (V 0)),RW m (V 1),RW m (V 2),RW m (V 3),.rowa 38 1 4 [.own 1,.own 2,.own 3,.own 4],.box 391 [.own 5,ri .i64 m,.own 7],PV 0 P,.box 49 ((qc (1 / V 0 col)).map .im)]) (fun j=>m - j) 0 (Nat.zero_le _) (tsr rfl) (by rw [mix_zero] <;> rfl) ?_
 intro j t hj
 refine ifs rfl (fun hlt=>?_) (fun hge=>?_)
 ·have hlt:=of_decide_eq_true hlt
  have hjm : j < m:=by omega
  have l1:=hVl 0 j (by decide) hjm
  refine rq [0,1,2,3,4,5,6,7,8,9] ?_
  refine ⟨⟨by omega,by omega⟩,?_⟩
  refine gq j hjm (by rw [Int.toNat_natCast]) ?_
  rw [mix_at]
  refine ce (r_Mul (a:=V 0 j) (b:=1 / V 0 col) (by omega) (by omega)) rfl ?_
  refine ⟨⟨by omega,by omega⟩,?_⟩
  refine ⟨by rw [rC_len]; show (j : Int).toNat * 4 + 4 ≤ _; omega,?_⟩
  refine nxg [0,1,2,3,4,5,6,7,8] (j + 1) (by omega) rfl ⟨by omega,⟨rfl,rfl,rfl,rfl,rfl,rfl,congrArg (ri .i64) (i64s (by omega)).symm,trivial⟩,?_⟩
  have e : putAt (rC m (mix j (fun k=>V 0 k * (1 / V 0 col)) (V 0))) (j * 4) (qc (V 0 j * (1 / V 0 col))) = rC m (mix (j + 1) (fun k=>V 0 k * (1 / V 0 col)) (V 0)):=by
   rw [rC_put _ hjm]; exact congrArg _ (mix_succ j (fun k=>V 0 k * (1 / V 0 col)) (V 0))
  exact congrArg (fun l=>[bC col,.row 49 4 m l,RW m (V 1),RW m (V 2),RW m (V 3),.rowa 38 1 4 [.own 1,.own 2,.own 3,.own 4],.box 391 [.own 5,ri .i64 m,.own 7],PV 0 P,.box 49 ((qc (1 / V 0 col)).map .im)]) e
 ·have hge:=of_decide_eq_false hge
  obtain rfl : j = m:=by omega
  refine lpn 5 ?_
  obtain ⟨g,hg⟩ : ∃ g,g = mix j (fun k=>V 0 k * (1 / V 0 col)) (V 0):=⟨_,rfl⟩
  have hgk : ∀ k,k < j → g k = V 0 k * (1 / V 0 col):=fun k hk=>by rw [hg]; exact if_pos hk
  have hgl : ∀ k,k < j → lr (g k) ≤ 9000:=fun k hk=>by rw [hgk k hk]; have l1:=hVl 0 k (by decide) hk; have:=lr_mul (V 0 k) (1 / V 0 col); omega
  have hvl : ∀ r k,r < 4 → k < j → lr (V r k) ≤ 9000:=fun r k hr hk=>by have:=hVl r k hr hk; omega
  rw [← hg]
  refine ift rfl rfl ?_
  refine ⟨by decide,?_⟩
  refine ga ?_
  refine iff_ rfl rfl ?_
  refine ift rfl rfl ?_
  refine ⟨by decide,?_⟩
  refine ga ?_
  refine ift rfl rfl ?_
  refine ⟨⟨by omega,by omega⟩,?_⟩
  refine gq col hc (by rw [Int.toNat_natCast]) ?_
  refine cxg [2,1,3,4,0,5,6,7,8] 2 [] (q_take (g:=V 1) (h:=g) (f:=V 1 col) hm (fun k hk=>hvl 1 k (by decide) hk) hgl (hvl 1 col (by decide) hc)) rfl rfl rfl rfl ?_
  rintro _ _ ⟨rfl,rfl⟩
  refine ⟨.inl rfl,?_⟩
  refine ift rfl rfl ?_
  refine ⟨by decide,?_⟩
  refine ga ?_
  refine ift rfl rfl ?_
  refine ⟨⟨by omega,by omega⟩,?_⟩
  refine gq col hc (by rw [Int.toNat_natCast]) ?_
  refine cxg [2,1,0,3,4,5,6,7,8] 2 [] (q_take (g:=V 2) (h:=g) (f:=V 2 col) hm (fun k hk=>hvl 2 k (by decide) hk) hgl (hvl 2 col (by decide) hc)) rfl rfl rfl rfl ?_
  rintro _ _ ⟨rfl,rfl⟩
  refine ⟨.inl rfl,?_⟩
  refine ift rfl rfl ?_
  refine ⟨by decide,?_⟩
  refine ga ?_
  refine ift rfl rfl ?_
  refine ⟨⟨by omega,by omega⟩,?_⟩
  refine gq col hc (by rw [Int.toNat_natCast]) ?_
  refine cxg [3,1,2,0,4,5,6,7,8] 2 [] (q_take (g:=V 3) (h:=g) (f:=V 3 col) hm (fun k hk=>hvl 3 k (by decide) hk) hgl (hvl 3 col (by decide) hc)) rfl rfl rfl rfl ?_
  rintro _ _ ⟨rfl,rfl⟩
  refine ⟨.inl rfl,?_⟩
  refine iff_ rfl rfl ?_
  have he : [.row 3 1 1 (pvs P ++ [.raw (.int .i64 (col : Int))]),RW j g,RW j (fun k=>V 1 k - V 1 col * g k),RW j (fun k=>V 2 k - V 2 col * g k),RW j (fun k=>V 3 k - V 3 col * g k),.rowa 38 1 4 [.own 1,.own 2,.own 3,.own 4],.box 391 [.own 5,ri .i64 j,.own 0]] = hw4 j (elm W 0 i col (1 / W i col)) 1 (P ++ [col]):=by
   rw [pvs_app,rW_congr (g:=g) (h:=elm W 0 i col (1 / W i col) 0) (fun k hk=>by rw [hgk k hk,elm_top,hVq,hVq]),rW_congr (g:=fun k=>V 1 k - V 1 col * g k) (h:=elm W 0 i col (1 / W i col) 1) (fun k hk=>by rw [hgk k hk,elm_ne _ _ (by decide),hVq,hVq,hV]),rW_congr (g:=fun k=>V 2 k - V 2 col * g k) (h:=elm W 0 i col (1 / W i col) 2) (fun k hk=>by rw [hgk k hk,elm_ne _ _ (by decide),hVq,hVq,hV]),rW_congr (g:=fun k=>V 3 k - V 3 col * g k) (h:=elm W 0 i col (1 / W i col) 3) (fun k hk=>by rw [hgk k hk,elm_ne _ _ (by decide),hVq,hVq,hV])]; rfl
  have hd : (0 + 1) * 8 ≤ 140737488355328 ∧ 0 + 1 ≤ 1000000000:=by decide
  refine rt (PT.app [1,2,3,4,5] (.br 0 (PT.app [6,7,8,9,10] .nil) 6 (.br 0 (PT.app [7,8,9,10] .nil) 7 (PT.app [0,8,9,10] .nil)))) ?_
  refine ⟨?_,?_,?_⟩ <;> refine ⟨hd,?_⟩ <;> exact fin [7,1,2,3,0,5,6] rfl ⟨rfl,.inr ⟨i,hi,hin,h0,Eq.trans rfl he⟩⟩
theorem q_col4_0 {m col L : Nat} {W : Nat → Nat → Rat} {P : List Nat} (hm : m ≤ 64) (hc : col < m) (hL : L ≤ 900) (hl : ∀ i k,i < 4 → k < m → lr (W i k) ≤ L) :
  Ec Tryz.prog 471 (fun i=>!Nat.beq i 6) (hw4 m W 0 P) [.ref 6 0,ri .i64 col] (fun x H'=>x = .tup [] ∧ ((H' = hw4 m W 0 P ∧ ∀ i,0 ≤ i → i < 4 → W i col = 0) ∨ ∃ i,0 ≤ i ∧ i < 4 ∧ W i col ≠ 0 ∧ H' = hw4 m (elm W 0 i col (1 / W i col)) 1 (P ++ [col]))):=by
 have hl' : ∀ i,i < 4 → lr (W i col) ≤ 100000:=fun i hi=>by have:=hl i col hi hc; omega
 refine ec Tryz.func471 ?_
 refine ⟨(by decide : (0 : Int) ≤ 0 ∧ (0 : Int) < 4 ∧ (4 : Int) ≤ 4),?_⟩
 refine cxg [7,1,2,3,4,5,6,0] 6 [1,2,3,4] (q_idx4_0 (W:=W) hm hc hl') rfl rfl rfl rfl ?_
 rintro x _ ⟨rfl,hx⟩
 refine ⟨.inl rfl,?_⟩
 rcases hx with ⟨rfl,h0⟩ | ⟨i,hi,rfl,h0⟩
 ·refine ift rfl rfl ?_
  exact fin [7,1,2,3,4,5,6] rfl ⟨rfl,.inl ⟨rfl,h0⟩⟩
 ·have hi : i = 0 ∨ i = 1 ∨ i = 2 ∨ i = 3:=by omega
  rcases hi with rfl | rfl | rfl | rfl
  ·refine iff_ rfl rfl ?_
   refine rqa [0,1,2,3,4,5,6,7,8,9,10,11,12,13,14,15,16,17,18,19,20,21,22,23,24,25,26,27,28,29,30,31] [(9,[5],some []),(10,[5],some []),(11,[5],some []),(29,[],some [5])] ?_
   refine ⟨(by decide : (0 : Int) ≤ IntKind.i64.wrap ((0 : Int) + 0) ∧ IntKind.i64.wrap ((0 : Int) + 0) < 4),?_⟩
   refine ga ?_
   refine ⟨(by decide : (0 : Int) ≤ 0 ∧ (0 : Int) < 4),?_⟩
   refine ga ?_
   refine ⟨(by decide : (0 : Int) ≤ 0 ∧ (0 : Int) < 4),?_⟩
   refine ⟨(by decide : 0 + 1 ≤ 4),?_⟩
   refine ⟨(by decide : (0 : Int) ≤ IntKind.i64.wrap ((0 : Int) + 0) ∧ IntKind.i64.wrap ((0 : Int) + 0) < 4),?_⟩
   refine ⟨(by decide : 0 + 1 ≤ 4),?_⟩
   refine ⟨(by decide : (0 : Int) ≤ 0 ∧ (0 : Int) < 4),?_⟩
   refine ga ?_
   have hb:=hl 0 col (by decide) hc
   have hq:=r_Quo (a:=1) (b:=W 0 col) h0 (Nat.le_trans lr_one (by decide)) (by omega)
   refine rta (PT.app [1,2,3,4] (.br 0 (.br 5 (PT.app [6,7,8,9,10,11] .nil) 9 (PT.app [5,6,7,8,10,11] .nil)) 9 (PT.app [0,5,6,7,8,10,11] .nil))) [(8,[8],some []),(10,[],some [8])] ?_
   refine ⟨⟨by omega,by omega⟩,?_⟩
   refine gq col hc (by rw [Int.toNat_natCast]) ?_
   refine ⟨?_,?_⟩
   ·refine ce c_one rfl ?_
    refine ⟨?_,?_⟩
    ·refine ce hq rfl ?_
     refine lgc [0,1,2,3,4,5,6,7,8] rfl ?_
     refine meetL [(0,.ref 6 0),(3,.ref 0 0),(4,ri .i64 0),(6,.own 1),(7,.ref 8 0),(74,ri .i64 m),(75,ri .i64 0)] (tsr rfl) (h:=[bC col,RW m (swp W 0 0 0),RW m ((swp W 0 0) 1),RW m ((swp W 0 0) 2),RW m ((swp W 0 0) 3),.rowa 38 1 4 [.own 1,.own 2,.own 3,.own 4],.box 391 [.own 5,ri .i64 m,.own 7],PV 0 P,.box 49 ((qc (1 / (swp W 0 0) 0 col)).map .im)]) rfl ?_
     exact q_ct4_0 hm hc hL hl (i:=0) (by decide) (by decide) h0 _
    ·refine ce hq rfl ?_
     refine lgc [0,1,2,3,4,5,6,7,8] rfl ?_
     refine meetL [(0,.ref 6 0),(3,.ref 0 0),(4,ri .i64 0),(6,.own 1),(7,.ref 8 0),(74,ri .i64 m),(75,ri .i64 0)] (tsr rfl) (h:=[bC col,RW m (swp W 0 0 0),RW m ((swp W 0 0) 1),RW m ((swp W 0 0) 2),RW m ((swp W 0 0) 3),.rowa 38 1 4 [.own 1,.own 2,.own 3,.own 4],.box 391 [.own 5,ri .i64 m,.own 7],PV 0 P,.box 49 ((qc (1 / (swp W 0 0) 0 col)).map .im)]) rfl ?_
     exact q_ct4_0 hm hc hL hl (i:=0) (by decide) (by decide) h0 _
   ·refine ce c_one rfl ?_
    refine ce hq rfl ?_
    refine lgc [0,1,2,3,4,5,6,7,8] rfl ?_
    refine meetL [(0,.ref 6 0),(3,.ref 0 0),(4,ri .i64 0),(6,.own 1),(7,.ref 8 0),(74,ri .i64 m),(75,ri .i64 0)] (tsr rfl) (h:=[bC col,RW m (swp W 0 0 0),RW m ((swp W 0 0) 1),RW m ((swp W 0 0) 2),RW m ((swp W 0 0) 3),.rowa 38 1 4 [.own 1,.own 2,.own 3,.own 4],.box 391 [.own 5,ri .i64 m,.own 7],PV 0 P,.box 49 ((qc (1 / (swp W 0 0) 0 col)).map .im)]) rfl ?_
    exact q_ct4_0 hm hc hL hl (i:=0) (by decide) (by decide) h0 _
  ·refine iff_ rfl rfl ?_
   refine rqa [0,1,2,3,4,5,6,7,8,9,10,11,12,13,14,15,16,17,18,19,20,21,22,23,24,25,26,27,28,29,30,31] [(9,[5],some []),(10,[5],some []),(11,[5],some []),(29,[],some [5])] ?_
   refine ⟨(by decide : (0 : Int) ≤ IntKind.i64.wrap ((0 : Int) + 1) ∧ IntKind.i64.wrap ((0 : Int) + 1) < 4),?_⟩
   refine ga ?_
   refine ⟨(by decide : (0 : Int) ≤ 0 ∧ (0 : Int) < 4),?_⟩
   refine ga ?_
   refine ⟨(by decide : (0 : Int) ≤ 0 ∧ (0 : Int) < 4),?_⟩
   refine ⟨(by decide : 0 + 1 ≤ 4),?_⟩
   refine ⟨(by decide : (0 : Int) ≤ IntKind.i64.wrap ((0 : Int) + 1) ∧ IntKind.i64.wrap ((0 : Int) + 1) < 4),?_⟩
   refine ⟨(by decide : 1 + 1 ≤ 4),?_⟩
   refine ⟨(by decide : (0 : Int) ≤ 0 ∧ (0 : Int) < 4),?_⟩
   refine ga ?_
   have hb:=hl 1 col (by decide) hc
   have hq:=r_Quo (a:=1) (b:=W 1 col) h0 (Nat.le_trans lr_one (by decide)) (by omega)
   refine rta (PT.app [1,2,3,4] (.br 0 (.br 5 (PT.app [6,7,8,9,10,11] .nil) 9 (PT.app [5,6,7,8,10,11] .nil)) 9 (PT.app [0,5,6,7,8,10,11] .nil))) [(8,[8],some []),(10,[],some [8])] ?_
   refine ⟨⟨by omega,by omega⟩,?_⟩
   refine gq col hc (by rw [Int.toNat_natCast]) ?_
   refine ⟨?_,?_⟩
   ·refine ce c_one rfl ?_
    refine ⟨?_,?_⟩
    ·refine ce hq rfl ?_
     refine lgc [0,2,1,3,4,5,6,7,8] rfl ?_
     refine meetL [(0,.ref 6 0),(3,.ref 0 0),(4,ri .i64 0),(6,.own 1),(7,.ref 8 0),(74,ri .i64 m),(75,ri .i64 0)] (tsr rfl) (h:=[bC col,RW m (swp W 0 1 0),RW m ((swp W 0 1) 1),RW m ((swp W 0 1) 2),RW m ((swp W 0 1) 3),.rowa 38 1 4 [.own 1,.own 2,.own 3,.own 4],.box 391 [.own 5,ri .i64 m,.own 7],PV 0 P,.box 49 ((qc (1 / (swp W 0 1) 0 col)).map .im)]) rfl ?_
     exact q_ct4_0 hm hc hL hl (i:=1) (by decide) (by decide) h0 _
    ·refine ce hq rfl ?_
     refine lgc [0,2,1,3,4,5,6,7,8] rfl ?_
     refine meetL [(0,.ref 6 0),(3,.ref 0 0),(4,ri .i64 0),(6,.own 1),(7,.ref 8 0),(74,ri .i64 m),(75,ri .i64 0)] (tsr rfl) (h:=[bC col,RW m (swp W 0 1 0),RW m ((swp W 0 1) 1),RW m ((swp W 0 1) 2),RW m ((swp W 0 1) 3),.rowa 38 1 4 [.own 1,.own 2,.own 3,.own 4],.box 391 [.own 5,ri .i64 m,.own 7],PV 0 P,.box 49 ((qc (1 / (swp W 0 1) 0 col)).map .im)]) rfl ?_
     exact q_ct4_0 hm hc hL hl (i:=1) (by decide) (by decide) h0 _
   ·refine ce c_one rfl ?_
    refine ce hq rfl ?_
    refine lgc [0,2,1,3,4,5,6,7,8] rfl ?_
    refine meetL [(0,.ref 6 0),(3,.ref 0 0),(4,ri .i64 0),(6,.own 1),(7,.ref 8 0),(74,ri .i64 m),(75,ri .i64 0)] (tsr rfl) (h:=[bC col,RW m (swp W 0 1 0),RW m ((swp W 0 1) 1),RW m ((swp W 0 1) 2),RW m ((swp W 0 1) 3),.rowa 38 1 4 [.own 1,.own 2,.own 3,.own 4],.box 391 [.own 5,ri .i64 m,.own 7],PV 0 P,.box 49 ((qc (1 / (swp W 0 1) 0 col)).map .im)]) rfl ?_
    exact q_ct4_0 hm hc hL hl (i:=1) (by decide) (by decide) h0 _
  ·refine iff_ rfl rfl ?_
   refine rqa [0,1,2,3,4,5,6,7,8,9,10,11,12,13,14,15,16,17,18,19,20,21,22,23,24,25,26,27,28,29,30,31] [(9,[5],some []),(10,[5],some []),(11,[5],some []),(29,[],some [5])] ?_
   refine ⟨(by decide : (0 : Int) ≤ IntKind.i64.wrap ((0 : Int) + 2) ∧ IntKind.i64.wrap ((0 : Int) + 2) < 4),?_⟩
   refine ga ?_
   refine ⟨(by decide : (0 : Int) ≤ 0 ∧ (0 : Int) < 4),?_⟩
   refine ga ?_
   refine ⟨(by decide : (0 : Int) ≤ 0 ∧ (0 : Int) < 4),?_⟩
   refine ⟨(by decide : 0 + 1 ≤ 4),?_⟩
   refine ⟨(by decide : (0 : Int) ≤ IntKind.i64.wrap ((0 : Int) + 2) ∧ IntKind.i64.wrap ((0 : Int) + 2) < 4),?_⟩
   refine ⟨(by decide : 2 + 1 ≤ 4),?_⟩
   refine ⟨(by decide : (0 : Int) ≤ 0 ∧ (0 : Int) < 4),?_⟩
   refine ga ?_
   have hb:=hl 2 col (by decide) hc
   have hq:=r_Quo (a:=1) (b:=W 2 col) h0 (Nat.le_trans lr_one (by decide)) (by omega)
   refine rta (PT.app [1,2,3,4] (.br 0 (.br 5 (PT.app [6,7,8,9,10,11] .nil) 9 (PT.app [5,6,7,8,10,11] .nil)) 9 (PT.app [0,5,6,7,8,10,11] .nil))) [(8,[8],some []),(10,[],some [8])] ?_
   refine ⟨⟨by omega,by omega⟩,?_⟩
   refine gq col hc (by rw [Int.toNat_natCast]) ?_
   refine ⟨?_,?_⟩
   ·refine ce c_one rfl ?_
    refine ⟨?_,?_⟩
    ·refine ce hq rfl ?_
     refine lgc [0,3,2,1,4,5,6,7,8] rfl ?_
     refine meetL [(0,.ref 6 0),(3,.ref 0 0),(4,ri .i64 0),(6,.own 1),(7,.ref 8 0),(74,ri .i64 m),(75,ri .i64 0)] (tsr rfl) (h:=[bC col,RW m (swp W 0 2 0),RW m ((swp W 0 2) 1),RW m ((swp W 0 2) 2),RW m ((swp W 0 2) 3),.rowa 38 1 4 [.own 1,.own 2,.own 3,.own 4],.box 391 [.own 5,ri .i64 m,.own 7],PV 0 P,.box 49 ((qc (1 / (swp W 0 2) 0 col)).map .im)]) rfl ?_
     exact q_ct4_0 hm hc hL hl (i:=2) (by decide) (by decide) h0 _
    ·refine ce hq rfl ?_
     refine lgc [0,3,2,1,4,5,6,7,8] rfl ?_
     refine meetL [(0,.ref 6 0),(3,.ref 0 0),(4,ri .i64 0),(6,.own 1),(7,.ref 8 0),(74,ri .i64 m),(75,ri .i64 0)] (tsr rfl) (h:=[bC col,RW m (swp W 0 2 0),RW m ((swp W 0 2) 1),RW m ((swp W 0 2) 2),RW m ((swp W 0 2) 3),.rowa 38 1 4 [.own 1,.own 2,.own 3,.own 4],.box 391 [.own 5,ri .i64 m,.own 7],PV 0 P,.box 49 ((qc (1 / (swp W 0 2) 0 col)).map .im)]) rfl ?_
     exact q_ct4_0 hm hc hL hl (i:=2) (by decide) (by decide) h0 _
   ·refine ce c_one rfl ?_
    refine ce hq rfl ?_
    refine lgc [0,3,2,1,4,5,6,7,8] rfl ?_
    refine meetL [(0,.ref 6 0),(3,.ref 0 0),(4,ri .i64 0),(6,.own 1),(7,.ref 8 0),(74,ri .i64 m),(75,ri .i64 0)] (tsr rfl) (h:=[bC col,RW m (swp W 0 2 0),RW m ((swp W 0 2) 1),RW m ((swp W 0 2) 2),RW m ((swp W 0 2) 3),.rowa 38 1 4 [.own 1,.own 2,.own 3,.own 4],.box 391 [.own 5,ri .i64 m,.own 7],PV 0 P,.box 49 ((qc (1 / (swp W 0 2) 0 col)).map .im)]) rfl ?_
    exact q_ct4_0 hm hc hL hl (i:=2) (by decide) (by decide) h0 _
  ·refine iff_ rfl rfl ?_
   refine rqa [0,1,2,3,4,5,6,7,8,9,10,11,12,13,14,15,16,17,18,19,20,21,22,23,24,25,26,27,28,29,30,31] [(9,[5],some []),(10,[5],some []),(11,[5],some []),(29,[],some [5])] ?_
   refine ⟨(by decide : (0 : Int) ≤ IntKind.i64.wrap ((0 : Int) + 3) ∧ IntKind.i64.wrap ((0 : Int) + 3) < 4),?_⟩
   refine ga ?_
   refine ⟨(by decide : (0 : Int) ≤ 0 ∧ (0 : Int) < 4),?_⟩
   refine ga ?_
   refine ⟨(by decide : (0 : Int) ≤ 0 ∧ (0 : Int) < 4),?_⟩
   refine ⟨(by decide : 0 + 1 ≤ 4),?_⟩
   refine ⟨(by decide : (0 : Int) ≤ IntKind.i64.wrap ((0 : Int) + 3) ∧ IntKind.i64.wrap ((0 : Int) + 3) < 4),?_⟩
   refine ⟨(by decide : 3 + 1 ≤ 4),?_⟩
   refine ⟨(by decide : (0 : Int) ≤ 0 ∧ (0 : Int) < 4),?_⟩
   refine ga ?_
   have hb:=hl 3 col (by decide) hc
   have hq:=r_Quo (a:=1) (b:=W 3 col) h0 (Nat.le_trans lr_one (by decide)) (by omega)
   refine rta (PT.app [1,2,3,4] (.br 0 (.br 5 (PT.app [6,7,8,9,10,11] .nil) 9 (PT.app [5,6,7,8,10,11] .nil)) 9 (PT.app [0,5,6,7,8,10,11] .nil))) [(8,[8],some []),(10,[],some [8])] ?_
   refine ⟨⟨by omega,by omega⟩,?_⟩
   refine gq col hc (by rw [Int.toNat_natCast]) ?_
   refine ⟨?_,?_⟩
   ·refine ce c_one rfl ?_
    refine ⟨?_,?_⟩
    ·refine ce hq rfl ?_
     refine lgc [0,4,2,3,1,5,6,7,8] rfl ?_
     refine meetL [(0,.ref 6 0),(3,.ref 0 0),(4,ri .i64 0),(6,.own 1),(7,.ref 8 0),(74,ri .i64 m),(75,ri .i64 0)] (tsr rfl) (h:=[bC col,RW m (swp W 0 3 0),RW m ((swp W 0 3) 1),RW m ((swp W 0 3) 2),RW m ((swp W 0 3) 3),.rowa 38 1 4 [.own 1,.own 2,.own 3,.own 4],.box 391 [.own 5,ri .i64 m,.own 7],PV 0 P,.box 49 ((qc (1 / (swp W 0 3) 0 col)).map .im)]) rfl ?_
     exact q_ct4_0 hm hc hL hl (i:=3) (by decide) (by decide) h0 _
    ·refine ce hq rfl ?_
     refine lgc [0,4,2,3,1,5,6,7,8] rfl ?_
     refine meetL [(0,.ref 6 0),(3,.ref 0 0),(4,ri .i64 0),(6,.own 1),(7,.ref 8 0),(74,ri .i64 m),(75,ri .i64 0)] (tsr rfl) (h:=[bC col,RW m (swp W 0 3 0),RW m ((swp W 0 3) 1),RW m ((swp W 0 3) 2),RW m ((swp W 0 3) 3),.rowa 38 1 4 [.own 1,.own 2,.own 3,.own 4],.box 391 [.own 5,ri .i64 m,.own 7],PV 0 P,.box 49 ((qc (1 / (swp W 0 3) 0 col)).map .im)]) rfl ?_
     exact q_ct4_0 hm hc hL hl (i:=3) (by decide) (by decide) h0 _
   ·refine ce c_one rfl ?_
    refine ce hq rfl ?_
    refine lgc [0,4,2,3,1,5,6,7,8] rfl ?_
    refine meetL [(0,.ref 6 0),(3,.ref 0 0),(4,ri .i64 0),(6,.own 1),(7,.ref 8 0),(74,ri .i64 m),(75,ri .i64 0)] (tsr rfl) (h:=[bC col,RW m (swp W 0 3 0),RW m ((swp W 0 3) 1),RW m ((swp W 0 3) 2),RW m ((swp W 0 3) 3),.rowa 38 1 4 [.own 1,.own 2,.own 3,.own 4],.box 391 [.own 5,ri .i64 m,.own 7],PV 0 P,.box 49 ((qc (1 / (swp W 0 3) 0 col)).map .im)]) rfl ?_
    exact q_ct4_0 hm hc hL hl (i:=3) (by decide) (by decide) h0 _
end Go.Proofs.YtlhmaljjdpjkgaaGreatDoor
