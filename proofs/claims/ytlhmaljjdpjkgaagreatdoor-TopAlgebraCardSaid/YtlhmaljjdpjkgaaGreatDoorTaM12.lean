/- Elimination without fractions: a column is cleared. -/
import Derived.Test.YtlhmaljjdpjkgaaGreatDoorTaM11
import Derived.Test.YtlhmaljjdpjkgaaGreatDoorTaM9
set_option maxHeartbeats 4000000
namespace Go.Proofs.YtlhmaljjdpjkgaaGreatDoor
open Go Go.RowKit
theorem b_clear1_0 {m col : Nat} {W : Nat → Nat → Int} {P : List Nat} {d : Int} {odd : Bool} (hm : m ≤ 64) (hc : col < m) (hl : ZB 2000 1 m W) (hd : d ≠ 0) (hdl : li d ≤ 2000) (hx : ∀ i k,0 < i → i < 1 → k < m → d ∣ W i k * W 0 col - W i col * W 0 k) :
  Ec Tryz.prog 564 (fun i=>Nat.beq i 0 || Nat.ble 4 i) (hb1 m W 0 P d odd) [.ref 3 0,ri .i64 col] (Is (.tup []) (hb1 m (brs W 0 col d) 1 (P ++ [col]) (W 0 col) odd)):=by
 have hz : ∀ i k,i < 1 → k < m → li (W i k) ≤ 2000:=hl
 refine ec Tryz.func564 ?_
 refine ⟨by decide,?_⟩
 refine ga ?_
 refine lpn 1 ?_
 refine iff_ rfl rfl ?_
 refine ⟨⟨by omega,by omega⟩,?_⟩
 refine gz col hc (by rw [Int.toNat_natCast]) ?_
 refine ⟨(by decide : (0 + 1) * 8 ≤ 140737488355328 ∧ 0 + 1 ≤ 1000000000),?_⟩
 refine fin [0,1,2,3] rfl ⟨rfl,?_⟩
 refine Eq.trans (b:=([.row 3 1 1 (pvs P ++ [.raw (.int .i64 (col : Int))]),ZW m (W 0),.rowa 22 1 1 [.own 1],bbx m 2 0 (W 0 col) odd] : List AO)) rfl ?_
 rw [pvs_app]; rfl
theorem b_clear2_0 {m col : Nat} {W : Nat → Nat → Int} {P : List Nat} {d : Int} {odd : Bool} (hm : m ≤ 64) (hc : col < m) (hl : ZB 2000 2 m W) (hd : d ≠ 0) (hdl : li d ≤ 2000) (hx : ∀ i k,0 < i → i < 2 → k < m → d ∣ W i k * W 0 col - W i col * W 0 k) :
  Ec Tryz.prog 564 (fun i=>Nat.beq i 0 || Nat.ble 5 i) (hb2 m W 0 P d odd) [.ref 4 0,ri .i64 col] (Is (.tup []) (hb2 m (brs W 0 col d) 1 (P ++ [col]) (W 0 col) odd)):=by
 have hz : ∀ i k,i < 2 → k < m → li (W i k) ≤ 2000:=hl
 refine ec Tryz.func564 ?_
 refine ⟨by decide,?_⟩
 refine ga ?_
 refine lpn 2 ?_
 refine ift rfl rfl ?_
 refine ⟨by decide,?_⟩
 refine ga ?_
 refine ⟨⟨by omega,by omega⟩,?_⟩
 refine gz col hc (by rw [Int.toNat_natCast]) ?_
 refine lgc [0,1,2,3,4,5] rfl ?_
 refine lpt (fun j : Nat=>j ≤ m) (fun j=>[(0,.ref 4 0),(1,ri .i64 col),(4,ri .i64 0),(5,.own 1),(6,ri .i64 1),(7,.own 2),(8,.ref 5 0),(46,ri .i64 m),(47,ri .i64 j)])
  (fun j=>[PV 0 P,ZW m (W 0),ZW m (mix j (fun k=>(W 1 k * W 0 col - W 1 col * W 0 k) / d) (W 1)),.rowa 22 1 2 [.own 1,.own 2],bbx m 3 0 d odd,.box 47 ((zc (W 1 col)).map .im)]) (fun j=>m - j) 0 (Nat.zero_le _) (tsr rfl) (by rw [mix_zero] <;> rfl) ?_
 intro j t hj
 refine ifs rfl (fun hlt=>?_) (fun hge=>?_)
 ·have hlt:=of_decide_eq_true hlt
  have hjm : j < m:=by omega
  have l1:=hz 1 j (by decide) hjm; have l2:=hz 0 col (by decide) hc; have l3:=hz 1 col (by decide) hc; have l4:=hz 0 j (by decide) hjm
  have m1:=li_mul (W 1 j) (W 0 col); have m2:=li_mul (W 1 col) (W 0 j)
  have c1:=z_Mul (a:=W 1 j) (b:=W 0 col) (by omega) (by omega)
  have c2:=z_Mul (a:=W 1 col) (b:=W 0 j) (by omega) (by omega)
  have c3:=z_Sub (a:=W 1 j * W 0 col) (b:=W 1 col * W 0 j) (by omega) (by omega)
  have m3:=li_sub (W 1 j * W 0 col) (W 1 col * W 0 j)
  have c4:=z_Exact (a:=W 1 j * W 0 col - W 1 col * W 0 j) (b:=d) hd (hx 1 j (by decide) (by decide) hjm) (by omega) (by omega)
  refine rt (PT.app [0,1,2,3,4,5,6,7,9,10,11,12,13] (.br 8 (.br 14 (.br 15 (PT.app [16,17] .nil) 16 (PT.app [15,17] .nil)) 16 (PT.app [14,15,17] .nil)) 16 (PT.app [8,14,15,17] .nil))) ?_
  refine ⟨⟨by omega,by omega⟩,?_⟩
  refine gz j hjm (by rw [Int.toNat_natCast]) ?_
  rw [mix_at]
  refine ⟨⟨by omega,by omega⟩,?_⟩
  refine gz col hc (by rw [Int.toNat_natCast]) ?_
  refine ⟨⟨by omega,by omega⟩,?_⟩
  refine gz j hjm (by rw [Int.toNat_natCast]) ?_
  have e : putAt (zC m (mix j (fun k=>(W 1 k * W 0 col - W 1 col * W 0 k) / d) (W 1))) (j * 2) (zc ((W 1 j * W 0 col - W 1 col * W 0 j) / d)) = zC m (mix (j + 1) (fun k=>(W 1 k * W 0 col - W 1 col * W 0 k) / d) (W 1)):=by
   rw [zC_put _ hjm]; exact congrArg _ (mix_succ j (fun k=>(W 1 k * W 0 col - W 1 col * W 0 k) / d) (W 1))
  refine ⟨?_,?_⟩
  ·refine ce c1 rfl ?_
   refine ⟨?_,?_⟩
   ·refine ce c2 rfl ?_
    refine ⟨?_,?_⟩
    ·refine ce c3 rfl ?_
     refine rqa [0,1,2,3,4,5,6,7,8,9,10,11,12] [(10,[2],some []),(12,[],some [2])] ?_
     refine ce c4 rfl ?_
     refine ⟨⟨by omega,by omega⟩,?_⟩
     refine ⟨by rw [zC_len]; show (j : Int).toNat * 2 + 2 ≤ _; omega,?_⟩
     refine nxg [0,1,2,3,4,5] (j + 1) (by omega) rfl ⟨by omega,⟨rfl,rfl,rfl,rfl,rfl,rfl,rfl,rfl,congrArg (ri .i64) (i64s (by omega)).symm,trivial⟩,?_⟩
     exact congrArg (fun l=>([PV 0 P,ZW m (W 0),.row 47 2 m l,.rowa 22 1 2 [.own 1,.own 2],bbx m 3 0 d odd,.box 47 ((zc (W 1 col)).map .im)] : List AO)) e
    ·refine ce c3 rfl ?_
     refine rqa [0,1,2,3,4,5,6,7,8,9,10,11,12] [(10,[2],some []),(12,[],some [2])] ?_
     refine ce c4 rfl ?_
     refine ⟨⟨by omega,by omega⟩,?_⟩
     refine ⟨by rw [zC_len]; show (j : Int).toNat * 2 + 2 ≤ _; omega,?_⟩
     refine nxg [0,1,2,3,4,5] (j + 1) (by omega) rfl ⟨by omega,⟨rfl,rfl,rfl,rfl,rfl,rfl,rfl,rfl,congrArg (ri .i64) (i64s (by omega)).symm,trivial⟩,?_⟩
     exact congrArg (fun l=>([PV 0 P,ZW m (W 0),.row 47 2 m l,.rowa 22 1 2 [.own 1,.own 2],bbx m 3 0 d odd,.box 47 ((zc (W 1 col)).map .im)] : List AO)) e
   ·refine ce c2 rfl ?_
    refine ce c3 rfl ?_
    refine rqa [0,1,2,3,4,5,6,7,8,9,10,11,12] [(10,[2],some []),(12,[],some [2])] ?_
    refine ce c4 rfl ?_
    refine ⟨⟨by omega,by omega⟩,?_⟩
    refine ⟨by rw [zC_len]; show (j : Int).toNat * 2 + 2 ≤ _; omega,?_⟩
    refine nxg [0,1,2,3,4,5] (j + 1) (by omega) rfl ⟨by omega,⟨rfl,rfl,rfl,rfl,rfl,rfl,rfl,rfl,congrArg (ri .i64) (i64s (by omega)).symm,trivial⟩,?_⟩
    exact congrArg (fun l=>([PV 0 P,ZW m (W 0),.row 47 2 m l,.rowa 22 1 2 [.own 1,.own 2],bbx m 3 0 d odd,.box 47 ((zc (W 1 col)).map .im)] : List AO)) e
  ·refine ce c1 rfl ?_
   refine ce c2 rfl ?_
   refine ce c3 rfl ?_
   refine rqa [0,1,2,3,4,5,6,7,8,9,10,11,12] [(10,[2],some []),(12,[],some [2])] ?_
   refine ce c4 rfl ?_
   refine ⟨⟨by omega,by omega⟩,?_⟩
   refine ⟨by rw [zC_len]; show (j : Int).toNat * 2 + 2 ≤ _; omega,?_⟩
   refine nxg [0,1,2,3,4,5] (j + 1) (by omega) rfl ⟨by omega,⟨rfl,rfl,rfl,rfl,rfl,rfl,rfl,rfl,congrArg (ri .i64) (i64s (by omega)).symm,trivial⟩,?_⟩
   exact congrArg (fun l=>([PV 0 P,ZW m (W 0),.row 47 2 m l,.rowa 22 1 2 [.own 1,.own 2],bbx m 3 0 d odd,.box 47 ((zc (W 1 col)).map .im)] : List AO)) e
 have hge:=of_decide_eq_false hge
 obtain rfl : m = j:=by omega
 obtain ⟨g1,hg1⟩ : ∃ g,g = mix m (fun k=>(W 1 k * W 0 col - W 1 col * W 0 k) / d) (W 1):=⟨_,rfl⟩
 have hk1 : ∀ k,k < m → g1 k = brs W 0 col d 1 k:=fun k hk=>by rw [hg1]; exact (if_pos hk).trans (if_pos (by decide)).symm
 rw [← hg1]
 clear hj hge
 refine iff_ rfl rfl ?_
 refine ⟨⟨by omega,by omega⟩,?_⟩
 refine gz col hc (by rw [Int.toNat_natCast]) ?_
 refine ⟨(by decide : (0 + 1) * 8 ≤ 140737488355328 ∧ 0 + 1 ≤ 1000000000),?_⟩
 refine fin [0,1,2,3,4] rfl ⟨rfl,?_⟩
 refine Eq.trans (b:=([.row 3 1 1 (pvs P ++ [.raw (.int .i64 (col : Int))]),ZW m (W 0),ZW m g1,.rowa 22 1 2 [.own 1,.own 2],bbx m 3 0 (W 0 col) odd] : List AO)) rfl ?_
 rw [pvs_app,zW_congr (g:=g1) (h:=brs W 0 col d 1) hk1]; rfl
theorem b_clear2_1 {m col : Nat} {W : Nat → Nat → Int} {P : List Nat} {d : Int} {odd : Bool} (hm : m ≤ 64) (hc : col < m) (hl : ZB 2000 2 m W) (hd : d ≠ 0) (hdl : li d ≤ 2000) (hx : ∀ i k,1 < i → i < 2 → k < m → d ∣ W i k * W 1 col - W i col * W 1 k) :
  Ec Tryz.prog 564 (fun i=>Nat.beq i 0 || Nat.ble 5 i) (hb2 m W 1 P d odd) [.ref 4 0,ri .i64 col] (Is (.tup []) (hb2 m (brs W 1 col d) 2 (P ++ [col]) (W 1 col) odd)):=by
 have hz : ∀ i k,i < 2 → k < m → li (W i k) ≤ 2000:=hl
 refine ec Tryz.func564 ?_
 refine ⟨by decide,?_⟩
 refine ga ?_
 refine lpn 1 ?_
 refine iff_ rfl rfl ?_
 refine ⟨⟨by omega,by omega⟩,?_⟩
 refine gz col hc (by rw [Int.toNat_natCast]) ?_
 refine ⟨(by decide : (1 + 1) * 8 ≤ 140737488355328 ∧ 1 + 1 ≤ 1000000000),?_⟩
 refine fin [0,1,2,3,4] rfl ⟨rfl,?_⟩
 refine Eq.trans (b:=([.row 3 1 2 (pvs P ++ [.raw (.int .i64 (col : Int))]),ZW m (W 0),ZW m (W 1),.rowa 22 1 2 [.own 1,.own 2],bbx m 3 0 (W 1 col) odd] : List AO)) rfl ?_
 rw [pvs_app]; rfl
theorem b_clear3_0 {m col : Nat} {W : Nat → Nat → Int} {P : List Nat} {d : Int} {odd : Bool} (hm : m ≤ 64) (hc : col < m) (hl : ZB 2000 3 m W) (hd : d ≠ 0) (hdl : li d ≤ 2000) (hx : ∀ i k,0 < i → i < 3 → k < m → d ∣ W i k * W 0 col - W i col * W 0 k) :
  Ec Tryz.prog 564 (fun i=>Nat.beq i 0 || Nat.ble 6 i) (hb3 m W 0 P d odd) [.ref 5 0,ri .i64 col] (Is (.tup []) (hb3 m (brs W 0 col d) 1 (P ++ [col]) (W 0 col) odd)):=by
 have hz : ∀ i k,i < 3 → k < m → li (W i k) ≤ 2000:=hl
 refine ec Tryz.func564 ?_
 refine ⟨by decide,?_⟩
 refine ga ?_
 refine lpn 3 ?_
 refine ift rfl rfl ?_
 refine ⟨by decide,?_⟩
 refine ga ?_
 refine ⟨⟨by omega,by omega⟩,?_⟩
 refine gz col hc (by rw [Int.toNat_natCast]) ?_
 refine lgc [0,1,2,3,4,5,6] rfl ?_
 refine lpt (fun j : Nat=>j ≤ m) (fun j=>[(0,.ref 5 0),(1,ri .i64 col),(4,ri .i64 0),(5,.own 1),(6,ri .i64 1),(7,.own 2),(8,.ref 6 0),(46,ri .i64 m),(47,ri .i64 j)])
  (fun j=>[PV 0 P,ZW m (W 0),ZW m (mix j (fun k=>(W 1 k * W 0 col - W 1 col * W 0 k) / d) (W 1)),ZW m (W 2),.rowa 22 1 3 [.own 1,.own 2,.own 3],bbx m 4 0 d odd,.box 47 ((zc (W 1 col)).map .im)]) (fun j=>m - j) 0 (Nat.zero_le _) (tsr rfl) (by rw [mix_zero] <;> rfl) ?_
 intro j t hj
 refine ifs rfl (fun hlt=>?_) (fun hge=>?_)
 ·have hlt:=of_decide_eq_true hlt
  have hjm : j < m:=by omega
  have l1:=hz 1 j (by decide) hjm; have l2:=hz 0 col (by decide) hc; have l3:=hz 1 col (by decide) hc; have l4:=hz 0 j (by decide) hjm
  have m1:=li_mul (W 1 j) (W 0 col); have m2:=li_mul (W 1 col) (W 0 j)
  have c1:=z_Mul (a:=W 1 j) (b:=W 0 col) (by omega) (by omega)
  have c2:=z_Mul (a:=W 1 col) (b:=W 0 j) (by omega) (by omega)
  have c3:=z_Sub (a:=W 1 j * W 0 col) (b:=W 1 col * W 0 j) (by omega) (by omega)
  have m3:=li_sub (W 1 j * W 0 col) (W 1 col * W 0 j)
  have c4:=z_Exact (a:=W 1 j * W 0 col - W 1 col * W 0 j) (b:=d) hd (hx 1 j (by decide) (by decide) hjm) (by omega) (by omega)
  refine rt (PT.app [0,1,2,3,4,5,6,7,9,10,11,12,13] (.br 8 (.br 14 (.br 15 (PT.app [16,17] .nil) 16 (PT.app [15,17] .nil)) 16 (PT.app [14,15,17] .nil)) 16 (PT.app [8,14,15,17] .nil))) ?_
  refine ⟨⟨by omega,by omega⟩,?_⟩
  refine gz j hjm (by rw [Int.toNat_natCast]) ?_
  rw [mix_at]
  refine ⟨⟨by omega,by omega⟩,?_⟩
  refine gz col hc (by rw [Int.toNat_natCast]) ?_
  refine ⟨⟨by omega,by omega⟩,?_⟩
  refine gz j hjm (by rw [Int.toNat_natCast]) ?_
  have e : putAt (zC m (mix j (fun k=>(W 1 k * W 0 col - W 1 col * W 0 k) / d) (W 1))) (j * 2) (zc ((W 1 j * W 0 col - W 1 col * W 0 j) / d)) = zC m (mix (j + 1) (fun k=>(W 1 k * W 0 col - W 1 col * W 0 k) / d) (W 1)):=by
   rw [zC_put _ hjm]; exact congrArg _ (mix_succ j (fun k=>(W 1 k * W 0 col - W 1 col * W 0 k) / d) (W 1))
  refine ⟨?_,?_⟩
  ·refine ce c1 rfl ?_
   refine ⟨?_,?_⟩
   ·refine ce c2 rfl ?_
    refine ⟨?_,?_⟩
    ·refine ce c3 rfl ?_
     refine rqa [0,1,2,3,4,5,6,7,8,9,10,11,12] [(10,[2],some []),(12,[],some [2])] ?_
     refine ce c4 rfl ?_
     refine ⟨⟨by omega,by omega⟩,?_⟩
     refine ⟨by rw [zC_len]; show (j : Int).toNat * 2 + 2 ≤ _; omega,?_⟩
     refine nxg [0,1,2,3,4,5,6] (j + 1) (by omega) rfl ⟨by omega,⟨rfl,rfl,rfl,rfl,rfl,rfl,rfl,rfl,congrArg (ri .i64) (i64s (by omega)).symm,trivial⟩,?_⟩
     exact congrArg (fun l=>([PV 0 P,ZW m (W 0),.row 47 2 m l,ZW m (W 2),.rowa 22 1 3 [.own 1,.own 2,.own 3],bbx m 4 0 d odd,.box 47 ((zc (W 1 col)).map .im)] : List AO)) e
    ·refine ce c3 rfl ?_
     refine rqa [0,1,2,3,4,5,6,7,8,9,10,11,12] [(10,[2],some []),(12,[],some [2])] ?_
     refine ce c4 rfl ?_
     refine ⟨⟨by omega,by omega⟩,?_⟩
     refine ⟨by rw [zC_len]; show (j : Int).toNat * 2 + 2 ≤ _; omega,?_⟩
     refine nxg [0,1,2,3,4,5,6] (j + 1) (by omega) rfl ⟨by omega,⟨rfl,rfl,rfl,rfl,rfl,rfl,rfl,rfl,congrArg (ri .i64) (i64s (by omega)).symm,trivial⟩,?_⟩
     exact congrArg (fun l=>([PV 0 P,ZW m (W 0),.row 47 2 m l,ZW m (W 2),.rowa 22 1 3 [.own 1,.own 2,.own 3],bbx m 4 0 d odd,.box 47 ((zc (W 1 col)).map .im)] : List AO)) e
   ·refine ce c2 rfl ?_
    refine ce c3 rfl ?_
    refine rqa [0,1,2,3,4,5,6,7,8,9,10,11,12] [(10,[2],some []),(12,[],some [2])] ?_
    refine ce c4 rfl ?_
    refine ⟨⟨by omega,by omega⟩,?_⟩
    refine ⟨by rw [zC_len]; show (j : Int).toNat * 2 + 2 ≤ _; omega,?_⟩
    refine nxg [0,1,2,3,4,5,6] (j + 1) (by omega) rfl ⟨by omega,⟨rfl,rfl,rfl,rfl,rfl,rfl,rfl,rfl,congrArg (ri .i64) (i64s (by omega)).symm,trivial⟩,?_⟩
    exact congrArg (fun l=>([PV 0 P,ZW m (W 0),.row 47 2 m l,ZW m (W 2),.rowa 22 1 3 [.own 1,.own 2,.own 3],bbx m 4 0 d odd,.box 47 ((zc (W 1 col)).map .im)] : List AO)) e
  ·refine ce c1 rfl ?_
   refine ce c2 rfl ?_
   refine ce c3 rfl ?_
   refine rqa [0,1,2,3,4,5,6,7,8,9,10,11,12] [(10,[2],some []),(12,[],some [2])] ?_
   refine ce c4 rfl ?_
   refine ⟨⟨by omega,by omega⟩,?_⟩
   refine ⟨by rw [zC_len]; show (j : Int).toNat * 2 + 2 ≤ _; omega,?_⟩
   refine nxg [0,1,2,3,4,5,6] (j + 1) (by omega) rfl ⟨by omega,⟨rfl,rfl,rfl,rfl,rfl,rfl,rfl,rfl,congrArg (ri .i64) (i64s (by omega)).symm,trivial⟩,?_⟩
   exact congrArg (fun l=>([PV 0 P,ZW m (W 0),.row 47 2 m l,ZW m (W 2),.rowa 22 1 3 [.own 1,.own 2,.own 3],bbx m 4 0 d odd,.box 47 ((zc (W 1 col)).map .im)] : List AO)) e
 have hge:=of_decide_eq_false hge
 obtain rfl : m = j:=by omega
 obtain ⟨g1,hg1⟩ : ∃ g,g = mix m (fun k=>(W 1 k * W 0 col - W 1 col * W 0 k) / d) (W 1):=⟨_,rfl⟩
 have hk1 : ∀ k,k < m → g1 k = brs W 0 col d 1 k:=fun k hk=>by rw [hg1]; exact (if_pos hk).trans (if_pos (by decide)).symm
 rw [← hg1]
 clear hj hge
 refine ift rfl rfl ?_
 refine ⟨by decide,?_⟩
 refine ga ?_
 refine ⟨⟨by omega,by omega⟩,?_⟩
 refine gz col hc (by rw [Int.toNat_natCast]) ?_
 refine lgc [0,1,2,3,4,5,7] rfl ?_
 refine lpt (fun j : Nat=>j ≤ m) (fun j=>[(0,.ref 5 0),(1,ri .i64 col),(4,ri .i64 0),(5,.own 1),(6,ri .i64 2),(7,.own 3),(8,.ref 6 0),(46,ri .i64 m),(47,ri .i64 j)])
  (fun j=>[PV 0 P,ZW m (W 0),ZW m g1,ZW m (mix j (fun k=>(W 2 k * W 0 col - W 2 col * W 0 k) / d) (W 2)),.rowa 22 1 3 [.own 1,.own 2,.own 3],bbx m 4 0 d odd,.box 47 ((zc (W 2 col)).map .im)]) (fun j=>m - j) 0 (Nat.zero_le _) (tsr rfl) (by rw [mix_zero] <;> rfl) ?_
 intro j t hj
 refine ifs rfl (fun hlt=>?_) (fun hge=>?_)
 ·have hlt:=of_decide_eq_true hlt
  have hjm : j < m:=by omega
  have l1:=hz 2 j (by decide) hjm; have l2:=hz 0 col (by decide) hc; have l3:=hz 2 col (by decide) hc; have l4:=hz 0 j (by decide) hjm
  have m1:=li_mul (W 2 j) (W 0 col); have m2:=li_mul (W 2 col) (W 0 j)
  have c1:=z_Mul (a:=W 2 j) (b:=W 0 col) (by omega) (by omega)
  have c2:=z_Mul (a:=W 2 col) (b:=W 0 j) (by omega) (by omega)
  have c3:=z_Sub (a:=W 2 j * W 0 col) (b:=W 2 col * W 0 j) (by omega) (by omega)
  have m3:=li_sub (W 2 j * W 0 col) (W 2 col * W 0 j)
  have c4:=z_Exact (a:=W 2 j * W 0 col - W 2 col * W 0 j) (b:=d) hd (hx 2 j (by decide) (by decide) hjm) (by omega) (by omega)
  refine rt (PT.app [0,1,2,3,4,5,6,7,9,10,11,12,13] (.br 8 (.br 14 (.br 15 (PT.app [16,17] .nil) 16 (PT.app [15,17] .nil)) 16 (PT.app [14,15,17] .nil)) 16 (PT.app [8,14,15,17] .nil))) ?_
  refine ⟨⟨by omega,by omega⟩,?_⟩
  refine gz j hjm (by rw [Int.toNat_natCast]) ?_
  rw [mix_at]
  refine ⟨⟨by omega,by omega⟩,?_⟩
  refine gz col hc (by rw [Int.toNat_natCast]) ?_
  refine ⟨⟨by omega,by omega⟩,?_⟩
  refine gz j hjm (by rw [Int.toNat_natCast]) ?_
  have e : putAt (zC m (mix j (fun k=>(W 2 k * W 0 col - W 2 col * W 0 k) / d) (W 2))) (j * 2) (zc ((W 2 j * W 0 col - W 2 col * W 0 j) / d)) = zC m (mix (j + 1) (fun k=>(W 2 k * W 0 col - W 2 col * W 0 k) / d) (W 2)):=by
   rw [zC_put _ hjm]; exact congrArg _ (mix_succ j (fun k=>(W 2 k * W 0 col - W 2 col * W 0 k) / d) (W 2))
  refine ⟨?_,?_⟩
  ·refine ce c1 rfl ?_
   refine ⟨?_,?_⟩
   ·refine ce c2 rfl ?_
    refine ⟨?_,?_⟩
    ·refine ce c3 rfl ?_
     refine rqa [0,1,2,3,4,5,6,7,8,9,10,11,12] [(10,[3],some []),(12,[],some [3])] ?_
     refine ce c4 rfl ?_
     refine ⟨⟨by omega,by omega⟩,?_⟩
     refine ⟨by rw [zC_len]; show (j : Int).toNat * 2 + 2 ≤ _; omega,?_⟩
     refine nxg [0,1,2,3,4,5,6] (j + 1) (by omega) rfl ⟨by omega,⟨rfl,rfl,rfl,rfl,rfl,rfl,rfl,rfl,congrArg (ri .i64) (i64s (by omega)).symm,trivial⟩,?_⟩
     exact congrArg (fun l=>([PV 0 P,ZW m (W 0),ZW m g1,.row 47 2 m l,.rowa 22 1 3 [.own 1,.own 2,.own 3],bbx m 4 0 d odd,.box 47 ((zc (W 2 col)).map .im)] : List AO)) e
    ·refine ce c3 rfl ?_
     refine rqa [0,1,2,3,4,5,6,7,8,9,10,11,12] [(10,[3],some []),(12,[],some [3])] ?_
     refine ce c4 rfl ?_
     refine ⟨⟨by omega,by omega⟩,?_⟩
     refine ⟨by rw [zC_len]; show (j : Int).toNat * 2 + 2 ≤ _; omega,?_⟩
     refine nxg [0,1,2,3,4,5,6] (j + 1) (by omega) rfl ⟨by omega,⟨rfl,rfl,rfl,rfl,rfl,rfl,rfl,rfl,congrArg (ri .i64) (i64s (by omega)).symm,trivial⟩,?_⟩
     exact congrArg (fun l=>([PV 0 P,ZW m (W 0),ZW m g1,.row 47 2 m l,.rowa 22 1 3 [.own 1,.own 2,.own 3],bbx m 4 0 d odd,.box 47 ((zc (W 2 col)).map .im)] : List AO)) e
   ·refine ce c2 rfl ?_
    refine ce c3 rfl ?_
    refine rqa [0,1,2,3,4,5,6,7,8,9,10,11,12] [(10,[3],some []),(12,[],some [3])] ?_
    refine ce c4 rfl ?_
    refine ⟨⟨by omega,by omega⟩,?_⟩
    refine ⟨by rw [zC_len]; show (j : Int).toNat * 2 + 2 ≤ _; omega,?_⟩
    refine nxg [0,1,2,3,4,5,6] (j + 1) (by omega) rfl ⟨by omega,⟨rfl,rfl,rfl,rfl,rfl,rfl,rfl,rfl,congrArg (ri .i64) (i64s (by omega)).symm,trivial⟩,?_⟩
    exact congrArg (fun l=>([PV 0 P,ZW m (W 0),ZW m g1,.row 47 2 m l,.rowa 22 1 3 [.own 1,.own 2,.own 3],bbx m 4 0 d odd,.box 47 ((zc (W 2 col)).map .im)] : List AO)) e
  ·refine ce c1 rfl ?_
   refine ce c2 rfl ?_
   refine ce c3 rfl ?_
   refine rqa [0,1,2,3,4,5,6,7,8,9,10,11,12] [(10,[3],some []),(12,[],some [3])] ?_
   refine ce c4 rfl ?_
   refine ⟨⟨by omega,by omega⟩,?_⟩
   refine ⟨by rw [zC_len]; show (j : Int).toNat * 2 + 2 ≤ _; omega,?_⟩
   refine nxg [0,1,2,3,4,5,6] (j + 1) (by omega) rfl ⟨by omega,⟨rfl,rfl,rfl,rfl,rfl,rfl,rfl,rfl,congrArg (ri .i64) (i64s (by omega)).symm,trivial⟩,?_⟩
   exact congrArg (fun l=>([PV 0 P,ZW m (W 0),ZW m g1,.row 47 2 m l,.rowa 22 1 3 [.own 1,.own 2,.own 3],bbx m 4 0 d odd,.box 47 ((zc (W 2 col)).map .im)] : List AO)) e
 have hge:=of_decide_eq_false hge
 obtain rfl : m = j:=by omega
 obtain ⟨g2,hg2⟩ : ∃ g,g = mix m (fun k=>(W 2 k * W 0 col - W 2 col * W 0 k) / d) (W 2):=⟨_,rfl⟩
 have hk2 : ∀ k,k < m → g2 k = brs W 0 col d 2 k:=fun k hk=>by rw [hg2]; exact (if_pos hk).trans (if_pos (by decide)).symm
 rw [← hg2]
 clear hj hge
 refine iff_ rfl rfl ?_
 refine ⟨⟨by omega,by omega⟩,?_⟩
 refine gz col hc (by rw [Int.toNat_natCast]) ?_
 refine ⟨(by decide : (0 + 1) * 8 ≤ 140737488355328 ∧ 0 + 1 ≤ 1000000000),?_⟩
 refine fin [0,1,2,3,4,5] rfl ⟨rfl,?_⟩
 refine Eq.trans (b:=([.row 3 1 1 (pvs P ++ [.raw (.int .i64 (col : Int))]),ZW m (W 0),ZW m g1,ZW m g2,.rowa 22 1 3 [.own 1,.own 2,.own 3],bbx m 4 0 (W 0 col) odd] : List AO)) rfl ?_
 rw [pvs_app,zW_congr (g:=g1) (h:=brs W 0 col d 1) hk1,zW_congr (g:=g2) (h:=brs W 0 col d 2) hk2]; rfl
theorem b_clear3_1 {m col : Nat} {W : Nat → Nat → Int} {P : List Nat} {d : Int} {odd : Bool} (hm : m ≤ 64) (hc : col < m) (hl : ZB 2000 3 m W) (hd : d ≠ 0) (hdl : li d ≤ 2000) (hx : ∀ i k,1 < i → i < 3 → k < m → d ∣ W i k * W 1 col - W i col * W 1 k) :
  Ec Tryz.prog 564 (fun i=>Nat.beq i 0 || Nat.ble 6 i) (hb3 m W 1 P d odd) [.ref 5 0,ri .i64 col] (Is (.tup []) (hb3 m (brs W 1 col d) 2 (P ++ [col]) (W 1 col) odd)):=by
 have hz : ∀ i k,i < 3 → k < m → li (W i k) ≤ 2000:=hl
 refine ec Tryz.func564 ?_
 refine ⟨by decide,?_⟩
 refine ga ?_
 refine lpn 2 ?_
 refine ift rfl rfl ?_
 refine ⟨by decide,?_⟩
 refine ga ?_
 refine ⟨⟨by omega,by omega⟩,?_⟩
 refine gz col hc (by rw [Int.toNat_natCast]) ?_
 refine lgc [0,1,2,3,4,5,6] rfl ?_
 refine lpt (fun j : Nat=>j ≤ m) (fun j=>[(0,.ref 5 0),(1,ri .i64 col),(4,ri .i64 1),(5,.own 2),(6,ri .i64 2),(7,.own 3),(8,.ref 6 0),(46,ri .i64 m),(47,ri .i64 j)])
  (fun j=>[PV 1 P,ZW m (W 0),ZW m (W 1),ZW m (mix j (fun k=>(W 2 k * W 1 col - W 2 col * W 1 k) / d) (W 2)),.rowa 22 1 3 [.own 1,.own 2,.own 3],bbx m 4 0 d odd,.box 47 ((zc (W 2 col)).map .im)]) (fun j=>m - j) 0 (Nat.zero_le _) (tsr rfl) (by rw [mix_zero] <;> rfl) ?_
 intro j t hj
 refine ifs rfl (fun hlt=>?_) (fun hge=>?_)
 ·have hlt:=of_decide_eq_true hlt
  have hjm : j < m:=by omega
  have l1:=hz 2 j (by decide) hjm; have l2:=hz 1 col (by decide) hc; have l3:=hz 2 col (by decide) hc; have l4:=hz 1 j (by decide) hjm
  have m1:=li_mul (W 2 j) (W 1 col); have m2:=li_mul (W 2 col) (W 1 j)
  have c1:=z_Mul (a:=W 2 j) (b:=W 1 col) (by omega) (by omega)
  have c2:=z_Mul (a:=W 2 col) (b:=W 1 j) (by omega) (by omega)
  have c3:=z_Sub (a:=W 2 j * W 1 col) (b:=W 2 col * W 1 j) (by omega) (by omega)
  have m3:=li_sub (W 2 j * W 1 col) (W 2 col * W 1 j)
  have c4:=z_Exact (a:=W 2 j * W 1 col - W 2 col * W 1 j) (b:=d) hd (hx 2 j (by decide) (by decide) hjm) (by omega) (by omega)
  refine rt (PT.app [0,1,2,3,4,5,6,7,9,10,11,12,13] (.br 8 (.br 14 (.br 15 (PT.app [16,17] .nil) 16 (PT.app [15,17] .nil)) 16 (PT.app [14,15,17] .nil)) 16 (PT.app [8,14,15,17] .nil))) ?_
  refine ⟨⟨by omega,by omega⟩,?_⟩
  refine gz j hjm (by rw [Int.toNat_natCast]) ?_
  rw [mix_at]
  refine ⟨⟨by omega,by omega⟩,?_⟩
  refine gz col hc (by rw [Int.toNat_natCast]) ?_
  refine ⟨⟨by omega,by omega⟩,?_⟩
  refine gz j hjm (by rw [Int.toNat_natCast]) ?_
  have e : putAt (zC m (mix j (fun k=>(W 2 k * W 1 col - W 2 col * W 1 k) / d) (W 2))) (j * 2) (zc ((W 2 j * W 1 col - W 2 col * W 1 j) / d)) = zC m (mix (j + 1) (fun k=>(W 2 k * W 1 col - W 2 col * W 1 k) / d) (W 2)):=by
   rw [zC_put _ hjm]; exact congrArg _ (mix_succ j (fun k=>(W 2 k * W 1 col - W 2 col * W 1 k) / d) (W 2))
  refine ⟨?_,?_⟩
  ·refine ce c1 rfl ?_
   refine ⟨?_,?_⟩
   ·refine ce c2 rfl ?_
    refine ⟨?_,?_⟩
    ·refine ce c3 rfl ?_
     refine rqa [0,1,2,3,4,5,6,7,8,9,10,11,12] [(10,[3],some []),(12,[],some [3])] ?_
     refine ce c4 rfl ?_
     refine ⟨⟨by omega,by omega⟩,?_⟩
     refine ⟨by rw [zC_len]; show (j : Int).toNat * 2 + 2 ≤ _; omega,?_⟩
     refine nxg [0,1,2,3,4,5,6] (j + 1) (by omega) rfl ⟨by omega,⟨rfl,rfl,rfl,rfl,rfl,rfl,rfl,rfl,congrArg (ri .i64) (i64s (by omega)).symm,trivial⟩,?_⟩
     exact congrArg (fun l=>([PV 1 P,ZW m (W 0),ZW m (W 1),.row 47 2 m l,.rowa 22 1 3 [.own 1,.own 2,.own 3],bbx m 4 0 d odd,.box 47 ((zc (W 2 col)).map .im)] : List AO)) e
    ·refine ce c3 rfl ?_
     refine rqa [0,1,2,3,4,5,6,7,8,9,10,11,12] [(10,[3],some []),(12,[],some [3])] ?_
     refine ce c4 rfl ?_
     refine ⟨⟨by omega,by omega⟩,?_⟩
     refine ⟨by rw [zC_len]; show (j : Int).toNat * 2 + 2 ≤ _; omega,?_⟩
     refine nxg [0,1,2,3,4,5,6] (j + 1) (by omega) rfl ⟨by omega,⟨rfl,rfl,rfl,rfl,rfl,rfl,rfl,rfl,congrArg (ri .i64) (i64s (by omega)).symm,trivial⟩,?_⟩
     exact congrArg (fun l=>([PV 1 P,ZW m (W 0),ZW m (W 1),.row 47 2 m l,.rowa 22 1 3 [.own 1,.own 2,.own 3],bbx m 4 0 d odd,.box 47 ((zc (W 2 col)).map .im)] : List AO)) e
   ·refine ce c2 rfl ?_
    refine ce c3 rfl ?_
    refine rqa [0,1,2,3,4,5,6,7,8,9,10,11,12] [(10,[3],some []),(12,[],some [3])] ?_
    refine ce c4 rfl ?_
    refine ⟨⟨by omega,by omega⟩,?_⟩
    refine ⟨by rw [zC_len]; show (j : Int).toNat * 2 + 2 ≤ _; omega,?_⟩
    refine nxg [0,1,2,3,4,5,6] (j + 1) (by omega) rfl ⟨by omega,⟨rfl,rfl,rfl,rfl,rfl,rfl,rfl,rfl,congrArg (ri .i64) (i64s (by omega)).symm,trivial⟩,?_⟩
    exact congrArg (fun l=>([PV 1 P,ZW m (W 0),ZW m (W 1),.row 47 2 m l,.rowa 22 1 3 [.own 1,.own 2,.own 3],bbx m 4 0 d odd,.box 47 ((zc (W 2 col)).map .im)] : List AO)) e
  ·refine ce c1 rfl ?_
   refine ce c2 rfl ?_
   refine ce c3 rfl ?_
   refine rqa [0,1,2,3,4,5,6,7,8,9,10,11,12] [(10,[3],some []),(12,[],some [3])] ?_
   refine ce c4 rfl ?_
   refine ⟨⟨by omega,by omega⟩,?_⟩
   refine ⟨by rw [zC_len]; show (j : Int).toNat * 2 + 2 ≤ _; omega,?_⟩
   refine nxg [0,1,2,3,4,5,6] (j + 1) (by omega) rfl ⟨by omega,⟨rfl,rfl,rfl,rfl,rfl,rfl,rfl,rfl,congrArg (ri .i64) (i64s (by omega)).symm,trivial⟩,?_⟩
   exact congrArg (fun l=>([PV 1 P,ZW m (W 0),ZW m (W 1),.row 47 2 m l,.rowa 22 1 3 [.own 1,.own 2,.own 3],bbx m 4 0 d odd,.box 47 ((zc (W 2 col)).map .im)] : List AO)) e
 have hge:=of_decide_eq_false hge
 obtain rfl : m = j:=by omega
 obtain ⟨g2,hg2⟩ : ∃ g,g = mix m (fun k=>(W 2 k * W 1 col - W 2 col * W 1 k) / d) (W 2):=⟨_,rfl⟩
 have hk2 : ∀ k,k < m → g2 k = brs W 1 col d 2 k:=fun k hk=>by rw [hg2]; exact (if_pos hk).trans (if_pos (by decide)).symm
 rw [← hg2]
 clear hj hge
 refine iff_ rfl rfl ?_
 refine ⟨⟨by omega,by omega⟩,?_⟩
 refine gz col hc (by rw [Int.toNat_natCast]) ?_
 refine ⟨(by decide : (1 + 1) * 8 ≤ 140737488355328 ∧ 1 + 1 ≤ 1000000000),?_⟩
 refine fin [0,1,2,3,4,5] rfl ⟨rfl,?_⟩
 refine Eq.trans (b:=([.row 3 1 2 (pvs P ++ [.raw (.int .i64 (col : Int))]),ZW m (W 0),ZW m (W 1),ZW m g2,.rowa 22 1 3 [.own 1,.own 2,.own 3],bbx m 4 0 (W 1 col) odd] : List AO)) rfl ?_
 rw [pvs_app,zW_congr (g:=g2) (h:=brs W 1 col d 2) hk2]; rfl
theorem b_clear3_2 {m col : Nat} {W : Nat → Nat → Int} {P : List Nat} {d : Int} {odd : Bool} (hm : m ≤ 64) (hc : col < m) (hl : ZB 2000 3 m W) (hd : d ≠ 0) (hdl : li d ≤ 2000) (hx : ∀ i k,2 < i → i < 3 → k < m → d ∣ W i k * W 2 col - W i col * W 2 k) :
  Ec Tryz.prog 564 (fun i=>Nat.beq i 0 || Nat.ble 6 i) (hb3 m W 2 P d odd) [.ref 5 0,ri .i64 col] (Is (.tup []) (hb3 m (brs W 2 col d) 3 (P ++ [col]) (W 2 col) odd)):=by
 have hz : ∀ i k,i < 3 → k < m → li (W i k) ≤ 2000:=hl
 refine ec Tryz.func564 ?_
 refine ⟨by decide,?_⟩
 refine ga ?_
 refine lpn 1 ?_
 refine iff_ rfl rfl ?_
 refine ⟨⟨by omega,by omega⟩,?_⟩
 refine gz col hc (by rw [Int.toNat_natCast]) ?_
 refine ⟨(by decide : (2 + 1) * 8 ≤ 140737488355328 ∧ 2 + 1 ≤ 1000000000),?_⟩
 refine fin [0,1,2,3,4,5] rfl ⟨rfl,?_⟩
 refine Eq.trans (b:=([.row 3 1 3 (pvs P ++ [.raw (.int .i64 (col : Int))]),ZW m (W 0),ZW m (W 1),ZW m (W 2),.rowa 22 1 3 [.own 1,.own 2,.own 3],bbx m 4 0 (W 2 col) odd] : List AO)) rfl ?_
 rw [pvs_app]; rfl
theorem b_clear4_0 {m col : Nat} {W : Nat → Nat → Int} {P : List Nat} {d : Int} {odd : Bool} (hm : m ≤ 64) (hc : col < m) (hl : ZB 2000 4 m W) (hd : d ≠ 0) (hdl : li d ≤ 2000) (hx : ∀ i k,0 < i → i < 4 → k < m → d ∣ W i k * W 0 col - W i col * W 0 k) :
  Ec Tryz.prog 564 (fun i=>Nat.beq i 0 || Nat.ble 7 i) (hb4 m W 0 P d odd) [.ref 6 0,ri .i64 col] (Is (.tup []) (hb4 m (brs W 0 col d) 1 (P ++ [col]) (W 0 col) odd)):=by
 have hz : ∀ i k,i < 4 → k < m → li (W i k) ≤ 2000:=hl
 refine ec Tryz.func564 ?_
 refine ⟨by decide,?_⟩
 refine ga ?_
 refine lpn 4 ?_
 refine ift rfl rfl ?_
 refine ⟨by decide,?_⟩
 refine ga ?_
 refine ⟨⟨by omega,by omega⟩,?_⟩
 refine gz col hc (by rw [Int.toNat_natCast]) ?_
 refine lgc [0,1,2,3,4,5,6,7] rfl ?_
 refine lpt (fun j : Nat=>j ≤ m) (fun j=>[(0,.ref 6 0),(1,ri .i64 col),(4,ri .i64 0),(5,.own 1),(6,ri .i64 1),(7,.own 2),(8,.ref 7 0),(46,ri .i64 m),(47,ri .i64 j)])
  (fun j=>[PV 0 P,ZW m (W 0),ZW m (mix j (fun k=>(W 1 k * W 0 col - W 1 col * W 0 k) / d) (W 1)),ZW m (W 2),ZW m (W 3),.rowa 22 1 4 [.own 1,.own 2,.own 3,.own 4],bbx m 5 0 d odd,.box 47 ((zc (W 1 col)).map .im)]) (fun j=>m - j) 0 (Nat.zero_le _) (tsr rfl) (by rw [mix_zero] <;> rfl) ?_
 intro j t hj
 refine ifs rfl (fun hlt=>?_) (fun hge=>?_)
 ·have hlt:=of_decide_eq_true hlt
  have hjm : j < m:=by omega
  have l1:=hz 1 j (by decide) hjm; have l2:=hz 0 col (by decide) hc; have l3:=hz 1 col (by decide) hc; have l4:=hz 0 j (by decide) hjm
  have m1:=li_mul (W 1 j) (W 0 col); have m2:=li_mul (W 1 col) (W 0 j)
  have c1:=z_Mul (a:=W 1 j) (b:=W 0 col) (by omega) (by omega)
  have c2:=z_Mul (a:=W 1 col) (b:=W 0 j) (by omega) (by omega)
  have c3:=z_Sub (a:=W 1 j * W 0 col) (b:=W 1 col * W 0 j) (by omega) (by omega)
  have m3:=li_sub (W 1 j * W 0 col) (W 1 col * W 0 j)
  have c4:=z_Exact (a:=W 1 j * W 0 col - W 1 col * W 0 j) (b:=d) hd (hx 1 j (by decide) (by decide) hjm) (by omega) (by omega)
  refine rt (PT.app [0,1,2,3,4,5,6,7,9,10,11,12,13] (.br 8 (.br 14 (.br 15 (PT.app [16,17] .nil) 16 (PT.app [15,17] .nil)) 16 (PT.app [14,15,17] .nil)) 16 (PT.app [8,14,15,17] .nil))) ?_
  refine ⟨⟨by omega,by omega⟩,?_⟩
  refine gz j hjm (by rw [Int.toNat_natCast]) ?_
  rw [mix_at]
  refine ⟨⟨by omega,by omega⟩,?_⟩
  refine gz col hc (by rw [Int.toNat_natCast]) ?_
  refine ⟨⟨by omega,by omega⟩,?_⟩
  refine gz j hjm (by rw [Int.toNat_natCast]) ?_
  have e : putAt (zC m (mix j (fun k=>(W 1 k * W 0 col - W 1 col * W 0 k) / d) (W 1))) (j * 2) (zc ((W 1 j * W 0 col - W 1 col * W 0 j) / d)) = zC m (mix (j + 1) (fun k=>(W 1 k * W 0 col - W 1 col * W 0 k) / d) (W 1)):=by
   rw [zC_put _ hjm]; exact congrArg _ (mix_succ j (fun k=>(W 1 k * W 0 col - W 1 col * W 0 k) / d) (W 1))
  refine ⟨?_,?_⟩
  ·refine ce c1 rfl ?_
   refine ⟨?_,?_⟩
   ·refine ce c2 rfl ?_
    refine ⟨?_,?_⟩
    ·refine ce c3 rfl ?_
     refine rqa [0,1,2,3,4,5,6,7,8,9,10,11,12] [(10,[2],some []),(12,[],some [2])] ?_
     refine ce c4 rfl ?_
     refine ⟨⟨by omega,by omega⟩,?_⟩
     refine ⟨by rw [zC_len]; show (j : Int).toNat * 2 + 2 ≤ _; omega,?_⟩
     refine nxg [0,1,2,3,4,5,6,7] (j + 1) (by omega) rfl ⟨by omega,⟨rfl,rfl,rfl,rfl,rfl,rfl,rfl,rfl,congrArg (ri .i64) (i64s (by omega)).symm,trivial⟩,?_⟩
     exact congrArg (fun l=>([PV 0 P,ZW m (W 0),.row 47 2 m l,ZW m (W 2),ZW m (W 3),.rowa 22 1 4 [.own 1,.own 2,.own 3,.own 4],bbx m 5 0 d odd,.box 47 ((zc (W 1 col)).map .im)] : List AO)) e
    ·refine ce c3 rfl ?_
     refine rqa [0,1,2,3,4,5,6,7,8,9,10,11,12] [(10,[2],some []),(12,[],some [2])] ?_
     refine ce c4 rfl ?_
     refine ⟨⟨by omega,by omega⟩,?_⟩
     refine ⟨by rw [zC_len]; show (j : Int).toNat * 2 + 2 ≤ _; omega,?_⟩
     refine nxg [0,1,2,3,4,5,6,7] (j + 1) (by omega) rfl ⟨by omega,⟨rfl,rfl,rfl,rfl,rfl,rfl,rfl,rfl,congrArg (ri .i64) (i64s (by omega)).symm,trivial⟩,?_⟩
     exact congrArg (fun l=>([PV 0 P,ZW m (W 0),.row 47 2 m l,ZW m (W 2),ZW m (W 3),.rowa 22 1 4 [.own 1,.own 2,.own 3,.own 4],bbx m 5 0 d odd,.box 47 ((zc (W 1 col)).map .im)] : List AO)) e
   ·refine ce c2 rfl ?_
    refine ce c3 rfl ?_
    refine rqa [0,1,2,3,4,5,6,7,8,9,10,11,12] [(10,[2],some []),(12,[],some [2])] ?_
    refine ce c4 rfl ?_
    refine ⟨⟨by omega,by omega⟩,?_⟩
    refine ⟨by rw [zC_len]; show (j : Int).toNat * 2 + 2 ≤ _; omega,?_⟩
    refine nxg [0,1,2,3,4,5,6,7] (j + 1) (by omega) rfl ⟨by omega,⟨rfl,rfl,rfl,rfl,rfl,rfl,rfl,rfl,congrArg (ri .i64) (i64s (by omega)).symm,trivial⟩,?_⟩
    exact congrArg (fun l=>([PV 0 P,ZW m (W 0),.row 47 2 m l,ZW m (W 2),ZW m (W 3),.rowa 22 1 4 [.own 1,.own 2,.own 3,.own 4],bbx m 5 0 d odd,.box 47 ((zc (W 1 col)).map .im)] : List AO)) e
  ·refine ce c1 rfl ?_
   refine ce c2 rfl ?_
   refine ce c3 rfl ?_
   refine rqa [0,1,2,3,4,5,6,7,8,9,10,11,12] [(10,[2],some []),(12,[],some [2])] ?_
   refine ce c4 rfl ?_
   refine ⟨⟨by omega,by omega⟩,?_⟩
   refine ⟨by rw [zC_len]; show (j : Int).toNat * 2 + 2 ≤ _; omega,?_⟩
   refine nxg [0,1,2,3,4,5,6,7] (j + 1) (by omega) rfl ⟨by omega,⟨rfl,rfl,rfl,rfl,rfl,rfl,rfl,rfl,congrArg (ri .i64) (i64s (by omega)).symm,trivial⟩,?_⟩
   exact congrArg (fun l=>([PV 0 P,ZW m (W 0),.row 47 2 m l,ZW m (W 2),ZW m (W 3),.rowa 22 1 4 [.own 1,.own 2,.own 3,.own 4],bbx m 5 0 d odd,.box 47 ((zc (W 1 col)).map .im)] : List AO)) e
 have hge:=of_decide_eq_false hge
 obtain rfl : m = j:=by omega
 obtain ⟨g1,hg1⟩ : ∃ g,g = mix m (fun k=>(W 1 k * W 0 col - W 1 col * W 0 k) / d) (W 1):=⟨_,rfl⟩
 have hk1 : ∀ k,k < m → g1 k = brs W 0 col d 1 k:=fun k hk=>by rw [hg1]; exact (if_pos hk).trans (if_pos (by decide)).symm
 rw [← hg1]
 clear hj hge
 refine ift rfl rfl ?_
 refine ⟨by decide,?_⟩
 refine ga ?_
 refine ⟨⟨by omega,by omega⟩,?_⟩
 refine gz col hc (by rw [Int.toNat_natCast]) ?_
 refine lgc [0,1,2,3,4,5,6,8] rfl ?_
 refine lpt (fun j : Nat=>j ≤ m) (fun j=>[(0,.ref 6 0),(1,ri .i64 col),(4,ri .i64 0),(5,.own 1),(6,ri .i64 2),(7,.own 3),(8,.ref 7 0),(46,ri .i64 m),(47,ri .i64 j)])
  (fun j=>[PV 0 P,ZW m (W 0),ZW m g1,ZW m (mix j (fun k=>(W 2 k * W 0 col - W 2 col * W 0 k) / d) (W 2)),ZW m (W 3),.rowa 22 1 4 [.own 1,.own 2,.own 3,.own 4],bbx m 5 0 d odd,.box 47 ((zc (W 2 col)).map .im)]) (fun j=>m - j) 0 (Nat.zero_le _) (tsr rfl) (by rw [mix_zero] <;> rfl) ?_
 intro j t hj
 refine ifs rfl (fun hlt=>?_) (fun hge=>?_)
 ·have hlt:=of_decide_eq_true hlt
  have hjm : j < m:=by omega
  have l1:=hz 2 j (by decide) hjm; have l2:=hz 0 col (by decide) hc; have l3:=hz 2 col (by decide) hc; have l4:=hz 0 j (by decide) hjm
  have m1:=li_mul (W 2 j) (W 0 col); have m2:=li_mul (W 2 col) (W 0 j)
  have c1:=z_Mul (a:=W 2 j) (b:=W 0 col) (by omega) (by omega)
  have c2:=z_Mul (a:=W 2 col) (b:=W 0 j) (by omega) (by omega)
  have c3:=z_Sub (a:=W 2 j * W 0 col) (b:=W 2 col * W 0 j) (by omega) (by omega)
  have m3:=li_sub (W 2 j * W 0 col) (W 2 col * W 0 j)
  have c4:=z_Exact (a:=W 2 j * W 0 col - W 2 col * W 0 j) (b:=d) hd (hx 2 j (by decide) (by decide) hjm) (by omega) (by omega)
  refine rt (PT.app [0,1,2,3,4,5,6,7,9,10,11,12,13] (.br 8 (.br 14 (.br 15 (PT.app [16,17] .nil) 16 (PT.app [15,17] .nil)) 16 (PT.app [14,15,17] .nil)) 16 (PT.app [8,14,15,17] .nil))) ?_
  refine ⟨⟨by omega,by omega⟩,?_⟩
  refine gz j hjm (by rw [Int.toNat_natCast]) ?_
  rw [mix_at]
  refine ⟨⟨by omega,by omega⟩,?_⟩
  refine gz col hc (by rw [Int.toNat_natCast]) ?_
  refine ⟨⟨by omega,by omega⟩,?_⟩
  refine gz j hjm (by rw [Int.toNat_natCast]) ?_
  have e : putAt (zC m (mix j (fun k=>(W 2 k * W 0 col - W 2 col * W 0 k) / d) (W 2))) (j * 2) (zc ((W 2 j * W 0 col - W 2 col * W 0 j) / d)) = zC m (mix (j + 1) (fun k=>(W 2 k * W 0 col - W 2 col * W 0 k) / d) (W 2)):=by
   rw [zC_put _ hjm]; exact congrArg _ (mix_succ j (fun k=>(W 2 k * W 0 col - W 2 col * W 0 k) / d) (W 2))
  refine ⟨?_,?_⟩
  ·refine ce c1 rfl ?_
   refine ⟨?_,?_⟩
   ·refine ce c2 rfl ?_
    refine ⟨?_,?_⟩
    ·refine ce c3 rfl ?_
     refine rqa [0,1,2,3,4,5,6,7,8,9,10,11,12] [(10,[3],some []),(12,[],some [3])] ?_
     refine ce c4 rfl ?_
     refine ⟨⟨by omega,by omega⟩,?_⟩
     refine ⟨by rw [zC_len]; show (j : Int).toNat * 2 + 2 ≤ _; omega,?_⟩
     refine nxg [0,1,2,3,4,5,6,7] (j + 1) (by omega) rfl ⟨by omega,⟨rfl,rfl,rfl,rfl,rfl,rfl,rfl,rfl,congrArg (ri .i64) (i64s (by omega)).symm,trivial⟩,?_⟩
     exact congrArg (fun l=>([PV 0 P,ZW m (W 0),ZW m g1,.row 47 2 m l,ZW m (W 3),.rowa 22 1 4 [.own 1,.own 2,.own 3,.own 4],bbx m 5 0 d odd,.box 47 ((zc (W 2 col)).map .im)] : List AO)) e
    ·refine ce c3 rfl ?_
     refine rqa [0,1,2,3,4,5,6,7,8,9,10,11,12] [(10,[3],some []),(12,[],some [3])] ?_
     refine ce c4 rfl ?_
     refine ⟨⟨by omega,by omega⟩,?_⟩
     refine ⟨by rw [zC_len]; show (j : Int).toNat * 2 + 2 ≤ _; omega,?_⟩
     refine nxg [0,1,2,3,4,5,6,7] (j + 1) (by omega) rfl ⟨by omega,⟨rfl,rfl,rfl,rfl,rfl,rfl,rfl,rfl,congrArg (ri .i64) (i64s (by omega)).symm,trivial⟩,?_⟩
     exact congrArg (fun l=>([PV 0 P,ZW m (W 0),ZW m g1,.row 47 2 m l,ZW m (W 3),.rowa 22 1 4 [.own 1,.own 2,.own 3,.own 4],bbx m 5 0 d odd,.box 47 ((zc (W 2 col)).map .im)] : List AO)) e
   ·refine ce c2 rfl ?_
    refine ce c3 rfl ?_
    refine rqa [0,1,2,3,4,5,6,7,8,9,10,11,12] [(10,[3],some []),(12,[],some [3])] ?_
    refine ce c4 rfl ?_
    refine ⟨⟨by omega,by omega⟩,?_⟩
    refine ⟨by rw [zC_len]; show (j : Int).toNat * 2 + 2 ≤ _; omega,?_⟩
    refine nxg [0,1,2,3,4,5,6,7] (j + 1) (by omega) rfl ⟨by omega,⟨rfl,rfl,rfl,rfl,rfl,rfl,rfl,rfl,congrArg (ri .i64) (i64s (by omega)).symm,trivial⟩,?_⟩
    exact congrArg (fun l=>([PV 0 P,ZW m (W 0),ZW m g1,.row 47 2 m l,ZW m (W 3),.rowa 22 1 4 [.own 1,.own 2,.own 3,.own 4],bbx m 5 0 d odd,.box 47 ((zc (W 2 col)).map .im)] : List AO)) e
  ·refine ce c1 rfl ?_
   refine ce c2 rfl ?_
   refine ce c3 rfl ?_
   refine rqa [0,1,2,3,4,5,6,7,8,9,10,11,12] [(10,[3],some []),(12,[],some [3])] ?_
   refine ce c4 rfl ?_
   refine ⟨⟨by omega,by omega⟩,?_⟩
   refine ⟨by rw [zC_len]; show (j : Int).toNat * 2 + 2 ≤ _; omega,?_⟩
   refine nxg [0,1,2,3,4,5,6,7] (j + 1) (by omega) rfl ⟨by omega,⟨rfl,rfl,rfl,rfl,rfl,rfl,rfl,rfl,congrArg (ri .i64) (i64s (by omega)).symm,trivial⟩,?_⟩
   exact congrArg (fun l=>([PV 0 P,ZW m (W 0),ZW m g1,.row 47 2 m l,ZW m (W 3),.rowa 22 1 4 [.own 1,.own 2,.own 3,.own 4],bbx m 5 0 d odd,.box 47 ((zc (W 2 col)).map .im)] : List AO)) e
 have hge:=of_decide_eq_false hge
 obtain rfl : m = j:=by omega
 obtain ⟨g2,hg2⟩ : ∃ g,g = mix m (fun k=>(W 2 k * W 0 col - W 2 col * W 0 k) / d) (W 2):=⟨_,rfl⟩
 have hk2 : ∀ k,k < m → g2 k = brs W 0 col d 2 k:=fun k hk=>by rw [hg2]; exact (if_pos hk).trans (if_pos (by decide)).symm
 rw [← hg2]
 clear hj hge
 refine ift rfl rfl ?_
 refine ⟨by decide,?_⟩
 refine ga ?_
 refine ⟨⟨by omega,by omega⟩,?_⟩
 refine gz col hc (by rw [Int.toNat_natCast]) ?_
 refine lgc [0,1,2,3,4,5,6,8] rfl ?_
 refine lpt (fun j : Nat=>j ≤ m) (fun j=>[(0,.ref 6 0),(1,ri .i64 col),(4,ri .i64 0),(5,.own 1),(6,ri .i64 3),(7,.own 4),(8,.ref 7 0),(46,ri .i64 m),(47,ri .i64 j)])
  (fun j=>[PV 0 P,ZW m (W 0),ZW m g1,ZW m g2,ZW m (mix j (fun k=>(W 3 k * W 0 col - W 3 col * W 0 k) / d) (W 3)),.rowa 22 1 4 [.own 1,.own 2,.own 3,.own 4],bbx m 5 0 d odd,.box 47 ((zc (W 3 col)).map .im)]) (fun j=>m - j) 0 (Nat.zero_le _) (tsr rfl) (by rw [mix_zero] <;> rfl) ?_
 intro j t hj
 refine ifs rfl (fun hlt=>?_) (fun hge=>?_)
 ·have hlt:=of_decide_eq_true hlt
  have hjm : j < m:=by omega
  have l1:=hz 3 j (by decide) hjm; have l2:=hz 0 col (by decide) hc; have l3:=hz 3 col (by decide) hc; have l4:=hz 0 j (by decide) hjm
  have m1:=li_mul (W 3 j) (W 0 col); have m2:=li_mul (W 3 col) (W 0 j)
  have c1:=z_Mul (a:=W 3 j) (b:=W 0 col) (by omega) (by omega)
  have c2:=z_Mul (a:=W 3 col) (b:=W 0 j) (by omega) (by omega)
  have c3:=z_Sub (a:=W 3 j * W 0 col) (b:=W 3 col * W 0 j) (by omega) (by omega)
  have m3:=li_sub (W 3 j * W 0 col) (W 3 col * W 0 j)
  have c4:=z_Exact (a:=W 3 j * W 0 col - W 3 col * W 0 j) (b:=d) hd (hx 3 j (by decide) (by decide) hjm) (by omega) (by omega)
  refine rt (PT.app [0,1,2,3,4,5,6,7,9,10,11,12,13] (.br 8 (.br 14 (.br 15 (PT.app [16,17] .nil) 16 (PT.app [15,17] .nil)) 16 (PT.app [14,15,17] .nil)) 16 (PT.app [8,14,15,17] .nil))) ?_
  refine ⟨⟨by omega,by omega⟩,?_⟩
  refine gz j hjm (by rw [Int.toNat_natCast]) ?_
  rw [mix_at]
  refine ⟨⟨by omega,by omega⟩,?_⟩
  refine gz col hc (by rw [Int.toNat_natCast]) ?_
  refine ⟨⟨by omega,by omega⟩,?_⟩
  refine gz j hjm (by rw [Int.toNat_natCast]) ?_
  have e : putAt (zC m (mix j (fun k=>(W 3 k * W 0 col - W 3 col * W 0 k) / d) (W 3))) (j * 2) (zc ((W 3 j * W 0 col - W 3 col * W 0 j) / d)) = zC m (mix (j + 1) (fun k=>(W 3 k * W 0 col - W 3 col * W 0 k) / d) (W 3)):=by
   rw [zC_put _ hjm]; exact congrArg _ (mix_succ j (fun k=>(W 3 k * W 0 col - W 3 col * W 0 k) / d) (W 3))
  refine ⟨?_,?_⟩
  ·refine ce c1 rfl ?_
   refine ⟨?_,?_⟩
   ·refine ce c2 rfl ?_
    refine ⟨?_,?_⟩
    ·refine ce c3 rfl ?_
     refine rqa [0,1,2,3,4,5,6,7,8,9,10,11,12] [(10,[4],some []),(12,[],some [4])] ?_
     refine ce c4 rfl ?_
     refine ⟨⟨by omega,by omega⟩,?_⟩
     refine ⟨by rw [zC_len]; show (j : Int).toNat * 2 + 2 ≤ _; omega,?_⟩
     refine nxg [0,1,2,3,4,5,6,7] (j + 1) (by omega) rfl ⟨by omega,⟨rfl,rfl,rfl,rfl,rfl,rfl,rfl,rfl,congrArg (ri .i64) (i64s (by omega)).symm,trivial⟩,?_⟩
     exact congrArg (fun l=>([PV 0 P,ZW m (W 0),ZW m g1,ZW m g2,.row 47 2 m l,.rowa 22 1 4 [.own 1,.own 2,.own 3,.own 4],bbx m 5 0 d odd,.box 47 ((zc (W 3 col)).map .im)] : List AO)) e
    ·refine ce c3 rfl ?_
     refine rqa [0,1,2,3,4,5,6,7,8,9,10,11,12] [(10,[4],some []),(12,[],some [4])] ?_
     refine ce c4 rfl ?_
     refine ⟨⟨by omega,by omega⟩,?_⟩
     refine ⟨by rw [zC_len]; show (j : Int).toNat * 2 + 2 ≤ _; omega,?_⟩
     refine nxg [0,1,2,3,4,5,6,7] (j + 1) (by omega) rfl ⟨by omega,⟨rfl,rfl,rfl,rfl,rfl,rfl,rfl,rfl,congrArg (ri .i64) (i64s (by omega)).symm,trivial⟩,?_⟩
     exact congrArg (fun l=>([PV 0 P,ZW m (W 0),ZW m g1,ZW m g2,.row 47 2 m l,.rowa 22 1 4 [.own 1,.own 2,.own 3,.own 4],bbx m 5 0 d odd,.box 47 ((zc (W 3 col)).map .im)] : List AO)) e
   ·refine ce c2 rfl ?_
    refine ce c3 rfl ?_
    refine rqa [0,1,2,3,4,5,6,7,8,9,10,11,12] [(10,[4],some []),(12,[],some [4])] ?_
    refine ce c4 rfl ?_
    refine ⟨⟨by omega,by omega⟩,?_⟩
    refine ⟨by rw [zC_len]; show (j : Int).toNat * 2 + 2 ≤ _; omega,?_⟩
    refine nxg [0,1,2,3,4,5,6,7] (j + 1) (by omega) rfl ⟨by omega,⟨rfl,rfl,rfl,rfl,rfl,rfl,rfl,rfl,congrArg (ri .i64) (i64s (by omega)).symm,trivial⟩,?_⟩
    exact congrArg (fun l=>([PV 0 P,ZW m (W 0),ZW m g1,ZW m g2,.row 47 2 m l,.rowa 22 1 4 [.own 1,.own 2,.own 3,.own 4],bbx m 5 0 d odd,.box 47 ((zc (W 3 col)).map .im)] : List AO)) e
  ·refine ce c1 rfl ?_
   refine ce c2 rfl ?_
   refine ce c3 rfl ?_
   refine rqa [0,1,2,3,4,5,6,7,8,9,10,11,12] [(10,[4],some []),(12,[],some [4])] ?_
   refine ce c4 rfl ?_
   refine ⟨⟨by omega,by omega⟩,?_⟩
   refine ⟨by rw [zC_len]; show (j : Int).toNat * 2 + 2 ≤ _; omega,?_⟩
   refine nxg [0,1,2,3,4,5,6,7] (j + 1) (by omega) rfl ⟨by omega,⟨rfl,rfl,rfl,rfl,rfl,rfl,rfl,rfl,congrArg (ri .i64) (i64s (by omega)).symm,trivial⟩,?_⟩
   exact congrArg (fun l=>([PV 0 P,ZW m (W 0),ZW m g1,ZW m g2,.row 47 2 m l,.rowa 22 1 4 [.own 1,.own 2,.own 3,.own 4],bbx m 5 0 d odd,.box 47 ((zc (W 3 col)).map .im)] : List AO)) e
 have hge:=of_decide_eq_false hge
 obtain rfl : m = j:=by omega
 obtain ⟨g3,hg3⟩ : ∃ g,g = mix m (fun k=>(W 3 k * W 0 col - W 3 col * W 0 k) / d) (W 3):=⟨_,rfl⟩
 have hk3 : ∀ k,k < m → g3 k = brs W 0 col d 3 k:=fun k hk=>by rw [hg3]; exact (if_pos hk).trans (if_pos (by decide)).symm
 rw [← hg3]
 clear hj hge
 refine iff_ rfl rfl ?_
 refine ⟨⟨by omega,by omega⟩,?_⟩
 refine gz col hc (by rw [Int.toNat_natCast]) ?_
 refine ⟨(by decide : (0 + 1) * 8 ≤ 140737488355328 ∧ 0 + 1 ≤ 1000000000),?_⟩
 refine fin [0,1,2,3,4,5,6] rfl ⟨rfl,?_⟩
 refine Eq.trans (b:=([.row 3 1 1 (pvs P ++ [.raw (.int .i64 (col : Int))]),ZW m (W 0),ZW m g1,ZW m g2,ZW m g3,.rowa 22 1 4 [.own 1,.own 2,.own 3,.own 4],bbx m 5 0 (W 0 col) odd] : List AO)) rfl ?_
 rw [pvs_app,zW_congr (g:=g1) (h:=brs W 0 col d 1) hk1,zW_congr (g:=g2) (h:=brs W 0 col d 2) hk2,zW_congr (g:=g3) (h:=brs W 0 col d 3) hk3]; rfl
theorem b_clear4_1 {m col : Nat} {W : Nat → Nat → Int} {P : List Nat} {d : Int} {odd : Bool} (hm : m ≤ 64) (hc : col < m) (hl : ZB 2000 4 m W) (hd : d ≠ 0) (hdl : li d ≤ 2000) (hx : ∀ i k,1 < i → i < 4 → k < m → d ∣ W i k * W 1 col - W i col * W 1 k) :
  Ec Tryz.prog 564 (fun i=>Nat.beq i 0 || Nat.ble 7 i) (hb4 m W 1 P d odd) [.ref 6 0,ri .i64 col] (Is (.tup []) (hb4 m (brs W 1 col d) 2 (P ++ [col]) (W 1 col) odd)):=by
 have hz : ∀ i k,i < 4 → k < m → li (W i k) ≤ 2000:=hl
 refine ec Tryz.func564 ?_
 refine ⟨by decide,?_⟩
 refine ga ?_
 refine lpn 3 ?_
 refine ift rfl rfl ?_
 refine ⟨by decide,?_⟩
 refine ga ?_
 refine ⟨⟨by omega,by omega⟩,?_⟩
 refine gz col hc (by rw [Int.toNat_natCast]) ?_
 refine lgc [0,1,2,3,4,5,6,7] rfl ?_
 refine lpt (fun j : Nat=>j ≤ m) (fun j=>[(0,.ref 6 0),(1,ri .i64 col),(4,ri .i64 1),(5,.own 2),(6,ri .i64 2),(7,.own 3),(8,.ref 7 0),(46,ri .i64 m),(47,ri .i64 j)])
  (fun j=>[PV 1 P,ZW m (W 0),ZW m (W 1),ZW m (mix j (fun k=>(W 2 k * W 1 col - W 2 col * W 1 k) / d) (W 2)),ZW m (W 3),.rowa 22 1 4 [.own 1,.own 2,.own 3,.own 4],bbx m 5 0 d odd,.box 47 ((zc (W 2 col)).map .im)]) (fun j=>m - j) 0 (Nat.zero_le _) (tsr rfl) (by rw [mix_zero] <;> rfl) ?_
 intro j t hj
 refine ifs rfl (fun hlt=>?_) (fun hge=>?_)
 ·have hlt:=of_decide_eq_true hlt
  have hjm : j < m:=by omega
  have l1:=hz 2 j (by decide) hjm; have l2:=hz 1 col (by decide) hc; have l3:=hz 2 col (by decide) hc; have l4:=hz 1 j (by decide) hjm
  have m1:=li_mul (W 2 j) (W 1 col); have m2:=li_mul (W 2 col) (W 1 j)
  have c1:=z_Mul (a:=W 2 j) (b:=W 1 col) (by omega) (by omega)
  have c2:=z_Mul (a:=W 2 col) (b:=W 1 j) (by omega) (by omega)
  have c3:=z_Sub (a:=W 2 j * W 1 col) (b:=W 2 col * W 1 j) (by omega) (by omega)
  have m3:=li_sub (W 2 j * W 1 col) (W 2 col * W 1 j)
  have c4:=z_Exact (a:=W 2 j * W 1 col - W 2 col * W 1 j) (b:=d) hd (hx 2 j (by decide) (by decide) hjm) (by omega) (by omega)
  refine rt (PT.app [0,1,2,3,4,5,6,7,9,10,11,12,13] (.br 8 (.br 14 (.br 15 (PT.app [16,17] .nil) 16 (PT.app [15,17] .nil)) 16 (PT.app [14,15,17] .nil)) 16 (PT.app [8,14,15,17] .nil))) ?_
  refine ⟨⟨by omega,by omega⟩,?_⟩
  refine gz j hjm (by rw [Int.toNat_natCast]) ?_
  rw [mix_at]
  refine ⟨⟨by omega,by omega⟩,?_⟩
  refine gz col hc (by rw [Int.toNat_natCast]) ?_
  refine ⟨⟨by omega,by omega⟩,?_⟩
  refine gz j hjm (by rw [Int.toNat_natCast]) ?_
  have e : putAt (zC m (mix j (fun k=>(W 2 k * W 1 col - W 2 col * W 1 k) / d) (W 2))) (j * 2) (zc ((W 2 j * W 1 col - W 2 col * W 1 j) / d)) = zC m (mix (j + 1) (fun k=>(W 2 k * W 1 col - W 2 col * W 1 k) / d) (W 2)):=by
   rw [zC_put _ hjm]; exact congrArg _ (mix_succ j (fun k=>(W 2 k * W 1 col - W 2 col * W 1 k) / d) (W 2))
  refine ⟨?_,?_⟩
  ·refine ce c1 rfl ?_
   refine ⟨?_,?_⟩
   ·refine ce c2 rfl ?_
    refine ⟨?_,?_⟩
    ·refine ce c3 rfl ?_
     refine rqa [0,1,2,3,4,5,6,7,8,9,10,11,12] [(10,[3],some []),(12,[],some [3])] ?_
     refine ce c4 rfl ?_
     refine ⟨⟨by omega,by omega⟩,?_⟩
     refine ⟨by rw [zC_len]; show (j : Int).toNat * 2 + 2 ≤ _; omega,?_⟩
     refine nxg [0,1,2,3,4,5,6,7] (j + 1) (by omega) rfl ⟨by omega,⟨rfl,rfl,rfl,rfl,rfl,rfl,rfl,rfl,congrArg (ri .i64) (i64s (by omega)).symm,trivial⟩,?_⟩
     exact congrArg (fun l=>([PV 1 P,ZW m (W 0),ZW m (W 1),.row 47 2 m l,ZW m (W 3),.rowa 22 1 4 [.own 1,.own 2,.own 3,.own 4],bbx m 5 0 d odd,.box 47 ((zc (W 2 col)).map .im)] : List AO)) e
    ·refine ce c3 rfl ?_
     refine rqa [0,1,2,3,4,5,6,7,8,9,10,11,12] [(10,[3],some []),(12,[],some [3])] ?_
     refine ce c4 rfl ?_
     refine ⟨⟨by omega,by omega⟩,?_⟩
     refine ⟨by rw [zC_len]; show (j : Int).toNat * 2 + 2 ≤ _; omega,?_⟩
     refine nxg [0,1,2,3,4,5,6,7] (j + 1) (by omega) rfl ⟨by omega,⟨rfl,rfl,rfl,rfl,rfl,rfl,rfl,rfl,congrArg (ri .i64) (i64s (by omega)).symm,trivial⟩,?_⟩
     exact congrArg (fun l=>([PV 1 P,ZW m (W 0),ZW m (W 1),.row 47 2 m l,ZW m (W 3),.rowa 22 1 4 [.own 1,.own 2,.own 3,.own 4],bbx m 5 0 d odd,.box 47 ((zc (W 2 col)).map .im)] : List AO)) e
   ·refine ce c2 rfl ?_
    refine ce c3 rfl ?_
    refine rqa [0,1,2,3,4,5,6,7,8,9,10,11,12] [(10,[3],some []),(12,[],some [3])] ?_
    refine ce c4 rfl ?_
    refine ⟨⟨by omega,by omega⟩,?_⟩
    refine ⟨by rw [zC_len]; show (j : Int).toNat * 2 + 2 ≤ _; omega,?_⟩
    refine nxg [0,1,2,3,4,5,6,7] (j + 1) (by omega) rfl ⟨by omega,⟨rfl,rfl,rfl,rfl,rfl,rfl,rfl,rfl,congrArg (ri .i64) (i64s (by omega)).symm,trivial⟩,?_⟩
    exact congrArg (fun l=>([PV 1 P,ZW m (W 0),ZW m (W 1),.row 47 2 m l,ZW m (W 3),.rowa 22 1 4 [.own 1,.own 2,.own 3,.own 4],bbx m 5 0 d odd,.box 47 ((zc (W 2 col)).map .im)] : List AO)) e
  ·refine ce c1 rfl ?_
   refine ce c2 rfl ?_
   refine ce c3 rfl ?_
   refine rqa [0,1,2,3,4,5,6,7,8,9,10,11,12] [(10,[3],some []),(12,[],some [3])] ?_
   refine ce c4 rfl ?_
   refine ⟨⟨by omega,by omega⟩,?_⟩
   refine ⟨by rw [zC_len]; show (j : Int).toNat * 2 + 2 ≤ _; omega,?_⟩
   refine nxg [0,1,2,3,4,5,6,7] (j + 1) (by omega) rfl ⟨by omega,⟨rfl,rfl,rfl,rfl,rfl,rfl,rfl,rfl,congrArg (ri .i64) (i64s (by omega)).symm,trivial⟩,?_⟩
   exact congrArg (fun l=>([PV 1 P,ZW m (W 0),ZW m (W 1),.row 47 2 m l,ZW m (W 3),.rowa 22 1 4 [.own 1,.own 2,.own 3,.own 4],bbx m 5 0 d odd,.box 47 ((zc (W 2 col)).map .im)] : List AO)) e
 have hge:=of_decide_eq_false hge
 obtain rfl : m = j:=by omega
 obtain ⟨g2,hg2⟩ : ∃ g,g = mix m (fun k=>(W 2 k * W 1 col - W 2 col * W 1 k) / d) (W 2):=⟨_,rfl⟩
 have hk2 : ∀ k,k < m → g2 k = brs W 1 col d 2 k:=fun k hk=>by rw [hg2]; exact (if_pos hk).trans (if_pos (by decide)).symm
 rw [← hg2]
 clear hj hge
 refine ift rfl rfl ?_
 refine ⟨by decide,?_⟩
 refine ga ?_
 refine ⟨⟨by omega,by omega⟩,?_⟩
 refine gz col hc (by rw [Int.toNat_natCast]) ?_
 refine lgc [0,1,2,3,4,5,6,8] rfl ?_
 refine lpt (fun j : Nat=>j ≤ m) (fun j=>[(0,.ref 6 0),(1,ri .i64 col),(4,ri .i64 1),(5,.own 2),(6,ri .i64 3),(7,.own 4),(8,.ref 7 0),(46,ri .i64 m),(47,ri .i64 j)])
  (fun j=>[PV 1 P,ZW m (W 0),ZW m (W 1),ZW m g2,ZW m (mix j (fun k=>(W 3 k * W 1 col - W 3 col * W 1 k) / d) (W 3)),.rowa 22 1 4 [.own 1,.own 2,.own 3,.own 4],bbx m 5 0 d odd,.box 47 ((zc (W 3 col)).map .im)]) (fun j=>m - j) 0 (Nat.zero_le _) (tsr rfl) (by rw [mix_zero] <;> rfl) ?_
 intro j t hj
 refine ifs rfl (fun hlt=>?_) (fun hge=>?_)
 ·have hlt:=of_decide_eq_true hlt
  have hjm : j < m:=by omega
  have l1:=hz 3 j (by decide) hjm; have l2:=hz 1 col (by decide) hc; have l3:=hz 3 col (by decide) hc; have l4:=hz 1 j (by decide) hjm
  have m1:=li_mul (W 3 j) (W 1 col); have m2:=li_mul (W 3 col) (W 1 j)
  have c1:=z_Mul (a:=W 3 j) (b:=W 1 col) (by omega) (by omega)
  have c2:=z_Mul (a:=W 3 col) (b:=W 1 j) (by omega) (by omega)
  have c3:=z_Sub (a:=W 3 j * W 1 col) (b:=W 3 col * W 1 j) (by omega) (by omega)
  have m3:=li_sub (W 3 j * W 1 col) (W 3 col * W 1 j)
  have c4:=z_Exact (a:=W 3 j * W 1 col - W 3 col * W 1 j) (b:=d) hd (hx 3 j (by decide) (by decide) hjm) (by omega) (by omega)
  refine rt (PT.app [0,1,2,3,4,5,6,7,9,10,11,12,13] (.br 8 (.br 14 (.br 15 (PT.app [16,17] .nil) 16 (PT.app [15,17] .nil)) 16 (PT.app [14,15,17] .nil)) 16 (PT.app [8,14,15,17] .nil))) ?_
  refine ⟨⟨by omega,by omega⟩,?_⟩
  refine gz j hjm (by rw [Int.toNat_natCast]) ?_
  rw [mix_at]
  refine ⟨⟨by omega,by omega⟩,?_⟩
  refine gz col hc (by rw [Int.toNat_natCast]) ?_
  refine ⟨⟨by omega,by omega⟩,?_⟩
  refine gz j hjm (by rw [Int.toNat_natCast]) ?_
  have e : putAt (zC m (mix j (fun k=>(W 3 k * W 1 col - W 3 col * W 1 k) / d) (W 3))) (j * 2) (zc ((W 3 j * W 1 col - W 3 col * W 1 j) / d)) = zC m (mix (j + 1) (fun k=>(W 3 k * W 1 col - W 3 col * W 1 k) / d) (W 3)):=by
   rw [zC_put _ hjm]; exact congrArg _ (mix_succ j (fun k=>(W 3 k * W 1 col - W 3 col * W 1 k) / d) (W 3))
  refine ⟨?_,?_⟩
  ·refine ce c1 rfl ?_
   refine ⟨?_,?_⟩
   ·refine ce c2 rfl ?_
    refine ⟨?_,?_⟩
    ·refine ce c3 rfl ?_
     refine rqa [0,1,2,3,4,5,6,7,8,9,10,11,12] [(10,[4],some []),(12,[],some [4])] ?_
     refine ce c4 rfl ?_
     refine ⟨⟨by omega,by omega⟩,?_⟩
     refine ⟨by rw [zC_len]; show (j : Int).toNat * 2 + 2 ≤ _; omega,?_⟩
     refine nxg [0,1,2,3,4,5,6,7] (j + 1) (by omega) rfl ⟨by omega,⟨rfl,rfl,rfl,rfl,rfl,rfl,rfl,rfl,congrArg (ri .i64) (i64s (by omega)).symm,trivial⟩,?_⟩
     exact congrArg (fun l=>([PV 1 P,ZW m (W 0),ZW m (W 1),ZW m g2,.row 47 2 m l,.rowa 22 1 4 [.own 1,.own 2,.own 3,.own 4],bbx m 5 0 d odd,.box 47 ((zc (W 3 col)).map .im)] : List AO)) e
    ·refine ce c3 rfl ?_
     refine rqa [0,1,2,3,4,5,6,7,8,9,10,11,12] [(10,[4],some []),(12,[],some [4])] ?_
     refine ce c4 rfl ?_
     refine ⟨⟨by omega,by omega⟩,?_⟩
     refine ⟨by rw [zC_len]; show (j : Int).toNat * 2 + 2 ≤ _; omega,?_⟩
     refine nxg [0,1,2,3,4,5,6,7] (j + 1) (by omega) rfl ⟨by omega,⟨rfl,rfl,rfl,rfl,rfl,rfl,rfl,rfl,congrArg (ri .i64) (i64s (by omega)).symm,trivial⟩,?_⟩
     exact congrArg (fun l=>([PV 1 P,ZW m (W 0),ZW m (W 1),ZW m g2,.row 47 2 m l,.rowa 22 1 4 [.own 1,.own 2,.own 3,.own 4],bbx m 5 0 d odd,.box 47 ((zc (W 3 col)).map .im)] : List AO)) e
   ·refine ce c2 rfl ?_
    refine ce c3 rfl ?_
    refine rqa [0,1,2,3,4,5,6,7,8,9,10,11,12] [(10,[4],some []),(12,[],some [4])] ?_
    refine ce c4 rfl ?_
    refine ⟨⟨by omega,by omega⟩,?_⟩
    refine ⟨by rw [zC_len]; show (j : Int).toNat * 2 + 2 ≤ _; omega,?_⟩
    refine nxg [0,1,2,3,4,5,6,7] (j + 1) (by omega) rfl ⟨by omega,⟨rfl,rfl,rfl,rfl,rfl,rfl,rfl,rfl,congrArg (ri .i64) (i64s (by omega)).symm,trivial⟩,?_⟩
    exact congrArg (fun l=>([PV 1 P,ZW m (W 0),ZW m (W 1),ZW m g2,.row 47 2 m l,.rowa 22 1 4 [.own 1,.own 2,.own 3,.own 4],bbx m 5 0 d odd,.box 47 ((zc (W 3 col)).map .im)] : List AO)) e
  ·refine ce c1 rfl ?_
   refine ce c2 rfl ?_
   refine ce c3 rfl ?_
   refine rqa [0,1,2,3,4,5,6,7,8,9,10,11,12] [(10,[4],some []),(12,[],some [4])] ?_
   refine ce c4 rfl ?_
   refine ⟨⟨by omega,by omega⟩,?_⟩
   refine ⟨by rw [zC_len]; show (j : Int).toNat * 2 + 2 ≤ _; omega,?_⟩
   refine nxg [0,1,2,3,4,5,6,7] (j + 1) (by omega) rfl ⟨by omega,⟨rfl,rfl,rfl,rfl,rfl,rfl,rfl,rfl,congrArg (ri .i64) (i64s (by omega)).symm,trivial⟩,?_⟩
   exact congrArg (fun l=>([PV 1 P,ZW m (W 0),ZW m (W 1),ZW m g2,.row 47 2 m l,.rowa 22 1 4 [.own 1,.own 2,.own 3,.own 4],bbx m 5 0 d odd,.box 47 ((zc (W 3 col)).map .im)] : List AO)) e
 have hge:=of_decide_eq_false hge
 obtain rfl : m = j:=by omega
 obtain ⟨g3,hg3⟩ : ∃ g,g = mix m (fun k=>(W 3 k * W 1 col - W 3 col * W 1 k) / d) (W 3):=⟨_,rfl⟩
 have hk3 : ∀ k,k < m → g3 k = brs W 1 col d 3 k:=fun k hk=>by rw [hg3]; exact (if_pos hk).trans (if_pos (by decide)).symm
 rw [← hg3]
 clear hj hge
 refine iff_ rfl rfl ?_
 refine ⟨⟨by omega,by omega⟩,?_⟩
 refine gz col hc (by rw [Int.toNat_natCast]) ?_
 refine ⟨(by decide : (1 + 1) * 8 ≤ 140737488355328 ∧ 1 + 1 ≤ 1000000000),?_⟩
 refine fin [0,1,2,3,4,5,6] rfl ⟨rfl,?_⟩
 refine Eq.trans (b:=([.row 3 1 2 (pvs P ++ [.raw (.int .i64 (col : Int))]),ZW m (W 0),ZW m (W 1),ZW m g2,ZW m g3,.rowa 22 1 4 [.own 1,.own 2,.own 3,.own 4],bbx m 5 0 (W 1 col) odd] : List AO)) rfl ?_
 rw [pvs_app,zW_congr (g:=g2) (h:=brs W 1 col d 2) hk2,zW_congr (g:=g3) (h:=brs W 1 col d 3) hk3]; rfl
theorem b_clear4_2 {m col : Nat} {W : Nat → Nat → Int} {P : List Nat} {d : Int} {odd : Bool} (hm : m ≤ 64) (hc : col < m) (hl : ZB 2000 4 m W) (hd : d ≠ 0) (hdl : li d ≤ 2000) (hx : ∀ i k,2 < i → i < 4 → k < m → d ∣ W i k * W 2 col - W i col * W 2 k) :
  Ec Tryz.prog 564 (fun i=>Nat.beq i 0 || Nat.ble 7 i) (hb4 m W 2 P d odd) [.ref 6 0,ri .i64 col] (Is (.tup []) (hb4 m (brs W 2 col d) 3 (P ++ [col]) (W 2 col) odd)):=by
 have hz : ∀ i k,i < 4 → k < m → li (W i k) ≤ 2000:=hl
 refine ec Tryz.func564 ?_
 refine ⟨by decide,?_⟩
 refine ga ?_
 refine lpn 2 ?_
 refine ift rfl rfl ?_
 refine ⟨by decide,?_⟩
 refine ga ?_
 refine ⟨⟨by omega,by omega⟩,?_⟩
 refine gz col hc (by rw [Int.toNat_natCast]) ?_
 refine lgc [0,1,2,3,4,5,6,7] rfl ?_
 refine lpt (fun j : Nat=>j ≤ m) (fun j=>[(0,.ref 6 0),(1,ri .i64 col),(4,ri .i64 2),(5,.own 3),(6,ri .i64 3),(7,.own 4),(8,.ref 7 0),(46,ri .i64 m),(47,ri .i64 j)])
  (fun j=>[PV 2 P,ZW m (W 0),ZW m (W 1),ZW m (W 2),ZW m (mix j (fun k=>(W 3 k * W 2 col - W 3 col * W 2 k) / d) (W 3)),.rowa 22 1 4 [.own 1,.own 2,.own 3,.own 4],bbx m 5 0 d odd,.box 47 ((zc (W 3 col)).map .im)]) (fun j=>m - j) 0 (Nat.zero_le _) (tsr rfl) (by rw [mix_zero] <;> rfl) ?_
 intro j t hj
 refine ifs rfl (fun hlt=>?_) (fun hge=>?_)
 ·have hlt:=of_decide_eq_true hlt
  have hjm : j < m:=by omega
  have l1:=hz 3 j (by decide) hjm; have l2:=hz 2 col (by decide) hc; have l3:=hz 3 col (by decide) hc; have l4:=hz 2 j (by decide) hjm
  have m1:=li_mul (W 3 j) (W 2 col); have m2:=li_mul (W 3 col) (W 2 j)
  have c1:=z_Mul (a:=W 3 j) (b:=W 2 col) (by omega) (by omega)
  have c2:=z_Mul (a:=W 3 col) (b:=W 2 j) (by omega) (by omega)
  have c3:=z_Sub (a:=W 3 j * W 2 col) (b:=W 3 col * W 2 j) (by omega) (by omega)
  have m3:=li_sub (W 3 j * W 2 col) (W 3 col * W 2 j)
  have c4:=z_Exact (a:=W 3 j * W 2 col - W 3 col * W 2 j) (b:=d) hd (hx 3 j (by decide) (by decide) hjm) (by omega) (by omega)
  refine rt (PT.app [0,1,2,3,4,5,6,7,9,10,11,12,13] (.br 8 (.br 14 (.br 15 (PT.app [16,17] .nil) 16 (PT.app [15,17] .nil)) 16 (PT.app [14,15,17] .nil)) 16 (PT.app [8,14,15,17] .nil))) ?_
  refine ⟨⟨by omega,by omega⟩,?_⟩
  refine gz j hjm (by rw [Int.toNat_natCast]) ?_
  rw [mix_at]
  refine ⟨⟨by omega,by omega⟩,?_⟩
  refine gz col hc (by rw [Int.toNat_natCast]) ?_
  refine ⟨⟨by omega,by omega⟩,?_⟩
  refine gz j hjm (by rw [Int.toNat_natCast]) ?_
  have e : putAt (zC m (mix j (fun k=>(W 3 k * W 2 col - W 3 col * W 2 k) / d) (W 3))) (j * 2) (zc ((W 3 j * W 2 col - W 3 col * W 2 j) / d)) = zC m (mix (j + 1) (fun k=>(W 3 k * W 2 col - W 3 col * W 2 k) / d) (W 3)):=by
   rw [zC_put _ hjm]; exact congrArg _ (mix_succ j (fun k=>(W 3 k * W 2 col - W 3 col * W 2 k) / d) (W 3))
  refine ⟨?_,?_⟩
  ·refine ce c1 rfl ?_
   refine ⟨?_,?_⟩
   ·refine ce c2 rfl ?_
    refine ⟨?_,?_⟩
    ·refine ce c3 rfl ?_
     refine rqa [0,1,2,3,4,5,6,7,8,9,10,11,12] [(10,[4],some []),(12,[],some [4])] ?_
     refine ce c4 rfl ?_
     refine ⟨⟨by omega,by omega⟩,?_⟩
     refine ⟨by rw [zC_len]; show (j : Int).toNat * 2 + 2 ≤ _; omega,?_⟩
     refine nxg [0,1,2,3,4,5,6,7] (j + 1) (by omega) rfl ⟨by omega,⟨rfl,rfl,rfl,rfl,rfl,rfl,rfl,rfl,congrArg (ri .i64) (i64s (by omega)).symm,trivial⟩,?_⟩
     exact congrArg (fun l=>([PV 2 P,ZW m (W 0),ZW m (W 1),ZW m (W 2),.row 47 2 m l,.rowa 22 1 4 [.own 1,.own 2,.own 3,.own 4],bbx m 5 0 d odd,.box 47 ((zc (W 3 col)).map .im)] : List AO)) e
    ·refine ce c3 rfl ?_
     refine rqa [0,1,2,3,4,5,6,7,8,9,10,11,12] [(10,[4],some []),(12,[],some [4])] ?_
     refine ce c4 rfl ?_
     refine ⟨⟨by omega,by omega⟩,?_⟩
     refine ⟨by rw [zC_len]; show (j : Int).toNat * 2 + 2 ≤ _; omega,?_⟩
     refine nxg [0,1,2,3,4,5,6,7] (j + 1) (by omega) rfl ⟨by omega,⟨rfl,rfl,rfl,rfl,rfl,rfl,rfl,rfl,congrArg (ri .i64) (i64s (by omega)).symm,trivial⟩,?_⟩
     exact congrArg (fun l=>([PV 2 P,ZW m (W 0),ZW m (W 1),ZW m (W 2),.row 47 2 m l,.rowa 22 1 4 [.own 1,.own 2,.own 3,.own 4],bbx m 5 0 d odd,.box 47 ((zc (W 3 col)).map .im)] : List AO)) e
   ·refine ce c2 rfl ?_
    refine ce c3 rfl ?_
    refine rqa [0,1,2,3,4,5,6,7,8,9,10,11,12] [(10,[4],some []),(12,[],some [4])] ?_
    refine ce c4 rfl ?_
    refine ⟨⟨by omega,by omega⟩,?_⟩
    refine ⟨by rw [zC_len]; show (j : Int).toNat * 2 + 2 ≤ _; omega,?_⟩
    refine nxg [0,1,2,3,4,5,6,7] (j + 1) (by omega) rfl ⟨by omega,⟨rfl,rfl,rfl,rfl,rfl,rfl,rfl,rfl,congrArg (ri .i64) (i64s (by omega)).symm,trivial⟩,?_⟩
    exact congrArg (fun l=>([PV 2 P,ZW m (W 0),ZW m (W 1),ZW m (W 2),.row 47 2 m l,.rowa 22 1 4 [.own 1,.own 2,.own 3,.own 4],bbx m 5 0 d odd,.box 47 ((zc (W 3 col)).map .im)] : List AO)) e
  ·refine ce c1 rfl ?_
   refine ce c2 rfl ?_
   refine ce c3 rfl ?_
   refine rqa [0,1,2,3,4,5,6,7,8,9,10,11,12] [(10,[4],some []),(12,[],some [4])] ?_
   refine ce c4 rfl ?_
   refine ⟨⟨by omega,by omega⟩,?_⟩
   refine ⟨by rw [zC_len]; show (j : Int).toNat * 2 + 2 ≤ _; omega,?_⟩
   refine nxg [0,1,2,3,4,5,6,7] (j + 1) (by omega) rfl ⟨by omega,⟨rfl,rfl,rfl,rfl,rfl,rfl,rfl,rfl,congrArg (ri .i64) (i64s (by omega)).symm,trivial⟩,?_⟩
   exact congrArg (fun l=>([PV 2 P,ZW m (W 0),ZW m (W 1),ZW m (W 2),.row 47 2 m l,.rowa 22 1 4 [.own 1,.own 2,.own 3,.own 4],bbx m 5 0 d odd,.box 47 ((zc (W 3 col)).map .im)] : List AO)) e
 have hge:=of_decide_eq_false hge
 obtain rfl : m = j:=by omega
 obtain ⟨g3,hg3⟩ : ∃ g,g = mix m (fun k=>(W 3 k * W 2 col - W 3 col * W 2 k) / d) (W 3):=⟨_,rfl⟩
 have hk3 : ∀ k,k < m → g3 k = brs W 2 col d 3 k:=fun k hk=>by rw [hg3]; exact (if_pos hk).trans (if_pos (by decide)).symm
 rw [← hg3]
 clear hj hge
 refine iff_ rfl rfl ?_
 refine ⟨⟨by omega,by omega⟩,?_⟩
 refine gz col hc (by rw [Int.toNat_natCast]) ?_
 refine ⟨(by decide : (2 + 1) * 8 ≤ 140737488355328 ∧ 2 + 1 ≤ 1000000000),?_⟩
 refine fin [0,1,2,3,4,5,6] rfl ⟨rfl,?_⟩
 refine Eq.trans (b:=([.row 3 1 3 (pvs P ++ [.raw (.int .i64 (col : Int))]),ZW m (W 0),ZW m (W 1),ZW m (W 2),ZW m g3,.rowa 22 1 4 [.own 1,.own 2,.own 3,.own 4],bbx m 5 0 (W 2 col) odd] : List AO)) rfl ?_
 rw [pvs_app,zW_congr (g:=g3) (h:=brs W 2 col d 3) hk3]; rfl
theorem b_clear4_3 {m col : Nat} {W : Nat → Nat → Int} {P : List Nat} {d : Int} {odd : Bool} (hm : m ≤ 64) (hc : col < m) (hl : ZB 2000 4 m W) (hd : d ≠ 0) (hdl : li d ≤ 2000) (hx : ∀ i k,3 < i → i < 4 → k < m → d ∣ W i k * W 3 col - W i col * W 3 k) :
  Ec Tryz.prog 564 (fun i=>Nat.beq i 0 || Nat.ble 7 i) (hb4 m W 3 P d odd) [.ref 6 0,ri .i64 col] (Is (.tup []) (hb4 m (brs W 3 col d) 4 (P ++ [col]) (W 3 col) odd)):=by
 have hz : ∀ i k,i < 4 → k < m → li (W i k) ≤ 2000:=hl
 refine ec Tryz.func564 ?_
 refine ⟨by decide,?_⟩
 refine ga ?_
 refine lpn 1 ?_
 refine iff_ rfl rfl ?_
 refine ⟨⟨by omega,by omega⟩,?_⟩
 refine gz col hc (by rw [Int.toNat_natCast]) ?_
 refine ⟨(by decide : (3 + 1) * 8 ≤ 140737488355328 ∧ 3 + 1 ≤ 1000000000),?_⟩
 refine fin [0,1,2,3,4,5,6] rfl ⟨rfl,?_⟩
 refine Eq.trans (b:=([.row 3 1 4 (pvs P ++ [.raw (.int .i64 (col : Int))]),ZW m (W 0),ZW m (W 1),ZW m (W 2),ZW m (W 3),.rowa 22 1 4 [.own 1,.own 2,.own 3,.own 4],bbx m 5 0 (W 3 col) odd] : List AO)) rfl ?_
 rw [pvs_app]; rfl
end Go.Proofs.YtlhmaljjdpjkgaaGreatDoor
namespace Go.Proofs.YtlhmaljjdpjkgaaGreatDoor
open CR
section
variable {R : Type} [CR R] {n m l : Nat}
theorem dn_upd_sum (A : Nat → Nat → R) {i : Nat} (hi : i < n) (r : Nat → R) : dn n (upd A i r) = sm n (fun j=>r j * dn n (upd A i (one1 j))):=by
 have H : ∀ N,dn n (upd A i (fun k=>sm N (fun j=>r j * one1 j k))) = sm N (fun j=>r j * dn n (upd A i (one1 j))):=by
  intro N
  induction N with
  | zero=>exact dn_row0 hi (fun k _=>by rw [upd_same]; rfl)
  | succ N ih=>
   have e:=dn_lin n A i hi 1 (r N) (fun k=>sm N (fun j=>r j * one1 j k)) (one1 N)
   rw [ih,one_mul] at e
   rw [show sm (N + 1) (fun j=>r j * dn n (upd A i (one1 j))) = sm N (fun j=>r j * dn n (upd A i (one1 j))) + r N * dn n (upd A i (one1 N)) from rfl,← e]
   congr 2
   funext k
   show sm N _ + _ = _
   rw [one_mul]
 rw [← H n]
 refine dn_congr n fun a k _ hk=>?_
 unfold upd
 split
 ·have : sm n (fun j=>r j * one1 j k) = r k:=by
   rw [sm_one hk (fun j _ hj=>by unfold one1; rw [if_neg hj,mul_zero])]
   unfold one1; rw [if_pos rfl,mul_one]
  exact this.symm
 ·rfl
def adj (A : MT R n n) : MT R n n:=MT.of n n fun j k=>dn n (upd A.e k (one1 j))
theorem mul_adj (A : MT R n n) : A * adj A = (MT.one n).sc A.det:=MT.ext fun i k hi hk=>by
 rw [MT.e_mul,MT.e_sc,MT.e_one hi hk,sm_congr (g:=fun j=>A.e i j * dn n (upd A.e k (one1 j))) (fun j hj=>by unfold adj; rw [MT.of_e _ hj hk]),← dn_upd_sum A.e hk]
 by_cases e : i = k
 ·subst e; rw [upd_self,if_pos rfl,mul_one]; rfl
 ·rw [if_neg e,mul_zero]
  exact dn_rep' e hi hk (by rw [upd_same,upd_ne _ _ e])
end
section
variable {R : Type} [CR R]
def mnc (A : Nat → Nat → R) (i : Nat) : Nat → Nat → R:=fun a b=>A (if a < i then a else a + 1) (b + 1)
theorem sg_sgB (a b : Nat) (x : R) : sg (a + 1) (sg b x) = sg (b + 1) (sg a x):=by
 rw [sg_succ,sg_succ]
 congr 1
 unfold sg
 split <;> split <;> rfl
theorem sg_sm (k n : Nat) (f : Nat → R) : sg k (sm n f) = sm n fun i=>sg k (f i):=by
 unfold sg
 split
 ·rw [sm_neg]
 ·rfl
theorem sg_z (k : Nat) : sg k (0 : R) = 0:=by unfold sg; split <;> simp [neg_zero]
theorem dn_col0 : ∀ (n : Nat) (A : Nat → Nat → R),dn (n + 1) A = sm (n + 1) fun i=>sg i (A i 0 * dn n (mnc A i))
 | 0,A=>rfl
 | m + 1,A=>by
  have e0 : dn (m + 1) (mnr A 0) = dn (m + 1) (mnc A 0):=dn_congr _ fun i j _ _=>by unfold mnr mnc; rw [if_neg (by omega),if_neg (by omega)]
  show sm (m + 1 + 1) (fun k=>sg k (A 0 k * dn (m + 1) (mnr A k))) = _
  rw [sm_head,sm_head (m + 1) (fun i=>sg i (A i 0 * dn (m + 1) (mnc A i))),e0]
  congr 1
  have h1 : ∀ k,sg (k + 1) (A 0 (k + 1) * dn (m + 1) (mnr A (k + 1))) = sm (m + 1) fun i=>sg (k + 1) (sg i (A 0 (k + 1) * (A (i + 1) 0 * dn m (mnc (mnr A (k + 1)) i)))):=fun k=>by
   rw [dn_col0 m,← sg_sm]
   congr 1
   rw [← sm_mul]
   refine sm_congr fun i _=>?_
   have e1 : mnr A (k + 1) i 0 = A (i + 1) 0:=by unfold mnr; rw [if_pos (by omega)]
   rw [e1]
   exact (sg_mul i (A 0 (k + 1)) _).symm
  have h2 : ∀ i,sg (i + 1) (A (i + 1) 0 * dn (m + 1) (mnc A (i + 1))) = sm (m + 1) fun k=>sg (i + 1) (sg k (A (i + 1) 0 * (A 0 (k + 1) * dn m (mnr (mnc A (i + 1)) k)))):=fun i=>by
   show sg (i + 1) (A (i + 1) 0 * sm (m + 1) (fun k=>sg k (mnc A (i + 1) 0 k * dn m (mnr (mnc A (i + 1)) k)))) = _
   rw [← sg_sm]
   congr 1
   rw [← sm_mul]
   refine sm_congr fun k _=>?_
   have e1 : mnc A (i + 1) 0 k = A 0 (k + 1):=by unfold mnc; rw [if_pos (by omega)]
   rw [e1]
   exact (sg_mul k (A (i + 1) 0) _).symm
  rw [sm_congr fun k _=>h1 k,sm_congr fun i _=>h2 i,sm_swap]
  refine sm_congr fun i _=>sm_congr fun k _=>?_
  rw [sg_sgB,mul_left_comm]
  congr 4
  refine dn_congr m fun a b _ _=>?_
  unfold mnr mnc
  dsimp only
  by_cases ha : a < i <;> by_cases hb : b < k <;> simp [ha,hb]
theorem dn_col_zero {n : Nat} {A : Nat → Nat → R} (h : ∀ i,i < n + 1 → A i 0 = 0) : dn (n + 1) A = 0:=by
 rw [dn_col0]
 exact sm_zero' fun i hi=>by rw [h i hi,zero_mul,sg_z]
theorem dn_block : ∀ (k m : Nat) (M : Nat → Nat → R),(∀ a b,a < m → b < k → M (k + a) b = 0) → dn (k + m) M = dn k M * dn m fun a b=>M (k + a) (k + b)
 | 0,m,M,_=>by
  rw [show (dn 0 M : R) = 1 from rfl,one_mul,Nat.zero_add]
  exact dn_congr m fun a b _ _=>by rw [Nat.zero_add,Nat.zero_add]
 | k + 1,m,M,h=>by
  rw [show k + 1 + m = k + m + 1 by omega,dn_col0,show k + m + 1 = (k + 1) + m by omega,sm_split,dn_col0 k M]
  have hz : sm m (fun i=>sg (k + 1 + i) (M (k + 1 + i) 0 * dn (k + m) (mnc M (k + 1 + i)))) = 0:=sm_zero' fun i hi=>by rw [h i 0 hi (by omega),zero_mul,sg_z]
  rw [hz,add_zero,mul_comm (sm _ _),← sm_mul]
  refine sm_congr fun i hi=>?_
  rw [dn_block k m (mnc M i) fun a b ha hb=>by unfold mnc; rw [if_neg (by omega),show k + a + 1 = k + 1 + a by omega]; exact h a (b + 1) ha (by omega)]
  have e : (dn m fun a b=>mnc M i (k + a) (k + b)) = dn m fun a b=>M (k + 1 + a) (k + 1 + b):=dn_congr m fun a b _ _=>by
   unfold mnc; rw [if_neg (by omega),show k + a + 1 = k + 1 + a by omega,show k + b + 1 = k + 1 + b by omega]
  rw [e,← mul_assoc,sg_mul',mul_comm]
theorem dn_less (n : Nat) (A : Nat → Nat → R) {i : Nat} (hi : i < n) (d : R) (x : Nat → R) : ∀ k,k ≤ i → dn n (upd A i fun c=>d * A i c - sm k fun s=>x s * A s c) = d * dn n A
 | 0,_=>by
  have e : (upd A i fun c=>d * A i c - sm 0 fun s=>x s * A s c) = upd A i fun c=>d * A i c:=by
   congr 1; funext c; exact sub_zero _
  rw [e,dn_scale n A i hi,upd_self]
 | k + 1,hk=>by
  have e : (upd A i fun c=>d * A i c - sm (k + 1) fun s=>x s * A s c) = upd A i fun c=>1 * (d * A i c - sm k fun s=>x s * A s c) + -x k * A k c:=by
   congr 1; funext c
   show d * A i c - (sm k (fun s=>x s * A s c) + x k * A k c) = _
   exact by_ring [d * A i c,sm k (fun s=>x s * A s c),x k,A k c] (X0 - (X1 + X2 * X3)) (1 * (X0 - X1) + -X2 * X3) rfl
  have hr : dn n (upd A i (A k)) = 0:=dn_rep' (i:=k) (j:=i) (by omega) (by omega) hi (by rw [upd_ne _ _ (by omega),upd_same])
  rw [e,dn_lin n A i hi 1 (-x k),hr,mul_zero,add_zero,one_mul,dn_less n A hi d x k (by omega)]
end
section
variable {R : Type} [CR R]
def Dom (R : Type) [CR R] : Prop:=∀ a b : R,a * b = 0 → a = 0 ∨ b = 0
theorem Dom.cancel (h : Dom R) {d a b : R} (hd : d ≠ 0) (e : d * a = d * b) : a = b:=by
 refine sub_eq_zero ((h d (a - b) ?_).resolve_left hd)
 have e2 : d * (a - b) = d * a - d * b:=by_ring [d,a,b] (X0 * (X1 - X2)) (X0 * X1 - X0 * X2) rfl
 rw [e2,e,sub_self]
def pwr (d : R) : Nat → R
 | 0=>1
 | k + 1=>pwr d k * d
theorem Dom.pwr (h : Dom R) (h1 : (1 : R) ≠ 0) {d : R} (hd : d ≠ 0) : ∀ k,pwr d k ≠ 0
 | 0=>h1
 | k + 1=>fun e=>(h _ _ e).elim (Dom.pwr h h1 hd k) hd
theorem dn_sc (d : R) : ∀ n,dn n (fun i j : Nat=>if i = j then d else 0) = pwr d n
 | 0=>rfl
 | n + 1=>by
  show sm (n + 1) (fun k=>sg k ((if 0 = k then d else 0) * dn n (mnr (fun i j : Nat=>if i = j then d else 0) k))) = _
  rw [sm_one (k:=0) (by omega) fun i _ hi=>by rw [if_neg (fun e=>hi e.symm),zero_mul,sg_z]]
  rw [sg_zero,if_pos rfl]
  have e : dn n (mnr (fun i j : Nat=>if i = j then d else 0) 0) = pwr d n:=by
   rw [← dn_sc d n]
   exact dn_congr n fun i j _ _=>by unfold mnr; rw [if_neg (by omega)]; simp
  rw [e,mul_comm]; rfl
theorem adj_mul (h : Dom R) (h1 : (1 : R) ≠ 0) {n : Nat} {A : MT R n n} (hd : A.det ≠ 0) : adj A * A = (MT.one n).sc A.det:=by
 have e1:=mul_adj A
 have e2:=mul_adj (adj A)
 have hdB : (adj A).det ≠ 0:=fun h0=>by
  have e3:=congrArg MT.det e1
  rw [MT.det_mul,h0,mul_zero] at e3
  have e4 : ((MT.one n : MT R n n).sc A.det).det = pwr A.det n:=by
   rw [← dn_sc]
   exact dn_congr n fun i j hi hj=>by
    rw [MT.e_sc,MT.e_one hi hj]
    split
    ·rw [mul_one]
    ·rw [mul_zero]
  rw [e4] at e3
  exact Dom.pwr h h1 hd n e3.symm
 -- A (B B') = d B' = b A
 have e3 : (adj (adj A)).sc A.det = A.sc (adj A).det:=by
  have h2 : A * (adj A * adj (adj A)) = A.sc (adj A).det:=by rw [e2,MT.mul_sc,MT.mul_one]
  rw [← MT.mul_assoc,e1,MT.sc_mul,MT.one_mul] at h2
  exact h2
 have e4 : (adj A * A).sc (adj A).det = ((MT.one n).sc A.det).sc (adj A).det:=by
  rw [← MT.mul_sc,← e3,MT.mul_sc,e2,MT.sc_sc,MT.sc_sc,mul_comm]
 refine MT.ext fun i k _ _=>?_
 have h5:=congrArg (fun M : MT R n n=>M.e i k) e4
 exact Dom.cancel h hdB h5
def tB (k : Nat) (A : Nat → Nat → R) (i j : Nat) : R:=dn k A * A i j - sm k fun s=>sm k (fun t=>A i t * (adj (MT.of k k A)).e t s) * A s j
theorem det_of (k : Nat) (A : Nat → Nat → R) : (MT.of k k A).det = dn k A:=dn_congr k fun _ _ hi hj=>MT.of_e A hi hj
theorem tB_zero (h : Dom R) (h1 : (1 : R) ≠ 0) {k : Nat} {A : Nat → Nat → R} (hd : dn k A ≠ 0) (i : Nat) {j : Nat} (hj : j < k) : tB k A i j = 0:=by
 unfold tB
 have e1:=adj_mul h h1 (A:=MT.of k k A) (by rw [det_of]; exact hd)
 have e2 : sm k (fun s=>sm k (fun t=>A i t * (adj (MT.of k k A)).e t s) * A s j) = sm k fun t=>A i t * sm k fun s=>(adj (MT.of k k A)).e t s * A s j:=by
  have h3 : ∀ s,sm k (fun t=>A i t * (adj (MT.of k k A)).e t s) * A s j = sm k fun t=>A i t * ((adj (MT.of k k A)).e t s * A s j):=fun s=>by
   rw [mul_comm,← sm_mul]
   exact sm_congr fun t _=>by rw [mul_comm,mul_assoc]
  rw [sm_congr fun s _=>h3 s,sm_swap]
  exact sm_congr fun t _=>by rw [sm_mul]
 have e3 : ∀ t,t < k → sm k (fun s=>(adj (MT.of k k A)).e t s * A s j) = if t = j then dn k A else 0:=fun t ht=>by
  have h4 : (adj (MT.of k k A) * MT.of k k A).e t j = ((MT.one k).sc (MT.of k k A).det).e t j:=by rw [e1]
  rw [MT.e_mul,MT.e_sc,MT.e_one ht hj,det_of] at h4
  rw [sm_congr (g:=fun s=>(adj (MT.of k k A)).e t s * (MT.of k k A).e s j) fun s hs=>by rw [MT.of_e A hs hj],h4]
  split
  ·rw [mul_one]
  ·rw [mul_zero]
 rw [e2,sm_one hj fun t ht hne=>by rw [e3 t ht,if_neg hne,mul_zero],e3 j hj,if_pos rfl,mul_comm,sub_self]
def redB (k : Nat) (A : Nat → Nat → R) : Nat → Nat → Nat → R
 | 0=>A
 | r + 1=>upd (redB k A r) (k + r) (tB k A (k + r))
theorem redB_lo (k : Nat) (A : Nat → Nat → R) {a : Nat} : ∀ r,a < k ∨ k + r ≤ a → redB k A r a = A a
 | 0,_=>rfl
 | r + 1,h=>by unfold redB; rw [upd_ne _ _ (by omega)]; exact redB_lo k A r (by omega)
theorem redB_hi (k : Nat) (A : Nat → Nat → R) {a : Nat} : ∀ r,k ≤ a → a < k + r → redB k A r a = tB k A a
 | 0,h1,h2=>by omega
 | r + 1,h1,h2=>by
  unfold redB
  by_cases e : a = k + r
  ·rw [e,upd_same]
  ·rw [upd_ne _ _ e]; exact redB_hi k A r h1 (by omega)
theorem redB_dn (k : Nat) (A : Nat → Nat → R) (n : Nat) : ∀ r,k + r ≤ n → dn n (redB k A r) = pwr (dn k A) r * dn n A
 | 0,_=>(one_mul _).symm
 | r + 1,h=>by
  have e : redB k A (r + 1) = upd (redB k A r) (k + r) fun c=>dn k A * redB k A r (k + r) c - sm k fun s=>sm k (fun t=>A (k + r) t * (adj (MT.of k k A)).e t s) * redB k A r s c:=by
   show upd (redB k A r) (k + r) (tB k A (k + r)) = _
   congr 1
   funext c
   rw [redB_lo k A r (.inr (Nat.le_refl _))]
   unfold tB
   congr 1
   exact sm_congr fun s hs=>by rw [redB_lo k A r (.inl hs)]
  rw [e,dn_less n _ (by omega) _ _ k (by omega),redB_dn k A n r (by omega)]
  show dn k A * (pwr (dn k A) r * dn n A) = pwr (dn k A) r * dn k A * dn n A
  exact by_ring [dn k A,pwr (dn k A) r,dn n A] (X0 * (X1 * X2)) (X1 * X0 * X2) rfl
theorem dn_tB (h : Dom R) (h1 : (1 : R) ≠ 0) {k : Nat} {A : Nat → Nat → R} (hd : dn k A ≠ 0) (m : Nat) : pwr (dn k A) m * dn (k + m) A = dn k A * dn m fun a b=>tB k A (k + a) (k + b):=by
 rw [← redB_dn k A (k + m) m (Nat.le_refl _),dn_block k m _ fun a b ha hb=>by rw [redB_hi k A m (by omega) (by omega)]; exact tB_zero h h1 hd _ hb]
 rw [dn_congr k fun i j hi _=>by rw [redB_lo k A m (.inl hi)],dn_congr m fun a b ha _=>by rw [redB_hi k A m (by omega) (by omega)]]
def bix (k i a : Nat) : Nat:=if a < k then a else i
def bm (k : Nat) (A : Nat → Nat → R) (i j : Nat) : R:=dn (k + 1) fun a b=>A (bix k i a) (bix k j b)
theorem tB_congr {k : Nat} {A B : Nat → Nat → R} {i j i' j' : Nat} (h0 : ∀ a b,a < k → b < k → A a b = B a b) (hi : ∀ t,t < k → A i t = B i' t) (hj : ∀ s,s < k → A s j = B s j') (hij : A i j = B i' j') : tB k A i j = tB k B i' j':=by
 unfold tB
 rw [dn_congr k h0,hij,MT.of_congr h0]
 congr 1
 refine sm_congr fun s hs=>?_
 rw [hj s hs,sm_congr fun t ht=>by rw [hi t ht]]
theorem bm_tB (h : Dom R) (h1 : (1 : R) ≠ 0) {k : Nat} {A : Nat → Nat → R} (hd : dn k A ≠ 0) (i j : Nat) : bm k A i j = tB k A i j:=by
 have e0 : dn k (fun a b=>A (bix k i a) (bix k j b)) = dn k A:=dn_congr k fun a b ha hb=>by unfold bix; rw [if_pos ha,if_pos hb]
 have e:=dn_tB h h1 (k:=k) (A:=fun a b=>A (bix k i a) (bix k j b)) (by rw [e0]; exact hd) 1
 rw [e0] at e
 have e2 : tB k (fun a b=>A (bix k i a) (bix k j b)) k k = tB k A i j:=tB_congr (fun a b ha hb=>by unfold bix; rw [if_pos ha,if_pos hb]) (fun t ht=>by unfold bix; rw [if_neg (by omega),if_pos ht]) (fun s hs=>by unfold bix; rw [if_pos hs,if_neg (by omega)]) (by unfold bix; rw [if_neg (by omega),if_neg (by omega)])
 have e3 : (dn 1 fun a b=>tB k (fun a b=>A (bix k i a) (bix k j b)) (k + a) (k + b)) = tB k A i j:=by
  show sm 1 _ = _
  show 0 + sg 0 (tB k _ (k + 0) (k + 0) * dn 0 _) = _
  rw [zero_add,sg_zero,Nat.add_zero,e2]; exact mul_one _
 rw [e3] at e
 have e4 : pwr (dn k A) 1 = dn k A:=one_mul _
 rw [e4] at e
 exact Dom.cancel h hd e
theorem sylvester (h : Dom R) (h1 : (1 : R) ≠ 0) {k : Nat} {A : Nat → Nat → R} (hd : dn k A ≠ 0) (i j : Nat) : dn k A * bm (k + 1) A i j = bm k A i j * bm k A k k - bm k A i k * bm k A k j:=by
 have hx : ∀ a : Nat,a < k → ∀ q,bix (k + 1) q a = a:=fun a ha q=>if_pos (by omega)
 have hk : ∀ q,bix (k + 1) q k = k:=fun q=>if_pos (by omega)
 have hk1 : ∀ q,bix (k + 1) q (k + 1) = q:=fun q=>if_neg (by omega)
 have e0 : dn k (fun a b=>A (bix (k + 1) i a) (bix (k + 1) j b)) = dn k A:=dn_congr k fun a b ha hb=>by rw [hx a ha,hx b hb]
 have e:=dn_tB h h1 (k:=k) (A:=fun a b=>A (bix (k + 1) i a) (bix (k + 1) j b)) (by rw [e0]; exact hd) 2
 rw [e0] at e
 have t : ∀ x y x' y',bix (k + 1) i x = x' → bix (k + 1) j y = y' → tB k (fun a b=>A (bix (k + 1) i a) (bix (k + 1) j b)) x y = bm k A x' y':=fun x y x' y' hx' hy'=>by
  rw [bm_tB h h1 hd]
  exact tB_congr (fun a b ha hb=>by rw [hx a ha,hx b hb]) (fun q hq=>by rw [hx q hq,hx']) (fun q hq=>by rw [hx q hq,hy']) (by rw [hx',hy'])
 have e3 : (dn 2 fun a b=>tB k (fun a b=>A (bix (k + 1) i a) (bix (k + 1) j b)) (k + a) (k + b)) = bm k A i j * bm k A k k - bm k A i k * bm k A k j:=by
  have q00:=t k k k k (hk i) (hk j)
  have q01:=t k (k + 1) k j (hk i) (hk1 j)
  have q10:=t (k + 1) k i k (hk1 i) (hk j)
  have q11:=t (k + 1) (k + 1) i j (hk1 i) (hk1 j)
  have u : ∀ M : Nat → Nat → R,dn 2 M = M 1 1 * M 0 0 - M 1 0 * M 0 1:=fun M=>by
   show 0 + sg 0 (M 0 0 * (0 + sg 0 (mnr M 0 0 0 * 1))) + sg 1 (M 0 1 * (0 + sg 0 (mnr M 1 0 0 * 1))) = _
   have a1 : mnr M 0 0 0 = M 1 1:=rfl
   have a2 : mnr M 1 0 0 = M 1 0:=rfl
   rw [a1,a2,sg_zero,sg_zero,sg_zero,sg_succ,sg_zero]
   exact by_ring [M 0 0,M 1 1,M 0 1,M 1 0] (0 + X0 * (0 + X1 * 1) + -(X2 * (0 + X3 * 1))) (X1 * X0 - X3 * X2) rfl
  rw [u]
  show tB k _ (k + 1) (k + 1) * tB k _ k k - tB k _ (k + 1) k * tB k _ k (k + 1) = _
  rw [q00,q01,q10,q11]
 rw [e3] at e
 have e4 : pwr (dn k A) 2 = dn k A * dn k A:=by show 1 * dn k A * dn k A = _; rw [one_mul]
 rw [e4,mul_assoc] at e
 exact Dom.cancel h hd e
theorem dn_nopivot (h : Dom R) (h1 : (1 : R) ≠ 0) {k m : Nat} {A : Nat → Nat → R} (hd : dn k A ≠ 0) (hz : ∀ i,k ≤ i → i < k + (m + 1) → bm k A i k = 0) : dn (k + (m + 1)) A = 0:=by
 have e:=dn_tB h h1 hd (m + 1)
 rw [dn_col_zero (n:=m) fun a ha=>by rw [Nat.add_zero,← bm_tB h h1 hd]; exact hz _ (by omega) (by omega),mul_zero] at e
 exact (h _ _ e).resolve_left (Dom.pwr h h1 hd _)
theorem bm_next (k : Nat) (A : Nat → Nat → R) : bm k A k k = dn (k + 1) A:=dn_congr _ fun a b ha hb=>by
 unfold bix
 have e : ∀ a,a < k + 1 → (if a < k then a else k) = a:=fun a ha=>by split <;> omega
 rw [e a ha,e b hb]
theorem bm_zero (A : Nat → Nat → R) (i j : Nat) : bm 0 A i j = A i j:=by
 show 0 + sg 0 (A (bix 0 i 0) (bix 0 j 0) * 1) = _
 rw [zero_add,sg_zero,mul_one]; rfl
theorem bm_swap (k : Nat) (A B : Nat → Nat → R) (σ : Nat → Nat) (h0 : ∀ a,a < k → B a = A a) (hs : ∀ a,k ≤ a → B a = A (σ a)) {i j : Nat} (hi : k ≤ i) : bm k B i j = bm k A (σ i) j:=by
 unfold bm
 refine dn_congr _ fun a b _ _=>?_
 unfold bix
 by_cases ha : a < k
 ·rw [if_pos ha,if_pos ha,h0 a ha]
 ·rw [if_neg ha,if_neg ha,hs i hi]
def swB (A : Nat → Nat → R) (i j : Nat) : Nat → Nat → R:=fun a=>if a = i then A j else if a = j then A i else A a
theorem dn_swap {n : Nat} (A : Nat → Nat → R) {i j : Nat} (h : i ≠ j) (hi : i < n) (hj : j < n) : dn n (swB A i j) = -dn n A:=by
 have e : swB A i j = upd (upd A i fun c=>0 * A i c + 1 * A j c) j fun c=>1 * A i c + 0 * A j c:=by
  funext a
  unfold swB upd
  by_cases h1 : a = j
  ·rw [if_pos h1,if_neg (by omega),if_pos h1]
   funext c; rw [one_mul,zero_mul,add_zero]
  ·rw [if_neg h1,if_neg h1]
   by_cases h2 : a = i
   ·rw [if_pos h2,if_pos h2]
    funext c; rw [one_mul,zero_mul,zero_add]
   ·rw [if_neg h2,if_neg h2]
 rw [e,dn_mix n A h hi hj]
 exact by_ring [dn n A] ((0 * 0 - 1 * 1) * X0) (-X0) rfl
theorem dn_tr : ∀ (n : Nat) (A : Nat → Nat → R),dn n (fun i j=>A j i) = dn n A
 | 0,_=>rfl
 | n + 1,A=>by
  rw [dn_col0 n A]
  show sm (n + 1) (fun k=>sg k (A k 0 * dn n (mnr (fun i j=>A j i) k))) = _
  exact sm_congr fun k _=>by rw [← dn_tr n (mnc A k)]; rfl
end
end Go.Proofs.YtlhmaljjdpjkgaaGreatDoor
