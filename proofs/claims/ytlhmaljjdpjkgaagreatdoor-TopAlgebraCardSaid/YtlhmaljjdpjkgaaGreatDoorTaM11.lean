/- Pivots: a row is looked for; a column is reduced. -/
import Derived.Test.YtlhmaljjdpjkgaaGreatDoorTaM10
set_option maxHeartbeats 4000000
namespace Go.Proofs.YtlhmaljjdpjkgaaGreatDoor
open Go Go.RowKit
theorem ga {ds : List AV} {k : List AV → Option AV} {K : AV → Prop} (h : orF (k ds) K) : Gn True ds k K:=⟨trivial,fun l e=>e ▸ h⟩
theorem sgn_ne (q : Rat) : sgnI q.num ≠ 0 ↔ q ≠ 0:=by
 rw [Ne,Ne,← Rat.num_eq_zero]
 rcases sgnI_cases q.num with ⟨h,e⟩ | ⟨h,e⟩ | ⟨h,e⟩ <;> rw [e] <;> omega
noncomputable def bC (col : Nat) : AO:=.box 3 [ri .i64 col]
theorem q_col1 {m col : Nat} {g : Nat → Rat} (hm : m ≤ 64) (hc : col < m) (hl : lr (g col) ≤ 100000) :
  Ec Tryz.prog 532 (own 2) [bC col,RW m g] [.own 1,.ref 0 0] (fun x H'=>∃ b : Bool,x = rb b ∧ H' = [bC col,RW m g] ∧ (b = true ↔ g col ≠ 0)):=by
 refine ec Tryz.func532 ?_
 refine ⟨⟨by omega,by omega⟩,?_⟩
 refine gq col hc (by rw [Int.toNat_natCast]) ?_
 refine ce (r_Sign hl) rfl ?_
 refine fin0 ⟨_,rfl,rfl,?_⟩
 rw [← sgn_ne]
 simp [bne]
theorem q_idx1_0 {m col : Nat} {W : Nat → Nat → Rat} (hm : m ≤ 64) (hc : col < m) (hl : ∀ i,i < 1 → lr (W i col) ≤ 100000) :
  Ec Tryz.prog 531 (fun i=>(Nat.ble 1 i && Nat.ble i 1) || Nat.ble 3 i) [bC col,RW m (W 0),.rowa 38 1 1 [.own 1]] [.sub 2 0 1 1,.fn 532 [] [.ref 0 0]]
   (fun x H'=>H' = [bC col,RW m (W 0),.rowa 38 1 1 [.own 1]] ∧ ((x = ri .i64 (-1) ∧ ∀ i,0 ≤ i → i < 1 → W i col = 0) ∨ ∃ i,i < 1 ∧ x = ri .i64 (i : Nat) ∧ W (0 + i) col ≠ 0)):=by
 refine ec Tryz.func531 ?_
 refine lpn 2 ?_
 refine ift rfl rfl ?_
 refine ⟨by decide,?_⟩
 refine ga ?_
 refine cxg [0,1,2] 2 [] (q_col1 (g:=W 0) hm hc (hl 0 (by decide))) rfl rfl rfl rfl ?_
 rintro _ _ ⟨b0,rfl,rfl,e0⟩
 refine ⟨.inl rfl,?_⟩
 refine ifs rfl (fun h=>?_) (fun h0=>?_)
 ·exact fin [0,1,2] rfl ⟨rfl,.inr ⟨0,by decide,rfl,e0.1 h⟩⟩
 refine iff_ rfl rfl ?_
 refine fin [0,1,2] rfl ⟨rfl,.inl ⟨rfl,fun i g1 g2=>?_⟩⟩
 match i,g1,g2 with
 | 0,_,_=>exact Classical.byContradiction fun h=>by rw [e0.2 h] at h0; cases h0
theorem q_idx2_0 {m col : Nat} {W : Nat → Nat → Rat} (hm : m ≤ 64) (hc : col < m) (hl : ∀ i,i < 2 → lr (W i col) ≤ 100000) :
  Ec Tryz.prog 531 (fun i=>(Nat.ble 1 i && Nat.ble i 2) || Nat.ble 4 i) [bC col,RW m (W 0),RW m (W 1),.rowa 38 1 2 [.own 1,.own 2]] [.sub 3 0 1 2,.fn 532 [] [.ref 0 0]]
   (fun x H'=>H' = [bC col,RW m (W 0),RW m (W 1),.rowa 38 1 2 [.own 1,.own 2]] ∧ ((x = ri .i64 (-1) ∧ ∀ i,0 ≤ i → i < 2 → W i col = 0) ∨ ∃ i,i < 2 ∧ x = ri .i64 (i : Nat) ∧ W (0 + i) col ≠ 0)):=by
 refine ec Tryz.func531 ?_
 refine lpn 3 ?_
 refine ift rfl rfl ?_
 refine ⟨by decide,?_⟩
 refine ga ?_
 refine cxg [0,1,2,3] 2 [] (q_col1 (g:=W 0) hm hc (hl 0 (by decide))) rfl rfl rfl rfl ?_
 rintro _ _ ⟨b0,rfl,rfl,e0⟩
 refine ⟨.inl rfl,?_⟩
 refine ifs rfl (fun h=>?_) (fun h0=>?_)
 ·exact fin [0,1,2,3] rfl ⟨rfl,.inr ⟨0,by decide,rfl,e0.1 h⟩⟩
 refine ift rfl rfl ?_
 refine ⟨by decide,?_⟩
 refine ga ?_
 refine cxg [0,2,1,3] 2 [] (q_col1 (g:=W 1) hm hc (hl 1 (by decide))) rfl rfl rfl rfl ?_
 rintro _ _ ⟨b1,rfl,rfl,e1⟩
 refine ⟨.inl rfl,?_⟩
 refine ifs rfl (fun h=>?_) (fun h1=>?_)
 ·exact fin [0,2,1,3] rfl ⟨rfl,.inr ⟨1,by decide,rfl,e1.1 h⟩⟩
 refine iff_ rfl rfl ?_
 refine fin [0,2,1,3] rfl ⟨rfl,.inl ⟨rfl,fun i g1 g2=>?_⟩⟩
 match i,g1,g2 with
 | 0,_,_=>exact Classical.byContradiction fun h=>by rw [e0.2 h] at h0; cases h0
 | 1,_,_=>exact Classical.byContradiction fun h=>by rw [e1.2 h] at h1; cases h1
theorem q_idx2_1 {m col : Nat} {W : Nat → Nat → Rat} (hm : m ≤ 64) (hc : col < m) (hl : ∀ i,i < 2 → lr (W i col) ≤ 100000) :
  Ec Tryz.prog 531 (fun i=>(Nat.ble 1 i && Nat.ble i 2) || Nat.ble 4 i) [bC col,RW m (W 0),RW m (W 1),.rowa 38 1 2 [.own 1,.own 2]] [.sub 3 1 1 1,.fn 532 [] [.ref 0 0]]
   (fun x H'=>H' = [bC col,RW m (W 0),RW m (W 1),.rowa 38 1 2 [.own 1,.own 2]] ∧ ((x = ri .i64 (-1) ∧ ∀ i,1 ≤ i → i < 2 → W i col = 0) ∨ ∃ i,i < 1 ∧ x = ri .i64 (i : Nat) ∧ W (1 + i) col ≠ 0)):=by
 refine ec Tryz.func531 ?_
 refine lpn 2 ?_
 refine ift rfl rfl ?_
 refine ⟨by decide,?_⟩
 refine ga ?_
 refine cxg [0,2,1,3] 2 [] (q_col1 (g:=W 1) hm hc (hl 1 (by decide))) rfl rfl rfl rfl ?_
 rintro _ _ ⟨b0,rfl,rfl,e0⟩
 refine ⟨.inl rfl,?_⟩
 refine ifs rfl (fun h=>?_) (fun h0=>?_)
 ·exact fin [0,2,1,3] rfl ⟨rfl,.inr ⟨0,by decide,rfl,e0.1 h⟩⟩
 refine iff_ rfl rfl ?_
 refine fin [0,2,1,3] rfl ⟨rfl,.inl ⟨rfl,fun i g1 g2=>?_⟩⟩
 match i,g1,g2 with
 | 1,_,_=>exact Classical.byContradiction fun h=>by rw [e0.2 h] at h0; cases h0
theorem q_idx3_0 {m col : Nat} {W : Nat → Nat → Rat} (hm : m ≤ 64) (hc : col < m) (hl : ∀ i,i < 3 → lr (W i col) ≤ 100000) :
  Ec Tryz.prog 531 (fun i=>(Nat.ble 1 i && Nat.ble i 3) || Nat.ble 5 i) [bC col,RW m (W 0),RW m (W 1),RW m (W 2),.rowa 38 1 3 [.own 1,.own 2,.own 3]] [.sub 4 0 1 3,.fn 532 [] [.ref 0 0]]
   (fun x H'=>H' = [bC col,RW m (W 0),RW m (W 1),RW m (W 2),.rowa 38 1 3 [.own 1,.own 2,.own 3]] ∧ ((x = ri .i64 (-1) ∧ ∀ i,0 ≤ i → i < 3 → W i col = 0) ∨ ∃ i,i < 3 ∧ x = ri .i64 (i : Nat) ∧ W (0 + i) col ≠ 0)):=by
 refine ec Tryz.func531 ?_
 refine lpn 4 ?_
 refine ift rfl rfl ?_
 refine ⟨by decide,?_⟩
 refine ga ?_
 refine cxg [0,1,2,3,4] 2 [] (q_col1 (g:=W 0) hm hc (hl 0 (by decide))) rfl rfl rfl rfl ?_
 rintro _ _ ⟨b0,rfl,rfl,e0⟩
 refine ⟨.inl rfl,?_⟩
 refine ifs rfl (fun h=>?_) (fun h0=>?_)
 ·exact fin [0,1,2,3,4] rfl ⟨rfl,.inr ⟨0,by decide,rfl,e0.1 h⟩⟩
 refine ift rfl rfl ?_
 refine ⟨by decide,?_⟩
 refine ga ?_
 refine cxg [0,2,1,3,4] 2 [] (q_col1 (g:=W 1) hm hc (hl 1 (by decide))) rfl rfl rfl rfl ?_
 rintro _ _ ⟨b1,rfl,rfl,e1⟩
 refine ⟨.inl rfl,?_⟩
 refine ifs rfl (fun h=>?_) (fun h1=>?_)
 ·exact fin [0,2,1,3,4] rfl ⟨rfl,.inr ⟨1,by decide,rfl,e1.1 h⟩⟩
 refine ift rfl rfl ?_
 refine ⟨by decide,?_⟩
 refine ga ?_
 refine cxg [0,3,2,1,4] 2 [] (q_col1 (g:=W 2) hm hc (hl 2 (by decide))) rfl rfl rfl rfl ?_
 rintro _ _ ⟨b2,rfl,rfl,e2⟩
 refine ⟨.inl rfl,?_⟩
 refine ifs rfl (fun h=>?_) (fun h2=>?_)
 ·exact fin [0,2,3,1,4] rfl ⟨rfl,.inr ⟨2,by decide,rfl,e2.1 h⟩⟩
 refine iff_ rfl rfl ?_
 refine fin [0,2,3,1,4] rfl ⟨rfl,.inl ⟨rfl,fun i g1 g2=>?_⟩⟩
 match i,g1,g2 with
 | 0,_,_=>exact Classical.byContradiction fun h=>by rw [e0.2 h] at h0; cases h0
 | 1,_,_=>exact Classical.byContradiction fun h=>by rw [e1.2 h] at h1; cases h1
 | 2,_,_=>exact Classical.byContradiction fun h=>by rw [e2.2 h] at h2; cases h2
theorem q_idx3_1 {m col : Nat} {W : Nat → Nat → Rat} (hm : m ≤ 64) (hc : col < m) (hl : ∀ i,i < 3 → lr (W i col) ≤ 100000) :
  Ec Tryz.prog 531 (fun i=>(Nat.ble 1 i && Nat.ble i 3) || Nat.ble 5 i) [bC col,RW m (W 0),RW m (W 1),RW m (W 2),.rowa 38 1 3 [.own 1,.own 2,.own 3]] [.sub 4 1 1 2,.fn 532 [] [.ref 0 0]]
   (fun x H'=>H' = [bC col,RW m (W 0),RW m (W 1),RW m (W 2),.rowa 38 1 3 [.own 1,.own 2,.own 3]] ∧ ((x = ri .i64 (-1) ∧ ∀ i,1 ≤ i → i < 3 → W i col = 0) ∨ ∃ i,i < 2 ∧ x = ri .i64 (i : Nat) ∧ W (1 + i) col ≠ 0)):=by
 refine ec Tryz.func531 ?_
 refine lpn 3 ?_
 refine ift rfl rfl ?_
 refine ⟨by decide,?_⟩
 refine ga ?_
 refine cxg [0,2,1,3,4] 2 [] (q_col1 (g:=W 1) hm hc (hl 1 (by decide))) rfl rfl rfl rfl ?_
 rintro _ _ ⟨b0,rfl,rfl,e0⟩
 refine ⟨.inl rfl,?_⟩
 refine ifs rfl (fun h=>?_) (fun h0=>?_)
 ·exact fin [0,2,1,3,4] rfl ⟨rfl,.inr ⟨0,by decide,rfl,e0.1 h⟩⟩
 refine ift rfl rfl ?_
 refine ⟨by decide,?_⟩
 refine ga ?_
 refine cxg [0,3,2,1,4] 2 [] (q_col1 (g:=W 2) hm hc (hl 2 (by decide))) rfl rfl rfl rfl ?_
 rintro _ _ ⟨b1,rfl,rfl,e1⟩
 refine ⟨.inl rfl,?_⟩
 refine ifs rfl (fun h=>?_) (fun h1=>?_)
 ·exact fin [0,2,3,1,4] rfl ⟨rfl,.inr ⟨1,by decide,rfl,e1.1 h⟩⟩
 refine iff_ rfl rfl ?_
 refine fin [0,2,3,1,4] rfl ⟨rfl,.inl ⟨rfl,fun i g1 g2=>?_⟩⟩
 match i,g1,g2 with
 | 1,_,_=>exact Classical.byContradiction fun h=>by rw [e0.2 h] at h0; cases h0
 | 2,_,_=>exact Classical.byContradiction fun h=>by rw [e1.2 h] at h1; cases h1
theorem q_idx3_2 {m col : Nat} {W : Nat → Nat → Rat} (hm : m ≤ 64) (hc : col < m) (hl : ∀ i,i < 3 → lr (W i col) ≤ 100000) :
  Ec Tryz.prog 531 (fun i=>(Nat.ble 1 i && Nat.ble i 3) || Nat.ble 5 i) [bC col,RW m (W 0),RW m (W 1),RW m (W 2),.rowa 38 1 3 [.own 1,.own 2,.own 3]] [.sub 4 2 1 1,.fn 532 [] [.ref 0 0]]
   (fun x H'=>H' = [bC col,RW m (W 0),RW m (W 1),RW m (W 2),.rowa 38 1 3 [.own 1,.own 2,.own 3]] ∧ ((x = ri .i64 (-1) ∧ ∀ i,2 ≤ i → i < 3 → W i col = 0) ∨ ∃ i,i < 1 ∧ x = ri .i64 (i : Nat) ∧ W (2 + i) col ≠ 0)):=by
 refine ec Tryz.func531 ?_
 refine lpn 2 ?_
 refine ift rfl rfl ?_
 refine ⟨by decide,?_⟩
 refine ga ?_
 refine cxg [0,3,1,2,4] 2 [] (q_col1 (g:=W 2) hm hc (hl 2 (by decide))) rfl rfl rfl rfl ?_
 rintro _ _ ⟨b0,rfl,rfl,e0⟩
 refine ⟨.inl rfl,?_⟩
 refine ifs rfl (fun h=>?_) (fun h0=>?_)
 ·exact fin [0,2,3,1,4] rfl ⟨rfl,.inr ⟨0,by decide,rfl,e0.1 h⟩⟩
 refine iff_ rfl rfl ?_
 refine fin [0,2,3,1,4] rfl ⟨rfl,.inl ⟨rfl,fun i g1 g2=>?_⟩⟩
 match i,g1,g2 with
 | 2,_,_=>exact Classical.byContradiction fun h=>by rw [e0.2 h] at h0; cases h0
theorem q_idx4_0 {m col : Nat} {W : Nat → Nat → Rat} (hm : m ≤ 64) (hc : col < m) (hl : ∀ i,i < 4 → lr (W i col) ≤ 100000) :
  Ec Tryz.prog 531 (fun i=>(Nat.ble 1 i && Nat.ble i 4) || Nat.ble 6 i) [bC col,RW m (W 0),RW m (W 1),RW m (W 2),RW m (W 3),.rowa 38 1 4 [.own 1,.own 2,.own 3,.own 4]] [.sub 5 0 1 4,.fn 532 [] [.ref 0 0]]
   (fun x H'=>H' = [bC col,RW m (W 0),RW m (W 1),RW m (W 2),RW m (W 3),.rowa 38 1 4 [.own 1,.own 2,.own 3,.own 4]] ∧ ((x = ri .i64 (-1) ∧ ∀ i,0 ≤ i → i < 4 → W i col = 0) ∨ ∃ i,i < 4 ∧ x = ri .i64 (i : Nat) ∧ W (0 + i) col ≠ 0)):=by
 refine ec Tryz.func531 ?_
 refine lpn 5 ?_
 refine ift rfl rfl ?_
 refine ⟨by decide,?_⟩
 refine ga ?_
 refine cxg [0,1,2,3,4,5] 2 [] (q_col1 (g:=W 0) hm hc (hl 0 (by decide))) rfl rfl rfl rfl ?_
 rintro _ _ ⟨b0,rfl,rfl,e0⟩
 refine ⟨.inl rfl,?_⟩
 refine ifs rfl (fun h=>?_) (fun h0=>?_)
 ·exact fin [0,1,2,3,4,5] rfl ⟨rfl,.inr ⟨0,by decide,rfl,e0.1 h⟩⟩
 refine ift rfl rfl ?_
 refine ⟨by decide,?_⟩
 refine ga ?_
 refine cxg [0,2,1,3,4,5] 2 [] (q_col1 (g:=W 1) hm hc (hl 1 (by decide))) rfl rfl rfl rfl ?_
 rintro _ _ ⟨b1,rfl,rfl,e1⟩
 refine ⟨.inl rfl,?_⟩
 refine ifs rfl (fun h=>?_) (fun h1=>?_)
 ·exact fin [0,2,1,3,4,5] rfl ⟨rfl,.inr ⟨1,by decide,rfl,e1.1 h⟩⟩
 refine ift rfl rfl ?_
 refine ⟨by decide,?_⟩
 refine ga ?_
 refine cxg [0,3,2,1,4,5] 2 [] (q_col1 (g:=W 2) hm hc (hl 2 (by decide))) rfl rfl rfl rfl ?_
 rintro _ _ ⟨b2,rfl,rfl,e2⟩
 refine ⟨.inl rfl,?_⟩
 refine ifs rfl (fun h=>?_) (fun h2=>?_)
 ·exact fin [0,2,3,1,4,5] rfl ⟨rfl,.inr ⟨2,by decide,rfl,e2.1 h⟩⟩
 refine ift rfl rfl ?_
 refine ⟨by decide,?_⟩
 refine ga ?_
 refine cxg [0,4,2,3,1,5] 2 [] (q_col1 (g:=W 3) hm hc (hl 3 (by decide))) rfl rfl rfl rfl ?_
 rintro _ _ ⟨b3,rfl,rfl,e3⟩
 refine ⟨.inl rfl,?_⟩
 refine ifs rfl (fun h=>?_) (fun h3=>?_)
 ·exact fin [0,2,3,4,1,5] rfl ⟨rfl,.inr ⟨3,by decide,rfl,e3.1 h⟩⟩
 refine iff_ rfl rfl ?_
 refine fin [0,2,3,4,1,5] rfl ⟨rfl,.inl ⟨rfl,fun i g1 g2=>?_⟩⟩
 match i,g1,g2 with
 | 0,_,_=>exact Classical.byContradiction fun h=>by rw [e0.2 h] at h0; cases h0
 | 1,_,_=>exact Classical.byContradiction fun h=>by rw [e1.2 h] at h1; cases h1
 | 2,_,_=>exact Classical.byContradiction fun h=>by rw [e2.2 h] at h2; cases h2
 | 3,_,_=>exact Classical.byContradiction fun h=>by rw [e3.2 h] at h3; cases h3
theorem q_idx4_1 {m col : Nat} {W : Nat → Nat → Rat} (hm : m ≤ 64) (hc : col < m) (hl : ∀ i,i < 4 → lr (W i col) ≤ 100000) :
  Ec Tryz.prog 531 (fun i=>(Nat.ble 1 i && Nat.ble i 4) || Nat.ble 6 i) [bC col,RW m (W 0),RW m (W 1),RW m (W 2),RW m (W 3),.rowa 38 1 4 [.own 1,.own 2,.own 3,.own 4]] [.sub 5 1 1 3,.fn 532 [] [.ref 0 0]]
   (fun x H'=>H' = [bC col,RW m (W 0),RW m (W 1),RW m (W 2),RW m (W 3),.rowa 38 1 4 [.own 1,.own 2,.own 3,.own 4]] ∧ ((x = ri .i64 (-1) ∧ ∀ i,1 ≤ i → i < 4 → W i col = 0) ∨ ∃ i,i < 3 ∧ x = ri .i64 (i : Nat) ∧ W (1 + i) col ≠ 0)):=by
 refine ec Tryz.func531 ?_
 refine lpn 4 ?_
 refine ift rfl rfl ?_
 refine ⟨by decide,?_⟩
 refine ga ?_
 refine cxg [0,2,1,3,4,5] 2 [] (q_col1 (g:=W 1) hm hc (hl 1 (by decide))) rfl rfl rfl rfl ?_
 rintro _ _ ⟨b0,rfl,rfl,e0⟩
 refine ⟨.inl rfl,?_⟩
 refine ifs rfl (fun h=>?_) (fun h0=>?_)
 ·exact fin [0,2,1,3,4,5] rfl ⟨rfl,.inr ⟨0,by decide,rfl,e0.1 h⟩⟩
 refine ift rfl rfl ?_
 refine ⟨by decide,?_⟩
 refine ga ?_
 refine cxg [0,3,2,1,4,5] 2 [] (q_col1 (g:=W 2) hm hc (hl 2 (by decide))) rfl rfl rfl rfl ?_
 rintro _ _ ⟨b1,rfl,rfl,e1⟩
 refine ⟨.inl rfl,?_⟩
 refine ifs rfl (fun h=>?_) (fun h1=>?_)
 ·exact fin [0,2,3,1,4,5] rfl ⟨rfl,.inr ⟨1,by decide,rfl,e1.1 h⟩⟩
 refine ift rfl rfl ?_
 refine ⟨by decide,?_⟩
 refine ga ?_
 refine cxg [0,4,2,3,1,5] 2 [] (q_col1 (g:=W 3) hm hc (hl 3 (by decide))) rfl rfl rfl rfl ?_
 rintro _ _ ⟨b2,rfl,rfl,e2⟩
 refine ⟨.inl rfl,?_⟩
 refine ifs rfl (fun h=>?_) (fun h2=>?_)
 ·exact fin [0,2,3,4,1,5] rfl ⟨rfl,.inr ⟨2,by decide,rfl,e2.1 h⟩⟩
 refine iff_ rfl rfl ?_
 refine fin [0,2,3,4,1,5] rfl ⟨rfl,.inl ⟨rfl,fun i g1 g2=>?_⟩⟩
 match i,g1,g2 with
 | 1,_,_=>exact Classical.byContradiction fun h=>by rw [e0.2 h] at h0; cases h0
 | 2,_,_=>exact Classical.byContradiction fun h=>by rw [e1.2 h] at h1; cases h1
 | 3,_,_=>exact Classical.byContradiction fun h=>by rw [e2.2 h] at h2; cases h2
theorem q_idx4_2 {m col : Nat} {W : Nat → Nat → Rat} (hm : m ≤ 64) (hc : col < m) (hl : ∀ i,i < 4 → lr (W i col) ≤ 100000) :
  Ec Tryz.prog 531 (fun i=>(Nat.ble 1 i && Nat.ble i 4) || Nat.ble 6 i) [bC col,RW m (W 0),RW m (W 1),RW m (W 2),RW m (W 3),.rowa 38 1 4 [.own 1,.own 2,.own 3,.own 4]] [.sub 5 2 1 2,.fn 532 [] [.ref 0 0]]
   (fun x H'=>H' = [bC col,RW m (W 0),RW m (W 1),RW m (W 2),RW m (W 3),.rowa 38 1 4 [.own 1,.own 2,.own 3,.own 4]] ∧ ((x = ri .i64 (-1) ∧ ∀ i,2 ≤ i → i < 4 → W i col = 0) ∨ ∃ i,i < 2 ∧ x = ri .i64 (i : Nat) ∧ W (2 + i) col ≠ 0)):=by
 refine ec Tryz.func531 ?_
 refine lpn 3 ?_
 refine ift rfl rfl ?_
 refine ⟨by decide,?_⟩
 refine ga ?_
 refine cxg [0,3,1,2,4,5] 2 [] (q_col1 (g:=W 2) hm hc (hl 2 (by decide))) rfl rfl rfl rfl ?_
 rintro _ _ ⟨b0,rfl,rfl,e0⟩
 refine ⟨.inl rfl,?_⟩
 refine ifs rfl (fun h=>?_) (fun h0=>?_)
 ·exact fin [0,2,3,1,4,5] rfl ⟨rfl,.inr ⟨0,by decide,rfl,e0.1 h⟩⟩
 refine ift rfl rfl ?_
 refine ⟨by decide,?_⟩
 refine ga ?_
 refine cxg [0,4,2,3,1,5] 2 [] (q_col1 (g:=W 3) hm hc (hl 3 (by decide))) rfl rfl rfl rfl ?_
 rintro _ _ ⟨b1,rfl,rfl,e1⟩
 refine ⟨.inl rfl,?_⟩
 refine ifs rfl (fun h=>?_) (fun h1=>?_)
 ·exact fin [0,2,3,4,1,5] rfl ⟨rfl,.inr ⟨1,by decide,rfl,e1.1 h⟩⟩
 refine iff_ rfl rfl ?_
 refine fin [0,2,3,4,1,5] rfl ⟨rfl,.inl ⟨rfl,fun i g1 g2=>?_⟩⟩
 match i,g1,g2 with
 | 2,_,_=>exact Classical.byContradiction fun h=>by rw [e0.2 h] at h0; cases h0
 | 3,_,_=>exact Classical.byContradiction fun h=>by rw [e1.2 h] at h1; cases h1
theorem q_idx4_3 {m col : Nat} {W : Nat → Nat → Rat} (hm : m ≤ 64) (hc : col < m) (hl : ∀ i,i < 4 → lr (W i col) ≤ 100000) :
  Ec Tryz.prog 531 (fun i=>(Nat.ble 1 i && Nat.ble i 4) || Nat.ble 6 i) [bC col,RW m (W 0),RW m (W 1),RW m (W 2),RW m (W 3),.rowa 38 1 4 [.own 1,.own 2,.own 3,.own 4]] [.sub 5 3 1 1,.fn 532 [] [.ref 0 0]]
   (fun x H'=>H' = [bC col,RW m (W 0),RW m (W 1),RW m (W 2),RW m (W 3),.rowa 38 1 4 [.own 1,.own 2,.own 3,.own 4]] ∧ ((x = ri .i64 (-1) ∧ ∀ i,3 ≤ i → i < 4 → W i col = 0) ∨ ∃ i,i < 1 ∧ x = ri .i64 (i : Nat) ∧ W (3 + i) col ≠ 0)):=by
 refine ec Tryz.func531 ?_
 refine lpn 2 ?_
 refine ift rfl rfl ?_
 refine ⟨by decide,?_⟩
 refine ga ?_
 refine cxg [0,4,1,2,3,5] 2 [] (q_col1 (g:=W 3) hm hc (hl 3 (by decide))) rfl rfl rfl rfl ?_
 rintro _ _ ⟨b0,rfl,rfl,e0⟩
 refine ⟨.inl rfl,?_⟩
 refine ifs rfl (fun h=>?_) (fun h0=>?_)
 ·exact fin [0,2,3,4,1,5] rfl ⟨rfl,.inr ⟨0,by decide,rfl,e0.1 h⟩⟩
 refine iff_ rfl rfl ?_
 refine fin [0,2,3,4,1,5] rfl ⟨rfl,.inl ⟨rfl,fun i g1 g2=>?_⟩⟩
 match i,g1,g2 with
 | 3,_,_=>exact Classical.byContradiction fun h=>by rw [e0.2 h] at h0; cases h0
theorem c_one : Pc Tryz.prog 381 [] (· = iq 1):=by
 refine pc Tryz.func381 ?_
 refine ce (z_Of (x:=1) (by decide) (by decide)) rfl ?_
 refine ce (r_Of (z:=1) (Nat.le_trans (Nat.le_of_eq ln_one) (by decide))) rfl ?_
 exact rfl
theorem lr_inv (a : Rat) (h : a ≠ 0) : lr (1 / a) ≤ lr a:=by
 have h1 : (1 : Rat) / a = Rat.divInt (a.den : Int) a.num:=by
  rw [Rat.div_def,Rat.one_mul,Rat.inv_def]
 rw [h1]
 have h2 : a.num ≠ 0:=fun e=>h (Rat.num_eq_zero.1 e)
 refine Nat.le_trans (lr_divInt h2) (Nat.max_le.2 ⟨lr_den a,lr_num a⟩)
def pvs (P : List Nat) : List IV:=P.map fun (p : Nat)=>.raw (.int .i64 (p : Int))
def PV (p : Nat) (P : List Nat) : AO:=.row 3 1 p (pvs P)
theorem pvs_app (P : List Nat) (c : Nat) : pvs P ++ [.raw (.int .i64 (c : Int))] = pvs (P ++ [c]):=by simp [pvs]
def dropC : Nat → Code → Code
 | n + 1,.seq (.seq _ b) c=>dropC n (.seq b c)
 | n + 1,.seq _ b=>dropC n b
 | _,c=>c
def codeOf (f : Func) : Code:=f.body.getD .ret
theorem meetL (l : List (Nat × AV)) {h : List AO} {R : Nat → Bool} {F : (Nat → AV) → List AO → KK → Prop} {t : Nat → AV} {H : List AO} {K : KK} (ht : Ts l t) (hh : H = h) (k : Loop R F (mkT l t) h K) : Loop R F t H K:=by
 have e:=ht.mk
 rw [e,hh]; exact k
theorem rW_congr {m : Nat} {g h : Nat → Rat} (e : ∀ k,k < m → g k = h k) : RW m g = RW m h:=by unfold RW; rw [rC_congr e]
noncomputable def hw1 (m : Nat) (W : Nat → Nat → Rat) (p : Nat) (P : List Nat) : List AO:=[PV p P,RW m (W 0),.rowa 38 1 1 [.own 1],.box 391 [.own 2,ri .i64 m,.own 0]]
noncomputable def hw2 (m : Nat) (W : Nat → Nat → Rat) (p : Nat) (P : List Nat) : List AO:=[PV p P,RW m (W 0),RW m (W 1),.rowa 38 1 2 [.own 1,.own 2],.box 391 [.own 3,ri .i64 m,.own 0]]
noncomputable def hw3 (m : Nat) (W : Nat → Nat → Rat) (p : Nat) (P : List Nat) : List AO:=[PV p P,RW m (W 0),RW m (W 1),RW m (W 2),.rowa 38 1 3 [.own 1,.own 2,.own 3],.box 391 [.own 4,ri .i64 m,.own 0]]
noncomputable def hw4 (m : Nat) (W : Nat → Nat → Rat) (p : Nat) (P : List Nat) : List AO:=[PV p P,RW m (W 0),RW m (W 1),RW m (W 2),RW m (W 3),.rowa 38 1 4 [.own 1,.own 2,.own 3,.own 4],.box 391 [.own 5,ri .i64 m,.own 0]]
instance crInt : CR Int where
 add_assoc:=Int.add_assoc
 add_comm:=Int.add_comm
 zero_add:=Int.zero_add
 neg_add:=Int.add_left_neg
 mul_assoc:=Int.mul_assoc
 mul_comm:=Int.mul_comm
 one_mul:=Int.one_mul
 mul_add:=Int.mul_add
 sub_eq:=fun _ _=>Int.sub_eq_add_neg
noncomputable def zC (m : Nat) (g : Nat → Int) : List IV:=((List.range m).map fun k=>zc (g k)).flatten
noncomputable def ZW (m : Nat) (g : Nat → Int) : AO:=.row 47 2 m (zC m g)
theorem zC_es (m : Nat) (g : Nat → Int) : ∀ e ∈ (List.range m).map (fun k=>zc (g k)),e.length = 2:=fun e he=>by obtain ⟨q,-,rfl⟩:=List.mem_map.1 he; rfl
theorem zC_congr {m : Nat} {g h : Nat → Int} (e : ∀ k,k < m → g k = h k) : zC m g = zC m h:=by
 unfold zC; congr 1; exact List.map_congr_left fun k hk=>by rw [e k (List.mem_range.1 hk)]
theorem zW_congr {m : Nat} {g h : Nat → Int} (e : ∀ k,k < m → g k = h k) : ZW m g = ZW m h:=by unfold ZW; rw [zC_congr e]
theorem zC_get {m : Nat} (g : Nat → Int) {j : Nat} (hj : j < m) : ((List.range m).map fun k=>zc (g k))[j]? = some (zc (g j)):=by simp [hj]
theorem zC_put {m : Nat} (g : Nat → Int) {j : Nat} (hj : j < m) (x : Int) : putAt (zC m g) (j * 2) (zc x) = zC m (up1 g j x):=by
 unfold zC
 rw [flat_put (zC_es m g) (by simpa using hj) rfl]
 congr 1
 refine List.ext_getElem (by simp) fun i h1 h2=>?_
 simp only [List.length_set,List.length_map,List.length_range] at h1
 by_cases e : i = j
 ·subst e; simp [up1]
 ·rw [List.getElem_set_ne (fun h=>e h.symm)]; simp [up1,e]
theorem zC_len (m : Nat) (g : Nat → Int) : (zC m g).length = m * 2:=by unfold zC; rw [flat_len (zC_es m g)]; simp
theorem gz {m o : Nat} {g : Nat → Int} {K : AV → Prop} (j : Nat) (hj : j < m) (ho : o = j * 2) (h : K (.im (iz (g j)))) : Gn True ((zC m g).drop o) (ldI true 2) K:=by
 subst ho
 refine ⟨trivial,fun l e=>?_⟩
 subst e
 unfold zC
 rw [flat_drop (zC_es m g) (zC_get g hj)]; exact h
theorem zC_succ (k : Nat) (g : Nat → Int) : zC (k + 1) g = zC k g ++ zc (g k):=by
 unfold zC; rw [List.range_succ,List.map_append,List.flatten_append]; simp
theorem sgn_nz (z : Int) : sgnI z ≠ 0 ↔ z ≠ 0:=by rcases sgnI_cases z with ⟨h,e⟩ | ⟨h,e⟩ | ⟨h,e⟩ <;> rw [e] <;> omega
def ZB (L r c : Nat) (A : Nat → Nat → Int) : Prop:=∀ i k,i < r → k < c → li (A i k) ≤ L
theorem ZB.mono {L L' r c : Nat} {A : Nat → Nat → Int} (h : ZB L r c A) (hl : L ≤ L') : ZB L' r c A:=fun i k hi hk=>Nat.le_trans (h i k hi hk) hl
theorem zM_At {r c i k : Nat} {A : Nat → Nat → Int} (hr : r ≤ 64) (hc : c ≤ 64) (ha : ZB 10000 r c A) (hi : i < r) (hk : k < c) : Pc Tryz.prog 33 [zM r c A,.raw (.int .i64 (i : Int)),.raw (.int .i64 (k : Int))] (· = iz (A i k)):=by
 have he : ∀ z : Int,zn (decide (z < 0),wd z.natAbs) = zc z:=fun z=>rfl
 have hv : zv (decide (A i k < 0),wd (A i k).natAbs) = A i k:=by
  unfold zv; rw [show nv W64 (wd (A i k).natAbs) = (A i k).natAbs from wd_nv _]
  unfold zsg; by_cases h : A i k < 0 <;> simp [h] <;> omega
 have:=z_At (r:=r) (c:=c) (i:=i) (k:=k) (es:=(tq c A (r * c)).map fun z=>(decide (z < 0),wd z.natAbs)) (e:=(decide (A i k < 0),wd (A i k).natAbs)) hr hc hi hk (by rw [List.length_map,tq_len]) (by rw [List.getElem?_map,tq_get A hi hk]; rfl) (wd_nrm _).1 (Nat.le_trans (ha i k hi hk) (by decide))
 rw [hv,List.map_map] at this
 exact this
noncomputable def zMA (r c : Nat) (A : Nat → Nat → Int) : AV:=.agg [ri .i64 r,ri .i64 c,.im (.sl ((tq c A (r * c)).map zc).length 2 ((tq c A (r * c)).map zc).flatten)]
noncomputable def bbx (m o k : Nat) (d : Int) (odd : Bool) : AO:=.box 463 [.own o,ri .i64 m,.own k,.im (.raw (.bool (decide (d < 0)))),.im (na d.natAbs),rb odd]
def brs (W : Nat → Nat → Int) (q col : Nat) (d : Int) : Nat → Nat → Int:=fun i k=>if q < i then (W i k * W q col - W i col * W q k) / d else W i k
noncomputable def hb1 (m : Nat) (W : Nat → Nat → Int) (p : Nat) (P : List Nat) (d : Int) (odd : Bool) : List AO:=[PV p P,ZW m (W 0),.rowa 22 1 1 [.own 1],bbx m 2 0 d odd]
noncomputable def hb2 (m : Nat) (W : Nat → Nat → Int) (p : Nat) (P : List Nat) (d : Int) (odd : Bool) : List AO:=[PV p P,ZW m (W 0),ZW m (W 1),.rowa 22 1 2 [.own 1,.own 2],bbx m 3 0 d odd]
noncomputable def hb3 (m : Nat) (W : Nat → Nat → Int) (p : Nat) (P : List Nat) (d : Int) (odd : Bool) : List AO:=[PV p P,ZW m (W 0),ZW m (W 1),ZW m (W 2),.rowa 22 1 3 [.own 1,.own 2,.own 3],bbx m 4 0 d odd]
noncomputable def hb4 (m : Nat) (W : Nat → Nat → Int) (p : Nat) (P : List Nat) (d : Int) (odd : Bool) : List AO:=[PV p P,ZW m (W 0),ZW m (W 1),ZW m (W 2),ZW m (W 3),.rowa 22 1 4 [.own 1,.own 2,.own 3,.own 4],bbx m 5 0 d odd]
noncomputable def ho1 (m : Nat) (A : Nat → Nat → Int) : List AO:=[.box 24 [ri .i64 1,ri .i64 m,.im (.sl ((tq m A (1 * m)).map zc).length 2 ((tq m A (1 * m)).map zc).flatten)],ZW m (A 0),.rowa 22 1 1 [.own 1],.box 463 [.own 2,ri .i64 m,nilA,.im (.raw (.bool (decide ((1 : Int) < 0)))),.im (na (1 : Int).natAbs),rb false]]
theorem b_begun1 {m : Nat} {A : Nat → Nat → Int} (hm : m ≤ 64) (ha : ZB 10000 1 m A) :
  Ec Tryz.prog 525 (own 0) [] [zMA 1 m A] (Is (.ref 3 0) (ho1 m A)):=by
 refine ec Tryz.func525 ?_
 refine rq [0,1,2,3,4,5] ?_
 refine ce (z_Of (x:=1) (by decide) (by decide)) rfl ?_
 refine lpn 2 ?_
 refine ift rfl rfl ?_
 refine lfv 5 47 2 rfl ?_
 refine lgc [0,1,2] rfl ?_
 refine lpt (fun k : Nat=>k ≤ m) (fun k=>[(1,.ref 0 0),(3,.ref 1 0),(4,ri .i64 0),(5,.own 2),(13,ri .i64 1),(14,ri .i64 0),(18,ri .i64 m),(19,ri .i64 k)])
  (fun k=>[.box 24 [ri .i64 1,ri .i64 m,.im (.sl ((tq m A (1 * m)).map zc).length 2 ((tq m A (1 * m)).map zc).flatten)],.box 463 [nilA,ri .i64 m,nilA,.im (.raw (.bool (decide ((1 : Int) < 0)))),.im (na (1 : Int).natAbs),rb false],.row 47 2 k (zC k (A 0))]) (fun k=>m - k) 0 (Nat.zero_le _) (tsr rfl) rfl ?_
 intro k t hk
 refine ifs rfl (fun hlt=>?_) (fun hge=>?_)
 ·have hlt:=of_decide_eq_true hlt
  have hkm : k < m:=by omega
  refine ce (zM_At (r:=1) (A:=A) (i:=0) (by decide) hm ha (by decide) hkm) rfl ?_
  refine ⟨⟨?_,?_⟩,?_⟩
  ·show (k + 1) * 32 ≤ _; omega
  ·show k + 1 ≤ _; omega
  refine nxg [0,1,2] (k + 1) (by omega) rfl ⟨by omega,⟨rfl,rfl,rfl,rfl,rfl,rfl,rfl,congrArg (ri .i64) (i64s (by omega)).symm,trivial⟩,?_⟩
  exact congrArg (fun l=>([.box 24 [ri .i64 1,ri .i64 m,.im (.sl ((tq m A (1 * m)).map zc).length 2 ((tq m A (1 * m)).map zc).flatten)],.box 463 [nilA,ri .i64 m,nilA,.im (.raw (.bool (decide ((1 : Int) < 0)))),.im (na (1 : Int).natAbs),rb false],.row 47 2 (k + 1) l] : List AO)) (zC_succ k (A 0)).symm
 have hge:=of_decide_eq_false hge
 obtain rfl : m = k:=by omega
 refine ⟨(by decide : 1 * 24 ≤ 140737488355328 ∧ 1 ≤ 1000000000),?_⟩
 refine iff_ rfl rfl ?_
 exact fin [0,2,4,1] rfl ⟨rfl,rfl⟩
noncomputable def ho2 (m : Nat) (A : Nat → Nat → Int) : List AO:=[.box 24 [ri .i64 2,ri .i64 m,.im (.sl ((tq m A (2 * m)).map zc).length 2 ((tq m A (2 * m)).map zc).flatten)],ZW m (A 0),ZW m (A 1),.rowa 22 1 2 [.own 1,.own 2],.box 463 [.own 3,ri .i64 m,nilA,.im (.raw (.bool (decide ((1 : Int) < 0)))),.im (na (1 : Int).natAbs),rb false]]
theorem b_begun2 {m : Nat} {A : Nat → Nat → Int} (hm : m ≤ 64) (ha : ZB 10000 2 m A) :
  Ec Tryz.prog 525 (own 0) [] [zMA 2 m A] (Is (.ref 4 0) (ho2 m A)):=by
 refine ec Tryz.func525 ?_
 refine rq [0,1,2,3,4,5] ?_
 refine ce (z_Of (x:=1) (by decide) (by decide)) rfl ?_
 refine lpn 3 ?_
 refine ift rfl rfl ?_
 refine lfv 5 47 2 rfl ?_
 refine lgc [0,1,2] rfl ?_
 refine lpt (fun k : Nat=>k ≤ m) (fun k=>[(1,.ref 0 0),(3,.ref 1 0),(4,ri .i64 0),(5,.own 2),(13,ri .i64 2),(14,ri .i64 0),(18,ri .i64 m),(19,ri .i64 k)])
  (fun k=>[.box 24 [ri .i64 2,ri .i64 m,.im (.sl ((tq m A (2 * m)).map zc).length 2 ((tq m A (2 * m)).map zc).flatten)],.box 463 [nilA,ri .i64 m,nilA,.im (.raw (.bool (decide ((1 : Int) < 0)))),.im (na (1 : Int).natAbs),rb false],.row 47 2 k (zC k (A 0))]) (fun k=>m - k) 0 (Nat.zero_le _) (tsr rfl) rfl ?_
 intro k t hk
 refine ifs rfl (fun hlt=>?_) (fun hge=>?_)
 ·have hlt:=of_decide_eq_true hlt
  have hkm : k < m:=by omega
  refine ce (zM_At (r:=2) (A:=A) (i:=0) (by decide) hm ha (by decide) hkm) rfl ?_
  refine ⟨⟨?_,?_⟩,?_⟩
  ·show (k + 1) * 32 ≤ _; omega
  ·show k + 1 ≤ _; omega
  refine nxg [0,1,2] (k + 1) (by omega) rfl ⟨by omega,⟨rfl,rfl,rfl,rfl,rfl,rfl,rfl,congrArg (ri .i64) (i64s (by omega)).symm,trivial⟩,?_⟩
  exact congrArg (fun l=>([.box 24 [ri .i64 2,ri .i64 m,.im (.sl ((tq m A (2 * m)).map zc).length 2 ((tq m A (2 * m)).map zc).flatten)],.box 463 [nilA,ri .i64 m,nilA,.im (.raw (.bool (decide ((1 : Int) < 0)))),.im (na (1 : Int).natAbs),rb false],.row 47 2 (k + 1) l] : List AO)) (zC_succ k (A 0)).symm
 have hge:=of_decide_eq_false hge
 obtain rfl : m = k:=by omega
 refine ⟨(by decide : 1 * 24 ≤ 140737488355328 ∧ 1 ≤ 1000000000),?_⟩
 clear hk hge
 refine ift rfl rfl ?_
 refine lfv 5 47 2 rfl ?_
 refine lgc [0,1,2,4,5] rfl ?_
 refine lpt (fun k : Nat=>k ≤ m) (fun k=>[(1,.ref 0 0),(3,.ref 1 0),(4,ri .i64 1),(5,.own 4),(13,ri .i64 2),(14,ri .i64 1),(18,ri .i64 m),(19,ri .i64 k)])
  (fun k=>[.box 24 [ri .i64 2,ri .i64 m,.im (.sl ((tq m A (2 * m)).map zc).length 2 ((tq m A (2 * m)).map zc).flatten)],.box 463 [.own 3,ri .i64 m,nilA,.im (.raw (.bool (decide ((1 : Int) < 0)))),.im (na (1 : Int).natAbs),rb false],ZW m (A 0),.rowa 22 1 1 [.own 2],.row 47 2 k (zC k (A 1))]) (fun k=>m - k) 0 (Nat.zero_le _) (tsr rfl) rfl ?_
 intro k t hk
 refine ifs rfl (fun hlt=>?_) (fun hge=>?_)
 ·have hlt:=of_decide_eq_true hlt
  have hkm : k < m:=by omega
  refine ce (zM_At (r:=2) (A:=A) (i:=1) (by decide) hm ha (by decide) hkm) rfl ?_
  refine ⟨⟨?_,?_⟩,?_⟩
  ·show (k + 1) * 32 ≤ _; omega
  ·show k + 1 ≤ _; omega
  refine nxg [0,1,2,3,4] (k + 1) (by omega) rfl ⟨by omega,⟨rfl,rfl,rfl,rfl,rfl,rfl,rfl,congrArg (ri .i64) (i64s (by omega)).symm,trivial⟩,?_⟩
  exact congrArg (fun l=>([.box 24 [ri .i64 2,ri .i64 m,.im (.sl ((tq m A (2 * m)).map zc).length 2 ((tq m A (2 * m)).map zc).flatten)],.box 463 [.own 3,ri .i64 m,nilA,.im (.raw (.bool (decide ((1 : Int) < 0)))),.im (na (1 : Int).natAbs),rb false],ZW m (A 0),.rowa 22 1 1 [.own 2],.row 47 2 (k + 1) l] : List AO)) (zC_succ k (A 1)).symm
 have hge:=of_decide_eq_false hge
 obtain rfl : m = k:=by omega
 refine ⟨(by decide : (1 + 1) * 24 ≤ 140737488355328 ∧ 1 + 1 ≤ 1000000000),?_⟩
 refine iff_ rfl rfl ?_
 exact fin [0,2,4,3,1] rfl ⟨rfl,rfl⟩
noncomputable def ho3 (m : Nat) (A : Nat → Nat → Int) : List AO:=[.box 24 [ri .i64 3,ri .i64 m,.im (.sl ((tq m A (3 * m)).map zc).length 2 ((tq m A (3 * m)).map zc).flatten)],ZW m (A 0),ZW m (A 1),ZW m (A 2),.rowa 22 1 3 [.own 1,.own 2,.own 3],.box 463 [.own 4,ri .i64 m,nilA,.im (.raw (.bool (decide ((1 : Int) < 0)))),.im (na (1 : Int).natAbs),rb false]]
theorem b_begun3 {m : Nat} {A : Nat → Nat → Int} (hm : m ≤ 64) (ha : ZB 10000 3 m A) :
  Ec Tryz.prog 525 (own 0) [] [zMA 3 m A] (Is (.ref 5 0) (ho3 m A)):=by
 refine ec Tryz.func525 ?_
 refine rq [0,1,2,3,4,5] ?_
 refine ce (z_Of (x:=1) (by decide) (by decide)) rfl ?_
 refine lpn 4 ?_
 refine ift rfl rfl ?_
 refine lfv 5 47 2 rfl ?_
 refine lgc [0,1,2] rfl ?_
 refine lpt (fun k : Nat=>k ≤ m) (fun k=>[(1,.ref 0 0),(3,.ref 1 0),(4,ri .i64 0),(5,.own 2),(13,ri .i64 3),(14,ri .i64 0),(18,ri .i64 m),(19,ri .i64 k)])
  (fun k=>[.box 24 [ri .i64 3,ri .i64 m,.im (.sl ((tq m A (3 * m)).map zc).length 2 ((tq m A (3 * m)).map zc).flatten)],.box 463 [nilA,ri .i64 m,nilA,.im (.raw (.bool (decide ((1 : Int) < 0)))),.im (na (1 : Int).natAbs),rb false],.row 47 2 k (zC k (A 0))]) (fun k=>m - k) 0 (Nat.zero_le _) (tsr rfl) rfl ?_
 intro k t hk
 refine ifs rfl (fun hlt=>?_) (fun hge=>?_)
 ·have hlt:=of_decide_eq_true hlt
  have hkm : k < m:=by omega
  refine ce (zM_At (r:=3) (A:=A) (i:=0) (by decide) hm ha (by decide) hkm) rfl ?_
  refine ⟨⟨?_,?_⟩,?_⟩
  ·show (k + 1) * 32 ≤ _; omega
  ·show k + 1 ≤ _; omega
  refine nxg [0,1,2] (k + 1) (by omega) rfl ⟨by omega,⟨rfl,rfl,rfl,rfl,rfl,rfl,rfl,congrArg (ri .i64) (i64s (by omega)).symm,trivial⟩,?_⟩
  exact congrArg (fun l=>([.box 24 [ri .i64 3,ri .i64 m,.im (.sl ((tq m A (3 * m)).map zc).length 2 ((tq m A (3 * m)).map zc).flatten)],.box 463 [nilA,ri .i64 m,nilA,.im (.raw (.bool (decide ((1 : Int) < 0)))),.im (na (1 : Int).natAbs),rb false],.row 47 2 (k + 1) l] : List AO)) (zC_succ k (A 0)).symm
 have hge:=of_decide_eq_false hge
 obtain rfl : m = k:=by omega
 refine ⟨(by decide : 1 * 24 ≤ 140737488355328 ∧ 1 ≤ 1000000000),?_⟩
 clear hk hge
 refine ift rfl rfl ?_
 refine lfv 5 47 2 rfl ?_
 refine lgc [0,1,2,4,5] rfl ?_
 refine lpt (fun k : Nat=>k ≤ m) (fun k=>[(1,.ref 0 0),(3,.ref 1 0),(4,ri .i64 1),(5,.own 4),(13,ri .i64 3),(14,ri .i64 1),(18,ri .i64 m),(19,ri .i64 k)])
  (fun k=>[.box 24 [ri .i64 3,ri .i64 m,.im (.sl ((tq m A (3 * m)).map zc).length 2 ((tq m A (3 * m)).map zc).flatten)],.box 463 [.own 3,ri .i64 m,nilA,.im (.raw (.bool (decide ((1 : Int) < 0)))),.im (na (1 : Int).natAbs),rb false],ZW m (A 0),.rowa 22 1 1 [.own 2],.row 47 2 k (zC k (A 1))]) (fun k=>m - k) 0 (Nat.zero_le _) (tsr rfl) rfl ?_
 intro k t hk
 refine ifs rfl (fun hlt=>?_) (fun hge=>?_)
 ·have hlt:=of_decide_eq_true hlt
  have hkm : k < m:=by omega
  refine ce (zM_At (r:=3) (A:=A) (i:=1) (by decide) hm ha (by decide) hkm) rfl ?_
  refine ⟨⟨?_,?_⟩,?_⟩
  ·show (k + 1) * 32 ≤ _; omega
  ·show k + 1 ≤ _; omega
  refine nxg [0,1,2,3,4] (k + 1) (by omega) rfl ⟨by omega,⟨rfl,rfl,rfl,rfl,rfl,rfl,rfl,congrArg (ri .i64) (i64s (by omega)).symm,trivial⟩,?_⟩
  exact congrArg (fun l=>([.box 24 [ri .i64 3,ri .i64 m,.im (.sl ((tq m A (3 * m)).map zc).length 2 ((tq m A (3 * m)).map zc).flatten)],.box 463 [.own 3,ri .i64 m,nilA,.im (.raw (.bool (decide ((1 : Int) < 0)))),.im (na (1 : Int).natAbs),rb false],ZW m (A 0),.rowa 22 1 1 [.own 2],.row 47 2 (k + 1) l] : List AO)) (zC_succ k (A 1)).symm
 have hge:=of_decide_eq_false hge
 obtain rfl : m = k:=by omega
 refine ⟨(by decide : (1 + 1) * 24 ≤ 140737488355328 ∧ 1 + 1 ≤ 1000000000),?_⟩
 clear hk hge
 refine ift rfl rfl ?_
 refine lfv 5 47 2 rfl ?_
 refine lgc [0,1,2,4,3,6] rfl ?_
 refine lpt (fun k : Nat=>k ≤ m) (fun k=>[(1,.ref 0 0),(3,.ref 1 0),(4,ri .i64 2),(5,.own 5),(13,ri .i64 3),(14,ri .i64 2),(18,ri .i64 m),(19,ri .i64 k)])
  (fun k=>[.box 24 [ri .i64 3,ri .i64 m,.im (.sl ((tq m A (3 * m)).map zc).length 2 ((tq m A (3 * m)).map zc).flatten)],.box 463 [.own 4,ri .i64 m,nilA,.im (.raw (.bool (decide ((1 : Int) < 0)))),.im (na (1 : Int).natAbs),rb false],ZW m (A 0),ZW m (A 1),.rowa 22 1 2 [.own 2,.own 3],.row 47 2 k (zC k (A 2))]) (fun k=>m - k) 0 (Nat.zero_le _) (tsr rfl) rfl ?_
 intro k t hk
 refine ifs rfl (fun hlt=>?_) (fun hge=>?_)
 ·have hlt:=of_decide_eq_true hlt
  have hkm : k < m:=by omega
  refine ce (zM_At (r:=3) (A:=A) (i:=2) (by decide) hm ha (by decide) hkm) rfl ?_
  refine ⟨⟨?_,?_⟩,?_⟩
  ·show (k + 1) * 32 ≤ _; omega
  ·show k + 1 ≤ _; omega
  refine nxg [0,1,2,3,4,5] (k + 1) (by omega) rfl ⟨by omega,⟨rfl,rfl,rfl,rfl,rfl,rfl,rfl,congrArg (ri .i64) (i64s (by omega)).symm,trivial⟩,?_⟩
  exact congrArg (fun l=>([.box 24 [ri .i64 3,ri .i64 m,.im (.sl ((tq m A (3 * m)).map zc).length 2 ((tq m A (3 * m)).map zc).flatten)],.box 463 [.own 4,ri .i64 m,nilA,.im (.raw (.bool (decide ((1 : Int) < 0)))),.im (na (1 : Int).natAbs),rb false],ZW m (A 0),ZW m (A 1),.rowa 22 1 2 [.own 2,.own 3],.row 47 2 (k + 1) l] : List AO)) (zC_succ k (A 2)).symm
 have hge:=of_decide_eq_false hge
 obtain rfl : m = k:=by omega
 refine ⟨(by decide : (2 + 1) * 24 ≤ 140737488355328 ∧ 2 + 1 ≤ 1000000000),?_⟩
 refine iff_ rfl rfl ?_
 exact fin [0,2,3,5,4,1] rfl ⟨rfl,rfl⟩
noncomputable def ho4 (m : Nat) (A : Nat → Nat → Int) : List AO:=[.box 24 [ri .i64 4,ri .i64 m,.im (.sl ((tq m A (4 * m)).map zc).length 2 ((tq m A (4 * m)).map zc).flatten)],ZW m (A 0),ZW m (A 1),ZW m (A 2),ZW m (A 3),.rowa 22 1 4 [.own 1,.own 2,.own 3,.own 4],.box 463 [.own 5,ri .i64 m,nilA,.im (.raw (.bool (decide ((1 : Int) < 0)))),.im (na (1 : Int).natAbs),rb false]]
theorem b_begun4 {m : Nat} {A : Nat → Nat → Int} (hm : m ≤ 64) (ha : ZB 10000 4 m A) :
  Ec Tryz.prog 525 (own 0) [] [zMA 4 m A] (Is (.ref 6 0) (ho4 m A)):=by
 refine ec Tryz.func525 ?_
 refine rq [0,1,2,3,4,5] ?_
 refine ce (z_Of (x:=1) (by decide) (by decide)) rfl ?_
 refine lpn 5 ?_
 refine ift rfl rfl ?_
 refine lfv 5 47 2 rfl ?_
 refine lgc [0,1,2] rfl ?_
 refine lpt (fun k : Nat=>k ≤ m) (fun k=>[(1,.ref 0 0),(3,.ref 1 0),(4,ri .i64 0),(5,.own 2),(13,ri .i64 4),(14,ri .i64 0),(18,ri .i64 m),(19,ri .i64 k)])
  (fun k=>[.box 24 [ri .i64 4,ri .i64 m,.im (.sl ((tq m A (4 * m)).map zc).length 2 ((tq m A (4 * m)).map zc).flatten)],.box 463 [nilA,ri .i64 m,nilA,.im (.raw (.bool (decide ((1 : Int) < 0)))),.im (na (1 : Int).natAbs),rb false],.row 47 2 k (zC k (A 0))]) (fun k=>m - k) 0 (Nat.zero_le _) (tsr rfl) rfl ?_
 intro k t hk
 refine ifs rfl (fun hlt=>?_) (fun hge=>?_)
 ·have hlt:=of_decide_eq_true hlt
  have hkm : k < m:=by omega
  refine ce (zM_At (r:=4) (A:=A) (i:=0) (by decide) hm ha (by decide) hkm) rfl ?_
  refine ⟨⟨?_,?_⟩,?_⟩
  ·show (k + 1) * 32 ≤ _; omega
  ·show k + 1 ≤ _; omega
  refine nxg [0,1,2] (k + 1) (by omega) rfl ⟨by omega,⟨rfl,rfl,rfl,rfl,rfl,rfl,rfl,congrArg (ri .i64) (i64s (by omega)).symm,trivial⟩,?_⟩
  exact congrArg (fun l=>([.box 24 [ri .i64 4,ri .i64 m,.im (.sl ((tq m A (4 * m)).map zc).length 2 ((tq m A (4 * m)).map zc).flatten)],.box 463 [nilA,ri .i64 m,nilA,.im (.raw (.bool (decide ((1 : Int) < 0)))),.im (na (1 : Int).natAbs),rb false],.row 47 2 (k + 1) l] : List AO)) (zC_succ k (A 0)).symm
 have hge:=of_decide_eq_false hge
 obtain rfl : m = k:=by omega
 refine ⟨(by decide : 1 * 24 ≤ 140737488355328 ∧ 1 ≤ 1000000000),?_⟩
 clear hk hge
 refine ift rfl rfl ?_
 refine lfv 5 47 2 rfl ?_
 refine lgc [0,1,2,4,5] rfl ?_
 refine lpt (fun k : Nat=>k ≤ m) (fun k=>[(1,.ref 0 0),(3,.ref 1 0),(4,ri .i64 1),(5,.own 4),(13,ri .i64 4),(14,ri .i64 1),(18,ri .i64 m),(19,ri .i64 k)])
  (fun k=>[.box 24 [ri .i64 4,ri .i64 m,.im (.sl ((tq m A (4 * m)).map zc).length 2 ((tq m A (4 * m)).map zc).flatten)],.box 463 [.own 3,ri .i64 m,nilA,.im (.raw (.bool (decide ((1 : Int) < 0)))),.im (na (1 : Int).natAbs),rb false],ZW m (A 0),.rowa 22 1 1 [.own 2],.row 47 2 k (zC k (A 1))]) (fun k=>m - k) 0 (Nat.zero_le _) (tsr rfl) rfl ?_
 intro k t hk
 refine ifs rfl (fun hlt=>?_) (fun hge=>?_)
 ·have hlt:=of_decide_eq_true hlt
  have hkm : k < m:=by omega
  refine ce (zM_At (r:=4) (A:=A) (i:=1) (by decide) hm ha (by decide) hkm) rfl ?_
  refine ⟨⟨?_,?_⟩,?_⟩
  ·show (k + 1) * 32 ≤ _; omega
  ·show k + 1 ≤ _; omega
  refine nxg [0,1,2,3,4] (k + 1) (by omega) rfl ⟨by omega,⟨rfl,rfl,rfl,rfl,rfl,rfl,rfl,congrArg (ri .i64) (i64s (by omega)).symm,trivial⟩,?_⟩
  exact congrArg (fun l=>([.box 24 [ri .i64 4,ri .i64 m,.im (.sl ((tq m A (4 * m)).map zc).length 2 ((tq m A (4 * m)).map zc).flatten)],.box 463 [.own 3,ri .i64 m,nilA,.im (.raw (.bool (decide ((1 : Int) < 0)))),.im (na (1 : Int).natAbs),rb false],ZW m (A 0),.rowa 22 1 1 [.own 2],.row 47 2 (k + 1) l] : List AO)) (zC_succ k (A 1)).symm
 have hge:=of_decide_eq_false hge
 obtain rfl : m = k:=by omega
 refine ⟨(by decide : (1 + 1) * 24 ≤ 140737488355328 ∧ 1 + 1 ≤ 1000000000),?_⟩
 clear hk hge
 refine ift rfl rfl ?_
 refine lfv 5 47 2 rfl ?_
 refine lgc [0,1,2,4,3,6] rfl ?_
 refine lpt (fun k : Nat=>k ≤ m) (fun k=>[(1,.ref 0 0),(3,.ref 1 0),(4,ri .i64 2),(5,.own 5),(13,ri .i64 4),(14,ri .i64 2),(18,ri .i64 m),(19,ri .i64 k)])
  (fun k=>[.box 24 [ri .i64 4,ri .i64 m,.im (.sl ((tq m A (4 * m)).map zc).length 2 ((tq m A (4 * m)).map zc).flatten)],.box 463 [.own 4,ri .i64 m,nilA,.im (.raw (.bool (decide ((1 : Int) < 0)))),.im (na (1 : Int).natAbs),rb false],ZW m (A 0),ZW m (A 1),.rowa 22 1 2 [.own 2,.own 3],.row 47 2 k (zC k (A 2))]) (fun k=>m - k) 0 (Nat.zero_le _) (tsr rfl) rfl ?_
 intro k t hk
 refine ifs rfl (fun hlt=>?_) (fun hge=>?_)
 ·have hlt:=of_decide_eq_true hlt
  have hkm : k < m:=by omega
  refine ce (zM_At (r:=4) (A:=A) (i:=2) (by decide) hm ha (by decide) hkm) rfl ?_
  refine ⟨⟨?_,?_⟩,?_⟩
  ·show (k + 1) * 32 ≤ _; omega
  ·show k + 1 ≤ _; omega
  refine nxg [0,1,2,3,4,5] (k + 1) (by omega) rfl ⟨by omega,⟨rfl,rfl,rfl,rfl,rfl,rfl,rfl,congrArg (ri .i64) (i64s (by omega)).symm,trivial⟩,?_⟩
  exact congrArg (fun l=>([.box 24 [ri .i64 4,ri .i64 m,.im (.sl ((tq m A (4 * m)).map zc).length 2 ((tq m A (4 * m)).map zc).flatten)],.box 463 [.own 4,ri .i64 m,nilA,.im (.raw (.bool (decide ((1 : Int) < 0)))),.im (na (1 : Int).natAbs),rb false],ZW m (A 0),ZW m (A 1),.rowa 22 1 2 [.own 2,.own 3],.row 47 2 (k + 1) l] : List AO)) (zC_succ k (A 2)).symm
 have hge:=of_decide_eq_false hge
 obtain rfl : m = k:=by omega
 refine ⟨(by decide : (2 + 1) * 24 ≤ 140737488355328 ∧ 2 + 1 ≤ 1000000000),?_⟩
 clear hk hge
 refine ift rfl rfl ?_
 refine lfv 5 47 2 rfl ?_
 refine lgc [0,1,2,3,5,4,7] rfl ?_
 refine lpt (fun k : Nat=>k ≤ m) (fun k=>[(1,.ref 0 0),(3,.ref 1 0),(4,ri .i64 3),(5,.own 6),(13,ri .i64 4),(14,ri .i64 3),(18,ri .i64 m),(19,ri .i64 k)])
  (fun k=>[.box 24 [ri .i64 4,ri .i64 m,.im (.sl ((tq m A (4 * m)).map zc).length 2 ((tq m A (4 * m)).map zc).flatten)],.box 463 [.own 5,ri .i64 m,nilA,.im (.raw (.bool (decide ((1 : Int) < 0)))),.im (na (1 : Int).natAbs),rb false],ZW m (A 0),ZW m (A 1),ZW m (A 2),.rowa 22 1 3 [.own 2,.own 3,.own 4],.row 47 2 k (zC k (A 3))]) (fun k=>m - k) 0 (Nat.zero_le _) (tsr rfl) rfl ?_
 intro k t hk
 refine ifs rfl (fun hlt=>?_) (fun hge=>?_)
 ·have hlt:=of_decide_eq_true hlt
  have hkm : k < m:=by omega
  refine ce (zM_At (r:=4) (A:=A) (i:=3) (by decide) hm ha (by decide) hkm) rfl ?_
  refine ⟨⟨?_,?_⟩,?_⟩
  ·show (k + 1) * 32 ≤ _; omega
  ·show k + 1 ≤ _; omega
  refine nxg [0,1,2,3,4,5,6] (k + 1) (by omega) rfl ⟨by omega,⟨rfl,rfl,rfl,rfl,rfl,rfl,rfl,congrArg (ri .i64) (i64s (by omega)).symm,trivial⟩,?_⟩
  exact congrArg (fun l=>([.box 24 [ri .i64 4,ri .i64 m,.im (.sl ((tq m A (4 * m)).map zc).length 2 ((tq m A (4 * m)).map zc).flatten)],.box 463 [.own 5,ri .i64 m,nilA,.im (.raw (.bool (decide ((1 : Int) < 0)))),.im (na (1 : Int).natAbs),rb false],ZW m (A 0),ZW m (A 1),ZW m (A 2),.rowa 22 1 3 [.own 2,.own 3,.own 4],.row 47 2 (k + 1) l] : List AO)) (zC_succ k (A 3)).symm
 have hge:=of_decide_eq_false hge
 obtain rfl : m = k:=by omega
 refine ⟨(by decide : (3 + 1) * 24 ≤ 140737488355328 ∧ 3 + 1 ≤ 1000000000),?_⟩
 refine iff_ rfl rfl ?_
 exact fin [0,2,3,4,6,5,1] rfl ⟨rfl,rfl⟩
theorem b_find1_0 {m col : Nat} {W : Nat → Nat → Int} {P : List Nat} {d : Int} {odd : Bool} (hm : m ≤ 64) (hc : col < m) (hl : ∀ i,i < 1 → li (W i col) ≤ 100000) :
  Ec Tryz.prog 563 (fun i=>(Nat.ble 1 i && Nat.ble i 1) || Nat.ble 4 i) (hb1 m W 0 P d odd) [.ref 3 0,ri .i64 col]
   (fun x H'=>(x = rb false ∧ H' = hb1 m W 0 P d odd ∧ ∀ i,0 ≤ i → i < 1 → W i col = 0) ∨ ∃ i,0 ≤ i ∧ i < 1 ∧ W i col ≠ 0 ∧ x = rb true ∧ H' = hb1 m (swp W 0 i) 0 P d (odd != decide (i ≠ 0))):=by
 refine ec Tryz.func563 ?_
 refine lpn 2 ?_
 refine ift rfl rfl ?_
 refine ⟨by decide,?_⟩
 refine ga ?_
 refine ⟨⟨by omega,by omega⟩,?_⟩
 refine gz col hc (by rw [Int.toNat_natCast]) ?_
 refine ce (z_Sign (z:=W 0 col) (by have:=hl 0 (by decide); omega)) rfl ?_
 refine ifs rfl (fun h=>?_) (fun h0=>?_)
 ·have h : W 0 col ≠ 0:=by rw [← sgn_nz]; simpa using h
  refine iff_ rfl rfl ?_
  refine fin0 (.inr ⟨0,by decide,by decide,h,rfl,?_⟩)
  rw [swp_self]; cases odd <;> rfl
 have h0 : W 0 col = 0:=Classical.byContradiction fun e=>by have:=(sgn_nz _).2 e; simp [this] at h0
 refine iff_ rfl rfl ?_
 refine fin0 (.inl ⟨rfl,rfl,fun i g1 g2=>?_⟩)
 match i,g1,g2 with
 | 0,_,_=>exact h0
theorem b_find2_0 {m col : Nat} {W : Nat → Nat → Int} {P : List Nat} {d : Int} {odd : Bool} (hm : m ≤ 64) (hc : col < m) (hl : ∀ i,i < 2 → li (W i col) ≤ 100000) :
  Ec Tryz.prog 563 (fun i=>(Nat.ble 1 i && Nat.ble i 2) || Nat.ble 5 i) (hb2 m W 0 P d odd) [.ref 4 0,ri .i64 col]
   (fun x H'=>(x = rb false ∧ H' = hb2 m W 0 P d odd ∧ ∀ i,0 ≤ i → i < 2 → W i col = 0) ∨ ∃ i,0 ≤ i ∧ i < 2 ∧ W i col ≠ 0 ∧ x = rb true ∧ H' = hb2 m (swp W 0 i) 0 P d (odd != decide (i ≠ 0))):=by
 refine ec Tryz.func563 ?_
 refine lpn 3 ?_
 refine ift rfl rfl ?_
 refine ⟨by decide,?_⟩
 refine ga ?_
 refine ⟨⟨by omega,by omega⟩,?_⟩
 refine gz col hc (by rw [Int.toNat_natCast]) ?_
 refine ce (z_Sign (z:=W 0 col) (by have:=hl 0 (by decide); omega)) rfl ?_
 refine ifs rfl (fun h=>?_) (fun h0=>?_)
 ·have h : W 0 col ≠ 0:=by rw [← sgn_nz]; simpa using h
  refine iff_ rfl rfl ?_
  refine fin0 (.inr ⟨0,by decide,by decide,h,rfl,?_⟩)
  rw [swp_self]; cases odd <;> rfl
 have h0 : W 0 col = 0:=Classical.byContradiction fun e=>by have:=(sgn_nz _).2 e; simp [this] at h0
 refine ift rfl rfl ?_
 refine ⟨by decide,?_⟩
 refine ga ?_
 refine ⟨⟨by omega,by omega⟩,?_⟩
 refine gz col hc (by rw [Int.toNat_natCast]) ?_
 refine ce (z_Sign (z:=W 1 col) (by have:=hl 1 (by decide); omega)) rfl ?_
 refine ifs rfl (fun h=>?_) (fun h1=>?_)
 ·have h : W 1 col ≠ 0:=by rw [← sgn_nz]; simpa using h
  refine ift rfl rfl ?_
  refine rqa [0,1,2,3,4,5,6,7,8,9,10,11,12,13,14,15,16,17,18,19,20,21,22,23,24,25,26,27] [(9,[3],some []),(25,[],some [3])] ?_
  refine ⟨by decide,?_⟩
  refine ga ?_
  refine ⟨by decide,?_⟩
  refine ga ?_
  refine ⟨by decide,?_⟩
  refine ⟨(by decide : 1 + 1 ≤ 2),?_⟩
  refine ⟨by decide,?_⟩
  refine ⟨(by decide : 0 + 1 ≤ 2),?_⟩
  refine fin [0,2,1,3,4] rfl (.inr ⟨1,by decide,by decide,h,rfl,?_⟩)
  cases odd <;> rfl
 have h1 : W 1 col = 0:=Classical.byContradiction fun e=>by have:=(sgn_nz _).2 e; simp [this] at h1
 refine iff_ rfl rfl ?_
 refine fin0 (.inl ⟨rfl,rfl,fun i g1 g2=>?_⟩)
 match i,g1,g2 with
 | 0,_,_=>exact h0
 | 1,_,_=>exact h1
theorem b_find2_1 {m col : Nat} {W : Nat → Nat → Int} {P : List Nat} {d : Int} {odd : Bool} (hm : m ≤ 64) (hc : col < m) (hl : ∀ i,i < 2 → li (W i col) ≤ 100000) :
  Ec Tryz.prog 563 (fun i=>(Nat.ble 1 i && Nat.ble i 2) || Nat.ble 5 i) (hb2 m W 1 P d odd) [.ref 4 0,ri .i64 col]
   (fun x H'=>(x = rb false ∧ H' = hb2 m W 1 P d odd ∧ ∀ i,1 ≤ i → i < 2 → W i col = 0) ∨ ∃ i,1 ≤ i ∧ i < 2 ∧ W i col ≠ 0 ∧ x = rb true ∧ H' = hb2 m (swp W 1 i) 1 P d (odd != decide (i ≠ 1))):=by
 refine ec Tryz.func563 ?_
 refine lpn 2 ?_
 refine ift rfl rfl ?_
 refine ⟨by decide,?_⟩
 refine ga ?_
 refine ⟨⟨by omega,by omega⟩,?_⟩
 refine gz col hc (by rw [Int.toNat_natCast]) ?_
 refine ce (z_Sign (z:=W 1 col) (by have:=hl 1 (by decide); omega)) rfl ?_
 refine ifs rfl (fun h=>?_) (fun h1=>?_)
 ·have h : W 1 col ≠ 0:=by rw [← sgn_nz]; simpa using h
  refine iff_ rfl rfl ?_
  refine fin0 (.inr ⟨1,by decide,by decide,h,rfl,?_⟩)
  rw [swp_self]; cases odd <;> rfl
 have h1 : W 1 col = 0:=Classical.byContradiction fun e=>by have:=(sgn_nz _).2 e; simp [this] at h1
 refine iff_ rfl rfl ?_
 refine fin0 (.inl ⟨rfl,rfl,fun i g1 g2=>?_⟩)
 match i,g1,g2 with
 | 1,_,_=>exact h1
theorem b_find3_0 {m col : Nat} {W : Nat → Nat → Int} {P : List Nat} {d : Int} {odd : Bool} (hm : m ≤ 64) (hc : col < m) (hl : ∀ i,i < 3 → li (W i col) ≤ 100000) :
  Ec Tryz.prog 563 (fun i=>(Nat.ble 1 i && Nat.ble i 3) || Nat.ble 6 i) (hb3 m W 0 P d odd) [.ref 5 0,ri .i64 col]
   (fun x H'=>(x = rb false ∧ H' = hb3 m W 0 P d odd ∧ ∀ i,0 ≤ i → i < 3 → W i col = 0) ∨ ∃ i,0 ≤ i ∧ i < 3 ∧ W i col ≠ 0 ∧ x = rb true ∧ H' = hb3 m (swp W 0 i) 0 P d (odd != decide (i ≠ 0))):=by
 refine ec Tryz.func563 ?_
 refine lpn 4 ?_
 refine ift rfl rfl ?_
 refine ⟨by decide,?_⟩
 refine ga ?_
 refine ⟨⟨by omega,by omega⟩,?_⟩
 refine gz col hc (by rw [Int.toNat_natCast]) ?_
 refine ce (z_Sign (z:=W 0 col) (by have:=hl 0 (by decide); omega)) rfl ?_
 refine ifs rfl (fun h=>?_) (fun h0=>?_)
 ·have h : W 0 col ≠ 0:=by rw [← sgn_nz]; simpa using h
  refine iff_ rfl rfl ?_
  refine fin0 (.inr ⟨0,by decide,by decide,h,rfl,?_⟩)
  rw [swp_self]; cases odd <;> rfl
 have h0 : W 0 col = 0:=Classical.byContradiction fun e=>by have:=(sgn_nz _).2 e; simp [this] at h0
 refine ift rfl rfl ?_
 refine ⟨by decide,?_⟩
 refine ga ?_
 refine ⟨⟨by omega,by omega⟩,?_⟩
 refine gz col hc (by rw [Int.toNat_natCast]) ?_
 refine ce (z_Sign (z:=W 1 col) (by have:=hl 1 (by decide); omega)) rfl ?_
 refine ifs rfl (fun h=>?_) (fun h1=>?_)
 ·have h : W 1 col ≠ 0:=by rw [← sgn_nz]; simpa using h
  refine ift rfl rfl ?_
  refine rqa [0,1,2,3,4,5,6,7,8,9,10,11,12,13,14,15,16,17,18,19,20,21,22,23,24,25,26,27] [(9,[4],some []),(25,[],some [4])] ?_
  refine ⟨by decide,?_⟩
  refine ga ?_
  refine ⟨by decide,?_⟩
  refine ga ?_
  refine ⟨by decide,?_⟩
  refine ⟨(by decide : 1 + 1 ≤ 3),?_⟩
  refine ⟨by decide,?_⟩
  refine ⟨(by decide : 0 + 1 ≤ 3),?_⟩
  refine fin [0,2,1,3,4,5] rfl (.inr ⟨1,by decide,by decide,h,rfl,?_⟩)
  cases odd <;> rfl
 have h1 : W 1 col = 0:=Classical.byContradiction fun e=>by have:=(sgn_nz _).2 e; simp [this] at h1
 refine ift rfl rfl ?_
 refine ⟨by decide,?_⟩
 refine ga ?_
 refine ⟨⟨by omega,by omega⟩,?_⟩
 refine gz col hc (by rw [Int.toNat_natCast]) ?_
 refine ce (z_Sign (z:=W 2 col) (by have:=hl 2 (by decide); omega)) rfl ?_
 refine ifs rfl (fun h=>?_) (fun h2=>?_)
 ·have h : W 2 col ≠ 0:=by rw [← sgn_nz]; simpa using h
  refine ift rfl rfl ?_
  refine rqa [0,1,2,3,4,5,6,7,8,9,10,11,12,13,14,15,16,17,18,19,20,21,22,23,24,25,26,27] [(9,[4],some []),(25,[],some [4])] ?_
  refine ⟨by decide,?_⟩
  refine ga ?_
  refine ⟨by decide,?_⟩
  refine ga ?_
  refine ⟨by decide,?_⟩
  refine ⟨(by decide : 2 + 1 ≤ 3),?_⟩
  refine ⟨by decide,?_⟩
  refine ⟨(by decide : 0 + 1 ≤ 3),?_⟩
  refine fin [0,3,2,1,4,5] rfl (.inr ⟨2,by decide,by decide,h,rfl,?_⟩)
  cases odd <;> rfl
 have h2 : W 2 col = 0:=Classical.byContradiction fun e=>by have:=(sgn_nz _).2 e; simp [this] at h2
 refine iff_ rfl rfl ?_
 refine fin0 (.inl ⟨rfl,rfl,fun i g1 g2=>?_⟩)
 match i,g1,g2 with
 | 0,_,_=>exact h0
 | 1,_,_=>exact h1
 | 2,_,_=>exact h2
theorem b_find3_1 {m col : Nat} {W : Nat → Nat → Int} {P : List Nat} {d : Int} {odd : Bool} (hm : m ≤ 64) (hc : col < m) (hl : ∀ i,i < 3 → li (W i col) ≤ 100000) :
  Ec Tryz.prog 563 (fun i=>(Nat.ble 1 i && Nat.ble i 3) || Nat.ble 6 i) (hb3 m W 1 P d odd) [.ref 5 0,ri .i64 col]
   (fun x H'=>(x = rb false ∧ H' = hb3 m W 1 P d odd ∧ ∀ i,1 ≤ i → i < 3 → W i col = 0) ∨ ∃ i,1 ≤ i ∧ i < 3 ∧ W i col ≠ 0 ∧ x = rb true ∧ H' = hb3 m (swp W 1 i) 1 P d (odd != decide (i ≠ 1))):=by
 refine ec Tryz.func563 ?_
 refine lpn 3 ?_
 refine ift rfl rfl ?_
 refine ⟨by decide,?_⟩
 refine ga ?_
 refine ⟨⟨by omega,by omega⟩,?_⟩
 refine gz col hc (by rw [Int.toNat_natCast]) ?_
 refine ce (z_Sign (z:=W 1 col) (by have:=hl 1 (by decide); omega)) rfl ?_
 refine ifs rfl (fun h=>?_) (fun h1=>?_)
 ·have h : W 1 col ≠ 0:=by rw [← sgn_nz]; simpa using h
  refine iff_ rfl rfl ?_
  refine fin0 (.inr ⟨1,by decide,by decide,h,rfl,?_⟩)
  rw [swp_self]; cases odd <;> rfl
 have h1 : W 1 col = 0:=Classical.byContradiction fun e=>by have:=(sgn_nz _).2 e; simp [this] at h1
 refine ift rfl rfl ?_
 refine ⟨by decide,?_⟩
 refine ga ?_
 refine ⟨⟨by omega,by omega⟩,?_⟩
 refine gz col hc (by rw [Int.toNat_natCast]) ?_
 refine ce (z_Sign (z:=W 2 col) (by have:=hl 2 (by decide); omega)) rfl ?_
 refine ifs rfl (fun h=>?_) (fun h2=>?_)
 ·have h : W 2 col ≠ 0:=by rw [← sgn_nz]; simpa using h
  refine ift rfl rfl ?_
  refine rqa [0,1,2,3,4,5,6,7,8,9,10,11,12,13,14,15,16,17,18,19,20,21,22,23,24,25,26,27] [(9,[4],some []),(25,[],some [4])] ?_
  refine ⟨by decide,?_⟩
  refine ga ?_
  refine ⟨by decide,?_⟩
  refine ga ?_
  refine ⟨by decide,?_⟩
  refine ⟨(by decide : 2 + 1 ≤ 3),?_⟩
  refine ⟨by decide,?_⟩
  refine ⟨(by decide : 1 + 1 ≤ 3),?_⟩
  refine fin [0,1,3,2,4,5] rfl (.inr ⟨2,by decide,by decide,h,rfl,?_⟩)
  cases odd <;> rfl
 have h2 : W 2 col = 0:=Classical.byContradiction fun e=>by have:=(sgn_nz _).2 e; simp [this] at h2
 refine iff_ rfl rfl ?_
 refine fin0 (.inl ⟨rfl,rfl,fun i g1 g2=>?_⟩)
 match i,g1,g2 with
 | 1,_,_=>exact h1
 | 2,_,_=>exact h2
theorem b_find3_2 {m col : Nat} {W : Nat → Nat → Int} {P : List Nat} {d : Int} {odd : Bool} (hm : m ≤ 64) (hc : col < m) (hl : ∀ i,i < 3 → li (W i col) ≤ 100000) :
  Ec Tryz.prog 563 (fun i=>(Nat.ble 1 i && Nat.ble i 3) || Nat.ble 6 i) (hb3 m W 2 P d odd) [.ref 5 0,ri .i64 col]
   (fun x H'=>(x = rb false ∧ H' = hb3 m W 2 P d odd ∧ ∀ i,2 ≤ i → i < 3 → W i col = 0) ∨ ∃ i,2 ≤ i ∧ i < 3 ∧ W i col ≠ 0 ∧ x = rb true ∧ H' = hb3 m (swp W 2 i) 2 P d (odd != decide (i ≠ 2))):=by
 refine ec Tryz.func563 ?_
 refine lpn 2 ?_
 refine ift rfl rfl ?_
 refine ⟨by decide,?_⟩
 refine ga ?_
 refine ⟨⟨by omega,by omega⟩,?_⟩
 refine gz col hc (by rw [Int.toNat_natCast]) ?_
 refine ce (z_Sign (z:=W 2 col) (by have:=hl 2 (by decide); omega)) rfl ?_
 refine ifs rfl (fun h=>?_) (fun h2=>?_)
 ·have h : W 2 col ≠ 0:=by rw [← sgn_nz]; simpa using h
  refine iff_ rfl rfl ?_
  refine fin0 (.inr ⟨2,by decide,by decide,h,rfl,?_⟩)
  rw [swp_self]; cases odd <;> rfl
 have h2 : W 2 col = 0:=Classical.byContradiction fun e=>by have:=(sgn_nz _).2 e; simp [this] at h2
 refine iff_ rfl rfl ?_
 refine fin0 (.inl ⟨rfl,rfl,fun i g1 g2=>?_⟩)
 match i,g1,g2 with
 | 2,_,_=>exact h2
theorem b_find4_0 {m col : Nat} {W : Nat → Nat → Int} {P : List Nat} {d : Int} {odd : Bool} (hm : m ≤ 64) (hc : col < m) (hl : ∀ i,i < 4 → li (W i col) ≤ 100000) :
  Ec Tryz.prog 563 (fun i=>(Nat.ble 1 i && Nat.ble i 4) || Nat.ble 7 i) (hb4 m W 0 P d odd) [.ref 6 0,ri .i64 col]
   (fun x H'=>(x = rb false ∧ H' = hb4 m W 0 P d odd ∧ ∀ i,0 ≤ i → i < 4 → W i col = 0) ∨ ∃ i,0 ≤ i ∧ i < 4 ∧ W i col ≠ 0 ∧ x = rb true ∧ H' = hb4 m (swp W 0 i) 0 P d (odd != decide (i ≠ 0))):=by
 refine ec Tryz.func563 ?_
 refine lpn 5 ?_
 refine ift rfl rfl ?_
 refine ⟨by decide,?_⟩
 refine ga ?_
 refine ⟨⟨by omega,by omega⟩,?_⟩
 refine gz col hc (by rw [Int.toNat_natCast]) ?_
 refine ce (z_Sign (z:=W 0 col) (by have:=hl 0 (by decide); omega)) rfl ?_
 refine ifs rfl (fun h=>?_) (fun h0=>?_)
 ·have h : W 0 col ≠ 0:=by rw [← sgn_nz]; simpa using h
  refine iff_ rfl rfl ?_
  refine fin0 (.inr ⟨0,by decide,by decide,h,rfl,?_⟩)
  rw [swp_self]; cases odd <;> rfl
 have h0 : W 0 col = 0:=Classical.byContradiction fun e=>by have:=(sgn_nz _).2 e; simp [this] at h0
 refine ift rfl rfl ?_
 refine ⟨by decide,?_⟩
 refine ga ?_
 refine ⟨⟨by omega,by omega⟩,?_⟩
 refine gz col hc (by rw [Int.toNat_natCast]) ?_
 refine ce (z_Sign (z:=W 1 col) (by have:=hl 1 (by decide); omega)) rfl ?_
 refine ifs rfl (fun h=>?_) (fun h1=>?_)
 ·have h : W 1 col ≠ 0:=by rw [← sgn_nz]; simpa using h
  refine ift rfl rfl ?_
  refine rqa [0,1,2,3,4,5,6,7,8,9,10,11,12,13,14,15,16,17,18,19,20,21,22,23,24,25,26,27] [(9,[5],some []),(25,[],some [5])] ?_
  refine ⟨by decide,?_⟩
  refine ga ?_
  refine ⟨by decide,?_⟩
  refine ga ?_
  refine ⟨by decide,?_⟩
  refine ⟨(by decide : 1 + 1 ≤ 4),?_⟩
  refine ⟨by decide,?_⟩
  refine ⟨(by decide : 0 + 1 ≤ 4),?_⟩
  refine fin [0,2,1,3,4,5,6] rfl (.inr ⟨1,by decide,by decide,h,rfl,?_⟩)
  cases odd <;> rfl
 have h1 : W 1 col = 0:=Classical.byContradiction fun e=>by have:=(sgn_nz _).2 e; simp [this] at h1
 refine ift rfl rfl ?_
 refine ⟨by decide,?_⟩
 refine ga ?_
 refine ⟨⟨by omega,by omega⟩,?_⟩
 refine gz col hc (by rw [Int.toNat_natCast]) ?_
 refine ce (z_Sign (z:=W 2 col) (by have:=hl 2 (by decide); omega)) rfl ?_
 refine ifs rfl (fun h=>?_) (fun h2=>?_)
 ·have h : W 2 col ≠ 0:=by rw [← sgn_nz]; simpa using h
  refine ift rfl rfl ?_
  refine rqa [0,1,2,3,4,5,6,7,8,9,10,11,12,13,14,15,16,17,18,19,20,21,22,23,24,25,26,27] [(9,[5],some []),(25,[],some [5])] ?_
  refine ⟨by decide,?_⟩
  refine ga ?_
  refine ⟨by decide,?_⟩
  refine ga ?_
  refine ⟨by decide,?_⟩
  refine ⟨(by decide : 2 + 1 ≤ 4),?_⟩
  refine ⟨by decide,?_⟩
  refine ⟨(by decide : 0 + 1 ≤ 4),?_⟩
  refine fin [0,3,2,1,4,5,6] rfl (.inr ⟨2,by decide,by decide,h,rfl,?_⟩)
  cases odd <;> rfl
 have h2 : W 2 col = 0:=Classical.byContradiction fun e=>by have:=(sgn_nz _).2 e; simp [this] at h2
 refine ift rfl rfl ?_
 refine ⟨by decide,?_⟩
 refine ga ?_
 refine ⟨⟨by omega,by omega⟩,?_⟩
 refine gz col hc (by rw [Int.toNat_natCast]) ?_
 refine ce (z_Sign (z:=W 3 col) (by have:=hl 3 (by decide); omega)) rfl ?_
 refine ifs rfl (fun h=>?_) (fun h3=>?_)
 ·have h : W 3 col ≠ 0:=by rw [← sgn_nz]; simpa using h
  refine ift rfl rfl ?_
  refine rqa [0,1,2,3,4,5,6,7,8,9,10,11,12,13,14,15,16,17,18,19,20,21,22,23,24,25,26,27] [(9,[5],some []),(25,[],some [5])] ?_
  refine ⟨by decide,?_⟩
  refine ga ?_
  refine ⟨by decide,?_⟩
  refine ga ?_
  refine ⟨by decide,?_⟩
  refine ⟨(by decide : 3 + 1 ≤ 4),?_⟩
  refine ⟨by decide,?_⟩
  refine ⟨(by decide : 0 + 1 ≤ 4),?_⟩
  refine fin [0,4,2,3,1,5,6] rfl (.inr ⟨3,by decide,by decide,h,rfl,?_⟩)
  cases odd <;> rfl
 have h3 : W 3 col = 0:=Classical.byContradiction fun e=>by have:=(sgn_nz _).2 e; simp [this] at h3
 refine iff_ rfl rfl ?_
 refine fin0 (.inl ⟨rfl,rfl,fun i g1 g2=>?_⟩)
 match i,g1,g2 with
 | 0,_,_=>exact h0
 | 1,_,_=>exact h1
 | 2,_,_=>exact h2
 | 3,_,_=>exact h3
theorem b_find4_1 {m col : Nat} {W : Nat → Nat → Int} {P : List Nat} {d : Int} {odd : Bool} (hm : m ≤ 64) (hc : col < m) (hl : ∀ i,i < 4 → li (W i col) ≤ 100000) :
  Ec Tryz.prog 563 (fun i=>(Nat.ble 1 i && Nat.ble i 4) || Nat.ble 7 i) (hb4 m W 1 P d odd) [.ref 6 0,ri .i64 col]
   (fun x H'=>(x = rb false ∧ H' = hb4 m W 1 P d odd ∧ ∀ i,1 ≤ i → i < 4 → W i col = 0) ∨ ∃ i,1 ≤ i ∧ i < 4 ∧ W i col ≠ 0 ∧ x = rb true ∧ H' = hb4 m (swp W 1 i) 1 P d (odd != decide (i ≠ 1))):=by
 refine ec Tryz.func563 ?_
 refine lpn 4 ?_
 refine ift rfl rfl ?_
 refine ⟨by decide,?_⟩
 refine ga ?_
 refine ⟨⟨by omega,by omega⟩,?_⟩
 refine gz col hc (by rw [Int.toNat_natCast]) ?_
 refine ce (z_Sign (z:=W 1 col) (by have:=hl 1 (by decide); omega)) rfl ?_
 refine ifs rfl (fun h=>?_) (fun h1=>?_)
 ·have h : W 1 col ≠ 0:=by rw [← sgn_nz]; simpa using h
  refine iff_ rfl rfl ?_
  refine fin0 (.inr ⟨1,by decide,by decide,h,rfl,?_⟩)
  rw [swp_self]; cases odd <;> rfl
 have h1 : W 1 col = 0:=Classical.byContradiction fun e=>by have:=(sgn_nz _).2 e; simp [this] at h1
 refine ift rfl rfl ?_
 refine ⟨by decide,?_⟩
 refine ga ?_
 refine ⟨⟨by omega,by omega⟩,?_⟩
 refine gz col hc (by rw [Int.toNat_natCast]) ?_
 refine ce (z_Sign (z:=W 2 col) (by have:=hl 2 (by decide); omega)) rfl ?_
 refine ifs rfl (fun h=>?_) (fun h2=>?_)
 ·have h : W 2 col ≠ 0:=by rw [← sgn_nz]; simpa using h
  refine ift rfl rfl ?_
  refine rqa [0,1,2,3,4,5,6,7,8,9,10,11,12,13,14,15,16,17,18,19,20,21,22,23,24,25,26,27] [(9,[5],some []),(25,[],some [5])] ?_
  refine ⟨by decide,?_⟩
  refine ga ?_
  refine ⟨by decide,?_⟩
  refine ga ?_
  refine ⟨by decide,?_⟩
  refine ⟨(by decide : 2 + 1 ≤ 4),?_⟩
  refine ⟨by decide,?_⟩
  refine ⟨(by decide : 1 + 1 ≤ 4),?_⟩
  refine fin [0,1,3,2,4,5,6] rfl (.inr ⟨2,by decide,by decide,h,rfl,?_⟩)
  cases odd <;> rfl
 have h2 : W 2 col = 0:=Classical.byContradiction fun e=>by have:=(sgn_nz _).2 e; simp [this] at h2
 refine ift rfl rfl ?_
 refine ⟨by decide,?_⟩
 refine ga ?_
 refine ⟨⟨by omega,by omega⟩,?_⟩
 refine gz col hc (by rw [Int.toNat_natCast]) ?_
 refine ce (z_Sign (z:=W 3 col) (by have:=hl 3 (by decide); omega)) rfl ?_
 refine ifs rfl (fun h=>?_) (fun h3=>?_)
 ·have h : W 3 col ≠ 0:=by rw [← sgn_nz]; simpa using h
  refine ift rfl rfl ?_
  refine rqa [0,1,2,3,4,5,6,7,8,9,10,11,12,13,14,15,16,17,18,19,20,21,22,23,24,25,26,27] [(9,[5],some []),(25,[],some [5])] ?_
  refine ⟨by decide,?_⟩
  refine ga ?_
  refine ⟨by decide,?_⟩
  refine ga ?_
  refine ⟨by decide,?_⟩
  refine ⟨(by decide : 3 + 1 ≤ 4),?_⟩
  refine ⟨by decide,?_⟩
  refine ⟨(by decide : 1 + 1 ≤ 4),?_⟩
  refine fin [0,1,4,3,2,5,6] rfl (.inr ⟨3,by decide,by decide,h,rfl,?_⟩)
  cases odd <;> rfl
 have h3 : W 3 col = 0:=Classical.byContradiction fun e=>by have:=(sgn_nz _).2 e; simp [this] at h3
 refine iff_ rfl rfl ?_
 refine fin0 (.inl ⟨rfl,rfl,fun i g1 g2=>?_⟩)
 match i,g1,g2 with
 | 1,_,_=>exact h1
 | 2,_,_=>exact h2
 | 3,_,_=>exact h3
theorem b_find4_2 {m col : Nat} {W : Nat → Nat → Int} {P : List Nat} {d : Int} {odd : Bool} (hm : m ≤ 64) (hc : col < m) (hl : ∀ i,i < 4 → li (W i col) ≤ 100000) :
  Ec Tryz.prog 563 (fun i=>(Nat.ble 1 i && Nat.ble i 4) || Nat.ble 7 i) (hb4 m W 2 P d odd) [.ref 6 0,ri .i64 col]
   (fun x H'=>(x = rb false ∧ H' = hb4 m W 2 P d odd ∧ ∀ i,2 ≤ i → i < 4 → W i col = 0) ∨ ∃ i,2 ≤ i ∧ i < 4 ∧ W i col ≠ 0 ∧ x = rb true ∧ H' = hb4 m (swp W 2 i) 2 P d (odd != decide (i ≠ 2))):=by
 refine ec Tryz.func563 ?_
 refine lpn 3 ?_
 refine ift rfl rfl ?_
 refine ⟨by decide,?_⟩
 refine ga ?_
 refine ⟨⟨by omega,by omega⟩,?_⟩
 refine gz col hc (by rw [Int.toNat_natCast]) ?_
 refine ce (z_Sign (z:=W 2 col) (by have:=hl 2 (by decide); omega)) rfl ?_
 refine ifs rfl (fun h=>?_) (fun h2=>?_)
 ·have h : W 2 col ≠ 0:=by rw [← sgn_nz]; simpa using h
  refine iff_ rfl rfl ?_
  refine fin0 (.inr ⟨2,by decide,by decide,h,rfl,?_⟩)
  rw [swp_self]; cases odd <;> rfl
 have h2 : W 2 col = 0:=Classical.byContradiction fun e=>by have:=(sgn_nz _).2 e; simp [this] at h2
 refine ift rfl rfl ?_
 refine ⟨by decide,?_⟩
 refine ga ?_
 refine ⟨⟨by omega,by omega⟩,?_⟩
 refine gz col hc (by rw [Int.toNat_natCast]) ?_
 refine ce (z_Sign (z:=W 3 col) (by have:=hl 3 (by decide); omega)) rfl ?_
 refine ifs rfl (fun h=>?_) (fun h3=>?_)
 ·have h : W 3 col ≠ 0:=by rw [← sgn_nz]; simpa using h
  refine ift rfl rfl ?_
  refine rqa [0,1,2,3,4,5,6,7,8,9,10,11,12,13,14,15,16,17,18,19,20,21,22,23,24,25,26,27] [(9,[5],some []),(25,[],some [5])] ?_
  refine ⟨by decide,?_⟩
  refine ga ?_
  refine ⟨by decide,?_⟩
  refine ga ?_
  refine ⟨by decide,?_⟩
  refine ⟨(by decide : 3 + 1 ≤ 4),?_⟩
  refine ⟨by decide,?_⟩
  refine ⟨(by decide : 2 + 1 ≤ 4),?_⟩
  refine fin [0,1,2,4,3,5,6] rfl (.inr ⟨3,by decide,by decide,h,rfl,?_⟩)
  cases odd <;> rfl
 have h3 : W 3 col = 0:=Classical.byContradiction fun e=>by have:=(sgn_nz _).2 e; simp [this] at h3
 refine iff_ rfl rfl ?_
 refine fin0 (.inl ⟨rfl,rfl,fun i g1 g2=>?_⟩)
 match i,g1,g2 with
 | 2,_,_=>exact h2
 | 3,_,_=>exact h3
theorem b_find4_3 {m col : Nat} {W : Nat → Nat → Int} {P : List Nat} {d : Int} {odd : Bool} (hm : m ≤ 64) (hc : col < m) (hl : ∀ i,i < 4 → li (W i col) ≤ 100000) :
  Ec Tryz.prog 563 (fun i=>(Nat.ble 1 i && Nat.ble i 4) || Nat.ble 7 i) (hb4 m W 3 P d odd) [.ref 6 0,ri .i64 col]
   (fun x H'=>(x = rb false ∧ H' = hb4 m W 3 P d odd ∧ ∀ i,3 ≤ i → i < 4 → W i col = 0) ∨ ∃ i,3 ≤ i ∧ i < 4 ∧ W i col ≠ 0 ∧ x = rb true ∧ H' = hb4 m (swp W 3 i) 3 P d (odd != decide (i ≠ 3))):=by
 refine ec Tryz.func563 ?_
 refine lpn 2 ?_
 refine ift rfl rfl ?_
 refine ⟨by decide,?_⟩
 refine ga ?_
 refine ⟨⟨by omega,by omega⟩,?_⟩
 refine gz col hc (by rw [Int.toNat_natCast]) ?_
 refine ce (z_Sign (z:=W 3 col) (by have:=hl 3 (by decide); omega)) rfl ?_
 refine ifs rfl (fun h=>?_) (fun h3=>?_)
 ·have h : W 3 col ≠ 0:=by rw [← sgn_nz]; simpa using h
  refine iff_ rfl rfl ?_
  refine fin0 (.inr ⟨3,by decide,by decide,h,rfl,?_⟩)
  rw [swp_self]; cases odd <;> rfl
 have h3 : W 3 col = 0:=Classical.byContradiction fun e=>by have:=(sgn_nz _).2 e; simp [this] at h3
 refine iff_ rfl rfl ?_
 refine fin0 (.inl ⟨rfl,rfl,fun i g1 g2=>?_⟩)
 match i,g1,g2 with
 | 3,_,_=>exact h3
end Go.Proofs.YtlhmaljjdpjkgaaGreatDoor
