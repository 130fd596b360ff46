/- What quiet operations yield is what they do. -/
import Derived.MapKept
import Derived.Test.YtlhmaljjdpjkgaaGreatDoorTaM2
namespace Go.Proofs.YtlhmaljjdpjkgaaGreatDoor
open Go Go.RowKit
section
variable {P : Program} {w : World}
theorem run_isAgg' {t : Nat} (h : (P.underlying t).isSome = true) : (isAgg t).run P w = .ok (isag P t) w:=by
 unfold isAgg isag underlying
 cases hu : P.underlying t with
 | none=>rw [hu] at h; cases h
 | some d=>cases d <;> simp [program,Sem.run,hu]
theorem run_isAgg {t : Nat} {s : Sh} (h : shof P t = some s) : (isAgg t).run P w = .ok (isag P t) w:=by
 refine run_isAgg' ?_
 unfold shof at h
 cases hu : P.underlying t with
 | none=>rw [hu] at h; cases h
 | some d=>rfl
theorem run_info {t : Nat} {i : TypeInfo} (h : P.info? t = some i) : (typeInfo t).run P w = .ok i w:=by
 simp [typeInfo,program,Sem.run,h]
theorem run_size {t : Nat} {i : TypeInfo} (h : P.info? t = some i) : (sizeOf t).run P w = .ok i.size w:=by
 simp [sizeOf,run_info h]
theorem run_zero {t : Nat} {i : TypeInfo} {z : Value} (h : P.info? t = some i) (hz : i.zero = some z) : (zeroValue t).run P w = .ok z w:=by
 simp [zeroValue,run_info h,hz]
theorem add_spot (g o n : Nat) : Addr.add ⟨g,o,none⟩ n = ⟨g,o + n,none⟩:=by
 unfold Addr.add; split
 ·rename_i h; subst h; rfl
 ·rfl
theorem run_loadVar_ag {t : Nat} {d : TD} (hd : td P t = some d) (ha : d.ag = true) {g o : Nat} {vs : List Value} (hl : vs.length = d.size) (hc : ∀ (j : Nat) v,vs[j]? = some v → w.cell? ⟨g,o + j,none⟩ = some v) :
  (loadVar t ⟨g,o,none⟩).run P w = .ok (.agg vs.toArray) w:=by
 obtain ⟨i,z,h1,h2,h3,h4,h5,h6,h7,h8,-⟩:=td_parts hd
 have:=run_loadCells_list (P:=P) w ⟨g,o,none⟩ vs (fun j v hv=>by rw [add_spot]; exact hc j v hv)
 simp [loadVar,run_isAgg h8,h7,ha,run_size h1,h5,← hl,this]
theorem run_loadVar_ce {t : Nat} {d : TD} (hd : td P t = some d) (ha : d.ag = false) {a : Addr} {v : Value} (hc : w.cell? a = some v) :
  (loadVar t a).run P w = .ok v w:=by
 obtain ⟨i,z,h1,h2,h3,h4,h5,h6,h7,h8,-⟩:=td_parts hd
 simp [loadVar,run_isAgg h8,h7,ha,load,Sem.run,hc]
end
section
variable {P : Program} {T : TT} {μ : List Value} {B : Nat → Prop} {w : World} {H : List AO}
theorem CiL.at {M : Nat → Prop} {cs : List IV} {vs : List Value} (h : CiL M w cs vs) {j : Nat} {x : IV} (hx : cs[j]? = some x) : ∃ v,vs[j]? = some v ∧ Ci M w x v:=by
 have hj:=(List.getElem?_eq_some_iff.1 hx).1
 have hv : vs[j]? = some (vs[j]'(by rw [h.1]; exact hj)):=List.getElem?_eq_getElem _
 exact ⟨_,hv,h.2 j _ _ hx hv⟩
theorem CnL.at {M : Nat → Prop} {cs : List AV} {vs : List Value} (h : CnL μ M w cs vs) {j : Nat} {x : AV} (hx : cs[j]? = some x) : ∃ v,vs[j]? = some v ∧ Cn μ M w x v:=by
 have hj:=(List.getElem?_eq_some_iff.1 hx).1
 have hv : vs[j]? = some (vs[j]'(by rw [h.1]; exact hj)):=List.getElem?_eq_getElem _
 exact ⟨_,hv,h.2 j _ _ hx hv⟩
theorem fam {cs : List IV} {M : Nat → Prop} {b o : Nat} {vs : Nat → Value} (h1 : ∀ (j : Nat),j < cs.length → w.cell? ⟨b,o + j,none⟩ = some (vs j)) (h2 : ∀ (j : Nat) x,cs[j]? = some x → Ci M w x (vs j)) (h3 : ∀ (j : Nat),j < cs.length → (vs j).oneCell' = true) :
  CiL M w cs ((List.range cs.length).map vs) ∧ (∀ (j : Nat) u,((List.range cs.length).map vs)[j]? = some u → w.cell? ⟨b,o + j,none⟩ = some u) ∧ Ones ((List.range cs.length).map vs):=by
 have key : ∀ (j : Nat) u,((List.range cs.length).map vs)[j]? = some u → j < cs.length ∧ u = vs j:=by
  intro j u hu
  simp only [List.getElem?_map,Option.map_eq_some_iff] at hu
  obtain ⟨i,hi,rfl⟩:=hu
  have hj : j < cs.length:=by have:=(List.getElem?_eq_some_iff.1 hi).1; simpa using this
  rw [List.getElem?_range hj] at hi
  simp at hi; subst hi; exact ⟨hj,rfl⟩
 refine ⟨⟨by simp,fun j x v hx hv=>?_⟩,fun j u hu=>?_,fun v hv=>?_⟩
 ·obtain ⟨-,rfl⟩:=key j v hv; exact h2 j x hx
 ·obtain ⟨hj,rfl⟩:=key j u hu; exact h1 j hj
 ·simp only [List.mem_map,List.mem_range] at hv; obtain ⟨j,hj,rfl⟩:=hv; exact h3 j hj
theorem Ci.cells {M : Nat → Prop} {cs : List IV} {v : Value} (h : Ci M w (.ip cs) v) : ∃ b o vs,v = .pointer (some ⟨b,o,none⟩) ∧ CiL M w cs vs ∧ (∀ (j : Nat) u,vs[j]? = some u → w.cell? ⟨b,o + j,none⟩ = some u) ∧ (cs ≠ [] → ¬ M b) ∧ Ones vs:=by
 cases h with
 | @ip _ b o vs ha h1 h2 h3=>obtain ⟨k1,k2,k3⟩:=fam h1 h2 h3; exact ⟨b,o,_,rfl,k1,k2,ha,k3⟩
theorem Ci.slice {M : Nat → Prop} {n k : Nat} {cs : List IV} {v : Value} (h : Ci M w (.sl n k cs) v) : ∃ ao b o cap vs,v = .slice ao n cap ∧ n ≤ cap ∧ n * k = cs.length ∧ (cs ≠ [] → ao = some ⟨b,o,none⟩ ∧ ¬ M b) ∧ CiL M w cs vs ∧ (∀ (j : Nat) u,vs[j]? = some u → w.cell? ⟨b,o + j,none⟩ = some u) ∧ Ones vs:=by
 cases h with
 | @sl _ _ cap _ ao b o vs hn hc ha h1 h2 h3=>obtain ⟨k1,k2,k3⟩:=fam h1 h2 h3; exact ⟨ao,b,o,cap,_,rfl,hc,hn,ha,k1,k2,k3⟩
theorem fam' {cs : List IV} {M : Nat → Prop} {b o : Nat} {vs : List Value} (h : CiL M w cs vs) (hc : ∀ (j : Nat) u,vs[j]? = some u → w.cell? ⟨b,o + j,none⟩ = some u) (ho : Ones vs) :
  (∀ (j : Nat),j < cs.length → w.cell? ⟨b,o + j,none⟩ = some ((fun j=>vs.getD j undef) j)) ∧ (∀ (j : Nat) x,cs[j]? = some x → Ci M w x ((fun j=>vs.getD j undef) j)) ∧ (∀ (j : Nat),j < cs.length → ((fun j=>vs.getD j undef) j).oneCell' = true):=by
 have key : ∀ j,j < cs.length → ∃ v,vs[j]? = some v ∧ vs.getD j undef = v:=fun j hj=>by
  have hv : vs[j]? = some (vs[j]'(by rw [h.1]; exact hj)):=List.getElem?_eq_getElem _
  exact ⟨_,hv,by simp [List.getD,hv]⟩
 refine ⟨fun j hj=>?_,fun j x hx=>?_,fun j hj=>?_⟩
 ·obtain ⟨v,h1,h2⟩:=key j hj; simp only; rw [h2]; exact hc j v h1
 ·obtain ⟨v,h1,h2⟩:=key j (List.getElem?_eq_some_iff.1 hx).1; simp only; rw [h2]; exact h.2 j x v hx h1
 ·obtain ⟨v,h1,h2⟩:=key j hj; simp only; rw [h2]; exact ho v (List.mem_of_getElem? h1)
theorem Ci.mk_ip {M : Nat → Prop} {b o : Nat} {cs : List IV} {vs : List Value} (h : CiL M w cs vs) (hc : ∀ (j : Nat) u,vs[j]? = some u → w.cell? ⟨b,o + j,none⟩ = some u) (ho : Ones vs) (ha : cs ≠ [] → ¬ M b) : Ci M w (.ip cs) (.pointer (some ⟨b,o,none⟩)):=
 have f:=fam' h hc ho
 .ip ha f.1 f.2.1 f.2.2
theorem Ci.mk_sl {M : Nat → Prop} {ao : Option Addr} {b o n k cap : Nat} {cs : List IV} {vs : List Value} (h : CiL M w cs vs) (hn : n * k = cs.length) (hcap : n ≤ cap) (hc : ∀ (j : Nat) u,vs[j]? = some u → w.cell? ⟨b,o + j,none⟩ = some u) (ho : Ones vs) (ha : cs ≠ [] → ao = some ⟨b,o,none⟩ ∧ ¬ M b) : Ci M w (.sl n k cs) (.slice ao n cap):=
 have f:=fam' h hc ho
 .sl hn hcap ha f.1 f.2.1 f.2.2
theorem Ones.drop {vs : List Value} (h : Ones vs) (n : Nat) : Ones (vs.drop n):=fun v hv=>h v (List.mem_of_mem_drop hv)
theorem Ones.take {vs : List Value} (h : Ones vs) (n : Nat) : Ones (vs.take n):=fun v hv=>h v (List.mem_of_mem_take hv)
theorem ldI_sound {M : Nat → Prop} {t : Nat} {d : TD} (hd : td P t = some d) {cs : List IV} {vs : List Value} {g o : Nat} (h : CiL M w cs vs) (hc : ∀ (j : Nat) u,vs[j]? = some u → w.cell? ⟨g,o + j,none⟩ = some u) (ho : Ones vs)
  {x : AV} (hx : ldI d.ag d.size cs = some x) : ∃ v,(loadVar t ⟨g,o,none⟩).run P w = .ok v w ∧ Cn μ M w x v:=by
 unfold ldI at hx
 cases ha : d.ag with
 | true=>
  simp only [ha,Option.map_eq_some_iff] at hx
  obtain ⟨l,hl,rfl⟩:=hx
  obtain ⟨rfl,hle⟩:=takeO_eq _ _ _ hl
  refine ⟨_,run_loadVar_ag hd ha (vs:=vs.take d.size) (by simp [h.1]; omega) (fun j v hv=>hc j v ?_),.im (.agg (by simp [h.1]) (h.take d.size).2 (ho.take _))⟩
  ·rw [List.getElem?_take] at hv; split at hv
   ·exact hv
   ·cases hv
 | false=>
  simp only [ha] at hx
  cases cs with
  | nil=>cases hx
  | cons c cs=>
   simp at hx; subst hx
   obtain ⟨v,hv,hn⟩:=h.at (j:=0) rfl
   exact ⟨v,run_loadVar_ce hd ha (by have:=hc 0 v hv; simpa using this),.im hn⟩
theorem ldA_sound {M : Nat → Prop} {t : Nat} {d : TD} (hd : td P t = some d) {cs : List AV} {vs : List Value} {g o : Nat} (h : CnL μ M w cs vs) (hc : ∀ (j : Nat) u,vs[j]? = some u → w.cell? ⟨g,o + j,none⟩ = some u) (ho : Ones vs)
  {x : AV} (hx : ldA d.ag d.size cs = some x) : ∃ v,(loadVar t ⟨g,o,none⟩).run P w = .ok v w ∧ Cn μ M w x v:=by
 unfold ldA at hx
 cases ha : d.ag with
 | true=>
  simp only [ha,Option.map_eq_some_iff] at hx
  obtain ⟨l,hl,rfl⟩:=hx
  obtain ⟨rfl,hle⟩:=takeO_eq _ _ _ hl
  refine ⟨_,run_loadVar_ag hd ha (vs:=vs.take d.size) (by simp [h.1]; omega) (fun j v hv=>hc j v ?_),.agg (by simp [h.1]) (h.take d.size).2 (ho.take _)⟩
  ·rw [List.getElem?_take] at hv; split at hv
   ·exact hv
   ·cases hv
 | false=>
  simp only [ha] at hx
  cases cs with
  | nil=>cases hx
  | cons c cs=>
   simp at hx; subst hx
   obtain ⟨v,hv,hn⟩:=h.at (j:=0) rfl
   exact ⟨v,run_loadVar_ce hd ha (by have:=hc 0 v hv; simpa using this),hn⟩
theorem Lies.cells (h : Lies μ B w H) {i g : Nat} {u : Value} (hu : μ[i]? = some u) (hb : blk u = some g) {o : AO} (ho : H[i]? = some o) :
  match o with
  | .box _ cs=>∃ vs,CnL μ (Mut μ B H) w cs vs ∧ Ones vs ∧ ∀ (j : Nat) u,vs[j]? = some u → w.cell? ⟨g,j,none⟩ = some u
  | .row _ _ _ cs=>∃ vs,CiL (Mut μ B H) w cs vs ∧ Ones vs ∧ ∀ (j : Nat) u,vs[j]? = some u → w.cell? ⟨g,j,none⟩ = some u
  | .rowa _ _ _ cs=>∃ vs,CnL μ (Mut μ B H) w cs vs ∧ Ones vs ∧ ∀ (j : Nat) u,vs[j]? = some u → w.cell? ⟨g,j,none⟩ = some u
  | _=>True:=by
 have:=h.obj i o u ho hu
 cases o with
 | box e cs=>
  obtain ⟨g',vs,rfl,h1,h2,h3⟩:=this
  simp [blk] at hb; subst hb
  exact ⟨vs,h2,h3,fun j u hu=>by simp [World.cell?,h1,hu]⟩
 | row e k n cs=>
  obtain ⟨vs,h1,h2,h3⟩:=this
  refine ⟨vs,h2,h3,fun j u hu'=>?_⟩
  have:=h1.cells (g:=g) (by
   rcases h1.2 with ⟨rfl,-⟩ | ⟨g',cap,cur,rfl,-⟩
   ·simp [blk] at hb
   ·simpa [blk,Value.ownBlock] using hb) j u hu'
  rwa [add_spot,Nat.zero_add] at this
 | rowa e k n cs=>
  obtain ⟨vs,h1,h2,h3⟩:=this
  refine ⟨vs,h2,h3,fun j u hu'=>?_⟩
  have:=h1.cells (g:=g) (by
   rcases h1.2 with ⟨rfl,-⟩ | ⟨g',cap,cur,rfl,-⟩
   ·simp [blk] at hb
   ·simpa [blk,Value.ownBlock] using hb) j u hu'
  rwa [add_spot,Nat.zero_add] at this
 | mp es=>trivial
 | dead=>trivial
theorem load_ptr {t : Nat} {a : Addr} : (Instr.loadAt t (.pointer (some a))).run P w = (loadVar t a).run P w:=by
 simp [Instr.loadAt,Instr.sureAddr]
theorem okO_val {o : Option AV} {x : AV} (h : (okO o).val x) : o = some x:=by
 cases o with
 | none=>exact h.elim
 | some y=>exact congrArg some h.symm
theorem qload_sound (h : Lies μ B w H) {t : Nat} {d : TD} (hd : td P t = some d) {fb : List Nat} {a : AV} {u : Value} (hu : Cn μ (Mut μ B H) w a u) {x : AV} (hx : (qload H fb d a).val x) :
  ∃ v,(Instr.loadAt t u).run P w = .ok v w ∧ Cn μ (Mut μ B H) w x v:=by
 unfold qload at hx
 split at hx
 ·rename_i i o
  cases hu with
  | ref hi hb=>
   rename_i g u
   cases hf : isIn fb i with
   | true=>simp [hf,QR.val] at hx
   | false=>
    simp only [hf,cond_false] at hx
    rw [load_ptr]
    split at hx
    ·rename_i cs ho
     obtain ⟨vs,h1,h3,h2⟩:=h.cells hi hb ho
     exact ldA_sound hd (h1.drop o) (fun j u hu=>h2 _ _ (by simpa using hu)) (h3.drop o) (okO_val hx)
    ·rename_i cs ho
     obtain ⟨vs,h1,h3,h2⟩:=h.cells hi hb ho
     exact ldI_sound hd (h1.drop o) (fun j u hu=>h2 _ _ (by simpa using hu)) (h3.drop o) hx.2
    ·rename_i cs ho
     obtain ⟨vs,h1,h3,h2⟩:=h.cells hi hb ho
     exact ldA_sound hd (h1.drop o) (fun j u hu=>h2 _ _ (by simpa using hu)) (h3.drop o) hx.2
    ·exact hx.elim
 ·cases hu with
  | im hu=>
   obtain ⟨b,o,vs,rfl,h1,h2,-,h3⟩:=hu.cells
   rw [load_ptr]
   exact ldI_sound hd h1 h2 h3 (okO_val hx)
 ·exact hx.elim
theorem st_parts {t : Nat} {d : TD} {fs : List (Nat × Nat × Bool)} (hd : td P t = some d) (hs : d.sh = .st fs) : ∃ ff : Array Field,P.underlying t = some (.struct ff) ∧ ff.all (fun f=>(P.info? f.type).isSome && (P.underlying f.type).isSome) = true ∧ ff.toList.map (fun f=>(f.offset,P.cellsOf f.type,isag P f.type)) = fs:=by
 obtain ⟨i,z,h1,h2,h3,h4,h5,h6,h7,h8,-⟩:=td_parts hd
 rw [hs] at h8
 unfold shof at h8
 split at h8
 all_goals (try (cases h8; done))
 ·rename_i ff hu
  split at h8
  ·rename_i hall; simp at h8; exact ⟨ff,hu,hall,h8⟩
  ·cases h8
 ·split at h8 <;> cases h8
 ·simp only [Option.map_eq_some_iff] at h8; obtain ⟨_,_,h⟩:=h8; cases h
 ·split at h8
  ·simp only [Option.map_eq_some_iff] at h8; obtain ⟨_,_,h⟩:=h8; cases h
  ·cases h8
 ·split at h8 <;> cases h8
theorem fld_get {ff : Array Field} {fs : List (Nat × Nat × Bool)} (h : ff.toList.map (fun f=>(f.offset,P.cellsOf f.type,isag P f.type)) = fs) (hall : ff.all (fun f=>(P.info? f.type).isSome && (P.underlying f.type).isSome) = true) {f o k : Nat} {ag : Bool} (hf : fs[f]? = some (o,k,ag)) :
  ∃ fd i,ff[f]? = some fd ∧ fd.offset = o ∧ P.info? fd.type = some i ∧ i.size = k ∧ isag P fd.type = ag ∧ (P.underlying fd.type).isSome = true:=by
 subst h
 simp only [List.getElem?_map,Option.map_eq_some_iff,Prod.mk.injEq] at hf
 obtain ⟨fd,h1,rfl,h2,h3⟩:=hf
 have hm : ff[f]? = some fd:=by simpa using h1
 have:=Array.all_eq_true_iff_forall_mem.1 hall fd (Array.mem_of_getElem? hm)
 cases hi : P.info? fd.type with
 | none=>simp [hi] at this
 | some i=>exact ⟨fd,i,hm,rfl,hi,by rw [← h2]; simp [Program.cellsOf,hi],h3,by simp only [Bool.and_eq_true] at this; exact this.2⟩
theorem run_und {t : Nat} {d : TypeDesc} (h : P.underlying t = some d) : (underlying t).run P w = .ok d w:=by
 simp [underlying,program,Sem.run,h]
theorem run_part_I {t : Nat} {i : TypeInfo} (hi : P.info? t = some i) (hu : (P.underlying t).isSome = true) {cs : List IV} {vs : List Value} (h : CiL (Mut μ B H) w cs vs) (hO : Ones vs) (o : Nat) {x : AV} (hx : ldI (isag P t) i.size (cs.drop o) = some x) :
  ∃ v,(part t vs.toArray o).run P w = .ok v w ∧ Cn μ (Mut μ B H) w x v:=by
 unfold ldI at hx
 cases ha : isag P t with
 | true=>
  simp only [ha,Option.map_eq_some_iff] at hx
  obtain ⟨l,hl,rfl⟩:=hx
  obtain ⟨rfl,hle⟩:=takeO_eq _ _ _ hl
  refine ⟨.agg ((vs.drop o).take i.size).toArray,?_,.im (.agg (by simp [h.1]) ((h.drop o).take i.size).2 ((hO.drop o).take _))⟩
  simp [part,run_isAgg' hu,ha,run_size hi]
 | false=>
  simp only [ha] at hx
  cases hc : cs.drop o with
  | nil=>rw [hc] at hx; cases hx
  | cons c r=>
   rw [hc] at hx; simp at hx; subst hx
   obtain ⟨v,hv,hn⟩:=(h.drop o).at (j:=0) (by rw [hc]; rfl)
   refine ⟨v,?_,.im hn⟩
   simp at hv
   simp [part,run_isAgg' hu,ha,hv]
theorem run_part_A {t : Nat} {i : TypeInfo} (hi : P.info? t = some i) (hu : (P.underlying t).isSome = true) {cs : List AV} {vs : List Value} (h : CnL μ (Mut μ B H) w cs vs) (hO : Ones vs) (o : Nat) {x : AV} (hx : ldA (isag P t) i.size (cs.drop o) = some x) :
  ∃ v,(part t vs.toArray o).run P w = .ok v w ∧ Cn μ (Mut μ B H) w x v:=by
 unfold ldA at hx
 cases ha : isag P t with
 | true=>
  simp only [ha,Option.map_eq_some_iff] at hx
  obtain ⟨l,hl,rfl⟩:=hx
  obtain ⟨rfl,hle⟩:=takeO_eq _ _ _ hl
  refine ⟨.agg ((vs.drop o).take i.size).toArray,?_,.agg (by simp [h.1]) ((h.drop o).take i.size).2 ((hO.drop o).take _)⟩
  simp [part,run_isAgg' hu,ha,run_size hi]
 | false=>
  simp only [ha] at hx
  cases hc : cs.drop o with
  | nil=>rw [hc] at hx; cases hx
  | cons c r=>
   rw [hc] at hx; simp at hx; subst hx
   obtain ⟨v,hv,hn⟩:=(h.drop o).at (j:=0) (by rw [hc]; rfl)
   refine ⟨v,?_,hn⟩
   simp at hv
   simp [part,run_isAgg' hu,ha,hv]
theorem qfield_sound {t : Nat} {d : TD} {fs : List (Nat × Nat × Bool)} (hd : td P t = some d) (hs : d.sh = .st fs) {f : Nat} {a : AV} {u : Value} (hu : Cn μ (Mut μ B H) w a u) {x : AV} (hx : (qfield fs f a).val x) :
  ∃ v,(Instr.field t u f).run P w = .ok v w ∧ Cn μ (Mut μ B H) w x v:=by
 obtain ⟨ff,h1,h2,h3⟩:=st_parts hd hs
 unfold qfield at hx
 split at hx
 ·exact hx.elim
 ·rename_i o k ag hf
  obtain ⟨fd,i,g1,rfl,g3,rfl,rfl,g6⟩:=fld_get h3 h2 hf
  split at hx
  ·cases hu with
   | agg hl hh h1'=>
    obtain ⟨v,e1,e2⟩:=run_part_A (P:=P) g3 g6 ⟨hl,hh⟩ h1' fd.offset (okO_val hx)
    exact ⟨v,by simp [Instr.field,run_und h1,g1,asAgg,e1],e2⟩
  ·cases hu with
   | im hu=>
    cases hu with
    | agg hl hh h1'=>
     obtain ⟨v,e1,e2⟩:=run_part_I (P:=P) g3 g6 ⟨hl,hh⟩ h1' fd.offset (okO_val hx)
     exact ⟨v,by simp [Instr.field,run_und h1,g1,asAgg,e1],e2⟩
  ·exact hx.elim
theorem qfieldAddr_sound {t : Nat} {d : TD} {fs : List (Nat × Nat × Bool)} (hd : td P t = some d) (hs : d.sh = .st fs) {f : Nat} {a : AV} {u : Value} (hu : Cn μ (Mut μ B H) w a u) {x : AV} (hx : (qfieldAddr fs f a).val x) :
  ∃ v,(Instr.fieldAt t u f).run P w = .ok v w ∧ Cn μ (Mut μ B H) w x v:=by
 obtain ⟨ff,h1,h2,h3⟩:=st_parts hd hs
 unfold qfieldAddr at hx
 split at hx
 ·exact hx.elim
 ·rename_i o k ag hf
  obtain ⟨fd,i,g1,rfl,g3,rfl,rfl,g6⟩:=fld_get h3 h2 hf
  cases hk : Nat.beq i.size 0 with
  | true=>simp [hk,QR.val] at hx
  | false=>
   have hk' : ¬ i.size = 0:=by intro e; rw [e] at hk; cases hk
   simp only [hk,cond_false] at hx
   split at hx
   ·cases hu with
    | ref hi hb=>
     cases hx
     exact ⟨_,by simp [Instr.fieldAt,run_und h1,g1,Instr.sureAddr,fieldPlace,run_size g3,hk',add_spot],.ref hi hb⟩
   ·cases hu with
    | im hu=>
     obtain ⟨b,o,vs,rfl,k1,k2,k3,k4⟩:=hu.cells
     cases hx
     refine ⟨.pointer (some ⟨b,o + fd.offset,none⟩),by simp [Instr.fieldAt,run_und h1,g1,Instr.sureAddr,fieldPlace,run_size g3,hk',add_spot],.im (Ci.mk_ip (k1.drop fd.offset) (fun j u hu=>?_) (k4.drop _) (fun hne=>k3 (by intro e; subst e; simp at hne)))⟩
     rw [Nat.add_assoc]; exact k2 _ u (by simpa using hu)
   ·exact hx.elim
theorem sc_parts {t : Nat} {d : TD} {e k : Nat} {ag : Bool} {z : List Value} (hd : td P t = some d) {bt : Nat} (hs : d.sh = .sc e k ag z bt) : P.underlying t = some (.slice e) ∧ ∃ i zv,P.info? e = some i ∧ i.zero = some zv ∧ zv.cells.size = i.size ∧ zv.cells.toList = z ∧ i.size = k ∧ isag P e = ag ∧ z.length = k ∧ (∀ v ∈ z,v.oneCell' = true) ∧ i.bytes = bt:=by
 obtain ⟨i,z',h1,h2,h3,h4,h5,h6,h7,h8,-⟩:=td_parts hd
 rw [hs] at h8
 unfold shof at h8
 split at h8
 all_goals (try (cases h8; done))
 ·split at h8 <;> cases h8
 ·split at h8 <;> cases h8
 ·rename_i e' hu
  simp only [Option.map_eq_some_iff] at h8
  obtain ⟨zz,g1,g2⟩:=h8
  simp only [Sh.sc.injEq] at g2
  obtain ⟨rfl,rfl,rfl,rfl,rfl⟩:=g2
  obtain ⟨j,zv,k1,k2,k3,k4,k5,k6⟩:=zof_parts g1
  exact ⟨hu,j,zv,k1,k2,k3,k4,k5,rfl,rfl,k6,by simp [Program.bytesOf,k1]⟩
 ·split at h8
  ·simp only [Option.map_eq_some_iff] at h8; obtain ⟨_,_,h⟩:=h8; cases h
  ·cases h8
 ·split at h8 <;> cases h8
theorem ar_parts {t : Nat} {d : TD} {n k : Nat} {ag : Bool} (hd : td P t = some d) (hs : d.sh = .ar n k ag) : ∃ e i,P.underlying t = some (.array n e) ∧ P.info? e = some i ∧ i.size = k ∧ isag P e = ag ∧ (P.underlying e).isSome = true:=by
 obtain ⟨i,z',h1,h2,h3,h4,h5,h6,h7,h8,-⟩:=td_parts hd
 rw [hs] at h8
 unfold shof at h8
 split at h8
 all_goals (try (cases h8; done))
 ·split at h8 <;> cases h8
 ·rename_i n' e' hu
  split at h8
  ·rename_i hc
   simp only [Option.some.injEq,Sh.ar.injEq] at h8
   obtain ⟨rfl,rfl,rfl⟩:=h8
   simp only [Bool.and_eq_true] at hc
   cases hi : P.info? e' with
   | none=>simp [hi] at hc
   | some j=>exact ⟨e',j,hu,hi,by simp [Program.cellsOf,hi],rfl,hc.2⟩
  ·cases h8
 ·simp only [Option.map_eq_some_iff] at h8; obtain ⟨_,_,h⟩:=h8; cases h
 ·split at h8
  ·simp only [Option.map_eq_some_iff] at h8; obtain ⟨_,_,h⟩:=h8; cases h
  ·cases h8
 ·split at h8 <;> cases h8
theorem str_parts {t : Nat} {d : TD} (hd : td P t = some d) (hs : d.sh = .str) : P.underlying t = some .string:=by
 obtain ⟨i,z',h1,h2,h3,h4,h5,h6,h7,h8,-⟩:=td_parts hd
 rw [hs] at h8
 unfold shof at h8
 split at h8
 all_goals (try (cases h8; done))
 ·split at h8 <;> cases h8
 ·split at h8 <;> cases h8
 ·simp only [Option.map_eq_some_iff] at h8; obtain ⟨_,_,h⟩:=h8; cases h
 ·split at h8
  ·simp only [Option.map_eq_some_iff] at h8; obtain ⟨_,_,h⟩:=h8; cases h
  ·cases h8
 ·assumption
 ·split at h8 <;> cases h8
theorem int_parts {t : Nat} {d : TD} {k : IntKind} (hd : td P t = some d) (hs : d.sh = .int k) : P.underlying t = some (.int k):=by
 obtain ⟨i,z',h1,h2,h3,h4,h5,h6,h7,h8,-⟩:=td_parts hd
 rw [hs] at h8
 unfold shof at h8
 split at h8
 all_goals (try (cases h8; done))
 ·split at h8 <;> cases h8
 ·split at h8 <;> cases h8
 ·simp only [Option.map_eq_some_iff] at h8; obtain ⟨_,_,h⟩:=h8; cases h
 ·split at h8
  ·simp only [Option.map_eq_some_iff] at h8; obtain ⟨_,_,h⟩:=h8; cases h
  ·cases h8
 ·simp only [Option.some.injEq,Sh.int.injEq] at h8; subst h8; assumption
 ·split at h8 <;> cases h8
theorem beq_of {a b : Nat} (h : Nat.beq a b = true) : a = b:=Nat.eq_of_beq_eq_true h
theorem qindexAddr_sound (h : Lies μ B w H) {t : Nat} {d : TD} (hd : td P t = some d) {fb : List Nat} {a : AV} {u : Value} {k : IntKind} {j : Int} (hu : Cn μ (Mut μ B H) w a u) {x : AV} (hx : (qindexAddr H fb d.sh a j).val x) :
  ∃ v,(Instr.indexAt t u (.int k j)).run P w = .ok v w ∧ Cn μ (Mut μ B H) w x v:=by
 unfold qindexAddr at hx
 split at hx
 ·rename_i e kk ag z bt hs
  obtain ⟨g0,i,zv,g1,g2,g3,g4,rfl,g6,g7,-⟩:=sc_parts hd hs
  split at hx
  ·rename_i n k' cs
   cases hk : Nat.beq i.size k' && Nat.ble 1 i.size with
   | false=>rw [hk] at hx; exact hx.elim
   | true=>
    rw [hk] at hx; simp only [cond_true] at hx
    simp only [Bool.and_eq_true] at hk
    obtain rfl:=beq_of hk.1
    have hk1 : 1 ≤ i.size:=Nat.le_of_ble_eq_true hk.2
    obtain ⟨⟨l0,l1⟩,hx⟩:=hx
    cases hx
    cases hu with
    | im hu=>
     obtain ⟨ao,b,o,cap,vs,rfl,c1,c2,c3,c4,c5,c6⟩:=hu.slice
     by_cases hne : cs = []
     ·subst hne
      have hn : n * i.size = 0:=by simpa using c2
      have : n * 1 ≤ n * i.size:=Nat.mul_le_mul_left _ hk1
      omega
     ·obtain ⟨rfl,hM⟩:=c3 hne
      refine ⟨.pointer (some ⟨b,o + j.toNat * i.size,none⟩),by simp [Instr.indexAt,asIntOf,run_und g0,l0,l1,run_size g1,add_spot],.im (Ci.mk_ip (c4.drop _) (fun jj u hu=>?_) (c6.drop _) (fun _=>hM))⟩
      rw [Nat.add_assoc]; exact c5 _ u (by simpa using hu)
  ·rename_i ii
   cases hf : isIn fb ii with
   | true=>simp [hf,QR.val] at hx
   | false=>
    simp only [hf,cond_false] at hx
    cases hu with
    | own hi=>
     split at hx
     ·rename_i e' k' n cs ho
      cases hk : Nat.beq i.size k' with
      | false=>simp [hk,QR.val] at hx
      | true=>
       simp only [hk,cond_true] at hx
       obtain rfl:=beq_of hk
       obtain ⟨⟨l0,l1⟩,rfl⟩:=hx
       obtain ⟨vs,k1,k2⟩:=h.obj _ _ _ ho hi
       rcases k1.2 with ⟨rfl,rfl⟩ | ⟨g,cap,cur,rfl,-⟩
       ·omega
       ·exact ⟨_,by simp [Instr.indexAt,asIntOf,run_und g0,l0,l1,run_size g1,add_spot],.ref hi rfl⟩
     ·rename_i e' k' n cs ho
      cases hk : Nat.beq i.size k' with
      | false=>simp [hk,QR.val] at hx
      | true=>
       simp only [hk,cond_true] at hx
       obtain rfl:=beq_of hk
       obtain ⟨⟨l0,l1⟩,rfl⟩:=hx
       obtain ⟨vs,k1,k2⟩:=h.obj _ _ _ ho hi
       rcases k1.2 with ⟨rfl,rfl⟩ | ⟨g,cap,cur,rfl,-⟩
       ·omega
       ·exact ⟨_,by simp [Instr.indexAt,asIntOf,run_und g0,l0,l1,run_size g1,add_spot],.ref hi rfl⟩
     ·exact hx.elim
  ·rename_i ii o k' n
   cases hk : Nat.beq i.size k' with
   | false=>simp [hk,QR.val] at hx
   | true=>
    simp only [hk,cond_true] at hx
    obtain rfl:=beq_of hk
    obtain ⟨⟨l0,l1⟩,rfl⟩:=hx
    cases hu with
    | @sub _ _ _ _ g m cap hi=>
     exact ⟨.pointer (some ⟨g,(o + j.toNat) * i.size,none⟩),by simp [Instr.indexAt,asIntOf,run_und g0,l0,l1,run_size g1,add_spot,Nat.add_mul],.ref hi rfl⟩
  ·exact hx.elim
 ·rename_i n kk ag hs
  obtain ⟨e,i,g0,g1,rfl,g3,g4⟩:=ar_parts hd hs
  split at hx
  ·obtain ⟨⟨l0,l1⟩,rfl⟩:=hx
   cases hu with
   | ref hi hb=>exact ⟨_,by simp [Instr.indexAt,asIntOf,run_und g0,Instr.sureAddr,l0,l1,run_size g1,add_spot],.ref hi hb⟩
  ·obtain ⟨⟨l0,l1⟩,hx⟩:=hx
   cases hx
   cases hu with
   | im hu=>
    obtain ⟨b,o,vs,rfl,c1,c2,c3,c4⟩:=hu.cells
    refine ⟨.pointer (some ⟨b,o + j.toNat * i.size,none⟩),by simp [Instr.indexAt,asIntOf,run_und g0,Instr.sureAddr,l0,l1,run_size g1,add_spot],.im (Ci.mk_ip (c1.drop _) (fun jj u hu=>?_) (c4.drop _) (fun hne=>c3 (by intro e; subst e; simp at hne)))⟩
    rw [Nat.add_assoc]; exact c2 _ u (by simpa using hu)
  ·exact hx.elim
 ·exact hx.elim
end
section
variable {P : Program} {T : TT} {μ : List Value} {B : Nat → Prop} {w : World} {H : List AO}
theorem list_idx {s : ByteArray} {j : Int} (l0 : 0 ≤ j) (l1 : j < s.size) : s[j.toNat]? = some (s.data.toList.getD j.toNat 0):=by
 have h : j.toNat < s.size:=by omega
 have h' : j.toNat < s.data.toList.length:=by simpa using h
 rw [getElem?_pos s j.toNat h,List.getD,List.getElem?_eq_getElem h']
 rfl
theorem qindex_sound {t : Nat} {d : TD} (hd : td P t = some d) {a : AV} {u : Value} {k : IntKind} {j : Int} (hu : Cn μ (Mut μ B H) w a u) {x : AV} (hx : (qindex d.sh a j).val x) :
  ∃ v,(Instr.index t u (.int k j)).run P w = .ok v w ∧ Cn μ (Mut μ B H) w x v:=by
 unfold qindex at hx
 split at hx
 ·rename_i hs
  have g0:=str_parts hd hs
  split at hx
  ·obtain ⟨⟨l0,l1⟩,rfl⟩:=hx
   cases hu with
   | im hu=>
    cases hu
    exact ⟨_,by simp [Instr.index,asIntOf,run_und g0,l0,list_idx l0 l1],.im (.raw _)⟩
  ·exact hx.elim
 ·rename_i n kk ag hs
  obtain ⟨e,i,g0,g1,rfl,rfl,g4⟩:=ar_parts hd hs
  split at hx
  ·obtain ⟨⟨l0,l1⟩,hx⟩:=hx
   cases hu with
   | im hu=>
    cases hu with
    | agg hl hh h1=>
     obtain ⟨v,e1,e2⟩:=run_part_I (P:=P) (w:=w) (μ:=μ) (B:=B) (H:=H) g1 g4 ⟨hl,hh⟩ h1 (j.toNat * i.size) hx
     exact ⟨v,by simp [Instr.index,asIntOf,run_und g0,l0,l1,run_size g1,e1],e2⟩
  ·obtain ⟨⟨l0,l1⟩,hx⟩:=hx
   cases hu with
   | agg hl hh h1=>
    obtain ⟨v,e1,e2⟩:=run_part_A (P:=P) (w:=w) (μ:=μ) (B:=B) (H:=H) g1 g4 ⟨hl,hh⟩ h1 (j.toNat * i.size) hx
    exact ⟨v,by simp [Instr.index,asIntOf,run_und g0,l0,l1,run_size g1,e1],e2⟩
  ·exact hx.elim
 ·exact hx.elim
theorem intA_eq {x : AV} {l : Int} (h : intA (some x) = some l) : ∃ k,x = .im (.raw (.int k l)):=by
 unfold intA at h
 split at h
 ·rename_i k j e; simp at h e; subst h; exact ⟨k,e⟩
 ·cases h
theorem cn_int {M : Nat → Prop} {k : IntKind} {n : Int} {v : Value} (h : Cn μ M w (.im (.raw (.int k n))) v) : v = .int k n:=by
 cases h with
 | im h=>cases h; rfl
theorem cn_raw {M : Nat → Prop} {v u : Value} (h : Cn μ M w (.im (.raw u)) v) : v = u:=by
 cases h with
 | im h=>cases h; rfl
theorem subR_sound (h : Lies μ B w H) {k ii : Nat} {l hh : Int} {u : Value} (hi : μ[ii]? = some u) {x : AV} (hx : (subR H k ii l hh).val x) :
  ∃ g m cap,u = .slice (some ⟨g,0,none⟩) m cap ∧ m ≤ cap ∧ 0 ≤ l ∧ l < hh ∧ hh ≤ m ∧ rowN H ii = m ∧ x = .sub ii l.toNat k (hh.toNat - l.toNat):=by
 unfold subR at hx
 unfold rowN
 split at hx
 ·rename_i e k' n cs ho
  cases hk : Nat.beq k k' with
  | false=>rw [hk] at hx; exact hx.elim
  | true=>
   rw [hk] at hx; simp only [cond_true] at hx
   obtain ⟨⟨l0,l1,l2⟩,rfl⟩:=hx
   obtain ⟨vs,k1,k2⟩:=h.obj _ _ _ ho hi
   rcases k1.2 with ⟨rfl,rfl⟩ | ⟨g,cap,cur,rfl,c1,c2,c3,c4⟩
   ·omega
   ·exact ⟨g,n,cap,rfl,c3,l0,l1,l2,rfl,rfl⟩
 ·rename_i e k' n cs ho
  cases hk : Nat.beq k k' with
  | false=>rw [hk] at hx; exact hx.elim
  | true=>
   rw [hk] at hx; simp only [cond_true] at hx
   obtain ⟨⟨l0,l1,l2⟩,rfl⟩:=hx
   obtain ⟨vs,k1,k2⟩:=h.obj _ _ _ ho hi
   rcases k1.2 with ⟨rfl,rfl⟩ | ⟨g,cap,cur,rfl,c1,c2,c3,c4⟩
   ·omega
   ·exact ⟨g,n,cap,rfl,c3,l0,l1,l2,rfl,rfl⟩
 ·exact hx.elim
theorem qslice_sound (hL : Lies μ B w H) {t : Nat} {d : TD} (hd : td P t = some d) {fb : List Nat} {a : AV} {u : Value} (hu : Cn μ (Mut μ B H) w a u) {lo hi : Option AV} {vl vh : Option Value}
  (hl : ∀ x,lo = some x → ∃ v,vl = some v ∧ Cn μ (Mut μ B H) w x v) (hl' : lo = none → vl = none)
  (hh : ∀ x,hi = some x → ∃ v,vh = some v ∧ Cn μ (Mut μ B H) w x v) (hh' : hi = none → vh = none) {x : AV} (hx : (qslice H fb d.sh a lo hi).val x) :
  ∃ v,(Instr.sliceAt t u vl vh none).run P w = .ok v w ∧ Cn μ (Mut μ B H) w x v:=by
 unfold qslice at hx
 split at hx
 ·rename_i e k ag z bt ii hs
  obtain ⟨g0,i,zv,g1,g2,g3,g4,rfl,g6,g7,-⟩:=sc_parts hd hs
  cases hf : isIn fb ii with
  | true=>rw [hf] at hx; exact hx.elim
  | false=>
   rw [hf] at hx; simp only [cond_false] at hx
   cases hu with
   | own hii=>
    split at hx
    ·obtain rfl:=hh' rfl
     split at hx
     ·rename_i l he
      obtain ⟨kk,rfl⟩:=intA_eq he
      obtain ⟨v,rfl,hv⟩:=hl _ rfl
      obtain rfl:=cn_int hv
      obtain ⟨g,m,cap,rfl,c0,l0,l1,l2,l3,rfl⟩:=subR_sound hL hii hx
      rw [l3] at l1 ⊢
      refine ⟨.slice (some ⟨g,l.toNat * i.size,none⟩) (m - l.toNat) (cap - l.toNat),?_,?_⟩
      ·have e1 : l ≤ m:=by omega
       have e2 : ¬ (cap = l.toNat):=by omega
       simp [Instr.sliceAt,Instr.slice,run_und g0,Instr.sliceBounds,Instr.sliceBound,asIntOf,l0,e1,e2,run_size g1,add_spot]
      ·exact .sub hii
     ·exact hx.elim
    ·obtain rfl:=hl' rfl
     split at hx
     ·rename_i h he
      obtain ⟨kk,rfl⟩:=intA_eq he
      obtain ⟨v,rfl,hv⟩:=hh _ rfl
      obtain rfl:=cn_int hv
      obtain ⟨g,m,cap,rfl,c0,l0,l1,l2,l3,rfl⟩:=subR_sound hL hii hx
      refine ⟨.slice (some ⟨g,(0 : Int).toNat * i.size,none⟩) (h.toNat - (0 : Int).toNat) (cap - (0 : Int).toNat),?_,?_⟩
      ·have e1 : h ≤ cap:=by omega
       have e3 : 0 ≤ h:=by omega
       simp [Instr.sliceAt,Instr.slice,run_und g0,Instr.sliceBounds,Instr.sliceBound,asIntOf,e1,e3,run_size g1,add_spot]
      ·exact .sub hii
     ·exact hx.elim
    ·split at hx
     ·rename_i l h he he'
      obtain ⟨k,rfl⟩:=intA_eq he
      obtain ⟨k',rfl⟩:=intA_eq he'
      obtain ⟨v,rfl,hv⟩:=hl _ rfl
      obtain ⟨v',rfl,hv'⟩:=hh _ rfl
      obtain rfl:=cn_int hv
      obtain rfl:=cn_int hv'
      obtain ⟨g,m,cap,rfl,c0,l0,l1,l2,l3,rfl⟩:=subR_sound hL hii hx
      refine ⟨.slice (some ⟨g,l.toNat * i.size,none⟩) (h.toNat - l.toNat) (cap - l.toNat),?_,?_⟩
      ·have e1 : h ≤ cap:=by omega
       have e2 : ¬ (cap = l.toNat):=by omega
       have e3 : 0 ≤ h:=by omega
       have e4 : l ≤ h:=by omega
       have e5 : ((h.toNat : Nat) : Int) = h:=by omega
       simp [Instr.sliceAt,Instr.slice,run_und g0,Instr.sliceBounds,Instr.sliceBound,asIntOf,l0,e1,e2,e3,e4,e5,run_size g1,add_spot]
      ·exact .sub hii
     ·exact hx.elim
    ·exact hx.elim
 ·rename_i hs
  have g0:=str_parts hd hs
  obtain rfl:=cn_raw hu
  split at hx
  ·obtain rfl:=hl' rfl; obtain rfl:=hh' rfl
   cases hx
   exact ⟨_,by simp [Instr.sliceAt,Instr.slice,run_und g0,Instr.sliceBounds],.im (.raw _)⟩
  ·obtain rfl:=hh' rfl
   split at hx
   ·rename_i l he
    obtain ⟨k,rfl⟩:=intA_eq he
    obtain ⟨v,rfl,hv⟩:=hl _ rfl
    obtain rfl:=cn_int hv
    obtain ⟨⟨l0,l1⟩,rfl⟩:=hx
    exact ⟨_,by simp [Instr.sliceAt,Instr.slice,run_und g0,Instr.sliceBounds,Instr.sliceBound,asIntOf,l0,l1],.im (.raw _)⟩
   ·exact hx.elim
  ·obtain rfl:=hl' rfl
   split at hx
   ·rename_i l he
    obtain ⟨k,rfl⟩:=intA_eq he
    obtain ⟨v,rfl,hv⟩:=hh _ rfl
    obtain rfl:=cn_int hv
    obtain ⟨⟨l0,l1⟩,rfl⟩:=hx
    exact ⟨_,by simp [Instr.sliceAt,Instr.slice,run_und g0,Instr.sliceBounds,Instr.sliceBound,asIntOf,l0,l1],.im (.raw _)⟩
   ·exact hx.elim
  ·split at hx
   ·rename_i l h he he'
    obtain ⟨k,rfl⟩:=intA_eq he
    obtain ⟨k',rfl⟩:=intA_eq he'
    obtain ⟨v,rfl,hv⟩:=hl _ rfl
    obtain ⟨v',rfl,hv'⟩:=hh _ rfl
    obtain rfl:=cn_int hv
    obtain rfl:=cn_int hv'
    obtain ⟨⟨l0,l1,l2⟩,rfl⟩:=hx
    have e1 : 0 ≤ h:=by omega
    have e2 : ((h.toNat : Nat) : Int) = h:=by omega
    exact ⟨_,by simp [Instr.sliceAt,Instr.slice,run_und g0,Instr.sliceBounds,Instr.sliceBound,asIntOf,l0,l1,l2,e1,e2],.im (.raw _)⟩
   ·exact hx.elim
 ·rename_i e k ag z bt n k' cs hs
  obtain ⟨g0,i,zv,g1,g2,g3,g4,rfl,g6,g7,-⟩:=sc_parts hd hs
  cases hk : Nat.beq i.size k' with
  | false=>rw [hk] at hx; exact hx.elim
  | true=>
   rw [hk] at hx; simp only [cond_true] at hx
   obtain rfl:=beq_of hk
   cases hu with
   | im hu=>
    obtain ⟨ao,b,o,cap,vs,rfl,c1,c2,c3,c4,c5,c6⟩:=hu.slice
    split at hx
    ·obtain rfl:=hh' rfl
     split at hx
     ·rename_i l he
      obtain ⟨kk,rfl⟩:=intA_eq he
      obtain ⟨v,rfl,hv⟩:=hl _ rfl
      obtain rfl:=cn_int hv
      obtain ⟨⟨l0,l1⟩,rfl⟩:=hx
      refine ⟨.slice (if cap = l.toNat then ao else ao.map (·.add (l.toNat * i.size))) (n - l.toNat) (cap - l.toNat),?_,.im (Ci.mk_sl (b:=b) (o:=o + l.toNat * i.size) (c4.drop _) ?_ (by omega) (fun j u hu=>?_) (c6.drop _) (fun hne=>?_))⟩
      ·simp [Instr.sliceAt,Instr.slice,run_und g0,Instr.sliceBounds,Instr.sliceBound,asIntOf,l0,l1,run_size g1]
      ·rw [List.length_drop,← c2,Nat.sub_mul]
      ·rw [Nat.add_assoc]; exact c5 _ u (by simpa using hu)
      ·have hcs : cs ≠ []:=by intro e; subst e; simp at hne
       obtain ⟨rfl,hM⟩:=c3 hcs
       refine ⟨?_,hM⟩
       have hlt : l.toNat * i.size < n * i.size:=by
        have : cs.drop (l.toNat * i.size) ≠ []:=hne
        have:=List.length_pos_iff.2 this
        rw [List.length_drop] at this; omega
       have hln : l.toNat < n:=Nat.lt_of_mul_lt_mul_right hlt
       rw [if_neg (by omega)]; simp [add_spot]
     ·exact hx.elim
    ·obtain rfl:=hl' rfl
     split at hx
     ·rename_i l he
      obtain ⟨kk,rfl⟩:=intA_eq he
      obtain ⟨v,rfl,hv⟩:=hh _ rfl
      obtain rfl:=cn_int hv
      obtain ⟨⟨l0,l1⟩,rfl⟩:=hx
      have l2 : l ≤ cap:=by omega
      refine ⟨.slice (if cap = 0 then ao else ao.map (·.add 0)) l.toNat cap,?_,.im (Ci.mk_sl (b:=b) (o:=o) (c4.take _) ?_ (by omega) (fun j u hu=>?_) (c6.take _) (fun hne=>?_))⟩
      ·simp [Instr.sliceAt,Instr.slice,run_und g0,Instr.sliceBounds,Instr.sliceBound,asIntOf,l0,l2,run_size g1]
      ·rw [List.length_take,← c2]
       have : l.toNat * i.size ≤ n * i.size:=Nat.mul_le_mul_right _ (by omega)
       omega
      ·rw [List.getElem?_take] at hu; split at hu
       ·exact c5 _ u hu
       ·cases hu
      ·have hcs : cs ≠ []:=by intro e; subst e; simp at hne
       obtain ⟨rfl,hM⟩:=c3 hcs
       refine ⟨?_,hM⟩
       simp [add_spot]
     ·exact hx.elim
    ·exact hx.elim
 ·exact hx.elim
theorem arith_sound {op : BinOp} {k : IntKind} {a b : Int} {x : AV} (hx : (arith op k a b).val x) (t : Nat) : ∃ v,(binOp op t (.int k a) (.int k b)).run P w = .ok v w ∧ Cn μ (Mut μ B H) w x v:=by
 unfold arith at hx
 cases op <;> simp only [QR.val] at hx
 case add=>subst hx; exact ⟨_,by simp [binOp,Op.intArith],.im (.raw _)⟩
 case sub=>subst hx; exact ⟨_,by simp [binOp,Op.intArith],.im (.raw _)⟩
 case mul=>subst hx; exact ⟨_,by simp [binOp,Op.intArith],.im (.raw _)⟩
 case quo=>obtain ⟨h,rfl⟩:=hx; exact ⟨_,by simp [binOp,Op.intDiv,h],.im (.raw _)⟩
 case rem=>obtain ⟨h,rfl⟩:=hx; exact ⟨_,by simp [binOp,Op.intDiv,h],.im (.raw _)⟩
 case eql=>subst hx; exact ⟨_,by simp [binOp,Op.intCmp],.im (.raw _)⟩
 case neq=>subst hx; exact ⟨_,by simp [binOp,Op.intCmp],.im (.raw _)⟩
 case lss=>subst hx; exact ⟨_,by simp [binOp,Op.intCmp],.im (.raw _)⟩
 case leq=>subst hx; exact ⟨_,by simp [binOp,Op.intCmp],.im (.raw _)⟩
 case gtr=>subst hx; exact ⟨_,by simp [binOp,Op.intCmp],.im (.raw _)⟩
 case geq=>subst hx; exact ⟨_,by simp [binOp,Op.intCmp],.im (.raw _)⟩
 case and=>subst hx; exact ⟨_,by simp only [binOp,ne_eq,not_true_eq_false,if_false,Op.intBits]; rfl,.im (.raw _)⟩
 case or=>subst hx; exact ⟨_,by simp only [binOp,ne_eq,not_true_eq_false,if_false,Op.intBits]; rfl,.im (.raw _)⟩
 case xor=>subst hx; exact ⟨_,by simp only [binOp,ne_eq,not_true_eq_false,if_false,Op.intBits]; rfl,.im (.raw _)⟩
theorem arith2_sound {op : BinOp} {k k' : IntKind} {a b : Int} {x : AV} (hx : (arith2 op k a k' b).val x) (t : Nat) : ∃ v,(binOp op t (.int k a) (.int k' b)).run P w = .ok v w ∧ Cn μ (Mut μ B H) w x v:=by
 unfold arith2 at hx
 split at hx
 ·obtain ⟨h,rfl⟩:=hx
  exact ⟨_,by simp only [binOp,Op.shift,if_neg (show ¬ b < 0 by omega)]; rfl,.im (.raw _)⟩
 ·obtain ⟨h,rfl⟩:=hx
  exact ⟨_,by simp only [binOp,Op.shift,if_neg (show ¬ b < 0 by omega)]; rfl,.im (.raw _)⟩
 ·split at hx
  ·rename_i hk; subst hk; exact arith_sound hx t
  ·exact hx.elim
theorem bo_parts {t : Nat} {d : TD} (hd : td P t = some d) (hs : d.sh = .bo) : P.underlying t = some .bool:=by
 obtain ⟨i,z',h1,h2,h3,h4,h5,h6,h7,h8,-⟩:=td_parts hd
 rw [hs] at h8
 unfold shof at h8
 split at h8
 all_goals (try (cases h8; done))
 ·split at h8 <;> cases h8
 ·split at h8 <;> cases h8
 ·simp only [Option.map_eq_some_iff] at h8; obtain ⟨_,_,h⟩:=h8; cases h
 ·split at h8
  ·simp only [Option.map_eq_some_iff] at h8; obtain ⟨_,_,h⟩:=h8; cases h
  ·cases h8
 ·assumption
 ·split at h8 <;> cases h8
theorem boolop_sound {op : BinOp} {a b : Bool} {x : AV} (hx : (boolop op a b).val x) {t : Nat} (ht : P.underlying t = some .bool) : ∃ v,(binOp op t (.bool a) (.bool b)).run P w = .ok v w ∧ Cn μ (Mut μ B H) w x v:=by
 unfold boolop at hx
 have he : (Op.equal t (.bool a) (.bool b)).run P w = .ok (a == b) w:=by
  unfold Op.equal Op.maxDepth Op.equalIn
  simp [run_und ht]
 cases op <;> simp only [QR.val] at hx
 case eql=>subst hx; exact ⟨_,by simp only [binOp,Sem.run_bind,he,Result.andThen_ok]; rfl,.im (.raw _)⟩
 case neq=>subst hx; exact ⟨_,by simp only [binOp,Sem.run_bind,he,Result.andThen_ok]; rfl,.im (.raw _)⟩
theorem strop_sound {op : BinOp} {a b : ByteArray} {x : AV} (hx : (strop op a b).val x) (t : Nat) : ∃ v,(binOp op t (.string a) (.string b)).run P w = .ok v w ∧ Cn μ (Mut μ B H) w x v:=by
 unfold strop at hx
 cases op <;> simp only [QR.val] at hx
 case add=>
  obtain ⟨h,rfl⟩:=hx
  have : ¬ (((a.size + b.size : Nat) : Int) > IntKind.i64.max):=by
   have : IntKind.i64.max = 9223372036854775807:=rfl
   rw [this]; omega
  exact ⟨_,by simp only [binOp,Op.stringOp,if_neg this]; rfl,.im (.raw _)⟩
 case eql=>subst hx; exact ⟨_,by simp [binOp,Op.stringOp],.im (.raw _)⟩
 case neq=>subst hx; exact ⟨_,by simp [binOp,Op.stringOp],.im (.raw _)⟩
end
section
variable {P : Program} {T : TT} {μ : List Value} {B : Nat → Prop} {w : World} {H : List AO}
theorem cell_one {v : Value} (h : v.oneCell' = true) : v.cells = #[v]:=by
 cases v <;> first | rfl | cases h
theorem cellI_sound {M : Nat → Prop} {x : IV} {v : Value} {xs : List IV} (h : cellI x = some xs) (hc : Ci M w x v) : CiL M w xs v.cells.toList ∧ Ones v.cells.toList:=by
 have key : ∀ {x : IV} {v : Value},Ci M w x v → v.oneCell' = true → CiL M w [x] v.cells.toList ∧ Ones v.cells.toList:=by
  intro x v hc hv
  rw [cell_one hv]
  refine ⟨⟨rfl,fun j y u a b=>?_⟩,fun u hu=>?_⟩
  ·cases j with
   | zero=>simp at a b; subst a b; exact hc
   | succ j=>simp at a
  ·simp at hu; subst hu; exact hv
 unfold cellI at h
 split at h
 ·simp at h; subst h
  cases hc with
  | agg hl hh h1=>exact ⟨⟨by simpa [Value.cells] using hl,by simpa [Value.cells] using hh⟩,by simpa [Value.cells,Ones] using h1⟩
 ·cases h
 ·cases h
 ·rename_i h1 h2
  simp at h; subst h
  cases hc
  refine key (.raw _) ?_
  cases v <;> first | rfl | exact (h1 _ rfl).elim | exact (h2 _ rfl).elim
 ·cases h
 ·cases h
 ·rename_i h1 h2 h3 h4 h5 h6
  simp at h; subst h
  cases hc with
  | raw v=>exact (h4 _ rfl).elim
  | any v=>exact (h5 rfl).elim
  | sl a b c d e f=>exact key (.sl a b c d e f) rfl
  | ip a b c d=>exact key (.ip a b c d) rfl
  | agg a b c=>exact (h1 _ rfl).elim
  | tup a b=>exact (h6 _ rfl).elim
  | fn a b c d=>exact key (.fn a b c d) rfl
theorem cellA_sound (hL : Lies μ B w H) {x : AV} {v : Value} {xs : List AV} (h : cellA x = some xs) (hc : Cn μ (Mut μ B H) w x v) : CnL μ (Mut μ B H) w xs v.cells.toList ∧ Ones v.cells.toList:=by
 have key : ∀ {x : AV} {v : Value},Cn μ (Mut μ B H) w x v → v.oneCell' = true → CnL μ (Mut μ B H) w [x] v.cells.toList ∧ Ones v.cells.toList:=by
  intro x v hc hv
  rw [cell_one hv]
  refine ⟨⟨rfl,fun j y u a b=>?_⟩,fun u hu=>?_⟩
  ·cases j with
   | zero=>simp at a b; subst a b; exact hc
   | succ j=>simp at a
  ·simp at hu; subst hu; exact hv
 unfold cellA at h
 split at h
 ·simp at h; subst h
  cases hc with
  | agg hl hh h1=>exact ⟨⟨by simpa [Value.cells] using hl,by simpa [Value.cells] using hh⟩,by simpa [Value.cells,Ones] using h1⟩
 ·simp only [Option.map_eq_some_iff] at h
  obtain ⟨l,h,rfl⟩:=h
  cases hc with
  | im hc=>obtain ⟨a,b⟩:=cellI_sound h hc; exact ⟨a.cn,b⟩
 ·cases h
 ·rename_i h1 h2 h3
  simp at h; subst h
  cases hc with
  | im h=>exact (h2 _ rfl).elim
  | ref a b=>exact key (.ref a b) rfl
  | own a=>exact key (.own a) (hL.one _ _ a)
  | sub a=>exact key (.sub a) rfl
  | agg a b c=>exact (h1 _ rfl).elim
  | tup a b=>exact (h3 _ rfl).elim
  | fn a b c d=>exact key (.fn a b c d) rfl
theorem wr_len {α : Type} : ∀ (cs : List α) (o : Nat) (us : List α),(wr cs o us).length = cs.length
 | [],_,_=>rfl
 | c :: cs,o + 1,us=>by simp only [wr,List.length_cons]; rw [wr_len cs]
 | c :: cs,0,[]=>rfl
 | _ :: cs,0,u :: us=>by simp only [wr,List.length_cons]; rw [wr_len cs]
theorem wr_get {α : Type} : ∀ (cs : List α) (o : Nat) (us : List α),o + us.length ≤ cs.length → ∀ j,(wr cs o us)[j]? = if o ≤ j ∧ j < o + us.length then us[j - o]? else cs[j]?
 | [],o,us,h,j=>by
  have h1 : us = []:=List.length_eq_zero_iff.1 (by simp only [List.length_nil] at h; omega)
  subst h1
  show ([] : List α)[j]? = _
  simp only [List.length_nil,Nat.add_zero]
  rw [if_neg (by omega)]
 | c :: cs,o + 1,us,h,j=>by
  simp only [List.length_cons] at h
  simp only [wr]
  cases j with
  | zero=>rw [if_neg (by omega)]; rfl
  | succ j=>
   rw [List.getElem?_cons_succ,List.getElem?_cons_succ,wr_get cs o us (by omega) j]
   by_cases hj : o ≤ j ∧ j < o + us.length
   ·rw [if_pos hj,if_pos (by omega)]; congr 1; omega
   ·rw [if_neg hj,if_neg (by omega)]
 | c :: cs,0,[],_,j=>by
  simp only [wr,List.length_nil,Nat.add_zero]
  rw [if_neg (by omega)]
 | c :: cs,0,u :: us,h,j=>by
  simp only [List.length_cons] at h
  simp only [wr,List.length_cons,Nat.sub_zero,Nat.zero_add]
  cases j with
  | zero=>rw [if_pos (by omega)]; rfl
  | succ j=>
   rw [List.getElem?_cons_succ,List.getElem?_cons_succ,List.getElem?_cons_succ,wr_get cs 0 us (by omega) j]
   by_cases hj : j < us.length
   ·rw [if_pos (by omega),if_pos (by omega)]; rfl
   ·rw [if_neg (by omega),if_neg (by omega)]
theorem putAt_len {α : Type} (xs cs : List α) (o : Nat) : (putAt cs o xs).length = cs.length:=by
 unfold putAt
 split
 ·rfl
 ·rw [List.length_set]
 ·exact wr_len _ _ _
theorem putAt_get {α : Type} (xs cs : List α) (o : Nat) (h : o + xs.length ≤ cs.length) (j : Nat) : (putAt cs o xs)[j]? = if o ≤ j ∧ j < o + xs.length then xs[j - o]? else cs[j]?:=by
 unfold putAt
 split
 ·simp only [List.length_nil,Nat.add_zero]
  rw [if_neg (by omega)]
 ·rename_i x
  simp only [List.length_cons,List.length_nil] at h ⊢
  by_cases hj : j = o
  ·subst hj
   rw [List.getElem?_set_self (by omega),if_pos (by omega),Nat.sub_self]; rfl
  ·rw [List.getElem?_set_ne (by omega),if_neg (by omega)]
 ·exact wr_get _ _ _ h j
theorem CnL.put {M : Nat → Prop} {cs xs : List AV} {vs us : List Value} (h : CnL μ M w cs vs) (k : CnL μ M w xs us) {o : Nat} (ho : o + xs.length ≤ cs.length) : CnL μ M w (putAt cs o xs) (putAt vs o us):=by
 refine ⟨by rw [putAt_len,putAt_len,h.1],fun j x v a b=>?_⟩
 rw [putAt_get xs cs o ho] at a
 rw [putAt_get us vs o (by rw [k.1,h.1]; exact ho),k.1] at b
 by_cases hj : o ≤ j ∧ j < o + xs.length
 ·rw [if_pos hj] at a b; exact k.2 _ x v a b
 ·rw [if_neg hj] at a b; exact h.2 _ x v a b
theorem CiL.put {M : Nat → Prop} {cs xs : List IV} {vs us : List Value} (h : CiL M w cs vs) (k : CiL M w xs us) {o : Nat} (ho : o + xs.length ≤ cs.length) : CiL M w (putAt cs o xs) (putAt vs o us):=by
 refine ⟨by rw [putAt_len,putAt_len,h.1],fun j x v a b=>?_⟩
 rw [putAt_get xs cs o ho] at a
 rw [putAt_get us vs o (by rw [k.1,h.1]; exact ho),k.1] at b
 by_cases hj : o ≤ j ∧ j < o + xs.length
 ·rw [if_pos hj] at a b; exact k.2 _ x v a b
 ·rw [if_neg hj] at a b; exact h.2 _ x v a b
theorem Ones.put {vs us : List Value} (h : Ones vs) (k : Ones us) {o : Nat} (ho : o + us.length ≤ vs.length) : Ones (putAt vs o us):=by
 intro v hv
 obtain ⟨j,hj⟩:=List.getElem?_of_mem hv
 rw [putAt_get us vs o ho] at hj
 split at hj
 ·exact k v (List.mem_of_getElem? hj)
 ·exact h v (List.mem_of_getElem? hj)
theorem wr_nil {α : Type} : ∀ (cs : List α) (o : Nat),wr cs o [] = cs
 | [],_=>rfl
 | c :: cs,o + 1=>by rw [wr,wr_nil cs]
 | c :: cs,0=>rfl
theorem wr_cons {α : Type} : ∀ (cs : List α) (o : Nat) (x : α) (xs : List α),wr cs o (x :: xs) = wr (cs.set o x) (o + 1) xs
 | [],_,_,_=>rfl
 | c :: cs,o + 1,x,xs=>by rw [wr,wr_cons cs]; rfl
 | c :: cs,0,x,xs=>rfl
theorem putAt_wr {α : Type} (cs : List α) (o : Nat) (us : List α) : putAt cs o us = wr cs o us:=by
 unfold putAt
 split
 ·rw [wr_nil]
 ·rw [wr_cons,wr_nil]
 ·rfl
theorem putAt_cons {α : Type} (cs : List α) (o : Nat) (x : α) (xs : List α) : putAt cs o (x :: xs) = putAt (cs.set o x) (o + 1) xs:=by rw [putAt_wr,putAt_wr,wr_cons]
theorem foldl_putAt : ∀ (us : List Value) (n o : Nat) (cs : Array Value),((us.zipIdx n).foldl (fun cs (c,j)=>cs.setIfInBounds (o + j) c) cs).toList = putAt cs.toList (o + n) us
 | [],n,o,cs=>rfl
 | u :: us,n,o,cs=>by
  simp only [List.zipIdx_cons,List.foldl_cons]
  rw [putAt_cons]
  rw [foldl_putAt us (n + 1) o]
  simp [Nat.add_assoc]
theorem fillA_sound (hL : Lies μ B w H) {place : Nat → Option (Nat × Nat)} : ∀ (ps : List (Nat × AV)) (qs : List (Nat × Value)) (cs : List AV) (vs : Array Value),ps.map (·.1) = qs.map (·.1) →
  (∀ (j : Nat) p q,ps[j]? = some p → qs[j]? = some q → Cn μ (Mut μ B H) w p.2 q.2) → CnL μ (Mut μ B H) w cs vs.toList → Ones vs.toList → ∀ {cs' : List AV},fillA place cs ps = some cs' →
  ∃ vs' : Array Value,Instr.fill place vs qs = some vs' ∧ CnL μ (Mut μ B H) w cs' vs'.toList ∧ Ones vs'.toList
 | [],qs,cs,vs,h1,_,h3,h4,cs',h5=>by
  cases qs with
  | nil=>simp [fillA] at h5; subst h5; exact ⟨vs,rfl,h3,h4⟩
  | cons q qs=>simp at h1
 | (i,x) :: ps,qs,cs,vs,h1,h2,h3,h4,cs',h5=>by
  cases qs with
  | nil=>simp at h1
  | cons q qs=>
   obtain ⟨i',v⟩:=q
   simp only [List.map_cons,List.cons.injEq] at h1
   obtain ⟨rfl,h1⟩:=h1
   simp only [fillA] at h5
   split at h5
   ·rename_i o k l hp hl
    cases hb : Nat.beq l.length k && Nat.ble (o + k) cs.length with
    | false=>rw [hb] at h5; cases h5
    | true=>
     rw [hb] at h5; simp only [cond_true] at h5
     simp only [Bool.and_eq_true] at hb
     obtain rfl:=beq_of hb.1
     have hle:=Nat.le_of_ble_eq_true hb.2
     obtain ⟨c1,c2⟩:=cellA_sound hL hl (h2 0 _ _ rfl rfl)
     simp only at c1 c2
     have hsz : v.cells.size = l.length:=by have:=c1.1; simpa using this
     have hvs : vs.size = cs.length:=by have:=h3.1; simpa using this
     have e1 : (v.cells.toList.zipIdx.foldl (fun cs (c,j)=>cs.setIfInBounds (o + j) c) vs).toList = putAt vs.toList o v.cells.toList:=foldl_putAt v.cells.toList 0 o vs
     have e2 : (v.cells.zipIdx.foldl (fun cs (c,j)=>cs.setIfInBounds (o + j) c) vs).toList = putAt vs.toList o v.cells.toList:=by
      rw [← e1,← Array.foldl_toList,Array.toList_zipIdx]
     obtain ⟨vs',f1,f2,f3⟩:=fillA_sound hL ps qs (putAt cs o l) (v.cells.zipIdx.foldl (fun cs (c,j)=>cs.setIfInBounds (o + j) c) vs) h1 (fun j p q a b=>h2 (j + 1) p q (by simpa using a) (by simpa using b))
      (by rw [e2]; exact h3.put c1 hle) (by rw [e2]; exact h4.put c2 (by simp [hsz,hvs]; exact hle)) h5
     refine ⟨vs',?_,f2,f3⟩
     simp only [Instr.fill,hp]
     rw [if_neg (by simp [hsz,hvs]; exact hle)]
     exact f1
   ·cases h5
theorem zero_cn {M : Nat → Prop} (vs : List Value) : CnL μ M w (vs.map fun z=>.im (.raw z)) vs:=
 ⟨by simp,fun j x v a b=>by
  simp only [List.getElem?_map,b,Option.map_some,Option.some.injEq] at a; subst a; exact .im (.raw _)⟩
theorem zero_ci {M : Nat → Prop} (vs : List Value) : CiL M w (vs.map .raw) vs:=
 ⟨by simp,fun j x v a b=>by
  simp only [List.getElem?_map,b,Option.map_some,Option.some.injEq] at a; subst a; exact .raw _⟩
end
section
variable {P : Program} {T : TT} {μ : List Value} {B : Nat → Prop} {w : World} {H : List AO} {t : Nat → AV}
theorem mp_parts {t : Nat} {d : TD} {ag : Bool} {z : List Value} (hd : td P t = some d) (hs : d.sh = .mp ag z) : ∃ k e i zv,P.underlying t = some (.map k e) ∧ P.underlying k = some .string ∧ P.info? e = some i ∧ i.zero = some zv ∧ zv.cells.toList = z ∧ (∀ v ∈ z,v.oneCell' = true):=by
 obtain ⟨_,_,_,_,_,_,_,_,_,h8,_⟩:=td_parts hd
 rw [hs] at h8
 unfold shof at h8
 split at h8
 all_goals (try (cases h8; done))
 ·split at h8 <;> cases h8
 ·split at h8 <;> cases h8
 ·rw [Option.map_eq_some_iff] at h8; obtain ⟨_,_,h⟩:=h8; cases h
 ·rename_i k e hu
  split at h8
  ·rename_i hk
   rw [Option.map_eq_some_iff] at h8
   obtain ⟨z',hz,h⟩:=h8
   cases h
   obtain ⟨i,zv,g1,g2,g3,g4,g5,g6⟩:=zof_parts hz
   exact ⟨k,e,i,zv,hu,hk,g1,g2,g4,g6⟩
  ·cases h8
 ·split at h8 <;> cases h8
theorem find_run {s : ByteArray} : ∀ {es : List (ByteArray × AV)} {ents : List MapEntry} (i0 : Nat),ents.length = es.length → (∀ (j : Nat) (p : ByteArray × AV) (m : MapEntry),es[j]? = some p → ents[j]? = some m → m.key = .string p.1) →
  (findA s es = none ∧ Instr.findNow .string (.string s) ents i0 = some none ∧ ∀ x,updA s x es = es ++ [(s,x)]) ∨
  ∃ j m p,Instr.findNow .string (.string s) ents i0 = some (some (i0 + j,m.val)) ∧ ents[j]? = some m ∧ es[j]? = some p ∧ findA s es = some p.2 ∧ (s == p.1) = true ∧ ∀ x,updA s x es = es.set j (s,x)
 | [],[],_,_,_=>.inl ⟨rfl,rfl,fun _=>rfl⟩
 | p :: es,m :: ents,i0,hl,h=>by
  obtain ⟨k,v⟩:=p
  have hk : m.key = .string k:=h 0 (k,v) m rfl rfl
  have hs : Instr.sameNow .string (.string s) m.key = some (s == k):=by rw [hk]; rfl
  cases hb : (s == k) with
  | true=>exact .inr ⟨0,m,(k,v),by simp [Instr.findNow,hs,hb],rfl,rfl,by simp [findA,hb],hb,fun x=>by simp [updA,hb]⟩
  | false=>
   rcases find_run (s:=s) (es:=es) (ents:=ents) (i0 + 1) (by simpa using hl) (fun j p m a b=>h (j + 1) p m (by simpa using a) (by simpa using b)) with ⟨h1,h2,h3⟩ | ⟨j,m',p,h1,h2,h3,h4,h5,h6⟩
   ·exact .inl ⟨by simp [findA,hb,h1],by simp [Instr.findNow,hs,hb,h2],fun x=>by simp [updA,hb,h3]⟩
   ·exact .inr ⟨j + 1,m',p,by simp [Instr.findNow,hs,hb,h1]; omega,by simpa using h2,by simpa using h3,by simp [findA,hb,h4],h5,fun x=>by simp [updA,hb,h6]⟩
 | [],_ :: _,_,h,_=>by simp at h
 | _ :: _,[],_,h,_=>by simp at h
theorem zero_agg {zv : Value} {z : List Value} (hz : zv.cells.toList = z) (hl : 1 < z.length) : zv = .agg z.toArray:=by
 have hc : zv.cells = z.toArray:=by rw [← hz]
 cases zv with
 | agg cs=>rw [show (Value.agg cs).cells = cs from rfl] at hc; rw [hc]
 | _=>
  exfalso
  have : z.length = 1:=by
   have:=congrArg Array.size hc
   simp [Value.cells] at this; omega
  omega
theorem lookup_sound (h : Lies μ B w H) {t : Nat} {d : TD} {ag : Bool} {z : List Value} (hd : td P t = some d) (hs : d.sh = .mp ag z) (hz1 : 1 < z.length) {i : Nat} {u : Value} (hu : μ[i]? = some u) {es : List (ByteArray × AV)} (ho : H[i]? = some (.mp es)) (s : ByteArray) :
  ∃ v,(Instr.lookup t u (.string s) true).run P w = .ok v w ∧ Cn μ (Mut μ B H) w (lookA z s es) v:=by
 obtain ⟨k,e,ii,zv,h1,h2,h3,h4,h5,h6⟩:=mp_parts hd hs
 obtain ⟨r,ents,clock,rfl,k1,k2,k3⟩:=h.obj i _ u ho hu
 have hck : ∀ b,(Instr.checkKey b 10000 k (.string s)).run P w = .ok () w:=fun b=>MapKept.run_checkKey h2 (by simp [MapKept.IsKey]) b 9999
 have base : ∀ {a : Option (Nat × Value)},Instr.findNow .string (.string s) ents 0 = some a → (Instr.lookup t (.map (some r)) (.string s) true).run P w = (match a with
   | some (_,v)=>pure (.tuple #[v,.bool true])
   | none=>do let v ← zeroValue e; pure (.tuple #[v,.bool false]) : Sem Value).run P w:=by
  intro a ha
  have hf:=MapKept.run_findKey (w:=w) h2 (k:=.string s) (l:=ents) ha
  unfold Instr.lookup
  simp only [Sem.run_bind,run_und h1,Result.andThen,MapKept.run_getObj_map k1,Sem.run_pure,hck,hf]
  cases a with
  | none=>simp [Sem.run_bind,Result.andThen]
  | some p=>simp [Sem.run_bind,Result.andThen]
 rcases find_run (s:=s) 0 k2 (fun j p m a b=>(k3 j p m a b).1) with ⟨f1,f2,-⟩ | ⟨j,m,p,f1,f2,f3,f4,f5,-⟩
 ·refine ⟨.tuple #[zv,.bool false],?_,?_⟩
  ·rw [base f2]; simp [Sem.run_bind,run_zero h3 h4,Result.andThen]
  ·unfold lookA; rw [f1]
   have hzv:=zero_agg h5 hz1
   refine .tup (vs:=[zv,.bool false]) rfl fun j x v a b=>?_
   match j with
   | 0=>
    simp at a b; subst a b
    rw [hzv]
    have:=zero_ci (M:=Mut μ B H) (w:=w) z
    exact .im (.agg this.1 this.2 h6)
   | 1=>simp at a b; subst a b; exact .im (.raw _)
   | j + 2=>simp at a
 ·refine ⟨.tuple #[m.val,.bool true],?_,?_⟩
  ·rw [base f1]; simp
  ·unfold lookA; rw [f4]
   refine .tup (vs:=[m.val,.bool true]) rfl fun j' x v a b=>?_
   match j' with
   | 0=>simp at a b; subst a b; exact (k3 j p m f3 f2).2
   | 1=>simp at a b; subst a b; exact .im (.raw _)
   | j' + 2=>simp at a
def mapW (w : World) (r : Nat) (es : Array MapEntry) (c : Nat) : World:={ w with heap:=w.heap.setIfInBounds r (.map es c) }
theorem mapW_heap {r c : Nat} {es es' : Array MapEntry} {c' : Nat} (h : w.heap[r]? = some (.map es' c')) : (mapW w r es c).heap[r]? = some (.map es c):=by
 have:=(Array.getElem?_eq_some_iff.1 h).1
 simp [mapW,this]
theorem kept_mapW (w : World) (r : Nat) (es : Array MapEntry) (c : Nat) : Kept (fun b=>b = r) w (mapW w r es c):=
 ⟨rfl,rfl,rfl,by simp [mapW],fun k _ hn=>by simp only [mapW]; rw [Array.getElem?_setIfInBounds_ne (fun e=>hn e.symm)]⟩
theorem update_sound (h : Lies μ B w H) {t : Nat} {d : TD} {ag : Bool} {z : List Value} (hd : td P t = some d) (hs : d.sh = .mp ag z) {i : Nat} {u : Value} (hu : μ[i]? = some u) {es : List (ByteArray × AV)} (ho : H[i]? = some (.mp es)) (s : ByteArray) {x : AV} {v : Value} (hx : Cn μ (Mut μ B H) w x v) :
  ∃ r w',u = .map (some r) ∧ (Instr.mapUpdate t u (.string s) v).run P w = .ok () w' ∧ Kept (fun b=>b = r) w w' ∧ LieO μ (Mut μ B H) w' u (.mp (updA s x es)):=by
 obtain ⟨k,e,ii,zv,h1,h2,h3,h4,h5,h6⟩:=mp_parts hd hs
 obtain ⟨r,ents,clock,rfl,k1,k2,k3⟩:=h.obj i _ u ho hu
 have hck : ∀ b,(Instr.checkKey b 10000 k (.string s)).run P w = .ok () w:=fun b=>MapKept.run_checkKey h2 (by simp [MapKept.IsKey]) b 9999
 have hm : Mut μ B H r:=.inr ⟨i,_,_,ho,rfl,hu,rfl⟩
 have keep : ∀ {es' : Array MapEntry} {c : Nat} {y : AV} {q : Value},Cn μ (Mut μ B H) w y q → Cn μ (Mut μ B H) (mapW w r es' c) y q:=fun hy=>
  hy.keep (fun _ _ h=>h) fun b hlt hn=>⟨hn,(kept_mapW w r _ _).block b hlt fun e=>hn (e ▸ hm)⟩
 rcases find_run (s:=s) 0 k2 (fun j p m a b=>(k3 j p m a b).1) with ⟨f1,f2,f3⟩ | ⟨j,m,p,f1,f2,f3,f4,f5,f6⟩
 ·refine ⟨r,mapW w r (ents.toArray.push { key:=.string s,val:=v,born:=clock }) (clock + 1),rfl,?_,kept_mapW _ _ _ _,r,ents ++ [{ key:=.string s,val:=v,born:=clock }],clock + 1,rfl,?_,?_,?_⟩
  ·have hf:=MapKept.run_findKey (w:=w) h2 (k:=.string s) (l:=ents) f2
   unfold Instr.mapUpdate
   simp only [Sem.run_bind,run_und h1,Result.andThen,MapKept.run_getObj_map k1,hck,hf,MapKept.run_setObj_map _ k1]
   rfl
  ·rw [mapW_heap k1]; simp
  ·rw [f3]; simp [k2]
  ·rw [f3]
   intro j p m a b
   by_cases hj : j < es.length
   ·rw [List.getElem?_append_left hj] at a
    rw [List.getElem?_append_left (by omega)] at b
    exact ⟨(k3 j p m a b).1,keep (k3 j p m a b).2⟩
   ·rw [List.getElem?_append_right (by omega)] at a
    rw [List.getElem?_append_right (by omega),k2] at b
    have h0 : j - es.length = 0:=by have:=(List.getElem?_eq_some_iff.1 a).1; simp at this; omega
    rw [h0] at a b
    simp at a b; subst a b
    exact ⟨rfl,keep hx⟩
 ·have hkey : m.key = .string p.1:=(k3 j p m f3 f2).1
  have hsb : Instr.sameBits 10000 m.key (.string s) = true:=by
   rw [hkey]
   have : p.1 = s:=((MapKept.bytes_beq _ _).1 f5).symm
   rw [this]; simpa [Instr.sameBits] using (MapKept.bytes_beq s s).2 rfl
  refine ⟨r,mapW w r (ents.toArray.modify j fun e=>{ e with key:=.string s,val:=v }) clock,rfl,?_,kept_mapW _ _ _ _,r,ents.set j { m with key:=.string s,val:=v },clock,rfl,?_,?_,?_⟩
  ·have hf:=MapKept.run_findKey (w:=w) h2 (k:=.string s) (l:=ents) f1
   unfold Instr.mapUpdate
   simp only [Sem.run_bind,run_und h1,Result.andThen,MapKept.run_getObj_map k1,hck,hf,Nat.zero_add]
   have e1 : ((ents.toArray[j]?.map (·.key)).getD (.string s)) = m.key:=by simp [f2]
   rw [e1]
   have e2 : (Instr.keyThatStays m.key (.string s)).run P w = .ok (.string s) w:=by unfold Instr.keyThatStays; rw [if_pos hsb]; rfl
   simp only [Sem.run_bind,e2,Result.andThen,MapKept.run_setObj_map _ k1]
   rfl
  ·rw [mapW_heap k1]
   congr 2
   apply Array.ext'
   apply List.ext_getElem?
   intro q
   simp only [Array.toList_modify,List.getElem?_modify,List.getElem?_set]
   by_cases hq : j = q
   ·subst hq; simp [f2,(List.getElem?_eq_some_iff.1 f2).1]; rw [(List.getElem?_eq_some_iff.1 f2).2]
   ·simp [hq]
  ·rw [f6]; simp [k2]
  ·rw [f6]
   intro j' p' m' a b
   rcases Nat.decEq j j' with hne | rfl
   ·rw [List.getElem?_set_ne hne] at a b
    exact ⟨(k3 j' p' m' a b).1,keep (k3 j' p' m' a b).2⟩
   ·rw [List.getElem?_set_self (List.getElem?_eq_some_iff.1 f3).1] at a
    rw [List.getElem?_set_self (List.getElem?_eq_some_iff.1 f2).1] at b
    cases a; cases b
    exact ⟨rfl,keep hx⟩
end
end Go.Proofs.YtlhmaljjdpjkgaaGreatDoor
