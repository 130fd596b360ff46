/- The machine: statements. PRINTED BY gen/mach5.py. -/
import Derived.Test.YtlhmaljjdpjkgaaGreatDoorTaM19
import Derived.Test.YtlhmaljjdpjkgaaGreatDoorTaM17
import Derived.Test.YtlhmaljjdpjkgaaGreatDoorTaM12
set_option maxHeartbeats 4000000
namespace Go.Proofs.YtlhmaljjdpjkgaaGreatDoor
open Go Go.RowKit
theorem cn_im {μ : List Value} {M : Nat → Prop} {w : World} {cs : List IV} {v : Value} (h : Cn μ M w (.im (.agg cs)) v) : Cn μ M w (.agg (cs.map .im)) v:=by
 cases h with
 | im h=>cases h with
  | agg h1 h2 h3=>
   refine .agg (by rw [h1,List.length_map]) (fun j x v hx hv=>?_) h3
   rw [List.getElem?_map,Option.map_eq_some_iff] at hx
   obtain ⟨y,hy,rfl⟩:=hx
   exact .im (h2 j y v hy hv)
theorem Ec.im {P : Program} {f : Nat} {R : Nat → Bool} {H : List AO} {a : AV} {cs : List IV} {Q : AV → List AO → Prop} (h : Ec P f R H [a,.agg (cs.map .im)] Q) : Ec P f R H [a,.im (.agg cs)] Q:=
 ⟨h.1,fun B w μ vs lies hc=>h.2 B w μ vs lies ⟨hc.1,fun j x v hx hv=>by
  match j with
  | 0=>exact hc.2 0 x v hx hv
  | 1=>
   have:=hc.2 1 _ v rfl hv
   cases hx
   exact cn_im this
  | j + 2=>simp at hx⟩⟩
theorem upd_y (x y : AV) : updA (tx [121]) y [(tx [120],x)] = [(tx [120],x),(tx [121],y)]:=by
 show (bif (tx [121] == tx [120]) then _ else _) = _
 rw [bxy]; rfl
theorem m_set_ab {Q : Ms → Prop} {N : Nde} {v : V15} {c F : Nat} (h : Xp Q N v c) (hs : Q .a) (hc : 1 + c ≤ F) (hF : F ≤ 1000000) : Ec Tryz.prog 46 (own 2) (MH F .a) [.ref 0 0,ndA (.mk 18 [120] [N])] (Is (.tup []) (MH (F - (1 + c)) (.b v))):=by
 have h1:=h .a hs (F - 1) (by omega) (by omega)
 rw [show F - 1 - c = F - (1 + c) by omega] at h1
 refine ec Tryz.func46 ?_
 refine cxe 2 (m_take (s:=.a) (n:=1) (by omega) hF) rfl rfl rfl (.inl rfl) ?_
 refine iff_ rfl rfl ?_
 refine ift rfl rfl ?_
 refine ⟨⟨by decide,by show (0 : Int) < 1; decide⟩,?_⟩
 rintro _ rfl
 refine cxe 2 (Ec.im (cs:=ndC N) h1) rfl rfl rfl (.inl rfl) ?_
 refine ift rfl rfl ?_
 refine rqa [0,1,2,3,4,5,6,7] [(7,[],some [1])] ?_
 exact fin [0,1] rfl ⟨rfl,rfl⟩
theorem m_set_bc {x : V15} {Q : Ms → Prop} {N : Nde} {v : V15} {c F : Nat} (h : Xp Q N v c) (hs : Q (.b x)) (hc : 1 + c ≤ F) (hF : F ≤ 1000000) : Ec Tryz.prog 46 (own 2) (MH F (.b x)) [.ref 0 0,ndA (.mk 18 [121] [N])] (Is (.tup []) (MH (F - (1 + c)) (.c x v))):=by
 have h1:=h (.b x) hs (F - 1) (by omega) (by omega)
 rw [show F - 1 - c = F - (1 + c) by omega] at h1
 refine ec Tryz.func46 ?_
 refine cxe 2 (m_take (s:=(.b x)) (n:=1) (by omega) hF) rfl rfl rfl (.inl rfl) ?_
 refine iff_ rfl rfl ?_
 refine ift rfl rfl ?_
 refine ⟨⟨by decide,by show (0 : Int) < 1; decide⟩,?_⟩
 rintro _ rfl
 refine cxe 2 (Ec.im (cs:=ndC N) h1) rfl rfl rfl (.inl rfl) ?_
 refine ift rfl rfl ?_
 refine rqa [0,1,2,3,4,5,6,7] [(7,[],some [1])] ?_
 exact fin [0,1] rfl ⟨rfl,congrArg (fun es=>[(MH (F - (1 + c)) (.b x)).headD .dead,.mp es]) (upd_y x.a v.a)⟩
theorem m_st_ae {Q : Ms → Prop} {N : Nde} {q : Rat} {c F : Nat} (hP : Pc Tryz.prog 21 [(nV q).i] (· = .tup [ts [53],.raw (.int .i64 0)])) (h : Xp Q N (nV q) c) (hs : Q .a) (hc : 1 + c ≤ F) (hF : F ≤ 1000000) : Ec Tryz.prog 46 (own 2) (MH F .a) [.ref 0 0,ndA (.mk 19 [] [N])] (Is (.tup []) (MH (F - (1 + c)) (.e [53,10] q))):=by
 have h1:=h .a hs (F - 1) (by omega) (by omega)
 rw [show F - 1 - c = F - (1 + c) by omega] at h1
 have c2:=m_show_ae (F:=F - (1 + c)) hP
 refine ec Tryz.func46 ?_
 refine cxe 2 (m_take (s:=.a) (n:=1) (by omega) hF) rfl rfl rfl (.inl rfl) ?_
 refine iff_ rfl rfl ?_
 refine iff_ rfl rfl ?_
 refine ift rfl rfl ?_
 refine ⟨⟨by decide,by show (0 : Int) < 1; decide⟩,?_⟩
 rintro _ rfl
 refine cxe 2 (Ec.im (cs:=ndC N) h1) rfl rfl rfl (.inl rfl) ?_
 refine cxg [0,1] 2 [] c2 rfl rfl rfl rfl ?_
 rintro _ _ ⟨rfl,rfl⟩
 refine ⟨.inr rfl,?_⟩
 exact fin0 ⟨rfl,rfl⟩
theorem m_st_cd {x y : V15} {Q : Ms → Prop} {N : Nde} {q : Rat} {c F : Nat} (hP : Pc Tryz.prog 21 [(nV q).i] (· = .tup [ts [49],.raw (.int .i64 0)])) (h : Xp Q N (nV q) c) (hs : Q (.c x y)) (hc : 1 + c ≤ F) (hF : F ≤ 1000000) : Ec Tryz.prog 46 (own 2) (MH F (.c x y)) [.ref 0 0,ndA (.mk 19 [] [N])] (Is (.tup []) (MH (F - (1 + c)) (.d x y [49,10] q))):=by
 have h1:=h (.c x y) hs (F - 1) (by omega) (by omega)
 rw [show F - 1 - c = F - (1 + c) by omega] at h1
 have c2:=m_show_cd (F:=F - (1 + c)) (x:=x) (y:=y) hP
 refine ec Tryz.func46 ?_
 refine cxe 2 (m_take (s:=(.c x y)) (n:=1) (by omega) hF) rfl rfl rfl (.inl rfl) ?_
 refine iff_ rfl rfl ?_
 refine iff_ rfl rfl ?_
 refine ift rfl rfl ?_
 refine ⟨⟨by decide,by show (0 : Int) < 1; decide⟩,?_⟩
 rintro _ rfl
 refine cxe 2 (Ec.im (cs:=ndC N) h1) rfl rfl rfl (.inl rfl) ?_
 refine cxg [0,1] 2 [] c2 rfl rfl rfl rfl ?_
 rintro _ _ ⟨rfl,rfl⟩
 refine ⟨.inr rfl,?_⟩
 exact fin0 ⟨rfl,rfl⟩
theorem m_st_dd {x y : V15} {tl : List Nat} {q0 : Rat} {Q : Ms → Prop} {N : Nde} {q : Rat} {c F : Nat} (hP : Pc Tryz.prog 21 [(nV q).i] (· = .tup [ts [49],.raw (.int .i64 0)])) (hl : tl.length ≤ 1000) (h : Xp Q N (nV q) c) (hs : Q (.d x y tl q0)) (hc : 1 + c ≤ F) (hF : F ≤ 1000000) : Ec Tryz.prog 46 (ownm 3 [2]) (MH F (.d x y tl q0)) [.ref 0 0,ndA (.mk 19 [] [N])] (Is (.tup []) (MH (F - (1 + c)) (.d x y (tl ++ [49,10]) q))):=by
 have h1:=h (.d x y tl q0) hs (F - 1) (by omega) (by omega)
 rw [show F - 1 - c = F - (1 + c) by omega] at h1
 have c2:=m_show_dd (F:=F - (1 + c)) (x:=x) (y:=y) (tl:=tl) (q0:=q0) hP hl
 refine ec Tryz.func46 ?_
 refine cxe 3 (m_take (s:=(.d x y tl q0)) (n:=1) (by omega) hF) rfl rfl rfl (.inl rfl) ?_
 refine iff_ rfl rfl ?_
 refine iff_ rfl rfl ?_
 refine ift rfl rfl ?_
 refine ⟨⟨by decide,by show (0 : Int) < 1; decide⟩,?_⟩
 rintro _ rfl
 refine cxe 3 (Ec.im (cs:=ndC N) h1) rfl rfl rfl (.inl rfl) ?_
 refine cxg [0,1,2] 3 [2] c2 rfl rfl rfl rfl ?_
 rintro _ _ ⟨rfl,rfl⟩
 refine ⟨.inr rfl,?_⟩
 exact fin0 ⟨rfl,rfl⟩
theorem m_block1 {t1 : List Nat} {q : Rat} {N0 : Nde} {F0 F1 : Nat} (h0 : Ec Tryz.prog 46 (own 2) (MH F0 .a) [.ref 0 0,ndA N0] (Is (.tup []) (MH F1 (.e t1 q)))) : Ec Tryz.prog 28 (own 2) (MH F0 .a) [.ref 0 0,.im (.sl 1 3 (ndL [N0]))] (Is (.tup []) (MH F1 (.e t1 q))):=by
 refine ec Tryz.func28 ?_
 refine lpn 2 ?_
 refine ift rfl rfl ?_
 refine ⟨⟨by decide,by show (0 : Int) < 1; decide⟩,?_⟩
 rintro _ rfl
 refine iff_ rfl rfl ?_
 refine cxg [0,1] 2 [] h0 rfl rfl rfl rfl ?_
 rintro _ _ ⟨rfl,rfl⟩
 refine ⟨.inr rfl,?_⟩
 refine iff_ rfl rfl ?_
 exact fin0 ⟨rfl,rfl⟩
theorem m_block8 {x y : V15} {t1 t2 t3 t4 t5 t6 : List Nat} {q : Rat} {N0 N1 N2 N3 N4 N5 N6 N7 : Nde} {F0 F1 F2 F3 F4 F5 F6 F7 F8 : Nat} (h0 : Ec Tryz.prog 46 (own 2) (MH F0 .a) [.ref 0 0,ndA N0] (Is (.tup []) (MH F1 (.b x)))) (h1 : Ec Tryz.prog 46 (own 2) (MH F1 (.b x)) [.ref 0 0,ndA N1] (Is (.tup []) (MH F2 (.c x y)))) (h2 : Ec Tryz.prog 46 (own 2) (MH F2 (.c x y)) [.ref 0 0,ndA N2] (Is (.tup []) (MH F3 (.d x y t1 q)))) (h3 : Ec Tryz.prog 46 (ownm 3 [2]) (MH F3 (.d x y t1 q)) [.ref 0 0,ndA N3] (Is (.tup []) (MH F4 (.d x y t2 q)))) (h4 : Ec Tryz.prog 46 (ownm 3 [2]) (MH F4 (.d x y t2 q)) [.ref 0 0,ndA N4] (Is (.tup []) (MH F5 (.d x y t3 q)))) (h5 : Ec Tryz.prog 46 (ownm 3 [2]) (MH F5 (.d x y t3 q)) [.ref 0 0,ndA N5] (Is (.tup []) (MH F6 (.d x y t4 q)))) (h6 : Ec Tryz.prog 46 (ownm 3 [2]) (MH F6 (.d x y t4 q)) [.ref 0 0,ndA N6] (Is (.tup []) (MH F7 (.d x y t5 q)))) (h7 : Ec Tryz.prog 46 (ownm 3 [2]) (MH F7 (.d x y t5 q)) [.ref 0 0,ndA N7] (Is (.tup []) (MH F8 (.d x y t6 q)))) : Ec Tryz.prog 28 (own 2) (MH F0 .a) [.ref 0 0,.im (.sl 8 3 (ndL [N0,N1,N2,N3,N4,N5,N6,N7]))] (Is (.tup []) (MH F8 (.d x y t6 q))):=by
 refine ec Tryz.func28 ?_
 refine lpn 9 ?_
 refine ift rfl rfl ?_
 refine ⟨⟨by decide,by show (0 : Int) < 8; decide⟩,?_⟩
 rintro _ rfl
 refine iff_ rfl rfl ?_
 refine cxg [0,1] 2 [] h0 rfl rfl rfl rfl ?_
 rintro _ _ ⟨rfl,rfl⟩
 refine ⟨.inr rfl,?_⟩
 refine ift rfl rfl ?_
 refine ⟨⟨by decide,by show (1 : Int) < 8; decide⟩,?_⟩
 rintro _ rfl
 refine iff_ rfl rfl ?_
 refine cxg [0,1] 2 [] h1 rfl rfl rfl rfl ?_
 rintro _ _ ⟨rfl,rfl⟩
 refine ⟨.inr rfl,?_⟩
 refine ift rfl rfl ?_
 refine ⟨⟨by decide,by show (2 : Int) < 8; decide⟩,?_⟩
 rintro _ rfl
 refine iff_ rfl rfl ?_
 refine cxg [0,1] 2 [] h2 rfl rfl rfl rfl ?_
 rintro _ _ ⟨rfl,rfl⟩
 refine ⟨.inr rfl,?_⟩
 refine ift rfl rfl ?_
 refine ⟨⟨by decide,by show (3 : Int) < 8; decide⟩,?_⟩
 rintro _ rfl
 refine iff_ rfl rfl ?_
 refine cxg [0,1,2] 3 [2] h3 rfl rfl rfl rfl ?_
 rintro _ _ ⟨rfl,rfl⟩
 refine ⟨.inr rfl,?_⟩
 refine ift rfl rfl ?_
 refine ⟨⟨by decide,by show (4 : Int) < 8; decide⟩,?_⟩
 rintro _ rfl
 refine iff_ rfl rfl ?_
 refine cxg [0,1,2] 3 [2] h4 rfl rfl rfl rfl ?_
 rintro _ _ ⟨rfl,rfl⟩
 refine ⟨.inr rfl,?_⟩
 refine ift rfl rfl ?_
 refine ⟨⟨by decide,by show (5 : Int) < 8; decide⟩,?_⟩
 rintro _ rfl
 refine iff_ rfl rfl ?_
 refine cxg [0,1,2] 3 [2] h5 rfl rfl rfl rfl ?_
 rintro _ _ ⟨rfl,rfl⟩
 refine ⟨.inr rfl,?_⟩
 refine ift rfl rfl ?_
 refine ⟨⟨by decide,by show (6 : Int) < 8; decide⟩,?_⟩
 rintro _ rfl
 refine iff_ rfl rfl ?_
 refine cxg [0,1,2] 3 [2] h6 rfl rfl rfl rfl ?_
 rintro _ _ ⟨rfl,rfl⟩
 refine ⟨.inr rfl,?_⟩
 refine ift rfl rfl ?_
 refine ⟨⟨by decide,by show (7 : Int) < 8; decide⟩,?_⟩
 rintro _ rfl
 refine iff_ rfl rfl ?_
 refine cxg [0,1,2] 3 [2] h7 rfl rfl rfl rfl ?_
 rintro _ _ ⟨rfl,rfl⟩
 refine ⟨.inr rfl,?_⟩
 refine iff_ rfl rfl ?_
 exact fin0 ⟨rfl,rfl⟩
def budI : IV:=.agg [.raw (.int .i64 1000000),.raw (.int .i64 1000000),.raw (.int .i64 200)]
def budA : AV:=.agg [ri .i64 1000000,ri .i64 1000000,ri .i64 200]
theorem m_started_d {x y : V15} {F n : Nat} {cs : List IV} {tl : List Nat} {q : Rat} (hB : Ec Tryz.prog 28 (own 2) (MH 1000000 .a) [.ref 0 0,.im (.sl n 3 cs)] (Is (.tup []) (MH F (.d x y tl q)))) :
  Ec Tryz.prog 16 (own 0) [] [.im (.sl n 3 cs),budA] (Is (.ref 0 0) (MH F (.d x y tl q))):=by
 refine ec Tryz.func16 ?_
 refine cxg [2,1] 2 [] hB rfl rfl rfl rfl ?_
 rintro _ _ ⟨rfl,rfl⟩
 refine ⟨.inr rfl,?_⟩
 exact fin0 ⟨rfl,rfl⟩
theorem m_started_e {F n : Nat} {cs : List IV} {tl : List Nat} {q : Rat} (hB : Ec Tryz.prog 28 (own 2) (MH 1000000 .a) [.ref 0 0,.im (.sl n 3 cs)] (Is (.tup []) (MH F (.e tl q)))) :
  Ec Tryz.prog 16 (own 0) [] [.im (.sl n 3 cs),budA] (Is (.ref 0 0) (MH F (.e tl q))):=by
 refine ec Tryz.func16 ?_
 refine cxg [2,1] 2 [] hB rfl rfl rfl rfl ?_
 rintro _ _ ⟨rfl,rfl⟩
 refine ⟨.inr rfl,?_⟩
 exact fin0 ⟨rfl,rfl⟩
theorem m_may : Pc Tryz.prog 25 [budI] (· = .raw (.bool true)):=by
 refine pc Tryz.func25 ?_
 repeat (first|refine gt rfl ?_|refine gf rfl ?_|refine tw rfl ?_|refine tf rfl ?_)
 exact rfl
theorem m_parsed {t : List Nat} {T : List Tok} {n : Nat} {cs : List IV} (hl : Pc Tryz.prog 26 [ts t] (· = .tup [tkS T,.raw (.int .i64 0),.raw (.int .i64 0)])) (hp : Pc Tryz.prog 27 [tkS T,.raw (.int .i64 200)] (· = .tup [.sl n 3 cs,.raw (.int .i64 0),.raw (.int .i64 0)])) :
  Pc Tryz.prog 15 [ts t,budI] (· = .tup [.sl n 3 cs,.raw (.int .i64 0)]):=by
 refine pc Tryz.func15 ?_
 refine ce m_may rfl ?_
 refine iff_ rfl rfl ?_
 refine ce hl rfl ?_
 refine iff_ rfl rfl ?_
 refine ce hp rfl ?_
 exact rfl
theorem m_Run_d {x y : V15} {F n : Nat} {cs : List IV} {t tl : List Nat} {q : Rat} (hp : Pc Tryz.prog 15 [ts t,budI] (· = .tup [.sl n 3 cs,.raw (.int .i64 0)]))
  (hB : Ec Tryz.prog 28 (own 2) (MH 1000000 .a) [.ref 0 0,.im (.sl n 3 cs)] (Is (.tup []) (MH F (.d x y tl q)))) (hb : byt tl = true) (h0 : 0 < tl.length) : Pc Tryz.prog 8 [ts t,budI] (· = .tup [ts tl,.raw (.int .i64 0)]):=by
 refine pc Tryz.func8 ?_
 refine ce hp rfl ?_
 refine iff_ rfl rfl ?_
 refine cxg [] 0 [] (m_started_d hB) rfl rfl rfl rfl ?_
 rintro _ _ ⟨rfl,rfl⟩
 refine ⟨.inr rfl,?_⟩
 refine iff_ rfl rfl ?_
 refine cx 3 (b_String_m (x:=x) (y:=y) (n:=(F : Int)) (q:=q) hb h0) rfl rfl rfl ?_
 rintro _ _ rfl
 refine ⟨.inr rfl,?_⟩
 exact rfl
theorem m_Run_e {F n : Nat} {cs : List IV} {t tl : List Nat} {q : Rat} (hp : Pc Tryz.prog 15 [ts t,budI] (· = .tup [.sl n 3 cs,.raw (.int .i64 0)]))
  (hB : Ec Tryz.prog 28 (own 2) (MH 1000000 .a) [.ref 0 0,.im (.sl n 3 cs)] (Is (.tup []) (MH F (.e tl q)))) (hb : byt tl = true) (h0 : 0 < tl.length) : Pc Tryz.prog 8 [ts t,budI] (· = .tup [ts tl,.raw (.int .i64 0)]):=by
 refine pc Tryz.func8 ?_
 refine ce hp rfl ?_
 refine iff_ rfl rfl ?_
 refine cxg [] 0 [] (m_started_e hB) rfl rfl rfl rfl ?_
 rintro _ _ ⟨rfl,rfl⟩
 refine ⟨.inr rfl,?_⟩
 refine iff_ rfl rfl ?_
 refine cx 3 (b_String_n (n:=(F : Int)) (q:=q) hb h0) rfl rfl rfl ?_
 rintro _ _ rfl
 refine ⟨.inr rfl,?_⟩
 exact rfl
theorem v_text1M {r c j : Nat} {A : Nat → Nat → Int} (hr : r ≤ 64) (hc : c ≤ 64) (hj : j < r * c) (hA : (A (j / c) (j % c)).natAbs < W64) :
  Pc Tryz.prog 56 [.raw (.int .i64 (j : Int)),.ip (cM r c (ra A))] (· = ts (zts (A (j / c) (j % c)))):=by
 have hrc : r * c ≤ 64 * 64:=Nat.mul_le_mul hr hc
 have hL : ((tq c (ra A) (r * c)).map qc).length = r * c:=by rw [List.length_map,tq_len]
 have hx : ((tq c (ra A) (r * c)).map qc)[j]? = some (qc (ra A (j / c) (j % c))):=by
  rw [List.getElem?_map]; unfold tq; rw [List.getElem?_map,List.getElem?_range hj]; rfl
 have cp:=r_Print hA
 refine pc Tryz.func56 ?_
 refine gm (qc_len _) j ⟨by omega,by rw [hL]; omega⟩ hx (by rw [Int.toNat_natCast]) fun l=>?_
 refine ce cp rfl ?_
 exact rfl
def rwsA (r c : Nat) (A : Nat → Nat → Int) : List (List Int):=(List.range r).map fun i=>(List.range c).map fun k=>A i k
theorem tabL_ne {l : List (List Int)} (h : l ≠ []) : tabL l = 91 :: (jnL (l.map fun r=>jnL (r.map ztx) [44,32]) [59,32] ++ [93]):=by
 cases l with
 | nil=>exact absurd rfl h
 | cons x l=>rfl
theorem txO_tab {r c : Nat} {A : Nat → Nat → Int} (hr : 0 < r) : 91 :: (joinN (txO c (fun j=>zts (A (j / c) (j % c))) r) [59,32] ++ [93]) = tabL (rwsA r c A):=by
 have hne : rwsA r c A ≠ []:=by
  intro e
  have:=congrArg List.length e
  unfold rwsA at this; simp at this; omega
 rw [tabL_ne hne,jn_eq]
 have e : txO c (fun j=>zts (A (j / c) (j % c))) r = (rwsA r c A).map fun r=>jnL (r.map ztx) [44,32]:=by
  unfold txO rwsA
  rw [List.map_map]
  refine List.map_congr_left fun i hi=>?_
  show joinN _ _ = jnL (((List.range c).map fun k=>A i k).map ztx) _
  rw [jn_eq]
  congr 1
  unfold txR
  rw [List.map_map]
  refine List.map_congr_left fun k hk=>?_
  have hk : k < c:=List.mem_range.1 hk
  show zts (A ((i * c + k) / c) ((i * c + k) % c)) = ztx (A i k)
  rw [Nat.mul_comm i c,Nat.mul_add_div (by omega),Nat.div_eq_of_lt hk,Nat.mul_add_mod,Nat.mod_eq_of_lt hk]; rfl
 rw [e]
theorem zts_len {z : Int} (h : z.natAbs < W64) : (zts z).length ≤ 40:=by
 have h1:=(dgs_len z.natAbs (by have:=W64_lt; omega)).2
 unfold zts
 split <;> simp <;> omega
theorem v_textM {r c : Nat} {A : Nat → Nat → Int} (hr0 : 0 < r) (hr : r ≤ 64) (hc0 : 0 < c) (hc : c ≤ 64) (hA : ∀ i k,i < r → k < c → (A i k).natAbs < W64) : Pc Tryz.prog 37 [VM r c (ra A)] (· = ts (tabL (rwsA r c A))):=by
 have ct:=v_tableN (r:=r) (c:=c) (f:=56) (a:=[]) (b:=[.ip (cM r c (ra A))]) (T:=fun j=>zts (A (j / c) (j % c))) hr0 hr hc0 hc (fun i k hi hk=>?_) (fun i k hi hk=>?_)
 ·rw [txO_tab hr0] at ct
  refine pc Tryz.func37 ?_
  refine iff_ rfl rfl ?_
  refine ift rfl rfl ?_
  refine clk [0] ct rfl rfl ?_
  rintro _ rfl
  exact rfl
 ·have h1:=idx_lt hi hk
  have e1 : (i * c + k) / c = i:=by rw [Nat.mul_comm i c,Nat.mul_add_div (by omega),Nat.div_eq_of_lt hk,Nat.add_zero]
  have e2 : (i * c + k) % c = k:=by rw [Nat.mul_comm i c,Nat.mul_add_mod,Nat.mod_eq_of_lt hk]
  exact v_text1M hr hc h1 (by rw [e1,e2]; exact hA i k hi hk)
 ·have e1 : (i * c + k) / c = i:=by rw [Nat.mul_comm i c,Nat.mul_add_div (by omega),Nat.div_eq_of_lt hk,Nat.add_zero]
  have e2 : (i * c + k) % c = k:=by rw [Nat.mul_comm i c,Nat.mul_add_mod,Nat.mod_eq_of_lt hk]
  show (zts (A ((i * c + k) / c) ((i * c + k) % c))).length ≤ 40
  rw [e1,e2]; exact zts_len (hA i k hi hk)
theorem v_number0 : Pc Tryz.prog 62 [.raw (.int .u64 0)] (· = ts [48]):=by
 have h:=c_Print (x:=0) (by decide)
 rw [show dgs 0 = [48] from rfl] at h
 refine pc Tryz.func62 ?_
 refine ce (n_Of (x:=0) rfl (by decide)) rfl ?_
 refine ce h rfl ?_
 exact rfl
theorem v_table0 {f : IV} : Pc Tryz.prog 55 [.raw (.int .i64 0),.raw (.int .i64 0),f] (· = ts [122,101,114,111,40,48,44,32,48,41]):=by
 refine pc Tryz.func55 ?_
 repeat (first|refine gt rfl ?_|refine gf rfl ?_|refine tw rfl ?_|refine tf rfl ?_)
 refine ift rfl rfl ?_
 refine ce v_number0 rfl ?_
 refine ⟨by decide,?_⟩
 refine ⟨by decide,?_⟩
 refine ce v_number0 rfl ?_
 refine ⟨by decide,?_⟩
 refine ⟨by decide,?_⟩
 exact congrArg (fun b=>IV.raw (.string b)) (by kernel_rfl)
theorem v_text0 {A : Nat → Nat → Int} : Pc Tryz.prog 37 [VM 0 0 (ra A)] (· = ts (tabL (rwsA 0 0 A))):=by
 refine pc Tryz.func37 ?_
 refine iff_ rfl rfl ?_
 refine ift rfl rfl ?_
 refine clk [0] v_table0 rfl rfl ?_
 rintro _ rfl
 exact rfl
def W1 (n : Nat) (A : Nat → Nat → Int) : Prop:=∀ i k,i < n → k < n → (A i k).natAbs < W64
theorem W1.zb {n : Nat} {A : Nat → Nat → Int} (h : W1 n A) : ZB 1 n n A:=fun i k hi hk=>ln_word (h i k hi hk)
theorem ZB.lb {L r c : Nat} {A : Nat → Nat → Int} (h : ZB L r c A) (hL : 1 ≤ L) : LB L r c (ra A):=fun i k hi hk=>lr_k (h i k hi hk) hL
theorem v_PrintM {n : Nat} {A : Nat → Nat → Int} (hn : n ≤ 4) (hA : W1 n A) : Pc Tryz.prog 21 [VM n n (ra A)] (· = .tup [ts (tabL (rwsA n n A)),.raw (.int .i64 0)]):=by
 have ct : Pc Tryz.prog 37 [VM n n (ra A)] (· = ts (tabL (rwsA n n A))):=by
  rcases Nat.eq_zero_or_pos n with rfl | h0
  ·exact v_text0
  ·exact v_textM h0 (by omega) h0 (by omega) hA
 refine pc Tryz.func21 ?_
 refine ce (v_FormedM (by omega) (by omega) ((hA.zb.lb (by decide)).mono (by decide))) rfl ?_
 refine iff_ rfl rfl ?_
 refine ce ct rfl ?_
 exact rfl
theorem w_told {n : Nat} {A : Nat → Nat → Int} (hn : n ≤ 4) (hA : W1 n A) : Pc Tryz.prog 13 [VM n n (ra A)] (· = ts (tabL (rwsA n n A))):=by
 refine pc Tryz.func13 ?_
 refine ce (v_PrintM hn hA) rfl ?_
 exact rfl
theorem w_table {n : Nat} {es : List (Bool × List Nat)} {A : Nat → Nat → Int} (hn : n ≤ 4) (hl : es.length = n * n) (hw : ∀ e ∈ es,wf W64 e.2 ∧ e.2.length ≤ 1) (hE : ∀ i k,i < n → k < n → ∃ e,es[i * n + k]? = some e ∧ zv e = A i k) (hA : W1 n A) :
  Pc Tryz.prog 6 [mc 2 n n (es.map zn)] (· = ts (tabL (rwsA n n A))):=by
 refine pc Tryz.func6 ?_
 refine ce (q_FromK (by omega) (by omega) hl (fun e he=>⟨(hw e he).1,by have:=(hw e he).2; omega⟩) A hE) rfl ?_
 refine ce (v_Matrix (r:=n) (c:=n) (A:=ra A) (by omega) (by omega) ((hA.zb.lb (by decide)).mono (by decide))) rfl ?_
 refine ce (w_told hn hA) rfl ?_
 exact rfl
theorem w_Plenty : Pc Tryz.prog 9 [] (· = budI):=by
 refine pc Tryz.func9 ?_
 exact rfl
theorem w_says {t w : List Nat} (hw : byt w = true) (hR : Pc Tryz.prog 8 [ts t,budI] (· = .tup [ts w,.raw (.int .i64 0)])) : Pc Tryz.prog 7 [ts t,ts w] (· = .raw (.bool true)):=by
 have g : ((tx w).toList == (tx w).toList) = true:=by simp
 refine pc Tryz.func7 ?_
 refine ce w_Plenty rfl ?_
 refine ce hR rfl ?_
 repeat (first|refine gt rfl ?_|refine gf rfl ?_|refine tw rfl ?_|refine tf rfl ?_)
 exact congrArg (fun b=>IV.raw (.bool b)) g
theorem w_awake (hR : Pc Tryz.prog 8 [ts (cat awakeW),budI] (· = .tup [ts [53,10],.raw (.int .i64 0)])) : Pc Tryz.prog 4 [] (· = .raw (.bool true)):=by
 have g : ((tx [53,10]).toList == (tx [53,10]).toList) = true:=by simp
 refine pc Tryz.func4 ?_
 refine ce w_Plenty rfl ?_
 refine ce hR rfl ?_
 repeat (first|refine gt rfl ?_|refine gf rfl ?_|refine tw rfl ?_|refine tf rfl ?_)
 exact congrArg (fun b=>IV.raw (.bool b)) g
def aI (R C : Int) (es : List (Bool × List Nat)) : IV:=.agg [.raw (.int .i64 R),.raw (.int .i64 C),.sl es.length 2 (es.map zn).flatten]
theorem f_Few {es : List (Bool × List Nat)} : Pc Tryz.prog 18 [.sl es.length 2 (es.map zn).flatten,.raw (.int .i64 100),.raw (.int .i64 1)] (fun x=>∃ b : Bool,x = .raw (.bool b) ∧ (b = true → es.length ≤ 100 ∧ ∀ e ∈ es,e.2.length ≤ 1)):=by
 refine pc Tryz.func18 ?_
 refine lpt (fun i : Nat=>i ≤ es.length ∧ i ≤ 100 ∧ ∀ (j : Nat) e,j < i → es[j]? = some e → e.2.length ≤ 1) (fun i=>[(0,.im (.sl es.length 2 (es.map zn).flatten)),(1,ri .i64 100),(2,ri .i64 1),(7,ri .i64 i)]) (fun _=>[]) (fun i=>es.length - i) 0 ⟨Nat.zero_le _,Nat.zero_le _,fun j e h=>by omega⟩ (tsr rfl) rfl ?_
 rintro i t ⟨hi,h100,hp⟩
 by_cases h1 : i < es.length
 ·have g1 : decide ((i : Int) < (es.length : Int)) = true:=decide_eq_true (by omega)
  iterate 2 refine gt g1 ?_
  refine tw g1 ?_
  refine ifs rfl (fun h2=>?_) (fun h2=>?_)
  ·have h2:=of_decide_eq_true h2
   obtain ⟨e,he⟩ : ∃ e,es[i]? = some e:=⟨_,List.getElem?_eq_getElem h1⟩
   refine gm (zn_len es) i ⟨by omega,by omega⟩ (by rw [List.getElem?_map,he]; rfl) (by rw [Int.toNat_natCast]) fun l=>?_
   refine ifs rfl (fun h3=>?_) (fun h3=>?_)
   ·exact ⟨false,rfl,fun h=>by cases h⟩
   ·have h3:=of_decide_eq_false h3
    refine nxg [] (i + 1) (by omega) rfl ⟨⟨by omega,by omega,fun j e' hj he'=>?_⟩,⟨rfl,rfl,rfl,congrArg (ri .i64) (i64s (by omega)).symm,trivial⟩,rfl⟩
    by_cases hji : j < i
    ·exact hp j e' hji he'
    ·obtain rfl : j = i:=by omega
     rw [he] at he'; cases he'; omega
  ·have h2:=of_decide_eq_false h2
   refine ⟨_,rfl,fun h=>?_⟩
   have h:=of_decide_eq_true h
   omega
 ·have g1 : decide ((i : Int) < (es.length : Int)) = false:=decide_eq_false (by omega)
  iterate 2 refine gf g1 ?_
  refine tf g1 ?_
  refine iff_ rfl rfl ?_
  refine ⟨_,rfl,fun h=>⟨by have h:=of_decide_eq_true h; omega,fun e he=>?_⟩⟩
  obtain ⟨j,hj⟩:=List.getElem?_of_mem he
  have:=(List.getElem?_eq_some_iff.1 hj).1
  exact hp j e (by omega) hj
theorem f_FewM {R C : Int} {es : List (Bool × List Nat)} : Pc Tryz.prog 10 [aI R C es,.raw (.int .i64 4),.raw (.int .i64 1)] (fun x=>∃ b : Bool,x = .raw (.bool b) ∧ (b = true → R ≤ 4 ∧ C ≤ 4 ∧ ∀ e ∈ es,e.2.length ≤ 1)):=by
 refine pc Tryz.func10 ?_
 by_cases h1 : R ≤ 4
 ·have g1 : decide (R ≤ 4) = true:=decide_eq_true h1
  iterate 4 refine gt g1 ?_
  refine tw g1 ?_
  by_cases h2 : C ≤ 4
  ·have g2 : decide (C ≤ 4) = true:=decide_eq_true h2
   iterate 3 refine gt g2 ?_
   refine gt g2 ?_
   refine cl f_Few rfl ?_
   rintro _ ⟨b,rfl,hb⟩
   refine tw g2 ?_
   exact ⟨b,rfl,fun h=>⟨h1,h2,(hb h).2⟩⟩
  ·have g2 : decide (C ≤ 4) = false:=decide_eq_false h2
   iterate 4 refine gf g2 ?_
   refine tf g2 ?_
   exact ⟨false,rfl,fun h=>by cases h⟩
 ·have g1 : decide (R ≤ 4) = false:=decide_eq_false h1
  iterate 4 refine gf g1 ?_
  refine tf g1 ?_
  iterate 4 refine gf rfl ?_
  refine tf rfl ?_
  exact ⟨false,rfl,fun h=>by cases h⟩
theorem f_Formed {R C : Int} {es : List (Bool × List Nat)} : Pc Tryz.prog 11 [aI R C es] (fun x=>∃ b : Bool,x = .raw (.bool b) ∧ (b = true → 0 ≤ R ∧ R ≤ 64 ∧ 0 ≤ C ∧ C ≤ 64 ∧ (es.length : Int) = IntKind.i64.wrap (R * C))):=by
 refine pc Tryz.func11 ?_
 by_cases h1 : R ≥ 0
 ·have g1 : decide (R ≥ 0) = true:=decide_eq_true h1
  iterate 3 refine gt g1 ?_
  refine tw g1 ?_
  by_cases h2 : R ≤ 64
  ·have g2 : decide (R ≤ 64) = true:=decide_eq_true h2
   iterate 3 refine gt g2 ?_
   refine tw g2 ?_
   by_cases h3 : C ≥ 0
   ·have g3 : decide (C ≥ 0) = true:=decide_eq_true h3
    iterate 3 refine gt g3 ?_
    refine tw g3 ?_
    by_cases h4 : C ≤ 64
    ·have g4 : decide (C ≤ 64) = true:=decide_eq_true h4
     iterate 9 refine gt g4 ?_
     refine tw g4 ?_
     exact ⟨_,rfl,fun h=>⟨h1,h2,h3,h4,eq_of_beq h⟩⟩
    ·have g4 : decide (C ≤ 64) = false:=decide_eq_false h4
     iterate 9 refine gf g4 ?_
     refine tf g4 ?_
     exact ⟨false,rfl,fun h=>by cases h⟩
   ·have g3 : decide (C ≥ 0) = false:=decide_eq_false h3
    iterate 3 refine gf g3 ?_
    refine tf g3 ?_
    iterate 9 refine gf rfl ?_
    refine tf rfl ?_
    exact ⟨false,rfl,fun h=>by cases h⟩
  ·have g2 : decide (R ≤ 64) = false:=decide_eq_false h2
   iterate 3 refine gf g2 ?_
   refine tf g2 ?_
   iterate 3 refine gf rfl ?_
   refine tf rfl ?_
   iterate 9 refine gf rfl ?_
   refine tf rfl ?_
   exact ⟨false,rfl,fun h=>by cases h⟩
 ·have g1 : decide (R ≥ 0) = false:=decide_eq_false h1
  iterate 3 refine gf g1 ?_
  refine tf g1 ?_
  iterate 3 refine gf rfl ?_
  refine tf rfl ?_
  iterate 3 refine gf rfl ?_
  refine tf rfl ?_
  iterate 9 refine gf rfl ?_
  refine tf rfl ?_
  exact ⟨false,rfl,fun h=>by cases h⟩
theorem w_small {R C : Int} {es : List (Bool × List Nat)} : Pc Tryz.prog 5 [aI R C es,.raw (.int .i64 4)] (fun x=>∃ b : Bool,x = .raw (.bool b) ∧ (b = true → 0 ≤ R ∧ R ≤ 4 ∧ 0 ≤ C ∧ C ≤ 4 ∧ (es.length : Int) = R * C ∧ ∀ e ∈ es,e.2.length ≤ 1)):=by
 refine pc Tryz.func5 ?_
 refine cl (f_FewM (R:=R) (C:=C)) rfl ?_
 rintro _ ⟨b,rfl,hb⟩
 cases b with
 | false=>
  iterate 2 refine gf rfl ?_
  refine tf rfl ?_
  exact ⟨false,rfl,fun h=>by cases h⟩
 | true=>
  refine gt rfl ?_
  refine gt rfl ?_
  refine cl (f_Formed (R:=R) (C:=C) (es:=es)) rfl ?_
  rintro _ ⟨b,rfl,hb2⟩
  refine tw rfl ?_
  refine ⟨b,rfl,fun h=>?_⟩
  obtain ⟨p1,p2,p3⟩:=hb rfl
  obtain ⟨q1,q2,q3,q4,q5⟩:=hb2 h
  refine ⟨q1,p1,q3,p2,?_,p3⟩
  obtain ⟨r,rfl⟩ : ∃ r : Nat,R = r:=⟨R.toNat,by omega⟩
  obtain ⟨c,rfl⟩ : ∃ c : Nat,C = c:=⟨C.toNat,by omega⟩
  rw [q5,mul_w (by omega) (by omega),Int.natCast_mul]
def a0 : IV:=.agg [.raw (.int .i64 0),.raw (.bool false),nilI,.raw (.bool false),nilI,.raw (.int .i64 0),.raw (.int .i64 0),nilI,nilI,.raw (.int .u64 0),.raw (.int .i64 0),.raw (.int .i64 0),nilI,nilI,nilI,.raw (.int .i64 0),.raw (.bool false)]
theorem k_sides_no {nm : List Nat} {n : Nat} {cs : List IV} (hn : byt nm = true) (h0 : eqL nm [122,101,114,111] = false) (h1 : eqL nm [105,100] = false) (h2 : eqL nm [114,111,119,115] = false) (h3 : eqL nm [99,111,108,115] = false) : Pc Tryz.prog 196 [cI nm n cs] (· = a0):=by
 refine pc Tryz.func196 ?_
 refine ce (k_as_no (nm:=nm) (s:=[122,101,114,111]) (so:=[110,110]) (n:=n) (cs:=cs) hn rfl h0) rfl ?_
 refine iff_ rfl rfl ?_
 refine ce (k_as_no (nm:=nm) (s:=[105,100]) (so:=[110]) (n:=n) (cs:=cs) hn rfl h1) rfl ?_
 refine iff_ rfl rfl ?_
 refine ce (k_as_no (nm:=nm) (s:=[114,111,119,115]) (so:=[120]) (n:=n) (cs:=cs) hn rfl h2) rfl ?_
 refine iff_ rfl rfl ?_
 refine ce (k_as_no (nm:=nm) (s:=[114,111,119,115]) (so:=[102]) (n:=n) (cs:=cs) hn rfl h2) rfl ?_
 refine iff_ rfl rfl ?_
 refine ce (k_as_no (nm:=nm) (s:=[99,111,108,115]) (so:=[120]) (n:=n) (cs:=cs) hn rfl h3) rfl ?_
 refine iff_ rfl rfl ?_
 refine ce (k_as_no (nm:=nm) (s:=[99,111,108,115]) (so:=[102]) (n:=n) (cs:=cs) hn rfl h3) rfl ?_
 refine iff_ rfl rfl ?_
 exact rfl
theorem k_forms_no {nm : List Nat} {n : Nat} {cs : List IV} (hn : byt nm = true) (h0 : eqL nm [104,110,102] = false) (h1 : eqL nm [109,111,100,104,110,102] = false) (h2 : eqL nm [115,110,102] = false) (h3 : eqL nm [102,97,99,116,111,114,115] = false) (h4 : eqL nm [107,101,114,110,101,108] = false) (h5 : eqL nm [105,109,97,103,101] = false) (h6 : eqL nm [115,97,116,117,114,97,116,101] = false) : Pc Tryz.prog 197 [cI nm n cs] (· = a0):=by
 refine pc Tryz.func197 ?_
 refine ce (k_as_no (nm:=nm) (s:=[104,110,102]) (so:=[109]) (n:=n) (cs:=cs) hn rfl h0) rfl ?_
 refine iff_ rfl rfl ?_
 refine ce (k_as_no (nm:=nm) (s:=[109,111,100,104,110,102]) (so:=[109]) (n:=n) (cs:=cs) hn rfl h1) rfl ?_
 refine iff_ rfl rfl ?_
 refine ce (k_as_no (nm:=nm) (s:=[115,110,102]) (so:=[109]) (n:=n) (cs:=cs) hn rfl h2) rfl ?_
 refine iff_ rfl rfl ?_
 refine ce (k_as_no (nm:=nm) (s:=[102,97,99,116,111,114,115]) (so:=[109]) (n:=n) (cs:=cs) hn rfl h3) rfl ?_
 refine iff_ rfl rfl ?_
 refine ce (k_as_no (nm:=nm) (s:=[107,101,114,110,101,108]) (so:=[109]) (n:=n) (cs:=cs) hn rfl h4) rfl ?_
 refine iff_ rfl rfl ?_
 refine ce (k_as_no (nm:=nm) (s:=[105,109,97,103,101]) (so:=[109]) (n:=n) (cs:=cs) hn rfl h5) rfl ?_
 refine iff_ rfl rfl ?_
 refine ce (k_as_no (nm:=nm) (s:=[115,97,116,117,114,97,116,101]) (so:=[109]) (n:=n) (cs:=cs) hn rfl h6) rfl ?_
 refine iff_ rfl rfl ?_
 exact rfl
theorem k_systems_no {nm : List Nat} {n : Nat} {cs : List IV} (hn : byt nm = true) (h0 : eqL nm [115,111,108,118,101] = false) (h1 : eqL nm [108,108,108] = false) (h2 : eqL nm [116,114,97,99,101] = false) (h3 : eqL nm [97,100,106] = false) (h4 : eqL nm [99,104,97,114] = false) (h5 : eqL nm [109,105,110] = false) (h6 : eqL nm [99,111,109,112,97,110,105,111,110] = false) : Pc Tryz.prog 198 [cI nm n cs] (· = a0):=by
 refine pc Tryz.func198 ?_
 refine ce (k_as_no (nm:=nm) (s:=[115,111,108,118,101]) (so:=[109,109]) (n:=n) (cs:=cs) hn rfl h0) rfl ?_
 refine iff_ rfl rfl ?_
 refine ce (k_as_no (nm:=nm) (s:=[108,108,108]) (so:=[109,114]) (n:=n) (cs:=cs) hn rfl h1) rfl ?_
 refine iff_ rfl rfl ?_
 refine ce (k_as_no (nm:=nm) (s:=[116,114,97,99,101]) (so:=[109]) (n:=n) (cs:=cs) hn rfl h2) rfl ?_
 refine iff_ rfl rfl ?_
 refine ce (k_as_no (nm:=nm) (s:=[97,100,106]) (so:=[109]) (n:=n) (cs:=cs) hn rfl h3) rfl ?_
 refine iff_ rfl rfl ?_
 refine ce (k_as_no (nm:=nm) (s:=[99,104,97,114]) (so:=[109]) (n:=n) (cs:=cs) hn rfl h4) rfl ?_
 refine iff_ rfl rfl ?_
 refine ce (k_as_no (nm:=nm) (s:=[109,105,110]) (so:=[109]) (n:=n) (cs:=cs) hn rfl h5) rfl ?_
 refine iff_ rfl rfl ?_
 refine ce (k_as_no (nm:=nm) (s:=[99,111,109,112,97,110,105,111,110]) (so:=[113]) (n:=n) (cs:=cs) hn rfl h6) rfl ?_
 refine iff_ rfl rfl ?_
 exact rfl
theorem k_sides_zero {A : Nat → Nat → Int} : Pc Tryz.prog 196 [cI [122,101,114,111] 2 (cN ((0 : Int) : Rat) ++ cN ((0 : Int) : Rat))] (· = ansM 0 0 (ra A)):=by
 have hz : li (0 : Int) ≤ 20000:=Nat.le_trans li0 (by decide)
 have cm:=(k_matrixOf (r:=0) (c:=0) (A:=A) (by decide) (by decide) (fun i k hi _=>by omega)).sub (xs:=[.agg [.raw (.int .i64 0),.raw (.int .i64 0),.raw (.slice none 0 0)],.raw (.int .i64 0)]) ⟨Sub.agg ⟨Sub.refl _,Sub.refl _,sub_nilk 2,trivial⟩,Sub.refl _,trivial⟩
 refine pc Tryz.func196 ?_
 refine ce (k_as_nn (nm:=[122,101,114,111]) (a:=0) (b:=0) hz hz) rfl ?_
 refine ift rfl rfl ?_
 refine rta (PT.app [0,3] (.br 1 (.br 2 (.br 4 (.br 5 (.br 6 (PT.app [7,8,9,10,11,12] .nil) 10 (PT.app [6,7,8,9,11,12] .nil)) 10 (PT.app [5,6,7,8,9,11,12] .nil)) 10 (PT.app [4,5,6,7,8,9,11,12] .nil)) 10 (PT.app [2,4,5,6,7,8,9,11,12] .nil)) 10 (PT.app [1,2,4,5,6,7,8,9,11,12] .nil))) [(9,[2],some []),(11,[],some [2])] ?_
 refine ⟨?_,?_⟩
 ·refine ce (k_n0 (nm:=[122,101,114,111]) (a:=0) (b:=0) hz) rfl ?_
  refine ⟨?_,?_⟩
  ·refine ce k_small0 rfl ?_
   refine ⟨?_,?_⟩
   ·refine ce (k_n1 (nm:=[122,101,114,111]) (a:=0) (b:=0) hz) rfl ?_
    refine ⟨?_,?_⟩
    ·refine ce k_small0 rfl ?_
     refine ⟨?_,?_⟩
     ·refine ce z_New0 rfl ?_
      refine ce cm rfl ?_
      exact rfl
     ·refine ce z_New0 rfl ?_
      refine ce cm rfl ?_
      exact rfl
    ·refine ce k_small0 rfl ?_
     refine ce z_New0 rfl ?_
     refine ce cm rfl ?_
     exact rfl
   ·refine ce (k_n1 (nm:=[122,101,114,111]) (a:=0) (b:=0) hz) rfl ?_
    refine ce k_small0 rfl ?_
    refine ce z_New0 rfl ?_
    refine ce cm rfl ?_
    exact rfl
  ·refine ce k_small0 rfl ?_
   refine ce (k_n1 (nm:=[122,101,114,111]) (a:=0) (b:=0) hz) rfl ?_
   refine ce k_small0 rfl ?_
   refine ce z_New0 rfl ?_
   refine ce cm rfl ?_
   exact rfl
 ·refine ce (k_n0 (nm:=[122,101,114,111]) (a:=0) (b:=0) hz) rfl ?_
  refine ce k_small0 rfl ?_
  refine ce (k_n1 (nm:=[122,101,114,111]) (a:=0) (b:=0) hz) rfl ?_
  refine ce k_small0 rfl ?_
  refine ce z_New0 rfl ?_
  refine ce cm rfl ?_
  exact rfl
theorem k_systems_trace {n : Nat} {A : Nat → Nat → Int} (hn : n ≤ 64) (ha : ZB 5000 n n A) (hs : li (sm n fun i=>A i i) ≤ 20000) : Pc Tryz.prog 198 [cI [116,114,97,99,101] 1 (cM n n (ra A))] (· = ansN ((sm n fun i=>A i i : Int) : Rat)):=by
 obtain ⟨q,hq⟩ : ∃ q : Rat,q = ((sm n fun i=>A i i : Int) : Rat):=⟨_,rfl⟩
 have c:=k_number hs
 rw [← hq] at c ⊢
 refine pc Tryz.func198 ?_
 refine ce (k_as_no (nm:=[116,114,97,99,101]) (s:=[115,111,108,118,101]) (so:=[109,109]) rfl rfl rfl) rfl ?_
 refine iff_ rfl rfl ?_
 refine ce (k_as_no (nm:=[116,114,97,99,101]) (s:=[108,108,108]) (so:=[109,114]) rfl rfl rfl) rfl ?_
 refine iff_ rfl rfl ?_
 refine ce (k_as_m (nm:=[116,114,97,99,101]) hn hn ha) rfl ?_
 refine ift rfl rfl ?_
 refine ce (k_m (nm:=[116,114,97,99,101]) hn hn ha) rfl ?_
 refine ce (t_Trace hn (ha.mono (by decide))) rfl ?_
 refine ce c rfl ?_
 exact rfl
theorem k_systems_adj {n : Nat} {A D : Nat → Nat → Int} (hn : n ≤ 64) (ha : ZB 5000 n n A) (hD : Pc Tryz.prog 264 [zM n n A] (· = .tup [zM n n D,.raw (.int .i64 0)])) (hd : ZB 200 n n D) : Pc Tryz.prog 198 [cI [97,100,106] 1 (cM n n (ra A))] (· = ansM n n (ra D)):=by
 refine pc Tryz.func198 ?_
 refine ce (k_as_no (nm:=[97,100,106]) (s:=[115,111,108,118,101]) (so:=[109,109]) rfl rfl rfl) rfl ?_
 refine iff_ rfl rfl ?_
 refine ce (k_as_no (nm:=[97,100,106]) (s:=[108,108,108]) (so:=[109,114]) rfl rfl rfl) rfl ?_
 refine iff_ rfl rfl ?_
 refine ce (k_as_no (nm:=[97,100,106]) (s:=[116,114,97,99,101]) (so:=[109]) rfl rfl rfl) rfl ?_
 refine iff_ rfl rfl ?_
 refine ce (k_as_m (nm:=[97,100,106]) hn hn ha) rfl ?_
 refine ift rfl rfl ?_
 refine ce (k_m (nm:=[97,100,106]) hn hn ha) rfl ?_
 refine ce hD rfl ?_
 refine ce (k_matrixOf hn hn hd) rfl ?_
 exact rfl
theorem k_fractions_transpose {n : Nat} {A : Nat → Nat → Rat} (hn : n ≤ 64) (ha : LB 4000 n n A) : Pc Tryz.prog 199 [cI [116,114,97,110,115,112,111,115,101] 1 (cM n n A)] (· = ansM n n fun i k=>A k i):=by
 refine pc Tryz.func199 ?_
 refine ce (k_as_x (nm:=[116,114,97,110,115,112,111,115,101]) rfl) rfl ?_
 refine ift rfl rfl ?_
 refine ⟨by decide,?_⟩
 rintro _ rfl
 refine ce (q_Transpose (r:=n) (c:=n) (A:=A) hn hn ha) rfl ?_
 refine ce (v_Matrix (r:=n) (c:=n) (A:=fun i k=>A k i) hn hn (fun i k hi hk=>Nat.le_trans (ha k i hk hi) (by decide))) rfl ?_
 refine ce k_doneM rfl ?_
 exact rfl
theorem k_fractions_det {n : Nat} {A : Nat → Nat → Rat} {q : Rat} (hd : Pc Tryz.prog 270 [qM n n A] (· = ansN q)) : Pc Tryz.prog 199 [cI [100,101,116] 1 (cM n n A)] (· = ansN q):=by
 refine pc Tryz.func199 ?_
 refine ce (k_as_no (nm:=[100,101,116]) (s:=[116,114,97,110,115,112,111,115,101]) (so:=[120]) rfl rfl rfl) rfl ?_
 refine iff_ rfl rfl ?_
 refine ce (k_as_x (nm:=[100,101,116]) rfl) rfl ?_
 refine ift rfl rfl ?_
 refine ⟨by decide,?_⟩
 rintro _ rfl
 refine ce hd rfl ?_
 exact rfl
theorem k_fractions_rank {n : Nat} {A : Nat → Nat → Rat} (hn : n ≤ 4) (hR : Pc Tryz.prog 272 [qM n n A] (RedA n A)) : Pc Tryz.prog 199 [cI [114,97,110,107] 1 (cM n n A)] (fun x=>∃ W P,RedR n n A W P ∧ P.length ≤ 4 ∧ x = ansN (((P.length : Nat) : Int) : Rat)):=by
 refine pc Tryz.func199 ?_
 refine ce (k_as_no (nm:=[114,97,110,107]) (s:=[116,114,97,110,115,112,111,115,101]) (so:=[120]) rfl rfl rfl) rfl ?_
 refine iff_ rfl rfl ?_
 refine ce (k_as_no (nm:=[114,97,110,107]) (s:=[100,101,116]) (so:=[120]) rfl rfl rfl) rfl ?_
 refine iff_ rfl rfl ?_
 refine ce (k_as_no (nm:=[114,97,110,107]) (s:=[105,110,118]) (so:=[120]) rfl rfl rfl) rfl ?_
 refine iff_ rfl rfl ?_
 refine ce (k_as_x (nm:=[114,97,110,107]) rfl) rfl ?_
 refine ift rfl rfl ?_
 refine ⟨by decide,?_⟩
 rintro _ rfl
 refine cl hR rfl ?_
 rintro _ ⟨W,P,rfl,hW⟩
 have hP : P.length ≤ 4:=by obtain ⟨col,h1,-⟩:=hW; exact Nat.le_trans h1.len hn
 obtain ⟨q,hq⟩ : ∃ q : Rat,q = (((P.length : Nat) : Int) : Rat):=⟨_,rfl⟩
 have cc:=k_count (n:=P.length) (by omega)
 rw [← hq] at cc
 refine ce cc rfl ?_
 refine ce k_doneN rfl ?_
 exact ⟨W,P,hW,hP,by rw [← hq]; rfl⟩
theorem k_det {n : Nat} {A : Nat → Nat → Int} {d : Int} (hn : n ≤ 64) (ha : ZB 5000 n n A) (hD : Pc Tryz.prog 370 [zM n n A] (· = .tup [iz d,.raw (.int .i64 0)])) (hd : li d ≤ 10000) : Pc Tryz.prog 270 [qM n n (ra A)] (· = ansN (d : Rat)):=by
 have hq : lr (d : Rat) ≤ 10000:=lr_k hd (by decide)
 have ho : lr ((1 : Int) : Rat) ≤ 20000:=lr_k (Nat.le_trans li1 (by decide)) (by decide)
 have c1:=r_Of (z:=d) (by omega)
 have c2:=r_Quo (a:=(d : Rat)) (b:=((1 : Int) : Rat)) (by decide) (by omega) ho
 have e1 : (d : Rat) / ((1 : Int) : Rat) = (d : Rat):=by rw [show ((1 : Int) : Rat) = 1 from rfl,Rat.div_def,show (1 : Rat)⁻¹ = 1 from by rw [Rat.inv_def]; rfl,Rat.mul_one]
 rw [e1] at c2
 have c3:=v_Number (q:=(d : Rat)) (by omega)
 obtain ⟨q,hqd⟩ : ∃ q : Rat,q = (d : Rat):=⟨_,rfl⟩
 rw [← hqd] at c1 c2 c3 ⊢
 refine pc Tryz.func270 ?_
 refine ce (q_Clear (r:=n) (c:=n) (A:=A) hn hn ha) rfl ?_
 refine ce hD rfl ?_
 refine iff_ rfl rfl ?_
 refine ce c1 rfl ?_
 refine lgc [1,3,5] rfl ?_
 refine lpt (fun i : Nat=>i ≤ n) (fun i=>[(2,.ref 0 0),(4,.ref 1 0),(8,.ref 2 0),(28,ri .i64 n),(29,ri .i64 i)])
  (fun _=>[.box 230 [ri .i64 0,rb false,nilA,rb false,nilA,ri .i64 0,ri .i64 0,nilA,nilA,ri .u64 0,ri .i64 0,ri .i64 0,nilA,nilA,nilA,ri .i64 0,rb false],.box 47 [.im (.raw (.bool (decide ((1 : Int) < 0)))),.im (na (1 : Int).natAbs)],
   .box 49 [.im (.raw (.bool (decide (q.num < 0)))),.im (na q.num.natAbs),.im (.raw (.bool (decide ((q.den : Int) < 0)))),.im (na (q.den : Int).natAbs)]]) (fun i=>n - i) 0 (Nat.zero_le _) (tsr rfl) rfl ?_
 intro i t hi
 refine ifs rfl (fun h=>?_) (fun h=>?_)
 ·have h:=of_decide_eq_true h
  refine rqa [0,1,2,3,4,5,6,7] [(6,[2],some []),(7,[],some [2])] ?_
  refine ce (r_Of (z:=1) (Nat.le_trans li1 (by decide))) rfl ?_
  refine ce c2 rfl ?_
  exact nxg [0,1,2] (i + 1) (by omega) rfl ⟨by omega,⟨rfl,rfl,rfl,rfl,congrArg (ri .i64) (i64s (by omega)).symm,trivial⟩,rfl⟩
 ·refine ce c3 rfl ?_
  refine ce k_fineN rfl ?_
  exact rfl
def namesL : List Nat:=[32,122,101,114,111,32,105,100,32,116,114,97,110,115,112,111,115,101,32,114,111,119,115,32,99,111,108,115,32,100,101,116,32,105,110,118,32,114,97,110,107,32,116,114,97,99,101,32,97,100,106,32,104,110,102,32,109,111,100,104,110,102,32,115,110,102,32,107,101,114,110,101,108,32,105,109,97,103,101,32,115,97,116,117,114,97,116,101,32,115,111,108,118,101,32,108,108,108,32,99,104,97,114,32,109,105,110,32,102,114,111,98,32,105,110,118,97,114,105,97,110,116,115,32,99,111,109,112,97,110,105,111,110,32,112,111,108,121,32,109,111,100,32,108,105,102,116,32,100,101,103,32,101,118,97,108,32,100,101,114,105,118,101,32,103,99,100,32,120,103,99,100,32,102,108,111,111,114,32,114,111,117,110,100,32,97,98,115,32,110,117,109,32,100,101,110,32,112,114,105,109,101,32,99,114,116,32,112,111,119,109,111,100,32,108,101,110,32,102,97,99,116,111,114,115,32]
theorem namesL_len : namesL.length = 226:=by kernel_rfl
theorem k_Call_sides {nm : List Nat} {a b c d e f g h i j k l m n o a' b' c' d' e' f' g' h' i' j' k' l' m' n' o' a'' b'' c'' d'' e'' f'' g'' h'' i'' j'' k'' l'' m'' n'' o'' : IV} (hnm : nm.length ≤ 30) (hf0 : Pc Tryz.prog 36 [v15 a' b' c' d' e' f' g' h' i' j' k' l' m' n' o'] (· = .raw (.bool true))) (hf1 : Pc Tryz.prog 36 [v15 a'' b'' c'' d'' e'' f'' g'' h'' i'' j'' k'' l'' m'' n'' o''] (· = .raw (.bool true))) (hc : Lib.contains (u8 namesL) (u8 ([32] ++ nm ++ [32])) = true) (hb : Lib.contains (u8 nm) (u8 [32]) = false) (hg0 : Pc Tryz.prog 196 [cI nm 2 [a',b',c',d',e',f',g',h',i',j',k',l',m',n',o',a'',b'',c'',d'',e'',f'',g'',h'',i'',j'',k'',l'',m'',n'',o'']] (· = a17 a b c d e f g h i j k l m n o)) : Pc Tryz.prog 172 [ts nm,.sl 2 15 [a',b',c',d',e',f',g',h',i',j',k',l',m',n',o',a'',b'',c'',d'',e'',f'',g'',h'',i'',j'',k'',l'',m'',n'',o'']] (· = .tup [v15 a b c d e f g h i j k l m n o,.raw (.int .i64 0)]):=by
 have hl1 : (tx [32]).size + (tx nm).size ≤ 9223372036854775807:=by rw [tx_size,tx_size]; show 1 + _ ≤ _; omega
 have hl2 : (tx [32] ++ tx nm).size + (tx [32]).size ≤ 9223372036854775807:=by rw [tx_append,tx_size,tx_size,List.length_append]; show 1 + _ + 1 ≤ _; omega
 have c0:=l_Contains namesL ([32] ++ nm ++ [32]) (by rw [namesL_len]; decide)
 have c1:=l_Contains nm [32] (by omega)
 rw [hc] at c0
 rw [hb] at c1
 have e0 : ts ([32] ++ nm ++ [32]) = .raw (.string (tx [32] ++ tx nm ++ tx [32])):=by rw [tx_append,tx_append]; rfl
 rw [e0] at c0
 refine pc Tryz.func172 ?_
 refine lpn 3 ?_
 refine ift rfl rfl ?_
 refine ⟨by decide,?_⟩
 rintro _ rfl
 refine ce hf0 rfl ?_
 refine iff_ rfl rfl ?_
 refine ift rfl rfl ?_
 refine ⟨by decide,?_⟩
 rintro _ rfl
 refine ce hf1 rfl ?_
 refine iff_ rfl rfl ?_
 refine iff_ rfl rfl ?_
 refine ⟨hl1,?_⟩
 refine ⟨hl2,?_⟩
 refine ce c0 rfl ?_
 repeat (first|refine gt rfl ?_|refine gf rfl ?_|refine tw rfl ?_|refine tf rfl ?_)
 refine ce c1 rfl ?_
 repeat (first|refine gt rfl ?_|refine gf rfl ?_|refine tw rfl ?_|refine tf rfl ?_)
 refine iff_ rfl rfl ?_
 refine lgc [0,3,4] rfl ?_
 refine lpn 8 ?_
 refine ift rfl rfl ?_
 refine ⟨by decide,?_⟩
 refine ⟨trivial,?_⟩
 rintro _ rfl
 refine ce hg0 rfl ?_
 refine ift rfl rfl ?_
 refine rqa [0,1,2,3,4,5] [(2,[0],some []),(3,[0],some []),(4,[],some [0])] ?_
 exact rfl
theorem k_Call_systems {nm : List Nat} {a b c d e f g h i j k l m n o a' b' c' d' e' f' g' h' i' j' k' l' m' n' o' : IV} (hnm : nm.length ≤ 30) (hf0 : Pc Tryz.prog 36 [v15 a' b' c' d' e' f' g' h' i' j' k' l' m' n' o'] (· = .raw (.bool true))) (hc : Lib.contains (u8 namesL) (u8 ([32] ++ nm ++ [32])) = true) (hb : Lib.contains (u8 nm) (u8 [32]) = false) (hg0 : Pc Tryz.prog 196 [cI nm 1 [a',b',c',d',e',f',g',h',i',j',k',l',m',n',o']] (· = a0)) (hg1 : Pc Tryz.prog 197 [cI nm 1 [a',b',c',d',e',f',g',h',i',j',k',l',m',n',o']] (· = a0)) (hg2 : Pc Tryz.prog 198 [cI nm 1 [a',b',c',d',e',f',g',h',i',j',k',l',m',n',o']] (· = a17 a b c d e f g h i j k l m n o)) : Pc Tryz.prog 172 [ts nm,.sl 1 15 [a',b',c',d',e',f',g',h',i',j',k',l',m',n',o']] (· = .tup [v15 a b c d e f g h i j k l m n o,.raw (.int .i64 0)]):=by
 have hl1 : (tx [32]).size + (tx nm).size ≤ 9223372036854775807:=by rw [tx_size,tx_size]; show 1 + _ ≤ _; omega
 have hl2 : (tx [32] ++ tx nm).size + (tx [32]).size ≤ 9223372036854775807:=by rw [tx_append,tx_size,tx_size,List.length_append]; show 1 + _ + 1 ≤ _; omega
 have c0:=l_Contains namesL ([32] ++ nm ++ [32]) (by rw [namesL_len]; decide)
 have c1:=l_Contains nm [32] (by omega)
 rw [hc] at c0
 rw [hb] at c1
 have e0 : ts ([32] ++ nm ++ [32]) = .raw (.string (tx [32] ++ tx nm ++ tx [32])):=by rw [tx_append,tx_append]; rfl
 rw [e0] at c0
 refine pc Tryz.func172 ?_
 refine lpn 2 ?_
 refine ift rfl rfl ?_
 refine ⟨by decide,?_⟩
 rintro _ rfl
 refine ce hf0 rfl ?_
 refine iff_ rfl rfl ?_
 refine iff_ rfl rfl ?_
 refine ⟨hl1,?_⟩
 refine ⟨hl2,?_⟩
 refine ce c0 rfl ?_
 repeat (first|refine gt rfl ?_|refine gf rfl ?_|refine tw rfl ?_|refine tf rfl ?_)
 refine ce c1 rfl ?_
 repeat (first|refine gt rfl ?_|refine gf rfl ?_|refine tw rfl ?_|refine tf rfl ?_)
 refine iff_ rfl rfl ?_
 refine lgc [0,2,3] rfl ?_
 refine lpn 8 ?_
 refine ift rfl rfl ?_
 refine ⟨by decide,?_⟩
 refine ⟨trivial,?_⟩
 rintro _ rfl
 refine ce hg0 rfl ?_
 refine iff_ rfl rfl ?_
 refine ift rfl rfl ?_
 refine ⟨by decide,?_⟩
 refine ⟨trivial,?_⟩
 rintro _ rfl
 refine ce hg1 rfl ?_
 refine iff_ rfl rfl ?_
 refine ift rfl rfl ?_
 refine ⟨by decide,?_⟩
 refine ⟨trivial,?_⟩
 rintro _ rfl
 refine ce hg2 rfl ?_
 refine ift rfl rfl ?_
 refine rqa [0,1,2,3,4,5] [(2,[0],some []),(3,[0],some []),(4,[],some [0])] ?_
 exact rfl
theorem k_Call_fractions {nm : List Nat} {a b c d e f g h i j k l m n o a' b' c' d' e' f' g' h' i' j' k' l' m' n' o' : IV} (hnm : nm.length ≤ 30) (hf0 : Pc Tryz.prog 36 [v15 a' b' c' d' e' f' g' h' i' j' k' l' m' n' o'] (· = .raw (.bool true))) (hc : Lib.contains (u8 namesL) (u8 ([32] ++ nm ++ [32])) = true) (hb : Lib.contains (u8 nm) (u8 [32]) = false) (hg0 : Pc Tryz.prog 196 [cI nm 1 [a',b',c',d',e',f',g',h',i',j',k',l',m',n',o']] (· = a0)) (hg1 : Pc Tryz.prog 197 [cI nm 1 [a',b',c',d',e',f',g',h',i',j',k',l',m',n',o']] (· = a0)) (hg2 : Pc Tryz.prog 198 [cI nm 1 [a',b',c',d',e',f',g',h',i',j',k',l',m',n',o']] (· = a0)) (hg3 : Pc Tryz.prog 199 [cI nm 1 [a',b',c',d',e',f',g',h',i',j',k',l',m',n',o']] (· = a17 a b c d e f g h i j k l m n o)) : Pc Tryz.prog 172 [ts nm,.sl 1 15 [a',b',c',d',e',f',g',h',i',j',k',l',m',n',o']] (· = .tup [v15 a b c d e f g h i j k l m n o,.raw (.int .i64 0)]):=by
 have hl1 : (tx [32]).size + (tx nm).size ≤ 9223372036854775807:=by rw [tx_size,tx_size]; show 1 + _ ≤ _; omega
 have hl2 : (tx [32] ++ tx nm).size + (tx [32]).size ≤ 9223372036854775807:=by rw [tx_append,tx_size,tx_size,List.length_append]; show 1 + _ + 1 ≤ _; omega
 have c0:=l_Contains namesL ([32] ++ nm ++ [32]) (by rw [namesL_len]; decide)
 have c1:=l_Contains nm [32] (by omega)
 rw [hc] at c0
 rw [hb] at c1
 have e0 : ts ([32] ++ nm ++ [32]) = .raw (.string (tx [32] ++ tx nm ++ tx [32])):=by rw [tx_append,tx_append]; rfl
 rw [e0] at c0
 refine pc Tryz.func172 ?_
 refine lpn 2 ?_
 refine ift rfl rfl ?_
 refine ⟨by decide,?_⟩
 rintro _ rfl
 refine ce hf0 rfl ?_
 refine iff_ rfl rfl ?_
 refine iff_ rfl rfl ?_
 refine ⟨hl1,?_⟩
 refine ⟨hl2,?_⟩
 refine ce c0 rfl ?_
 repeat (first|refine gt rfl ?_|refine gf rfl ?_|refine tw rfl ?_|refine tf rfl ?_)
 refine ce c1 rfl ?_
 repeat (first|refine gt rfl ?_|refine gf rfl ?_|refine tw rfl ?_|refine tf rfl ?_)
 refine iff_ rfl rfl ?_
 refine lgc [0,2,3] rfl ?_
 refine lpn 8 ?_
 refine ift rfl rfl ?_
 refine ⟨by decide,?_⟩
 refine ⟨trivial,?_⟩
 rintro _ rfl
 refine ce hg0 rfl ?_
 refine iff_ rfl rfl ?_
 refine ift rfl rfl ?_
 refine ⟨by decide,?_⟩
 refine ⟨trivial,?_⟩
 rintro _ rfl
 refine ce hg1 rfl ?_
 refine iff_ rfl rfl ?_
 refine ift rfl rfl ?_
 refine ⟨by decide,?_⟩
 refine ⟨trivial,?_⟩
 rintro _ rfl
 refine ce hg2 rfl ?_
 refine iff_ rfl rfl ?_
 refine ift rfl rfl ?_
 refine ⟨by decide,?_⟩
 refine ⟨trivial,?_⟩
 rintro _ rfl
 refine ce hg3 rfl ?_
 refine ift rfl rfl ?_
 refine rqa [0,1,2,3,4,5] [(2,[0],some []),(3,[0],some []),(4,[],some [0])] ?_
 exact rfl
noncomputable def rwV (c : Nat) (A : Nat → Nat → Int) (i : Nat) : List V15:=(List.range c).map fun k=>nV (ra A i k)
noncomputable def rowsI (r c : Nat) (A : Nat → Nat → Int) : List IV:=(List.range r).map fun i=>.sl c 15 (vcL' (rwV c A i))
theorem rwV_at {c k : Nat} (A : Nat → Nat → Int) (i : Nat) (hk : k < c) : (rwV c A i)[k]? = some (nV (ra A i k)):=by
 unfold rwV; rw [List.getElem?_map,List.getElem?_range hk]; rfl
theorem rowsI_at {r c i : Nat} (A : Nat → Nat → Int) (hi : i < r) : (rowsI r c A)[i]? = some (.sl c 15 (vcL' (rwV c A i))):=by
 unfold rowsI; rw [List.getElem?_map,List.getElem?_range hi]; rfl
theorem v15_len (vs : List V15) : ∀ e ∈ vs.map V15.l,e.length = 15:=fun e he=>by obtain ⟨q,-,rfl⟩:=List.mem_map.1 he; rfl
theorem gv {es : List IV} {o : Nat} {p : Prop} {K : AV → Prop} (i : Nat) {x : IV} (hp : p) (hx : es[i]? = some x) (ho : o = i) (hk : ∀ l,K (.im (.ip (x :: l)))) : Gn p (es.drop o) (fun l=>some (.im (.ip l))) K:=by
 subst ho
 obtain ⟨h1,h2⟩:=List.getElem?_eq_some_iff.1 hx
 exact ⟨hp,fun l e=>by rw [e,List.drop_eq_getElem_cons h1,h2]; exact hk _⟩
theorem m_matrix {r c : Nat} {A : Nat → Nat → Int} (hr0 : 0 < r) (hr : r ≤ 64) (hc : c ≤ 64) (ha : LB 10000 r c (ra A)) : Pc Tryz.prog 170 [.sl r 1 (rowsI r c A)] (· = .tup [VM r c (ra A),.raw (.int .i64 0)]):=by
 have hrc : r * c ≤ 64 * 64:=Nat.mul_le_mul hr hc
 have hL : ((tq c (ra A) (r * c)).map qc).length = r * c:=by rw [List.length_map,tq_len]
 have g1 : decide ((r : Int) ≤ 64) = true:=decide_eq_true (by omega)
 have g2 : decide ((c : Int) ≤ 64) = true:=decide_eq_true (by omega)
 have g3 : ((c : Int) == (c : Int)) = true:=by simp
 have cm:=v_Matrix (r:=r) (c:=c) (A:=ra A) hr hc ha
 have hQ : qM r c (ra A) = .agg [.raw (.int .i64 r),.raw (.int .i64 c),.sl (r * c) 4 ((tq c (ra A) (r * c)).map qc).flatten]:=by unfold qM qm mc; rw [hL]
 rw [hQ] at cm
 refine pc Tryz.func170 ?_
 refine gv 0 (by omega) (rowsI_at (c:=c) A hr0) (by rfl) fun l=>?_
 iterate 3 refine gt g1 ?_
 refine tw g1 ?_
 refine lfb 1 2 49 4 rfl rfl ?_
 refine lpt (fun i : Nat=>i ≤ r) (fun i=>[(2,.ref 0 0),(4,.ref 1 0),(5,rb true),(25,.im (.sl r 1 (rowsI r c A))),(26,ri .i64 r),(27,ri .i64 i)])
  (fun i=>[.box 57 [ri .i64 0,rb false,nilA,rb false,nilA,ri .i64 0,ri .i64 0,nilA,nilA,ri .u64 0,ri .i64 0,ri .i64 0,nilA,nilA,nilA],.box 40 [ri .i64 r,ri .i64 c,.own 2],.row 49 4 (i * c) ((tq c (ra A) (i * c)).map qc).flatten])
  (fun i=>r - i) 0 (Nat.zero_le _) (tsr ?_) ?_ ?_
 ·rw [g2]; rfl
 ·rw [Nat.zero_mul]; rfl
 ·intro i t hi
  refine ifs rfl (fun h=>?_) (fun h=>?_)
  ·have h:=of_decide_eq_true h
   have hi : i < r:=by omega
   refine gv i ⟨by omega,by omega⟩ (rowsI_at (c:=c) A hi) (by rw [Int.toNat_natCast]; omega) fun l=>?_
   iterate 5 refine gt rfl ?_
   refine tw rfl ?_
   refine lpt (fun k : Nat=>k ≤ c) (fun k=>[(2,.ref 0 0),(4,.ref 1 0),(5,rb true),(25,.im (.sl r 1 (rowsI r c A))),(26,ri .i64 r),(27,ri .i64 i),(39,.im (.sl c 15 (vcL' (rwV c A i)))),(40,ri .i64 c),(41,ri .i64 k)])
    (fun k=>[.box 57 [ri .i64 0,rb false,nilA,rb false,nilA,ri .i64 0,ri .i64 0,nilA,nilA,ri .u64 0,ri .i64 0,ri .i64 0,nilA,nilA,nilA],.box 40 [ri .i64 r,ri .i64 c,.own 2],.row 49 4 (i * c + k) ((tq c (ra A) (i * c + k)).map qc).flatten])
    (fun k=>c - k) 0 (Nat.zero_le _) (tsr ?_) rfl ?_
   ·rw [g3]; rfl
   intro k t' hk
   refine ifs rfl (fun h2=>?_) (fun h2=>?_)
   ·have h2:=of_decide_eq_true h2
    have hk : k < c:=by omega
    have hik:=idx_lt hi hk
    have es : ((tq c (ra A) (i * c + (k + 1))).map qc).flatten = ((tq c (ra A) (i * c + k)).map qc).flatten ++ qc (ra A i k):=by
     rw [← Nat.add_assoc,tq_succ (ra A) i hk,List.map_append,List.flatten_append]; simp
    refine gm (v15_len (rwV c A i)) k ⟨by omega,by omega⟩ (by rw [List.getElem?_map,rwV_at A i hk]; rfl) (by rw [Int.toNat_natCast]) fun l=>?_
    refine iff_ rfl rfl ?_
    refine ⟨(show (i * c + k + 1) * 64 ≤ 140737488355328 ∧ i * c + k + 1 ≤ 1000000000 by omega),?_⟩
    refine nxg [0,1,2] (k + 1) (by omega) rfl ⟨by omega,⟨rfl,rfl,rfl,rfl,rfl,rfl,rfl,rfl,congrArg (ri .i64) (i64s (by omega)).symm,trivial⟩,?_⟩
    exact congrArg (fun l=>([.box 57 [ri .i64 0,rb false,nilA,rb false,nilA,ri .i64 0,ri .i64 0,nilA,nilA,ri .u64 0,ri .i64 0,ri .i64 0,nilA,nilA,nilA],.box 40 [ri .i64 r,ri .i64 c,.own 2],.row 49 4 (i * c + (k + 1)) l] : List AO)) es.symm
   ·have h2:=of_decide_eq_false h2
    obtain rfl : k = c:=by omega
    have e2 : i * k + k = (i + 1) * k:=by rw [Nat.add_mul,Nat.one_mul]
    refine nxg [0,1,2] (i + 1) (by omega) rfl ⟨by omega,⟨rfl,rfl,rfl,rfl,rfl,congrArg (ri .i64) (i64s (by omega)).symm,trivial⟩,?_⟩
    exact congrArg (fun n=>([.box 57 [ri .i64 0,rb false,nilA,rb false,nilA,ri .i64 0,ri .i64 0,nilA,nilA,ri .u64 0,ri .i64 0,ri .i64 0,nilA,nilA,nilA],.box 40 [ri .i64 r,ri .i64 k,.own 2],.row 49 4 n ((tq k (ra A) n).map qc).flatten] : List AO)) e2
  ·have h:=of_decide_eq_false h
   obtain rfl : i = r:=by omega
   refine iff_ rfl rfl ?_
   refine clk [2] cm rfl rfl ?_
   rintro _ rfl
   exact rfl
def rwN (Ns : List Nde) : Nde:=.mk 15 [] Ns
def XpR (Q : Ms → Prop) : List (List Nde) → List (List V15) → Nat → Prop
 | [],[],c=>c = 0
 | R :: Rs,vs :: Vs,c=>∃ c1 c2,c = 1 + c1 + c2 ∧ R ≠ [] ∧ R.length ≤ 1000 ∧ XpL Q R vs c1 ∧ XpR Q Rs Vs c2
 | _,_,_=>False
def vrI (Vs : List (List V15)) : List IV:=Vs.map fun vs=>.sl vs.length 15 (vcL' vs)
theorem m_rows {Q : Ms → Prop} {Rs : List (List Nde)} {Vs : List (List V15)} {c : Nat} {w : V15} (h : XpR Q Rs Vs c) (hl : Rs.length ≤ 1000) (hm : Pc Tryz.prog 170 [.sl Vs.length 1 (vrI Vs)] (· = .tup [w.i,.raw (.int .i64 0)]))
  {s : Ms} (hs : Q s) {F : Nat} (hc : c ≤ F) (hF : F ≤ 1000000) : Ec Tryz.prog 132 (MR s) (MH F s) [.ref 0 0,.im (.sl (Rs.map rwN).length 3 (ndL (Rs.map rwN)))] (Is (.tup [w.a,ri .i64 0]) (MH (F - c) s)):=by
 obtain ⟨Ns,hNs⟩ : ∃ Ns,Ns = Rs.map rwN:=⟨_,rfl⟩
 have hnl : Ns.length = Rs.length:=by rw [hNs,List.length_map]
 rw [← hNs]
 cases s with
 | a=>
  refine ec Tryz.func132 ?_
  refine lfv 6 55 1 rfl ?_
  refine lpt3 (fun (j g : Nat) (acc : List (List V15))=>j ≤ Ns.length ∧ g ≤ 1000000 ∧ acc.length = j ∧ ∃ rest cr,XpR Q (Rs.drop j) rest cr ∧ cr ≤ g ∧ g - cr = F - c ∧ acc ++ rest = Vs)
   (fun j _ _=>[(0,.ref 0 0),(4,.ref 2 0),(6,.own 3),(9,.im (.sl Ns.length 3 (ndL Ns))),(10,ri .i64 Ns.length),(11,ri .i64 j)])
   (fun _ g acc=>MH g .a ++ [.box 57 [ri .i64 0,rb false,nilA,rb false,nilA,ri .i64 0,ri .i64 0,nilA,nilA,ri .u64 0,ri .i64 0,ri .i64 0,nilA,nilA,nilA],.row 55 1 acc.length (vrI acc)]) (fun j _ _=>Ns.length - j) 0 F [] ⟨Nat.zero_le _,hF,rfl,Vs,c,h,hc,rfl,rfl⟩ (tsr rfl) rfl ?_
  rintro j g acc t ⟨hj,hg,hacc,rest,cr,hx,hcr,hgc,hv⟩
  refine ifs rfl (fun h1=>?_) (fun h1=>?_)
  ·have h1:=of_decide_eq_true h1
   have hj : j < Ns.length:=by omega
   obtain ⟨R,hR⟩ : ∃ R,Rs[j]? = some R:=⟨_,List.getElem?_eq_getElem (by omega)⟩
   have hN : Ns[j]? = some (rwN R):=by rw [hNs,List.getElem?_map,hR]; rfl
   have hd : Rs.drop j = R :: Rs.drop (j + 1):=by
    obtain ⟨p1,p2⟩:=List.getElem?_eq_some_iff.1 hR
    rw [List.drop_eq_getElem_cons p1,p2]
   rw [hd] at hx
   cases rest with
   | nil=>exact hx.elim
   | cons vs rest=>
    obtain ⟨c1,c2,rfl,hne,hl1,e1,e2⟩:=hx
    cases R with
    | nil=>exact absurd rfl hne
    | cons N0 R=>
    have ca:=m_all (s:=.a) e1 hne hl1 hs (F:=g - 1) (by omega) (by omega)
    have en : vrI (acc ++ [vs]) = vrI acc ++ [.sl vs.length 15 (vcL' vs)]:=by unfold vrI; rw [List.map_append]; rfl
    have em : g - 1 - c1 = g - (1 + c1):=by omega
    rw [em] at ca
    rw [ndL_flat Ns]
    refine gm (ndC_len Ns) j ⟨by omega,by omega⟩ (by rw [List.getElem?_map,hN]; rfl) (by rw [Int.toNat_natCast]) fun l'=>?_
    refine cxe 2 (m_take (s:=.a) (n:=1) (by omega) hg) rfl rfl rfl (.inl rfl) ?_
    refine iff_ rfl rfl ?_
    refine cxe 2 ca rfl rfl rfl (.inl rfl) ?_
    refine ⟨(show (acc.length + 1) * 24 ≤ 140737488355328 ∧ acc.length + 1 ≤ 1000000000 by omega),?_⟩
    refine nxg3 [0,1,2,3] (j + 1) (g - (1 + c1)) (acc ++ [vs]) (by omega) rfl ⟨by omega,by omega,by simp; omega,rest,c2,e2,by omega,by omega,by rw [List.append_assoc]; exact hv⟩ ⟨rfl,rfl,rfl,rfl,rfl,congrArg (ri .i64) (i64s (by omega)).symm,trivial⟩ ?_
    refine Eq.trans ?_ (congrArg (fun k=>(MH (g - (1 + c1)) .a ++ [.box 57 [ri .i64 0,rb false,nilA,rb false,nilA,ri .i64 0,ri .i64 0,nilA,nilA,ri .u64 0,ri .i64 0,ri .i64 0,nilA,nilA,nilA],.row 55 1 k (vrI (acc ++ [vs]))] : List AO)) (by simp : acc.length + 1 = (acc ++ [vs]).length))
    exact congrArg (fun l=>(MH (g - (1 + c1)) .a ++ [.box 57 [ri .i64 0,rb false,nilA,rb false,nilA,ri .i64 0,ri .i64 0,nilA,nilA,ri .u64 0,ri .i64 0,ri .i64 0,nilA,nilA,nilA],.row 55 1 (acc.length + 1) l] : List AO)) en.symm
  ·have h1:=of_decide_eq_false h1
   obtain rfl : j = Ns.length:=by omega
   rw [hnl,List.drop_length] at hx
   cases rest with
   | cons _ _=>exact hx.elim
   | nil=>
    obtain rfl : cr = 0:=hx
    rw [List.append_nil] at hv
    subst hv
    have : g = F - c:=by omega
    subst this
    refine iff_ rfl rfl ?_
    refine clk [3] hm rfl rfl ?_
    rintro _ rfl
    exact fin [0,1] rfl ⟨rfl,rfl⟩
 | b x=>
  refine ec Tryz.func132 ?_
  refine lfv 6 55 1 rfl ?_
  refine lpt3 (fun (j g : Nat) (acc : List (List V15))=>j ≤ Ns.length ∧ g ≤ 1000000 ∧ acc.length = j ∧ ∃ rest cr,XpR Q (Rs.drop j) rest cr ∧ cr ≤ g ∧ g - cr = F - c ∧ acc ++ rest = Vs)
   (fun j _ _=>[(0,.ref 0 0),(4,.ref 2 0),(6,.own 3),(9,.im (.sl Ns.length 3 (ndL Ns))),(10,ri .i64 Ns.length),(11,ri .i64 j)])
   (fun _ g acc=>MH g (.b x) ++ [.box 57 [ri .i64 0,rb false,nilA,rb false,nilA,ri .i64 0,ri .i64 0,nilA,nilA,ri .u64 0,ri .i64 0,ri .i64 0,nilA,nilA,nilA],.row 55 1 acc.length (vrI acc)]) (fun j _ _=>Ns.length - j) 0 F [] ⟨Nat.zero_le _,hF,rfl,Vs,c,h,hc,rfl,rfl⟩ (tsr rfl) rfl ?_
  rintro j g acc t ⟨hj,hg,hacc,rest,cr,hx,hcr,hgc,hv⟩
  refine ifs rfl (fun h1=>?_) (fun h1=>?_)
  ·have h1:=of_decide_eq_true h1
   have hj : j < Ns.length:=by omega
   obtain ⟨R,hR⟩ : ∃ R,Rs[j]? = some R:=⟨_,List.getElem?_eq_getElem (by omega)⟩
   have hN : Ns[j]? = some (rwN R):=by rw [hNs,List.getElem?_map,hR]; rfl
   have hd : Rs.drop j = R :: Rs.drop (j + 1):=by
    obtain ⟨p1,p2⟩:=List.getElem?_eq_some_iff.1 hR
    rw [List.drop_eq_getElem_cons p1,p2]
   rw [hd] at hx
   cases rest with
   | nil=>exact hx.elim
   | cons vs rest=>
    obtain ⟨c1,c2,rfl,hne,hl1,e1,e2⟩:=hx
    cases R with
    | nil=>exact absurd rfl hne
    | cons N0 R=>
    have ca:=m_all (s:=(.b x)) e1 hne hl1 hs (F:=g - 1) (by omega) (by omega)
    have en : vrI (acc ++ [vs]) = vrI acc ++ [.sl vs.length 15 (vcL' vs)]:=by unfold vrI; rw [List.map_append]; rfl
    have em : g - 1 - c1 = g - (1 + c1):=by omega
    rw [em] at ca
    rw [ndL_flat Ns]
    refine gm (ndC_len Ns) j ⟨by omega,by omega⟩ (by rw [List.getElem?_map,hN]; rfl) (by rw [Int.toNat_natCast]) fun l'=>?_
    refine cxe 2 (m_take (s:=(.b x)) (n:=1) (by omega) hg) rfl rfl rfl (.inl rfl) ?_
    refine iff_ rfl rfl ?_
    refine cxe 2 ca rfl rfl rfl (.inl rfl) ?_
    refine ⟨(show (acc.length + 1) * 24 ≤ 140737488355328 ∧ acc.length + 1 ≤ 1000000000 by omega),?_⟩
    refine nxg3 [0,1,2,3] (j + 1) (g - (1 + c1)) (acc ++ [vs]) (by omega) rfl ⟨by omega,by omega,by simp; omega,rest,c2,e2,by omega,by omega,by rw [List.append_assoc]; exact hv⟩ ⟨rfl,rfl,rfl,rfl,rfl,congrArg (ri .i64) (i64s (by omega)).symm,trivial⟩ ?_
    refine Eq.trans ?_ (congrArg (fun k=>(MH (g - (1 + c1)) (.b x) ++ [.box 57 [ri .i64 0,rb false,nilA,rb false,nilA,ri .i64 0,ri .i64 0,nilA,nilA,ri .u64 0,ri .i64 0,ri .i64 0,nilA,nilA,nilA],.row 55 1 k (vrI (acc ++ [vs]))] : List AO)) (by simp : acc.length + 1 = (acc ++ [vs]).length))
    exact congrArg (fun l=>(MH (g - (1 + c1)) (.b x) ++ [.box 57 [ri .i64 0,rb false,nilA,rb false,nilA,ri .i64 0,ri .i64 0,nilA,nilA,ri .u64 0,ri .i64 0,ri .i64 0,nilA,nilA,nilA],.row 55 1 (acc.length + 1) l] : List AO)) en.symm
  ·have h1:=of_decide_eq_false h1
   obtain rfl : j = Ns.length:=by omega
   rw [hnl,List.drop_length] at hx
   cases rest with
   | cons _ _=>exact hx.elim
   | nil=>
    obtain rfl : cr = 0:=hx
    rw [List.append_nil] at hv
    subst hv
    have : g = F - c:=by omega
    subst this
    refine iff_ rfl rfl ?_
    refine clk [3] hm rfl rfl ?_
    rintro _ rfl
    exact fin [0,1] rfl ⟨rfl,rfl⟩
 | c x y=>
  refine ec Tryz.func132 ?_
  refine lfv 6 55 1 rfl ?_
  refine lpt3 (fun (j g : Nat) (acc : List (List V15))=>j ≤ Ns.length ∧ g ≤ 1000000 ∧ acc.length = j ∧ ∃ rest cr,XpR Q (Rs.drop j) rest cr ∧ cr ≤ g ∧ g - cr = F - c ∧ acc ++ rest = Vs)
   (fun j _ _=>[(0,.ref 0 0),(4,.ref 2 0),(6,.own 3),(9,.im (.sl Ns.length 3 (ndL Ns))),(10,ri .i64 Ns.length),(11,ri .i64 j)])
   (fun _ g acc=>MH g (.c x y) ++ [.box 57 [ri .i64 0,rb false,nilA,rb false,nilA,ri .i64 0,ri .i64 0,nilA,nilA,ri .u64 0,ri .i64 0,ri .i64 0,nilA,nilA,nilA],.row 55 1 acc.length (vrI acc)]) (fun j _ _=>Ns.length - j) 0 F [] ⟨Nat.zero_le _,hF,rfl,Vs,c,h,hc,rfl,rfl⟩ (tsr rfl) rfl ?_
  rintro j g acc t ⟨hj,hg,hacc,rest,cr,hx,hcr,hgc,hv⟩
  refine ifs rfl (fun h1=>?_) (fun h1=>?_)
  ·have h1:=of_decide_eq_true h1
   have hj : j < Ns.length:=by omega
   obtain ⟨R,hR⟩ : ∃ R,Rs[j]? = some R:=⟨_,List.getElem?_eq_getElem (by omega)⟩
   have hN : Ns[j]? = some (rwN R):=by rw [hNs,List.getElem?_map,hR]; rfl
   have hd : Rs.drop j = R :: Rs.drop (j + 1):=by
    obtain ⟨p1,p2⟩:=List.getElem?_eq_some_iff.1 hR
    rw [List.drop_eq_getElem_cons p1,p2]
   rw [hd] at hx
   cases rest with
   | nil=>exact hx.elim
   | cons vs rest=>
    obtain ⟨c1,c2,rfl,hne,hl1,e1,e2⟩:=hx
    cases R with
    | nil=>exact absurd rfl hne
    | cons N0 R=>
    have ca:=m_all (s:=(.c x y)) e1 hne hl1 hs (F:=g - 1) (by omega) (by omega)
    have en : vrI (acc ++ [vs]) = vrI acc ++ [.sl vs.length 15 (vcL' vs)]:=by unfold vrI; rw [List.map_append]; rfl
    have em : g - 1 - c1 = g - (1 + c1):=by omega
    rw [em] at ca
    rw [ndL_flat Ns]
    refine gm (ndC_len Ns) j ⟨by omega,by omega⟩ (by rw [List.getElem?_map,hN]; rfl) (by rw [Int.toNat_natCast]) fun l'=>?_
    refine cxe 2 (m_take (s:=(.c x y)) (n:=1) (by omega) hg) rfl rfl rfl (.inl rfl) ?_
    refine iff_ rfl rfl ?_
    refine cxe 2 ca rfl rfl rfl (.inl rfl) ?_
    refine ⟨(show (acc.length + 1) * 24 ≤ 140737488355328 ∧ acc.length + 1 ≤ 1000000000 by omega),?_⟩
    refine nxg3 [0,1,2,3] (j + 1) (g - (1 + c1)) (acc ++ [vs]) (by omega) rfl ⟨by omega,by omega,by simp; omega,rest,c2,e2,by omega,by omega,by rw [List.append_assoc]; exact hv⟩ ⟨rfl,rfl,rfl,rfl,rfl,congrArg (ri .i64) (i64s (by omega)).symm,trivial⟩ ?_
    refine Eq.trans ?_ (congrArg (fun k=>(MH (g - (1 + c1)) (.c x y) ++ [.box 57 [ri .i64 0,rb false,nilA,rb false,nilA,ri .i64 0,ri .i64 0,nilA,nilA,ri .u64 0,ri .i64 0,ri .i64 0,nilA,nilA,nilA],.row 55 1 k (vrI (acc ++ [vs]))] : List AO)) (by simp : acc.length + 1 = (acc ++ [vs]).length))
    exact congrArg (fun l=>(MH (g - (1 + c1)) (.c x y) ++ [.box 57 [ri .i64 0,rb false,nilA,rb false,nilA,ri .i64 0,ri .i64 0,nilA,nilA,ri .u64 0,ri .i64 0,ri .i64 0,nilA,nilA,nilA],.row 55 1 (acc.length + 1) l] : List AO)) en.symm
  ·have h1:=of_decide_eq_false h1
   obtain rfl : j = Ns.length:=by omega
   rw [hnl,List.drop_length] at hx
   cases rest with
   | cons _ _=>exact hx.elim
   | nil=>
    obtain rfl : cr = 0:=hx
    rw [List.append_nil] at hv
    subst hv
    have : g = F - c:=by omega
    subst this
    refine iff_ rfl rfl ?_
    refine clk [3] hm rfl rfl ?_
    rintro _ rfl
    exact fin [0,1] rfl ⟨rfl,rfl⟩
 | d x y tl tq=>
  refine ec Tryz.func132 ?_
  refine lfv 6 55 1 rfl ?_
  refine lpt3 (fun (j g : Nat) (acc : List (List V15))=>j ≤ Ns.length ∧ g ≤ 1000000 ∧ acc.length = j ∧ ∃ rest cr,XpR Q (Rs.drop j) rest cr ∧ cr ≤ g ∧ g - cr = F - c ∧ acc ++ rest = Vs)
   (fun j _ _=>[(0,.ref 0 0),(4,.ref 3 0),(6,.own 4),(9,.im (.sl Ns.length 3 (ndL Ns))),(10,ri .i64 Ns.length),(11,ri .i64 j)])
   (fun _ g acc=>MH g (.d x y tl tq) ++ [.box 57 [ri .i64 0,rb false,nilA,rb false,nilA,ri .i64 0,ri .i64 0,nilA,nilA,ri .u64 0,ri .i64 0,ri .i64 0,nilA,nilA,nilA],.row 55 1 acc.length (vrI acc)]) (fun j _ _=>Ns.length - j) 0 F [] ⟨Nat.zero_le _,hF,rfl,Vs,c,h,hc,rfl,rfl⟩ (tsr rfl) rfl ?_
  rintro j g acc t ⟨hj,hg,hacc,rest,cr,hx,hcr,hgc,hv⟩
  refine ifs rfl (fun h1=>?_) (fun h1=>?_)
  ·have h1:=of_decide_eq_true h1
   have hj : j < Ns.length:=by omega
   obtain ⟨R,hR⟩ : ∃ R,Rs[j]? = some R:=⟨_,List.getElem?_eq_getElem (by omega)⟩
   have hN : Ns[j]? = some (rwN R):=by rw [hNs,List.getElem?_map,hR]; rfl
   have hd : Rs.drop j = R :: Rs.drop (j + 1):=by
    obtain ⟨p1,p2⟩:=List.getElem?_eq_some_iff.1 hR
    rw [List.drop_eq_getElem_cons p1,p2]
   rw [hd] at hx
   cases rest with
   | nil=>exact hx.elim
   | cons vs rest=>
    obtain ⟨c1,c2,rfl,hne,hl1,e1,e2⟩:=hx
    cases R with
    | nil=>exact absurd rfl hne
    | cons N0 R=>
    have ca:=m_all (s:=(.d x y tl tq)) e1 hne hl1 hs (F:=g - 1) (by omega) (by omega)
    have en : vrI (acc ++ [vs]) = vrI acc ++ [.sl vs.length 15 (vcL' vs)]:=by unfold vrI; rw [List.map_append]; rfl
    have em : g - 1 - c1 = g - (1 + c1):=by omega
    rw [em] at ca
    rw [ndL_flat Ns]
    refine gm (ndC_len Ns) j ⟨by omega,by omega⟩ (by rw [List.getElem?_map,hN]; rfl) (by rw [Int.toNat_natCast]) fun l'=>?_
    refine cxe 3 (m_take (s:=(.d x y tl tq)) (n:=1) (by omega) hg) rfl rfl rfl (.inl rfl) ?_
    refine iff_ rfl rfl ?_
    refine cxe 3 ca rfl rfl rfl (.inl rfl) ?_
    refine ⟨(show (acc.length + 1) * 24 ≤ 140737488355328 ∧ acc.length + 1 ≤ 1000000000 by omega),?_⟩
    refine nxg3 [0,1,2,3,4] (j + 1) (g - (1 + c1)) (acc ++ [vs]) (by omega) rfl ⟨by omega,by omega,by simp; omega,rest,c2,e2,by omega,by omega,by rw [List.append_assoc]; exact hv⟩ ⟨rfl,rfl,rfl,rfl,rfl,congrArg (ri .i64) (i64s (by omega)).symm,trivial⟩ ?_
    refine Eq.trans ?_ (congrArg (fun k=>(MH (g - (1 + c1)) (.d x y tl tq) ++ [.box 57 [ri .i64 0,rb false,nilA,rb false,nilA,ri .i64 0,ri .i64 0,nilA,nilA,ri .u64 0,ri .i64 0,ri .i64 0,nilA,nilA,nilA],.row 55 1 k (vrI (acc ++ [vs]))] : List AO)) (by simp : acc.length + 1 = (acc ++ [vs]).length))
    exact congrArg (fun l=>(MH (g - (1 + c1)) (.d x y tl tq) ++ [.box 57 [ri .i64 0,rb false,nilA,rb false,nilA,ri .i64 0,ri .i64 0,nilA,nilA,ri .u64 0,ri .i64 0,ri .i64 0,nilA,nilA,nilA],.row 55 1 (acc.length + 1) l] : List AO)) en.symm
  ·have h1:=of_decide_eq_false h1
   obtain rfl : j = Ns.length:=by omega
   rw [hnl,List.drop_length] at hx
   cases rest with
   | cons _ _=>exact hx.elim
   | nil=>
    obtain rfl : cr = 0:=hx
    rw [List.append_nil] at hv
    subst hv
    have : g = F - c:=by omega
    subst this
    refine iff_ rfl rfl ?_
    refine clk [4] hm rfl rfl ?_
    rintro _ rfl
    exact fin [0,1,2] rfl ⟨rfl,rfl⟩
 | e tl tq=>
  refine ec Tryz.func132 ?_
  refine lfv 6 55 1 rfl ?_
  refine lpt3 (fun (j g : Nat) (acc : List (List V15))=>j ≤ Ns.length ∧ g ≤ 1000000 ∧ acc.length = j ∧ ∃ rest cr,XpR Q (Rs.drop j) rest cr ∧ cr ≤ g ∧ g - cr = F - c ∧ acc ++ rest = Vs)
   (fun j _ _=>[(0,.ref 0 0),(4,.ref 3 0),(6,.own 4),(9,.im (.sl Ns.length 3 (ndL Ns))),(10,ri .i64 Ns.length),(11,ri .i64 j)])
   (fun _ g acc=>MH g (.e tl tq) ++ [.box 57 [ri .i64 0,rb false,nilA,rb false,nilA,ri .i64 0,ri .i64 0,nilA,nilA,ri .u64 0,ri .i64 0,ri .i64 0,nilA,nilA,nilA],.row 55 1 acc.length (vrI acc)]) (fun j _ _=>Ns.length - j) 0 F [] ⟨Nat.zero_le _,hF,rfl,Vs,c,h,hc,rfl,rfl⟩ (tsr rfl) rfl ?_
  rintro j g acc t ⟨hj,hg,hacc,rest,cr,hx,hcr,hgc,hv⟩
  refine ifs rfl (fun h1=>?_) (fun h1=>?_)
  ·have h1:=of_decide_eq_true h1
   have hj : j < Ns.length:=by omega
   obtain ⟨R,hR⟩ : ∃ R,Rs[j]? = some R:=⟨_,List.getElem?_eq_getElem (by omega)⟩
   have hN : Ns[j]? = some (rwN R):=by rw [hNs,List.getElem?_map,hR]; rfl
   have hd : Rs.drop j = R :: Rs.drop (j + 1):=by
    obtain ⟨p1,p2⟩:=List.getElem?_eq_some_iff.1 hR
    rw [List.drop_eq_getElem_cons p1,p2]
   rw [hd] at hx
   cases rest with
   | nil=>exact hx.elim
   | cons vs rest=>
    obtain ⟨c1,c2,rfl,hne,hl1,e1,e2⟩:=hx
    cases R with
    | nil=>exact absurd rfl hne
    | cons N0 R=>
    have ca:=m_all (s:=(.e tl tq)) e1 hne hl1 hs (F:=g - 1) (by omega) (by omega)
    have en : vrI (acc ++ [vs]) = vrI acc ++ [.sl vs.length 15 (vcL' vs)]:=by unfold vrI; rw [List.map_append]; rfl
    have em : g - 1 - c1 = g - (1 + c1):=by omega
    rw [em] at ca
    rw [ndL_flat Ns]
    refine gm (ndC_len Ns) j ⟨by omega,by omega⟩ (by rw [List.getElem?_map,hN]; rfl) (by rw [Int.toNat_natCast]) fun l'=>?_
    refine cxe 3 (m_take (s:=(.e tl tq)) (n:=1) (by omega) hg) rfl rfl rfl (.inl rfl) ?_
    refine iff_ rfl rfl ?_
    refine cxe 3 ca rfl rfl rfl (.inl rfl) ?_
    refine ⟨(show (acc.length + 1) * 24 ≤ 140737488355328 ∧ acc.length + 1 ≤ 1000000000 by omega),?_⟩
    refine nxg3 [0,1,2,3,4] (j + 1) (g - (1 + c1)) (acc ++ [vs]) (by omega) rfl ⟨by omega,by omega,by simp; omega,rest,c2,e2,by omega,by omega,by rw [List.append_assoc]; exact hv⟩ ⟨rfl,rfl,rfl,rfl,rfl,congrArg (ri .i64) (i64s (by omega)).symm,trivial⟩ ?_
    refine Eq.trans ?_ (congrArg (fun k=>(MH (g - (1 + c1)) (.e tl tq) ++ [.box 57 [ri .i64 0,rb false,nilA,rb false,nilA,ri .i64 0,ri .i64 0,nilA,nilA,ri .u64 0,ri .i64 0,ri .i64 0,nilA,nilA,nilA],.row 55 1 k (vrI (acc ++ [vs]))] : List AO)) (by simp : acc.length + 1 = (acc ++ [vs]).length))
    exact congrArg (fun l=>(MH (g - (1 + c1)) (.e tl tq) ++ [.box 57 [ri .i64 0,rb false,nilA,rb false,nilA,ri .i64 0,ri .i64 0,nilA,nilA,ri .u64 0,ri .i64 0,ri .i64 0,nilA,nilA,nilA],.row 55 1 (acc.length + 1) l] : List AO)) en.symm
  ·have h1:=of_decide_eq_false h1
   obtain rfl : j = Ns.length:=by omega
   rw [hnl,List.drop_length] at hx
   cases rest with
   | cons _ _=>exact hx.elim
   | nil=>
    obtain rfl : cr = 0:=hx
    rw [List.append_nil] at hv
    subst hv
    have : g = F - c:=by omega
    subst this
    refine iff_ rfl rfl ?_
    refine clk [4] hm rfl rfl ?_
    rintro _ rfl
    exact fin [0,1,2] rfl ⟨rfl,rfl⟩
theorem xp_mat {Q : Ms → Prop} {R0 : List Nde} {Rs : List (List Nde)} {Vs : List (List V15)} {c k : Nat} {w : V15} (h : XpR Q (R0 :: Rs) Vs c) (hl : (R0 :: Rs).length ≤ 1000) (hm : Pc Tryz.prog 170 [.sl Vs.length 1 (vrI Vs)] (· = .tup [w.i,.raw (.int .i64 0)])) (hV : VOK w k) :
  Xp Q (.mk 14 [] ((R0 :: Rs).map rwN)) w (1 + c + k):=by
 intro s hs F hc hF
 cases s with
 | a=>
  refine ec Tryz.func83 ?_
  refine cxe 2 (m_take (s:=.a) (n:=1) (by omega) hF) rfl rfl rfl (.inl rfl) ?_
  refine iff_ rfl rfl ?_
  refine iff_ rfl rfl ?_
  refine iff_ rfl rfl ?_
  refine ift rfl rfl ?_
  refine cxe 2 (m_rows (s:=.a) h hl hm hs (F:=F - 1) (by omega) (by omega)) rfl rfl rfl (.inl rfl) ?_
  refine cxe 2 (m_came (s:=.a) (F:=F - 1 - c) (k:=k) hV (.inr rfl) (by omega) (by omega)) rfl rfl rfl (.inl rfl) ?_
  exact fin [0,1] rfl ⟨rfl,congrArg (fun n=>MH n .a) (by omega)⟩
 | b x=>
  refine ec Tryz.func83 ?_
  refine cxe 2 (m_take (s:=(.b x)) (n:=1) (by omega) hF) rfl rfl rfl (.inl rfl) ?_
  refine iff_ rfl rfl ?_
  refine iff_ rfl rfl ?_
  refine iff_ rfl rfl ?_
  refine ift rfl rfl ?_
  refine cxe 2 (m_rows (s:=(.b x)) h hl hm hs (F:=F - 1) (by omega) (by omega)) rfl rfl rfl (.inl rfl) ?_
  refine cxe 2 (m_came (s:=(.b x)) (F:=F - 1 - c) (k:=k) hV (.inr rfl) (by omega) (by omega)) rfl rfl rfl (.inl rfl) ?_
  exact fin [0,1] rfl ⟨rfl,congrArg (fun n=>MH n (.b x)) (by omega)⟩
 | c x y=>
  refine ec Tryz.func83 ?_
  refine cxe 2 (m_take (s:=(.c x y)) (n:=1) (by omega) hF) rfl rfl rfl (.inl rfl) ?_
  refine iff_ rfl rfl ?_
  refine iff_ rfl rfl ?_
  refine iff_ rfl rfl ?_
  refine ift rfl rfl ?_
  refine cxe 2 (m_rows (s:=(.c x y)) h hl hm hs (F:=F - 1) (by omega) (by omega)) rfl rfl rfl (.inl rfl) ?_
  refine cxe 2 (m_came (s:=(.c x y)) (F:=F - 1 - c) (k:=k) hV (.inr rfl) (by omega) (by omega)) rfl rfl rfl (.inl rfl) ?_
  exact fin [0,1] rfl ⟨rfl,congrArg (fun n=>MH n (.c x y)) (by omega)⟩
 | d x y tl tq=>
  refine ec Tryz.func83 ?_
  refine cxe 3 (m_take (s:=(.d x y tl tq)) (n:=1) (by omega) hF) rfl rfl rfl (.inl rfl) ?_
  refine iff_ rfl rfl ?_
  refine iff_ rfl rfl ?_
  refine iff_ rfl rfl ?_
  refine ift rfl rfl ?_
  refine cxe 3 (m_rows (s:=(.d x y tl tq)) h hl hm hs (F:=F - 1) (by omega) (by omega)) rfl rfl rfl (.inl rfl) ?_
  refine cxe 3 (m_came (s:=(.d x y tl tq)) (F:=F - 1 - c) (k:=k) hV (.inr rfl) (by omega) (by omega)) rfl rfl rfl (.inl rfl) ?_
  exact fin [0,1,2] rfl ⟨rfl,congrArg (fun n=>MH n (.d x y tl tq)) (by omega)⟩
 | e tl tq=>
  refine ec Tryz.func83 ?_
  refine cxe 3 (m_take (s:=(.e tl tq)) (n:=1) (by omega) hF) rfl rfl rfl (.inl rfl) ?_
  refine iff_ rfl rfl ?_
  refine iff_ rfl rfl ?_
  refine iff_ rfl rfl ?_
  refine ift rfl rfl ?_
  refine cxe 3 (m_rows (s:=(.e tl tq)) h hl hm hs (F:=F - 1) (by omega) (by omega)) rfl rfl rfl (.inl rfl) ?_
  refine cxe 3 (m_came (s:=(.e tl tq)) (F:=F - 1 - c) (k:=k) hV (.inr rfl) (by omega) (by omega)) rfl rfl rfl (.inl rfl) ?_
  exact fin [0,1,2] rfl ⟨rfl,congrArg (fun n=>MH n (.e tl tq)) (by omega)⟩
end Go.Proofs.YtlhmaljjdpjkgaaGreatDoor
namespace Go.Proofs.YtlhmaljjdpjkgaaGreatDoor
open CR
section
variable {R : Type} [CR R]
def skp (k b : Nat) : Nat:=if b < k then b else b + 1
theorem skp_c (k b : Nat) : (b < k ∧ skp k b = b) ∨ (k ≤ b ∧ skp k b = b + 1):=by
 unfold skp
 split
 ·exact .inl ⟨by assumption,rfl⟩
 ·exact .inr ⟨by omega,rfl⟩
def rst (M : Nat → Nat → R) (i k : Nat) : Nat → Nat → R:=fun a b=>M (skp i a) (skp k b)
theorem sm_skip (f : Nat → R) : ∀ (n k : Nat),k < n + 1 → sm (n + 1) f = f k + sm n fun j=>f (skp k j)
 | 0,k,h=>by
  obtain rfl : k = 0:=by omega
  simp only [sm]; rw [add_comm]
 | n + 1,k,h=>by
  by_cases e : k = n + 1
  ·subst e
   have : sm (n + 1) (fun j=>f (skp (n + 1) j)) = sm (n + 1) f:=sm_congr fun j hj=>by unfold skp; rw [if_pos hj]
   rw [this]
   show sm (n + 1) f + f (n + 1) = _
   rw [add_comm]
  ·have ih:=sm_skip f n k (by omega)
   show sm (n + 1) f + f (n + 1) = f k + (sm n (fun j=>f (skp k j)) + f (skp k n))
   have : skp k n = n + 1:=by unfold skp; rw [if_neg (by omega)]
   rw [ih,this,add_assoc]
theorem dn_norow {n i : Nat} (hi : i < n) {M : Nat → Nat → R} (h : ∀ c,c < n → M i c = 0) : dn n M = 0:=by
 have e:=dn_scale n M i hi 0 (M i)
 rw [zero_mul] at e
 rw [← e]
 refine dn_congr n fun a b ha hb=>?_
 unfold upd
 split
 ·rename_i e; subst e
  show M a b = 0 * M a b
  rw [h b hb,zero_mul]
 ·rfl
theorem sg_par {a b : Nat} (h : a % 2 = b % 2) (x : R) : sg a x = sg b x:=by unfold sg; rw [h]
theorem sg_add (a b : Nat) (x : R) : sg a (sg b x) = sg (a + b) x:=by
 unfold sg
 split <;> split <;> split <;> first | omega | rfl | skip
 exact neg_neg x
theorem dn_unit : ∀ (i n k : Nat) (M : Nat → Nat → R),i < n + 1 → k < n + 1 → (∀ c,c < n + 1 → M i c = if c = k then 1 else 0) → dn (n + 1) M = sg (i + k) (dn n (rst M i k))
 | 0,n,k,M,_,hk,h=>by
  show sm (n + 1) (fun k=>sg k (M 0 k * dn n (mnr M k))) = _
  rw [sm_one hk (fun c hc hne=>by rw [h c hc,if_neg hne,zero_mul,sg_z]),h k hk,if_pos rfl,one_mul,Nat.zero_add]
  congr 1
 | i + 1,0,_,_,hi,_,_=>by omega
 | i + 1,m + 1,k,M,hi,hk,h=>by
  have h0 : mnr M k = mnr M k:=rfl
  have hz : dn (m + 1) (mnr M k) = 0:=dn_norow (i:=i) (by omega) fun c hc=>by
   show M (i + 1) (if c < k then c else c + 1) = 0
   split
   ·rw [h _ (by omega),if_neg (by omega)]
   ·rw [h _ (by omega),if_neg (by omega)]
  have hs : dn (m + 1 + 1) M = sm (m + 1 + 1) (fun k=>sg k (M 0 k * dn (m + 1) (mnr M k))):=rfl
  have hr : dn (m + 1) (rst M (i + 1) k) = sm (m + 1) (fun j=>sg j (rst M (i + 1) k 0 j * dn m (mnr (rst M (i + 1) k) j))):=rfl
  rw [hs,sm_skip _ (m + 1) k hk,hz,CR.mul_zero,sg_z,zero_add,hr,sg_sm]
  refine sm_congr fun j hj=>?_
  obtain ⟨k',hk',e1⟩ : ∃ k',k' < m + 1 ∧ ((j < k ∧ k = k' + 1) ∨ (k ≤ j ∧ k = k')):=by
   by_cases e : j < k
   ·exact ⟨k - 1,by omega,.inl ⟨e,by omega⟩⟩
   ·exact ⟨k,by omega,.inr ⟨by omega,rfl⟩⟩
  have hsk : ∀ b,skp (skp k j) (skp k' b) = skp k (skp j b):=by
   intro b
   have f1:=skp_c k j; have f2:=skp_c (skp k j) (skp k' b); have f3:=skp_c k' b; have f4:=skp_c k (skp j b); have f5:=skp_c j b
   omega
  have ih:=dn_unit i m k' (mnr M (skp k j)) (by omega) hk' (fun c hc=>by
   show M (i + 1) (skp (skp k j) c) = _
   have f1:=skp_c k j; have f2:=skp_c (skp k j) c
   have hb : skp (skp k j) c < m + 1 + 1:=by omega
   rw [h _ hb]
   have : (skp (skp k j) c = k) = (c = k'):=by
    apply propext
    omega
   simp only [this])
  rw [ih]
  have e2 : rst (mnr M (skp k j)) i k' = mnr (rst M (i + 1) k) j:=by
   funext a b
   show M (skp i a + 1) (skp (skp k j) (skp k' b)) = M (skp (i + 1) (a + 1)) (skp k (skp j b))
   rw [hsk]
   have : skp (i + 1) (a + 1) = skp i a + 1:=by unfold skp; split <;> split <;> omega
   rw [this]
  have e3 : rst M (i + 1) k 0 j = M 0 (skp k j):=by
   show M (skp (i + 1) 0) (skp k j) = _
   have : skp (i + 1) 0 = 0:=by unfold skp; rw [if_pos (by omega)]
   rw [this]
  rw [e2,e3,← sg_mul,sg_add,sg_add]
  refine sg_par ?_ _
  have f1:=skp_c k j
  omega
def adG (w : Nat) (A : Nat → Nat → R) : Nat → Nat → R:=fun i k=>sg (i + k) (dn w (rst A k i))
theorem adG_mul (w : Nat) (A : Nat → Nat → R) {i k : Nat} (hi : i < w + 1) (hk : k < w + 1) : mm (w + 1) (adG w A) A i k = if k = i then dn (w + 1) A else 0:=by
 have h:=congrArg (fun T : MT R (w + 1) (w + 1)=>T.e k i) (mul_adj (MT.of (w + 1) (w + 1) fun a b=>A b a))
 have hd : (MT.of (w + 1) (w + 1) fun a b=>A b a).det = dn (w + 1) A:=by rw [det_of]; exact dn_tr (w + 1) A
 simp only [MT.e_mul,MT.e_sc] at h
 rw [hd,MT.e_one hk hi] at h
 have h2 : mm (w + 1) (adG w A) A i k = dn (w + 1) A * (if k = i then 1 else 0):=by
  rw [← h]
  refine sm_congr fun j hj=>?_
  rw [MT.of_e _ hk hj,mul_comm]
  congr 1
  unfold adj
  rw [MT.of_e _ hj hi,dn_unit i w j _ hi hj (fun c hc=>by rw [upd_same]; unfold one1; simp only [eq_comm])]
  unfold adG
  congr 1
  rw [← dn_tr w (rst A j i)]
  refine dn_congr w fun a b ha hb=>?_
  show A (skp j b) (skp i a) = (upd (MT.of (w + 1) (w + 1) fun a b=>A b a).e i (one1 j)) (skp i a) (skp j b)
  rw [upd_ne _ _ (by unfold skp; split <;> omega),MT.of_e _ (by unfold skp; split <;> omega) (by unfold skp; split <;> omega)]
 rw [h2]
 split
 ·rw [CR.mul_one]
 ·rw [CR.mul_zero]
theorem trace_mm (n : Nat) (A B : Nat → Nat → R) : sm n (fun i=>mm n A B i i) = sm n (fun i=>mm n B A i i):=by
 show sm n (fun i=>sm n fun j=>A i j * B j i) = sm n (fun i=>sm n fun j=>B i j * A j i)
 rw [sm_swap]
 exact sm_congr fun i _=>sm_congr fun j _=>mul_comm _ _
theorem tr_mm (n : Nat) (A B : Nat → Nat → R) (i k : Nat) : mm n A B k i = mm n (fun i k=>B k i) (fun i k=>A k i) i k:=sm_congr fun j _=>mul_comm _ _
theorem sq_mm (n : Nat) (A B : Nat → Nat → R) (m : R) (i k : Nat) : mm n (fun i k=>A i k + B i k) (fun i k=>A i k + B i k * m) i k = mm n A A i k + mm n A B i k * m + mm n B A i k + mm n B B i k * m:=by
 have hm : ∀ A B : Nat → Nat → R,mm n A B i k * m = sm n fun j=>m * (A i j * B j k):=fun A B=>by rw [sm_mul,mul_comm]; rfl
 rw [hm A B,hm B B]
 show sm n _ = sm n (fun j=>A i j * A j k) + _ + sm n (fun j=>B i j * A j k) + _
 rw [← sm_add,← sm_add,← sm_add]
 exact sm_congr fun j _=>by_ring [A i j,B i j,A j k,B j k,m] ((X0 + X1) * (X2 + X3 * X4)) (X0 * X2 + X4 * (X0 * X3) + X1 * X2 + X4 * (X1 * X3)) rfl
theorem sm_homo {S : Type} [CR S] (φ : R → S) (h0 : φ 0 = 0) (ha : ∀ a b,φ (a + b) = φ a + φ b) (f : Nat → R) : ∀ n,sm n (fun i=>φ (f i)) = φ (sm n f)
 | 0=>h0.symm
 | n + 1=>by
  show sm n _ + _ = φ (sm n f + f n)
  rw [sm_homo φ h0 ha f n,ha]
theorem mm_homo {S : Type} [CR S] (φ : R → S) (h0 : φ 0 = 0) (ha : ∀ a b,φ (a + b) = φ a + φ b) (hm : ∀ a b,φ (a * b) = φ a * φ b) (n : Nat) (A B : Nat → Nat → R) (i k : Nat) :
  mm n (fun i k=>φ (A i k)) (fun i k=>φ (B i k)) i k = φ (mm n A B i k):=by
 show sm n (fun j=>φ (A i j) * φ (B j k)) = φ (sm n fun j=>A i j * B j k)
 rw [← sm_homo φ h0 ha]
 exact sm_congr fun j _=>(hm _ _).symm
end
end Go.Proofs.YtlhmaljjdpjkgaaGreatDoor
