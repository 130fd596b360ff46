/- What the shelf says of Go's package strings, at this translation (laid by the shelf's own tool, in plain words). -/
import Derived.Shelf.Small.Strs
import Derived.Shelf.Small.Wraps
import Derived.Shelf.Strings.OnBuilder
import Derived.Shelf.Strings.Search3
import Derived.Shelf.Strings.Trim
import Derived.Test.YtlhmaljjdpjkgaaGreatDoorProg
import Derived.Lib.Join
import Derived.Test.YtlhmaljjdpjkgaaGreatDoorTaM9
namespace Go.Proofs.YtlhmaljjdpjkgaaGreatDoor
open Go.Shelf
def lays156_ren : Go.Shelf.Ren:=⟨fun | 156=>64 | 165=>104 | 166=>105 | 169=>17 | 240=>152 | 241=>153 | 276=>185 | 277=>186 | n=>n,fun | 31=>121 | 9=>9 | 3=>3 | 4=>4 | 0=>0 | 20=>20 | 72=>68 | 76=>148 | 70=>65 | 37=>66 | 75=>147 | 127=>85 | 164=>218 | 5=>5 | 80=>71 | n=>n,fun | n=>n⟩
theorem lays156 : Go.Proofs.Lays.n156 Tryz.prog lays156_ren:={
 mixed:=by kernel_rfl
 f156:=Tryz.func64.trans (congrArg some (by kernel_rfl))
 f165:=Tryz.func104.trans (congrArg some (by kernel_rfl))
 f166:=Tryz.func105.trans (congrArg some (by kernel_rfl))
 f169:=Tryz.func17.trans (congrArg some (by kernel_rfl))
 f240:=Tryz.func152.trans (congrArg some (by kernel_rfl))
 f241:=Tryz.func153.trans (congrArg some (by kernel_rfl))
 f276:=Tryz.func185.trans (congrArg some (by kernel_rfl))
 f277:=Tryz.func186.trans (congrArg some (by kernel_rfl))
 t0:=Tryz.underlying0
 a0:=Tryz.isAgg0
 z0:=Tryz.sizeOf0
 v0:=Tryz.zeroValue0
 t3:=Tryz.underlying3
 a3:=Tryz.isAgg3
 z3:=Tryz.sizeOf3
 v3:=Tryz.zeroValue3
 t4:=Tryz.underlying4
 a4:=Tryz.isAgg4
 z4:=Tryz.sizeOf4
 v4:=Tryz.zeroValue4
 t9:=Tryz.underlying9
 a9:=Tryz.isAgg9
 z9:=Tryz.sizeOf9
 v9:=Tryz.zeroValue9
 t20:=Tryz.underlying20
 a20:=Tryz.isAgg20
 z20:=Tryz.sizeOf20
 v20:=Tryz.zeroValue20
 t31:=Tryz.underlying121
 a31:=Tryz.isAgg121
 z31:=Tryz.sizeOf121
 v31:=Tryz.zeroValue121
 t37:=Tryz.underlying66
 a37:=Tryz.isAgg66
 z37:=Tryz.sizeOf66
 v37:=Tryz.zeroValue66
 t70:=Tryz.underlying65
 a70:=Tryz.isAgg65
 z70:=Tryz.sizeOf65
 v70:=Tryz.zeroValue65
 t72:=Tryz.underlying68
 a72:=Tryz.isAgg68
 z72:=Tryz.sizeOf68
 v72:=Tryz.zeroValue68
 t75:=Tryz.underlying147
 a75:=Tryz.isAgg147
 z75:=Tryz.sizeOf147
 v75:=Tryz.zeroValue147
 t76:=Tryz.underlying148
 a76:=Tryz.isAgg148
 z76:=Tryz.sizeOf148
 v76:=Tryz.zeroValue148
 t127:=Tryz.underlying85
 a127:=Tryz.isAgg85
 z127:=Tryz.sizeOf85
 v127:=Tryz.zeroValue85
 t164:=Tryz.underlying218
 a164:=Tryz.isAgg218
 z164:=Tryz.sizeOf218
 v164:=Tryz.zeroValue218 }
theorem Builder_Extra_156 : Builder.Extra Tryz.prog lays156_ren:={
 sizeBuilder:=by kernel_rfl
 liesBuilder:=by kernel_rfl
 t5:=Tryz.underlying5
 a5:=Tryz.isAgg5
 z5:=Tryz.sizeOf5
 v5:=Tryz.zeroValue5
 infoByte:=by kernel_rfl
 cellsByte:=by kernel_rfl
 sizeByte:=by kernel_rfl
 neB5:=by decide }
open Go.RowKit in
theorem strings_Join_none (a : Option Addr) (c : Nat) (sep : ByteArray) (w : World) :
  Calls Tryz.prog 64 #[.slice a 0 c,.string sep] w fun e w'=>e = .returned (.string ⟨#[]⟩) ∧ w' = w:=Any.strings_Join_none lays156 Builder_Extra_156 a c sep w
open Go.RowKit in
theorem strings_Join (bk o c : Nat) (xs : List ByteArray) (sep : ByteArray) (w : World) (hcells : ∀ (j : Nat) x,xs[j]? = some x → w.cell? ⟨bk,o + j,none⟩ = some (.string x)) (hbk : bk < w.heap.size) (hN : xs.length ≤ 140737488355328) (hcap : xs.length ≤ c) (hlen : (Lib.join (xs.map (·.data.toList)) sep.data.toList).length ≤ 140737488355328) :
  Calls Tryz.prog 64 #[.slice (some ⟨bk,o,none⟩) xs.length c,.string sep] w fun e w'=>e = .returned (.string ⟨(Lib.join (xs.map (·.data.toList)) sep.data.toList).toArray⟩) ∧ Below w.heap.size w w':=Any.strings_Join lays156 Builder_Extra_156 bk o c xs sep w hcells hbk hN hcap hlen
def lays161_ren : Go.Shelf.Ren:=⟨fun | 161=>149 | 231=>177 | 227=>178 | 233=>179 | 235=>180 | 228=>217 | 197=>218 | 151=>219 | 260=>323 | 152=>324 | 137=>70 | 119=>435 | 224=>226 | 225=>225 | 217=>118 | 266=>158 | n=>n,fun | 9=>9 | 4=>4 | 3=>3 | 5=>5 | 117=>209 | 116=>208 | 0=>0 | 124=>212 | 105=>240 | 21=>21 | 119=>434 | 46=>174 | 139=>437 | 138=>436 | n=>n,fun | 3=>1 | 4=>2 | n=>n⟩
theorem lays161 : Go.Proofs.Lays.n161 Tryz.prog lays161_ren:={
 mixed:=by kernel_rfl
 f119:=Tryz.func435.trans (congrArg some (by kernel_rfl))
 f137:=Tryz.func70.trans (congrArg some (by kernel_rfl))
 f151:=Tryz.func219.trans (congrArg some (by kernel_rfl))
 f152:=Tryz.func324.trans (congrArg some (by kernel_rfl))
 f161:=Tryz.func149.trans (congrArg some (by kernel_rfl))
 f197:=Tryz.func218.trans (congrArg some (by kernel_rfl))
 f217:=Tryz.func118.trans (congrArg some (by kernel_rfl))
 f224:=Tryz.func226.trans (congrArg some (by kernel_rfl))
 f225:=Tryz.func225.trans (congrArg some (by kernel_rfl))
 f227:=Tryz.func178.trans (congrArg some (by kernel_rfl))
 f228:=Tryz.func217.trans (congrArg some (by kernel_rfl))
 f231:=Tryz.func177.trans (congrArg some (by kernel_rfl))
 f233:=Tryz.func179.trans (congrArg some (by kernel_rfl))
 f235:=Tryz.func180.trans (congrArg some (by kernel_rfl))
 f260:=Tryz.func323.trans (congrArg some (by kernel_rfl))
 f266:=Tryz.func158.trans (congrArg some (by kernel_rfl))
 t0:=Tryz.underlying0
 a0:=Tryz.isAgg0
 z0:=Tryz.sizeOf0
 v0:=Tryz.zeroValue0
 t3:=Tryz.underlying3
 a3:=Tryz.isAgg3
 z3:=Tryz.sizeOf3
 v3:=Tryz.zeroValue3
 t4:=Tryz.underlying4
 a4:=Tryz.isAgg4
 z4:=Tryz.sizeOf4
 v4:=Tryz.zeroValue4
 t5:=Tryz.underlying5
 a5:=Tryz.isAgg5
 z5:=Tryz.sizeOf5
 v5:=Tryz.zeroValue5
 t9:=Tryz.underlying9
 a9:=Tryz.isAgg9
 z9:=Tryz.sizeOf9
 v9:=Tryz.zeroValue9
 t21:=Tryz.underlying21
 a21:=Tryz.isAgg21
 z21:=Tryz.sizeOf21
 v21:=Tryz.zeroValue21
 t46:=Tryz.underlying174
 a46:=Tryz.isAgg174
 z46:=Tryz.sizeOf174
 v46:=Tryz.zeroValue174
 t105:=Tryz.underlying240
 a105:=Tryz.isAgg240
 z105:=Tryz.sizeOf240
 v105:=Tryz.zeroValue240
 t116:=Tryz.underlying208
 a116:=Tryz.isAgg208
 z116:=Tryz.sizeOf208
 t117:=Tryz.underlying209
 a117:=Tryz.isAgg209
 z117:=Tryz.sizeOf209
 v117:=Tryz.zeroValue209
 t119:=Tryz.underlying434
 a119:=Tryz.isAgg434
 z119:=Tryz.sizeOf434
 t124:=Tryz.underlying212
 a124:=Tryz.isAgg212
 z124:=Tryz.sizeOf212
 v124:=Tryz.zeroValue212
 t138:=Tryz.underlying436
 a138:=Tryz.isAgg436
 z138:=Tryz.sizeOf436
 v138:=Tryz.zeroValue436
 t139:=Tryz.underlying437
 a139:=Tryz.isAgg437
 z139:=Tryz.sizeOf437
 v139:=Tryz.zeroValue437
 g3:=by kernel_rfl
 g4:=by kernel_rfl }
open Go.RowKit in
theorem strings_TrimLeft_one (s : ByteArray) (c : UInt8) (hc : c.toNat < 128) (w : World) :
  Calls Tryz.prog 149 #[.string s,.string ⟨#[c]⟩] w fun e w'=>e = .returned (.string ⟨(Lib.trimLeftB s.data.toList c).toArray⟩) ∧ w' = w:=Any.strings_TrimLeft_one lays161 s c hc w
def lays137_ren : Go.Shelf.Ren:=⟨fun | 137=>70 | 217=>118 | 266=>158 | n=>n,fun | 9=>9 | 5=>5 | 3=>3 | n=>n,fun | n=>n⟩
theorem lays137 : Go.Proofs.Lays.n137 Tryz.prog lays137_ren:={
 mixed:=by kernel_rfl
 f137:=Tryz.func70.trans (congrArg some (by kernel_rfl))
 f217:=Tryz.func118.trans (congrArg some (by kernel_rfl))
 f266:=Tryz.func158.trans (congrArg some (by kernel_rfl))
 t3:=Tryz.underlying3
 a3:=Tryz.isAgg3
 z3:=Tryz.sizeOf3
 v3:=Tryz.zeroValue3
 t5:=Tryz.underlying5
 a5:=Tryz.isAgg5
 z5:=Tryz.sizeOf5
 v5:=Tryz.zeroValue5
 t9:=Tryz.underlying9
 a9:=Tryz.isAgg9
 z9:=Tryz.sizeOf9
 v9:=Tryz.zeroValue9 }
open Go.RowKit in
theorem strings_IndexByte (s : ByteArray) (c : Int) (w : World) :
  Calls Tryz.prog 70 #[.string s,.int .u8 c] w fun e w'=>e = .returned (.int .i64 (Lib.indexByte s.data.toList c.toNat.toUInt8)) ∧ w' = w:=Any.strings_IndexByte lays137 s c w
def lays103_ren : Go.Shelf.Ren:=⟨fun | 103=>164 | 210=>191 | 206=>230 | n=>n,fun | 9=>9 | 4=>4 | 24=>192 | 3=>3 | n=>n,fun | n=>n⟩
theorem lays103 : Go.Proofs.Lays.n103 Tryz.prog lays103_ren:={
 mixed:=by kernel_rfl
 f103:=Tryz.func164.trans (congrArg some (by kernel_rfl))
 f206:=Tryz.func230.trans (congrArg some (by kernel_rfl))
 f210:=Tryz.func191.trans (congrArg some (by kernel_rfl))
 t3:=Tryz.underlying3
 a3:=Tryz.isAgg3
 z3:=Tryz.sizeOf3
 v3:=Tryz.zeroValue3
 t4:=Tryz.underlying4
 a4:=Tryz.isAgg4
 z4:=Tryz.sizeOf4
 v4:=Tryz.zeroValue4
 t9:=Tryz.underlying9
 a9:=Tryz.isAgg9
 z9:=Tryz.sizeOf9
 v9:=Tryz.zeroValue9
 t24:=Tryz.underlying192
 a24:=Tryz.isAgg192
 z24:=Tryz.sizeOf192
 v24:=Tryz.zeroValue192 }
open Go.RowKit in
theorem strings_CutPrefix (s p : ByteArray) (w : World) :
  Calls Tryz.prog 164 #[.string s,.string p] w fun e w'=>e = .returned (.tuple #[.string ⟨(Lib.trimPrefix s.data.toList p.data.toList).toArray⟩,.bool (Lib.hasPrefix s.data.toList p.data.toList)]) ∧ w' = w:=Any.strings_CutPrefix lays103 s p w
def lays144_ren : Go.Shelf.Ren:=⟨fun | 144=>120 | 143=>159 | 219=>189 | 217=>118 | 225=>225 | 224=>226 | 267=>227 | 266=>158 | 314=>329 | n=>n,fun | 9=>9 | 4=>4 | 3=>3 | 5=>5 | 46=>174 | 146=>339 | 51=>338 | n=>n,fun | 1=>0 | n=>n⟩
theorem lays144 : Go.Proofs.Lays.n144 Tryz.prog lays144_ren:={
 mixed:=by kernel_rfl
 f143:=Tryz.func159.trans (congrArg some (by kernel_rfl))
 f144:=Tryz.func120.trans (congrArg some (by kernel_rfl))
 f217:=Tryz.func118.trans (congrArg some (by kernel_rfl))
 f219:=Tryz.func189.trans (congrArg some (by kernel_rfl))
 f224:=Tryz.func226.trans (congrArg some (by kernel_rfl))
 f225:=Tryz.func225.trans (congrArg some (by kernel_rfl))
 f266:=Tryz.func158.trans (congrArg some (by kernel_rfl))
 f267:=Tryz.func227.trans (congrArg some (by kernel_rfl))
 f314:=Tryz.func329.trans (congrArg some (by kernel_rfl))
 t3:=Tryz.underlying3
 a3:=Tryz.isAgg3
 z3:=Tryz.sizeOf3
 v3:=Tryz.zeroValue3
 t4:=Tryz.underlying4
 a4:=Tryz.isAgg4
 z4:=Tryz.sizeOf4
 v4:=Tryz.zeroValue4
 t5:=Tryz.underlying5
 a5:=Tryz.isAgg5
 z5:=Tryz.sizeOf5
 v5:=Tryz.zeroValue5
 t9:=Tryz.underlying9
 a9:=Tryz.isAgg9
 z9:=Tryz.sizeOf9
 v9:=Tryz.zeroValue9
 t46:=Tryz.underlying174
 a46:=Tryz.isAgg174
 z46:=Tryz.sizeOf174
 v46:=Tryz.zeroValue174
 t51:=Tryz.underlying338
 a51:=Tryz.isAgg338
 z51:=Tryz.sizeOf338
 v51:=Tryz.zeroValue338
 t146:=Tryz.underlying339
 a146:=Tryz.isAgg339
 z146:=Tryz.sizeOf339
 v146:=Tryz.zeroValue339
 g1:=by kernel_rfl }
open Go.RowKit Go.Lib in
theorem strings_Contains_one (s : ByteArray) (c : UInt8) (w : World) :
  Calls Tryz.prog 120 #[.string s,.string ⟨#[c]⟩] w fun e w'=>e = .returned (.bool (decide (0 ≤ Lib.indexByte s.data.toList c))) ∧ w' = w:=Any.strings_Contains_one lays144 s c w
open Go.RowKit Go.Lib in
theorem strings_Contains (s sub : ByteArray) (m : Int) (w : World) (hs : s.size < 4294967281) (hm : w.cell? ⟨0,0,none⟩ = some (.int .i64 m)) :
  Calls Tryz.prog 120 #[.string s,.string sub] w fun e w'=>e = .returned (.bool (Lib.contains s.data.toList sub.data.toList)) ∧ w' = w:=Any.strings_Contains lays144 s sub m w hs hm
end Go.Proofs.YtlhmaljjdpjkgaaGreatDoor
namespace Go.Proofs.YtlhmaljjdpjkgaaGreatDoor
def eqL : List Nat → List Nat → Bool
 | [],[]=>true
 | a :: l,b :: r=>Nat.beq a b && eqL l r
 | _,_=>false
theorem eqL_iff : ∀ {l r : List Nat},eqL l r = true ↔ l = r
 | [],[]=>by simp [eqL]
 | [],_ :: _=>by simp [eqL]
 | _ :: _,[]=>by simp [eqL]
 | a :: l,b :: r=>by simp [eqL,eqL_iff (l:=l)]
inductive Nde where
 | mk (op : Nat) (t : List Nat) (ks : List Nde)
abbrev Ps : Type:=List Tok → Option (Nde × List Tok)
def isT : List Tok → List Nat → Bool
 | (k,t,_) :: _,s=>!(Nat.beq k 1) && eqL t s
 | [],_=>false
def ownB (t : List Nat) : Bool:=eqL t [105,102] || eqL t [101,108,115,101] || eqL t [102,111,114]
def namedT : List Tok → Bool
 | (k,t,_) :: _=>Nat.beq k 2 && !ownB t
 | []=>false
def textT : List Tok → List Nat
 | (_,t,_) :: _=>t
 | []=>[]
def lsM (E : Ps) (e : List Nat) : Nat → List Tok → Option (List Nde × List Tok)
 | 0,_=>none
 | g + 1,ts=>match E ts with
  | none=>none
  | some (n,r)=>if isT r e = true then some ([n],r.tail) else if isT r [44] = true then (lsM E e g r.tail).map fun p=>(n :: p.1,p.2) else none
def argsM (E : Ps) (e : List Nat) (ts : List Tok) : Option (List Nde × List Tok):=if isT ts e = true then some ([],ts.tail) else lsM E e (ts.length + 1) ts
def mtM (E : Ps) : Nat → List Nde → List Nde → List Tok → Option (Nde × List Tok)
 | 0,_,_,_=>none
 | g + 1,row,rows,ts=>match E ts with
  | none=>none
  | some (n,r)=>if isT r [44] = true then mtM E g (row ++ [n]) rows r.tail else if isT r [59] = true then mtM E g [] (rows ++ [.mk 15 [] (row ++ [n])]) r.tail
   else if isT r [93] = true then some (.mk 14 [] (rows ++ [.mk 15 [] (row ++ [n])]),r.tail) else none
def prM (E : Ps) (ts : List Tok) : Option (Nde × List Tok):=
 match ts with
 | []=>none
 | (k,t,_) :: r=>if Nat.beq k 1 = true then some (.mk 1 t [],r) else if namedT ts = true then
   (if isT r [40] = true then (argsM E [41] r.tail).map fun p=>(.mk 13 t p.1,p.2) else some (.mk 2 t [],r))
  else if isT ts [40] = true then (match E r with
   | none=>none
   | some (n,r')=>if isT r' [41] = true then some (n,r'.tail) else none)
  else if isT ts [91] = true then mtM E (r.length + 1) [] [] r else none
def pwM (U P : Ps) (ts : List Tok) : Option (Nde × List Tok):=
 match P ts with
 | none=>none
 | some (n,r)=>if isT r [91] = true then none else if isT r [94] = true then (U r.tail).map fun p=>(.mk 8 [] [n,p.1],p.2) else some (n,r)
def unM (U W : Ps) (ts : List Tok) : Option (Nde × List Tok):=if isT ts [45] = true then (U ts.tail).map fun p=>(.mk 3 [] [p.1],p.2) else W ts
def chM (S : Ps) (a : List Nat) (x : Nat) (b : List Nat) (y : Nat) : Nat → Nde → List Tok → Option (Nde × List Tok)
 | 0,_,_=>none
 | g + 1,n,ts=>if isT ts a = true then (match S ts.tail with
   | none=>none
   | some (m,r)=>chM S a x b y g (.mk x [] [n,m]) r)
  else if isT ts b = true then (match S ts.tail with
   | none=>none
   | some (m,r)=>chM S a x b y g (.mk y [] [n,m]) r)
  else some (n,ts)
def cnM (S : Ps) (a : List Nat) (x : Nat) (b : List Nat) (y : Nat) (ts : List Tok) : Option (Nde × List Tok):=
 match S ts with
 | none=>none
 | some (n,r)=>chM S a x b y (r.length + 1) n r
def exM (S : Ps) (ts : List Tok) : Option (Nde × List Tok):=
 match S ts with
 | none=>none
 | some (n,r)=>if isT r [61,61] = true then (S r.tail).map fun p=>(.mk 9 [] [n,p.1],p.2) else if isT r [33,61] = true then (S r.tail).map fun p=>(.mk 10 [] [n,p.1],p.2)
  else if isT r [60] = true then (S r.tail).map fun p=>(.mk 11 [] [n,p.1],p.2) else if isT r [60,61] = true then (S r.tail).map fun p=>(.mk 12 [] [n,p.1],p.2) else some (n,r)
def uM (E U : Ps) : Ps:=unM U (pwM U (prM E))
def dM (E U : Ps) : Ps:=cnM (uM E U) [42] 6 [47] 7
def sM (E U : Ps) : Ps:=cnM (dM E U) [43] 4 [45] 5
def eu : Nat → Ps × Ps
 | 0=>(fun _=>none,fun _=>none)
 | f + 1=>(exM (sM (eu f).1 (eu f).2),uM (eu f).1 (eu f).2)
def stM (E : Ps) (ts : List Tok) : Option (Nde × List Tok):=
 if isT ts [105,102] = true then none else if isT ts [102,111,114] = true then none else
 if namedT ts && isT ts.tail [61] = true then (match E ts.tail.tail with
  | none=>none
  | some (n,r)=>if isT r [59] = true then some (.mk 18 (textT ts) [n],r.tail) else none)
 else if eqL (textT ts.tail) [61] = true then none else match E ts with
  | none=>none
  | some (n,r)=>if isT r [59] = true then some (.mk 19 [] [n],r.tail) else none
def pgM (E : Ps) : Nat → List Tok → Option (List Nde)
 | _,[]=>some []
 | 0,_ :: _=>none
 | g + 1,ts=>match stM E ts with
  | none=>none
  | some (n,r)=>(pgM E g r).map (n :: ·)
def kidsL : List Nde → List Nde
 | []=>[]
 | .mk _ _ ks :: l=>ks ++ kidsL l
def levL : Nat → List Nde → List Nde
 | 0,l=>l
 | n + 1,l=>levL n (kidsL l)
theorem kidsL_append : ∀ a b,kidsL (a ++ b) = kidsL a ++ kidsL b
 | [],_=>rfl
 | .mk _ _ ks :: l,b=>by simp [kidsL,kidsL_append l b]
theorem levL_append : ∀ n a b,levL n (a ++ b) = levL n a ++ levL n b
 | 0,_,_=>rfl
 | n + 1,a,b=>by rw [levL,levL,levL,kidsL_append,levL_append n]
end Go.Proofs.YtlhmaljjdpjkgaaGreatDoor
namespace Go.Proofs.YtlhmaljjdpjkgaaGreatDoor
open Go Go.RowKit
def u8 (l : List Nat) : List UInt8:=l.map UInt8.ofNat
def tx (l : List Nat) : ByteArray:=⟨(u8 l).toArray⟩
def ts (l : List Nat) : IV:=.raw (.string (tx l))
def byt (l : List Nat) : Bool:=l.all fun c=>decide (c < 256)
theorem byt_of {l : List Nat} (h : byt l = true) : ∀ c ∈ l,c < 256:=fun c hc=>of_decide_eq_true (List.all_eq_true.1 h c hc)
theorem byt_sub {a b : List Nat} (h : a.Sublist b) (hb : byt b = true) : byt a = true:=List.all_eq_true.2 fun c hc=>List.all_eq_true.1 hb c (h.subset hc)
theorem tx_list (l : List Nat) : (tx l).data.toList = u8 l:=by simp [tx]
theorem tx_size (l : List Nat) : (tx l).size = l.length:=by simp [tx,ByteArray.size,u8]
theorem tx_append (a b : List Nat) : tx a ++ tx b = tx (a ++ b):=by
 apply ByteArray.ext
 rw [ByteArray.data_append]
 simp [tx,u8]
theorem u8_nat {c : Nat} (h : c < 256) : (UInt8.ofNat c).toNat = c:=by simp [UInt8.toNat_ofNat']; omega
theorem tx_at {l : List Nat} (h : byt l = true) (j : Nat) : ((tx l).data.toList.getD j 0).toNat = l.getD j 0:=by
 rw [tx_list]
 simp only [u8,List.getD,List.getElem?_map]
 cases hj : l[j]? with
 | none=>rfl
 | some c=>exact u8_nat (byt_of h c (List.mem_of_getElem? hj))
theorem tx_extract (l : List Nat) (i j : Nat) : (tx l).extract i j = tx ((l.take j).drop i):=by
 apply ByteArray.ext
 rw [ByteArray.data_extract]
 apply Array.ext'
 simp [tx,u8,List.drop_take,List.map_take,List.map_drop]
theorem u8_inj {a b : List Nat} (ha : byt a = true) (hb : byt b = true) (h : u8 a = u8 b) : a = b:=by
 apply List.ext_getElem?
 intro j
 have:=congrArg (fun l=>(l[j]?).map UInt8.toNat) h
 simp only [u8,List.getElem?_map,Option.map_map] at this
 have e : ∀ {l : List Nat},byt l = true → Option.map (UInt8.toNat ∘ UInt8.ofNat) l[j]? = l[j]?:=fun {l} hl=>by
  cases hj : l[j]? with
  | none=>rfl
  | some c=>simp only [Option.map_some,Function.comp,u8_nat (byt_of hl c (List.mem_of_getElem? hj))]
 rwa [e ha,e hb] at this
theorem tx_beq {a b : List Nat} (ha : byt a = true) (hb : byt b = true) : ((tx a).toList == (tx b).toList) = eqL a b:=by
 rw [ByteArray.toList_eq,ByteArray.toList_eq,tx_list,tx_list]
 cases he : eqL a b with
 | true=>rw [eqL_iff.1 he]; simp
 | false=>
  rw [beq_eq_false_iff_ne]
  intro h
  have:=eqL_iff.2 (u8_inj ha hb h)
  rw [he] at this; cases this
theorem tx_strI {l : List Nat} (h : byt l = true) : strI (tx l) = bs l:=by
 simp only [strI,tx_list,bs,u8,List.map_map]
 refine List.map_congr_left fun c hc=>?_
 simp only [Function.comp,ub,u8_nat (byt_of h c hc)]
theorem bytesI_bs : ∀ l : List Nat,bytesI (bs l) = some (l.map fun (c : Nat)=>(c : Int))
 | []=>rfl
 | c :: l=>by show (bytesI (bs l)).map _ = _; rw [bytesI_bs l]; rfl
theorem txt_foldl : ∀ (ns : List Int) (acc : ByteArray),ns.foldl (fun r n=>r.push (UInt8.ofNat n.toNat)) acc = acc ++ ⟨(ns.map fun n=>UInt8.ofNat n.toNat).toArray⟩
 | [],acc=>by apply ByteArray.ext; rw [ByteArray.data_append]; simp
 | n :: ns,acc=>by
  rw [List.foldl_cons,txt_foldl ns]
  apply ByteArray.ext
  rw [ByteArray.data_append,ByteArray.data_append]
  simp [ByteArray.push]
theorem txt_tx (l : List Nat) : txt (l.map fun (c : Nat)=>(c : Int)) = tx l:=by
 unfold txt
 rw [txt_foldl]
 apply ByteArray.ext
 rw [ByteArray.data_append]
 simp [tx,u8,Function.comp_def]
theorem l_IndexByte (l : List Nat) {c : Nat} : Pc Tryz.prog 70 [ts l,.raw (.int .u8 (c : Int))] (· = .raw (.int .i64 (Lib.indexByte (u8 l) c.toUInt8))):=
 pc_raw (ent_of Tryz.func70 (by kernel_rfl)) fun w vs hc=>by
  obtain ⟨u,v,rfl,h1,h2⟩:=ci2 hc
  cases h1; cases h2
  refine (strings_IndexByte (tx l) (c : Int) w).mono ?_
  rintro e w' ⟨rfl,rfl⟩
  rw [tx_list]
  exact ⟨rfl,Drawn.refl _⟩
theorem l_Contains_one (l : List Nat) {c : Nat} : Pc Tryz.prog 120 [ts l,ts [c]] (· = .raw (.bool (decide (0 ≤ Lib.indexByte (u8 l) (UInt8.ofNat c))))):=
 pc_raw (ent_of Tryz.func120 (by kernel_rfl)) fun w vs hc=>by
  obtain ⟨u,v,rfl,h1,h2⟩:=ci2 hc
  cases h1; cases h2
  refine (strings_Contains_one (tx l) (UInt8.ofNat c) w).mono ?_
  rintro e w' ⟨rfl,rfl⟩
  rw [tx_list]
  exact ⟨rfl,Drawn.refl _⟩
theorem l_Contains (l s : List Nat) (h : l.length < 4294967281) : Pc Tryz.prog 120 [ts l,ts s] (· = .raw (.bool (Lib.contains (u8 l) (u8 s)))):=
 .inl ⟨ent_of Tryz.func120 (by kernel_rfl),fun B w vs hB hG hc=>by
  obtain ⟨u,v,rfl,h1,h2⟩:=ci2 hc
  cases h1; cases h2
  obtain ⟨⟨m,hm⟩,-⟩:=hG
  refine (strings_Contains (tx l) (tx s) m w (by rw [tx_size]; exact h) hm).mono ?_
  rintro e w' ⟨rfl,rfl⟩
  rw [tx_list,tx_list]
  exact ⟨_,_,rfl,rfl,.raw _,Below.refl _ _⟩⟩
theorem l_TrimLeft (l : List Nat) (hl : byt l = true) : Pc Tryz.prog 149 [ts l,ts [48]] (· = ts (trimL l)):=
 pc_raw (ent_of Tryz.func149 (by kernel_rfl)) fun w vs hc=>by
  obtain ⟨u,v,rfl,h1,h2⟩:=ci2 hc
  cases h1; cases h2
  refine (strings_TrimLeft_one (tx l) 48 (by decide) w).mono ?_
  rintro e w' ⟨rfl,rfl⟩
  refine ⟨?_,Drawn.refl _⟩
  rw [tx_list]
  have : ∀ {l : List Nat},byt l = true → Lib.trimLeftB (u8 l) 48 = u8 (trimL l):=by
   intro l
   induction l with
   | nil=>intro _; rfl
   | cons c l ih=>
    intro h
    simp only [byt,List.all_cons,Bool.and_eq_true] at h
    have hc:=of_decide_eq_true h.1
    unfold Lib.trimLeftB trimL at *
    simp only [u8,List.map_cons,List.dropWhile_cons]
    by_cases e : c = 48
    ·subst e; simpa [u8] using ih h.2
    ·have e1 : (UInt8.ofNat c == 48) = false:=by
      rw [beq_eq_false_iff_ne]
      intro h2
      have:=congrArg UInt8.toNat h2
      rw [u8_nat hc] at this
      exact e this
     have e2 : (c == 48) = false:=by simpa using e
     rw [e1,e2]; rfl
  rw [this hl]; rfl
theorem l_CutPrefix_no {c : Nat} (l : List Nat) (hc : c < 256) (hne : c ≠ 45) : Pc Tryz.prog 164 [ts (c :: l),ts [45]] (· = .tup [ts (c :: l),.raw (.bool false)]):=
 pc_tup (l:=[.string (tx (c :: l)),.bool false]) (ent_of Tryz.func164 (by kernel_rfl)) fun w vs hci=>by
  obtain ⟨u,v,rfl,h1,h2⟩:=ci2 hci
  cases h1; cases h2
  refine (strings_CutPrefix (tx (c :: l)) (tx [45]) w).mono ?_
  rintro e w' ⟨rfl,rfl⟩
  rw [tx_list,tx_list]
  refine ⟨?_,Drawn.refl _⟩
  have e1 : ((45 : UInt8) == UInt8.ofNat c) = false:=by
   rw [beq_eq_false_iff_ne]
   intro h2
   have:=congrArg UInt8.toNat h2
   rw [u8_nat hc] at this
   exact hne this.symm
  have e2 : Lib.hasPrefix (u8 (c :: l)) (u8 [45]) = false:=by
   show ((45 : UInt8) == UInt8.ofNat c && _) = false
   rw [e1]; rfl
  unfold Lib.trimPrefix
  rw [e2]; rfl
def joinN : List (List Nat) → List Nat → List Nat
 | [],_=>[]
 | [x],_=>x
 | x :: y :: r,s=>x ++ (s ++ joinN (y :: r) s)
theorem join_u8 : ∀ (xs : List (List Nat)) (s : List Nat),Lib.join (xs.map u8) (u8 s) = u8 (joinN xs s)
 | [],_=>rfl
 | [x],s=>by rw [List.map_cons,List.map_nil,Lib.join_one]; rfl
 | x :: y :: r,s=>by
  have ih:=join_u8 (y :: r) s
  rw [joinN]
  simp only [List.map_cons] at ih ⊢
  rw [Lib.join_cons] at ih ⊢
  simp only [Lib.joinTail,List.map_cons,List.flatten_cons] at ih ⊢
  have e : u8 (x ++ (s ++ joinN (y :: r) s)) = u8 x ++ (u8 s ++ u8 (joinN (y :: r) s)):=by simp [u8]
  rw [e,← ih]; simp
theorem l_Join (xs : List (List Nat)) (s : List Nat) (h : xs.length ≤ 1000000) (hl : (joinN xs s).length ≤ 1000000) : Pc Tryz.prog 64 [.sl xs.length 1 (xs.map ts),ts s] (· = ts (joinN xs s)):=
 .inl ⟨ent_of Tryz.func64 (by kernel_rfl),fun B w vs hB hG hc=>by
  obtain ⟨u,v,rfl,h1,h2⟩:=ci2 hc
  cases h2
  obtain ⟨ao,b,o,cap,us,rfl,k1,k2,k3,k4,k5,k6⟩:=h1.slice
  have hj : Lib.join ((xs.map tx).map (·.data.toList)) (tx s).data.toList = u8 (joinN xs s):=by
   have e : ((fun b : ByteArray=>b.data.toList) ∘ tx) = u8:=funext tx_list
   rw [List.map_map,tx_list,← join_u8,e]
  cases xs with
  | nil=>
   refine (strings_Join_none ao cap (tx s) w).mono ?_
   rintro e w' ⟨rfl,rfl⟩
   exact ⟨_,_,rfl,rfl,.raw _,Below.refl _ _⟩
  | cons x xs=>
   obtain ⟨rfl,-⟩:=k3 (by simp)
   have hcell : ∀ (j : Nat) y,((x :: xs).map tx)[j]? = some y → w.cell? ⟨b,o + j,none⟩ = some (.string y):=fun j y hy=>by
    rw [List.getElem?_map,Option.map_eq_some_iff] at hy
    obtain ⟨z,hz,rfl⟩:=hy
    obtain ⟨u,hu,hn⟩:=k4.at (j:=j) (x:=ts z) (by rw [List.getElem?_map,hz]; rfl)
    cases hn
    exact k5 j _ hu
   have hb : b < w.heap.size:=World.block_lt_of_cell? w ⟨b,o + 0,none⟩ (hcell 0 (tx x) rfl)
   have hlen : ((x :: xs).map tx).length = (x :: xs).length:=by simp
   have:=strings_Join b o cap ((x :: xs).map tx) (tx s) w hcell hb (by rw [hlen]; omega) (by rw [hlen]; omega) (by rw [hj]; simp only [u8,List.length_map]; omega)
   rw [hlen,hj] at this
   refine this.mono ?_
   rintro e w' ⟨rfl,hw⟩
   exact ⟨_,_,rfl,rfl,.raw _,hw⟩⟩
theorem gb {cs : List IV} {l : List Nat} {K : AV → Prop} (h : cs = bs l) (hk : K (.im (ts l))) : Gn True cs (fun l=>(bytesI l).map fun ns=>rs (txt ns)) K:=
 ⟨trivial,fun l' hl=>by
  subst hl h
  rw [bytesI_bs]
  show K (rs (txt _))
  rw [txt_tx]; exact hk⟩
theorem byt_dig {l : List Nat} (h : l.all digB = true) : byt l = true:=by
 unfold byt
 rw [List.all_eq_true] at h ⊢
 intro c hc
 have:=h c hc
 simp only [digB,Bool.and_eq_true,decide_eq_true_eq] at this
 exact decide_eq_true (by omega)
theorem W64_lt : W64 < 10 ^ 36:=by decide
theorem tx_nil {l : List Nat} (h : byt l = true) : ((tx l).toList == (⟨#[]⟩ : ByteArray).toList) = l.isEmpty:=by
 have:=tx_beq (b:=[]) h rfl
 rw [show (tx []) = ⟨#[]⟩ from rfl] at this
 rw [this]; cases l <;> rfl
theorem c_Print {x : Nat} (hx : x < W64) : Pc Tryz.prog 103 [na x] (· = ts (dgs x)):=by
 have hx36:=Nat.lt_trans hx W64_lt
 have hb : byt (dig8 (digs 36 x)) = true:=byt_dig (dig8_all _ _)
 have hb2 : byt (trimL (dig8 (digs 36 x))) = true:=byt_sub (List.dropWhile_sublist _) hb
 refine pc Tryz.func103 ?_
 refine ce (c_powers hx) rfl ?_
 refine cfb (c_digits1 hx) rfl ?_
 refine gb rfl ?_
 refine ce (l_TrimLeft _ hb) rfl ?_
 refine ifs rfl (fun h=>?_) (fun h=>?_) <;> rw [tx_nil hb2] at h
 ·have h0 : x = 0:=by
   have h1:=valD_trim (dig8 (digs 36 x))
   rw [valD_digs,Nat.mod_eq_of_lt hx36] at h1
   have : trimL (dig8 (digs 36 x)) = []:=by simpa using h
   rw [this] at h1; exact h1.symm
  subst h0
  exact rfl
 ·have h0 : x ≠ 0:=by
   rintro rfl
   exact absurd h (by decide)
  exact congrArg ts (show trimL (dig8 (digs 36 x)) = dgs x by unfold dgs; rw [if_neg h0])
def zts (z : Int) : List Nat:=if z < 0 then 45 :: dgs z.natAbs else dgs z.natAbs
theorem z_Print {z : Int} (hx : z.natAbs < W64) : Pc Tryz.prog 59 [iz z] (· = ts (zts z)):=by
 have hl : li z ≤ 1:=ln_word hx
 have hl2:=(dgs_len z.natAbs (by have:=W64_lt; omega)).2
 refine pc Tryz.func59 ?_
 refine ce (z_Sign (by omega)) rfl ?_
 refine ifs rfl (fun h=>?_) (fun h=>?_) <;> rw [sgn_neg] at h
 ·have h:=of_decide_eq_true h
  refine ce (c_Print hx) rfl ?_
  refine ⟨?_,?_⟩
  ·show (tx [45]).size + (tx (dgs z.natAbs)).size ≤ _
   rw [tx_size,tx_size]
   show 1 + _ ≤ _
   omega
  refine congrArg (fun b=>IV.raw (.string b)) ?_
  show tx [45] ++ tx (dgs z.natAbs) = tx (zts z)
  rw [tx_append]; unfold zts; rw [if_pos h]; rfl
 ·have h:=of_decide_eq_false h
  refine ce (c_Print hx) rfl ?_
  refine congrArg ts ?_
  unfold zts; rw [if_neg h]
theorem r_Print {z : Int} (hx : z.natAbs < W64) : Pc Tryz.prog 54 [iq (z : Rat)] (· = ts (zts z)):=by
 have hl : li z ≤ 1:=ln_word hx
 have hr : lr (z : Rat) ≤ 1:=by rw [lr_int,ln_one]; omega
 refine pc Tryz.func54 ?_
 refine ce (r_norm (Nat.le_trans hr (by decide))) rfl ?_
 refine ce (z_Print hx) rfl ?_
 refine rq [0,1,2,3] ?_
 refine ce (z_Of (x:=1) (by decide) (by decide)) rfl ?_
 refine ce (z_Same (a:=1) (Nat.le_trans li1 (by decide)) (Nat.le_trans li1 (by decide))) rfl ?_
 refine ift rfl rfl ?_
 exact rfl
theorem byt_all {l : List Nat} (h : l.all digB = true) {j c : Nat} (hc : l[j]? = some c) : 48 ≤ c ∧ c ≤ 57:=by
 have:=List.all_eq_true.1 h c (List.mem_of_getElem? hc)
 simpa [digB] using this
theorem bx {l : List Nat} (h : byt l = true) {j : Int} {i c : Nat} (hj : j = i) (hc : l[i]? = some c) : (((tx l).data.toList.getD j.toNat 0).toNat : Int) = (c : Int):=by
 subst hj
 rw [Int.toNat_natCast,tx_at h]
 simp [List.getD,hc]
theorem c_is {l : List Nat} (h : l.all digB = true) (h1 : 1 ≤ l.length) (h2 : l.length ≤ 20000) (h0 : 1 < l.length → l.headD 0 ≠ 48) : Pc Tryz.prog 192 [ts l] (· = .raw (.bool true)):=by
 have hb:=byt_dig h
 have hs:=tx_size l
 refine pc Tryz.func192 ?_
 have g1 : decide (((tx l).size : Int) < 1) = false:=decide_eq_false (by rw [hs]; omega)
 have g2 : decide (((tx l).size : Int) > 20000) = false:=decide_eq_false (by rw [hs]; omega)
 iterate 3 refine gt g1 ?_
 refine tf g1 ?_
 iterate 4 refine gt g2 ?_
 by_cases hl : 1 < l.length
 case' pos=>
  have g3 : decide (((tx l).size : Int) > 1) = true:=decide_eq_true (by rw [hs]; omega)
  obtain ⟨c,hc⟩ : ∃ c,l[0]? = some c:=⟨_,List.getElem?_eq_getElem (by omega)⟩
  have hc48 : c ≠ 48:=by have:=h0 hl; simpa [List.headD_eq_head?_getD,List.head?_eq_getElem?,hc] using this
  refine gt g3 ?_
  refine gt g3 ?_
  refine ⟨⟨by decide,by rw [hs]; omega⟩,?_⟩
  refine fr (congrArg (fun z=>AV.im (.raw (.int .u8 z))) (bx hb (j:=0) rfl hc)) ?_
  refine gt g3 ?_
  refine gt g2 ?_
  refine tw g3 ?_
  refine tf g2 ?_
  refine iff_ rfl (by rw [beq_eq_false_iff_ne]; omega) ?_
 case' neg=>
  have g3 : decide (((tx l).size : Int) > 1) = false:=decide_eq_false (by rw [hs]; omega)
  iterate 3 refine gf g3 ?_
  refine gt g2 ?_
  refine tf g3 ?_
  refine tf g2 ?_
  refine iff_ rfl rfl ?_
 all_goals
  refine lpt (fun i : Nat=>i ≤ l.length) (fun i=>[(0,.im (ts l)),(23,ri .i64 l.length),(24,ri .i64 i)]) (fun _=>[]) (fun i=>l.length - i) 0 (Nat.zero_le _) ⟨rfl,congrArg (ri .i64) (congrArg Int.ofNat hs),rfl,trivial⟩ rfl ?_
  intro i t hi
  refine ifs rfl (fun h3=>?_) (fun h3=>?_)
  ·have h3:=of_decide_eq_true h3
   obtain ⟨c,hc⟩ : ∃ c,l[i]? = some c:=⟨_,List.getElem?_eq_getElem (by omega)⟩
   obtain ⟨c1,c2⟩:=byt_all h hc
   refine ⟨⟨by omega,by rw [hs]; omega⟩,?_⟩
   refine fr (congrArg (fun z=>AV.im (.raw (.int .u8 z))) (bx hb (j:=(i : Int)) rfl hc)) ?_
   have g4 : decide ((c : Int) < 48) = false:=decide_eq_false (by omega)
   iterate 2 refine gt g4 ?_
   refine gt g4 ?_
   refine ⟨⟨by omega,by rw [hs]; omega⟩,?_⟩
   refine fr (congrArg (fun z=>AV.im (.raw (.int .u8 z))) (bx hb (j:=(i : Int)) rfl hc)) ?_
   refine gt g4 ?_
   refine tf g4 ?_
   refine iff_ rfl (decide_eq_false (by omega)) ?_
   refine nx (i + 1) (by omega) ⟨by omega,⟨rfl,rfl,congrArg (ri .i64) (IntWalk.i64_in _ (by omega)),trivial⟩,rfl⟩
  ·exact rfl
noncomputable def nz (l : List Nat) : IV:=match l with
 | []=>.raw (.slice none 0 0)
 | l=>na (valD l)
theorem nz_sub (l : List Nat) : Sub (nz l) (na (valD l)):=by
 cases l with
 | nil=>exact sub_nil
 | cons c l=>exact Sub.refl _
theorem valD_lt {l : List Nat} (h : l.all digB = true) : valD l < 10 ^ l.length:=by
 induction l with
 | nil=>decide
 | cons c l ih=>
  simp only [List.all_cons,Bool.and_eq_true,digB,decide_eq_true_eq] at h
  have:=ih h.2
  rw [valD,valF_cons,valF_eq,List.length_cons,Nat.pow_succ]
  have h1 : (10 * 0 + (c - 48)) * 10 ^ l.length ≤ 9 * 10 ^ l.length:=Nat.mul_le_mul_right _ (by omega)
  omega
theorem u64s {x : Int} {n : Nat} (h : x = n) (hn : n < W64) : IntKind.u64.wrap x = (n : Int):=by
 subst h; exact IntWalk.u64_in _ ⟨by omega,by unfold W64 at hn; omega⟩
theorem nz_ne {l : List Nat} (h : l ≠ []) : nz l = na (valD l):=by
 cases l with
 | nil=>exact absurd rfl h
 | cons c l=>rfl
theorem n_MulAdd' (p : List Nat) {x y : Nat} (ha : ln (valD p) ≤ 100000000) (hx : x < W64) (hy : y < W64) : Pc Tryz.prog 193 [nz p,.raw (.int .u64 x),.raw (.int .u64 y)] (· = na (valD p * x + y)):=
 (n_MulAdd ha hx hy).sub ⟨nz_sub p,Sub.refl _,Sub.refl _,trivial⟩
theorem c_Parse {l : List Nat} (h : l.all digB = true) (h1 : 1 ≤ l.length) (h2 : l.length ≤ 36) (h0 : 1 < l.length → l.headD 0 ≠ 48) : Pc Tryz.prog 165 [ts l] (· = .tup [na (valD l),.raw (.bool true)]):=by
 refine pc Tryz.func165 ?_
 refine ce (c_is h h1 (by omega) h0) rfl ?_
 refine iff_ rfl rfl ?_
 refine lpt2 (fun p r=>l = p ++ r ∧ (p ≠ [] → r.length % 18 = 0)) (fun p r=>[(0,.im (ts r)),(4,.im (nz p))]) (fun _ _=>[]) (fun p r=>r.length) [] l ⟨rfl,fun h=>absurd rfl h⟩ (tsr rfl) rfl ?_
 rintro p r t ⟨rfl,hp⟩
 rw [List.all_append,Bool.and_eq_true] at h
 have hb:=byt_dig h.2
 have hs:=tx_size r
 rw [List.length_append] at h2
 refine ifs rfl (fun h3=>?_) (fun h3=>?_)
 ·have h3:=of_decide_eq_true h3
  have hr : 0 < r.length:=by omega
  have e1 : IntKind.i64.wrap ((IntKind.i64.wrap (((tx r).size : Int) - 1)).tmod 18 + 1) = (((r.length - 1) % 18 + 1 : Nat) : Int):=by
   have w1 : IntKind.i64.wrap ((r.length : Int) - 1) = ((r.length - 1 : Nat) : Int):=i64n (by omega) (by omega)
   rw [hs,w1,show ((r.length - 1 : Nat) : Int).tmod 18 = (((r.length - 1) % 18 : Nat) : Int) from rfl]
   exact i64n (by omega) (by omega)
  obtain ⟨n,hn⟩ : ∃ n,n = (r.length - 1) % 18 + 1:=⟨_,rfl⟩
  rw [← hn] at e1
  have hn18 : n ≤ 18:=by omega
  have hnr : n ≤ r.length:=by omega
  refine ⟨by decide,?_⟩
  refine lpt (fun i : Nat=>i ≤ n) (fun i=>[(0,.im (ts r)),(4,.im (nz p)),(5,ri .i64 n),(6,.im (uw (valD (r.take i)))),(19,ri .i64 n),(20,ri .i64 i)]) (fun _=>[]) (fun i=>n - i) 0 (Nat.zero_le _)
   ⟨rfl,rfl,congrArg (ri .i64) e1,rfl,congrArg (ri .i64) e1,rfl,trivial⟩ rfl ?_
  intro i t hi
  refine ifs rfl (fun h4=>?_) (fun h4=>?_)
  ·have h4:=of_decide_eq_true h4
   obtain ⟨c,hc⟩ : ∃ c,r[i]? = some c:=⟨_,List.getElem?_eq_getElem (by omega)⟩
   obtain ⟨c1,c2⟩:=byt_all h.2 hc
   have ht : (r.take i).all digB = true:=List.all_eq_true.2 fun x hx=>List.all_eq_true.1 h.2 x (List.mem_of_mem_take hx)
   have hv:=valD_lt ht
   have hp18 : valD (r.take i) < 10 ^ 17:=Nat.lt_of_lt_of_le hv (Nat.pow_le_pow_right (by decide) (by rw [List.length_take]; omega))
   have e2 : IntKind.u64.wrap (IntKind.u64.wrap (10 * (valD (r.take i) : Int)) + IntKind.u64.wrap (IntKind.u8.wrap ((c : Int) - 48))) = ((valD (r.take (i + 1)) : Nat) : Int):=by
    have e3 : IntKind.u8.wrap ((c : Int) - 48) = ((c - 48 : Nat) : Int):=by rw [IntWalk.u8_in _ ⟨by omega,by omega⟩]; omega
    have e4 : valD (r.take (i + 1)) = 10 * valD (r.take i) + (c - 48):=by
     rw [take_snoc' hc,valD_append]
     show valD (r.take i) * 10 + (10 * 0 + (c - 48)) = _
     omega
    have e5 : IntKind.u64.wrap (10 * (valD (r.take i) : Int)) = ((10 * valD (r.take i) : Nat) : Int):=u64s (by omega) (by unfold W64; omega)
    have e6 : IntKind.u64.wrap ((c - 48 : Nat) : Int) = ((c - 48 : Nat) : Int):=u64s rfl (by unfold W64; omega)
    rw [e3,e5,e6,e4]
    exact u64s (by omega) (by unfold W64; omega)
   refine ⟨⟨by omega,by rw [hs]; omega⟩,?_⟩
   refine fr (congrArg (fun z=>AV.im (.raw (.int .u8 z))) (bx hb (j:=(i : Int)) rfl hc)) ?_
   refine nx (i + 1) (by omega) ⟨by omega,⟨rfl,rfl,rfl,congrArg (fun z=>AV.im (.raw (.int .u64 z))) e2,rfl,congrArg (ri .i64) (IntWalk.i64_in _ (by omega)),trivial⟩,rfl⟩
  ·have h4 : i = n:=by have:=of_decide_eq_false h4; omega
   subst h4
   have ht : (r.take i).all digB = true:=List.all_eq_true.2 fun x hx=>List.all_eq_true.1 h.2 x (List.mem_of_mem_take hx)
   have hv:=valD_lt ht
   have hp18 : valD (r.take i) < 10 ^ 18:=Nat.lt_of_lt_of_le hv (Nat.pow_le_pow_right (by decide) (by rw [List.length_take]; omega))
   have hp36 : valD p < W64 ^ 2:=Nat.lt_of_lt_of_le (valD_lt h.1) (Nat.le_trans (Nat.pow_le_pow_right (by decide) (show p.length ≤ 36 by omega)) (by decide))
   refine ce (n_MulAdd' p (x:=1000000000000000000) (Nat.le_trans (ln_le hp36) (by decide)) (by decide) (show valD (r.take i) < W64 by unfold W64; omega)) rfl ?_
   refine ⟨⟨by omega,by rw [hs]; omega⟩,?_⟩
   have e5 : (tx r).extract ((i : Int).toNat) (tx r).size = tx (r.drop i):=by
    rw [tx_extract,hs,List.take_of_length_le (Nat.le_refl _),Int.toNat_natCast]
   refine fr (congrArg (fun b=>AV.im (.raw (.string b))) e5) ?_
   have hne : r.take i ≠ []:=by intro e; have:=congrArg List.length e; rw [List.length_take,List.length_nil] at this; omega
   have e6 : r.length - i = 18 * ((r.length - 1) / 18):=by clear e1 hp18 hp36; omega
   refine nx2 (p ++ r.take i) (r.drop i) (by rw [List.length_drop]; clear e1 hp18 hp36; omega) ⟨by rw [List.append_assoc,List.take_append_drop],fun _=>by rw [List.length_drop,e6,Nat.mul_mod_right]⟩ ⟨rfl,?_,trivial⟩ rfl
   refine congrArg AV.im ?_
   rw [nz_ne (fun e=>hne (List.append_eq_nil_iff.1 e).2),valD_append]
   show na (valD p * 1000000000000000000 + valD (r.take i)) = _
   by_cases hpe : p = []
   ·subst hpe; rw [show valD [] = 0 from rfl,Nat.zero_mul,Nat.zero_mul]
   ·have:=hp hpe
    rw [List.length_take,show min i r.length = 18 by omega]
 ·have h3:=of_decide_eq_false h3
  have hr : r = []:=List.length_eq_zero_iff.1 (by omega)
  subst hr
  cases p with
  | nil=>simp at h1
  | cons c p=>rw [List.append_nil]; exact rfl
theorem dgs_head (x : Nat) (h : x < 10 ^ 36) : 1 < (dgs x).length → (dgs x).headD 0 ≠ 48:=by
 intro hl
 have:=numB_dgs h
 simp only [numB,Bool.and_eq_true,Bool.not_eq_true',Bool.and_eq_false_iff] at this
 rcases this.1.2 with h | h
 ·exact absurd hl (of_decide_eq_false h)
 ·simpa using h
theorem dgs_cons {x : Nat} (h : x < 10 ^ 36) : ∃ c l,dgs x = c :: l ∧ 48 ≤ c ∧ c ≤ 57:=by
 have h1:=(dgs_len x (by omega)).1
 have h2:=dgs_all x
 cases hd : dgs x with
 | nil=>rw [hd] at h1; simp at h1
 | cons c l=>
  rw [hd] at h2
  exact ⟨c,l,rfl,byt_all h2 (j:=0) rfl⟩
theorem z_Parse {x : Nat} (hx : x < W64) : Pc Tryz.prog 128 [ts (dgs x)] (· = .tup [iz x,.raw (.bool true)]):=by
 have hx36:=Nat.lt_trans hx W64_lt
 obtain ⟨h1,h2⟩:=dgs_len x (by omega)
 obtain ⟨c,l,hd,hc1,hc2⟩:=dgs_cons hx36
 have hp:=c_Parse (dgs_all x) h1 h2 (dgs_head x hx36)
 rw [valD_dgs hx36] at hp
 rw [hd] at hp ⊢
 refine pc Tryz.func128 ?_
 refine ce (l_CutPrefix_no l (by omega) (by omega)) rfl ?_
 refine ce hp rfl ?_
 iterate 2 refine gt rfl ?_
 iterate 3 refine gf rfl ?_
 refine gt rfl ?_
 refine tf rfl ?_
 refine tf rfl ?_
 refine iff_ rfl rfl ?_
 refine ce (z_From (Nat.le_trans (ln_word hx) (by decide))) rfl ?_
 exact rfl
theorem z_Small {z : Int} (h0 : -9223372036854775808 < z) (h1 : z < 9223372036854775808) : Pc Tryz.prog 301 [iz z] (· = .tup [.raw (.int .i64 z),.raw (.bool true)]):=by
 have hx : z.natAbs < W64:=by unfold W64; omega
 have hl : li z ≤ 1:=ln_word hx
 refine pc Tryz.func301 ?_
 refine ce (n_Word hx) rfl ?_
 refine ce (z_Sign (by omega)) rfl ?_
 refine iff_ rfl rfl ?_
 by_cases hn : z < 0
 ·have g : decide (sgnI z < 0) = true:=by rw [sgn_neg]; exact decide_eq_true hn
  iterate 2 refine gt g ?_
  refine tw g ?_
  refine iff_ rfl (decide_eq_false (by omega)) ?_
  have g2 : (!decide (sgnI z < 0)) = false:=by rw [g]; rfl
  iterate 2 refine gf g2 ?_
  refine tf g2 ?_
  refine iff_ rfl rfl ?_
  refine ift rfl g ?_
  refine congrArg (fun v=>IV.tup [.raw (.int .i64 v),.raw (.bool true)]) ?_
  show IntKind.i64.wrap (0 - IntKind.i64.wrap (z.natAbs : Int)) = z
  rw [IntWalk.i64_in (z.natAbs : Int) (by omega),IntWalk.i64_in _ (by omega)]; omega
 ·have g : decide (sgnI z < 0) = false:=by rw [sgn_neg]; exact decide_eq_false hn
  iterate 2 refine gf g ?_
  refine tf g ?_
  refine iff_ rfl rfl ?_
  have g2 : (!decide (sgnI z < 0)) = true:=by rw [g]; rfl
  iterate 2 refine gt g2 ?_
  refine tw g2 ?_
  refine iff_ rfl (decide_eq_false (by omega)) ?_
  refine iff_ rfl g ?_
  refine congrArg (fun v=>IV.tup [.raw (.int .i64 v),.raw (.bool true)]) ?_
  show IntKind.i64.wrap (z.natAbs : Int) = z
  rw [IntWalk.i64_in (z.natAbs : Int) (by omega)]; omega
def mc (k r c : Nat) (es : List (List IV)) : IV:=.agg [.raw (.int .i64 (r : Int)),.raw (.int .i64 (c : Int)),.sl es.length k es.flatten]
noncomputable def qc (q : Rat) : List IV:=zc q.num ++ zc q.den
noncomputable def qm (r c : Nat) (xs : List Rat) : IV:=mc 4 r c (xs.map qc)
noncomputable def zm (r c : Nat) (xs : List Int) : IV:=mc 2 r c (xs.map zc)
theorem flat_len {k : Nat} {es : List (List IV)} (hk : ∀ e ∈ es,e.length = k) : es.flatten.length = es.length * k:=by
 induction es with
 | nil=>simp
 | cons e es ih=>
  rw [List.flatten_cons,List.length_append,ih fun x hx=>hk x (List.mem_cons_of_mem _ hx),hk e (List.mem_cons_self ..),List.length_cons,Nat.add_mul]; omega
theorem flat_drop {k : Nat} {es : List (List IV)} (hk : ∀ e ∈ es,e.length = k) {i : Nat} {e : List IV} (h : es[i]? = some e) : es.flatten.drop (i * k) = e ++ (es.drop (i + 1)).flatten:=by
 induction es generalizing i with
 | nil=>simp at h
 | cons a es ih=>
  cases i with
  | zero=>simp at h; subst h; simp
  | succ i=>
   have ha:=hk a (List.mem_cons_self ..)
   rw [List.flatten_cons,Nat.add_mul,Nat.one_mul,Nat.add_comm (i * k) k,← List.drop_drop,← ha,List.drop_left,ha]
   exact ih (fun x hx=>hk x (List.mem_cons_of_mem _ hx)) (by simpa using h)
theorem gm {k o : Nat} {es : List (List IV)} (hk : ∀ e ∈ es,e.length = k) {p : Prop} (i : Nat) {e : List IV} {K : AV → Prop} (hp : p) (hx : es[i]? = some e) (ho : o = i * k) (h : ∀ l,K (.im (.ip (e ++ l)))) : Gn p (es.flatten.drop o) (fun l=>some (.im (.ip l))) K:=by
 subst ho
 exact ⟨hp,fun l e=>by rw [e,flat_drop hk hx]; exact h _⟩
theorem qc_len (xs : List Rat) : ∀ e ∈ xs.map qc,e.length = 4:=fun e he=>by obtain ⟨q,-,rfl⟩:=List.mem_map.1 he; rfl
theorem idx_lt {r c i k : Nat} (hi : i < r) (hk : k < c) : i * c + k < r * c:=by
 have : (i + 1) * c ≤ r * c:=Nat.mul_le_mul_right _ hi
 rw [Nat.add_mul,Nat.one_mul] at this; omega
theorem idx_w {r c i k : Nat} (hr : r ≤ 64) (hc : c ≤ 64) (hi : i < r) (hk : k < c) : IntKind.i64.wrap (IntKind.i64.wrap ((i : Int) * (c : Int)) + (k : Int)) = ((i * c + k : Nat) : Int):=by
 have h1 : i * c ≤ 64 * 64:=Nat.mul_le_mul (by omega) hc
 have h2 : IntKind.i64.wrap ((i : Int) * (c : Int)) = ((i * c : Nat) : Int):=i64n (by rw [Int.natCast_mul]) (by omega)
 rw [h2]; exact i64n (by omega) (by omega)
def tq {α : Type} (c : Nat) (T : Nat → Nat → α) (n : Nat) : List α:=(List.range n).map fun j=>T (j / c) (j % c)
theorem tq_len {α : Type} (c : Nat) (T : Nat → Nat → α) (n : Nat) : (tq c T n).length = n:=by simp [tq]
theorem tq_get {α : Type} {r c : Nat} (T : Nat → Nat → α) {i k : Nat} (hi : i < r) (hk : k < c) : (tq c T (r * c))[i * c + k]? = some (T i k):=by
 have:=idx_lt hi hk
 simp only [tq,List.getElem?_map,List.getElem?_range this,Option.map_some]
 rw [Nat.mul_comm i c,Nat.mul_add_div (by omega),Nat.div_eq_of_lt hk,Nat.mul_add_mod,Nat.mod_eq_of_lt hk]; rfl
theorem tq_succ {α : Type} {c : Nat} (T : Nat → Nat → α) (i : Nat) {k : Nat} (hk : k < c) : tq c T (i * c + k + 1) = tq c T (i * c + k) ++ [T i k]:=by
 simp only [tq,List.range_succ,List.map_append,List.map_cons,List.map_nil]
 rw [Nat.mul_comm i c,Nat.mul_add_div (by omega),Nat.div_eq_of_lt hk,Nat.mul_add_mod,Nat.mod_eq_of_lt hk]; rfl
theorem tq_congr {α : Type} {r c : Nat} {T U : Nat → Nat → α} (h : ∀ i k,i < r → k < c → T i k = U i k) : tq c T (r * c) = tq c U (r * c):=by
 refine List.map_congr_left fun j hj=>?_
 have hj:=List.mem_range.1 hj
 have hc : 0 < c:=by
  rcases Nat.eq_zero_or_pos c with e | e
  ·subst e; simp at hj
  ·exact e
 exact h _ _ (Nat.div_lt_of_lt_mul (by rw [Nat.mul_comm]; exact hj)) (Nat.mod_lt _ hc)
theorem tq_map {α β : Type} (g : α → β) (c : Nat) (T : Nat → Nat → α) (n : Nat) : (tq c T n).map g = tq c (fun i k=>g (T i k)) n:=by simp [tq]
theorem fzL_im {H : List AO} {p : Nat → Bool} {k : Nat} : ∀ l : List IV,fzL (fz H p k) (l.map .im) = some l
 | []=>rfl
 | x :: l=>by
  show (match fz H p k (.im x),fzL (fz H p k) (l.map .im) with
   | some y,some ys=>some (y :: ys)
   | _,_=>none) = _
  rw [fzL_im l]
  cases k <;> rfl
theorem fzL_app {g : AV → Option IV} : ∀ {a b : List AV} {x y : List IV},fzL g a = some x → fzL g b = some y → fzL g (a ++ b) = some (x ++ y)
 | [],b,x,y,h,k=>by cases h; exact k
 | c :: a,b,x,y,h,k=>by
  simp only [fzL] at h
  split at h
  ·rename_i u us h1 h2
   cases h
   show (match g c,fzL g (a ++ b) with
    | some y,some ys=>some (y :: ys)
    | _,_=>none) = _
   rw [h1,fzL_app h2 k]; rfl
  ·cases h
theorem fzL_fn {H : List AO} {p : Nat → Bool} {k : Nat} (a b : List IV) {l : List IV} {l' : List AV} (h : fzL (fz H p k) l' = some l) : fzL (fz H p k) (a.map .im ++ l' ++ b.map .im) = some (a ++ l ++ b):=
 fzL_app (fzL_app (fzL_im a) h) (fzL_im b)
theorem q_zero : Pc Tryz.prog 49 [] (· = iq 0):=by
 refine pc Tryz.func49 ?_
 refine ce r_Of0 rfl ?_
 exact rfl
theorem q_made {r c f : Nat} {a b : List IV} {T : Nat → Nat → Rat} (hr : r ≤ 64) (hc : c ≤ 64) (hf : ∀ i k,i < r → k < c → Pc Tryz.prog f (a ++ [.raw (.int .i64 (i : Int)),.raw (.int .i64 (k : Int))] ++ b) (· = iq (T i k)))
  (hl : ∀ i k,i < r → k < c → lr (T i k) ≤ 10000) : Pc Tryz.prog 31 [.raw (.int .i64 (r : Int)),.raw (.int .i64 (c : Int)),.fn f a b] (· = qm r c (tq c T (r * c))):=by
 have l0 : lr 0 ≤ 20000:=by rw [show (0 : Rat) = ((0 : Int) : Rat) from rfl,lr_int,ln_one]; have:=li0; omega
 refine pc Tryz.func31 ?_
 refine lfb 1 2 49 4 rfl rfl ?_
 refine lpt (fun i : Nat=>i ≤ r) (fun i=>[(0,ri .i64 r),(1,ri .i64 c),(2,.im (.fn f a b)),(6,.ref 0 0),(7,.ref 1 0),(13,ri .i64 r),(14,ri .i64 i)])
  (fun i=>[.box 40 [ri .i64 0,ri .i64 0,nilA],.box 40 [ri .i64 r,ri .i64 c,.own 2],.row 49 4 (i * c) ((tq c T (i * c)).map qc).flatten]) (fun i=>r - i) 0 (Nat.zero_le _) (tsr rfl) ?_ ?_
 ·rw [Nat.zero_mul]; exact rfl
 intro i t hi
 refine ifs rfl (fun h=>?_) (fun h=>?_)
 ·have h:=of_decide_eq_true h
  have hi : i < r:=by omega
  refine lpt (fun k : Nat=>k ≤ c) (fun k=>[(0,ri .i64 r),(1,ri .i64 c),(2,.im (.fn f a b)),(6,.ref 0 0),(7,.ref 1 0),(8,ri .i64 i),(13,ri .i64 r),(14,ri .i64 i),(17,ri .i64 c),(18,ri .i64 k)])
   (fun k=>[.box 40 [ri .i64 0,ri .i64 0,nilA],.box 40 [ri .i64 r,ri .i64 c,.own 2],.row 49 4 (i * c + k) ((tq c T (i * c + k)).map qc).flatten]) (fun k=>c - k) 0 (Nat.zero_le _) (tsr rfl) rfl ?_
  intro k t hk
  refine ifs rfl (fun h2=>?_) (fun h2=>?_)
  ·have h2:=of_decide_eq_true h2
   have hk : k < c:=by omega
   have hn:=idx_lt hi hk
   have hrc : r * c ≤ 64 * 64:=Nat.mul_le_mul hr hc
   refine rq [0,1,2,3,4,5,6,7,8,9,10,11] ?_
   refine ce (hf i k hi hk) (fzL_fn a b (l:=[.raw (.int .i64 (i : Int)),.raw (.int .i64 (k : Int))]) rfl) ?_
   refine ce q_zero rfl ?_
   refine ce (r_Add (Nat.le_trans (hl i k hi hk) (by decide)) l0) rfl ?_
   rw [Rat.add_zero]
   refine ⟨⟨?_,?_⟩,?_⟩
   ·show (i * c + k + 1) * 64 ≤ _; omega
   ·show i * c + k + 1 ≤ _; omega
   refine nxg [0,1,2] (k + 1) (by omega) rfl ⟨by omega,⟨rfl,rfl,rfl,rfl,rfl,rfl,rfl,rfl,rfl,congrArg (ri .i64) (IntWalk.i64_in _ (by omega)),trivial⟩,?_⟩
   have e : ((tq c T (i * c + k + 1)).map qc).flatten = ((tq c T (i * c + k)).map qc).flatten ++ qc (T i k):=by
    rw [tq_succ T i hk,List.map_append,List.flatten_append]; simp
   refine Eq.trans ?_ (congrArg (fun l=>[AO.box 40 [ri .i64 0,ri .i64 0,nilA],.box 40 [ri .i64 r,ri .i64 c,.own 2],.row 49 4 (i * c + k + 1) l]) e.symm)
   exact rfl
  ·have h2:=of_decide_eq_false h2
   obtain rfl : k = c:=by omega
   have e : i * k + k = (i + 1) * k:=by rw [Nat.add_mul,Nat.one_mul]
   rw [e]
   refine nx (i + 1) (by omega) ⟨by omega,⟨rfl,rfl,rfl,rfl,rfl,rfl,congrArg (ri .i64) (IntWalk.i64_in _ (by omega)),trivial⟩,rfl⟩
 ·have h:=of_decide_eq_false h
  obtain rfl : i = r:=by omega
  have e : ((tq c T (i * c)).map qc).length = i * c:=by rw [List.length_map,tq_len]
  unfold qm mc
  rw [e]
  exact rfl
noncomputable def qM (r c : Nat) (A : Nat → Nat → Rat) : IV:=qm r c (tq c A (r * c))
noncomputable def zM (r c : Nat) (A : Nat → Nat → Int) : IV:=zm r c (tq c A (r * c))
def zn (e : Bool × List Nat) : List IV:=[.raw (.bool e.1),nt e.2]
def zv (e : Bool × List Nat) : Int:=zsg e.1 (nv W64 e.2)
theorem zn_len (es : List (Bool × List Nat)) : ∀ e ∈ es.map zn,e.length = 2:=fun e he=>by obtain ⟨q,-,rfl⟩:=List.mem_map.1 he; rfl
theorem mul_w {r c : Nat} (hr : r ≤ 64) (hc : c ≤ 64) : IntKind.i64.wrap ((r : Int) * (c : Int)) = ((r * c : Nat) : Int):=by
 have : r * c ≤ 64 * 64:=Nat.mul_le_mul hr hc
 exact i64n (by rw [Int.natCast_mul]) (by omega)
theorem z_side {n : Nat} (h : n ≤ 64) : Pc Tryz.prog 47 [.raw (.int .i64 (n : Int))] (· = .raw (.bool true)):=by
 refine pc Tryz.func47 ?_
 have g : decide ((n : Int) ≥ 0) = true:=decide_eq_true (by omega)
 iterate 2 refine gt g ?_
 refine tw g ?_
 exact congrArg (fun b=>IV.raw (.bool b)) (decide_eq_true (by omega))
theorem z_Formed {r c : Nat} {es : List (List IV)} (hr : r ≤ 64) (hc : c ≤ 64) (hl : es.length = r * c) : Pc Tryz.prog 29 [mc 2 r c es] (· = .raw (.bool true)):=by
 refine pc Tryz.func29 ?_
 refine ce (z_side hr) rfl ?_
 iterate 2 refine gt rfl ?_
 refine gt rfl ?_
 refine ce (z_side hc) rfl ?_
 refine tw rfl ?_
 iterate 9 refine gt rfl ?_
 refine tw rfl ?_
 refine congrArg (fun b=>IV.raw (.bool b)) ?_
 show ((es.length : Int) == IntKind.i64.wrap ((r : Int) * (c : Int))) = true
 rw [mul_w hr hc,hl]; simp
theorem q_Formed {r c : Nat} {es : List (List IV)} (hr : r ≤ 64) (hc : c ≤ 64) (hl : es.length = r * c) : Pc Tryz.prog 22 [mc 4 r c es] (· = .raw (.bool true)):=by
 refine pc Tryz.func22 ?_
 have g1 : decide ((r : Int) ≥ 0) = true:=decide_eq_true (by omega)
 have g2 : decide ((r : Int) ≤ 64) = true:=decide_eq_true (by omega)
 have g3 : decide ((c : Int) ≥ 0) = true:=decide_eq_true (by omega)
 have g4 : decide ((c : Int) ≤ 64) = true:=decide_eq_true (by omega)
 iterate 3 refine gt g1 ?_
 refine tw g1 ?_
 iterate 3 refine gt g2 ?_
 refine tw g2 ?_
 iterate 3 refine gt g3 ?_
 refine tw g3 ?_
 iterate 9 refine gt g4 ?_
 refine tw g4 ?_
 refine congrArg (fun b=>IV.raw (.bool b)) ?_
 show ((es.length : Int) == IntKind.i64.wrap ((r : Int) * (c : Int))) = true
 rw [mul_w hr hc,hl]; simp
theorem qM_Formed {r c : Nat} {A : Nat → Nat → Rat} (hr : r ≤ 64) (hc : c ≤ 64) : Pc Tryz.prog 22 [qM r c A] (· = .raw (.bool true)):=q_Formed hr hc (by rw [List.length_map,tq_len])
theorem qM_len (r c : Nat) (A : Nat → Nat → Rat) : ((tq c A (r * c)).map qc).length = r * c:=by rw [List.length_map,tq_len]
theorem q_get {r c i k : Nat} {A : Nat → Nat → Rat} (hr : r ≤ 64) (hc : c ≤ 64) (hi : i < r) (hk : k < c) : Pc Tryz.prog 302 [qM r c A,.raw (.int .i64 (i : Int)),.raw (.int .i64 (k : Int))] (· = iq (A i k)):=by
 have hw:=idx_w hr hc hi hk
 have hx : ((tq c A (r * c)).map qc)[i * c + k]? = some (qc (A i k)):=by rw [List.getElem?_map,tq_get A hi hk]; rfl
 have hlt:=idx_lt hi hk
 refine pc Tryz.func302 ?_
 refine gm (qc_len _) (i * c + k) ⟨by rw [hw]; omega,by rw [hw,qM_len]; omega⟩ hx (by rw [hw,Int.toNat_natCast]) fun l=>?_
 exact rfl
theorem z_get {r c i k : Nat} {es : List (Bool × List Nat)} {e : Bool × List Nat} (hr : r ≤ 64) (hc : c ≤ 64) (hi : i < r) (hk : k < c) (hl : es.length = r * c) (he : es[i * c + k]? = some e) : Pc Tryz.prog 51 [mc 2 r c (es.map zn),.raw (.int .i64 (i : Int)),.raw (.int .i64 (k : Int))] (· = .agg (zn e)):=by
 have hw:=idx_w hr hc hi hk
 have hx : (es.map zn)[i * c + k]? = some (zn e):=by rw [List.getElem?_map,he]; rfl
 have hlt:=idx_lt hi hk
 refine pc Tryz.func51 ?_
 refine gm (zn_len _) (i * c + k) ⟨by rw [hw]; omega,by rw [hw,List.length_map,hl]; omega⟩ hx (by rw [hw,Int.toNat_natCast]) fun l=>?_
 exact rfl
theorem z_has {k r c i : Nat} {es : List (List IV)} (hi : i < r) : Pc Tryz.prog 50 [mc k r c es,.raw (.int .i64 (i : Int))] (· = .raw (.bool true)):=by
 refine pc Tryz.func50 ?_
 have g : decide ((i : Int) ≥ 0) = true:=decide_eq_true (by omega)
 iterate 4 refine gt g ?_
 refine tw g ?_
 exact congrArg (fun b=>IV.raw (.bool b)) (decide_eq_true (by omega))
theorem z_At {r c i k : Nat} {es : List (Bool × List Nat)} {e : Bool × List Nat} (hr : r ≤ 64) (hc : c ≤ 64) (hi : i < r) (hk : k < c) (hl : es.length = r * c) (he : es[i * c + k]? = some e) (hw : wf W64 e.2) (hm : e.2.length ≤ 1000000000) :
  Pc Tryz.prog 33 [mc 2 r c (es.map zn),.raw (.int .i64 (i : Int)),.raw (.int .i64 (k : Int))] (· = iz (zv e)):=by
 refine pc Tryz.func33 ?_
 refine ce (z_Formed hr hc (by rw [List.length_map]; exact hl)) rfl ?_
 iterate 2 refine gt rfl ?_
 refine gt rfl ?_
 refine ce (z_has hi) rfl ?_
 refine gt rfl ?_
 refine tf rfl ?_
 have g1 : decide ((k : Int) < 0) = false:=decide_eq_false (by omega)
 have g2 : decide ((k : Int) ≥ (c : Int)) = false:=decide_eq_false (by omega)
 iterate 2 refine gt rfl ?_
 refine tf rfl ?_
 iterate 4 refine gt g1 ?_
 refine tf g1 ?_
 refine iff_ rfl g2 ?_
 refine ce (z_get hr hc hi hk hl he) rfl ?_
 refine ce (z_From0 hm hw) rfl ?_
 exact rfl
theorem lr_i (z : Int) (h : li z ≤ 1) : lr (z : Rat) ≤ 1:=by rw [lr_int,ln_one]; omega
def LB (L r c : Nat) (A : Nat → Nat → Rat) : Prop:=∀ i k,i < r → k < c → lr (A i k) ≤ L
theorem LB.mono {L L' r c : Nat} {A : Nat → Nat → Rat} (h : LB L r c A) (hl : L ≤ L') : LB L' r c A:=fun i k hi hk=>Nat.le_trans (h i k hi hk) hl
theorem lr_zero : lr 0 ≤ 1:=by rw [show (0 : Rat) = ((0 : Int) : Rat) from rfl,lr_int,ln_one]; have:=li0; omega
theorem lr_one : lr 1 ≤ 1:=by rw [show (1 : Rat) = ((1 : Int) : Rat) from rfl,lr_int,ln_one]; have:=li1; omega
theorem lr_sm {B : Nat} : ∀ (n : Nat) (f : Nat → Rat),(∀ i,i < n → lr (f i) ≤ B) → lr (sm n f) ≤ n * (B + 1) + 1
 | 0,f,_=>Nat.le_trans lr_zero (by omega)
 | n + 1,f,h=>by
  have h1:=lr_sm n f fun i hi=>h i (by omega)
  have h2:=h n (by omega)
  have h3:=lr_add (sm n f) (f n)
  show lr (sm n f + f n) ≤ _
  rw [Nat.add_mul,Nat.one_mul]; omega
section
variable {r c m : Nat} {A B : Nat → Nat → Rat}
abbrev ii (n : Nat) : IV:=.raw (.int .i64 (n : Int))
noncomputable def qP (r c : Nat) (A : Nat → Nat → Rat) : List IV:=[ii r,ii c,.sl ((tq c A (r * c)).map qc).length 4 ((tq c A (r * c)).map qc).flatten]
theorem q_Add1 (hr : r ≤ 64) (hc : c ≤ 64) (ha : LB 10000 r c A) (hb : LB 10000 r c B) (i k : Nat) (hi : i < r) (hk : k < c) :
  Pc Tryz.prog 433 [ii i,ii k,.ip (qP r c A),.ip (qP r c B)] (· = iq (A i k + B i k)):=by
 refine pc Tryz.func433 ?_
 refine rq [0,1,2,4,5,6,3,7,8,9] ?_
 refine ce (q_get (A:=A) hr hc hi hk) rfl ?_
 refine ce (q_get (A:=B) hr hc hi hk) rfl ?_
 refine ce (r_Add (Nat.le_trans (ha i k hi hk) (by decide)) (Nat.le_trans (hb i k hi hk) (by decide))) rfl ?_
 exact rfl
theorem q_alike (hr : r ≤ 64) (hc : c ≤ 64) : Pc Tryz.prog 419 [qM r c A,qM r c B] (· = .raw (.bool true)):=by
 refine pc Tryz.func419 ?_
 refine ce (qM_Formed hr hc) rfl ?_
 refine gt rfl ?_
 refine gt rfl ?_
 refine ce (qM_Formed hr hc) rfl ?_
 refine tw rfl ?_
 iterate 5 refine gt rfl ?_
 refine tw rfl ?_
 have g : ((r : Int) == (r : Int)) = true:=beq_self_eq_true _
 iterate 5 refine gt g ?_
 refine tw g ?_
 exact congrArg (fun b=>IV.raw (.bool b)) (beq_self_eq_true _)
theorem q_Add (hr : r ≤ 64) (hc : c ≤ 64) (ha : LB 4000 r c A) (hb : LB 4000 r c B) :
  Pc Tryz.prog 319 [qM r c A,qM r c B] (· = .tup [qM r c fun i k=>A i k + B i k,.raw (.int .i64 0)]):=by
 refine pc Tryz.func319 ?_
 refine ce (q_alike hr hc) rfl ?_
 refine iff_ rfl rfl ?_
 refine clk [0,1] (q_made (a:=[]) hr hc (q_Add1 hr hc (ha.mono (by decide)) (hb.mono (by decide))) fun i k hi hk=>?_) rfl rfl ?_
 ·have:=lr_add (A i k) (B i k); have:=ha i k hi hk; have:=hb i k hi hk; omega
 rintro _ rfl
 exact rfl
theorem q_Scale1 {x : Rat} (hr : r ≤ 64) (hc : c ≤ 64) (ha : LB 10000 r c A) (hx : lr x ≤ 10000) (i k : Nat) (hi : i < r) (hk : k < c) :
  Pc Tryz.prog 331 [ii i,ii k,.ip (qP r c A),.ip (qc x)] (· = iq (A i k * x)):=by
 refine pc Tryz.func331 ?_
 refine rq [0,1,2,4,3,5,6] ?_
 refine ce (q_get (A:=A) hr hc hi hk) rfl ?_
 refine ce (r_Mul (b:=x) (Nat.le_trans (ha i k hi hk) (by decide)) (Nat.le_trans hx (by decide))) rfl ?_
 exact rfl
theorem q_Scale {x : Rat} (hr : r ≤ 64) (hc : c ≤ 64) (ha : LB 4000 r c A) (hx : lr x ≤ 4000) :
  Pc Tryz.prog 235 [qM r c A,iq x] (· = .tup [qM r c fun i k=>A i k * x,.raw (.int .i64 0)]):=by
 refine pc Tryz.func235 ?_
 refine ce (qM_Formed hr hc) rfl ?_
 refine iff_ rfl rfl ?_
 refine clk [0,1] (q_made (a:=[]) hr hc (q_Scale1 hr hc (ha.mono (by decide)) (Nat.le_trans hx (by decide))) fun i k hi hk=>?_) rfl rfl ?_
 ·have:=lr_mul (A i k) x; have:=ha i k hi hk; omega
 rintro _ rfl
 exact rfl
theorem q_Tr1 (hr : r ≤ 64) (hc : c ≤ 64) (i k : Nat) (hi : i < c) (hk : k < r) :
  Pc Tryz.prog 377 [ii i,ii k,.ip (qP r c A)] (· = iq (A k i)):=by
 refine pc Tryz.func377 ?_
 refine ce (q_get (A:=A) hr hc hk hi) rfl ?_
 exact rfl
theorem q_Transpose (hr : r ≤ 64) (hc : c ≤ 64) (ha : LB 4000 r c A) :
  Pc Tryz.prog 269 [qM r c A] (· = .tup [qM c r fun i k=>A k i,.raw (.int .i64 0)]):=by
 refine pc Tryz.func269 ?_
 refine ce (qM_Formed hr hc) rfl ?_
 refine iff_ rfl rfl ?_
 refine clk [0] (q_made (a:=[]) hc hr (q_Tr1 hr hc) fun i k hi hk=>Nat.le_trans (ha k i hk hi) (by decide)) rfl rfl ?_
 rintro _ rfl
 exact rfl
theorem q_Mul1 (hr : r ≤ 64) (hm : m ≤ 64) (hc : c ≤ 64) {A B : Nat → Nat → Rat} (ha : LB 60 r m A) (hb : LB 60 m c B) (i k : Nat) (hi : i < r) (hk : k < c) :
  Pc Tryz.prog 502 [ii i,ii k,.ip (qP r m A),.ip (qP m c B)] (· = iq (mm m A B i k)):=by
 have hf : ∀ j,j < m → lr (A i j * B j k) ≤ 120:=fun j hj=>by have:=lr_mul (A i j) (B j k); have:=ha i j hi hj; have:=hb j k hj hk; omega
 refine pc Tryz.func502 ?_
 refine ce q_zero rfl ?_
 refine lpt (fun j : Nat=>j ≤ m) (fun j=>[(0,ri .i64 i),(1,ri .i64 k),(2,.im (.ip (qP r m A))),(3,.im (.ip (qP m c B))),(6,.ref 0 0),(7,.ref 1 0),(11,ri .i64 m),(12,ri .i64 j)])
  (fun j=>[.box 49 [.im (.raw (.bool false)),nilA,.im (.raw (.bool false)),nilA],.box 49 ((qc (sm j fun j=>A i j * B j k)).map .im)]) (fun j=>m - j) 0 (Nat.zero_le _) (tsr rfl) rfl ?_
 intro j t hj
 refine ifs rfl (fun h=>?_) (fun h=>?_)
 ·have h:=of_decide_eq_true h
  have hj : j < m:=by omega
  have h1:=lr_sm j (fun j=>A i j * B j k) fun s hs=>hf s (by omega)
  have h2 : j * (120 + 1) ≤ 64 * 121:=Nat.mul_le_mul (by omega) (by decide)
  refine rq [0,1,2,3,5,6,7,4,8,9,10,11] ?_
  refine ce (q_get (A:=A) hr hm hi hj) rfl ?_
  refine ce (q_get (A:=B) hm hc hj hk) rfl ?_
  refine ce (r_Mul (Nat.le_trans (ha i j hi hj) (by decide)) (Nat.le_trans (hb j k hj hk) (by decide))) rfl ?_
  refine ce (r_Add (a:=sm j fun j=>A i j * B j k) (Nat.le_trans h1 (by omega)) (Nat.le_trans (hf j hj) (by decide))) rfl ?_
  refine nx (j + 1) (by omega) ⟨by omega,⟨rfl,rfl,rfl,rfl,rfl,rfl,rfl,congrArg (ri .i64) (IntWalk.i64_in _ (by omega)),trivial⟩,rfl⟩
 ·have h:=of_decide_eq_false h
  obtain rfl : j = m:=by omega
  exact rfl
theorem q_Mul (hr : r ≤ 64) (hm : m ≤ 64) (hc : c ≤ 64) {A B : Nat → Nat → Rat} (ha : LB 60 r m A) (hb : LB 60 m c B) :
  Pc Tryz.prog 426 [qM r m A,qM m c B] (· = .tup [qM r c (mm m A B),.raw (.int .i64 0)]):=by
 refine pc Tryz.func426 ?_
 refine ce (qM_Formed hr hm) rfl ?_
 iterate 2 refine gt rfl ?_
 refine ce (qM_Formed hm hc) rfl ?_
 refine gt rfl ?_
 refine tf rfl ?_
 iterate 5 refine gt rfl ?_
 refine tf rfl ?_
 refine iff_ rfl (by simp) ?_
 refine clk [0,1] (q_made (a:=[]) hr hc (q_Mul1 hr hm hc ha hb) fun i k hi hk=>?_) rfl rfl ?_
 ·have:=lr_sm m (fun j=>A i j * B j k) (B:=120) fun j hj=>by have:=lr_mul (A i j) (B j k); have:=ha i j hi hj; have:=hb j k hj hk; omega
  have h2 : m * (120 + 1) ≤ 64 * 121:=Nat.mul_le_mul hm (by decide)
  refine Nat.le_trans this (by omega)
 rintro _ rfl
 exact rfl
theorem q_At (hr : r ≤ 64) (hc : c ≤ 64) (ha : LB 10000 r c A) {i k : Nat} (hi : i < r) (hk : k < c) : Pc Tryz.prog 206 [qM r c A,ii i,ii k] (· = iq (A i k)):=by
 refine pc Tryz.func206 ?_
 have g1 : decide ((i : Int) < 0) = false:=decide_eq_false (by omega)
 have g2 : decide ((i : Int) ≥ (r : Int)) = false:=decide_eq_false (by omega)
 have g3 : decide ((k : Int) < 0) = false:=decide_eq_false (by omega)
 have g4 : decide ((k : Int) ≥ (c : Int)) = false:=decide_eq_false (by omega)
 refine ce (qM_Formed hr hc) rfl ?_
 iterate 2 refine gt rfl ?_
 refine tf rfl ?_
 iterate 4 refine gt g1 ?_
 refine tf g1 ?_
 iterate 2 refine gt g2 ?_
 refine tf g2 ?_
 iterate 4 refine gt g3 ?_
 refine tf g3 ?_
 refine iff_ rfl g4 ?_
 refine ce (q_get hr hc hi hk) rfl ?_
 refine ce q_zero rfl ?_
 refine ce (r_Add (Nat.le_trans (ha i k hi hk) (by decide)) (Nat.le_trans lr_zero (by decide))) rfl ?_
 rw [Rat.add_zero]
 exact rfl
end
noncomputable def qS (xs : List Rat) : IV:=.sl (xs.map qc).length 4 (xs.map qc).flatten
theorem q_at {xs : List Rat} {j : Nat} {x : Rat} (h : xs[j]? = some x) : (xs.map qc)[j]? = some (qc x):=by rw [List.getElem?_map,h]; rfl
theorem q_EqualFunc {f : Nat} {a b : List IV} {xs : List Rat} (hl : xs.length ≤ 1000000) (hf : ∀ x ∈ xs,Pc Tryz.prog f (a ++ [iq x,iq x] ++ b) (· = .raw (.bool true))) :
  Pc Tryz.prog 420 [qS xs,qS xs,.fn f a b] (· = .raw (.bool true)):=by
 have hlen : (xs.map qc).length = xs.length:=List.length_map ..
 refine pc Tryz.func420 ?_
 refine iff_ rfl (by simp) ?_
 refine lpt (fun j : Nat=>j ≤ xs.length) (fun j=>[(0,.im (qS xs)),(1,.im (qS xs)),(2,.im (.fn f a b)),(15,.im (qS xs)),(16,ri .i64 (xs.map qc).length),(17,ri .i64 j)]) (fun j=>[]) (fun j=>xs.length - j) 0 (Nat.zero_le _) (tsr rfl) rfl ?_
 intro j t hj
 refine ifs rfl (fun h=>?_) (fun h=>?_)
 ·have h:=of_decide_eq_true h
  obtain ⟨x,hx⟩ : ∃ x,xs[j]? = some x:=⟨_,List.getElem?_eq_getElem (by omega)⟩
  refine gm (qc_len _) j ⟨by omega,by omega⟩ (q_at hx) (by rw [Int.toNat_natCast]) fun l=>?_
  refine gm (qc_len _) j ⟨by omega,by omega⟩ (q_at hx) (by rw [Int.toNat_natCast]) fun l=>?_
  refine ce (hf x (List.mem_of_getElem? hx)) (fzL_fn a b (l:=[iq x,iq x]) rfl) ?_
  refine iff_ rfl rfl ?_
  refine nxg [] (j + 1) (by omega) rfl ⟨by omega,⟨rfl,rfl,rfl,rfl,rfl,congrArg (ri .i64) (IntWalk.i64_in _ (by omega)),trivial⟩,rfl⟩
 ·exact rfl
theorem q_IndexFunc {f : Nat} {a b : List IV} {xs : List Rat} (hl : xs.length ≤ 1000000) (hf : ∀ x ∈ xs,Pc Tryz.prog f (a ++ [iq x] ++ b) (· = .raw (.bool false))) :
  Pc Tryz.prog 142 [qS xs,.fn f a b] (· = .raw (.int .i64 (-1))):=by
 have hlen : (xs.map qc).length = xs.length:=List.length_map ..
 refine pc Tryz.func142 ?_
 refine lpt (fun j : Nat=>j ≤ xs.length) (fun j=>[(0,.im (qS xs)),(1,.im (.fn f a b)),(7,ri .i64 (xs.map qc).length),(8,ri .i64 j)]) (fun j=>[]) (fun j=>xs.length - j) 0 (Nat.zero_le _) (tsr rfl) rfl ?_
 intro j t hj
 refine ifs rfl (fun h=>?_) (fun h=>?_)
 ·have h:=of_decide_eq_true h
  obtain ⟨x,hx⟩ : ∃ x,xs[j]? = some x:=⟨_,List.getElem?_eq_getElem (by omega)⟩
  refine gm (qc_len _) j ⟨by omega,by omega⟩ (q_at hx) (by rw [Int.toNat_natCast]) fun l=>?_
  refine ce (hf x (List.mem_of_getElem? hx)) (fzL_fn a b (l:=[iq x]) rfl) ?_
  refine iff_ rfl rfl ?_
  refine nx (j + 1) (by omega) ⟨by omega,⟨rfl,rfl,rfl,congrArg (ri .i64) (IntWalk.i64_in _ (by omega)),trivial⟩,rfl⟩
 ·exact rfl
theorem q_ContainsFunc {f : Nat} {a b : List IV} {xs : List Rat} (hl : xs.length ≤ 1000000) (hf : ∀ x ∈ xs,Pc Tryz.prog f (a ++ [iq x] ++ b) (· = .raw (.bool false))) :
  Pc Tryz.prog 93 [qS xs,.fn f a b] (· = .raw (.bool false)):=by
 refine pc Tryz.func93 ?_
 refine ce (q_IndexFunc hl hf) rfl ?_
 exact rfl
theorem mem_tq {α : Type} {r c : Nat} {T : Nat → Nat → α} {x : α} (h : x ∈ tq c T (r * c)) : ∃ i k,i < r ∧ k < c ∧ T i k = x:=by
 simp only [tq,List.mem_map,List.mem_range] at h
 obtain ⟨j,hj,rfl⟩:=h
 have hc : 0 < c:=by
  rcases Nat.eq_zero_or_pos c with e | e
  ·subst e; simp at hj
  ·exact e
 exact ⟨_,_,Nat.div_lt_of_lt_mul (by rw [Nat.mul_comm]; exact hj),Nat.mod_lt _ hc,rfl⟩
theorem q_Same {r c : Nat} {A : Nat → Nat → Rat} (hr : r ≤ 64) (hc : c ≤ 64) (ha : LB 10000 r c A) : Pc Tryz.prog 307 [qM r c A,qM r c A] (· = .raw (.bool true)):=by
 have hrc : r * c ≤ 64 * 64:=Nat.mul_le_mul hr hc
 have h1 : ∀ x ∈ tq c A (r * c),Pc Tryz.prog 421 [iq x,iq x] (· = .raw (.bool true)):=fun x hx=>by
  obtain ⟨i,k,hi,hk,rfl⟩:=mem_tq hx
  have:=ha i k hi hk
  refine pc Tryz.func421 ?_
  refine ce (r_Cmp (by omega) (by omega)) rfl ?_
  rw [Rat.sub_self]
  exact rfl
 refine pc Tryz.func307 ?_
 refine ce (q_alike hr hc) rfl ?_
 iterate 4 refine gt rfl ?_
 refine gt rfl ?_
 refine ce (q_EqualFunc (a:=[]) (b:=[]) (xs:=tq c A (r * c)) (by rw [tq_len]; omega) h1) rfl ?_
 refine tw rfl ?_
 exact rfl
def qz (zs : List Int) : List Rat:=zs.map fun (z : Int)=>(z : Rat)
theorem d_Lcm1 : Pc Tryz.prog 469 [na 1,na 1] (· = na 1):=by
 have l1 : ln 1 ≤ 1:=Nat.le_of_eq ln_one
 have hb : bl 1 = 1:=(isBl_bl _).unique ⟨by decide,fun _=>by decide⟩
 refine pc Tryz.func469 ?_
 refine ce (d_Gcd (by omega) (by omega)) rfl ?_
 rw [Nat.gcd_self]
 refine ce (n_Bits (by omega)) rfl ?_
 have g : ((bl 1 : Int) == 0) = false:=by rw [hb]; rfl
 iterate 2 refine gt g ?_
 refine ce (n_Bits (by omega)) rfl ?_
 refine gt g ?_
 refine tf g ?_
 refine iff_ rfl g ?_
 refine ce (d_Exact (a:=1) (b:=1) (by decide) ⟨1,rfl⟩ (by omega) (by omega)) rfl ?_
 refine ce (n_Mul (a:=1 / 1) (b:=1) (by rw [Nat.div_self (by decide)]; omega) (by omega)) rfl ?_
 exact rfl
set_option maxHeartbeats 2000000 in
theorem q_Clear {r c : Nat} {A : Nat → Nat → Int} (hr : r ≤ 64) (hc : c ≤ 64) (ha : ∀ i k, i < r → k < c → li (A i k) ≤ 5000) :
    Pc Tryz.prog 378 [qM r c fun i k => ((A i k : Int) : Rat)] (· = .tup [zM r c A, iz 1, .raw (.int .i64 0)]) := by
  have hrc : r * c ≤ 64 * 64 := Nat.mul_le_mul hr hc
  have hlr : LB 10000 r c fun i k => ((A i k : Int) : Rat) := fun i k hi hk => by have := ha i k hi hk; rw [lr_int, ln_one]; omega
  obtain ⟨zs, hzs⟩ : ∃ zs, zs = tq c A (r * c) := ⟨_, rfl⟩
  have hzl : zs.length = r * c := by rw [hzs, tq_len]
  have hlz : ∀ z ∈ zs, li z ≤ 5000 := fun z hz => by rw [hzs] at hz; obtain ⟨i, k, hi, hk, rfl⟩ := mem_tq hz; exact ha i k hi hk
  have hmap : tq c (fun i k => ((A i k : Int) : Rat)) (r * c) = qz zs := by rw [hzs, qz, tq_map]
  have hL : ((qz zs).map qc).length = r * c := by simp [qz, hzl]
  refine pc Tryz.func378 ?_
  refine ce (qM_Formed hr hc) rfl ?_
  refine iff_ rfl rfl ?_
  refine ce (q_made (a := [qM r c fun i k => ((A i k : Int) : Rat)]) (b := []) (T := fun i k => ((A i k : Int) : Rat)) hr hc (fun i k hi hk => q_get hr hc hi hk) hlr) rfl ?_
  refine ce (z_Of (x := 1) (by decide) (by decide)) rfl ?_
  have hzM : zM r c A = .agg [.raw (.int .i64 r), .raw (.int .i64 c), .sl (r * c) 2 (zs.map zc).flatten] := by
    have : (zs.map zc).length = r * c := by rw [List.length_map, hzl]
    rw [← this]; unfold zM zm mc; rw [← hzs]
  rw [hzM]
  unfold qM qm mc
  rw [hmap]
  refine lpt (fun j : Nat => j ≤ r * c) (fun j => [(1, .ref 0 0), (2, .ref 1 0), (3, .ref 2 0), (5, .ref 3 0), (27, .im (qS (qz zs))), (28, ri .i64 ((qz zs).map qc).length), (29, ri .i64 j)])
    (fun j => [.box 40 [ri .i64 r, ri .i64 c, .im (qS (qz zs))], .box 24 [ri .i64 0, ri .i64 0, nilA], .box 47 [.im (.raw (.bool false)), nilA], .box 47 ((zc 1).map .im)]) (fun j => r * c - j) 0 (Nat.zero_le _) (tsr rfl) rfl ?_
  intro j t hj
  refine ifs rfl (fun h => ?_) (fun h => ?_)
  · have h := of_decide_eq_true h
    obtain ⟨z, hz⟩ : ∃ z, zs[j]? = some z := ⟨_, List.getElem?_eq_getElem (by omega)⟩
    have hx : (qz zs)[j]? = some (z : Rat) := by rw [qz, List.getElem?_map, hz]; rfl
    refine gm (qc_len _) j ⟨by omega, by omega⟩ (q_at hx) (by rw [Int.toNat_natCast]) fun l => ?_
    refine ce d_Lcm1 rfl ?_
    refine ce (z_From (s := false) (Nat.le_trans (Nat.le_of_eq ln_one) (by decide))) rfl ?_
    refine nxg [0, 1, 2, 3] (j + 1) (by omega) rfl ⟨by omega, ⟨rfl, rfl, rfl, rfl, rfl, rfl, congrArg (ri .i64) (IntWalk.i64_in _ (by omega)), trivial⟩, rfl⟩
  · refine lfb 4 2 47 2 rfl rfl ?_
    refine lpt (fun j : Nat => j ≤ r * c) (fun j => [(1, .ref 0 0), (2, .ref 1 0), (3, .ref 2 0), (5, .ref 3 0), (8, .ref 4 0), (47, .im (qS (qz zs))), (48, ri .i64 ((qz zs).map qc).length), (49, ri .i64 j)])
      (fun j => [.box 40 [ri .i64 r, ri .i64 c, .im (qS (qz zs))], .box 24 [ri .i64 0, ri .i64 0, nilA], .box 47 [.im (.raw (.bool false)), nilA], .box 47 ((zc 1).map .im),
        .box 24 [ri .i64 r, ri .i64 c, .own 5], .row 47 2 j ((zs.take j).map zc).flatten]) (fun j => r * c - j) 0 (Nat.zero_le _) (tsr rfl) rfl ?_
    intro j t hj
    refine ifs rfl (fun h => ?_) (fun h => ?_)
    · have h := of_decide_eq_true h
      obtain ⟨z, hz⟩ : ∃ z, zs[j]? = some z := ⟨_, List.getElem?_eq_getElem (by omega)⟩
      have hlz := hlz z (List.mem_of_getElem? hz)
      have hx : (qz zs)[j]? = some (z : Rat) := by rw [qz, List.getElem?_map, hz]; rfl
      have hlr : lr (z : Rat) ≤ 10000 := by rw [lr_int, ln_one]; omega
      have e1 : (z : Rat) * ((1 : Int) : Rat) = (z : Rat) := Rat.mul_one _
      have e2 : ((zs.take (j + 1)).map zc).flatten = ((zs.take j).map zc).flatten ++ zc z := by rw [take_snoc' hz, List.map_append, List.flatten_append]; simp
      refine gm (qc_len _) j ⟨by omega, by omega⟩ (q_at hx) (by rw [Int.toNat_natCast]) fun l => ?_
      refine rta (PT.app [0, 1] (.br 2 (.br 3 (.br 4 (PT.app [5, 6, 7, 8, 9, 10] .nil) 8 (PT.app [4, 5, 6, 7, 9, 10] .nil)) 8 (PT.app [3, 4, 5, 6, 7, 9, 10] .nil)) 8 (PT.app [2, 3, 4, 5, 6, 7, 9, 10] .nil))) [(6, [7], some []), (7, [7], some []), (9, [], some [7])] ?_
      have hlr1 : lr ((1 : Int) : Rat) ≤ 20000 := by rw [lr_int, ln_one, show li (1 : Int) = 1 from ln_one]; decide
      have hm : Pc Tryz.prog 332 [iq (z : Rat), iq ((1 : Int) : Rat)] (· = iq (z : Rat)) := by
        have := r_Mul (a := (z : Rat)) (b := ((1 : Int) : Rat)) (by omega) hlr1
        rwa [e1] at this
      have hw := r_Whole (q := (z : Rat)) (by omega) rfl
      have h1 : li 1 ≤ 100000 := Nat.le_trans (Nat.le_of_eq ln_one) (by decide)
      refine ⟨?_, ?_⟩
      · refine ce (r_Of (z := 1) h1) rfl ?_
        refine ⟨?_, ?_⟩
        · refine ce hm rfl ?_
          refine ⟨?_, ?_⟩
          · refine ce hw rfl ?_
            refine ⟨⟨?_, ?_⟩, ?_⟩
            · show (j + 1) * 32 ≤ _; omega
            · show j + 1 ≤ _; omega
            refine nxg [0, 1, 2, 3, 4, 5] (j + 1) (by omega) rfl ⟨by omega, ⟨rfl, rfl, rfl, rfl, rfl, rfl, rfl, congrArg (ri .i64) (IntWalk.i64_in _ (by omega)), trivial⟩, ?_⟩
            refine Eq.trans ?_ (congrArg (fun l => [AO.box 40 [ri .i64 r, ri .i64 c, .im (qS (qz zs))], .box 24 [ri .i64 0, ri .i64 0, nilA], .box 47 [.im (.raw (.bool false)), nilA], .box 47 ((zc 1).map .im),
                        .box 24 [ri .i64 r, ri .i64 c, .own 5], .row 47 2 (j + 1) l]) e2.symm)
            exact rfl
          · refine ce hw rfl ?_
            refine ⟨⟨?_, ?_⟩, ?_⟩
            · show (j + 1) * 32 ≤ _; omega
            · show j + 1 ≤ _; omega
            refine nxg [0, 1, 2, 3, 4, 5] (j + 1) (by omega) rfl ⟨by omega, ⟨rfl, rfl, rfl, rfl, rfl, rfl, rfl, congrArg (ri .i64) (IntWalk.i64_in _ (by omega)), trivial⟩, ?_⟩
            refine Eq.trans ?_ (congrArg (fun l => [AO.box 40 [ri .i64 r, ri .i64 c, .im (qS (qz zs))], .box 24 [ri .i64 0, ri .i64 0, nilA], .box 47 [.im (.raw (.bool false)), nilA], .box 47 ((zc 1).map .im),
                        .box 24 [ri .i64 r, ri .i64 c, .own 5], .row 47 2 (j + 1) l]) e2.symm)
            exact rfl
        · refine ce hm rfl ?_
          refine ce hw rfl ?_
          refine ⟨⟨?_, ?_⟩, ?_⟩
          · show (j + 1) * 32 ≤ _; omega
          · show j + 1 ≤ _; omega
          refine nxg [0, 1, 2, 3, 4, 5] (j + 1) (by omega) rfl ⟨by omega, ⟨rfl, rfl, rfl, rfl, rfl, rfl, rfl, congrArg (ri .i64) (IntWalk.i64_in _ (by omega)), trivial⟩, ?_⟩
          refine Eq.trans ?_ (congrArg (fun l => [AO.box 40 [ri .i64 r, ri .i64 c, .im (qS (qz zs))], .box 24 [ri .i64 0, ri .i64 0, nilA], .box 47 [.im (.raw (.bool false)), nilA], .box 47 ((zc 1).map .im),
                    .box 24 [ri .i64 r, ri .i64 c, .own 5], .row 47 2 (j + 1) l]) e2.symm)
          exact rfl
      · refine ce (r_Of (z := 1) h1) rfl ?_
        refine ce hm rfl ?_
        refine ce hw rfl ?_
        refine ⟨⟨?_, ?_⟩, ?_⟩
        · show (j + 1) * 32 ≤ _; omega
        · show j + 1 ≤ _; omega
        refine nxg [0, 1, 2, 3, 4, 5] (j + 1) (by omega) rfl ⟨by omega, ⟨rfl, rfl, rfl, rfl, rfl, rfl, rfl, congrArg (ri .i64) (IntWalk.i64_in _ (by omega)), trivial⟩, ?_⟩
        refine Eq.trans ?_ (congrArg (fun l => [AO.box 40 [ri .i64 r, ri .i64 c, .im (qS (qz zs))], .box 24 [ri .i64 0, ri .i64 0, nilA], .box 47 [.im (.raw (.bool false)), nilA], .box 47 ((zc 1).map .im),
                .box 24 [ri .i64 r, ri .i64 c, .own 5], .row 47 2 (j + 1) l]) e2.symm)
        exact rfl
    · have h := of_decide_eq_false h
      obtain rfl : j = r * c := by omega
      rw [List.take_of_length_le (by omega)]
      refine rqa [0, 1, 2, 3, 4] [(1, [1], some []), (2, [], some [1])] ?_
      exact rfl
theorem flat_put {k : Nat} {es : List (List IV)} (hk : ∀ e ∈ es,e.length = k) {j : Nat} (hj : j < es.length) {e' : List IV} (he : e'.length = k) : putAt es.flatten (j * k) e' = (es.set j e').flatten:=by
 have hl:=flat_len hk
 have h1 : (j + 1) * k ≤ es.length * k:=Nat.mul_le_mul_right _ hj
 rw [Nat.add_mul,Nat.one_mul] at h1
 rw [putAt_eq _ _ _ (by omega),he]
 induction es generalizing j with
 | nil=>simp at hj
 | cons e es ih=>
  have h0 : e.length = k:=hk e (by simp)
  have hk' : ∀ e ∈ es,e.length = k:=fun x hx=>hk x (by simp [hx])
  cases j with
  | zero=>rw [Nat.zero_mul,Nat.zero_add]; simp [← h0]
  | succ j=>
   have hj' : j < es.length:=by simpa using hj
   have h2 : (j + 1) * k ≤ es.length * k:=Nat.mul_le_mul_right _ hj'
   rw [Nat.add_mul,Nat.one_mul] at h2
   have:=ih hk' hj' (flat_len hk') h2
   have e1 : (j + 1) * k = e.length + j * k:=by rw [Nat.add_mul,Nat.one_mul,h0,Nat.add_comm]
   rw [e1,List.set_cons_succ,List.flatten_cons,List.flatten_cons,List.take_length_add_append,← this,Nat.add_assoc,List.drop_length_add_append]
   simp
noncomputable def rC (m : Nat) (g : Nat → Rat) : List IV:=((List.range m).map fun k=>qc (g k)).flatten
noncomputable def RW (m : Nat) (g : Nat → Rat) : AO:=.row 49 4 m (rC m g)
def up1 {α : Type} (g : Nat → α) (j : Nat) (x : α) : Nat → α:=fun k=>if k = j then x else g k
def mix {α : Type} (j : Nat) (a b : Nat → α) : Nat → α:=fun k=>if k < j then a k else b k
theorem mix_zero {α : Type} (a b : Nat → α) : mix 0 a b = b:=by funext k; simp [mix]
theorem mix_succ {α : Type} (j : Nat) (a b : Nat → α) : up1 (mix j a b) j (a j) = mix (j + 1) a b:=by
 funext k; unfold up1 mix
 by_cases h : k = j
 ·subst h; rw [if_pos rfl,if_pos (by omega)]
 ·rw [if_neg h]
  by_cases h2 : k < j
  ·rw [if_pos h2,if_pos (by omega)]
  ·rw [if_neg h2,if_neg (by omega)]
theorem mix_at {α : Type} (j : Nat) (a b : Nat → α) : mix j a b j = b j:=if_neg (Nat.lt_irrefl j)
theorem rC_es (m : Nat) (g : Nat → Rat) : ∀ e ∈ (List.range m).map (fun k=>qc (g k)),e.length = 4:=fun e he=>by obtain ⟨q,-,rfl⟩:=List.mem_map.1 he; rfl
theorem rC_congr {m : Nat} {g h : Nat → Rat} (e : ∀ k,k < m → g k = h k) : rC m g = rC m h:=by
 unfold rC; congr 1; exact List.map_congr_left fun k hk=>by rw [e k (List.mem_range.1 hk)]
theorem rC_mix {m : Nat} {a b : Nat → Rat} : rC m (mix m a b) = rC m a:=rC_congr fun k hk=>if_pos hk
theorem rC_get {m : Nat} (g : Nat → Rat) {j : Nat} (hj : j < m) : ((List.range m).map fun k=>qc (g k))[j]? = some (qc (g j)):=by simp [hj]
theorem rC_put {m : Nat} (g : Nat → Rat) {j : Nat} (hj : j < m) (x : Rat) : putAt (rC m g) (j * 4) (qc x) = rC m (up1 g j x):=by
 unfold rC
 rw [flat_put (rC_es m g) (by simpa using hj) rfl]
 congr 1
 refine List.ext_getElem (by simp) fun i h1 h2=>?_
 simp only [List.length_set,List.length_map,List.length_range] at h1
 by_cases e : i = j
 ·subst e; simp [up1]
 ·rw [List.getElem_set_ne (fun h=>e h.symm)]; simp [up1,e]
theorem rC_len (m : Nat) (g : Nat → Rat) : (rC m g).length = m * 4:=by unfold rC; rw [flat_len (rC_es m g)]; simp
theorem gq {m o : Nat} {g : Nat → Rat} {K : AV → Prop} (j : Nat) (hj : j < m) (ho : o = j * 4) (h : K (.im (iq (g j)))) : Gn True ((rC m g).drop o) (ldI true 4) K:=by
 subst ho
 refine ⟨trivial,fun l e=>?_⟩
 subst e
 unfold rC
 rw [flat_drop (rC_es m g) (rC_get g hj)]; exact h
theorem q_take {m : Nat} {g h : Nat → Rat} {f : Rat} (hm : m ≤ 64) (hg : ∀ k,k < m → lr (g k) ≤ 9000) (hh : ∀ k,k < m → lr (h k) ≤ 9000) (hf : lr f ≤ 9000) :
  Ec Tryz.prog 533 (own 2) [RW m g,RW m h] [.own 0,.own 1,.im (iq f)] (Is (.tup []) [RW m (fun k=>g k - f * h k),RW m h]):=by
 refine ec Tryz.func533 ?_
 refine lpt (fun j : Nat=>j ≤ m) (fun j=>[(0,.own 0),(1,.own 1),(5,.ref 2 0),(8,ri .i64 m),(9,ri .i64 j)]) (fun j=>[RW m (mix j (fun k=>g k - f * h k) g),RW m h,.box 49 ((qc f).map .im)]) (fun j=>m - j) 0 (Nat.zero_le _) (tsr rfl) (by rw [mix_zero]; rfl) ?_
 intro j t hj
 refine ifs rfl (fun hlt=>?_) (fun hge=>?_)
 ·have hlt:=of_decide_eq_true hlt
  have hjm : j < m:=by omega
  refine rq [0,1,2,3,4,5,6,7,8,9,10,11,12,13,14] ?_
  refine ⟨⟨by omega,by omega⟩,?_⟩
  refine gq j hjm (by rw [Int.toNat_natCast]) ?_
  rw [mix_at]
  refine ⟨⟨by omega,by omega⟩,?_⟩
  refine gq j hjm (by rw [Int.toNat_natCast]) ?_
  have l1:=hg j hjm; have l2:=hh j hjm; have l3:=lr_mul f (h j)
  refine ce (r_Mul (a:=f) (b:=h j) (by omega) (by omega)) rfl ?_
  refine ce (r_Sub (a:=g j) (b:=f * h j) (by omega) (by omega)) rfl ?_
  refine ⟨⟨by omega,by omega⟩,?_⟩
  refine ⟨by rw [rC_len]; show (j : Int).toNat * 4 + 4 ≤ _; omega,?_⟩
  refine nxg [0,1,2] (j + 1) (by omega) rfl ⟨by omega,⟨rfl,rfl,rfl,rfl,congrArg (ri .i64) (i64s (by omega)).symm,trivial⟩,?_⟩
  have e : putAt (rC m (mix j (fun k=>g k - f * h k) g)) (j * 4) (qc (g j - f * h j)) = rC m (mix (j + 1) (fun k=>g k - f * h k) g):=by
   rw [rC_put _ hjm]; exact congrArg _ (mix_succ j (fun k=>g k - f * h k) g)
  exact congrArg (fun l=>[AO.row 49 4 m l,RW m h,.box 49 ((qc f).map .im)]) e
 ·have hge:=of_decide_eq_false hge
  obtain rfl : j = m:=by omega
  refine fin [0,1] rfl ⟨rfl,?_⟩
  exact congrArg (fun l=>[AO.row 49 4 j l,RW j h]) rC_mix
end Go.Proofs.YtlhmaljjdpjkgaaGreatDoor
