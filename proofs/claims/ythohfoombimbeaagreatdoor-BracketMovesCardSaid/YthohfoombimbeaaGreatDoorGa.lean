/- The author's own program logic: abstract values, states, relations, the operations. -/
import Derived.Test.YthohfoombimbeaaGreatDoorAl
import Derived.WalkKit
import Derived.WalkSpells
import Derived.WalkLawsBesides
import Derived.Lib.LaidTab
import Derived.Lib.ItoaNum
import Derived.Test.YthohfoombimbeaaGreatDoorProg
set_option linter.unusedSimpArgs false
set_option linter.unusedVariables false
namespace Go.Proofs.YthohfoombimbeaaGreatDoor
open Go Go.RowKit
def Good(w:World):Prop:=Lib.TabIs Tryz.prog w "internal/strconv.uint64pow10" .u64 Lib.pow10Tab
theorem VW{α:Type}(a b:List α):(a++b).length=a.length+b.length:=zG
theorem Good.later{w w':World}(h:Good w)(hb:Below w.heap.size w w'):Good w':=by
 unfold Good Lib.TabIs World.var? at h⊢;cases hg:Tryz.prog.globalNamed "internal/strconv.uint64pow10" with
 |none=>rw[hg]at h;cases h
 |some g=>
  rw[hg]at h;simp only[Option.bind_some]at h⊢;have aC:g<w.heap.size:=by
   rcases zY g w.heap.size with h'|h'
   ·exact h'
   ·rw[Array.getElem?_eq_none h']at h;cases h
  rw[hb.block g aC];exact h
mutual
inductive AV where
 |any
 |int (k:IntKind) (n:Int)
 |bool (b:Bool)
 |str (s:ByteArray)
 |agg (xs:List AV)
 |tup (xs:List AV)
 |nils
 |ptr (id off:Nat)
 |sl (es id off len:Nat)
 |ro (es len:Nat) (c:Cs)
 |rp (c:Cs) (off:Nat)
 |fn (f:Nat) (cap:List AV)
 |mp (id:Nat)
inductive Cs where
 |ints (l:List Int)
 |bools (l:List Bool)
 |lst (l:List AV)
end
abbrev I(n:Int):AV:= .int .i64 n
def Cs.len:Cs->Nat
 |.ints l=>l.length
 |.bools l=>l.length
 |.lst l=>l.length
def Cs.get:Cs->Nat->AV
 |.ints l,i=> .int .i64 (l.getD i 0)
 |.bools l,i=> .bool (l.getD i false)
 |.lst l,i=>l.getD i .any
def Cs.tH:Cs->List AV
 |.ints l=>l.map (AV.int .i64)
 |.bools l=>l.map AV.bool
 |.lst l=>l
def Cs.set:Cs->Nat->AV->Cs
 |.ints l,i,.int .i64 n=> .ints (l.set i n)
 |.bools l,i,.bool b=> .bools (l.set i b)
 |c,i,a=> .lst (c.tH.set i a)
def Cs.drop:Cs->Nat->Cs
 |.ints l,n=> .ints (l.drop n)
 |.bools l,n=> .bools (l.drop n)
 |.lst l,n=> .lst (l.drop n)
def Cs.take:Cs->Nat->Cs
 |.ints l,n=> .ints (l.take n)
 |.bools l,n=> .bools (l.take n)
 |.lst l,n=> .lst (l.take n)
def Cs.app:Cs->Cs->Cs
 |.ints l,.ints m=> .ints (l++m)
 |.bools l,.bools m=> .bools (l++m)
 |c,d=> .lst (c.tH++d.tH)
def Cs.rN(c:Cs)(off n:Nat):Cs:=(c.drop off).take n
theorem Cs.ig(c:Cs):c.tH.length=c.len:=by cases c<;>simp[Cs.tH,Cs.len]
theorem Cs.pv(c:Cs)(i:Nat)(h:i<c.len):c.tH[i]?=some (c.get i):=by
 cases c<;>simp_all[Cs.tH,Cs.len,Cs.get]
theorem Cs.jF(c:Cs)(n:Nat):(c.drop n).len=c.len-n:=by cases c<;>simp[Cs.drop,Cs.len]
theorem Cs.vC(c:Cs)(n:Nat):(c.take n).len=min n c.len:=by cases c<;>simp[Cs.take,Cs.len]
theorem Cs.gj(c:Cs)(off n:Nat)(h:off+n<=c.len):(c.rN off n).len=n:=by
 unfold Cs.rN;rw[Cs.vC,Cs.jF];omega
theorem Cs.oV(c:Cs)(i:Nat)(a:AV):(c.set i a).len=c.len:=by
 unfold Cs.set;split<;>simp[Cs.len]<;>rw[Cs.ig]<;>rfl
theorem Cs.mV(c:Cs)(n i:Nat):(c.drop n).get i=c.get (n+i):=by
 cases c<;>simp[Cs.drop,Cs.get]
theorem Cs.wN(c:Cs)(n i:Nat)(h:i<n):(c.take n).get i=c.get i:=by
 cases c<;>simp[Cs.take,Cs.get,h]
theorem Cs.pk(c:Cs)(off n i:Nat)(h:i<n):(c.rN off n).get i=c.get (off+i):=by
 unfold Cs.rN;rw[Cs.wN _ _ _ h,Cs.mV]
theorem Cs.yU(c:Cs)(i j:Nat)(a:AV)(hj:j<c.len):(c.set i a).get j=if i=j then a else c.get j:=by
 unfold Cs.set
 split
 ·rename_i l n;simp only[Cs.get,Cs.len]at*
  by_cases h:i=j
  ·subst h;simp[hj]
  ·simp[h]
 ·rename_i l n;simp only[Cs.get,Cs.len]at*
  by_cases h:i=j
  ·subst h;simp[hj]
  ·simp[h]
 ·have h1:=Cs.pv c j hj;have h2:=Cs.ig c;by_cases h:i=j
  ·subst h;simp[Cs.get,h2,hj]
  ·simp[Cs.get,h,h1]
theorem Cs.yk(c d:Cs):(c.app d).len=c.len+d.len:=by
 unfold Cs.app;split<;>simp[Cs.len]<;>rw[Cs.ig,Cs.ig]<;>rfl
theorem Cs.yW(c d:Cs)(i:Nat)(hi:i<c.len+d.len):(c.app d).get i=if i<c.len then c.get i else d.get (i-c.len):=by
 unfold Cs.app
 split
 ·rename_i l m;simp only[Cs.get,Cs.len]at*
  by_cases h:i<l.length
  ·simp[h,List.getElem?_append_left h]
  ·simp[h,List.getElem?_append_right (Nat.le_of_not_lt h)]
 ·rename_i l m;simp only[Cs.get,Cs.len]at*
  by_cases h:i<l.length
  ·simp[h,List.getElem?_append_left h]
  ·simp[h,List.getElem?_append_right (Nat.le_of_not_lt h)]
 ·have e1:=Cs.ig c;have e2:=Cs.ig d;by_cases h:i<c.len
  ·have:=Cs.pv c i h
   simp[Cs.get,h,this,List.getElem?_append_left (show i<c.tH.length by omega)]
  ·have:=Cs.pv d (i-c.len) (by omega)
   simp[Cs.get,h,List.getElem?_append_right (show c.tH.length<=i by omega),e1,this]
inductive MF where
 |ints (g:Int->Option Int)
 |bools (g:Int->Option Bool)
 |pairs (g:Int->Option (Int×Int))
def MF.val:MF->Int->Option Value
 |.ints g,n=>(g n).map (Value.int .i64)
 |.bools g,n=>(g n).map Value.bool
 |.pairs g,n=>(g n).map fun p=>Value.agg #[.int .i64 p.1,.int .i64 p.2]
inductive AObj where
 |gone
 |cells (t:Nat) (c:Cs)
 |imap (t:Nat) (l:List (Int×AV))
 |fmap (t:Nat) (c:MF)
  |gmap (t:Nat) (ck:Nat) (l:List (ByteArray×Nat×AV))
  |iter (dB:Nat) (since:Nat) (seen:List Nat) (last:Nat)
def AObj.live:AObj->Bool
 |.gone=>false
 |_=>true
abbrev Fr:=List (Nat×AV)
abbrev Hp:=List (Nat×AObj)
def fget:Fr->Nat->AV
 |[],_=> .any
 |(s,x)::r,t=>if s=t then x else fget r t
def hget:Hp->Nat->Option AObj
 |[],_=>none
 |(i,o)::r,t=>if i=t then some o else hget r t
def hset:Hp->Nat->AObj->Hp
 |[],_,_=>[]
 |(i,o)::r,t,o'=>if i=t then (i,o')::r else (i,o)::hset r t o'
def hnew:Hp->Nat
 |[]=>0
 |(i,_)::r=>max (i+1) (hnew r)
theorem uB{H:Hp}{i:Nat}{o o':AObj}(h:hget H i=some o):hget (hset H i o') i=some o':=by
 induction H with
 |nil=>simp[hget]at h
 |cons p r ih=>obtain⟨j,q⟩:=p;simp only[hget,hset]at*;split<;>simp_all[hget]
theorem ka{H:Hp}{i j:Nat}{o':AObj}(h:i≠j):hget (hset H i o') j=hget H j:=by
 induction H with
 |nil=>simp[hset]
 |cons p r ih=>obtain⟨k,q⟩:=p;simp only[hset];split<;>simp only[hget]<;>simp_all
theorem EP{H:Hp}{i:Nat}(h:hnew H<=i):hget H i=none:=by
 induction H with
 |nil=>rfl
 |cons p r ih=>obtain⟨j,q⟩:=p;simp only[hnew,hget]at*;rw[zL (by omega)];exact ih (by omega)
inductive VR(w:World)(M:Nat->Prop)(ρ:Nat->Addr):(Nat->Prop)->Value->AV->Prop where
 |any {D} (v:Value):VR w M ρ D v .any
 |int {D} (k:IntKind) (n:Int):VR w M ρ D (.int k n) (.int k n)
 |bool {D} (b:Bool):VR w M ρ D (.bool b) (.bool b)
 |str {D} (s:ByteArray):VR w M ρ D (.string s) (.str s)
 |agg {D} (vs:List Value) (xs:List AV) (hl:vs.length=xs.length) (hx:∀(i:Nat) (v:Value) (x:AV),vs[i]?=some v->xs[i]?=some x->VR w M ρ D v x):VR w M ρ D (.agg vs.toArray) (.agg xs)
 |tup {D} (vs:List Value) (xs:List AV) (hl:vs.length=xs.length) (hx:∀(i:Nat) (v:Value) (x:AV),vs[i]?=some v->xs[i]?=some x->VR w M ρ D v x):VR w M ρ D (.tuple vs.toArray) (.tup xs)
 |nils {D}:VR w M ρ D (.slice none 0 0) .nils
 |ptr {D:Nat->Prop} (id off:Nat) (hd:D id):VR w M ρ D (.pointer (some ((ρ id).add off))) (.ptr id off)
 |sl {D:Nat->Prop} (es id off len cap:Nat) (hd:D id) (hc:len<=cap) (arr:Array Value) (t:TypeId) (ad:Addr) (ha:0<cap->ad=(ρ id).add off)
  (hb:w.heap[(ρ id).block]?=some (.cells arr t (0,0))) (hr:(ρ id).off+off+cap*es<=arr.size):VR w M ρ D (.slice (some ad) len cap) (.sl es id off len)
 |ro {D:Nat->Prop} (es len:Nat) (c:Cs) (ad:Option Addr) (cap:Nat) (x:Nat->Value) (hl:c.len=len*es) (hc:len<=cap) (he:0<es)
  (h0:0<len->∃a,ad=some a/\a.block<w.heap.size/\ ¬M a.block/\ ∀j,j<c.len->w.cell? (a.add j)=some (x j))
  (hv:∀j,j<c.len->VR w M ρ (fun _=>False) (x j) (c.get j)):VR w M ρ D (.slice ad len cap) (.ro es len c)
 |rp {D:Nat->Prop} (c:Cs) (off:Nat) (a:Addr) (x:Nat->Value) (hb:a.block<w.heap.size) (hm:¬M a.block) (hj:∀j,j<c.len->w.cell? (a.add j)=some (x j))
  (hv:∀j,j<c.len->VR w M ρ (fun _=>False) (x j) (c.get j)):VR w M ρ D (.pointer (some (a.add off))) (.rp c off)
 |fn {D} (f:Nat) (vs:List Value) (xs:List AV) (hl:vs.length=xs.length) (hx:∀(i:Nat) (v:Value) (x:AV),vs[i]?=some v->xs[i]?=some x->VR w M ρ D v x):VR w M ρ D (.func (.func f) #[] vs.toArray) (.fn f xs)
 |mp {D:Nat->Prop} (id:Nat) (hd:D id):VR w M ρ D (.map (some (ρ id).block)) (.mp id)
theorem VR.carry{w w':World}{M M':Nat->Prop}{ρ ρ':Nat->Addr}{D:Nat->Prop}{v:Value}{x:AV}(h:VR w M ρ D v x)
  (hs:w.heap.size<=w'.heap.size) (hM:∀b,b<w.heap.size->¬M b->w'.heap[b]?=w.heap[b]?/\ ¬M' b):
  ∀{D':Nat->Prop},(∀id,D id->D' id/\ρ' id=ρ id/\ ∀arr t,w.heap[(ρ id).block]?=some (.cells arr t (0,0))->∃bA,w'.heap[(ρ id).block]?=some (.cells bA t (0,0))/\bA.size=arr.size)->VR w' M' ρ' D' v x:=by
 induction h with
 |any v=>intro _ _;exact .any v
 |int k n=>intro _ _;exact .int k n
 |bool b=>intro _ _;exact .bool b
 |str s=>intro _ _;exact .str s
 |agg vs xs hl _ ih=>intro _ hD;exact .agg vs xs hl fun i v x hv hx=>ih i v x hv hx hD
 |tup vs xs hl _ ih=>intro _ hD;exact .tup vs xs hl fun i v x hv hx=>ih i v x hv hx hD
 |nils=>intro _ _;exact .nils
 |ptr id off hd=>
  intro D' hD;obtain⟨h1,h2,_⟩:=hD id hd;rw[<-h2];exact .ptr id off h1
 |sl es id off len cap hd hc arr t ad ha hb hr=>
  intro D' hD;obtain⟨h1,h2,h3⟩:=hD id hd;obtain⟨bA,h4,h5⟩:=h3 arr t hb;exact .sl es id off len cap h1 hc bA t ad (fun h=>by rw[h2];exact ha h) (by rw[h2];exact h4) (by rw[h2];omega)
 |ro es len c ad cap x hl hc he h0 _ ih=>
  intro D' hD;refine .ro es len c ad cap x hl hc he (fun hn=>?_) (fun j hj=>ih j hj (fun id h=>h.elim));obtain⟨a,e,hb,hm,iR⟩:=h0 hn;obtain⟨g1,g2⟩:=hM _ hb hm;exact⟨a,e,by omega,g2,fun j hj=>(World.cell?_of_block (by cases hz:a.add j;simp only[Addr.add]at hz;split at hz<;>simp_all)).trans (iR j hj)⟩
 |rp c off a x hb hm hj _ ih=>
  intro D' hD;obtain⟨g1,g2⟩:=hM _ hb hm;exact .rp c off a x (by omega) g2 (fun j DH=>(World.cell?_of_block (by cases hz:a.add j;simp only[Addr.add]at hz;split at hz<;>simp_all)).trans (hj j DH)) (fun j hj=>ih j hj (fun id h=>h.elim))
 |fn f vs xs hl _ ih=>intro _ hD;exact .fn f vs xs hl fun i v x hv hx=>ih i v x hv hx hD
 |mp id hd=>
  intro D' hD;obtain⟨h1,h2,_⟩:=hD id hd;rw[<-h2];exact .mp id h1
def absV:Value->AV
 |.int k n=> .int k n
 |.bool b=> .bool b
 |.string s=> .str s
 |.slice none 0 0=> .nils
 |_=> .any
theorem IK{w:World}{M:Nat->Prop}{ρ:Nat->Addr}{D:Nat->Prop}(v:Value):VR w M ρ D v (absV v):=by
 unfold absV;split<;>constructor
inductive TK where
 |bad
 |other
 |slice (e:Nat)
 |struct (fs:List (Nat×Nat))
 |int (k:IntKind)
 |str
 |bool
 |map (k e:Nat)
 |arr (n e:Nat)
def iC:TypeDesc->TK
 |.slice e=> .slice e
 |.struct fs=> .struct (fs.toList.map fun f=>(f.type,f.offset))
 |.int k=> .int k
 |.string=> .str
 |.bool=> .bool
 |.map k e=> .map k e
 |.array n e=> .arr n e
 |_=> .other
def tk(P:Program)(t:Nat):TK:=match P.underlying t with|some d=>iC d|none=> .bad
def tsz(P:Program)(t:Nat):Option Nat:=(P.info? t).map (·.size)
def tby(P:Program)(t:Nat):Option Nat:=(P.info? t).map (·.bytes)
def tze(P:Program)(t:Nat):Option (List AV):=((P.info? t).bind (·.zero)).map fun z=>z.cells.toList.map absV
def InI(n:Int):Prop:= -9223372036854775808<=n/\n<=9223372036854775807
theorem Mw{n:Int}(h:InI n):IntKind.i64.wrap n=n:=IntWalk.i64_in n (by unfold InI at h;omega)
def yaw:AV->List AV
 |.agg xs=>xs
 |x=>[x]
def ycg:AV->Bool
 |.any|.agg _|.tup _=>false
 |_=>true
def okM:AV->Bool
 |.any|.tup _=>false
 |_=>true
def El(a b:Int):Int:=IntKind.i64.wrap ((BitVec.ofInt 64 a&&&BitVec.ofInt 64 b).toNat:Nat)
def binI(op:BinOp)(k:IntKind)(a b:Int):Option (Prop×AV):=
 match op with
 |.add=>if k= .i64 then some (InI (a+b),I (a+b)) else some (True,.int k (k.wrap (a+b)))
 |.sub=>if k= .i64 then some (InI (a-b),I (a-b)) else some (True,.int k (k.wrap (a-b)))
 |.mul=>if k= .i64 then some (InI (a*b),I (a*b)) else some (True,.int k (k.wrap (a*b)))
 |.quo=>if k= .i64 then some (b≠0/\InI (a.tdiv b),I (a.tdiv b)) else some (b≠0,.int k (k.wrap (a.tdiv b)))
 |.rem=>some (b≠0,.int k (a.tmod b))
 |.eql=>some (True,.bool (a==b))
 |.neq=>some (True,.bool (a !=b))
 |.lss=>some (True,.bool (decide (a<b)))
 |.leq=>some (True,.bool (decide (a<=b)))
 |.gtr=>some (True,.bool (decide (b<a)))
 |.geq=>some (True,.bool (decide (b<=a)))
 |.and=>if k= .i64 then some (True,I (El a b)) else none
 |_=>none
def ygb(P:Program)(op:BinOp)(t:Nat)(x:AV):Option (Prop×AV):=
 match tk P t,x,op with
 |.slice _,.nils,.eql=>some (True,.bool true)
 |.slice _,.nils,.neq=>some (True,.bool false)
 |.slice _,.sl ..,.eql=>some (True,.bool false)
 |.slice _,.sl ..,.neq=>some (True,.bool true)
 |.slice _,.ro _ n _,.eql=>some (0<n,.bool false)
 |.slice _,.ro _ n _,.neq=>some (0<n,.bool true)
 |_,_,_=>none
def DW(P:Program)(t:Nat):Bool:=match P.underlying t with
 |some (.struct fs)=> !P.stoodInHeld t&& !P.eqGuardType P.depth t&&(match fs.toList with
  |[f,g]=>f.name != "_" &&g.name != "_" &&f.offset==0&&g.offset==1&&(match P.underlying f.type with|some (.int _)=>true|_=>false)&&(match P.underlying g.type with|some (.int _)=>true|_=>false)
  |_=>false)
 |_=>false
def G9(P:Program)(t:Nat):Bool:=match P.underlying t with
 |some (.struct fs)=> !P.stoodInHeld t&& !P.eqGuardType P.depth t&&(match fs.toList with
  |[f,g,h]=>f.name != "_" &&g.name != "_" &&h.name != "_" &&f.offset==0&&g.offset==1&&h.offset==2&&(match P.underlying f.type with|some (.int _)=>true|_=>false)&&(match P.underlying g.type with|some (.int _)=>true|_=>false)&&(match P.underlying h.type with|some (.int _)=>true|_=>false)
  |_=>false)
 |_=>false
def yfe(P:Program)(op:BinOp)(t:Nat)(x y:AV):Option (Prop×AV):=
 match x,y with
 |.agg [.int .i64 a,.int .i64 b],.agg [.int .i64 c,.int .i64 d]=>match op with
  |.eql=>some (DW P t=true,.bool (a==c&&b==d))
  |.neq=>some (DW P t=true,.bool (!(a==c&&b==d)))
  |_=>none
 |.agg [.int .i64 a,.int .i64 b,.int .i64 e],.agg [.int .i64 c,.int .i64 d,.int .i64 f]=>match op with
  |.eql=>some (G9 P t=true,.bool (a==c&&b==d&&e==f))
  |.neq=>some (G9 P t=true,.bool (!(a==c&&b==d&&e==f)))
  |_=>none
 |_,_=>none
def binF(P:Program)(op:BinOp)(t:Nat)(x y:AV):Option (Prop×AV):=
 match x,y with
 |.int k a,.int k' b=>match op with
  |.shl=>if k= .i64 then some ((0<=b/\b<=62)/\InI (a*2^b.toNat),I (a*2^b.toNat)) else none
  |.shr=>if k= .i64 then some (0<=b/\b<=63,I (a/2^b.toNat)) else if k= .u64 then some (0<=b/\b<=63,.int .u64 (a/2^b.toNat)) else none
  |_=>if k=k' then binI op k a b else none
 |.bool a,.bool b=>match tk P t,op with
  |.bool,.eql=>some (True,.bool (a==b))
  |.bool,.neq=>some (True,.bool (a !=b))
  |_,_=>none
 |.str a,.str b=>match op with
  |.eql=>some (True,.bool (a.toList==b.toList))
  |.neq=>some (True,.bool (!(a.toList==b.toList)))
  |.add=>some (a.size+b.size<=9223372036854775807,.str (a++b))
  |_=>none
 |x,.nils=>ygb P op t x
 |x,y=>yfe P op t x y
def unF(op:UnOp)(x:AV):Option (Prop×AV):=
 match op,x with
 |.neg,.int .i64 n=>some (InI (0-n),I (0-n))
 |.neg,.int .u64 n=>some (True,.int .u64 (IntKind.u64.wrap (0-n)))
 |.not,.bool b=>some (True,.bool (!b))
 |_,_=>none
def ymv(P:Program)(t:Nat)(c:Cs)(off:Nat):Option (Prop×AV):=
 match tk P t,tsz P t with
 |.struct _,some n=>some (off+n<=c.len,.agg ((List.range n).map fun j=>c.get (off+j)))
 |.arr _ _,some n=>some (off+n<=c.len,.agg ((List.range n).map fun j=>c.get (off+j)))
 |.arr _ _,none=>none
 |.bad,_=>none
 |_,_=>some (off<c.len,c.get off)
def ymw(P:Program)(hg:Nat->Option AObj)(t:Nat)(x:AV):Option (Prop×AV):=
 match x with
 |.ptr id off=>match hg id with
  |some (.cells _ c)=>ymv P t c off
  |_=>none
 |.rp c off=>ymv P t c off
 |_=>none
def yf2(P:Program)(s:Nat)(x:AV)(f:Nat):Option (Prop×AV):=
 match tk P s with
 |.struct fs=>match fs[f]? with
  |some (ft,o)=>match tsz P ft with
   |some (_+1)=>match x with
    |.ptr id off=>some (True,.ptr id (off+o))
    |.rp c off=>some (True,.rp c (off+o))
    |_=>none
   |_=>none
  |none=>none
 |_=>none
def ymx(P:Program)(t:Nat)(xs:List AV)(off:Nat):Option (Prop×AV):=
 match tk P t,tsz P t with
 |.struct _,some n=>some (True,.agg ((xs.drop off).take n))
 |.arr _ _,some n=>some (True,.agg ((xs.drop off).take n))
 |.arr _ _,none=>none
 |.bad,_=>none
 |_,_=>match xs[off]? with|some x=>some (True,x)|none=>none
def ymy(P:Program)(s:Nat)(x:AV)(f:Nat):Option (Prop×AV):=
 match tk P s with
 |.struct fs=>match fs[f]? with
  |some (ft,o)=>match x with
   |.agg xs=>ymx P ft xs o
   |_=>none
  |none=>none
 |_=>none
def yeq(P:Program)(t:Nat)(x i:AV):Option (Prop×AV):=
 match tk P t,i with
 |.slice e,.int _ n=>match tsz P e,x with
  |some es,.sl eJ id off len=>if es=eJ then some (0<=n/\n<len,.ptr id (off+n.toNat*es)) else none
  |some es,.ro eJ len c=>if es=eJ then some (0<=n/\n<len,.rp c (n.toNat*es)) else none
  |_,_=>none
 |.arr m e,.int _ n=>match tsz P e,x with
  |some es,.ptr id off=>some (0<=n/\n<m,.ptr id (off+n.toNat*es))
  |some es,.rp c off=>some (0<=n/\n<m,.rp c (off+n.toNat*es))
  |_,_=>none
 |_,_=>none
def lenF(P:Program)(t:Nat)(x:AV):Option (Prop×AV):=
 match tk P t,x with
 |.slice _,.nils=>some (True,I 0)
 |.slice _,.sl _ _ _ n=>some (True,I n)
 |.slice _,.ro _ n _=>some (True,I n)
 |.str,.str s=>some (True,I s.size)
 |_,_=>none
def capF(P:Program)(t:Nat)(x:AV):Option (Prop×AV):=
 match tk P t,x with
 |.slice _,.nils=>some (True,I 0)
 |_,_=>none
def yh6(x:AV)(i:Nat):Option (Prop×AV):=
 match x with
 |.tup xs=>match xs[i]? with|some y=>some (True,y)|none=>none
 |_=>none
def nilF(x:AV):Option (Prop×AV):=
 match x with
 |.ptr id off=>some (True,.ptr id off)
 |.rp c off=>some (True,.rp c off)
 |.fn f xs=>some (True,.fn f xs)
 |_=>none
def yqa(P:Program)(d:Nat)(x:AV):Option (Prop×AV):=
 match tk P d,x with
 |.int k,.int k' n=>if k=k'/\k= .i64 then some (InI n,I n) else some (True,.int k (k.wrap n))
 |.str,.str s=>some (True,.str s)
 |_,_=>none
def Dc(P:Program)(t:Nat):Option AV:=((P.info? t).bind (·.zero)).map absV
def jW(l:List (Int×AV))(n:Int):Option AV:=(l.find? fun q=>q.1==n).map (·.2)
def fH:List (Int×AV)->Int->AV->List (Int×AV)
 |[],n,v=>[(n,v)]
 |q::l,n,v=>if q.1=n then (n,v)::l else q::fH l n v
def yv3(P:Program)(et:Nat):Option AV->Option (Prop×AV)
 |some x=>some (True,x)
 |none=>match Dc P et with
  |some .nils=>some (True,.nils)
  |_=>none
def yv4(P:Program)(et:Nat)(n:Int):Option AObj->Option (Prop×AV)
 |some (.fmap _ (.ints g))=>match Dc P et with
  |some (.int .i64 z)=>some (True,I ((g n).getD z))
  |_=>none
 |some (.fmap _ (.bools g))=>match Dc P et with
  |some (.bool z)=>some (True,.bool ((g n).getD z))
  |_=>none
 |some (.fmap _ (.pairs g))=>match tze P et with
  |some [.int .i64 x,.int .i64 y]=>some (True,.agg [I ((g n).getD (x,y)).1,I ((g n).getD (x,y)).2])
  |_=>none
 |some (.imap _ l)=>yv3 P et (jW l n)
 |_=>none
def Al(a:Int):Nat:=if 0<=a then 2*a.toNat else 2*(-a).toNat-1
def JO(n:Nat):Int:=if n % 2=0 then (n/2:Nat) else-(((n+1)/2:Nat):Int)
theorem Q6(a:Int):JO (Al a)=a:=by
 unfold JO Al
 split<;>split<;>omega
def en(a b:Int):ByteArray:=⟨(List.replicate (Al a) (0:UInt8)++1::List.replicate (Al b) 0).toArray⟩
def gm(s:ByteArray):Int×Int:=(JO (s.data.toList.takeWhile (· ==0)).length,JO (s.data.toList.length-(s.data.toList.takeWhile (· ==0)).length-1))
theorem EO(a b:Int):gm (en a b)=(a,b):=by
 have h:∀n m:Nat,(List.replicate n (0:UInt8)++1::List.replicate m 0).takeWhile (· ==0)=List.replicate n 0:=fun n m=>by
  induction n with
  |zero=>rfl
  |succ n ih=>rw[List.replicate_succ,List.cons_append,List.takeWhile_cons,zM (by decide),ih]
 unfold gm en;simp only[h,zG,List.length_replicate,zH,Q6];rw[show Al a+(Al b+1)-Al a-1=Al b by omega,Q6]
theorem y1d{a b c d:Int}:en a b=en c d↔a=c/\b=d:=by
 constructor
 ·intro h
  have:=congrArg gm h
  rw[EO,EO]at this;exact⟨congrArg Prod.fst this,congrArg Prod.snd this⟩
 ·rintro⟨rfl,rfl⟩;rfl
def KR(t:Nat)(k:ByteArray)(v:Value):Prop:=if t<1000000000 then v= .string k else k=en (gm k).1 (gm k).2/\v= .agg #[.int .i64 (gm k).1,.int .i64 (gm k).2]
theorem KR.str{t:Nat}{k:ByteArray}{v:Value}(ht:t<1000000000)(h:KR t k v):v= .string k:=by unfold KR at h;rwa [zM ht]at h
theorem KR.pr{t:Nat}{k:ByteArray}{v:Value}(ht:¬t<1000000000)(h:KR t k v):k=en (gm k).1 (gm k).2/\v= .agg #[.int .i64 (gm k).1,.int .i64 (gm k).2]:=by unfold KR at h;rwa [zL ht]at h
def n9(l:List (ByteArray×Nat×AV))(s:ByteArray):Option (ByteArray×Nat×AV):=l.find? fun q=>decide (q.1=s)
def yv5(s:ByteArray):Option AObj->Option (Prop×AV)
 |some (.gmap t _ l)=>if t<1000000000 then match n9 l s with
  |some q=>some (True,q.2.2)
  |none=>none
  else none
 |_=>none
def zrG:List AV->AV
 |x::y::r=> .agg (x::y::r)
 |_=> .any
def yh7{α:Type}(P:Program)(e:Nat)(x:Option α):Option α:=match tk P e,tsz P e with
 |.int .i64,some 1=>x
 |_,_=>none
def yv6(P:Program)(et:Nat)(s:ByteArray):Option AObj->Option (Prop×AV)
 |some (.gmap t _ l)=>if t<1000000000 then none else match n9 l s with
  |some q=>some (True,q.2.2)
  |none=>match tze P et with
   |some z=>some (True,zrG z)
   |none=>none
 |_=>none
def yv7(P:Program)(et:Nat)(s:ByteArray):Option AObj->Option (Prop×AV)
 |some (.gmap t _ l)=>if t<1000000000 then none else match n9 l s with
  |some q=>some (True,.tup [q.2.2,.bool true])
  |none=>match tze P et with
   |some z=>some (True,.tup [zrG z,.bool false])
   |none=>none
 |_=>none
def yv8(P:Program)(hg:Nat->Option AObj)(et:Nat):TK->AV->AV->Option (Prop×AV)
 |.int .i64,.mp id,.int .i64 n=>yv4 P et n (hg id)
 |.str,.mp id,.str s=>yv5 s (hg id)
 |.arr 2 e,.mp id,.agg [.int .i64 a,.int .i64 b]=>yh7 P e (yv6 P et (en a b) (hg id))
 |_,_,_=>none
def yv9(P:Program)(et:Nat)(n:Int):Option AObj->Option (Prop×AV)
 |some (.fmap _ (.ints g))=>match Dc P et with
  |some (.int .i64 z)=>some (True,.tup [I ((g n).getD z),.bool (g n).isSome])
  |_=>none
 |some (.imap _ l)=>match jW l n with
  |some x=>some (True,.tup [x,.bool true])
  |none=>match tze P et with
   |some z=>some (True,.tup [zrG z,.bool false])
   |none=>none
 |_=>none
def ywa(P:Program)(et:Nat)(s:ByteArray):Option AObj->Option (Prop×AV)
 |some (.gmap t _ l)=>if t<1000000000 then match n9 l s with
  |some q=>some (True,.tup [q.2.2,.bool true])
  |none=>match tze P et with
   |some z=>some (True,.tup [zrG z,.bool false])
   |none=>none
  else none
 |_=>none
def yqp(P:Program)(hg:Nat->Option AObj)(et:Nat):TK->AV->AV->Option (Prop×AV)
 |.int .i64,.mp id,.int .i64 n=>yv9 P et n (hg id)
 |.str,.mp id,.str s=>ywa P et s (hg id)
 |.arr 2 e,.mp id,.agg [.int .i64 a,.int .i64 b]=>yh7 P e (yv7 P et (en a b) (hg id))
 |_,_,_=>none
def ymz(P:Program)(hg:Nat->Option AObj)(t:Nat)(x k:AV):Option (Prop×AV):=
 match tk P t with
 |.map kt et=>yqp P hg et (tk P kt) x k
 |_=>none
def idxP(m:Nat)(n:Int):Option (Prop×AV)->Option (Prop×AV)
 |some (p,r)=>some ((0<=n/\n<m)/\p,r)
 |none=>none
def idxF(P:Program)(t:Nat)(x i:AV):Option (Prop×AV):=
 match tk P t,x,i with
 |.str,.str s,.int _ n=>some (0<=n/\n<s.size,.int .u8 (s.data.toList.getD n.toNat 0).toNat)
 |.arr m e,.agg xs,.int _ n=>match tsz P e with
  |some es=>idxP m n (ymx P e xs (n.toNat*es))
  |none=>none
 |_,_,_=>none
def gkA(t:Nat)(k:ByteArray):AV:=if t<1000000000 then .str k else .agg [I (gm k).1,I (gm k).2]
def entG(bn:Option Nat)(since la:Nat):Option AObj->Option (Prop×AV)
 |some (.gmap t ck l)=>match bn with
  |some b=>match l.find? fun q=>q.2.1==b with
   |some q=>some (ck=la,.tup [gkA t q.1,q.2.2])
   |none=>none
  |none=>none
 |_=>none
def entI(hg:Nat->Option AObj):Option AObj->Option (Prop×AV)
 |some (.iter dB since sn la)=>entG sn.getLast? since la (hg dB)
 |_=>none
def entF(hg:Nat->Option AObj):AV->Option (Prop×AV)
 |.ptr id 0=>entI hg (hg id)
 |_=>none
def yqb(P:Program)(hg:Nat->Option AObj)(t:Nat)(x k:AV):Option (Prop×AV):=
 match tk P t with
 |.map kt et=>yv8 P hg et (tk P kt) x k
 |_=>none
def ywb:AV->AV->AV->Option (Prop×AV)
 |.int .i64 a,.int .i64 b,.int .i64 c=>some (True,I (if (if a<b then b else a)<c then c else if a<b then b else a))
 |_,_,_=>none
def opF(P:Program)(hg:Nat->Option AObj)(ev:Operand->AV):Op->Option (Prop×AV)
 |.move x=>some (True,ev x)
 |.assign x=>some (True,ev x)
 |.pick c x y=>match ev c with
  |.bool b=>some (True,if b then ev x else ev y)
  |_=>none
 |.load t x=>ymw P hg t (ev x)
 |.binOp op t x y _=>binF P op t (ev x) (ev y)
 |.unOp op _ x=>unF op (ev x)
 |.fieldAddr s x f=>yf2 P s (ev x) f
 |.field s x f=>ymy P s (ev x) f
 |.indexAddr t x i=>yeq P t (ev x) (ev i)
 |.extract t i=>yh6 (ev t) i
 |.nilCheck x=>nilF (ev x)
 |.convert _ d x=>yqa P d (ev x)
 |.lookup t x k false=>yqb P hg t (ev x) (ev k)
 |.lookup t x k true=>ymz P hg t (ev x) (ev k)
 |.index t x i=>idxF P t (ev x) (ev i)
 |.entry x=>entF hg (ev x)
 |.makeFunc (.func f) first cap=>if first.size=0 then some (True,.fn f (cap.toList.map ev)) else none
 |.call {callee:= .builtin .len,args:=args,argTypes:=ts}=>match args.toList,ts.toList with
  |[x],[t]=>lenF P t (ev x)
  |_,_=>none
 |.call {callee:= .builtin .cap,args:=args,argTypes:=ts}=>match args.toList,ts.toList with
  |[x],[t]=>capF P t (ev x)
  |_,_=>none
 |.call {callee:= .builtin .min,args:=args, .. }=>match args.toList with
  |[x,y]=>match ev x,ev y with
   |.int .i64 a,.int .i64 b=>some (True,I (if b<a then b else a))
   |_,_=>none
  |_=>none
 |.call {callee:= .builtin .max,args:=args, .. }=>match args.toList with
  |[x,y]=>match ev x,ev y with
   |.int .i64 a,.int .i64 b=>some (True,I (if a<b then b else a))
   |_,_=>none
  |[x,y,z]=>ywb (ev x) (ev y) (ev z)
  |_=>none
 |_=>none
section
variable{P:Program}{w:World}{M:Nat->Prop}{ρ:Nat->Addr}{D:Nat->Prop}{v:Value}
theorem VR.aq{k:IntKind}{n:Int}(h:VR w M ρ D v (.int k n)):v= .int k n:=by cases h;rfl
theorem VR.bool_inv{b:Bool}(h:VR w M ρ D v (.bool b)):v= .bool b:=by cases h;rfl
theorem VR.cZ{s:ByteArray}(h:VR w M ρ D v (.str s)):v= .string s:=by cases h;rfl
theorem VR.cd(h:VR w M ρ D v .nils):v= .slice none 0 0:=by cases h;rfl
theorem VR.fi{id off:Nat}(h:VR w M ρ D v (.ptr id off)):v= .pointer (some ((ρ id).add off))/\D id:=by cases h;exact⟨rfl,‹_›⟩
theorem VR.bD{xs:List AV}(h:VR w M ρ D v (.agg xs)):∃vs:List Value,v= .agg vs.toArray/\vs.length=xs.length/\ ∀(i:Nat) (u:Value) (x:AV),vs[i]?=some u->xs[i]?=some x->VR w M ρ D u x:=by
 cases h;exact⟨_,rfl,‹_›,‹_›⟩
theorem VR.fV{xs:List AV}(h:VR w M ρ D v (.tup xs)):∃vs:List Value,v= .tuple vs.toArray/\vs.length=xs.length/\ ∀(i:Nat) (u:Value) (x:AV),vs[i]?=some u->xs[i]?=some x->VR w M ρ D u x:=by
 cases h;exact⟨_,rfl,‹_›,‹_›⟩
theorem VR.e7{f:Nat}{xs:List AV}(h:VR w M ρ D v (.fn f xs)):∃vs:List Value,v= .func (.func f) #[] vs.toArray/\vs.length=xs.length/\ ∀(i:Nat) (u:Value) (x:AV),vs[i]?=some u->xs[i]?=some x->VR w M ρ D u x:=by
 cases h;exact⟨_,rfl,‹_›,‹_›⟩
def fA(w:World)(M:Nat->Prop)(ρ:Nat->Addr)(D:Nat->Prop)(id:Nat):AObj->Prop
 |.gone=>True
 |.cells t c=>(ρ id).spot=none/\ ∃arr,w.heap[(ρ id).block]?=some (.cells arr t (0,0))/\(ρ id).off+c.len<=arr.size/\ ∀j,j<c.len->∃u,arr[(ρ id).off+j]?=some u/\VR w M ρ D u (c.get j)
 |.imap t l=>(∀k x,(k,x)∈l->okM x=true)/\ ∃es clock,w.heap[(ρ id).block]?=some (.map es clock)/\es.size=l.length/\
  ∀(j:Nat) (e:MapEntry) (k:Int) (x:AV),es[j]?=some e->l[j]?=some (k,x)->e.key= .int .i64 k/\VR w M ρ D e.val x/\t=t
 |.gmap t ck l=>∃es,w.heap[(ρ id).block]?=some (.map es ck)/\es.size=l.length/\ ∀(j:Nat) (e:MapEntry) (q:ByteArray×Nat×AV),es[j]?=some e->l[j]?=some q->KR t q.1 e.key/\e.born=q.2.1/\VR w M ρ D e.val q.2.2
 |.iter dB s sn la=>D dB/\(ρ id).off=0/\w.heap[(ρ id).block]?=some (.mapIter (some (ρ dB).block) s sn.toArray la)
 |.fmap _ c=>∃(l:List (Int×Value×Nat)) (es:Array MapEntry) (clock:Nat),w.heap[(ρ id).block]?=some (.map es clock)/\es.toList=l.map (fun q=>⟨.int .i64 q.1,q.2.1,q.2.2⟩)/\ ∀n:Int,(l.find? fun q=>q.1==n).map (·.2.1)=c.val n
theorem xh{a:Addr}(h:a.spot=none)(n:Nat):a.add n=⟨a.block,a.off+n,none⟩:=by
 cases a with
 |mk b o s=>simp at h;subst h;unfold Addr.add;split<;>simp_all
theorem xg(a:Addr)(i j:Nat):(a.add i).add j=a.add (i+j):=by
 unfold Addr.add;by_cases hi:i=0<;>by_cases hj:j=0<;>simp[hi,hj,Nat.add_assoc]
theorem Jt(a:Addr)(n:Nat):(a.add n).block=a.block:=by unfold Addr.add;split<;>rfl
theorem fA.cell{id t:Nat}{c:Cs}(h:fA w M ρ D id (.cells t c)){j:Nat}(hj:j<c.len):∃u,w.cell? ((ρ id).add j)=some u/\VR w M ρ D u (c.get j):=by
 obtain⟨hs,arr,hb,_,hv⟩:=h;obtain⟨u,hu,hr⟩:=hv j hj;exact⟨u,by rw[xh hs];simp[World.cell?,hb,hu],hr⟩
theorem CJ{t:Nat}{k:TK}(h:tk P t=k)(hk:k≠ .bad):∃d,P.underlying t=some d/\iC d=k:=by
 unfold tk at h
 split at h
 ·exact⟨_,‹_›,h⟩
 ·exact zzA h.symm hk
theorem Yy{d:TypeDesc}{e:Nat}(h:iC d= .slice e):d= .slice e:=by
 unfold iC at h;split at h<;>simp_all
theorem YP{d:TypeDesc}{fs:List (Nat×Nat)}(h:iC d= .struct fs):∃gs:Array Field,d= .struct gs/\gs.toList.map (fun f=>(f.type,f.offset))=fs:=by
 unfold iC at h;split at h<;>simp_all
theorem y1e{d:TypeDesc}{k:IntKind}(h:iC d= .int k):d= .int k:=by
 unfold iC at h;split at h<;>simp_all
theorem y1f{d:TypeDesc}(h:iC d= .str):d= .string:=by
 unfold iC at h;split at h<;>simp_all
theorem XZ{d:TypeDesc}(h:iC d= .bool):d= .bool:=by
 unfold iC at h;split at h<;>simp_all
theorem Sr{t:Nat}(h:tk P t= .bool):P.underlying t=some .bool:=by
 obtain⟨d,h1,h2⟩:=CJ h (by simp);rw[h1,XZ h2]
theorem kl{t e:Nat}(h:tk P t= .slice e):P.underlying t=some (.slice e):=by
 obtain⟨d,h1,h2⟩:=CJ h (by simp);rw[h1,Yy h2]
theorem EW{t:Nat}{fs:List (Nat×Nat)}(h:tk P t= .struct fs):∃gs:Array Field,P.underlying t=some (.struct gs)/\gs.toList.map (fun f=>(f.type,f.offset))=fs:=by
 obtain⟨d,h1,h2⟩:=CJ h (by simp);obtain⟨gs,rfl,h3⟩:=YP h2;exact⟨gs,h1,h3⟩
theorem qg{t:Nat}{k:IntKind}(h:tk P t= .int k):P.underlying t=some (.int k):=by
 obtain⟨d,h1,h2⟩:=CJ h (by simp);rw[h1,y1e h2]
theorem w6{t:Nat}(h:tk P t= .str):P.underlying t=some .string:=by
 obtain⟨d,h1,h2⟩:=CJ h (by simp);rw[h1,y1f h2]
theorem Jc{t n:Nat}(h:tsz P t=some n):∃i,P.info? t=some i/\i.size=n:=by
 unfold tsz at h;simpa using h
theorem Mv{t n:Nat}(h:tby P t=some n):∃i,P.info? t=some i/\i.bytes=n:=by
 unfold tby at h;simpa using h
theorem km{t n:Nat}(h:tsz P t=some n)(w:World):(sizeOf t).run P w= .ok n w:=by
 obtain⟨i,hi,hn⟩:=Jc h;simp[sizeOf,typeInfo,hi,hn]
theorem UR{t:Nat}{fs:List (Nat×Nat)}(h:tk P t= .struct fs)(w:World):(isAgg t).run P w= .ok true w:=by
 obtain⟨gs,hu,_⟩:=EW h;simp[isAgg,run_underlying hu]
theorem y1g{d:TypeDesc}{n e:Nat}(h:iC d= .arr n e):d= .array n e:=by
 unfold iC at h;split at h<;>simp_all
theorem tC{t n e:Nat}(h:tk P t= .arr n e):P.underlying t=some (.array n e):=by
 obtain⟨d,h1,h2⟩:=CJ h (by simp);rw[h1,y1g h2]
theorem UM{t n e:Nat}(h:tk P t= .arr n e)(w:World):(isAgg t).run P w= .ok true w:=by
 simp[isAgg,run_underlying (tC h)]
theorem UP{t:Nat}(h1:tk P t≠ .bad)(h2:∀fs,tk P t≠ .struct fs)(h3:∀n e,tk P t≠ .arr n e)(w:World):(isAgg t).run P w= .ok false w:=by
 unfold tk at h1 h2 h3
 split at h1
 ·rename_i d hd
  simp only[hd]at h2 h3;cases d<;>first|(simp[isAgg,run_underlying hd];done)|(simp[iC]at h1 h2 h3;done)
 ·exact zzA rfl h1
end
section
variable{P:Program}{w:World}{M:Nat->Prop}{ρ:Nat->Addr}{D:Nat->Prop}
theorem AX{n:Int}(h:InI n):IntKind.i64.wrap n=n:=Mw h
theorem Yx{op:BinOp}{k:IntKind}{a b:Int}{p:Prop}{r:AV}(h:binI op k a b=some (p,r))(hp:p)(t:TypeId):
  ∃v,(binOp op t (.int k a) (.int k b)).run P w= .ok v w/\VR w M ρ D v r:=by
 cases op<;>simp only[binI]at h
 case add=>
  split at h
  ·rename_i hk;subst hk;cases h;exact⟨.int .i64 (a+b),by simp only[binOp,Op.intArith];simp;exact AX hp,.int _ _⟩
  ·cases h;exact⟨.int k (k.wrap (a+b)),by simp[binOp,Op.intArith],.int _ _⟩
 case sub=>
  split at h
  ·rename_i hk;subst hk;cases h;exact⟨.int .i64 (a-b),by simp only[binOp,Op.intArith];simp;exact AX hp,.int _ _⟩
  ·cases h;exact⟨.int k (k.wrap (a-b)),by simp[binOp,Op.intArith],.int _ _⟩
 case mul=>
  split at h
  ·rename_i hk;subst hk;cases h;exact⟨.int .i64 (a*b),by simp only[binOp,Op.intArith];simp;exact AX hp,.int _ _⟩
  ·cases h;exact⟨.int k (k.wrap (a*b)),by simp[binOp,Op.intArith],.int _ _⟩
 case quo=>
  split at h
  ·rename_i hk;subst hk;cases h;exact⟨.int .i64 (a.tdiv b),by simp only[binOp,Op.intDiv];simp[hp.1];exact AX hp.2,.int _ _⟩
  ·cases h;exact⟨.int k (k.wrap (a.tdiv b)),by simp[binOp,Op.intDiv,hp],.int _ _⟩
 case rem=>cases h;exact⟨_,by simp[binOp,Op.intDiv,hp],.int _ _⟩
 case eql=>cases h;exact⟨_,by simp[binOp,Op.intCmp],.bool _⟩
 case neq=>cases h;exact⟨_,by simp[binOp,Op.intCmp],.bool _⟩
 case lss=>cases h;exact⟨_,by simp[binOp,Op.intCmp],.bool _⟩
 case leq=>cases h;exact⟨_,by simp[binOp,Op.intCmp],.bool _⟩
 case gtr=>cases h;exact⟨_,by simp[binOp,Op.intCmp],.bool _⟩
 case geq=>cases h;exact⟨_,by simp[binOp,Op.intCmp],.bool _⟩
 case and=>
  split at h
  ·rename_i hk;subst hk;cases h;exact⟨.int .i64 (El a b),by simp only[binOp,Op.intBits];simp[El];rfl,.int _ _⟩
  ·cases h
 all_goals cases h
theorem Ns{t:Nat}(w:World)(h:DW P t=true)(a b c d:Int):(Op.equal t (.agg #[.int .i64 a,.int .i64 b]) (.agg #[.int .i64 c,.int .i64 d])).run P w= .ok (a==c&&b==d) w/\P.eqGuardType P.depth t=false:=by
 unfold DW at h
 split at h
 ·rename_i fs hu
  simp only[zV,Bool.not_eq_true']at h;obtain⟨⟨h1,h2⟩,h3⟩:=h
  split at h3
  ·rename_i f g hf
   simp only[zV,bne_iff_ne,ne_eq,beq_iff_eq]at h3;obtain⟨⟨⟨⟨⟨n1,n2⟩,o1⟩,o2⟩,t1⟩,t2⟩:=h3;refine⟨?_,h2⟩;have DL:P.fieldsOf t=fs:=by simp[Program.fieldsOf,hu]
   split at t1
   ·rename_i k1 u1
    split at t2
    ·rename_i k2 u2
     show (Op.equalIn (9999+1) t _ _).run P w=_;rw[run_equalIn_struct w 9999 t _ _ (by rw[DL];exact hu) h1,DL,hf];have p1:∀x y:Int,(part f.type #[.int .i64 x,.int .i64 y] f.offset).run P w= .ok (.int .i64 x) w:=fun x y=>by simp[part,isAgg,run_underlying u1,o1]
     have p2:∀x y:Int,(part g.type #[.int .i64 x,.int .i64 y] g.offset).run P w= .ok (.int .i64 y) w:=fun x y=>by simp[part,isAgg,run_underlying u2,o2]
     have e1:(Op.equalIn 9999 f.type (.int .i64 a) (.int .i64 c)).run P w= .ok (a==c) w:=run_equalIn_int w 9998 f.type .i64 k1 a c u1;have e2:(Op.equalIn 9999 g.type (.int .i64 b) (.int .i64 d)).run P w= .ok (b==d) w:=run_equalIn_int w 9998 g.type .i64 k2 b d u2;generalize (a==c)=q1 at*;generalize (b==d)=q2 at*;cases q1<;>cases q2<;>simp[Op.eqFields,n1,n2,p1,p2,e1,e2]
    ·cases t2
   ·cases t1
  ·cases h3
 ·cases h
theorem Nt{t:Nat}(w:World)(h:G9 P t=true)(a b e c d f':Int):(Op.equal t (.agg #[.int .i64 a,.int .i64 b,.int .i64 e]) (.agg #[.int .i64 c,.int .i64 d,.int .i64 f'])).run P w= .ok (a==c&&b==d&&e==f') w/\P.eqGuardType P.depth t=false:=by
 unfold G9 at h
 split at h
 ·rename_i fs hu
  simp only[zV,Bool.not_eq_true']at h;obtain⟨⟨h1,h2⟩,h3⟩:=h
  split at h3
  ·rename_i f g i hf
   simp only[zV,bne_iff_ne,ne_eq,beq_iff_eq]at h3;obtain⟨⟨⟨⟨⟨⟨⟨⟨n1,n2⟩,n3⟩,o1⟩,o2⟩,o3⟩,t1⟩,t2⟩,t3⟩:=h3;refine⟨?_,h2⟩;have DL:P.fieldsOf t=fs:=by simp[Program.fieldsOf,hu]
   split at t1
   ·rename_i k1 u1
    split at t2
    ·rename_i k2 u2
     split at t3
     ·rename_i k3 u3
      show (Op.equalIn (9999+1) t _ _).run P w=_;rw[run_equalIn_struct w 9999 t _ _ (by rw[DL];exact hu) h1,DL,hf];have p1:∀x y z:Int,(part f.type #[.int .i64 x,.int .i64 y,.int .i64 z] f.offset).run P w= .ok (.int .i64 x) w:=fun x y z=>by simp[part,isAgg,run_underlying u1,o1]
      have p2:∀x y z:Int,(part g.type #[.int .i64 x,.int .i64 y,.int .i64 z] g.offset).run P w= .ok (.int .i64 y) w:=fun x y z=>by simp[part,isAgg,run_underlying u2,o2]
      have p3:∀x y z:Int,(part i.type #[.int .i64 x,.int .i64 y,.int .i64 z] i.offset).run P w= .ok (.int .i64 z) w:=fun x y z=>by simp[part,isAgg,run_underlying u3,o3]
      have e1:(Op.equalIn 9999 f.type (.int .i64 a) (.int .i64 c)).run P w= .ok (a==c) w:=run_equalIn_int w 9998 f.type .i64 k1 a c u1;have e2:(Op.equalIn 9999 g.type (.int .i64 b) (.int .i64 d)).run P w= .ok (b==d) w:=run_equalIn_int w 9998 g.type .i64 k2 b d u2;have e3:(Op.equalIn 9999 i.type (.int .i64 e) (.int .i64 f')).run P w= .ok (e==f') w:=run_equalIn_int w 9998 i.type .i64 k3 e f' u3
      generalize (a==c)=q1 at*;generalize (b==d)=q2 at*;generalize (e==f')=q3 at*;cases q1<;>cases q2<;>cases q3<;>simp[Op.eqFields,n1,n2,n3,p1,p2,p3,e1,e2,e3]
     ·cases t3
    ·cases t2
   ·cases t1
  ·cases h3
 ·cases h
theorem zt{op:BinOp}{t:TypeId}{x y:Operand}{k k':IntKind}{a b:Int}:(eqGuard op t x y (.int k a) (.int k' b)).run P w= .ok () w:=by
 unfold eqGuard;split<;>simp
theorem UQ{op:BinOp}{t:TypeId}{x y:Operand}{a b:Bool}:(eqGuard op t x y (.bool a) (.bool b)).run P w= .ok () w:=by
 unfold eqGuard;split<;>simp
theorem EZ{op:BinOp}{t:TypeId}{x y:Operand}{a b:ByteArray}:(eqGuard op t x y (.string a) (.string b)).run P w= .ok () w:=by
 unfold eqGuard;split<;>simp
theorem Yw{op:BinOp}{t:TypeId}{u v:Value}{x y:AV}{p:Prop}{r:AV}(hu:VR w M ρ D u x)(hv:VR w M ρ D v y)(h:binF P op t x y=some (p,r))(hp:p)(xo yo:Operand):
  ∃z,(do eqGuard op t xo yo u v;binOp op t u v:Sem Value).run P w= .ok z w/\VR w M ρ D z r:=by
 unfold binF at h
 split at h
 ·rename_i k a k' b
  have e1:=hu.aq;have e2:=hv.aq;subst e1 e2
  split at h
  ·split at h
   ·rename_i hk;subst hk
    cases h;obtain⟨⟨h1,h2⟩,h3⟩:=hp;refine⟨.int .i64 (a*2^b.toNat),?_,.int _ _⟩;have hm:min b.toNat IntKind.i64.bits=b.toNat:=by have:IntKind.i64.bits=64:=rfl;omega
    simp only[Sem.run_bind,zt,Result.andThen_ok,binOp,Op.shift];rw[zL (by omega)];simp only[hm,Sem.run_pure];rw[AX h3]
   ·cases h
  ·split at h
   ·rename_i hk;subst hk
    cases h;obtain⟨h1,h2⟩:=hp;refine⟨.int .i64 (a/2^b.toNat),?_,.int _ _⟩;have hm:min b.toNat IntKind.i64.bits=b.toNat:=by have:IntKind.i64.bits=64:=rfl;omega
    simp only[Sem.run_bind,zt,Result.andThen_ok,binOp,Op.shift];rw[zL (by omega)];simp only[hm,Sem.run_pure];rw[Int.fdiv_eq_ediv_of_nonneg _ (by exact_mod_cast Nat.zero_le (2^b.toNat))]
   ·split at h
    ·rename_i hk;subst hk
     cases h;obtain⟨h1,h2⟩:=hp;refine⟨.int .u64 (a/2^b.toNat),?_,.int _ _⟩;have hm:min b.toNat IntKind.u64.bits=b.toNat:=by have:IntKind.u64.bits=64:=rfl;omega
     simp only[Sem.run_bind,zt,Result.andThen_ok,binOp,Op.shift];rw[zL (by omega)];simp only[hm,Sem.run_pure];rw[Int.fdiv_eq_ediv_of_nonneg _ (by exact_mod_cast Nat.zero_le (2^b.toNat))]
    ·cases h
  ·split at h
   ·rename_i hk;subst hk
    obtain⟨z,hz,hr⟩:=Yx (P:=P) (w:=w) (M:=M) (ρ:=ρ) (D:=D) h hp t;exact⟨z,by simp[zt,hz],hr⟩
   ·cases h
 ·rename_i a b
  have e1:=hu.bool_inv;have e2:=hv.bool_inv;subst e1 e2
  split at h
  ·rename_i hk
   cases h;have he:=run_equal_bool (P:=P) w t a b (Sr hk);exact⟨.bool (a==b),by simp[UQ,binOp,he],.bool _⟩
  ·rename_i hk
   cases h;have he:=run_equal_bool (P:=P) w t a b (Sr hk);exact⟨.bool (a !=b),by simp[UQ,binOp,he,bne],.bool _⟩
  ·cases h
 ·rename_i a b
  have e1:=hu.cZ;have e2:=hv.cZ;subst e1 e2
  split at h
  ·cases h;exact⟨.bool _,by simp[EZ,binOp_string_eql],.bool _⟩
  ·cases h;exact⟨.bool _,by simp[EZ,binOp_string_neq],.bool _⟩
  ·cases h;refine⟨.string (a++b),?_,.str _⟩;simp only[Sem.run_bind,EZ,Result.andThen_ok,binOp,Op.stringOp]
   have:¬((a.size+b.size:Nat):Int)>IntKind.i64.max:=by have:IntKind.i64.max=9223372036854775807:=rfl;omega
   rw[zL this];rfl
  ·cases h
 ·--a slice against nil
  have e2:=hv.cd;subst e2;unfold ygb at h;have hg:∀(ad:Option Addr) (n c:Nat),(eqGuard op t xo yo (.slice ad n c) (.slice none 0 0)).run P w= .ok () w:=fun ad n c=>by unfold eqGuard;split<;>simp
  split at h
  ·rename_i e hk
   cases h;have e1:=hu.cd;subst e1;exact⟨.bool true,by simp[hg,Lib.run_eql_slice_nil w t e none 0 0 0 0 (kl hk)],.bool _⟩
  ·rename_i e hk
   cases h;have e1:=hu.cd;subst e1;exact⟨.bool false,by simp[hg,run_neq_slice_nil_any w t e none 0 0 0 0 (kl hk)],.bool _⟩
  ·rename_i e _ _ _ _ hk
   cases h;cases hu with
   |sl es id off len cap hd hc arr t' ad ha hb hr=>
    exact⟨.bool false,by simp[hg,Lib.run_eql_slice_nil w t e (some ad) _ cap 0 0 (kl hk)],.bool _⟩
  ·rename_i e _ _ _ _ hk
   cases h;cases hu with
   |sl es id off len cap hd hc arr t' ad ha hb hr=>
    exact⟨.bool true,by simp[hg,run_neq_slice_nil_any w t e (some ad) _ cap 0 0 (kl hk)],.bool _⟩
  ·rename_i e _ n _ hk
   cases h;cases hu with
   |ro es len c ad cap x hl hc he h0 kO=>
    obtain⟨aa,rfl,_⟩:=h0 hp;exact⟨.bool false,by simp[hg,Lib.run_eql_slice_nil w t e (some aa) _ cap 0 0 (kl hk)],.bool _⟩
  ·rename_i e _ n _ hk
   cases h;cases hu with
   |ro es len c ad cap x hl hc he h0 kO=>
    obtain⟨aa,rfl,_⟩:=h0 hp;exact⟨.bool true,by simp[hg,run_neq_slice_nil_any w t e (some aa) _ cap 0 0 (kl hk)],.bool _⟩
  ·cases h
 ·--structs of two integers
  unfold yfe at h
  split at h
  ·rename_i a b c d _ _ _ _
   obtain⟨us,rfl,ul,ux⟩:=hu.bD;obtain⟨vs,rfl,vl,vx⟩:=hv.bD;obtain⟨u1,u2,rfl⟩:∃u1 u2,us=[u1,u2]:=by
    match us,ul with
    |[u1,u2],_=>exact⟨u1,u2,rfl⟩
   obtain⟨v1,v2,rfl⟩:∃v1 v2,vs=[v1,v2]:=by
    match vs,vl with
    |[v1,v2],_=>exact⟨v1,v2,rfl⟩
   have g1:=(ux 0 u1 _ rfl rfl).aq;have g2:=(ux 1 u2 _ rfl rfl).aq;have g3:=(vx 0 v1 _ rfl rfl).aq;have g4:=(vx 1 v2 _ rfl rfl).aq;subst g1 g2 g3 g4;have hg:∀(q:DW P t=true) (z1 z2:Array Value),(eqGuard op t xo yo (.agg z1) (.agg z2)).run P w= .ok () w:=fun q z1 z2=>by
    have:=(Ns w q 0 0 0 0).2
    unfold eqGuard;split<;>simp[this]
   split at h
   ·cases h;have he:=(Ns w hp a b c d).1;exact⟨.bool (a==c&&b==d),by simp[hg hp,binOp,he],.bool _⟩
   ·cases h;have he:=(Ns w hp a b c d).1;exact⟨.bool (!(a==c&&b==d)),by simp[hg hp,binOp,he],.bool _⟩
   ·cases h
  ·rename_i a b e c d f _ _ _ _
   obtain⟨us,rfl,ul,ux⟩:=hu.bD;obtain⟨vs,rfl,vl,vx⟩:=hv.bD;obtain⟨u1,u2,u3,rfl⟩:∃u1 u2 u3,us=[u1,u2,u3]:=by
    match us,ul with
    |[u1,u2,u3],_=>exact⟨u1,u2,u3,rfl⟩
   obtain⟨v1,v2,v3,rfl⟩:∃v1 v2 v3,vs=[v1,v2,v3]:=by
    match vs,vl with
    |[v1,v2,v3],_=>exact⟨v1,v2,v3,rfl⟩
   have g1:=(ux 0 u1 _ rfl rfl).aq;have g2:=(ux 1 u2 _ rfl rfl).aq;have g3:=(ux 2 u3 _ rfl rfl).aq;have g4:=(vx 0 v1 _ rfl rfl).aq;have g5:=(vx 1 v2 _ rfl rfl).aq;have g6:=(vx 2 v3 _ rfl rfl).aq;subst g1 g2 g3 g4 g5 g6;have hg:∀(q:G9 P t=true) (z1 z2:Array Value),(eqGuard op t xo yo (.agg z1) (.agg z2)).run P w= .ok () w:=fun q z1 z2=>by
    have:=(Nt w q 0 0 0 0 0 0).2
    unfold eqGuard;split<;>simp[this]
   split at h
   ·cases h;have he:=(Nt w hp a b e c d f).1;exact⟨.bool (a==c&&b==d&&e==f),by simp[hg hp,binOp,he],.bool _⟩
   ·cases h;have he:=(Nt w hp a b e c d f).1;exact⟨.bool (!(a==c&&b==d&&e==f)),by simp[hg hp,binOp,he],.bool _⟩
   ·cases h
  ·cases h
theorem XY{op:UnOp}{u:Value}{x:AV}{p:Prop}{r:AV}(hu:VR w M ρ D u x)(h:unF op x=some (p,r))(hp:p):
  ∃z,(Op.unary op u).run P w= .ok z w/\VR w M ρ D z r:=by
 unfold unF at h
 split at h
 ·cases h;have e1:=hu.aq;subst e1;exact⟨.int .i64 _,by simp only[Op.unary,Op.intArith];simp;simpa using AX hp,.int _ _⟩
 ·cases h;have e1:=hu.aq;subst e1;exact⟨.int .u64 _,by simp only[Op.unary,Op.intArith];rfl,.int _ _⟩
 ·cases h;have e1:=hu.bool_inv;subst e1;exact⟨.bool _,by simp[Op.unary],.bool _⟩
 ·cases h
theorem Nu{a:Addr}{x:Nat->Value}:∀(n i:Nat) (acc:Array Value),(∀j,i<=j->j<i+n->w.cell? (a.add j)=some (x j))->
  (loadCellsFrom a i n acc).run P w= .ok (acc++((List.range n).map fun j=>x (i+j)).toArray) w
 |0,i,acc,_=>by simp[loadCellsFrom]
 |n+1,i,acc,h=>by
  have h0:=h i (zA _) (by omega);have ih:=Nu n (i+1) (acc.push (x i)) fun j h1 h2=>h j (by omega) (by omega);simp only[loadCellsFrom];simp[load,Sem.run,h0];rw[ih];simp[List.range_succ_eq_map,Nat.add_assoc,Nat.add_comm 1,Function.comp_def]
theorem UD{t n:Nat}{c:Cs}{off:Nat}{a:Addr}(hg:(isAgg t).run P w= .ok true w)(hn:tsz P t=some n)(hp:off+n<=c.len)
  (hc:∀j,j<c.len->∃u,w.cell? (a.add j)=some u/\VR w M ρ D u (c.get j)):
  ∃z,(loadVar t (a.add off)).run P w= .ok z w/\VR w M ρ D z (.agg ((List.range n).map fun j=>c.get (off+j))):=by
 have hx:∀j,∃u,j<n->w.cell? ((a.add off).add j)=some u/\VR w M ρ D u (c.get (off+j)):=fun j=>by
  by_cases hj:j<n
  ·obtain⟨u,h1,h2⟩:=hc (off+j) (by omega);exact⟨u,fun _=>⟨by rw[xg];exact h1,h2⟩⟩
  ·exact⟨undef,fun h=>zzA h hj⟩
 obtain⟨x,hx⟩:=Classical.axiomOfChoice hx;have hl:=Nu (P:=P) (w:=w) (a:=a.add off) (x:=x) n 0 #[] fun j _ hj=>(hx j (by omega)).1;refine⟨.agg ((List.range n).map x).toArray,?_,.agg _ _ (by simp) fun i u y hu hy=>?_⟩
 ·simp[loadVar,hg,km hn,loadCells,hl]
 ·simp only[zR]at hu hy;by_cases hi:i<n
  ·simp[List.getElem?_range hi]at hu hy;subst hu hy;exact(hx i hi).2
  ·simp[zS (l:=List.range n) (i:=i) (by simp;omega)]at hu
theorem Je{t:Nat}{d:TypeDesc}(hu:P.underlying t=some d)(hn:tsz P t=none):False:=by
 unfold tsz at hn;simp[Program.underlying]at hu hn;rw[hn]at hu;simp at hu
theorem UC{t:Nat}{c:Cs}{off:Nat}{p:Prop}{r:AV}{a:Addr}(h:ymv P t c off=some (p,r))(hp:p)
  (hc:∀j,j<c.len->∃u,w.cell? (a.add j)=some u/\VR w M ρ D u (c.get j)):
  ∃z,(loadVar t (a.add off)).run P w= .ok z w/\VR w M ρ D z r:=by
 unfold ymv at h
 split at h
 ·rename_i fs n hk hn
  cases h;exact UD (UR hk w) hn hp hc
 ·rename_i m e n hk hn
  cases h;exact UD (UM hk w) hn hp hc
 ·cases h
 ·cases h
 ·rename_i h2 h4 h3 h1
  cases h;obtain⟨u,h5,h6⟩:=hc off hp;refine⟨u,?_,h6⟩;have uK:∀fs,tk P t≠ .struct fs:=fun fs hs=>by
   cases hn:tsz P t with
   |none=>obtain⟨gs,hu,_⟩:=EW hs;exact Je hu hn
   |some n=>first|exact h1 _ _ hs hn|exact h2 _ _ hs hn|exact h3 _ _ hs hn|exact h4 _ _ hs hn
  have O9:∀m e,tk P t≠ .arr m e:=fun m e hs=>by
   cases hn:tsz P t with
   |none=>exact Je (tC hs) hn
   |some n=>first|exact h1 _ _ _ hs hn|exact h2 _ _ _ hs hn|exact h3 _ _ _ hs hn|exact h4 _ _ _ hs hn
  have hb:tk P t≠ .bad:=fun hb=>by first|exact h1 hb|exact h2 hb|exact h3 hb|exact h4 hb
  simp[loadVar,UP hb uK O9,load,Sem.run,h5]
theorem VR.qo{v:Value}{c:Cs}{off:Nat}(h:VR w M ρ D v (.rp c off)):∃a:Addr,v= .pointer (some (a.add off))/\ ∀j,j<c.len->∃u,w.cell? (a.add j)=some u/\VR w M ρ D u (c.get j):=by
 cases h with
 |rp c off a x hb hm hj hv=>
  exact⟨a,rfl,fun j DH=>⟨x j,hj j DH,(hv j DH).carry (zA _) (fun b _ hm=>⟨rfl,hm⟩) (fun id h=>h.elim)⟩⟩
theorem UB{hg:Nat->Option AObj}(jw:∀id ob,hg id=some ob->fA w M ρ D id ob){t:Nat}{u:Value}{x:AV}{p:Prop}{r:AV}(hu:VR w M ρ D u x)(h:ymw P hg t x=some (p,r))(hp:p):
  ∃z,(Instr.loadAt t u).run P w= .ok z w/\VR w M ρ D z r:=by
 unfold ymw at h
 split at h
 ·rename_i id off
  split at h
  ·rename_i t' c ho
   obtain⟨rfl,_⟩:=hu.fi;obtain⟨z,hz,hr⟩:=UC h hp (a:=ρ id) fun j hj=>(jw id _ ho).cell hj;exact⟨z,by simp[Instr.loadAt,Instr.sureAddr,hz],hr⟩
  ·cases h
 ·obtain⟨a,rfl,hc⟩:=hu.qo;obtain⟨z,hz,hr⟩:=UC h hp (a:=a) hc;exact⟨z,by simp[Instr.loadAt,Instr.sureAddr,hz],hr⟩
 ·cases h
theorem MJ{s:Nat}{fs:List (Nat×Nat)}{f ft o:Nat}(h:tk P s= .struct fs)(hf:fs[f]?=some (ft,o)):∃gs g,P.underlying s=some (.struct gs)/\gs[f]?=some g/\g.type=ft/\g.offset=o:=by
 obtain⟨gs,hu,he⟩:=EW h;subst he;simp only[zR]at hf;obtain⟨g,hg,e⟩:=zzB.1 hf;simp only[Prod.mk.injEq]at e;exact⟨gs,g,hu,by simpa using hg,e.1,e.2⟩
theorem Zd{s f:Nat}{u:Value}{x:AV}{p:Prop}{r:AV}(hu:VR w M ρ D u x)(h:yf2 P s x f=some (p,r)):
  ∃z,(Instr.fieldAt s u f).run P w= .ok z w/\VR w M ρ D z r:=by
 unfold yf2 at h
 split at h
 ·rename_i fs hk
  split at h
  ·rename_i ft o hf
   split at h
   ·rename_i m hm
    obtain⟨gs,g,h1,h2,h3,h4⟩:=MJ hk hf;subst h3 h4;have hz:=km hm w
    split at h
    ·cases h;obtain⟨rfl,hd⟩:=hu.fi;exact⟨_,by simp[Instr.fieldAt,run_underlying h1,h2,Instr.sureAddr,fieldPlace,hz];rfl,by rw[xg];exact .ptr _ _ hd⟩
    ·cases h;cases hu with
     |rp c off a x hb Gq hj hv=>
      exact⟨_,by simp[Instr.fieldAt,run_underlying h1,h2,Instr.sureAddr,fieldPlace,hz];rfl,by rw[xg];exact .rp _ _ a x hb Gq hj hv⟩
    ·cases h
   ·cases h
  ·cases h
 ·cases h
theorem UA{t off n:Nat}{vs:List Value}{xs:List AV}(hg:(isAgg t).run P w= .ok true w)(hn:tsz P t=some n)(hl:vs.length=xs.length)(hx:∀(i:Nat) (v:Value) (x:AV),vs[i]?=some v->xs[i]?=some x->VR w M ρ D v x):
  ∃z,(part t vs.toArray off).run P w= .ok z w/\VR w M ρ D z (.agg ((xs.drop off).take n)):=by
 refine⟨.agg ((vs.drop off).take n).toArray,?_,.agg _ _ (by simp[hl]) fun i v x hv hy=>?_⟩
 ·simp[part,hg,km hn]
 ·by_cases hi:i<n
  ·simp[hi]at hv hy;exact hx _ v x hv hy
  ·simp[List.getElem?_take,hi]at hv
theorem Uz{t off:Nat}{vs:List Value}{xs:List AV}{p:Prop}{r:AV}(hl:vs.length=xs.length)(hx:∀(i:Nat) (v:Value) (x:AV),vs[i]?=some v->xs[i]?=some x->VR w M ρ D v x)
  (h:ymx P t xs off=some (p,r)):∃z,(part t vs.toArray off).run P w= .ok z w/\VR w M ρ D z r:=by
 unfold ymx at h
 split at h
 ·rename_i fs n hk hn
  cases h;exact UA (UR hk w) hn hl hx
 ·rename_i m e n hk hn
  cases h;exact UA (UM hk w) hn hl hx
 ·cases h
 ·cases h
 ·rename_i h2 h4 h3 h1
  split at h
  ·rename_i x rY
   cases h;have aC:off<xs.length:=by
    rcases zY off xs.length with h|h
    ·exact h
    ·rw[zS h]at rY;cases rY
   have F2:vs[off]?=some (vs[off]'(by omega)):=zJ (by omega);refine⟨vs[off]'(by omega),?_,hx off _ _ F2 rY⟩;have uK:∀fs,tk P t≠ .struct fs:=fun fs hs=>by
    cases hn:tsz P t with
    |none=>obtain⟨gs,hu,_⟩:=EW hs;exact Je hu hn
    |some n=>first|exact h1 _ _ hs hn|exact h2 _ _ hs hn|exact h3 _ _ hs hn|exact h4 _ _ hs hn
   have O9:∀m e,tk P t≠ .arr m e:=fun m e hs=>by
    cases hn:tsz P t with
    |none=>exact Je (tC hs) hn
    |some n=>first|exact h1 _ _ _ hs hn|exact h2 _ _ _ hs hn|exact h3 _ _ _ hs hn|exact h4 _ _ _ hs hn
   have hb:tk P t≠ .bad:=fun hb=>by first|exact h1 hb|exact h2 hb|exact h3 hb|exact h4 hb
   simp[part,UP hb uK O9,F2]
  ·cases h
theorem Y6{s f:Nat}{u:Value}{x:AV}{p:Prop}{r:AV}(hu:VR w M ρ D u x)(h:ymy P s x f=some (p,r)):
  ∃z,(Instr.field s u f).run P w= .ok z w/\VR w M ρ D z r:=by
 unfold ymy at h
 split at h
 ·rename_i fs hk
  split at h
  ·rename_i ft o hf
   split at h
   ·obtain⟨gs,g,h1,h2,h3,h4⟩:=MJ hk hf;subst h3 h4;obtain⟨vs,rfl,hl,hx⟩:=hu.bD;obtain⟨z,hz,hr⟩:=Uz hl hx h;exact⟨z,by simp[Instr.field,run_underlying h1,h2,asAgg,hz],hr⟩
   ·cases h
  ·cases h
 ·cases h
theorem Zc{t:Nat}{u v:Value}{x i:AV}{p:Prop}{r:AV}(hu:VR w M ρ D u x)(hv:VR w M ρ D v i)(h:yeq P t x i=some (p,r))(hp:p):
  ∃z,(Instr.indexAt t u v).run P w= .ok z w/\VR w M ρ D z r:=by
 unfold yeq at h
 split at h
 ·rename_i e k n hk
  have e1:=hv.aq;subst e1;have ht:=kl hk
  split at h
  ·rename_i es eJ id off len eR
   split at h
   ·rename_i heq
    cases h;subst heq;cases hu with
    |sl es id off len cap hd hc arr t ad ha hb hr=>
     have hz:=km eR w;have B7:=ha (by omega);subst B7;exact⟨_,by simp[Instr.indexAt,asIntOf,run_underlying ht,hp.1,hp.2,hz];rfl,by rw[xg];exact .ptr _ _ hd⟩
   ·cases h
  ·rename_i es eJ len c eR
   split at h
   ·rename_i heq
    cases h;subst heq;cases hu with
    |ro es len c ad cap x hl hc he h0 hv=>
     have hz:=km eR w;obtain⟨a,rfl,hb,hm,hj⟩:=h0 (by omega);exact⟨_,by simp[Instr.indexAt,asIntOf,run_underlying ht,hp.1,hp.2,hz],.rp c _ a x hb hm hj hv⟩
   ·cases h
  ·cases h
 ·rename_i m e k n hk
  have e1:=hv.aq;subst e1;have ht:=tC hk
  split at h
  ·rename_i es id off eR
   cases h;obtain⟨rfl,hd⟩:=hu.fi;have hz:=km eR w;exact⟨_,by simp[Instr.indexAt,asIntOf,run_underlying ht,Instr.sureAddr,hp.1,hp.2,hz];rfl,by rw[xg];exact .ptr _ _ hd⟩
  ·rename_i es c off eR
   cases h;cases hu with
   |rp c off a x hb hm hj hv=>
    have hz:=km eR w;exact⟨_,by simp[Instr.indexAt,asIntOf,run_underlying ht,Instr.sureAddr,hp.1,hp.2,hz];rfl,by rw[xg];exact .rp c _ a x hb hm hj hv⟩
  ·cases h
 ·cases h
theorem Yv{t ty:Nat}{u:Value}{x:AV}{p:Prop}{r:AV}(hu:VR w M ρ D u x)(h:lenF P t x=some (p,r)):
  ∃z,(Builtin.len_ #[t] ty #[u]).run P w= .ok z w/\VR w M ρ D z r:=by
 unfold lenF at h
 split at h
 ·rename_i e hk;cases h;have e1:=hu.cd;subst e1
  exact⟨_,by simp[Builtin.len_,run_underlying (kl hk),goInt],.int _ _⟩
 ·rename_i e _ _ _ n hk;cases h
  cases hu with
  |sl es id off len cap hd hc arr t ad ha hb hr=>exact⟨_,by simp[Builtin.len_,run_underlying (kl hk),goInt],.int _ _⟩
 ·rename_i e _ _ _ hk;cases h
  cases hu with
  |ro es len c ad cap x hl hc he h0 hv=>exact⟨_,by simp[Builtin.len_,run_underlying (kl hk),goInt],.int _ _⟩
 ·rename_i s hk;cases h;have e1:=hu.cZ;subst e1
  exact⟨_,by simp[Builtin.len_,run_underlying (w6 hk),goInt],.int _ _⟩
 ·cases h
theorem Yu{t ty:Nat}{u:Value}{x:AV}{p:Prop}{r:AV}(hu:VR w M ρ D u x)(h:capF P t x=some (p,r)):
  ∃z,(Builtin.cap_ #[t] ty #[u]).run P w= .ok z w/\VR w M ρ D z r:=by
 unfold capF at h
 split at h
 ·rename_i e hk;cases h;have e1:=hu.cd;subst e1
  exact⟨_,by simp[Builtin.cap_,run_underlying (kl hk),goInt],.int _ _⟩
 ·cases h
theorem Ze{i:Nat}{u:Value}{x:AV}{p:Prop}{r:AV}(hu:VR w M ρ D u x)(h:yh6 x i=some (p,r)):
  ∃z,(Instr.extract u i).run P w= .ok z w/\VR w M ρ D z r:=by
 unfold yh6 at h
 split at h
 ·rename_i xs
  split at h
  ·rename_i y hy
   cases h;obtain⟨vs,rfl,hl,hx⟩:=hu.fV;have aC:i<xs.length:=by
    rcases zY i xs.length with h|h
    ·exact h
    ·rw[zS h]at hy;cases hy
   have F2:vs[i]?=some (vs[i]'(by omega)):=zJ (by omega);exact⟨vs[i]'(by omega),by simp[Instr.extract,F2],hx i _ _ F2 hy⟩
  ·cases h
 ·cases h
theorem YO{s d:Nat}{u:Value}{x:AV}{p:Prop}{r:AV}(hs:∃e,P.underlying s=some e)(hu:VR w M ρ D u x)(h:yqa P d x=some (p,r))(hp:p):
  ∃z,(convert s d u).run P w= .ok z w/\VR w M ρ D z r:=by
 obtain⟨e,he⟩:=hs;unfold yqa at h
 split at h
 ·rename_i k k' n hk
  have e1:=hu.aq;subst e1
  split at h
  ·rename_i hh
   obtain⟨rfl,rfl⟩:=hh;cases h;exact⟨.int .i64 n,by simp[convert,run_underlying he,run_underlying (qg hk),Conv.intToInt];exact AX hp,.int _ _⟩
  ·cases h;exact⟨_,by simp[convert,run_underlying he,run_underlying (qg hk),Conv.intToInt],.int _ _⟩
 ·rename_i s' hk
  cases h;have e1:=hu.cZ;subst e1;exact⟨_,by simp[convert,run_underlying he,run_underlying (w6 hk)],.str _⟩
 ·cases h
theorem Bf(n:Int):∀(l:List (Int×Value×Nat)) (i:Nat),∃r,Instr.findNow (.int .i64) (.int .i64 n) (l.map fun q=>(⟨.int .i64 q.1,q.2.1,q.2.2⟩:MapEntry)) i=some r/\r.map (·.2)=(l.find? fun q=>q.1==n).map (·.2.1)/\
  ∀j v,r=some (j,v)->i<=j/\ ∃q,l[j-i]?=some q/\q.1=n/\q.2.1=v/\ ∀m<j-i,∀q',l[m]?=some q'->q'.1≠n
 |[],i=>⟨none,rfl,rfl,fun _ _ h=>by cases h⟩
 |q::l,i=>by
  simp only[List.map_cons,Instr.findNow,Instr.sameNow,if_true];by_cases e:n=q.1
  ·refine⟨some (i,q.2.1),?_,?_,?_⟩
   ·have:(n==q.1)=true:=by simpa using e
    simp only[this]
   ·have:(q.1==n)=true:=by simpa using e.symm
    simp[List.find?_cons,this]
   ·intro j v h;cases h;exact⟨zA _,q,by simp,e.symm,rfl,fun m hm=>by omega⟩
  ·obtain⟨r,h1,h2,h3⟩:=Bf n l (i+1);refine⟨r,?_,?_,?_⟩
   ·have:(n==q.1)=false:=by simpa using e
    simp only[this];exact h1
   ·have:(q.1==n)=false:=by simpa using fun h=>e h.symm
    rw[h2];simp[List.find?_cons,this]
   ·intro j v h;obtain⟨g1,q',g2,g3,g4,g5⟩:=h3 j v h;refine⟨by omega,q',by rw[show j-i=(j-(i+1))+1 by omega];simpa using g2,g3,g4,fun m hm Fq hq=>?_⟩;cases m with
    |zero=>simp only[List.getElem?_cons_zero,Option.some.injEq]at hq;subst hq;exact fun h=>e h.symm
    |succ m=>exact g5 m (by omega) Fq (by simpa using hq)
theorem VR.gf{v:Value}{id:Nat}(h:VR w M ρ D v (.mp id)):v= .map (some (ρ id).block):=by cases h;rfl
theorem qf{t kt et:Nat}(h:tk P t= .map kt et):P.underlying t=some (.map kt et):=by
 unfold tk at h
 split at h
 ·rename_i d hd;rw[hd];cases d<;>simp_all[iC]
 ·cases h
theorem Jb{t:Nat}{x:AV}(h:Dc P t=some x):∃v,(zeroValue t).run P w= .ok v w/\absV v=x:=by
 unfold Dc at h;obtain⟨v,h1,h2⟩:=zzB.1 h;obtain⟨i,h3,h4⟩:=Option.bind_eq_some_iff.1 h1;exact⟨v,by simp[zeroValue,typeInfo,program,Sem.run,h3,h4],h2⟩
theorem Ti{v:Value}{k:IntKind}{n:Int}(h:absV v= .int k n):v= .int k n:=by
 unfold absV at h;split at h<;>simp_all
theorem XX{v:Value}{b:Bool}(h:absV v= .bool b):v= .bool b:=by
 unfold absV at h;split at h<;>simp_all
theorem Jd:∀(el:List MapEntry) (l:List (Int×AV)),el.length=l.length->(∀(j:Nat) (e:MapEntry) (k:Int) (x:AV),el[j]?=some e->l[j]?=some (k,x)->e.key= .int .i64 k/\VR w M ρ D e.val x)->
  ∃l':List (Int×Value×Nat),el=l'.map (fun q=>⟨.int .i64 q.1,q.2.1,q.2.2⟩)/\l'.length=l.length/\ ∀(j:Nat) (q:Int×Value×Nat) (k:Int) (x:AV),l'[j]?=some q->l[j]?=some (k,x)->q.1=k/\VR w M ρ D q.2.1 x
 |[],[],_,_=>⟨[],rfl,rfl,fun j q k x h=>by simp at h⟩
 |[],_::_,h,_=>by simp at h
 |_::_,[],h,_=>by simp at h
 |e::el,(k,x)::l,hl,h=>by
  obtain⟨l',h1,h2,h3⟩:=Jd el l (by simpa using hl) (fun j e k x g1 g2=>h (j+1) e k x (by simpa using g1) (by simpa using g2));obtain⟨g1,g2⟩:=h 0 e k x rfl rfl;refine⟨(k,e.val,e.born)::l',?_,by simp[h2],fun j q k' x' q1 q2=>?_⟩
  ·rw[List.map_cons,<-h1,<-g1]
  ·cases j with
   |zero=>simp only[List.getElem?_cons_zero,Option.some.injEq]at q1 q2;subst q1;cases q2;exact⟨rfl,g2⟩
   |succ j=>exact h3 j q k' x' (by simpa using q1) (by simpa using q2)
theorem Js(n:Int):∀(l':List (Int×Value×Nat)) (l:List (Int×AV)),l'.length=l.length->(∀(j:Nat) (q:Int×Value×Nat) (k:Int) (x:AV),l'[j]?=some q->l[j]?=some (k,x)->q.1=k/\VR w M ρ D q.2.1 x)->
  (jW l n=none->(l'.find? fun q=>q.1==n)=none)/\ ∀x,jW l n=some x->∃v,(l'.find? fun q=>q.1==n).map (·.2.1)=some v/\VR w M ρ D v x
 |[],[],_,_=>⟨fun _=>rfl,fun x h=>by simp[jW]at h⟩
 |[],_::_,h,_=>by simp at h
 |_::_,[],h,_=>by simp at h
 |q::l',(k,x)::l,hl,h=>by
  obtain⟨i1,i2⟩:=Js n l' l (by simpa using hl) (fun j e k x g1 g2=>h (j+1) e k x (by simpa using g1) (by simpa using g2));obtain⟨g1,g2⟩:=h 0 q k x rfl rfl;unfold jW at i1 i2⊢;simp only[List.find?_cons,g1];by_cases e:k=n
  ·have:(k==n)=true:=by simpa using e
   simp only[this,Option.map_some,reduceCtorEq,Option.some.injEq];exact⟨fun h=>h.elim,fun y hy=>⟨q.2.1,rfl,hy▸g2⟩⟩
  ·have:(k==n)=false:=by simpa using e
   simp only[this];exact⟨i1,i2⟩
theorem U7(a b:ByteArray):(a==b)=decide (a=b):=by
 obtain⟨x⟩:=a;obtain⟨y⟩:=b;show (x==y)=_;by_cases h:x=y
 ·subst h;simp
 ·have:ByteArray.mk x≠ByteArray.mk y:=fun e=>h (ByteArray.mk.inj e)
  simp[h]
theorem MI(s:ByteArray):∀(el:List MapEntry) (l:List (ByteArray×Nat×AV)) (i:Nat),el.length=l.length->(∀(j:Nat) (e:MapEntry) (q:ByteArray×Nat×AV),el[j]?=some e->l[j]?=some q->e.key= .string q.1)->
  (n9 l s=none/\Instr.findNow .string (.string s) el i=some none)\/ ∃(j:Nat) (e:MapEntry) (q:ByteArray×Nat×AV),el[j]?=some e/\l[j]?=some q/\n9 l s=some q/\q.1=s/\(∀m<j,∀q',l[m]?=some q'->q'.1≠s)/\Instr.findNow .string (.string s) el i=some (some (i+j,e.val))
 |[],[],i,_,_=> .inl ⟨rfl,rfl⟩
 |[],_::_,_,h,_=>by simp at h
 |_::_,[],_,h,_=>by simp at h
 |e::el,q::l,i,hl,h=>by
  have h0:=h 0 e q rfl rfl;have e1:Instr.findNow .string (.string s) (e::el) i=if s=q.1 then some (some (i,e.val)) else Instr.findNow .string (.string s) el (i+1):=by
   simp only[Instr.findNow,h0,Instr.sameNow,U7];by_cases hs:s=q.1
   ·rw[zM hs,decide_eq_true hs]
   ·rw[zL hs,decide_eq_false hs]
  have e2:n9 (q::l) s=if q.1=s then some q else n9 l s:=by
   unfold n9;rw[List.find?_cons];by_cases hs:q.1=s
   ·rw[zM hs,decide_eq_true hs]
   ·rw[zL hs,decide_eq_false hs]
  rw[e1,e2];by_cases hs:q.1=s
  ·rw[zM hs,zM hs.symm];exact .inr ⟨0,e,q,rfl,rfl,rfl,hs,fun m hm=>by omega,rfl⟩
  ·rw[zL hs,zL (fun g=>hs g.symm)];rcases MI s el l (i+1) (by simpa using hl) (fun j e' q' g1 g2=>h (j+1) e' q' (by simpa using g1) (by simpa using g2)) with ⟨g1,g2⟩|⟨j,e',q',g1,g2,g3,g4,g5,g6⟩
   ·exact .inl ⟨g1,g2⟩
   ·refine .inr ⟨j+1,e',q',by simpa using g1,by simpa using g2,g3,g4,fun m hm q2 p6=>?_,by rw[g6];congr 3;omega⟩;cases m with
    |zero=>simp only[List.getElem?_cons_zero,Option.some.injEq]at p6;subst p6;exact hs
    |succ m=>exact g5 m (by omega) q2 (by simpa using p6)
theorem Ul{kt:Nat}(dT:tk P kt= .str)(b:Bool)(s:ByteArray):(Instr.checkKey b 10000 kt (.string s)).run P w= .ok () w:=by
 unfold Instr.checkKey;simp[run_underlying (w6 dT)]
theorem EN{M:Nat->Prop}{D:Nat->Prop}{t:Nat}{z:List AV}(h:tze P t=some z):∃v,(zeroValue t).run P w= .ok v w/\VR w M ρ D v (zrG z):=by
 unfold tze at h;obtain⟨v,h1,h2⟩:=zzB.1 h;obtain⟨i,h3,h4⟩:=Option.bind_eq_some_iff.1 h1;refine⟨v,by simp[zeroValue,typeInfo,program,Sem.run,h3,h4],?_⟩;subst h2;unfold zrG
 split
 ·rename_i x y r e
  cases v with
  |agg a=>
   obtain⟨l⟩:=a;simp only[Value.cells]at e;rw[<-e];refine .agg l _ (by simp) fun i u q hu hq=>?_;simp only[zR]at hq;rw[hu]at hq;cases hq;exact IK u
  |_=>simp[Value.cells]at e
 ·exact .any _
theorem VR.qi{M:Nat->Prop}{D:Nat->Prop}{u v:Value}{x y:AV}(h1:VR w M ρ D u x)(h2:VR w M ρ D v y):VR w M ρ D (.tuple #[u,v]) (.tup [x,y]):=
 .tup [u,v] [x,y] rfl fun i a b ha hb=>by
  match i,ha,hb with
  |0,ha,hb=>cases ha;cases hb;exact h1
  |1,ha,hb=>cases ha;cases hb;exact h2
theorem VR.pair{M:Nat->Prop}{D:Nat->Prop}(x y:Int):VR w M ρ D (.agg #[.int .i64 x,.int .i64 y]) (.agg [I x,I y]):=
 .agg [.int .i64 x,.int .i64 y] [I x,I y] rfl fun i a b ha hb=>by
  match i,ha,hb with
  |0,ha,hb=>cases ha;cases hb;exact .int _ _
  |1,ha,hb=>cases ha;cases hb;exact .int _ _
theorem ZO{M:Nat->Prop}{D:Nat->Prop}{t:Nat}{k:ByteArray}{v:Value}(h:KR t k v):VR w M ρ D v (gkA t k):=by
 unfold gkA;by_cases ht:t<1000000000
 ·rw[zM ht,h.str ht];exact .str _
 ·rw[zL ht,(h.pr ht).2];exact VR.pair _ _
theorem VR.jE{M:Nat->Prop}{D:Nat->Prop}{v:Value}{x y:Int}(h:VR w M ρ D v (.agg [I x,I y])):v= .agg #[.int .i64 x,.int .i64 y]:=by
 obtain⟨vs,rfl,hl,hx⟩:=h.bD
 match vs,hl,hx with
 |[a,b],_,hx=>
  have h0:=(hx 0 a _ rfl rfl).aq;have h1:=(hx 1 b _ rfl rfl).aq;rw[h0,h1]
abbrev kM(a b:Int):Value:= .agg #[.int .i64 a,.int .i64 b]
theorem y4y{e:Nat}(he:tk P e= .int .i64)(d:Nat)(a c:Int):(Op.equalIn (d+1) e (.int .i64 a) (.int .i64 c)).run P w= .ok (a==c) w:=by
 unfold Op.equalIn;simp[run_underlying (qg he)]
theorem y4z{e:Nat}(he:tk P e= .int .i64):(isAgg e).run P w= .ok false w:=by
 simp[isAgg,run_underlying (qg he)]
theorem Jn{e:Nat}(he:tk P e= .int .i64){cs:Array Value}{i:Nat}{v:Value}(h:cs[i]?=some v):(part e cs i).run P w= .ok v w:=by
 unfold part;simp[y4z he,h]
theorem y40{kt e:Nat}(hk:tk P kt= .arr 2 e)(he:tk P e= .int .i64)(hs:tsz P e=some 1)(d:Nat)(a b c f:Int):(Op.equalIn (d+2) kt (kM a b) (kM c f)).run P w= .ok (a==c&&b==f) w:=by
 have p1:∀(x y:Int),(part e #[Value.int .i64 x,Value.int .i64 y] 0).run P w= .ok (.int .i64 x) w:=fun x y=>Jn he rfl;have p2:∀(x y:Int),(part e #[Value.int .i64 x,Value.int .i64 y] 1).run P w= .ok (.int .i64 y) w:=fun x y=>Jn he rfl;have q:=fun x y=>y4y (P:=P) (w:=w) he d x y;unfold Op.equalIn;simp[run_underlying (tC hk),km hs,p1,p2,q,Std.Legacy.Range.forIn_eq_forIn_range',List.range']
 by_cases h1:a=c<;>by_cases h2:b=f<;>simp[h1,h2]
theorem Uk{kt e:Nat}(hk:tk P kt= .arr 2 e)(he:tk P e= .int .i64)(hs:tsz P e=some 1)(t:Bool)(a b:Int):(Instr.checkKey t 10000 kt (kM a b)).run P w= .ok () w:=by
 have p1:∀(x y:Int),(part e #[Value.int .i64 x,Value.int .i64 y] 0).run P w= .ok (.int .i64 x) w:=fun x y=>Jn he rfl;have p2:∀(x y:Int),(part e #[Value.int .i64 x,Value.int .i64 y] 1).run P w= .ok (.int .i64 y) w:=fun x y=>Jn he rfl;have q:∀x:Int,(Instr.checkKey t 9999 e (.int .i64 x)).run P w= .ok () w:=fun x=>by
  unfold Instr.checkKey;simp[run_underlying (qg he)]
 unfold Instr.checkKey;simp[run_underlying (tC hk),km hs,p1,p2,q,Std.Legacy.Range.forIn_eq_forIn_range',List.range']
theorem y1h{kt e:Nat}(hk:tk P kt= .arr 2 e)(he:tk P e= .int .i64)(hs:tsz P e=some 1)(a b c f:Int):(Op.equal kt (kM a b) (kM c f)).run P w= .ok (decide (en a b=en c f)) w:=by
 unfold Op.equal;rw[show Op.maxDepth=9998+2 from rfl,y40 hk he hs];congr 1;by_cases h1:a=c<;>by_cases h2:b=f<;>simp[y1d,h1,h2]
theorem MH{kt e0:Nat}(hk:tk P kt= .arr 2 e0)(he:tk P e0= .int .i64)(hs:tsz P e0=some 1)(a b:Int):∀(el:List MapEntry) (l:List (ByteArray×Nat×AV)) (i:Nat),el.length=l.length->(∀(j:Nat) (e:MapEntry) (q:ByteArray×Nat×AV),el[j]?=some e->l[j]?=some q->q.1=en (gm q.1).1 (gm q.1).2/\e.key=kM (gm q.1).1 (gm q.1).2)->
  (n9 l (en a b)=none/\(Instr.findAsking kt (kM a b) el i).run P w= .ok none w)\/ ∃(j:Nat) (e:MapEntry) (q:ByteArray×Nat×AV),el[j]?=some e/\l[j]?=some q/\n9 l (en a b)=some q/\q.1=en a b/\(∀m<j,∀q',l[m]?=some q'->q'.1≠en a b)/\(Instr.findAsking kt (kM a b) el i).run P w= .ok (some (i+j,e.val)) w
 |[],[],i,_,_=> .inl ⟨rfl,by simp[Instr.findAsking]⟩
 |[],_::_,_,h,_=>by simp at h
 |_::_,[],_,h,_=>by simp at h
 |e::el,q::l,i,hl,h=>by
  obtain⟨h0,h1⟩:=h 0 e q rfl rfl;have hq:=y1h (P:=P) (w:=w) hk he hs a b (gm q.1).1 (gm q.1).2;rw[<-h0,<-h1]at hq;have e2:n9 (q::l) (en a b)=if q.1=en a b then some q else n9 l (en a b):=by
   unfold n9;rw[List.find?_cons];by_cases hs:q.1=en a b
   ·rw[zM hs,decide_eq_true hs]
   ·rw[zL hs,decide_eq_false hs]
  by_cases a7:q.1=en a b
  ·right;refine⟨0,e,q,rfl,rfl,by rw[e2,zM a7],a7,fun m hm=>by omega,?_⟩;unfold Instr.findAsking;rw[decide_eq_true a7.symm]at hq;simp[hq]
  ·rw[decide_eq_false fun h=>a7 h.symm]at hq;have aU:(Instr.findAsking kt (kM a b) (e::el) i).run P w=(Instr.findAsking kt (kM a b) el (i+1)).run P w:=by
    conv=>lhs;unfold Instr.findAsking
    simp[hq]
   rcases MH hk he hs a b el l (i+1) (by simpa using hl) (fun j e' q' g1 g2=>h (j+1) e' q' (by simpa using g1) (by simpa using g2)) with ⟨g1,g2⟩|⟨j,e',q',g1,g2,g3,g4,g5,g6⟩
   ·exact .inl ⟨by rw[e2,zL a7,g1],by rw[aU,g2]⟩
   ·refine .inr ⟨j+1,e',q',by simpa using g1,by simpa using g2,by rw[e2,zL a7,g3],g4,fun m hm Fq vU=>?_,?_⟩
    ·match m,hm,vU with
     |0,_,vU=>cases vU;exact a7
     |m+1,hm,vU=>exact g5 m (by omega) Fq (by simpa using vU)
    ·rw[aU,g6,show i+1+j=i+(j+1) by omega]
theorem Jm{kt e0:Nat}(hk:tk P kt= .arr 2 e0)(a b:Int)(el:List MapEntry):(Instr.findKey kt (kM a b) el).run P w=(Instr.findAsking kt (kM a b) el 0).run P w:=by
 unfold Instr.findKey;cases el with
 |nil=>simp[run_underlying (tC hk),Instr.findNow,Instr.findAsking]
 |cons e el=>simp[run_underlying (tC hk),Instr.findNow,Instr.sameNow]
theorem Uy{hg:Nat->Option AObj}(jw:∀id ob,hg id=some ob->fA w M ρ D id ob){t kt et id:Nat}(fu:tk P t= .map kt et)(dT:tk P kt= .str){s:ByteArray}{tt ck:Nat}{l:List (ByteArray×Nat×AV)}(ho:hg id=some (.gmap tt ck l))(ht:tt<1000000000)(ok:Bool):
  (∀q,n9 l s=some q->∃z,(Instr.lookup t (.map (some (ρ id).block)) (.string s) ok).run P w= .ok (if ok then .tuple #[z,.bool true] else z) w/\VR w M ρ D z q.2.2)/\
  (n9 l s=none->∀zv,(zeroValue et).run P w= .ok zv w->(Instr.lookup t (.map (some (ρ id).block)) (.string s) ok).run P w= .ok (if ok then .tuple #[zv,.bool false] else zv) w):=by
 obtain⟨es,h1,h2,h3⟩:=jw id _ ho;have gC:=Ul (P:=P) (w:=w) dT es.isEmpty s;have hf:=MI s es.toList l 0 (by simpa using h2) (fun j e q g1 g2=>(h3 j e q (by simpa using g1) g2).1.str ht);refine⟨fun q hq=>?_,fun hn zv hz=>?_⟩
 ·rcases hf with ⟨g1,_⟩|⟨j,e,q',g1,g2,g3,_,_,g6⟩
  ·rw[g1]at hq;cases hq
  ·rw[g3]at hq;cases hq;have gK:(Instr.findKey kt (.string s) es.toList).run P w= .ok (some (0+j,e.val)) w:=by
    unfold Instr.findKey;simp[run_underlying (w6 dT),g6]
   refine⟨e.val,?_,(h3 j e q (by simpa using g1) g2).2.2⟩;unfold Instr.lookup;simp only[Sem.run_bind,run_underlying (qf fu),Result.andThen_ok];simp only[getObj,Sem.run,h1,Sem.run_bind,Result.andThen_ok,Sem.run_pure,gC,gK]
 ·rcases hf with ⟨_,g2⟩|⟨j,e,q',_,_,g3,_⟩
  ·have gK:(Instr.findKey kt (.string s) es.toList).run P w= .ok none w:=by
    unfold Instr.findKey;simp[run_underlying (w6 dT),g2]
   unfold Instr.lookup;simp only[Sem.run_bind,run_underlying (qf fu),Result.andThen_ok];simp only[getObj,Sem.run,h1,Sem.run_bind,Result.andThen_ok,Sem.run_pure,gC,gK,hz]
  ·rw[hn]at g3;cases g3
theorem Ux{hg:Nat->Option AObj}(jw:∀id ob,hg id=some ob->fA w M ρ D id ob){t kt et id:Nat}(fu:tk P t= .map kt et){e0:Nat}(dT:tk P kt= .arr 2 e0)(he:tk P e0= .int .i64)(fJ:tsz P e0=some 1){a b:Int}{tt ck:Nat}{l:List (ByteArray×Nat×AV)}(ho:hg id=some (.gmap tt ck l))(ht:¬tt<1000000000)(ok:Bool):
  (∀q,n9 l (en a b)=some q->∃z,(Instr.lookup t (.map (some (ρ id).block)) (kM a b) ok).run P w= .ok (if ok then .tuple #[z,.bool true] else z) w/\VR w M ρ D z q.2.2)/\
  (n9 l (en a b)=none->∀zv,(zeroValue et).run P w= .ok zv w->(Instr.lookup t (.map (some (ρ id).block)) (kM a b) ok).run P w= .ok (if ok then .tuple #[zv,.bool false] else zv) w):=by
 obtain⟨es,h1,h2,h3⟩:=jw id _ ho;have gC:=Uk (P:=P) (w:=w) dT he fJ es.isEmpty a b;have hf:=MH (P:=P) (w:=w) dT he fJ a b es.toList l 0 (by simpa using h2) (fun j e q g1 g2=>(h3 j e q (by simpa using g1) g2).1.pr ht);refine⟨fun q hq=>?_,fun hn zv hz=>?_⟩
 ·rcases hf with ⟨g1,_⟩|⟨j,e,q',g1,g2,g3,_,_,g6⟩
  ·rw[g1]at hq;cases hq
  ·rw[g3]at hq;cases hq;have gK:(Instr.findKey kt (kM a b) es.toList).run P w= .ok (some (0+j,e.val)) w:=by
    rw[Jm dT,g6]
   refine⟨e.val,?_,(h3 j e q (by simpa using g1) g2).2.2⟩;unfold Instr.lookup;simp only[Sem.run_bind,run_underlying (qf fu),Result.andThen_ok];simp only[getObj,Sem.run,h1,Sem.run_bind,Result.andThen_ok,Sem.run_pure,gC,gK]
 ·rcases hf with ⟨_,g2⟩|⟨j,e,q',_,_,g3,_⟩
  ·have gK:(Instr.findKey kt (kM a b) es.toList).run P w= .ok none w:=by
    rw[Jm dT,g2]
   unfold Instr.lookup;simp only[Sem.run_bind,run_underlying (qf fu),Result.andThen_ok];simp only[getObj,Sem.run,h1,Sem.run_bind,Result.andThen_ok,Sem.run_pure,gC,gK,hz]
  ·rw[hn]at g3;cases g3
theorem Y5{hg:Nat->Option AObj}(jw:∀id ob,hg id=some ob->fA w M ρ D id ob){t:Nat}{u v:Value}{x k:AV}{p:Prop}{r:AV}(hu:VR w M ρ D u x)(hv:VR w M ρ D v k)(h:ymz P hg t x k=some (p,r))(hp:p):
  ∃z,(Instr.lookup t u v true).run P w= .ok z w/\VR w M ρ D z r:=by
 unfold ymz at h
 split at h
 case h_2=>cases h
 rename_i kt et fu
 unfold yqp at h
 split at h
 case h_4=>cases h
 case h_3=>
  rename_i _ _ _ e id a b dT
  have eu:=hu.gf;have ev:=hv.jE;subst eu ev;unfold yh7 at h
  split at h
  case h_2=>cases h
  rename_i he fJ
  unfold yv7 at h
  split at h
  case h_2=>cases h
  rename_i t' ck l ho
  split at h
  case isTrue=>cases h
  rename_i ht
  obtain⟨k1,k2⟩:=Ux (P:=P) jw fu dT he fJ (a:=a) (b:=b) ho ht true
  split at h
  ·rename_i q hq
   cases h;obtain⟨z,z1,z2⟩:=k1 q hq;exact⟨_,by simpa using z1,VR.qi z2 (.bool _)⟩
  ·rename_i hq
   split at h
   case h_2=>cases h
   rename_i zz tO
   cases h;obtain⟨zv,hz,yv⟩:=EN (w:=w) (M:=M) (ρ:=ρ) (D:=D) tO;exact⟨_,by simpa using k2 hq zv hz,VR.qi yv (.bool _)⟩
 ·rename_i _ _ _ id n dT
  have eu:=hu.gf;have ev:=hv.aq;subst eu ev;unfold yv9 at h
  split at h
  case h_3=>cases h
  case h_2=>
   rename_i t' l ho
   obtain⟨_,es,ck,h1,h2,h3⟩:=jw id _ ho;obtain⟨l',e1,e2,e3⟩:=Jd es.toList l (by simpa using h2) (fun j e k x g1 g2=>by have:=h3 j e k x (by simpa using g1) g2;exact⟨this.1,this.2.1⟩);obtain⟨f1,f2⟩:=Js n l' l e2 e3;obtain⟨r',g1,g2,_⟩:=Bf n l' 0;rw[<-e1]at g1;have gC:(Instr.checkKey es.isEmpty 10000 kt (.int .i64 n)).run P w= .ok () w:=by
    unfold Instr.checkKey;simp[run_underlying (qg dT)]
   have gK:(Instr.findKey kt (.int .i64 n) es.toList).run P w= .ok r' w:=by
    unfold Instr.findKey;simp[run_underlying (qg dT),g1]
   split at h
   ·rename_i x hx
    cases h;obtain⟨v,v1,v2⟩:=f2 _ hx;rw[v1]at g2;refine⟨.tuple #[v,.bool true],?_,VR.qi v2 (.bool _)⟩;unfold Instr.lookup;simp only[Sem.run_bind,run_underlying (qf fu),Result.andThen_ok];simp only[getObj,Sem.run,h1,Sem.run_bind,Result.andThen_ok,Sem.run_pure,gC,gK];cases r' with
    |none=>cases g2
    |some q=>simp at g2;simp[g2]
   ·rename_i hx
    split at h
    case h_2=>cases h
    rename_i zz tO
    cases h;obtain⟨zv,hz,yv⟩:=EN (w:=w) (M:=M) (ρ:=ρ) (D:=D) tO;rw[f1 hx]at g2;refine⟨.tuple #[zv,.bool false],?_,VR.qi yv (.bool _)⟩;unfold Instr.lookup;simp only[Sem.run_bind,run_underlying (qf fu),Result.andThen_ok];simp only[getObj,Sem.run,h1,Sem.run_bind,Result.andThen_ok,Sem.run_pure,gC,gK];cases r' with
    |none=>simp[hz]
    |some q=>cases g2
  rename_i t' g ho
  split at h
  case h_2=>cases h
  rename_i z hz
  cases h;obtain⟨zv,nq,iE⟩:=Jb (w:=w) hz
  have:=Ti iE
  subst this;obtain⟨l,es,ck,h1,h2,h3⟩:=jw id _ ho;obtain⟨r',g1,g2,_⟩:=Bf n l 0;rw[<-h2]at g1;rw[h3 n]at g2;have gC:(Instr.checkKey es.isEmpty 10000 kt (.int .i64 n)).run P w= .ok () w:=by
   unfold Instr.checkKey;simp[run_underlying (qg dT)]
  have gK:(Instr.findKey kt (.int .i64 n) es.toList).run P w= .ok r' w:=by
   unfold Instr.findKey;simp[run_underlying (qg dT),g1]
  simp only[MF.val]at g2;refine⟨.tuple #[.int .i64 ((g n).getD z),.bool (g n).isSome],?_,VR.qi (.int _ _) (.bool _)⟩;unfold Instr.lookup;simp only[Sem.run_bind,run_underlying (qf fu),Result.andThen_ok];simp only[getObj,Sem.run,h1,Sem.run_bind,Result.andThen_ok,Sem.run_pure,gC,gK];cases r' with
  |none=>
   cases hg:g n with
   |none=>simp[nq]
   |some y=>rw[hg]at g2;simp at g2
  |some q=>
   cases hg:g n with
   |none=>rw[hg]at g2;simp at g2
   |some y=>rw[hg]at g2;simp at g2;simp[g2]
 ·rename_i _ _ _ id s dT
  have eu:=hu.gf;have ev:=hv.cZ;subst eu ev;unfold ywa at h
  split at h
  case h_2=>cases h
  rename_i t' ck l ho
  split at h
  case isFalse=>cases h
  rename_i ht
  obtain⟨k1,k2⟩:=Uy (P:=P) jw fu dT (s:=s) ho ht true
  split at h
  ·rename_i q hq
   cases h;obtain⟨z,z1,z2⟩:=k1 q hq;exact⟨_,by simpa using z1,VR.qi z2 (.bool _)⟩
  ·rename_i hq
   split at h
   case h_2=>cases h
   rename_i zz tO
   cases h;obtain⟨zv,hz,yv⟩:=EN (w:=w) (M:=M) (ρ:=ρ) (D:=D) tO;exact⟨_,by simpa using k2 hq zv hz,VR.qi yv (.bool _)⟩
theorem YN{hg:Nat->Option AObj}(jw:∀id ob,hg id=some ob->fA w M ρ D id ob){t:Nat}{u v:Value}{x k:AV}{p:Prop}{r:AV}(hu:VR w M ρ D u x)(hv:VR w M ρ D v k)(h:yqb P hg t x k=some (p,r))(hp:p):
  ∃z,(Instr.lookup t u v false).run P w= .ok z w/\VR w M ρ D z r:=by
 unfold yqb at h
 split at h
 case h_2=>cases h
 rename_i kt et fu
 unfold yv8 at h
 split at h
 case h_4=>cases h
 case h_3=>
  rename_i _ _ _ e id a b dT
  have eu:=hu.gf;have ev:=hv.jE;subst eu ev;unfold yh7 at h
  split at h
  case h_2=>cases h
  rename_i he fJ
  unfold yv6 at h
  split at h
  case h_2=>cases h
  rename_i t' ck l ho
  split at h
  case isTrue=>cases h
  rename_i ht
  obtain⟨k1,k2⟩:=Ux (P:=P) jw fu dT he fJ (a:=a) (b:=b) ho ht false
  split at h
  ·rename_i q hq
   cases h;obtain⟨z,z1,z2⟩:=k1 q hq;exact⟨_,by simpa using z1,z2⟩
  ·rename_i hq
   split at h
   case h_2=>cases h
   rename_i zz tO
   cases h;obtain⟨zv,hz,yv⟩:=EN (w:=w) (M:=M) (ρ:=ρ) (D:=D) tO;exact⟨_,by simpa using k2 hq zv hz,yv⟩
 case h_2=>
  rename_i _ _ _ id s dT
  have eu:=hu.gf;have ev:=hv.cZ;subst eu ev;unfold yv5 at h
  split at h
  case h_2=>cases h
  rename_i t' ck l ho
  split at h
  case isFalse=>cases h
  rename_i ht
  split at h
  case h_2=>cases h
  rename_i q hq
  cases h;obtain⟨z,z1,z2⟩:=(Uy (P:=P) jw fu dT (s:=s) ho ht false).1 q hq;exact⟨z,by simpa using z1,z2⟩
 rename_i _ _ _ id n dT
 have eu:=hu.gf;have ev:=hv.aq;subst eu ev;have key:∀(t':Nat) (c:MF) (zv:Value),hg id=some (.fmap t' c)->(zeroValue et).run P w= .ok zv w->(Instr.lookup t (.map (some (ρ id).block)) (.int .i64 n) false).run P w= .ok ((c.val n).getD zv) w:=by
  intro t' c zv ho hz;obtain⟨l,es,ck,h1,h2,h3⟩:=jw id _ ho;obtain⟨r',g1,g2,_⟩:=Bf n l 0;rw[<-h2]at g1;rw[h3 n]at g2;have gC:(Instr.checkKey es.isEmpty 10000 kt (.int .i64 n)).run P w= .ok () w:=by
   unfold Instr.checkKey;simp[run_underlying (qg dT)]
  have gK:(Instr.findKey kt (.int .i64 n) es.toList).run P w= .ok r' w:=by
   unfold Instr.findKey;simp[run_underlying (qg dT),g1]
  unfold Instr.lookup;simp only[Sem.run_bind,run_underlying (qf fu),Result.andThen_ok];simp only[getObj,Sem.run,h1,Sem.run_bind,Result.andThen_ok,Sem.run_pure,gC,gK];cases r' with
  |none=>
   simp only[Option.map_none]at g2;simp[hz,<-g2]
  |some q=>
   simp only[Option.map_some]at g2;simp[<-g2]
 unfold yv4 at h
 split at h
 ·rename_i t' g ho
  split at h
  ·rename_i z hz
   cases h;obtain⟨zv,nq,iE⟩:=Jb (w:=w) hz
   have:=Ti iE
   subst this;refine⟨_,key t' (.ints g) _ ho nq,?_⟩;simp only[MF.val];cases g n<;>exact .int _ _
  ·cases h
 ·rename_i t' g ho
  split at h
  ·rename_i z hz
   cases h;obtain⟨zv,nq,iE⟩:=Jb (w:=w) hz
   have:=XX iE
   subst this;refine⟨_,key t' (.bools g) _ ho nq,?_⟩;simp only[MF.val];cases g n<;>exact .bool _
  ·cases h
 ·rename_i t' g ho
  split at h
  case h_2=>cases h
  rename_i x y hz
  cases h;obtain⟨zv,nq,iE⟩:=EN (w:=w) (M:=M) (ρ:=ρ) (D:=D) hz;refine⟨_,key t' (.pairs g) _ ho nq,?_⟩;simp only[MF.val];cases g n with
  |none=>exact iE
  |some q=>exact VR.pair q.1 q.2
 ·rename_i t' l ho
  obtain⟨_,es,ck,h1,h2,h3⟩:=jw id _ ho;obtain⟨l',e1,e2,e3⟩:=Jd es.toList l (by simpa using h2) (fun j e k x g1 g2=>by have:=h3 j e k x (by simpa using g1) g2;exact⟨this.1,this.2.1⟩);obtain⟨f1,f2⟩:=Js n l' l e2 e3;obtain⟨r',g1,g2,_⟩:=Bf n l' 0;rw[<-e1]at g1;have gC:(Instr.checkKey es.isEmpty 10000 kt (.int .i64 n)).run P w= .ok () w:=by
   unfold Instr.checkKey;simp[run_underlying (qg dT)]
  have gK:(Instr.findKey kt (.int .i64 n) es.toList).run P w= .ok r' w:=by
   unfold Instr.findKey;simp[run_underlying (qg dT),g1]
  have aU:∀zv,(zeroValue et).run P w= .ok zv w\/(∃q,r'=some q)->(Instr.lookup t (.map (some (ρ id).block)) (.int .i64 n) false).run P w= .ok ((r'.map (·.2)).getD zv) w:=by
   intro zv hz;unfold Instr.lookup;simp only[Sem.run_bind,run_underlying (qf fu),Result.andThen_ok];simp only[getObj,Sem.run,h1,Sem.run_bind,Result.andThen_ok,Sem.run_pure,gC,gK];cases r' with
   |none=>
    rcases hz with hz|⟨q,hz⟩
    ·simp[hz]
    ·cases hz
   |some q=>simp
  unfold yv3 at h
  split at h
  ·rename_i x hx
   cases h;obtain⟨v,v1,v2⟩:=f2 _ hx;rw[v1]at g2;refine⟨v,?_,v2⟩;cases r' with
   |none=>cases g2
   |some q=>rw[aU v (.inr ⟨q,rfl⟩),g2];rfl
  ·rename_i hx
   split at h
   ·rename_i hz
    cases h;obtain⟨zv,nq,iE⟩:=Jb (w:=w) hz;rw[f1 hx]at g2;refine⟨zv,by rw[aU zv (.inl nq),g2];rfl,?_⟩
    have:=IK (w:=w) (M:=M) (ρ:=ρ) (D:=D) zv
    rw[iE]at this;exact this
   ·cases h
 ·cases h
end
structure js where
 w:World
 g:Nat->Value
def gv(w0:js)(a:Act)(t:Nat):Value:=if t<1000000 then a.tmps.getD t undef else w0.g t
def evA(fr:Fr):Operand->AV
 |.tmp t=>if t<1000000 then fget fr t else .any
 |.const v=>absV v
 |.func f=> .fn f []
 |.global _=> .any
def MM(Mx:Nat->Prop)(H:Hp)(ρ:Nat->Addr)(b:Nat):Prop:=Mx b\/ ∃id o,hget H id=some o/\o.live=true/\(ρ id).block=b
def DD(H:Hp)(id:Nat):Prop:=∃o,hget H id=some o
structure aO(B:Nat)(w0:js)(Mx:Nat->Prop)(N:Nat)(w:World)(ρ:Nat->Addr)(fr:Fr)(H:Hp)(a:Act):Prop where
 below:Below B w0.w w
 hB:B<=w.heap.size
 mx:∀b,Mx b->b<w.heap.size
 own:∀id o,hget H id=some o->o.live=true->B<=(ρ id).block/\ ¬Mx (ρ id).block
 objs:∀id o,hget H id=some o->fA w (MM Mx H ρ) ρ (DD H) id o
 inj:∀id o bO o',hget H id=some o->o.live=true->hget H bO=some o'->o'.live=true->(ρ id).block=(ρ bO).block->id=bO
 frv:∀t,VR w (MM Mx H ρ) ρ (DD H) (gv w0 a t) (fget fr t)
 defers:a.defers=[]/\ ∀w',Below B w0.w w'->Good w'
 size:a.tmps.size=N/\N<=1000000
section
variable{P:Program}{w:World}{M:Nat->Prop}{ρ:Nat->Addr}{D:Nat->Prop}
theorem XW{hg:Nat->Option AObj}(jw:∀id ob,hg id=some ob->fA w M ρ D id ob){o:Oper}{a:Act}{ev:Operand->AV}(dE:∀x,VR w M ρ D (a.eval x) (ev x))
  {p:Prop} {r:AV} (hc:∀s d x,o.op= .convert s d x->∃e,P.underlying s=some e) (h:opF P hg ev o.op=some (p,r)) (hp:p):
  ∃v,(execOp a.eval o).run P w= .ok (.value v) w/\VR w M ρ D v r:=by
 cases ho:o.op with
 |move x=>rw[ho]at h;simp only[opF]at h;cases h;exact⟨a.eval x,by simp[execOp,ho],dE x⟩
 |assign x=>rw[ho]at h;simp only[opF]at h;cases h;exact⟨a.eval x,by simp[execOp,ho],dE x⟩
 |pick c x y=>
  rw[ho]at h;simp only[opF]at h
  split at h
  ·rename_i b hb
   cases h;have e:=(hb▸dE c).bool_inv;cases b
   ·exact⟨a.eval y,by simp[execOp,ho,e,asBool],by simpa using dE y⟩
   ·exact⟨a.eval x,by simp[execOp,ho,e,asBool],by simpa using dE x⟩
  ·cases h
 |load t x=>
  rw[ho]at h;simp only[opF]at h;obtain⟨z,hz,hr⟩:=UB (P:=P) jw (dE x) h hp;exact⟨z,by simp[execOp,ho,hz],hr⟩
 |binOp op t x y t'=>
  rw[ho]at h;simp only[opF]at h;obtain⟨z,hz,hr⟩:=Yw (P:=P) (dE x) (dE y) h hp x y;exact⟨z,by
   simp only[execOp,ho];simp only[Sem.run_bind]at hz⊢;rw[hz];simp,hr⟩
 |unOp op t x=>
  rw[ho]at h;simp only[opF]at h;obtain⟨z,hz,hr⟩:=XY (P:=P) (dE x) h hp;exact⟨z,by simp[execOp,ho,hz],hr⟩
 |fieldAddr s x f=>
  rw[ho]at h;simp only[opF]at h;obtain⟨z,hz,hr⟩:=Zd (P:=P) (dE x) h;exact⟨z,by simp[execOp,ho,hz],hr⟩
 |field s x f=>
  rw[ho]at h;simp only[opF]at h;obtain⟨z,hz,hr⟩:=Y6 (P:=P) (dE x) h;exact⟨z,by simp[execOp,ho,hz],hr⟩
 |indexAddr t x i=>
  rw[ho]at h;simp only[opF]at h;obtain⟨z,hz,hr⟩:=Zc (P:=P) (dE x) (dE i) h hp;exact⟨z,by simp[execOp,ho,hz],hr⟩
 |extract t i=>
  rw[ho]at h;simp only[opF]at h;obtain⟨z,hz,hr⟩:=Ze (P:=P) (dE t) h;exact⟨z,by simp[execOp,ho,hz],hr⟩
 |nilCheck x=>
  rw[ho]at h;simp only[opF,nilF]at h;have hx:=dE x
  split at h
  ·rename_i id off hh;cases h;rw[hh]at hx
   exact⟨a.eval x,by obtain⟨e,_⟩:=hx.fi;simp[execOp,ho,e],hx⟩
  ·rename_i c off hh;cases h;rw[hh]at hx
   exact⟨a.eval x,by obtain⟨ad,e,_⟩:=hx.qo;simp[execOp,ho,e],hx⟩
  ·rename_i f xs hh;cases h;rw[hh]at hx
   exact⟨a.eval x,by obtain⟨vs,e,_⟩:=hx.e7;simp[execOp,ho,e],hx⟩
  ·cases h
 |convert s d x=>
  rw[ho]at h;simp only[opF]at h;obtain⟨z,hz,hr⟩:=YO (P:=P) (hc s d x ho) (dE x) h hp;exact⟨z,by simp[execOp,ho,hz],hr⟩
 |lookup t x k ok=>
  rw[ho]at h;cases ok with
  |true=>
   simp only[opF]at h;obtain⟨z,hz,hr⟩:=Y5 jw (dE x) (dE k) h hp;exact⟨z,by simp[execOp,ho,hz],hr⟩
  |false=>
   simp only[opF]at h;obtain⟨z,hz,hr⟩:=YN jw (dE x) (dE k) h hp;exact⟨z,by simp[execOp,ho,hz],hr⟩
 |entry x=>
  rw[ho]at h;simp only[opF]at h;unfold entF at h
  split at h
  case h_2=>cases h
  rename_i id hx
  have eu:=(hx▸dE x).fi.1;rw[show (ρ id).add 0=ρ id from rfl]at eu;unfold entI at h
  split at h
  case h_2=>cases h
  rename_i dB since sn la hoi
  obtain⟨_,i2,i3⟩:=jw id _ hoi;unfold entG at h
  split at h
  case h_2=>cases h
  rename_i t' ck l vX
  obtain⟨es,g1,g2,g3⟩:=jw dB _ vX
  split at h
  case h_2=>cases h
  rename_i b hb
  split at h
  case h_2=>cases h
  rename_i q hq
  cases h;subst hp;have hf:∀(el:List MapEntry) (l:List (ByteArray×Nat×AV)),el.length=l.length->(∀(j:Nat) (e:MapEntry) (q:ByteArray×Nat×AV),el[j]?=some e->l[j]?=some q->KR t' q.1 e.key/\e.born=q.2.1/\VR w M ρ D e.val q.2.2)->l.find? (fun q=>q.2.1==b)=some q->∃e,el.find? (fun e=>e.born==b)=some e/\KR t' q.1 e.key/\VR w M ρ D e.val q.2.2:=by
   intro el
   induction el with
   |nil=>intro l hl _ uO;cases l<;>simp_all
   |cons e el ih=>
    intro l hl hh uO;cases l with
    |nil=>simp at hl
    |cons q0 l=>
     obtain⟨k1,k2,k3⟩:=hh 0 e q0 rfl rfl;simp only[List.find?_cons]at uO⊢;rw[k2];by_cases hc:(q0.2.1==b)=true
     ·rw[hc]at uO⊢;simp only[Option.some.injEq]at uO;subst uO;exact⟨e,rfl,k1,k3⟩
     ·simp only[Bool.not_eq_true]at hc;rw[hc]at uO⊢;exact ih l (by simpa using hl) (fun j e' q' h1 h2=>hh (j+1) e' q' (by simpa using h1) (by simpa using h2)) uO
  obtain⟨e,f1,f2,f3⟩:=hf es.toList l (by simpa using g2) (fun j e q h1 h2=>g3 j e q (by simpa using h1) h2) hq;refine⟨.tuple #[e.key,e.val],?_,VR.qi (ZO f2) f3⟩;have f1':es.find? (fun e=>e.born==b)=some e:=by rw[<-f1,Array.find?_toList]
  have s8:sn.toArray.back?=some b:=by simpa using hb
  have o9:(ρ id)=⟨(ρ id).block,0,(ρ id).spot⟩:=by cases hz:ρ id;rw[hz]at i2;simp at i2;subst i2;rfl
  rw[o9]at eu;simp only[execOp,ho,eu];simp[Instr.entry,getObj,Sem.run,i3,s8,g1,f1']
 |index t x i=>
  rw[ho]at h;simp only[opF]at h;unfold idxF at h
  split at h
  case h_3=>cases h
  case h_2=>
   rename_i m e xs k n fu hx hi
   split at h
   case h_2=>cases h
   rename_i es eR
   unfold idxP at h
   split at h
   case h_2=>cases h
   rename_i p' r' Wq
   cases h;obtain⟨vs,eu,hl,hh⟩:=(hx▸dE x).bD;have ev:=(hi▸dE i).aq;obtain⟨z,hz,hr⟩:=Uz (P:=P) hl hh Wq;refine⟨z,?_,hr⟩;simp only[execOp,ho,eu,ev];simp[Instr.index,asIntOf,run_underlying (tC fu),hp.1.1,hp.1.2,km eR w,hz]
  rename_i s k n fu hx hi
  cases h;have eu:=(hx▸dE x).cZ;have ev:=(hi▸dE i).aq;refine⟨.int .u8 (s.data.toList.getD n.toNat 0).toNat,?_,.int _ _⟩;simp only[execOp,ho,eu,ev];have hb:(if 0<=n then s[n.toNat]? else none)=some (s.data.toList.getD n.toNat 0):=by
   rw[zM hp.1];have aC:n.toNat<s.size:=by omega
   have Pd:n.toNat<s.data.toList.length:=by simpa using aC
   rw[getElem?_pos s n.toNat aC];congr 1;simp only[zB,zJ Pd,Option.getD_some];rfl
  simp[Instr.index,asIntOf,run_underlying (w6 fu),hb]
 |makeFunc fn first cap=>
  rw[ho]at h;cases fn with
  |func f=>
   simp only[opF]at h
   split at h
   ·rename_i hf
    cases h;have hf':first= #[]:=Array.eq_empty_of_size_eq_zero hf
    subst hf';refine⟨.func (.func f) #[] (cap.toList.map a.eval).toArray,by simp[execOp,ho,Instr.makeFunc];obtain⟨l⟩:=cap;simp,.fn f _ _ (by simp) fun i v x hv hx=>?_⟩;simp only[zR]at hv hx;cases hi:cap.toList[i]? with
    |none=>rw[hi]at hv;cases hv
    |some y=>rw[hi]at hv hx;cases hv;cases hx;exact dE y
   ·cases h
  |_=>simp[opF]at h
 |call c=>
  rw[ho]at h;obtain⟨callee,args,ts⟩:=c;cases callee with
  |builtin b=>
   cases b with
   |len=>
    simp only[opF]at h
    split at h
    ·rename_i x t h1 h2
     have e1:args= #[x]:=by simpa using congrArg List.toArray h1
     have e2:ts= #[t]:=by simpa using congrArg List.toArray h2
     subst e1 e2;obtain⟨z,hz,hr⟩:=Yv (P:=P) (ty:=o.type) (dE x) h;exact⟨z,by simp[execOp,ho,resolve,invoke,builtin,hz],hr⟩
    ·cases h
   |cap=>
    simp only[opF]at h
    split at h
    ·rename_i x t h1 h2
     have e1:args= #[x]:=by simpa using congrArg List.toArray h1
     have e2:ts= #[t]:=by simpa using congrArg List.toArray h2
     subst e1 e2;obtain⟨z,hz,hr⟩:=Yu (P:=P) (ty:=o.type) (dE x) h;exact⟨z,by simp[execOp,ho,resolve,invoke,builtin,hz],hr⟩
    ·cases h
   |min=>
    simp only[opF]at h
    split at h
    ·rename_i x y h1
     have e1:args= #[x,y]:=by simpa using congrArg List.toArray h1
     subst e1
     split at h
     ·rename_i p q hx hy
      cases h;have ex:=(hx▸dE x).aq;have ey:=(hy▸dE y).aq;exact⟨.int .i64 (if q<p then q else p),by simp[execOp,ho,resolve,invoke,builtin,Builtin.min_,Builtin.min2,ex,ey,List.foldlM],.int _ _⟩
     ·cases h
    ·cases h
   |max=>
    simp only[opF]at h
    split at h
    ·rename_i x y h1
     have e1:args= #[x,y]:=by simpa using congrArg List.toArray h1
     subst e1
     split at h
     ·rename_i p q hx hy
      cases h;have ex:=(hx▸dE x).aq;have ey:=(hy▸dE y).aq;exact⟨.int .i64 (if p<q then q else p),by simp[execOp,ho,resolve,invoke,builtin,Builtin.max_,Builtin.max2,ex,ey,List.foldlM],.int _ _⟩
     ·cases h
    ·rename_i x y z h1
     have e1:args= #[x,y,z]:=by simpa using congrArg List.toArray h1
     subst e1;unfold ywb at h
     split at h
     ·rename_i p q r hx hy hz
      cases h;have ex:=(hx▸dE x).aq;have ey:=(hy▸dE y).aq;have ez:=(hz▸dE z).aq;exact⟨.int .i64 (if (if p<q then q else p)<r then r else if p<q then q else p),by simp[execOp,ho,resolve,invoke,builtin,Builtin.max_,Builtin.max2,ex,ey,ez,List.foldlM],.int _ _⟩
     ·cases h
    ·cases h
   |_=>simp[opF]at h
  |_=>simp[opF]at h
 |_=>rw[ho]at h;simp[opF]at h
end
section
variable{B:Nat}{w0:js}{Mx:Nat->Prop}{N:Nat}{w:World}{ρ:Nat->Addr}{fr:Fr}{H:Hp}{a:Act}
theorem aO.ev(h:aO B w0 Mx N w ρ fr H a)(x:Operand):VR w (MM Mx H ρ) ρ (DD H) (a.eval x) (evA fr x):=by
 cases x with
 |tmp t=>
  have:=h.frv t
  simp only[evA]
  split
  ·rename_i ht;simp only[gv,ht,if_true]at this;exact this
  ·exact .any _
 |const v=>exact IK v
 |func f=>exact .fn f [] [] rfl (by simp)
 |global g=>exact .any _
def fput(fr:Fr)(d:Option Nat)(x:AV):Fr:=match d with|some d=>(d,x)::fr|none=>fr
def dok(d:Option Nat)(N:Nat):Bool:=match d with|some d=>decide (d<N)|none=>true
theorem y1i{a:Act}{d t:Nat}{v:Value}(hd:d<a.tmps.size):(a.put (some d) v).tmps.getD t undef=if d=t then v else a.tmps.getD t undef:=by
 simp only[Act.put,Array.getD_eq_getD_getElem?,Array.getElem?_setIfInBounds];by_cases h:d=t
 ·subst h;simp[hd]
 ·simp[h]
theorem aO.put(h:aO B w0 Mx N w ρ fr H a){d:Option Nat}(hd:dok d N=true){v:Value}{x:AV}(hv:VR w (MM Mx H ρ) ρ (DD H) v x):aO B w0 Mx N w ρ (fput fr d x) H (a.put d v):=by
 cases d with
 |none=>exact h
 |some d=>
  simp only[dok,decide_eq_true_eq]at hd;have er:d<a.tmps.size:=by rw[h.size.1];exact hd
  have hN:=h.size.2;refine⟨h.below,h.hB,h.mx,h.own,h.objs,h.inj,fun t=>?_,h.defers,by simp[Act.put,h.size]⟩;have uN:gv w0 (a.put (some d) v) t=if d=t then v else gv w0 a t:=by
   unfold gv
   split
   ·rw[y1i er]
   ·rw[zL (by omega)]
  rw[uN];simp only[fput,fget];by_cases e:d=t
  ·simp only[e,if_true];exact hv
  ·simp only[e,if_false];exact h.frv t
theorem aO.draw(h:aO B w0 Mx N w ρ fr H a):aO B w0 Mx N {w with drawn:=w.drawn+1} ρ fr H a:=
 have hc:∀{D:Nat->Prop} {v:Value} {x:AV},VR w (MM Mx H ρ) ρ D v x->VR {w with drawn:=w.drawn+1} (MM Mx H ρ) ρ D v x:=fun hv=>
  hv.carry (w':={w with drawn:=w.drawn+1}) (zA _) (fun _ _ hm=>⟨rfl,hm⟩) (fun id hd=>⟨hd,rfl,fun arr t ha=>⟨arr,ha,rfl⟩⟩)
 ⟨h.below.drew,h.hB,h.mx,h.own,fun id o ho=>by
  have:=h.objs id o ho
  cases o with
  |gone=>trivial
  |cells t c=>
   obtain⟨h1,arr,h2,h3,h4⟩:=this;exact⟨h1,arr,h2,h3,fun j hj=>let ⟨u,hu,hv⟩:=h4 j hj;⟨u,hu,hc hv⟩⟩
  |gmap t ck l=>
   obtain⟨es,h1,h2,h3⟩:=this;exact⟨es,h1,h2,fun j e q he hl=>let ⟨g1,g2,g3⟩:=h3 j e q he hl;⟨g1,g2,hc g3⟩⟩
  |iter dB s sn la=>exact this
  |imap t l=>
   obtain⟨h0,es,ck,h1,h2,h3⟩:=this;exact⟨h0,es,ck,h1,h2,fun j e k x he hl=>let ⟨g1,g2,g3⟩:=h3 j e k x he hl;⟨g1,hc g2,g3⟩⟩
  |fmap t c=>exact this,h.inj,fun t=>hc (h.frv t),h.defers,h.size⟩
def e8(ρ:Nat->Addr)(id:Nat)(x:Addr):Nat->Addr:=fun i=>if i=id then x else ρ i
theorem j9(ρ:Nat->Addr)(id:Nat)(x:Addr):e8 ρ id x id=x:=by simp[e8]
theorem od(ρ:Nat->Addr){id i:Nat}(x:Addr)(h:i≠id):e8 ρ id x i=ρ i:=by simp[e8,h]
theorem gA{w:World}{b:Nat}{o:Obj}(h:w.heap[b]?=some o):b<w.heap.size:=by
 rcases zY b w.heap.size with h1|h1
 ·exact h1
 ·rw[Array.getElem?_eq_none h1]at h;cases h
theorem xW{w:World}{o:Obj}{b:Nat}(h:b<w.heap.size):(w.heap.push o)[b]?=w.heap[b]?:=by
 rw[Array.getElem?_push];simp[Nat.ne_of_lt h]
theorem xU{w:World}{o:Obj}:(w.heap.push o)[w.heap.size]?=some o:=by
 rw[Array.getElem?_push];simp
theorem fA.lt{M:Nat->Prop}{D:Nat->Prop}{id:Nat}{o:AObj}(h:fA w M ρ D id o)(hl:o.live=true):(ρ id).block<w.heap.size:=by
 cases o with
 |gone=>cases hl
 |cells t c=>obtain⟨_,arr,h2,_⟩:=h;exact gA h2
 |gmap t ck l=>obtain⟨es,h1,_⟩:=h;exact gA h1
 |iter dB s sn la=>obtain⟨_,_,h1⟩:=h;exact gA h1
 |imap t l=>obtain⟨_,es,ck,h1,_⟩:=h;exact gA h1
 |fmap t c=>obtain⟨_,es,ck,h1,_⟩:=h;exact gA h1
theorem aO.alloc(h:aO B w0 Mx N w ρ fr H a)(aP:Nat)(hn:hget H aP=none)(rE:Obj)(o:AObj)
  (ho:∀(M':Nat->Prop) (ρ':Nat->Addr) (D':Nat->Prop),ρ' aP=⟨w.heap.size,0,none⟩->(∀{D:Nat->Prop} {v:Value} {x:AV},(∀i,D i->DD H i)->VR w (MM Mx H ρ) ρ D v x->VR (w.alloc rE) M' ρ' D' v x)->fA (w.alloc rE) M' ρ' D' aP o):
  aO B w0 Mx N (w.alloc rE) (e8 ρ aP ⟨w.heap.size,0,none⟩) fr ((aP,o)::H) a:=by
 have fJ:(w.alloc rE).heap.size=w.heap.size+1:=by show (w.heap.push rE).size=_;simp
 have aJ:∀id o',hget H id=some o'->id≠aP:=fun id o' h1 h2=>by subst h2;rw[hn]at h1;cases h1
 have fK:∀id,hget ((aP,o)::H) id=if aP=id then some o else hget H id:=fun id=>rfl;have hc:∀{D D':Nat->Prop} {v:Value} {x:AV},(∀i,D i->DD H i)->(∀i,D i->D' i)->VR w (MM Mx H ρ) ρ D v x->VR (w.alloc rE) (MM Mx ((aP,o)::H) (e8 ρ aP ⟨w.heap.size,0,none⟩)) (e8 ρ aP ⟨w.heap.size,0,none⟩) D' v x:=by
  intro D D' v x hD1 hD2 hv;refine hv.carry (by omega) (fun b hb hm=>⟨xW hb,?_⟩) (fun id hd=>?_)
  ·rintro (h1|⟨id,o',h1,h2,h3⟩)
   ·exact hm (.inl h1)
   ·rw[fK]at h1
    split at h1
    ·rename_i e;subst e;rw[j9]at h3;simp at h3;omega
    ·rename_i e;rw[od _ _ (fun h=>e h.symm)]at h3;exact hm (.inr ⟨id,o',h1,h2,h3⟩)
  ·obtain⟨o',As⟩:=hD1 id hd
   have:=aJ id o' As
   refine⟨hD2 id hd,od _ _ this,fun arr t ha=>⟨arr,?_,rfl⟩⟩;exact(xW (gA ha)).trans ha
 refine⟨h.below.alloc h.hB rE,by have:=h.hB;omega,fun b hb=>by have:=h.mx b hb;omega,fun id o' h1 h2=>?_,fun id o' h1=>?_,fun id o' bO VK h1 h2 h3 h4 h5=>?_,fun t=>?_,h.defers,h.size⟩
 ·rw[fK]at h1
  split at h1
  ·rename_i e;subst e;rw[j9];exact⟨h.hB,fun hm=>by have:=h.mx _ hm;simp at this⟩
  ·rename_i e;rw[od _ _ (fun h=>e h.symm)];exact h.own id o' h1 h2
 ·rw[fK]at h1
  split at h1
  ·rename_i e;cases h1;subst e
   exact ho _ _ _ (j9 _ _ _) fun hD hv=>hc hD (fun i hi=>by obtain⟨o',h1⟩:=hD i hi;exact⟨o',by rw[fK,zL (fun h=>aJ i o' h1 h.symm)];exact h1⟩) hv
  ·rename_i e
   have hr:=h.objs id o' h1;have kT:=od ρ (x:=⟨w.heap.size,0,none⟩) (id:=aP) (i:=id) (fun h=>e h.symm);have uS:∀i,DD H i->DD ((aP,o)::H) i:=fun i ⟨q,hq⟩=>⟨q,by rw[fK,zL (fun h=>aJ i q hq h.symm)];exact hq⟩;cases o' with
   |gone=>trivial
   |cells t c=>
    obtain⟨g1,arr,g2,g3,g4⟩:=hr;refine⟨by rw[kT];exact g1,arr,?_,by rw[kT];exact g3,fun j hj=>?_⟩
    ·rw[kT];exact(xW (gA g2)).trans g2
    ·rw[kT];obtain⟨u,hu,hv⟩:=g4 j hj;exact⟨u,hu,hc (fun _ h=>h) uS hv⟩
   |gmap t ck l=>
    obtain⟨es,g1,g2,g3⟩:=hr;refine⟨es,?_,g2,fun j e' q he hl=>?_⟩
    ·rw[kT];exact(xW (gA g1)).trans g1
    ·obtain⟨k1,k2,k3⟩:=g3 j e' q he hl;exact⟨k1,k2,hc (fun _ h=>h) uS k3⟩
   |iter dB s sn la=>
    obtain⟨g1,g2,g3⟩:=hr;have hm:e8 ρ aP ⟨w.heap.size,0,none⟩ dB=ρ dB:=by obtain⟨q,hq⟩:=g1;exact od _ _ (aJ dB q hq)
    refine⟨uS dB g1,by rw[kT];exact g2,?_⟩;rw[kT,hm];exact(xW (gA g3)).trans g3
   |imap t l=>
    obtain⟨g0,es,ck,g1,g2,g3⟩:=hr;refine⟨g0,es,ck,?_,g2,fun j e' k x he hl=>?_⟩
    ·rw[kT];exact(xW (gA g1)).trans g1
    ·obtain⟨k1,k2,k3⟩:=g3 j e' k x he hl;exact⟨k1,hc (fun _ h=>h) uS k2,k3⟩
   |fmap t c=>
    obtain⟨l,es,ck,g1,g2⟩:=hr;refine⟨l,es,ck,?_,g2⟩;rw[kT];exact(xW (gA g1)).trans g1
 ·rw[fK]at h1 h3
  split at h1<;>split at h3
  ·rename_i e1 e2;omega
  ·rename_i e1 e2
   exfalso;subst e1;rw[j9,od _ _ (fun h=>e2 h.symm)]at h5
   have:=(h.objs bO VK h3).lt h4
   simp at h5;omega
  ·rename_i e1 e2
   exfalso;subst e2;rw[j9,od _ _ (fun h=>e1 h.symm)]at h5
   have:=(h.objs id o' h1).lt h2
   simp at h5;omega
  ·rename_i e1 e2
   rw[od _ _ (fun h=>e1 h.symm),od _ _ (fun h=>e2 h.symm)]at h5;exact h.inj id o' bO VK h1 h2 h3 h4 h5
 ·exact hc (fun _ h=>h) (fun i ⟨q,hq⟩=>⟨q,by rw[fK,zL (fun h=>aJ i q hq h.symm)];exact hq⟩) (h.frv t)
theorem aO.weaken(h:aO B w0 Mx N w ρ fr H a){fr':Fr}{H':Hp}(hH:∀id o,hget H' id=some o->hget H id=some o)
  (hf:∀t,fget fr' t= .any\/fget fr' t=fget fr t) (hO:∀id o,hget H' id=some o->∀M,fA w M ρ (DD H) id o->fA w M ρ (DD H') id o)
  (hF:∀t,∀M v,VR w M ρ (DD H) v (fget fr' t)->VR w M ρ (DD H') v (fget fr' t)):aO B w0 Mx N w ρ fr' H' a:=by
 have hM:∀b,¬MM Mx H ρ b->¬MM Mx H' ρ b:=fun b hn hm=>hn (by
  rcases hm with h1|⟨id,o,h1,h2,h3⟩
  ·exact .inl h1
  ·exact .inr ⟨id,o,hH id o h1,h2,h3⟩)
 have hc:∀{D:Nat->Prop} {v:Value} {x:AV},VR w (MM Mx H ρ) ρ D v x->VR w (MM Mx H' ρ) ρ D v x:=fun hv=>
  hv.carry (zA _) (fun b _ hm=>⟨rfl,hM b hm⟩) (fun id hd=>⟨hd,rfl,fun arr t ha=>⟨arr,ha,rfl⟩⟩)
 refine⟨h.below,h.hB,h.mx,fun id o h1 h2=>h.own id o (hH id o h1) h2,fun id o h1=>?_,fun id o bO o' h1 h2 h3 h4 h5=>h.inj id o bO o' (hH _ _ h1) h2 (hH _ _ h3) h4 h5,fun t=>?_,h.defers,h.size⟩
 ·refine hO id o h1 _ ?_;have hr:=h.objs id o (hH id o h1);cases o with
  |gone=>trivial
  |cells t c=>
   obtain⟨g1,arr,g2,g3,g4⟩:=hr;exact⟨g1,arr,g2,g3,fun j hj=>let ⟨u,hu,hv⟩:=g4 j hj;⟨u,hu,hc hv⟩⟩
  |gmap t ck l=>
   obtain⟨es,g1,g2,g3⟩:=hr;exact⟨es,g1,g2,fun j e' q he hl=>let ⟨k1,k2,k3⟩:=g3 j e' q he hl;⟨k1,k2,hc k3⟩⟩
  |iter dB s sn la=>exact hr
  |imap t l=>
   obtain⟨g0,es,ck,g1,g2,g3⟩:=hr;exact⟨g0,es,ck,g1,g2,fun j e' k x he hl=>let ⟨k1,k2,k3⟩:=g3 j e' k x he hl;⟨k1,hc k2,k3⟩⟩
  |fmap t c=>exact hr
 ·rcases hf t with e|e
  ·rw[e];exact .any _
  ·exact hF t _ _ (by rw[e];exact hc (h.frv t))
end
def iZ:Value->Prop
 |.agg _|.tuple _=>False
 |_=>True
theorem Yt{v:Value}(h:iZ v):v.cells= #[v]:=by cases v<;>first|rfl|exact h.elim
section
variable{P:Program}{w:World}{M:Nat->Prop}{ρ:Nat->Addr}{D:Nat->Prop}
theorem VR.iZ{v:Value}{x:AV}(h:VR w M ρ D v x)(hx:ycg x=true):iZ v:=by
 cases h<;>first|trivial|cases hx
def RL(w:World)(M:Nat->Prop)(ρ:Nat->Addr)(D:Nat->Prop)(vs:Array Value)(xs:List AV):Prop:=
 vs.size=xs.length/\ ∀(i:Nat) (v:Value) (x:AV),vs[i]?=some v->xs[i]?=some x->VR w M ρ D v x
theorem VR.lN{v:Value}{x:AV}(h:VR w M ρ D v x)(hx:ycg x=true\/ ∃xs,x= .agg xs):RL w M ρ D v.cells (yaw x):=by
 rcases hx with hx|⟨xs,rfl⟩
 ·have h1:=Yt (h.iZ hx);have h2:yaw x=[x]:=by cases x<;>first|rfl|cases hx
  rw[h1,h2];refine⟨rfl,fun i u y hu hy=>?_⟩;cases i with
  |zero=>simp at hu hy;subst hu hy;exact h
  |succ i=>simp at hu
 ·obtain⟨vs,rfl,hl,hh⟩:=h.bD;exact⟨by simpa [Value.cells,yaw] using hl,fun i u y hu hy=>hh i u y (by simpa [Value.cells] using hu) hy⟩
theorem Jx{b t:Nat}{o:Nat}:∀(vs:List Value) (i:Nat) (w:World) (arr:Array Value),w.heap[b]?=some (.cells arr t (0,0))->o+i+vs.length<=arr.size->(∀v∈vs,iZ v)->
  ∃w' bA,(storeCells ⟨b,o,none⟩ vs i).run P w= .ok () w'/\w'.heap[b]?=some (.cells bA t (0,0))/\bA.size=arr.size/\w'.heap.size=w.heap.size/\w'.os=w.os/\w'.tape=w.tape/\w'.output=w.output/\
   (∀k,k≠b->w'.heap[k]?=w.heap[k]?)/\ ∀k,bA[k]?=if o+i<=k/\k<o+i+vs.length then vs[k-(o+i)]? else arr[k]?
 |[],i,w,arr,hb,_,_=>⟨w,arr,by simp[storeCells],hb,rfl,rfl,rfl,rfl,rfl,fun _ _=>rfl,fun k=>by rw[zL (by simp)]⟩
 |v::vs,i,w,arr,hb,hl,h1=>by
  have hv:=h1 v (by simp);have aC:=gA hb;have ha:(⟨b,o,none⟩:Addr).add i=⟨b,o+i,none⟩:=by rw[xh rfl]
  simp only[zH]at hl;have iR:w.cell? ⟨b,o+i,none⟩=some (arr[o+i]'(by omega)):=by simp[World.cell?,hb,Array.getElem?_eq_getElem (show o+i<arr.size by omega)]
  have hfz:w.frozen? ⟨b,o+i,none⟩=false:=by simp[World.frozen?,hb]
  have tY:(w.setCell ⟨b,o+i,none⟩ v).heap[b]?=some (.cells (arr.setIfInBounds (o+i) v) t (0,0)):=by
   simp[World.setCell,Array.getElem?_modify,hb]
  have aU:(store ⟨b,o+i,none⟩ v).run P w= .ok () (w.setCell ⟨b,o+i,none⟩ v):=by
   cases v<;>first|(simp[store,Sem.run,iR,hfz];done)|exact hv.elim
  obtain⟨w',bA,r1,r2,r3,r4,r5,r6,r7,r8,r9⟩:=Jx (o:=o) vs (i+1) (w.setCell ⟨b,o+i,none⟩ v) _ tY (by simp;omega) (fun u hu=>h1 u (by simp[hu]));refine⟨w',bA,?_,r2,by simpa using r3,by simpa [World.setCell] using r4,r5,r6,r7,fun k hk=>(r8 k hk).trans (Below.heap_setCell w _ v k hk),fun k=>?_⟩
  ·simp only[storeCells,ha];simp[aU,r1]
  ·rw[r9 k];by_cases c1:o+(i+1)<=k/\k<o+(i+1)+vs.length
   ·rw[zM c1,zM (by simp only[zH];omega)]
    have:k-(o+i)=(k-(o+(i+1)))+1:=by omega
    rw[this,List.getElem?_cons_succ]
   ·rw[zL c1];by_cases c2:k=o+i
    ·subst c2;rw[zM (by simp only[zH];omega)];simp[show o+i<arr.size by omega]
    ·rw[zL (by simp only[zH];omega)];rw[Array.getElem?_setIfInBounds];simp[Ne.symm c2]
end
section
variable{P:Program}{B:Nat}{w0:js}{Mx:Nat->Prop}{N:Nat}{w:World}{ρ:Nat->Addr}{fr:Fr}{H:Hp}{a:Act}
theorem IJ{id:Nat}{o o':AObj}(h:hget H id=some o)(hl:o.live=o'.live)(b:Nat):MM Mx (hset H id o') ρ b↔MM Mx H ρ b:=by
 constructor
 ·rintro (h1|⟨i,q,h1,h2,h3⟩)
  ·exact .inl h1
  ·by_cases e:id=i
   ·subst e;rw[uB h]at h1;cases h1;exact .inr ⟨id,o,h,by rw[hl];exact h2,h3⟩
   ·rw[ka e]at h1;exact .inr ⟨i,q,h1,h2,h3⟩
 ·rintro (h1|⟨i,q,h1,h2,h3⟩)
  ·exact .inl h1
  ·by_cases e:id=i
   ·subst e;rw[h]at h1;cases h1;exact .inr ⟨id,o',uB h,by rw[<-hl];exact h2,h3⟩
   ·exact .inr ⟨i,q,by rw[ka e];exact h1,h2,h3⟩
theorem Ex{id:Nat}{o o':AObj}(h:hget H id=some o)(i:Nat):DD (hset H id o') i↔DD H i:=by
 by_cases e:id=i
 ·subst e;exact⟨fun _=>⟨o,h⟩,fun _=>⟨o',uB h⟩⟩
 ·unfold DD;rw[ka e]
theorem aO.change(h:aO B w0 Mx N w ρ fr H a){id t:Nat}{c c':Cs}{arr bA:Array Value}{w':World}(hid:hget H id=some (.cells t c))(fv:w.heap[(ρ id).block]?=some (.cells arr t (0,0)))
  (h1:w'.heap[(ρ id).block]?=some (.cells bA t (0,0))) (h2:bA.size=arr.size) (h3:w'.heap.size=w.heap.size) (h4:w'.os=w.os) (h5:w'.tape=w.tape) (h6:w'.output=w.output)
  (h7:∀k,k≠(ρ id).block->w'.heap[k]?=w.heap[k]?) (hlen:(ρ id).off+c'.len<=bA.size)
  (hv:∀j,j<c'.len->∃u,bA[(ρ id).off+j]?=some u/\VR w (MM Mx H ρ) ρ (DD H) u (c'.get j)):aO B w0 Mx N w' ρ fr (hset H id (.cells t c')) a:=by
 have hM:∀b,MM Mx (hset H id (.cells t c')) ρ b↔MM Mx H ρ b:=IJ hid rfl;have hD:∀i,DD (hset H id (.cells t c')) i↔DD H i:=Ex hid;have jc:=h.own id _ hid rfl;have hc:∀{v:Value} {x:AV},VR w (MM Mx H ρ) ρ (DD H) v x->VR w' (MM Mx (hset H id (.cells t c')) ρ) ρ (DD (hset H id (.cells t c'))) v x:=fun hv=>by
  refine hv.carry (by omega) (fun b hb hm=>?_) (fun i hi=>⟨(hD i).2 hi,rfl,fun ar tt lJ=>?_⟩)
  ·have:b≠(ρ id).block:=fun e=>hm (.inr ⟨id,_,hid,rfl,e.symm⟩)
   exact⟨h7 b this,fun hh=>hm ((hM b).1 hh)⟩
  ·by_cases e:(ρ i).block=(ρ id).block
   ·rw[e]at lJ⊢;rw[fv]at lJ;cases lJ;exact⟨bA,h1,h2⟩
   ·exact⟨ar,(h7 _ e).trans lJ,rfl⟩
 refine⟨⟨h4.trans h.below.os,h5.trans h.below.tape,h6.trans h.below.output,by have:=h.below.size;omega,fun k hk=>(h7 k (by omega)).trans (h.below.block k hk)⟩,by have:=h.hB;omega,fun b hb=>by have:=h.mx b hb;omega,fun i o g1 g2=>?_,fun i o g1=>?_,fun i o i' o' g1 g2 g3 g4 g5=>?_,fun tt=>hc (h.frv tt),h.defers,h.size⟩
 ·by_cases e:id=i
  ·subst e;exact jc
  ·rw[ka e]at g1;exact h.own i o g1 g2
 ·by_cases e:id=i
  ·subst e;rw[uB hid]at g1;cases g1
   have:=h.objs id _ hid
   exact⟨this.1,bA,h1,hlen,fun j hj=>let ⟨u,hu,hr⟩:=hv j hj;⟨u,hu,hc hr⟩⟩
  ·rw[ka e]at g1;have hr:=h.objs i o g1;cases o with
   |gone=>trivial
   |cells tt cc=>
    obtain⟨k1,ar,k2,k3,k4⟩:=hr;have aJ:(ρ i).block≠(ρ id).block:=fun e'=>e (h.inj _ _ _ _ hid rfl g1 rfl e'.symm);exact⟨k1,ar,(h7 _ aJ).trans k2,k3,fun j hj=>let ⟨u,hu,hv⟩:=k4 j hj;⟨u,hu,hc hv⟩⟩
   |gmap tt ck l=>
    obtain⟨es,k1,k2,k3⟩:=hr;have aJ:(ρ i).block≠(ρ id).block:=fun e'=>e (h.inj _ _ _ _ hid rfl g1 rfl e'.symm);exact⟨es,(h7 _ aJ).trans k1,k2,fun j e' q he hl=>let ⟨g1,g2,g3⟩:=k3 j e' q he hl;⟨g1,g2,hc g3⟩⟩
   |iter dB s sn la=>
    obtain⟨k1,k2,k3⟩:=hr;have aJ:(ρ i).block≠(ρ id).block:=fun e'=>e (h.inj _ _ _ _ hid rfl g1 rfl e'.symm);exact⟨(hD dB).2 k1,k2,(h7 _ aJ).trans k3⟩
   |imap tt l=>
    obtain⟨k0,es,ck,k1,k2,k3⟩:=hr;have aJ:(ρ i).block≠(ρ id).block:=fun e'=>e (h.inj _ _ _ _ hid rfl g1 rfl e'.symm);exact⟨k0,es,ck,(h7 _ aJ).trans k1,k2,fun j e' k x he hl=>let ⟨g1,g2,g3⟩:=k3 j e' k x he hl;⟨g1,hc g2,g3⟩⟩
   |fmap tt l=>
    obtain⟨k0,es,ck,k1,k2⟩:=hr;have aJ:(ρ i).block≠(ρ id).block:=fun e'=>e (h.inj _ _ _ _ hid rfl g1 rfl e'.symm);exact⟨k0,es,ck,(h7 _ aJ).trans k1,k2⟩
 ·have key:∀i o,hget (hset H id (.cells t c')) i=some o->o.live=true->∃o',hget H i=some o'/\o'.live=true:=fun i o g1 g2=>by
   by_cases e:id=i
   ·subst e;exact⟨_,hid,rfl⟩
   ·rw[ka e]at g1;exact⟨o,g1,g2⟩
  obtain⟨q,q1,q2⟩:=key i o g1 g2;obtain⟨q',q3,q4⟩:=key i' o' g3 g4;exact h.inj i q i' q' q1 q2 q3 q4 g5
def yd3(c:Cs)(off:Nat):List AV->Cs
 |[]=>c
 |x::r=>yd3 (c.set off x) (off+1) r
theorem Uw(xs:List AV):∀(c:Cs) (off:Nat),(yd3 c off xs).len=c.len:=by
 induction xs with
 |nil=>intro c off;rfl
 |cons x r ih=>intro c off;simp only[yd3];rw[ih,Cs.oV]
theorem YM(xs:List AV):∀(c:Cs) (off j:Nat),off+xs.length<=c.len->j<c.len->(yd3 c off xs).get j=if off<=j/\j<off+xs.length then xs.getD (j-off) .any else c.get j:=by
 induction xs with
 |nil=>intro c off j _ _;simp[yd3];omega
 |cons x r ih=>
  intro c off j hl hj;simp only[yd3];rw[ih (c.set off x) (off+1) j (by rw[Cs.oV];simp at hl;omega) (by rw[Cs.oV];exact hj),Cs.yU _ _ _ _ hj];simp only[zH]at*;by_cases c1:off+1<=j/\j<off+1+r.length
  ·rw[zM c1,zM (by omega)]
   have:j-off=(j-(off+1))+1:=by omega
   rw[this];simp
  ·rw[zL c1];by_cases c2:off=j
   ·subst c2;simp
   ·rw[zL c2,zL (by omega)]
def stF(P:Program)(H:Hp)(t:Nat)(x y:AV):Option (Prop×Nat×AObj):=
 match x with
 |.ptr id off=>match hget H id with
  |some (.cells t' c)=>match tsz P t with
   |some n=>if (yaw y).all ycg=true/\(yaw y).length=n then some (off+n<=c.len,id,.cells t' (yd3 c off (yaw y))) else none
   |none=>none
  |_=>none
 |_=>none
theorem TQ(h:aO B w0 Mx N w ρ fr H a){t:Nat}{x y:AV}{u v:Value}{p:Prop}{id:Nat}{ob:AObj}(hu:VR w (MM Mx H ρ) ρ (DD H) u x)(hv:VR w (MM Mx H ρ) ρ (DD H) v y)
  (hs:stF P H t x y=some (p,id,ob)) (hp:p):∃w',(Instr.storeAt t u v).run P w= .ok () w'/\aO B w0 Mx N w' ρ fr (hset H id ob) a:=by
 unfold stF at hs
 split at hs
 ·rename_i bO off
  split at hs
  ·rename_i t' c ho
   split at hs
   ·rename_i n hn
    split at hs
    ·rename_i dt
     cases hs;obtain⟨rfl,_⟩:=hu.fi;have qO:=h.objs _ _ ho;obtain⟨gX,arr,hb,hl,wz⟩:=qO;have hy:ycg y=true\/ ∃xs,y= .agg xs:=by
      cases y<;>first|exact .inr ⟨_,rfl⟩|exact .inl (by simpa [yaw] using dt.1)|simp[yaw,ycg]at dt
     obtain⟨fJ,nI⟩:=hv.lN hy;have db:∀z∈v.cells.toList,iZ z:=by
      intro z hz;obtain⟨i,hi⟩:=List.mem_iff_getElem?.1 hz;have uM:v.cells[i]?=some z:=by simpa using hi
      have aC:i<(yaw y).length:=by rw[<-fJ];exact(Array.getElem?_eq_some_iff.1 uM).1
      have hx:=zJ aC;exact(nI i z _ uM hx).iZ (by
       have:=zZ.1 dt.1 _ (List.getElem_mem aC);exact this)
     have hlen:v.cells.toList.length=n:=by simp[fJ,dt.2]
     have ead:(ρ id).add off=⟨(ρ id).block,(ρ id).off+off,none⟩:=xh gX off;obtain⟨w',bA,r1,r2,r3,r4,r5,r6,r7,r8,r9⟩:=Jx (P:=P) (b:=(ρ id).block) (t:=t') (o:=(ρ id).off+off) v.cells.toList 0 w arr hb (by rw[hlen];omega) db;refine⟨w',?_,h.change ho hb r2 r3 r4 r5 r6 r7 r8 (by rw[Uw,r3];exact hl) fun j hj=>?_⟩
     ·have OE:v.cells.size=n:=by rw[fJ,dt.2]
      simp[Instr.storeAt,Instr.sureAddr,storeVar,km hn,OE,ead,r1]
     ·rw[Uw]at hj;rw[YM _ _ _ _ (by rw[dt.2];exact hp) hj];rw[r9];by_cases c1:off<=j/\j<off+(yaw y).length
      ·rw[zM c1,zM (by rw[hlen];rw[dt.2]at c1;omega)];have e1:(ρ id).off+j-((ρ id).off+off+0)=j-off:=by omega
       rw[e1];have aC:j-off<(yaw y).length:=by omega
       have yE:j-off<v.cells.size:=by rw[fJ];exact aC
       refine⟨v.cells[j-off],by simp[yE],?_⟩
       have:=nI (j-off) v.cells[j-off] (yaw y)[j-off] (by simp[yE]) (zJ aC)
       simpa [aC] using this
      ·rw[zL c1,zL (by rw[hlen];rw[dt.2]at c1;omega)];exact wz j hj
    ·cases hs
   ·cases hs
  ·cases hs
 ·cases hs
def updI(g:Int->Option Int)(n x:Int):Int->Option Int:=fun k=>if k=n then some x else g k
def updB(g:Int->Option Bool)(n:Int)(x:Bool):Int->Option Bool:=fun k=>if k=n then some x else g k
def updP(g:Int->Option (Int×Int))(n x y:Int):Int->Option (Int×Int):=fun k=>if k=n then some (x,y) else g k
def muM(n:Int)(v:AV)(id:Nat):Option AObj->Option (Nat×AObj)
 |some (.fmap t (.ints g))=>match v with
  |.int .i64 x=>some (id,.fmap t (.ints (updI g n x)))
  |_=>none
 |some (.fmap t (.bools g))=>match v with
  |.bool x=>some (id,.fmap t (.bools (updB g n x)))
  |_=>none
 |some (.fmap t (.pairs g))=>match v with
  |.agg [.int .i64 x,.int .i64 y]=>some (id,.fmap t (.pairs (updP g n x y)))
  |_=>none
 |some (.imap t l)=>if okM v=true then some (id,.imap t (fH l n v)) else none
 |_=>none
def Cy:List (ByteArray×Nat×AV)->ByteArray->AV->List (ByteArray×Nat×AV)
 |[],_,_=>[]
 |q::l,s,v=>if q.1=s then (s,q.2.1,v)::l else q::Cy l s v
def muG(s:ByteArray)(v:AV)(id:Nat):Option AObj->Option (Nat×AObj)
 |some (.gmap t ck l)=>if t<1000000000 then match n9 l s with
  |some _=>some (id,.gmap t ck (Cy l s v))
  |none=>some (id,.gmap t (ck+1) (l++[(s,ck,v)]))
  else none
 |_=>none
def muP(s:ByteArray)(v:AV)(id:Nat):Option AObj->Option (Nat×AObj)
 |some (.gmap t ck l)=>if t<1000000000 then none else match n9 l s with
  |some _=>some (id,.gmap t ck (Cy l s v))
  |none=>some (id,.gmap t (ck+1) (l++[(s,ck,v)]))
 |_=>none
def muK(P:Program)(H:Hp):TK->AV->AV->AV->Option (Nat×AObj)
 |.int .i64,.mp id,.int .i64 n,v=>muM n v id (hget H id)
 |.str,.mp id,.str s,v=>muG s v id (hget H id)
 |.arr 2 e,.mp id,.agg [.int .i64 a,.int .i64 b],v=>yh7 P e (muP (en a b) v id (hget H id))
 |_,_,_,_=>none
def muF(P:Program)(H:Hp)(t:Nat)(m k v:AV):Option (Nat×AObj):=match tk P t with
 |.map kt _=>muK P H (tk P kt) m k v
 |_=>none
theorem aO.tq(h:aO B w0 Mx N w ρ fr H a){id t:Nat}{c c':MF}{es eJ:Array MapEntry}{ck uh:Nat}(hid:hget H id=some (.fmap t c))(fv:w.heap[(ρ id).block]?=some (.map es ck)){l:List (Int×Value×Nat)}
  (hl:eJ.toList=l.map (fun q=>⟨.int .i64 q.1,q.2.1,q.2.2⟩)) (hf:∀n:Int,(l.find? fun q=>q.1==n).map (·.2.1)=c'.val n):
  aO B w0 Mx N {w with heap:=w.heap.setIfInBounds (ρ id).block (.map eJ uh)} ρ fr (hset H id (.fmap t c')) a:=by
 have hM:∀b,MM Mx (hset H id (.fmap t c')) ρ b↔MM Mx H ρ b:=IJ hid rfl;have hD:∀i,DD (hset H id (.fmap t c')) i↔DD H i:=Ex hid;have jc:=h.own id _ hid rfl;have aC:(ρ id).block<w.heap.size:=gA fv;have h1:(w.heap.setIfInBounds (ρ id).block (.map eJ uh))[(ρ id).block]?=some (.map eJ uh):=by simp[aC]
 have h7:∀k,k≠(ρ id).block->(w.heap.setIfInBounds (ρ id).block (.map eJ uh))[k]?=w.heap[k]?:=fun k hk=>by
  rw[Array.getElem?_setIfInBounds_ne (Ne.symm hk)]
 have hc:∀{v:Value} {x:AV},VR w (MM Mx H ρ) ρ (DD H) v x->VR {w with heap:=w.heap.setIfInBounds (ρ id).block (.map eJ uh)} (MM Mx (hset H id (.fmap t c')) ρ) ρ (DD (hset H id (.fmap t c'))) v x:=fun hv=>by
  refine hv.carry (by simp) (fun b hb hm=>?_) (fun i hi=>⟨(hD i).2 hi,rfl,fun ar tt lJ=>?_⟩)
  ·have:b≠(ρ id).block:=fun e=>hm (.inr ⟨id,_,hid,rfl,e.symm⟩)
   exact⟨h7 b this,fun hh=>hm ((hM b).1 hh)⟩
  ·by_cases e:(ρ i).block=(ρ id).block
   ·rw[e]at lJ;rw[fv]at lJ;cases lJ
   ·exact⟨ar,(h7 _ e).trans lJ,rfl⟩
 refine⟨⟨h.below.os,h.below.tape,h.below.output,by simpa using h.below.size,fun k hk=>(h7 k (by omega)).trans (h.below.block k hk)⟩,by simpa using h.hB,fun b hb=>by simpa using h.mx b hb,fun i o g1 g2=>?_,fun i o g1=>?_,fun i o i' o' g1 g2 g3 g4 g5=>?_,fun tt=>hc (h.frv tt),h.defers,h.size⟩
 ·by_cases e:id=i
  ·subst e;exact jc
  ·rw[ka e]at g1;exact h.own i o g1 g2
 ·by_cases e:id=i
  ·subst e;rw[uB hid]at g1;cases g1;exact⟨l,eJ,uh,h1,hl,hf⟩
  ·rw[ka e]at g1;have hr:=h.objs i o g1;cases o with
   |gone=>trivial
   |cells tt cc=>
    obtain⟨k1,ar,k2,k3,k4⟩:=hr;have aJ:(ρ i).block≠(ρ id).block:=fun e'=>e (h.inj _ _ _ _ hid rfl g1 rfl e'.symm);exact⟨k1,ar,(h7 _ aJ).trans k2,k3,fun j hj=>let ⟨u,hu,hv⟩:=k4 j hj;⟨u,hu,hc hv⟩⟩
   |gmap tt ck l=>
    obtain⟨es,k1,k2,k3⟩:=hr;have aJ:(ρ i).block≠(ρ id).block:=fun e'=>e (h.inj _ _ _ _ hid rfl g1 rfl e'.symm);exact⟨es,(h7 _ aJ).trans k1,k2,fun j e' q he hl=>let ⟨g1,g2,g3⟩:=k3 j e' q he hl;⟨g1,g2,hc g3⟩⟩
   |iter dB s sn la=>
    obtain⟨k1,k2,k3⟩:=hr;have aJ:(ρ i).block≠(ρ id).block:=fun e'=>e (h.inj _ _ _ _ hid rfl g1 rfl e'.symm);exact⟨(hD dB).2 k1,k2,(h7 _ aJ).trans k3⟩
   |imap tt l=>
    obtain⟨k0,es,ck,k1,k2,k3⟩:=hr;have aJ:(ρ i).block≠(ρ id).block:=fun e'=>e (h.inj _ _ _ _ hid rfl g1 rfl e'.symm);exact⟨k0,es,ck,(h7 _ aJ).trans k1,k2,fun j e' k x he hl=>let ⟨g1,g2,g3⟩:=k3 j e' k x he hl;⟨g1,hc g2,g3⟩⟩
   |fmap tt l=>
    obtain⟨k0,es,ck,k1,k2⟩:=hr;have aJ:(ρ i).block≠(ρ id).block:=fun e'=>e (h.inj _ _ _ _ hid rfl g1 rfl e'.symm);exact⟨k0,es,ck,(h7 _ aJ).trans k1,k2⟩
 ·have key:∀i o,hget (hset H id (.fmap t c')) i=some o->o.live=true->∃o',hget H i=some o'/\o'.live=true:=fun i o g1 g2=>by
   by_cases e:id=i
   ·subst e;exact⟨_,hid,rfl⟩
   ·rw[ka e]at g1;exact⟨o,g1,g2⟩
  obtain⟨q,q1,q2⟩:=key i o g1 g2;obtain⟨q',q3,q4⟩:=key i' o' g3 g4;exact h.inj i q i' q' q1 q2 q3 q4 g5
theorem aO.yY(h:aO B w0 Mx N w ρ fr H a){id:Nat}{o1 o2:AObj}{b1 b2:Obj}(hid:hget H id=some o1)(mI:o1.live=true)(Aw:o2.live=true)(fv:w.heap[(ρ id).block]?=some b1)(hnc:∀arr t,b1≠ .cells arr t (0,0))
  (jw:∀(M':Nat->Prop),(∀{v:Value} {x:AV},VR w (MM Mx H ρ) ρ (DD H) v x->VR {w with heap:=w.heap.setIfInBounds (ρ id).block b2} M' ρ (DD (hset H id o2)) v x)->fA {w with heap:=w.heap.setIfInBounds (ρ id).block b2} M' ρ (DD (hset H id o2)) id o2):
  aO B w0 Mx N {w with heap:=w.heap.setIfInBounds (ρ id).block b2} ρ fr (hset H id o2) a:=by
 have hM:∀b,MM Mx (hset H id o2) ρ b↔MM Mx H ρ b:=IJ hid (by rw[mI,Aw]);have hD:∀i,DD (hset H id o2) i↔DD H i:=Ex hid;have jc:=h.own id _ hid mI;have aC:(ρ id).block<w.heap.size:=gA fv;have h1:(w.heap.setIfInBounds (ρ id).block b2)[(ρ id).block]?=some b2:=by simp[aC]
 have h7:∀k,k≠(ρ id).block->(w.heap.setIfInBounds (ρ id).block b2)[k]?=w.heap[k]?:=fun k hk=>by
  rw[Array.getElem?_setIfInBounds_ne (Ne.symm hk)]
 have hc:∀{v:Value} {x:AV},VR w (MM Mx H ρ) ρ (DD H) v x->VR {w with heap:=w.heap.setIfInBounds (ρ id).block b2} (MM Mx (hset H id o2) ρ) ρ (DD (hset H id o2)) v x:=fun hv=>by
  refine hv.carry (by simp) (fun b hb hm=>?_) (fun i hi=>⟨(hD i).2 hi,rfl,fun ar tt lJ=>?_⟩)
  ·have:b≠(ρ id).block:=fun e=>hm (.inr ⟨id,_,hid,mI,e.symm⟩)
   exact⟨h7 b this,fun hh=>hm ((hM b).1 hh)⟩
  ·by_cases e:(ρ i).block=(ρ id).block
   ·rw[e]at lJ;rw[fv]at lJ;exact zzA (Option.some.inj lJ) (hnc ar tt)
   ·exact⟨ar,(h7 _ e).trans lJ,rfl⟩
 refine⟨⟨h.below.os,h.below.tape,h.below.output,by simpa using h.below.size,fun k hk=>(h7 k (by omega)).trans (h.below.block k hk)⟩,by simpa using h.hB,fun b hb=>by simpa using h.mx b hb,fun i o g1 g2=>?_,fun i o g1=>?_,fun i o i' o' g1 g2 g3 g4 g5=>?_,fun tt=>hc (h.frv tt),h.defers,h.size⟩
 ·by_cases e:id=i
  ·subst e;exact jc
  ·rw[ka e]at g1;exact h.own i o g1 g2
 ·by_cases e:id=i
  ·subst e;rw[uB hid]at g1;cases g1;exact jw _ hc
  ·rw[ka e]at g1;have hr:=h.objs i o g1;cases o with
   |gone=>trivial
   |cells tt cc=>
    obtain⟨k1,ar,k2,k3,k4⟩:=hr;have aJ:(ρ i).block≠(ρ id).block:=fun e'=>e (h.inj _ _ _ _ hid mI g1 rfl e'.symm);exact⟨k1,ar,(h7 _ aJ).trans k2,k3,fun j hj=>let ⟨u,hu,hv⟩:=k4 j hj;⟨u,hu,hc hv⟩⟩
   |gmap tt ck l=>
    obtain⟨es,k1,k2,k3⟩:=hr;have aJ:(ρ i).block≠(ρ id).block:=fun e'=>e (h.inj _ _ _ _ hid mI g1 rfl e'.symm);exact⟨es,(h7 _ aJ).trans k1,k2,fun j e' q he hl=>let ⟨g1,g2,g3⟩:=k3 j e' q he hl;⟨g1,g2,hc g3⟩⟩
   |iter dB s sn la=>
    obtain⟨k1,k2,k3⟩:=hr;have aJ:(ρ i).block≠(ρ id).block:=fun e'=>e (h.inj _ _ _ _ hid mI g1 rfl e'.symm);exact⟨(hD dB).2 k1,k2,(h7 _ aJ).trans k3⟩
   |imap tt l=>
    obtain⟨k0,es,ck,k1,k2,k3⟩:=hr;have aJ:(ρ i).block≠(ρ id).block:=fun e'=>e (h.inj _ _ _ _ hid mI g1 rfl e'.symm);exact⟨k0,es,ck,(h7 _ aJ).trans k1,k2,fun j e' k x he hl=>let ⟨g1,g2,g3⟩:=k3 j e' k x he hl;⟨g1,hc g2,g3⟩⟩
   |fmap tt l=>
    obtain⟨k0,es,ck,k1,k2⟩:=hr;have aJ:(ρ i).block≠(ρ id).block:=fun e'=>e (h.inj _ _ _ _ hid mI g1 rfl e'.symm);exact⟨k0,es,ck,(h7 _ aJ).trans k1,k2⟩
 ·have key:∀i o,hget (hset H id o2) i=some o->o.live=true->∃o',hget H i=some o'/\o'.live=true:=fun i o g1 g2=>by
   by_cases e:id=i
   ·subst e;exact⟨_,hid,mI⟩
   ·rw[ka e]at g1;exact⟨o,g1,g2⟩
  obtain⟨q,q1,q2⟩:=key i o g1 g2;obtain⟨q',q3,q4⟩:=key i' o' g3 g4;exact h.inj i q i' q' q1 q2 q3 q4 g5
theorem aO.tr(h:aO B w0 Mx N w ρ fr H a){id t:Nat}{l l2:List (Int×AV)}{es eJ:Array MapEntry}{ck uh:Nat}(hid:hget H id=some (.imap t l))(fv:w.heap[(ρ id).block]?=some (.map es ck))
  (hk:∀k x,(k,x)∈l2->okM x=true) (hl:eJ.size=l2.length) (hf:∀(j:Nat) (e:MapEntry) (k:Int) (x:AV),eJ[j]?=some e->l2[j]?=some (k,x)->e.key= .int .i64 k/\VR w (MM Mx H ρ) ρ (DD H) e.val x):
  aO B w0 Mx N {w with heap:=w.heap.setIfInBounds (ρ id).block (.map eJ uh)} ρ fr (hset H id (.imap t l2)) a:=by
 have hM:∀b,MM Mx (hset H id (.imap t l2)) ρ b↔MM Mx H ρ b:=IJ hid rfl;have hD:∀i,DD (hset H id (.imap t l2)) i↔DD H i:=Ex hid;have jc:=h.own id _ hid rfl;have aC:(ρ id).block<w.heap.size:=gA fv;have h1:(w.heap.setIfInBounds (ρ id).block (.map eJ uh))[(ρ id).block]?=some (.map eJ uh):=by simp[aC]
 have h7:∀k,k≠(ρ id).block->(w.heap.setIfInBounds (ρ id).block (.map eJ uh))[k]?=w.heap[k]?:=fun k hk=>by
  rw[Array.getElem?_setIfInBounds_ne (Ne.symm hk)]
 have hc:∀{v:Value} {x:AV},VR w (MM Mx H ρ) ρ (DD H) v x->VR {w with heap:=w.heap.setIfInBounds (ρ id).block (.map eJ uh)} (MM Mx (hset H id (.imap t l2)) ρ) ρ (DD (hset H id (.imap t l2))) v x:=fun hv=>by
  refine hv.carry (by simp) (fun b hb hm=>?_) (fun i hi=>⟨(hD i).2 hi,rfl,fun ar tt lJ=>?_⟩)
  ·have:b≠(ρ id).block:=fun e=>hm (.inr ⟨id,_,hid,rfl,e.symm⟩)
   exact⟨h7 b this,fun hh=>hm ((hM b).1 hh)⟩
  ·by_cases e:(ρ i).block=(ρ id).block
   ·rw[e]at lJ;rw[fv]at lJ;cases lJ
   ·exact⟨ar,(h7 _ e).trans lJ,rfl⟩
 refine⟨⟨h.below.os,h.below.tape,h.below.output,by simpa using h.below.size,fun k hk=>(h7 k (by omega)).trans (h.below.block k hk)⟩,by simpa using h.hB,fun b hb=>by simpa using h.mx b hb,fun i o g1 g2=>?_,fun i o g1=>?_,fun i o i' o' g1 g2 g3 g4 g5=>?_,fun tt=>hc (h.frv tt),h.defers,h.size⟩
 ·by_cases e:id=i
  ·subst e;exact jc
  ·rw[ka e]at g1;exact h.own i o g1 g2
 ·by_cases e:id=i
  ·subst e;rw[uB hid]at g1;cases g1;exact⟨hk,eJ,uh,h1,hl,fun j e k x q1 q2=>⟨(hf j e k x q1 q2).1,hc (hf j e k x q1 q2).2,rfl⟩⟩
  ·rw[ka e]at g1;have hr:=h.objs i o g1;cases o with
   |gone=>trivial
   |cells tt cc=>
    obtain⟨k1,ar,k2,k3,k4⟩:=hr;have aJ:(ρ i).block≠(ρ id).block:=fun e'=>e (h.inj _ _ _ _ hid rfl g1 rfl e'.symm);exact⟨k1,ar,(h7 _ aJ).trans k2,k3,fun j hj=>let ⟨u,hu,hv⟩:=k4 j hj;⟨u,hu,hc hv⟩⟩
   |gmap tt ck l=>
    obtain⟨es,k1,k2,k3⟩:=hr;have aJ:(ρ i).block≠(ρ id).block:=fun e'=>e (h.inj _ _ _ _ hid rfl g1 rfl e'.symm);exact⟨es,(h7 _ aJ).trans k1,k2,fun j e' q he hl=>let ⟨g1,g2,g3⟩:=k3 j e' q he hl;⟨g1,g2,hc g3⟩⟩
   |iter dB s sn la=>
    obtain⟨k1,k2,k3⟩:=hr;have aJ:(ρ i).block≠(ρ id).block:=fun e'=>e (h.inj _ _ _ _ hid rfl g1 rfl e'.symm);exact⟨(hD dB).2 k1,k2,(h7 _ aJ).trans k3⟩
   |imap tt l=>
    obtain⟨k0,es,ck,k1,k2,k3⟩:=hr;have aJ:(ρ i).block≠(ρ id).block:=fun e'=>e (h.inj _ _ _ _ hid rfl g1 rfl e'.symm);exact⟨k0,es,ck,(h7 _ aJ).trans k1,k2,fun j e' k x he hl=>let ⟨g1,g2,g3⟩:=k3 j e' k x he hl;⟨g1,hc g2,g3⟩⟩
   |fmap tt l=>
    obtain⟨k0,es,ck,k1,k2⟩:=hr;have aJ:(ρ i).block≠(ρ id).block:=fun e'=>e (h.inj _ _ _ _ hid rfl g1 rfl e'.symm);exact⟨k0,es,ck,(h7 _ aJ).trans k1,k2⟩
 ·have key:∀i o,hget (hset H id (.imap t l2)) i=some o->o.live=true->∃o',hget H i=some o'/\o'.live=true:=fun i o g1 g2=>by
   by_cases e:id=i
   ·subst e;exact⟨_,hid,rfl⟩
   ·rw[ka e]at g1;exact⟨o,g1,g2⟩
  obtain⟨q,q1,q2⟩:=key i o g1 g2;obtain⟨q',q3,q4⟩:=key i' o' g3 g4;exact h.inj i q i' q' q1 q2 q3 q4 g5
theorem Th{l:List (Int×AV)}{n:Int}{v:AV}{k:Int}{x:AV}(h:(k,x)∈fH l n v):(k,x)∈l\/(k,x)=(n,v):=by
 induction l with
 |nil=>simpa [fH] using h
 |cons q l ih=>
  unfold fH at h
  split at h
  ·rcases zzD.1 h with h|h
   ·exact .inr h
   ·exact .inl (zF _ h)
  ·rcases zzD.1 h with h|h
   ·exact .inl (h▸zE ..)
   ·rcases ih h with h|h
    ·exact .inl (zF _ h)
    ·exact .inr h
theorem Nk{n:Int}{v:AV}:∀(l:List (Int×AV)),jW l n=none->fH l n v=l++[(n,v)]
 |[],_=>rfl
 |q::l,h=>by
  unfold jW at h;simp only[List.find?_cons]at h;by_cases e:q.1=n
  ·have:(q.1==n)=true:=by simpa using e
   simp[this]at h
  ·have:(q.1==n)=false:=by simpa using e
   rw[this]at h;unfold fH;rw[zL e,Nk l h];rfl
theorem Sq{n:Int}{v:AV}:∀(l:List (Int×AV)) (j:Nat),(∃q,l[j]?=some q/\q.1=n)->(∀m<j,∀q,l[m]?=some q->q.1≠n)->fH l n v=l.set j (n,v)
 |[],j,h,_=>by obtain⟨q,h,_⟩:=h;simp at h
 |q::l,0,h,_=>by
  obtain⟨q',h1,h2⟩:=h;simp only[List.getElem?_cons_zero,Option.some.injEq]at h1;subst h1;unfold fH;rw[zM h2];rfl
 |q::l,j+1,h,hm=>by
  unfold fH;rw[zL (hm 0 (by omega) q rfl),Sq l j (by simpa using h) (fun m aC q' hq=>hm (m+1) (by omega) q' (by simpa using hq))];rfl
theorem XV(l:List (Int×Value×Nat))(n n':Int)(v:Value)(b:Nat)(h:(l.find? fun q=>q.1==n)=none):((l++[(n,v,b)]).find? fun q=>q.1==n').map (·.2.1)=if n'=n then some v else (l.find? fun q=>q.1==n').map (·.2.1):=by
 rw[List.find?_append];by_cases e:n'=n
 ·subst e;rw[zM rfl,h];simp
 ·rw[zL e]
  have:([(n,v,b)].find? fun q=>q.1==n')=none:=by simp;exact fun h=>e h.symm
  rw[this];cases l.find? fun q=>q.1==n'<;>rfl
theorem Uv(n n':Int)(v:Value):∀(l:List (Int×Value×Nat)) (j:Nat) (q:Int×Value×Nat),l[j]?=some q->q.1=n->(∀m<j,∀q',l[m]?=some q'->q'.1≠n)->
  ((l.modify j fun q=>(n,v,q.2.2)).find? fun q=>q.1==n').map (·.2.1)=if n'=n then some v else (l.find? fun q=>q.1==n').map (·.2.1)
 |[],j,q,h,_,_=>by simp at h
 |x::l,0,q,h,hq,_=>by
  simp only[List.getElem?_cons_zero,Option.some.injEq]at h;subst h;simp only[List.modify_zero_cons,List.find?_cons];by_cases e:n'=n
  ·subst e;simp
  ·have h1:(n==n')=false:=by simpa using fun h=>e h.symm
   have h2:(x.1==n')=false:=by simpa [hq] using fun h=>e h.symm
   rw[h1,h2,zL e]
 |x::l,j+1,q,h,hq,hm=>by
  have ih:=Uv n n' v l j q (by simpa using h) hq (fun m aC q' BF=>hm (m+1) (by omega) q' (by simpa using BF));have hx:=hm 0 (by omega) x (by simp);simp only[List.modify_succ_cons,List.find?_cons];by_cases e:x.1=n'
  ·have h1:(x.1==n')=true:=by simpa using e
   have:n'≠n:=fun h=>hx (e.trans h)
   rw[h1,zL this]
  ·have h1:(x.1==n')=false:=by simpa using e
   rw[h1];exact ih
theorem EM{s:ByteArray}{v:AV}:∀(l:List (ByteArray×Nat×AV)) (j:Nat) (q:ByteArray×Nat×AV),l[j]?=some q->q.1=s->(∀m<j,∀q',l[m]?=some q'->q'.1≠s)->Cy l s v=l.set j (s,q.2.1,v)
 |[],j,q,h,_,_=>by simp at h
 |x::l,0,q,h,hq,_=>by
  simp only[List.getElem?_cons_zero,Option.some.injEq]at h;subst h;unfold Cy;rw[zM hq];rfl
 |x::l,j+1,q,h,hq,hm=>by
  unfold Cy;rw[zL (hm 0 (by omega) x rfl),EM l j q (by simpa using h) hq (fun m aC q' BF=>hm (m+1) (by omega) q' (by simpa using BF))];rfl
theorem XU(h:aO B w0 Mx N w ρ fr H a){t kt et:Nat}(fu:tk P t= .map kt et)(dT:tk P kt= .str){s:ByteArray}{vu:Value}{v:AV}{id bO:Nat}{ob:AObj}(hv:VR w (MM Mx H ρ) ρ (DD H) vu v)
  (hs:muG s v id (hget H id)=some (bO,ob)):∃w',(Instr.mapUpdate t (.map (some (ρ id).block)) (.string s) vu).run P w= .ok () w'/\aO B w0 Mx N w' ρ fr (hset H bO ob) a:=by
 unfold muG at hs
 split at hs
 case h_2=>cases hs
 rename_i t' ck l ho
 split at hs
 case isFalse=>cases hs
 rename_i ht
 obtain⟨es,h1,h2,h3⟩:=h.objs id _ ho;have gC:=Ul (P:=P) (w:=w) dT false s;rcases MI s es.toList l 0 (by simpa using h2) (fun j e q g1 g2=>(h3 j e q (by simpa using g1) g2).1.str ht) with ⟨g1,g2⟩|⟨j,e,q,g1,g2,g3,g4,g5,g6⟩
 ·have gK:(Instr.findKey kt (.string s) es.toList).run P w= .ok none w:=by
   unfold Instr.findKey;simp[run_underlying (w6 dT),g2]
  rw[g1]at hs;cases hs;refine⟨{w with heap:=w.heap.setIfInBounds (ρ id).block (.map (es.push {key:= .string s,val:=vu,born:=ck}) (ck+1))},?_,h.yY ho rfl rfl h1 (fun _ _=>by simp) fun M' hc=>⟨es.push {key:= .string s,val:=vu,born:=ck},by simp[gA h1],by simp[h2],fun i e q q1 q2=>?_⟩⟩
  ·unfold Instr.mapUpdate;simp only[Sem.run_bind,run_underlying (qf fu),Result.andThen_ok];simp only[getObj,Sem.run,h1,Sem.run_bind,Result.andThen_ok,Sem.run_pure,gC,gK,setObj]
  ·by_cases hi:i<l.length
   ·rw[List.getElem?_append_left hi]at q2;rw[Array.getElem?_push,zL (by omega)]at q1;obtain⟨k1,k2,k3⟩:=h3 i e q q1 q2;exact⟨k1,k2,hc k3⟩
   ·rw[List.getElem?_append_right (by omega)]at q2;have qQ:i-l.length=0:=by
     rcases Nat.eq_zero_or_pos (i-l.length) with e0|e0
     ·exact e0
     ·rw[zS (by simp only[zH,zzC];omega)]at q2;cases q2
    rw[qQ]at q2;cases q2;rw[Array.getElem?_push,zM (by omega)]at q1;cases q1;exact⟨by unfold KR;rw[zM ht],rfl,hc hv⟩
 ·have gK:(Instr.findKey kt (.string s) es.toList).run P w= .ok (some (j,e.val)) w:=by
   unfold Instr.findKey;simp[run_underlying (w6 dT),g6]
  rw[g3]at hs;cases hs;have gY:es[j]?=some e:=by simpa using g1
  obtain⟨k1,k2,k3⟩:=h3 j e q gY g2;have k1:=k1.str ht;refine⟨{w with heap:=w.heap.setIfInBounds (ρ id).block (.map (es.modify j fun e=>{e with key:= .string s,val:=vu}) ck)},?_,h.yY ho rfl rfl h1 (fun _ _=>by simp) fun M' hc=>⟨es.modify j fun e=>{e with key:= .string s,val:=vu},by simp[gA h1],?_,fun i e' q' q1 q2=>?_⟩⟩
  ·unfold Instr.mapUpdate;simp only[Sem.run_bind,run_underlying (qf fu),Result.andThen_ok];have Pz:(s==s)=true:=by rw[U7];simp
   simp only[getObj,Sem.run,h1,Sem.run_bind,Result.andThen_ok,Sem.run_pure,gC,gK,setObj,gY,Option.map_some,Option.getD_some,k1,g4,Instr.keyThatStays,Instr.sameBits,Pz,if_true]
  ·rw[EM l j q g2 g4 g5];simpa using h2
  ·rw[EM l j q g2 g4 g5,List.getElem?_set]at q2;rw[Array.getElem?_modify]at q1;by_cases Hh:j=i
   ·subst Hh;rw[zM rfl]at q1;rw[zM rfl]at q2;rw[gY]at q1;cases q1
    split at q2
    ·cases q2;exact⟨by unfold KR;rw[zM ht],k2,hc hv⟩
    ·cases q2
   ·rw[zL Hh]at q1 q2;obtain⟨m1,m2,m3⟩:=h3 i e' q' q1 q2;exact⟨m1,m2,hc m3⟩
theorem Yk(h:aO B w0 Mx N w ρ fr H a){t kt et:Nat}(fu:tk P t= .map kt et){e0:Nat}(dT:tk P kt= .arr 2 e0)(he:tk P e0= .int .i64)(fJ:tsz P e0=some 1){a1 b1:Int}{vu:Value}{v:AV}{id bO:Nat}{ob:AObj}(hv:VR w (MM Mx H ρ) ρ (DD H) vu v)
  (hs:muP (en a1 b1) v id (hget H id)=some (bO,ob)):∃w',(Instr.mapUpdate t (.map (some (ρ id).block)) (kM a1 b1) vu).run P w= .ok () w'/\aO B w0 Mx N w' ρ fr (hset H bO ob) a:=by
 unfold muP at hs
 split at hs
 case h_2=>cases hs
 rename_i t' ck l ho
 split at hs
 case isTrue=>cases hs
 rename_i ht
 obtain⟨es,h1,h2,h3⟩:=h.objs id _ ho;have gC:=Uk (P:=P) (w:=w) dT he fJ false a1 b1;rcases MH (P:=P) (w:=w) dT he fJ a1 b1 es.toList l 0 (by simpa using h2) (fun j e q g1 g2=>(h3 j e q (by simpa using g1) g2).1.pr ht) with ⟨g1,g2⟩|⟨j,e,q,g1,g2,g3,g4,g5,g6⟩
 ·have gK:(Instr.findKey kt (kM a1 b1) es.toList).run P w= .ok none w:=by
   rw[Jm dT,g2]
  rw[g1]at hs;cases hs;refine⟨{w with heap:=w.heap.setIfInBounds (ρ id).block (.map (es.push {key:=kM a1 b1,val:=vu,born:=ck}) (ck+1))},?_,h.yY ho rfl rfl h1 (fun _ _=>by simp) fun M' hc=>⟨es.push {key:=kM a1 b1,val:=vu,born:=ck},by simp[gA h1],by simp[h2],fun i e q q1 q2=>?_⟩⟩
  ·unfold Instr.mapUpdate;simp only[Sem.run_bind,run_underlying (qf fu),Result.andThen_ok];simp only[getObj,Sem.run,h1,Sem.run_bind,Result.andThen_ok,Sem.run_pure,gC,gK,setObj]
  ·by_cases hi:i<l.length
   ·rw[List.getElem?_append_left hi]at q2;rw[Array.getElem?_push,zL (by omega)]at q1;obtain⟨k1,k2,k3⟩:=h3 i e q q1 q2;exact⟨k1,k2,hc k3⟩
   ·rw[List.getElem?_append_right (by omega)]at q2;have qQ:i-l.length=0:=by
     rcases Nat.eq_zero_or_pos (i-l.length) with e0|e0
     ·exact e0
     ·rw[zS (by simp only[zH,zzC];omega)]at q2;cases q2
    rw[qQ]at q2;cases q2;rw[Array.getElem?_push,zM (by omega)]at q1;cases q1;exact⟨by unfold KR;rw[zL ht,EO];exact⟨rfl,rfl⟩,rfl,hc hv⟩
 ·have gK:(Instr.findKey kt (kM a1 b1) es.toList).run P w= .ok (some (j,e.val)) w:=by
   rw[Jm dT,g6];simp
  rw[g3]at hs;cases hs;have gY:es[j]?=some e:=by simpa using g1
  obtain⟨k1,k2,k3⟩:=h3 j e q gY g2;have k1:=(k1.pr ht).2;rw[g4,EO]at k1;refine⟨{w with heap:=w.heap.setIfInBounds (ρ id).block (.map (es.modify j fun e=>{e with key:=kM a1 b1,val:=vu}) ck)},?_,h.yY ho rfl rfl h1 (fun _ _=>by simp) fun M' hc=>⟨es.modify j fun e=>{e with key:=kM a1 b1,val:=vu},by simp[gA h1],?_,fun i e' q' q1 q2=>?_⟩⟩
  ·unfold Instr.mapUpdate;simp only[Sem.run_bind,run_underlying (qf fu),Result.andThen_ok];have Pz:Instr.sameBits 10000 (kM a1 b1) (kM a1 b1)=true:=by simp[Instr.sameBits]
   simp only[getObj,Sem.run,h1,Sem.run_bind,Result.andThen_ok,Sem.run_pure,gC,gK,setObj,gY,Option.map_some,Option.getD_some,k1,g4,Instr.keyThatStays,Pz,if_true]
  ·rw[EM l j q g2 g4 g5];simpa using h2
  ·rw[EM l j q g2 g4 g5,List.getElem?_set]at q2;rw[Array.getElem?_modify]at q1;by_cases Hh:j=i
   ·subst Hh;rw[zM rfl]at q1;rw[zM rfl]at q2;rw[gY]at q1;cases q1
    split at q2
    ·cases q2;exact⟨by unfold KR;rw[zL ht,EO];exact⟨rfl,rfl⟩,k2,hc hv⟩
    ·cases q2
   ·rw[zL Hh]at q1 q2;obtain⟨m1,m2,m3⟩:=h3 i e' q' q1 q2;exact⟨m1,m2,hc m3⟩
theorem TP(h:aO B w0 Mx N w ρ fr H a){t:Nat}{u ku vu:Value}{m k v:AV}{id:Nat}{ob:AObj}(hu:VR w (MM Mx H ρ) ρ (DD H) u m)(hk:VR w (MM Mx H ρ) ρ (DD H) ku k)(hv:VR w (MM Mx H ρ) ρ (DD H) vu v)
  (hs:muF P H t m k v=some (id,ob)):∃w',(Instr.mapUpdate t u ku vu).run P w= .ok () w'/\aO B w0 Mx N w' ρ fr (hset H id ob) a:=by
 unfold muF at hs
 split at hs
 case h_2=>cases hs
 rename_i kt et fu
 unfold muK at hs
 split at hs
 case h_4=>cases hs
 case h_3=>
  rename_i _ _ _ _ e bO a1 b1 dT
  have eu:=hu.gf;have ek:=hk.jE;subst eu ek;unfold yh7 at hs
  split at hs
  case h_2=>cases hs
  rename_i he fJ
  exact Yk h fu dT he fJ hv hs
 case h_2=>
  rename_i _ _ _ _ bO s dT
  have eu:=hu.gf;have ek:=hk.cZ;subst eu ek;exact XU h fu dT hv hs
 rename_i v _ _ _ _ bO n dT
 have eu:=hu.gf;have ek:=hk.aq;subst eu ek;have key:∀(t':Nat) (c c':MF),hget H bO=some (.fmap t' c)->(∀n',c'.val n'=if n'=n then some vu else c.val n')->∃w',(Instr.mapUpdate t (.map (some (ρ bO).block)) (.int .i64 n) vu).run P w= .ok () w'/\aO B w0 Mx N w' ρ fr (hset H bO (.fmap t' c')) a:=by
  intro t' c c' ho lI;obtain⟨l,es,ck,h1,h2,h3⟩:=h.objs bO _ ho;obtain⟨r',g1,g2,g3⟩:=Bf n l 0;rw[<-h2]at g1;have gC:(Instr.checkKey false 10000 kt (.int .i64 n)).run P w= .ok () w:=by
   unfold Instr.checkKey;simp[run_underlying (qg dT)]
  have gK:(Instr.findKey kt (.int .i64 n) es.toList).run P w= .ok r' w:=by
   unfold Instr.findKey;simp[run_underlying (qg dT),g1]
  cases r' with
  |none=>
   refine⟨{w with heap:=w.heap.setIfInBounds (ρ bO).block (.map (es.push {key:= .int .i64 n,val:=vu,born:=ck}) (ck+1))},?_,h.tq ho h1 (l:=l++[(n,vu,ck)]) (by simp[h2]) (fun n'=>?_)⟩
   ·unfold Instr.mapUpdate;simp only[Sem.run_bind,run_underlying (qf fu),Result.andThen_ok];simp only[getObj,Sem.run,h1,Sem.run_bind,Result.andThen_ok,Sem.run_pure,gC,gK,setObj]
   ·simp only[Option.map_none]at g2;rw[XV _ _ _ _ _ (by cases hf:l.find? fun q=>q.1==n<;>simp_all),h3 n',lI n']
  |some q=>
   obtain⟨j,v0⟩:=q;obtain⟨_,q,k1,k2,k3,k4⟩:=g3 j v0 rfl;simp only[Nat.sub_zero]at k1 k4;have gY:es[j]?=some ⟨.int .i64 n,q.2.1,q.2.2⟩:=by
    rw[<-Array.getElem?_toList,h2,zR,k1];simp[k2]
   refine⟨{w with heap:=w.heap.setIfInBounds (ρ bO).block (.map (es.modify j fun e=>{e with key:= .int .i64 n,val:=vu}) ck)},?_,h.tq ho h1 (l:=l.modify j fun q=>(n,vu,q.2.2)) ?_ (fun n'=>?_)⟩
   ·unfold Instr.mapUpdate;simp only[Sem.run_bind,run_underlying (qf fu),Result.andThen_ok];simp only[getObj,Sem.run,h1,Sem.run_bind,Result.andThen_ok,Sem.run_pure,gC,gK,setObj,gY,Option.map_some,Option.getD_some,Instr.keyThatStays,Instr.sameBits,beq_self_eq_true,Bool.and_self,if_true]
   ·rw[Array.toList_modify,h2];apply List.ext_getElem?;intro i;simp only[List.getElem?_modify,zR];by_cases e:j=i
    ·subst e;simp[k1]
    ·simp[e]
   ·rw[Uv n n' vu l j q k1 k2 k4,h3 n',lI n']
 unfold muM at hs
 split at hs
 ·rename_i t' g ho
  split at hs
  ·rename_i x
   cases hs;have ev:=hv.aq;subst ev;exact key t' (.ints g) (.ints (updI g n x)) ho (fun n'=>by simp only[MF.val,updI];split<;>rfl)
  ·cases hs
 ·rename_i t' g ho
  split at hs
  ·rename_i x
   cases hs;have ev:=hv.bool_inv;subst ev;exact key t' (.bools g) (.bools (updB g n x)) ho (fun n'=>by simp only[MF.val,updB];split<;>rfl)
  ·cases hs
 ·rename_i t' g ho
  split at hs
  ·rename_i x y
   cases hs;have ev:=hv.jE;subst ev;exact key t' (.pairs g) (.pairs (updP g n x y)) ho (fun n'=>by simp only[MF.val,updP];split<;>rfl)
  ·cases hs
 ·rename_i t' l ho
  split at hs
  case isFalse=>cases hs
  rename_i dt
  cases hs;obtain⟨h0,es,ck,h1,h2,h3⟩:=h.objs id _ ho;obtain⟨l',e1,e2,e3⟩:=Jd es.toList l (by simpa using h2) (fun j e k x g1 g2=>by have:=h3 j e k x (by simpa using g1) g2;exact⟨this.1,this.2.1⟩);obtain⟨f1,f2⟩:=Js n l' l e2 e3;obtain⟨r',g1,g2,g3⟩:=Bf n l' 0;rw[<-e1]at g1;have gC:(Instr.checkKey false 10000 kt (.int .i64 n)).run P w= .ok () w:=by
   unfold Instr.checkKey;simp[run_underlying (qg dT)]
  have gK:(Instr.findKey kt (.int .i64 n) es.toList).run P w= .ok r' w:=by
   unfold Instr.findKey;simp[run_underlying (qg dT),g1]
  have yD:∀k x,(k,x)∈fH l n v->okM x=true:=fun k x hm=>by
   rcases Th hm with hm|hm
   ·exact h0 k x hm
   ·cases hm;exact dt
  cases r' with
  |none=>
   have cP:jW l n=none:=by
    cases hf:jW l n with
    |none=>rfl
    |some x=>obtain⟨v',v1,_⟩:=f2 x hf;rw[v1]at g2;cases g2
   refine⟨{w with heap:=w.heap.setIfInBounds (ρ id).block (.map (es.push {key:= .int .i64 n,val:=vu,born:=ck}) (ck+1))},?_,h.tr ho h1 yD (by rw[Nk l cP];simp[h2]) (fun j e k x q1 q2=>?_)⟩
   ·unfold Instr.mapUpdate;simp only[Sem.run_bind,run_underlying (qf fu),Result.andThen_ok];simp only[getObj,Sem.run,h1,Sem.run_bind,Result.andThen_ok,Sem.run_pure,gC,gK,setObj]
   ·rw[Nk l cP]at q2;by_cases hj:j<l.length
    ·rw[List.getElem?_append_left hj]at q2;rw[Array.getElem?_push,zL (by omega)]at q1;exact⟨(h3 j e k x q1 q2).1,(h3 j e k x q1 q2).2.1⟩
    ·by_cases hj2:j=l.length
     ·subst hj2;rw[Array.getElem?_push,zM (by omega)]at q1;simp at q1 q2;obtain⟨rfl,rfl⟩:=q2;subst q1;exact⟨rfl,hv⟩
     ·rw[zS (by simp;omega)]at q2;cases q2
  |some q=>
   obtain⟨j,v0⟩:=q;obtain⟨_,q,k1,k2,k3,k4⟩:=g3 j v0 rfl;simp only[Nat.sub_zero]at k1 k4;have gY:es[j]?=some ⟨.int .i64 n,q.2.1,q.2.2⟩:=by
    rw[<-Array.getElem?_toList,e1,zR,k1];simp[k2]
   have dH:j<l.length:=by
    rw[<-e2];rcases zY j l'.length with h|h
    ·exact h
    ·rw[zS h]at k1;cases k1
   have WW:fH l n v=l.set j (n,v):=by
    refine Sq l j ⟨l[j],by simp[dH],?_⟩ (fun m hm q' hq=>?_)
    ·exact(e3 j q l[j].1 l[j].2 k1 (by simp[dH])).1.symm.trans k2
    ·have dw:m<l'.length:=by omega
     have:=(e3 m l'[m] q'.1 q'.2 (by simp[dw]) hq).1
     rw[<-this];exact k4 m hm _ (by simp[dw])
   refine⟨{w with heap:=w.heap.setIfInBounds (ρ id).block (.map (es.modify j fun e=>{e with key:= .int .i64 n,val:=vu}) ck)},?_,h.tr ho h1 yD (by rw[WW];simp[h2]) (fun i e k x q1 q2=>?_)⟩
   ·unfold Instr.mapUpdate;simp only[Sem.run_bind,run_underlying (qf fu),Result.andThen_ok];simp only[getObj,Sem.run,h1,Sem.run_bind,Result.andThen_ok,Sem.run_pure,gC,gK,setObj,gY,Option.map_some,Option.getD_some,Instr.keyThatStays,Instr.sameBits,beq_self_eq_true,Bool.and_self,if_true]
   ·rw[WW]at q2;rw[Array.getElem?_modify]at q1;by_cases hi:j=i
    ·subst hi;rw[zM rfl,gY]at q1;simp only[Option.map_some,Option.some.injEq]at q1;rw[List.getElem?_set_self dH]at q2;simp only[Option.some.injEq,Prod.mk.injEq]at q2;obtain⟨rfl,rfl⟩:=q2;subst q1;exact⟨rfl,hv⟩
    ·rw[zL hi]at q1;rw[List.getElem?_set_ne hi]at q2;exact⟨(h3 i e k x q1 q2).1,(h3 i e k x q1 q2).2.1⟩
 ·cases hs
end
def isI:AV->Bool
 |.int .i64 _=>true
 |_=>false
def toI:AV->Int
 |.int _ n=>n
 |_=>0
def isBo:AV->Bool
 |.bool _=>true
 |_=>false
def toBo:AV->Bool
 |.bool b=>b
 |_=>false
def mkC(P:Program)(e:Nat)(xs:List AV):Cs:=
 match tk P e with
 |.int .i64=>if xs.all isI then .ints (xs.map toI) else .lst xs
 |.bool=>if xs.all isBo then .bools (xs.map toBo) else .lst xs
 |_=> .lst xs
def zC(P:Program)(e n:Nat)(z:List AV):Cs:=
 match tk P e,z with
 |.int .i64,[.int .i64 0]=> .ints (List.replicate n 0)
 |.bool,[.bool false]=> .bools (List.replicate n false)
 |_,_=> .lst (List.replicate n z).flatten
theorem So(P:Program)(e:Nat)(xs:List AV):(mkC P e xs).len=xs.length:=by
 unfold mkC;split<;>(try split)<;>simp[Cs.len]
theorem y41(P:Program)(e:Nat)(xs:List AV)(j:Nat)(hj:j<xs.length):(mkC P e xs).get j=xs.getD j .any:=by
 unfold mkC
 split
 ·split
  ·rename_i hh
   have:=zZ.1 hh _ (List.getElem_mem hj)
   simp only[Cs.get,zB,zR,zJ hj,Option.map_some,Option.getD_some];generalize xs[j]=x at*;unfold isI at this
   split at this
   ·rfl
   ·cases this
  ·rfl
 ·split
  ·rename_i hh
   have:=zZ.1 hh _ (List.getElem_mem hj)
   simp only[Cs.get,zB,zR,zJ hj,Option.map_some,Option.getD_some];generalize xs[j]=x at*;unfold isBo at this
   split at this
   ·rfl
   ·cases this
  ·rfl
 ·rfl
def setL(xs:List AV)(off:Nat):List AV->List AV
 |[]=>xs
 |y::r=>setL (xs.set off y) (off+1) r
def yfg(P:Program)(fs:List (Nat×Nat)):List AV->List (Nat×AV)->Option (List AV)
 |z,[]=>some z
 |z,(i,x)::r=>match fs[i]? with
  |some (ft,o)=>match tsz P ft with
   |some n=>if (yaw x).length=n/\(ycg x=true\/isAgg' x=true)/\o+n<=z.length then yfg P fs (setL z o (yaw x)) r else none
   |none=>none
  |none=>none
where isAgg':AV->Bool
 |.agg _=>true
 |_=>false
def yke:Option Nat->List AV->List (Nat×AV)->Option (Prop×AV)
 |some 1,[_,_],[(0,.int .i64 a),(1,.int .i64 b)]=>some (True,.agg [I a,I b])
 |_,_,_=>none
def yhg(P:Program)(t:Nat)(parts:List (Nat×AV)):Option (Prop×AV):=
 match tk P t,tze P t with
 |.arr 2 e,some z=>yke (tsz P e) z parts
 |.struct fs,some z=>if fs.all (fun f=>(tsz P f.1).isSome) then match yfg P fs z parts with
  |some l=>some (True,.agg l)
  |none=>none
  else none
 |_,_=>none
section
variable{P:Program}{w:World}{M:Nat->Prop}{ρ:Nat->Addr}{D:Nat->Prop}
theorem xT{t:Nat}{z:List AV}(h:tze P t=some z):∃i zv,P.info? t=some i/\i.zero=some zv/\zv.cells.toList.map absV=z:=by
 unfold tze at h;obtain⟨zv,h1,h2⟩:=zzB.1 h;obtain⟨i,h3,h4⟩:=Option.bind_eq_some_iff.1 h1;exact⟨i,zv,h3,h4,h2⟩
theorem LU{z:List AV}{zv:Value}(h:zv.cells.toList.map absV=z):RL w M ρ D zv.cells z:=by
 subst h;refine⟨by simp,fun i v x hv hx=>?_⟩;simp only[zR]at hx
 have:zv.cells.toList[i]?=some v:=by simpa using hv
 rw[this]at hx;cases hx;exact IK v
theorem y1j{ys:List AV}:∀(cs:List Value) (k:Nat) (arr:Array Value) (xs:List AV) (off:Nat),RL w M ρ D arr xs->cs.length=ys.length->off+k+ys.length<=xs.length->
  (∀(i:Nat) (v:Value) (x:AV),cs[i]?=some v->ys[i]?=some x->VR w M ρ D v x)->RL w M ρ D ((cs.zipIdx k).foldl (fun a (c,j)=>a.setIfInBounds (off+j) c) arr) (setL xs (off+k) ys):=by
 induction ys with
 |nil=>
  intro cs k arr xs off h hl _ _
  have:cs=[]:=zT (by simpa using hl)
  subst this;simpa [setL] using h
 |cons y ys ih=>
  intro cs k arr xs off h hl hb hv;cases cs with
  |nil=>simp at hl
  |cons c cs=>
   simp only[List.zipIdx_cons,List.foldl_cons,setL];have h1:=hv 0 c y rfl rfl;refine ih cs (k+1) _ _ off ⟨by simpa using h.1,fun i v x kO fT=>?_⟩ (by simpa using hl) (by simp only[zzF];simp only[zH]at hb;omega) (fun i v x h2 h3=>hv (i+1) v x (by simpa using h2) (by simpa using h3));by_cases e:off+k=i
   ·subst e;have aC:off+k<xs.length:=by simp only[zH]at hb;omega
    have yE:off+k<arr.size:=by rw[h.1];exact aC
    simp[aC,yE]at kO fT;subst kO fT;exact h1
   ·rw[Array.getElem?_setIfInBounds]at kO;simp[e]at kO fT;exact h.2 i v x kO fT
theorem US:∀(gs:List Field),(∀g∈gs,(tsz P g.type).isSome=true)->∃ss:List (Nat×Nat),(gs.mapM (fun f=>do pure (f.offset,<-sizeOf f.type):Field->Sem (Nat×Nat))).run P w= .ok ss w/\ss.length=gs.length/\
  ∀(i:Nat) (g:Field),gs[i]?=some g->∃n,tsz P g.type=some n/\ss[i]?=some (g.offset,n)
 |[],_=>⟨[],by simp,rfl,by simp⟩
 |g::gs,h=>by
  obtain⟨ss,h1,h2,h3⟩:=US gs fun x hx=>h x (by simp[hx]);obtain⟨n,hn⟩:=Option.isSome_iff_exists.1 (h g (by simp));refine⟨(g.offset,n)::ss,?_,by simp[h2],fun i q hq=>?_⟩
  ·simp only[List.mapM_cons];simp only[bind_pure_comp]at h1⊢;simp[km hn,h1]
  ·cases i with
   |zero=>simp at hq;subst hq;exact⟨n,hn,rfl⟩
   |succ i=>simp at hq;obtain⟨m,h5,h6⟩:=h3 i q hq;exact⟨m,h5,by simpa using h6⟩
theorem UJ{fs:List (Nat×Nat)}{ss:List (Nat×Nat)}(Wi:∀(i ft o n:Nat),fs[i]?=some (ft,o)->tsz P ft=some n->ss[i]?=some (o,n)):∀(ps:List (Nat×AV)) (qs:List (Nat×Value)) (z l:List AV) (arr:Array Value),
  qs.map (·.1)=ps.map (·.1)->(∀(i:Nat) (q:Nat×Value) (p:Nat×AV),qs[i]?=some q->ps[i]?=some p->VR w M ρ D q.2 p.2)->RL w M ρ D arr z->yfg P fs z ps=some l->
  ∃bA,Instr.fill (ss.toArray[·]?) arr qs=some bA/\RL w M ρ D bA l
 |[],[],z,l,arr,_,_,hr,h=>by simp only[yfg]at h;cases h;exact⟨arr,rfl,hr⟩
 |[],q::qs,z,l,arr,he,_,_,_=>by simp at he
 |p::ps,[],z,l,arr,he,_,_,_=>by simp at he
 |(i,x)::ps,(i',v)::qs,z,l,arr,he,hv,hr,h=>by
  simp only[List.map_cons,List.cons.injEq]at he;obtain⟨rfl,he⟩:=he;simp only[yfg]at h
  split at h
  ·rename_i ft o hf
   split at h
   ·rename_i n hn
    split at h
    ·rename_i hc
     have hv0:=hv 0 (i',v) (i',x) rfl rfl;have hx:ycg x=true\/ ∃xs,x= .agg xs:=by
      rcases hc.2.1 with h1|h1
      ·exact .inl h1
      ·cases x<;>first|exact .inr ⟨_,rfl⟩|simp[yfg.isAgg']at h1
     obtain⟨sV,jI⟩:=VR.lN hv0 hx;have BH:ss.toArray[i']?=some (o,n):=by simpa using Wi i' ft o n hf hn
     have wz:v.cells.size=n:=by rw[sV];exact hc.1
     have wo:=y1j (w:=w) (M:=M) (ρ:=ρ) (D:=D) (ys:=yaw x) v.cells.toList 0 arr z o hr (by simpa using sV) (by rw[hc.1];have:=hc.2.2;omega) (fun j u y hu hy=>jI j u y (by simpa using hu) hy);obtain⟨bA,h1,h2⟩:=UJ Wi ps qs _ l _ he (fun j q p hq hp=>hv (j+1) q p (by simpa using hq) (by simpa using hp)) wo h;refine⟨bA,?_,h2⟩;simp only[Instr.fill,BH]
     rw[zL (by have:=hr.1;have:=hc.2.2;simp[wz];omega)];have e:v.cells.zipIdx.foldl (fun cs (c,j)=>cs.setIfInBounds (o+j) c) arr=(v.cells.toList.zipIdx 0).foldl (fun a (c,j)=>a.setIfInBounds (o+j) c) arr:=by
      rw[<-Array.foldl_toList];simp
     rw[e];exact h1
    ·cases h
   ·cases h
  ·cases h
theorem Ys(k:IntKind)(n:Int):(Value.int k n).cells= #[.int k n]:=rfl
theorem YL{o:Option Nat}{z:List AV}{l:List (Nat×AV)}{p:Prop}{r:AV}(h:yke o z l=some (p,r)):o=some 1/\(∃z0 z1,z=[z0,z1])/\ ∃a b,l=[(0,.int .i64 a),(1,.int .i64 b)]/\r= .agg [I a,I b]:=by
 unfold yke at h
 split at h
 ·cases h;exact⟨rfl,⟨_,_,rfl⟩,_,_,rfl,rfl⟩
 ·cases h
theorem Y4{t:Nat}{parts:Array (Nat×Operand)}{a:Act}{ev:Operand->AV}(dE:∀x,VR w M ρ D (a.eval x) (ev x)){p:Prop}{r:AV}
  (h:yhg P t (parts.toList.map fun q=>(q.1,ev q.2))=some (p,r)):∃z,(Instr.build t (parts.map fun (i,x)=>(i,a.eval x))).run P w= .ok z w/\VR w M ρ D z r:=by
 unfold yhg at h
 split at h
 ·rename_i e z hk hz
  obtain⟨hs,⟨y0,y1,rfl⟩,c0,c1,dS,rfl⟩:=YL h;obtain⟨pl⟩:=parts;rcases pl with _|⟨⟨j0,x0⟩,_|⟨⟨j1,x1⟩,_|⟨u,pl⟩⟩⟩
  ·simp at dS
  ·simp at dS
  ·simp only[List.map_cons,List.map_nil,List.cons.injEq,Prod.mk.injEq,and_true]at dS;obtain⟨⟨rfl,g0⟩,rfl,g1⟩:=dS;have e0:=(g0▸dE x0).aq;have e1:=(g1▸dE x1).aq;obtain⟨i,zv,i1,i2,i3⟩:=xT hz;have hl:zv.cells.toList.length=2:=by have:=congrArg List.length i3;simpa using this
   obtain⟨z0,z1,tO⟩:∃z0 z1,zv.cells= #[z0,z1]:=by
    generalize zv.cells=ar at hl;obtain⟨l⟩:=ar
    match l,hl with
    |[z0,z1],_=>exact⟨z0,z1,rfl⟩
   exact⟨.agg #[.int .i64 c0,.int .i64 c1],by simp[Instr.build,zeroValue,typeInfo,i1,i2,run_underlying (tC hk),km hs,tO,Instr.fill,e0,e1,Ys],VR.pair _ _⟩
  ·simp at dS
 ·rename_i fs z hk hz
  split at h
  ·rename_i dz
   split at h
   ·rename_i l hb
    cases h;obtain⟨gs,hu,hg⟩:=EW hk;obtain⟨i,zv,h1,h2,h3⟩:=xT hz;have wG:∀g∈gs.toList,(tsz P g.type).isSome=true:=fun g hgm=>by
     have:=zZ.1 dz (g.type,g.offset) (by rw[<-hg];exact zzE.2 ⟨g,hgm,rfl⟩)
     exact this
    obtain⟨ss,s1,s2,s3⟩:=US (P:=P) (w:=w) gs.toList wG;obtain⟨bA,b1,b2⟩:=UJ (P:=P) (w:=w) (M:=M) (ρ:=ρ) (D:=D) (fs:=fs) (ss:=ss) (fun i ft o n hf hn=>by
      rw[<-hg]at hf;simp only[zR]at hf;obtain⟨g,xA,wm⟩:=zzB.1 hf;obtain⟨m,s6,J8⟩:=s3 i g xA;simp only[Prod.mk.injEq]at wm;rw[wm.1]at s6;rw[hn]at s6;cases s6;rw[J8,wm.2]) (parts.toList.map fun q=>(q.1,ev q.2)) (parts.toList.map fun q=>(q.1,a.eval q.2)) z l zv.cells (by simp[Function.comp_def]) (fun j q p hq hp=>by
      simp only[zR]at hq hp;cases hj:parts.toList[j]? with
      |none=>rw[hj]at hq;cases hq
      |some y=>rw[hj]at hq hp;cases hq;cases hp;exact dE y.2) (LU h3) hb
    have Gn:(gs.mapM (fun f=>do pure (f.offset,<-sizeOf f.type):Field->Sem (Nat×Nat))).run P w= .ok ss.toArray w:=by
     rw[Array.mapM_eq_mapM_toList];simp only[bind_pure_comp]at s1⊢;simp[s1]
    refine⟨.agg bA,?_,?_⟩
    ·simp only[bind_pure_comp]at Gn;simp only[Instr.build,bind_pure_comp];simp only[zeroValue,typeInfo];have Qn:Instr.fill (fun x=>ss[x]?) zv.cells (parts.toList.map fun q=>(q.1,a.eval q.2))=some bA:=by simpa using b1
     simp[h1,h2,run_underlying hu,Gn,Qn]
    ·obtain⟨q1,q2⟩:=b2;obtain⟨al⟩:=bA;exact .agg al l (by simpa using q1) (fun i v x hv hx=>q2 i v x (by simpa using hv) hx)
   ·cases h
  ·cases h
 ·cases h
end
def isAg:AV->Bool
 |.agg _=>true
 |_=>false
def mkE(t:Nat):TK->AObj
 |.int .i64=> .fmap t (.ints fun _=>none)
 |.bool=> .fmap t (.bools fun _=>none)
 |.arr 2 _=> .fmap t (.pairs fun _=>none)
 |_=> .imap t []
def mkJ(t:Nat)(e:AObj):TK->AObj
 |.str=> .gmap t 0 []
 |.arr 2 _=> .gmap (t+1000000000) 0 []
 |_=>e
def mkM(P:Program)(t:Nat):AObj:=match tk P t with
 |.map kt et=>mkJ t (mkE t (tk P et)) (tk P kt)
 |_=> .imap t []
theorem Yj(P:Program)(t:Nat):mkM P t= .imap t []\/mkM P t= .fmap t (.ints fun _=>none)\/mkM P t= .fmap t (.bools fun _=>none)\/mkM P t= .gmap t 0 []\/mkM P t= .gmap (t+1000000000) 0 []\/mkM P t= .fmap t (.pairs fun _=>none):=by
 unfold mkM
 split
 ·unfold mkJ;split
  ·simp
  ·simp
  ·unfold mkE;split<;>simp
 ·simp
def alF(P:Program)(aP:Nat)(ev:Operand->AV):Op->Option (Prop×AV×AObj)
 |.alloc t=>match tze P t with
  |some z=>some (True,.ptr aP 0,.cells t (.lst z))
  |none=>none
 |.box t x=>if ycg (ev x)=true\/isAg (ev x)=true then some (True,.ptr aP 0,.cells t (.lst (yaw (ev x)))) else none
 |.makeSlice t l c=>match tk P t with
  |.slice e=>match tsz P e,tby P e,tze P e,ev l,ev c with
   |some es,some ui,some z,.int .i64 n,.int .i64 m=>if z.length=es/\0<es/\ui<=1048576 then some (0<=n/\n<=m/\m<=1048576,.sl es aP 0 n.toNat,.cells e (zC P e n.toNat z)) else none
   |_,_,_,_,_=>none
  |_=>none
 |.buildSlice t len parts=>match tk P t with
  |.slice e=>match tsz P e,tze P e with
   |some es,some z=>if 0<es/\z.length=es/\len*es<=16777216/\parts.toList.map (·.1)=List.range len/\(parts.toList.all fun q=>(ycg (ev q.2)||isAg (ev q.2))&&decide ((yaw (ev q.2)).length=es))=true
    then some (True,.sl es aP 0 len,.cells e (mkC P e (parts.toList.flatMap fun q=>yaw (ev q.2)))) else none
   |_,_=>none
  |_=>none
 |.makeMap t none=>some (True,.mp aP,mkM P t)
 |_=>none
theorem Uu(z:List AV)(hz:0<z.length):∀(n j:Nat),j<n*z.length->(List.replicate n z).flatten[j]?=z[j % z.length]?
 |0,j,h=>by simp at h
 |n+1,j,h=>by
  simp only[List.replicate_succ,List.flatten_cons];by_cases c:j<z.length
  ·rw[List.getElem?_append_left c,Nat.mod_eq_of_lt c]
  ·have hc:z.length<=j:=by omega
   rw[List.getElem?_append_right hc,Uu z hz n (j-z.length) (by rw[Nat.succ_mul]at h;omega)];congr 1;rw[Nat.mod_eq_sub_mod hc]
theorem Q9(P:Program)(e n:Nat)(z:List AV):(zC P e n z).len=n*z.length:=by
 unfold zC;split<;>simp[Cs.len]
theorem ZN(P:Program)(e n:Nat)(z:List AV)(hz:0<z.length)(j:Nat)(hj:j<n*z.length):(zC P e n z).get j=z.getD (j % z.length) .any:=by
 unfold zC
 split
 ·simp only[zH,zzC,Nat.zero_add,Nat.mul_one]at hj;simp[Cs.get,hj,Nat.mod_one]
 ·simp only[zH,zzC,Nat.zero_add,Nat.mul_one]at hj;simp[Cs.get,hj,Nat.mod_one]
 ·have:=Uu _ hz n j hj
  simp[Cs.get,this]
section
variable{P:Program}{B:Nat}{w0:js}{Mx:Nat->Prop}{N:Nat}{w:World}{ρ:Nat->Addr}{fr:Fr}{H:Hp}{a:Act}
theorem aO.b9(h:aO B w0 Mx N w ρ fr H a)(aP:Nat)(hn:hget H aP=none)(arr:Array Value)(t:Nat)(c:Cs)(hl:c.len<=arr.size)
  (hv:∀j,j<c.len->∃u,arr[j]?=some u/\VR w (MM Mx H ρ) ρ (DD H) u (c.get j)):
  aO B w0 Mx N (w.alloc (.cells arr t)) (e8 ρ aP ⟨w.heap.size,0,none⟩) fr ((aP,.cells t c)::H) a:=
 h.alloc aP hn (.cells arr t) (.cells t c) fun M' ρ' D' hr hc=>
  ⟨by rw[hr],arr,by rw[hr];exact xU,by rw[hr];simpa using hl,fun j hj=>by
   obtain⟨u,h1,h2⟩:=hv j hj;exact⟨u,by rw[hr];simpa using h1,hc (fun _ h=>h) h2⟩⟩
theorem Ek{H:Hp}{aP:Nat}{o:AObj}:DD ((aP,o)::H) aP:=⟨o,by simp[hget]⟩
theorem Uj{w':World}{M:Nat->Prop}{aP t:Nat}{c:Cs}:VR w' M (e8 ρ aP ⟨w.heap.size,0,none⟩) (DD ((aP,AObj.cells t c)::H)) (.pointer (some ⟨w.heap.size,0,none⟩)) (.ptr aP 0):=by
 have:=VR.ptr (w:=w') (M:=M) (ρ:=e8 ρ aP ⟨w.heap.size,0,none⟩) (D:=DD ((aP,AObj.cells t c)::H)) aP 0 Ek
 rwa [j9]at this
theorem Da{M:Nat->Prop}{aP t es len cap:Nat}{arr:Array Value}{o:AObj}(hc:len<=cap)(hr:cap*es<=arr.size):
  VR (w.alloc (.cells arr t)) M (e8 ρ aP ⟨w.heap.size,0,none⟩) (DD ((aP,o)::H)) (.slice (some ⟨w.heap.size,0,none⟩) len cap) (.sl es aP 0 len):=by
 have:=VR.sl (w:=w.alloc (.cells arr t)) (M:=M) (ρ:=e8 ρ aP ⟨w.heap.size,0,none⟩) (D:=DD ((aP,o)::H)) es aP 0 len cap Ek hc arr t ⟨w.heap.size,0,none⟩ (fun _=>by rw[j9];rfl) (by rw[j9];exact xU) (by rw[j9];simpa using hr)
 exact this
theorem Jr{t:Nat}{arr:Array Value}:(newRow t arr).run P w= .ok ⟨w.heap.size,0,none⟩ (w.alloc (.cells arr t)):=by
 simp[newRow,newObj,Sem.run]
theorem UL{ev:Operand->AV}{es:Nat}:∀(l:List (Nat×Operand)),(∀q∈l,(yaw (ev q.2)).length=es)->(l.flatMap fun q=>yaw (ev q.2)).length=l.length*es
 |[],_=>by simp
 |q::l,h=>by simp only[List.flatMap_cons,zG,UL l fun x hx=>h x (by simp[hx]),h q (by simp),zH];rw[Nat.succ_mul];omega
theorem Zb{t:Nat}{z:List AV}(h:tze P t=some z):∃zv:Value,(∀w:World,(zeroValue t).run P w= .ok zv w)/\zv.cells.toList.map absV=z:=by
 obtain⟨i,zv,h1,h2,h3⟩:=xT h;exact⟨zv,fun w=>by simp[zeroValue,typeInfo,h1,h2],h3⟩
theorem Tg{es:Nat}{vs:Nat->Value}:∀(n k:Nat) (arr:Array Value),(∀j,k<=j->j<k+n->(vs j).cells.size=es)->(k+n)*es<=arr.size->
  ∃bA,Instr.fill (fun i=>some (i*es,es)) arr ((List.range' k n).map fun j=>(j,vs j))=some bA/\bA.size=arr.size/\
   (∀i,i<k*es->bA[i]?=arr[i]?)/\ ∀j,k<=j->j<k+n->∀f,f<es->bA[j*es+f]?=(vs j).cells[f]?
 |0,k,arr,_,_=>⟨arr,rfl,rfl,fun _ _=>rfl,fun j h1 h2=>by omega⟩
 |n+1,k,arr,h,hl=>by
  have hk:=h k (zA _) (by omega);have hmul:(k+1+n)*es=(k+(n+1))*es:=by congr 1;omega
  have wo:∀(l:List Value) (i0:Nat) (ar:Array Value),k*es+i0+l.length<=ar.size->(((l.zipIdx i0).foldl (fun a (c,j)=>a.setIfInBounds (k*es+j) c) ar).size=ar.size)/\
   ∀i,((l.zipIdx i0).foldl (fun a (c,j)=>a.setIfInBounds (k*es+j) c) ar)[i]?=if k*es+i0<=i/\i<k*es+i0+l.length then l[i-(k*es+i0)]? else ar[i]?:=by
   intro l
   induction l with
   |nil=>intro i0 ar _;exact⟨rfl,fun i=>by rw[zL (by simp)];rfl⟩
   |cons x l ih=>
    intro i0 ar hb;simp only[zH]at hb;obtain⟨s1,s2⟩:=ih (i0+1) (ar.setIfInBounds (k*es+i0) x) (by simp;omega);simp only[List.zipIdx_cons,List.foldl_cons];refine⟨by rw[s1];simp,fun i=>?_⟩;rw[s2 i];simp only[zH];by_cases c1:k*es+(i0+1)<=i/\i<k*es+(i0+1)+l.length
    ·rw[zM c1,zM (by omega)]
     have:i-(k*es+i0)=(i-(k*es+(i0+1)))+1:=by omega
     rw[this,List.getElem?_cons_succ]
    ·rw[zL c1];by_cases c2:i=k*es+i0
     ·subst c2;rw[zM (by omega)];simp[show k*es+i0<ar.size by omega]
     ·rw[zL (by omega),Array.getElem?_setIfInBounds];simp[Ne.symm c2]
  have hkb:k*es+es<=arr.size:=by
   have:(k+1)*es<=(k+(n+1))*es:=Nat.mul_le_mul_right _ (by omega)
   rw[Nat.succ_mul]at this;omega
  obtain⟨f1,f2⟩:=wo (vs k).cells.toList 0 arr (by simp[hk];omega);obtain⟨bA,g1,g2,g3,g4⟩:=Tg n (k+1) ((((vs k).cells.toList.zipIdx 0).foldl (fun a (c,j)=>a.setIfInBounds (k*es+j) c) arr)) (fun j h1 h2=>h j (by omega) (by omega)) (by rw[f1,hmul];exact hl);refine⟨bA,?_,by rw[g2,f1],fun i hi=>?_,fun j h1 h2 f hf=>?_⟩
  ·rw[List.range'_succ,List.map_cons];simp only[Instr.fill];rw[zL (by simp[hk];omega)];have e:(vs k).cells.zipIdx.foldl (fun cs (c,j)=>cs.setIfInBounds (k*es+j) c) arr=((vs k).cells.toList.zipIdx 0).foldl (fun a (c,j)=>a.setIfInBounds (k*es+j) c) arr:=by
    rw[<-Array.foldl_toList];simp
   rw[e];exact g1
  ·rw[g3 i (by rw[Nat.succ_mul];omega),f2 i,zL (by omega)]
  ·by_cases c:j=k
   ·subst c;rw[g3 (j*es+f) (by rw[Nat.succ_mul];omega),f2,zM (by simp[hk];omega)];simp
   ·exact g4 j (by omega) (by omega) f hf
theorem TN(h:aO B w0 Mx N w ρ fr H a){aP:Nat}(hn:hget H aP=none){o:Oper}{p:Prop}{r:AV}{ob:AObj}(ha:alF P aP (evA fr) o.op=some (p,r,ob))(hp:p):
  ∃v w',(execOp a.eval o).run P w= .ok (.value v) w'/\aO B w0 Mx N w' (e8 ρ aP ⟨w.heap.size,0,none⟩) fr ((aP,ob)::H) a/\
   VR w' (MM Mx ((aP,ob)::H) (e8 ρ aP ⟨w.heap.size,0,none⟩)) (e8 ρ aP ⟨w.heap.size,0,none⟩) (DD ((aP,ob)::H)) v r/\ ∃rE,w'=w.alloc rE:=by
 cases ho:o.op with
 |alloc t=>
  rw[ho]at ha;simp only[alF]at ha
  split at ha
  ·rename_i z hz
   cases ha;obtain⟨zv,nq,iE⟩:=Zb hz;have nI:=LU (w:=w) (M:=MM Mx H ρ) (ρ:=ρ) (D:=DD H) iE;refine⟨_,_,?_,h.b9 aP hn zv.cells t (.lst z) (by simp[Cs.len,nI.1]) (fun j hj=>?_),Uj,_,rfl⟩
   ·simp only[execOp,ho,Instr.alloc];simp[nq,newVar,Jr]
   ·simp only[Cs.len]at hj;have gU:j<zv.cells.size:=by rw[nI.1];exact hj
    exact⟨zv.cells[j],by simp[gU],by simpa [Cs.get,hj] using nI.2 j zv.cells[j] z[j] (by simp[gU]) (by simp[hj])⟩
  ·cases ha
 |box t x=>
  rw[ho]at ha;simp only[alF]at ha
  split at ha
  ·rename_i dt
   cases ha;have hx:=h.ev x;have nI:=hx.lN (by
    rcases dt with h1|h1
    ·exact .inl h1
    ·right;cases hh:evA fr x<;>rw[hh]at h1<;>first|exact⟨_,rfl⟩|cases h1)
   refine⟨_,_,?_,h.b9 aP hn (a.eval x).cells t (.lst (yaw (evA fr x))) (by simp[Cs.len,nI.1]) (fun j hj=>?_),Uj,_,rfl⟩
   ·simp only[execOp,ho,Instr.box];simp[newVar,Jr]
   ·simp only[Cs.len]at hj;have gU:j<(a.eval x).cells.size:=by rw[nI.1];exact hj
    exact⟨(a.eval x).cells[j],by simp[gU],by simpa [Cs.get,hj] using nI.2 j (a.eval x).cells[j] (yaw (evA fr x))[j] (by simp[gU]) (by simp[hj])⟩
  ·cases ha
 |makeSlice t l c=>
  rw[ho]at ha;simp only[alF]at ha
  split at ha
  ·rename_i e hk
   split at ha
   ·rename_i es ui z n m h1 h2 h3 h4 h5
    split at ha
    ·rename_i hh
     cases ha;obtain⟨hz,eR,BZ⟩:=hh;have el:=(h4▸h.ev l).aq;have ec:=(h5▸h.ev c).aq;obtain⟨i,zv,i1,i2,i3⟩:=xT h3;obtain⟨i',i4,i5⟩:=Mv h2;rw[i1]at i4;cases i4;obtain⟨i',i6,i7⟩:=Jc h1;rw[i1]at i6;cases i6;obtain⟨dM,ow,OW⟩:=hp;obtain⟨nn,rfl⟩:=Int.eq_ofNat_of_zero_le dM;obtain⟨mm,rfl⟩:=Int.eq_ofNat_of_zero_le (show 0<=m by omega)
     have xr:zv.cells.size=es:=by have:=congrArg List.length i3;simp at this;omega
     have hb:(i.bytes:Int)*(mm:Int)<=281474976710656:=by
      have:i.bytes*mm<=1048576*1048576:=Nat.mul_le_mul (by omega) (by omega)
      have h':((i.bytes*mm:Nat):Int)<=281474976710656:=by omega
      rwa [Int.natCast_mul]at h'
     have hr:=run_make (P:=P) w t e i zv (kl hk) i1 i2 .i64 .i64 nn mm (by omega) (by omega) hb (by omega);simp only[zD]at hr⊢;have Wv:(madeCells zv.cells (mm*i.size)).size=mm*es:=by unfold madeCells;simp[i7]
     have nI:=LU (w:=w) (M:=MM Mx H ρ) (ρ:=ρ) (D:=DD H) i3;refine⟨_,_,?_,h.b9 aP hn (madeCells zv.cells (mm*i.size)) e (zC P e nn z) (by rw[Q9,Wv,hz];exact Nat.mul_le_mul_right _ (by omega)) (fun j hj=>?_),Da (cap:=mm) (by omega) (by rw[Wv];exact zA _),_,rfl⟩
     ·simp only[execOp,ho,el,ec];simp[hr]
     ·rw[Q9]at hj;rw[ZN P e nn z (by omega) j hj];have wi:j % z.length<z.length:=Nat.mod_lt _ (by omega);have Pl:j % z.length<zv.cells.size:=by omega
      refine⟨zv.cells[j % z.length],?_,?_⟩
      ·have DH:j<mm*i.size:=by rw[i7,<-hz];exact Nat.lt_of_lt_of_le hj (Nat.mul_le_mul_right _ (by omega))
       have e1:zv.cells[j % zv.cells.size]! =zv.cells[j % z.length]:=by
        rw[getElem!_pos zv.cells (j % zv.cells.size) (Nat.mod_lt _ (by omega))]
        have:zv.cells.size=z.length:=by omega
        simp only[this]
       unfold madeCells;simp[DH,e1]
      ·simpa [wi] using nI.2 (j % z.length) zv.cells[j % z.length] z[j % z.length] (by simp[Pl]) (by simp[wi])
    ·cases ha
   ·cases ha
  ·cases ha
 |buildSlice t len parts=>
  rw[ho]at ha;simp only[alF]at ha
  split at ha
  ·rename_i e hk
   split at ha
   ·rename_i es z h1 h2
    split at ha
    ·rename_i hh
     cases ha;obtain⟨eR,hz,hlim,Gv,dz⟩:=hh;obtain⟨i,zv,i1,i2,i3⟩:=xT h2;have Ao:=km h1 w;have gq:parts.toList.length=len:=by have:=congrArg List.length Gv;simpa using this
     have wG:=zZ.1 dz;have hc:∀q∈parts.toList,(yaw (evA fr q.2)).length=es/\RL w (MM Mx H ρ) ρ (DD H) (a.eval q.2).cells (yaw (evA fr q.2)):=fun q hq=>by
      have:=wG q hq
      simp only[zV,Bool.or_eq_true,decide_eq_true_eq]at this;refine⟨this.2,(h.ev q.2).lN ?_⟩;rcases this.1 with h1|h1
      ·exact .inl h1
      ·right;cases hh:evA fr q.2<;>rw[hh]at h1<;>first|exact⟨_,rfl⟩|cases h1
     let vs:Nat->Value:=fun j=>a.eval ((parts.toList.getD j default).2)
     have hpv:(parts.map fun (i,x)=>(i,a.eval x)).toList=(List.range' 0 len).map fun j=>(j,vs j):=by
      apply List.ext_getElem?;intro j;simp only[Array.toList_map,zR];by_cases hj:j<len
      ·have gU:j<parts.toList.length:=by omega
       have hix:(parts.toList[j]).1=j:=by
        have:=congrArg (fun l=>l[j]?) Gv
        simp only[zR,zJ gU,Option.map_some,List.getElem?_range hj]at this;simpa using this
       rw[zJ gU];simp[vs,hj];refine⟨?_,?_⟩
       ·simpa using hix
       ·rw[show parts[j]?=some parts[j] from by simp[show j<parts.size by simpa using gU]];simp
      ·rw[zS (by omega),zS (by simp;omega)];rfl
     let zs:Array Value:=(Array.range (len*es)).map fun q=>(if len*es=0 then #[] else zv.cells)[q %(if len*es=0 then (#[]:Array Value) else zv.cells).size]!
     have xr:zs.size=len*es:=by simp[zs]
     have nA:∀j,j<len->(yaw (evA fr (parts.toList.getD j default).2)).length=es/\RL w (MM Mx H ρ) ρ (DD H) (vs j).cells (yaw (evA fr (parts.toList.getD j default).2)):=fun j hj=>by
      have gU:j<parts.toList.length:=by omega
      have:=hc (parts.toList[j]) (List.getElem_mem gU)
      simpa [vs,gU,show j<parts.size by simpa using gU] using this
     obtain⟨bA,g1,g2,_,g4⟩:=Tg (es:=es) (vs:=vs) len 0 zs (fun j _ hj=>by rw[(nA j (by omega)).2.1];exact(nA j (by omega)).1) (by rw[xr];simp);have qT:=UL (ev:=evA fr) (es:=es) parts.toList fun q hq=>(hc q hq).1;rw[gq]at qT
     refine⟨_,_,?_,h.b9 aP hn bA e (mkC P e (parts.toList.flatMap fun q=>yaw (evA fr q.2))) (by rw[So,qT,g2,xr];exact zA _) (fun j hj=>?_),Da (zA _) (by rw[g2,xr];exact zA _),_,rfl⟩
     ·simp only[execOp,ho,Instr.buildSlice];rw[hpv];have Gt:¬(2^24<len*es):=by omega
      by_cases h0:len*es=0
      ·have Kv:Instr.fill (fun i=>some (i*es,es)) ((Array.range (len*es)).map ((#[]:Array Value)[· % 0]!)) ((List.range' 0 len).map fun j=>(j,vs j))=some bA:=by
        have:zs=(Array.range (len*es)).map ((#[]:Array Value)[· % 0]!):=by simp[zs,h0]
        rw[<-this];exact g1
       simp[run_underlying (kl hk),Ao,h0];simp[h0]at Kv;rw[Kv];simp[Jr]
      ·have Kv:Instr.fill (fun i=>some (i*es,es)) ((Array.range (len*es)).map (zv.cells[· % zv.cells.size]!)) ((List.range' 0 len).map fun j=>(j,vs j))=some bA:=by
        have:zs=(Array.range (len*es)).map (zv.cells[· % zv.cells.size]!):=by simp[zs,h0]
        rw[<-this];exact g1
       simp[run_underlying (kl hk),Ao,Gt,h0,zeroValue,typeInfo,i1,i2];rw[Kv];simp[Jr]
     ·rw[So,qT]at hj;rw[y41 _ _ _ _ (by rw[qT];exact hj)];have WD:j/es<len:=(Nat.div_lt_iff_lt_mul eR).2 hj;have wi:j % es<es:=Nat.mod_lt _ eR;obtain⟨q1,q2,q3⟩:=nA (j/es) WD;have hje:j/es*es+j % es=j:=by rw[Nat.mul_comm];exact Nat.div_add_mod j es
      have ha:=g4 (j/es) (Nat.zero_le _) (by rw[Nat.zero_add];exact WD) (j % es) wi;rw[hje]at ha;have aC:j % es<(vs (j/es)).cells.size:=by rw[q2,q1];exact wi
      refine⟨(vs (j/es)).cells[j % es],by rw[ha];simp[aC],?_⟩;have hx:(parts.toList.flatMap fun q=>yaw (evA fr q.2)).getD j .any=(yaw (evA fr (parts.toList.getD (j/es) default).2)).getD (j % es) .any:=by
       have gen:∀(l:List (Nat×Operand)) (j:Nat),(∀q∈l,(yaw (evA fr q.2)).length=es)->j<l.length*es->(l.flatMap fun q=>yaw (evA fr q.2)).getD j .any=(yaw (evA fr (l.getD (j/es) default).2)).getD (j % es) .any:=by
        intro l
        induction l with
        |nil=>intro j _ hj;simp at hj
        |cons q l ih=>
         intro j hq hj;have mD:=hq q (by simp);simp only[List.flatMap_cons,zB];by_cases c:j<es
         ·rw[List.getElem?_append_left (by omega),Nat.div_eq_of_lt c,Nat.mod_eq_of_lt c];simp
         ·rw[List.getElem?_append_right (by omega),mD]
          have:=ih (j-es) (fun x hx=>hq x (by simp[hx])) (by simp only[zH,Nat.succ_mul]at hj;omega)
          simp only[zB]at this;rw[this,Nat.div_eq_sub_div eR (show es<=j by omega),Nat.mod_eq_sub_mod (show es<=j by omega)];simp
       exact gen parts.toList j (fun q hq=>(hc q hq).1) (by rw[gq];exact hj)
      rw[hx];have Wy:j % es<(yaw (evA fr (parts.toList.getD (j/es) default).2)).length:=by rw[q1];exact wi
      generalize yaw (evA fr (parts.toList.getD (j/es) default).2)=cl at*
      have:=q3 (j % es) (vs (j/es)).cells[j % es] cl[j % es] (by simp[aC]) (zJ Wy)
      rw[zB,zJ Wy];exact this
    ·cases ha
   ·cases ha
  ·cases ha
 |makeMap t r'=>
  rw[ho]at ha;cases r' with
  |some x=>simp[alF]at ha
  |none=>
   simp only[alF]at ha;cases ha;have DF:∀ob,ob=mkM P t->∃v w',(execOp a.eval o).run P w= .ok (.value v) w'/\aO B w0 Mx N w' (e8 ρ aP ⟨w.heap.size,0,none⟩) fr ((aP,ob)::H) a/\VR w' (MM Mx ((aP,ob)::H) (e8 ρ aP ⟨w.heap.size,0,none⟩)) (e8 ρ aP ⟨w.heap.size,0,none⟩) (DD ((aP,ob)::H)) v (.mp aP)/\ ∃rE,w'=w.alloc rE:=by
    intro ob jw;refine⟨.map (some w.heap.size),w.alloc (.map #[] 0),?_,h.alloc aP hn (.map #[] 0) ob (fun M' ρ' D' hr _=>?_),?_,_,rfl⟩
    ·simp only[execOp,ho];simp[Instr.makeMap,newObj,Sem.run]
    ·rcases Yj P t with e|e|e|e|e|e<;>rw[e]at jw<;>subst jw
     ·exact⟨by simp, #[],0,by rw[hr];exact xU,rfl,by simp⟩
     ·exact⟨[], #[],0,by rw[hr];exact xU,rfl,fun _=>rfl⟩
     ·exact⟨[], #[],0,by rw[hr];exact xU,rfl,fun _=>rfl⟩
     ·exact⟨#[],by rw[hr];exact xU,rfl,fun j e q he=>by simp at he⟩
     ·exact⟨#[],by rw[hr];exact xU,rfl,fun j e q he=>by simp at he⟩
     ·exact⟨[], #[],0,by rw[hr];exact xU,rfl,fun _=>rfl⟩
    ·have:=VR.mp (w:=w.alloc (.map #[] 0)) (M:=MM Mx ((aP,ob)::H) (e8 ρ aP ⟨w.heap.size,0,none⟩)) (ρ:=e8 ρ aP ⟨w.heap.size,0,none⟩) (D:=DD ((aP,ob)::H)) aP Ek
     rwa [j9]at this
   exact DF _ rfl
 |_=>rw[ho]at ha;simp[alF]at ha
end
def p1:AV->Bool
 |.any|.int .. |.bool _|.str _|.nils|.ro .. |.rp .. =>true
 |_=>false
def p2:AV->Bool
 |.agg xs=>xs.all p1
 |.fn _ xs=>xs.all p1
 |x=>p1 x
def p3:AV->Bool
 |.agg xs=>xs.all p2
 |.tup xs=>xs.all p2
 |.fn _ xs=>xs.all p2
 |x=>p1 x
def n1(id:Nat):AV->Bool
 |.ptr i _=>decide (i≠id)
 |.sl _ i _ _=>decide (i≠id)
 |.mp i=>decide (i≠id)
 |.agg _|.tup _|.fn _ _=>false
 |_=>true
def n2(id:Nat):AV->Bool
 |.agg xs=>xs.all (n1 id)
 |.fn _ xs=>xs.all (n1 id)
 |x=>n1 id x
def n3(id:Nat):AV->Bool
 |.agg xs=>xs.all (n2 id)
 |.tup xs=>xs.all (n2 id)
 |.fn _ xs=>xs.all (n2 id)
 |x=>n1 id x
section
variable{w:World}{M:Nat->Prop}{ρ ρ':Nat->Addr}{D D':Nat->Prop}
theorem VR.D0{v:Value}{x:AV}(h:VR w M ρ (fun _=>False) v x):VR w M ρ' D' v x:=h.carry (zA _) (fun _ _ hm=>⟨rfl,hm⟩) (fun _ h=>h.elim)
theorem VR.bP{v:Value}{x:AV}(h:VR w M ρ D v x)(hp:p1 x=true):VR w M ρ' D' v x:=by
 cases h with
 |any=>exact .any _
 |int=>exact .int _ _
 |bool=>exact .bool _
 |str=>exact .str _
 |nils=>exact .nils
 |ro es len c ad cap x hl hc he h0 hv=>exact .ro es len c ad cap x hl hc he h0 fun j hj=>(hv j hj).D0
 |rp c off a x hb hm hj hv=>exact .rp c off a x hb hm hj fun j hj=>(hv j hj).D0
 |_=>cases hp
theorem VR.vt{v:Value}{x:AV}(h:VR w M ρ D v x)(hp:p2 x=true):VR w M ρ' D' v x:=by
 cases x with
 |agg xs=>
  obtain⟨vs,rfl,hl,hx⟩:=h.bD;exact .agg vs xs hl fun i v x h1 h2=>(hx i v x h1 h2).bP (zZ.1 hp _ (zQ h2))
 |fn f xs=>
  obtain⟨vs,rfl,hl,hx⟩:=h.e7;exact .fn f vs xs hl fun i v x h1 h2=>(hx i v x h1 h2).bP (zZ.1 hp _ (zQ h2))
 |_=>exact h.bP hp
theorem VR.og{v:Value}{x:AV}(h:VR w M ρ D v x)(hp:p3 x=true):VR w M ρ' D' v x:=by
 cases x with
 |agg xs=>
  obtain⟨vs,rfl,hl,hx⟩:=h.bD;exact .agg vs xs hl fun i v x h1 h2=>(hx i v x h1 h2).vt (zZ.1 hp _ (zQ h2))
 |fn f xs=>
  obtain⟨vs,rfl,hl,hx⟩:=h.e7;exact .fn f vs xs hl fun i v x h1 h2=>(hx i v x h1 h2).vt (zZ.1 hp _ (zQ h2))
 |tup xs=>
  obtain⟨vs,rfl,hl,hx⟩:=h.fV;exact .tup vs xs hl fun i v x h1 h2=>(hx i v x h1 h2).vt (zZ.1 hp _ (zQ h2))
 |_=>exact h.bP hp
theorem VR.ye{id:Nat}{v:Value}{x:AV}(h:VR w M ρ D v x)(hp:n1 id x=true)(hD:∀i,D i->i≠id->D' i):VR w M ρ D' v x:=by
 cases h with
 |any=>exact .any _
 |int=>exact .int _ _
 |bool=>exact .bool _
 |str=>exact .str _
 |nils=>exact .nils
 |ro es len c ad cap x hl hc he h0 hv=>exact .ro es len c ad cap x hl hc he h0 hv
 |rp c off a x hb hm hj hv=>exact .rp c off a x hb hm hj hv
 |ptr i off hd=>exact .ptr i off (hD i hd (by simpa [n1] using hp))
 |sl es i off len cap hd hc arr t ad ha hb hr=>exact .sl es i off len cap (hD i hd (by simpa [n1] using hp)) hc arr t ad ha hb hr
 |mp i hd=>exact .mp i (hD i hd (by simpa [n1] using hp))
 |_=>cases hp
theorem VR.Bm{id:Nat}{v:Value}{x:AV}(h:VR w M ρ D v x)(hp:n2 id x=true)(hD:∀i,D i->i≠id->D' i):VR w M ρ D' v x:=by
 cases x with
 |agg xs=>
  obtain⟨vs,rfl,hl,hx⟩:=h.bD;exact .agg vs xs hl fun i v x h1 h2=>(hx i v x h1 h2).ye (zZ.1 hp _ (zQ h2)) hD
 |fn f xs=>
  obtain⟨vs,rfl,hl,hx⟩:=h.e7;exact .fn f vs xs hl fun i v x h1 h2=>(hx i v x h1 h2).ye (zZ.1 hp _ (zQ h2)) hD
 |_=>exact h.ye hp hD
theorem VR.FD{id:Nat}{v:Value}{x:AV}(h:VR w M ρ D v x)(hp:n3 id x=true)(hD:∀i,D i->i≠id->D' i):VR w M ρ D' v x:=by
 cases x with
 |agg xs=>
  obtain⟨vs,rfl,hl,hx⟩:=h.bD;exact .agg vs xs hl fun i v x h1 h2=>(hx i v x h1 h2).Bm (zZ.1 hp _ (zQ h2)) hD
 |fn f xs=>
  obtain⟨vs,rfl,hl,hx⟩:=h.e7;exact .fn f vs xs hl fun i v x h1 h2=>(hx i v x h1 h2).Bm (zZ.1 hp _ (zQ h2)) hD
 |tup xs=>
  obtain⟨vs,rfl,hl,hx⟩:=h.fV;exact .tup vs xs hl fun i v x h1 h2=>(hx i v x h1 h2).Bm (zZ.1 hp _ (zQ h2)) hD
 |_=>exact h.ye hp hD
end
def cutV(id:Nat)(x:AV):AV:=if n3 id x then x else .any
def gx(id:Nat):Cs->Cs
 |.ints l=> .ints l
 |.bools l=> .bools l
 |.lst l=> .lst (l.map (cutV id))
def cutO(id:Nat):AObj->AObj
 |.gone=> .gone
 |.cells t c=> .cells t (gx id c)
 |.imap t l=> .imap t l
 |.fmap t c=> .fmap t c
 |.gmap t ck l=> .gmap t ck l
 |.iter m s sn la=> .iter m s sn la
def hcut(id:Nat):Hp->Hp
 |[]=>[]
 |(i,o)::r=>if i=id then hcut id r else (i,cutO id o)::hcut id r
def fcut(id:Nat):Fr->Fr
 |[]=>[]
 |(t,x)::r=>(t,cutV id x)::fcut id r
def yi8(id:Nat):AObj->Bool
 |.imap _ l=>l.all fun q=>p3 q.2
 |.gmap _ _ l=>l.all fun q=>p3 q.2.2
 |.iter dB _ _ _=>dB !=id
 |_=>true
theorem CX(id:Nat)(H:Hp)(i:Nat):hget (hcut id H) i=if i=id then none else (hget H i).map (cutO id):=by
 induction H with
 |nil=>simp[hcut,hget]
 |cons p r ih=>
  obtain⟨j,o⟩:=p;simp only[hcut,hget];by_cases h1:j=id
  ·subst h1;rw[zM rfl,ih];by_cases h2:i=j
   ·simp[h2]
   ·simp[h2,Ne.symm h2]
  ·rw[zL h1];simp only[hget];by_cases h2:j=i
   ·subst h2;simp[h1]
   ·simp only[h2,if_false];exact ih
theorem y1k(id:Nat)(fr:Fr)(t:Nat):fget (fcut id fr) t=cutV id (fget fr t):=by
 induction fr with
 |nil=>simp[fcut,fget,cutV,n3,n1]
 |cons p r ih=>
  obtain⟨s,x⟩:=p;simp only[fcut,fget]
  split
  ·rfl
  ·exact ih
theorem Jl(id:Nat)(o:AObj):(cutO id o).live=o.live:=by cases o<;>rfl
theorem MG(id:Nat)(c:Cs):(gx id c).len=c.len:=by cases c<;>simp[gx,Cs.len]
theorem Tf(id:Nat)(c:Cs)(j:Nat)(hj:j<c.len):(gx id c).get j=cutV id (c.get j):=by
 cases c with
 |ints l=>simp[gx,Cs.get,cutV,n3,n1]
 |bools l=>simp[gx,Cs.get,cutV,n3,n1]
 |lst l=>simp only[Cs.len]at hj;simp[gx,Cs.get,hj]
theorem VR.cutV{w:World}{M:Nat->Prop}{ρ:Nat->Addr}{D D':Nat->Prop}{id:Nat}{v:Value}{x:AV}(h:VR w M ρ D v x)(hD:∀i,D i->i≠id->D' i):VR w M ρ D' v (cutV id x):=by
 unfold Proofs.YthohfoombimbeaaGreatDoor.cutV
 split
 ·rename_i hn;exact h.FD hn hD
 ·exact .any _
section
variable{P:Program}{B:Nat}{w0:js}{Mx:Nat->Prop}{N:Nat}{w:World}{ρ:Nat->Addr}{fr:Fr}{H:Hp}{a:Act}
theorem Im{id i:Nat}:DD (hcut id H) i↔DD H i/\i≠id:=by
 unfold DD;rw[CX];by_cases h:i=id
 ·simp[h]
 ·simp only[h,if_false,ne_eq,not_false_eq_true,and_true,zzB];constructor
  ·rintro⟨_,q,h1,_⟩;exact⟨q,h1⟩
  ·rintro⟨q,h1⟩;exact⟨_,q,h1,rfl⟩
theorem aO.sE(h:aO B w0 Mx N w ρ fr H a){id:Nat}{o:AObj}(hid:hget H id=some o)(hl:o.live=true)(DI:∀i q,hget H i=some q->yi8 id q=true):
  aO B w0 (fun b=>Mx b\/b=(ρ id).block) N w ρ (fcut id fr) (hcut id H) a:=by
 have hM:∀b,MM (fun b=>Mx b\/b=(ρ id).block) (hcut id H) ρ b->MM Mx H ρ b:=fun b hb=>by
  rcases hb with (h1|h1)|⟨i,q,h1,h2,h3⟩
  ·exact .inl h1
  ·exact .inr ⟨id,o,hid,hl,h1.symm⟩
  ·rw[CX]at h1
   split at h1
   ·cases h1
   ·obtain⟨q',h4,rfl⟩:=zzB.1 h1;exact .inr ⟨i,q',h4,by rw[Jl]at h2;exact h2,h3⟩
 have hc:∀{v:Value} {x:AV},VR w (MM Mx H ρ) ρ (DD H) v x->VR w (MM (fun b=>Mx b\/b=(ρ id).block) (hcut id H) ρ) ρ (DD (hcut id H)) v (cutV id x):=fun hv=>by
  refine VR.cutV (D:=DD H) ?_ (fun i h1 h2=>Im.2 ⟨h1,h2⟩);exact hv.carry (zA _) (fun b _ hm=>⟨rfl,fun hh=>hm (hM b hh)⟩) (fun i hd=>⟨hd,rfl,fun arr t ha=>⟨arr,ha,rfl⟩⟩)
 have key:∀i q,hget (hcut id H) i=some q->i≠id/\ ∃q',hget H i=some q'/\q=cutO id q':=fun i q h1=>by
  rw[CX]at h1
  split at h1
  ·cases h1
  ·rename_i aJ
   obtain⟨q',h4,rfl⟩:=zzB.1 h1;exact⟨aJ,q',h4,rfl⟩
 refine⟨h.below,h.hB,fun b hb=>?_,fun i q h1 h2=>?_,fun i q h1=>?_,fun i q i' q' h1 h2 h3 h4 h5=>?_,fun t=>?_,h.defers,h.size⟩
 ·rcases hb with h1|h1
  ·exact h.mx b h1
  ·rw[h1];exact(h.objs id o hid).lt hl
 ·obtain⟨aJ,q',h3,rfl⟩:=key i q h1;rw[Jl]at h2;obtain⟨g1,g2⟩:=h.own i q' h3 h2
  exact⟨g1,fun hh=>by rcases hh with hh|hh
                      ·exact g2 hh
                      ·exact aJ (h.inj i q' id o h3 h2 hid hl hh)⟩
 ·obtain⟨aJ,q',h3,rfl⟩:=key i q h1;have hr:=h.objs i q' h3;have wj:=DI i q' h3;cases q' with
  |gone=>trivial
  |cells t c=>
   obtain⟨k1,arr,k2,k3,k4⟩:=hr;exact⟨k1,arr,k2,by rw[MG];exact k3,fun j hj=>by
    rw[MG]at hj;obtain⟨u,hu,hv⟩:=k4 j hj;exact⟨u,hu,by rw[Tf _ _ _ hj];exact hc hv⟩⟩
  |fmap t c=>exact hr
  |gmap t ck l=>
   obtain⟨es,k1,k2,k3⟩:=hr;exact⟨es,k1,k2,fun j e q he hl=>by
    obtain⟨g1,g2,g3⟩:=k3 j e q he hl
    have:=zZ.1 wj q (zQ hl)
    refine⟨g1,g2,?_⟩;have g4:VR w (MM (fun b=>Mx b\/b=(ρ id).block) (hcut id H) ρ) ρ (DD H) e.val q.2.2:=g3.carry (zA _) (fun b _ hm=>⟨rfl,fun hh=>hm (hM b hh)⟩) (fun i hd=>⟨hd,rfl,fun arr t ha=>⟨arr,ha,rfl⟩⟩);exact g4.og this⟩
  |iter dB s sn la=>
   obtain⟨k1,k2,k3⟩:=hr;exact⟨Im.2 ⟨k1,by simpa [yi8] using wj⟩,k2,k3⟩
  |imap t l=>
   obtain⟨k0,es,ck,k1,k2,k3⟩:=hr;exact⟨k0,es,ck,k1,k2,fun j e k x he hl=>by
    obtain⟨g1,g2,g3⟩:=k3 j e k x he hl
    have:=zZ.1 wj (k,x) (zQ hl)
    refine⟨g1,?_,g3⟩;have g4:VR w (MM (fun b=>Mx b\/b=(ρ id).block) (hcut id H) ρ) ρ (DD H) e.val x:=g2.carry (zA _) (fun b _ hm=>⟨rfl,fun hh=>hm (hM b hh)⟩) (fun i hd=>⟨hd,rfl,fun arr t ha=>⟨arr,ha,rfl⟩⟩);exact g4.og this⟩
 ·obtain⟨_,p,g1,rfl⟩:=key i q h1;obtain⟨_,p',g2,rfl⟩:=key i' q' h3;rw[Jl]at h2 h4;exact h.inj i p i' p' g1 h2 g2 h4 h5
 ·rw[y1k];exact hc (h.frv t)
theorem aO.allow(h:aO B w0 Mx N w ρ fr H a){My:Nat->Prop}(hM:∀b,My b->Mx b):aO B w0 My N w ρ fr H a:=by
 have Kp:∀b,MM My H ρ b->MM Mx H ρ b:=fun b hb=>hb.imp (hM b) id
 have hc:∀{D:Nat->Prop} {v:Value} {x:AV},VR w (MM Mx H ρ) ρ D v x->VR w (MM My H ρ) ρ D v x:=fun hv=>
  hv.carry (zA _) (fun b _ hm=>⟨rfl,fun hh=>hm (Kp b hh)⟩) (fun i hd=>⟨hd,rfl,fun arr t ha=>⟨arr,ha,rfl⟩⟩)
 refine⟨h.below,h.hB,fun b hb=>h.mx b (hM b hb),fun i o h1 h2=>⟨(h.own i o h1 h2).1,fun hh=>(h.own i o h1 h2).2 (hM _ hh)⟩,fun i o h1=>?_,h.inj,fun t=>hc (h.frv t),h.defers,h.size⟩;have hr:=h.objs i o h1;cases o with
 |gone=>trivial
 |cells t c=>
  obtain⟨k1,arr,k2,k3,k4⟩:=hr;exact⟨k1,arr,k2,k3,fun j hj=>let ⟨u,hu,hv⟩:=k4 j hj;⟨u,hu,hc hv⟩⟩
 |gmap t ck l=>
  obtain⟨es,k1,k2,k3⟩:=hr;exact⟨es,k1,k2,fun j e q he hl=>let ⟨g1,g2,g3⟩:=k3 j e q he hl;⟨g1,g2,hc g3⟩⟩
 |iter dB s sn la=>exact hr
 |imap t l=>
  obtain⟨k0,es,ck,k1,k2,k3⟩:=hr;exact⟨k0,es,ck,k1,k2,fun j e k x he hl=>let ⟨g1,g2,g3⟩:=k3 j e k x he hl;⟨g1,hc g2,g3⟩⟩
 |fmap t c=>exact hr
theorem aO.attach(h:aO B w0 Mx N w ρ fr H a){My:Nat->Prop}{id b t off:Nat}{c:Cs}{arr bA:Array Value}{w':World}(hid:hget H id=none)(mT:∀x,Mx x↔My x\/x=b)(AJ:¬My b)(hBb:B<=b)
  (fv:w.heap[b]?=some (.cells arr t (0,0))) (h1:w'.heap[b]?=some (.cells bA t (0,0))) (h2:bA.size=arr.size) (h3:w'.heap.size=w.heap.size) (h4:w'.os=w.os) (h5:w'.tape=w.tape) (h6:w'.output=w.output)
  (h7:∀k,k≠b->w'.heap[k]?=w.heap[k]?) (hlen:off+c.len<=bA.size) (hv:∀j,j<c.len->∃u,bA[off+j]?=some u/\VR w (MM Mx H ρ) ρ (DD H) u (c.get j)):
  aO B w0 My N w' (e8 ρ id ⟨b,off,none⟩) fr ((id,.cells t c)::H) a:=by
 have aJ:∀i o,hget H i=some o->i≠id:=fun i o h1 h2=>by subst h2;rw[hid]at h1;cases h1
 have fK:∀i,hget ((id,AObj.cells t c)::H) i=if id=i then some (.cells t c) else hget H i:=fun i=>rfl;have hM:∀x,MM My ((id,AObj.cells t c)::H) (e8 ρ id ⟨b,off,none⟩) x->MM Mx H ρ x:=fun x hx=>by
  rcases hx with g1|⟨i,o,g1,g2,g3⟩
  ·exact .inl ((mT x).2 (.inl g1))
  ·rw[fK]at g1
   split at g1
   ·rename_i e;subst e;rw[j9]at g3;exact .inl ((mT x).2 (.inr g3.symm))
   ·rename_i e;rw[od _ _ (fun h=>e h.symm)]at g3;exact .inr ⟨i,o,g1,g2,g3⟩
 have uS:∀i,DD H i->DD ((id,AObj.cells t c)::H) i:=fun i ⟨q,hq⟩=>⟨q,by rw[fK,zL (fun h=>aJ i q hq h.symm)];exact hq⟩;have hc:∀{v:Value} {x:AV},VR w (MM Mx H ρ) ρ (DD H) v x->VR w' (MM My ((id,AObj.cells t c)::H) (e8 ρ id ⟨b,off,none⟩)) (e8 ρ id ⟨b,off,none⟩) (DD ((id,AObj.cells t c)::H)) v x:=fun hv=>by
  refine hv.carry (by omega) (fun x hx hm=>?_) (fun i hi=>?_)
  ·have:x≠b:=fun e=>hm (.inl ((mT x).2 (.inr e)))
   exact⟨h7 x this,fun hh=>hm (hM x hh)⟩
  ·obtain⟨q,hq⟩:=hi;refine⟨uS i ⟨q,hq⟩,od _ _ (aJ i q hq),fun ar tt lJ=>?_⟩;by_cases e:(ρ i).block=b
   ·rw[e]at lJ⊢;rw[fv]at lJ;cases lJ;exact⟨bA,h1,h2⟩
   ·exact⟨ar,(h7 _ e).trans lJ,rfl⟩
 have s5:∀i o,hget H i=some o->o.live=true->(ρ i).block≠b:=fun i o g1 g2 e=>(h.own i o g1 g2).2 ((mT _).2 (.inr e))
 refine⟨⟨h4.trans h.below.os,h5.trans h.below.tape,h6.trans h.below.output,by have:=h.below.size;omega,fun k hk=>(h7 k (by omega)).trans (h.below.block k hk)⟩,by have:=h.hB;omega,fun x hx=>by have:=h.mx x ((mT x).2 (.inl hx));omega,fun i o g1 g2=>?_,fun i o g1=>?_,fun i o i' o' g1 g2 g3 g4 g5=>?_,fun tt=>hc (h.frv tt),h.defers,h.size⟩
 ·rw[fK]at g1
  split at g1
  ·rename_i e;subst e;rw[j9];exact⟨hBb,AJ⟩
  ·rename_i e;rw[od _ _ (fun h=>e h.symm)]
   exact⟨(h.own i o g1 g2).1,fun hh=>(h.own i o g1 g2).2 ((mT _).2 (.inl hh))⟩
 ·rw[fK]at g1
  split at g1
  ·rename_i e;cases g1;subst e
   exact⟨by rw[j9],bA,by rw[j9];exact h1,by rw[j9];exact hlen,fun j hj=>by rw[j9];obtain⟨u,hu,hr⟩:=hv j hj;exact⟨u,hu,hc hr⟩⟩
  ·rename_i e
   have hr:=h.objs i o g1;have kT:=od ρ (x:=⟨b,off,none⟩) (id:=id) (i:=i) (fun h=>e h.symm);cases o with
   |gone=>trivial
   |cells tt cc=>
    obtain⟨k1,ar,k2,k3,k4⟩:=hr;have pd:=s5 i _ g1 rfl;exact⟨by rw[kT];exact k1,ar,by rw[kT];exact(h7 _ pd).trans k2,by rw[kT];exact k3,fun j hj=>by rw[kT];obtain⟨u,hu,hv⟩:=k4 j hj;exact⟨u,hu,hc hv⟩⟩
   |gmap tt ck l=>
    obtain⟨es,k1,k2,k3⟩:=hr;have pd:=s5 i _ g1 rfl;exact⟨es,by rw[kT];exact(h7 _ pd).trans k1,k2,fun j e' q he hl=>let ⟨g1,g2,g3⟩:=k3 j e' q he hl;⟨g1,g2,hc g3⟩⟩
   |iter dB s sn la=>
    obtain⟨k1,k2,k3⟩:=hr;have pd:=s5 i _ g1 rfl;have hm:e8 ρ id ⟨b,off,none⟩ dB=ρ dB:=by obtain⟨q,hq⟩:=k1;exact od _ _ (aJ dB q hq)
    exact⟨uS dB k1,by rw[kT];exact k2,by rw[kT,hm];exact(h7 _ pd).trans k3⟩
   |imap tt l=>
    obtain⟨k0,es,ck,k1,k2,k3⟩:=hr;have pd:=s5 i _ g1 rfl;exact⟨k0,es,ck,by rw[kT];exact(h7 _ pd).trans k1,k2,fun j e' k x he hl=>let ⟨g1,g2,g3⟩:=k3 j e' k x he hl;⟨g1,hc g2,g3⟩⟩
   |fmap tt l=>
    obtain⟨k0,es,ck,k1,k2⟩:=hr;have pd:=s5 i _ g1 rfl;exact⟨k0,es,ck,by rw[kT];exact(h7 _ pd).trans k1,k2⟩
 ·rw[fK]at g1 g3
  split at g1<;>split at g3
  ·rename_i e1 e2;omega
  ·rename_i e1 e2
   subst e1;rw[j9,od _ _ (fun h=>e2 h.symm)]at g5;exact zzA g5.symm (s5 i' o' g3 g4)
  ·rename_i e1 e2
   subst e2;rw[j9,od _ _ (fun h=>e1 h.symm)]at g5;exact zzA g5 (s5 i o g1 g2)
  ·rename_i e1 e2
   rw[od _ _ (fun h=>e1 h.symm),od _ _ (fun h=>e2 h.symm)]at g5;exact h.inj i o i' o' g1 g2 g3 g4 g5
end
def srcF(H:Hp)(es:Nat):AV->Option (Prop×Nat×Option Cs)
 |.nils=>some (True,0,none)
 |.sl eJ id off n=>if es=eJ then match hget H id with
  |some (.cells _ c)=>some (off+n*es<=c.len,n,some (c.rN off (n*es)))
  |_=>none
  else none
 |.ro eJ n c=>if es=eJ then some (True,n,some c) else none
 |_=>none
def jm(c:Cs):Option Cs->Cs
 |none=>c
 |some d=>c.app d
def fI:Option Cs->Nat
 |none=>0
 |some d=>d.len
def mW(d:Option Cs)(j:Nat):AV:=match d with|none=> .any|some d=>d.get j
def apF(P:Program)(fr:Fr)(H:Hp)(t:Nat)(s x:AV):Option (Prop×AV×Fr×Hp):=
 match tk P t with
 |.slice e=>match tsz P e,tby P e,tze P e with
  |some es,some ui,some z=>if 0<es/\ui<=1048576/\z.length=es then
   match srcF H es x with
   |some (q,m,d)=>match s with
    |.nils=>match d with
     |some (.lst [])=>some (q,.nils,fr,H)
     |some d=>if d.tH.all ycg=true then some (q/\0<m/\m<=1048576,.sl es (hnew H) 0 m,fr,(hnew H,.cells e d)::H) else none
     |none=>none
    |.sl eJ id off len=>match hget H id with
     |some (.cells t' c)=>if es=eJ/\t'=e/\n2D id d=true/\(H.all fun q=>yi8 id q.2)=true then
      some (q/\off+len*es=c.len/\len+m<=1048576,.sl es id 0 (len+m),fcut id fr,(id,.cells e (jm (gx id (c.drop off)) d))::hcut id H) else none
     |_=>none
    |_=>none
   |none=>none
   else none
  |_,_,_=>none
 |_=>none
where n2D (id:Nat):Option Cs->Bool
 |some (.lst l)=>l.all fun x=>n3 id x&&ycg x
 |_=>true
theorem zm(c:Cs)(d:Option Cs):(jm c d).len=c.len+fI d:=by cases d<;>simp[jm,fI,Cs.yk]
theorem Ja(c:Cs)(d:Option Cs)(i:Nat)(hi:i<c.len+fI d):(jm c d).get i=if i<c.len then c.get i else mW d (i-c.len):=by
 cases d with
 |none=>simp only[fI,Nat.add_zero]at hi;simp[jm,hi]
 |some d=>simp only[fI]at hi;simp[jm,mW,Cs.yW _ _ _ hi]
section
variable{P:Program}{w:World}{M:Nat->Prop}{ρ:Nat->Addr}{D:Nat->Prop}
theorem UO{es n c:Nat}{A:Option Addr}{news:List Value}(hl:news.length=n*es)(h:∀a,A=some a->∀(j:Nat) (u:Value),news[j]?=some u->w.cell? (a.add j)=some u)(h0:A=none->n=0):
  (Builtin.firstCells es n (.slice A n c)).run P w= .ok news.toArray w:=by
 cases A with
 |none=>
  have:n=0:=h0 rfl
  subst this
  have:news=[]:=zT (by simpa using hl)
  subst this;simp[Builtin.firstCells]
 |some a=>
  have hx:=Nu (P:=P) (w:=w) (a:=a) (x:=fun j=>news.getD j undef) (n*es) 0 #[] (fun j _ hj=>by
   have gU:j<news.length:=by omega
   rw[h a rfl j _ (zJ gU)];simp[gU])
  have e:((List.range (n*es)).map fun j=>news.getD (0+j) undef)=news:=by
   apply List.ext_getElem?;intro j;by_cases hj:j<news.length
   ·simp[hj,show j<n*es by omega]
   ·rw[zS (by simp;omega),zS (by omega)]
  rw[e]at hx;simp[Builtin.firstCells,loadCells,hx]
theorem UN{t ty e es:Nat}(ht:P.underlying t=some (.slice e))(hs:tsz P e=some es)(b0:Addr)(x7 Bk n c:Nat)(A:Option Addr)(news:List Value)(hf:(Builtin.firstCells es n (.slice A n c)).run P w= .ok news.toArray w)
  (mM:x7+n<=Bk) {w':World} (bT:(storeCells (b0.add (x7*es)) news 0).run P w= .ok () w'):(Builtin.append_ #[t,t] ty #[.slice (some b0) x7 Bk,.slice A n c]).run P w= .ok (.slice (some b0) (x7+n) Bk) w':=by
 have hz:=km hs w;simp[Builtin.append_,run_underlying ht,hz,Builtin.lenOf,mM,hf,bT]
theorem EY{H:Hp}(jw:∀id ob,hget H id=some ob->fA w M ρ D id ob){es:Nat}{v:Value}{x:AV}{q:Prop}{m:Nat}{d:Option Cs}(hv:VR w M ρ D v x)(h:srcF H es x=some (q,m,d))(hq:q):
  ∃(A:Option Addr) (c:Nat) (news:List Value),v= .slice A m c/\news.length=m*es/\fI d=m*es/\(A=none->m=0)/\(∀a,A=some a->∀(j:Nat) (u:Value),news[j]?=some u->w.cell? (a.add j)=some u)/\
   ∀(j:Nat) (u:Value),news[j]?=some u->VR w M ρ D u (mW d j):=by
 unfold srcF at h
 split at h
 ·cases h;have e:=hv.cd;subst e;exact⟨none,0,[],rfl,by simp,by simp[fI],fun _=>rfl,by simp,by simp⟩
 ·rename_i eJ id off n
  split at h
  ·rename_i he
   subst he
   split at h
   ·rename_i t c ho
    cases h;cases hv with
    |sl es id off len cap hd hc arr t ad0 ha0 hb hr=>
     have qO:=jw id _ ho;have hx:∀j,∃u,j<m*es->w.cell? (((ρ id).add off).add j)=some u/\VR w M ρ D u (c.get (off+j)):=fun j=>by
      by_cases hj:j<m*es
      ·obtain⟨u,h1,h2⟩:=qO.cell (j:=off+j) (by omega);exact⟨u,fun _=>⟨by rw[xg];exact h1,h2⟩⟩
      ·exact⟨undef,fun h=>zzA h hj⟩
     obtain⟨g,hg⟩:=Classical.axiomOfChoice hx;refine⟨_,cap,(List.range (m*es)).map g,rfl,by simp,by simp[fI,Cs.gj _ _ _ hq],(fun h=>by cases h),fun a ha j u hu=>?_,fun j u hu=>?_⟩
     ·cases ha;simp only[zR]at hu;by_cases hj:j<m*es
      ·have Av:0<m:=by
        rcases Nat.eq_zero_or_pos m with e|e
        ·subst e;simp at hj
        ·exact e
       have B7:=ha0 (by omega);subst B7;simp[List.getElem?_range hj]at hu;subst hu;exact(hg j hj).1
      ·simp[zS (l:=List.range (m*es)) (i:=j) (by simp;omega)]at hu
     ·simp only[zR]at hu;by_cases hj:j<m*es
      ·simp[List.getElem?_range hj]at hu;subst hu;simp only[mW,Cs.pk _ _ _ _ hj];exact(hg j hj).2
      ·simp[zS (l:=List.range (m*es)) (i:=j) (by simp;omega)]at hu
   ·cases h
  ·cases h
 ·rename_i eJ n c
  split at h
  ·rename_i he
   subst he;cases h;cases hv with
   |ro es len c ad cap x hl hc he h0 hv=>
    refine⟨ad,cap,(List.range (m*es)).map x,rfl,by simp,by simp[fI,hl],fun h=>?_,fun a ha j u hu=>?_,fun j u hu=>?_⟩
    ·rcases Nat.eq_zero_or_pos m with e|e
     ·exact e
     ·obtain⟨a,ha,_⟩:=h0 e;rw[h]at ha;cases ha
    ·simp only[zR]at hu;by_cases hj:j<m*es
     ·simp[List.getElem?_range hj]at hu;subst hu
      obtain⟨a',cG,_,_,iR⟩:=h0 (by rcases Nat.eq_zero_or_pos m with e|e
                                   ·subst e;simp at hj
                                   ·exact e)
      rw[ha]at cG;cases cG;exact iR j (by omega)
     ·simp[zS (l:=List.range (m*es)) (i:=j) (by simp;omega)]at hu
    ·simp only[zR]at hu;by_cases hj:j<m*es
     ·simp[List.getElem?_range hj]at hu;subst hu;simp only[mW];exact(hv j (by omega)).D0
     ·simp[zS (l:=List.range (m*es)) (i:=j) (by simp;omega)]at hu
  ·cases h
 ·cases h
end
theorem ME{H:Hp}{i:Nat}{o:AObj}(h:hget H i=some o):(i,o)∈H:=by
 induction H with
 |nil=>cases h
 |cons p r ih=>
  obtain⟨j,q⟩:=p;simp only[hget]at h
  split at h
  ·rename_i e;subst e;cases h;simp
  ·exact zF _ (ih h)
section
variable{P:Program}{B:Nat}{w0:js}{Mx:Nat->Prop}{N:Nat}{w:World}{ρ:Nat->Addr}{fr:Fr}{H:Hp}{a:Act}
theorem Yi(h:aO B w0 Mx N w ρ fr H a){t ty:Nat}{s x:AV}{u v:Value}{p:Prop}{r:AV}{fr':Fr}{H':Hp}(hu:VR w (MM Mx H ρ) ρ (DD H) u s)(hv:VR w (MM Mx H ρ) ρ (DD H) v x)
  (ha:apF P fr H t s x=some (p,r,fr',H')) (hp:p):∃z w' ρ',(Builtin.append_ #[t,t] ty #[u,v]).run P w= .ok z w'/\aO B w0 Mx N w' ρ' fr' H' a/\VR w' (MM Mx H' ρ') ρ' (DD H') z r:=by
 unfold apF at ha
 split at ha
 ·rename_i e hk
  have ht:=kl hk
  split at ha
  ·rename_i es ui z h1 h2 h3
   split at ha
   ·rename_i hh
    obtain⟨eR,BZ,hz⟩:=hh;obtain⟨i,zv,i1,i2,i3⟩:=xT h3;obtain⟨i',i4,i5⟩:=Mv h2;rw[i1]at i4;cases i4;obtain⟨i',i6,i7⟩:=Jc h1;rw[i1]at i6;cases i6;have xr:zv.cells.size=es:=by have:=congrArg List.length i3;simp at this;omega
    split at ha
    ·rename_i q m d hsrc
     split at ha
     ·--onto nil
      split at ha
      ·cases ha;obtain⟨A,c,news,rfl,oT,ni,xm,xl,Ae⟩:=EY h.objs hv hsrc hp;have e:=hu.cd;subst e;have Av:m=0:=by
        simp only[fI,Cs.len,zzC]at ni;rcases Nat.mul_eq_zero.1 ni.symm with h|h<;>omega
       subst Av;have DE:news=[]:=zT (by simpa using oT);subst DE;have hfc:(Builtin.firstCells es 0 (.slice A 0 c)).run P w= .ok #[] w:=by cases A<;>simp[Builtin.firstCells,loadCells,loadCellsFrom]
       exact⟨.slice none 0 0,w,ρ,by simp[Builtin.append_,run_underlying ht,km h1,Builtin.lenOf,hfc],h,.nils⟩
      ·rename_i d _
       split at ha
       ·cases ha;obtain⟨hq,hm,dw⟩:=hp;obtain⟨A,c,news,rfl,oT,ni,xm,xl,Ae⟩:=EY h.objs hv hsrc hq;have e:=hu.cd;subst e;obtain⟨ad,rfl⟩:∃ad,A=some ad:=by
         cases A with
         |none=>have:=xm rfl;omega
         |some ad=>exact⟨ad,rfl⟩
        have B1:m*i.bytes<=281474976710656:=by
         have:m*i.bytes<=1048576*1048576:=Nat.mul_le_mul (by omega) (by omega)
         omega
        have hr:=run_append_nil (P:=P) w t ty e i zv ht i1 i2 ad m c news (by rw[i7];exact oT) (xl ad rfl) hm (by omega) B1;have BS:=h.draw;have mH:hget H (hnew H)=none:=EP (zA _);simp only[fI]at ni;have nN:m<=grownCap w m 0 e:=by unfold grownCap;simp only[Question.cut];omega
        have mS:(news.toArray++Builtin.zeroCells zv.cells (grownCap w m 0 e-m)).size=grownCap w m 0 e*es:=by
         simp only[Array.size_append,Builtin.zeroCells,Array.size_map,Array.size_range,List.size_toArray,oT,xr];rw[<-Nat.add_mul];congr 1;omega
        have dz:=BS.b9 (hnew H) mH (news.toArray++Builtin.zeroCells zv.cells (grownCap w m 0 e-m)) e d (by rw[mS,ni];exact Nat.mul_le_mul_right _ nN) (fun j hj=>by
         have gU:j<news.length:=by omega
         refine⟨news[j],by rw[Array.getElem?_append_left (by simpa using gU)];simp[gU],?_⟩
         have:=Ae j news[j] (zJ gU)
         exact this.carry (w':={w with drawn:=w.drawn+1}) (zA _) (fun _ _ hm=>⟨rfl,hm⟩) (fun id hd=>⟨hd,rfl,fun arr t ha=>⟨arr,ha,rfl⟩⟩))
        exact⟨_,_,_,hr,dz,Da (w:={w with drawn:=w.drawn+1}) nN (by rw[mS];exact zA _)⟩
       ·cases ha
      ·cases ha
     ·--onto a row of one's own
      rename_i eJ id off len
      split at ha
      ·rename_i t' c ho
       split at ha
       ·rename_i hcond
        obtain⟨rfl,rfl,BN,DI⟩:=hcond;have Pn:∀i q,hget H i=some q->yi8 id q=true:=fun i q hq=>zZ.1 DI _ (ME hq);cases ha;obtain⟨hq,o9,dw⟩:=hp;obtain⟨A,cx,news,rfl,oT,ni,xm,xl,Ae⟩:=EY h.objs hv hsrc hq;obtain⟨gX,sH,wF,wc,BV⟩:=h.objs id _ ho;have wx:=h.sE ho rfl Pn;have qX:hget (hcut id H) id=none:=by rw[CX];simp
        have hrho:ρ id=⟨(ρ id).block,(ρ id).off,none⟩:=by cases hh:ρ id;rw[hh]at gX;simp at gX;subst gX;rfl
        have hMd:∀b,MM (fun b=>Mx b\/b=(ρ id).block) (hcut id H) ρ b->MM Mx H ρ b:=fun b hb=>by
         rcases hb with (g1|g1)|⟨k,q',g1,g2,g3⟩
         ·exact .inl g1
         ·exact .inr ⟨id,_,ho,rfl,g1.symm⟩
         ·rw[CX]at g1
          split at g1
          ·cases g1
          ·obtain⟨Fq,g4,rfl⟩:=zzB.1 g1;exact .inr ⟨k,Fq,g4,by rw[Jl]at g2;exact g2,g3⟩
        have tX:∀{v:Value} {x:AV},VR w (MM Mx H ρ) ρ (DD H) v x->VR w (MM (fun b=>Mx b\/b=(ρ id).block) (hcut id H) ρ) ρ (DD H) v x:=fun hv=>
         hv.carry (zA _) (fun b _ hm=>⟨rfl,fun hh=>hm (hMd b hh)⟩) (fun k hd=>⟨hd,rfl,fun arr t ha=>⟨arr,ha,rfl⟩⟩)
        have dN:(gx id (c.drop off)).len=len*es:=by rw[MG,Cs.jF];omega
        have mL:∀j u,news[j]?=some u->VR w (MM (fun b=>Mx b\/b=(ρ id).block) (hcut id H) ρ) ρ (DD (hcut id H)) u (mW d j)/\iZ u:=fun j u hu=>by
         have g:=tX (Ae j u hu);have hj:j<fI d:=by
          have:j<news.length:=by
           rcases zY j news.length with g|g
           ·exact g
           ·rw[zS g]at hu;cases hu
          omega
         cases d with
         |none=>simp[fI]at hj
         |some d=>
          cases d with
          |ints l=>simp only[mW,Cs.get]at g⊢;exact⟨g.bP rfl,g.iZ rfl⟩
          |bools l=>simp only[mW,Cs.get]at g⊢;exact⟨g.bP rfl,g.iZ rfl⟩
          |lst l=>
           simp only[fI,Cs.len]at hj;have hx:=zZ.1 BN _ (List.getElem_mem hj);simp only[zV]at hx;simp only[mW,Cs.get,zB,zJ hj,Option.getD_some]at g⊢;exact⟨g.FD hx.1 (fun k h1 h2=>Im.2 ⟨h1,h2⟩),g.iZ hx.2⟩
        have qR:∀j,j<len*es->∃u,sH[(ρ id).off+off+j]?=some u/\VR w (MM (fun b=>Mx b\/b=(ρ id).block) (hcut id H) ρ) ρ (DD (hcut id H)) u ((gx id (c.drop off)).get j):=fun j hj=>by
         obtain⟨u,g1,g2⟩:=BV (off+j) (by omega);refine⟨u,by rw[Nat.add_assoc];exact g1,?_⟩;rw[Tf _ _ _ (by rw[Cs.jF];omega),Cs.mV];exact(tX g2).cutV (fun k h1 h2=>Im.2 ⟨h1,h2⟩)
        cases hu with
        |sl es id off len cap hd nN arr t ad0 ha0 hb hr=>
         rw[wF]at hb;cases hb;have mR:(ρ id).add off=⟨(ρ id).block,(ρ id).off+off,none⟩:=xh gX off;by_cases mM:len+m<=cap
         ·--there is room
          have hf:=UO (P:=P) (w:=w) (es:=es) (n:=m) (c:=cx) (A:=A) (news:=news) oT xl xm;have Gd:(ρ id).off+off+len*es+news.length<=sH.size:=by
           rw[oT]
           have:(len+m)*es<=cap*es:=Nat.mul_le_mul_right _ mM
           rw[Nat.add_mul]at this;omega
          obtain⟨w',bA,r1,r2,r3,r4,r5,r6,r7,r8,r9⟩:=Jx (P:=P) (b:=(ρ id).block) (t:=t') (o:=(ρ id).off+off+len*es) news 0 w sH wF (by omega) (fun u hu=>by
           obtain⟨j,hj⟩:=List.mem_iff_getElem?.1 hu;exact(mL j u hj).2)
          have wD:((ρ id).add off).add (len*es)=⟨(ρ id).block,(ρ id).off+off+len*es,none⟩:=by rw[mR,xh rfl]
          have aU:=UN (P:=P) (w:=w) (ty:=ty) (w':=w') ht h1 ad0 len cap m cx A news hf mM (by
           by_cases rA:0<cap
           ·rw[ha0 rA,wD];exact r1
           ·have DE:news=[]:=zT (by rw[oT,show m=0 by omega];simp);subst DE;simp[storeCells]at r1⊢;exact r1)
          have B2:=wx.attach (My:=Mx) (id:=id) (b:=(ρ id).block) (t:=t') (off:=(ρ id).off+off) (c:=jm (gx id (c.drop off)) d) qX (fun x=>Iff.rfl) (h.own id _ ho rfl).2 (h.own id _ ho rfl).1 wF r2 r3 r4 r5 r6 r7 r8
           (by rw[zm,dN,ni,r3]
               have:(len+m)*es<=cap*es:=Nat.mul_le_mul_right _ mM
               rw[Nat.add_mul]at this;omega) (fun j hj=>by
            rw[zm,dN,ni]at hj;rw[Ja _ _ _ (by rw[dN,ni];exact hj),dN,r9];by_cases c1:j<len*es
            ·rw[zM c1,zL (by omega)];exact qR j c1
            ·rw[zL c1,zM (by omega)];have e1:(ρ id).off+off+j-((ρ id).off+off+len*es+0)=j-len*es:=by omega
             rw[e1];have aC:j-len*es<news.length:=by omega
             exact⟨news[j-len*es],zJ aC,(mL _ _ (zJ aC)).1⟩)
          refine⟨_,w',_,aU,B2,?_⟩
          have:=VR.sl (w:=w') (M:=MM Mx ((id,AObj.cells t' (jm (gx id (c.drop off)) d))::hcut id H) (e8 ρ id ⟨(ρ id).block,(ρ id).off+off,none⟩)) (ρ:=e8 ρ id ⟨(ρ id).block,(ρ id).off+off,none⟩) (D:=DD ((id,AObj.cells t' (jm (gx id (c.drop off)) d))::hcut id H)) es id 0 (len+m) cap Ek mM bA t' ad0 (fun rA=>by rw[j9,ha0 rA,mR];rfl) (by rw[j9];exact r2) (by rw[j9,r3];simpa using hr)
          exact this
         ·--a new array
          have vY:∃fm:List Value,fm.length=len*es/\ ∀(j:Nat) (u:Value),fm[j]?=some u->w.cell? (((ρ id).add off).add j)=some u/\VR w (MM (fun b=>Mx b\/b=(ρ id).block) (hcut id H) ρ) ρ (DD (hcut id H)) u ((gx id (c.drop off)).get j):=by
           have hx:∀j,∃u,j<len*es->w.cell? (((ρ id).add off).add j)=some u/\VR w (MM (fun b=>Mx b\/b=(ρ id).block) (hcut id H) ρ) ρ (DD (hcut id H)) u ((gx id (c.drop off)).get j):=fun j=>by
            by_cases hj:j<len*es
            ·obtain⟨u,g1,g2⟩:=qR j hj;exact⟨u,fun _=>⟨by rw[mR,xh rfl];simp[World.cell?,wF,g1],g2⟩⟩
            ·exact⟨undef,fun h=>zzA h hj⟩
           obtain⟨g,hg⟩:=Classical.axiomOfChoice hx;refine⟨(List.range (len*es)).map g,by simp,fun j u hu=>?_⟩;simp only[zR]at hu;by_cases hj:j<len*es
           ·simp[List.getElem?_range hj]at hu;subst hu;exact hg j hj
           ·simp[zS (l:=List.range (len*es)) (i:=j) (by simp;omega)]at hu
          obtain⟨fm,o1,o2⟩:=vY;have Gl:0<m:=by omega
          obtain⟨ad,rfl⟩:∃ad,A=some ad:=by
           cases A with
           |none=>have:=xm rfl;omega
           |some ad=>exact⟨ad,rfl⟩
          have wq:Builtin.nextslicecap (len+m) cap*i.bytes<=281474976710656:=growslice_fits (by omega) (by
           have:(len+m)*i.bytes<=1048576*1048576:=Nat.mul_le_mul (by omega) (by omega)
           omega)
          have ik:=run_append_grow (P:=P) w t ty t' i zv ht i1 i2 ad0 len cap fm (by rw[i7];exact o1) (fun j u hu=>by
           have dH:j<fm.length:=by
            rcases zY j fm.length with g|g
            ·exact g
            ·rw[zS g]at hu;cases hu
           have wc:0<len:=by
            rcases Nat.eq_zero_or_pos len with e|e
            ·subst e;simp at o1;simp[o1]at dH
            ·exact e
           rw[ha0 (by omega)];exact(o2 j u hu).1) ad m cx news (by rw[i7];exact oT) (xl ad rfl) (by omega) (by omega) wq
          have qZ:len+m<=grownCap w (len+m) cap t':=by unfold grownCap;simp only[Question.cut];omega
          have mS:(fm.toArray++news.toArray++Builtin.zeroCells zv.cells (grownCap w (len+m) cap t'-(len+m))).size=grownCap w (len+m) cap t'*es:=by
           simp only[Array.size_append,Builtin.zeroCells,Array.size_map,Array.size_range,List.size_toArray,oT,o1,xr];rw[<-Nat.add_mul,<-Nat.add_mul];congr 1;omega
          have BS:=(wx.allow (My:=Mx) (fun b hb=> .inl hb)).draw;have AJ:∀b,MM Mx (hcut id H) ρ b->MM (fun b=>Mx b\/b=(ρ id).block) (hcut id H) ρ b:=fun b hb=>hb.imp .inl (fun h=>h)
          have BX:∀{v:Value} {x:AV},VR w (MM (fun b=>Mx b\/b=(ρ id).block) (hcut id H) ρ) ρ (DD (hcut id H)) v x->VR {w with drawn:=w.drawn+1} (MM Mx (hcut id H) ρ) ρ (DD (hcut id H)) v x:=fun hv=>
           hv.carry (w':={w with drawn:=w.drawn+1}) (zA _) (fun b _ hm=>⟨rfl,fun hh=>hm (AJ b hh)⟩) (fun k hd=>⟨hd,rfl,fun arr t ha=>⟨arr,ha,rfl⟩⟩)
          have dz:=BS.b9 id qX (fm.toArray++news.toArray++Builtin.zeroCells zv.cells (grownCap w (len+m) cap t'-(len+m))) t' (jm (gx id (c.drop off)) d)
           (by rw[mS,zm,dN,ni,<-Nat.add_mul];exact Nat.mul_le_mul_right _ qZ) (fun j hj=>by
            rw[zm,dN,ni]at hj;rw[Ja _ _ _ (by rw[dN,ni];exact hj),dN];by_cases c1:j<len*es
            ·rw[zM c1];have aC:j<fm.length:=by omega
             exact⟨fm[j],by rw[Array.getElem?_append_left (by simp;omega),Array.getElem?_append_left (by simpa using aC)];simp[aC],BX (o2 j _ (zJ aC)).2⟩
            ·rw[zL c1];have aC:j-len*es<news.length:=by omega
             exact⟨news[j-len*es],by rw[Array.getElem?_append_left (by simp;omega),Array.getElem?_append_right (by simp;omega)];simp[o1,aC],BX (mL _ _ (zJ aC)).1⟩)
          exact⟨_,_,_,ik,dz,Da (w:={w with drawn:=w.drawn+1}) qZ (by rw[mS];exact zA _)⟩
       ·cases ha
      ·cases ha
     ·cases ha
    ·cases ha
   ·cases ha
  ·cases ha
 ·cases ha
end
def ycv(d:Int):Option AV->Option Int
 |none=>some d
 |some (.int _ n)=>some n
 |_=>none
def ym4(P:Program)(t:Nat)(x:AV)(lo hi:Option AV):Option (Prop×AV):=
 match tk P t,x with
 |.slice e,.sl es id off len=>match tsz P e,ycv 0 lo,ycv len hi with
  |some eJ,some l,some h=>if es=eJ then some (0<=l/\l<=h/\h<=len,.sl es id (off+l.toNat*es) (h.toNat-l.toNat)) else none
  |_,_,_=>none
 |.slice e,.ro es len c=>match tsz P e,ycv 0 lo,ycv len hi with
  |some eJ,some l,some h=>if es=eJ then some (0<=l/\l<=h/\h<=len,.ro es (h.toNat-l.toNat) (c.rN (l.toNat*es) ((h.toNat-l.toNat)*es))) else none
  |_,_,_=>none
 |.slice e,.nils=>match tsz P e,ycv 0 lo,ycv 0 hi with
  |some _,some l,some h=>some (l=0/\h=0,.nils)
  |_,_,_=>none
 |.str,.str s=>match ycv 0 lo,ycv s.size hi with
  |some l,some h=>some (0<=l/\l<=h/\h<=s.size,.str (s.extract l.toNat h.toNat))
  |_,_=>none
 |_,_=>none
def quF(P:Program)(H:Hp)(ev:Operand->AV)(o:Op):Option (Prop×AV):=
 match o with
 |.build t parts=>yhg P t (parts.toList.map fun q=>(q.1,ev q.2))
 |.slice t x lo hi none=>ym4 P t (ev x) (lo.map ev) (hi.map ev)
 |o=>opF P (hget H) ev o
section
variable{P:Program}{w:World}{M:Nat->Prop}{ρ:Nat->Addr}{D:Nat->Prop}
theorem Yr{d n:Int}{x:Option AV}{v:Option Value}(h:ycv d x=some n)(hv:∀u y,v=some u->x=some y->VR w M ρ D u y)(hn:v=none↔x=none):
  (v=none/\n=d)\/ ∃k,v=some (.int k n):=by
 cases x with
 |none=>simp only[ycv]at h;cases h;exact .inl ⟨hn.2 rfl,rfl⟩
 |some y=>
  cases v with
  |none=>exact zzA (hn.1 rfl) (by simp)
  |some u=>
   have:=hv u y rfl rfl
   cases y<;>simp only[ycv,reduceCtorEq]at h;cases h;exact .inr ⟨_,by rw[this.aq]⟩
theorem Jq{isS:Bool}{len cap:Nat}{lo hi:Option Value}{l h:Int}(hl:(lo=none/\l=0)\/ ∃k,lo=some (.int k l))(hh:(hi=none/\h=len)\/ ∃k,hi=some (.int k h))(h1:0<=l)(h2:l<=h)(h3:h<=len)(hc:len<=cap):
  (Instr.sliceBounds isS len cap lo hi none).run P w= .ok (l.toNat,h.toNat,cap) w:=by
 rcases hl with ⟨rfl,rfl⟩|⟨k,rfl⟩<;>rcases hh with ⟨rfl,rfl⟩|⟨k',rfl⟩
 ·simp[Instr.sliceBounds]
 ·have g1:0<=h:=by omega
  have g2:h<=(cap:Int):=by omega
  simp[Instr.sliceBounds,Instr.sliceBound,asIntOf,g1,g2]
 ·have g2:l<=(len:Int):=by omega
  simp[Instr.sliceBounds,Instr.sliceBound,asIntOf,h1,g2]
 ·have g1:0<=h:=by omega
  have g2:h<=(cap:Int):=by omega
  simp[Instr.sliceBounds,Instr.sliceBound,asIntOf,h1,g1,g2];intro hx;omega
theorem E3{t:Nat}{d:TypeDesc}(hu:P.underlying t=some d)(hd:∀n e,d≠ .array n e)(x:Value)(lo hi mx:Option Value):(Instr.sliceAt t x lo hi mx).run P w=(Instr.slice t x lo hi mx).run P w:=by
 cases d<;>first|(simp[Instr.sliceAt,run_underlying hu];done)|exact zzA rfl (hd _ _)
theorem Y3{t:Nat}{u:Value}{x:AV}{lo hi:Option Operand}{a:Act}{ev:Operand->AV}(dE:∀x,VR w M ρ D (a.eval x) (ev x)){p:Prop}{r:AV}(hu:VR w M ρ D u x)
  (h:ym4 P t x (lo.map ev) (hi.map ev)=some (p,r)) (hp:p):∃z,(Instr.sliceAt t u (lo.map a.eval) (hi.map a.eval) none).run P w= .ok z w/\VR w M ρ D z r:=by
 have hb:∀(q:Option Operand) (d n:Int),ycv d (q.map ev)=some n->(q.map a.eval=none/\n=d)\/ ∃k,q.map a.eval=some (.int k n):=fun q d n hq=>
  Yr (w:=w) (M:=M) (ρ:=ρ) (D:=D) hq (fun v y h1 h2=>by cases q with
   |none=>cases h1
   |some o=>cases h1;cases h2;exact dE o) (by cases q<;>simp)
 unfold ym4 at h
 split at h
 ·rename_i e es id off len hk
  split at h
  ·rename_i eJ l hh h1 h2 h3
   split at h
   ·rename_i he
    subst he;cases h;obtain⟨q1,q2,q3⟩:=hp;cases hu with
    |sl es id off len cap hd hc arr t' ad ha s8 hr=>
     have aU:=Jq (P:=P) (w:=w) (isS:=true) (cap:=cap) (hb lo 0 l h2) (hb hi len hh h3) q1 q2 q3 hc;have fJ:=km h1 w;refine⟨.slice (if cap=l.toNat then some ad else some (ad.add (l.toNat*es))) (hh.toNat-l.toNat) (cap-l.toNat),?_,?_⟩
     ·rw[E3 (kl hk) (by simp)];simp[Instr.slice,run_underlying (kl hk),aU,fJ]
     ·have aC:(l.toNat:Int)=l:=by omega
      have hht:(hh.toNat:Int)=hh:=by omega
      by_cases cW:cap=l.toNat
      ·rw[zM cW];refine .sl es id _ _ _ hd (by omega) arr t' ad (fun h=>by omega) s8 ?_
       have:cap-l.toNat=0:=by omega
       rw[this,<-cW];simp;omega
      ·rw[zL cW];refine .sl es id _ _ _ hd (by omega) arr t' _ (fun h=>by rw[ha (by omega),xg]) s8 ?_
       have:l.toNat*es+(cap-l.toNat)*es=cap*es:=by rw[<-Nat.add_mul];congr 1;omega
       omega
   ·cases h
  ·cases h
 ·rename_i e es len c hk
  split at h
  ·rename_i eJ l hh h1 h2 h3
   split at h
   ·rename_i he
    subst he;cases h;obtain⟨q1,q2,q3⟩:=hp;cases hu with
    |ro es len c ad cap x hl hc he h0 hv=>
     have aU:=Jq (P:=P) (w:=w) (isS:=true) (cap:=cap) (hb lo 0 l h2) (hb hi len hh h3) q1 q2 q3 hc;have fJ:=km h1 w;have hmul:l.toNat*es+(hh.toNat-l.toNat)*es<=c.len:=by
      rw[hl,<-Nat.add_mul];exact Nat.mul_le_mul_right _ (by omega)
     refine⟨.slice (if cap=l.toNat then ad else ad.map (·.add (l.toNat*es))) (hh.toNat-l.toNat) (cap-l.toNat),?_,?_⟩
     ·rw[E3 (kl hk) (by simp)];simp[Instr.slice,run_underlying (kl hk),aU,fJ]
     ·refine .ro es _ _ _ _ (fun j=>x (l.toNat*es+j)) (Cs.gj _ _ _ hmul) (by omega) he (fun BG=>?_) (fun j hj=>?_)
      ·have cW:¬cap=l.toNat:=by omega
       obtain⟨b,rfl,g1,g2,g3⟩:=h0 (by omega);rw[zL cW];refine⟨_,rfl,by rw[Jt];exact g1,by rw[Jt];exact g2,fun j hj=>?_⟩;rw[Cs.gj _ _ _ hmul]at hj;rw[xg];exact g3 _ (by omega)
      ·rw[Cs.gj _ _ _ hmul]at hj;rw[Cs.pk _ _ _ _ hj];exact hv _ (by omega)
   ·cases h
  ·cases h
 ·rename_i e hk
  split at h
  ·rename_i es l hh h1 h2 h3
   cases h;obtain⟨rfl,rfl⟩:=hp;have e1:=hu.cd;subst e1;have aU:=Jq (P:=P) (w:=w) (isS:=true) (len:=0) (cap:=0) (hb lo 0 0 h2) (hb hi 0 0 h3) (by omega) (by omega) (by omega) (zA _);have fJ:=km h1 w;exact⟨.slice none 0 0,by rw[E3 (kl hk) (by simp)];simp[Instr.slice,run_underlying (kl hk),aU,fJ],.nils⟩
  ·cases h
 ·rename_i s hk
  split at h
  ·rename_i l hh h2 h3
   cases h;obtain⟨q1,q2,q3⟩:=hp;have e1:=hu.cZ;subst e1;have aU:=Jq (P:=P) (w:=w) (isS:=false) (len:=s.size) (cap:=s.size) (hb lo 0 l h2) (hb hi s.size hh h3) q1 q2 q3 (zA _);exact⟨.string (s.extract l.toNat hh.toNat),by rw[E3 (w6 hk) (by simp)];simp[Instr.slice,run_underlying (w6 hk),aU],.str _⟩
  ·cases h
 ·cases h
theorem C9{H:Hp}(jw:∀id ob,hget H id=some ob->fA w M ρ D id ob){o:Oper}{a:Act}{ev:Operand->AV}(dE:∀x,VR w M ρ D (a.eval x) (ev x))
  {p:Prop} {r:AV} (hc:∀s d x,o.op= .convert s d x->∃e,P.underlying s=some e) (h:quF P H ev o.op=some (p,r)) (hp:p):
  ∃v,(execOp a.eval o).run P w= .ok (.value v) w/\VR w M ρ D v r:=by
 cases ho:o.op with
 |build t parts=>
  rw[ho]at h;simp only[quF]at h;obtain⟨z,hz,hr⟩:=Y4 (P:=P) dE h;exact⟨z,by simp only[execOp,ho];simp[hz],hr⟩
 |slice t x lo hi mx=>
  cases mx with
  |none=>
   rw[ho]at h;simp only[quF]at h;obtain⟨z,hz,hr⟩:=Y3 (P:=P) dE (dE x) h hp;exact⟨z,by simp only[execOp,ho];simp[hz],hr⟩
  |some m=>rw[ho]at h;simp[quF,opF]at h
 |_=>
  refine XW (P:=P) jw dE hc ?_ hp;rw[ho]at h⊢;simpa only[quF] using h
end
def snap(H:Hp):Nat->AV->AV
 |0,x=>if p1 x then x else .any
 |n+1,x=>match x with
  |.sl es id off len=>match hget H id with
   |some (.cells _ (.lst l))=> .ro es len ((Cs.lst (l.map (snap H n))).rN off (len*es))
   |some (.cells _ c)=> .ro es len (c.rN off (len*es))
   |_=> .any
  |.ptr id off=>match hget H id with
   |some (.cells _ (.lst l))=> .rp (.lst (l.map (snap H n))) off
   |some (.cells _ c)=> .rp c off
   |_=> .any
  |.agg xs=> .agg (xs.map (snap H n))
  |.tup xs=> .tup (xs.map (snap H n))
  |.fn f xs=> .fn f (xs.map (snap H n))
  |.mp _=> .any
  |x=>x
def dO(H:Hp):Nat->AV->Prop
 |0,_=>True
 |n+1,x=>match x with
  |.sl es id off len=>match hget H id with
   |some (.cells _ (.lst l))=>0<es/\off+len*es<=l.length/\ ∀x∈l,dO H n x
   |some (.cells _ c)=>0<es/\off+len*es<=c.len
   |_=>True
  |.ptr id _=>match hget H id with
   |some (.cells _ (.lst l))=>∀x∈l,dO H n x
   |_=>True
  |.agg xs=>∀x∈xs,dO H n x
  |.tup xs=>∀x∈xs,dO H n x
  |.fn _ xs=>∀x∈xs,dO H n x
  |_=>True
section
variable{P:Program}{B:Nat}{w0:js}{Mx:Nat->Prop}{N:Nat}{w:World}{ρ:Nat->Addr}{fr:Fr}{H:Hp}{a:Act}
theorem Nj{My:Nat->Prop}{ρ0:Nat->Addr}{id:Nat}{c c':Cs}(gX:(ρ id).spot=none){arr:Array Value}{t:Nat}(hb:w.heap[(ρ id).block]?=some (.cells arr t (0,0)))(hl:(ρ id).off+c.len<=arr.size)(hc:c'.len=c.len)
  (hv:∀j,j<c.len->∃u,arr[(ρ id).off+j]?=some u/\VR w My ρ0 (fun _=>False) u (c'.get j)):∃x:Nat->Value,(∀j,j<c'.len->w.cell? ((ρ id).add j)=some (x j))/\ ∀j,j<c'.len->VR w My ρ0 (fun _=>False) (x j) (c'.get j):=by
 refine⟨fun j=>arr.getD ((ρ id).off+j) undef,fun j hj=>?_,fun j hj=>?_⟩
 ·rw[xh gX]
  have:(ρ id).off+j<arr.size:=by omega
  simp[World.cell?,hb,this]
 ·obtain⟨u,h1,h2⟩:=hv j (by omega)
  have:(ρ id).off+j<arr.size:=by omega
  rw[Array.getElem?_eq_getElem this]at h1;cases h1;simpa [this] using h2
theorem MD(h:aO B w0 Mx N w ρ fr H a){HF:Hp}(yQ:∀id o,hget HF id=some o->hget H id=some o){My:Nat->Prop}(q5:∀b,My b->MM Mx H ρ b)(ph:∀id o,hget HF id=some o->o.live=true->¬My (ρ id).block){ρ0:Nat->Addr}:
  ∀(n:Nat) (v:Value) (x:AV),VR w (MM Mx H ρ) ρ (DD H) v x->dO HF n x->VR w My ρ0 (fun _=>False) v (snap HF n x):=by
 have hM:∀b,¬MM Mx H ρ b->¬My b:=fun b h1 h2=>h1 (q5 b h2)
 have tX:∀{D:Nat->Prop} {v:Value} {x:AV},VR w (MM Mx H ρ) ρ D v x->VR w My ρ D v x:=fun hv=>
  hv.carry (zA _) (fun b _ hm=>⟨rfl,hM b hm⟩) (fun k hd=>⟨hd,rfl,fun arr t ha=>⟨arr,ha,rfl⟩⟩)
 intro n
 induction n with
 |zero=>
  intro v x hv _;simp only[snap]
  split
  ·rename_i hp;exact(tX hv).bP hp
  ·exact .any _
 |succ n ih=>
  intro v x hv hp;have qO:∀id t l,hget HF id=some (.cells t (.lst l))->(∀x∈l,dO HF n x)->((ρ id).block<w.heap.size/\ ¬My (ρ id).block)/\ ∃y:Nat->Value,(∀j,j<(Cs.lst (l.map (snap HF n))).len->w.cell? ((ρ id).add j)=some (y j))/\ ∀j,j<(Cs.lst (l.map (snap HF n))).len->VR w My ρ0 (fun _=>False) (y j) ((Cs.lst (l.map (snap HF n))).get j):=fun id t l ho hs=>by
   have hr:=h.objs id _ (yQ _ _ ho);refine⟨⟨hr.lt rfl,fun hm=>ph id _ ho rfl hm⟩,?_⟩;obtain⟨g1,arr,g2,g3,g4⟩:=hr;refine Nj (c:= .lst l) g1 g2 g3 (by simp[Cs.len]) fun j hj=>?_;obtain⟨u,k1,k2⟩:=g4 j hj;refine⟨u,k1,?_⟩;simp only[Cs.len]at hj
   have:=ih u _ k2 (by simp only[Cs.get,zB,zJ hj,Option.getD_some];exact hs _ (List.getElem_mem hj))
   simpa [Cs.get,hj] using this
  have AD:∀id t c,hget HF id=some (.cells t c)->(∀l,c≠ .lst l)->((ρ id).block<w.heap.size/\ ¬My (ρ id).block)/\ ∃y:Nat->Value,(∀j,j<c.len->w.cell? ((ρ id).add j)=some (y j))/\ ∀j,j<c.len->VR w My ρ0 (fun _=>False) (y j) (c.get j):=fun id t c ho hs=>by
   have hr:=h.objs id _ (yQ _ _ ho);refine⟨⟨hr.lt rfl,fun hm=>ph id _ ho rfl hm⟩,?_⟩;obtain⟨g1,arr,g2,g3,g4⟩:=hr;refine Nj (c:=c) g1 g2 g3 rfl fun j hj=>?_;obtain⟨u,k1,k2⟩:=g4 j hj;refine⟨u,k1,?_⟩;cases c with
   |ints l=>exact(tX k2).bP rfl
   |bools l=>exact(tX k2).bP rfl
   |lst l=>exact zzA rfl (hs l)
  have vO:∀(es id off len:Nat) (c:Cs) (y:Nat->Value),(∃(ad:Addr) (cap:Nat),v= .slice (some ad) len cap/\len<=cap/\(0<cap->ad=(ρ id).add off))->((ρ id).block<w.heap.size/\ ¬My (ρ id).block)->0<es->off+len*es<=c.len->(∀j,j<c.len->w.cell? ((ρ id).add j)=some (y j))->(∀j,j<c.len->VR w My ρ0 (fun _=>False) (y j) (c.get j))->
   VR w My ρ0 (fun _=>False) v (.ro es len (c.rN off (len*es))):=fun es id off len c y hs hb he hl h1 h2=>by
   obtain⟨ad,cap,rfl,nN,B7⟩:=hs;refine .ro es len _ (some ad) cap (fun j=>y (off+j)) (Cs.gj _ _ _ hl) nN he (fun BG=>⟨ad,rfl,?_⟩) (fun j hj=>?_)
   ·rw[B7 (by omega)];refine⟨by rw[Jt];exact hb.1,by rw[Jt];exact hb.2,fun j hj=>?_⟩;rw[Cs.gj _ _ _ hl]at hj;rw[xg];exact h1 _ (by omega)
   ·rw[Cs.gj _ _ _ hl]at hj;rw[Cs.pk _ _ _ _ hj];exact h2 _ (by omega)
  cases hv with
  |any v=>exact .any _
  |int k m=>exact .int _ _
  |bool b=>exact .bool _
  |str s=>exact .str _
  |nils=>exact .nils
  |mp id hd=>exact .any _
  |ro es len c ad cap x hl hc he h0 hv=>
   simp only[snap];exact VR.bP (tX (VR.ro (D:=DD H) es len c ad cap x hl hc he h0 hv)) rfl
  |rp c off b x hb hm hj hv=>
   simp only[snap];exact VR.bP (tX (VR.rp (D:=DD H) c off b x hb hm hj hv)) rfl
  |agg vs xs hl hx=>
   simp only[snap];refine .agg vs _ (by simp[hl]) fun i u y hu hy=>?_;simp only[zR]at hy;obtain⟨y',g1,rfl⟩:=zzB.1 hy;exact ih u y' (hx i u y' hu g1) (hp _ (zQ g1))
  |tup vs xs hl hx=>
   simp only[snap];refine .tup vs _ (by simp[hl]) fun i u y hu hy=>?_;simp only[zR]at hy;obtain⟨y',g1,rfl⟩:=zzB.1 hy;exact ih u y' (hx i u y' hu g1) (hp _ (zQ g1))
  |fn f vs xs hl hx=>
   simp only[snap];refine .fn f vs _ (by simp[hl]) fun i u y hu hy=>?_;simp only[zR]at hy;obtain⟨y',g1,rfl⟩:=zzB.1 hy;exact ih u y' (hx i u y' hu g1) (hp _ (zQ g1))
  |ptr id off hd=>
   simp only[snap];simp only[dO]at hp
   split
   ·rename_i t l ho
    simp only[ho]at hp;obtain⟨hb,y,g1,g2⟩:=qO id t l ho hp;exact .rp _ off _ y hb.1 hb.2 g1 g2
   ·rename_i t c aJ ho
    obtain⟨hb,y,g1,g2⟩:=AD id t c ho (fun l e=>aJ l e);exact .rp _ off _ y hb.1 hb.2 g1 g2
   ·exact .any _
  |sl es id off len cap hd hc arr t ad ha hb hr=>
   simp only[snap];simp only[dO]at hp
   split
   ·rename_i t l ho
    simp only[ho]at hp;obtain⟨s9,y,g1,g2⟩:=qO id t l ho hp.2.2;exact vO es id off len _ y ⟨ad,cap,rfl,hc,ha⟩ s9 hp.1 (by simpa [Cs.len] using hp.2.1) g1 g2
   ·rename_i t c aJ ho
    obtain⟨s9,y,g1,g2⟩:=AD id t c ho (fun l e=>aJ l e);have mE:0<es/\off+len*es<=c.len:=by
     rw[ho]at hp;cases c with
     |lst l=>exact(aJ l rfl).elim
     |ints l=>exact hp
     |bools l=>exact hp
    exact vO es id off len _ y ⟨ad,cap,rfl,hc,ha⟩ s9 mE.1 mE.2 g1 g2
   ·exact .any _
theorem II(h:aO B w0 Mx N w ρ fr H a){My:Nat->Prop}(AJ:∀b,My b->Mx b){ρ0:Nat->Addr}(n:Nat)(v:Value)(x:AV)(hv:VR w (MM Mx H ρ) ρ (DD H) v x)(hs:dO H n x):VR w My ρ0 (fun _=>False) v (snap H n x):=
 MD h (fun _ _ h=>h) (fun b hb=> .inl (AJ b hb)) (fun id o ho hl hm=>(h.own id o ho hl).2 (AJ _ hm)) n v x hv hs
end
def da(H:Hp):List Nat->Hp
 |[]=>[]
 |i::r=>match hget H i with
  |some o=>(i,o)::da H r
  |none=>da H r
theorem I9{H:Hp}:∀{ids:List Nat} (i:Nat) (o:AObj),hget (da H ids) i=some o->hget H i=some o
 |[],i,o,h=>by cases h
 |j::r,i,o,h=>by
  simp only[da]at h
  split at h
  ·rename_i q hq
   simp only[hget]at h
   split at h
   ·rename_i e;subst e;cases h;exact hq
   ·exact I9 i o h
  ·exact I9 i o h
def cH(HF:Hp):Nat->AV->AV
 |0,x=>x
 |n+1,x=>match x with
  |.sl es id off len=>match hget HF id with
   |some _=>snap HF 6 (.sl es id off len)
   |none=> .sl es id off len
  |.ptr id off=>match hget HF id with
   |some _=>snap HF 6 (.ptr id off)
   |none=> .ptr id off
  |.agg xs=> .agg (xs.map (cH HF n))
  |.tup xs=> .tup (xs.map (cH HF n))
  |.fn f xs=> .fn f (xs.map (cH HF n))
  |x=>x
def cO(HF:Hp):Nat->AV->Prop
 |0,_=>True
 |n+1,x=>match x with
  |.sl es id off len=>match hget HF id with
   |some _=>dO HF 6 (.sl es id off len)
   |none=>True
  |.ptr id off=>match hget HF id with
   |some _=>dO HF 6 (.ptr id off)
   |none=>True
  |.agg xs=>∀x∈xs,cO HF n x
  |.tup xs=>∀x∈xs,cO HF n x
  |.fn _ xs=>∀x∈xs,cO HF n x
  |_=>True
def gM(HF:Hp):AObj->AObj
 |.cells t (.lst l)=> .cells t (.lst (l.map (cH HF 4)))
 |.gmap t ck l=> .gmap t ck (l.map fun q=>(q.1,q.2.1,cH HF 4 q.2.2))
 |o=>o
def frzF(HF:Hp):Fr->Fr
 |[]=>[]
 |(s,x)::r=>(s,cH HF 4 x)::frzF HF r
def ykg(HF:Hp):Fr->Prop
 |[]=>True
 |(_,x)::r=>cO HF 4 x/\ykg HF r
def fg(HF:Hp):Hp->Hp
 |[]=>[]
 |(i,o)::r=>(i,match hget HF i with|some _=> .gone|none=>gM HF o)::fg HF r
def uo(HF:Hp):AObj->Prop
 |.cells _ (.lst l)=>∀x∈l,cO HF 4 x
 |.gmap _ _ l=>∀q∈l,cO HF 4 q.2.2
 |_=>True
def ye7(HF:Hp):Hp->Prop
 |[]=>True
 |(_,o)::r=>uo HF o/\ye7 HF r
theorem TM(HF:Hp):∀(fr:Fr) (t:Nat),fget (frzF HF fr) t=cH HF 4 (fget fr t)
 |[],t=>rfl
 |(s,x)::r,t=>by simp only[frzF,fget];split<;>simp[TM HF r t]
theorem TL{HF:Hp}:∀{fr:Fr},ykg HF fr->∀t,cO HF 4 (fget fr t)
 |[],_,t=>trivial
 |(s,x)::r,h,t=>by
  simp only[fget]
  split
  ·exact h.1
  ·exact TL h.2 t
theorem C8(HF:Hp):∀(H:Hp) (i:Nat),hget (fg HF H) i=(hget H i).map fun o=>match hget HF i with|some _=>AObj.gone|none=>gM HF o
 |[],i=>rfl
 |(j,o)::r,i=>by
  simp only[fg,hget]
  split
  ·rename_i e;subst e;rfl
  ·exact C8 HF r i
theorem TJ{HF:Hp}:∀{H:Hp},ye7 HF H->∀i o,hget H i=some o->uo HF o
 |[],_,i,o,h=>by cases h
 |(j,q)::r,h,i,o,hg=>by
  simp only[hget]at hg
  split at hg
  ·cases hg;exact h.1
  ·exact TJ h.2 i o hg
theorem MW(HF:Hp)(o:AObj):(gM HF o).live=o.live:=by unfold gM;split<;>rfl
section
variable{P:Program}{B:Nat}{w0:js}{Mx:Nat->Prop}{N:Nat}{w:World}{ρ:Nat->Addr}{fr:Fr}{H:Hp}{a:Act}
theorem Q8(h:aO B w0 Mx N w ρ fr H a){HF:Hp}(yQ:∀id o,hget HF id=some o->hget H id=some o):∀(n:Nat) (v:Value) (x:AV),VR w (MM Mx H ρ) ρ (DD H) v x->cO HF n x->VR w (MM Mx (fg HF H) ρ) ρ (DD (fg HF H)) v (cH HF n x):=by
 have q5:∀b,MM Mx (fg HF H) ρ b->MM Mx H ρ b:=by
  rintro b (h1|⟨id,o,h1,h2,h3⟩)
  ·exact .inl h1
  ·rw[C8]at h1;obtain⟨o',g1,g2⟩:=zzB.1 h1;refine .inr ⟨id,o',g1,?_,h3⟩
   split at g2
   ·subst g2;cases h2
   ·rw[<-g2,MW]at h2;exact h2
 have ph:∀id o,hget HF id=some o->o.live=true->¬MM Mx (fg HF H) ρ (ρ id).block:=by
  rintro id o ho hl (h1|⟨bO,o',h1,h2,h3⟩)
  ·exact(h.own id o (yQ _ _ ho) hl).2 h1
  ·rw[C8]at h1;obtain⟨q,g1,g2⟩:=zzB.1 h1
   split at g2
   ·subst g2;cases h2
   ·rename_i hn
    rw[<-g2,MW]at h2
    have:=h.inj bO q id o g1 h2 (yQ _ _ ho) hl h3
    subst this;rw[hn]at ho;cases ho
 have uS:∀id,DD H id->DD (fg HF H) id:=fun id ⟨o,ho⟩=>⟨_,by rw[C8,ho];rfl⟩
 have tX:∀{v:Value} {x:AV},VR w (MM Mx H ρ) ρ (DD H) v x->VR w (MM Mx (fg HF H) ρ) ρ (DD (fg HF H)) v x:=fun hv=>
  hv.carry (zA _) (fun b _ hm=>⟨rfl,fun g=>hm (q5 b g)⟩) (fun k hd=>⟨uS k hd,rfl,fun arr t ha=>⟨arr,ha,rfl⟩⟩)
 intro n
 induction n with
 |zero=>intro v x hv _;exact tX hv
 |succ n ih=>
  intro v x hv hp;cases x with
  |sl es id off len=>
   simp only[cH];simp only[cO]at hp
   split
   ·rename_i o ho;rw[ho]at hp;exact(MD (ρ0:=ρ) h yQ q5 ph 6 v _ hv hp).D0
   ·exact tX hv
  |ptr id off=>
   simp only[cH];simp only[cO]at hp
   split
   ·rename_i o ho;rw[ho]at hp;exact(MD (ρ0:=ρ) h yQ q5 ph 6 v _ hv hp).D0
   ·exact tX hv
  |agg xs=>
   obtain⟨vs,rfl,hl,hx⟩:=hv.bD;refine .agg vs _ (by simp[hl]) fun i u y hu hy=>?_;simp only[zR]at hy;obtain⟨y',g1,rfl⟩:=zzB.1 hy;exact ih u y' (hx i u y' hu g1) (hp _ (zQ g1))
  |tup xs=>
   obtain⟨vs,rfl,hl,hx⟩:=hv.fV;refine .tup vs _ (by simp[hl]) fun i u y hu hy=>?_;simp only[zR]at hy;obtain⟨y',g1,rfl⟩:=zzB.1 hy;exact ih u y' (hx i u y' hu g1) (hp _ (zQ g1))
  |fn f xs=>
   obtain⟨vs,rfl,hl,hx⟩:=hv.e7;refine .fn f vs _ (by simp[hl]) fun i u y hu hy=>?_;simp only[zR]at hy;obtain⟨y',g1,rfl⟩:=zzB.1 hy;exact ih u y' (hx i u y' hu g1) (hp _ (zQ g1))
  |_=>exact tX hv
theorem aO.freeze(h:aO B w0 Mx N w ρ fr H a){HF:Hp}(yQ:∀id o,hget HF id=some o->hget H id=some o)(h1:ykg HF fr)(h2:ye7 HF H):aO B w0 Mx N w ρ (frzF HF fr) (fg HF H) a:=by
 have hv:=Q8 h yQ;have key:∀id o,hget (fg HF H) id=some o->o.live=true->∃q,hget H id=some q/\q.live=true/\o=gM HF q:=fun id o g1 g2=>by
  rw[C8]at g1;obtain⟨q,k1,k2⟩:=zzB.1 g1
  split at k2
  ·subst k2;cases g2
  ·exact⟨q,k1,by rw[<-k2,MW]at g2;exact g2,k2.symm⟩
 refine⟨h.below,h.hB,h.mx,fun id o g1 g2=>?_,fun id o g1=>?_,fun id o bO o' g1 g2 g3 g4 g5=>?_,fun t=>?_,h.defers,h.size⟩
 ·obtain⟨q,k1,k2,_⟩:=key id o g1 g2;exact h.own id q k1 k2
 ·by_cases hl:o.live=true
  ·obtain⟨q,k1,k2,rfl⟩:=key id o g1 hl;have hr:=h.objs id q k1;have hp:=TJ h2 id q k1;cases q with
   |gone=>trivial
   |cells t c=>
    obtain⟨e1,arr,e2,e3,e4⟩:=hr;cases c with
    |ints l=>exact⟨e1,arr,e2,e3,fun j hj=>let ⟨u,hu,hx⟩:=e4 j hj;⟨u,hu,hv 0 u _ hx trivial⟩⟩
    |bools l=>exact⟨e1,arr,e2,e3,fun j hj=>let ⟨u,hu,hx⟩:=e4 j hj;⟨u,hu,hv 0 u _ hx trivial⟩⟩
    |lst l=>
     refine⟨e1,arr,e2,by simpa [gM,Cs.len] using e3,fun j hj=>?_⟩;simp only[Cs.len,List.length_map]at hj;obtain⟨u,hu,hx⟩:=e4 j hj;refine⟨u,hu,?_⟩;simp only[Cs.get,zB,zJ hj,Option.getD_some]at hx
     have:=hv 4 u _ hx (hp _ (List.getElem_mem hj))
     simpa [Cs.get,hj] using this
   |gmap t ck l=>
    obtain⟨es,k1,k2,k3⟩:=hr;refine⟨es,k1,by simpa using k2,fun j e q he hl=>?_⟩;simp only[zR]at hl;obtain⟨q',g1,rfl⟩:=zzB.1 hl;obtain⟨g3,g4,g5⟩:=k3 j e q' he g1;exact⟨g3,g4,hv 4 _ _ g5 (hp q' (zQ g1))⟩
   |iter dB s sn la=>
    obtain⟨k1,k2,k3⟩:=hr;obtain⟨om,vX⟩:=k1;exact⟨⟨_,by rw[C8,vX];rfl⟩,k2,k3⟩
   |imap t l=>
    obtain⟨k0,es,ck,k1,k2,k3⟩:=hr;exact⟨k0,es,ck,k1,k2,fun j e k x he hl=>let ⟨g1,g2,g3⟩:=k3 j e k x he hl;⟨g1,hv 0 _ _ g2 trivial,g3⟩⟩
   |fmap t c=>exact hr
  ·cases o with
   |gone=>trivial
   |_=>exact zzA rfl hl
 ·obtain⟨q,k1,k2,_⟩:=key id o g1 g2;obtain⟨q',k3,k4,_⟩:=key bO o' g3 g4;exact h.inj id q bO q' k1 k2 k3 k4 g5
 ·rw[TM];exact hv 4 _ _ (h.frv t) (TL h1 t)
end
def cS(b:Nat):Nat->AV->AV
 |0,x=>if p1 x then x else .any
 |n+1,x=>match x with
  |.sl es id off len=> .sl es (b+id) off len
  |.ptr id off=> .ptr (b+id) off
  |.mp id=> .mp (b+id)
  |.agg xs=> .agg (xs.map (cS b n))
  |.tup xs=> .tup (xs.map (cS b n))
  |.fn f xs=> .fn f (xs.map (cS b n))
  |x=>x
def jD(b:Nat):AObj->AObj
 |.cells t (.lst l)=> .cells t (.lst (l.map (cS b 4)))
 |.imap t l=> .imap t (l.map fun q=>(q.1,cS b 4 q.2))
 |.gmap t ck l=> .gmap t ck (l.map fun q=>(q.1,q.2.1,cS b 4 q.2.2))
 |.iter m s sn la=> .iter (b+m) s sn la
 |o=>o
def renH(b:Nat):Hp->Hp
 |[]=>[]
 |(i,o)::r=>(b+i,jD b o)::renH b r
theorem TI(b:Nat):∀(H:Hp) (i:Nat),hget (renH b H) (b+i)=(hget H i).map (jD b)
 |[],i=>rfl
 |(j,o)::r,i=>by
  simp only[renH,hget];by_cases e:j=i
  ·subst e;simp
  ·rw[zL (by omega),zL e];exact TI b r i
theorem UH(b:Nat):∀(H:Hp) (i:Nat),i<b->hget (renH b H) i=none
 |[],i,_=>rfl
 |(j,o)::r,i,h=>by simp only[renH,hget];rw[zL (by omega)];exact UH b r i h
theorem MC:∀(H K:Hp) (i:Nat),hget (H++K) i=match hget H i with|some o=>some o|none=>hget K i
 |[],K,i=>rfl
 |(j,o)::r,K,i=>by
  simp only[List.cons_append,hget]
  split
  ·rfl
  ·exact MC r K i
theorem C7(b:Nat)(o:AObj):(jD b o).live=o.live:=by unfold jD;split<;>rfl
theorem Q7{w:World}{M:Nat->Prop}{ρ ρ':Nat->Addr}{D D':Nat->Prop}{b:Nat}(hD:∀i,D i->D' (b+i)/\ρ' (b+i)=ρ i):∀(n:Nat) (v:Value) (x:AV),VR w M ρ D v x->VR w M ρ' D' v (cS b n x):=by
 intro n
 induction n with
 |zero=>
  intro v x hv;simp only[cS]
  split
  ·rename_i hp;exact hv.bP hp
  ·exact .any _
 |succ n ih=>
  intro v x hv;cases hv with
  |any v=>exact .any _
  |int k m=>exact .int _ _
  |bool b=>exact .bool _
  |str s=>exact .str _
  |nils=>exact .nils
  |mp id hd=>obtain⟨h1,h2⟩:=hD id hd;simp only[cS];rw[<-h2];exact .mp _ h1
  |ro es len c ad cap x hl hc he h0 hv=>exact VR.bP (VR.ro (D:=D) es len c ad cap x hl hc he h0 hv) rfl
  |rp c off b x hb hm hj hv=>exact VR.bP (VR.rp (D:=D) c off b x hb hm hj hv) rfl
  |ptr id off hd=>obtain⟨h1,h2⟩:=hD id hd;simp only[cS];rw[<-h2];exact .ptr _ _ h1
  |sl es id off len cap hd hc arr t ad ha hb hr=>
   obtain⟨h1,h2⟩:=hD id hd;exact .sl es (b+id) off len cap h1 hc arr t ad (fun h=>by rw[h2];exact ha h) (by rw[h2];exact hb) (by rw[h2];exact hr)
  |agg vs xs hl hx=>
   simp only[cS];refine .agg vs _ (by simp[hl]) fun i u y hu hy=>?_;simp only[zR]at hy;obtain⟨y',g1,rfl⟩:=zzB.1 hy;exact ih u y' (hx i u y' hu g1)
  |tup vs xs hl hx=>
   simp only[cS];refine .tup vs _ (by simp[hl]) fun i u y hu hy=>?_;simp only[zR]at hy;obtain⟨y',g1,rfl⟩:=zzB.1 hy;exact ih u y' (hx i u y' hu g1)
  |fn f vs xs hl hx=>
   simp only[cS];refine .fn f vs _ (by simp[hl]) fun i u y hu hy=>?_;simp only[zR]at hy;obtain⟨y',g1,rfl⟩:=zzB.1 hy;exact ih u y' (hx i u y' hu g1)
theorem y1l{w:World}{M:Nat->Prop}{ρ ρ':Nat->Addr}{D D':Nat->Prop}{b:Nat}(hD:∀i,D i->D' (b+i)/\ρ' (b+i)=ρ i){i:Nat}{o:AObj}(hi:D i)(h:fA w M ρ D i o):fA w M ρ' D' (b+i) (jD b o):=by
 have hr:=Q7 (w:=w) (M:=M) (ρ':=ρ') (D':=D') hD;have he:=(hD i hi).2;cases o with
 |gone=>trivial
 |cells t c=>
  obtain⟨e1,arr,e2,e3,e4⟩:=h;cases c with
  |ints l=>exact⟨by rw[he];exact e1,arr,by rw[he];exact e2,by rw[he];exact e3,fun j hj=>let ⟨u,hu,hx⟩:=e4 j hj;⟨u,by rw[he];exact hu,hx.bP rfl⟩⟩
  |bools l=>exact⟨by rw[he];exact e1,arr,by rw[he];exact e2,by rw[he];exact e3,fun j hj=>let ⟨u,hu,hx⟩:=e4 j hj;⟨u,by rw[he];exact hu,hx.bP rfl⟩⟩
  |lst l=>
   refine⟨by rw[he];exact e1,arr,by rw[he];exact e2,by rw[he];simpa [jD,Cs.len] using e3,fun j hj=>?_⟩;simp only[Cs.len,List.length_map]at hj;obtain⟨u,hu,hx⟩:=e4 j hj;refine⟨u,by rw[he];exact hu,?_⟩;simp only[Cs.get,zB,zJ hj,Option.getD_some]at hx
   have:=hr 4 u _ hx
   simpa [Cs.get,hj] using this
 |fmap t c=>
  obtain⟨k0,es,ck,k1,k2⟩:=h;exact⟨k0,es,ck,by rw[he];exact k1,k2⟩
 |gmap t ck l=>
  obtain⟨es,k1,k2,k3⟩:=h;refine⟨es,by rw[he];exact k1,by simpa using k2,fun j e q h1 h2=>?_⟩;simp only[zR]at h2;obtain⟨q',g1,g2⟩:=zzB.1 h2;cases g2;obtain⟨g3,g4,g5⟩:=k3 j e q' h1 g1;exact⟨g3,g4,hr 4 _ _ g5⟩
 |iter dB s sn la=>
  obtain⟨k1,k2,k3⟩:=h;obtain⟨d1,d2⟩:=hD dB k1;exact⟨d1,by rw[he];exact k2,by rw[he,d2];exact k3⟩
 |imap t l=>
  obtain⟨k0,es,ck,k1,k2,k3⟩:=h;refine⟨fun k x hx=>?_,es,ck,by rw[he];exact k1,by simpa using k2,fun j e k x h1 h2=>?_⟩
  ·obtain⟨q,g1,g2⟩:=zzE.1 hx;cases g2
   have:=k0 q.1 q.2 g1
   cases hq:q.2<;>rw[hq]at this<;>first|(cases this;done)|rfl
  simp only[zR]at h2;obtain⟨q,g1,g2⟩:=zzB.1 h2;cases g2;obtain⟨g3,g4,g5⟩:=k3 j e q.1 q.2 h1 g1;exact⟨g3,hr 4 _ _ g4,g5⟩
section
variable{P:Program}{B:Nat}{w0:js}{Mx:Nat->Prop}{N:Nat}{w:World}{ρ:Nat->Addr}{fr:Fr}{H:Hp}{a:Act}
theorem aO.join(h:aO B w0 Mx N w ρ fr H a){b:Nat}(hb:∀i,b<=i->hget H i=none){w1:js}{w':World}{ρ':Nat->Addr}{H0:Hp}{N0:Nat}{a0:Act}(xv:w1.w=w)(k:aO w.heap.size w1 (MM Mx H ρ) N0 w' ρ' [] H0 a0):
  let ρ2:=fun i=>if i<b then ρ i else ρ' (i-b)
  MM Mx (renH b H0++H) ρ2=MM (MM Mx H ρ) H0 ρ'/\aO B w0 Mx N w' ρ2 fr (renH b H0++H) a/\ ∀v x,VR w' (MM (MM Mx H ρ) H0 ρ') ρ' (DD H0) v x->VR w' (MM Mx (renH b H0++H) ρ2) ρ2 (DD (renH b H0++H)) v (cS b 4 x):=by
 intro ρ2;have aC:∀i o,hget H i=some o->i<b:=fun i o ho=>by
  rcases zY i b with g|g
  ·exact g
  ·rw[hb i g]at ho;cases ho
 have e1:∀i,i<b->hget (renH b H0++H) i=hget H i:=fun i hi=>by rw[MC,UH b H0 i hi]
 have e2:∀i,hget (renH b H0++H) (b+i)=(hget H0 i).map (jD b):=fun i=>by
  rw[MC,TI];cases hget H0 i with
  |none=>simp[hb (b+i) (by omega)]
  |some o=>rfl
 have e3:∀i,i<b->ρ2 i=ρ i:=fun i hi=>by simp[ρ2,hi]
 have e4:∀i,ρ2 (b+i)=ρ' i:=fun i=>by simp only[ρ2];rw[zL (by omega),Nat.add_sub_cancel_left]
 have cs:∀i o,hget (renH b H0++H) i=some o->(i<b/\hget H i=some o)\/ ∃j q,i=b+j/\hget H0 j=some q/\o=jD b q:=fun i o ho=>by
  rcases zY i b with g|g
  ·left;rw[e1 i g]at ho;exact⟨g,ho⟩
  ·right;obtain⟨j,rfl⟩:∃j,i=b+j:=⟨i-b,by omega⟩;rw[e2]at ho;obtain⟨q,g1,g2⟩:=zzB.1 ho;exact⟨j,q,rfl,g1,g2.symm⟩
 have hM:MM Mx (renH b H0++H) ρ2=MM (MM Mx H ρ) H0 ρ':=by
  funext x;apply propext;constructor
  ·rintro (g|⟨i,o,g1,g2,g3⟩)
   ·exact .inl (.inl g)
   ·rcases cs i o g1 with ⟨q1,q2⟩|⟨j,q,rfl,q1,rfl⟩
    ·rw[e3 i q1]at g3;exact .inl (.inr ⟨i,o,q2,g2,g3⟩)
    ·rw[e4]at g3;rw[C7]at g2;exact .inr ⟨j,q,q1,g2,g3⟩
  ·rintro ((g|⟨i,o,g1,g2,g3⟩)|⟨j,q,g1,g2,g3⟩)
   ·exact .inl g
   ·have:=aC i o g1;exact .inr ⟨i,o,by rw[e1 i this];exact g1,g2,by rw[e3 i this];exact g3⟩
   ·exact .inr ⟨b+j,jD b q,by rw[e2,g1];rfl,by rw[C7];exact g2,by rw[e4];exact g3⟩
 have eH:=k.below;rw[xv]at eH;have hold:∀{v:Value} {x:AV},VR w (MM Mx H ρ) ρ (DD H) v x->VR w' (MM Mx (renH b H0++H) ρ2) ρ2 (DD (renH b H0++H)) v x:=fun hv=>by
  rw[hM];refine hv.carry eH.size (fun x hx hm=>⟨eH.block x hx,?_⟩) (fun i hd=>?_)
  ·rintro (g|⟨j,q,g1,g2,g3⟩)
   ·exact hm g
   ·have:=(k.own j q g1 g2).1;omega
  ·obtain⟨o,ho⟩:=hd
   have:=aC i o ho
   exact⟨⟨o,by rw[e1 i this];exact ho⟩,e3 i this,fun arr t ha=>⟨arr,(eH.block _ (gA ha)).trans ha,rfl⟩⟩
 have Xk:∀i,DD H0 i->DD (renH b H0++H) (b+i)/\ρ2 (b+i)=ρ' i:=fun i ⟨o,ho⟩=>⟨⟨jD b o,by rw[e2,ho];rfl⟩,e4 i⟩;refine⟨hM,⟨h.below.trans (eH.mono h.hB),Nat.le_trans h.hB eH.size,fun x hx=>k.mx x (.inl hx),fun i o g1 g2=>?_,fun i o g1=>?_,fun i o i' o' g1 g2 g3 g4 g5=>?_,fun t=>hold (h.frv t),h.defers,h.size⟩,fun v x hv=>?_⟩
 ·rcases cs i o g1 with ⟨q1,q2⟩|⟨j,q,rfl,q1,rfl⟩
  ·rw[e3 i q1];exact h.own i o q2 g2
  ·rw[e4];rw[C7]at g2
   have:=k.own j q q1 g2
   exact⟨Nat.le_trans h.hB this.1,fun hx=>this.2 (.inl hx)⟩
 ·rcases cs i o g1 with ⟨q1,q2⟩|⟨j,q,rfl,q1,rfl⟩
  ·have hr:=h.objs i o q2;cases o with
   |gone=>trivial
   |cells t c=>
    obtain⟨f1,arr,f2,f3,f4⟩:=hr;exact⟨by rw[e3 i q1];exact f1,arr,by rw[e3 i q1];exact(eH.block _ (gA f2)).trans f2,by rw[e3 i q1];exact f3,fun j hj=>let ⟨u,hu,hx⟩:=f4 j hj;⟨u,by rw[e3 i q1];exact hu,hold hx⟩⟩
   |gmap t ck l=>
    obtain⟨es,k1,k2,k3⟩:=hr;exact⟨es,by rw[e3 i q1];exact(eH.block _ (gA k1)).trans k1,k2,fun j e q he hl=>let ⟨g1,g2,g3⟩:=k3 j e q he hl;⟨g1,g2,hold g3⟩⟩
   |iter dB s sn la=>
    obtain⟨k1,k2,k3⟩:=hr;obtain⟨om,vX⟩:=k1;have Ww:=aC dB om vX;exact⟨⟨om,by rw[e1 dB Ww];exact vX⟩,by rw[e3 i q1];exact k2,by rw[e3 i q1,e3 dB Ww];exact(eH.block _ (gA k3)).trans k3⟩
   |imap t l=>
    obtain⟨k0,es,ck,k1,k2,k3⟩:=hr;exact⟨k0,es,ck,by rw[e3 i q1];exact(eH.block _ (gA k1)).trans k1,k2,fun j e k x he hl=>let ⟨g1,g2,g3⟩:=k3 j e k x he hl;⟨g1,hold g2,g3⟩⟩
   |fmap t c=>
    obtain⟨k0,es,ck,k1,k2⟩:=hr;exact⟨k0,es,ck,by rw[e3 i q1];exact(eH.block _ (gA k1)).trans k1,k2⟩
  ·rw[hM];exact y1l Xk ⟨q,q1⟩ (k.objs j q q1)
 ·rcases cs i o g1 with ⟨q1,q2⟩|⟨j,q,rfl,q1,rfl⟩
  ·rcases cs i' o' g3 with ⟨r1,r2⟩|⟨j',q',rfl,r1,rfl⟩
   ·rw[e3 i q1,e3 i' r1]at g5;exact h.inj i o i' o' q2 g2 r2 g4 g5
   ·rw[e3 i q1,e4]at g5;rw[C7]at g4;exact zzA (.inr ⟨i,o,q2,g2,g5⟩) (k.own j' q' r1 g4).2
  ·rcases cs i' o' g3 with ⟨r1,r2⟩|⟨j',q',rfl,r1,rfl⟩
   ·rw[e3 i' r1,e4]at g5;rw[C7]at g2;exact zzA (.inr ⟨i',o',r2,g4,g5.symm⟩) (k.own j q q1 g2).2
   ·rw[e4,e4]at g5;rw[C7]at g2 g4;rw[k.inj j q j' q' q1 g2 r1 g4 g5]
 ·rw[hM];exact Q7 Xk 4 v x hv
end
def lft:Fr->Fr
 |[]=>[]
 |(s,x)::r=>(s+1000000,x)::lft r
def unl:Fr->Fr
 |[]=>[]
 |(s,x)::r=>if 1000000<=s then (s-1000000,x)::unl r else unl r
theorem CW:∀(fr:Fr) (t:Nat),fget (lft fr) t=if 1000000<=t then fget fr (t-1000000) else .any
 |[],t=>by simp[lft,fget]
 |(s,x)::r,t=>by
  simp only[lft,fget];by_cases e:s+1000000=t
  ·subst e;simp
  ·rw[zL e,CW r t];by_cases h:1000000<=t
   ·rw[zM h,zM h,zL (by omega)]
   ·rw[zL h,zL h]
theorem MB:∀(fr:Fr) (t:Nat),fget (unl fr) t=fget fr (t+1000000)
 |[],t=>rfl
 |(s,x)::r,t=>by
  simp only[unl,fget];by_cases h:1000000<=s
  ·rw[zM h];simp only[fget];by_cases e:s-1000000=t
   ·rw[zM e,zM (by omega)]
   ·rw[zL e,zL (by omega)];exact MB r t
  ·rw[zL h,zL (by omega)];exact MB r t
theorem Nn:∀(f1 f2:Fr) (t:Nat),(∀s x,(s,x)∈f1->s≠t)->fget (f1++f2) t=fget f2 t
 |[],f2,t,_=>rfl
 |(s,x)::r,f2,t,h=>by
  simp only[List.cons_append,fget];rw[zL (h s x (by simp))];exact Nn r f2 t fun s x hx=>h s x (by simp[hx])
end Go.Proofs.YthohfoombimbeaaGreatDoor
