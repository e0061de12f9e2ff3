/- The author's own program logic: abstract values, states, relations, the operations. -/
import Derived.WalkKit
import Derived.WalkSpells
import Derived.WalkLawsBesides
import Derived.Lib.LaidTab
import Derived.Lib.ItoaNum
import Derived.Test.YtfgbnalnbdhimaaGreatDoorProg
set_option linter.unusedSimpArgs false
set_option linter.unusedVariables false
namespace Go.Proofs.YtfgbnalnbdhimaaGreatDoor
open Go Go.RowKit
def Good (w:World):Prop:=Lib.TabIs Tryz.prog w "internal/strconv.uint64pow10" .u64 Lib.pow10Tab
theorem Good.later {w w':World} (h:Good w) (hb:Below w.heap.size w w'):Good w':=by
 unfold Good Lib.TabIs World.var? at h⊢
 cases hg:Tryz.prog.globalNamed "internal/strconv.uint64pow10" with
 |none=>rw [hg] at h;cases h
 |some g=>
  rw [hg] at h
  simp only [Option.bind_some] at h⊢
  have hlt:g<w.heap.size:=by
   rcases Nat.lt_or_ge g w.heap.size with h'|h'
   ·exact h'
   ·rw [Array.getElem?_eq_none h'] at h;cases h
  rw [hb.block g hlt]
  exact h
mutual
inductive AV where
 |any
 |int (k:IntKind) (n:Int)
 |bool (b:Bool)
 |str (s:ByteArray)
 |agg (xs:List AV)
 |tup (xs:List AV)
 |nils
 |ptr (id off:Nat)
 |sl (es id off len:Nat)
 |ro (es len:Nat) (c:Cs)
 |rp (c:Cs) (off:Nat)
 |fn (f:Nat) (cap:List AV)
 |mp (id:Nat)
inductive Cs where
 |ints (l:List Int)
 |bools (l:List Bool)
 |lst (l:List AV)
end
abbrev I (n:Int):AV:= .int .i64 n
def Cs.len:Cs->Nat
 | .ints l=>l.length
 | .bools l=>l.length
 | .lst l=>l.length
def Cs.get:Cs->Nat->AV
 | .ints l,i=> .int .i64 (l.getD i 0)
 | .bools l,i=> .bool (l.getD i false)
 | .lst l,i=>l.getD i .any
def Cs.toL:Cs->List AV
 | .ints l=>l.map (AV.int .i64)
 | .bools l=>l.map AV.bool
 | .lst l=>l
def Cs.set:Cs->Nat->AV->Cs
 | .ints l,i, .int .i64 n=> .ints (l.set i n)
 | .bools l,i, .bool b=> .bools (l.set i b)
 |c,i,a=> .lst (c.toL.set i a)
def Cs.drop:Cs->Nat->Cs
 | .ints l,n=> .ints (l.drop n)
 | .bools l,n=> .bools (l.drop n)
 | .lst l,n=> .lst (l.drop n)
def Cs.take:Cs->Nat->Cs
 | .ints l,n=> .ints (l.take n)
 | .bools l,n=> .bools (l.take n)
 | .lst l,n=> .lst (l.take n)
def Cs.app:Cs->Cs->Cs
 | .ints l, .ints m=> .ints (l++m)
 | .bools l, .bools m=> .bools (l++m)
 |c,d=> .lst (c.toL++d.toL)
def Cs.win (c:Cs) (off n:Nat):Cs:=(c.drop off).take n
theorem Cs.len_toL (c:Cs):c.toL.length=c.len:=by cases c<;>simp [Cs.toL,Cs.len]
theorem Cs.get_toL (c:Cs) (i:Nat) (h:i<c.len):c.toL[i]?=some (c.get i):=by
 cases c<;>simp_all [Cs.toL,Cs.len,Cs.get]
theorem Cs.len_drop (c:Cs) (n:Nat):(c.drop n).len=c.len-n:=by cases c<;>simp [Cs.drop,Cs.len]
theorem Cs.len_take (c:Cs) (n:Nat):(c.take n).len=min n c.len:=by cases c<;>simp [Cs.take,Cs.len]
theorem Cs.len_win (c:Cs) (off n:Nat) (h:off+n<=c.len):(c.win off n).len=n:=by
 unfold Cs.win;rw [Cs.len_take,Cs.len_drop];omega
theorem Cs.len_set (c:Cs) (i:Nat) (a:AV):(c.set i a).len=c.len:=by
 unfold Cs.set;split<;>simp [Cs.len]<;>rw [Cs.len_toL]<;>rfl
theorem Cs.get_drop (c:Cs) (n i:Nat):(c.drop n).get i=c.get (n+i):=by
 cases c<;>simp [Cs.drop,Cs.get]
theorem Cs.get_take (c:Cs) (n i:Nat) (h:i<n):(c.take n).get i=c.get i:=by
 cases c<;>simp [Cs.take,Cs.get,h]
theorem Cs.get_win (c:Cs) (off n i:Nat) (h:i<n):(c.win off n).get i=c.get (off+i):=by
 unfold Cs.win;rw [Cs.get_take _ _ _ h,Cs.get_drop]
theorem Cs.get_set (c:Cs) (i j:Nat) (a:AV) (hj:j<c.len):(c.set i a).get j=if i=j then a else c.get j:=by
 unfold Cs.set
 split
 ·rename_i l n;simp only [Cs.get,Cs.len] at*
  by_cases h:i=j
  ·subst h;simp [hj]
  ·simp [h]
 ·rename_i l n;simp only [Cs.get,Cs.len] at*
  by_cases h:i=j
  ·subst h;simp [hj]
  ·simp [h]
 ·have h1:=Cs.get_toL c j hj
  have h2:=Cs.len_toL c
  by_cases h:i=j
  ·subst h;simp [Cs.get,h2,hj]
  ·simp [Cs.get,h,h1]
theorem Cs.len_app (c d:Cs):(c.app d).len=c.len+d.len:=by
 unfold Cs.app;split<;>simp [Cs.len]<;>rw [Cs.len_toL,Cs.len_toL]<;>rfl
theorem Cs.get_app (c d:Cs) (i:Nat) (hi:i<c.len+d.len):(c.app d).get i=if i<c.len then c.get i else d.get (i-c.len):=by
 unfold Cs.app
 split
 ·rename_i l m;simp only [Cs.get,Cs.len] at*
  by_cases h:i<l.length
  ·simp [h,List.getElem?_append_left h]
  ·simp [h,List.getElem?_append_right (Nat.le_of_not_lt h)]
 ·rename_i l m;simp only [Cs.get,Cs.len] at*
  by_cases h:i<l.length
  ·simp [h,List.getElem?_append_left h]
  ·simp [h,List.getElem?_append_right (Nat.le_of_not_lt h)]
 ·have e1:=Cs.len_toL c
  have e2:=Cs.len_toL d
  by_cases h:i<c.len
  ·have:=Cs.get_toL c i h
   simp [Cs.get,h,this,List.getElem?_append_left (show i<c.toL.length by omega)]
  ·have:=Cs.get_toL d (i-c.len) (by omega)
   simp [Cs.get,h,List.getElem?_append_right (show c.toL.length<=i by omega),e1,this]
inductive MF where
 |ints (g:Int->Option Int)
 |bools (g:Int->Option Bool)
 |pairs (g:Int->Option (Int×Int))
def MF.val:MF->Int->Option Value
 | .ints g,n=>(g n).map (Value.int .i64)
 | .bools g,n=>(g n).map Value.bool
 | .pairs g,n=>(g n).map fun p=>Value.agg #[.int .i64 p.1, .int .i64 p.2]
inductive AObj where
 |gone
 |cells (t:Nat) (c:Cs)
 |imap (t:Nat) (l:List (Int×AV))
 |fmap (t:Nat) (c:MF)
  |gmap (t:Nat) (ck:Nat) (l:List (ByteArray×Nat×AV))
  |iter (mid:Nat) (since:Nat) (seen:List Nat) (last:Nat)
def AObj.live:AObj->Bool
 | .gone=>false
 |_=>true
abbrev Fr:=List (Nat×AV)
abbrev Hp:=List (Nat×AObj)
def fget:Fr->Nat->AV
 |[],_=> .any
 |(s,x)::r,t=>if s=t then x else fget r t
def hget:Hp->Nat->Option AObj
 |[],_=>none
 |(i,o)::r,t=>if i=t then some o else hget r t
def hset:Hp->Nat->AObj->Hp
 |[],_,_=>[]
 |(i,o)::r,t,o'=>if i=t then (i,o')::r else (i,o)::hset r t o'
def hnew:Hp->Nat
 |[]=>0
 |(i,_)::r=>max (i+1) (hnew r)
theorem ya0 {H:Hp} {i:Nat} {o o':AObj} (h:hget H i=some o):hget (hset H i o') i=some o':=by
 induction H with
 |nil=>simp [hget] at h
 |cons p r ih=>obtain ⟨j,q⟩:=p;simp only [hget,hset] at*;split<;>simp_all [hget]
theorem yaf {H:Hp} {i j:Nat} {o':AObj} (h:i≠j):hget (hset H i o') j=hget H j:=by
 induction H with
 |nil=>simp [hset]
 |cons p r ih=>obtain ⟨k,q⟩:=p;simp only [hset];split<;>simp only [hget]<;>simp_all
theorem yec {H:Hp} {i:Nat} (h:hnew H<=i):hget H i=none:=by
 induction H with
 |nil=>rfl
 |cons p r ih=>obtain ⟨j,q⟩:=p;simp only [hnew,hget] at*;rw [if_neg (by omega)];exact ih (by omega)
inductive VR (w:World) (M:Nat->Prop) (ρ:Nat->Addr):(Nat->Prop)->Value->AV->Prop where
 |any {D} (v:Value):VR w M ρ D v .any
 |int {D} (k:IntKind) (n:Int):VR w M ρ D (.int k n) (.int k n)
 |bool {D} (b:Bool):VR w M ρ D (.bool b) (.bool b)
 |str {D} (s:ByteArray):VR w M ρ D (.string s) (.str s)
 |agg {D} (vs:List Value) (xs:List AV) (hl:vs.length=xs.length) (hx: ∀(i:Nat) (v:Value) (x:AV),vs[i]?=some v->xs[i]?=some x->VR w M ρ D v x):VR w M ρ D (.agg vs.toArray) (.agg xs)
 |tup {D} (vs:List Value) (xs:List AV) (hl:vs.length=xs.length) (hx: ∀(i:Nat) (v:Value) (x:AV),vs[i]?=some v->xs[i]?=some x->VR w M ρ D v x):VR w M ρ D (.tuple vs.toArray) (.tup xs)
 |nils {D}:VR w M ρ D (.slice none 0 0) .nils
 |ptr {D:Nat->Prop} (id off:Nat) (hd:D id):VR w M ρ D (.pointer (some ((ρ id).add off))) (.ptr id off)
 |sl {D:Nat->Prop} (es id off len cap:Nat) (hd:D id) (hc:len<=cap) (arr:Array Value) (t:TypeId) (ad:Addr) (ha:0<cap->ad=(ρ id).add off)
  (hb:w.heap[(ρ id).block]?=some (.cells arr t (0,0))) (hr:(ρ id).off+off+cap*es<=arr.size):VR w M ρ D (.slice (some ad) len cap) (.sl es id off len)
 |ro {D:Nat->Prop} (es len:Nat) (c:Cs) (ad:Option Addr) (cap:Nat) (x:Nat->Value) (hl:c.len=len*es) (hc:len<=cap) (he:0<es)
  (h0:0<len-> ∃a,ad=some a/\a.block<w.heap.size/\ ¬M a.block/\ ∀j,j<c.len->w.cell? (a.add j)=some (x j))
  (hv: ∀j,j<c.len->VR w M ρ (fun _=>False) (x j) (c.get j)):VR w M ρ D (.slice ad len cap) (.ro es len c)
 |rp {D:Nat->Prop} (c:Cs) (off:Nat) (a:Addr) (x:Nat->Value) (hb:a.block<w.heap.size) (hm: ¬M a.block) (hj: ∀j,j<c.len->w.cell? (a.add j)=some (x j))
  (hv: ∀j,j<c.len->VR w M ρ (fun _=>False) (x j) (c.get j)):VR w M ρ D (.pointer (some (a.add off))) (.rp c off)
 |fn {D} (f:Nat) (vs:List Value) (xs:List AV) (hl:vs.length=xs.length) (hx: ∀(i:Nat) (v:Value) (x:AV),vs[i]?=some v->xs[i]?=some x->VR w M ρ D v x):VR w M ρ D (.func (.func f) #[] vs.toArray) (.fn f xs)
 |mp {D:Nat->Prop} (id:Nat) (hd:D id):VR w M ρ D (.map (some (ρ id).block)) (.mp id)
theorem VR.carry {w w':World} {M M':Nat->Prop} {ρ ρ':Nat->Addr} {D:Nat->Prop} {v:Value} {x:AV} (h:VR w M ρ D v x)
  (hs:w.heap.size<=w'.heap.size) (hM: ∀b,b<w.heap.size-> ¬M b->w'.heap[b]?=w.heap[b]?/\ ¬M' b):
  ∀{D':Nat->Prop},(∀id,D id->D' id/\ρ' id=ρ id/\ ∀arr t,w.heap[(ρ id).block]?=some (.cells arr t (0,0))-> ∃arr',w'.heap[(ρ id).block]?=some (.cells arr' t (0,0))/\arr'.size=arr.size)->VR w' M' ρ' D' v x:=by
 induction h with
 |any v=>intro _ _;exact .any v
 |int k n=>intro _ _;exact .int k n
 |bool b=>intro _ _;exact .bool b
 |str s=>intro _ _;exact .str s
 |agg vs xs hl _ ih=>intro _ hD;exact .agg vs xs hl fun i v x hv hx=>ih i v x hv hx hD
 |tup vs xs hl _ ih=>intro _ hD;exact .tup vs xs hl fun i v x hv hx=>ih i v x hv hx hD
 |nils=>intro _ _;exact .nils
 |ptr id off hd=>
  intro D' hD
  obtain ⟨h1,h2,_⟩:=hD id hd
  rw [←h2];exact .ptr id off h1
 |sl es id off len cap hd hc arr t ad ha hb hr=>
  intro D' hD
  obtain ⟨h1,h2,h3⟩:=hD id hd
  obtain ⟨arr',h4,h5⟩:=h3 arr t hb
  exact .sl es id off len cap h1 hc arr' t ad (fun h=>by rw [h2];exact ha h) (by rw [h2];exact h4) (by rw [h2];omega)
 |ro es len c ad cap x hl hc he h0 _ ih=>
  intro D' hD
  refine .ro es len c ad cap x hl hc he (fun hn=>?_) (fun j hj=>ih j hj (fun id h=>h.elim))
  obtain ⟨a,e,hb,hm,hcell⟩:=h0 hn
  obtain ⟨g1,g2⟩:=hM _ hb hm
  exact ⟨a,e,by omega,g2,fun j hj=>(World.cell?_of_block (by cases hz:a.add j;simp only [Addr.add] at hz;split at hz<;>simp_all)).trans (hcell j hj)⟩
 |rp c off a x hb hm hj _ ih=>
  intro D' hD
  obtain ⟨g1,g2⟩:=hM _ hb hm
  exact .rp c off a x (by omega) g2 (fun j hjj=>(World.cell?_of_block (by cases hz:a.add j;simp only [Addr.add] at hz;split at hz<;>simp_all)).trans (hj j hjj)) (fun j hj=>ih j hj (fun id h=>h.elim))
 |fn f vs xs hl _ ih=>intro _ hD;exact .fn f vs xs hl fun i v x hv hx=>ih i v x hv hx hD
 |mp id hd=>
  intro D' hD
  obtain ⟨h1,h2,_⟩:=hD id hd
  rw [←h2];exact .mp id h1
end Go.Proofs.YtfgbnalnbdhimaaGreatDoor
namespace Go.Proofs.YtfgbnalnbdhimaaGreatDoor
open Go Go.RowKit
def absV:Value->AV
 | .int k n=> .int k n
 | .bool b=> .bool b
 | .string s=> .str s
 | .slice none 0 0=> .nils
 |_=> .any
theorem yi3 {w:World} {M:Nat->Prop} {ρ:Nat->Addr} {D:Nat->Prop} (v:Value):VR w M ρ D v (absV v):=by
 unfold absV;split<;>constructor
inductive TK where
 |bad
 |other
 |slice (e:Nat)
 |struct (fs:List (Nat×Nat))
 |int (k:IntKind)
 |str
 |bool
 |map (k e:Nat)
 |arr (n e:Nat)
def tkOf:TypeDesc->TK
 | .slice e=> .slice e
 | .struct fs=> .struct (fs.toList.map fun f=>(f.type,f.offset))
 | .int k=> .int k
 | .string=> .str
 | .bool=> .bool
 | .map k e=> .map k e
 | .array n e=> .arr n e
 |_=> .other
def tk (P:Program) (t:Nat):TK:=match P.underlying t with|some d=>tkOf d|none=> .bad
def tsz (P:Program) (t:Nat):Option Nat:=(P.info? t).map (·.size)
def tby (P:Program) (t:Nat):Option Nat:=(P.info? t).map (·.bytes)
def tze (P:Program) (t:Nat):Option (List AV):=((P.info? t).bind (·.zero)).map fun z=>z.cells.toList.map absV
def InI (n:Int):Prop:= -9223372036854775808<=n/\n<=9223372036854775807
theorem yhc {n:Int} (h:InI n):IntKind.i64.wrap n=n:=IntWalk.i64_in n (by unfold InI at h;omega)
def yaw:AV->List AV
 | .agg xs=>xs
 |x=>[x]
def ycd:AV->Bool
 | .any| .agg _| .tup _=>false
 |_=>true
def okM:AV->Bool
 | .any| .tup _=>false
 |_=>true
def yh7 (a b:Int):Int:=IntKind.i64.wrap ((BitVec.ofInt 64 a&&&BitVec.ofInt 64 b).toNat:Nat)
def binI (op:BinOp) (k:IntKind) (a b:Int):Option (Prop×AV):=
 match op with
 | .add=>if k= .i64 then some (InI (a+b),I (a+b)) else some (True, .int k (k.wrap (a+b)))
 | .sub=>if k= .i64 then some (InI (a-b),I (a-b)) else some (True, .int k (k.wrap (a-b)))
 | .mul=>if k= .i64 then some (InI (a*b),I (a*b)) else some (True, .int k (k.wrap (a*b)))
 | .quo=>if k= .i64 then some (b≠0/\InI (a.tdiv b),I (a.tdiv b)) else some (b≠0, .int k (k.wrap (a.tdiv b)))
 | .rem=>some (b≠0, .int k (a.tmod b))
 | .eql=>some (True, .bool (a==b))
 | .neq=>some (True, .bool (a !=b))
 | .lss=>some (True, .bool (decide (a<b)))
 | .leq=>some (True, .bool (decide (a<=b)))
 | .gtr=>some (True, .bool (decide (b<a)))
 | .geq=>some (True, .bool (decide (b<=a)))
 | .and=>if k= .i64 then some (True,I (yh7 a b)) else none
 |_=>none
def yfo (P:Program) (op:BinOp) (t:Nat) (x:AV):Option (Prop×AV):=
 match tk P t,x,op with
 | .slice _, .nils, .eql=>some (True, .bool true)
 | .slice _, .nils, .neq=>some (True, .bool false)
 | .slice _, .sl .., .eql=>some (True, .bool false)
 | .slice _, .sl .., .neq=>some (True, .bool true)
 | .slice _, .ro _ n _, .eql=>some (0<n, .bool false)
 | .slice _, .ro _ n _, .neq=>some (0<n, .bool true)
 |_,_,_=>none
def eq2 (P:Program) (t:Nat):Bool:=match P.underlying t with
 |some (.struct fs)=> !P.stoodInHeld t&& !P.eqGuardType P.depth t&&(match fs.toList with
  |[f,g]=>f.name != "_" &&g.name != "_" &&f.offset==0&&g.offset==1&&(match P.underlying f.type with|some (.int _)=>true|_=>false)&&(match P.underlying g.type with|some (.int _)=>true|_=>false)
  |_=>false)
 |_=>false
def eq3 (P:Program) (t:Nat):Bool:=match P.underlying t with
 |some (.struct fs)=> !P.stoodInHeld t&& !P.eqGuardType P.depth t&&(match fs.toList with
  |[f,g,h]=>f.name != "_" &&g.name != "_" &&h.name != "_" &&f.offset==0&&g.offset==1&&h.offset==2&&(match P.underlying f.type with|some (.int _)=>true|_=>false)&&(match P.underlying g.type with|some (.int _)=>true|_=>false)&&(match P.underlying h.type with|some (.int _)=>true|_=>false)
  |_=>false)
 |_=>false
def yeu (P:Program) (op:BinOp) (t:Nat) (x y:AV):Option (Prop×AV):=
 match x,y with
 | .agg [.int .i64 a, .int .i64 b], .agg [.int .i64 c, .int .i64 d]=>match op with
   | .eql=>some (eq2 P t=true, .bool (a==c&&b==d))
   | .neq=>some (eq2 P t=true, .bool (!(a==c&&b==d)))
   |_=>none
 | .agg [.int .i64 a, .int .i64 b, .int .i64 e], .agg [.int .i64 c, .int .i64 d, .int .i64 f]=>match op with
   | .eql=>some (eq3 P t=true, .bool (a==c&&b==d&&e==f))
   | .neq=>some (eq3 P t=true, .bool (!(a==c&&b==d&&e==f)))
   |_=>none
 |_,_=>none
def binF (P:Program) (op:BinOp) (t:Nat) (x y:AV):Option (Prop×AV):=
 match x,y with
 | .int k a, .int k' b=>match op with
   | .shl=>if k= .i64 then some ((0<=b/\b<=62)/\InI (a*2^b.toNat),I (a*2^b.toNat)) else none
   | .shr=>if k= .i64 then some (0<=b/\b<=63,I (a/2^b.toNat)) else if k= .u64 then some (0<=b/\b<=63, .int .u64 (a/2^b.toNat)) else none
   |_=>if k=k' then binI op k a b else none
 | .bool a, .bool b=>match tk P t,op with
   | .bool, .eql=>some (True, .bool (a==b))
   | .bool, .neq=>some (True, .bool (a !=b))
   |_,_=>none
 | .str a, .str b=>match op with
   | .eql=>some (True, .bool (a.toList==b.toList))
   | .neq=>some (True, .bool (!(a.toList==b.toList)))
   | .add=>some (a.size+b.size<=9223372036854775807, .str (a++b))
   |_=>none
 |x, .nils=>yfo P op t x
 |x,y=>yeu P op t x y
def unF (op:UnOp) (x:AV):Option (Prop×AV):=
 match op,x with
 | .neg, .int .i64 n=>some (InI (0-n),I (0-n))
 | .neg, .int .u64 n=>some (True, .int .u64 (IntKind.u64.wrap (0-n)))
 | .not, .bool b=>some (True, .bool (!b))
 |_,_=>none
def yk4 (P:Program) (t:Nat) (c:Cs) (off:Nat):Option (Prop×AV):=
 match tk P t,tsz P t with
 | .struct _,some n=>some (off+n<=c.len, .agg ((List.range n).map fun j=>c.get (off+j)))
 | .arr _ _,some n=>some (off+n<=c.len, .agg ((List.range n).map fun j=>c.get (off+j)))
 | .arr _ _,none=>none
 | .bad,_=>none
 |_,_=>some (off<c.len,c.get off)
def yk5 (P:Program) (hg:Nat->Option AObj) (t:Nat) (x:AV):Option (Prop×AV):=
 match x with
 | .ptr id off=>match hg id with
   |some (.cells _ c)=>yk4 P t c off
   |_=>none
 | .rp c off=>yk4 P t c off
 |_=>none
def yff (P:Program) (s:Nat) (x:AV) (f:Nat):Option (Prop×AV):=
 match tk P s with
 | .struct fs=>match fs[f]? with
   |some (ft,o)=>match tsz P ft with
    |some (_+1)=>match x with
     | .ptr id off=>some (True, .ptr id (off+o))
     | .rp c off=>some (True, .rp c (off+o))
     |_=>none
    |_=>none
   |none=>none
 |_=>none
def yk6 (P:Program) (t:Nat) (xs:List AV) (off:Nat):Option (Prop×AV):=
 match tk P t,tsz P t with
 | .struct _,some n=>some (True, .agg ((xs.drop off).take n))
 | .arr _ _,some n=>some (True, .agg ((xs.drop off).take n))
 | .arr _ _,none=>none
 | .bad,_=>none
 |_,_=>match xs[off]? with|some x=>some (True,x)|none=>none
def yk7 (P:Program) (s:Nat) (x:AV) (f:Nat):Option (Prop×AV):=
 match tk P s with
 | .struct fs=>match fs[f]? with
   |some (ft,o)=>match x with
    | .agg xs=>yk6 P ft xs o
    |_=>none
   |none=>none
 |_=>none
def yed (P:Program) (t:Nat) (x i:AV):Option (Prop×AV):=
 match tk P t,i with
 | .slice e, .int _ n=>match tsz P e,x with
   |some es, .sl es' id off len=>if es=es' then some (0<=n/\n<len, .ptr id (off+n.toNat*es)) else none
   |some es, .ro es' len c=>if es=es' then some (0<=n/\n<len, .rp c (n.toNat*es)) else none
   |_,_=>none
 | .arr m e, .int _ n=>match tsz P e,x with
   |some es, .ptr id off=>some (0<=n/\n<m, .ptr id (off+n.toNat*es))
   |some es, .rp c off=>some (0<=n/\n<m, .rp c (off+n.toNat*es))
   |_,_=>none
 |_,_=>none
def lenF (P:Program) (t:Nat) (x:AV):Option (Prop×AV):=
 match tk P t,x with
 | .slice _, .nils=>some (True,I 0)
 | .slice _, .sl _ _ _ n=>some (True,I n)
 | .slice _, .ro _ n _=>some (True,I n)
 | .str, .str s=>some (True,I s.size)
 |_,_=>none
def capF (P:Program) (t:Nat) (x:AV):Option (Prop×AV):=
 match tk P t,x with
 | .slice _, .nils=>some (True,I 0)
 |_,_=>none
def yhd (x:AV) (i:Nat):Option (Prop×AV):=
 match x with
 | .tup xs=>match xs[i]? with|some y=>some (True,y)|none=>none
 |_=>none
def nilF (x:AV):Option (Prop×AV):=
 match x with
 | .ptr id off=>some (True, .ptr id off)
 | .rp c off=>some (True, .rp c off)
 | .fn f xs=>some (True, .fn f xs)
 |_=>none
def yom (P:Program) (d:Nat) (x:AV):Option (Prop×AV):=
 match tk P d,x with
 | .int k, .int k' n=>if k=k'/\k= .i64 then some (InI n,I n) else some (True, .int k (k.wrap n))
 | .str, .str s=>some (True, .str s)
 |_,_=>none
def tzv (P:Program) (t:Nat):Option AV:=((P.info? t).bind (·.zero)).map absV
def ycb (l:List (Int×AV)) (n:Int):Option AV:=(l.find? fun q=>q.1==n).map (·.2)
def lput:List (Int×AV)->Int->AV->List (Int×AV)
 |[],n,v=>[(n,v)]
 |q::l,n,v=>if q.1=n then (n,v)::l else q::lput l n v
def ytu (P:Program) (et:Nat):Option AV->Option (Prop×AV)
 |some x=>some (True,x)
 |none=>match tzv P et with
  |some .nils=>some (True, .nils)
  |_=>none
def ytv (P:Program) (et:Nat) (n:Int):Option AObj->Option (Prop×AV)
 |some (.fmap _ (.ints g))=>match tzv P et with
  |some (.int .i64 z)=>some (True,I ((g n).getD z))
  |_=>none
 |some (.fmap _ (.bools g))=>match tzv P et with
  |some (.bool z)=>some (True, .bool ((g n).getD z))
  |_=>none
 |some (.fmap _ (.pairs g))=>match tze P et with
  |some [.int .i64 x, .int .i64 y]=>some (True, .agg [I ((g n).getD (x,y)).1,I ((g n).getD (x,y)).2])
  |_=>none
 |some (.imap _ l)=>ytu P et (ycb l n)
 |_=>none
def kZg (a:Int):Nat:=if 0<=a then 2*a.toNat else 2*(-a).toNat-1
def kUz (n:Nat):Int:=if n % 2=0 then (n/2:Nat) else-(((n+1)/2:Nat):Int)
theorem yve (a:Int):kUz (kZg a)=a:=by
 unfold kUz kZg
 split<;>split<;>omega
def kEnc (a b:Int):ByteArray:=⟨(List.replicate (kZg a) (0:UInt8)++1::List.replicate (kZg b) 0).toArray⟩
def kDec (s:ByteArray):Int×Int:=(kUz (s.data.toList.takeWhile (· ==0)).length,kUz (s.data.toList.length-(s.data.toList.takeWhile (· ==0)).length-1))
theorem ycr (a b:Int):kDec (kEnc a b)=(a,b):=by
 have h: ∀n m:Nat,(List.replicate n (0:UInt8)++1::List.replicate m 0).takeWhile (· ==0)=List.replicate n 0:=fun n m=>by
  induction n with
  |zero=>rfl
  |succ n ih=>rw [List.replicate_succ,List.cons_append,List.takeWhile_cons,if_pos (by decide),ih]
 unfold kDec kEnc
 simp only [h,List.length_append,List.length_replicate,List.length_cons,yve]
 rw [show kZg a+(kZg b+1)-kZg a-1=kZg b by omega,yve]
theorem yow {a b c d:Int}:kEnc a b=kEnc c d↔a=c/\b=d:=by
 constructor
 ·intro h
  have:=congrArg kDec h
  rw [ycr,ycr] at this
  exact ⟨congrArg Prod.fst this,congrArg Prod.snd this⟩
 ·rintro ⟨rfl,rfl⟩;rfl
def KR (t:Nat) (k:ByteArray) (v:Value):Prop:=if t<1000000000 then v= .string k else k=kEnc (kDec k).1 (kDec k).2/\v= .agg #[.int .i64 (kDec k).1, .int .i64 (kDec k).2]
theorem KR.str {t:Nat} {k:ByteArray} {v:Value} (ht:t<1000000000) (h:KR t k v):v= .string k:=by unfold KR at h;rwa [if_pos ht] at h
theorem KR.pr {t:Nat} {k:ByteArray} {v:Value} (ht: ¬t<1000000000) (h:KR t k v):k=kEnc (kDec k).1 (kDec k).2/\v= .agg #[.int .i64 (kDec k).1, .int .i64 (kDec k).2]:=by unfold KR at h;rwa [if_neg ht] at h
def ybo (l:List (ByteArray×Nat×AV)) (s:ByteArray):Option (ByteArray×Nat×AV):=l.find? fun q=>decide (q.1=s)
def ytw (s:ByteArray):Option AObj->Option (Prop×AV)
 |some (.gmap t _ l)=>if t<1000000000 then match ybo l s with
  |some q=>some (True,q.2.2)
  |none=>none
  else none
 |_=>none
def zrG:List AV->AV
 |x::y::r=> .agg (x::y::r)
 |_=> .any
def yhe {α:Type} (P:Program) (e:Nat) (x:Option α):Option α:=match tk P e,tsz P e with
 | .int .i64,some 1=>x
 |_,_=>none
def ytx (P:Program) (et:Nat) (s:ByteArray):Option AObj->Option (Prop×AV)
 |some (.gmap t _ l)=>if t<1000000000 then none else match ybo l s with
  |some q=>some (True,q.2.2)
  |none=>match tze P et with
   |some z=>some (True,zrG z)
   |none=>none
 |_=>none
def yty (P:Program) (et:Nat) (s:ByteArray):Option AObj->Option (Prop×AV)
 |some (.gmap t _ l)=>if t<1000000000 then none else match ybo l s with
  |some q=>some (True, .tup [q.2.2, .bool true])
  |none=>match tze P et with
   |some z=>some (True, .tup [zrG z, .bool false])
   |none=>none
 |_=>none
def ytz (P:Program) (hg:Nat->Option AObj) (et:Nat):TK->AV->AV->Option (Prop×AV)
 | .int .i64, .mp id, .int .i64 n=>ytv P et n (hg id)
 | .str, .mp id, .str s=>ytw s (hg id)
 | .arr 2 e, .mp id, .agg [.int .i64 a, .int .i64 b]=>yhe P e (ytx P et (kEnc a b) (hg id))
 |_,_,_=>none
def yt0 (P:Program) (et:Nat) (n:Int):Option AObj->Option (Prop×AV)
 |some (.fmap _ (.ints g))=>match tzv P et with
  |some (.int .i64 z)=>some (True, .tup [I ((g n).getD z), .bool (g n).isSome])
  |_=>none
 |some (.imap _ l)=>match ycb l n with
  |some x=>some (True, .tup [x, .bool true])
  |none=>match tze P et with
   |some z=>some (True, .tup [zrG z, .bool false])
   |none=>none
 |_=>none
def yt1 (P:Program) (et:Nat) (s:ByteArray):Option AObj->Option (Prop×AV)
 |some (.gmap t _ l)=>if t<1000000000 then match ybo l s with
  |some q=>some (True, .tup [q.2.2, .bool true])
  |none=>match tze P et with
   |some z=>some (True, .tup [zrG z, .bool false])
   |none=>none
  else none
 |_=>none
def yox (P:Program) (hg:Nat->Option AObj) (et:Nat):TK->AV->AV->Option (Prop×AV)
 | .int .i64, .mp id, .int .i64 n=>yt0 P et n (hg id)
 | .str, .mp id, .str s=>yt1 P et s (hg id)
 | .arr 2 e, .mp id, .agg [.int .i64 a, .int .i64 b]=>yhe P e (yty P et (kEnc a b) (hg id))
 |_,_,_=>none
def yk8 (P:Program) (hg:Nat->Option AObj) (t:Nat) (x k:AV):Option (Prop×AV):=
 match tk P t with
 | .map kt et=>yox P hg et (tk P kt) x k
 |_=>none
def idxP (m:Nat) (n:Int):Option (Prop×AV)->Option (Prop×AV)
 |some (p,r)=>some ((0<=n/\n<m)/\p,r)
 |none=>none
def idxF (P:Program) (t:Nat) (x i:AV):Option (Prop×AV):=
 match tk P t,x,i with
 | .str, .str s, .int _ n=>some (0<=n/\n<s.size, .int .u8 (s.data.toList.getD n.toNat 0).toNat)
 | .arr m e, .agg xs, .int _ n=>match tsz P e with
   |some es=>idxP m n (yk6 P e xs (n.toNat*es))
   |none=>none
 |_,_,_=>none
def gkA (t:Nat) (k:ByteArray):AV:=if t<1000000000 then .str k else .agg [I (kDec k).1,I (kDec k).2]
def entG (bn:Option Nat) (since la:Nat):Option AObj->Option (Prop×AV)
 |some (.gmap t ck l)=>match bn with
  |some b=>match l.find? fun q=>q.2.1==b with
   |some q=>some (ck=la, .tup [gkA t q.1,q.2.2])
   |none=>none
  |none=>none
 |_=>none
def entI (hg:Nat->Option AObj):Option AObj->Option (Prop×AV)
 |some (.iter mid since sn la)=>entG sn.getLast? since la (hg mid)
 |_=>none
def entF (hg:Nat->Option AObj):AV->Option (Prop×AV)
 | .ptr id 0=>entI hg (hg id)
 |_=>none
def yon (P:Program) (hg:Nat->Option AObj) (t:Nat) (x k:AV):Option (Prop×AV):=
 match tk P t with
 | .map kt et=>ytz P hg et (tk P kt) x k
 |_=>none
def yt2:AV->AV->AV->Option (Prop×AV)
 | .int .i64 a, .int .i64 b, .int .i64 c=>some (True,I (if (if a<b then b else a)<c then c else if a<b then b else a))
 |_,_,_=>none
def opF (P:Program) (hg:Nat->Option AObj) (ev:Operand->AV):Op->Option (Prop×AV)
 | .move x=>some (True,ev x)
 | .assign x=>some (True,ev x)
 | .pick c x y=>match ev c with
   | .bool b=>some (True,if b then ev x else ev y)
   |_=>none
 | .load t x=>yk5 P hg t (ev x)
 | .binOp op t x y _=>binF P op t (ev x) (ev y)
 | .unOp op _ x=>unF op (ev x)
 | .fieldAddr s x f=>yff P s (ev x) f
 | .field s x f=>yk7 P s (ev x) f
 | .indexAddr t x i=>yed P t (ev x) (ev i)
 | .extract t i=>yhd (ev t) i
 | .nilCheck x=>nilF (ev x)
 | .convert _ d x=>yom P d (ev x)
 | .lookup t x k false=>yon P hg t (ev x) (ev k)
 | .lookup t x k true=>yk8 P hg t (ev x) (ev k)
 | .index t x i=>idxF P t (ev x) (ev i)
 | .entry x=>entF hg (ev x)
 | .makeFunc (.func f) first cap=>if first.size=0 then some (True, .fn f (cap.toList.map ev)) else none
 | .call {callee:= .builtin .len,args:=args,argTypes:=ts}=>match args.toList,ts.toList with
   |[x],[t]=>lenF P t (ev x)
   |_,_=>none
 | .call {callee:= .builtin .cap,args:=args,argTypes:=ts}=>match args.toList,ts.toList with
   |[x],[t]=>capF P t (ev x)
   |_,_=>none
 | .call {callee:= .builtin .min,args:=args, .. }=>match args.toList with
   |[x,y]=>match ev x,ev y with
    | .int .i64 a, .int .i64 b=>some (True,I (if b<a then b else a))
    |_,_=>none
   |_=>none
 | .call {callee:= .builtin .max,args:=args, .. }=>match args.toList with
   |[x,y]=>match ev x,ev y with
    | .int .i64 a, .int .i64 b=>some (True,I (if a<b then b else a))
    |_,_=>none
   |[x,y,z]=>yt2 (ev x) (ev y) (ev z)
   |_=>none
 |_=>none
section
variable {P:Program} {w:World} {M:Nat->Prop} {ρ:Nat->Addr} {D:Nat->Prop} {v:Value}
theorem VR.int_inv {k:IntKind} {n:Int} (h:VR w M ρ D v (.int k n)):v= .int k n:=by cases h;rfl
theorem VR.bool_inv {b:Bool} (h:VR w M ρ D v (.bool b)):v= .bool b:=by cases h;rfl
theorem VR.str_inv {s:ByteArray} (h:VR w M ρ D v (.str s)):v= .string s:=by cases h;rfl
theorem VR.nils_inv (h:VR w M ρ D v .nils):v= .slice none 0 0:=by cases h;rfl
theorem VR.ptr_inv {id off:Nat} (h:VR w M ρ D v (.ptr id off)):v= .pointer (some ((ρ id).add off))/\D id:=by cases h;exact ⟨rfl,‹_›⟩
theorem VR.agg_inv {xs:List AV} (h:VR w M ρ D v (.agg xs)): ∃vs:List Value,v= .agg vs.toArray/\vs.length=xs.length/\ ∀(i:Nat) (u:Value) (x:AV),vs[i]?=some u->xs[i]?=some x->VR w M ρ D u x:=by
 cases h;exact ⟨_,rfl,‹_›,‹_›⟩
theorem VR.tup_inv {xs:List AV} (h:VR w M ρ D v (.tup xs)): ∃vs:List Value,v= .tuple vs.toArray/\vs.length=xs.length/\ ∀(i:Nat) (u:Value) (x:AV),vs[i]?=some u->xs[i]?=some x->VR w M ρ D u x:=by
 cases h;exact ⟨_,rfl,‹_›,‹_›⟩
theorem VR.fn_inv {f:Nat} {xs:List AV} (h:VR w M ρ D v (.fn f xs)): ∃vs:List Value,v= .func (.func f) #[] vs.toArray/\vs.length=xs.length/\ ∀(i:Nat) (u:Value) (x:AV),vs[i]?=some u->xs[i]?=some x->VR w M ρ D u x:=by
 cases h;exact ⟨_,rfl,‹_›,‹_›⟩
def ObjR (w:World) (M:Nat->Prop) (ρ:Nat->Addr) (D:Nat->Prop) (id:Nat):AObj->Prop
 | .gone=>True
 | .cells t c=>(ρ id).spot=none/\ ∃arr,w.heap[(ρ id).block]?=some (.cells arr t (0,0))/\(ρ id).off+c.len<=arr.size/\ ∀j,j<c.len-> ∃u,arr[(ρ id).off+j]?=some u/\VR w M ρ D u (c.get j)
 | .imap t l=>(∀k x,(k,x)∈l->okM x=true)/\ ∃es clock,w.heap[(ρ id).block]?=some (.map es clock)/\es.size=l.length/\
   ∀(j:Nat) (e:MapEntry) (k:Int) (x:AV),es[j]?=some e->l[j]?=some (k,x)->e.key= .int .i64 k/\VR w M ρ D e.val x/\t=t
 | .gmap t ck l=> ∃es,w.heap[(ρ id).block]?=some (.map es ck)/\es.size=l.length/\ ∀(j:Nat) (e:MapEntry) (q:ByteArray×Nat×AV),es[j]?=some e->l[j]?=some q->KR t q.1 e.key/\e.born=q.2.1/\VR w M ρ D e.val q.2.2
 | .iter mid s sn la=>D mid/\(ρ id).off=0/\w.heap[(ρ id).block]?=some (.mapIter (some (ρ mid).block) s sn.toArray la)
 | .fmap _ c=> ∃(l:List (Int×Value×Nat)) (es:Array MapEntry) (clock:Nat),w.heap[(ρ id).block]?=some (.map es clock)/\es.toList=l.map (fun q=>⟨.int .i64 q.1,q.2.1,q.2.2⟩)/\ ∀n:Int,(l.find? fun q=>q.1==n).map (·.2.1)=c.val n
theorem ych {a:Addr} (h:a.spot=none) (n:Nat):a.add n=⟨a.block,a.off+n,none⟩:=by
 cases a with
 |mk b o s=>simp at h;subst h;unfold Addr.add;split<;>simp_all
theorem yb8 (a:Addr) (i j:Nat):(a.add i).add j=a.add (i+j):=by
 unfold Addr.add
 by_cases hi:i=0<;>by_cases hj:j=0<;>simp [hi,hj,Nat.add_assoc]
theorem ye5 (a:Addr) (n:Nat):(a.add n).block=a.block:=by unfold Addr.add;split<;>rfl
theorem ObjR.cell {id t:Nat} {c:Cs} (h:ObjR w M ρ D id (.cells t c)) {j:Nat} (hj:j<c.len): ∃u,w.cell? ((ρ id).add j)=some u/\VR w M ρ D u (c.get j):=by
 obtain ⟨hs,arr,hb,_,hv⟩:=h
 obtain ⟨u,hu,hr⟩:=hv j hj
 exact ⟨u,by rw [ych hs];simp [World.cell?,hb,hu],hr⟩
theorem ygx {t:Nat} {k:TK} (h:tk P t=k) (hk:k≠ .bad): ∃d,P.underlying t=some d/\tkOf d=k:=by
 unfold tk at h
 split at h
 ·exact ⟨_,‹_›,h⟩
 ·exact absurd h.symm hk
theorem yt3 {d:TypeDesc} {e:Nat} (h:tkOf d= .slice e):d= .slice e:=by
 unfold tkOf at h;split at h<;>simp_all
theorem yra {d:TypeDesc} {fs:List (Nat×Nat)} (h:tkOf d= .struct fs): ∃gs:Array Field,d= .struct gs/\gs.toList.map (fun f=>(f.type,f.offset))=fs:=by
 unfold tkOf at h;split at h<;>simp_all
theorem yyw {d:TypeDesc} {k:IntKind} (h:tkOf d= .int k):d= .int k:=by
 unfold tkOf at h;split at h<;>simp_all
theorem yyx {d:TypeDesc} (h:tkOf d= .str):d= .string:=by
 unfold tkOf at h;split at h<;>simp_all
theorem yvf {d:TypeDesc} (h:tkOf d= .bool):d= .bool:=by
 unfold tkOf at h;split at h<;>simp_all
theorem yrw {t:Nat} (h:tk P t= .bool):P.underlying t=some .bool:=by
 obtain ⟨d,h1,h2⟩:=ygx h (by simp);rw [h1,yvf h2]
theorem yax {t e:Nat} (h:tk P t= .slice e):P.underlying t=some (.slice e):=by
 obtain ⟨d,h1,h2⟩:=ygx h (by simp);rw [h1,yt3 h2]
theorem yev {t:Nat} {fs:List (Nat×Nat)} (h:tk P t= .struct fs): ∃gs:Array Field,P.underlying t=some (.struct gs)/\gs.toList.map (fun f=>(f.type,f.offset))=fs:=by
 obtain ⟨d,h1,h2⟩:=ygx h (by simp);obtain ⟨gs,rfl,h3⟩:=yra h2;exact ⟨gs,h1,h3⟩
theorem yb2 {t:Nat} {k:IntKind} (h:tk P t= .int k):P.underlying t=some (.int k):=by
 obtain ⟨d,h1,h2⟩:=ygx h (by simp);rw [h1,yyw h2]
theorem ydn {t:Nat} (h:tk P t= .str):P.underlying t=some .string:=by
 obtain ⟨d,h1,h2⟩:=ygx h (by simp);rw [h1,yyx h2]
theorem yhf {t n:Nat} (h:tsz P t=some n): ∃i,P.info? t=some i/\i.size=n:=by
 unfold tsz at h;simpa using h
theorem yj7 {t n:Nat} (h:tby P t=some n): ∃i,P.info? t=some i/\i.bytes=n:=by
 unfold tby at h;simpa using h
theorem yap {t n:Nat} (h:tsz P t=some n) (w:World):(sizeOf t).run P w= .ok n w:=by
 obtain ⟨i,hi,hn⟩:=yhf h;simp [sizeOf,typeInfo,hi,hn]
theorem yfp {t:Nat} {fs:List (Nat×Nat)} (h:tk P t= .struct fs) (w:World):(isAgg t).run P w= .ok true w:=by
 obtain ⟨gs,hu,_⟩:=yev h;simp [isAgg,run_underlying hu]
theorem yyy {d:TypeDesc} {n e:Nat} (h:tkOf d= .arr n e):d= .array n e:=by
 unfold tkOf at h;split at h<;>simp_all
theorem yc4 {t n e:Nat} (h:tk P t= .arr n e):P.underlying t=some (.array n e):=by
 obtain ⟨d,h1,h2⟩:=ygx h (by simp);rw [h1,yyy h2]
theorem yh4 {t n e:Nat} (h:tk P t= .arr n e) (w:World):(isAgg t).run P w= .ok true w:=by
 simp [isAgg,run_underlying (yc4 h)]
theorem ygd {t:Nat} (h1:tk P t≠ .bad) (h2: ∀fs,tk P t≠ .struct fs) (h3: ∀n e,tk P t≠ .arr n e) (w:World):(isAgg t).run P w= .ok false w:=by
 unfold tk at h1 h2 h3
 split at h1
 ·rename_i d hd
  simp only [hd] at h2 h3
  cases d<;>first|(simp [isAgg,run_underlying hd];done)|(simp [tkOf] at h1 h2 h3;done)
 ·exact absurd rfl h1
end
end Go.Proofs.YtfgbnalnbdhimaaGreatDoor
namespace Go.Proofs.YtfgbnalnbdhimaaGreatDoor
open Go Go.RowKit
section
variable {P:Program} {w:World} {M:Nat->Prop} {ρ:Nat->Addr} {D:Nat->Prop}
theorem yhg {n:Int} (h:InI n):IntKind.i64.wrap n=n:=yhc h
theorem yt4 {op:BinOp} {k:IntKind} {a b:Int} {p:Prop} {r:AV} (h:binI op k a b=some (p,r)) (hp:p) (t:TypeId):
  ∃v,(binOp op t (.int k a) (.int k b)).run P w= .ok v w/\VR w M ρ D v r:=by
 cases op<;>simp only [binI] at h
 case add=>
  split at h
  ·rename_i hk;subst hk;cases h;exact ⟨.int .i64 (a+b),by simp only [binOp,Op.intArith];simp;exact yhg hp, .int _ _⟩
  ·cases h;exact ⟨.int k (k.wrap (a+b)),by simp [binOp,Op.intArith], .int _ _⟩
 case sub=>
  split at h
  ·rename_i hk;subst hk;cases h;exact ⟨.int .i64 (a-b),by simp only [binOp,Op.intArith];simp;exact yhg hp, .int _ _⟩
  ·cases h;exact ⟨.int k (k.wrap (a-b)),by simp [binOp,Op.intArith], .int _ _⟩
 case mul=>
  split at h
  ·rename_i hk;subst hk;cases h;exact ⟨.int .i64 (a*b),by simp only [binOp,Op.intArith];simp;exact yhg hp, .int _ _⟩
  ·cases h;exact ⟨.int k (k.wrap (a*b)),by simp [binOp,Op.intArith], .int _ _⟩
 case quo=>
  split at h
  ·rename_i hk;subst hk;cases h;exact ⟨.int .i64 (a.tdiv b),by simp only [binOp,Op.intDiv];simp [hp.1];exact yhg hp.2, .int _ _⟩
  ·cases h;exact ⟨.int k (k.wrap (a.tdiv b)),by simp [binOp,Op.intDiv,hp], .int _ _⟩
 case rem=>cases h;exact ⟨_,by simp [binOp,Op.intDiv,hp], .int _ _⟩
 case eql=>cases h;exact ⟨_,by simp [binOp,Op.intCmp], .bool _⟩
 case neq=>cases h;exact ⟨_,by simp [binOp,Op.intCmp], .bool _⟩
 case lss=>cases h;exact ⟨_,by simp [binOp,Op.intCmp], .bool _⟩
 case leq=>cases h;exact ⟨_,by simp [binOp,Op.intCmp], .bool _⟩
 case gtr=>cases h;exact ⟨_,by simp [binOp,Op.intCmp], .bool _⟩
 case geq=>cases h;exact ⟨_,by simp [binOp,Op.intCmp], .bool _⟩
 case and=>
  split at h
  ·rename_i hk;subst hk;cases h;exact ⟨.int .i64 (yh7 a b),by simp only [binOp,Op.intBits];simp [yh7];rfl, .int _ _⟩
  ·cases h
 all_goals cases h
theorem ye4 {t:Nat} (w:World) (h:eq2 P t=true) (a b c d:Int):(Op.equal t (.agg #[.int .i64 a, .int .i64 b]) (.agg #[.int .i64 c, .int .i64 d])).run P w= .ok (a==c&&b==d) w/\P.eqGuardType P.depth t=false:=by
 unfold eq2 at h
 split at h
 ·rename_i fs hu
  simp only [Bool.and_eq_true,Bool.not_eq_true'] at h
  obtain ⟨⟨h1,h2⟩,h3⟩:=h
  split at h3
  ·rename_i f g hf
   simp only [Bool.and_eq_true,bne_iff_ne,ne_eq,beq_iff_eq] at h3
   obtain ⟨⟨⟨⟨⟨n1,n2⟩,o1⟩,o2⟩,t1⟩,t2⟩:=h3
   refine ⟨?_,h2⟩
   have hfs:P.fieldsOf t=fs:=by simp [Program.fieldsOf,hu]
   split at t1
   ·rename_i k1 u1
    split at t2
    ·rename_i k2 u2
     show (Op.equalIn (9999+1) t _ _).run P w=_
     rw [run_equalIn_struct w 9999 t _ _ (by rw [hfs];exact hu) h1,hfs,hf]
     have p1: ∀x y:Int,(part f.type #[.int .i64 x, .int .i64 y] f.offset).run P w= .ok (.int .i64 x) w:=fun x y=>by simp [part,isAgg,run_underlying u1,o1]
     have p2: ∀x y:Int,(part g.type #[.int .i64 x, .int .i64 y] g.offset).run P w= .ok (.int .i64 y) w:=fun x y=>by simp [part,isAgg,run_underlying u2,o2]
     have e1:(Op.equalIn 9999 f.type (.int .i64 a) (.int .i64 c)).run P w= .ok (a==c) w:=run_equalIn_int w 9998 f.type .i64 k1 a c u1
     have e2:(Op.equalIn 9999 g.type (.int .i64 b) (.int .i64 d)).run P w= .ok (b==d) w:=run_equalIn_int w 9998 g.type .i64 k2 b d u2
     generalize (a==c)=q1 at*
     generalize (b==d)=q2 at*
     cases q1<;>cases q2<;>simp [Op.eqFields,n1,n2,p1,p2,e1,e2]
    ·cases t2
   ·cases t1
  ·cases h3
 ·cases h
theorem yd6 {t:Nat} (w:World) (h:eq3 P t=true) (a b e c d f':Int):(Op.equal t (.agg #[.int .i64 a, .int .i64 b, .int .i64 e]) (.agg #[.int .i64 c, .int .i64 d, .int .i64 f'])).run P w= .ok (a==c&&b==d&&e==f') w/\P.eqGuardType P.depth t=false:=by
 unfold eq3 at h
 split at h
 ·rename_i fs hu
  simp only [Bool.and_eq_true,Bool.not_eq_true'] at h
  obtain ⟨⟨h1,h2⟩,h3⟩:=h
  split at h3
  ·rename_i f g i hf
   simp only [Bool.and_eq_true,bne_iff_ne,ne_eq,beq_iff_eq] at h3
   obtain ⟨⟨⟨⟨⟨⟨⟨⟨n1,n2⟩,n3⟩,o1⟩,o2⟩,o3⟩,t1⟩,t2⟩,t3⟩:=h3
   refine ⟨?_,h2⟩
   have hfs:P.fieldsOf t=fs:=by simp [Program.fieldsOf,hu]
   split at t1
   ·rename_i k1 u1
    split at t2
    ·rename_i k2 u2
     split at t3
     ·rename_i k3 u3
      show (Op.equalIn (9999+1) t _ _).run P w=_
      rw [run_equalIn_struct w 9999 t _ _ (by rw [hfs];exact hu) h1,hfs,hf]
      have p1: ∀x y z:Int,(part f.type #[.int .i64 x, .int .i64 y, .int .i64 z] f.offset).run P w= .ok (.int .i64 x) w:=fun x y z=>by simp [part,isAgg,run_underlying u1,o1]
      have p2: ∀x y z:Int,(part g.type #[.int .i64 x, .int .i64 y, .int .i64 z] g.offset).run P w= .ok (.int .i64 y) w:=fun x y z=>by simp [part,isAgg,run_underlying u2,o2]
      have p3: ∀x y z:Int,(part i.type #[.int .i64 x, .int .i64 y, .int .i64 z] i.offset).run P w= .ok (.int .i64 z) w:=fun x y z=>by simp [part,isAgg,run_underlying u3,o3]
      have e1:(Op.equalIn 9999 f.type (.int .i64 a) (.int .i64 c)).run P w= .ok (a==c) w:=run_equalIn_int w 9998 f.type .i64 k1 a c u1
      have e2:(Op.equalIn 9999 g.type (.int .i64 b) (.int .i64 d)).run P w= .ok (b==d) w:=run_equalIn_int w 9998 g.type .i64 k2 b d u2
      have e3:(Op.equalIn 9999 i.type (.int .i64 e) (.int .i64 f')).run P w= .ok (e==f') w:=run_equalIn_int w 9998 i.type .i64 k3 e f' u3
      generalize (a==c)=q1 at*
      generalize (b==d)=q2 at*
      generalize (e==f')=q3 at*
      cases q1<;>cases q2<;>cases q3<;>simp [Op.eqFields,n1,n2,n3,p1,p2,p3,e1,e2,e3]
     ·cases t3
    ·cases t2
   ·cases t1
  ·cases h3
 ·cases h
theorem ybl {op:BinOp} {t:TypeId} {x y:Operand} {k k':IntKind} {a b:Int}:(eqGuard op t x y (.int k a) (.int k' b)).run P w= .ok () w:=by
 unfold eqGuard;split<;>simp
theorem yfq {op:BinOp} {t:TypeId} {x y:Operand} {a b:Bool}:(eqGuard op t x y (.bool a) (.bool b)).run P w= .ok () w:=by
 unfold eqGuard;split<;>simp
theorem yce {op:BinOp} {t:TypeId} {x y:Operand} {a b:ByteArray}:(eqGuard op t x y (.string a) (.string b)).run P w= .ok () w:=by
 unfold eqGuard;split<;>simp
theorem yt5 {op:BinOp} {t:TypeId} {u v:Value} {x y:AV} {p:Prop} {r:AV} (hu:VR w M ρ D u x) (hv:VR w M ρ D v y) (h:binF P op t x y=some (p,r)) (hp:p) (xo yo:Operand):
  ∃z,(do eqGuard op t xo yo u v;binOp op t u v:Sem Value).run P w= .ok z w/\VR w M ρ D z r:=by
 unfold binF at h
 split at h
 ·rename_i k a k' b
  have e1:=hu.int_inv
  have e2:=hv.int_inv
  subst e1 e2
  split at h
  ·split at h
   ·rename_i hk;subst hk
    cases h
    obtain ⟨⟨h1,h2⟩,h3⟩:=hp
    refine ⟨.int .i64 (a*2^b.toNat),?_, .int _ _⟩
    have hm:min b.toNat IntKind.i64.bits=b.toNat:=by have:IntKind.i64.bits=64:=rfl;omega
    simp only [Sem.run_bind,ybl,Result.andThen_ok,binOp,Op.shift]
    rw [if_neg (by omega)]
    simp only [hm,Sem.run_pure]
    rw [yhg h3]
   ·cases h
  ·split at h
   ·rename_i hk;subst hk
    cases h
    obtain ⟨h1,h2⟩:=hp
    refine ⟨.int .i64 (a/2^b.toNat),?_, .int _ _⟩
    have hm:min b.toNat IntKind.i64.bits=b.toNat:=by have:IntKind.i64.bits=64:=rfl;omega
    simp only [Sem.run_bind,ybl,Result.andThen_ok,binOp,Op.shift]
    rw [if_neg (by omega)]
    simp only [hm,Sem.run_pure]
    rw [Int.fdiv_eq_ediv_of_nonneg _ (by exact_mod_cast Nat.zero_le (2^b.toNat))]
   ·split at h
    ·rename_i hk;subst hk
     cases h
     obtain ⟨h1,h2⟩:=hp
     refine ⟨.int .u64 (a/2^b.toNat),?_, .int _ _⟩
     have hm:min b.toNat IntKind.u64.bits=b.toNat:=by have:IntKind.u64.bits=64:=rfl;omega
     simp only [Sem.run_bind,ybl,Result.andThen_ok,binOp,Op.shift]
     rw [if_neg (by omega)]
     simp only [hm,Sem.run_pure]
     rw [Int.fdiv_eq_ediv_of_nonneg _ (by exact_mod_cast Nat.zero_le (2^b.toNat))]
    ·cases h
  ·split at h
   ·rename_i hk;subst hk
    obtain ⟨z,hz,hr⟩:=yt4 (P:=P) (w:=w) (M:=M) (ρ:=ρ) (D:=D) h hp t
    exact ⟨z,by simp [ybl,hz],hr⟩
   ·cases h
 ·rename_i a b
  have e1:=hu.bool_inv
  have e2:=hv.bool_inv
  subst e1 e2
  split at h
  ·rename_i hk
   cases h
   have he:=run_equal_bool (P:=P) w t a b (yrw hk)
   exact ⟨.bool (a==b),by simp [yfq,binOp,he], .bool _⟩
  ·rename_i hk
   cases h
   have he:=run_equal_bool (P:=P) w t a b (yrw hk)
   exact ⟨.bool (a !=b),by simp [yfq,binOp,he,bne], .bool _⟩
  ·cases h
 ·rename_i a b
  have e1:=hu.str_inv
  have e2:=hv.str_inv
  subst e1 e2
  split at h
  ·cases h;exact ⟨.bool _,by simp [yce,binOp_string_eql], .bool _⟩
  ·cases h;exact ⟨.bool _,by simp [yce,binOp_string_neq], .bool _⟩
  ·cases h
   refine ⟨.string (a++b),?_, .str _⟩
   simp only [Sem.run_bind,yce,Result.andThen_ok,binOp,Op.stringOp]
   have: ¬((a.size+b.size:Nat):Int)>IntKind.i64.max:=by have:IntKind.i64.max=9223372036854775807:=rfl;omega
   rw [if_neg this];rfl
  ·cases h
 ·--a slice against nil
  have e2:=hv.nils_inv
  subst e2
  unfold yfo at h
  have hg: ∀(ad:Option Addr) (n c:Nat),(eqGuard op t xo yo (.slice ad n c) (.slice none 0 0)).run P w= .ok () w:=fun ad n c=>by unfold eqGuard;split<;>simp
  split at h
  ·rename_i e hk
   cases h;have e1:=hu.nils_inv;subst e1
   exact ⟨.bool true,by simp [hg,Lib.run_eql_slice_nil w t e none 0 0 0 0 (yax hk)], .bool _⟩
  ·rename_i e hk
   cases h;have e1:=hu.nils_inv;subst e1
   exact ⟨.bool false,by simp [hg,run_neq_slice_nil_any w t e none 0 0 0 0 (yax hk)], .bool _⟩
  ·rename_i e _ _ _ _ hk
   cases h
   cases hu with
   |sl es id off len cap hd hc arr t' ad ha hb hr=>
    exact ⟨.bool false,by simp [hg,Lib.run_eql_slice_nil w t e (some ad) _ cap 0 0 (yax hk)], .bool _⟩
  ·rename_i e _ _ _ _ hk
   cases h
   cases hu with
   |sl es id off len cap hd hc arr t' ad ha hb hr=>
    exact ⟨.bool true,by simp [hg,run_neq_slice_nil_any w t e (some ad) _ cap 0 0 (yax hk)], .bool _⟩
  ·rename_i e _ n _ hk
   cases h
   cases hu with
   |ro es len c ad cap x hl hc he h0 hv'=>
    obtain ⟨aa,rfl,_⟩:=h0 hp
    exact ⟨.bool false,by simp [hg,Lib.run_eql_slice_nil w t e (some aa) _ cap 0 0 (yax hk)], .bool _⟩
  ·rename_i e _ n _ hk
   cases h
   cases hu with
   |ro es len c ad cap x hl hc he h0 hv'=>
    obtain ⟨aa,rfl,_⟩:=h0 hp
    exact ⟨.bool true,by simp [hg,run_neq_slice_nil_any w t e (some aa) _ cap 0 0 (yax hk)], .bool _⟩
  ·cases h
 ·--structs of two integers
  unfold yeu at h
  split at h
  ·rename_i a b c d _ _ _ _
   obtain ⟨us,rfl,ul,ux⟩:=hu.agg_inv
   obtain ⟨vs,rfl,vl,vx⟩:=hv.agg_inv
   obtain ⟨u1,u2,rfl⟩: ∃u1 u2,us=[u1,u2]:=by
    match us,ul with
    |[u1,u2],_=>exact ⟨u1,u2,rfl⟩
   obtain ⟨v1,v2,rfl⟩: ∃v1 v2,vs=[v1,v2]:=by
    match vs,vl with
    |[v1,v2],_=>exact ⟨v1,v2,rfl⟩
   have g1:=(ux 0 u1 _ rfl rfl).int_inv
   have g2:=(ux 1 u2 _ rfl rfl).int_inv
   have g3:=(vx 0 v1 _ rfl rfl).int_inv
   have g4:=(vx 1 v2 _ rfl rfl).int_inv
   subst g1 g2 g3 g4
   have hg: ∀(q:eq2 P t=true) (z1 z2:Array Value),(eqGuard op t xo yo (.agg z1) (.agg z2)).run P w= .ok () w:=fun q z1 z2=>by
    have:=(ye4 w q 0 0 0 0).2
    unfold eqGuard;split<;>simp [this]
   split at h
   ·cases h
    have he:=(ye4 w hp a b c d).1
    exact ⟨.bool (a==c&&b==d),by simp [hg hp,binOp,he], .bool _⟩
   ·cases h
    have he:=(ye4 w hp a b c d).1
    exact ⟨.bool (!(a==c&&b==d)),by simp [hg hp,binOp,he], .bool _⟩
   ·cases h
  ·rename_i a b e c d f _ _ _ _
   obtain ⟨us,rfl,ul,ux⟩:=hu.agg_inv
   obtain ⟨vs,rfl,vl,vx⟩:=hv.agg_inv
   obtain ⟨u1,u2,u3,rfl⟩: ∃u1 u2 u3,us=[u1,u2,u3]:=by
    match us,ul with
    |[u1,u2,u3],_=>exact ⟨u1,u2,u3,rfl⟩
   obtain ⟨v1,v2,v3,rfl⟩: ∃v1 v2 v3,vs=[v1,v2,v3]:=by
    match vs,vl with
    |[v1,v2,v3],_=>exact ⟨v1,v2,v3,rfl⟩
   have g1:=(ux 0 u1 _ rfl rfl).int_inv
   have g2:=(ux 1 u2 _ rfl rfl).int_inv
   have g3:=(ux 2 u3 _ rfl rfl).int_inv
   have g4:=(vx 0 v1 _ rfl rfl).int_inv
   have g5:=(vx 1 v2 _ rfl rfl).int_inv
   have g6:=(vx 2 v3 _ rfl rfl).int_inv
   subst g1 g2 g3 g4 g5 g6
   have hg: ∀(q:eq3 P t=true) (z1 z2:Array Value),(eqGuard op t xo yo (.agg z1) (.agg z2)).run P w= .ok () w:=fun q z1 z2=>by
    have:=(yd6 w q 0 0 0 0 0 0).2
    unfold eqGuard;split<;>simp [this]
   split at h
   ·cases h
    have he:=(yd6 w hp a b e c d f).1
    exact ⟨.bool (a==c&&b==d&&e==f),by simp [hg hp,binOp,he], .bool _⟩
   ·cases h
    have he:=(yd6 w hp a b e c d f).1
    exact ⟨.bool (!(a==c&&b==d&&e==f)),by simp [hg hp,binOp,he], .bool _⟩
   ·cases h
  ·cases h
theorem yvg {op:UnOp} {u:Value} {x:AV} {p:Prop} {r:AV} (hu:VR w M ρ D u x) (h:unF op x=some (p,r)) (hp:p):
  ∃z,(Op.unary op u).run P w= .ok z w/\VR w M ρ D z r:=by
 unfold unF at h
 split at h
 ·cases h
  have e1:=hu.int_inv
  subst e1
  exact ⟨.int .i64 _,by simp only [Op.unary,Op.intArith];simp;simpa using yhg hp, .int _ _⟩
 ·cases h
  have e1:=hu.int_inv
  subst e1
  exact ⟨.int .u64 _,by simp only [Op.unary,Op.intArith];rfl, .int _ _⟩
 ·cases h
  have e1:=hu.bool_inv
  subst e1
  exact ⟨.bool _,by simp [Op.unary], .bool _⟩
 ·cases h
theorem ydm {a:Addr} {x:Nat->Value}: ∀(n i:Nat) (acc:Array Value),(∀j,i<=j->j<i+n->w.cell? (a.add j)=some (x j))->
  (loadCellsFrom a i n acc).run P w= .ok (acc++((List.range n).map fun j=>x (i+j)).toArray) w
 |0,i,acc,_=>by simp [loadCellsFrom]
 |n+1,i,acc,h=>by
  have h0:=h i (Nat.le_refl _) (by omega)
  have ih:=ydm n (i+1) (acc.push (x i)) fun j h1 h2=>h j (by omega) (by omega)
  simp only [loadCellsFrom]
  simp [load,Sem.run,h0]
  rw [ih]
  simp [List.range_succ_eq_map,Nat.add_assoc,Nat.add_comm 1,Function.comp_def]
theorem yjt {t n:Nat} {c:Cs} {off:Nat} {a:Addr} (hg:(isAgg t).run P w= .ok true w) (hn:tsz P t=some n) (hp:off+n<=c.len)
  (hc: ∀j,j<c.len-> ∃u,w.cell? (a.add j)=some u/\VR w M ρ D u (c.get j)):
  ∃z,(loadVar t (a.add off)).run P w= .ok z w/\VR w M ρ D z (.agg ((List.range n).map fun j=>c.get (off+j))):=by
 have hx: ∀j,∃u,j<n->w.cell? ((a.add off).add j)=some u/\VR w M ρ D u (c.get (off+j)):=fun j=>by
  by_cases hj:j<n
  ·obtain ⟨u,h1,h2⟩:=hc (off+j) (by omega);exact ⟨u,fun _=>⟨by rw [yb8];exact h1,h2⟩⟩
  ·exact ⟨undef,fun h=>absurd h hj⟩
 obtain ⟨x,hx⟩:=Classical.axiomOfChoice hx
 have hl:=ydm (P:=P) (w:=w) (a:=a.add off) (x:=x) n 0 #[] fun j _ hj=>(hx j (by omega)).1
 refine ⟨.agg ((List.range n).map x).toArray,?_, .agg _ _ (by simp) fun i u y hu hy=>?_⟩
 ·simp [loadVar,hg,yap hn,loadCells,hl]
 ·simp only [List.getElem?_map] at hu hy
  by_cases hi:i<n
  ·simp [List.getElem?_range hi] at hu hy;subst hu hy;exact (hx i hi).2
  ·simp [List.getElem?_eq_none (l:=List.range n) (i:=i) (by simp;omega)] at hu
theorem yge {t:Nat} {d:TypeDesc} (hu:P.underlying t=some d) (hn:tsz P t=none):False:=by
 unfold tsz at hn
 simp [Program.underlying] at hu hn
 rw [hn] at hu;simp at hu
theorem yju {t:Nat} {c:Cs} {off:Nat} {p:Prop} {r:AV} {a:Addr} (h:yk4 P t c off=some (p,r)) (hp:p)
  (hc: ∀j,j<c.len-> ∃u,w.cell? (a.add j)=some u/\VR w M ρ D u (c.get j)):
  ∃z,(loadVar t (a.add off)).run P w= .ok z w/\VR w M ρ D z r:=by
 unfold yk4 at h
 split at h
 ·rename_i fs n hk hn
  cases h
  exact yjt (yfp hk w) hn hp hc
 ·rename_i m e n hk hn
  cases h
  exact yjt (yh4 hk w) hn hp hc
 ·cases h
 ·cases h
 ·rename_i h2 h4 h3 h1
  cases h
  obtain ⟨u,h5,h6⟩:=hc off hp
  refine ⟨u,?_,h6⟩
  have hns: ∀fs,tk P t≠ .struct fs:=fun fs hs=>by
   cases hn:tsz P t with
   |none=>obtain ⟨gs,hu,_⟩:=yev hs;exact yge hu hn
   |some n=>first|exact h1 _ _ hs hn|exact h2 _ _ hs hn|exact h3 _ _ hs hn|exact h4 _ _ hs hn
  have hna: ∀m e,tk P t≠ .arr m e:=fun m e hs=>by
   cases hn:tsz P t with
   |none=>exact yge (yc4 hs) hn
   |some n=>first|exact h1 _ _ _ hs hn|exact h2 _ _ _ hs hn|exact h3 _ _ _ hs hn|exact h4 _ _ _ hs hn
  have hb:tk P t≠ .bad:=fun hb=>by first|exact h1 hb|exact h2 hb|exact h3 hb|exact h4 hb
  simp [loadVar,ygd hb hns hna,load,Sem.run,h5]
theorem VR.rp_cells {v:Value} {c:Cs} {off:Nat} (h:VR w M ρ D v (.rp c off)): ∃a:Addr,v= .pointer (some (a.add off))/\ ∀j,j<c.len-> ∃u,w.cell? (a.add j)=some u/\VR w M ρ D u (c.get j):=by
 cases h with
 |rp c off a x hb hm hj hv=>
  exact ⟨a,rfl,fun j hjj=>⟨x j,hj j hjj,(hv j hjj).carry (Nat.le_refl _) (fun b _ hm=>⟨rfl,hm⟩) (fun id h=>h.elim)⟩⟩
theorem yjv {hg:Nat->Option AObj} (hob: ∀id ob,hg id=some ob->ObjR w M ρ D id ob) {t:Nat} {u:Value} {x:AV} {p:Prop} {r:AV} (hu:VR w M ρ D u x) (h:yk5 P hg t x=some (p,r)) (hp:p):
  ∃z,(Instr.loadAt t u).run P w= .ok z w/\VR w M ρ D z r:=by
 unfold yk5 at h
 split at h
 ·rename_i id off
  split at h
  ·rename_i t' c ho
   obtain ⟨rfl,_⟩:=hu.ptr_inv
   obtain ⟨z,hz,hr⟩:=yju h hp (a:=ρ id) fun j hj=>(hob id _ ho).cell hj
   exact ⟨z,by simp [Instr.loadAt,Instr.sureAddr,hz],hr⟩
  ·cases h
 ·obtain ⟨a,rfl,hc⟩:=hu.rp_cells
  obtain ⟨z,hz,hr⟩:=yju h hp (a:=a) hc
  exact ⟨z,by simp [Instr.loadAt,Instr.sureAddr,hz],hr⟩
 ·cases h
theorem yj8 {s:Nat} {fs:List (Nat×Nat)} {f ft o:Nat} (h:tk P s= .struct fs) (hf:fs[f]?=some (ft,o)): ∃gs g,P.underlying s=some (.struct gs)/\gs[f]?=some g/\g.type=ft/\g.offset=o:=by
 obtain ⟨gs,hu,he⟩:=yev h
 subst he
 simp only [List.getElem?_map] at hf
 obtain ⟨g,hg,e⟩:=Option.map_eq_some_iff.1 hf
 simp only [Prod.mk.injEq] at e
 exact ⟨gs,g,hu,by simpa using hg,e.1,e.2⟩
theorem yoc {s f:Nat} {u:Value} {x:AV} {p:Prop} {r:AV} (hu:VR w M ρ D u x) (h:yff P s x f=some (p,r)):
  ∃z,(Instr.fieldAt s u f).run P w= .ok z w/\VR w M ρ D z r:=by
 unfold yff at h
 split at h
 ·rename_i fs hk
  split at h
  ·rename_i ft o hf
   split at h
   ·rename_i m hm
    obtain ⟨gs,g,h1,h2,h3,h4⟩:=yj8 hk hf
    subst h3 h4
    have hz:=yap hm w
    split at h
    ·cases h
     obtain ⟨rfl,hd⟩:=hu.ptr_inv
     exact ⟨_,by simp [Instr.fieldAt,run_underlying h1,h2,Instr.sureAddr,fieldPlace,hz];rfl,by rw [yb8];exact .ptr _ _ hd⟩
    ·cases h
     cases hu with
     |rp c off a x hb hm' hj hv=>
      exact ⟨_,by simp [Instr.fieldAt,run_underlying h1,h2,Instr.sureAddr,fieldPlace,hz];rfl,by rw [yb8];exact .rp _ _ a x hb hm' hj hv⟩
    ·cases h
   ·cases h
  ·cases h
 ·cases h
theorem yjw {t off n:Nat} {vs:List Value} {xs:List AV} (hg:(isAgg t).run P w= .ok true w) (hn:tsz P t=some n) (hl:vs.length=xs.length) (hx: ∀(i:Nat) (v:Value) (x:AV),vs[i]?=some v->xs[i]?=some x->VR w M ρ D v x):
  ∃z,(part t vs.toArray off).run P w= .ok z w/\VR w M ρ D z (.agg ((xs.drop off).take n)):=by
 refine ⟨.agg ((vs.drop off).take n).toArray,?_, .agg _ _ (by simp [hl]) fun i v x hv hy=>?_⟩
 ·simp [part,hg,yap hn]
 ·by_cases hi:i<n
  ·simp [hi] at hv hy;exact hx _ v x hv hy
  ·simp [List.getElem?_take,hi] at hv
theorem yjx {t off:Nat} {vs:List Value} {xs:List AV} {p:Prop} {r:AV} (hl:vs.length=xs.length) (hx: ∀(i:Nat) (v:Value) (x:AV),vs[i]?=some v->xs[i]?=some x->VR w M ρ D v x)
  (h:yk6 P t xs off=some (p,r)): ∃z,(part t vs.toArray off).run P w= .ok z w/\VR w M ρ D z r:=by
 unfold yk6 at h
 split at h
 ·rename_i fs n hk hn
  cases h
  exact yjw (yfp hk w) hn hl hx
 ·rename_i m e n hk hn
  cases h
  exact yjw (yh4 hk w) hn hl hx
 ·cases h
 ·cases h
 ·rename_i h2 h4 h3 h1
  split at h
  ·rename_i x hxo
   cases h
   have hlt:off<xs.length:=by
    rcases Nat.lt_or_ge off xs.length with h|h
    ·exact h
    ·rw [List.getElem?_eq_none h] at hxo;cases hxo
   have hvo:vs[off]?=some (vs[off]'(by omega)):=List.getElem?_eq_getElem (by omega)
   refine ⟨vs[off]'(by omega),?_,hx off _ _ hvo hxo⟩
   have hns: ∀fs,tk P t≠ .struct fs:=fun fs hs=>by
    cases hn:tsz P t with
    |none=>obtain ⟨gs,hu,_⟩:=yev hs;exact yge hu hn
    |some n=>first|exact h1 _ _ hs hn|exact h2 _ _ hs hn|exact h3 _ _ hs hn|exact h4 _ _ hs hn
   have hna: ∀m e,tk P t≠ .arr m e:=fun m e hs=>by
    cases hn:tsz P t with
    |none=>exact yge (yc4 hs) hn
    |some n=>first|exact h1 _ _ _ hs hn|exact h2 _ _ _ hs hn|exact h3 _ _ _ hs hn|exact h4 _ _ _ hs hn
   have hb:tk P t≠ .bad:=fun hb=>by first|exact h1 hb|exact h2 hb|exact h3 hb|exact h4 hb
   simp [part,ygd hb hns hna,hvo]
  ·cases h
theorem yoy {s f:Nat} {u:Value} {x:AV} {p:Prop} {r:AV} (hu:VR w M ρ D u x) (h:yk7 P s x f=some (p,r)):
  ∃z,(Instr.field s u f).run P w= .ok z w/\VR w M ρ D z r:=by
 unfold yk7 at h
 split at h
 ·rename_i fs hk
  split at h
  ·rename_i ft o hf
   split at h
   ·obtain ⟨gs,g,h1,h2,h3,h4⟩:=yj8 hk hf
    subst h3 h4
    obtain ⟨vs,rfl,hl,hx⟩:=hu.agg_inv
    obtain ⟨z,hz,hr⟩:=yjx hl hx h
    exact ⟨z,by simp [Instr.field,run_underlying h1,h2,asAgg,hz],hr⟩
   ·cases h
  ·cases h
 ·cases h
theorem yod {t:Nat} {u v:Value} {x i:AV} {p:Prop} {r:AV} (hu:VR w M ρ D u x) (hv:VR w M ρ D v i) (h:yed P t x i=some (p,r)) (hp:p):
  ∃z,(Instr.indexAt t u v).run P w= .ok z w/\VR w M ρ D z r:=by
 unfold yed at h
 split at h
 ·rename_i e k n hk
  have e1:=hv.int_inv
  subst e1
  have ht:=yax hk
  split at h
  ·rename_i es es' id off len hes
   split at h
   ·rename_i heq
    cases h
    subst heq
    cases hu with
    |sl es id off len cap hd hc arr t ad ha hb hr=>
     have hz:=yap hes w
     have hae:=ha (by omega)
     subst hae
     exact ⟨_,by simp [Instr.indexAt,asIntOf,run_underlying ht,hp.1,hp.2,hz];rfl,by rw [yb8];exact .ptr _ _ hd⟩
   ·cases h
  ·rename_i es es' len c hes
   split at h
   ·rename_i heq
    cases h
    subst heq
    cases hu with
    |ro es len c ad cap x hl hc he h0 hv=>
     have hz:=yap hes w
     obtain ⟨a,rfl,hb,hm,hj⟩:=h0 (by omega)
     exact ⟨_,by simp [Instr.indexAt,asIntOf,run_underlying ht,hp.1,hp.2,hz], .rp c _ a x hb hm hj hv⟩
   ·cases h
  ·cases h
 ·rename_i m e k n hk
  have e1:=hv.int_inv
  subst e1
  have ht:=yc4 hk
  split at h
  ·rename_i es id off hes
   cases h
   obtain ⟨rfl,hd⟩:=hu.ptr_inv
   have hz:=yap hes w
   exact ⟨_,by simp [Instr.indexAt,asIntOf,run_underlying ht,Instr.sureAddr,hp.1,hp.2,hz];rfl,by rw [yb8];exact .ptr _ _ hd⟩
  ·rename_i es c off hes
   cases h
   cases hu with
   |rp c off a x hb hm hj hv=>
    have hz:=yap hes w
    exact ⟨_,by simp [Instr.indexAt,asIntOf,run_underlying ht,Instr.sureAddr,hp.1,hp.2,hz];rfl,by rw [yb8];exact .rp c _ a x hb hm hj hv⟩
  ·cases h
 ·cases h
theorem yt6 {t ty:Nat} {u:Value} {x:AV} {p:Prop} {r:AV} (hu:VR w M ρ D u x) (h:lenF P t x=some (p,r)):
  ∃z,(Builtin.len_ #[t] ty #[u]).run P w= .ok z w/\VR w M ρ D z r:=by
 unfold lenF at h
 split at h
 ·rename_i e hk;cases h;have e1:=hu.nils_inv;subst e1
  exact ⟨_,by simp [Builtin.len_,run_underlying (yax hk),goInt], .int _ _⟩
 ·rename_i e _ _ _ n hk;cases h
  cases hu with
  |sl es id off len cap hd hc arr t ad ha hb hr=>exact ⟨_,by simp [Builtin.len_,run_underlying (yax hk),goInt], .int _ _⟩
 ·rename_i e _ _ _ hk;cases h
  cases hu with
  |ro es len c ad cap x hl hc he h0 hv=>exact ⟨_,by simp [Builtin.len_,run_underlying (yax hk),goInt], .int _ _⟩
 ·rename_i s hk;cases h;have e1:=hu.str_inv;subst e1
  exact ⟨_,by simp [Builtin.len_,run_underlying (ydn hk),goInt], .int _ _⟩
 ·cases h
theorem yt7 {t ty:Nat} {u:Value} {x:AV} {p:Prop} {r:AV} (hu:VR w M ρ D u x) (h:capF P t x=some (p,r)):
  ∃z,(Builtin.cap_ #[t] ty #[u]).run P w= .ok z w/\VR w M ρ D z r:=by
 unfold capF at h
 split at h
 ·rename_i e hk;cases h;have e1:=hu.nils_inv;subst e1
  exact ⟨_,by simp [Builtin.cap_,run_underlying (yax hk),goInt], .int _ _⟩
 ·cases h
theorem yml {i:Nat} {u:Value} {x:AV} {p:Prop} {r:AV} (hu:VR w M ρ D u x) (h:yhd x i=some (p,r)):
  ∃z,(Instr.extract u i).run P w= .ok z w/\VR w M ρ D z r:=by
 unfold yhd at h
 split at h
 ·rename_i xs
  split at h
  ·rename_i y hy
   cases h
   obtain ⟨vs,rfl,hl,hx⟩:=hu.tup_inv
   have hlt:i<xs.length:=by
    rcases Nat.lt_or_ge i xs.length with h|h
    ·exact h
    ·rw [List.getElem?_eq_none h] at hy;cases hy
   have hvo:vs[i]?=some (vs[i]'(by omega)):=List.getElem?_eq_getElem (by omega)
   exact ⟨vs[i]'(by omega),by simp [Instr.extract,hvo],hx i _ _ hvo hy⟩
  ·cases h
 ·cases h
theorem yrb {s d:Nat} {u:Value} {x:AV} {p:Prop} {r:AV} (hs: ∃e,P.underlying s=some e) (hu:VR w M ρ D u x) (h:yom P d x=some (p,r)) (hp:p):
  ∃z,(convert s d u).run P w= .ok z w/\VR w M ρ D z r:=by
 obtain ⟨e,he⟩:=hs
 unfold yom at h
 split at h
 ·rename_i k k' n hk
  have e1:=hu.int_inv
  subst e1
  split at h
  ·rename_i hh
   obtain ⟨rfl,rfl⟩:=hh
   cases h
   exact ⟨.int .i64 n,by simp [convert,run_underlying he,run_underlying (yb2 hk),Conv.intToInt];exact yhg hp, .int _ _⟩
  ·cases h
   exact ⟨_,by simp [convert,run_underlying he,run_underlying (yb2 hk),Conv.intToInt], .int _ _⟩
 ·rename_i s' hk
  cases h
  have e1:=hu.str_inv
  subst e1
  exact ⟨_,by simp [convert,run_underlying he,run_underlying (ydn hk)], .str _⟩
 ·cases h
theorem yci (n:Int): ∀(l:List (Int×Value×Nat)) (i:Nat),∃r,Instr.findNow (.int .i64) (.int .i64 n) (l.map fun q=>(⟨.int .i64 q.1,q.2.1,q.2.2⟩:MapEntry)) i=some r/\r.map (·.2)=(l.find? fun q=>q.1==n).map (·.2.1)/\
  ∀j v,r=some (j,v)->i<=j/\ ∃q,l[j-i]?=some q/\q.1=n/\q.2.1=v/\ ∀m<j-i,∀q',l[m]?=some q'->q'.1≠n
 |[],i=>⟨none,rfl,rfl,fun _ _ h=>by cases h⟩
 |q::l,i=>by
  simp only [List.map_cons,Instr.findNow,Instr.sameNow,if_true]
  by_cases e:n=q.1
  ·refine ⟨some (i,q.2.1),?_,?_,?_⟩
   ·have:(n==q.1)=true:=by simpa using e
    simp only [this]
   ·have:(q.1==n)=true:=by simpa using e.symm
    simp [List.find?_cons,this]
   ·intro j v h;cases h
    exact ⟨Nat.le_refl _,q,by simp,e.symm,rfl,fun m hm=>by omega⟩
  ·obtain ⟨r,h1,h2,h3⟩:=yci n l (i+1)
   refine ⟨r,?_,?_,?_⟩
   ·have:(n==q.1)=false:=by simpa using e
    simp only [this];exact h1
   ·have:(q.1==n)=false:=by simpa using fun h=>e h.symm
    rw [h2];simp [List.find?_cons,this]
   ·intro j v h
    obtain ⟨g1,q',g2,g3,g4,g5⟩:=h3 j v h
    refine ⟨by omega,q',by rw [show j-i=(j-(i+1))+1 by omega];simpa using g2,g3,g4,fun m hm q'' hq=>?_⟩
    cases m with
    |zero=>simp only [List.getElem?_cons_zero,Option.some.injEq] at hq;subst hq;exact fun h=>e h.symm
    |succ m=>exact g5 m (by omega) q'' (by simpa using hq)
theorem VR.mp_inv {v:Value} {id:Nat} (h:VR w M ρ D v (.mp id)):v= .map (some (ρ id).block):=by cases h;rfl
theorem ybs {t kt et:Nat} (h:tk P t= .map kt et):P.underlying t=some (.map kt et):=by
 unfold tk at h
 split at h
 ·rename_i d hd;rw [hd];cases d<;>simp_all [tkOf]
 ·cases h
theorem yhh {t:Nat} {x:AV} (h:tzv P t=some x): ∃v,(zeroValue t).run P w= .ok v w/\absV v=x:=by
 unfold tzv at h
 obtain ⟨v,h1,h2⟩:=Option.map_eq_some_iff.1 h
 obtain ⟨i,h3,h4⟩:=Option.bind_eq_some_iff.1 h1
 exact ⟨v,by simp [zeroValue,typeInfo,program,Sem.run,h3,h4],h2⟩
theorem yoz {v:Value} {k:IntKind} {n:Int} (h:absV v= .int k n):v= .int k n:=by
 unfold absV at h;split at h<;>simp_all
theorem yvh {v:Value} {b:Bool} (h:absV v= .bool b):v= .bool b:=by
 unfold absV at h;split at h<;>simp_all
theorem ygf: ∀(el:List MapEntry) (l:List (Int×AV)),el.length=l.length->(∀(j:Nat) (e:MapEntry) (k:Int) (x:AV),el[j]?=some e->l[j]?=some (k,x)->e.key= .int .i64 k/\VR w M ρ D e.val x)->
  ∃l':List (Int×Value×Nat),el=l'.map (fun q=>⟨.int .i64 q.1,q.2.1,q.2.2⟩)/\l'.length=l.length/\ ∀(j:Nat) (q:Int×Value×Nat) (k:Int) (x:AV),l'[j]?=some q->l[j]?=some (k,x)->q.1=k/\VR w M ρ D q.2.1 x
 |[],[],_,_=>⟨[],rfl,rfl,fun j q k x h=>by simp at h⟩
 |[],_::_,h,_=>by simp at h
 |_::_,[],h,_=>by simp at h
 |e::el,(k,x)::l,hl,h=>by
  obtain ⟨l',h1,h2,h3⟩:=ygf el l (by simpa using hl) (fun j e k x g1 g2=>h (j+1) e k x (by simpa using g1) (by simpa using g2))
  obtain ⟨g1,g2⟩:=h 0 e k x rfl rfl
  refine ⟨(k,e.val,e.born)::l',?_,by simp [h2],fun j q k' x' q1 q2=>?_⟩
  ·rw [List.map_cons,←h1,←g1]
  ·cases j with
   |zero=>simp only [List.getElem?_cons_zero,Option.some.injEq] at q1 q2;subst q1;cases q2;exact ⟨rfl,g2⟩
   |succ j=>exact h3 j q k' x' (by simpa using q1) (by simpa using q2)
theorem ye6 (n:Int): ∀(l':List (Int×Value×Nat)) (l:List (Int×AV)),l'.length=l.length->(∀(j:Nat) (q:Int×Value×Nat) (k:Int) (x:AV),l'[j]?=some q->l[j]?=some (k,x)->q.1=k/\VR w M ρ D q.2.1 x)->
  (ycb l n=none->(l'.find? fun q=>q.1==n)=none)/\ ∀x,ycb l n=some x-> ∃v,(l'.find? fun q=>q.1==n).map (·.2.1)=some v/\VR w M ρ D v x
 |[],[],_,_=>⟨fun _=>rfl,fun x h=>by simp [ycb] at h⟩
 |[],_::_,h,_=>by simp at h
 |_::_,[],h,_=>by simp at h
 |q::l',(k,x)::l,hl,h=>by
  obtain ⟨i1,i2⟩:=ye6 n l' l (by simpa using hl) (fun j e k x g1 g2=>h (j+1) e k x (by simpa using g1) (by simpa using g2))
  obtain ⟨g1,g2⟩:=h 0 q k x rfl rfl
  unfold ycb at i1 i2⊢
  simp only [List.find?_cons,g1]
  by_cases e:k=n
  ·have:(k==n)=true:=by simpa using e
   simp only [this,Option.map_some,reduceCtorEq,Option.some.injEq]
   exact ⟨fun h=>h.elim,fun y hy=>⟨q.2.1,rfl,hy▸g2⟩⟩
  ·have:(k==n)=false:=by simpa using e
   simp only [this]
   exact ⟨i1,i2⟩
theorem y1n (a b:ByteArray):(a==b)=decide (a=b):=by
 obtain ⟨x⟩:=a
 obtain ⟨y⟩:=b
 show (x==y)=_
 by_cases h:x=y
 ·subst h;simp
 ·have:ByteArray.mk x≠ByteArray.mk y:=fun e=>h (ByteArray.mk.inj e)
  simp [h]
theorem yj9 (s:ByteArray): ∀(el:List MapEntry) (l:List (ByteArray×Nat×AV)) (i:Nat),el.length=l.length->(∀(j:Nat) (e:MapEntry) (q:ByteArray×Nat×AV),el[j]?=some e->l[j]?=some q->e.key= .string q.1)->
  (ybo l s=none/\Instr.findNow .string (.string s) el i=some none)\/ ∃(j:Nat) (e:MapEntry) (q:ByteArray×Nat×AV),el[j]?=some e/\l[j]?=some q/\ybo l s=some q/\q.1=s/\(∀m<j,∀q',l[m]?=some q'->q'.1≠s)/\Instr.findNow .string (.string s) el i=some (some (i+j,e.val))
 |[],[],i,_,_=> .inl ⟨rfl,rfl⟩
 |[],_::_,_,h,_=>by simp at h
 |_::_,[],_,h,_=>by simp at h
 |e::el,q::l,i,hl,h=>by
  have h0:=h 0 e q rfl rfl
  have e1:Instr.findNow .string (.string s) (e::el) i=if s=q.1 then some (some (i,e.val)) else Instr.findNow .string (.string s) el (i+1):=by
   simp only [Instr.findNow,h0,Instr.sameNow,y1n]
   by_cases hs:s=q.1
   ·rw [if_pos hs,decide_eq_true hs]
   ·rw [if_neg hs,decide_eq_false hs]
  have e2:ybo (q::l) s=if q.1=s then some q else ybo l s:=by
   unfold ybo
   rw [List.find?_cons]
   by_cases hs:q.1=s
   ·rw [if_pos hs,decide_eq_true hs]
   ·rw [if_neg hs,decide_eq_false hs]
  rw [e1,e2]
  by_cases hs:q.1=s
  ·rw [if_pos hs,if_pos hs.symm]
   exact .inr ⟨0,e,q,rfl,rfl,rfl,hs,fun m hm=>by omega,rfl⟩
  ·rw [if_neg hs,if_neg (fun g=>hs g.symm)]
   rcases yj9 s el l (i+1) (by simpa using hl) (fun j e' q' g1 g2=>h (j+1) e' q' (by simpa using g1) (by simpa using g2)) with ⟨g1,g2⟩|⟨j,e',q',g1,g2,g3,g4,g5,g6⟩
   ·exact .inl ⟨g1,g2⟩
   ·refine .inr ⟨j+1,e',q',by simpa using g1,by simpa using g2,g3,g4,fun m hm q2 hq2=>?_,by rw [g6];congr 3;omega⟩
    cases m with
    |zero=>simp only [List.getElem?_cons_zero,Option.some.injEq] at hq2;subst hq2;exact hs
    |succ m=>exact g5 m (by omega) q2 (by simpa using hq2)
theorem yk9 {kt:Nat} (hkt:tk P kt= .str) (b:Bool) (s:ByteArray):(Instr.checkKey b 10000 kt (.string s)).run P w= .ok () w:=by
 unfold Instr.checkKey
 simp [run_underlying (ydn hkt)]
theorem yfr {M:Nat->Prop} {D:Nat->Prop} {t:Nat} {z:List AV} (h:tze P t=some z): ∃v,(zeroValue t).run P w= .ok v w/\VR w M ρ D v (zrG z):=by
 unfold tze at h
 obtain ⟨v,h1,h2⟩:=Option.map_eq_some_iff.1 h
 obtain ⟨i,h3,h4⟩:=Option.bind_eq_some_iff.1 h1
 refine ⟨v,by simp [zeroValue,typeInfo,program,Sem.run,h3,h4],?_⟩
 subst h2
 unfold zrG
 split
 ·rename_i x y r e
  cases v with
  |agg a=>
   obtain ⟨l⟩:=a
   simp only [Value.cells] at e
   rw [←e]
   refine .agg l _ (by simp) fun i u q hu hq=>?_
   simp only [List.getElem?_map] at hq
   rw [hu] at hq
   cases hq
   exact yi3 u
  |_=>simp [Value.cells] at e
 ·exact .any _
theorem VR.tup2 {M:Nat->Prop} {D:Nat->Prop} {u v:Value} {x y:AV} (h1:VR w M ρ D u x) (h2:VR w M ρ D v y):VR w M ρ D (.tuple #[u,v]) (.tup [x,y]):=
 .tup [u,v] [x,y] rfl fun i a b ha hb=>by
  match i,ha,hb with
  |0,ha,hb=>cases ha;cases hb;exact h1
  |1,ha,hb=>cases ha;cases hb;exact h2
theorem VR.pair {M:Nat->Prop} {D:Nat->Prop} (x y:Int):VR w M ρ D (.agg #[.int .i64 x, .int .i64 y]) (.agg [I x,I y]):=
 .agg [.int .i64 x, .int .i64 y] [I x,I y] rfl fun i a b ha hb=>by
  match i,ha,hb with
  |0,ha,hb=>cases ha;cases hb;exact .int _ _
  |1,ha,hb=>cases ha;cases hb;exact .int _ _
theorem yvi {M:Nat->Prop} {D:Nat->Prop} {t:Nat} {k:ByteArray} {v:Value} (h:KR t k v):VR w M ρ D v (gkA t k):=by
 unfold gkA
 by_cases ht:t<1000000000
 ·rw [if_pos ht,h.str ht];exact .str _
 ·rw [if_neg ht,(h.pr ht).2];exact VR.pair _ _
theorem VR.pair_inv {M:Nat->Prop} {D:Nat->Prop} {v:Value} {x y:Int} (h:VR w M ρ D v (.agg [I x,I y])):v= .agg #[.int .i64 x, .int .i64 y]:=by
 obtain ⟨vs,rfl,hl,hx⟩:=h.agg_inv
 match vs,hl,hx with
 |[a,b],_,hx=>
  have h0:=(hx 0 a _ rfl rfl).int_inv
  have h1:=(hx 1 b _ rfl rfl).int_inv
  rw [h0,h1]
abbrev prV (a b:Int):Value:= .agg #[.int .i64 a, .int .i64 b]
theorem y1y {e:Nat} (he:tk P e= .int .i64) (d:Nat) (a c:Int):(Op.equalIn (d+1) e (.int .i64 a) (.int .i64 c)).run P w= .ok (a==c) w:=by
 unfold Op.equalIn
 simp [run_underlying (yb2 he)]
theorem y1z {e:Nat} (he:tk P e= .int .i64):(isAgg e).run P w= .ok false w:=by
 simp [isAgg,run_underlying (yb2 he)]
theorem ygg {e:Nat} (he:tk P e= .int .i64) {cs:Array Value} {i:Nat} {v:Value} (h:cs[i]?=some v):(part e cs i).run P w= .ok v w:=by
 unfold part
 simp [y1z he,h]
theorem y10 {kt e:Nat} (hk:tk P kt= .arr 2 e) (he:tk P e= .int .i64) (hs:tsz P e=some 1) (d:Nat) (a b c f:Int):(Op.equalIn (d+2) kt (prV a b) (prV c f)).run P w= .ok (a==c&&b==f) w:=by
 have p1: ∀(x y:Int),(part e #[Value.int .i64 x,Value.int .i64 y] 0).run P w= .ok (.int .i64 x) w:=fun x y=>ygg he rfl
 have p2: ∀(x y:Int),(part e #[Value.int .i64 x,Value.int .i64 y] 1).run P w= .ok (.int .i64 y) w:=fun x y=>ygg he rfl
 have q:=fun x y=>y1y (P:=P) (w:=w) he d x y
 unfold Op.equalIn
 simp [run_underlying (yc4 hk),yap hs,p1,p2,q,Std.Legacy.Range.forIn_eq_forIn_range',List.range']
 by_cases h1:a=c<;>by_cases h2:b=f<;>simp [h1,h2]
theorem yla {kt e:Nat} (hk:tk P kt= .arr 2 e) (he:tk P e= .int .i64) (hs:tsz P e=some 1) (t:Bool) (a b:Int):(Instr.checkKey t 10000 kt (prV a b)).run P w= .ok () w:=by
 have p1: ∀(x y:Int),(part e #[Value.int .i64 x,Value.int .i64 y] 0).run P w= .ok (.int .i64 x) w:=fun x y=>ygg he rfl
 have p2: ∀(x y:Int),(part e #[Value.int .i64 x,Value.int .i64 y] 1).run P w= .ok (.int .i64 y) w:=fun x y=>ygg he rfl
 have q: ∀x:Int,(Instr.checkKey t 9999 e (.int .i64 x)).run P w= .ok () w:=fun x=>by
  unfold Instr.checkKey
  simp [run_underlying (yb2 he)]
 unfold Instr.checkKey
 simp [run_underlying (yc4 hk),yap hs,p1,p2,q,Std.Legacy.Range.forIn_eq_forIn_range',List.range']
theorem yyz {kt e:Nat} (hk:tk P kt= .arr 2 e) (he:tk P e= .int .i64) (hs:tsz P e=some 1) (a b c f:Int):(Op.equal kt (prV a b) (prV c f)).run P w= .ok (decide (kEnc a b=kEnc c f)) w:=by
 unfold Op.equal
 rw [show Op.maxDepth=9998+2 from rfl,y10 hk he hs]
 congr 1
 by_cases h1:a=c<;>by_cases h2:b=f<;>simp [yow,h1,h2]
theorem yka {kt e0:Nat} (hk:tk P kt= .arr 2 e0) (he:tk P e0= .int .i64) (hs:tsz P e0=some 1) (a b:Int): ∀(el:List MapEntry) (l:List (ByteArray×Nat×AV)) (i:Nat),el.length=l.length->(∀(j:Nat) (e:MapEntry) (q:ByteArray×Nat×AV),el[j]?=some e->l[j]?=some q->q.1=kEnc (kDec q.1).1 (kDec q.1).2/\e.key=prV (kDec q.1).1 (kDec q.1).2)->
  (ybo l (kEnc a b)=none/\(Instr.findAsking kt (prV a b) el i).run P w= .ok none w)\/ ∃(j:Nat) (e:MapEntry) (q:ByteArray×Nat×AV),el[j]?=some e/\l[j]?=some q/\ybo l (kEnc a b)=some q/\q.1=kEnc a b/\(∀m<j,∀q',l[m]?=some q'->q'.1≠kEnc a b)/\(Instr.findAsking kt (prV a b) el i).run P w= .ok (some (i+j,e.val)) w
 |[],[],i,_,_=> .inl ⟨rfl,by simp [Instr.findAsking]⟩
 |[],_::_,_,h,_=>by simp at h
 |_::_,[],_,h,_=>by simp at h
 |e::el,q::l,i,hl,h=>by
  obtain ⟨h0,h1⟩:=h 0 e q rfl rfl
  have hq:=yyz (P:=P) (w:=w) hk he hs a b (kDec q.1).1 (kDec q.1).2
  rw [←h0,←h1] at hq
  have e2:ybo (q::l) (kEnc a b)=if q.1=kEnc a b then some q else ybo l (kEnc a b):=by
   unfold ybo
   rw [List.find?_cons]
   by_cases hs:q.1=kEnc a b
   ·rw [if_pos hs,decide_eq_true hs]
   ·rw [if_neg hs,decide_eq_false hs]
  by_cases hs':q.1=kEnc a b
  ·right
   refine ⟨0,e,q,rfl,rfl,by rw [e2,if_pos hs'],hs',fun m hm=>by omega,?_⟩
   unfold Instr.findAsking
   rw [decide_eq_true hs'.symm] at hq
   simp [hq]
  ·rw [decide_eq_false fun h=>hs' h.symm] at hq
   have hrun:(Instr.findAsking kt (prV a b) (e::el) i).run P w=(Instr.findAsking kt (prV a b) el (i+1)).run P w:=by
    conv=>lhs;unfold Instr.findAsking
    simp [hq]
   rcases yka hk he hs a b el l (i+1) (by simpa using hl) (fun j e' q' g1 g2=>h (j+1) e' q' (by simpa using g1) (by simpa using g2)) with ⟨g1,g2⟩|⟨j,e',q',g1,g2,g3,g4,g5,g6⟩
   ·exact .inl ⟨by rw [e2,if_neg hs',g1],by rw [hrun,g2]⟩
   ·refine .inr ⟨j+1,e',q',by simpa using g1,by simpa using g2,by rw [e2,if_neg hs',g3],g4,fun m hm q'' hq''=>?_,?_⟩
    ·match m,hm,hq'' with
     |0,_,hq''=>cases hq'';exact hs'
     |m+1,hm,hq''=>exact g5 m (by omega) q'' (by simpa using hq'')
    ·rw [hrun,g6,show i+1+j=i+(j+1) by omega]
theorem ygh {kt e0:Nat} (hk:tk P kt= .arr 2 e0) (a b:Int) (el:List MapEntry):(Instr.findKey kt (prV a b) el).run P w=(Instr.findAsking kt (prV a b) el 0).run P w:=by
 unfold Instr.findKey
 cases el with
 |nil=>simp [run_underlying (yc4 hk),Instr.findNow,Instr.findAsking]
 |cons e el=>simp [run_underlying (yc4 hk),Instr.findNow,Instr.sameNow]
theorem yjy {hg:Nat->Option AObj} (hob: ∀id ob,hg id=some ob->ObjR w M ρ D id ob) {t kt et id:Nat} (htk:tk P t= .map kt et) (hkt:tk P kt= .str) {s:ByteArray} {tt ck:Nat} {l:List (ByteArray×Nat×AV)} (ho:hg id=some (.gmap tt ck l)) (ht:tt<1000000000) (ok:Bool):
  (∀q,ybo l s=some q-> ∃z,(Instr.lookup t (.map (some (ρ id).block)) (.string s) ok).run P w= .ok (if ok then .tuple #[z, .bool true] else z) w/\VR w M ρ D z q.2.2)/\
  (ybo l s=none-> ∀zv,(zeroValue et).run P w= .ok zv w->(Instr.lookup t (.map (some (ρ id).block)) (.string s) ok).run P w= .ok (if ok then .tuple #[zv, .bool false] else zv) w):=by
 obtain ⟨es,h1,h2,h3⟩:=hob id _ ho
 have hck:=yk9 (P:=P) (w:=w) hkt es.isEmpty s
 have hf:=yj9 s es.toList l 0 (by simpa using h2) (fun j e q g1 g2=>(h3 j e q (by simpa using g1) g2).1.str ht)
 refine ⟨fun q hq=>?_,fun hn zv hz=>?_⟩
 ·rcases hf with ⟨g1,_⟩|⟨j,e,q',g1,g2,g3,_,_,g6⟩
  ·rw [g1] at hq;cases hq
  ·rw [g3] at hq;cases hq
   have hfk:(Instr.findKey kt (.string s) es.toList).run P w= .ok (some (0+j,e.val)) w:=by
    unfold Instr.findKey
    simp [run_underlying (ydn hkt),g6]
   refine ⟨e.val,?_,(h3 j e q (by simpa using g1) g2).2.2⟩
   unfold Instr.lookup
   simp only [Sem.run_bind,run_underlying (ybs htk),Result.andThen_ok]
   simp only [getObj,Sem.run,h1,Sem.run_bind,Result.andThen_ok,Sem.run_pure,hck,hfk]
 ·rcases hf with ⟨_,g2⟩|⟨j,e,q',_,_,g3,_⟩
  ·have hfk:(Instr.findKey kt (.string s) es.toList).run P w= .ok none w:=by
    unfold Instr.findKey
    simp [run_underlying (ydn hkt),g2]
   unfold Instr.lookup
   simp only [Sem.run_bind,run_underlying (ybs htk),Result.andThen_ok]
   simp only [getObj,Sem.run,h1,Sem.run_bind,Result.andThen_ok,Sem.run_pure,hck,hfk,hz]
  ·rw [hn] at g3;cases g3
theorem yjz {hg:Nat->Option AObj} (hob: ∀id ob,hg id=some ob->ObjR w M ρ D id ob) {t kt et id:Nat} (htk:tk P t= .map kt et) {e0:Nat} (hkt:tk P kt= .arr 2 e0) (he:tk P e0= .int .i64) (hsz:tsz P e0=some 1) {a b:Int} {tt ck:Nat} {l:List (ByteArray×Nat×AV)} (ho:hg id=some (.gmap tt ck l)) (ht: ¬tt<1000000000) (ok:Bool):
  (∀q,ybo l (kEnc a b)=some q-> ∃z,(Instr.lookup t (.map (some (ρ id).block)) (prV a b) ok).run P w= .ok (if ok then .tuple #[z, .bool true] else z) w/\VR w M ρ D z q.2.2)/\
  (ybo l (kEnc a b)=none-> ∀zv,(zeroValue et).run P w= .ok zv w->(Instr.lookup t (.map (some (ρ id).block)) (prV a b) ok).run P w= .ok (if ok then .tuple #[zv, .bool false] else zv) w):=by
 obtain ⟨es,h1,h2,h3⟩:=hob id _ ho
 have hck:=yla (P:=P) (w:=w) hkt he hsz es.isEmpty a b
 have hf:=yka (P:=P) (w:=w) hkt he hsz a b es.toList l 0 (by simpa using h2) (fun j e q g1 g2=>(h3 j e q (by simpa using g1) g2).1.pr ht)
 refine ⟨fun q hq=>?_,fun hn zv hz=>?_⟩
 ·rcases hf with ⟨g1,_⟩|⟨j,e,q',g1,g2,g3,_,_,g6⟩
  ·rw [g1] at hq;cases hq
  ·rw [g3] at hq;cases hq
   have hfk:(Instr.findKey kt (prV a b) es.toList).run P w= .ok (some (0+j,e.val)) w:=by
    rw [ygh hkt,g6]
   refine ⟨e.val,?_,(h3 j e q (by simpa using g1) g2).2.2⟩
   unfold Instr.lookup
   simp only [Sem.run_bind,run_underlying (ybs htk),Result.andThen_ok]
   simp only [getObj,Sem.run,h1,Sem.run_bind,Result.andThen_ok,Sem.run_pure,hck,hfk]
 ·rcases hf with ⟨_,g2⟩|⟨j,e,q',_,_,g3,_⟩
  ·have hfk:(Instr.findKey kt (prV a b) es.toList).run P w= .ok none w:=by
    rw [ygh hkt,g2]
   unfold Instr.lookup
   simp only [Sem.run_bind,run_underlying (ybs htk),Result.andThen_ok]
   simp only [getObj,Sem.run,h1,Sem.run_bind,Result.andThen_ok,Sem.run_pure,hck,hfk,hz]
  ·rw [hn] at g3;cases g3
theorem yo0 {hg:Nat->Option AObj} (hob: ∀id ob,hg id=some ob->ObjR w M ρ D id ob) {t:Nat} {u v:Value} {x k:AV} {p:Prop} {r:AV} (hu:VR w M ρ D u x) (hv:VR w M ρ D v k) (h:yk8 P hg t x k=some (p,r)) (hp:p):
  ∃z,(Instr.lookup t u v true).run P w= .ok z w/\VR w M ρ D z r:=by
 unfold yk8 at h
 split at h
 case h_2=>cases h
 rename_i kt et htk
 unfold yox at h
 split at h
 case h_4=>cases h
 case h_3=>
  rename_i _ _ _ e id a b hkt
  have eu:=hu.mp_inv
  have ev:=hv.pair_inv
  subst eu ev
  unfold yhe at h
  split at h
  case h_2=>cases h
  rename_i he hsz
  unfold yty at h
  split at h
  case h_2=>cases h
  rename_i t' ck l ho
  split at h
  case isTrue=>cases h
  rename_i ht
  obtain ⟨k1,k2⟩:=yjz (P:=P) hob htk hkt he hsz (a:=a) (b:=b) ho ht true
  split at h
  ·rename_i q hq
   cases h
   obtain ⟨z,z1,z2⟩:=k1 q hq
   exact ⟨_,by simpa using z1,VR.tup2 z2 (.bool _)⟩
  ·rename_i hq
   split at h
   case h_2=>cases h
   rename_i zz hzz
   cases h
   obtain ⟨zv,hz,hzr⟩:=yfr (w:=w) (M:=M) (ρ:=ρ) (D:=D) hzz
   exact ⟨_,by simpa using k2 hq zv hz,VR.tup2 hzr (.bool _)⟩
 ·rename_i _ _ _ id n hkt
  have eu:=hu.mp_inv
  have ev:=hv.int_inv
  subst eu ev
  unfold yt0 at h
  split at h
  case h_3=>cases h
  case h_2=>
   rename_i t' l ho
   obtain ⟨_,es,ck,h1,h2,h3⟩:=hob id _ ho
   obtain ⟨l',e1,e2,e3⟩:=ygf es.toList l (by simpa using h2) (fun j e k x g1 g2=>by have:=h3 j e k x (by simpa using g1) g2;exact ⟨this.1,this.2.1⟩)
   obtain ⟨f1,f2⟩:=ye6 n l' l e2 e3
   obtain ⟨r',g1,g2,_⟩:=yci n l' 0
   rw [←e1] at g1
   have hck:(Instr.checkKey es.isEmpty 10000 kt (.int .i64 n)).run P w= .ok () w:=by
    unfold Instr.checkKey
    simp [run_underlying (yb2 hkt)]
   have hfk:(Instr.findKey kt (.int .i64 n) es.toList).run P w= .ok r' w:=by
    unfold Instr.findKey
    simp [run_underlying (yb2 hkt),g1]
   split at h
   ·rename_i x hx
    cases h
    obtain ⟨v,v1,v2⟩:=f2 _ hx
    rw [v1] at g2
    refine ⟨.tuple #[v, .bool true],?_,VR.tup2 v2 (.bool _)⟩
    unfold Instr.lookup
    simp only [Sem.run_bind,run_underlying (ybs htk),Result.andThen_ok]
    simp only [getObj,Sem.run,h1,Sem.run_bind,Result.andThen_ok,Sem.run_pure,hck,hfk]
    cases r' with
    |none=>cases g2
    |some q=>simp at g2;simp [g2]
   ·rename_i hx
    split at h
    case h_2=>cases h
    rename_i zz hzz
    cases h
    obtain ⟨zv,hz,hzr⟩:=yfr (w:=w) (M:=M) (ρ:=ρ) (D:=D) hzz
    rw [f1 hx] at g2
    refine ⟨.tuple #[zv, .bool false],?_,VR.tup2 hzr (.bool _)⟩
    unfold Instr.lookup
    simp only [Sem.run_bind,run_underlying (ybs htk),Result.andThen_ok]
    simp only [getObj,Sem.run,h1,Sem.run_bind,Result.andThen_ok,Sem.run_pure,hck,hfk]
    cases r' with
    |none=>simp [hz]
    |some q=>cases g2
  rename_i t' g ho
  split at h
  case h_2=>cases h
  rename_i z hz
  cases h
  obtain ⟨zv,hz1,hz2⟩:=yhh (w:=w) hz
  have:=yoz hz2
  subst this
  obtain ⟨l,es,ck,h1,h2,h3⟩:=hob id _ ho
  obtain ⟨r',g1,g2,_⟩:=yci n l 0
  rw [←h2] at g1
  rw [h3 n] at g2
  have hck:(Instr.checkKey es.isEmpty 10000 kt (.int .i64 n)).run P w= .ok () w:=by
   unfold Instr.checkKey
   simp [run_underlying (yb2 hkt)]
  have hfk:(Instr.findKey kt (.int .i64 n) es.toList).run P w= .ok r' w:=by
   unfold Instr.findKey
   simp [run_underlying (yb2 hkt),g1]
  simp only [MF.val] at g2
  refine ⟨.tuple #[.int .i64 ((g n).getD z), .bool (g n).isSome],?_,VR.tup2 (.int _ _) (.bool _)⟩
  unfold Instr.lookup
  simp only [Sem.run_bind,run_underlying (ybs htk),Result.andThen_ok]
  simp only [getObj,Sem.run,h1,Sem.run_bind,Result.andThen_ok,Sem.run_pure,hck,hfk]
  cases r' with
  |none=>
   cases hg:g n with
   |none=>simp [hz1]
   |some y=>rw [hg] at g2;simp at g2
  |some q=>
   cases hg:g n with
   |none=>rw [hg] at g2;simp at g2
   |some y=>rw [hg] at g2;simp at g2;simp [g2]
 ·rename_i _ _ _ id s hkt
  have eu:=hu.mp_inv
  have ev:=hv.str_inv
  subst eu ev
  unfold yt1 at h
  split at h
  case h_2=>cases h
  rename_i t' ck l ho
  split at h
  case isFalse=>cases h
  rename_i ht
  obtain ⟨k1,k2⟩:=yjy (P:=P) hob htk hkt (s:=s) ho ht true
  split at h
  ·rename_i q hq
   cases h
   obtain ⟨z,z1,z2⟩:=k1 q hq
   exact ⟨_,by simpa using z1,VR.tup2 z2 (.bool _)⟩
  ·rename_i hq
   split at h
   case h_2=>cases h
   rename_i zz hzz
   cases h
   obtain ⟨zv,hz,hzr⟩:=yfr (w:=w) (M:=M) (ρ:=ρ) (D:=D) hzz
   exact ⟨_,by simpa using k2 hq zv hz,VR.tup2 hzr (.bool _)⟩
theorem yrc {hg:Nat->Option AObj} (hob: ∀id ob,hg id=some ob->ObjR w M ρ D id ob) {t:Nat} {u v:Value} {x k:AV} {p:Prop} {r:AV} (hu:VR w M ρ D u x) (hv:VR w M ρ D v k) (h:yon P hg t x k=some (p,r)) (hp:p):
  ∃z,(Instr.lookup t u v false).run P w= .ok z w/\VR w M ρ D z r:=by
 unfold yon at h
 split at h
 case h_2=>cases h
 rename_i kt et htk
 unfold ytz at h
 split at h
 case h_4=>cases h
 case h_3=>
  rename_i _ _ _ e id a b hkt
  have eu:=hu.mp_inv
  have ev:=hv.pair_inv
  subst eu ev
  unfold yhe at h
  split at h
  case h_2=>cases h
  rename_i he hsz
  unfold ytx at h
  split at h
  case h_2=>cases h
  rename_i t' ck l ho
  split at h
  case isTrue=>cases h
  rename_i ht
  obtain ⟨k1,k2⟩:=yjz (P:=P) hob htk hkt he hsz (a:=a) (b:=b) ho ht false
  split at h
  ·rename_i q hq
   cases h
   obtain ⟨z,z1,z2⟩:=k1 q hq
   exact ⟨_,by simpa using z1,z2⟩
  ·rename_i hq
   split at h
   case h_2=>cases h
   rename_i zz hzz
   cases h
   obtain ⟨zv,hz,hzr⟩:=yfr (w:=w) (M:=M) (ρ:=ρ) (D:=D) hzz
   exact ⟨_,by simpa using k2 hq zv hz,hzr⟩
 case h_2=>
  rename_i _ _ _ id s hkt
  have eu:=hu.mp_inv
  have ev:=hv.str_inv
  subst eu ev
  unfold ytw at h
  split at h
  case h_2=>cases h
  rename_i t' ck l ho
  split at h
  case isFalse=>cases h
  rename_i ht
  split at h
  case h_2=>cases h
  rename_i q hq
  cases h
  obtain ⟨z,z1,z2⟩:=(yjy (P:=P) hob htk hkt (s:=s) ho ht false).1 q hq
  exact ⟨z,by simpa using z1,z2⟩
 rename_i _ _ _ id n hkt
 have eu:=hu.mp_inv
 have ev:=hv.int_inv
 subst eu ev
 have key: ∀(t':Nat) (c:MF) (zv:Value),hg id=some (.fmap t' c)->(zeroValue et).run P w= .ok zv w->(Instr.lookup t (.map (some (ρ id).block)) (.int .i64 n) false).run P w= .ok ((c.val n).getD zv) w:=by
  intro t' c zv ho hz
  obtain ⟨l,es,ck,h1,h2,h3⟩:=hob id _ ho
  obtain ⟨r',g1,g2,_⟩:=yci n l 0
  rw [←h2] at g1
  rw [h3 n] at g2
  have hck:(Instr.checkKey es.isEmpty 10000 kt (.int .i64 n)).run P w= .ok () w:=by
   unfold Instr.checkKey
   simp [run_underlying (yb2 hkt)]
  have hfk:(Instr.findKey kt (.int .i64 n) es.toList).run P w= .ok r' w:=by
   unfold Instr.findKey
   simp [run_underlying (yb2 hkt),g1]
  unfold Instr.lookup
  simp only [Sem.run_bind,run_underlying (ybs htk),Result.andThen_ok]
  simp only [getObj,Sem.run,h1,Sem.run_bind,Result.andThen_ok,Sem.run_pure,hck,hfk]
  cases r' with
  |none=>
   simp only [Option.map_none] at g2
   simp [hz,←g2]
  |some q=>
   simp only [Option.map_some] at g2
   simp [←g2]
 unfold ytv at h
 split at h
 ·rename_i t' g ho
  split at h
  ·rename_i z hz
   cases h
   obtain ⟨zv,hz1,hz2⟩:=yhh (w:=w) hz
   have:=yoz hz2
   subst this
   refine ⟨_,key t' (.ints g) _ ho hz1,?_⟩
   simp only [MF.val]
   cases g n<;>exact .int _ _
  ·cases h
 ·rename_i t' g ho
  split at h
  ·rename_i z hz
   cases h
   obtain ⟨zv,hz1,hz2⟩:=yhh (w:=w) hz
   have:=yvh hz2
   subst this
   refine ⟨_,key t' (.bools g) _ ho hz1,?_⟩
   simp only [MF.val]
   cases g n<;>exact .bool _
  ·cases h
 ·rename_i t' g ho
  split at h
  case h_2=>cases h
  rename_i x y hz
  cases h
  obtain ⟨zv,hz1,hz2⟩:=yfr (w:=w) (M:=M) (ρ:=ρ) (D:=D) hz
  refine ⟨_,key t' (.pairs g) _ ho hz1,?_⟩
  simp only [MF.val]
  cases g n with
  |none=>exact hz2
  |some q=>exact VR.pair q.1 q.2
 ·rename_i t' l ho
  obtain ⟨_,es,ck,h1,h2,h3⟩:=hob id _ ho
  obtain ⟨l',e1,e2,e3⟩:=ygf es.toList l (by simpa using h2) (fun j e k x g1 g2=>by have:=h3 j e k x (by simpa using g1) g2;exact ⟨this.1,this.2.1⟩)
  obtain ⟨f1,f2⟩:=ye6 n l' l e2 e3
  obtain ⟨r',g1,g2,_⟩:=yci n l' 0
  rw [←e1] at g1
  have hck:(Instr.checkKey es.isEmpty 10000 kt (.int .i64 n)).run P w= .ok () w:=by
   unfold Instr.checkKey
   simp [run_underlying (yb2 hkt)]
  have hfk:(Instr.findKey kt (.int .i64 n) es.toList).run P w= .ok r' w:=by
   unfold Instr.findKey
   simp [run_underlying (yb2 hkt),g1]
  have hrun: ∀zv,(zeroValue et).run P w= .ok zv w\/(∃q,r'=some q)->(Instr.lookup t (.map (some (ρ id).block)) (.int .i64 n) false).run P w= .ok ((r'.map (·.2)).getD zv) w:=by
   intro zv hz
   unfold Instr.lookup
   simp only [Sem.run_bind,run_underlying (ybs htk),Result.andThen_ok]
   simp only [getObj,Sem.run,h1,Sem.run_bind,Result.andThen_ok,Sem.run_pure,hck,hfk]
   cases r' with
   |none=>
    rcases hz with hz|⟨q,hz⟩
    ·simp [hz]
    ·cases hz
   |some q=>simp
  unfold ytu at h
  split at h
  ·rename_i x hx
   cases h
   obtain ⟨v,v1,v2⟩:=f2 _ hx
   rw [v1] at g2
   refine ⟨v,?_,v2⟩
   cases r' with
   |none=>cases g2
   |some q=>rw [hrun v (.inr ⟨q,rfl⟩),g2];rfl
  ·rename_i hx
   split at h
   ·rename_i hz
    cases h
    obtain ⟨zv,hz1,hz2⟩:=yhh (w:=w) hz
    rw [f1 hx] at g2
    refine ⟨zv,by rw [hrun zv (.inl hz1),g2];rfl,?_⟩
    have:=yi3 (w:=w) (M:=M) (ρ:=ρ) (D:=D) zv
    rw [hz2] at this;exact this
   ·cases h
 ·cases h
end
end Go.Proofs.YtfgbnalnbdhimaaGreatDoor
namespace Go.Proofs.YtfgbnalnbdhimaaGreatDoor
open Go Go.RowKit
structure ybi where
 w:World
 g:Nat->Value
def gv (w0:ybi) (a:Act) (t:Nat):Value:=if t<1000000 then a.tmps.getD t undef else w0.g t
def evA (fr:Fr):Operand->AV
 | .tmp t=>if t<1000000 then fget fr t else .any
 | .const v=>absV v
 | .func f=> .fn f []
 | .global _=> .any
def MM (Mx:Nat->Prop) (H:Hp) (ρ:Nat->Addr) (b:Nat):Prop:=Mx b\/ ∃id o,hget H id=some o/\o.live=true/\(ρ id).block=b
def DD (H:Hp) (id:Nat):Prop:= ∃o,hget H id=some o
structure Sim (B:Nat) (w0:ybi) (Mx:Nat->Prop) (N:Nat) (w:World) (ρ:Nat->Addr) (fr:Fr) (H:Hp) (a:Act):Prop where
 below:Below B w0.w w
 hB:B<=w.heap.size
 mx: ∀b,Mx b->b<w.heap.size
 own: ∀id o,hget H id=some o->o.live=true->B<=(ρ id).block/\ ¬Mx (ρ id).block
 objs: ∀id o,hget H id=some o->ObjR w (MM Mx H ρ) ρ (DD H) id o
 inj: ∀id o id' o',hget H id=some o->o.live=true->hget H id'=some o'->o'.live=true->(ρ id).block=(ρ id').block->id=id'
 frv: ∀t,VR w (MM Mx H ρ) ρ (DD H) (gv w0 a t) (fget fr t)
 defers:a.defers=[]/\ ∀w',Below B w0.w w'->Good w'
 size:a.tmps.size=N/\N<=1000000
section
variable {P:Program} {w:World} {M:Nat->Prop} {ρ:Nat->Addr} {D:Nat->Prop}
theorem yvj {hg:Nat->Option AObj} (hob: ∀id ob,hg id=some ob->ObjR w M ρ D id ob) {o:Oper} {a:Act} {ev:Operand->AV} (hev: ∀x,VR w M ρ D (a.eval x) (ev x))
  {p:Prop} {r:AV} (hc: ∀s d x,o.op= .convert s d x-> ∃e,P.underlying s=some e) (h:opF P hg ev o.op=some (p,r)) (hp:p):
  ∃v,(execOp a.eval o).run P w= .ok (.value v) w/\VR w M ρ D v r:=by
 cases ho:o.op with
 |move x=>rw [ho] at h;simp only [opF] at h;cases h;exact ⟨a.eval x,by simp [execOp,ho],hev x⟩
 |assign x=>rw [ho] at h;simp only [opF] at h;cases h;exact ⟨a.eval x,by simp [execOp,ho],hev x⟩
 |pick c x y=>
  rw [ho] at h;simp only [opF] at h
  split at h
  ·rename_i b hb
   cases h
   have e:=(hb▸hev c).bool_inv
   cases b
   ·exact ⟨a.eval y,by simp [execOp,ho,e,asBool],by simpa using hev y⟩
   ·exact ⟨a.eval x,by simp [execOp,ho,e,asBool],by simpa using hev x⟩
  ·cases h
 |load t x=>
  rw [ho] at h;simp only [opF] at h
  obtain ⟨z,hz,hr⟩:=yjv (P:=P) hob (hev x) h hp
  exact ⟨z,by simp [execOp,ho,hz],hr⟩
 |binOp op t x y t'=>
  rw [ho] at h;simp only [opF] at h
  obtain ⟨z,hz,hr⟩:=yt5 (P:=P) (hev x) (hev y) h hp x y
  exact ⟨z,by
   simp only [execOp,ho]
   simp only [Sem.run_bind] at hz⊢
   rw [hz];simp,hr⟩
 |unOp op t x=>
  rw [ho] at h;simp only [opF] at h
  obtain ⟨z,hz,hr⟩:=yvg (P:=P) (hev x) h hp
  exact ⟨z,by simp [execOp,ho,hz],hr⟩
 |fieldAddr s x f=>
  rw [ho] at h;simp only [opF] at h
  obtain ⟨z,hz,hr⟩:=yoc (P:=P) (hev x) h
  exact ⟨z,by simp [execOp,ho,hz],hr⟩
 |field s x f=>
  rw [ho] at h;simp only [opF] at h
  obtain ⟨z,hz,hr⟩:=yoy (P:=P) (hev x) h
  exact ⟨z,by simp [execOp,ho,hz],hr⟩
 |indexAddr t x i=>
  rw [ho] at h;simp only [opF] at h
  obtain ⟨z,hz,hr⟩:=yod (P:=P) (hev x) (hev i) h hp
  exact ⟨z,by simp [execOp,ho,hz],hr⟩
 |extract t i=>
  rw [ho] at h;simp only [opF] at h
  obtain ⟨z,hz,hr⟩:=yml (P:=P) (hev t) h
  exact ⟨z,by simp [execOp,ho,hz],hr⟩
 |nilCheck x=>
  rw [ho] at h;simp only [opF,nilF] at h
  have hx:=hev x
  split at h
  ·rename_i id off hh;cases h;rw [hh] at hx
   exact ⟨a.eval x,by obtain ⟨e,_⟩:=hx.ptr_inv;simp [execOp,ho,e],hx⟩
  ·rename_i c off hh;cases h;rw [hh] at hx
   exact ⟨a.eval x,by obtain ⟨ad,e,_⟩:=hx.rp_cells;simp [execOp,ho,e],hx⟩
  ·rename_i f xs hh;cases h;rw [hh] at hx
   exact ⟨a.eval x,by obtain ⟨vs,e,_⟩:=hx.fn_inv;simp [execOp,ho,e],hx⟩
  ·cases h
 |convert s d x=>
  rw [ho] at h;simp only [opF] at h
  obtain ⟨z,hz,hr⟩:=yrb (P:=P) (hc s d x ho) (hev x) h hp
  exact ⟨z,by simp [execOp,ho,hz],hr⟩
 |lookup t x k ok=>
  rw [ho] at h
  cases ok with
  |true=>
   simp only [opF] at h
   obtain ⟨z,hz,hr⟩:=yo0 hob (hev x) (hev k) h hp
   exact ⟨z,by simp [execOp,ho,hz],hr⟩
  |false=>
   simp only [opF] at h
   obtain ⟨z,hz,hr⟩:=yrc hob (hev x) (hev k) h hp
   exact ⟨z,by simp [execOp,ho,hz],hr⟩
 |entry x=>
  rw [ho] at h;simp only [opF] at h
  unfold entF at h
  split at h
  case h_2=>cases h
  rename_i id hx
  have eu:=(hx▸hev x).ptr_inv.1
  rw [show (ρ id).add 0=ρ id from rfl] at eu
  unfold entI at h
  split at h
  case h_2=>cases h
  rename_i mid since sn la hoi
  obtain ⟨_,i2,i3⟩:=hob id _ hoi
  unfold entG at h
  split at h
  case h_2=>cases h
  rename_i t' ck l hom
  obtain ⟨es,g1,g2,g3⟩:=hob mid _ hom
  split at h
  case h_2=>cases h
  rename_i b hb
  split at h
  case h_2=>cases h
  rename_i q hq
  cases h
  subst hp
  have hf: ∀(el:List MapEntry) (l:List (ByteArray×Nat×AV)),el.length=l.length->(∀(j:Nat) (e:MapEntry) (q:ByteArray×Nat×AV),el[j]?=some e->l[j]?=some q->KR t' q.1 e.key/\e.born=q.2.1/\VR w M ρ D e.val q.2.2)->l.find? (fun q=>q.2.1==b)=some q-> ∃e,el.find? (fun e=>e.born==b)=some e/\KR t' q.1 e.key/\VR w M ρ D e.val q.2.2:=by
   intro el
   induction el with
   |nil=>intro l hl _ hfi;cases l<;>simp_all
   |cons e el ih=>
    intro l hl hh hfi
    cases l with
    |nil=>simp at hl
    |cons q0 l=>
     obtain ⟨k1,k2,k3⟩:=hh 0 e q0 rfl rfl
     simp only [List.find?_cons] at hfi⊢
     rw [k2]
     by_cases hc:(q0.2.1==b)=true
     ·rw [hc] at hfi⊢
      simp only [Option.some.injEq] at hfi
      subst hfi
      exact ⟨e,rfl,k1,k3⟩
     ·simp only [Bool.not_eq_true] at hc
      rw [hc] at hfi⊢
      exact ih l (by simpa using hl) (fun j e' q' h1 h2=>hh (j+1) e' q' (by simpa using h1) (by simpa using h2)) hfi
  obtain ⟨e,f1,f2,f3⟩:=hf es.toList l (by simpa using g2) (fun j e q h1 h2=>g3 j e q (by simpa using h1) h2) hq
  refine ⟨.tuple #[e.key,e.val],?_,VR.tup2 (yvi f2) f3⟩
  have f1':es.find? (fun e=>e.born==b)=some e:=by rw [←f1,Array.find?_toList]
  have hbk:sn.toArray.back?=some b:=by simpa using hb
  have hoff:(ρ id)=⟨(ρ id).block,0,(ρ id).spot⟩:=by cases hz:ρ id;rw [hz] at i2;simp at i2;subst i2;rfl
  rw [hoff] at eu
  simp only [execOp,ho,eu]
  simp [Instr.entry,getObj,Sem.run,i3,hbk,g1,f1']
 |index t x i=>
  rw [ho] at h;simp only [opF] at h
  unfold idxF at h
  split at h
  case h_3=>cases h
  case h_2=>
   rename_i m e xs k n htk hx hi
   split at h
   case h_2=>cases h
   rename_i es hes
   unfold idxP at h
   split at h
   case h_2=>cases h
   rename_i p' r' hpr
   cases h
   obtain ⟨vs,eu,hl,hh⟩:=(hx▸hev x).agg_inv
   have ev:=(hi▸hev i).int_inv
   obtain ⟨z,hz,hr⟩:=yjx (P:=P) hl hh hpr
   refine ⟨z,?_,hr⟩
   simp only [execOp,ho,eu,ev]
   simp [Instr.index,asIntOf,run_underlying (yc4 htk),hp.1.1,hp.1.2,yap hes w,hz]
  rename_i s k n htk hx hi
  cases h
  have eu:=(hx▸hev x).str_inv
  have ev:=(hi▸hev i).int_inv
  refine ⟨.int .u8 (s.data.toList.getD n.toNat 0).toNat,?_, .int _ _⟩
  simp only [execOp,ho,eu,ev]
  have hb:(if 0<=n then s[n.toNat]? else none)=some (s.data.toList.getD n.toNat 0):=by
   rw [if_pos hp.1]
   have hlt:n.toNat<s.size:=by omega
   have hlt2:n.toNat<s.data.toList.length:=by simpa using hlt
   rw [getElem?_pos s n.toNat hlt]
   congr 1
   simp only [List.getD_eq_getElem?_getD,List.getElem?_eq_getElem hlt2,Option.getD_some]
   rfl
  simp [Instr.index,asIntOf,run_underlying (ydn htk),hb]
 |makeFunc fn first cap=>
  rw [ho] at h
  cases fn with
  |func f=>
   simp only [opF] at h
   split at h
   ·rename_i hf
    cases h
    have hf':first= #[]:=Array.eq_empty_of_size_eq_zero hf
    subst hf'
    refine ⟨.func (.func f) #[] (cap.toList.map a.eval).toArray,by simp [execOp,ho,Instr.makeFunc];obtain ⟨l⟩:=cap;simp, .fn f _ _ (by simp) fun i v x hv hx=>?_⟩
    simp only [List.getElem?_map] at hv hx
    cases hi:cap.toList[i]? with
    |none=>rw [hi] at hv;cases hv
    |some y=>rw [hi] at hv hx;cases hv;cases hx;exact hev y
   ·cases h
  |_=>simp [opF] at h
 |call c=>
  rw [ho] at h
  obtain ⟨callee,args,ts⟩:=c
  cases callee with
  |builtin b=>
   cases b with
   |len=>
    simp only [opF] at h
    split at h
    ·rename_i x t h1 h2
     have e1:args= #[x]:=by simpa using congrArg List.toArray h1
     have e2:ts= #[t]:=by simpa using congrArg List.toArray h2
     subst e1 e2
     obtain ⟨z,hz,hr⟩:=yt6 (P:=P) (ty:=o.type) (hev x) h
     exact ⟨z,by simp [execOp,ho,resolve,invoke,builtin,hz],hr⟩
    ·cases h
   |cap=>
    simp only [opF] at h
    split at h
    ·rename_i x t h1 h2
     have e1:args= #[x]:=by simpa using congrArg List.toArray h1
     have e2:ts= #[t]:=by simpa using congrArg List.toArray h2
     subst e1 e2
     obtain ⟨z,hz,hr⟩:=yt7 (P:=P) (ty:=o.type) (hev x) h
     exact ⟨z,by simp [execOp,ho,resolve,invoke,builtin,hz],hr⟩
    ·cases h
   |min=>
    simp only [opF] at h
    split at h
    ·rename_i x y h1
     have e1:args= #[x,y]:=by simpa using congrArg List.toArray h1
     subst e1
     split at h
     ·rename_i p q hx hy
      cases h
      have ex:=(hx▸hev x).int_inv
      have ey:=(hy▸hev y).int_inv
      exact ⟨.int .i64 (if q<p then q else p),by simp [execOp,ho,resolve,invoke,builtin,Builtin.min_,Builtin.min2,ex,ey,List.foldlM], .int _ _⟩
     ·cases h
    ·cases h
   |max=>
    simp only [opF] at h
    split at h
    ·rename_i x y h1
     have e1:args= #[x,y]:=by simpa using congrArg List.toArray h1
     subst e1
     split at h
     ·rename_i p q hx hy
      cases h
      have ex:=(hx▸hev x).int_inv
      have ey:=(hy▸hev y).int_inv
      exact ⟨.int .i64 (if p<q then q else p),by simp [execOp,ho,resolve,invoke,builtin,Builtin.max_,Builtin.max2,ex,ey,List.foldlM], .int _ _⟩
     ·cases h
    ·rename_i x y z h1
     have e1:args= #[x,y,z]:=by simpa using congrArg List.toArray h1
     subst e1
     unfold yt2 at h
     split at h
     ·rename_i p q r hx hy hz
      cases h
      have ex:=(hx▸hev x).int_inv
      have ey:=(hy▸hev y).int_inv
      have ez:=(hz▸hev z).int_inv
      exact ⟨.int .i64 (if (if p<q then q else p)<r then r else if p<q then q else p),by simp [execOp,ho,resolve,invoke,builtin,Builtin.max_,Builtin.max2,ex,ey,ez,List.foldlM], .int _ _⟩
     ·cases h
    ·cases h
   |_=>simp [opF] at h
  |_=>simp [opF] at h
 |_=>rw [ho] at h;simp [opF] at h
end
end Go.Proofs.YtfgbnalnbdhimaaGreatDoor
namespace Go.Proofs.YtfgbnalnbdhimaaGreatDoor
open Go Go.RowKit
section
variable {B:Nat} {w0:ybi} {Mx:Nat->Prop} {N:Nat} {w:World} {ρ:Nat->Addr} {fr:Fr} {H:Hp} {a:Act}
theorem Sim.ev (h:Sim B w0 Mx N w ρ fr H a) (x:Operand):VR w (MM Mx H ρ) ρ (DD H) (a.eval x) (evA fr x):=by
 cases x with
 |tmp t=>
  have:=h.frv t
  simp only [evA]
  split
  ·rename_i ht;simp only [gv,ht,if_true] at this;exact this
  ·exact .any _
 |const v=>exact yi3 v
 |func f=>exact .fn f [] [] rfl (by simp)
 |global g=>exact .any _
def fput (fr:Fr) (d:Option Nat) (x:AV):Fr:=match d with|some d=>(d,x)::fr|none=>fr
def dok (d:Option Nat) (N:Nat):Bool:=match d with|some d=>decide (d<N)|none=>true
theorem yy0 {a:Act} {d t:Nat} {v:Value} (hd:d<a.tmps.size):(a.put (some d) v).tmps.getD t undef=if d=t then v else a.tmps.getD t undef:=by
 simp only [Act.put,Array.getD_eq_getD_getElem?,Array.getElem?_setIfInBounds]
 by_cases h:d=t
 ·subst h;simp [hd]
 ·simp [h]
theorem Sim.put (h:Sim B w0 Mx N w ρ fr H a) {d:Option Nat} (hd:dok d N=true) {v:Value} {x:AV} (hv:VR w (MM Mx H ρ) ρ (DD H) v x):Sim B w0 Mx N w ρ (fput fr d x) H (a.put d v):=by
 cases d with
 |none=>exact h
 |some d=>
  simp only [dok,decide_eq_true_eq] at hd
  have hd':d<a.tmps.size:=by rw [h.size.1];exact hd
  have hN:=h.size.2
  refine ⟨h.below,h.hB,h.mx,h.own,h.objs,h.inj,fun t=>?_,h.defers,by simp [Act.put,h.size]⟩
  have hgv:gv w0 (a.put (some d) v) t=if d=t then v else gv w0 a t:=by
   unfold gv
   split
   ·rw [yy0 hd']
   ·rw [if_neg (by omega)]
  rw [hgv]
  simp only [fput,fget]
  by_cases e:d=t
  ·simp only [e,if_true];exact hv
  ·simp only [e,if_false];exact h.frv t
theorem Sim.draw (h:Sim B w0 Mx N w ρ fr H a):Sim B w0 Mx N {w with drawn:=w.drawn+1} ρ fr H a:=
 have hc: ∀{D:Nat->Prop} {v:Value} {x:AV},VR w (MM Mx H ρ) ρ D v x->VR {w with drawn:=w.drawn+1} (MM Mx H ρ) ρ D v x:=fun hv=>
  hv.carry (w':={w with drawn:=w.drawn+1}) (Nat.le_refl _) (fun _ _ hm=>⟨rfl,hm⟩) (fun id hd=>⟨hd,rfl,fun arr t ha=>⟨arr,ha,rfl⟩⟩)
 ⟨h.below.drew,h.hB,h.mx,h.own,fun id o ho=>by
  have:=h.objs id o ho
  cases o with
  |gone=>trivial
  |cells t c=>
   obtain ⟨h1,arr,h2,h3,h4⟩:=this
   exact ⟨h1,arr,h2,h3,fun j hj=>let ⟨u,hu,hv⟩:=h4 j hj;⟨u,hu,hc hv⟩⟩
  |gmap t ck l=>
   obtain ⟨es,h1,h2,h3⟩:=this
   exact ⟨es,h1,h2,fun j e q he hl=>let ⟨g1,g2,g3⟩:=h3 j e q he hl;⟨g1,g2,hc g3⟩⟩
  |iter mid s sn la=>exact this
  |imap t l=>
   obtain ⟨h0,es,ck,h1,h2,h3⟩:=this
   exact ⟨h0,es,ck,h1,h2,fun j e k x he hl=>let ⟨g1,g2,g3⟩:=h3 j e k x he hl;⟨g1,hc g2,g3⟩⟩
  |fmap t c=>exact this,h.inj,fun t=>hc (h.frv t),h.defers,h.size⟩
def upd (ρ:Nat->Addr) (id:Nat) (x:Addr):Nat->Addr:=fun i=>if i=id then x else ρ i
theorem yau (ρ:Nat->Addr) (id:Nat) (x:Addr):upd ρ id x id=x:=by simp [upd]
theorem ya3 (ρ:Nat->Addr) {id i:Nat} (x:Addr) (h:i≠id):upd ρ id x i=ρ i:=by simp [upd,h]
theorem yaj {w:World} {b:Nat} {o:Obj} (h:w.heap[b]?=some o):b<w.heap.size:=by
 rcases Nat.lt_or_ge b w.heap.size with h1|h1
 ·exact h1
 ·rw [Array.getElem?_eq_none h1] at h;cases h
theorem ybp {w:World} {o:Obj} {b:Nat} (h:b<w.heap.size):(w.heap.push o)[b]?=w.heap[b]?:=by
 rw [Array.getElem?_push];simp [Nat.ne_of_lt h]
theorem ya1 {w:World} {o:Obj}:(w.heap.push o)[w.heap.size]?=some o:=by
 rw [Array.getElem?_push];simp
theorem ObjR.lt {M:Nat->Prop} {D:Nat->Prop} {id:Nat} {o:AObj} (h:ObjR w M ρ D id o) (hl:o.live=true):(ρ id).block<w.heap.size:=by
 cases o with
 |gone=>cases hl
 |cells t c=>obtain ⟨_,arr,h2,_⟩:=h;exact yaj h2
 |gmap t ck l=>obtain ⟨es,h1,_⟩:=h;exact yaj h1
 |iter mid s sn la=>obtain ⟨_,_,h1⟩:=h;exact yaj h1
 |imap t l=>obtain ⟨_,es,ck,h1,_⟩:=h;exact yaj h1
 |fmap t c=>obtain ⟨_,es,ck,h1,_⟩:=h;exact yaj h1
theorem Sim.alloc (h:Sim B w0 Mx N w ρ fr H a) (nid:Nat) (hn:hget H nid=none) (blk:Obj) (o:AObj)
  (ho: ∀(M':Nat->Prop) (ρ':Nat->Addr) (D':Nat->Prop),ρ' nid=⟨w.heap.size,0,none⟩->(∀{D:Nat->Prop} {v:Value} {x:AV},(∀i,D i->DD H i)->VR w (MM Mx H ρ) ρ D v x->VR (w.alloc blk) M' ρ' D' v x)->ObjR (w.alloc blk) M' ρ' D' nid o):
  Sim B w0 Mx N (w.alloc blk) (upd ρ nid ⟨w.heap.size,0,none⟩) fr ((nid,o)::H) a:=by
 have hsz:(w.alloc blk).heap.size=w.heap.size+1:=by show (w.heap.push blk).size=_;simp
 have hne: ∀id o',hget H id=some o'->id≠nid:=fun id o' h1 h2=>by subst h2;rw [hn] at h1;cases h1
 have hget': ∀id,hget ((nid,o)::H) id=if nid=id then some o else hget H id:=fun id=>rfl
 have hc: ∀{D D':Nat->Prop} {v:Value} {x:AV},(∀i,D i->DD H i)->(∀i,D i->D' i)->VR w (MM Mx H ρ) ρ D v x->VR (w.alloc blk) (MM Mx ((nid,o)::H) (upd ρ nid ⟨w.heap.size,0,none⟩)) (upd ρ nid ⟨w.heap.size,0,none⟩) D' v x:=by
  intro D D' v x hD1 hD2 hv
  refine hv.carry (by omega) (fun b hb hm=>⟨ybp hb,?_⟩) (fun id hd=>?_)
  ·rintro (h1|⟨id,o',h1,h2,h3⟩)
   ·exact hm (.inl h1)
   ·rw [hget'] at h1
    split at h1
    ·rename_i e;subst e;rw [yau] at h3;simp at h3;omega
    ·rename_i e;rw [ya3 _ _ (fun h=>e h.symm)] at h3;exact hm (.inr ⟨id,o',h1,h2,h3⟩)
  ·obtain ⟨o',ho'⟩:=hD1 id hd
   have:=hne id o' ho'
   refine ⟨hD2 id hd,ya3 _ _ this,fun arr t ha=>⟨arr,?_,rfl⟩⟩
   exact (ybp (yaj ha)).trans ha
 refine ⟨h.below.alloc h.hB blk,by have:=h.hB;omega,fun b hb=>by have:=h.mx b hb;omega,fun id o' h1 h2=>?_,fun id o' h1=>?_,fun id o' id' o'' h1 h2 h3 h4 h5=>?_,fun t=>?_,h.defers,h.size⟩
 ·rw [hget'] at h1
  split at h1
  ·rename_i e;subst e;rw [yau];exact ⟨h.hB,fun hm=>by have:=h.mx _ hm;simp at this⟩
  ·rename_i e;rw [ya3 _ _ (fun h=>e h.symm)];exact h.own id o' h1 h2
 ·rw [hget'] at h1
  split at h1
  ·rename_i e;cases h1;subst e
   exact ho _ _ _ (yau _ _ _) fun hD hv=>hc hD (fun i hi=>by obtain ⟨o',h1⟩:=hD i hi;exact ⟨o',by rw [hget',if_neg (fun h=>hne i o' h1 h.symm)];exact h1⟩) hv
  ·rename_i e
   have hr:=h.objs id o' h1
   have hup:=ya3 ρ (x:=⟨w.heap.size,0,none⟩) (id:=nid) (i:=id) (fun h=>e h.symm)
   have hDD: ∀i,DD H i->DD ((nid,o)::H) i:=fun i ⟨q,hq⟩=>⟨q,by rw [hget',if_neg (fun h=>hne i q hq h.symm)];exact hq⟩
   cases o' with
   |gone=>trivial
   |cells t c=>
    obtain ⟨g1,arr,g2,g3,g4⟩:=hr
    refine ⟨by rw [hup];exact g1,arr,?_,by rw [hup];exact g3,fun j hj=>?_⟩
    ·rw [hup];exact (ybp (yaj g2)).trans g2
    ·rw [hup];obtain ⟨u,hu,hv⟩:=g4 j hj;exact ⟨u,hu,hc (fun _ h=>h) hDD hv⟩
   |gmap t ck l=>
    obtain ⟨es,g1,g2,g3⟩:=hr
    refine ⟨es,?_,g2,fun j e' q he hl=>?_⟩
    ·rw [hup];exact (ybp (yaj g1)).trans g1
    ·obtain ⟨k1,k2,k3⟩:=g3 j e' q he hl;exact ⟨k1,k2,hc (fun _ h=>h) hDD k3⟩
   |iter mid s sn la=>
    obtain ⟨g1,g2,g3⟩:=hr
    have hm:upd ρ nid ⟨w.heap.size,0,none⟩ mid=ρ mid:=by obtain ⟨q,hq⟩:=g1;exact ya3 _ _ (hne mid q hq)
    refine ⟨hDD mid g1,by rw [hup];exact g2,?_⟩
    rw [hup,hm];exact (ybp (yaj g3)).trans g3
   |imap t l=>
    obtain ⟨g0,es,ck,g1,g2,g3⟩:=hr
    refine ⟨g0,es,ck,?_,g2,fun j e' k x he hl=>?_⟩
    ·rw [hup];exact (ybp (yaj g1)).trans g1
    ·obtain ⟨k1,k2,k3⟩:=g3 j e' k x he hl;exact ⟨k1,hc (fun _ h=>h) hDD k2,k3⟩
   |fmap t c=>
    obtain ⟨l,es,ck,g1,g2⟩:=hr
    refine ⟨l,es,ck,?_,g2⟩
    rw [hup];exact (ybp (yaj g1)).trans g1
 ·rw [hget'] at h1 h3
  split at h1<;>split at h3
  ·rename_i e1 e2;omega
  ·rename_i e1 e2
   exfalso
   subst e1
   rw [yau,ya3 _ _ (fun h=>e2 h.symm)] at h5
   have:=(h.objs id' o'' h3).lt h4
   simp at h5;omega
  ·rename_i e1 e2
   exfalso
   subst e2
   rw [yau,ya3 _ _ (fun h=>e1 h.symm)] at h5
   have:=(h.objs id o' h1).lt h2
   simp at h5;omega
  ·rename_i e1 e2
   rw [ya3 _ _ (fun h=>e1 h.symm),ya3 _ _ (fun h=>e2 h.symm)] at h5
   exact h.inj id o' id' o'' h1 h2 h3 h4 h5
 ·exact hc (fun _ h=>h) (fun i ⟨q,hq⟩=>⟨q,by rw [hget',if_neg (fun h=>hne i q hq h.symm)];exact hq⟩) (h.frv t)
theorem Sim.weaken (h:Sim B w0 Mx N w ρ fr H a) {fr':Fr} {H':Hp} (hH: ∀id o,hget H' id=some o->hget H id=some o)
  (hf: ∀t,fget fr' t= .any\/fget fr' t=fget fr t) (hO: ∀id o,hget H' id=some o-> ∀M,ObjR w M ρ (DD H) id o->ObjR w M ρ (DD H') id o)
  (hF: ∀t,∀M v,VR w M ρ (DD H) v (fget fr' t)->VR w M ρ (DD H') v (fget fr' t)):Sim B w0 Mx N w ρ fr' H' a:=by
 have hM: ∀b,¬MM Mx H ρ b-> ¬MM Mx H' ρ b:=fun b hn hm=>hn (by
  rcases hm with h1|⟨id,o,h1,h2,h3⟩
  ·exact .inl h1
  ·exact .inr ⟨id,o,hH id o h1,h2,h3⟩)
 have hc: ∀{D:Nat->Prop} {v:Value} {x:AV},VR w (MM Mx H ρ) ρ D v x->VR w (MM Mx H' ρ) ρ D v x:=fun hv=>
  hv.carry (Nat.le_refl _) (fun b _ hm=>⟨rfl,hM b hm⟩) (fun id hd=>⟨hd,rfl,fun arr t ha=>⟨arr,ha,rfl⟩⟩)
 refine ⟨h.below,h.hB,h.mx,fun id o h1 h2=>h.own id o (hH id o h1) h2,fun id o h1=>?_,fun id o id' o' h1 h2 h3 h4 h5=>h.inj id o id' o' (hH _ _ h1) h2 (hH _ _ h3) h4 h5,fun t=>?_,h.defers,h.size⟩
 ·refine hO id o h1 _ ?_
  have hr:=h.objs id o (hH id o h1)
  cases o with
  |gone=>trivial
  |cells t c=>
   obtain ⟨g1,arr,g2,g3,g4⟩:=hr
   exact ⟨g1,arr,g2,g3,fun j hj=>let ⟨u,hu,hv⟩:=g4 j hj;⟨u,hu,hc hv⟩⟩
  |gmap t ck l=>
   obtain ⟨es,g1,g2,g3⟩:=hr
   exact ⟨es,g1,g2,fun j e' q he hl=>let ⟨k1,k2,k3⟩:=g3 j e' q he hl;⟨k1,k2,hc k3⟩⟩
  |iter mid s sn la=>exact hr
  |imap t l=>
   obtain ⟨g0,es,ck,g1,g2,g3⟩:=hr
   exact ⟨g0,es,ck,g1,g2,fun j e' k x he hl=>let ⟨k1,k2,k3⟩:=g3 j e' k x he hl;⟨k1,hc k2,k3⟩⟩
  |fmap t c=>exact hr
 ·rcases hf t with e|e
  ·rw [e];exact .any _
  ·exact hF t _ _ (by rw [e];exact hc (h.frv t))
end
end Go.Proofs.YtfgbnalnbdhimaaGreatDoor
namespace Go.Proofs.YtfgbnalnbdhimaaGreatDoor
open Go Go.RowKit
def oneC:Value->Prop
 | .agg _| .tuple _=>False
 |_=>True
theorem yt8 {v:Value} (h:oneC v):v.cells= #[v]:=by cases v<;>first|rfl|exact h.elim
section
variable {P:Program} {w:World} {M:Nat->Prop} {ρ:Nat->Addr} {D:Nat->Prop}
theorem VR.oneC {v:Value} {x:AV} (h:VR w M ρ D v x) (hx:ycd x=true):oneC v:=by
 cases h<;>first|trivial|cases hx
def RL (w:World) (M:Nat->Prop) (ρ:Nat->Addr) (D:Nat->Prop) (vs:Array Value) (xs:List AV):Prop:=
 vs.size=xs.length/\ ∀(i:Nat) (v:Value) (x:AV),vs[i]?=some v->xs[i]?=some x->VR w M ρ D v x
theorem VR.cellsRL {v:Value} {x:AV} (h:VR w M ρ D v x) (hx:ycd x=true\/ ∃xs,x= .agg xs):RL w M ρ D v.cells (yaw x):=by
 rcases hx with hx|⟨xs,rfl⟩
 ·have h1:=yt8 (h.oneC hx)
  have h2:yaw x=[x]:=by cases x<;>first|rfl|cases hx
  rw [h1,h2]
  refine ⟨rfl,fun i u y hu hy=>?_⟩
  cases i with
  |zero=>simp at hu hy;subst hu hy;exact h
  |succ i=>simp at hu
 ·obtain ⟨vs,rfl,hl,hh⟩:=h.agg_inv
  exact ⟨by simpa [Value.cells,yaw] using hl,fun i u y hu hy=>hh i u y (by simpa [Value.cells] using hu) hy⟩
theorem yde {b t:Nat} {o:Nat}: ∀(vs:List Value) (i:Nat) (w:World) (arr:Array Value),w.heap[b]?=some (.cells arr t (0,0))->o+i+vs.length<=arr.size->(∀v∈vs,oneC v)->
  ∃w' arr',(storeCells ⟨b,o,none⟩ vs i).run P w= .ok () w'/\w'.heap[b]?=some (.cells arr' t (0,0))/\arr'.size=arr.size/\w'.heap.size=w.heap.size/\w'.os=w.os/\w'.tape=w.tape/\w'.output=w.output/\
   (∀k,k≠b->w'.heap[k]?=w.heap[k]?)/\ ∀k,arr'[k]?=if o+i<=k/\k<o+i+vs.length then vs[k-(o+i)]? else arr[k]?
 |[],i,w,arr,hb,_,_=>⟨w,arr,by simp [storeCells],hb,rfl,rfl,rfl,rfl,rfl,fun _ _=>rfl,fun k=>by rw [if_neg (by simp)]⟩
 |v::vs,i,w,arr,hb,hl,h1=>by
  have hv:=h1 v (by simp)
  have hlt:=yaj hb
  have ha:(⟨b,o,none⟩:Addr).add i=⟨b,o+i,none⟩:=by rw [ych rfl]
  simp only [List.length_cons] at hl
  have hcell:w.cell? ⟨b,o+i,none⟩=some (arr[o+i]'(by omega)):=by simp [World.cell?,hb,Array.getElem?_eq_getElem (show o+i<arr.size by omega)]
  have hfz:w.frozen? ⟨b,o+i,none⟩=false:=by simp [World.frozen?,hb]
  have hb1:(w.setCell ⟨b,o+i,none⟩ v).heap[b]?=some (.cells (arr.setIfInBounds (o+i) v) t (0,0)):=by
   simp [World.setCell,Array.getElem?_modify,hb]
  have hrun:(store ⟨b,o+i,none⟩ v).run P w= .ok () (w.setCell ⟨b,o+i,none⟩ v):=by
   cases v<;>first|(simp [store,Sem.run,hcell,hfz];done)|exact hv.elim
  obtain ⟨w',arr',r1,r2,r3,r4,r5,r6,r7,r8,r9⟩:=yde (o:=o) vs (i+1) (w.setCell ⟨b,o+i,none⟩ v) _ hb1 (by simp;omega) (fun u hu=>h1 u (by simp [hu]))
  refine ⟨w',arr',?_,r2,by simpa using r3,by simpa [World.setCell] using r4,r5,r6,r7,fun k hk=>(r8 k hk).trans (Below.heap_setCell w _ v k hk),fun k=>?_⟩
  ·simp only [storeCells,ha]
   simp [hrun,r1]
  ·rw [r9 k]
   by_cases c1:o+(i+1)<=k/\k<o+(i+1)+vs.length
   ·rw [if_pos c1,if_pos (by simp only [List.length_cons];omega)]
    have:k-(o+i)=(k-(o+(i+1)))+1:=by omega
    rw [this,List.getElem?_cons_succ]
   ·rw [if_neg c1]
    by_cases c2:k=o+i
    ·subst c2
     rw [if_pos (by simp only [List.length_cons];omega)]
     simp [show o+i<arr.size by omega]
    ·rw [if_neg (by simp only [List.length_cons];omega)]
     rw [Array.getElem?_setIfInBounds];simp [Ne.symm c2]
end
section
variable {P:Program} {B:Nat} {w0:ybi} {Mx:Nat->Prop} {N:Nat} {w:World} {ρ:Nat->Addr} {fr:Fr} {H:Hp} {a:Act}
theorem ygy {id:Nat} {o o':AObj} (h:hget H id=some o) (hl:o.live=o'.live) (b:Nat):MM Mx (hset H id o') ρ b↔MM Mx H ρ b:=by
 constructor
 ·rintro (h1|⟨i,q,h1,h2,h3⟩)
  ·exact .inl h1
  ·by_cases e:id=i
   ·subst e;rw [ya0 h] at h1;cases h1;exact .inr ⟨id,o,h,by rw [hl];exact h2,h3⟩
   ·rw [yaf e] at h1;exact .inr ⟨i,q,h1,h2,h3⟩
 ·rintro (h1|⟨i,q,h1,h2,h3⟩)
  ·exact .inl h1
  ·by_cases e:id=i
   ·subst e;rw [h] at h1;cases h1;exact .inr ⟨id,o',ya0 h,by rw [←hl];exact h2,h3⟩
   ·exact .inr ⟨i,q,by rw [yaf e];exact h1,h2,h3⟩
theorem yee {id:Nat} {o o':AObj} (h:hget H id=some o) (i:Nat):DD (hset H id o') i↔DD H i:=by
 by_cases e:id=i
 ·subst e;exact ⟨fun _=>⟨o,h⟩,fun _=>⟨o',ya0 h⟩⟩
 ·unfold DD;rw [yaf e]
theorem Sim.change (h:Sim B w0 Mx N w ρ fr H a) {id t:Nat} {c c':Cs} {arr arr':Array Value} {w':World} (hid:hget H id=some (.cells t c)) (harr:w.heap[(ρ id).block]?=some (.cells arr t (0,0)))
  (h1:w'.heap[(ρ id).block]?=some (.cells arr' t (0,0))) (h2:arr'.size=arr.size) (h3:w'.heap.size=w.heap.size) (h4:w'.os=w.os) (h5:w'.tape=w.tape) (h6:w'.output=w.output)
  (h7: ∀k,k≠(ρ id).block->w'.heap[k]?=w.heap[k]?) (hlen:(ρ id).off+c'.len<=arr'.size)
  (hv: ∀j,j<c'.len-> ∃u,arr'[(ρ id).off+j]?=some u/\VR w (MM Mx H ρ) ρ (DD H) u (c'.get j)):Sim B w0 Mx N w' ρ fr (hset H id (.cells t c')) a:=by
 have hM: ∀b,MM Mx (hset H id (.cells t c')) ρ b↔MM Mx H ρ b:=ygy hid rfl
 have hD: ∀i,DD (hset H id (.cells t c')) i↔DD H i:=yee hid
 have hown:=h.own id _ hid rfl
 have hc: ∀{v:Value} {x:AV},VR w (MM Mx H ρ) ρ (DD H) v x->VR w' (MM Mx (hset H id (.cells t c')) ρ) ρ (DD (hset H id (.cells t c'))) v x:=fun hv=>by
  refine hv.carry (by omega) (fun b hb hm=>?_) (fun i hi=>⟨(hD i).2 hi,rfl,fun ar tt har=>?_⟩)
  ·have:b≠(ρ id).block:=fun e=>hm (.inr ⟨id,_,hid,rfl,e.symm⟩)
   exact ⟨h7 b this,fun hh=>hm ((hM b).1 hh)⟩
  ·by_cases e:(ρ i).block=(ρ id).block
   ·rw [e] at har⊢;rw [harr] at har;cases har;exact ⟨arr',h1,h2⟩
   ·exact ⟨ar,(h7 _ e).trans har,rfl⟩
 refine ⟨⟨h4.trans h.below.os,h5.trans h.below.tape,h6.trans h.below.output,by have:=h.below.size;omega,fun k hk=>(h7 k (by omega)).trans (h.below.block k hk)⟩,by have:=h.hB;omega,fun b hb=>by have:=h.mx b hb;omega,fun i o g1 g2=>?_,fun i o g1=>?_,fun i o i' o' g1 g2 g3 g4 g5=>?_,fun tt=>hc (h.frv tt),h.defers,h.size⟩
 ·by_cases e:id=i
  ·subst e;exact hown
  ·rw [yaf e] at g1;exact h.own i o g1 g2
 ·by_cases e:id=i
  ·subst e;rw [ya0 hid] at g1;cases g1
   have:=h.objs id _ hid
   exact ⟨this.1,arr',h1,hlen,fun j hj=>let ⟨u,hu,hr⟩:=hv j hj;⟨u,hu,hc hr⟩⟩
  ·rw [yaf e] at g1
   have hr:=h.objs i o g1
   cases o with
   |gone=>trivial
   |cells tt cc=>
    obtain ⟨k1,ar,k2,k3,k4⟩:=hr
    have hne:(ρ i).block≠(ρ id).block:=fun e'=>e (h.inj _ _ _ _ hid rfl g1 rfl e'.symm)
    exact ⟨k1,ar,(h7 _ hne).trans k2,k3,fun j hj=>let ⟨u,hu,hv⟩:=k4 j hj;⟨u,hu,hc hv⟩⟩
   |gmap tt ck l=>
    obtain ⟨es,k1,k2,k3⟩:=hr
    have hne:(ρ i).block≠(ρ id).block:=fun e'=>e (h.inj _ _ _ _ hid rfl g1 rfl e'.symm)
    exact ⟨es,(h7 _ hne).trans k1,k2,fun j e' q he hl=>let ⟨g1,g2,g3⟩:=k3 j e' q he hl;⟨g1,g2,hc g3⟩⟩
   |iter mid s sn la=>
    obtain ⟨k1,k2,k3⟩:=hr
    have hne:(ρ i).block≠(ρ id).block:=fun e'=>e (h.inj _ _ _ _ hid rfl g1 rfl e'.symm)
    exact ⟨(hD mid).2 k1,k2,(h7 _ hne).trans k3⟩
   |imap tt l=>
    obtain ⟨k0,es,ck,k1,k2,k3⟩:=hr
    have hne:(ρ i).block≠(ρ id).block:=fun e'=>e (h.inj _ _ _ _ hid rfl g1 rfl e'.symm)
    exact ⟨k0,es,ck,(h7 _ hne).trans k1,k2,fun j e' k x he hl=>let ⟨g1,g2,g3⟩:=k3 j e' k x he hl;⟨g1,hc g2,g3⟩⟩
   |fmap tt l=>
    obtain ⟨k0,es,ck,k1,k2⟩:=hr
    have hne:(ρ i).block≠(ρ id).block:=fun e'=>e (h.inj _ _ _ _ hid rfl g1 rfl e'.symm)
    exact ⟨k0,es,ck,(h7 _ hne).trans k1,k2⟩
 ·have key: ∀i o,hget (hset H id (.cells t c')) i=some o->o.live=true-> ∃o',hget H i=some o'/\o'.live=true:=fun i o g1 g2=>by
   by_cases e:id=i
   ·subst e;exact ⟨_,hid,rfl⟩
   ·rw [yaf e] at g1;exact ⟨o,g1,g2⟩
  obtain ⟨q,q1,q2⟩:=key i o g1 g2
  obtain ⟨q',q3,q4⟩:=key i' o' g3 g4
  exact h.inj i q i' q' q1 q2 q3 q4 g5
def ydw (c:Cs) (off:Nat):List AV->Cs
 |[]=>c
 |x::r=>ydw (c.set off x) (off+1) r
theorem yj0 (xs:List AV): ∀(c:Cs) (off:Nat),(ydw c off xs).len=c.len:=by
 induction xs with
 |nil=>intro c off;rfl
 |cons x r ih=>intro c off;simp only [ydw];rw [ih,Cs.len_set]
theorem yrd (xs:List AV): ∀(c:Cs) (off j:Nat),off+xs.length<=c.len->j<c.len->(ydw c off xs).get j=if off<=j/\j<off+xs.length then xs.getD (j-off) .any else c.get j:=by
 induction xs with
 |nil=>intro c off j _ _;simp [ydw];omega
 |cons x r ih=>
  intro c off j hl hj
  simp only [ydw]
  rw [ih (c.set off x) (off+1) j (by rw [Cs.len_set];simp at hl;omega) (by rw [Cs.len_set];exact hj),Cs.get_set _ _ _ _ hj]
  simp only [List.length_cons] at*
  by_cases c1:off+1<=j/\j<off+1+r.length
  ·rw [if_pos c1,if_pos (by omega)]
   have:j-off=(j-(off+1))+1:=by omega
   rw [this];simp
  ·rw [if_neg c1]
   by_cases c2:off=j
   ·subst c2;simp
   ·rw [if_neg c2,if_neg (by omega)]
def stF (P:Program) (H:Hp) (t:Nat) (x y:AV):Option (Prop×Nat×AObj):=
 match x with
 | .ptr id off=>match hget H id with
   |some (.cells t' c)=>match tsz P t with
    |some n=>if (yaw y).all ycd=true/\(yaw y).length=n then some (off+n<=c.len,id, .cells t' (ydw c off (yaw y))) else none
    |none=>none
   |_=>none
 |_=>none
theorem ynj (h:Sim B w0 Mx N w ρ fr H a) {t:Nat} {x y:AV} {u v:Value} {p:Prop} {id:Nat} {ob:AObj} (hu:VR w (MM Mx H ρ) ρ (DD H) u x) (hv:VR w (MM Mx H ρ) ρ (DD H) v y)
  (hs:stF P H t x y=some (p,id,ob)) (hp:p): ∃w',(Instr.storeAt t u v).run P w= .ok () w'/\Sim B w0 Mx N w' ρ fr (hset H id ob) a:=by
 unfold stF at hs
 split at hs
 ·rename_i id' off
  split at hs
  ·rename_i t' c ho
   split at hs
   ·rename_i n hn
    split at hs
    ·rename_i hok
     cases hs
     obtain ⟨rfl,_⟩:=hu.ptr_inv
     have hobj:=h.objs _ _ ho
     obtain ⟨hsp,arr,hb,hl,hcs⟩:=hobj
     have hy:ycd y=true\/ ∃xs,y= .agg xs:=by
      cases y<;>first|exact .inr ⟨_,rfl⟩|exact .inl (by simpa [yaw] using hok.1)|simp [yaw,ycd] at hok
     obtain ⟨hsz,hrl⟩:=hv.cellsRL hy
     have hone: ∀z∈v.cells.toList,oneC z:=by
      intro z hz
      obtain ⟨i,hi⟩:=List.mem_iff_getElem?.1 hz
      have hi':v.cells[i]?=some z:=by simpa using hi
      have hlt:i<(yaw y).length:=by rw [←hsz];exact (Array.getElem?_eq_some_iff.1 hi').1
      have hx:=List.getElem?_eq_getElem hlt
      exact (hrl i z _ hi' hx).oneC (by
       have:=List.all_eq_true.1 hok.1 _ (List.getElem_mem hlt);exact this)
     have hlen:v.cells.toList.length=n:=by simp [hsz,hok.2]
     have ead:(ρ id).add off=⟨(ρ id).block,(ρ id).off+off,none⟩:=ych hsp off
     obtain ⟨w',arr',r1,r2,r3,r4,r5,r6,r7,r8,r9⟩:=yde (P:=P) (b:=(ρ id).block) (t:=t') (o:=(ρ id).off+off) v.cells.toList 0 w arr hb (by rw [hlen];omega) hone
     refine ⟨w',?_,h.change ho hb r2 r3 r4 r5 r6 r7 r8 (by rw [yj0,r3];exact hl) fun j hj=>?_⟩
     ·have hsz':v.cells.size=n:=by rw [hsz,hok.2]
      simp [Instr.storeAt,Instr.sureAddr,storeVar,yap hn,hsz',ead,r1]
     ·rw [yj0] at hj
      rw [yrd _ _ _ _ (by rw [hok.2];exact hp) hj]
      rw [r9]
      by_cases c1:off<=j/\j<off+(yaw y).length
      ·rw [if_pos c1,if_pos (by rw [hlen];rw [hok.2] at c1;omega)]
       have e1:(ρ id).off+j-((ρ id).off+off+0)=j-off:=by omega
       rw [e1]
       have hlt:j-off<(yaw y).length:=by omega
       have hlt':j-off<v.cells.size:=by rw [hsz];exact hlt
       refine ⟨v.cells[j-off],by simp [hlt'],?_⟩
       have:=hrl (j-off) v.cells[j-off] (yaw y)[j-off] (by simp [hlt']) (List.getElem?_eq_getElem hlt)
       simpa [hlt] using this
      ·rw [if_neg c1,if_neg (by rw [hlen];rw [hok.2] at c1;omega)]
       exact hcs j hj
    ·cases hs
   ·cases hs
  ·cases hs
 ·cases hs
def updI (g:Int->Option Int) (n x:Int):Int->Option Int:=fun k=>if k=n then some x else g k
def updB (g:Int->Option Bool) (n:Int) (x:Bool):Int->Option Bool:=fun k=>if k=n then some x else g k
def updP (g:Int->Option (Int×Int)) (n x y:Int):Int->Option (Int×Int):=fun k=>if k=n then some (x,y) else g k
def muM (n:Int) (v:AV) (id:Nat):Option AObj->Option (Nat×AObj)
 |some (.fmap t (.ints g))=>match v with
  | .int .i64 x=>some (id, .fmap t (.ints (updI g n x)))
  |_=>none
 |some (.fmap t (.bools g))=>match v with
  | .bool x=>some (id, .fmap t (.bools (updB g n x)))
  |_=>none
 |some (.fmap t (.pairs g))=>match v with
  | .agg [.int .i64 x, .int .i64 y]=>some (id, .fmap t (.pairs (updP g n x y)))
  |_=>none
 |some (.imap t l)=>if okM v=true then some (id, .imap t (lput l n v)) else none
 |_=>none
def ygi:List (ByteArray×Nat×AV)->ByteArray->AV->List (ByteArray×Nat×AV)
 |[],_,_=>[]
 |q::l,s,v=>if q.1=s then (s,q.2.1,v)::l else q::ygi l s v
def muG (s:ByteArray) (v:AV) (id:Nat):Option AObj->Option (Nat×AObj)
 |some (.gmap t ck l)=>if t<1000000000 then match ybo l s with
  |some _=>some (id, .gmap t ck (ygi l s v))
  |none=>some (id, .gmap t (ck+1) (l++[(s,ck,v)]))
  else none
 |_=>none
def muP (s:ByteArray) (v:AV) (id:Nat):Option AObj->Option (Nat×AObj)
 |some (.gmap t ck l)=>if t<1000000000 then none else match ybo l s with
  |some _=>some (id, .gmap t ck (ygi l s v))
  |none=>some (id, .gmap t (ck+1) (l++[(s,ck,v)]))
 |_=>none
def muK (P:Program) (H:Hp):TK->AV->AV->AV->Option (Nat×AObj)
 | .int .i64, .mp id, .int .i64 n,v=>muM n v id (hget H id)
 | .str, .mp id, .str s,v=>muG s v id (hget H id)
 | .arr 2 e, .mp id, .agg [.int .i64 a, .int .i64 b],v=>yhe P e (muP (kEnc a b) v id (hget H id))
 |_,_,_,_=>none
def muF (P:Program) (H:Hp) (t:Nat) (m k v:AV):Option (Nat×AObj):=match tk P t with
 | .map kt _=>muK P H (tk P kt) m k v
 |_=>none
theorem Sim.changeM (h:Sim B w0 Mx N w ρ fr H a) {id t:Nat} {c c':MF} {es es':Array MapEntry} {ck ck':Nat} (hid:hget H id=some (.fmap t c)) (harr:w.heap[(ρ id).block]?=some (.map es ck)) {l:List (Int×Value×Nat)}
  (hl:es'.toList=l.map (fun q=>⟨.int .i64 q.1,q.2.1,q.2.2⟩)) (hf: ∀n:Int,(l.find? fun q=>q.1==n).map (·.2.1)=c'.val n):
  Sim B w0 Mx N {w with heap:=w.heap.setIfInBounds (ρ id).block (.map es' ck')} ρ fr (hset H id (.fmap t c')) a:=by
 have hM: ∀b,MM Mx (hset H id (.fmap t c')) ρ b↔MM Mx H ρ b:=ygy hid rfl
 have hD: ∀i,DD (hset H id (.fmap t c')) i↔DD H i:=yee hid
 have hown:=h.own id _ hid rfl
 have hlt:(ρ id).block<w.heap.size:=yaj harr
 have h1:(w.heap.setIfInBounds (ρ id).block (.map es' ck'))[(ρ id).block]?=some (.map es' ck'):=by simp [hlt]
 have h7: ∀k,k≠(ρ id).block->(w.heap.setIfInBounds (ρ id).block (.map es' ck'))[k]?=w.heap[k]?:=fun k hk=>by
  rw [Array.getElem?_setIfInBounds_ne (Ne.symm hk)]
 have hc: ∀{v:Value} {x:AV},VR w (MM Mx H ρ) ρ (DD H) v x->VR {w with heap:=w.heap.setIfInBounds (ρ id).block (.map es' ck')} (MM Mx (hset H id (.fmap t c')) ρ) ρ (DD (hset H id (.fmap t c'))) v x:=fun hv=>by
  refine hv.carry (by simp) (fun b hb hm=>?_) (fun i hi=>⟨(hD i).2 hi,rfl,fun ar tt har=>?_⟩)
  ·have:b≠(ρ id).block:=fun e=>hm (.inr ⟨id,_,hid,rfl,e.symm⟩)
   exact ⟨h7 b this,fun hh=>hm ((hM b).1 hh)⟩
  ·by_cases e:(ρ i).block=(ρ id).block
   ·rw [e] at har;rw [harr] at har;cases har
   ·exact ⟨ar,(h7 _ e).trans har,rfl⟩
 refine ⟨⟨h.below.os,h.below.tape,h.below.output,by simpa using h.below.size,fun k hk=>(h7 k (by omega)).trans (h.below.block k hk)⟩,by simpa using h.hB,fun b hb=>by simpa using h.mx b hb,fun i o g1 g2=>?_,fun i o g1=>?_,fun i o i' o' g1 g2 g3 g4 g5=>?_,fun tt=>hc (h.frv tt),h.defers,h.size⟩
 ·by_cases e:id=i
  ·subst e;exact hown
  ·rw [yaf e] at g1;exact h.own i o g1 g2
 ·by_cases e:id=i
  ·subst e;rw [ya0 hid] at g1;cases g1
   exact ⟨l,es',ck',h1,hl,hf⟩
  ·rw [yaf e] at g1
   have hr:=h.objs i o g1
   cases o with
   |gone=>trivial
   |cells tt cc=>
    obtain ⟨k1,ar,k2,k3,k4⟩:=hr
    have hne:(ρ i).block≠(ρ id).block:=fun e'=>e (h.inj _ _ _ _ hid rfl g1 rfl e'.symm)
    exact ⟨k1,ar,(h7 _ hne).trans k2,k3,fun j hj=>let ⟨u,hu,hv⟩:=k4 j hj;⟨u,hu,hc hv⟩⟩
   |gmap tt ck l=>
    obtain ⟨es,k1,k2,k3⟩:=hr
    have hne:(ρ i).block≠(ρ id).block:=fun e'=>e (h.inj _ _ _ _ hid rfl g1 rfl e'.symm)
    exact ⟨es,(h7 _ hne).trans k1,k2,fun j e' q he hl=>let ⟨g1,g2,g3⟩:=k3 j e' q he hl;⟨g1,g2,hc g3⟩⟩
   |iter mid s sn la=>
    obtain ⟨k1,k2,k3⟩:=hr
    have hne:(ρ i).block≠(ρ id).block:=fun e'=>e (h.inj _ _ _ _ hid rfl g1 rfl e'.symm)
    exact ⟨(hD mid).2 k1,k2,(h7 _ hne).trans k3⟩
   |imap tt l=>
    obtain ⟨k0,es,ck,k1,k2,k3⟩:=hr
    have hne:(ρ i).block≠(ρ id).block:=fun e'=>e (h.inj _ _ _ _ hid rfl g1 rfl e'.symm)
    exact ⟨k0,es,ck,(h7 _ hne).trans k1,k2,fun j e' k x he hl=>let ⟨g1,g2,g3⟩:=k3 j e' k x he hl;⟨g1,hc g2,g3⟩⟩
   |fmap tt l=>
    obtain ⟨k0,es,ck,k1,k2⟩:=hr
    have hne:(ρ i).block≠(ρ id).block:=fun e'=>e (h.inj _ _ _ _ hid rfl g1 rfl e'.symm)
    exact ⟨k0,es,ck,(h7 _ hne).trans k1,k2⟩
 ·have key: ∀i o,hget (hset H id (.fmap t c')) i=some o->o.live=true-> ∃o',hget H i=some o'/\o'.live=true:=fun i o g1 g2=>by
   by_cases e:id=i
   ·subst e;exact ⟨_,hid,rfl⟩
   ·rw [yaf e] at g1;exact ⟨o,g1,g2⟩
  obtain ⟨q,q1,q2⟩:=key i o g1 g2
  obtain ⟨q',q3,q4⟩:=key i' o' g3 g4
  exact h.inj i q i' q' q1 q2 q3 q4 g5
theorem Sim.chgO (h:Sim B w0 Mx N w ρ fr H a) {id:Nat} {o1 o2:AObj} {b1 b2:Obj} (hid:hget H id=some o1) (hl1:o1.live=true) (hl2:o2.live=true) (harr:w.heap[(ρ id).block]?=some b1) (hnc: ∀arr t,b1≠ .cells arr t (0,0))
  (hob: ∀(M':Nat->Prop),(∀{v:Value} {x:AV},VR w (MM Mx H ρ) ρ (DD H) v x->VR {w with heap:=w.heap.setIfInBounds (ρ id).block b2} M' ρ (DD (hset H id o2)) v x)->ObjR {w with heap:=w.heap.setIfInBounds (ρ id).block b2} M' ρ (DD (hset H id o2)) id o2):
  Sim B w0 Mx N {w with heap:=w.heap.setIfInBounds (ρ id).block b2} ρ fr (hset H id o2) a:=by
 have hM: ∀b,MM Mx (hset H id o2) ρ b↔MM Mx H ρ b:=ygy hid (by rw [hl1,hl2])
 have hD: ∀i,DD (hset H id o2) i↔DD H i:=yee hid
 have hown:=h.own id _ hid hl1
 have hlt:(ρ id).block<w.heap.size:=yaj harr
 have h1:(w.heap.setIfInBounds (ρ id).block b2)[(ρ id).block]?=some b2:=by simp [hlt]
 have h7: ∀k,k≠(ρ id).block->(w.heap.setIfInBounds (ρ id).block b2)[k]?=w.heap[k]?:=fun k hk=>by
  rw [Array.getElem?_setIfInBounds_ne (Ne.symm hk)]
 have hc: ∀{v:Value} {x:AV},VR w (MM Mx H ρ) ρ (DD H) v x->VR {w with heap:=w.heap.setIfInBounds (ρ id).block b2} (MM Mx (hset H id o2) ρ) ρ (DD (hset H id o2)) v x:=fun hv=>by
  refine hv.carry (by simp) (fun b hb hm=>?_) (fun i hi=>⟨(hD i).2 hi,rfl,fun ar tt har=>?_⟩)
  ·have:b≠(ρ id).block:=fun e=>hm (.inr ⟨id,_,hid,hl1,e.symm⟩)
   exact ⟨h7 b this,fun hh=>hm ((hM b).1 hh)⟩
  ·by_cases e:(ρ i).block=(ρ id).block
   ·rw [e] at har;rw [harr] at har;exact absurd (Option.some.inj har) (hnc ar tt)
   ·exact ⟨ar,(h7 _ e).trans har,rfl⟩
 refine ⟨⟨h.below.os,h.below.tape,h.below.output,by simpa using h.below.size,fun k hk=>(h7 k (by omega)).trans (h.below.block k hk)⟩,by simpa using h.hB,fun b hb=>by simpa using h.mx b hb,fun i o g1 g2=>?_,fun i o g1=>?_,fun i o i' o' g1 g2 g3 g4 g5=>?_,fun tt=>hc (h.frv tt),h.defers,h.size⟩
 ·by_cases e:id=i
  ·subst e;exact hown
  ·rw [yaf e] at g1;exact h.own i o g1 g2
 ·by_cases e:id=i
  ·subst e;rw [ya0 hid] at g1;cases g1
   exact hob _ hc
  ·rw [yaf e] at g1
   have hr:=h.objs i o g1
   cases o with
   |gone=>trivial
   |cells tt cc=>
    obtain ⟨k1,ar,k2,k3,k4⟩:=hr
    have hne:(ρ i).block≠(ρ id).block:=fun e'=>e (h.inj _ _ _ _ hid hl1 g1 rfl e'.symm)
    exact ⟨k1,ar,(h7 _ hne).trans k2,k3,fun j hj=>let ⟨u,hu,hv⟩:=k4 j hj;⟨u,hu,hc hv⟩⟩
   |gmap tt ck l=>
    obtain ⟨es,k1,k2,k3⟩:=hr
    have hne:(ρ i).block≠(ρ id).block:=fun e'=>e (h.inj _ _ _ _ hid hl1 g1 rfl e'.symm)
    exact ⟨es,(h7 _ hne).trans k1,k2,fun j e' q he hl=>let ⟨g1,g2,g3⟩:=k3 j e' q he hl;⟨g1,g2,hc g3⟩⟩
   |iter mid s sn la=>
    obtain ⟨k1,k2,k3⟩:=hr
    have hne:(ρ i).block≠(ρ id).block:=fun e'=>e (h.inj _ _ _ _ hid hl1 g1 rfl e'.symm)
    exact ⟨(hD mid).2 k1,k2,(h7 _ hne).trans k3⟩
   |imap tt l=>
    obtain ⟨k0,es,ck,k1,k2,k3⟩:=hr
    have hne:(ρ i).block≠(ρ id).block:=fun e'=>e (h.inj _ _ _ _ hid hl1 g1 rfl e'.symm)
    exact ⟨k0,es,ck,(h7 _ hne).trans k1,k2,fun j e' k x he hl=>let ⟨g1,g2,g3⟩:=k3 j e' k x he hl;⟨g1,hc g2,g3⟩⟩
   |fmap tt l=>
    obtain ⟨k0,es,ck,k1,k2⟩:=hr
    have hne:(ρ i).block≠(ρ id).block:=fun e'=>e (h.inj _ _ _ _ hid hl1 g1 rfl e'.symm)
    exact ⟨k0,es,ck,(h7 _ hne).trans k1,k2⟩
 ·have key: ∀i o,hget (hset H id o2) i=some o->o.live=true-> ∃o',hget H i=some o'/\o'.live=true:=fun i o g1 g2=>by
   by_cases e:id=i
   ·subst e;exact ⟨_,hid,hl1⟩
   ·rw [yaf e] at g1;exact ⟨o,g1,g2⟩
  obtain ⟨q,q1,q2⟩:=key i o g1 g2
  obtain ⟨q',q3,q4⟩:=key i' o' g3 g4
  exact h.inj i q i' q' q1 q2 q3 q4 g5
theorem Sim.changeI (h:Sim B w0 Mx N w ρ fr H a) {id t:Nat} {l l2:List (Int×AV)} {es es':Array MapEntry} {ck ck':Nat} (hid:hget H id=some (.imap t l)) (harr:w.heap[(ρ id).block]?=some (.map es ck))
  (hk: ∀k x,(k,x)∈l2->okM x=true) (hl:es'.size=l2.length) (hf: ∀(j:Nat) (e:MapEntry) (k:Int) (x:AV),es'[j]?=some e->l2[j]?=some (k,x)->e.key= .int .i64 k/\VR w (MM Mx H ρ) ρ (DD H) e.val x):
  Sim B w0 Mx N {w with heap:=w.heap.setIfInBounds (ρ id).block (.map es' ck')} ρ fr (hset H id (.imap t l2)) a:=by
 have hM: ∀b,MM Mx (hset H id (.imap t l2)) ρ b↔MM Mx H ρ b:=ygy hid rfl
 have hD: ∀i,DD (hset H id (.imap t l2)) i↔DD H i:=yee hid
 have hown:=h.own id _ hid rfl
 have hlt:(ρ id).block<w.heap.size:=yaj harr
 have h1:(w.heap.setIfInBounds (ρ id).block (.map es' ck'))[(ρ id).block]?=some (.map es' ck'):=by simp [hlt]
 have h7: ∀k,k≠(ρ id).block->(w.heap.setIfInBounds (ρ id).block (.map es' ck'))[k]?=w.heap[k]?:=fun k hk=>by
  rw [Array.getElem?_setIfInBounds_ne (Ne.symm hk)]
 have hc: ∀{v:Value} {x:AV},VR w (MM Mx H ρ) ρ (DD H) v x->VR {w with heap:=w.heap.setIfInBounds (ρ id).block (.map es' ck')} (MM Mx (hset H id (.imap t l2)) ρ) ρ (DD (hset H id (.imap t l2))) v x:=fun hv=>by
  refine hv.carry (by simp) (fun b hb hm=>?_) (fun i hi=>⟨(hD i).2 hi,rfl,fun ar tt har=>?_⟩)
  ·have:b≠(ρ id).block:=fun e=>hm (.inr ⟨id,_,hid,rfl,e.symm⟩)
   exact ⟨h7 b this,fun hh=>hm ((hM b).1 hh)⟩
  ·by_cases e:(ρ i).block=(ρ id).block
   ·rw [e] at har;rw [harr] at har;cases har
   ·exact ⟨ar,(h7 _ e).trans har,rfl⟩
 refine ⟨⟨h.below.os,h.below.tape,h.below.output,by simpa using h.below.size,fun k hk=>(h7 k (by omega)).trans (h.below.block k hk)⟩,by simpa using h.hB,fun b hb=>by simpa using h.mx b hb,fun i o g1 g2=>?_,fun i o g1=>?_,fun i o i' o' g1 g2 g3 g4 g5=>?_,fun tt=>hc (h.frv tt),h.defers,h.size⟩
 ·by_cases e:id=i
  ·subst e;exact hown
  ·rw [yaf e] at g1;exact h.own i o g1 g2
 ·by_cases e:id=i
  ·subst e;rw [ya0 hid] at g1;cases g1
   exact ⟨hk,es',ck',h1,hl,fun j e k x q1 q2=>⟨(hf j e k x q1 q2).1,hc (hf j e k x q1 q2).2,rfl⟩⟩
  ·rw [yaf e] at g1
   have hr:=h.objs i o g1
   cases o with
   |gone=>trivial
   |cells tt cc=>
    obtain ⟨k1,ar,k2,k3,k4⟩:=hr
    have hne:(ρ i).block≠(ρ id).block:=fun e'=>e (h.inj _ _ _ _ hid rfl g1 rfl e'.symm)
    exact ⟨k1,ar,(h7 _ hne).trans k2,k3,fun j hj=>let ⟨u,hu,hv⟩:=k4 j hj;⟨u,hu,hc hv⟩⟩
   |gmap tt ck l=>
    obtain ⟨es,k1,k2,k3⟩:=hr
    have hne:(ρ i).block≠(ρ id).block:=fun e'=>e (h.inj _ _ _ _ hid rfl g1 rfl e'.symm)
    exact ⟨es,(h7 _ hne).trans k1,k2,fun j e' q he hl=>let ⟨g1,g2,g3⟩:=k3 j e' q he hl;⟨g1,g2,hc g3⟩⟩
   |iter mid s sn la=>
    obtain ⟨k1,k2,k3⟩:=hr
    have hne:(ρ i).block≠(ρ id).block:=fun e'=>e (h.inj _ _ _ _ hid rfl g1 rfl e'.symm)
    exact ⟨(hD mid).2 k1,k2,(h7 _ hne).trans k3⟩
   |imap tt l=>
    obtain ⟨k0,es,ck,k1,k2,k3⟩:=hr
    have hne:(ρ i).block≠(ρ id).block:=fun e'=>e (h.inj _ _ _ _ hid rfl g1 rfl e'.symm)
    exact ⟨k0,es,ck,(h7 _ hne).trans k1,k2,fun j e' k x he hl=>let ⟨g1,g2,g3⟩:=k3 j e' k x he hl;⟨g1,hc g2,g3⟩⟩
   |fmap tt l=>
    obtain ⟨k0,es,ck,k1,k2⟩:=hr
    have hne:(ρ i).block≠(ρ id).block:=fun e'=>e (h.inj _ _ _ _ hid rfl g1 rfl e'.symm)
    exact ⟨k0,es,ck,(h7 _ hne).trans k1,k2⟩
 ·have key: ∀i o,hget (hset H id (.imap t l2)) i=some o->o.live=true-> ∃o',hget H i=some o'/\o'.live=true:=fun i o g1 g2=>by
   by_cases e:id=i
   ·subst e;exact ⟨_,hid,rfl⟩
   ·rw [yaf e] at g1;exact ⟨o,g1,g2⟩
  obtain ⟨q,q1,q2⟩:=key i o g1 g2
  obtain ⟨q',q3,q4⟩:=key i' o' g3 g4
  exact h.inj i q i' q' q1 q2 q3 q4 g5
theorem yy1 {l:List (Int×AV)} {n:Int} {v:AV} {k:Int} {x:AV} (h:(k,x)∈lput l n v):(k,x)∈l\/(k,x)=(n,v):=by
 induction l with
 |nil=>simpa [lput] using h
 |cons q l ih=>
  unfold lput at h
  split at h
  ·rcases List.mem_cons.1 h with h|h
   ·exact .inr h
   ·exact .inl (List.mem_cons_of_mem _ h)
  ·rcases List.mem_cons.1 h with h|h
   ·exact .inl (h▸List.mem_cons_self ..)
   ·rcases ih h with h|h
    ·exact .inl (List.mem_cons_of_mem _ h)
    ·exact .inr h
theorem yh8 {n:Int} {v:AV}: ∀(l:List (Int×AV)),ycb l n=none->lput l n v=l++[(n,v)]
 |[],_=>rfl
 |q::l,h=>by
  unfold ycb at h
  simp only [List.find?_cons] at h
  by_cases e:q.1=n
  ·have:(q.1==n)=true:=by simpa using e
   simp [this] at h
  ·have:(q.1==n)=false:=by simpa using e
   rw [this] at h
   unfold lput;rw [if_neg e,yh8 l h];rfl
theorem yrx {n:Int} {v:AV}: ∀(l:List (Int×AV)) (j:Nat),(∃q,l[j]?=some q/\q.1=n)->(∀m<j,∀q,l[m]?=some q->q.1≠n)->lput l n v=l.set j (n,v)
 |[],j,h,_=>by obtain ⟨q,h,_⟩:=h;simp at h
 |q::l,0,h,_=>by
  obtain ⟨q',h1,h2⟩:=h
  simp only [List.getElem?_cons_zero,Option.some.injEq] at h1
  subst h1
  unfold lput;rw [if_pos h2];rfl
 |q::l,j+1,h,hm=>by
  unfold lput
  rw [if_neg (hm 0 (by omega) q rfl),yrx l j (by simpa using h) (fun m hlt q' hq=>hm (m+1) (by omega) q' (by simpa using hq))]
  rfl
theorem yvk (l:List (Int×Value×Nat)) (n n':Int) (v:Value) (b:Nat) (h:(l.find? fun q=>q.1==n)=none):((l++[(n,v,b)]).find? fun q=>q.1==n').map (·.2.1)=if n'=n then some v else (l.find? fun q=>q.1==n').map (·.2.1):=by
 rw [List.find?_append]
 by_cases e:n'=n
 ·subst e;rw [if_pos rfl,h];simp
 ·rw [if_neg e]
  have:([(n,v,b)].find? fun q=>q.1==n')=none:=by simp;exact fun h=>e h.symm
  rw [this];cases l.find? fun q=>q.1==n'<;>rfl
theorem yj1 (n n':Int) (v:Value): ∀(l:List (Int×Value×Nat)) (j:Nat) (q:Int×Value×Nat),l[j]?=some q->q.1=n->(∀m<j,∀q',l[m]?=some q'->q'.1≠n)->
  ((l.modify j fun q=>(n,v,q.2.2)).find? fun q=>q.1==n').map (·.2.1)=if n'=n then some v else (l.find? fun q=>q.1==n').map (·.2.1)
 |[],j,q,h,_,_=>by simp at h
 |x::l,0,q,h,hq,_=>by
  simp only [List.getElem?_cons_zero,Option.some.injEq] at h
  subst h
  simp only [List.modify_zero_cons,List.find?_cons]
  by_cases e:n'=n
  ·subst e;simp
  ·have h1:(n==n')=false:=by simpa using fun h=>e h.symm
   have h2:(x.1==n')=false:=by simpa [hq] using fun h=>e h.symm
   rw [h1,h2,if_neg e]
 |x::l,j+1,q,h,hq,hm=>by
  have ih:=yj1 n n' v l j q (by simpa using h) hq (fun m hlt q' hq'=>hm (m+1) (by omega) q' (by simpa using hq'))
  have hx:=hm 0 (by omega) x (by simp)
  simp only [List.modify_succ_cons,List.find?_cons]
  by_cases e:x.1=n'
  ·have h1:(x.1==n')=true:=by simpa using e
   have:n'≠n:=fun h=>hx (e.trans h)
   rw [h1,if_neg this]
  ·have h1:(x.1==n')=false:=by simpa using e
   rw [h1];exact ih
theorem yfs {s:ByteArray} {v:AV}: ∀(l:List (ByteArray×Nat×AV)) (j:Nat) (q:ByteArray×Nat×AV),l[j]?=some q->q.1=s->(∀m<j,∀q',l[m]?=some q'->q'.1≠s)->ygi l s v=l.set j (s,q.2.1,v)
 |[],j,q,h,_,_=>by simp at h
 |x::l,0,q,h,hq,_=>by
  simp only [List.getElem?_cons_zero,Option.some.injEq] at h
  subst h
  unfold ygi;rw [if_pos hq];rfl
 |x::l,j+1,q,h,hq,hm=>by
  unfold ygi
  rw [if_neg (hm 0 (by omega) x rfl),yfs l j q (by simpa using h) hq (fun m hlt q' hq'=>hm (m+1) (by omega) q' (by simpa using hq'))]
  rfl
theorem yvl (h:Sim B w0 Mx N w ρ fr H a) {t kt et:Nat} (htk:tk P t= .map kt et) (hkt:tk P kt= .str) {s:ByteArray} {vu:Value} {v:AV} {id id':Nat} {ob:AObj} (hv:VR w (MM Mx H ρ) ρ (DD H) vu v)
  (hs:muG s v id (hget H id)=some (id',ob)): ∃w',(Instr.mapUpdate t (.map (some (ρ id).block)) (.string s) vu).run P w= .ok () w'/\Sim B w0 Mx N w' ρ fr (hset H id' ob) a:=by
 unfold muG at hs
 split at hs
 case h_2=>cases hs
 rename_i t' ck l ho
 split at hs
 case isFalse=>cases hs
 rename_i ht
 obtain ⟨es,h1,h2,h3⟩:=h.objs id _ ho
 have hck:=yk9 (P:=P) (w:=w) hkt false s
 rcases yj9 s es.toList l 0 (by simpa using h2) (fun j e q g1 g2=>(h3 j e q (by simpa using g1) g2).1.str ht) with ⟨g1,g2⟩|⟨j,e,q,g1,g2,g3,g4,g5,g6⟩
 ·have hfk:(Instr.findKey kt (.string s) es.toList).run P w= .ok none w:=by
   unfold Instr.findKey
   simp [run_underlying (ydn hkt),g2]
  rw [g1] at hs
  cases hs
  refine ⟨{w with heap:=w.heap.setIfInBounds (ρ id).block (.map (es.push {key:= .string s,val:=vu,born:=ck}) (ck+1))},?_,h.chgO ho rfl rfl h1 (fun _ _=>by simp) fun M' hc=>⟨es.push {key:= .string s,val:=vu,born:=ck},by simp [yaj h1],by simp [h2],fun i e q q1 q2=>?_⟩⟩
  ·unfold Instr.mapUpdate
   simp only [Sem.run_bind,run_underlying (ybs htk),Result.andThen_ok]
   simp only [getObj,Sem.run,h1,Sem.run_bind,Result.andThen_ok,Sem.run_pure,hck,hfk,setObj]
  ·by_cases hi:i<l.length
   ·rw [List.getElem?_append_left hi] at q2
    rw [Array.getElem?_push,if_neg (by omega)] at q1
    obtain ⟨k1,k2,k3⟩:=h3 i e q q1 q2
    exact ⟨k1,k2,hc k3⟩
   ·rw [List.getElem?_append_right (by omega)] at q2
    have hi0:i-l.length=0:=by
     rcases Nat.eq_zero_or_pos (i-l.length) with e0|e0
     ·exact e0
     ·rw [List.getElem?_eq_none (by simp only [List.length_cons,List.length_nil];omega)] at q2;cases q2
    rw [hi0] at q2
    cases q2
    rw [Array.getElem?_push,if_pos (by omega)] at q1
    cases q1
    exact ⟨by unfold KR;rw [if_pos ht],rfl,hc hv⟩
 ·have hfk:(Instr.findKey kt (.string s) es.toList).run P w= .ok (some (j,e.val)) w:=by
   unfold Instr.findKey
   simp [run_underlying (ydn hkt),g6]
  rw [g3] at hs
  cases hs
  have hej:es[j]?=some e:=by simpa using g1
  obtain ⟨k1,k2,k3⟩:=h3 j e q hej g2
  have k1:=k1.str ht
  refine ⟨{w with heap:=w.heap.setIfInBounds (ρ id).block (.map (es.modify j fun e=>{e with key:= .string s,val:=vu}) ck)},?_,h.chgO ho rfl rfl h1 (fun _ _=>by simp) fun M' hc=>⟨es.modify j fun e=>{e with key:= .string s,val:=vu},by simp [yaj h1],?_,fun i e' q' q1 q2=>?_⟩⟩
  ·unfold Instr.mapUpdate
   simp only [Sem.run_bind,run_underlying (ybs htk),Result.andThen_ok]
   have hbs:(s==s)=true:=by rw [y1n];simp
   simp only [getObj,Sem.run,h1,Sem.run_bind,Result.andThen_ok,Sem.run_pure,hck,hfk,setObj,hej,Option.map_some,Option.getD_some,k1,g4,Instr.keyThatStays,Instr.sameBits,hbs,if_true]
  ·rw [yfs l j q g2 g4 g5];simpa using h2
  ·rw [yfs l j q g2 g4 g5,List.getElem?_set] at q2
   rw [Array.getElem?_modify] at q1
   by_cases eij:j=i
   ·subst eij
    rw [if_pos rfl] at q1
    rw [if_pos rfl] at q2
    rw [hej] at q1
    cases q1
    split at q2
    ·cases q2;exact ⟨by unfold KR;rw [if_pos ht],k2,hc hv⟩
    ·cases q2
   ·rw [if_neg eij] at q1 q2
    obtain ⟨m1,m2,m3⟩:=h3 i e' q' q1 q2
    exact ⟨m1,m2,hc m3⟩
theorem yvm (h:Sim B w0 Mx N w ρ fr H a) {t kt et:Nat} (htk:tk P t= .map kt et) {e0:Nat} (hkt:tk P kt= .arr 2 e0) (he:tk P e0= .int .i64) (hsz:tsz P e0=some 1) {a1 b1:Int} {vu:Value} {v:AV} {id id':Nat} {ob:AObj} (hv:VR w (MM Mx H ρ) ρ (DD H) vu v)
  (hs:muP (kEnc a1 b1) v id (hget H id)=some (id',ob)): ∃w',(Instr.mapUpdate t (.map (some (ρ id).block)) (prV a1 b1) vu).run P w= .ok () w'/\Sim B w0 Mx N w' ρ fr (hset H id' ob) a:=by
 unfold muP at hs
 split at hs
 case h_2=>cases hs
 rename_i t' ck l ho
 split at hs
 case isTrue=>cases hs
 rename_i ht
 obtain ⟨es,h1,h2,h3⟩:=h.objs id _ ho
 have hck:=yla (P:=P) (w:=w) hkt he hsz false a1 b1
 rcases yka (P:=P) (w:=w) hkt he hsz a1 b1 es.toList l 0 (by simpa using h2) (fun j e q g1 g2=>(h3 j e q (by simpa using g1) g2).1.pr ht) with ⟨g1,g2⟩|⟨j,e,q,g1,g2,g3,g4,g5,g6⟩
 ·have hfk:(Instr.findKey kt (prV a1 b1) es.toList).run P w= .ok none w:=by
   rw [ygh hkt,g2]
  rw [g1] at hs
  cases hs
  refine ⟨{w with heap:=w.heap.setIfInBounds (ρ id).block (.map (es.push {key:=prV a1 b1,val:=vu,born:=ck}) (ck+1))},?_,h.chgO ho rfl rfl h1 (fun _ _=>by simp) fun M' hc=>⟨es.push {key:=prV a1 b1,val:=vu,born:=ck},by simp [yaj h1],by simp [h2],fun i e q q1 q2=>?_⟩⟩
  ·unfold Instr.mapUpdate
   simp only [Sem.run_bind,run_underlying (ybs htk),Result.andThen_ok]
   simp only [getObj,Sem.run,h1,Sem.run_bind,Result.andThen_ok,Sem.run_pure,hck,hfk,setObj]
  ·by_cases hi:i<l.length
   ·rw [List.getElem?_append_left hi] at q2
    rw [Array.getElem?_push,if_neg (by omega)] at q1
    obtain ⟨k1,k2,k3⟩:=h3 i e q q1 q2
    exact ⟨k1,k2,hc k3⟩
   ·rw [List.getElem?_append_right (by omega)] at q2
    have hi0:i-l.length=0:=by
     rcases Nat.eq_zero_or_pos (i-l.length) with e0|e0
     ·exact e0
     ·rw [List.getElem?_eq_none (by simp only [List.length_cons,List.length_nil];omega)] at q2;cases q2
    rw [hi0] at q2
    cases q2
    rw [Array.getElem?_push,if_pos (by omega)] at q1
    cases q1
    exact ⟨by unfold KR;rw [if_neg ht,ycr];exact ⟨rfl,rfl⟩,rfl,hc hv⟩
 ·have hfk:(Instr.findKey kt (prV a1 b1) es.toList).run P w= .ok (some (j,e.val)) w:=by
   rw [ygh hkt,g6];simp
  rw [g3] at hs
  cases hs
  have hej:es[j]?=some e:=by simpa using g1
  obtain ⟨k1,k2,k3⟩:=h3 j e q hej g2
  have k1:=(k1.pr ht).2
  rw [g4,ycr] at k1
  refine ⟨{w with heap:=w.heap.setIfInBounds (ρ id).block (.map (es.modify j fun e=>{e with key:=prV a1 b1,val:=vu}) ck)},?_,h.chgO ho rfl rfl h1 (fun _ _=>by simp) fun M' hc=>⟨es.modify j fun e=>{e with key:=prV a1 b1,val:=vu},by simp [yaj h1],?_,fun i e' q' q1 q2=>?_⟩⟩
  ·unfold Instr.mapUpdate
   simp only [Sem.run_bind,run_underlying (ybs htk),Result.andThen_ok]
   have hbs:Instr.sameBits 10000 (prV a1 b1) (prV a1 b1)=true:=by simp [Instr.sameBits]
   simp only [getObj,Sem.run,h1,Sem.run_bind,Result.andThen_ok,Sem.run_pure,hck,hfk,setObj,hej,Option.map_some,Option.getD_some,k1,g4,Instr.keyThatStays,hbs,if_true]
  ·rw [yfs l j q g2 g4 g5];simpa using h2
  ·rw [yfs l j q g2 g4 g5,List.getElem?_set] at q2
   rw [Array.getElem?_modify] at q1
   by_cases eij:j=i
   ·subst eij
    rw [if_pos rfl] at q1
    rw [if_pos rfl] at q2
    rw [hej] at q1
    cases q1
    split at q2
    ·cases q2;exact ⟨by unfold KR;rw [if_neg ht,ycr];exact ⟨rfl,rfl⟩,k2,hc hv⟩
    ·cases q2
   ·rw [if_neg eij] at q1 q2
    obtain ⟨m1,m2,m3⟩:=h3 i e' q' q1 q2
    exact ⟨m1,m2,hc m3⟩
theorem ynk (h:Sim B w0 Mx N w ρ fr H a) {t:Nat} {u ku vu:Value} {m k v:AV} {id:Nat} {ob:AObj} (hu:VR w (MM Mx H ρ) ρ (DD H) u m) (hk:VR w (MM Mx H ρ) ρ (DD H) ku k) (hv:VR w (MM Mx H ρ) ρ (DD H) vu v)
  (hs:muF P H t m k v=some (id,ob)): ∃w',(Instr.mapUpdate t u ku vu).run P w= .ok () w'/\Sim B w0 Mx N w' ρ fr (hset H id ob) a:=by
 unfold muF at hs
 split at hs
 case h_2=>cases hs
 rename_i kt et htk
 unfold muK at hs
 split at hs
 case h_4=>cases hs
 case h_3=>
  rename_i _ _ _ _ e id' a1 b1 hkt
  have eu:=hu.mp_inv
  have ek:=hk.pair_inv
  subst eu ek
  unfold yhe at hs
  split at hs
  case h_2=>cases hs
  rename_i he hsz
  exact yvm h htk hkt he hsz hv hs
 case h_2=>
  rename_i _ _ _ _ id' s hkt
  have eu:=hu.mp_inv
  have ek:=hk.str_inv
  subst eu ek
  exact yvl h htk hkt hv hs
 rename_i v _ _ _ _ id' n hkt
 have eu:=hu.mp_inv
 have ek:=hk.int_inv
 subst eu ek
 have key: ∀(t':Nat) (c c':MF),hget H id'=some (.fmap t' c)->(∀n',c'.val n'=if n'=n then some vu else c.val n')-> ∃w',(Instr.mapUpdate t (.map (some (ρ id').block)) (.int .i64 n) vu).run P w= .ok () w'/\Sim B w0 Mx N w' ρ fr (hset H id' (.fmap t' c')) a:=by
  intro t' c c' ho hc'
  obtain ⟨l,es,ck,h1,h2,h3⟩:=h.objs id' _ ho
  obtain ⟨r',g1,g2,g3⟩:=yci n l 0
  rw [←h2] at g1
  have hck:(Instr.checkKey false 10000 kt (.int .i64 n)).run P w= .ok () w:=by
   unfold Instr.checkKey
   simp [run_underlying (yb2 hkt)]
  have hfk:(Instr.findKey kt (.int .i64 n) es.toList).run P w= .ok r' w:=by
   unfold Instr.findKey
   simp [run_underlying (yb2 hkt),g1]
  cases r' with
  |none=>
   refine ⟨{w with heap:=w.heap.setIfInBounds (ρ id').block (.map (es.push {key:= .int .i64 n,val:=vu,born:=ck}) (ck+1))},?_,h.changeM ho h1 (l:=l++[(n,vu,ck)]) (by simp [h2]) (fun n'=>?_)⟩
   ·unfold Instr.mapUpdate
    simp only [Sem.run_bind,run_underlying (ybs htk),Result.andThen_ok]
    simp only [getObj,Sem.run,h1,Sem.run_bind,Result.andThen_ok,Sem.run_pure,hck,hfk,setObj]
   ·simp only [Option.map_none] at g2
    rw [yvk _ _ _ _ _ (by cases hf:l.find? fun q=>q.1==n<;>simp_all),h3 n',hc' n']
  |some q=>
   obtain ⟨j,v0⟩:=q
   obtain ⟨_,q,k1,k2,k3,k4⟩:=g3 j v0 rfl
   simp only [Nat.sub_zero] at k1 k4
   have hej:es[j]?=some ⟨.int .i64 n,q.2.1,q.2.2⟩:=by
    rw [←Array.getElem?_toList,h2,List.getElem?_map,k1];simp [k2]
   refine ⟨{w with heap:=w.heap.setIfInBounds (ρ id').block (.map (es.modify j fun e=>{e with key:= .int .i64 n,val:=vu}) ck)},?_,h.changeM ho h1 (l:=l.modify j fun q=>(n,vu,q.2.2)) ?_ (fun n'=>?_)⟩
   ·unfold Instr.mapUpdate
    simp only [Sem.run_bind,run_underlying (ybs htk),Result.andThen_ok]
    simp only [getObj,Sem.run,h1,Sem.run_bind,Result.andThen_ok,Sem.run_pure,hck,hfk,setObj,hej,Option.map_some,Option.getD_some,Instr.keyThatStays,Instr.sameBits,beq_self_eq_true,Bool.and_self,if_true]
   ·rw [Array.toList_modify,h2]
    apply List.ext_getElem?
    intro i
    simp only [List.getElem?_modify,List.getElem?_map]
    by_cases e:j=i
    ·subst e;simp [k1]
    ·simp [e]
   ·rw [yj1 n n' vu l j q k1 k2 k4,h3 n',hc' n']
 unfold muM at hs
 split at hs
 ·rename_i t' g ho
  split at hs
  ·rename_i x
   cases hs
   have ev:=hv.int_inv
   subst ev
   exact key t' (.ints g) (.ints (updI g n x)) ho (fun n'=>by simp only [MF.val,updI];split<;>rfl)
  ·cases hs
 ·rename_i t' g ho
  split at hs
  ·rename_i x
   cases hs
   have ev:=hv.bool_inv
   subst ev
   exact key t' (.bools g) (.bools (updB g n x)) ho (fun n'=>by simp only [MF.val,updB];split<;>rfl)
  ·cases hs
 ·rename_i t' g ho
  split at hs
  ·rename_i x y
   cases hs
   have ev:=hv.pair_inv
   subst ev
   exact key t' (.pairs g) (.pairs (updP g n x y)) ho (fun n'=>by simp only [MF.val,updP];split<;>rfl)
  ·cases hs
 ·rename_i t' l ho
  split at hs
  case isFalse=>cases hs
  rename_i hok
  cases hs
  obtain ⟨h0,es,ck,h1,h2,h3⟩:=h.objs id _ ho
  obtain ⟨l',e1,e2,e3⟩:=ygf es.toList l (by simpa using h2) (fun j e k x g1 g2=>by have:=h3 j e k x (by simpa using g1) g2;exact ⟨this.1,this.2.1⟩)
  obtain ⟨f1,f2⟩:=ye6 n l' l e2 e3
  obtain ⟨r',g1,g2,g3⟩:=yci n l' 0
  rw [←e1] at g1
  have hck:(Instr.checkKey false 10000 kt (.int .i64 n)).run P w= .ok () w:=by
   unfold Instr.checkKey
   simp [run_underlying (yb2 hkt)]
  have hfk:(Instr.findKey kt (.int .i64 n) es.toList).run P w= .ok r' w:=by
   unfold Instr.findKey
   simp [run_underlying (yb2 hkt),g1]
  have hmem: ∀k x,(k,x)∈lput l n v->okM x=true:=fun k x hm=>by
   rcases yy1 hm with hm|hm
   ·exact h0 k x hm
   ·cases hm;exact hok
  cases r' with
  |none=>
   have hno:ycb l n=none:=by
    cases hf:ycb l n with
    |none=>rfl
    |some x=>obtain ⟨v',v1,_⟩:=f2 x hf;rw [v1] at g2;cases g2
   refine ⟨{w with heap:=w.heap.setIfInBounds (ρ id).block (.map (es.push {key:= .int .i64 n,val:=vu,born:=ck}) (ck+1))},?_,h.changeI ho h1 hmem (by rw [yh8 l hno];simp [h2]) (fun j e k x q1 q2=>?_)⟩
   ·unfold Instr.mapUpdate
    simp only [Sem.run_bind,run_underlying (ybs htk),Result.andThen_ok]
    simp only [getObj,Sem.run,h1,Sem.run_bind,Result.andThen_ok,Sem.run_pure,hck,hfk,setObj]
   ·rw [yh8 l hno] at q2
    by_cases hj:j<l.length
    ·rw [List.getElem?_append_left hj] at q2
     rw [Array.getElem?_push,if_neg (by omega)] at q1
     exact ⟨(h3 j e k x q1 q2).1,(h3 j e k x q1 q2).2.1⟩
    ·by_cases hj2:j=l.length
     ·subst hj2
      rw [Array.getElem?_push,if_pos (by omega)] at q1
      simp at q1 q2
      obtain ⟨rfl,rfl⟩:=q2
      subst q1
      exact ⟨rfl,hv⟩
     ·rw [List.getElem?_eq_none (by simp;omega)] at q2;cases q2
  |some q=>
   obtain ⟨j,v0⟩:=q
   obtain ⟨_,q,k1,k2,k3,k4⟩:=g3 j v0 rfl
   simp only [Nat.sub_zero] at k1 k4
   have hej:es[j]?=some ⟨.int .i64 n,q.2.1,q.2.2⟩:=by
    rw [←Array.getElem?_toList,e1,List.getElem?_map,k1];simp [k2]
   have hjl:j<l.length:=by
    rw [←e2]
    rcases Nat.lt_or_ge j l'.length with h|h
    ·exact h
    ·rw [List.getElem?_eq_none h] at k1;cases k1
   have hat:lput l n v=l.set j (n,v):=by
    refine yrx l j ⟨l[j],by simp [hjl],?_⟩ (fun m hm q' hq=>?_)
    ·exact (e3 j q l[j].1 l[j].2 k1 (by simp [hjl])).1.symm.trans k2
    ·have hml:m<l'.length:=by omega
     have:=(e3 m l'[m] q'.1 q'.2 (by simp [hml]) hq).1
     rw [←this]
     exact k4 m hm _ (by simp [hml])
   refine ⟨{w with heap:=w.heap.setIfInBounds (ρ id).block (.map (es.modify j fun e=>{e with key:= .int .i64 n,val:=vu}) ck)},?_,h.changeI ho h1 hmem (by rw [hat];simp [h2]) (fun i e k x q1 q2=>?_)⟩
   ·unfold Instr.mapUpdate
    simp only [Sem.run_bind,run_underlying (ybs htk),Result.andThen_ok]
    simp only [getObj,Sem.run,h1,Sem.run_bind,Result.andThen_ok,Sem.run_pure,hck,hfk,setObj,hej,Option.map_some,Option.getD_some,Instr.keyThatStays,Instr.sameBits,beq_self_eq_true,Bool.and_self,if_true]
   ·rw [hat] at q2
    rw [Array.getElem?_modify] at q1
    by_cases hi:j=i
    ·subst hi
     rw [if_pos rfl,hej] at q1
     simp only [Option.map_some,Option.some.injEq] at q1
     rw [List.getElem?_set_self hjl] at q2
     simp only [Option.some.injEq,Prod.mk.injEq] at q2
     obtain ⟨rfl,rfl⟩:=q2
     subst q1
     exact ⟨rfl,hv⟩
    ·rw [if_neg hi] at q1
     rw [List.getElem?_set_ne hi] at q2
     exact ⟨(h3 i e k x q1 q2).1,(h3 i e k x q1 q2).2.1⟩
 ·cases hs
end
end Go.Proofs.YtfgbnalnbdhimaaGreatDoor
namespace Go.Proofs.YtfgbnalnbdhimaaGreatDoor
open Go Go.RowKit
def isI:AV->Bool
 | .int .i64 _=>true
 |_=>false
def toI:AV->Int
 | .int _ n=>n
 |_=>0
def isBo:AV->Bool
 | .bool _=>true
 |_=>false
def toBo:AV->Bool
 | .bool b=>b
 |_=>false
def mkC (P:Program) (e:Nat) (xs:List AV):Cs:=
 match tk P e with
 | .int .i64=>if xs.all isI then .ints (xs.map toI) else .lst xs
 | .bool=>if xs.all isBo then .bools (xs.map toBo) else .lst xs
 |_=> .lst xs
def zC (P:Program) (e n:Nat) (z:List AV):Cs:=
 match tk P e,z with
 | .int .i64,[.int .i64 0]=> .ints (List.replicate n 0)
 | .bool,[.bool false]=> .bools (List.replicate n false)
 |_,_=> .lst (List.replicate n z).flatten
theorem yry (P:Program) (e:Nat) (xs:List AV):(mkC P e xs).len=xs.length:=by
 unfold mkC;split<;>(try split)<;>simp [Cs.len]
theorem y11 (P:Program) (e:Nat) (xs:List AV) (j:Nat) (hj:j<xs.length):(mkC P e xs).get j=xs.getD j .any:=by
 unfold mkC
 split
 ·split
  ·rename_i hh
   have:=List.all_eq_true.1 hh _ (List.getElem_mem hj)
   simp only [Cs.get,List.getD_eq_getElem?_getD,List.getElem?_map,List.getElem?_eq_getElem hj,Option.map_some,Option.getD_some]
   generalize xs[j]=x at*
   unfold isI at this
   split at this
   ·rfl
   ·cases this
  ·rfl
 ·split
  ·rename_i hh
   have:=List.all_eq_true.1 hh _ (List.getElem_mem hj)
   simp only [Cs.get,List.getD_eq_getElem?_getD,List.getElem?_map,List.getElem?_eq_getElem hj,Option.map_some,Option.getD_some]
   generalize xs[j]=x at*
   unfold isBo at this
   split at this
   ·rfl
   ·cases this
  ·rfl
 ·rfl
def setL (xs:List AV) (off:Nat):List AV->List AV
 |[]=>xs
 |y::r=>setL (xs.set off y) (off+1) r
def yew (P:Program) (fs:List (Nat×Nat)):List AV->List (Nat×AV)->Option (List AV)
 |z,[]=>some z
 |z,(i,x)::r=>match fs[i]? with
  |some (ft,o)=>match tsz P ft with
   |some n=>if (yaw x).length=n/\(ycd x=true\/isAgg' x=true)/\o+n<=z.length then yew P fs (setL z o (yaw x)) r else none
   |none=>none
  |none=>none
where isAgg':AV->Bool
 | .agg _=>true
 |_=>false
def yi4:Option Nat->List AV->List (Nat×AV)->Option (Prop×AV)
 |some 1,[_,_],[(0, .int .i64 a),(1, .int .i64 b)]=>some (True, .agg [I a,I b])
 |_,_,_=>none
def ylb (P:Program) (t:Nat) (parts:List (Nat×AV)):Option (Prop×AV):=
 match tk P t,tze P t with
 | .arr 2 e,some z=>yi4 (tsz P e) z parts
 | .struct fs,some z=>if fs.all (fun f=>(tsz P f.1).isSome) then match yew P fs z parts with
   |some l=>some (True, .agg l)
   |none=>none
   else none
 |_,_=>none
section
variable {P:Program} {w:World} {M:Nat->Prop} {ρ:Nat->Addr} {D:Nat->Prop}
theorem ydt {t:Nat} {z:List AV} (h:tze P t=some z): ∃i zv,P.info? t=some i/\i.zero=some zv/\zv.cells.toList.map absV=z:=by
 unfold tze at h
 obtain ⟨zv,h1,h2⟩:=Option.map_eq_some_iff.1 h
 obtain ⟨i,h3,h4⟩:=Option.bind_eq_some_iff.1 h1
 exact ⟨i,zv,h3,h4,h2⟩
theorem ymm {z:List AV} {zv:Value} (h:zv.cells.toList.map absV=z):RL w M ρ D zv.cells z:=by
 subst h
 refine ⟨by simp,fun i v x hv hx=>?_⟩
 simp only [List.getElem?_map] at hx
 have:zv.cells.toList[i]?=some v:=by simpa using hv
 rw [this] at hx;cases hx;exact yi3 v
theorem yy2 {ys:List AV}: ∀(cs:List Value) (k:Nat) (arr:Array Value) (xs:List AV) (off:Nat),RL w M ρ D arr xs->cs.length=ys.length->off+k+ys.length<=xs.length->
  (∀(i:Nat) (v:Value) (x:AV),cs[i]?=some v->ys[i]?=some x->VR w M ρ D v x)->RL w M ρ D ((cs.zipIdx k).foldl (fun a (c,j)=>a.setIfInBounds (off+j) c) arr) (setL xs (off+k) ys):=by
 induction ys with
 |nil=>
  intro cs k arr xs off h hl _ _
  have:cs=[]:=List.eq_nil_of_length_eq_zero (by simpa using hl)
  subst this
  simpa [setL] using h
 |cons y ys ih=>
  intro cs k arr xs off h hl hb hv
  cases cs with
  |nil=>simp at hl
  |cons c cs=>
   simp only [List.zipIdx_cons,List.foldl_cons,setL]
   have h1:=hv 0 c y rfl rfl
   refine ih cs (k+1) _ _ off ⟨by simpa using h.1,fun i v x hv' hx'=>?_⟩ (by simpa using hl) (by simp only [List.length_set];simp only [List.length_cons] at hb;omega) (fun i v x h2 h3=>hv (i+1) v x (by simpa using h2) (by simpa using h3))
   by_cases e:off+k=i
   ·subst e
    have hlt:off+k<xs.length:=by simp only [List.length_cons] at hb;omega
    have hlt':off+k<arr.size:=by rw [h.1];exact hlt
    simp [hlt,hlt'] at hv' hx'
    subst hv' hx';exact h1
   ·rw [Array.getElem?_setIfInBounds] at hv'
    simp [e] at hv' hx'
    exact h.2 i v x hv' hx'
theorem ygj: ∀(gs:List Field),(∀g∈gs,(tsz P g.type).isSome=true)-> ∃ss:List (Nat×Nat),(gs.mapM (fun f=>do pure (f.offset,←sizeOf f.type):Field->Sem (Nat×Nat))).run P w= .ok ss w/\ss.length=gs.length/\
  ∀(i:Nat) (g:Field),gs[i]?=some g-> ∃n,tsz P g.type=some n/\ss[i]?=some (g.offset,n)
 |[],_=>⟨[],by simp,rfl,by simp⟩
 |g::gs,h=>by
  obtain ⟨ss,h1,h2,h3⟩:=ygj gs fun x hx=>h x (by simp [hx])
  obtain ⟨n,hn⟩:=Option.isSome_iff_exists.1 (h g (by simp))
  refine ⟨(g.offset,n)::ss,?_,by simp [h2],fun i q hq=>?_⟩
  ·simp only [List.mapM_cons]
   simp only [bind_pure_comp] at h1⊢
   simp [yap hn,h1]
  ·cases i with
   |zero=>simp at hq;subst hq;exact ⟨n,hn,rfl⟩
   |succ i=>simp at hq;obtain ⟨m,h5,h6⟩:=h3 i q hq;exact ⟨m,h5,by simpa using h6⟩
theorem yh9 {fs:List (Nat×Nat)} {ss:List (Nat×Nat)} (hss: ∀(i ft o n:Nat),fs[i]?=some (ft,o)->tsz P ft=some n->ss[i]?=some (o,n)): ∀(ps:List (Nat×AV)) (qs:List (Nat×Value)) (z l:List AV) (arr:Array Value),
  qs.map (·.1)=ps.map (·.1)->(∀(i:Nat) (q:Nat×Value) (p:Nat×AV),qs[i]?=some q->ps[i]?=some p->VR w M ρ D q.2 p.2)->RL w M ρ D arr z->yew P fs z ps=some l->
  ∃arr',Instr.fill (ss.toArray[·]?) arr qs=some arr'/\RL w M ρ D arr' l
 |[],[],z,l,arr,_,_,hr,h=>by simp only [yew] at h;cases h;exact ⟨arr,rfl,hr⟩
 |[],q::qs,z,l,arr,he,_,_,_=>by simp at he
 |p::ps,[],z,l,arr,he,_,_,_=>by simp at he
 |(i,x)::ps,(i',v)::qs,z,l,arr,he,hv,hr,h=>by
  simp only [List.map_cons,List.cons.injEq] at he
  obtain ⟨rfl,he⟩:=he
  simp only [yew] at h
  split at h
  ·rename_i ft o hf
   split at h
   ·rename_i n hn
    split at h
    ·rename_i hc
     have hv0:=hv 0 (i',v) (i',x) rfl rfl
     have hx:ycd x=true\/ ∃xs,x= .agg xs:=by
      rcases hc.2.1 with h1|h1
      ·exact .inl h1
      ·cases x<;>first|exact .inr ⟨_,rfl⟩|simp [yew.isAgg'] at h1
     obtain ⟨hs1,hs2⟩:=VR.cellsRL hv0 hx
     have hplace:ss.toArray[i']?=some (o,n):=by simpa using hss i' ft o n hf hn
     have hcs:v.cells.size=n:=by rw [hs1];exact hc.1
     have hfold:=yy2 (w:=w) (M:=M) (ρ:=ρ) (D:=D) (ys:=yaw x) v.cells.toList 0 arr z o hr (by simpa using hs1) (by rw [hc.1];have:=hc.2.2;omega) (fun j u y hu hy=>hs2 j u y (by simpa using hu) hy)
     obtain ⟨arr',h1,h2⟩:=yh9 hss ps qs _ l _ he (fun j q p hq hp=>hv (j+1) q p (by simpa using hq) (by simpa using hp)) hfold h
     refine ⟨arr',?_,h2⟩
     simp only [Instr.fill,hplace]
     rw [if_neg (by have:=hr.1;have:=hc.2.2;simp [hcs];omega)]
     have e:v.cells.zipIdx.foldl (fun cs (c,j)=>cs.setIfInBounds (o+j) c) arr=(v.cells.toList.zipIdx 0).foldl (fun a (c,j)=>a.setIfInBounds (o+j) c) arr:=by
      rw [←Array.foldl_toList];simp
     rw [e];exact h1
    ·cases h
   ·cases h
  ·cases h
theorem yt9 (k:IntKind) (n:Int):(Value.int k n).cells= #[.int k n]:=rfl
theorem yre {o:Option Nat} {z:List AV} {l:List (Nat×AV)} {p:Prop} {r:AV} (h:yi4 o z l=some (p,r)):o=some 1/\(∃z0 z1,z=[z0,z1])/\ ∃a b,l=[(0, .int .i64 a),(1, .int .i64 b)]/\r= .agg [I a,I b]:=by
 unfold yi4 at h
 split at h
 ·cases h;exact ⟨rfl,⟨_,_,rfl⟩,_,_,rfl,rfl⟩
 ·cases h
theorem yo1 {t:Nat} {parts:Array (Nat×Operand)} {a:Act} {ev:Operand->AV} (hev: ∀x,VR w M ρ D (a.eval x) (ev x)) {p:Prop} {r:AV}
  (h:ylb P t (parts.toList.map fun q=>(q.1,ev q.2))=some (p,r)): ∃z,(Instr.build t (parts.map fun (i,x)=>(i,a.eval x))).run P w= .ok z w/\VR w M ρ D z r:=by
 unfold ylb at h
 split at h
 ·rename_i e z hk hz
  obtain ⟨hs,⟨y0,y1,rfl⟩,c0,c1,hpq,rfl⟩:=yre h
  obtain ⟨pl⟩:=parts
  rcases pl with _|⟨⟨j0,x0⟩,_|⟨⟨j1,x1⟩,_|⟨u,pl⟩⟩⟩
  ·simp at hpq
  ·simp at hpq
  ·simp only [List.map_cons,List.map_nil,List.cons.injEq,Prod.mk.injEq,and_true] at hpq
   obtain ⟨⟨rfl,g0⟩,rfl,g1⟩:=hpq
   have e0:=(g0▸hev x0).int_inv
   have e1:=(g1▸hev x1).int_inv
   obtain ⟨i,zv,i1,i2,i3⟩:=ydt hz
   have hl:zv.cells.toList.length=2:=by have:=congrArg List.length i3;simpa using this
   obtain ⟨z0,z1,hzz⟩: ∃z0 z1,zv.cells= #[z0,z1]:=by
    generalize zv.cells=ar at hl
    obtain ⟨l⟩:=ar
    match l,hl with
    |[z0,z1],_=>exact ⟨z0,z1,rfl⟩
   exact ⟨.agg #[.int .i64 c0, .int .i64 c1],by simp [Instr.build,zeroValue,typeInfo,i1,i2,run_underlying (yc4 hk),yap hs,hzz,Instr.fill,e0,e1,yt9],VR.pair _ _⟩
  ·simp at hpq
 ·rename_i fs z hk hz
  split at h
  ·rename_i hall
   split at h
   ·rename_i l hb
    cases h
    obtain ⟨gs,hu,hg⟩:=yev hk
    obtain ⟨i,zv,h1,h2,h3⟩:=ydt hz
    have hall': ∀g∈gs.toList,(tsz P g.type).isSome=true:=fun g hgm=>by
     have:=List.all_eq_true.1 hall (g.type,g.offset) (by rw [←hg];exact List.mem_map.2 ⟨g,hgm,rfl⟩)
     exact this
    obtain ⟨ss,s1,s2,s3⟩:=ygj (P:=P) (w:=w) gs.toList hall'
    obtain ⟨arr',b1,b2⟩:=yh9 (P:=P) (w:=w) (M:=M) (ρ:=ρ) (D:=D) (fs:=fs) (ss:=ss) (fun i ft o n hf hn=>by
      rw [←hg] at hf
      simp only [List.getElem?_map] at hf
      obtain ⟨g,hg1,hg2⟩:=Option.map_eq_some_iff.1 hf
      obtain ⟨m,hm1,hm2⟩:=s3 i g hg1
      simp only [Prod.mk.injEq] at hg2
      rw [hg2.1] at hm1
      rw [hn] at hm1;cases hm1
      rw [hm2,hg2.2]) (parts.toList.map fun q=>(q.1,ev q.2)) (parts.toList.map fun q=>(q.1,a.eval q.2)) z l zv.cells (by simp [Function.comp_def]) (fun j q p hq hp=>by
      simp only [List.getElem?_map] at hq hp
      cases hj:parts.toList[j]? with
      |none=>rw [hj] at hq;cases hq
      |some y=>rw [hj] at hq hp;cases hq;cases hp;exact hev y.2) (ymm h3) hb
    have hmap:(gs.mapM (fun f=>do pure (f.offset,←sizeOf f.type):Field->Sem (Nat×Nat))).run P w= .ok ss.toArray w:=by
     rw [Array.mapM_eq_mapM_toList]
     simp only [bind_pure_comp] at s1⊢
     simp [s1]
    refine ⟨.agg arr',?_,?_⟩
    ·simp only [bind_pure_comp] at hmap
     simp only [Instr.build,bind_pure_comp]
     simp only [zeroValue,typeInfo]
     have b1':Instr.fill (fun x=>ss[x]?) zv.cells (parts.toList.map fun q=>(q.1,a.eval q.2))=some arr':=by simpa using b1
     simp [h1,h2,run_underlying hu,hmap,b1']
    ·obtain ⟨q1,q2⟩:=b2
     obtain ⟨al⟩:=arr'
     exact .agg al l (by simpa using q1) (fun i v x hv hx=>q2 i v x (by simpa using hv) hx)
   ·cases h
  ·cases h
 ·cases h
end
end Go.Proofs.YtfgbnalnbdhimaaGreatDoor
namespace Go.Proofs.YtfgbnalnbdhimaaGreatDoor
open Go Go.RowKit
def isAg:AV->Bool
 | .agg _=>true
 |_=>false
def mkE (t:Nat):TK->AObj
 | .int .i64=> .fmap t (.ints fun _=>none)
 | .bool=> .fmap t (.bools fun _=>none)
 | .arr 2 _=> .fmap t (.pairs fun _=>none)
 |_=> .imap t []
def mkJ (t:Nat) (e:AObj):TK->AObj
 | .str=> .gmap t 0 []
 | .arr 2 _=> .gmap (t+1000000000) 0 []
 |_=>e
def mkM (P:Program) (t:Nat):AObj:=match tk P t with
 | .map kt et=>mkJ t (mkE t (tk P et)) (tk P kt)
 |_=> .imap t []
theorem ynl (P:Program) (t:Nat):mkM P t= .imap t []\/mkM P t= .fmap t (.ints fun _=>none)\/mkM P t= .fmap t (.bools fun _=>none)\/mkM P t= .gmap t 0 []\/mkM P t= .gmap (t+1000000000) 0 []\/mkM P t= .fmap t (.pairs fun _=>none):=by
 unfold mkM
 split
 ·unfold mkJ;split
  ·simp
  ·simp
  ·unfold mkE;split<;>simp
 ·simp
def alF (P:Program) (nid:Nat) (ev:Operand->AV):Op->Option (Prop×AV×AObj)
 | .alloc t=>match tze P t with
   |some z=>some (True, .ptr nid 0, .cells t (.lst z))
   |none=>none
 | .box t x=>if ycd (ev x)=true\/isAg (ev x)=true then some (True, .ptr nid 0, .cells t (.lst (yaw (ev x)))) else none
 | .makeSlice t l c=>match tk P t with
   | .slice e=>match tsz P e,tby P e,tze P e,ev l,ev c with
     |some es,some by',some z, .int .i64 n, .int .i64 m=>if z.length=es/\0<es/\by'<=1048576 then some (0<=n/\n<=m/\m<=1048576, .sl es nid 0 n.toNat, .cells e (zC P e n.toNat z)) else none
     |_,_,_,_,_=>none
   |_=>none
 | .buildSlice t len parts=>match tk P t with
   | .slice e=>match tsz P e,tze P e with
     |some es,some z=>if 0<es/\z.length=es/\len*es<=16777216/\parts.toList.map (·.1)=List.range len/\(parts.toList.all fun q=>(ycd (ev q.2)||isAg (ev q.2))&&decide ((yaw (ev q.2)).length=es))=true
      then some (True, .sl es nid 0 len, .cells e (mkC P e (parts.toList.flatMap fun q=>yaw (ev q.2)))) else none
     |_,_=>none
   |_=>none
 | .makeMap t none=>some (True, .mp nid,mkM P t)
 |_=>none
theorem yj2 (z:List AV) (hz:0<z.length): ∀(n j:Nat),j<n*z.length->(List.replicate n z).flatten[j]?=z[j % z.length]?
 |0,j,h=>by simp at h
 |n+1,j,h=>by
  simp only [List.replicate_succ,List.flatten_cons]
  by_cases c:j<z.length
  ·rw [List.getElem?_append_left c,Nat.mod_eq_of_lt c]
  ·have hc:z.length<=j:=by omega
   rw [List.getElem?_append_right hc,yj2 z hz n (j-z.length) (by rw [Nat.succ_mul] at h;omega)]
   congr 1
   rw [Nat.mod_eq_sub_mod hc]
theorem yvn (P:Program) (e n:Nat) (z:List AV):(zC P e n z).len=n*z.length:=by
 unfold zC;split<;>simp [Cs.len]
theorem y43 (P:Program) (e n:Nat) (z:List AV) (hz:0<z.length) (j:Nat) (hj:j<n*z.length):(zC P e n z).get j=z.getD (j % z.length) .any:=by
 unfold zC
 split
 ·simp only [List.length_cons,List.length_nil,Nat.zero_add,Nat.mul_one] at hj
  simp [Cs.get,hj,Nat.mod_one]
 ·simp only [List.length_cons,List.length_nil,Nat.zero_add,Nat.mul_one] at hj
  simp [Cs.get,hj,Nat.mod_one]
 ·have:=yj2 _ hz n j hj
  simp [Cs.get,this]
section
variable {P:Program} {B:Nat} {w0:ybi} {Mx:Nat->Prop} {N:Nat} {w:World} {ρ:Nat->Addr} {fr:Fr} {H:Hp} {a:Act}
theorem Sim.allocCells (h:Sim B w0 Mx N w ρ fr H a) (nid:Nat) (hn:hget H nid=none) (arr:Array Value) (t:Nat) (c:Cs) (hl:c.len<=arr.size)
  (hv: ∀j,j<c.len-> ∃u,arr[j]?=some u/\VR w (MM Mx H ρ) ρ (DD H) u (c.get j)):
  Sim B w0 Mx N (w.alloc (.cells arr t)) (upd ρ nid ⟨w.heap.size,0,none⟩) fr ((nid, .cells t c)::H) a:=
 h.alloc nid hn (.cells arr t) (.cells t c) fun M' ρ' D' hr hc=>
  ⟨by rw [hr],arr,by rw [hr];exact ya1,by rw [hr];simpa using hl,fun j hj=>by
   obtain ⟨u,h1,h2⟩:=hv j hj
   exact ⟨u,by rw [hr];simpa using h1,hc (fun _ h=>h) h2⟩⟩
theorem yft {H:Hp} {nid:Nat} {o:AObj}:DD ((nid,o)::H) nid:=⟨o,by simp [hget]⟩
theorem ylc {w':World} {M:Nat->Prop} {nid t:Nat} {c:Cs}:VR w' M (upd ρ nid ⟨w.heap.size,0,none⟩) (DD ((nid,AObj.cells t c)::H)) (.pointer (some ⟨w.heap.size,0,none⟩)) (.ptr nid 0):=by
 have:=VR.ptr (w:=w') (M:=M) (ρ:=upd ρ nid ⟨w.heap.size,0,none⟩) (D:=DD ((nid,AObj.cells t c)::H)) nid 0 yft
 rwa [yau] at this
theorem ydx {M:Nat->Prop} {nid t es len cap:Nat} {arr:Array Value} {o:AObj} (hc:len<=cap) (hr:cap*es<=arr.size):
  VR (w.alloc (.cells arr t)) M (upd ρ nid ⟨w.heap.size,0,none⟩) (DD ((nid,o)::H)) (.slice (some ⟨w.heap.size,0,none⟩) len cap) (.sl es nid 0 len):=by
 have:=VR.sl (w:=w.alloc (.cells arr t)) (M:=M) (ρ:=upd ρ nid ⟨w.heap.size,0,none⟩) (D:=DD ((nid,o)::H)) es nid 0 len cap yft hc arr t ⟨w.heap.size,0,none⟩ (fun _=>by rw [yau];rfl) (by rw [yau];exact ya1) (by rw [yau];simpa using hr)
 exact this
theorem ye7 {t:Nat} {arr:Array Value}:(newRow t arr).run P w= .ok ⟨w.heap.size,0,none⟩ (w.alloc (.cells arr t)):=by
 simp [newRow,newObj,Sem.run]
theorem yh5 {ev:Operand->AV} {es:Nat}: ∀(l:List (Nat×Operand)),(∀q∈l,(yaw (ev q.2)).length=es)->(l.flatMap fun q=>yaw (ev q.2)).length=l.length*es
 |[],_=>by simp
 |q::l,h=>by simp only [List.flatMap_cons,List.length_append,yh5 l fun x hx=>h x (by simp [hx]),h q (by simp),List.length_cons];rw [Nat.succ_mul];omega
theorem yoe {t:Nat} {z:List AV} (h:tze P t=some z): ∃zv:Value,(∀w:World,(zeroValue t).run P w= .ok zv w)/\zv.cells.toList.map absV=z:=by
 obtain ⟨i,zv,h1,h2,h3⟩:=ydt h
 exact ⟨zv,fun w=>by simp [zeroValue,typeInfo,h1,h2],h3⟩
theorem yo2 {es:Nat} {vs:Nat->Value}: ∀(n k:Nat) (arr:Array Value),(∀j,k<=j->j<k+n->(vs j).cells.size=es)->(k+n)*es<=arr.size->
  ∃arr',Instr.fill (fun i=>some (i*es,es)) arr ((List.range' k n).map fun j=>(j,vs j))=some arr'/\arr'.size=arr.size/\
   (∀i,i<k*es->arr'[i]?=arr[i]?)/\ ∀j,k<=j->j<k+n-> ∀f,f<es->arr'[j*es+f]?=(vs j).cells[f]?
 |0,k,arr,_,_=>⟨arr,rfl,rfl,fun _ _=>rfl,fun j h1 h2=>by omega⟩
 |n+1,k,arr,h,hl=>by
  have hk:=h k (Nat.le_refl _) (by omega)
  have hmul:(k+1+n)*es=(k+(n+1))*es:=by congr 1;omega
  have hfold: ∀(l:List Value) (i0:Nat) (ar:Array Value),k*es+i0+l.length<=ar.size->(((l.zipIdx i0).foldl (fun a (c,j)=>a.setIfInBounds (k*es+j) c) ar).size=ar.size)/\
   ∀i,((l.zipIdx i0).foldl (fun a (c,j)=>a.setIfInBounds (k*es+j) c) ar)[i]?=if k*es+i0<=i/\i<k*es+i0+l.length then l[i-(k*es+i0)]? else ar[i]?:=by
   intro l
   induction l with
   |nil=>intro i0 ar _;exact ⟨rfl,fun i=>by rw [if_neg (by simp)];rfl⟩
   |cons x l ih=>
    intro i0 ar hb
    simp only [List.length_cons] at hb
    obtain ⟨s1,s2⟩:=ih (i0+1) (ar.setIfInBounds (k*es+i0) x) (by simp;omega)
    simp only [List.zipIdx_cons,List.foldl_cons]
    refine ⟨by rw [s1];simp,fun i=>?_⟩
    rw [s2 i]
    simp only [List.length_cons]
    by_cases c1:k*es+(i0+1)<=i/\i<k*es+(i0+1)+l.length
    ·rw [if_pos c1,if_pos (by omega)]
     have:i-(k*es+i0)=(i-(k*es+(i0+1)))+1:=by omega
     rw [this,List.getElem?_cons_succ]
    ·rw [if_neg c1]
     by_cases c2:i=k*es+i0
     ·subst c2;rw [if_pos (by omega)];simp [show k*es+i0<ar.size by omega]
     ·rw [if_neg (by omega),Array.getElem?_setIfInBounds];simp [Ne.symm c2]
  have hkb:k*es+es<=arr.size:=by
   have:(k+1)*es<=(k+(n+1))*es:=Nat.mul_le_mul_right _ (by omega)
   rw [Nat.succ_mul] at this;omega
  obtain ⟨f1,f2⟩:=hfold (vs k).cells.toList 0 arr (by simp [hk];omega)
  obtain ⟨arr',g1,g2,g3,g4⟩:=yo2 n (k+1) ((((vs k).cells.toList.zipIdx 0).foldl (fun a (c,j)=>a.setIfInBounds (k*es+j) c) arr)) (fun j h1 h2=>h j (by omega) (by omega)) (by rw [f1,hmul];exact hl)
  refine ⟨arr',?_,by rw [g2,f1],fun i hi=>?_,fun j h1 h2 f hf=>?_⟩
  ·rw [List.range'_succ,List.map_cons]
   simp only [Instr.fill]
   rw [if_neg (by simp [hk];omega)]
   have e:(vs k).cells.zipIdx.foldl (fun cs (c,j)=>cs.setIfInBounds (k*es+j) c) arr=((vs k).cells.toList.zipIdx 0).foldl (fun a (c,j)=>a.setIfInBounds (k*es+j) c) arr:=by
    rw [←Array.foldl_toList];simp
   rw [e];exact g1
  ·rw [g3 i (by rw [Nat.succ_mul];omega),f2 i,if_neg (by omega)]
  ·by_cases c:j=k
   ·subst c
    rw [g3 (j*es+f) (by rw [Nat.succ_mul];omega),f2,if_pos (by simp [hk];omega)]
    simp
   ·exact g4 j (by omega) (by omega) f hf
theorem ynm (h:Sim B w0 Mx N w ρ fr H a) {nid:Nat} (hn:hget H nid=none) {o:Oper} {p:Prop} {r:AV} {ob:AObj} (ha:alF P nid (evA fr) o.op=some (p,r,ob)) (hp:p):
  ∃v w',(execOp a.eval o).run P w= .ok (.value v) w'/\Sim B w0 Mx N w' (upd ρ nid ⟨w.heap.size,0,none⟩) fr ((nid,ob)::H) a/\
   VR w' (MM Mx ((nid,ob)::H) (upd ρ nid ⟨w.heap.size,0,none⟩)) (upd ρ nid ⟨w.heap.size,0,none⟩) (DD ((nid,ob)::H)) v r/\ ∃blk,w'=w.alloc blk:=by
 cases ho:o.op with
 |alloc t=>
  rw [ho] at ha;simp only [alF] at ha
  split at ha
  ·rename_i z hz
   cases ha
   obtain ⟨zv,hz1,hz2⟩:=yoe hz
   have hrl:=ymm (w:=w) (M:=MM Mx H ρ) (ρ:=ρ) (D:=DD H) hz2
   refine ⟨_,_,?_,h.allocCells nid hn zv.cells t (.lst z) (by simp [Cs.len,hrl.1]) (fun j hj=>?_),ylc,_,rfl⟩
   ·simp only [execOp,ho,Instr.alloc];simp [hz1,newVar,ye7]
   ·simp only [Cs.len] at hj
    have hj':j<zv.cells.size:=by rw [hrl.1];exact hj
    exact ⟨zv.cells[j],by simp [hj'],by simpa [Cs.get,hj] using hrl.2 j zv.cells[j] z[j] (by simp [hj']) (by simp [hj])⟩
  ·cases ha
 |box t x=>
  rw [ho] at ha;simp only [alF] at ha
  split at ha
  ·rename_i hok
   cases ha
   have hx:=h.ev x
   have hrl:=hx.cellsRL (by
    rcases hok with h1|h1
    ·exact .inl h1
    ·right;cases hh:evA fr x<;>rw [hh] at h1<;>first|exact ⟨_,rfl⟩|cases h1)
   refine ⟨_,_,?_,h.allocCells nid hn (a.eval x).cells t (.lst (yaw (evA fr x))) (by simp [Cs.len,hrl.1]) (fun j hj=>?_),ylc,_,rfl⟩
   ·simp only [execOp,ho,Instr.box];simp [newVar,ye7]
   ·simp only [Cs.len] at hj
    have hj':j<(a.eval x).cells.size:=by rw [hrl.1];exact hj
    exact ⟨(a.eval x).cells[j],by simp [hj'],by simpa [Cs.get,hj] using hrl.2 j (a.eval x).cells[j] (yaw (evA fr x))[j] (by simp [hj']) (by simp [hj])⟩
  ·cases ha
 |makeSlice t l c=>
  rw [ho] at ha;simp only [alF] at ha
  split at ha
  ·rename_i e hk
   split at ha
   ·rename_i es by' z n m h1 h2 h3 h4 h5
    split at ha
    ·rename_i hh
     cases ha
     obtain ⟨hz,hes,hby⟩:=hh
     have el:=(h4▸h.ev l).int_inv
     have ec:=(h5▸h.ev c).int_inv
     obtain ⟨i,zv,i1,i2,i3⟩:=ydt h3
     obtain ⟨i',i4,i5⟩:=yj7 h2
     rw [i1] at i4;cases i4
     obtain ⟨i',i6,i7⟩:=yhf h1
     rw [i1] at i6;cases i6
     obtain ⟨hp1,hp2,hp3⟩:=hp
     obtain ⟨nn,rfl⟩:=Int.eq_ofNat_of_zero_le hp1
     obtain ⟨mm,rfl⟩:=Int.eq_ofNat_of_zero_le (show 0<=m by omega)
     have hzs:zv.cells.size=es:=by have:=congrArg List.length i3;simp at this;omega
     have hb:(i.bytes:Int)*(mm:Int)<=281474976710656:=by
      have:i.bytes*mm<=1048576*1048576:=Nat.mul_le_mul (by omega) (by omega)
      have h':((i.bytes*mm:Nat):Int)<=281474976710656:=by omega
      rwa [Int.natCast_mul] at h'
     have hr:=run_make (P:=P) w t e i zv (yax hk) i1 i2 .i64 .i64 nn mm (by omega) (by omega) hb (by omega)
     simp only [Int.toNat_natCast] at hr⊢
     have hmc:(madeCells zv.cells (mm*i.size)).size=mm*es:=by unfold madeCells;simp [i7]
     have hrl:=ymm (w:=w) (M:=MM Mx H ρ) (ρ:=ρ) (D:=DD H) i3
     refine ⟨_,_,?_,h.allocCells nid hn (madeCells zv.cells (mm*i.size)) e (zC P e nn z) (by rw [yvn,hmc,hz];exact Nat.mul_le_mul_right _ (by omega)) (fun j hj=>?_),ydx (cap:=mm) (by omega) (by rw [hmc];exact Nat.le_refl _),_,rfl⟩
     ·simp only [execOp,ho,el,ec];simp [hr]
     ·rw [yvn] at hj
      rw [y43 P e nn z (by omega) j hj]
      have hjm:j % z.length<z.length:=Nat.mod_lt _ (by omega)
      have hjm':j % z.length<zv.cells.size:=by omega
      refine ⟨zv.cells[j % z.length],?_,?_⟩
      ·have hjj:j<mm*i.size:=by rw [i7,←hz];exact Nat.lt_of_lt_of_le hj (Nat.mul_le_mul_right _ (by omega))
       have e1:zv.cells[j % zv.cells.size]! =zv.cells[j % z.length]:=by
        rw [getElem!_pos zv.cells (j % zv.cells.size) (Nat.mod_lt _ (by omega))]
        have:zv.cells.size=z.length:=by omega
        simp only [this]
       unfold madeCells
       simp [hjj,e1]
      ·simpa [hjm] using hrl.2 (j % z.length) zv.cells[j % z.length] z[j % z.length] (by simp [hjm']) (by simp [hjm])
    ·cases ha
   ·cases ha
  ·cases ha
 |buildSlice t len parts=>
  rw [ho] at ha;simp only [alF] at ha
  split at ha
  ·rename_i e hk
   split at ha
   ·rename_i es z h1 h2
    split at ha
    ·rename_i hh
     cases ha
     obtain ⟨hes,hz,hlim,hidx,hall⟩:=hh
     obtain ⟨i,zv,i1,i2,i3⟩:=ydt h2
     have hsize:=yap h1 w
     have hpl:parts.toList.length=len:=by have:=congrArg List.length hidx;simpa using this
     have hall':=List.all_eq_true.1 hall
     have hc: ∀q∈parts.toList,(yaw (evA fr q.2)).length=es/\RL w (MM Mx H ρ) ρ (DD H) (a.eval q.2).cells (yaw (evA fr q.2)):=fun q hq=>by
      have:=hall' q hq
      simp only [Bool.and_eq_true,Bool.or_eq_true,decide_eq_true_eq] at this
      refine ⟨this.2,(h.ev q.2).cellsRL ?_⟩
      rcases this.1 with h1|h1
      ·exact .inl h1
      ·right;cases hh:evA fr q.2<;>rw [hh] at h1<;>first|exact ⟨_,rfl⟩|cases h1
     let vs:Nat->Value:=fun j=>a.eval ((parts.toList.getD j default).2)
     have hpv:(parts.map fun (i,x)=>(i,a.eval x)).toList=(List.range' 0 len).map fun j=>(j,vs j):=by
      apply List.ext_getElem?
      intro j
      simp only [Array.toList_map,List.getElem?_map]
      by_cases hj:j<len
      ·have hj':j<parts.toList.length:=by omega
       have hix:(parts.toList[j]).1=j:=by
        have:=congrArg (fun l=>l[j]?) hidx
        simp only [List.getElem?_map,List.getElem?_eq_getElem hj',Option.map_some,List.getElem?_range hj] at this
        simpa using this
       rw [List.getElem?_eq_getElem hj']
       simp [vs,hj]
       refine ⟨?_,?_⟩
       ·simpa using hix
       ·rw [show parts[j]?=some parts[j] from by simp [show j<parts.size by simpa using hj']];simp
      ·rw [List.getElem?_eq_none (by omega),List.getElem?_eq_none (by simp;omega)];rfl
     let zs:Array Value:=(Array.range (len*es)).map fun q=>(if len*es=0 then #[] else zv.cells)[q %(if len*es=0 then (#[]:Array Value) else zv.cells).size]!
     have hzs:zs.size=len*es:=by simp [zs]
     have hcq: ∀j,j<len->(yaw (evA fr (parts.toList.getD j default).2)).length=es/\RL w (MM Mx H ρ) ρ (DD H) (vs j).cells (yaw (evA fr (parts.toList.getD j default).2)):=fun j hj=>by
      have hj':j<parts.toList.length:=by omega
      have:=hc (parts.toList[j]) (List.getElem_mem hj')
      simpa [vs,hj',show j<parts.size by simpa using hj'] using this
     obtain ⟨arr',g1,g2,_,g4⟩:=yo2 (es:=es) (vs:=vs) len 0 zs (fun j _ hj=>by rw [(hcq j (by omega)).2.1];exact (hcq j (by omega)).1) (by rw [hzs];simp)
     have hfl:=yh5 (ev:=evA fr) (es:=es) parts.toList fun q hq=>(hc q hq).1
     rw [hpl] at hfl
     refine ⟨_,_,?_,h.allocCells nid hn arr' e (mkC P e (parts.toList.flatMap fun q=>yaw (evA fr q.2))) (by rw [yry,hfl,g2,hzs];exact Nat.le_refl _) (fun j hj=>?_),ydx (Nat.le_refl _) (by rw [g2,hzs];exact Nat.le_refl _),_,rfl⟩
     ·simp only [execOp,ho,Instr.buildSlice]
      rw [hpv]
      have hlim': ¬(2^24<len*es):=by omega
      by_cases h0:len*es=0
      ·have g1':Instr.fill (fun i=>some (i*es,es)) ((Array.range (len*es)).map ((#[]:Array Value)[· % 0]!)) ((List.range' 0 len).map fun j=>(j,vs j))=some arr':=by
        have:zs=(Array.range (len*es)).map ((#[]:Array Value)[· % 0]!):=by simp [zs,h0]
        rw [←this];exact g1
       simp [run_underlying (yax hk),hsize,h0]
       simp [h0] at g1'
       rw [g1'];simp [ye7]
      ·have g1':Instr.fill (fun i=>some (i*es,es)) ((Array.range (len*es)).map (zv.cells[· % zv.cells.size]!)) ((List.range' 0 len).map fun j=>(j,vs j))=some arr':=by
        have:zs=(Array.range (len*es)).map (zv.cells[· % zv.cells.size]!):=by simp [zs,h0]
        rw [←this];exact g1
       simp [run_underlying (yax hk),hsize,hlim',h0,zeroValue,typeInfo,i1,i2]
       rw [g1'];simp [ye7]
     ·rw [yry,hfl] at hj
      rw [y11 _ _ _ _ (by rw [hfl];exact hj)]
      have hjd:j/es<len:=(Nat.div_lt_iff_lt_mul hes).2 hj
      have hjm:j % es<es:=Nat.mod_lt _ hes
      obtain ⟨q1,q2,q3⟩:=hcq (j/es) hjd
      have hje:j/es*es+j % es=j:=by rw [Nat.mul_comm];exact Nat.div_add_mod j es
      have ha:=g4 (j/es) (Nat.zero_le _) (by rw [Nat.zero_add];exact hjd) (j % es) hjm
      rw [hje] at ha
      have hlt:j % es<(vs (j/es)).cells.size:=by rw [q2,q1];exact hjm
      refine ⟨(vs (j/es)).cells[j % es],by rw [ha];simp [hlt],?_⟩
      have hx:(parts.toList.flatMap fun q=>yaw (evA fr q.2)).getD j .any=(yaw (evA fr (parts.toList.getD (j/es) default).2)).getD (j % es) .any:=by
       have gen: ∀(l:List (Nat×Operand)) (j:Nat),(∀q∈l,(yaw (evA fr q.2)).length=es)->j<l.length*es->(l.flatMap fun q=>yaw (evA fr q.2)).getD j .any=(yaw (evA fr (l.getD (j/es) default).2)).getD (j % es) .any:=by
        intro l
        induction l with
        |nil=>intro j _ hj;simp at hj
        |cons q l ih=>
         intro j hq hj
         have hq0:=hq q (by simp)
         simp only [List.flatMap_cons,List.getD_eq_getElem?_getD]
         by_cases c:j<es
         ·rw [List.getElem?_append_left (by omega),Nat.div_eq_of_lt c,Nat.mod_eq_of_lt c];simp
         ·rw [List.getElem?_append_right (by omega),hq0]
          have:=ih (j-es) (fun x hx=>hq x (by simp [hx])) (by simp only [List.length_cons,Nat.succ_mul] at hj;omega)
          simp only [List.getD_eq_getElem?_getD] at this
          rw [this,Nat.div_eq_sub_div hes (show es<=j by omega),Nat.mod_eq_sub_mod (show es<=j by omega)]
          simp
       exact gen parts.toList j (fun q hq=>(hc q hq).1) (by rw [hpl];exact hj)
      rw [hx]
      have hlc:j % es<(yaw (evA fr (parts.toList.getD (j/es) default).2)).length:=by rw [q1];exact hjm
      generalize yaw (evA fr (parts.toList.getD (j/es) default).2)=cl at*
      have:=q3 (j % es) (vs (j/es)).cells[j % es] cl[j % es] (by simp [hlt]) (List.getElem?_eq_getElem hlc)
      rw [List.getD_eq_getElem?_getD,List.getElem?_eq_getElem hlc]
      exact this
    ·cases ha
   ·cases ha
  ·cases ha
 |makeMap t r'=>
  rw [ho] at ha
  cases r' with
  |some x=>simp [alF] at ha
  |none=>
   simp only [alF] at ha
   cases ha
   have hmk: ∀ob,ob=mkM P t-> ∃v w',(execOp a.eval o).run P w= .ok (.value v) w'/\Sim B w0 Mx N w' (upd ρ nid ⟨w.heap.size,0,none⟩) fr ((nid,ob)::H) a/\VR w' (MM Mx ((nid,ob)::H) (upd ρ nid ⟨w.heap.size,0,none⟩)) (upd ρ nid ⟨w.heap.size,0,none⟩) (DD ((nid,ob)::H)) v (.mp nid)/\ ∃blk,w'=w.alloc blk:=by
    intro ob hob
    refine ⟨.map (some w.heap.size),w.alloc (.map #[] 0),?_,h.alloc nid hn (.map #[] 0) ob (fun M' ρ' D' hr _=>?_),?_,_,rfl⟩
    ·simp only [execOp,ho];simp [Instr.makeMap,newObj,Sem.run]
    ·rcases ynl P t with e|e|e|e|e|e<;>rw [e] at hob<;>subst hob
     ·exact ⟨by simp, #[],0,by rw [hr];exact ya1,rfl,by simp⟩
     ·exact ⟨[], #[],0,by rw [hr];exact ya1,rfl,fun _=>rfl⟩
     ·exact ⟨[], #[],0,by rw [hr];exact ya1,rfl,fun _=>rfl⟩
     ·exact ⟨#[],by rw [hr];exact ya1,rfl,fun j e q he=>by simp at he⟩
     ·exact ⟨#[],by rw [hr];exact ya1,rfl,fun j e q he=>by simp at he⟩
     ·exact ⟨[], #[],0,by rw [hr];exact ya1,rfl,fun _=>rfl⟩
    ·have:=VR.mp (w:=w.alloc (.map #[] 0)) (M:=MM Mx ((nid,ob)::H) (upd ρ nid ⟨w.heap.size,0,none⟩)) (ρ:=upd ρ nid ⟨w.heap.size,0,none⟩) (D:=DD ((nid,ob)::H)) nid yft
     rwa [yau] at this
   exact hmk _ rfl
 |_=>rw [ho] at ha;simp [alF] at ha
end
end Go.Proofs.YtfgbnalnbdhimaaGreatDoor
namespace Go.Proofs.YtfgbnalnbdhimaaGreatDoor
open Go Go.RowKit
def p1:AV->Bool
 | .any| .int .. | .bool _| .str _| .nils| .ro .. | .rp .. =>true
 |_=>false
def p2:AV->Bool
 | .agg xs=>xs.all p1
 | .fn _ xs=>xs.all p1
 |x=>p1 x
def p3:AV->Bool
 | .agg xs=>xs.all p2
 | .tup xs=>xs.all p2
 | .fn _ xs=>xs.all p2
 |x=>p1 x
def n1 (id:Nat):AV->Bool
 | .ptr i _=>decide (i≠id)
 | .sl _ i _ _=>decide (i≠id)
 | .mp i=>decide (i≠id)
 | .agg _| .tup _| .fn _ _=>false
 |_=>true
def n2 (id:Nat):AV->Bool
 | .agg xs=>xs.all (n1 id)
 | .fn _ xs=>xs.all (n1 id)
 |x=>n1 id x
def n3 (id:Nat):AV->Bool
 | .agg xs=>xs.all (n2 id)
 | .tup xs=>xs.all (n2 id)
 | .fn _ xs=>xs.all (n2 id)
 |x=>n1 id x
section
variable {w:World} {M:Nat->Prop} {ρ ρ':Nat->Addr} {D D':Nat->Prop}
theorem VR.D0 {v:Value} {x:AV} (h:VR w M ρ (fun _=>False) v x):VR w M ρ' D' v x:=h.carry (Nat.le_refl _) (fun _ _ hm=>⟨rfl,hm⟩) (fun _ h=>h.elim)
theorem VR.pure1 {v:Value} {x:AV} (h:VR w M ρ D v x) (hp:p1 x=true):VR w M ρ' D' v x:=by
 cases h with
 |any=>exact .any _
 |int=>exact .int _ _
 |bool=>exact .bool _
 |str=>exact .str _
 |nils=>exact .nils
 |ro es len c ad cap x hl hc he h0 hv=>exact .ro es len c ad cap x hl hc he h0 fun j hj=>(hv j hj).D0
 |rp c off a x hb hm hj hv=>exact .rp c off a x hb hm hj fun j hj=>(hv j hj).D0
 |_=>cases hp
theorem VR.pure2 {v:Value} {x:AV} (h:VR w M ρ D v x) (hp:p2 x=true):VR w M ρ' D' v x:=by
 cases x with
 |agg xs=>
  obtain ⟨vs,rfl,hl,hx⟩:=h.agg_inv
  exact .agg vs xs hl fun i v x h1 h2=>(hx i v x h1 h2).pure1 (List.all_eq_true.1 hp _ (List.mem_of_getElem? h2))
 |fn f xs=>
  obtain ⟨vs,rfl,hl,hx⟩:=h.fn_inv
  exact .fn f vs xs hl fun i v x h1 h2=>(hx i v x h1 h2).pure1 (List.all_eq_true.1 hp _ (List.mem_of_getElem? h2))
 |_=>exact h.pure1 hp
theorem VR.pure3 {v:Value} {x:AV} (h:VR w M ρ D v x) (hp:p3 x=true):VR w M ρ' D' v x:=by
 cases x with
 |agg xs=>
  obtain ⟨vs,rfl,hl,hx⟩:=h.agg_inv
  exact .agg vs xs hl fun i v x h1 h2=>(hx i v x h1 h2).pure2 (List.all_eq_true.1 hp _ (List.mem_of_getElem? h2))
 |fn f xs=>
  obtain ⟨vs,rfl,hl,hx⟩:=h.fn_inv
  exact .fn f vs xs hl fun i v x h1 h2=>(hx i v x h1 h2).pure2 (List.all_eq_true.1 hp _ (List.mem_of_getElem? h2))
 |tup xs=>
  obtain ⟨vs,rfl,hl,hx⟩:=h.tup_inv
  exact .tup vs xs hl fun i v x h1 h2=>(hx i v x h1 h2).pure2 (List.all_eq_true.1 hp _ (List.mem_of_getElem? h2))
 |_=>exact h.pure1 hp
theorem VR.not1 {id:Nat} {v:Value} {x:AV} (h:VR w M ρ D v x) (hp:n1 id x=true) (hD: ∀i,D i->i≠id->D' i):VR w M ρ D' v x:=by
 cases h with
 |any=>exact .any _
 |int=>exact .int _ _
 |bool=>exact .bool _
 |str=>exact .str _
 |nils=>exact .nils
 |ro es len c ad cap x hl hc he h0 hv=>exact .ro es len c ad cap x hl hc he h0 hv
 |rp c off a x hb hm hj hv=>exact .rp c off a x hb hm hj hv
 |ptr i off hd=>exact .ptr i off (hD i hd (by simpa [n1] using hp))
 |sl es i off len cap hd hc arr t ad ha hb hr=>exact .sl es i off len cap (hD i hd (by simpa [n1] using hp)) hc arr t ad ha hb hr
 |mp i hd=>exact .mp i (hD i hd (by simpa [n1] using hp))
 |_=>cases hp
theorem VR.not2 {id:Nat} {v:Value} {x:AV} (h:VR w M ρ D v x) (hp:n2 id x=true) (hD: ∀i,D i->i≠id->D' i):VR w M ρ D' v x:=by
 cases x with
 |agg xs=>
  obtain ⟨vs,rfl,hl,hx⟩:=h.agg_inv
  exact .agg vs xs hl fun i v x h1 h2=>(hx i v x h1 h2).not1 (List.all_eq_true.1 hp _ (List.mem_of_getElem? h2)) hD
 |fn f xs=>
  obtain ⟨vs,rfl,hl,hx⟩:=h.fn_inv
  exact .fn f vs xs hl fun i v x h1 h2=>(hx i v x h1 h2).not1 (List.all_eq_true.1 hp _ (List.mem_of_getElem? h2)) hD
 |_=>exact h.not1 hp hD
theorem VR.not3 {id:Nat} {v:Value} {x:AV} (h:VR w M ρ D v x) (hp:n3 id x=true) (hD: ∀i,D i->i≠id->D' i):VR w M ρ D' v x:=by
 cases x with
 |agg xs=>
  obtain ⟨vs,rfl,hl,hx⟩:=h.agg_inv
  exact .agg vs xs hl fun i v x h1 h2=>(hx i v x h1 h2).not2 (List.all_eq_true.1 hp _ (List.mem_of_getElem? h2)) hD
 |fn f xs=>
  obtain ⟨vs,rfl,hl,hx⟩:=h.fn_inv
  exact .fn f vs xs hl fun i v x h1 h2=>(hx i v x h1 h2).not2 (List.all_eq_true.1 hp _ (List.mem_of_getElem? h2)) hD
 |tup xs=>
  obtain ⟨vs,rfl,hl,hx⟩:=h.tup_inv
  exact .tup vs xs hl fun i v x h1 h2=>(hx i v x h1 h2).not2 (List.all_eq_true.1 hp _ (List.mem_of_getElem? h2)) hD
 |_=>exact h.not1 hp hD
end
def cutV (id:Nat) (x:AV):AV:=if n3 id x then x else .any
def cutC (id:Nat):Cs->Cs
 | .ints l=> .ints l
 | .bools l=> .bools l
 | .lst l=> .lst (l.map (cutV id))
def cutO (id:Nat):AObj->AObj
 | .gone=> .gone
 | .cells t c=> .cells t (cutC id c)
 | .imap t l=> .imap t l
 | .fmap t c=> .fmap t c
 | .gmap t ck l=> .gmap t ck l
 | .iter m s sn la=> .iter m s sn la
def hcut (id:Nat):Hp->Hp
 |[]=>[]
 |(i,o)::r=>if i=id then hcut id r else (i,cutO id o)::hcut id r
def fcut (id:Nat):Fr->Fr
 |[]=>[]
 |(t,x)::r=>(t,cutV id x)::fcut id r
def yia (id:Nat):AObj->Bool
 | .imap _ l=>l.all fun q=>p3 q.2
 | .gmap _ _ l=>l.all fun q=>p3 q.2.2
 | .iter mid _ _ _=>mid !=id
 |_=>true
theorem yfu (id:Nat) (H:Hp) (i:Nat):hget (hcut id H) i=if i=id then none else (hget H i).map (cutO id):=by
 induction H with
 |nil=>simp [hcut,hget]
 |cons p r ih=>
  obtain ⟨j,o⟩:=p
  simp only [hcut,hget]
  by_cases h1:j=id
  ·subst h1
   rw [if_pos rfl,ih]
   by_cases h2:i=j
   ·simp [h2]
   ·simp [h2,Ne.symm h2]
  ·rw [if_neg h1]
   simp only [hget]
   by_cases h2:j=i
   ·subst h2;simp [h1]
   ·simp only [h2,if_false];exact ih
theorem yy3 (id:Nat) (fr:Fr) (t:Nat):fget (fcut id fr) t=cutV id (fget fr t):=by
 induction fr with
 |nil=>simp [fcut,fget,cutV,n3,n1]
 |cons p r ih=>
  obtain ⟨s,x⟩:=p
  simp only [fcut,fget]
  split
  ·rfl
  ·exact ih
theorem ygk (id:Nat) (o:AObj):(cutO id o).live=o.live:=by cases o<;>rfl
theorem ykb (id:Nat) (c:Cs):(cutC id c).len=c.len:=by cases c<;>simp [cutC,Cs.len]
theorem yo3 (id:Nat) (c:Cs) (j:Nat) (hj:j<c.len):(cutC id c).get j=cutV id (c.get j):=by
 cases c with
 |ints l=>simp [cutC,Cs.get,cutV,n3,n1]
 |bools l=>simp [cutC,Cs.get,cutV,n3,n1]
 |lst l=>simp only [Cs.len] at hj;simp [cutC,Cs.get,hj]
theorem VR.cutV {w:World} {M:Nat->Prop} {ρ:Nat->Addr} {D D':Nat->Prop} {id:Nat} {v:Value} {x:AV} (h:VR w M ρ D v x) (hD: ∀i,D i->i≠id->D' i):VR w M ρ D' v (cutV id x):=by
 unfold Proofs.YtfgbnalnbdhimaaGreatDoor.cutV
 split
 ·rename_i hn;exact h.not3 hn hD
 ·exact .any _
section
variable {P:Program} {B:Nat} {w0:ybi} {Mx:Nat->Prop} {N:Nat} {w:World} {ρ:Nat->Addr} {fr:Fr} {H:Hp} {a:Act}
theorem yld {id i:Nat}:DD (hcut id H) i↔DD H i/\i≠id:=by
 unfold DD
 rw [yfu]
 by_cases h:i=id
 ·simp [h]
 ·simp only [h,if_false,ne_eq,not_false_eq_true,and_true,Option.map_eq_some_iff]
  constructor
  ·rintro ⟨_,q,h1,_⟩;exact ⟨q,h1⟩
  ·rintro ⟨q,h1⟩;exact ⟨_,q,h1,rfl⟩
theorem Sim.detach (h:Sim B w0 Mx N w ρ fr H a) {id:Nat} {o:AObj} (hid:hget H id=some o) (hl:o.live=true) (him: ∀i q,hget H i=some q->yia id q=true):
  Sim B w0 (fun b=>Mx b\/b=(ρ id).block) N w ρ (fcut id fr) (hcut id H) a:=by
 have hM: ∀b,MM (fun b=>Mx b\/b=(ρ id).block) (hcut id H) ρ b->MM Mx H ρ b:=fun b hb=>by
  rcases hb with (h1|h1)|⟨i,q,h1,h2,h3⟩
  ·exact .inl h1
  ·exact .inr ⟨id,o,hid,hl,h1.symm⟩
  ·rw [yfu] at h1
   split at h1
   ·cases h1
   ·obtain ⟨q',h4,rfl⟩:=Option.map_eq_some_iff.1 h1
    exact .inr ⟨i,q',h4,by rw [ygk] at h2;exact h2,h3⟩
 have hc: ∀{v:Value} {x:AV},VR w (MM Mx H ρ) ρ (DD H) v x->VR w (MM (fun b=>Mx b\/b=(ρ id).block) (hcut id H) ρ) ρ (DD (hcut id H)) v (cutV id x):=fun hv=>by
  refine VR.cutV (D:=DD H) ?_ (fun i h1 h2=>yld.2 ⟨h1,h2⟩)
  exact hv.carry (Nat.le_refl _) (fun b _ hm=>⟨rfl,fun hh=>hm (hM b hh)⟩) (fun i hd=>⟨hd,rfl,fun arr t ha=>⟨arr,ha,rfl⟩⟩)
 have key: ∀i q,hget (hcut id H) i=some q->i≠id/\ ∃q',hget H i=some q'/\q=cutO id q':=fun i q h1=>by
  rw [yfu] at h1
  split at h1
  ·cases h1
  ·rename_i hne
   obtain ⟨q',h4,rfl⟩:=Option.map_eq_some_iff.1 h1
   exact ⟨hne,q',h4,rfl⟩
 refine ⟨h.below,h.hB,fun b hb=>?_,fun i q h1 h2=>?_,fun i q h1=>?_,fun i q i' q' h1 h2 h3 h4 h5=>?_,fun t=>?_,h.defers,h.size⟩
 ·rcases hb with h1|h1
  ·exact h.mx b h1
  ·rw [h1];exact (h.objs id o hid).lt hl
 ·obtain ⟨hne,q',h3,rfl⟩:=key i q h1
  rw [ygk] at h2
  obtain ⟨g1,g2⟩:=h.own i q' h3 h2
  exact ⟨g1,fun hh=>by rcases hh with hh|hh
                       ·exact g2 hh
                       ·exact hne (h.inj i q' id o h3 h2 hid hl hh)⟩
 ·obtain ⟨hne,q',h3,rfl⟩:=key i q h1
  have hr:=h.objs i q' h3
  have hio:=him i q' h3
  cases q' with
  |gone=>trivial
  |cells t c=>
   obtain ⟨k1,arr,k2,k3,k4⟩:=hr
   exact ⟨k1,arr,k2,by rw [ykb];exact k3,fun j hj=>by
    rw [ykb] at hj
    obtain ⟨u,hu,hv⟩:=k4 j hj
    exact ⟨u,hu,by rw [yo3 _ _ _ hj];exact hc hv⟩⟩
  |fmap t c=>exact hr
  |gmap t ck l=>
   obtain ⟨es,k1,k2,k3⟩:=hr
   exact ⟨es,k1,k2,fun j e q he hl=>by
    obtain ⟨g1,g2,g3⟩:=k3 j e q he hl
    have:=List.all_eq_true.1 hio q (List.mem_of_getElem? hl)
    refine ⟨g1,g2,?_⟩
    have g4:VR w (MM (fun b=>Mx b\/b=(ρ id).block) (hcut id H) ρ) ρ (DD H) e.val q.2.2:=g3.carry (Nat.le_refl _) (fun b _ hm=>⟨rfl,fun hh=>hm (hM b hh)⟩) (fun i hd=>⟨hd,rfl,fun arr t ha=>⟨arr,ha,rfl⟩⟩)
    exact g4.pure3 this⟩
  |iter mid s sn la=>
   obtain ⟨k1,k2,k3⟩:=hr
   exact ⟨yld.2 ⟨k1,by simpa [yia] using hio⟩,k2,k3⟩
  |imap t l=>
   obtain ⟨k0,es,ck,k1,k2,k3⟩:=hr
   exact ⟨k0,es,ck,k1,k2,fun j e k x he hl=>by
    obtain ⟨g1,g2,g3⟩:=k3 j e k x he hl
    have:=List.all_eq_true.1 hio (k,x) (List.mem_of_getElem? hl)
    refine ⟨g1,?_,g3⟩
    have g4:VR w (MM (fun b=>Mx b\/b=(ρ id).block) (hcut id H) ρ) ρ (DD H) e.val x:=g2.carry (Nat.le_refl _) (fun b _ hm=>⟨rfl,fun hh=>hm (hM b hh)⟩) (fun i hd=>⟨hd,rfl,fun arr t ha=>⟨arr,ha,rfl⟩⟩)
    exact g4.pure3 this⟩
 ·obtain ⟨_,p,g1,rfl⟩:=key i q h1
  obtain ⟨_,p',g2,rfl⟩:=key i' q' h3
  rw [ygk] at h2 h4
  exact h.inj i p i' p' g1 h2 g2 h4 h5
 ·rw [yy3];exact hc (h.frv t)
theorem Sim.allow (h:Sim B w0 Mx N w ρ fr H a) {My:Nat->Prop} (hM: ∀b,My b->Mx b):Sim B w0 My N w ρ fr H a:=by
 have hMM: ∀b,MM My H ρ b->MM Mx H ρ b:=fun b hb=>hb.imp (hM b) id
 have hc: ∀{D:Nat->Prop} {v:Value} {x:AV},VR w (MM Mx H ρ) ρ D v x->VR w (MM My H ρ) ρ D v x:=fun hv=>
  hv.carry (Nat.le_refl _) (fun b _ hm=>⟨rfl,fun hh=>hm (hMM b hh)⟩) (fun i hd=>⟨hd,rfl,fun arr t ha=>⟨arr,ha,rfl⟩⟩)
 refine ⟨h.below,h.hB,fun b hb=>h.mx b (hM b hb),fun i o h1 h2=>⟨(h.own i o h1 h2).1,fun hh=>(h.own i o h1 h2).2 (hM _ hh)⟩,fun i o h1=>?_,h.inj,fun t=>hc (h.frv t),h.defers,h.size⟩
 have hr:=h.objs i o h1
 cases o with
 |gone=>trivial
 |cells t c=>
  obtain ⟨k1,arr,k2,k3,k4⟩:=hr
  exact ⟨k1,arr,k2,k3,fun j hj=>let ⟨u,hu,hv⟩:=k4 j hj;⟨u,hu,hc hv⟩⟩
 |gmap t ck l=>
  obtain ⟨es,k1,k2,k3⟩:=hr
  exact ⟨es,k1,k2,fun j e q he hl=>let ⟨g1,g2,g3⟩:=k3 j e q he hl;⟨g1,g2,hc g3⟩⟩
 |iter mid s sn la=>exact hr
 |imap t l=>
  obtain ⟨k0,es,ck,k1,k2,k3⟩:=hr
  exact ⟨k0,es,ck,k1,k2,fun j e k x he hl=>let ⟨g1,g2,g3⟩:=k3 j e k x he hl;⟨g1,hc g2,g3⟩⟩
 |fmap t c=>exact hr
theorem Sim.attach (h:Sim B w0 Mx N w ρ fr H a) {My:Nat->Prop} {id b t off:Nat} {c:Cs} {arr arr':Array Value} {w':World} (hid:hget H id=none) (hMx: ∀x,Mx x↔My x\/x=b) (hMy: ¬My b) (hBb:B<=b)
  (harr:w.heap[b]?=some (.cells arr t (0,0))) (h1:w'.heap[b]?=some (.cells arr' t (0,0))) (h2:arr'.size=arr.size) (h3:w'.heap.size=w.heap.size) (h4:w'.os=w.os) (h5:w'.tape=w.tape) (h6:w'.output=w.output)
  (h7: ∀k,k≠b->w'.heap[k]?=w.heap[k]?) (hlen:off+c.len<=arr'.size) (hv: ∀j,j<c.len-> ∃u,arr'[off+j]?=some u/\VR w (MM Mx H ρ) ρ (DD H) u (c.get j)):
  Sim B w0 My N w' (upd ρ id ⟨b,off,none⟩) fr ((id, .cells t c)::H) a:=by
 have hne: ∀i o,hget H i=some o->i≠id:=fun i o h1 h2=>by subst h2;rw [hid] at h1;cases h1
 have hget': ∀i,hget ((id,AObj.cells t c)::H) i=if id=i then some (.cells t c) else hget H i:=fun i=>rfl
 have hM: ∀x,MM My ((id,AObj.cells t c)::H) (upd ρ id ⟨b,off,none⟩) x->MM Mx H ρ x:=fun x hx=>by
  rcases hx with g1|⟨i,o,g1,g2,g3⟩
  ·exact .inl ((hMx x).2 (.inl g1))
  ·rw [hget'] at g1
   split at g1
   ·rename_i e;subst e;rw [yau] at g3;exact .inl ((hMx x).2 (.inr g3.symm))
   ·rename_i e;rw [ya3 _ _ (fun h=>e h.symm)] at g3;exact .inr ⟨i,o,g1,g2,g3⟩
 have hDD: ∀i,DD H i->DD ((id,AObj.cells t c)::H) i:=fun i ⟨q,hq⟩=>⟨q,by rw [hget',if_neg (fun h=>hne i q hq h.symm)];exact hq⟩
 have hc: ∀{v:Value} {x:AV},VR w (MM Mx H ρ) ρ (DD H) v x->VR w' (MM My ((id,AObj.cells t c)::H) (upd ρ id ⟨b,off,none⟩)) (upd ρ id ⟨b,off,none⟩) (DD ((id,AObj.cells t c)::H)) v x:=fun hv=>by
  refine hv.carry (by omega) (fun x hx hm=>?_) (fun i hi=>?_)
  ·have:x≠b:=fun e=>hm (.inl ((hMx x).2 (.inr e)))
   exact ⟨h7 x this,fun hh=>hm (hM x hh)⟩
  ·obtain ⟨q,hq⟩:=hi
   refine ⟨hDD i ⟨q,hq⟩,ya3 _ _ (hne i q hq),fun ar tt har=>?_⟩
   by_cases e:(ρ i).block=b
   ·rw [e] at har⊢;rw [harr] at har;cases har;exact ⟨arr',h1,h2⟩
   ·exact ⟨ar,(h7 _ e).trans har,rfl⟩
 have hnb: ∀i o,hget H i=some o->o.live=true->(ρ i).block≠b:=fun i o g1 g2 e=>(h.own i o g1 g2).2 ((hMx _).2 (.inr e))
 refine ⟨⟨h4.trans h.below.os,h5.trans h.below.tape,h6.trans h.below.output,by have:=h.below.size;omega,fun k hk=>(h7 k (by omega)).trans (h.below.block k hk)⟩,by have:=h.hB;omega,fun x hx=>by have:=h.mx x ((hMx x).2 (.inl hx));omega,fun i o g1 g2=>?_,fun i o g1=>?_,fun i o i' o' g1 g2 g3 g4 g5=>?_,fun tt=>hc (h.frv tt),h.defers,h.size⟩
 ·rw [hget'] at g1
  split at g1
  ·rename_i e;subst e;rw [yau];exact ⟨hBb,hMy⟩
  ·rename_i e;rw [ya3 _ _ (fun h=>e h.symm)]
   exact ⟨(h.own i o g1 g2).1,fun hh=>(h.own i o g1 g2).2 ((hMx _).2 (.inl hh))⟩
 ·rw [hget'] at g1
  split at g1
  ·rename_i e;cases g1;subst e
   exact ⟨by rw [yau],arr',by rw [yau];exact h1,by rw [yau];exact hlen,fun j hj=>by rw [yau];obtain ⟨u,hu,hr⟩:=hv j hj;exact ⟨u,hu,hc hr⟩⟩
  ·rename_i e
   have hr:=h.objs i o g1
   have hup:=ya3 ρ (x:=⟨b,off,none⟩) (id:=id) (i:=i) (fun h=>e h.symm)
   cases o with
   |gone=>trivial
   |cells tt cc=>
    obtain ⟨k1,ar,k2,k3,k4⟩:=hr
    have hnb':=hnb i _ g1 rfl
    exact ⟨by rw [hup];exact k1,ar,by rw [hup];exact (h7 _ hnb').trans k2,by rw [hup];exact k3,fun j hj=>by rw [hup];obtain ⟨u,hu,hv⟩:=k4 j hj;exact ⟨u,hu,hc hv⟩⟩
   |gmap tt ck l=>
    obtain ⟨es,k1,k2,k3⟩:=hr
    have hnb':=hnb i _ g1 rfl
    exact ⟨es,by rw [hup];exact (h7 _ hnb').trans k1,k2,fun j e' q he hl=>let ⟨g1,g2,g3⟩:=k3 j e' q he hl;⟨g1,g2,hc g3⟩⟩
   |iter mid s sn la=>
    obtain ⟨k1,k2,k3⟩:=hr
    have hnb':=hnb i _ g1 rfl
    have hm:upd ρ id ⟨b,off,none⟩ mid=ρ mid:=by obtain ⟨q,hq⟩:=k1;exact ya3 _ _ (hne mid q hq)
    exact ⟨hDD mid k1,by rw [hup];exact k2,by rw [hup,hm];exact (h7 _ hnb').trans k3⟩
   |imap tt l=>
    obtain ⟨k0,es,ck,k1,k2,k3⟩:=hr
    have hnb':=hnb i _ g1 rfl
    exact ⟨k0,es,ck,by rw [hup];exact (h7 _ hnb').trans k1,k2,fun j e' k x he hl=>let ⟨g1,g2,g3⟩:=k3 j e' k x he hl;⟨g1,hc g2,g3⟩⟩
   |fmap tt l=>
    obtain ⟨k0,es,ck,k1,k2⟩:=hr
    have hnb':=hnb i _ g1 rfl
    exact ⟨k0,es,ck,by rw [hup];exact (h7 _ hnb').trans k1,k2⟩
 ·rw [hget'] at g1 g3
  split at g1<;>split at g3
  ·rename_i e1 e2;omega
  ·rename_i e1 e2
   subst e1;rw [yau,ya3 _ _ (fun h=>e2 h.symm)] at g5
   exact absurd g5.symm (hnb i' o' g3 g4)
  ·rename_i e1 e2
   subst e2;rw [yau,ya3 _ _ (fun h=>e1 h.symm)] at g5
   exact absurd g5 (hnb i o g1 g2)
  ·rename_i e1 e2
   rw [ya3 _ _ (fun h=>e1 h.symm),ya3 _ _ (fun h=>e2 h.symm)] at g5
   exact h.inj i o i' o' g1 g2 g3 g4 g5
end
end Go.Proofs.YtfgbnalnbdhimaaGreatDoor
namespace Go.Proofs.YtfgbnalnbdhimaaGreatDoor
open Go Go.RowKit
def srcF (H:Hp) (es:Nat):AV->Option (Prop×Nat×Option Cs)
 | .nils=>some (True,0,none)
 | .sl es' id off n=>if es=es' then match hget H id with
   |some (.cells _ c)=>some (off+n*es<=c.len,n,some (c.win off (n*es)))
   |_=>none
   else none
 | .ro es' n c=>if es=es' then some (True,n,some c) else none
 |_=>none
def appO (c:Cs):Option Cs->Cs
 |none=>c
 |some d=>c.app d
def lenO:Option Cs->Nat
 |none=>0
 |some d=>d.len
def getO (d:Option Cs) (j:Nat):AV:=match d with|none=> .any|some d=>d.get j
def apF (P:Program) (fr:Fr) (H:Hp) (t:Nat) (s x:AV):Option (Prop×AV×Fr×Hp):=
 match tk P t with
 | .slice e=>match tsz P e,tby P e,tze P e with
   |some es,some by',some z=>if 0<es/\by'<=1048576/\z.length=es then
    match srcF H es x with
    |some (q,m,d)=>match s with
     | .nils=>match d with
       |some (.lst [])=>some (q, .nils,fr,H)
       |some d=>if d.toL.all ycd=true then some (q/\0<m/\m<=1048576, .sl es (hnew H) 0 m,fr,(hnew H, .cells e d)::H) else none
       |none=>none
     | .sl es' id off len=>match hget H id with
       |some (.cells t' c)=>if es=es'/\t'=e/\n2D id d=true/\(H.all fun q=>yia id q.2)=true then
        some (q/\off+len*es=c.len/\len+m<=1048576, .sl es id 0 (len+m),fcut id fr,(id, .cells e (appO (cutC id (c.drop off)) d))::hcut id H) else none
       |_=>none
     |_=>none
    |none=>none
    else none
   |_,_,_=>none
 |_=>none
where n2D (id:Nat):Option Cs->Bool
 |some (.lst l)=>l.all fun x=>n3 id x&&ycd x
 |_=>true
theorem yc5 (c:Cs) (d:Option Cs):(appO c d).len=c.len+lenO d:=by cases d<;>simp [appO,lenO,Cs.len_app]
theorem yhi (c:Cs) (d:Option Cs) (i:Nat) (hi:i<c.len+lenO d):(appO c d).get i=if i<c.len then c.get i else getO d (i-c.len):=by
 cases d with
 |none=>simp only [lenO,Nat.add_zero] at hi;simp [appO,hi]
 |some d=>simp only [lenO] at hi;simp [appO,getO,Cs.get_app _ _ _ hi]
section
variable {P:Program} {w:World} {M:Nat->Prop} {ρ:Nat->Addr} {D:Nat->Prop}
theorem ygz {es n c:Nat} {A:Option Addr} {news:List Value} (hl:news.length=n*es) (h: ∀a,A=some a-> ∀(j:Nat) (u:Value),news[j]?=some u->w.cell? (a.add j)=some u) (h0:A=none->n=0):
  (Builtin.firstCells es n (.slice A n c)).run P w= .ok news.toArray w:=by
 cases A with
 |none=>
  have:n=0:=h0 rfl
  subst this
  have:news=[]:=List.eq_nil_of_length_eq_zero (by simpa using hl)
  subst this;simp [Builtin.firstCells]
 |some a=>
  have hx:=ydm (P:=P) (w:=w) (a:=a) (x:=fun j=>news.getD j undef) (n*es) 0 #[] (fun j _ hj=>by
   have hj':j<news.length:=by omega
   rw [h a rfl j _ (List.getElem?_eq_getElem hj')];simp [hj'])
  have e:((List.range (n*es)).map fun j=>news.getD (0+j) undef)=news:=by
   apply List.ext_getElem?
   intro j
   by_cases hj:j<news.length
   ·simp [hj,show j<n*es by omega]
   ·rw [List.getElem?_eq_none (by simp;omega),List.getElem?_eq_none (by omega)]
  rw [e] at hx
  simp [Builtin.firstCells,loadCells,hx]
theorem yg0 {t ty e es:Nat} (ht:P.underlying t=some (.slice e)) (hs:tsz P e=some es) (b0:Addr) (sLen sCap n c:Nat) (A:Option Addr) (news:List Value) (hf:(Builtin.firstCells es n (.slice A n c)).run P w= .ok news.toArray w)
  (hfit:sLen+n<=sCap) {w':World} (hst:(storeCells (b0.add (sLen*es)) news 0).run P w= .ok () w'):(Builtin.append_ #[t,t] ty #[.slice (some b0) sLen sCap, .slice A n c]).run P w= .ok (.slice (some b0) (sLen+n) sCap) w':=by
 have hz:=yap hs w
 simp [Builtin.append_,run_underlying ht,hz,Builtin.lenOf,hfit,hf,hst]
theorem yd7 {H:Hp} (hob: ∀id ob,hget H id=some ob->ObjR w M ρ D id ob) {es:Nat} {v:Value} {x:AV} {q:Prop} {m:Nat} {d:Option Cs} (hv:VR w M ρ D v x) (h:srcF H es x=some (q,m,d)) (hq:q):
  ∃(A:Option Addr) (c:Nat) (news:List Value),v= .slice A m c/\news.length=m*es/\lenO d=m*es/\(A=none->m=0)/\(∀a,A=some a-> ∀(j:Nat) (u:Value),news[j]?=some u->w.cell? (a.add j)=some u)/\
   ∀(j:Nat) (u:Value),news[j]?=some u->VR w M ρ D u (getO d j):=by
 unfold srcF at h
 split at h
 ·cases h
  have e:=hv.nils_inv
  subst e
  exact ⟨none,0,[],rfl,by simp,by simp [lenO],fun _=>rfl,by simp,by simp⟩
 ·rename_i es' id off n
  split at h
  ·rename_i he
   subst he
   split at h
   ·rename_i t c ho
    cases h
    cases hv with
    |sl es id off len cap hd hc arr t ad0 ha0 hb hr=>
     have hobj:=hob id _ ho
     have hx: ∀j,∃u,j<m*es->w.cell? (((ρ id).add off).add j)=some u/\VR w M ρ D u (c.get (off+j)):=fun j=>by
      by_cases hj:j<m*es
      ·obtain ⟨u,h1,h2⟩:=hobj.cell (j:=off+j) (by omega);exact ⟨u,fun _=>⟨by rw [yb8];exact h1,h2⟩⟩
      ·exact ⟨undef,fun h=>absurd h hj⟩
     obtain ⟨g,hg⟩:=Classical.axiomOfChoice hx
     refine ⟨_,cap,(List.range (m*es)).map g,rfl,by simp,by simp [lenO,Cs.len_win _ _ _ hq],(fun h=>by cases h),fun a ha j u hu=>?_,fun j u hu=>?_⟩
     ·cases ha
      simp only [List.getElem?_map] at hu
      by_cases hj:j<m*es
      ·have hm0:0<m:=by
        rcases Nat.eq_zero_or_pos m with e|e
        ·subst e;simp at hj
        ·exact e
       have hae:=ha0 (by omega)
       subst hae
       simp [List.getElem?_range hj] at hu;subst hu;exact (hg j hj).1
      ·simp [List.getElem?_eq_none (l:=List.range (m*es)) (i:=j) (by simp;omega)] at hu
     ·simp only [List.getElem?_map] at hu
      by_cases hj:j<m*es
      ·simp [List.getElem?_range hj] at hu;subst hu;simp only [getO,Cs.get_win _ _ _ _ hj];exact (hg j hj).2
      ·simp [List.getElem?_eq_none (l:=List.range (m*es)) (i:=j) (by simp;omega)] at hu
   ·cases h
  ·cases h
 ·rename_i es' n c
  split at h
  ·rename_i he
   subst he
   cases h
   cases hv with
   |ro es len c ad cap x hl hc he h0 hv=>
    refine ⟨ad,cap,(List.range (m*es)).map x,rfl,by simp,by simp [lenO,hl],fun h=>?_,fun a ha j u hu=>?_,fun j u hu=>?_⟩
    ·rcases Nat.eq_zero_or_pos m with e|e
     ·exact e
     ·obtain ⟨a,ha,_⟩:=h0 e;rw [h] at ha;cases ha
    ·simp only [List.getElem?_map] at hu
     by_cases hj:j<m*es
     ·simp [List.getElem?_range hj] at hu;subst hu
      obtain ⟨a',ha',_,_,hcell⟩:=h0 (by rcases Nat.eq_zero_or_pos m with e|e
                                        ·subst e;simp at hj
                                        ·exact e)
      rw [ha] at ha';cases ha';exact hcell j (by omega)
     ·simp [List.getElem?_eq_none (l:=List.range (m*es)) (i:=j) (by simp;omega)] at hu
    ·simp only [List.getElem?_map] at hu
     by_cases hj:j<m*es
     ·simp [List.getElem?_range hj] at hu;subst hu;simp only [getO];exact (hv j (by omega)).D0
     ·simp [List.getElem?_eq_none (l:=List.range (m*es)) (i:=j) (by simp;omega)] at hu
  ·cases h
 ·cases h
end
theorem ykc {H:Hp} {i:Nat} {o:AObj} (h:hget H i=some o):(i,o)∈H:=by
 induction H with
 |nil=>cases h
 |cons p r ih=>
  obtain ⟨j,q⟩:=p
  simp only [hget] at h
  split at h
  ·rename_i e;subst e;cases h;simp
  ·exact List.mem_cons_of_mem _ (ih h)
section
variable {P:Program} {B:Nat} {w0:ybi} {Mx:Nat->Prop} {N:Nat} {w:World} {ρ:Nat->Addr} {fr:Fr} {H:Hp} {a:Act}
theorem yvo (h:Sim B w0 Mx N w ρ fr H a) {t ty:Nat} {s x:AV} {u v:Value} {p:Prop} {r:AV} {fr':Fr} {H':Hp} (hu:VR w (MM Mx H ρ) ρ (DD H) u s) (hv:VR w (MM Mx H ρ) ρ (DD H) v x)
  (ha:apF P fr H t s x=some (p,r,fr',H')) (hp:p): ∃z w' ρ',(Builtin.append_ #[t,t] ty #[u,v]).run P w= .ok z w'/\Sim B w0 Mx N w' ρ' fr' H' a/\VR w' (MM Mx H' ρ') ρ' (DD H') z r:=by
 unfold apF at ha
 split at ha
 ·rename_i e hk
  have ht:=yax hk
  split at ha
  ·rename_i es by' z h1 h2 h3
   split at ha
   ·rename_i hh
    obtain ⟨hes,hby,hz⟩:=hh
    obtain ⟨i,zv,i1,i2,i3⟩:=ydt h3
    obtain ⟨i',i4,i5⟩:=yj7 h2
    rw [i1] at i4;cases i4
    obtain ⟨i',i6,i7⟩:=yhf h1
    rw [i1] at i6;cases i6
    have hzs:zv.cells.size=es:=by have:=congrArg List.length i3;simp at this;omega
    split at ha
    ·rename_i q m d hsrc
     split at ha
     ·--onto nil
      split at ha
      ·cases ha
       obtain ⟨A,c,news,rfl,n1',n2',n3',n4',n5'⟩:=yd7 h.objs hv hsrc hp
       have e:=hu.nils_inv
       subst e
       have hm0:m=0:=by
        simp only [lenO,Cs.len,List.length_nil] at n2'
        rcases Nat.mul_eq_zero.1 n2'.symm with h|h<;>omega
       subst hm0
       have hn0:news=[]:=List.eq_nil_of_length_eq_zero (by simpa using n1')
       subst hn0
       have hfc:(Builtin.firstCells es 0 (.slice A 0 c)).run P w= .ok #[] w:=by cases A<;>simp [Builtin.firstCells,loadCells,loadCellsFrom]
       exact ⟨.slice none 0 0,w,ρ,by simp [Builtin.append_,run_underlying ht,yap h1,Builtin.lenOf,hfc],h, .nils⟩
      ·rename_i d _
       split at ha
       ·cases ha
        obtain ⟨hq,hm,hml⟩:=hp
        obtain ⟨A,c,news,rfl,n1',n2',n3',n4',n5'⟩:=yd7 h.objs hv hsrc hq
        have e:=hu.nils_inv
        subst e
        obtain ⟨ad,rfl⟩: ∃ad,A=some ad:=by
         cases A with
         |none=>have:=n3' rfl;omega
         |some ad=>exact ⟨ad,rfl⟩
        have hb48:m*i.bytes<=281474976710656:=by
         have:m*i.bytes<=1048576*1048576:=Nat.mul_le_mul (by omega) (by omega)
         omega
        have hr:=run_append_nil (P:=P) w t ty e i zv ht i1 i2 ad m c news (by rw [i7];exact n1') (n4' ad rfl) hm (by omega) hb48
        have hdw:=h.draw
        have hnone:hget H (hnew H)=none:=yec (Nat.le_refl _)
        simp only [lenO] at n2'
        have hcap:m<=grownCap w m 0 e:=by unfold grownCap;simp only [Question.cut];omega
        have hasz:(news.toArray++Builtin.zeroCells zv.cells (grownCap w m 0 e-m)).size=grownCap w m 0 e*es:=by
         simp only [Array.size_append,Builtin.zeroCells,Array.size_map,Array.size_range,List.size_toArray,n1',hzs]
         rw [←Nat.add_mul];congr 1;omega
        have hall:=hdw.allocCells (hnew H) hnone (news.toArray++Builtin.zeroCells zv.cells (grownCap w m 0 e-m)) e d (by rw [hasz,n2'];exact Nat.mul_le_mul_right _ hcap) (fun j hj=>by
         have hj':j<news.length:=by omega
         refine ⟨news[j],by rw [Array.getElem?_append_left (by simpa using hj')];simp [hj'],?_⟩
         have:=n5' j news[j] (List.getElem?_eq_getElem hj')
         exact this.carry (w':={w with drawn:=w.drawn+1}) (Nat.le_refl _) (fun _ _ hm=>⟨rfl,hm⟩) (fun id hd=>⟨hd,rfl,fun arr t ha=>⟨arr,ha,rfl⟩⟩))
        exact ⟨_,_,_,hr,hall,ydx (w:={w with drawn:=w.drawn+1}) hcap (by rw [hasz];exact Nat.le_refl _)⟩
       ·cases ha
      ·cases ha
     ·--onto a row of one's own
      rename_i es' id off len
      split at ha
      ·rename_i t' c ho
       split at ha
       ·rename_i hcond
        obtain ⟨rfl,rfl,hn2,him⟩:=hcond
        have him': ∀i q,hget H i=some q->yia id q=true:=fun i q hq=>List.all_eq_true.1 him _ (ykc hq)
        cases ha
        obtain ⟨hq,hoff,hml⟩:=hp
        obtain ⟨A,cx,news,rfl,n1',n2',n3',n4',n5'⟩:=yd7 h.objs hv hsrc hq
        obtain ⟨hsp,arr0,hb0,hl0,hcs0⟩:=h.objs id _ ho
        have hdet:=h.detach ho rfl him'
        have hcutnone:hget (hcut id H) id=none:=by rw [yfu];simp
        have hrho:ρ id=⟨(ρ id).block,(ρ id).off,none⟩:=by cases hh:ρ id;rw [hh] at hsp;simp at hsp;subst hsp;rfl
        have hMd: ∀b,MM (fun b=>Mx b\/b=(ρ id).block) (hcut id H) ρ b->MM Mx H ρ b:=fun b hb=>by
         rcases hb with (g1|g1)|⟨k,q',g1,g2,g3⟩
         ·exact .inl g1
         ·exact .inr ⟨id,_,ho,rfl,g1.symm⟩
         ·rw [yfu] at g1
          split at g1
          ·cases g1
          ·obtain ⟨q'',g4,rfl⟩:=Option.map_eq_some_iff.1 g1
           exact .inr ⟨k,q'',g4,by rw [ygk] at g2;exact g2,g3⟩
        have hcw: ∀{v:Value} {x:AV},VR w (MM Mx H ρ) ρ (DD H) v x->VR w (MM (fun b=>Mx b\/b=(ρ id).block) (hcut id H) ρ) ρ (DD H) v x:=fun hv=>
         hv.carry (Nat.le_refl _) (fun b _ hm=>⟨rfl,fun hh=>hm (hMd b hh)⟩) (fun k hd=>⟨hd,rfl,fun arr t ha=>⟨arr,ha,rfl⟩⟩)
        have hclen:(cutC id (c.drop off)).len=len*es:=by rw [ykb,Cs.len_drop];omega
        have hgetD: ∀j u,news[j]?=some u->VR w (MM (fun b=>Mx b\/b=(ρ id).block) (hcut id H) ρ) ρ (DD (hcut id H)) u (getO d j)/\oneC u:=fun j u hu=>by
         have g:=hcw (n5' j u hu)
         have hj:j<lenO d:=by
          have:j<news.length:=by
           rcases Nat.lt_or_ge j news.length with g|g
           ·exact g
           ·rw [List.getElem?_eq_none g] at hu;cases hu
          omega
         cases d with
         |none=>simp [lenO] at hj
         |some d=>
          cases d with
          |ints l=>simp only [getO,Cs.get] at g⊢;exact ⟨g.pure1 rfl,g.oneC rfl⟩
          |bools l=>simp only [getO,Cs.get] at g⊢;exact ⟨g.pure1 rfl,g.oneC rfl⟩
          |lst l=>
           simp only [lenO,Cs.len] at hj
           have hx:=List.all_eq_true.1 hn2 _ (List.getElem_mem hj)
           simp only [Bool.and_eq_true] at hx
           simp only [getO,Cs.get,List.getD_eq_getElem?_getD,List.getElem?_eq_getElem hj,Option.getD_some] at g⊢
           exact ⟨g.not3 hx.1 (fun k h1 h2=>yld.2 ⟨h1,h2⟩),g.oneC hx.2⟩
        have hgetC: ∀j,j<len*es-> ∃u,arr0[(ρ id).off+off+j]?=some u/\VR w (MM (fun b=>Mx b\/b=(ρ id).block) (hcut id H) ρ) ρ (DD (hcut id H)) u ((cutC id (c.drop off)).get j):=fun j hj=>by
         obtain ⟨u,g1,g2⟩:=hcs0 (off+j) (by omega)
         refine ⟨u,by rw [Nat.add_assoc];exact g1,?_⟩
         rw [yo3 _ _ _ (by rw [Cs.len_drop];omega),Cs.get_drop]
         exact (hcw g2).cutV (fun k h1 h2=>yld.2 ⟨h1,h2⟩)
        cases hu with
        |sl es id off len cap hd hcap arr t ad0 ha0 hb hr=>
         rw [hb0] at hb
         cases hb
         have hbase:(ρ id).add off=⟨(ρ id).block,(ρ id).off+off,none⟩:=ych hsp off
         by_cases hfit:len+m<=cap
         ·--there is room
          have hf:=ygz (P:=P) (w:=w) (es:=es) (n:=m) (c:=cx) (A:=A) (news:=news) n1' n4' n3'
          have hroom:(ρ id).off+off+len*es+news.length<=arr0.size:=by
           rw [n1']
           have:(len+m)*es<=cap*es:=Nat.mul_le_mul_right _ hfit
           rw [Nat.add_mul] at this;omega
          obtain ⟨w',arr',r1,r2,r3,r4,r5,r6,r7,r8,r9⟩:=yde (P:=P) (b:=(ρ id).block) (t:=t') (o:=(ρ id).off+off+len*es) news 0 w arr0 hb0 (by omega) (fun u hu=>by
           obtain ⟨j,hj⟩:=List.mem_iff_getElem?.1 hu;exact (hgetD j u hj).2)
          have hbadd:((ρ id).add off).add (len*es)=⟨(ρ id).block,(ρ id).off+off+len*es,none⟩:=by rw [hbase,ych rfl]
          have hrun:=yg0 (P:=P) (w:=w) (ty:=ty) (w':=w') ht h1 ad0 len cap m cx A news hf hfit (by
           by_cases hc0:0<cap
           ·rw [ha0 hc0,hbadd];exact r1
           ·have hn0:news=[]:=List.eq_nil_of_length_eq_zero (by rw [n1',show m=0 by omega];simp)
            subst hn0
            simp [storeCells] at r1⊢
            exact r1)
          have hatt:=hdet.attach (My:=Mx) (id:=id) (b:=(ρ id).block) (t:=t') (off:=(ρ id).off+off) (c:=appO (cutC id (c.drop off)) d) hcutnone (fun x=>Iff.rfl) (h.own id _ ho rfl).2 (h.own id _ ho rfl).1 hb0 r2 r3 r4 r5 r6 r7 r8
           (by rw [yc5,hclen,n2',r3]
               have:(len+m)*es<=cap*es:=Nat.mul_le_mul_right _ hfit
               rw [Nat.add_mul] at this;omega) (fun j hj=>by
            rw [yc5,hclen,n2'] at hj
            rw [yhi _ _ _ (by rw [hclen,n2'];exact hj),hclen,r9]
            by_cases c1:j<len*es
            ·rw [if_pos c1,if_neg (by omega)];exact hgetC j c1
            ·rw [if_neg c1,if_pos (by omega)]
             have e1:(ρ id).off+off+j-((ρ id).off+off+len*es+0)=j-len*es:=by omega
             rw [e1]
             have hlt:j-len*es<news.length:=by omega
             exact ⟨news[j-len*es],List.getElem?_eq_getElem hlt,(hgetD _ _ (List.getElem?_eq_getElem hlt)).1⟩)
          refine ⟨_,w',_,hrun,hatt,?_⟩
          have:=VR.sl (w:=w') (M:=MM Mx ((id,AObj.cells t' (appO (cutC id (c.drop off)) d))::hcut id H) (upd ρ id ⟨(ρ id).block,(ρ id).off+off,none⟩)) (ρ:=upd ρ id ⟨(ρ id).block,(ρ id).off+off,none⟩) (D:=DD ((id,AObj.cells t' (appO (cutC id (c.drop off)) d))::hcut id H)) es id 0 (len+m) cap yft hfit arr' t' ad0 (fun hc0=>by rw [yau,ha0 hc0,hbase];rfl) (by rw [yau];exact r2) (by rw [yau,r3];simpa using hr)
          exact this
         ·--a new array
          have holdl: ∃olds:List Value,olds.length=len*es/\ ∀(j:Nat) (u:Value),olds[j]?=some u->w.cell? (((ρ id).add off).add j)=some u/\VR w (MM (fun b=>Mx b\/b=(ρ id).block) (hcut id H) ρ) ρ (DD (hcut id H)) u ((cutC id (c.drop off)).get j):=by
           have hx: ∀j,∃u,j<len*es->w.cell? (((ρ id).add off).add j)=some u/\VR w (MM (fun b=>Mx b\/b=(ρ id).block) (hcut id H) ρ) ρ (DD (hcut id H)) u ((cutC id (c.drop off)).get j):=fun j=>by
            by_cases hj:j<len*es
            ·obtain ⟨u,g1,g2⟩:=hgetC j hj
             exact ⟨u,fun _=>⟨by rw [hbase,ych rfl];simp [World.cell?,hb0,g1],g2⟩⟩
            ·exact ⟨undef,fun h=>absurd h hj⟩
           obtain ⟨g,hg⟩:=Classical.axiomOfChoice hx
           refine ⟨(List.range (len*es)).map g,by simp,fun j u hu=>?_⟩
           simp only [List.getElem?_map] at hu
           by_cases hj:j<len*es
           ·simp [List.getElem?_range hj] at hu;subst hu;exact hg j hj
           ·simp [List.getElem?_eq_none (l:=List.range (len*es)) (i:=j) (by simp;omega)] at hu
          obtain ⟨olds,o1,o2⟩:=holdl
          have hmpos:0<m:=by omega
          obtain ⟨ad,rfl⟩: ∃ad,A=some ad:=by
           cases A with
           |none=>have:=n3' rfl;omega
           |some ad=>exact ⟨ad,rfl⟩
          have hfits:Builtin.nextslicecap (len+m) cap*i.bytes<=281474976710656:=growslice_fits (by omega) (by
           have:(len+m)*i.bytes<=1048576*1048576:=Nat.mul_le_mul (by omega) (by omega)
           omega)
          have hr':=run_append_grow (P:=P) w t ty t' i zv ht i1 i2 ad0 len cap olds (by rw [i7];exact o1) (fun j u hu=>by
           have hjl:j<olds.length:=by
            rcases Nat.lt_or_ge j olds.length with g|g
            ·exact g
            ·rw [List.getElem?_eq_none g] at hu;cases hu
           have hl0:0<len:=by
            rcases Nat.eq_zero_or_pos len with e|e
            ·subst e;simp at o1;simp [o1] at hjl
            ·exact e
           rw [ha0 (by omega)];exact (o2 j u hu).1) ad m cx news (by rw [i7];exact n1') (n4' ad rfl) (by omega) (by omega) hfits
          have hcap':len+m<=grownCap w (len+m) cap t':=by unfold grownCap;simp only [Question.cut];omega
          have hasz:(olds.toArray++news.toArray++Builtin.zeroCells zv.cells (grownCap w (len+m) cap t'-(len+m))).size=grownCap w (len+m) cap t'*es:=by
           simp only [Array.size_append,Builtin.zeroCells,Array.size_map,Array.size_range,List.size_toArray,n1',o1,hzs]
           rw [←Nat.add_mul,←Nat.add_mul];congr 1;omega
          have hdw:=(hdet.allow (My:=Mx) (fun b hb=> .inl hb)).draw
          have hMy: ∀b,MM Mx (hcut id H) ρ b->MM (fun b=>Mx b\/b=(ρ id).block) (hcut id H) ρ b:=fun b hb=>hb.imp .inl (fun h=>h)
          have hcd: ∀{v:Value} {x:AV},VR w (MM (fun b=>Mx b\/b=(ρ id).block) (hcut id H) ρ) ρ (DD (hcut id H)) v x->VR {w with drawn:=w.drawn+1} (MM Mx (hcut id H) ρ) ρ (DD (hcut id H)) v x:=fun hv=>
           hv.carry (w':={w with drawn:=w.drawn+1}) (Nat.le_refl _) (fun b _ hm=>⟨rfl,fun hh=>hm (hMy b hh)⟩) (fun k hd=>⟨hd,rfl,fun arr t ha=>⟨arr,ha,rfl⟩⟩)
          have hall:=hdw.allocCells id hcutnone (olds.toArray++news.toArray++Builtin.zeroCells zv.cells (grownCap w (len+m) cap t'-(len+m))) t' (appO (cutC id (c.drop off)) d)
           (by rw [hasz,yc5,hclen,n2',←Nat.add_mul];exact Nat.mul_le_mul_right _ hcap') (fun j hj=>by
            rw [yc5,hclen,n2'] at hj
            rw [yhi _ _ _ (by rw [hclen,n2'];exact hj),hclen]
            by_cases c1:j<len*es
            ·rw [if_pos c1]
             have hlt:j<olds.length:=by omega
             exact ⟨olds[j],by rw [Array.getElem?_append_left (by simp;omega),Array.getElem?_append_left (by simpa using hlt)];simp [hlt],hcd (o2 j _ (List.getElem?_eq_getElem hlt)).2⟩
            ·rw [if_neg c1]
             have hlt:j-len*es<news.length:=by omega
             exact ⟨news[j-len*es],by rw [Array.getElem?_append_left (by simp;omega),Array.getElem?_append_right (by simp;omega)];simp [o1,hlt],hcd (hgetD _ _ (List.getElem?_eq_getElem hlt)).1⟩)
          exact ⟨_,_,_,hr',hall,ydx (w:={w with drawn:=w.drawn+1}) hcap' (by rw [hasz];exact Nat.le_refl _)⟩
       ·cases ha
      ·cases ha
     ·cases ha
    ·cases ha
   ·cases ha
  ·cases ha
 ·cases ha
end
end Go.Proofs.YtfgbnalnbdhimaaGreatDoor
namespace Go.Proofs.YtfgbnalnbdhimaaGreatDoor
open Go Go.RowKit
def yck (d:Int):Option AV->Option Int
 |none=>some d
 |some (.int _ n)=>some n
 |_=>none
def yle (P:Program) (t:Nat) (x:AV) (lo hi:Option AV):Option (Prop×AV):=
 match tk P t,x with
 | .slice e, .sl es id off len=>match tsz P e,yck 0 lo,yck len hi with
   |some es',some l,some h=>if es=es' then some (0<=l/\l<=h/\h<=len, .sl es id (off+l.toNat*es) (h.toNat-l.toNat)) else none
   |_,_,_=>none
 | .slice e, .ro es len c=>match tsz P e,yck 0 lo,yck len hi with
   |some es',some l,some h=>if es=es' then some (0<=l/\l<=h/\h<=len, .ro es (h.toNat-l.toNat) (c.win (l.toNat*es) ((h.toNat-l.toNat)*es))) else none
   |_,_,_=>none
 | .slice e, .nils=>match tsz P e,yck 0 lo,yck 0 hi with
   |some _,some l,some h=>some (l=0/\h=0, .nils)
   |_,_,_=>none
 | .str, .str s=>match yck 0 lo,yck s.size hi with
   |some l,some h=>some (0<=l/\l<=h/\h<=s.size, .str (s.extract l.toNat h.toNat))
   |_,_=>none
 |_,_=>none
def quF (P:Program) (H:Hp) (ev:Operand->AV) (o:Op):Option (Prop×AV):=
 match o with
 | .build t parts=>ylb P t (parts.toList.map fun q=>(q.1,ev q.2))
 | .slice t x lo hi none=>yle P t (ev x) (lo.map ev) (hi.map ev)
 |o=>opF P (hget H) ev o
section
variable {P:Program} {w:World} {M:Nat->Prop} {ρ:Nat->Addr} {D:Nat->Prop}
theorem yua {d n:Int} {x:Option AV} {v:Option Value} (h:yck d x=some n) (hv: ∀u y,v=some u->x=some y->VR w M ρ D u y) (hn:v=none↔x=none):
  (v=none/\n=d)\/ ∃k,v=some (.int k n):=by
 cases x with
 |none=>simp only [yck] at h;cases h;exact .inl ⟨hn.2 rfl,rfl⟩
 |some y=>
  cases v with
  |none=>exact absurd (hn.1 rfl) (by simp)
  |some u=>
   have:=hv u y rfl rfl
   cases y<;>simp only [yck,reduceCtorEq] at h
   cases h
   exact .inr ⟨_,by rw [this.int_inv]⟩
theorem ye8 {isS:Bool} {len cap:Nat} {lo hi:Option Value} {l h:Int} (hl:(lo=none/\l=0)\/ ∃k,lo=some (.int k l)) (hh:(hi=none/\h=len)\/ ∃k,hi=some (.int k h)) (h1:0<=l) (h2:l<=h) (h3:h<=len) (hc:len<=cap):
  (Instr.sliceBounds isS len cap lo hi none).run P w= .ok (l.toNat,h.toNat,cap) w:=by
 rcases hl with ⟨rfl,rfl⟩|⟨k,rfl⟩<;>rcases hh with ⟨rfl,rfl⟩|⟨k',rfl⟩
 ·simp [Instr.sliceBounds]
 ·have g1:0<=h:=by omega
  have g2:h<=(cap:Int):=by omega
  simp [Instr.sliceBounds,Instr.sliceBound,asIntOf,g1,g2]
 ·have g2:l<=(len:Int):=by omega
  simp [Instr.sliceBounds,Instr.sliceBound,asIntOf,h1,g2]
 ·have g1:0<=h:=by omega
  have g2:h<=(cap:Int):=by omega
  simp [Instr.sliceBounds,Instr.sliceBound,asIntOf,h1,g1,g2]
  intro hx;omega
theorem ycv {t:Nat} {d:TypeDesc} (hu:P.underlying t=some d) (hd: ∀n e,d≠ .array n e) (x:Value) (lo hi mx:Option Value):(Instr.sliceAt t x lo hi mx).run P w=(Instr.slice t x lo hi mx).run P w:=by
 cases d<;>first|(simp [Instr.sliceAt,run_underlying hu];done)|exact absurd rfl (hd _ _)
theorem yo4 {t:Nat} {u:Value} {x:AV} {lo hi:Option Operand} {a:Act} {ev:Operand->AV} (hev: ∀x,VR w M ρ D (a.eval x) (ev x)) {p:Prop} {r:AV} (hu:VR w M ρ D u x)
  (h:yle P t x (lo.map ev) (hi.map ev)=some (p,r)) (hp:p): ∃z,(Instr.sliceAt t u (lo.map a.eval) (hi.map a.eval) none).run P w= .ok z w/\VR w M ρ D z r:=by
 have hb: ∀(q:Option Operand) (d n:Int),yck d (q.map ev)=some n->(q.map a.eval=none/\n=d)\/ ∃k,q.map a.eval=some (.int k n):=fun q d n hq=>
  yua (w:=w) (M:=M) (ρ:=ρ) (D:=D) hq (fun v y h1 h2=>by cases q with
   |none=>cases h1
   |some o=>cases h1;cases h2;exact hev o) (by cases q<;>simp)
 unfold yle at h
 split at h
 ·rename_i e es id off len hk
  split at h
  ·rename_i es' l hh h1 h2 h3
   split at h
   ·rename_i he
    subst he
    cases h
    obtain ⟨q1,q2,q3⟩:=hp
    cases hu with
    |sl es id off len cap hd hc arr t' ad ha hbk hr=>
     have hrun:=ye8 (P:=P) (w:=w) (isS:=true) (cap:=cap) (hb lo 0 l h2) (hb hi len hh h3) q1 q2 q3 hc
     have hsz:=yap h1 w
     refine ⟨.slice (if cap=l.toNat then some ad else some (ad.add (l.toNat*es))) (hh.toNat-l.toNat) (cap-l.toNat),?_,?_⟩
     ·rw [ycv (yax hk) (by simp)]
      simp [Instr.slice,run_underlying (yax hk),hrun,hsz]
     ·have hlt:(l.toNat:Int)=l:=by omega
      have hht:(hh.toNat:Int)=hh:=by omega
      by_cases hcl:cap=l.toNat
      ·rw [if_pos hcl]
       refine .sl es id _ _ _ hd (by omega) arr t' ad (fun h=>by omega) hbk ?_
       have:cap-l.toNat=0:=by omega
       rw [this,←hcl];simp;omega
      ·rw [if_neg hcl]
       refine .sl es id _ _ _ hd (by omega) arr t' _ (fun h=>by rw [ha (by omega),yb8]) hbk ?_
       have:l.toNat*es+(cap-l.toNat)*es=cap*es:=by rw [←Nat.add_mul];congr 1;omega
       omega
   ·cases h
  ·cases h
 ·rename_i e es len c hk
  split at h
  ·rename_i es' l hh h1 h2 h3
   split at h
   ·rename_i he
    subst he
    cases h
    obtain ⟨q1,q2,q3⟩:=hp
    cases hu with
    |ro es len c ad cap x hl hc he h0 hv=>
     have hrun:=ye8 (P:=P) (w:=w) (isS:=true) (cap:=cap) (hb lo 0 l h2) (hb hi len hh h3) q1 q2 q3 hc
     have hsz:=yap h1 w
     have hmul:l.toNat*es+(hh.toNat-l.toNat)*es<=c.len:=by
      rw [hl,←Nat.add_mul];exact Nat.mul_le_mul_right _ (by omega)
     refine ⟨.slice (if cap=l.toNat then ad else ad.map (·.add (l.toNat*es))) (hh.toNat-l.toNat) (cap-l.toNat),?_,?_⟩
     ·rw [ycv (yax hk) (by simp)]
      simp [Instr.slice,run_underlying (yax hk),hrun,hsz]
     ·refine .ro es _ _ _ _ (fun j=>x (l.toNat*es+j)) (Cs.len_win _ _ _ hmul) (by omega) he (fun hpos=>?_) (fun j hj=>?_)
      ·have hcl: ¬cap=l.toNat:=by omega
       obtain ⟨b,rfl,g1,g2,g3⟩:=h0 (by omega)
       rw [if_neg hcl]
       refine ⟨_,rfl,by rw [ye5];exact g1,by rw [ye5];exact g2,fun j hj=>?_⟩
       rw [Cs.len_win _ _ _ hmul] at hj
       rw [yb8];exact g3 _ (by omega)
      ·rw [Cs.len_win _ _ _ hmul] at hj
       rw [Cs.get_win _ _ _ _ hj];exact hv _ (by omega)
   ·cases h
  ·cases h
 ·rename_i e hk
  split at h
  ·rename_i es l hh h1 h2 h3
   cases h
   obtain ⟨rfl,rfl⟩:=hp
   have e1:=hu.nils_inv
   subst e1
   have hrun:=ye8 (P:=P) (w:=w) (isS:=true) (len:=0) (cap:=0) (hb lo 0 0 h2) (hb hi 0 0 h3) (by omega) (by omega) (by omega) (Nat.le_refl _)
   have hsz:=yap h1 w
   exact ⟨.slice none 0 0,by rw [ycv (yax hk) (by simp)];simp [Instr.slice,run_underlying (yax hk),hrun,hsz], .nils⟩
  ·cases h
 ·rename_i s hk
  split at h
  ·rename_i l hh h2 h3
   cases h
   obtain ⟨q1,q2,q3⟩:=hp
   have e1:=hu.str_inv
   subst e1
   have hrun:=ye8 (P:=P) (w:=w) (isS:=false) (len:=s.size) (cap:=s.size) (hb lo 0 l h2) (hb hi s.size hh h3) q1 q2 q3 (Nat.le_refl _)
   exact ⟨.string (s.extract l.toNat hh.toNat),by rw [ycv (ydn hk) (by simp)];simp [Instr.slice,run_underlying (ydn hk),hrun], .str _⟩
  ·cases h
 ·cases h
theorem ygl {H:Hp} (hob: ∀id ob,hget H id=some ob->ObjR w M ρ D id ob) {o:Oper} {a:Act} {ev:Operand->AV} (hev: ∀x,VR w M ρ D (a.eval x) (ev x))
  {p:Prop} {r:AV} (hc: ∀s d x,o.op= .convert s d x-> ∃e,P.underlying s=some e) (h:quF P H ev o.op=some (p,r)) (hp:p):
  ∃v,(execOp a.eval o).run P w= .ok (.value v) w/\VR w M ρ D v r:=by
 cases ho:o.op with
 |build t parts=>
  rw [ho] at h;simp only [quF] at h
  obtain ⟨z,hz,hr⟩:=yo1 (P:=P) hev h
  exact ⟨z,by simp only [execOp,ho];simp [hz],hr⟩
 |slice t x lo hi mx=>
  cases mx with
  |none=>
   rw [ho] at h;simp only [quF] at h
   obtain ⟨z,hz,hr⟩:=yo4 (P:=P) hev (hev x) h hp
   exact ⟨z,by simp only [execOp,ho];simp [hz],hr⟩
  |some m=>rw [ho] at h;simp [quF,opF] at h
 |_=>
  refine yvj (P:=P) hob hev hc ?_ hp
  rw [ho] at h⊢
  simpa only [quF] using h
end
def snap (H:Hp):Nat->AV->AV
 |0,x=>if p1 x then x else .any
 |n+1,x=>match x with
  | .sl es id off len=>match hget H id with
    |some (.cells _ (.lst l))=> .ro es len ((Cs.lst (l.map (snap H n))).win off (len*es))
    |some (.cells _ c)=> .ro es len (c.win off (len*es))
    |_=> .any
  | .ptr id off=>match hget H id with
    |some (.cells _ (.lst l))=> .rp (.lst (l.map (snap H n))) off
    |some (.cells _ c)=> .rp c off
    |_=> .any
  | .agg xs=> .agg (xs.map (snap H n))
  | .tup xs=> .tup (xs.map (snap H n))
  | .fn f xs=> .fn f (xs.map (snap H n))
  | .mp _=> .any
  |x=>x
def yan (H:Hp):Nat->AV->Prop
 |0,_=>True
 |n+1,x=>match x with
  | .sl es id off len=>match hget H id with
    |some (.cells _ (.lst l))=>0<es/\off+len*es<=l.length/\ ∀x∈l,yan H n x
    |some (.cells _ c)=>0<es/\off+len*es<=c.len
    |_=>True
  | .ptr id _=>match hget H id with
    |some (.cells _ (.lst l))=> ∀x∈l,yan H n x
    |_=>True
  | .agg xs=> ∀x∈xs,yan H n x
  | .tup xs=> ∀x∈xs,yan H n x
  | .fn _ xs=> ∀x∈xs,yan H n x
  |_=>True
section
variable {P:Program} {B:Nat} {w0:ybi} {Mx:Nat->Prop} {N:Nat} {w:World} {ρ:Nat->Addr} {fr:Fr} {H:Hp} {a:Act}
theorem yib {My:Nat->Prop} {ρ0:Nat->Addr} {id:Nat} {c c':Cs} (hsp:(ρ id).spot=none) {arr:Array Value} {t:Nat} (hb:w.heap[(ρ id).block]?=some (.cells arr t (0,0))) (hl:(ρ id).off+c.len<=arr.size) (hc:c'.len=c.len)
  (hv: ∀j,j<c.len-> ∃u,arr[(ρ id).off+j]?=some u/\VR w My ρ0 (fun _=>False) u (c'.get j)): ∃x:Nat->Value,(∀j,j<c'.len->w.cell? ((ρ id).add j)=some (x j))/\ ∀j,j<c'.len->VR w My ρ0 (fun _=>False) (x j) (c'.get j):=by
 refine ⟨fun j=>arr.getD ((ρ id).off+j) undef,fun j hj=>?_,fun j hj=>?_⟩
 ·rw [ych hsp]
  have:(ρ id).off+j<arr.size:=by omega
  simp [World.cell?,hb,this]
 ·obtain ⟨u,h1,h2⟩:=hv j (by omega)
  have:(ρ id).off+j<arr.size:=by omega
  rw [Array.getElem?_eq_getElem this] at h1
  cases h1
  simpa [this] using h2
theorem ykd (h:Sim B w0 Mx N w ρ fr H a) {HF:Hp} (hHF: ∀id o,hget HF id=some o->hget H id=some o) {My:Nat->Prop} (hM1: ∀b,My b->MM Mx H ρ b) (hM2: ∀id o,hget HF id=some o->o.live=true-> ¬My (ρ id).block) {ρ0:Nat->Addr}:
  ∀(n:Nat) (v:Value) (x:AV),VR w (MM Mx H ρ) ρ (DD H) v x->yan HF n x->VR w My ρ0 (fun _=>False) v (snap HF n x):=by
 have hM: ∀b,¬MM Mx H ρ b-> ¬My b:=fun b h1 h2=>h1 (hM1 b h2)
 have hcw: ∀{D:Nat->Prop} {v:Value} {x:AV},VR w (MM Mx H ρ) ρ D v x->VR w My ρ D v x:=fun hv=>
  hv.carry (Nat.le_refl _) (fun b _ hm=>⟨rfl,hM b hm⟩) (fun k hd=>⟨hd,rfl,fun arr t ha=>⟨arr,ha,rfl⟩⟩)
 intro n
 induction n with
 |zero=>
  intro v x hv _
  simp only [snap]
  split
  ·rename_i hp;exact (hcw hv).pure1 hp
  ·exact .any _
 |succ n ih=>
  intro v x hv hp
  have hobj: ∀id t l,hget HF id=some (.cells t (.lst l))->(∀x∈l,yan HF n x)->((ρ id).block<w.heap.size/\ ¬My (ρ id).block)/\ ∃y:Nat->Value,(∀j,j<(Cs.lst (l.map (snap HF n))).len->w.cell? ((ρ id).add j)=some (y j))/\ ∀j,j<(Cs.lst (l.map (snap HF n))).len->VR w My ρ0 (fun _=>False) (y j) ((Cs.lst (l.map (snap HF n))).get j):=fun id t l ho hs=>by
   have hr:=h.objs id _ (hHF _ _ ho)
   refine ⟨⟨hr.lt rfl,fun hm=>hM2 id _ ho rfl hm⟩,?_⟩
   obtain ⟨g1,arr,g2,g3,g4⟩:=hr
   refine yib (c:= .lst l) g1 g2 g3 (by simp [Cs.len]) fun j hj=>?_
   obtain ⟨u,k1,k2⟩:=g4 j hj
   refine ⟨u,k1,?_⟩
   simp only [Cs.len] at hj
   have:=ih u _ k2 (by simp only [Cs.get,List.getD_eq_getElem?_getD,List.getElem?_eq_getElem hj,Option.getD_some];exact hs _ (List.getElem_mem hj))
   simpa [Cs.get,hj] using this
  have hflat: ∀id t c,hget HF id=some (.cells t c)->(∀l,c≠ .lst l)->((ρ id).block<w.heap.size/\ ¬My (ρ id).block)/\ ∃y:Nat->Value,(∀j,j<c.len->w.cell? ((ρ id).add j)=some (y j))/\ ∀j,j<c.len->VR w My ρ0 (fun _=>False) (y j) (c.get j):=fun id t c ho hs=>by
   have hr:=h.objs id _ (hHF _ _ ho)
   refine ⟨⟨hr.lt rfl,fun hm=>hM2 id _ ho rfl hm⟩,?_⟩
   obtain ⟨g1,arr,g2,g3,g4⟩:=hr
   refine yib (c:=c) g1 g2 g3 rfl fun j hj=>?_
   obtain ⟨u,k1,k2⟩:=g4 j hj
   refine ⟨u,k1,?_⟩
   cases c with
   |ints l=>exact (hcw k2).pure1 rfl
   |bools l=>exact (hcw k2).pure1 rfl
   |lst l=>exact absurd rfl (hs l)
  have hslice: ∀(es id off len:Nat) (c:Cs) (y:Nat->Value),(∃(ad:Addr) (cap:Nat),v= .slice (some ad) len cap/\len<=cap/\(0<cap->ad=(ρ id).add off))->((ρ id).block<w.heap.size/\ ¬My (ρ id).block)->0<es->off+len*es<=c.len->(∀j,j<c.len->w.cell? ((ρ id).add j)=some (y j))->(∀j,j<c.len->VR w My ρ0 (fun _=>False) (y j) (c.get j))->
   VR w My ρ0 (fun _=>False) v (.ro es len (c.win off (len*es))):=fun es id off len c y hs hb he hl h1 h2=>by
   obtain ⟨ad,cap,rfl,hcap,hae⟩:=hs
   refine .ro es len _ (some ad) cap (fun j=>y (off+j)) (Cs.len_win _ _ _ hl) hcap he (fun hpos=>⟨ad,rfl,?_⟩) (fun j hj=>?_)
   ·rw [hae (by omega)]
    refine ⟨by rw [ye5];exact hb.1,by rw [ye5];exact hb.2,fun j hj=>?_⟩
    rw [Cs.len_win _ _ _ hl] at hj
    rw [yb8];exact h1 _ (by omega)
   ·rw [Cs.len_win _ _ _ hl] at hj
    rw [Cs.get_win _ _ _ _ hj];exact h2 _ (by omega)
  cases hv with
  |any v=>exact .any _
  |int k m=>exact .int _ _
  |bool b=>exact .bool _
  |str s=>exact .str _
  |nils=>exact .nils
  |mp id hd=>exact .any _
  |ro es len c ad cap x hl hc he h0 hv=>
   simp only [snap]
   exact VR.pure1 (hcw (VR.ro (D:=DD H) es len c ad cap x hl hc he h0 hv)) rfl
  |rp c off b x hb hm hj hv=>
   simp only [snap]
   exact VR.pure1 (hcw (VR.rp (D:=DD H) c off b x hb hm hj hv)) rfl
  |agg vs xs hl hx=>
   simp only [snap]
   refine .agg vs _ (by simp [hl]) fun i u y hu hy=>?_
   simp only [List.getElem?_map] at hy
   obtain ⟨y',g1,rfl⟩:=Option.map_eq_some_iff.1 hy
   exact ih u y' (hx i u y' hu g1) (hp _ (List.mem_of_getElem? g1))
  |tup vs xs hl hx=>
   simp only [snap]
   refine .tup vs _ (by simp [hl]) fun i u y hu hy=>?_
   simp only [List.getElem?_map] at hy
   obtain ⟨y',g1,rfl⟩:=Option.map_eq_some_iff.1 hy
   exact ih u y' (hx i u y' hu g1) (hp _ (List.mem_of_getElem? g1))
  |fn f vs xs hl hx=>
   simp only [snap]
   refine .fn f vs _ (by simp [hl]) fun i u y hu hy=>?_
   simp only [List.getElem?_map] at hy
   obtain ⟨y',g1,rfl⟩:=Option.map_eq_some_iff.1 hy
   exact ih u y' (hx i u y' hu g1) (hp _ (List.mem_of_getElem? g1))
  |ptr id off hd=>
   simp only [snap]
   simp only [yan] at hp
   split
   ·rename_i t l ho
    simp only [ho] at hp
    obtain ⟨hb,y,g1,g2⟩:=hobj id t l ho hp
    exact .rp _ off _ y hb.1 hb.2 g1 g2
   ·rename_i t c hne ho
    obtain ⟨hb,y,g1,g2⟩:=hflat id t c ho (fun l e=>hne l e)
    exact .rp _ off _ y hb.1 hb.2 g1 g2
   ·exact .any _
  |sl es id off len cap hd hc arr t ad ha hb hr=>
   simp only [snap]
   simp only [yan] at hp
   split
   ·rename_i t l ho
    simp only [ho] at hp
    obtain ⟨hb',y,g1,g2⟩:=hobj id t l ho hp.2.2
    exact hslice es id off len _ y ⟨ad,cap,rfl,hc,ha⟩ hb' hp.1 (by simpa [Cs.len] using hp.2.1) g1 g2
   ·rename_i t c hne ho
    obtain ⟨hb',y,g1,g2⟩:=hflat id t c ho (fun l e=>hne l e)
    have hp':0<es/\off+len*es<=c.len:=by
     rw [ho] at hp
     cases c with
     |lst l=>exact (hne l rfl).elim
     |ints l=>exact hp
     |bools l=>exact hp
    exact hslice es id off len _ y ⟨ad,cap,rfl,hc,ha⟩ hb' hp'.1 hp'.2 g1 g2
   ·exact .any _
theorem yi5 (h:Sim B w0 Mx N w ρ fr H a) {My:Nat->Prop} (hMy: ∀b,My b->Mx b) {ρ0:Nat->Addr} (n:Nat) (v:Value) (x:AV) (hv:VR w (MM Mx H ρ) ρ (DD H) v x) (hs:yan H n x):VR w My ρ0 (fun _=>False) v (snap H n x):=
 ykd h (fun _ _ h=>h) (fun b hb=> .inl (hMy b hb)) (fun id o ho hl hm=>(h.own id o ho hl).2 (hMy _ hm)) n v x hv hs
end
end Go.Proofs.YtfgbnalnbdhimaaGreatDoor
namespace Go.Proofs.YtfgbnalnbdhimaaGreatDoor
open Go Go.RowKit
def hsel (H:Hp):List Nat->Hp
 |[]=>[]
 |i::r=>match hget H i with
  |some o=>(i,o)::hsel H r
  |none=>hsel H r
theorem yhj {H:Hp}: ∀{ids:List Nat} (i:Nat) (o:AObj),hget (hsel H ids) i=some o->hget H i=some o
 |[],i,o,h=>by cases h
 |j::r,i,o,h=>by
  simp only [hsel] at h
  split at h
  ·rename_i q hq
   simp only [hget] at h
   split at h
   ·rename_i e;subst e;cases h;exact hq
   ·exact yhj i o h
  ·exact yhj i o h
def frzV (HF:Hp):Nat->AV->AV
 |0,x=>x
 |n+1,x=>match x with
  | .sl es id off len=>match hget HF id with
    |some _=>snap HF 6 (.sl es id off len)
    |none=> .sl es id off len
  | .ptr id off=>match hget HF id with
    |some _=>snap HF 6 (.ptr id off)
    |none=> .ptr id off
  | .agg xs=> .agg (xs.map (frzV HF n))
  | .tup xs=> .tup (xs.map (frzV HF n))
  | .fn f xs=> .fn f (xs.map (frzV HF n))
  |x=>x
def frzP (HF:Hp):Nat->AV->Prop
 |0,_=>True
 |n+1,x=>match x with
  | .sl es id off len=>match hget HF id with
    |some _=>yan HF 6 (.sl es id off len)
    |none=>True
  | .ptr id off=>match hget HF id with
    |some _=>yan HF 6 (.ptr id off)
    |none=>True
  | .agg xs=> ∀x∈xs,frzP HF n x
  | .tup xs=> ∀x∈xs,frzP HF n x
  | .fn _ xs=> ∀x∈xs,frzP HF n x
  |_=>True
def frzO (HF:Hp):AObj->AObj
 | .cells t (.lst l)=> .cells t (.lst (l.map (frzV HF 4)))
 | .gmap t ck l=> .gmap t ck (l.map fun q=>(q.1,q.2.1,frzV HF 4 q.2.2))
 |o=>o
def frzF (HF:Hp):Fr->Fr
 |[]=>[]
 |(s,x)::r=>(s,frzV HF 4 x)::frzF HF r
def yi6 (HF:Hp):Fr->Prop
 |[]=>True
 |(_,x)::r=>frzP HF 4 x/\yi6 HF r
def frzH (HF:Hp):Hp->Hp
 |[]=>[]
 |(i,o)::r=>(i,match hget HF i with|some _=> .gone|none=>frzO HF o)::frzH HF r
def yep (HF:Hp):AObj->Prop
 | .cells _ (.lst l)=> ∀x∈l,frzP HF 4 x
 | .gmap _ _ l=> ∀q∈l,frzP HF 4 q.2.2
 |_=>True
def yi7 (HF:Hp):Hp->Prop
 |[]=>True
 |(_,o)::r=>yep HF o/\yi7 HF r
theorem ynn (HF:Hp): ∀(fr:Fr) (t:Nat),fget (frzF HF fr) t=frzV HF 4 (fget fr t)
 |[],t=>rfl
 |(s,x)::r,t=>by simp only [frzF,fget];split<;>simp [ynn HF r t]
theorem yno {HF:Hp}: ∀{fr:Fr},yi6 HF fr-> ∀t,frzP HF 4 (fget fr t)
 |[],_,t=>trivial
 |(s,x)::r,h,t=>by
  simp only [fget]
  split
  ·exact h.1
  ·exact yno h.2 t
theorem ydy (HF:Hp): ∀(H:Hp) (i:Nat),hget (frzH HF H) i=(hget H i).map fun o=>match hget HF i with|some _=>AObj.gone|none=>frzO HF o
 |[],i=>rfl
 |(j,o)::r,i=>by
  simp only [frzH,hget]
  split
  ·rename_i e;subst e;rfl
  ·exact ydy HF r i
theorem ynp {HF:Hp}: ∀{H:Hp},yi7 HF H-> ∀i o,hget H i=some o->yep HF o
 |[],_,i,o,h=>by cases h
 |(j,q)::r,h,i,o,hg=>by
  simp only [hget] at hg
  split at hg
  ·cases hg;exact h.1
  ·exact ynp h.2 i o hg
theorem yic (HF:Hp) (o:AObj):(frzO HF o).live=o.live:=by unfold frzO;split<;>rfl
section
variable {P:Program} {B:Nat} {w0:ybi} {Mx:Nat->Prop} {N:Nat} {w:World} {ρ:Nat->Addr} {fr:Fr} {H:Hp} {a:Act}
theorem yvp (h:Sim B w0 Mx N w ρ fr H a) {HF:Hp} (hHF: ∀id o,hget HF id=some o->hget H id=some o): ∀(n:Nat) (v:Value) (x:AV),VR w (MM Mx H ρ) ρ (DD H) v x->frzP HF n x->VR w (MM Mx (frzH HF H) ρ) ρ (DD (frzH HF H)) v (frzV HF n x):=by
 have hM1: ∀b,MM Mx (frzH HF H) ρ b->MM Mx H ρ b:=by
  rintro b (h1|⟨id,o,h1,h2,h3⟩)
  ·exact .inl h1
  ·rw [ydy] at h1
   obtain ⟨o',g1,g2⟩:=Option.map_eq_some_iff.1 h1
   refine .inr ⟨id,o',g1,?_,h3⟩
   split at g2
   ·subst g2;cases h2
   ·rw [←g2,yic] at h2;exact h2
 have hM2: ∀id o,hget HF id=some o->o.live=true-> ¬MM Mx (frzH HF H) ρ (ρ id).block:=by
  rintro id o ho hl (h1|⟨id',o',h1,h2,h3⟩)
  ·exact (h.own id o (hHF _ _ ho) hl).2 h1
  ·rw [ydy] at h1
   obtain ⟨q,g1,g2⟩:=Option.map_eq_some_iff.1 h1
   split at g2
   ·subst g2;cases h2
   ·rename_i hn
    rw [←g2,yic] at h2
    have:=h.inj id' q id o g1 h2 (hHF _ _ ho) hl h3
    subst this
    rw [hn] at ho;cases ho
 have hDD: ∀id,DD H id->DD (frzH HF H) id:=fun id ⟨o,ho⟩=>⟨_,by rw [ydy,ho];rfl⟩
 have hcw: ∀{v:Value} {x:AV},VR w (MM Mx H ρ) ρ (DD H) v x->VR w (MM Mx (frzH HF H) ρ) ρ (DD (frzH HF H)) v x:=fun hv=>
  hv.carry (Nat.le_refl _) (fun b _ hm=>⟨rfl,fun g=>hm (hM1 b g)⟩) (fun k hd=>⟨hDD k hd,rfl,fun arr t ha=>⟨arr,ha,rfl⟩⟩)
 intro n
 induction n with
 |zero=>intro v x hv _;exact hcw hv
 |succ n ih=>
  intro v x hv hp
  cases x with
  |sl es id off len=>
   simp only [frzV]
   simp only [frzP] at hp
   split
   ·rename_i o ho;rw [ho] at hp;exact (ykd (ρ0:=ρ) h hHF hM1 hM2 6 v _ hv hp).D0
   ·exact hcw hv
  |ptr id off=>
   simp only [frzV]
   simp only [frzP] at hp
   split
   ·rename_i o ho;rw [ho] at hp;exact (ykd (ρ0:=ρ) h hHF hM1 hM2 6 v _ hv hp).D0
   ·exact hcw hv
  |agg xs=>
   obtain ⟨vs,rfl,hl,hx⟩:=hv.agg_inv
   refine .agg vs _ (by simp [hl]) fun i u y hu hy=>?_
   simp only [List.getElem?_map] at hy
   obtain ⟨y',g1,rfl⟩:=Option.map_eq_some_iff.1 hy
   exact ih u y' (hx i u y' hu g1) (hp _ (List.mem_of_getElem? g1))
  |tup xs=>
   obtain ⟨vs,rfl,hl,hx⟩:=hv.tup_inv
   refine .tup vs _ (by simp [hl]) fun i u y hu hy=>?_
   simp only [List.getElem?_map] at hy
   obtain ⟨y',g1,rfl⟩:=Option.map_eq_some_iff.1 hy
   exact ih u y' (hx i u y' hu g1) (hp _ (List.mem_of_getElem? g1))
  |fn f xs=>
   obtain ⟨vs,rfl,hl,hx⟩:=hv.fn_inv
   refine .fn f vs _ (by simp [hl]) fun i u y hu hy=>?_
   simp only [List.getElem?_map] at hy
   obtain ⟨y',g1,rfl⟩:=Option.map_eq_some_iff.1 hy
   exact ih u y' (hx i u y' hu g1) (hp _ (List.mem_of_getElem? g1))
  |_=>exact hcw hv
theorem Sim.freeze (h:Sim B w0 Mx N w ρ fr H a) {HF:Hp} (hHF: ∀id o,hget HF id=some o->hget H id=some o) (h1:yi6 HF fr) (h2:yi7 HF H):Sim B w0 Mx N w ρ (frzF HF fr) (frzH HF H) a:=by
 have hv:=yvp h hHF
 have key: ∀id o,hget (frzH HF H) id=some o->o.live=true-> ∃q,hget H id=some q/\q.live=true/\o=frzO HF q:=fun id o g1 g2=>by
  rw [ydy] at g1
  obtain ⟨q,k1,k2⟩:=Option.map_eq_some_iff.1 g1
  split at k2
  ·subst k2;cases g2
  ·exact ⟨q,k1,by rw [←k2,yic] at g2;exact g2,k2.symm⟩
 refine ⟨h.below,h.hB,h.mx,fun id o g1 g2=>?_,fun id o g1=>?_,fun id o id' o' g1 g2 g3 g4 g5=>?_,fun t=>?_,h.defers,h.size⟩
 ·obtain ⟨q,k1,k2,_⟩:=key id o g1 g2
  exact h.own id q k1 k2
 ·by_cases hl:o.live=true
  ·obtain ⟨q,k1,k2,rfl⟩:=key id o g1 hl
   have hr:=h.objs id q k1
   have hp:=ynp h2 id q k1
   cases q with
   |gone=>trivial
   |cells t c=>
    obtain ⟨e1,arr,e2,e3,e4⟩:=hr
    cases c with
    |ints l=>exact ⟨e1,arr,e2,e3,fun j hj=>let ⟨u,hu,hx⟩:=e4 j hj;⟨u,hu,hv 0 u _ hx trivial⟩⟩
    |bools l=>exact ⟨e1,arr,e2,e3,fun j hj=>let ⟨u,hu,hx⟩:=e4 j hj;⟨u,hu,hv 0 u _ hx trivial⟩⟩
    |lst l=>
     refine ⟨e1,arr,e2,by simpa [frzO,Cs.len] using e3,fun j hj=>?_⟩
     simp only [Cs.len,List.length_map] at hj
     obtain ⟨u,hu,hx⟩:=e4 j hj
     refine ⟨u,hu,?_⟩
     simp only [Cs.get,List.getD_eq_getElem?_getD,List.getElem?_eq_getElem hj,Option.getD_some] at hx
     have:=hv 4 u _ hx (hp _ (List.getElem_mem hj))
     simpa [Cs.get,hj] using this
   |gmap t ck l=>
    obtain ⟨es,k1,k2,k3⟩:=hr
    refine ⟨es,k1,by simpa using k2,fun j e q he hl=>?_⟩
    simp only [List.getElem?_map] at hl
    obtain ⟨q',g1,rfl⟩:=Option.map_eq_some_iff.1 hl
    obtain ⟨g3,g4,g5⟩:=k3 j e q' he g1
    exact ⟨g3,g4,hv 4 _ _ g5 (hp q' (List.mem_of_getElem? g1))⟩
   |iter mid s sn la=>
    obtain ⟨k1,k2,k3⟩:=hr
    obtain ⟨om,hom⟩:=k1
    exact ⟨⟨_,by rw [ydy,hom];rfl⟩,k2,k3⟩
   |imap t l=>
    obtain ⟨k0,es,ck,k1,k2,k3⟩:=hr
    exact ⟨k0,es,ck,k1,k2,fun j e k x he hl=>let ⟨g1,g2,g3⟩:=k3 j e k x he hl;⟨g1,hv 0 _ _ g2 trivial,g3⟩⟩
   |fmap t c=>exact hr
  ·cases o with
   |gone=>trivial
   |_=>exact absurd rfl hl
 ·obtain ⟨q,k1,k2,_⟩:=key id o g1 g2
  obtain ⟨q',k3,k4,_⟩:=key id' o' g3 g4
  exact h.inj id q id' q' k1 k2 k3 k4 g5
 ·rw [ynn];exact hv 4 _ _ (h.frv t) (yno h1 t)
end
def renV (b:Nat):Nat->AV->AV
 |0,x=>if p1 x then x else .any
 |n+1,x=>match x with
  | .sl es id off len=> .sl es (b+id) off len
  | .ptr id off=> .ptr (b+id) off
  | .mp id=> .mp (b+id)
  | .agg xs=> .agg (xs.map (renV b n))
  | .tup xs=> .tup (xs.map (renV b n))
  | .fn f xs=> .fn f (xs.map (renV b n))
  |x=>x
def renO (b:Nat):AObj->AObj
 | .cells t (.lst l)=> .cells t (.lst (l.map (renV b 4)))
 | .imap t l=> .imap t (l.map fun q=>(q.1,renV b 4 q.2))
 | .gmap t ck l=> .gmap t ck (l.map fun q=>(q.1,q.2.1,renV b 4 q.2.2))
 | .iter m s sn la=> .iter (b+m) s sn la
 |o=>o
def renH (b:Nat):Hp->Hp
 |[]=>[]
 |(i,o)::r=>(b+i,renO b o)::renH b r
theorem ynq (b:Nat): ∀(H:Hp) (i:Nat),hget (renH b H) (b+i)=(hget H i).map (renO b)
 |[],i=>rfl
 |(j,o)::r,i=>by
  simp only [renH,hget]
  by_cases e:j=i
  ·subst e;simp
  ·rw [if_neg (by omega),if_neg e];exact ynq b r i
theorem yid (b:Nat): ∀(H:Hp) (i:Nat),i<b->hget (renH b H) i=none
 |[],i,_=>rfl
 |(j,o)::r,i,h=>by simp only [renH,hget];rw [if_neg (by omega)];exact yid b r i h
theorem yke: ∀(H K:Hp) (i:Nat),hget (H++K) i=match hget H i with|some o=>some o|none=>hget K i
 |[],K,i=>rfl
 |(j,o)::r,K,i=>by
  simp only [List.cons_append,hget]
  split
  ·rfl
  ·exact yke r K i
theorem ydz (b:Nat) (o:AObj):(renO b o).live=o.live:=by unfold renO;split<;>rfl
theorem yvq {w:World} {M:Nat->Prop} {ρ ρ':Nat->Addr} {D D':Nat->Prop} {b:Nat} (hD: ∀i,D i->D' (b+i)/\ρ' (b+i)=ρ i): ∀(n:Nat) (v:Value) (x:AV),VR w M ρ D v x->VR w M ρ' D' v (renV b n x):=by
 intro n
 induction n with
 |zero=>
  intro v x hv
  simp only [renV]
  split
  ·rename_i hp;exact hv.pure1 hp
  ·exact .any _
 |succ n ih=>
  intro v x hv
  cases hv with
  |any v=>exact .any _
  |int k m=>exact .int _ _
  |bool b=>exact .bool _
  |str s=>exact .str _
  |nils=>exact .nils
  |mp id hd=>obtain ⟨h1,h2⟩:=hD id hd;simp only [renV];rw [←h2];exact .mp _ h1
  |ro es len c ad cap x hl hc he h0 hv=>exact VR.pure1 (VR.ro (D:=D) es len c ad cap x hl hc he h0 hv) rfl
  |rp c off b x hb hm hj hv=>exact VR.pure1 (VR.rp (D:=D) c off b x hb hm hj hv) rfl
  |ptr id off hd=>obtain ⟨h1,h2⟩:=hD id hd;simp only [renV];rw [←h2];exact .ptr _ _ h1
  |sl es id off len cap hd hc arr t ad ha hb hr=>
   obtain ⟨h1,h2⟩:=hD id hd
   exact .sl es (b+id) off len cap h1 hc arr t ad (fun h=>by rw [h2];exact ha h) (by rw [h2];exact hb) (by rw [h2];exact hr)
  |agg vs xs hl hx=>
   simp only [renV]
   refine .agg vs _ (by simp [hl]) fun i u y hu hy=>?_
   simp only [List.getElem?_map] at hy
   obtain ⟨y',g1,rfl⟩:=Option.map_eq_some_iff.1 hy
   exact ih u y' (hx i u y' hu g1)
  |tup vs xs hl hx=>
   simp only [renV]
   refine .tup vs _ (by simp [hl]) fun i u y hu hy=>?_
   simp only [List.getElem?_map] at hy
   obtain ⟨y',g1,rfl⟩:=Option.map_eq_some_iff.1 hy
   exact ih u y' (hx i u y' hu g1)
  |fn f vs xs hl hx=>
   simp only [renV]
   refine .fn f vs _ (by simp [hl]) fun i u y hu hy=>?_
   simp only [List.getElem?_map] at hy
   obtain ⟨y',g1,rfl⟩:=Option.map_eq_some_iff.1 hy
   exact ih u y' (hx i u y' hu g1)
theorem yy4 {w:World} {M:Nat->Prop} {ρ ρ':Nat->Addr} {D D':Nat->Prop} {b:Nat} (hD: ∀i,D i->D' (b+i)/\ρ' (b+i)=ρ i) {i:Nat} {o:AObj} (hi:D i) (h:ObjR w M ρ D i o):ObjR w M ρ' D' (b+i) (renO b o):=by
 have hr:=yvq (w:=w) (M:=M) (ρ':=ρ') (D':=D') hD
 have he:=(hD i hi).2
 cases o with
 |gone=>trivial
 |cells t c=>
  obtain ⟨e1,arr,e2,e3,e4⟩:=h
  cases c with
  |ints l=>exact ⟨by rw [he];exact e1,arr,by rw [he];exact e2,by rw [he];exact e3,fun j hj=>let ⟨u,hu,hx⟩:=e4 j hj;⟨u,by rw [he];exact hu,hx.pure1 rfl⟩⟩
  |bools l=>exact ⟨by rw [he];exact e1,arr,by rw [he];exact e2,by rw [he];exact e3,fun j hj=>let ⟨u,hu,hx⟩:=e4 j hj;⟨u,by rw [he];exact hu,hx.pure1 rfl⟩⟩
  |lst l=>
   refine ⟨by rw [he];exact e1,arr,by rw [he];exact e2,by rw [he];simpa [renO,Cs.len] using e3,fun j hj=>?_⟩
   simp only [Cs.len,List.length_map] at hj
   obtain ⟨u,hu,hx⟩:=e4 j hj
   refine ⟨u,by rw [he];exact hu,?_⟩
   simp only [Cs.get,List.getD_eq_getElem?_getD,List.getElem?_eq_getElem hj,Option.getD_some] at hx
   have:=hr 4 u _ hx
   simpa [Cs.get,hj] using this
 |fmap t c=>
  obtain ⟨k0,es,ck,k1,k2⟩:=h
  exact ⟨k0,es,ck,by rw [he];exact k1,k2⟩
 |gmap t ck l=>
  obtain ⟨es,k1,k2,k3⟩:=h
  refine ⟨es,by rw [he];exact k1,by simpa using k2,fun j e q h1 h2=>?_⟩
  simp only [List.getElem?_map] at h2
  obtain ⟨q',g1,g2⟩:=Option.map_eq_some_iff.1 h2
  cases g2
  obtain ⟨g3,g4,g5⟩:=k3 j e q' h1 g1
  exact ⟨g3,g4,hr 4 _ _ g5⟩
 |iter mid s sn la=>
  obtain ⟨k1,k2,k3⟩:=h
  obtain ⟨d1,d2⟩:=hD mid k1
  exact ⟨d1,by rw [he];exact k2,by rw [he,d2];exact k3⟩
 |imap t l=>
  obtain ⟨k0,es,ck,k1,k2,k3⟩:=h
  refine ⟨fun k x hx=>?_,es,ck,by rw [he];exact k1,by simpa using k2,fun j e k x h1 h2=>?_⟩
  ·obtain ⟨q,g1,g2⟩:=List.mem_map.1 hx
   cases g2
   have:=k0 q.1 q.2 g1
   cases hq:q.2<;>rw [hq] at this<;>first|(cases this;done)|rfl
  simp only [List.getElem?_map] at h2
  obtain ⟨q,g1,g2⟩:=Option.map_eq_some_iff.1 h2
  cases g2
  obtain ⟨g3,g4,g5⟩:=k3 j e q.1 q.2 h1 g1
  exact ⟨g3,hr 4 _ _ g4,g5⟩
section
variable {P:Program} {B:Nat} {w0:ybi} {Mx:Nat->Prop} {N:Nat} {w:World} {ρ:Nat->Addr} {fr:Fr} {H:Hp} {a:Act}
theorem Sim.join (h:Sim B w0 Mx N w ρ fr H a) {b:Nat} (hb: ∀i,b<=i->hget H i=none) {w1:ybi} {w':World} {ρ':Nat->Addr} {H0:Hp} {N0:Nat} {a0:Act} (hw1:w1.w=w) (k:Sim w.heap.size w1 (MM Mx H ρ) N0 w' ρ' [] H0 a0):
  let ρ2:=fun i=>if i<b then ρ i else ρ' (i-b)
  MM Mx (renH b H0++H) ρ2=MM (MM Mx H ρ) H0 ρ'/\Sim B w0 Mx N w' ρ2 fr (renH b H0++H) a/\ ∀v x,VR w' (MM (MM Mx H ρ) H0 ρ') ρ' (DD H0) v x->VR w' (MM Mx (renH b H0++H) ρ2) ρ2 (DD (renH b H0++H)) v (renV b 4 x):=by
 intro ρ2
 have hlt: ∀i o,hget H i=some o->i<b:=fun i o ho=>by
  rcases Nat.lt_or_ge i b with g|g
  ·exact g
  ·rw [hb i g] at ho;cases ho
 have e1: ∀i,i<b->hget (renH b H0++H) i=hget H i:=fun i hi=>by rw [yke,yid b H0 i hi]
 have e2: ∀i,hget (renH b H0++H) (b+i)=(hget H0 i).map (renO b):=fun i=>by
  rw [yke,ynq]
  cases hget H0 i with
  |none=>simp [hb (b+i) (by omega)]
  |some o=>rfl
 have e3: ∀i,i<b->ρ2 i=ρ i:=fun i hi=>by simp [ρ2,hi]
 have e4: ∀i,ρ2 (b+i)=ρ' i:=fun i=>by simp only [ρ2];rw [if_neg (by omega),Nat.add_sub_cancel_left]
 have cs: ∀i o,hget (renH b H0++H) i=some o->(i<b/\hget H i=some o)\/ ∃j q,i=b+j/\hget H0 j=some q/\o=renO b q:=fun i o ho=>by
  rcases Nat.lt_or_ge i b with g|g
  ·left;rw [e1 i g] at ho;exact ⟨g,ho⟩
  ·right
   obtain ⟨j,rfl⟩: ∃j,i=b+j:=⟨i-b,by omega⟩
   rw [e2] at ho
   obtain ⟨q,g1,g2⟩:=Option.map_eq_some_iff.1 ho
   exact ⟨j,q,rfl,g1,g2.symm⟩
 have hM:MM Mx (renH b H0++H) ρ2=MM (MM Mx H ρ) H0 ρ':=by
  funext x
  apply propext
  constructor
  ·rintro (g|⟨i,o,g1,g2,g3⟩)
   ·exact .inl (.inl g)
   ·rcases cs i o g1 with ⟨q1,q2⟩|⟨j,q,rfl,q1,rfl⟩
    ·rw [e3 i q1] at g3;exact .inl (.inr ⟨i,o,q2,g2,g3⟩)
    ·rw [e4] at g3;rw [ydz] at g2;exact .inr ⟨j,q,q1,g2,g3⟩
  ·rintro ((g|⟨i,o,g1,g2,g3⟩)|⟨j,q,g1,g2,g3⟩)
   ·exact .inl g
   ·have:=hlt i o g1;exact .inr ⟨i,o,by rw [e1 i this];exact g1,g2,by rw [e3 i this];exact g3⟩
   ·exact .inr ⟨b+j,renO b q,by rw [e2,g1];rfl,by rw [ydz];exact g2,by rw [e4];exact g3⟩
 have hbel:=k.below
 rw [hw1] at hbel
 have hold: ∀{v:Value} {x:AV},VR w (MM Mx H ρ) ρ (DD H) v x->VR w' (MM Mx (renH b H0++H) ρ2) ρ2 (DD (renH b H0++H)) v x:=fun hv=>by
  rw [hM]
  refine hv.carry hbel.size (fun x hx hm=>⟨hbel.block x hx,?_⟩) (fun i hd=>?_)
  ·rintro (g|⟨j,q,g1,g2,g3⟩)
   ·exact hm g
   ·have:=(k.own j q g1 g2).1;omega
  ·obtain ⟨o,ho⟩:=hd
   have:=hlt i o ho
   exact ⟨⟨o,by rw [e1 i this];exact ho⟩,e3 i this,fun arr t ha=>⟨arr,(hbel.block _ (yaj ha)).trans ha,rfl⟩⟩
 have hDn: ∀i,DD H0 i->DD (renH b H0++H) (b+i)/\ρ2 (b+i)=ρ' i:=fun i ⟨o,ho⟩=>⟨⟨renO b o,by rw [e2,ho];rfl⟩,e4 i⟩
 refine ⟨hM,⟨h.below.trans (hbel.mono h.hB),Nat.le_trans h.hB hbel.size,fun x hx=>k.mx x (.inl hx),fun i o g1 g2=>?_,fun i o g1=>?_,fun i o i' o' g1 g2 g3 g4 g5=>?_,fun t=>hold (h.frv t),h.defers,h.size⟩,fun v x hv=>?_⟩
 ·rcases cs i o g1 with ⟨q1,q2⟩|⟨j,q,rfl,q1,rfl⟩
  ·rw [e3 i q1];exact h.own i o q2 g2
  ·rw [e4];rw [ydz] at g2
   have:=k.own j q q1 g2
   exact ⟨Nat.le_trans h.hB this.1,fun hx=>this.2 (.inl hx)⟩
 ·rcases cs i o g1 with ⟨q1,q2⟩|⟨j,q,rfl,q1,rfl⟩
  ·have hr:=h.objs i o q2
   cases o with
   |gone=>trivial
   |cells t c=>
    obtain ⟨f1,arr,f2,f3,f4⟩:=hr
    exact ⟨by rw [e3 i q1];exact f1,arr,by rw [e3 i q1];exact (hbel.block _ (yaj f2)).trans f2,by rw [e3 i q1];exact f3,fun j hj=>let ⟨u,hu,hx⟩:=f4 j hj;⟨u,by rw [e3 i q1];exact hu,hold hx⟩⟩
   |gmap t ck l=>
    obtain ⟨es,k1,k2,k3⟩:=hr
    exact ⟨es,by rw [e3 i q1];exact (hbel.block _ (yaj k1)).trans k1,k2,fun j e q he hl=>let ⟨g1,g2,g3⟩:=k3 j e q he hl;⟨g1,g2,hold g3⟩⟩
   |iter mid s sn la=>
    obtain ⟨k1,k2,k3⟩:=hr
    obtain ⟨om,hom⟩:=k1
    have hlm:=hlt mid om hom
    exact ⟨⟨om,by rw [e1 mid hlm];exact hom⟩,by rw [e3 i q1];exact k2,by rw [e3 i q1,e3 mid hlm];exact (hbel.block _ (yaj k3)).trans k3⟩
   |imap t l=>
    obtain ⟨k0,es,ck,k1,k2,k3⟩:=hr
    exact ⟨k0,es,ck,by rw [e3 i q1];exact (hbel.block _ (yaj k1)).trans k1,k2,fun j e k x he hl=>let ⟨g1,g2,g3⟩:=k3 j e k x he hl;⟨g1,hold g2,g3⟩⟩
   |fmap t c=>
    obtain ⟨k0,es,ck,k1,k2⟩:=hr
    exact ⟨k0,es,ck,by rw [e3 i q1];exact (hbel.block _ (yaj k1)).trans k1,k2⟩
  ·rw [hM];exact yy4 hDn ⟨q,q1⟩ (k.objs j q q1)
 ·rcases cs i o g1 with ⟨q1,q2⟩|⟨j,q,rfl,q1,rfl⟩
  ·rcases cs i' o' g3 with ⟨r1,r2⟩|⟨j',q',rfl,r1,rfl⟩
   ·rw [e3 i q1,e3 i' r1] at g5;exact h.inj i o i' o' q2 g2 r2 g4 g5
   ·rw [e3 i q1,e4] at g5;rw [ydz] at g4
    exact absurd (.inr ⟨i,o,q2,g2,g5⟩) (k.own j' q' r1 g4).2
  ·rcases cs i' o' g3 with ⟨r1,r2⟩|⟨j',q',rfl,r1,rfl⟩
   ·rw [e3 i' r1,e4] at g5;rw [ydz] at g2
    exact absurd (.inr ⟨i',o',r2,g4,g5.symm⟩) (k.own j q q1 g2).2
   ·rw [e4,e4] at g5;rw [ydz] at g2 g4
    rw [k.inj j q j' q' q1 g2 r1 g4 g5]
 ·rw [hM];exact yvq hDn 4 v x hv
end
def lft:Fr->Fr
 |[]=>[]
 |(s,x)::r=>(s+1000000,x)::lft r
def unl:Fr->Fr
 |[]=>[]
 |(s,x)::r=>if 1000000<=s then (s-1000000,x)::unl r else unl r
theorem yfv: ∀(fr:Fr) (t:Nat),fget (lft fr) t=if 1000000<=t then fget fr (t-1000000) else .any
 |[],t=>by simp [lft,fget]
 |(s,x)::r,t=>by
  simp only [lft,fget]
  by_cases e:s+1000000=t
  ·subst e;simp
  ·rw [if_neg e,yfv r t]
   by_cases h:1000000<=t
   ·rw [if_pos h,if_pos h,if_neg (by omega)]
   ·rw [if_neg h,if_neg h]
theorem ykf: ∀(fr:Fr) (t:Nat),fget (unl fr) t=fget fr (t+1000000)
 |[],t=>rfl
 |(s,x)::r,t=>by
  simp only [unl,fget]
  by_cases h:1000000<=s
  ·rw [if_pos h];simp only [fget]
   by_cases e:s-1000000=t
   ·rw [if_pos e,if_pos (by omega)]
   ·rw [if_neg e,if_neg (by omega)];exact ykf r t
  ·rw [if_neg h,if_neg (by omega)];exact ykf r t
theorem ygt: ∀(f1 f2:Fr) (t:Nat),(∀s x,(s,x)∈f1->s≠t)->fget (f1++f2) t=fget f2 t
 |[],f2,t,_=>rfl
 |(s,x)::r,f2,t,h=>by
  simp only [List.cons_append,fget]
  rw [if_neg (h s x (by simp))];exact ygt r f2 t fun s x hx=>h s x (by simp [hx])
end Go.Proofs.YtfgbnalnbdhimaaGreatDoor
