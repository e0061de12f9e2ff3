/- Operations with laws of their own: literals of maps and arrays, bytes to a string. -/
import Derived.Test.YtbblgobamoabkaaGreatDoorZb
import Derived.Laws.BytesString
import Derived.Test.YtbblgobamoabkaaGreatDoorPl
import Derived.Test.YtbblgobamoabkaaGreatDoorZa
set_option linter.unusedSimpArgs false
set_option linter.unusedVariables false
namespace Go.Proofs.YtbblgobamoabkaaGreatDoor
open Go Go.RowKit
set_option linter.unusedVariables false
section
variable {P:Program} {N:Nat} {fr:Fr} {H:Hp} {K:Fr->Hp->Prop} {o:Oper}
theorem SpA.makeMap {t kt et:Nat} {r:Operand} {n:Int} (ho:o.op= .makeMap t (some r)) (hd:dok o.dst N=true) (htk:tk P t= .map kt et) (hr:evA fr r=I n) (h:K (fput fr o.dst (.mp (hnew H))) ((hnew H,mkM P t)::H)):SpA P N o K fr H:=by
 intro B w0 Mx w ρ a hs Q
 have er:=(hr▸hs.ev r).int_inv
 have hn:hget H (hnew H)=none:=yeu (Nat.le_refl _)
 have hrun:(execOp a.eval o).run P w= .ok (.value (.map (some w.heap.size))) (w.alloc (.map #[] 0)):=by
  simp only [execOp,ho]
  simp [Instr.makeMap,run_underlying (ybr htk),asInt,asIntOf,newObj,Sem.run,er]
 have hs2:=hs.alloc (hnew H) hn (.map #[] 0) (mkM P t) fun M' ρ' D' hr _=>by
  rcases yns P t with e|e|e|e|e|e<;>rw [e]
  ·exact ⟨by simp, #[],0,by rw [hr];exact ya4,rfl,by simp⟩
  ·exact ⟨[], #[],0,by rw [hr];exact ya4,rfl,fun _=>rfl⟩
  ·exact ⟨[], #[],0,by rw [hr];exact ya4,rfl,fun _=>rfl⟩
  ·exact ⟨#[],by rw [hr];exact ya4,rfl,fun j e q he=>by simp at he⟩
  ·exact ⟨#[],by rw [hr];exact ya4,rfl,fun j e q he=>by simp at he⟩
  ·exact ⟨[], #[],0,by rw [hr];exact ya4,rfl,fun _=>rfl⟩
 refine Oper.wp_value hrun ⟨_,_,_,h,hs2.put hd ?_⟩
 have:=VR.mp (w:=w.alloc (.map #[] 0)) (M:=MM Mx ((hnew H,mkM P t)::H) (upd ρ (hnew H) ⟨w.heap.size,0,none⟩)) (ρ:=upd ρ (hnew H) ⟨w.heap.size,0,none⟩) (D:=DD ((hnew H,mkM P t)::H)) (hnew H) ygi
 rwa [yay] at this
theorem SpL.ofX {ops:Array Oper} {r:List Oper} (hc:cvOk P o.op=true) (hq:quF P H (evA fr) o.op=none) (ha:alF P (hnew H) (evA fr) o.op=none) (hx:awX P N o fr H fun fr' H'=>awL P N ops r fr' H' K):SpL P N ops fr H K o r:=⟨awO.of hc hq ha hx⟩
theorem SpL.nextG {ops:Array Oper} {r:List Oper} {x:Operand} {iid mid since last t ck:Nat} {seen:List Nat} {l:List (ByteArray×Nat×AV)} (ho:o.op= .next x false) (hd:dok o.dst N=true) (hx:evA fr x= .ptr iid 0) (hi:hget H iid=some (.iter mid since seen last)) (hm:hget H mid=some (.gmap t ck l))
  (hb: ∀q∈l,q.2.1<since) (hsl:since<=last) (h1:(∀q∈l,q.2.1∈seen)->awL P N ops r (fput fr o.dst (.tup [.bool false])) H K)
  (h2: ∀q∈l,q.2.1∉seen->awL P N ops r (fput fr o.dst (.tup [.bool true,gkA t q.1,q.2.2])) (hset H iid (.iter mid since (seen++[q.2.1]) ck)) K):SpL P N ops fr H K o r:=by
 refine SpL.ofX ?_ ?_ ?_ ?_
 ·rw [ho];rfl
 ·rw [ho];rfl
 ·rw [ho];rfl
 ·unfold awX;rw [ho];exact ⟨rfl,SpA.nextG (K:=fun fr' H'=>awL P N ops r fr' H' K) ho hd hx hi hm hb hsl h1 h2⟩
theorem SpL.range {ops:Array Oper} {r:List Oper} {x:Operand} {xt kt et mid t ck:Nat} {l:List (ByteArray×Nat×AV)} (ho:o.op= .range xt x) (hd:dok o.dst N=true) (htk:tk P xt= .map kt et) (hx:evA fr x= .mp mid) (hm:hget H mid=some (.gmap t ck l))
  (h:awL P N ops r (fput fr o.dst (.ptr (hnew H) 0)) ((hnew H, .iter mid ck [] ck)::H) K):SpL P N ops fr H K o r:=by
 refine SpL.ofX ?_ ?_ ?_ ?_
 ·rw [ho];rfl
 ·rw [ho];rfl
 ·rw [ho];rfl
 ·unfold awX;rw [ho];exact ⟨rfl,SpA.range (K:=fun fr' H'=>awL P N ops r fr' H' K) ho hd htk hx hm h⟩
theorem SpL.makeMap {ops:Array Oper} {r:List Oper} {t kt et:Nat} {x:Operand} {n:Int} (ho:o.op= .makeMap t (some x)) (hd:dok o.dst N=true) (htk:tk P t= .map kt et) (hr:evA fr x=I n) (h:awL P N ops r (fput fr o.dst (.mp (hnew H))) ((hnew H,mkM P t)::H) K):SpL P N ops fr H K o r:=by
 refine SpL.ofX ?_ ?_ ?_ ?_
 ·rw [ho];rfl
 ·rw [ho];rfl
 ·rw [ho];rfl
 ·unfold awX;rw [ho];exact ⟨rfl,SpA.makeMap (K:=fun fr' H'=>awL P N ops r fr' H' K) ho hd htk hr h⟩
end
end Go.Proofs.YtbblgobamoabkaaGreatDoor
set_option linter.unusedSimpArgs false
set_option linter.unusedVariables false
namespace Go.Proofs.YtbblgobamoabkaaGreatDoor
def nz (l:List (Int×Int)):List (Int×Int):=l.filter fun t=>t.2 !=0
def tmI:Int->List Int->List (Int×Int)
 |_,[]=>[]
 |e,c::r=>if c=0 then tmI (e+1) r else (e,c)::tmI (e+1) r
end Go.Proofs.YtbblgobamoabkaaGreatDoor
set_option linter.unusedSimpArgs false
set_option linter.unusedVariables false
namespace Go.Proofs.YtbblgobamoabkaaGreatDoor
def cfL:List (Int×Int)->Int->Int
 |[],_=>0
 |t::p,e=>(if t.1=e then t.2 else 0)+cfL p e
structure AscN (p:List (Int×Int)):Prop where
 asc:p.Pairwise fun a b=>a.1<b.1
 nz: ∀t∈p,t.2≠0
theorem ye4 (p q:List (Int×Int)) (e:Int):cfL (p++q) e=cfL p e+cfL q e:=by
 induction p with
 |nil=>simp [cfL]
 |cons t p ih=>simp only [List.cons_append,cfL,ih];omega
theorem ye5 {p:List (Int×Int)} {e:Int} (h: ∀t∈p,t.1≠e):cfL p e=0:=by
 induction p with
 |nil=>rfl
 |cons t p ih=>
  simp only [cfL]
  rw [if_neg (h t (List.mem_cons_self ..)),ih fun u hu=>h u (List.mem_cons_of_mem _ hu)];rfl
theorem AscN.tail {t:Int×Int} {p:List (Int×Int)} (h:AscN (t::p)):AscN p:=⟨(List.pairwise_cons.1 h.asc).2,fun u hu=>h.nz u (List.mem_cons_of_mem _ hu)⟩
theorem AscN.head {t:Int×Int} {p:List (Int×Int)} (h:AscN (t::p)): ∀u∈p,t.1<u.1:=(List.pairwise_cons.1 h.asc).1
theorem AscN.nil:AscN []:=⟨.nil,fun _ h=>by cases h⟩
theorem yhq {p:List (Int×Int)} (h:AscN p) {t:Int×Int} (ht:t∈p):cfL p t.1=t.2:=by
 induction p with
 |nil=>cases ht
 |cons u p ih=>
  simp only [cfL]
  rcases List.mem_cons.1 ht with rfl|ht
  ·rw [if_pos rfl,ye5 fun v hv=>by have:=h.head v hv;omega];omega
  ·rw [if_neg (by have:=h.head t ht;omega),ih h.tail ht];omega
theorem yxc {p:List (Int×Int)} {e:Int} (h:cfL p e≠0): ∃t∈p,t.1=e:=by
 induction p with
 |nil=>exact absurd rfl h
 |cons t p ih=>
  by_cases ht:t.1=e
  ·exact ⟨t,List.mem_cons_self ..,ht⟩
  ·simp only [cfL,if_neg ht,Int.zero_add] at h
   obtain ⟨u,hu,e2⟩:=ih h
   exact ⟨u,List.mem_cons_of_mem _ hu,e2⟩
theorem AscN.ext: ∀{p q:List (Int×Int)},AscN p->AscN q->(∀e,cfL p e=cfL q e)->p=q
 |[],[],_,_,_=>rfl
 |[],t::q,_,hq,h=>by
  have:=h t.1
  rw [yhq hq (List.mem_cons_self ..)] at this
  exact absurd this.symm (hq.nz t (List.mem_cons_self ..))
 |t::p,[],hp,_,h=>by
  have:=h t.1
  rw [yhq hp (List.mem_cons_self ..)] at this
  exact absurd this (hp.nz t (List.mem_cons_self ..))
 |t::p,u::q,hp,hq,h=>by
  have m1:cfL (t::p) t.1=t.2:=yhq hp (List.mem_cons_self ..)
  have m2:cfL (u::q) u.1=u.2:=yhq hq (List.mem_cons_self ..)
  have n1:=hp.nz t (List.mem_cons_self ..)
  have n2:=hq.nz u (List.mem_cons_self ..)
  have e1:t.1=u.1:=by
   obtain ⟨v,hv,ev⟩:=yxc (p:=u::q) (e:=t.1) (by rw [←h,m1];exact n1)
   obtain ⟨w,hw,ew⟩:=yxc (p:=t::p) (e:=u.1) (by rw [h,m2];exact n2)
   rcases List.mem_cons.1 hv with rfl|hv
   ·exact ev.symm
   ·rcases List.mem_cons.1 hw with rfl|hw
    ·exact ew
    ·have:=hq.head v hv
     have:=hp.head w hw
     omega
  have e2:t.2=u.2:=by rw [←m1,←m2,h,e1]
  have et:t=u:=Prod.ext e1 e2
  subst et
  rw [AscN.ext hp.tail hq.tail fun e=>by have:=h e;simp only [cfL] at this;omega]
theorem yss: ∀(e:Int) (l:List Int),∀t∈tmI e l,e<=t.1/\t.1<e+l.length
 |_,[],t,ht=>by cases ht
 |e,c::r,t,ht=>by
  simp only [tmI] at ht
  have key:t∈tmI (e+1) r->e<=t.1/\t.1<e+(c::r).length:=fun h=>by
   have:=yss (e+1) r t h
   simp only [List.length_cons];omega
  split at ht
  ·exact key ht
  ·rcases List.mem_cons.1 ht with rfl|ht
   ·simp only [List.length_cons];omega
   ·exact key ht
theorem yst: ∀(e:Int) (l:List Int),AscN (tmI e l)
 |_,[]=> .nil
 |e,c::r=>by
  have ih:=yst (e+1) r
  simp only [tmI]
  split
  ·exact ih
  ·rename_i h
   refine ⟨List.pairwise_cons.2 ⟨fun u hu=>by have:=yss (e+1) r u hu;show e<u.1;omega,ih.asc⟩,fun u hu=>?_⟩
   rcases List.mem_cons.1 hu with rfl|hu
   ·exact h
   ·exact ih.nz u hu
theorem ysu: ∀(e:Int) (l:List Int) (x:Int),cfL (tmI e l) x=if e<=x then l.getD (x-e).toNat 0 else 0
 |e,[],x=>by simp [tmI,cfL]
 |e,c::r,x=>by
  have ih:=ysu (e+1) r x
  by_cases hx:e=x
  ·subst hx
   rw [if_neg (by omega)] at ih
   simp only [tmI]
   split
   ·rename_i h;rw [ih,if_pos (Int.le_refl _)];simp [h]
   ·simp only [cfL,ih];simp
  ·have k:cfL (tmI e (c::r)) x=cfL (tmI (e+1) r) x:=by
    simp only [tmI]
    split
    ·rfl
    ·simp only [cfL];rw [if_neg hx];omega
   rw [k,ih]
   by_cases hl:e+1<=x
   ·rw [if_pos hl,if_pos (by omega)]
    obtain ⟨d,hd⟩: ∃d:Nat,x=e+1+d:=⟨(x-e-1).toNat,by omega⟩
    rw [hd,show (e+1+(d:Int)-e).toNat=d+1 by omega,show (e+1+(d:Int)-(e+1)).toNat=d by omega,List.getD_cons_succ]
   ·rw [if_neg hl,if_neg (by omega)]
theorem y5d (l:List (Int×Int)) (e:Int):cfL (nz l) e=cfL l e:=by
 induction l with
 |nil=>rfl
 |cons t l ih=>
  unfold nz at ih⊢
  by_cases h:t.2=0
  ·rw [List.filter_cons_of_neg (by simp [h]),ih];simp only [cfL,h];split<;>omega
  ·rw [List.filter_cons_of_pos (by simp [h])];simp only [cfL,ih]
theorem y5e {l:List (Int×Int)} (h:l.Pairwise fun a b=>a.1<b.1):AscN (nz l):=by
 refine ⟨List.Pairwise.filter _ h,fun t ht=>?_⟩
 have:=(List.mem_filter.1 ht).2
 simpa using this
def cvL (p:List (Int×Int)) (g:Int->Int) (e:Int):Int:=match p with
 |[]=>0
 |t::p=>t.2*g (e-t.1)+cvL p g e
theorem ycd {p:List (Int×Int)} {i:Nat} (hi:i<p.length):p.getD i (0,0)∈p:=by
 simp [List.getD_eq_getElem?_getD,List.getElem?_eq_getElem hi]
end Go.Proofs.YtbblgobamoabkaaGreatDoor
namespace Go.Proofs.YtbblgobamoabkaaGreatDoor
set_option linter.unusedSimpArgs false
set_option linter.unusedVariables false
def bvE (a z:Int):Int:=a*16777216+z
def bvZ (e:Int):Int:=(e+8388608)% 16777216-8388608
def bvA (e:Int):Int:=(e-bvZ e)/16777216
theorem ydx {a z:Int} (h: -8388608<=z/\z<8388608):bvZ (bvE a z)=z:=by unfold bvZ bvE;omega
theorem yf2 {a z:Int} (h: -8388608<=z/\z<8388608):bvA (bvE a z)=a:=by unfold bvA;rw [ydx h];unfold bvE;omega
theorem ycb (e:Int):bvE (bvA e) (bvZ e)=e:=by unfold bvA bvE bvZ;omega
theorem ym9 (e:Int): -8388608<=bvZ e/\bvZ e<8388608:=by unfold bvZ;omega
theorem y5f {a z a' z':Int} (h: -8388608<=z/\z<8388608) (h': -8388608<=z'/\z'<8388608):bvE a z<bvE a' z'↔a<a'\/a=a'/\z<z':=by unfold bvE;omega
theorem ymh (e e':Int):e<e'↔bvA e<bvA e'\/bvA e=bvA e'/\bvZ e<bvZ e':=by
 have:=y5f (ym9 e) (ym9 e') (a:=bvA e) (a':=bvA e')
 rwa [ycb,ycb] at this
theorem yna (a z a' z':Int):bvE a z+bvE a' z'=bvE (a+a') (z+z'):=by unfold bvE;omega
def bvOk (e:Int):Prop:=(-1048576<=bvA e/\bvA e<=1048576)/\ -1048576<=bvZ e/\bvZ e<=1048576
theorem ynb {e e':Int} (h:bvOk e) (h':bvOk e'):bvA (e+e')=bvA e+bvA e'/\bvZ (e+e')=bvZ e+bvZ e':=by
 have h1:=yna (bvA e) (bvZ e) (bvA e') (bvZ e')
 rw [ycb,ycb] at h1
 unfold bvOk at h h'
 rw [h1,yf2 (by omega),ydx (by omega)]
 exact ⟨rfl,rfl⟩
end Go.Proofs.YtbblgobamoabkaaGreatDoor
namespace Go.Proofs.YtbblgobamoabkaaGreatDoor
open Go Go.RowKit
set_option maxRecDepth 100000
set_option maxHeartbeats 8000000
set_option linter.unusedVariables false
set_option linter.unusedSimpArgs false
theorem ybz (v l:Int) (h0:0<=l) (h1:l<=4611686018427387904):Fn Tryz.prog 50 [I v,I l] (.bool (decide (-l<=v)&&decide (v<=l))):=by
 obtain ⟨b1,e1⟩: ∃b,decide (-l<=v)=b:=⟨_,rfl⟩
 obtain ⟨b2,e2⟩: ∃b,decide (v<=l)=b:=⟨_,rfl⟩
 rw [e1,e2]
 have e3:decide (0-l<=v)=b1:=by rw [←e1];exact decide_eq_decide.2 (by omega)
 refine Fn.intro [.tmp 4] Tryz.func50 rfl rfl (by decide) (by simp [Tryz.ntmps50]) ?_;rw [Tryz.ntmps50]
 cases b1<;>cases b2
 all_goals (repeat' (first|omega|(try apply yaa);simp only [go_sem,sevalprocAttr,e3,e2]|apply yab<;>(intro h_;(try simp only [h_]);revert h_)|apply And.intro|with_reducible intro h_|trivial|simp only [go_sem,la2];omega))
def cmpZ (x y:Int):Int:=if x<y then-1 else if y<x then 1 else 0
theorem yxd (v:Int) (hv:InI v):yi2 v 33554431=v % 33554432:=by
 unfold yi2
 have h1:(BitVec.ofInt 64 v&&&BitVec.ofInt 64 33554431).toNat=(v % 33554432).toNat:=by
  rw [BitVec.toNat_and]
  have e2:(BitVec.ofInt 64 33554431).toNat=2^25-1:=by decide
  have e1:(BitVec.ofInt 64 v).toNat=(v % 18446744073709551616).toNat:=by rw [BitVec.toNat_ofInt];rfl
  rw [e2,Nat.and_two_pow_sub_one_eq_mod,e1]
  omega
 rw [h1,yo5 (by unfold InI;omega)]
 omega
theorem yf3 (h l v:Int) (hh: -4611686018427387904<=h/\h<=4611686018427387904) (hl:0<=l/\l<=4611686018427387904) (hv:InI v):Fn Tryz.prog 81 [.agg [I h,I l],I v] (.agg [I (h+v/33554432),I (l+v % 33554432)]):=by
 have hv2:=yxd v hv
 unfold InI at hv
 refine Fn.intro [.cell 4 119] Tryz.func81 rfl rfl (by decide) (by simp [Tryz.ntmps81]) ?_;rw [Tryz.ntmps81]
 repeat' (first|omega|(try apply yaa);simp only [go_sem,sevalprocAttr,hv2]|apply yab<;>(intro h_;(try simp only [h_]);revert h_)|apply And.intro|with_reducible intro h_|trivial|simp only [go_sem,la2];omega)
end Go.Proofs.YtbblgobamoabkaaGreatDoor
namespace Go.Proofs.YtbblgobamoabkaaGreatDoor
open Go Go.RowKit
set_option maxRecDepth 100000
set_option maxHeartbeats 8000000
set_option linter.unusedVariables false
set_option linter.unusedSimpArgs false
def yxe:List (List Nat):=[[9,10,11,13,14,15],[9,10,11,13,14,15],[7,8,13,14,15],[7,8,13,14,15],[7,8,13,14,15],[13,14,15],[7,8,9,10,11,12,4],[7,8,9,10,11,12,4],[7,8,9,10,11,12,4],[13,14,15],[]]
def yxf:List (List Nat):=[[],[],[0,1],[0,1],[0,1],[],[0,1,2,3,4,5],[0,1,2,3,4,5],[0,1,2,3,4,5],[6,7,8],[]]
def bvC:List (Int×Int)->List AV
 |[]=>[]
 |t::r=>I (bvA t.1)::I (bvZ t.1)::I t.2::bvC r
theorem yal: ∀p:List (Int×Int),(bvC p).length=3*p.length
 |[]=>rfl
 |t::r=>by simp only [bvC,List.length_cons,yal r];omega
theorem ycz: ∀p q:List (Int×Int),bvC (p++q)=bvC p++bvC q
 |[],_=>rfl
 |t::r,q=>by simp only [List.cons_append,bvC,ycz r q]
theorem ybs: ∀(p:List (Int×Int)) (i:Nat),i<p.length->(bvC p).getD (i*3) .any=I (bvA (p.getD i (0,0)).1)/\(bvC p).getD (i*3+1) .any=I (bvZ (p.getD i (0,0)).1)/\(bvC p).getD (i*3+2) .any=I (p.getD i (0,0)).2
 |[],i,h=>by simp at h
 |t::r,0,_=>⟨rfl,rfl,rfl⟩
 |t::r,i+1,h=>by
  have ih:=ybs r i (by simpa using h)
  simp only [bvC]
  rw [show (i+1)*3=i*3+1+1+1 by omega,show i*3+1+1+1+1=i*3+1+1+1+1 from rfl,show i*3+1+1+1+2=i*3+2+1+1+1 by omega]
  simp only [List.getD_cons_succ]
  exact ih
theorem yad (H:Hp): ∀p:List (Int×Int),(bvC p).all (s3 H)=true
 |[]=>rfl
 |t::r=>by simp only [bvC,List.all_cons,yad H r,Bool.and_true];rfl
abbrev bvT (p:List (Int×Int)):AV:= .ro 3 p.length (.lst (bvC p))
abbrev bvP (b:Bool) (p:List (Int×Int)):AV:= .agg [.bool b,bvT p]
theorem yrt (h l:Int) (hh: -4611686018427387904<=h/\h<=4611686018427387904) (hl:0<=l/\l<=4611686018427387904) (hv: -1125899906842624<=h*33554432+l/\h*33554432+l<=1125899906842624):Fn Tryz.prog 122 [.agg [I h,I l]] (.tup [I (h*33554432+l), .bool true]):=by
 have hla:=yxd l (by unfold InI;omega)
 obtain ⟨g,hg⟩: ∃g,g=h+l/33554432:=⟨_,rfl⟩
 obtain ⟨r,hr⟩: ∃r,r=l % 33554432:=⟨_,rfl⟩
 rw [←hr] at hla
 have hS:g*33554432+r=h*33554432+l:=by omega
 have hgb: -67108864<=g/\g<=67108864:=by omega
 have h1:=ybz g 67108864 (by decide) (by decide)
 have h2:=ybz (h*33554432+l) 1125899906842624 (by decide) (by decide)
 rw [decide_eq_true (by omega),decide_eq_true (by omega),Bool.and_self] at h1 h2
 refine Fn.introL [.tmp 2, .tmp 3] Tryz.func122 rfl rfl (by decide) (by simp [Tryz.ntmps122]) ?_;rw [Tryz.ntmps122]
 have eg:h+l/2^25=g:=by rw [hg];rfl
 have eg2:h+l/33554432=g:=hg.symm
 have eS:g*2^25+r=h*33554432+l:=by rw [←hS];rfl
 repeat' (first|omega|(first|apply yaa|(refine yac.intro (id:=1) yxe yxf (by decide+kernel) mixed ?_)|skip);simp only [go_sem,sevalprocAttr,hla,eg,eg2,↓reduceIte,reduceCtorEq,yxe,yxf]|apply yab<;>(intro h_;(try simp only [h_]);revert h_)|apply And.intro|with_reducible intro h_|trivial|simp only [go_sem,la2];omega)
 refine ⟨yae.fn rfl h1 ?_⟩
 repeat' (first|omega|(try apply yaa);simp only [go_sem,sevalprocAttr,eS,hS]|apply yab<;>(intro h_;(try simp only [h_]);revert h_)|apply And.intro|with_reducible intro h_|trivial|simp only [go_sem,la2];omega)
 refine ⟨yae.fn rfl h2 ?_⟩
 repeat' (first|omega|(try apply yaa);simp only [go_sem,sevalprocAttr]|apply yab<;>(intro h_;(try simp only [h_]);revert h_)|apply And.intro|with_reducible intro h_|trivial|simp only [go_sem,la2];omega)
 all_goals exact LeA.refl _
theorem ylf (c a z:Int) (hc:c≠0) (hcb: -1125899906842624<=c/\c<=1125899906842624) (ha: -1048576<=a/\a<=1048576) (hz: -1048576<=z/\z<=1048576):Fn Tryz.prog 15 [I c,I a,I z] (bvP false [(bvE a z,c)]):=by
 have eA:bvA (bvE a z)=a:=yf2 (by omega)
 have eZ:bvZ (bvE a z)=z:=ydx (by omega)
 have h1:=ybz c 1125899906842624 (by decide) (by decide)
 have h2:=ybz a 1048576 (by decide) (by decide)
 have h3:=ybz z 1048576 (by decide) (by decide)
 rw [decide_eq_true (by omega),decide_eq_true (by omega),Bool.and_self] at h1 h2 h3
 have bc:(c==0)=false:=by rw [beq_eq_false_iff_ne];exact hc
 refine Fn.introL [.cell 6 29] Tryz.func15 rfl rfl (by decide) (by simp [Tryz.ntmps15]) ?_;rw [Tryz.ntmps15]
 repeat' (first|omega|(try apply yaa);simp only [go_sem,sevalprocAttr,bc]|(refine ⟨yae.fn (r:=?_) rfl ?_ ?_⟩;rotate_left;assumption)|(refine ⟨yai.fn (r:=?_) rfl ?_ ?_⟩;rotate_left;assumption)|apply yab<;>(intro h_;(try simp only [h_]);revert h_)|apply And.intro|with_reducible intro h_|trivial|simp only [go_sem,la2];omega)
 all_goals exact LeA.of (by show _=AV.agg [.bool false, .ro 3 1 (.lst [I (bvA (bvE a z)),I (bvZ (bvE a z)),I c])];rw [eA,eZ])
end Go.Proofs.YtbblgobamoabkaaGreatDoor
namespace Go.Proofs.YtbblgobamoabkaaGreatDoor
open Go Go.RowKit
set_option maxRecDepth 100000
set_option maxHeartbeats 8000000
set_option linter.unusedVariables false
set_option linter.unusedSimpArgs false
def bvSh (d:Int) (p:List (Int×Int)):List (Int×Int):=p.map fun t=>(t.1+d,t.2)
theorem yp6 (d:Int) (p q:List (Int×Int)):bvSh d (p++q)=bvSh d p++bvSh d q:=by simp [bvSh]
theorem ye6 (d:Int) (p:List (Int×Int)):(bvSh d p).length=p.length:=by simp [bvSh]
theorem y1v {e a z:Int} (h: -4194304<=bvZ e+z/\bvZ e+z<=4194304):bvA (e+bvE a z)=bvA e+a/\bvZ (e+bvE a z)=bvZ e+z:=by
 have h1:=yna (bvA e) (bvZ e) a z
 rw [ycb] at h1
 rw [h1,yf2 (by omega),ydx (by omega)]
 exact ⟨rfl,rfl⟩
theorem yj9 {f:AV->AV} (hf: ∀x:Int,f (I x)=I x): ∀p:List (Int×Int),(bvC p).map f=bvC p
 |[]=>rfl
 |t::r=>by simp only [bvC,List.map_cons,hf,yj9 hf r]
theorem ycq (id:Nat) (p:List (Int×Int)):(bvC p).map (cutV id)=bvC p:=yj9 (fun _=>rfl) p
theorem ya8 (H:Hp) (n:Nat) (p:List (Int×Int)):(bvC p).map (snap H (n+1))=bvC p:=yj9 (fun _=>rfl) p
theorem ye7 {x:AV}: ∀{p:List (Int×Int)},x∈bvC p-> ∃n,x=I n
 |[],h=>by cases h
 |t::r,h=>by
  simp only [bvC,List.mem_cons] at h
  rcases h with h|h|h|h
  ·exact ⟨_,h⟩
  ·exact ⟨_,h⟩
  ·exact ⟨_,h⟩
  ·exact ye7 h
theorem yfl (H:Hp) (n:Nat) {p:List (Int×Int)} {x:AV} (h:x∈bvC p):yas H (n+1) x:=by
 obtain ⟨m,rfl⟩:=ye7 h
 trivial
theorem yhb (p:List (Int×Int)) (a z:Int) (hp:p.length<=100000) (ha: -2097152<=a/\a<=2097152) (hz: -2097152<=z/\z<=2097152) (hb: ∀t∈p,(-1048576<=bvA t.1+a/\bvA t.1+a<=1048576)/\ -1048576<=bvZ t.1+z/\bvZ t.1+z<=1048576):
  Fn Tryz.prog 30 [bvP false p,I a,I z] (bvP false (bvSh (bvE a z) p)):=by
 have hc:=yal p
 by_cases h0:p.length=0
 ·obtain rfl:p=[]:=List.eq_nil_of_length_eq_zero h0
  refine Fn.introL [.cell 6 29] Tryz.func30 rfl rfl (by decide) (by simp [Tryz.ntmps30]) ?_;rw [Tryz.ntmps30]
  repeat' (first|omega|(try apply yaa);simp only [go_sem,sevalprocAttr]|apply yab<;>(intro h_;(try simp only [h_]);revert h_)|apply And.intro|with_reducible intro h_|trivial|simp only [go_sem,la2];omega)
  all_goals exact LeA.refl _
 have b0:((p.length:Int)==0)=false:=by rw [beq_eq_false_iff_ne];omega
 have h1:=ybz a 2097152 (by decide) (by decide)
 have h2:=ybz z 2097152 (by decide) (by decide)
 rw [decide_eq_true (by omega),decide_eq_true (by omega),Bool.and_self] at h1 h2
 refine Fn.introL [.cell 6 29] Tryz.func30 rfl rfl (by decide) (by simp [Tryz.ntmps30]) ?_;rw [Tryz.ntmps30]
 repeat' (first|omega|(try apply yaa);simp only [go_sem,sevalprocAttr,b0,hc]|(refine ⟨yae.fn (r:=?_) rfl ?_ ?_⟩;rotate_left;assumption)|(refine ⟨yai.fn (r:=?_) rfl ?_ ?_⟩;rotate_left;assumption)|apply yab<;>(intro h_;(try simp only [h_]);revert h_)|apply And.intro|with_reducible intro h_|trivial|simp only [go_sem,la2];omega)
 refine yaj.intro (fun n fr H=> ∃k:Nat,k<=p.length/\n=p.length-k/\fr=[(36,I k),(35,I p.length),(34,bvT p),(7, .ptr 3 0),(6, .ptr 1 0),(1,I a),(2,I z)]/\
  H=[(3, .cells 29 (.lst [.bool false, .sl 3 2 0 k])),(2, .cells 66 (.lst (bvC (bvSh (bvE a z) (p.take k))))),(1, .cells 29 (.lst [.bool false, .nils]))]) ?_ ?_
 ·refine ⟨_,_,_,Wk.sub ?_ ?_,0,by omega,rfl,rfl,rfl⟩
  ·simp only [go_sem,sevalprocAttr,yad]
  ·simp only [go_sem,sevalprocAttr,yad,List.take_zero,bvSh,List.map_nil,bvC]
   all_goals rfl
 rintro n fr H ⟨k,hk,rfl,rfl,rfl⟩
 have hl:(bvC (bvSh (bvE a z) (p.take k))).length=3*k:=by rw [yal,ye6,List.length_take];omega
 by_cases hkl:k<p.length
 ·have bk:decide ((k:Int)<p.length)=true:=by simp;omega
  obtain ⟨g0,g1,g2⟩:=ybs p k hkl
  have ht:=hb (p.getD k (0,0)) (by rw [List.getD_eq_getElem?_getD,List.getElem?_eq_getElem hkl];exact List.getElem_mem _)
  have et:p.take (k+1)=p.take k++[p.getD k (0,0)]:=by rw [List.take_succ_eq_append_getElem hkl];simp [hkl]
  have es:bvC (bvSh (bvE a z) (p.take (k+1)))=bvC (bvSh (bvE a z) (p.take k))++[I (bvA (p.getD k (0,0)).1+a),I (bvZ (p.getD k (0,0)).1+z),I (p.getD k (0,0)).2]:=by
   rw [et,yp6,ycz]
   congr 1
   have hs:=y1v (e:=(p.getD k (0,0)).1) (a:=a) (z:=z) (by omega)
   show [I (bvA ((p.getD k (0,0)).1+bvE a z)),I (bvZ ((p.getD k (0,0)).1+bvE a z)),I (p.getD k (0,0)).2]=_
   rw [hs.1,hs.2]
  generalize bvA (p.getD k (0,0)).1=x at*
  generalize bvZ (p.getD k (0,0)).1=y at*
  generalize (p.getD k (0,0)).2=v at*
  have w1:=ybz (x+a) 1048576 (by decide) (by decide)
  have w2:=ybz (y+z) 1048576 (by decide) (by decide)
  rw [decide_eq_true (by omega),decide_eq_true (by omega),Bool.and_self] at w1 w2
  clear h1 h2
  repeat' (first|omega|(try apply yaa);simp only [go_sem,sevalprocAttr,bk,hc,g0,g1,g2,hl]|(refine ⟨yae.fn (r:=?_) rfl ?_ ?_⟩;rotate_left;assumption)|(refine ⟨yai.fn (r:=?_) rfl ?_ ?_⟩;rotate_left;assumption)|apply yab<;>(intro h_;(try simp only [h_]);revert h_)|apply And.intro|with_reducible intro h_|trivial|simp only [go_sem,la2];omega)
  refine ⟨_,_,_,?_,Wk.sub ?_ ?_,k+1,by omega,rfl,rfl,rfl⟩
  ·omega
  ·simp only [go_sem,sevalprocAttr,yad]
  ·simp only [go_sem,sevalprocAttr,es,ycq,yad,List.all_append]
 ·obtain rfl:k=p.length:=by omega
  have bk:decide ((p.length:Int)<p.length)=false:=by simp
  rw [List.take_length] at hl⊢
  have hsl:=ye6 (bvE a z) p
  clear h1 h2
  repeat' (first|omega|(try apply yaa);simp only [go_sem,sevalprocAttr,bk,hl]|apply yab<;>(intro h_;(try simp only [h_]);revert h_)|apply And.intro|with_reducible intro h_|trivial|simp only [go_sem,la2];omega)
  all_goals first
   |exact yfl _ _ ‹_›
   |exact LeA.of (by rw [ya8,List.take_of_length_le (by omega),←hsl])
end Go.Proofs.YtbblgobamoabkaaGreatDoor
