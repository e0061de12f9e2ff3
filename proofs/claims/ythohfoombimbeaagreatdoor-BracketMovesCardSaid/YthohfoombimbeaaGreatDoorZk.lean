import Derived.Test.YthohfoombimbeaaGreatDoorZi
set_option linter.unusedSimpArgs false
set_option linter.unusedVariables false
namespace Go.Proofs.YthohfoombimbeaaGreatDoor
open Go Go.RowKit
section
variable{P:Program}
def Ij(P:Program):Op->Bool
 |.binOp .add _ _ _ _|.binOp .sub _ _ _ _|.binOp .mul _ _ _ _=>true
 |o=>CA P o
theorem YA{o:Oper}{ev:Operand->Value}{op:BinOp}{t:TypeId}{x y:Operand}{t':TypeId}(ho:o.op= .binOp op t x y t')(ld:op= .add\/op= .sub\/op= .mul){k k':IntKind}{a b:Int}(hx:ev x= .int k a)(hy:ev y= .int k' b):kD P (execOp ev o):=by
 by_cases hk:k=k'
 ·subst hk;rcases ld with rfl|rfl|rfl
  ·exact .inl ⟨.value (.int k (k.wrap (a+b))),fun w=>by simp only[execOp,ho,hx,hy];simp[zt,binOp,Op.intArith]⟩
  ·exact .inl ⟨.value (.int k (k.wrap (a-b))),fun w=>by simp only[execOp,ho,hx,hy];simp[zt,binOp,Op.intArith]⟩
  ·exact .inl ⟨.value (.int k (k.wrap (a*b))),fun w=>by simp only[execOp,ho,hx,hy];simp[zt,binOp,Op.intArith]⟩
 ·refine .inr fun w r w1 h=>?_;simp only[execOp,ho,hx,hy]at h;rcases ld with rfl|rfl|rfl<;>simp[zt,binOp,hk,Go.stuck]at h
theorem y03{o:Oper}{ev:Operand->Value}{op:BinOp}{t:TypeId}{x y:Operand}{t':TypeId}(ho:o.op= .binOp op t x y t')(ld:op= .add){a b:ByteArray}(hx:ev x= .string a)(hy:ev y= .string b):kD P (execOp ev o):=by
 subst ld;by_cases hk:(9223372036854775807:Int)<(a.size:Int)+b.size
 ·refine .inr fun w r w1 h=>?_;simp only[execOp,ho,hx,hy]at h;simp[EZ,binOp,Op.stringOp,unsupported,hk]at h
 ·exact .inl ⟨.value (.string (a++b)),fun w=>by simp only[execOp,ho,hx,hy];simp[EZ,binOp,Op.stringOp];omega⟩
theorem YX{o:Oper}(h:Ij P o.op=true){w:World}{M:Nat->Prop}{ρ:Nat->Addr}{D:Nat->Prop}{a:Act}{fr:Fr}{H:Hp}(dE:∀x,VR w M ρ D (a.eval x) (evA fr x)){p:Prop}{r:AV}(hq:quF P H (evA fr) o.op=some (p,r)):kD P (execOp a.eval o):=by
 cases ho:o.op with
 |binOp op t x y t'=>
  rw[ho]at h hq;simp only[quF,opF]at hq;have ld:op= .add\/op= .sub\/op= .mul:=by cases op<;>simp_all[Ij,CA]
  have hx:=dE x;have hy:=dE y;generalize evA fr x=X at*;generalize evA fr y=Y at*;cases X with
  |int k n=>
   cases Y with
   |int k' n'=>exact YA ho ld hx.aq hy.aq
   |_=>exfalso;rcases ld with rfl|rfl|rfl<;>simp[binF,ygb,yfe]at hq
  |str b=>
   cases Y with
   |str b'=>
    rcases ld with rfl|rfl|rfl
    ·exact y03 ho rfl hx.cZ hy.cZ
    ·simp[binF]at hq
    ·simp[binF]at hq
   |_=>exfalso;rcases ld with rfl|rfl|rfl<;>simp[binF,ygb,yfe]at hq
  |agg xs=>
   exfalso;cases Y with
   |agg ys=>
    simp only[binF,yfe]at hq;rcases ld with rfl|rfl|rfl<;>(repeat' split at hq)<;>simp_all
   |_=>rcases ld with rfl|rfl|rfl<;>simp[binF,ygb,yfe]at hq
  |_=>exfalso;cases Y<;>rcases ld with rfl|rfl|rfl<;>simp[binF,ygb,yfe]at hq
 |_=>rw[ho]at h;exact Um (by rw[ho];exact h) a.eval
theorem Ya{o:Oper}(h:Ij P o.op=true){N:Nat}{fr:Fr}{H:Hp}{K:Fr->Hp->Prop}(hq:nS P N o fr H K):∃p r,quF P H (evA fr) o.op=some (p,r)/\p/\dok o.dst N=true/\K (fput fr o.dst r) H:=by
 cases ho:o.op with
 |binOp op t x y t'=>
  obtain⟨_,hq⟩:=hq;rw[<-ho]
  split at hq
  ·rename_i p r e;exact⟨p,r,e,hq⟩
  ·rename_i e
   exfalso;simp only[ho,alF,sG,vn]at hq;exact zzA hq.1 (by decide)
 |_=>rw[<-ho];exact TV (by rw[ho]at h;rw[ho];exact h) hq
end
section
variable{P:Program}
def Ii(P:Program):Op->Bool
 |.fieldAddr _ _ _=>true
 |o=>Ij P o
section
variable{w:World}{M:Nat->Prop}{ρ:Nat->Addr}{D:Nat->Prop}
theorem Y9{s f:Nat}{u:Value}{x:AV}{p:Prop}{r:AV}(hu:VR w M ρ D u x)(h:yf2 P s x f=some (p,r)):
  ∃z,∀w',(Instr.fieldAt s u f).run P w'= .ok z w':=by
 unfold yf2 at h
 split at h
 ·rename_i fs hk
  split at h
  ·rename_i ft o hf
   split at h
   ·rename_i m hm
    obtain⟨gs,g,h1,h2,h3,h4⟩:=MJ hk hf;subst h3 h4;have hz:=fun w'=>km hm w'
    split at h
    ·cases h;obtain⟨rfl,hd⟩:=hu.fi;exact⟨_,fun w'=>by simp[Instr.fieldAt,run_underlying h1,h2,Instr.sureAddr,fieldPlace,hz];rfl⟩
    ·cases h;cases hu with
     |rp c off a x hb Gq hj hv=>
      exact⟨_,fun w'=>by simp[Instr.fieldAt,run_underlying h1,h2,Instr.sureAddr,fieldPlace,hz];rfl⟩
    ·cases h
   ·cases h
  ·cases h
 ·cases h
end
theorem UI{o:Oper}(h:Ii P o.op=true){w:World}{M:Nat->Prop}{ρ:Nat->Addr}{D:Nat->Prop}{a:Act}{fr:Fr}{H:Hp}(dE:∀x,VR w M ρ D (a.eval x) (evA fr x)){p:Prop}{r:AV}(hq:quF P H (evA fr) o.op=some (p,r))(hp:p):kD P (execOp a.eval o):=by
 cases ho:o.op with
 |fieldAddr s x f=>
  rw[ho]at hq;simp only[quF,opF]at hq;obtain⟨z,hz⟩:=Y9 (dE x) hq;exact .inl ⟨.value z,fun w'=>by simp[execOp,ho,hz]⟩
 |_=>rw[ho]at h;exact YX (by rw[ho];exact h) dE hq
theorem Ua{o:Oper}(h:Ii P o.op=true){N:Nat}{fr:Fr}{H:Hp}{K:Fr->Hp->Prop}(hq:nS P N o fr H K):∃p r,quF P H (evA fr) o.op=some (p,r)/\p/\dok o.dst N=true/\K (fput fr o.dst r) H:=by
 cases ho:o.op with
 |fieldAddr s x f=>
  obtain⟨_,hq⟩:=hq;rw[<-ho]
  split at hq
  ·rename_i p r e;exact⟨p,r,e,hq⟩
  ·rename_i e
   exfalso;simp only[ho,alF,sG,vn]at hq;exact zzA hq.1 (by decide)
 |_=>rw[<-ho];exact Ya (by rw[ho]at h;rw[ho];exact h) hq
end
def Hl(P:Program)(ops:Array Oper)(listed:Array Bool):List (Nat×Tr)->Bool
 |[(i,_)]=>Region.free .any ops listed i&&(Region.ready .any ops listed).contains i&&(match ops[i]? with|some o=>o.guard.isNone&&Ii P o.op|none=>false)
 |_=>false
mutual
def q9(P:Program)(ops:Array Oper)(listed:Array Bool):Nat->Tr->Bool
 |0,.done=>(Region.ready .any ops listed).isEmpty
 |f+1,.node l=>(Hl P ops listed l||(!(Region.ready .any ops listed).isEmpty&&(Region.ready .any ops listed==l.map (·.1))))&&HG P ops listed f l
 |_,_=>false
def HG(P:Program)(ops:Array Oper)(listed:Array Bool)(f:Nat):List (Nat×Tr)->Bool
 |[]=>true
 |(i,t)::r=>q9 P ops (listed.setIfInBounds i true) f t&&HG P ops listed f r
end
theorem MX{P:Program}{ops:Array Oper}{listed:Array Bool}{f:Nat}:∀(l:List (Nat×Tr)),HG P ops listed f l=true->∀q∈l,q9 P ops (listed.setIfInBounds q.1 true) f q.2=true
 |[],_,q,hq=>by cases hq
 |(i,t)::r,h,q,hq=>by
  simp only[HG,zV]at h;rcases zzD.1 hq with e|e
  ·subst e;exact h.1
  ·exact MX r h.2 q e
theorem y04{P:Program}{N:Nat}{ops:Array Oper}{B:Nat}{w0:js}{Mx:Nat->Prop}{K:Fr->Hp->Prop}(da:Region.noSelect ops=true)(Q:Exit->Act->World->Prop)(hP:∀c a w,¬Q (.panic c) a w)(hQ:∀a' w' ρ' fr' H',K fr' H'->aO B w0 Mx N w' ρ' fr' H' a'->Q .normal a' w'):∀(f:Nat) (t:Tr) (listed:Array Bool) (w:World) (ρ:Nat->Addr) (fr:Fr) (H:Hp) (a:Act),q9 P ops listed f t=true->awT P N ops t fr H K->aO B w0 Mx N w ρ fr H a->wpAny P .any ops Q f listed a w:=by
 intro f
 induction f with
 |zero=>
  intro t listed w ρ fr H a hc h hs;cases t with
  |done=>
   simp only[q9,List.isEmpty_iff]at hc;simp only[awT]at h;exact⟨hc,hQ _ _ ρ _ _ h hs⟩
  |node l=>simp[q9]at hc
 |succ f ih=>
  intro t listed w ρ fr H a hc h hs;cases t with
  |done=>simp[q9]at hc
  |node l=>
   simp only[q9,zV,Bool.or_eq_true]at hc;obtain⟨eG,wC⟩:=hc;simp only[awT]at h;rcases eG with eG|eG
   ·unfold Hl at eG
    split at eG
    ·rename_i i t'
     simp only[zV]at eG;obtain⟨⟨hf,hr⟩,ho⟩:=eG;cases hoi:ops[i]? with
     |none=>rw[hoi]at ho;cases ho
     |some o=>
      rw[hoi]at ho;simp only[zV,Option.isNone_iff_eq_none]at ho;have h1:=CT _ h (i,t') (zP.2 rfl);have h2:=MX _ wC (i,t') (zP.2 rfl);simp only[hoi,Option.toList_some,fO,ho.1]at h1;obtain⟨p,r,hq,hp,hd,hk⟩:=Ua ho.2 h1;obtain⟨v,aU,hv⟩:=C9 (P:=P) (o:=o) (a:=a) hs.objs hs.ev (fun s d x e=>by rw[e]at ho;cases ho.2) hq hp
      have hw:Region.wanted o (yielded ops a.tmps)=true:=by simp[Region.wanted,ho.1]
      have hy:Yields P ops o v a:= .inl ⟨hw,fun w'=>by
       rcases UI ho.2 hs.ev hq hp with ⟨r',ik⟩|hn
       ·have:=ik w;rw[aU]at this;cases this;exact ik w'
       ·exact zzA aU (hn _ _ _)⟩
      exact wpAny_take hoi da hf hr (fun c a w h=>zzA h (hP c _ _)) hy (ih t' _ w ρ _ _ _ h2 hk (hs.put hd hv))
    ·cases eG
   ·simp only[zV,Bool.not_eq_true',beq_iff_eq]at eG;refine⟨fun iG=>by rw[iG]at eG;simp at eG,fun i hi=>?_⟩;rw[eG.2]at hi;obtain⟨q,hq,rfl⟩:=zzE.1 hi;have h1:=CT l h q hq;have h2:=MX l wC q hq;have hr:q.1∈Region.ready .any ops listed:=by rw[eG.2];exact List.mem_map_of_mem hq
    obtain⟨_,o,g2,_⟩:=mem_ready.1 hr;rw[g2]at h1;exact Jo g2 h1 hs _ _ fun a' w' ρ' fr' H' hk a7=>ih q.2 _ w' ρ' fr' H' a' h2 hk a7
theorem a8.oX{P:Program}{N:Nat}{ops:Array Oper}{id:Nat}{fr:Fr}{H:Hp}{Q:Exit->Fr->Hp->Prop}(t:Tr)(cC:(q9 P ops (Array.replicate ops.size false) ops.size t&&Region.noSelect ops)=true)(hm:P.follows .mixedOrders=true)
  (h:awT P N ops t fr H (Q .normal)):a8 P N id ops fr H Q:=by
 simp only[zV]at cC;refine⟨fun B w0 Mx w ρ a hs=>wp_mono (wp_region_any (Q:=KP fun a' w'=>∃ρ' fr' H',Q .normal fr' H'/\aO B w0 Mx N w' ρ' fr' H' a') hm (y04 cC.2 _ (fun _ _ _ h=>h) (fun _ _ ρ' fr' H' hk a7=>⟨ρ',fr',H',hk,a7⟩) ops.size t _ _ ρ fr H a cC.1 h hs.draw)) fun e a' w' h=>?_⟩;cases e<;>first|exact h|exact h.elim
end Go.Proofs.YthohfoombimbeaaGreatDoor
