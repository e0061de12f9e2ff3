import Derived.Test.YthohfoombimbeaaGreatDoorZk
set_option linter.unusedSimpArgs false
set_option linter.unusedVariables false
namespace Go.Proofs.YthohfoombimbeaaGreatDoor
open Go Go.RowKit
set_option maxRecDepth 99999
set_option maxHeartbeats 4000000
theorem TU(l:List Int)(h:0<l.length)(hb:l.length<=100000):nD Tryz.prog 86 [roI l] (.sl 1 0 0 l.length) [(0,.cells 3 (.ints l))]:=by
 refine nD.intro [.tmp 2] Tryz.func86 rfl rfl (by decide) (by simp[Tryz.ntmps86]) ?_;rw[Tryz.ntmps86]
 repeat' (first|omega|(try apply ah);simp only[go_sem]|apply ag<;>(intro h_;(try simp only[h_]);revert h_)|apply zO|with_reducible intro h_|trivial)
section
variable{P:Program}
def Lg(P:Program):Op->Bool
 |.indexAddr _ _ _=>true
 |o=>Ii P o
def qOKo(P:Program)(fr:Fr):Op->Prop
 |.indexAddr t x i=>(yeq P t (evA fr x) (evA fr i)).isSome=true
 |_=>True
def qOK(P:Program)(fr:Fr):Option Oper->Prop
 |some o=>qOKo P fr o.op
 |none=>True
mutual
def awQ(P:Program)(N:Nat)(ops:Array Oper):Tr->Fr->Hp->(Fr->Hp->Prop)->Prop
 |.done,fr,H,K=>K fr H
 |.node l,fr,H,K=>awQs P N ops l fr H K
def awQs(P:Program)(N:Nat)(ops:Array Oper):List (Nat×Tr)->Fr->Hp->(Fr->Hp->Prop)->Prop
 |[],_,_,_=>True
 |(i,t)::r,fr,H,K=>(qOK P fr ops[i]?/\fO P N ops ((ops[i]?).toList) fr H (fun fr' H'=>awQ P N ops t fr' H' K))/\awQs P N ops r fr H K
end
theorem Ma{P:Program}{N:Nat}{ops:Array Oper}{fr:Fr}{H:Hp}{K:Fr->Hp->Prop}:∀(l:List (Nat×Tr)),awQs P N ops l fr H K->∀q∈l,qOK P fr ops[q.1]?/\fO P N ops ((ops[q.1]?).toList) fr H (fun fr' H'=>awQ P N ops q.2 fr' H' K)
 |[],_,q,hq=>by cases hq
 |(i,t)::r,h,q,hq=>by
  simp only[awQs]at h;rcases zzD.1 hq with e|e
  ·subst e;exact h.1
  ·exact Ma r h.2 q e
section
variable{N:Nat}{ops:Array Oper}{fr fr':Fr}{H H':Hp}{K:Fr->Hp->Prop}
theorem y06{t:Tr}(h1:fr=fr')(h2:H=H'):awQ P N ops t fr H K=awQ P N ops t fr' H' K:=by rw[h1,h2]
theorem yxj{l:List (Nat×Tr)}(h1:fr=fr')(h2:H=H'):awQs P N ops l fr H K=awQs P N ops l fr' H' K:=by rw[h1,h2]
end
attribute [congr] y06 yxj
attribute [go_sem] awQ awQs qOK qOKo
section
variable{w:World}{M:Nat->Prop}{ρ:Nat->Addr}{D:Nat->Prop}
theorem Y8{t:Nat}{u v:Value}{x i:AV}{p:Prop}{r:AV}(hu:VR w M ρ D u x)(hv:VR w M ρ D v i)(h:yeq P t x i=some (p,r))(hp:p):
  ∃z,∀w',(Instr.indexAt t u v).run P w'= .ok z w':=by
 unfold yeq at h
 split at h
 ·rename_i e k n hk
  have e1:=hv.aq;subst e1;have ht:=kl hk
  split at h
  ·rename_i es eJ id off len eR
   split at h
   ·rename_i heq
    cases h;subst heq;cases hu with
    |sl es id off len cap hd hc arr t ad ha hb hr=>
     have hz:=fun w'=>km eR w';have B7:=ha (by omega);subst B7;exact⟨_,fun w'=>by simp[Instr.indexAt,asIntOf,run_underlying ht,hp.1,hp.2,hz];rfl⟩
   ·cases h
  ·rename_i es eJ len c eR
   split at h
   ·rename_i heq
    cases h;subst heq;cases hu with
    |ro es len c ad cap x hl hc he h0 hv=>
     have hz:=fun w'=>km eR w';obtain⟨a,rfl,hb,hm,hj⟩:=h0 (by omega);exact⟨_,fun w'=>by simp[Instr.indexAt,asIntOf,run_underlying ht,hp.1,hp.2,hz];rfl⟩
   ·cases h
  ·cases h
 ·rename_i m e k n hk
  have e1:=hv.aq;subst e1;have ht:=tC hk
  split at h
  ·rename_i es id off eR
   cases h;obtain⟨rfl,hd⟩:=hu.fi;have hz:=fun w'=>km eR w';exact⟨_,fun w'=>by simp[Instr.indexAt,asIntOf,run_underlying ht,Instr.sureAddr,hp.1,hp.2,hz];rfl⟩
  ·rename_i es c off eR
   cases h;cases hu with
   |rp c off a x hb hm hj hv=>
    have hz:=fun w'=>km eR w';exact⟨_,fun w'=>by simp[Instr.indexAt,asIntOf,run_underlying ht,Instr.sureAddr,hp.1,hp.2,hz];rfl⟩
  ·cases h
 ·cases h
end
theorem YW{o:Oper}(h:Lg P o.op=true){w:World}{M:Nat->Prop}{ρ:Nat->Addr}{D:Nat->Prop}{a:Act}{fr:Fr}{H:Hp}(dE:∀x,VR w M ρ D (a.eval x) (evA fr x)){p:Prop}{r:AV}(hq:quF P H (evA fr) o.op=some (p,r))(hp:p):kD P (execOp a.eval o):=by
 cases ho:o.op with
 |indexAddr t x i=>
  rw[ho]at hq;simp only[quF,opF]at hq;obtain⟨z,hz⟩:=Y8 (dE x) (dE i) hq hp;exact .inl ⟨.value z,fun w'=>by simp[execOp,ho,hz]⟩
 |_=>rw[ho]at h;exact UI (by rw[ho];exact h) dE hq hp
theorem X9{o:Oper}(h:Lg P o.op=true){N:Nat}{fr:Fr}{H:Hp}{K:Fr->Hp->Prop}(hk:qOK P fr (some o))(hq:nS P N o fr H K):∃p r,quF P H (evA fr) o.op=some (p,r)/\p/\dok o.dst N=true/\K (fput fr o.dst r) H:=by
 cases ho:o.op with
 |indexAddr t x i=>
  obtain⟨_,hq⟩:=hq;rw[<-ho]
  split at hq
  ·rename_i p r e;exact⟨p,r,e,hq⟩
  ·rename_i e
   exfalso;simp only[qOK,ho,qOKo]at hk;rw[ho]at e;simp only[quF,opF]at e;rw[e]at hk;cases hk
 |_=>rw[<-ho];exact Ua (by rw[ho]at h;rw[ho];exact h) hq
end
def Hj(P:Program)(ops:Array Oper)(listed:Array Bool):List (Nat×Tr)->Bool
 |[(i,_)]=>Region.free .any ops listed i&&(Region.ready .any ops listed).contains i&&(match ops[i]? with|some o=>o.guard.isNone&&Lg P o.op|none=>false)
 |_=>false
mutual
def q8(P:Program)(ops:Array Oper)(listed:Array Bool):Nat->Tr->Bool
 |0,.done=>(Region.ready .any ops listed).isEmpty
 |f+1,.node l=>(Hj P ops listed l||(!(Region.ready .any ops listed).isEmpty&&(Region.ready .any ops listed==l.map (·.1))))&&HD P ops listed f l
 |_,_=>false
def HD(P:Program)(ops:Array Oper)(listed:Array Bool)(f:Nat):List (Nat×Tr)->Bool
 |[]=>true
 |(i,t)::r=>q8 P ops (listed.setIfInBounds i true) f t&&HD P ops listed f r
end
theorem MK{P:Program}{ops:Array Oper}{listed:Array Bool}{f:Nat}:∀(l:List (Nat×Tr)),HD P ops listed f l=true->∀q∈l,q8 P ops (listed.setIfInBounds q.1 true) f q.2=true
 |[],_,q,hq=>by cases hq
 |(i,t)::r,h,q,hq=>by
  simp only[HD,zV]at h;rcases zzD.1 hq with e|e
  ·subst e;exact h.1
  ·exact MK r h.2 q e
theorem y07{P:Program}{N:Nat}{ops:Array Oper}{B:Nat}{w0:js}{Mx:Nat->Prop}{K:Fr->Hp->Prop}(da:Region.noSelect ops=true)(Q:Exit->Act->World->Prop)(hP:∀c a w,¬Q (.panic c) a w)(hQ:∀a' w' ρ' fr' H',K fr' H'->aO B w0 Mx N w' ρ' fr' H' a'->Q .normal a' w'):∀(f:Nat) (t:Tr) (listed:Array Bool) (w:World) (ρ:Nat->Addr) (fr:Fr) (H:Hp) (a:Act),q8 P ops listed f t=true->awQ P N ops t fr H K->aO B w0 Mx N w ρ fr H a->wpAny P .any ops Q f listed a w:=by
 intro f
 induction f with
 |zero=>
  intro t listed w ρ fr H a hc h hs;cases t with
  |done=>
   simp only[q8,List.isEmpty_iff]at hc;simp only[awQ]at h;exact⟨hc,hQ _ _ ρ _ _ h hs⟩
  |node l=>simp[q8]at hc
 |succ f ih=>
  intro t listed w ρ fr H a hc h hs;cases t with
  |done=>simp[q8]at hc
  |node l=>
   simp only[q8,zV,Bool.or_eq_true]at hc;obtain⟨eG,wC⟩:=hc;simp only[awQ]at h;rcases eG with eG|eG
   ·unfold Hj at eG
    split at eG
    ·rename_i i t'
     simp only[zV]at eG;obtain⟨⟨hf,hr⟩,ho⟩:=eG;cases hoi:ops[i]? with
     |none=>rw[hoi]at ho;cases ho
     |some o=>
      rw[hoi]at ho;simp only[zV,Option.isNone_iff_eq_none]at ho;obtain⟨Wp,h1⟩:=Ma _ h (i,t') (zP.2 rfl);rw[hoi]at Wp;have h2:=MK _ wC (i,t') (zP.2 rfl);simp only[hoi,Option.toList_some,fO,ho.1]at h1;obtain⟨p,r,hq,hp,hd,hk⟩:=X9 ho.2 Wp h1
      obtain⟨v,aU,hv⟩:=C9 (P:=P) (o:=o) (a:=a) hs.objs hs.ev (fun s d x e=>by rw[e]at ho;cases ho.2) hq hp;have hw:Region.wanted o (yielded ops a.tmps)=true:=by simp[Region.wanted,ho.1]
      have hy:Yields P ops o v a:= .inl ⟨hw,fun w'=>by
       rcases YW ho.2 hs.ev hq hp with ⟨r',ik⟩|hn
       ·have:=ik w;rw[aU]at this;cases this;exact ik w'
       ·exact zzA aU (hn _ _ _)⟩
      exact wpAny_take hoi da hf hr (fun c a w h=>zzA h (hP c _ _)) hy (ih t' _ w ρ _ _ _ h2 hk (hs.put hd hv))
    ·cases eG
   ·simp only[zV,Bool.not_eq_true',beq_iff_eq]at eG;refine⟨fun iG=>by rw[iG]at eG;simp at eG,fun i hi=>?_⟩;rw[eG.2]at hi;obtain⟨q,hq,rfl⟩:=zzE.1 hi;have h1:=(Ma l h q hq).2;have h2:=MK l wC q hq;have hr:q.1∈Region.ready .any ops listed:=by rw[eG.2];exact List.mem_map_of_mem hq
    obtain⟨_,o,g2,_⟩:=mem_ready.1 hr;rw[g2]at h1;exact Jo g2 h1 hs _ _ fun a' w' ρ' fr' H' hk a7=>ih q.2 _ w' ρ' fr' H' a' h2 hk a7
theorem a8.aD{P:Program}{N:Nat}{ops:Array Oper}{id:Nat}{fr:Fr}{H:Hp}{Q:Exit->Fr->Hp->Prop}(t:Tr)(cC:(q8 P ops (Array.replicate ops.size false) ops.size t&&Region.noSelect ops)=true)(hm:P.follows .mixedOrders=true)
  (h:awQ P N ops t fr H (Q .normal)):a8 P N id ops fr H Q:=by
 simp only[zV]at cC;refine⟨fun B w0 Mx w ρ a hs=>wp_mono (wp_region_any (Q:=KP fun a' w'=>∃ρ' fr' H',Q .normal fr' H'/\aO B w0 Mx N w' ρ' fr' H' a') hm (y07 cC.2 _ (fun _ _ _ h=>h) (fun _ _ ρ' fr' H' hk a7=>⟨ρ',fr',H',hk,a7⟩) ops.size t _ _ ρ fr H a cC.1 h hs.draw)) fun e a' w' h=>?_⟩;cases e<;>first|exact h|exact h.elim
end Go.Proofs.YthohfoombimbeaaGreatDoor
