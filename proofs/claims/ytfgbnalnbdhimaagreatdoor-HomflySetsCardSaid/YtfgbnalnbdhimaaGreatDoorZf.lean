/- Statements that draw their order: addresses of elements may go ahead, too. -/
import Derived.Test.YtfgbnalnbdhimaaGreatDoorZe
import Derived.Test.YtfgbnalnbdhimaaGreatDoorZc
import Derived.Test.YtfgbnalnbdhimaaGreatDoorZd
import Derived.Test.YtfgbnalnbdhimaaGreatDoorGc
import Derived.Laws.IdiomRangeMap
import Derived.Laws.BytesString
import Derived.Test.YtfgbnalnbdhimaaGreatDoorZa
import Derived.Shelf.SlSortCmp.NoneTotal
import Derived.Test.YtfgbnalnbdhimaaGreatDoorProg
set_option linter.unusedSimpArgs false
set_option linter.unusedVariables false
namespace Go.Proofs.YtfgbnalnbdhimaaGreatDoor
open Go Go.RowKit
section
variable {P:Program}
def yqm (P:Program):Op->Bool
 | .indexAddr _ _ _=>true
 |o=>yqk P o
def qOKo (P:Program) (fr:Fr):Op->Prop
 | .indexAddr t x i=>(yed P t (evA fr x) (evA fr i)).isSome=true
 |_=>True
def qOK (P:Program) (fr:Fr):Option Oper->Prop
 |some o=>qOKo P fr o.op
 |none=>True
mutual
def awQ (P:Program) (N:Nat) (ops:Array Oper):Tr->Fr->Hp->(Fr->Hp->Prop)->Prop
 | .done,fr,H,K=>K fr H
 | .node l,fr,H,K=>awQs P N ops l fr H K
def awQs (P:Program) (N:Nat) (ops:Array Oper):List (Nat×Tr)->Fr->Hp->(Fr->Hp->Prop)->Prop
 |[],_,_,_=>True
 |(i,t)::r,fr,H,K=>(qOK P fr ops[i]?/\awL P N ops ((ops[i]?).toList) fr H (fun fr' H'=>awQ P N ops t fr' H' K))/\awQs P N ops r fr H K
end
theorem ykz {P:Program} {N:Nat} {ops:Array Oper} {fr:Fr} {H:Hp} {K:Fr->Hp->Prop}: ∀(l:List (Nat×Tr)),awQs P N ops l fr H K-> ∀q∈l,qOK P fr ops[q.1]?/\awL P N ops ((ops[q.1]?).toList) fr H (fun fr' H'=>awQ P N ops q.2 fr' H' K)
 |[],_,q,hq=>by cases hq
 |(i,t)::r,h,q,hq=>by
  simp only [awQs] at h
  rcases List.mem_cons.1 hq with e|e
  ·subst e;exact h.1
  ·exact ykz r h.2 q e
section
variable {N:Nat} {ops:Array Oper} {fr fr':Fr} {H H':Hp} {K:Fr->Hp->Prop}
theorem yx1 {t:Tr} (h1:fr=fr') (h2:H=H'):awQ P N ops t fr H K=awQ P N ops t fr' H' K:=by rw [h1,h2]
theorem yu3 {l:List (Nat×Tr)} (h1:fr=fr') (h2:H=H'):awQs P N ops l fr H K=awQs P N ops l fr' H' K:=by rw [h1,h2]
end
attribute [congr] yx1 yu3
attribute [go_sem] awQ awQs qOK qOKo
section
variable {w:World} {M:Nat->Prop} {ρ:Nat->Addr} {D:Nat->Prop}
theorem yoh {t:Nat} {u v:Value} {x i:AV} {p:Prop} {r:AV} (hu:VR w M ρ D u x) (hv:VR w M ρ D v i) (h:yed P t x i=some (p,r)) (hp:p):
  ∃z,∀w',(Instr.indexAt t u v).run P w'= .ok z w':=by
 unfold yed at h
 split at h
 ·rename_i e k n hk
  have e1:=hv.int_inv
  subst e1
  have ht:=yax hk
  split at h
  ·rename_i es es' id off len hes
   split at h
   ·rename_i heq
    cases h
    subst heq
    cases hu with
    |sl es id off len cap hd hc arr t ad ha hb hr=>
     have hz:=fun w'=>yap hes w'
     have hae:=ha (by omega)
     subst hae
     exact ⟨_,fun w'=>by simp [Instr.indexAt,asIntOf,run_underlying ht,hp.1,hp.2,hz];rfl⟩
   ·cases h
  ·rename_i es es' len c hes
   split at h
   ·rename_i heq
    cases h
    subst heq
    cases hu with
    |ro es len c ad cap x hl hc he h0 hv=>
     have hz:=fun w'=>yap hes w'
     obtain ⟨a,rfl,hb,hm,hj⟩:=h0 (by omega)
     exact ⟨_,fun w'=>by simp [Instr.indexAt,asIntOf,run_underlying ht,hp.1,hp.2,hz];rfl⟩
   ·cases h
  ·cases h
 ·rename_i m e k n hk
  have e1:=hv.int_inv
  subst e1
  have ht:=yc4 hk
  split at h
  ·rename_i es id off hes
   cases h
   obtain ⟨rfl,hd⟩:=hu.ptr_inv
   have hz:=fun w'=>yap hes w'
   exact ⟨_,fun w'=>by simp [Instr.indexAt,asIntOf,run_underlying ht,Instr.sureAddr,hp.1,hp.2,hz];rfl⟩
  ·rename_i es c off hes
   cases h
   cases hu with
   |rp c off a x hb hm hj hv=>
    have hz:=fun w'=>yap hes w'
    exact ⟨_,fun w'=>by simp [Instr.indexAt,asIntOf,run_underlying ht,Instr.sureAddr,hp.1,hp.2,hz];rfl⟩
  ·cases h
 ·cases h
end
theorem yqn {o:Oper} (h:yqm P o.op=true) {w:World} {M:Nat->Prop} {ρ:Nat->Addr} {D:Nat->Prop} {a:Act} {fr:Fr} {H:Hp} (hev: ∀x,VR w M ρ D (a.eval x) (evA fr x)) {p:Prop} {r:AV} (hq:quF P H (evA fr) o.op=some (p,r)) (hp:p):ybq P (execOp a.eval o):=by
 cases ho:o.op with
 |indexAddr t x i=>
  rw [ho] at hq
  simp only [quF,opF] at hq
  obtain ⟨z,hz⟩:=yoh (hev x) (hev i) hq hp
  exact .inl ⟨.value z,fun w'=>by simp [execOp,ho,hz]⟩
 |_=>rw [ho] at h;exact yql (by rw [ho];exact h) hev hq hp
theorem yu4 {o:Oper} (h:yqm P o.op=true) {N:Nat} {fr:Fr} {H:Hp} {K:Fr->Hp->Prop} (hk:qOK P fr (some o)) (hq:awO P N o fr H K): ∃p r,quF P H (evA fr) o.op=some (p,r)/\p/\dok o.dst N=true/\K (fput fr o.dst r) H:=by
 cases ho:o.op with
 |indexAddr t x i=>
  obtain ⟨_,hq⟩:=hq
  rw [←ho]
  split at hq
  ·rename_i p r e;exact ⟨p,r,e,hq⟩
  ·rename_i e
   exfalso
   simp only [qOK,ho,qOKo] at hk
   rw [ho] at e
   simp only [quF,opF] at e
   rw [e] at hk;cases hk
 |_=>rw [←ho];exact yu2 (by rw [ho] at h;rw [ho];exact h) hq
end
def eagI (P:Program) (ops:Array Oper) (listed:Array Bool):List (Nat×Tr)->Bool
 |[(i,_)]=>Region.free .any ops listed i&&(Region.ready .any ops listed).contains i&&(match ops[i]? with|some o=>o.guard.isNone&&yqm P o.op|none=>false)
 |_=>false
mutual
def chkI (P:Program) (ops:Array Oper) (listed:Array Bool):Nat->Tr->Bool
 |0, .done=>(Region.ready .any ops listed).isEmpty
 |f+1, .node l=>(eagI P ops listed l||(!(Region.ready .any ops listed).isEmpty&&(Region.ready .any ops listed==l.map (·.1))))&&you P ops listed f l
 |_,_=>false
def you (P:Program) (ops:Array Oper) (listed:Array Bool) (f:Nat):List (Nat×Tr)->Bool
 |[]=>true
 |(i,t)::r=>chkI P ops (listed.setIfInBounds i true) f t&&you P ops listed f r
end
theorem yiu {P:Program} {ops:Array Oper} {listed:Array Bool} {f:Nat}: ∀(l:List (Nat×Tr)),you P ops listed f l=true-> ∀q∈l,chkI P ops (listed.setIfInBounds q.1 true) f q.2=true
 |[],_,q,hq=>by cases hq
 |(i,t)::r,h,q,hq=>by
  simp only [you,Bool.and_eq_true] at h
  rcases List.mem_cons.1 hq with e|e
  ·subst e;exact h.1
  ·exact yiu r h.2 q e
theorem yx2 {P:Program} {N:Nat} {ops:Array Oper} {B:Nat} {w0:ybi} {Mx:Nat->Prop} {K:Fr->Hp->Prop} (hsel:Region.noSelect ops=true) (Q:Exit->Act->World->Prop) (hP: ∀c a w,¬Q (.panic c) a w) (hQ: ∀a' w' ρ' fr' H',K fr' H'->Sim B w0 Mx N w' ρ' fr' H' a'->Q .normal a' w'): ∀(f:Nat) (t:Tr) (listed:Array Bool) (w:World) (ρ:Nat->Addr) (fr:Fr) (H:Hp) (a:Act),chkI P ops listed f t=true->awQ P N ops t fr H K->Sim B w0 Mx N w ρ fr H a->wpAny P .any ops Q f listed a w:=by
 intro f
 induction f with
 |zero=>
  intro t listed w ρ fr H a hc h hs
  cases t with
  |done=>
   simp only [chkI,List.isEmpty_iff] at hc
   simp only [awQ] at h
   exact ⟨hc,hQ _ _ ρ _ _ h hs⟩
  |node l=>simp [chkI] at hc
 |succ f ih=>
  intro t listed w ρ fr H a hc h hs
  cases t with
  |done=>simp [chkI] at hc
  |node l=>
   simp only [chkI,Bool.and_eq_true,Bool.or_eq_true] at hc
   obtain ⟨hc1,hc2⟩:=hc
   simp only [awQ] at h
   rcases hc1 with hc1|hc1
   ·unfold eagI at hc1
    split at hc1
    ·rename_i i t'
     simp only [Bool.and_eq_true] at hc1
     obtain ⟨⟨hf,hr⟩,ho⟩:=hc1
     cases hoi:ops[i]? with
     |none=>rw [hoi] at ho;cases ho
     |some o=>
      rw [hoi] at ho
      simp only [Bool.and_eq_true,Option.isNone_iff_eq_none] at ho
      obtain ⟨hqk,h1⟩:=ykz _ h (i,t') (List.mem_singleton.2 rfl)
      rw [hoi] at hqk
      have h2:=yiu _ hc2 (i,t') (List.mem_singleton.2 rfl)
      simp only [hoi,Option.toList_some,awL,ho.1] at h1
      obtain ⟨p,r,hq,hp,hd,hk⟩:=yu4 ho.2 hqk h1
      obtain ⟨v,hrun,hv⟩:=ygl (P:=P) (o:=o) (a:=a) hs.objs hs.ev (fun s d x e=>by rw [e] at ho;cases ho.2) hq hp
      have hw:Region.wanted o (yielded ops a.tmps)=true:=by simp [Region.wanted,ho.1]
      have hy:Yields P ops o v a:= .inl ⟨hw,fun w'=>by
       rcases yqn ho.2 hs.ev hq hp with ⟨r',hr'⟩|hn
       ·have:=hr' w;rw [hrun] at this;cases this;exact hr' w'
       ·exact absurd hrun (hn _ _ _)⟩
      exact wpAny_take hoi hsel hf hr (fun c a w h=>absurd h (hP c _ _)) hy (ih t' _ w ρ _ _ _ h2 hk (hs.put hd hv))
    ·cases hc1
   ·simp only [Bool.and_eq_true,Bool.not_eq_true',beq_iff_eq] at hc1
    refine ⟨fun hnil=>by rw [hnil] at hc1;simp at hc1,fun i hi=>?_⟩
    rw [hc1.2] at hi
    obtain ⟨q,hq,rfl⟩:=List.mem_map.1 hi
    have h1:=(ykz l h q hq).2
    have h2:=yiu l hc2 q hq
    have hr:q.1∈Region.ready .any ops listed:=by rw [hc1.2];exact List.mem_map_of_mem hq
    obtain ⟨_,o,g2,_⟩:=mem_ready.1 hr
    rw [g2] at h1
    exact yho g2 h1 hs _ _ fun a' w' ρ' fr' H' hk hs'=>ih q.2 _ w' ρ' fr' H' a' h2 hk hs'
theorem ya2.introI {P:Program} {N:Nat} {ops:Array Oper} {id:Nat} {fr:Fr} {H:Hp} {Q:Exit->Fr->Hp->Prop} (t:Tr) (hchk:(chkI P ops (Array.replicate ops.size false) ops.size t&&Region.noSelect ops)=true) (hm:P.follows .mixedOrders=true)
  (h:awQ P N ops t fr H (Q .normal)):ya2 P N id ops fr H Q:=by
 simp only [Bool.and_eq_true] at hchk
 refine ⟨fun B w0 Mx w ρ a hs=>wp_mono (wp_region_any (Q:=y7v fun a' w'=> ∃ρ' fr' H',Q .normal fr' H'/\Sim B w0 Mx N w' ρ' fr' H' a') hm (yx2 hchk.2 _ (fun _ _ _ h=>h) (fun _ _ ρ' fr' H' hk hs'=>⟨ρ',fr',H',hk,hs'⟩) ops.size t _ _ ρ fr H a hchk.1 h hs.draw)) fun e a' w' h=>?_⟩
 cases e<;>first|exact h|exact h.elim
end Go.Proofs.YtfgbnalnbdhimaaGreatDoor
namespace Go.Proofs.YtfgbnalnbdhimaaGreatDoor
open Go Go.RowKit
set_option maxRecDepth 100000
set_option maxHeartbeats 8000000
set_option linter.unusedVariables false
set_option linter.unusedSimpArgs false
def y6a:TbA:=[(1,[[],[],[],[],[10],[10],[8,9],[],[],[]],[[],[],[],[],[],[],[4,5],[],[],[]])]
def y6b:TbT:=[(1,trP [0,1,2,3] (.node [(4, .node [(5,trD [6,7,8,9]),(6,trD [5,7,8,9])]),(6,trD [4,5,7,8,9])]))]
def yl5:TbA:=[(2,[[20,21,22,23,24,25,26,27,28],[19,21,22,23,26],[19,20,26],[19,20,26],[19,20,26],[19,26],[19,26],[19,20,21,22,23,24,25],[19],[19],[],[]],[[],[0],[0,1],[0,1],[0,1],[0],[0],[0,1,2,3,4,5,6],[0],[0],[],[]])]
def pkC (N:Nat):List AV:=(List.range N).flatMap fun i=>[AV.bool false,tmA (pwZ i)]
theorem yhw (N:Nat):pkC N++[AV.bool false,tmA (pwZ N)]=pkC (N+1):=by unfold pkC;rw [List.range_succ,List.flatMap_append];rfl
theorem yjo: ∀N,(pkC N).length=2*N
 |0=>rfl
 |N+1=>by rw [←yhw,List.length_append,yjo N];simp only [List.length_cons,List.length_nil];omega
theorem yha: ∀(N i:Nat),i<N->(pkC N).getD (i*2) .any= .bool false/\(pkC N).getD (i*2+1) .any=tmA (pwZ i)
 |0,i,h=>by omega
 |N+1,i,h=>by
  have hl:=yjo N
  rw [←yhw]
  by_cases hi:i<N
  ·obtain ⟨h1,h2⟩:=yha N i hi
   rw [List.getD_eq_getElem?_getD,List.getD_eq_getElem?_getD,List.getElem?_append_left (by omega),List.getElem?_append_left (by omega),←List.getD_eq_getElem?_getD,←List.getD_eq_getElem?_getD]
   exact ⟨h1,h2⟩
  ·obtain rfl:i=N:=by omega
   rw [List.getD_eq_getElem?_getD,List.getD_eq_getElem?_getD,List.getElem?_append_right (by omega),List.getElem?_append_right (by omega),hl,show i*2-2*i=0 by omega,show i*2+1-2*i=1 by omega]
   exact ⟨rfl,rfl⟩
theorem yta {N:Nat} {x:AV} (h:x∈pkC N):x= .bool false\/ ∃i,x=tmA (pwZ i):=by
 simp only [pkC,List.mem_flatMap] at h
 obtain ⟨i,_,h⟩:=h
 simp at h
 rcases h with rfl|rfl
 ·exact .inl rfl
 ·exact .inr ⟨i,rfl⟩
theorem y4c {f:AV->Bool} (hb:f (.bool false)=true) (ht: ∀i,f (tmA (pwZ i))=true) (N:Nat):(pkC N).all f=true:=List.all_eq_true.2 fun x hx=>by
 rcases yta hx with rfl|⟨i,rfl⟩
 ·exact hb
 ·exact ht i
theorem yjp {g:AV->AV} (hb:g (.bool false)= .bool false) (ht: ∀i,g (tmA (pwZ i))=tmA (pwZ i)) (N:Nat):(pkC N).map g=pkC N:=by
 conv=>rhs;rw [←List.map_id (pkC N)]
 exact List.map_congr_left fun x hx=>by
  rcases yta hx with rfl|⟨i,rfl⟩
  ·exact hb
  ·exact ht i
theorem y6c (H:Hp) (N:Nat):(pkC N).all (s3 H)=true:=y4c rfl (fun _=>rfl) N
attribute [go_sem] y6c
theorem ytb (i N:Nat):(pkC N).map (cutV i)=pkC N:=yjp rfl (fun _=>rfl) N
abbrev knO (k N:Nat):AObj:= .cells 91 (.lst [.sl 2 k 0 N])
abbrev pkO (N:Nat):AObj:= .cells 32 (.lst (pkC N))
theorem yrp:FnO Tryz.prog 21 [plA false pwZ1] (.fn 51 [.ptr 2 0, .ptr 0 0]) [(2,knO 1 1),(1,pkO 1),(0,lpB (tmA pwZ1))]:=by
 have hZ:=ys5 pwZ1
 have hL:=yjn pwZ1 (by simp)
 have hH:=yky pwZ1 (by simp) (by simp)
 have hT:=ycc 1 0 (by decide) (by decide)
 rw [show trm 1 0=[(0,1)] from rfl] at hT
 rw [show (((pwZ1.length:Nat):Int)==0)=false from rfl] at hZ
 rw [show (pwZ1.getD 0 (0,0)).1= -2 from rfl] at hL
 rw [show (pwZ1.getD (pwZ1.length-1) (0,0)).1=2 from rfl] at hH
 refine FnO.intro [.tmp 2] Tryz.func21 rfl rfl (by decide) (by simp [Tryz.ntmps21]) ?_;rw [Tryz.ntmps21]
 repeat' (first|omega|(first|apply yaa|refine tbN y6a ?_|refine tbT y6b ?_|skip);simp only [go_sem,yac,yf5]|refine cgL ?_|refine cgD ?_|apply yab<;>(intro h_;(try simp only [h_]);revert h_)|apply And.intro|with_reducible intro h_|trivial)
 all_goals skip
theorem ytc:OkT 80 pwZ1:=by
 have h:=(ydo (n:=1) (by decide)).1
 rwa [show pwZ 1=pwZ1 by decide+kernel] at h
abbrev pkH (N:Nat) (x y c:Int) (X:AV):Hp:=[(8, .cells 50 (.lst [I x,I y,I c])),(7,lpB X),(6,knO 5 N),(5,pkO N),(4,lpB (tmA pwZ1)),(3,lpB .nils)]
def pkK:Hp:=[(8, .gone),(7, .gone),(6, .gone),(4, .gone),(3, .gone)]
theorem yl6 {H:Hp} (h8:(hget H 8).isSome=true) (h7:(hget H 7).isSome=true) (h6:(hget H 6).isSome=true) (h4:(hget H 4).isSome=true) (h3:(hget H 3).isSome=true): ∀i,(hget pkK i).isSome=true->(hget H i).isSome=true:=fun i hi=>by
 simp only [pkK,hget] at hi
 split at hi
 ·rename_i e;subst e;exact h8
 ·split at hi
  ·rename_i e;subst e;exact h7
  ·split at hi
   ·rename_i e;subst e;exact h6
   ·split at hi
    ·rename_i e;subst e;exact h4
    ·split at hi
     ·rename_i e;subst e;exact h3
     ·cases hi
theorem yu5 (n N:Nat) (hn:n<=40) (hN:1<=N/\N<=41) (x y c:Int) {fr:Fr} {K:AV->Fr->Hp->Prop} (hfr:fr.all (fun q=>s3 pkK q.2)=true) (hcut:fcut 5 (lft fr)=lft fr) (hsw:swF 5 20 (lft fr)=lft fr)
  (hK:K (plA false (pwZ n)) fr ((9,lpB (tmA (pwZ n)))::pkH (max N (n+1)) x y c .nils)):yba Tryz.prog 51 [I n, .ptr 6 0, .ptr 4 0] fr (pkH N x y c .nils) K:=by
 refine yba.intro [.cell 4 32] Tryz.func51 rfl rfl (by decide) (by simp [Tryz.ntmps51]) ?_;rw [Tryz.ntmps51]
 repeat' (first|omega|(try apply yaa);simp only [go_sem]|apply yab<;>(intro h_;(try simp only [h_]);revert h_)|apply And.intro|with_reducible intro h_|trivial)
 refine yai.intro (fun m fr1 H=> ∃M:Nat,N<=M/\(M=N\/M<=n+1)/\m=41-M/\fr1=[(4, .ptr 9 0),(2, .ptr 4 0),(1, .ptr 6 0),(0,I n)]++lft fr/\H=(9,lpB .nils)::pkH M x y c .nils) ?_ ?_
 ·refine ⟨_,_,_,Wk.appC (A:=[(4, .ptr 9 0),(2, .ptr 4 0),(1, .ptr 6 0),(0,I n)]) hfr ?_ ?_ (yl6 rfl rfl rfl rfl rfl) (fun t ht=>?_) rfl,N,Nat.le_refl _, .inl rfl,rfl,rfl,rfl⟩
  ·simp only [go_sem,yac]
  ·simp only [go_sem,yac]
  ·simp only [fget]
   repeat rw [if_neg (by omega)]
 rintro m fr1 H ⟨M,hM1,hM2,rfl,rfl,rfl⟩
 have hl:=yjo M
 obtain ⟨k0,k1⟩:=yha M (M-1) (by omega)
 have e1:((M:Int)-1).toNat=M-1:=by omega
 have hB:=ydl (pwZ (M-1))
 by_cases hMn:M<=n
 ·have bM:decide ((M:Int)<=n)=true:=by rw [decide_eq_true_iff];omega
  obtain ⟨w1,w2,w3,w4⟩:=ydo (n:=M-1) (by omega)
  have hmul:Fn Tryz.prog 23 [plA false (pwZ (M-1)),plA false pwZ1] (plA false (pwZ M)):=by
   have h:=OkT.mul (M:=80) (q:=pwZ1) w1 ytc (by decide) (by decide) (by omega) (by decide) (by
    rw [w4,w2]
    have:lowE (pwZ (M-1))= -2*((M-1:Nat):Int):=by unfold lowE;rw [w3]
    rw [this]
    simp [yah,lowE];omega)
   rwa [ysl (M-1) (by omega),show M-1+1=M by omega] at h
  have hs:=yhw M
  repeat' (first|omega|(first|apply yaa|refine tbN yl5 ?_|skip);simp only [go_sem,bM,k0,k1,e1,hl,ytb,hs,yac]|refine cgL ?_|refine cgD ?_|apply yab<;>(intro h_;(try simp only [h_]);revert h_)|apply And.intro|with_reducible intro h_|trivial)
  have hm:(pkC (M+1)).map (swV 5 20 4)=pkC (M+1):=yjp rfl (fun _=>rfl) _
  have hw:Wk ([(4, .ptr 9 0),(2, .ptr 4 0),(1, .ptr 6 0),(0,I n)]++lft fr) [(9,lpB .nils),(8, .cells 50 (.lst [I x,I y,I c])),(7,lpB .nils),(6,knO 20 (M+1)),(20,pkO (M+1)),(4,lpB (tmA pwZ1)),(3,lpB .nils)]
    ([(4, .ptr 9 0),(2, .ptr 4 0),(1, .ptr 6 0),(0,I n)]++lft fr) ((9,lpB .nils)::pkH (M+1) x y c .nils):=by
   have h:=Wk.swap 5 20 ([(4, .ptr 9 0),(2, .ptr 4 0),(1, .ptr 6 0),(0,I n)]++lft fr) [(9,lpB .nils),(8, .cells 50 (.lst [I x,I y,I c])),(7,lpB .nils),(6,knO 20 (M+1)),(20,pkO (M+1)),(4,lpB (tmA pwZ1)),(3,lpB .nils)]
   simp only [List.cons_append,List.nil_append,swF,swH,swO,List.map_cons,List.map_nil,hsw,hm] at h
   exact h
  refine ⟨_,_,_,?_,Wk.trans (Wk.appC (A:=[(4, .ptr 9 0),(2, .ptr 4 0),(1, .ptr 6 0),(0,I n)]) hfr ?_ ?_ (yl6 rfl rfl rfl rfl rfl) (fun t ht=>?_) rfl) hw,M+1,by omega, .inr (by omega),rfl,rfl,rfl⟩
  ·omega
  ·simp only [go_sem,yac]
  ·simp only [go_sem,yac,hs]
  ·simp only [fget]
   repeat rw [if_neg (by omega)]
   try rw [hcut]
 ·have bM:decide ((M:Int)<=n)=false:=by rw [decide_eq_false_iff_not];omega
  obtain ⟨k2,k3⟩:=yha M n (by omega)
  have hmin:(if (M:Int)-1<n then (M:Int)-1 else n)=n:=by rw [if_neg (by omega)]
  repeat' (first|omega|(first|apply yaa|refine tbN yl5 ?_|skip);simp only [go_sem,bM,k2,k3,e1,hl,hmin,yac]|refine cgL ?_|refine cgD ?_|apply yab<;>(intro h_;(try simp only [h_]);revert h_)|apply And.intro|with_reducible intro h_|trivial)
  all_goals (obtain rfl:M=max N (n+1):=by omega)
  all_goals exact hK
theorem yu6 (n N:Nat) (hn:n<=40) (hN:1<=N/\N<=41) (x y c:Int) (T:List (Int×Int)) {fr:Fr} {K:AV->Fr->Hp->Prop} (hfr:fr.all (fun q=>s3 pkK q.2)=true) (hcut:fcut 5 (lft fr)=lft fr) (hsw:swF 5 20 (lft fr)=lft fr)
  (hK:K (plA false (pwZ n)) fr ((9,lpB (tmA (pwZ n)))::pkH (max N (n+1)) x y c (tmA T))):yba Tryz.prog 51 [I n, .ptr 6 0, .ptr 4 0] fr (pkH N x y c (tmA T)) K:=by
 refine yba.intro [.cell 4 32] Tryz.func51 rfl rfl (by decide) (by simp [Tryz.ntmps51]) ?_;rw [Tryz.ntmps51]
 repeat' (first|omega|(try apply yaa);simp only [go_sem]|apply yab<;>(intro h_;(try simp only [h_]);revert h_)|apply And.intro|with_reducible intro h_|trivial)
 refine yai.intro (fun m fr1 H=> ∃M:Nat,N<=M/\(M=N\/M<=n+1)/\m=41-M/\fr1=[(4, .ptr 9 0),(2, .ptr 4 0),(1, .ptr 6 0),(0,I n)]++lft fr/\H=(9,lpB .nils)::pkH M x y c (tmA T)) ?_ ?_
 ·refine ⟨_,_,_,Wk.appC (A:=[(4, .ptr 9 0),(2, .ptr 4 0),(1, .ptr 6 0),(0,I n)]) hfr ?_ ?_ (yl6 rfl rfl rfl rfl rfl) (fun t ht=>?_) rfl,N,Nat.le_refl _, .inl rfl,rfl,rfl,rfl⟩
  ·simp only [go_sem,yac]
  ·simp only [go_sem,yac]
  ·simp only [fget]
   repeat rw [if_neg (by omega)]
 rintro m fr1 H ⟨M,hM1,hM2,rfl,rfl,rfl⟩
 have hl:=yjo M
 obtain ⟨k0,k1⟩:=yha M (M-1) (by omega)
 have e1:((M:Int)-1).toNat=M-1:=by omega
 have hB:=ydl (pwZ (M-1))
 by_cases hMn:M<=n
 ·have bM:decide ((M:Int)<=n)=true:=by rw [decide_eq_true_iff];omega
  obtain ⟨w1,w2,w3,w4⟩:=ydo (n:=M-1) (by omega)
  have hmul:Fn Tryz.prog 23 [plA false (pwZ (M-1)),plA false pwZ1] (plA false (pwZ M)):=by
   have h:=OkT.mul (M:=80) (q:=pwZ1) w1 ytc (by decide) (by decide) (by omega) (by decide) (by
    rw [w4,w2]
    have:lowE (pwZ (M-1))= -2*((M-1:Nat):Int):=by unfold lowE;rw [w3]
    rw [this]
    simp [yah,lowE];omega)
   rwa [ysl (M-1) (by omega),show M-1+1=M by omega] at h
  have hs:=yhw M
  repeat' (first|omega|(first|apply yaa|refine tbN yl5 ?_|skip);simp only [go_sem,bM,k0,k1,e1,hl,ytb,hs,yac]|refine cgL ?_|refine cgD ?_|apply yab<;>(intro h_;(try simp only [h_]);revert h_)|apply And.intro|with_reducible intro h_|trivial)
  have hm:(pkC (M+1)).map (swV 5 20 4)=pkC (M+1):=yjp rfl (fun _=>rfl) _
  have hw:Wk ([(4, .ptr 9 0),(2, .ptr 4 0),(1, .ptr 6 0),(0,I n)]++lft fr) [(9,lpB .nils),(8, .cells 50 (.lst [I x,I y,I c])),(7,lpB (tmA T)),(6,knO 20 (M+1)),(20,pkO (M+1)),(4,lpB (tmA pwZ1)),(3,lpB .nils)]
    ([(4, .ptr 9 0),(2, .ptr 4 0),(1, .ptr 6 0),(0,I n)]++lft fr) ((9,lpB .nils)::pkH (M+1) x y c (tmA T)):=by
   have h:=Wk.swap 5 20 ([(4, .ptr 9 0),(2, .ptr 4 0),(1, .ptr 6 0),(0,I n)]++lft fr) [(9,lpB .nils),(8, .cells 50 (.lst [I x,I y,I c])),(7,lpB (tmA T)),(6,knO 20 (M+1)),(20,pkO (M+1)),(4,lpB (tmA pwZ1)),(3,lpB .nils)]
   simp only [List.cons_append,List.nil_append,swF,swH,swO,List.map_cons,List.map_nil,hsw,hm] at h
   exact h
  refine ⟨_,_,_,?_,Wk.trans (Wk.appC (A:=[(4, .ptr 9 0),(2, .ptr 4 0),(1, .ptr 6 0),(0,I n)]) hfr ?_ ?_ (yl6 rfl rfl rfl rfl rfl) (fun t ht=>?_) rfl) hw,M+1,by omega, .inr (by omega),rfl,rfl,rfl⟩
  ·omega
  ·simp only [go_sem,yac]
  ·simp only [go_sem,yac,hs]
  ·simp only [fget]
   repeat rw [if_neg (by omega)]
   try rw [hcut]
 ·have bM:decide ((M:Int)<=n)=false:=by rw [decide_eq_false_iff_not];omega
  obtain ⟨k2,k3⟩:=yha M n (by omega)
  have hmin:(if (M:Int)-1<n then (M:Int)-1 else n)=n:=by rw [if_neg (by omega)]
  repeat' (first|omega|(first|apply yaa|refine tbN yl5 ?_|skip);simp only [go_sem,bM,k2,k3,e1,hl,hmin,yac]|refine cgL ?_|refine cgD ?_|apply yab<;>(intro h_;(try simp only [h_]);revert h_)|apply And.intro|with_reducible intro h_|trivial)
  all_goals (obtain rfl:M=max N (n+1):=by omega)
  all_goals exact hK
theorem yn5 (n N:Nat) (hn:n<=40) (hN:1<=N/\N<=41) (x y c:Int) (X:AV) (hX:X= .nils\/ ∃T,X=tmA T) {fr:Fr} {K:AV->Fr->Hp->Prop} (hfr:fr.all (fun q=>s3 pkK q.2)=true) (hcut:fcut 5 (lft fr)=lft fr) (hsw:swF 5 20 (lft fr)=lft fr)
  (hK:K (plA false (pwZ n)) fr ((9,lpB (tmA (pwZ n)))::pkH (max N (n+1)) x y c X)):yba Tryz.prog 51 [I n, .ptr 6 0, .ptr 4 0] fr (pkH N x y c X) K:=by
 rcases hX with rfl|⟨T,rfl⟩
 ·exact yu5 n N hn hN x y c hfr hcut hsw hK
 ·exact yu6 n N hn hN x y c T hfr hcut hsw hK
end Go.Proofs.YtfgbnalnbdhimaaGreatDoor
set_option linter.unusedSimpArgs false
set_option linter.unusedVariables false
namespace Go.Proofs.YtfgbnalnbdhimaaGreatDoor
open Go Go.RowKit
set_option linter.unusedVariables false
section
variable {P:Program} {B:Nat} {w0:ybi} {Mx:Nat->Prop} {N:Nat} {fr:Fr} {H:Hp}
theorem awO.of {o:Oper} {K:Fr->Hp->Prop} (hc:cvOk P o.op=true) (hq:quF P H (evA fr) o.op=none) (ha:alF P (hnew H) (evA fr) o.op=none) (hx:awX P N o fr H K):awO P N o fr H K:=by
 unfold awO
 rw [hq,ha]
 exact ⟨hc,hx⟩
theorem Oper.wp_value {o:Oper} {a:Act} {w w':World} {v:Value} {K:Act->World->Prop} {Q:Exit->Act->World->Prop} (h:(execOp a.eval o).run P w= .ok (.value v) w') (hk:K (a.put o.dst v) w'):o.wp P a w K Q:=by
 unfold Oper.wp;rw [h];exact hk
theorem yrq {w:World} {ty:TypeId} {r bm since c0:Nat} {seen:List Nat} {es:Array MapEntry} {clock:Nat} (hr:w.heap[r]?=some (.mapIter (some bm) since seen.toArray c0)) (hb:w.heap[bm]?=some (.map es clock)) (hold: ∀x∈es.toList,x.born<since) (hsc:since<=c0) (ad:Addr) (had:ad.block=r/\ad.off=0):
  ((∀x∈es.toList,x.born∈seen)/\(Instr.next (.pointer (some ad)) false ty).run P w= .ok (.tuple #[.bool false]) w)\/
  ∃(j:Nat) (e:MapEntry) (w1:World),es[j]?=some e/\e.born∉seen/\(w1=w\/w1={w with drawn:=w.drawn+1})/\(Instr.next (.pointer (some ad)) false ty).run P w= .ok (.tuple #[.bool true,e.key,e.val]) {w1 with heap:=w1.heap.setIfInBounds r (.mapIter (some bm) since (seen++[e.born]).toArray clock)}:=by
 obtain ⟨ab,ao,asp⟩:=ad
 obtain ⟨rfl,rfl⟩:=had
 simp only [Instr.next,getObj,Sem.run_bind,Sem.run,hr,hb,Result.andThen,next_test_false seen.toArray es since c0 hold hsc,Bool.false_eq_true,if_false]
 have hmem: ∀x∈(Array.filter (fun e=> !seen.toArray.contains e.born) es).toList,x∈es.toList/\x.born∉seen:=fun x hx=>by simp at hx⊢;exact hx
 have hall:(Array.filter (fun e=> !seen.toArray.contains e.born) es)= #[]-> ∀x∈es.toList,x.born∈seen:=fun h x hx=>by
  rw [Array.filter_eq_empty_iff] at h
  have:=h x (by simpa using hx)
  simpa using this
 generalize Array.filter (fun e=> !seen.toArray.contains e.born) es=L at hmem hall⊢
 have e1:L.filter (fun x=>decide (x.born<since))=L:=Array.filter_eq_self.2 (fun x hx=>by simpa using hold x (hmem x (by simpa using hx)).1)
 have e2:L.filter (fun x=>decide (x.born≥since))= #[]:=by
  rw [Array.filter_eq_empty_iff]
  intro x hx
  have:=hold x (hmem x (by simpa using hx)).1
  simp
  omega
 simp only [e1,e2,Array.append_empty]
 by_cases h0:L.size=0
 ·left
  have:L= #[]:=Array.eq_empty_of_size_eq_zero h0
  refine ⟨hall this,?_⟩
  subst this
  simp [choose,Sem.run,Question.forced]
 ·right
  have hne:L.isEmpty=false:=by simp [Array.isEmpty,h0]
  simp only [hne,Bool.false_eq_true,if_false,Array.empty_append,Array.size_map]
  have hch: ∃(j:Nat) (w1:World),j<L.size/\(w1=w\/w1={w with drawn:=w.drawn+1})/\(if (Question.mapNext L.size).forced=true then (Result.ok 0 w:Result Nat) else Result.ok ((Question.mapNext L.size).cut (w.tape w.drawn (Question.mapNext L.size))) w.drew)= .ok j w1:=by
   by_cases hf:L.size<=1
   ·exact ⟨0,w,by omega, .inl rfl,by simp [Question.forced,hf]⟩
   ·refine ⟨_,w.drew,?_, .inr rfl,by rw [if_neg (by simp [Question.forced,hf])]⟩
    simp only [Question.cut]
    exact Nat.mod_lt _ (by omega)
  obtain ⟨j,w1,hj,hw1,hrun⟩:=hch
  obtain ⟨m1,m2⟩:=hmem L[j] (by simp)
  obtain ⟨i,hi,hie⟩:=List.mem_iff_getElem.1 m1
  refine ⟨i,L[j],w1,?_,m2,hw1,?_⟩
  ·rw [←hie];simp at hi⊢
  ·have hb1:w1.heap[ab]?=some (.mapIter (some bm) since seen.toArray c0):=by rcases hw1 with rfl|rfl<;>exact hr
   simp only [choose,Sem.run]
   by_cases hf:(Question.mapNext L.size).forced=true
   ·rw [if_pos hf] at hrun⊢
    injection hrun with q1 q2
    subst q1 q2
    simp [hj,setObj,Sem.run,hb1]
   ·rw [if_neg hf] at hrun⊢
    injection hrun with q1 q2
    subst q2
    simp only [q1]
    simp [hj,setObj,Sem.run,hb1]
theorem SpA.nextG {o:Oper} {x:Operand} {iid mid since last t ck:Nat} {seen:List Nat} {l:List (ByteArray×Nat×AV)} {K:Fr->Hp->Prop} (ho:o.op= .next x false) (hd:dok o.dst N=true) (hx:evA fr x= .ptr iid 0) (hi:hget H iid=some (.iter mid since seen last)) (hm:hget H mid=some (.gmap t ck l))
  (hb: ∀q∈l,q.2.1<since) (hsl:since<=last) (h1:(∀q∈l,q.2.1∈seen)->K (fput fr o.dst (.tup [.bool false])) H)
  (h2: ∀q∈l,q.2.1∉seen->K (fput fr o.dst (.tup [.bool true,gkA t q.1,q.2.2])) (hset H iid (.iter mid since (seen++[q.2.1]) ck))):SpA P N o K fr H:=by
 intro B w0 Mx w ρ a hs Q
 obtain ⟨i1,i2,i3⟩:=hs.objs iid _ hi
 obtain ⟨es,g1,g2,g3⟩:=hs.objs mid _ hm
 have ex:=(hx▸hs.ev x).ptr_inv.1
 have ead:(ρ iid).add 0=ρ iid:=rfl
 rw [ead] at ex
 have hold: ∀e∈es.toList,e.born<since:=fun e he=>by
  obtain ⟨j,hj,rfl⟩:=List.mem_iff_getElem.1 he
  have hj2:j<l.length:=by rw [←g2];simpa using hj
  obtain ⟨_,k2,_⟩:=g3 j _ l[j] (Array.getElem?_eq_getElem (by simpa using hj)) (List.getElem?_eq_getElem hj2)
  show (es[j]'(by simpa using hj)).born<since
  rw [k2];exact hb _ (List.getElem_mem hj2)
 have hrun0:(execOp a.eval o).run P w=((Instr.next (.pointer (some (ρ iid))) false o.type).run P w).andThen fun v w'=> .ok (.value v) w':=by
  simp only [execOp,ho,ex];simp
 rcases yrq (P:=P) (ty:=o.type) i3 g1 hold hsl (ρ iid) ⟨rfl,i2⟩ with ⟨k1,k2⟩|⟨j,e,w1,k1,k2,k3,k4⟩
 ·refine Oper.wp_value (by rw [hrun0,k2];rfl) ⟨ρ,_,H,h1 fun q hq=>?_,hs.put hd (.tup [.bool false] [.bool false] rfl fun i v x hv hx=>?_)⟩
  ·obtain ⟨j,hj,rfl⟩:=List.mem_iff_getElem.1 hq
   have hj2:j<es.size:=by omega
   obtain ⟨_,q2,_⟩:=g3 j es[j] l[j] (by simp [hj2]) (List.getElem?_eq_getElem hj)
   rw [←q2];exact k1 _ (by simp)
  ·match i,hv,hx with
   |0,hv,hx=>cases hv;cases hx;exact .bool _
 ·have hj:j<es.size:=(Array.getElem?_eq_some_iff.1 k1).1
  have hj2:j<l.length:=by omega
  obtain ⟨q1,q2,q3⟩:=g3 j e l[j] k1 (List.getElem?_eq_getElem hj2)
  have hs1:Sim B w0 Mx N w1 ρ fr H a:=by
   rcases k3 with rfl|rfl
   ·exact hs
   ·exact hs.draw
  have i3':w1.heap[(ρ iid).block]?=some (.mapIter (some (ρ mid).block) since seen.toArray last):=by rcases k3 with rfl|rfl<;>exact i3
  have hs2:=hs1.chgO (b2:= .mapIter (some (ρ mid).block) since (seen++[e.born]).toArray ck) (o2:= .iter mid since (seen++[e.born]) ck) hi rfl rfl i3' (fun _ _=>by simp) fun M' hc=>⟨(yee hi mid).2 i1,i2,by simp [yaj i3']⟩
  have hq3:VR w1 (MM Mx H ρ) ρ (DD H) e.val (l[j]).2.2:=by
   rcases k3 with rfl|rfl
   ·exact q3
   ·exact q3.carry (w':={w with drawn:=w.drawn+1}) (Nat.le_refl _) (fun _ _ hm=>⟨rfl,hm⟩) (fun id hd=>⟨hd,rfl,fun arr t ha=>⟨arr,ha,rfl⟩⟩)
  have hval:VR {w1 with heap:=w1.heap.setIfInBounds (ρ iid).block (.mapIter (some (ρ mid).block) since (seen++[e.born]).toArray ck)} (MM Mx (hset H iid (.iter mid since (seen++[e.born]) ck)) ρ) ρ (DD (hset H iid (.iter mid since (seen++[e.born]) ck))) e.val (l[j]).2.2:=by
   refine hq3.carry (by simp) (fun b hb hm=>?_) (fun i hi'=>⟨(yee hi i).2 hi',rfl,fun ar tt har=>?_⟩)
   ·have hne:b≠(ρ iid).block:=fun e'=>hm (.inr ⟨iid,_,hi,rfl,e'.symm⟩)
    exact ⟨by show (w1.heap.setIfInBounds _ _)[b]?=_;rw [Array.getElem?_setIfInBounds_ne (Ne.symm hne)],fun hh=>hm ((ygy (o':= .iter mid since (seen++[e.born]) ck) hi rfl b).1 hh)⟩
   ·by_cases e':(ρ i).block=(ρ iid).block
    ·rw [e'] at har;rw [i3'] at har;cases har
    ·exact ⟨ar,by show (w1.heap.setIfInBounds _ _)[(ρ i).block]?=_;rw [Array.getElem?_setIfInBounds_ne (Ne.symm e')];exact har,rfl⟩
  refine Oper.wp_value (by rw [hrun0,k4];rfl) ⟨ρ,_,_,?_,hs2.put hd (.tup [.bool true,e.key,e.val] [.bool true,gkA t (l[j]).1,(l[j]).2.2] rfl fun i v x hv hx=>?_)⟩
  ·have:=h2 l[j] (List.getElem_mem hj2) (by rw [←q2];exact k2)
   rw [←q2] at this
   exact this
  ·match i,hv,hx with
   |0,hv,hx=>cases hv;cases hx;exact .bool _
   |1,hv,hx=>cases hv;cases hx;exact yvi q1
   |2,hv,hx=>cases hv;cases hx;exact hval
theorem SpA.next {o:Oper} {x:Operand} {iid mid since last t ck:Nat} {seen:List Nat} {l:List (ByteArray×Nat×AV)} {K:Fr->Hp->Prop} (ho:o.op= .next x false) (hd:dok o.dst N=true) (hx:evA fr x= .ptr iid 0) (hi:hget H iid=some (.iter mid since seen last)) (hm:hget H mid=some (.gmap t ck l))
  (hb: ∀q∈l,q.2.1<since) (hsl:since<=last) (h1:(∀q∈l,q.2.1∈seen)->K (fput fr o.dst (.tup [.bool false])) H)
  (h2: ∀q∈l,q.2.1∉seen->K (fput fr o.dst (.tup [.bool true, .str q.1,q.2.2])) (hset H iid (.iter mid since (seen++[q.2.1]) ck))) (ht:t<1000000000):SpA P N o K fr H:=
 SpA.nextG ho hd hx hi hm hb hsl h1 fun q hq hs=>by unfold gkA;rw [if_pos ht];exact h2 q hq hs
theorem VR.mp_D {w:World} {M:Nat->Prop} {ρ:Nat->Addr} {D:Nat->Prop} {v:Value} {id:Nat} (h:VR w M ρ D v (.mp id)):D id:=by cases h;assumption
theorem SpA.range {o:Oper} {x:Operand} {xt kt et mid t ck:Nat} {l:List (ByteArray×Nat×AV)} {K:Fr->Hp->Prop} (ho:o.op= .range xt x) (hd:dok o.dst N=true) (htk:tk P xt= .map kt et) (hx:evA fr x= .mp mid) (hm:hget H mid=some (.gmap t ck l))
  (h:K (fput fr o.dst (.ptr (hnew H) 0)) ((hnew H, .iter mid ck [] ck)::H)):SpA P N o K fr H:=by
 intro B w0 Mx w ρ a hs Q
 obtain ⟨es,g1,g2,g3⟩:=hs.objs mid _ hm
 have ex:=(hx▸hs.ev x).mp_inv
 have hn:hget H (hnew H)=none:=yec (Nat.le_refl _)
 have hmn:mid≠hnew H:=fun e=>by rw [←e,hm] at hn;cases hn
 have hs2:=hs.alloc (hnew H) hn (.mapIter (some (ρ mid).block) ck #[] ck) (.iter mid ck [] ck) fun M' ρ' D' hr hc=>by
  have h0:=hc (D:=DD H) (fun _ h=>h) (VR.mp (w:=w) (M:=MM Mx H ρ) (ρ:=ρ) mid ⟨_,hm⟩)
  have h1:=h0.mp_inv
  simp only [Value.map.injEq,Option.some.injEq] at h1
  exact ⟨h0.mp_D,by rw [hr],by rw [hr,←h1];exact ya1⟩
 ·refine Oper.wp_value (v:= .pointer (some ⟨w.heap.size,0,none⟩)) (w':=w.alloc (.mapIter (some (ρ mid).block) ck #[] ck)) ?_ ⟨_,_,_,h,hs2.put hd ?_⟩
  ·simp only [execOp,ho,ex]
   simp [Instr.range,run_underlying (ybs htk),getObj,Sem.run,g1,newObj]
  ·have:=VR.ptr (w:=w.alloc (.mapIter (some (ρ mid).block) ck #[] ck)) (M:=MM Mx ((hnew H, .iter mid ck [] ck)::H) (upd ρ (hnew H) ⟨w.heap.size,0,none⟩)) (ρ:=upd ρ (hnew H) ⟨w.heap.size,0,none⟩) (D:=DD ((hnew H,AObj.iter mid ck [] ck)::H)) (hnew H) 0 yft
   rwa [yau] at this
end
end Go.Proofs.YtfgbnalnbdhimaaGreatDoor
set_option linter.unusedSimpArgs false
set_option linter.unusedVariables false
namespace Go.Proofs.YtfgbnalnbdhimaaGreatDoor
open Go Go.RowKit
set_option linter.unusedVariables false
section
variable {P:Program} {N:Nat} {fr:Fr} {H:Hp} {K:Fr->Hp->Prop} {o:Oper}
theorem SpA.makeMap {t kt et:Nat} {r:Operand} {n:Int} (ho:o.op= .makeMap t (some r)) (hd:dok o.dst N=true) (htk:tk P t= .map kt et) (hr:evA fr r=I n) (h:K (fput fr o.dst (.mp (hnew H))) ((hnew H,mkM P t)::H)):SpA P N o K fr H:=by
 intro B w0 Mx w ρ a hs Q
 have er:=(hr▸hs.ev r).int_inv
 have hn:hget H (hnew H)=none:=yec (Nat.le_refl _)
 have hrun:(execOp a.eval o).run P w= .ok (.value (.map (some w.heap.size))) (w.alloc (.map #[] 0)):=by
  simp only [execOp,ho]
  simp [Instr.makeMap,run_underlying (ybs htk),asInt,asIntOf,newObj,Sem.run,er]
 have hs2:=hs.alloc (hnew H) hn (.map #[] 0) (mkM P t) fun M' ρ' D' hr _=>by
  rcases ynl P t with e|e|e|e|e|e<;>rw [e]
  ·exact ⟨by simp, #[],0,by rw [hr];exact ya1,rfl,by simp⟩
  ·exact ⟨[], #[],0,by rw [hr];exact ya1,rfl,fun _=>rfl⟩
  ·exact ⟨[], #[],0,by rw [hr];exact ya1,rfl,fun _=>rfl⟩
  ·exact ⟨#[],by rw [hr];exact ya1,rfl,fun j e q he=>by simp at he⟩
  ·exact ⟨#[],by rw [hr];exact ya1,rfl,fun j e q he=>by simp at he⟩
  ·exact ⟨[], #[],0,by rw [hr];exact ya1,rfl,fun _=>rfl⟩
 refine Oper.wp_value hrun ⟨_,_,_,h,hs2.put hd ?_⟩
 have:=VR.mp (w:=w.alloc (.map #[] 0)) (M:=MM Mx ((hnew H,mkM P t)::H) (upd ρ (hnew H) ⟨w.heap.size,0,none⟩)) (ρ:=upd ρ (hnew H) ⟨w.heap.size,0,none⟩) (D:=DD ((hnew H,mkM P t)::H)) (hnew H) yft
 rwa [yau] at this
theorem SpL.ofX {ops:Array Oper} {r:List Oper} (hc:cvOk P o.op=true) (hq:quF P H (evA fr) o.op=none) (ha:alF P (hnew H) (evA fr) o.op=none) (hx:awX P N o fr H fun fr' H'=>awL P N ops r fr' H' K):SpL P N ops fr H K o r:=⟨awO.of hc hq ha hx⟩
theorem SpL.nextG {ops:Array Oper} {r:List Oper} {x:Operand} {iid mid since last t ck:Nat} {seen:List Nat} {l:List (ByteArray×Nat×AV)} (ho:o.op= .next x false) (hd:dok o.dst N=true) (hx:evA fr x= .ptr iid 0) (hi:hget H iid=some (.iter mid since seen last)) (hm:hget H mid=some (.gmap t ck l))
  (hb: ∀q∈l,q.2.1<since) (hsl:since<=last) (h1:(∀q∈l,q.2.1∈seen)->awL P N ops r (fput fr o.dst (.tup [.bool false])) H K)
  (h2: ∀q∈l,q.2.1∉seen->awL P N ops r (fput fr o.dst (.tup [.bool true,gkA t q.1,q.2.2])) (hset H iid (.iter mid since (seen++[q.2.1]) ck)) K):SpL P N ops fr H K o r:=by
 refine SpL.ofX ?_ ?_ ?_ ?_
 ·rw [ho];rfl
 ·rw [ho];rfl
 ·rw [ho];rfl
 ·unfold awX;rw [ho];exact ⟨rfl,SpA.nextG (K:=fun fr' H'=>awL P N ops r fr' H' K) ho hd hx hi hm hb hsl h1 h2⟩
theorem SpL.range {ops:Array Oper} {r:List Oper} {x:Operand} {xt kt et mid t ck:Nat} {l:List (ByteArray×Nat×AV)} (ho:o.op= .range xt x) (hd:dok o.dst N=true) (htk:tk P xt= .map kt et) (hx:evA fr x= .mp mid) (hm:hget H mid=some (.gmap t ck l))
  (h:awL P N ops r (fput fr o.dst (.ptr (hnew H) 0)) ((hnew H, .iter mid ck [] ck)::H) K):SpL P N ops fr H K o r:=by
 refine SpL.ofX ?_ ?_ ?_ ?_
 ·rw [ho];rfl
 ·rw [ho];rfl
 ·rw [ho];rfl
 ·unfold awX;rw [ho];exact ⟨rfl,SpA.range (K:=fun fr' H'=>awL P N ops r fr' H' K) ho hd htk hx hm h⟩
theorem SpL.makeMap {ops:Array Oper} {r:List Oper} {t kt et:Nat} {x:Operand} {n:Int} (ho:o.op= .makeMap t (some x)) (hd:dok o.dst N=true) (htk:tk P t= .map kt et) (hr:evA fr x=I n) (h:awL P N ops r (fput fr o.dst (.mp (hnew H))) ((hnew H,mkM P t)::H) K):SpL P N ops fr H K o r:=by
 refine SpL.ofX ?_ ?_ ?_ ?_
 ·rw [ho];rfl
 ·rw [ho];rfl
 ·rw [ho];rfl
 ·unfold awX;rw [ho];exact ⟨rfl,SpA.makeMap (K:=fun fr' H'=>awL P N ops r fr' H' K) ho hd htk hr h⟩
end
end Go.Proofs.YtfgbnalnbdhimaaGreatDoor
namespace Go.Proofs.YtfgbnalnbdhimaaGreatDoor
open Go Go.RowKit
set_option maxRecDepth 100000
set_option maxHeartbeats 8000000
set_option linter.unusedVariables false
set_option linter.unusedSimpArgs false
theorem ybh (v l:Int) (h0:0<=l) (h1:l<=4611686018427387904):Fn Tryz.prog 16 [I v,I l] (.bool (decide (-l<=v)&&decide (v<=l))):=by
 obtain ⟨b1,e1⟩: ∃b,decide (-l<=v)=b:=⟨_,rfl⟩
 obtain ⟨b2,e2⟩: ∃b,decide (v<=l)=b:=⟨_,rfl⟩
 rw [e1,e2]
 have e3:decide (0-l<=v)=b1:=by rw [←e1];exact decide_eq_decide.2 (by omega)
 refine Fn.intro [.tmp 4] Tryz.func16 rfl rfl (by decide) (by simp [Tryz.ntmps16]) ?_;rw [Tryz.ntmps16]
 cases b1<;>cases b2
 all_goals (repeat' (first|omega|(try apply yaa);simp only [go_sem,e3,e2]|apply yab<;>(intro h_;(try simp only [h_]);revert h_)|apply And.intro|with_reducible intro h_|trivial))
def cmpZ (x y:Int):Int:=if x<y then-1 else if y<x then 1 else 0
theorem yqo (v:Int) (hv:InI v):yh7 v 33554431=v % 33554432:=by
 unfold yh7
 have h1:(BitVec.ofInt 64 v&&&BitVec.ofInt 64 33554431).toNat=(v % 33554432).toNat:=by
  rw [BitVec.toNat_and]
  have e2:(BitVec.ofInt 64 33554431).toNat=2^25-1:=by decide
  have e1:(BitVec.ofInt 64 v).toNat=(v % 18446744073709551616).toNat:=by rw [BitVec.toNat_ofInt];rfl
  rw [e2,Nat.and_two_pow_sub_one_eq_mod,e1]
  omega
 rw [h1,yhc (by unfold InI;omega)]
 omega
theorem yfe (h l v:Int) (hh: -4611686018427387904<=h/\h<=4611686018427387904) (hl:0<=l/\l<=4611686018427387904) (hv:InI v):Fn Tryz.prog 43 [.agg [I h,I l],I v] (.agg [I (h+v/33554432),I (l+v % 33554432)]):=by
 have hv2:=yqo v hv
 unfold InI at hv
 refine Fn.intro [.cell 4 85] Tryz.func43 rfl rfl (by decide) (by simp [Tryz.ntmps43]) ?_;rw [Tryz.ntmps43]
 repeat' (first|omega|(try apply yaa);simp only [go_sem,hv2]|apply yab<;>(intro h_;(try simp only [h_]);revert h_)|apply And.intro|with_reducible intro h_|trivial)
end Go.Proofs.YtfgbnalnbdhimaaGreatDoor
namespace Go.Proofs.YtfgbnalnbdhimaaGreatDoor
open Go Go.RowKit
set_option maxRecDepth 100000
set_option maxHeartbeats 8000000
set_option linter.unusedVariables false
set_option linter.unusedSimpArgs false
def y6d:TbA:=[(1,[[9,10,11,13,14,15],[9,10,11,13,14,15],[7,8,13,14,15],[7,8,13,14,15],[7,8,13,14,15],[13,14,15],[7,8,9,10,11,12,4],[7,8,9,10,11,12,4],[7,8,9,10,11,12,4],[13,14,15],[]],[[],[],[0,1],[0,1],[0,1],[],[0,1,2,3,4,5],[0,1,2,3,4,5],[0,1,2,3,4,5],[6,7,8],[]])]
def bvC:List (Int×Int)->List AV
 |[]=>[]
 |t::r=>I (bvA t.1)::I (bvZ t.1)::I t.2::bvC r
theorem ybf: ∀p:List (Int×Int),(bvC p).length=3*p.length
 |[]=>rfl
 |t::r=>by simp only [bvC,List.length_cons,ybf r];omega
theorem ynd: ∀p q:List (Int×Int),bvC (p++q)=bvC p++bvC q
 |[],_=>rfl
 |t::r,q=>by simp only [List.cons_append,bvC,ynd r q]
theorem yco: ∀(p:List (Int×Int)) (i:Nat),i<p.length->(bvC p).getD (i*3) .any=I (bvA (p.getD i (0,0)).1)/\(bvC p).getD (i*3+1) .any=I (bvZ (p.getD i (0,0)).1)/\(bvC p).getD (i*3+2) .any=I (p.getD i (0,0)).2
 |[],i,h=>by simp at h
 |t::r,0,_=>⟨rfl,rfl,rfl⟩
 |t::r,i+1,h=>by
  have ih:=yco r i (by simpa using h)
  simp only [bvC]
  rw [show (i+1)*3=i*3+1+1+1 by omega,show i*3+1+1+1+1=i*3+1+1+1+1 from rfl,show i*3+1+1+1+2=i*3+2+1+1+1 by omega]
  simp only [List.getD_cons_succ]
  exact ih
theorem yad (H:Hp): ∀p:List (Int×Int),(bvC p).all (s3 H)=true
 |[]=>rfl
 |t::r=>by simp only [bvC,List.all_cons,yad H r,Bool.and_true];rfl
abbrev bvT (p:List (Int×Int)):AV:= .ro 3 p.length (.lst (bvC p))
abbrev bvP (b:Bool) (p:List (Int×Int)):AV:= .agg [.bool b,bvT p]
theorem yrr (h l:Int) (hh: -4611686018427387904<=h/\h<=4611686018427387904) (hl:0<=l/\l<=4611686018427387904) (hv: -1125899906842624<=h*33554432+l/\h*33554432+l<=1125899906842624):Fn Tryz.prog 73 [.agg [I h,I l]] (.tup [I (h*33554432+l), .bool true]):=by
 have hla:=yqo l (by unfold InI;omega)
 obtain ⟨g,hg⟩: ∃g,g=h+l/33554432:=⟨_,rfl⟩
 obtain ⟨r,hr⟩: ∃r,r=l % 33554432:=⟨_,rfl⟩
 rw [←hr] at hla
 have hS:g*33554432+r=h*33554432+l:=by omega
 have hgb: -67108864<=g/\g<=67108864:=by omega
 have h1:=ybh g 67108864 (by decide) (by decide)
 have h2:=ybh (h*33554432+l) 1125899906842624 (by decide) (by decide)
 rw [decide_eq_true (by omega),decide_eq_true (by omega),Bool.and_self] at h1 h2
 refine Fn.introL [.tmp 2, .tmp 3] Tryz.func73 rfl rfl (by decide) (by simp [Tryz.ntmps73]) ?_;rw [Tryz.ntmps73]
 have eg:h+l/2^25=g:=by rw [hg];rfl
 have eg2:h+l/33554432=g:=hg.symm
 have eS:g*2^25+r=h*33554432+l:=by rw [←hS];rfl
 repeat' (first|omega|(first|apply yaa|refine tbN y6d ?_|skip);simp only [go_sem,hla,eg,eg2]|apply yab<;>(intro h_;(try simp only [h_]);revert h_)|apply And.intro|with_reducible intro h_|trivial)
 refine ⟨yae.fn rfl h1 ?_⟩
 repeat' (first|omega|(try apply yaa);simp only [go_sem,eS,hS]|apply yab<;>(intro h_;(try simp only [h_]);revert h_)|apply And.intro|with_reducible intro h_|trivial)
 refine ⟨yae.fn rfl h2 ?_⟩
 repeat' (first|omega|(try apply yaa);simp only [go_sem]|apply yab<;>(intro h_;(try simp only [h_]);revert h_)|apply And.intro|with_reducible intro h_|trivial)
 all_goals exact LeA.refl _
theorem yhx (c a z:Int) (hc:c≠0) (hcb: -1125899906842624<=c/\c<=1125899906842624) (ha: -1048576<=a/\a<=1048576) (hz: -1048576<=z/\z<=1048576):Fn Tryz.prog 5 [I c,I a,I z] (bvP false [(bvE a z,c)]):=by
 have eA:bvA (bvE a z)=a:=yet (by omega)
 have eZ:bvZ (bvE a z)=z:=yc2 (by omega)
 have h1:=ybh c 1125899906842624 (by decide) (by decide)
 have h2:=ybh a 1048576 (by decide) (by decide)
 have h3:=ybh z 1048576 (by decide) (by decide)
 rw [decide_eq_true (by omega),decide_eq_true (by omega),Bool.and_self] at h1 h2 h3
 have bc:(c==0)=false:=by rw [beq_eq_false_iff_ne];exact hc
 refine Fn.introL [.cell 6 26] Tryz.func5 rfl rfl (by decide) (by simp [Tryz.ntmps5]) ?_;rw [Tryz.ntmps5]
 repeat' (first|omega|(try apply yaa);simp only [go_sem,bc]|refine cgL ?_|refine cgD ?_|apply yab<;>(intro h_;(try simp only [h_]);revert h_)|apply And.intro|with_reducible intro h_|trivial)
 all_goals exact LeA.of (by show _=AV.agg [.bool false, .ro 3 1 (.lst [I (bvA (bvE a z)),I (bvZ (bvE a z)),I c])];rw [eA,eZ])
end Go.Proofs.YtfgbnalnbdhimaaGreatDoor
namespace Go.Proofs.YtfgbnalnbdhimaaGreatDoor
open Go Go.RowKit
set_option maxRecDepth 100000
set_option maxHeartbeats 8000000
set_option linter.unusedVariables false
set_option linter.unusedSimpArgs false
def bvSh (d:Int) (p:List (Int×Int)):List (Int×Int):=p.map fun t=>(t.1+d,t.2)
theorem y09 (d:Int) (p q:List (Int×Int)):bvSh d (p++q)=bvSh d p++bvSh d q:=by simp [bvSh]
theorem yqp (d:Int) (p:List (Int×Int)):(bvSh d p).length=p.length:=by simp [bvSh]
theorem y7w {e a z:Int} (h: -4194304<=bvZ e+z/\bvZ e+z<=4194304):bvA (e+bvE a z)=bvA e+a/\bvZ (e+bvE a z)=bvZ e+z:=by
 have h1:=ym4 (bvA e) (bvZ e) a z
 rw [yb9] at h1
 rw [h1,yet (by omega),yc2 (by omega)]
 exact ⟨rfl,rfl⟩
theorem yne {f:AV->AV} (hf: ∀x:Int,f (I x)=I x): ∀p:List (Int×Int),(bvC p).map f=bvC p
 |[]=>rfl
 |t::r=>by simp only [bvC,List.map_cons,hf,yne hf r]
theorem ytd (id:Nat) (p:List (Int×Int)):(bvC p).map (cutV id)=bvC p:=yne (fun _=>rfl) p
theorem yqq (H:Hp) (n:Nat) (p:List (Int×Int)):(bvC p).map (snap H (n+1))=bvC p:=yne (fun _=>rfl) p
theorem yte {x:AV}: ∀{p:List (Int×Int)},x∈bvC p-> ∃n,x=I n
 |[],h=>by cases h
 |t::r,h=>by
  simp only [bvC,List.mem_cons] at h
  rcases h with h|h|h|h
  ·exact ⟨_,h⟩
  ·exact ⟨_,h⟩
  ·exact ⟨_,h⟩
  ·exact yte h
theorem yiv (H:Hp) (n:Nat) {p:List (Int×Int)} {x:AV} (h:x∈bvC p):yan H (n+1) x:=by
 obtain ⟨m,rfl⟩:=yte h
 trivial
theorem ygs (p:List (Int×Int)) (a z:Int) (hp:p.length<=100000) (ha: -2097152<=a/\a<=2097152) (hz: -2097152<=z/\z<=2097152) (hb: ∀t∈p,(-1048576<=bvA t.1+a/\bvA t.1+a<=1048576)/\ -1048576<=bvZ t.1+z/\bvZ t.1+z<=1048576):
  Fn Tryz.prog 32 [bvP false p,I a,I z] (bvP false (bvSh (bvE a z) p)):=by
 have hc:=ybf p
 by_cases h0:p.length=0
 ·obtain rfl:p=[]:=List.eq_nil_of_length_eq_zero h0
  refine Fn.introL [.cell 6 26] Tryz.func32 rfl rfl (by decide) (by simp [Tryz.ntmps32]) ?_;rw [Tryz.ntmps32]
  repeat' (first|omega|(try apply yaa);simp only [go_sem]|apply yab<;>(intro h_;(try simp only [h_]);revert h_)|apply And.intro|with_reducible intro h_|trivial)
  all_goals exact LeA.refl _
 have b0:((p.length:Int)==0)=false:=by rw [beq_eq_false_iff_ne];omega
 have h1:=ybh a 2097152 (by decide) (by decide)
 have h2:=ybh z 2097152 (by decide) (by decide)
 rw [decide_eq_true (by omega),decide_eq_true (by omega),Bool.and_self] at h1 h2
 refine Fn.introL [.cell 6 26] Tryz.func32 rfl rfl (by decide) (by simp [Tryz.ntmps32]) ?_;rw [Tryz.ntmps32]
 repeat' (first|omega|(try apply yaa);simp only [go_sem,b0,hc]|refine cgL ?_|refine cgD ?_|apply yab<;>(intro h_;(try simp only [h_]);revert h_)|apply And.intro|with_reducible intro h_|trivial)
 refine yai.intro (fun n fr H=> ∃k:Nat,k<=p.length/\n=p.length-k/\fr=[(36,I k),(35,I p.length),(34,bvT p),(7, .ptr 3 0),(6, .ptr 1 0),(1,I a),(2,I z)]/\
  H=[(3, .cells 26 (.lst [.bool false, .sl 3 2 0 k])),(2, .cells 50 (.lst (bvC (bvSh (bvE a z) (p.take k))))),(1, .cells 26 (.lst [.bool false, .nils]))]) ?_ ?_
 ·refine ⟨_,_,_,Wk.sub ?_ ?_,0,by omega,rfl,rfl,rfl⟩
  ·simp only [go_sem,yad]
  ·simp only [go_sem,yad,List.take_zero,bvSh,List.map_nil,bvC]
   all_goals rfl
 rintro n fr H ⟨k,hk,rfl,rfl,rfl⟩
 have hl:(bvC (bvSh (bvE a z) (p.take k))).length=3*k:=by rw [ybf,yqp,List.length_take];omega
 by_cases hkl:k<p.length
 ·have bk:decide ((k:Int)<p.length)=true:=by simp;omega
  obtain ⟨g0,g1,g2⟩:=yco p k hkl
  have ht:=hb (p.getD k (0,0)) (by rw [List.getD_eq_getElem?_getD,List.getElem?_eq_getElem hkl];exact List.getElem_mem _)
  have et:p.take (k+1)=p.take k++[p.getD k (0,0)]:=by rw [List.take_succ_eq_append_getElem hkl];simp [hkl]
  have es:bvC (bvSh (bvE a z) (p.take (k+1)))=bvC (bvSh (bvE a z) (p.take k))++[I (bvA (p.getD k (0,0)).1+a),I (bvZ (p.getD k (0,0)).1+z),I (p.getD k (0,0)).2]:=by
   rw [et,y09,ynd]
   congr 1
   have hs:=y7w (e:=(p.getD k (0,0)).1) (a:=a) (z:=z) (by omega)
   show [I (bvA ((p.getD k (0,0)).1+bvE a z)),I (bvZ ((p.getD k (0,0)).1+bvE a z)),I (p.getD k (0,0)).2]=_
   rw [hs.1,hs.2]
  generalize bvA (p.getD k (0,0)).1=x at*
  generalize bvZ (p.getD k (0,0)).1=y at*
  generalize (p.getD k (0,0)).2=v at*
  have w1:=ybh (x+a) 1048576 (by decide) (by decide)
  have w2:=ybh (y+z) 1048576 (by decide) (by decide)
  rw [decide_eq_true (by omega),decide_eq_true (by omega),Bool.and_self] at w1 w2
  clear h1 h2
  repeat' (first|omega|(try apply yaa);simp only [go_sem,bk,hc,g0,g1,g2,hl]|refine cgL ?_|refine cgD ?_|apply yab<;>(intro h_;(try simp only [h_]);revert h_)|apply And.intro|with_reducible intro h_|trivial)
  refine ⟨_,_,_,?_,Wk.sub ?_ ?_,k+1,by omega,rfl,rfl,rfl⟩
  ·omega
  ·simp only [go_sem,yad]
  ·simp only [go_sem,es,ytd,yad,List.all_append]
 ·obtain rfl:k=p.length:=by omega
  have bk:decide ((p.length:Int)<p.length)=false:=by simp
  rw [List.take_length] at hl⊢
  have hsl:=yqp (bvE a z) p
  clear h1 h2
  repeat' (first|omega|(try apply yaa);simp only [go_sem,bk,hl]|apply yab<;>(intro h_;(try simp only [h_]);revert h_)|apply And.intro|with_reducible intro h_|trivial)
  all_goals first
   |exact yiv _ _ ‹_›
   |exact LeA.of (by rw [yqq,List.take_of_length_le (by omega),←hsl])
end Go.Proofs.YtfgbnalnbdhimaaGreatDoor
namespace Go.Proofs.YtfgbnalnbdhimaaGreatDoor
open Go Go.RowKit
set_option maxRecDepth 100000
set_option linter.unusedVariables false
set_option linter.unusedSimpArgs false
abbrev kE (e:Int):ByteArray:=kEnc (bvA e) (bvZ e)
theorem yx3 {e e':Int}:kE e=kE e'↔e=e':=by
 refine yow.trans ⟨fun h=>?_,fun h=>by rw [h];exact ⟨rfl,rfl⟩⟩
 rw [←yb9 e,←yb9 e',h.1,h.2]
def gmL:Nat->SumM->List (ByteArray×Nat×AV)
 |_,[]=>[]
 |i,q::m=>(kE q.1,i, .agg [I q.2.1,I q.2.2])::gmL (i+1) m
theorem ytf: ∀(i:Nat) (m:SumM),(gmL i m).length=m.length
 |_,[]=>rfl
 |i,q::m=>by simp only [gmL,List.length_cons,ytf (i+1) m]
theorem ynf {q:ByteArray×Nat×AV}: ∀{i:Nat} {m:SumM},q∈gmL i m-> ∃k u,m[k]?=some u/\q=(kE u.1,i+k, .agg [I u.2.1,I u.2.2])
 |_,[],h=>by cases h
 |i,u::m,h=>by
  rcases List.mem_cons.1 h with rfl|h
  ·exact ⟨0,u,rfl,rfl⟩
  ·obtain ⟨k,v,h1,rfl⟩:=ynf h
   exact ⟨k+1,v,by simpa using h1,by rw [show i+1+k=i+(k+1) by omega]⟩
theorem yx4: ∀(i:Nat) (m:SumM) (k:Nat) (u:Int×Int×Int),m[k]?=some u->(kE u.1,i+k,AV.agg [I u.2.1,I u.2.2])∈gmL i m
 |_,[],k,u,h=>by simp at h
 |i,v::m,0,u,h=>by simp at h;subst h;exact List.mem_cons_self ..
 |i,v::m,k+1,u,h=>by
  have:=yx4 (i+1) m k u (by simpa using h)
  rw [show i+1+k=i+(k+1) by omega] at this
  exact List.mem_cons_of_mem _ this
theorem yn6: ∀(i:Nat) (m:SumM) (k:Nat) (u:Int×Int×Int),m[k]?=some u->(gmL i m).find? (fun q=>q.2.1==i+k)=some (kE u.1,i+k,AV.agg [I u.2.1,I u.2.2])
 |_,[],k,u,h=>by simp at h
 |i,v::m,0,u,h=>by simp at h;subst h;simp [gmL]
 |i,v::m,k+1,u,h=>by
  have:=yn6 (i+1) m k u (by simpa using h)
  rw [show i+1+k=i+(k+1) by omega] at this
  simp only [gmL,List.find?_cons]
  rw [show (i==i+(k+1))=false by simp]
  exact this
theorem yk0 {e h l:Int} (v:Int): ∀{m:SumM} (i:Nat),yds m e=some (h,l)-> ∃b,ybo (gmL i m) (kE e)=some (kE e,b, .agg [I h,I l])/\ygi (gmL i m) (kE e) (.agg [I (h+v/33554432),I (l+v % 33554432)])=gmL i (mPut m e v)/\(mPut m e v).length=m.length
 |[],_,h=>by cases h
 |q::m,i,h=>by
  simp only [yds] at h
  unfold ybo
  simp only [gmL,ygi,mPut,List.find?_cons]
  by_cases hq:q.1=e
  ·rw [if_pos hq] at h
   obtain ⟨q1,q2,q3⟩:=q
   cases h
   dsimp only at hq
   subst hq
   exact ⟨i,by rw [decide_eq_true (by rfl)],by rw [if_pos rfl,if_pos rfl];rfl,by rw [if_pos rfl];rfl⟩
  ·rw [if_neg hq] at h
   have hk: ¬kE q.1=kE e:=fun h=>hq (yx3.1 h)
   obtain ⟨b,h1,h2,h3⟩:=yk0 v (i+1) h
   unfold ybo at h1
   rw [decide_eq_false hk,if_neg hk,if_neg hq]
   exact ⟨b,h1,by rw [h2];rfl,by simp only [List.length_cons,h3]⟩
theorem yk1 {e:Int} (v:Int): ∀{m:SumM} (i:Nat),yds m e=none->ybo (gmL i m) (kE e)=none/\gmL i m++[(kE e,i+m.length,AV.agg [I (v/33554432),I (v % 33554432)])]=gmL i (mPut m e v)/\(mPut m e v).length=m.length+1
 |[],i,_=>⟨rfl,rfl,rfl⟩
 |q::m,i,h=>by
  simp only [yds] at h
  by_cases hq:q.1=e
  ·rw [if_pos hq] at h;cases h
  rw [if_neg hq] at h
  have hk: ¬kE q.1=kE e:=fun h=>hq (yx3.1 h)
  obtain ⟨h1,h2,h3⟩:=yk1 v (i+1) h
  unfold ybo at h1⊢
  simp only [gmL,mPut,List.find?_cons]
  rw [decide_eq_false hk,if_neg hq]
  refine ⟨h1,?_,by simp only [List.length_cons,h3]⟩
  rw [show i+(q::m).length=i+1+m.length by simp only [List.length_cons];omega,List.cons_append,h2];rfl
theorem yb6 (F:ByteArray×Nat×AV->Bool) (h: ∀e i a b,F (kE e,i, .agg [I a,I b])=true): ∀(i:Nat) (m:SumM),(gmL i m).all F=true
 |_,[]=>rfl
 |i,q::m=>by simp only [gmL,List.all_cons,yb6 F h (i+1) m,Bool.and_true];exact h _ _ _ _
theorem yga (H:Hp): ∀(i:Nat) (m:SumM),((gmL i m).all fun q=>s3 H q.2.2)=true
 |_,[]=>rfl
 |i,q::m=>by simp only [gmL,List.all_cons,yga H (i+1) m,Bool.and_true];rfl
theorem yx5: ∀(i:Nat) (m:SumM),((gmL i m).all fun q=>p3 q.2.2)=true
 |_,[]=>rfl
 |i,q::m=>by simp only [gmL,List.all_cons,yx5 (i+1) m,Bool.and_true];rfl
theorem yca (H:Hp) (t ck i:Nat) (m:SumM):sO H (.gmap t ck (gmL i m))=true:=yga H i m
end Go.Proofs.YtfgbnalnbdhimaaGreatDoor
set_option linter.unusedSimpArgs false
set_option linter.unusedVariables false
namespace Go.Proofs.YtfgbnalnbdhimaaGreatDoor
open Go Go.RowKit
set_option maxRecDepth 100000
section
variable {P:Program} {N:Nat} {fr:Fr} {H:Hp} {o:Oper}
theorem SpL.mapLen {ops:Array Oper} {rr:List Oper} {K:Fr->Hp->Prop} {t kt et id T ck:Nat} {x:Operand} {l:List (ByteArray×Nat×AV)} (ho:o.op= .call {callee:= .builtin .len,args:= #[x],argTypes:= #[t]}) (hd:dok o.dst N=true) (htk:tk P t= .map kt et)
  (hx:evA fr x= .mp id) (h1:hget H id=some (.gmap T ck l)) (h:awL P N ops rr (fput fr o.dst (I l.length)) H K):SpL P N ops fr H K o rr:=by
 refine SpL.ofX ?_ ?_ ?_ ?_
 ·rw [ho];rfl
 ·rw [ho];simp only [quF,opF,lenF,htk]
 ·rw [ho];rfl
 unfold awX;rw [ho]
 refine ⟨rfl,fun B w0 Mx w ρ ac hsim Q=>?_⟩
 have ex:=(hx▸hsim.ev x).mp_inv
 obtain ⟨es,g1,g2,_⟩:=hsim.objs id _ h1
 have hl:(Builtin.len_ #[t] o.type #[ac.eval x]).run P w= .ok (.int .i64 l.length) w:=by
  rw [ex];simp [Builtin.len_,run_underlying (ybs htk),getObj,Sem.run,g1,g2,goInt]
 have hrun:(execOp ac.eval o).run P w= .ok (.value (.int .i64 l.length)) w:=by
  simp [execOp,ho,resolve,invoke,builtin,hl]
 exact Oper.wp_value hrun ⟨ρ,_,_,h,hsim.put hd (.int .i64 _)⟩
end
end Go.Proofs.YtfgbnalnbdhimaaGreatDoor
namespace Go.Proofs.YtfgbnalnbdhimaaGreatDoor
open Go Go.RowKit
set_option maxRecDepth 100000
set_option maxHeartbeats 8000000
set_option linter.unusedVariables false
set_option linter.unusedSimpArgs false
def yl7:TbA:=[(4,[[20,21,22,23,24,25,26,27,28],[19,21,22,23,24,25,26,27,28],[19,20,22,24,25,26,27],[19,20,21,24,25,26,27],[19,20,24,25,26,27],[19,20,21,22,23,25,26],[19,20,21,22,23,24],[19,20,21,22,23,24],[19,20,21,22,23],[19,20],[]],[[],[0],[0,1],[0,1,2],[0,1],[0,1,2,3,4],[0,1,2,3,4,5],[0,1,2,3,4,5],[0,1,2,3,4],[0,1],[]])]
abbrev suT:Nat:=82+1000000000
abbrev suH (m:SumM) (p q:List (Int×Int)):Hp:=[(4, .cells 82 (.lst [.mp 3])),(3, .gmap suT m.length (gmL 0 m)),(2, .cells 26 (.lst [.bool false, .nils])),(1, .cells 26 (.lst [.bool false,bvT q])),(0, .cells 26 (.lst [.bool false,bvT p]))]
def suO:Hp:=[(4, .gone),(3, .gone),(2, .gone),(1, .gone),(0, .gone)]
theorem y6e {H:Hp} (h: ∀i,i<5->(hget H i).isSome=true): ∀i,(hget suO i).isSome=true->(hget H i).isSome=true:=fun i hi=>by
 by_cases h5:i<5
 ·exact h i h5
 ·simp only [suO,hget] at hi
  repeat rw [if_neg (by omega)] at hi
  cases hi
theorem yqr (m:SumM) (p q:List (Int×Int)): ∀i,(hget suO i).isSome=true->(hget (suH m p q) i).isSome=true:=y6e fun i hi=>by
 rcases (show i=0\/i=1\/i=2\/i=3\/i=4 by omega) with rfl|rfl|rfl|rfl|rfl<;>rfl
theorem yhy (c:Int) (hc:c=1\/c= -1) (P p q:List (Int×Int)) (hP:P.length<=100000) (hb: ∀t∈P,-1125899906842624<=t.2/\t.2<=1125899906842624) (m:SumM) (j:Nat) (hm:MOk m j) (hj:j<=1000000) {fr:Fr} (hfr:fr.all (fun q=>s3 suO q.2)=true) {K:AV->Fr->Hp->Prop}
  (hK:K (.tup []) fr (suH (mAdd c 0 m P) p q)):yba Tryz.prog 42 [bvT P,I c, .ptr 4 0] fr (suH m p q) K:=by
 have hc3:=ybf P
 refine yba.intro [] Tryz.func42 rfl rfl (by decide) (by simp [Tryz.ntmps42]) ?_;rw [Tryz.ntmps42]
 repeat' (first|omega|(try apply yaa);simp only [go_sem,hc3]|apply yab<;>(intro h_;(try simp only [h_]);revert h_)|apply And.intro|with_reducible intro h_|trivial)
 refine yai.intro (fun n fr' H=> ∃k:Nat,k<=P.length/\n=P.length-k/\fr'=[(10,I k),(9,I P.length),(8,bvT P),(2, .ptr 4 0),(1,I c)]++lft fr/\H=suH (mAdd c 0 m (P.take k)) p q) ?_ ?_
 ·refine ⟨_,_,_,?_,0,by omega,rfl,rfl,rfl⟩
  refine Wk.appC (A:=[(10,I ((0:Nat):Int)),(9,I P.length),(8,bvT P),(2, .ptr 4 0),(1,I c)]) hfr ?_ ?_ (yqr _ _ _) (fun t ht=>?_) rfl
  ·simp only [go_sem,yad]
  ·simp only [go_sem,yad,↓yca,List.take_zero,mAdd]
  ·simp only [fget]
   repeat rw [if_neg (by omega)]
 rintro n fr' H ⟨k,hk,rfl,rfl,rfl⟩
 by_cases hkl:k<P.length
 ·have bk:decide ((k:Int)<P.length)=true:=by simp;omega
  obtain ⟨g0,g1,g2⟩:=yco P k hkl
  have ht:=hb (P.getD k (0,0)) (by rw [List.getD_eq_getElem?_getD,List.getElem?_eq_getElem hkl];exact List.getElem_mem _)
  have et:P.take (k+1)=P.take k++[P.getD k (0,0)]:=by rw [List.take_succ_eq_append_getElem hkl];simp [hkl]
  have em:mAdd c 0 m (P.take (k+1))=mPut (mAdd c 0 m (P.take k)) (P.getD k (0,0)).1 (c*(P.getD k (0,0)).2):=by rw [et,yin,Int.zero_add]
  have hM:MOk (mAdd c 0 m (P.take k)) (j+k):=by
   have:=hm.add (c:=c) (d:=0) (p:=P.take k) (fun t ht=>by have:=hb t (List.mem_of_mem_take ht);rcases hc with rfl|rfl<;>omega)
   rwa [List.length_take,Nat.min_eq_left hk] at this
  generalize hmk:mAdd c 0 m (P.take k)=mk at*
  generalize hmk1:mAdd c 0 m (P.take (k+1))=mk1 at*
  generalize P.getD k (0,0)=t at*
  have hcv: -1125899906842624<=c*t.2/\c*t.2<=1125899906842624:=by rcases hc with rfl|rfl<;>omega
  cases hf:yds mk t.1 with
  |none=>
   obtain ⟨f1,f2,f3⟩:=yk1 (c*t.2) 0 hf
   have hp:=yfe 0 0 (c*t.2) (by omega) (by omega) (by unfold InI;omega)
   repeat' (first|omega|(first|apply yaa|refine tbL yl7 ?_|refine tbN yl7 ?_|skip);simp only [go_sem,bk,hc3,g0,g1,g2,↓yca,f1,f2,f3]|refine cgL ?_|refine cgD ?_|apply yab<;>(intro h_;(try simp only [h_]);revert h_)|apply And.intro|with_reducible intro h_|trivial)
   any_goals exact yga _ _ _
   refine ⟨_,_,_,?_,?_,k+1,by omega,rfl,rfl,rfl⟩
   ·omega
   ·refine Wk.appC (A:=[(10,I ((k+1:Nat):Int)),(9,I P.length),(8,bvT P),(2, .ptr 4 0),(1,I c)]) hfr ?_ ?_ (yqr _ _ _) (fun t ht=>?_) rfl
    ·simp only [go_sem,yad]
    ·rw [hmk1,em]
     simp only [go_sem,yad,↓yca,f3]
     all_goals first|exact yga _ _ _|(rw [Nat.zero_add] at f2;exact congrArg (AObj.gmap suT _) f2)
    ·simp only [fget]
     repeat rw [if_neg (by omega)]
  |some hl=>
   obtain ⟨h,l⟩:=hl
   obtain ⟨b,f1,f2,f3⟩:=yk0 (c*t.2) 0 hf
   have hB:(-((j+k:Nat)*67108864:Int)<=h/\h<=(j+k:Nat)*67108864)/\0<=l/\l<=(j+k:Nat)*33554432:=hM.bn _ (ygp hf)
   have hp:=yfe h l (c*t.2) (by omega) (by omega) (by unfold InI;omega)
   repeat' (first|omega|(first|apply yaa|refine tbL yl7 ?_|refine tbN yl7 ?_|skip);simp only [go_sem,bk,hc3,g0,g1,g2,↓yca,f1,f2,f3]|refine cgL ?_|refine cgD ?_|apply yab<;>(intro h_;(try simp only [h_]);revert h_)|apply And.intro|with_reducible intro h_|trivial)
   any_goals exact yga _ _ _
   refine ⟨_,_,_,?_,?_,k+1,by omega,rfl,rfl,rfl⟩
   ·omega
   ·refine Wk.appC (A:=[(10,I ((k+1:Nat):Int)),(9,I P.length),(8,bvT P),(2, .ptr 4 0),(1,I c)]) hfr ?_ ?_ (yqr _ _ _) (fun t ht=>?_) rfl
    ·simp only [go_sem,yad]
    ·rw [hmk1,em]
     simp only [go_sem,yad,↓yca,f3]
     all_goals exact yga _ _ _
    ·simp only [fget]
     repeat rw [if_neg (by omega)]
 ·obtain rfl:k=P.length:=by omega
  have bk:decide ((P.length:Int)<P.length)=false:=by simp
  rw [List.take_length]
  repeat' (first|omega|(try apply yaa);simp only [go_sem,bk]|apply yab<;>(intro h_;(try simp only [h_]);revert h_)|apply And.intro|with_reducible intro h_|trivial)
  all_goals exact hK
end Go.Proofs.YtfgbnalnbdhimaaGreatDoor
set_option linter.unusedSimpArgs false
set_option linter.unusedVariables false
namespace Go.Proofs.YtfgbnalnbdhimaaGreatDoor
open Go Go.RowKit
set_option maxRecDepth 100000
def y4d:Go.Shelf.Ren:=⟨fun|6=>74|14=>102|15=>103|20=>118|21=>119|22=>120|23=>121|24=>122|25=>123|26=>124|27=>125|28=>126|29=>127|46=>135|47=>136|48=>137|49=>138|50=>139|57=>151|n=>n,fun|0=>0|3=>3|4=>4|5=>5|9=>9|22=>24|24=>50|25=>117|39=>114|45=>156|46=>157|50=>100|53=>163|55=>95|66=>169|70=>173|76=>180|77=>181|n=>n,fun n=>n⟩
theorem y1a:SlLaysF0.n6 Tryz.prog y4d:={
 mixed:=by kernel_rfl
 f6:=⟨"slices.SortFunc[[]unravel/bivariate.term,unravel/bivariate.term]",by decide,Tryz.func74.trans (congrArg some (by kernel_rfl))⟩
 f14:=⟨"slices.pdqsortCmpFunc[unravel/bivariate.term]",by decide,Tryz.func102.trans (congrArg some (by kernel_rfl))⟩
 f15:=Tryz.func103.trans (congrArg some (by kernel_rfl))
 f20:=⟨"slices.insertionSortCmpFunc[unravel/bivariate.term]",by decide,Tryz.func118.trans (congrArg some (by kernel_rfl))⟩
 f21:=⟨"slices.heapSortCmpFunc[unravel/bivariate.term]",by decide,Tryz.func119.trans (congrArg some (by kernel_rfl))⟩
 f22:=⟨"slices.breakPatternsCmpFunc[unravel/bivariate.term]",by decide,Tryz.func120.trans (congrArg some (by kernel_rfl))⟩
 f23:=⟨"slices.choosePivotCmpFunc[unravel/bivariate.term]",by decide,Tryz.func121.trans (congrArg some (by kernel_rfl))⟩
 f24:=⟨"slices.reverseRangeCmpFunc[unravel/bivariate.term]",by decide,Tryz.func122.trans (congrArg some (by kernel_rfl))⟩
 f25:=⟨"slices.partialInsertionSortCmpFunc[unravel/bivariate.term]",by decide,Tryz.func123.trans (congrArg some (by kernel_rfl))⟩
 f26:=⟨"slices.partitionEqualCmpFunc[unravel/bivariate.term]",by decide,Tryz.func124.trans (congrArg some (by kernel_rfl))⟩
 f27:=⟨"slices.partitionCmpFunc[unravel/bivariate.term]",by decide,Tryz.func125.trans (congrArg some (by kernel_rfl))⟩
 f28:=Tryz.func126.trans (congrArg some (by kernel_rfl))
 f29:=Tryz.func127.trans (congrArg some (by kernel_rfl))
 f46:=⟨"slices.siftDownCmpFunc[unravel/bivariate.term]",by decide,Tryz.func135.trans (congrArg some (by kernel_rfl))⟩
 f47:=Tryz.func136.trans (congrArg some (by kernel_rfl))
 f48:=Tryz.func137.trans (congrArg some (by kernel_rfl))
 f49:=⟨"slices.medianAdjacentCmpFunc[unravel/bivariate.term]",by decide,Tryz.func138.trans (congrArg some (by kernel_rfl))⟩
 f50:=⟨"slices.medianCmpFunc[unravel/bivariate.term]",by decide,Tryz.func139.trans (congrArg some (by kernel_rfl))⟩
 f57:=⟨"slices.order2CmpFunc[unravel/bivariate.term]",by decide,Tryz.func151.trans (congrArg some (by kernel_rfl))⟩
 t0:=Tryz.underlying0
 a0:=Tryz.isAgg0
 z0:=Tryz.sizeOf0
 v0:=Tryz.zeroValue0
 t3:=Tryz.underlying3
 a3:=Tryz.isAgg3
 z3:=Tryz.sizeOf3
 v3:=Tryz.zeroValue3
 t4:=Tryz.underlying4
 a4:=Tryz.isAgg4
 z4:=Tryz.sizeOf4
 v4:=Tryz.zeroValue4
 t5:=Tryz.underlying5
 a5:=Tryz.isAgg5
 z5:=Tryz.sizeOf5
 v5:=Tryz.zeroValue5
 t9:=Tryz.underlying9
 a9:=Tryz.isAgg9
 z9:=Tryz.sizeOf9
 v9:=Tryz.zeroValue9
 t22:=Tryz.underlying24
 a22:=Tryz.isAgg24
 z22:=Tryz.sizeOf24
 v22:=Tryz.zeroValue24
 t25:=Tryz.underlying117
 a25:=Tryz.isAgg117
 z25:=Tryz.sizeOf117
 v25:=Tryz.zeroValue117
 t39:=Tryz.underlying114
 a39:=Tryz.isAgg114
 z39:=Tryz.sizeOf114
 v39:=Tryz.zeroValue114
 t45:=Tryz.underlying156
 a45:=Tryz.isAgg156
 z45:=Tryz.sizeOf156
 v45:=Tryz.zeroValue156
 t46:=Tryz.underlying157
 a46:=Tryz.isAgg157
 z46:=Tryz.sizeOf157
 v46:=Tryz.zeroValue157
 t50:=Tryz.underlying100
 a50:=Tryz.isAgg100
 z50:=Tryz.sizeOf100
 v50:=Tryz.zeroValue100
 t53:=Tryz.underlying163
 a53:=Tryz.isAgg163
 z53:=Tryz.sizeOf163
 v53:=Tryz.zeroValue163
 t55:=Tryz.underlying95
 a55:=Tryz.isAgg95
 z55:=Tryz.sizeOf95
 v55:=Tryz.zeroValue95
 t66:=Tryz.underlying169
 a66:=Tryz.isAgg169
 z66:=Tryz.sizeOf169
 v66:=Tryz.zeroValue169
 t70:=Tryz.underlying173
 a70:=Tryz.isAgg173
 z70:=Tryz.sizeOf173
 v70:=Tryz.zeroValue173
 t76:=Tryz.underlying180
 a76:=Tryz.isAgg180
 z76:=Tryz.sizeOf180
 v76:=Tryz.zeroValue180
 t77:=Tryz.underlying181
 a77:=Tryz.isAgg181
 z77:=Tryz.sizeOf181
 v77:=Tryz.zeroValue181}
end Go.Proofs.YtfgbnalnbdhimaaGreatDoor
