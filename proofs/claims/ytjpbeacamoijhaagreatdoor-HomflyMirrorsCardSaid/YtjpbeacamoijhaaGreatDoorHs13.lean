/- Plain: THE ORDER OF THE CIRCLES does not matter on the sphere (where a circle begins; the theorem). -/
import Derived.Test.YtjpbeacamoijhaaGreatDoorZl
namespace Go.Proofs.YtjpbeacamoijhaaGreatDoor
set_option linter.unusedSimpArgs false
set_option linter.unusedVariables false
namespace Hs
open Sp (eY aV aw itn)
section
variable {D:Sh} {X:Int->Int->Nat->Int}
theorem Di: ∀(l1 l:List (Nat×Bool)) (s m e:Nat),qE D s l1 m->qE D m l e->qE D s (l1++l) e
 |[],l,s,m,e,h1,h2=>by rw [show s=m from h1];exact h2
 |(a,p)::l1,l,s,m,e,h1,h2=>⟨h1.1,Di l1 l _ m e h1.2 h2⟩
theorem RY {a b c:Nat} {L:List Nat} (h:[a,b].Sublist (L++[c])):[a,b].Sublist L\/(b=c/\a∈L):=by
 obtain ⟨l1,l2,e,h1,h2⟩:=List.sublist_append_iff.1 h;cases l1 with
 |nil=>
  have:=h2.length_le
  rw [List.nil_append] at e;rw [←e] at this;simp at this
 |cons x l1=>
  cases l1 with
  |nil=>
   simp at e;obtain ⟨rfl,e⟩:=e;subst e;have h3:=h2.subset (a:=b) (by simp);simp at h3;exact .inr ⟨h3,h1.subset (by simp)⟩
  |cons y l1=>
   cases l1 with
   |nil=>
    simp at e;obtain ⟨rfl,rfl,e⟩:=e;exact .inl h1
   |cons z l1=>simp at e
theorem E1a (hD:Ok D) (hX:Good X) {S:WS} (IH:xu D X S) (hB:Bd D S) {b0:Nat} {l:List (Nat×Bool)} (C:im D (aj l) (aq S) l b0) (cS: ∀a,aj l a=true->S.ae a=false)
  (hq:QK D (aj l) (aq S) (fun b=>co b % 2) S.st l S D.n) (hO:oT (aq S) S.st l) (L:List Nat) (hL: ∀c,c<2*D.n->eI D (c::L) S):run X D (b0::L) S=run X D (dH D (aq S) b0::L) S:=by
 obtain ⟨⟨a0,p0⟩,lt,hl⟩:=List.exists_cons_of_ne_nil C.ne;have oF:=C.ch;rw [hl] at oF;obtain ⟨e0,oF⟩:=oF;subst e0;have hr: ∀a,(fun b=>co b % 2) (co a)=a % 2:=fun a=>by show co (co a)% 2=_;rw [di]
 have nH:b0<2*D.n:=C.lt _ (by rw [hl];exact .head _);have ud:p0= !aq S (b0/2):=C.ty _ (by rw [hl];exact .head _);have hnd:=C.nd;rw [hl] at hnd;obtain ⟨kd,jB⟩:=List.nodup_cons.1 hnd;have iE:dH D (aq S) b0=iv D b0 p0:=by unfold dH;rw [ud]
 rw [iE];obtain ⟨t1,t2⟩:=vw (X:=X) hD hB C hq (hO.ord C.ty) hr L;rw [t1];have Og:aj (lt++[(b0,p0)])=aj l:=funext fun a=>by
  have:(a∈(lt++[(b0,p0)]).map Prod.fst)↔a∈l.map Prod.fst:=by rw [hl];simp;exact Or.comm
  unfold aj;exact decide_eq_decide.2 this
 have C':im D (aj l) (aq S) (lt++[(b0,p0)]) (iv D b0 p0):=by
  rw [←Og];refine im.make hD (Di lt _ _ _ _ oF ⟨rfl,rfl⟩) (by simp) (fun x hx=>C.lt x ?_) ?_ (fun x hx=>C.ty x ?_)
  ·rw [hl];rcases List.mem_append.1 hx with h|h
   ·exact .tail _ h
   ·rw [List.mem_singleton] at h;rw [h];exact .head _
  ·rw [List.map_append,List.nodup_append];refine ⟨jB,by simp,fun a ha b hb e=>?_⟩;simp at hb;rw [e,hb] at ha;exact kd ha
  ·rw [hl];rcases List.mem_append.1 hx with h|h
   ·exact .tail _ h
   ·rw [List.mem_singleton] at h;rw [h];exact .head _
 have VF: ∀S',Bd D S'->S'.ae=S.ae->aq S'=aq S->(∀b,b<2*D.n->aj l b=false->aj l (co b)=true->S'.st (b/2)=S.st (b/2))->QK D (aj l) (aq S) (fun b=>co b % 2) S'.st (lt++[(b0,p0)]) S' D.n:=fun S' iZ hv hs h=>by
  have:=QK.of (r:=fun b=>co b % 2) iZ (hs▸C') (fun a ha=>by rw [hv];exact cS a ha) fun b hb k1 k2 k3=>by
   rw [h b hb k1 k2] at k3⊢;have e:=hq.q b hb k1 k2 (by omega);rw [cS _ k2] at e;rw [e] at k3⊢;revert k3;unfold cj;cases aq S (b/2)<;>cases S.ae b<;>simp
  rwa [hs] at this
 by_cases mU:aq S (b0/2)=false/\aj l (co b0)=true
 ·--the first crossing is one of the circle with BD
  obtain ⟨hs,hk⟩:=mU;have aB:p0=true:=by rw [ud,hs];rfl
  subst aB;obtain ⟨x,hx⟩: ∃x,x=b0/2:=⟨_,rfl⟩;have s6:co b0/2=x:=by rw [bV];exact hx.symm
  have aY:=ee nH;have zd:x<D.n:=by omega
  have df:co b0∈lt.map Prod.fst:=by
   have:=my.1 hk
   rw [hl] at this;exact (List.mem_cons.1 this).resolve_left (qU b0)
  obtain ⟨⟨c0,pc⟩,Cj,e⟩:=List.mem_map.1 df;have e':c0=co b0:=e;subst e';obtain ⟨m1,m2,hm⟩:=List.append_of_mem Cj;have NV:pc=true:=by
   have:pc= !aq S (co b0/2):=C.ty (co b0,pc) (by rw [hl,hm];simp)
   rw [this,s6,hx,hs];rfl
  subst NV;have F6:[b0,co b0].Sublist (l.map Prod.fst):=by
   rw [hl];exact (List.singleton_sublist.2 df).cons_cons b0
  have aR:S.st x=b0 % 2:=by rw [hx];exact hO b0 hs F6
  have s9:b0 % 2<=1:=by omega
  have OG:=vt b0;have wP:iv D b0 true<2*D.n:=hD.lt _ nH;have B':Bd D (S.sx x (co b0 % 2)):=CV hB (by omega) (.inl (by omega));have s':aq (S.sx x (co b0 % 2))=aq S:=funext fun c=>by
   unfold aq;refine decide_eq_decide.2 ?_;show (aM S.st x _ c=5\/aM S.st x _ c=2)↔_;by_cases hc:c=x
   ·subst hc;rw [bG];omega
   ·rw [bt _ _ hc]
  have nk: ∀b,aj l b=false->b/2≠x:=fun b h1 e=>by
   rcases jV (e.trans hx) with e|e
   ·rw [e,(C.mem b0).2 (by rw [hl];simp)] at h1;cases h1
   ·rw [e,hk] at h1;cases h1
  have Q':=VF _ B' rfl s' fun b _ h1 _=>bt _ _ (nk b h1);have O':oT (aq S) (S.sx x (co b0 % 2)).st (lt++[(b0,true)]):=fun a ha aJ=>by
   rw [List.map_append] at aJ;show aM S.st x _ (a/2)=_;rcases RY aJ with h|⟨h,_⟩
   ·have:a/2≠x:=fun e=>by
     have WI:a∈lt.map Prod.fst:=h.subset (by simp);have WH:co a∈lt.map Prod.fst:=h.subset (by simp);rcases jV (e.trans hx) with e|e
     ·rw [e] at WI;exact kd WI
     ·rw [e,di] at WH;exact kd WH
    rw [bt _ _ this];exact hO a ha (by rw [hl];exact h.cons b0)
   ·have h:co a=b0:=h
    have:a=co b0:=by rw [←h,di]
    rw [this,s6,bG]
  have T':TK (aj l) (aq S) (S.sx x (co b0 % 2))=TK (aj l) (aq S) S:=by
   refine WS.ext' (fun b=>?_) rfl rfl rfl rfl;rw [l9,l9];cases h1:aj l b with
   |true=>cases aj l (co b)<;>rfl
   |false=>
    cases h2:aj l (co b) with
    |true=>rfl
    |false=>exact bt _ _ (nk b h1)
  have f': ∀u v,run X D (iv D b0 true::L) ((S.sx x (co b0 % 2)).sc u v)=run X D L ((TK (aj l) (aq S) S).cr.sc u v):=fun u v=>by
   obtain ⟨k1,_⟩:=vw (X:=X) hD (B'.sc u v) C' (Q'.sc u v) (O'.ord C'.ty) hr L;rw [k1,yI,T',WS.dV]
  have B5:Bd D (S.sx x 5):=CV hB (by omega) (.inr rfl);have s5: ∀c,c≠x->aq (S.sx x 5) c=aq S c:=fun c hc=>by
   unfold aq;refine decide_eq_decide.2 ?_;show (aM S.st x _ c=5\/aM S.st x _ c=2)↔_;rw [bt _ _ hc]
  have yY:aq (S.sx x 5) x=true:=sF.2 (.inl (bG _ _ _));have GF:=oF;rw [hm] at GF;obtain ⟨mm,Cl,AO⟩:=Iv D m1 _ _ _ GF;obtain ⟨e1,AO⟩:=AO;subst e1;rw [hm] at kd jB;have hnm:(m1.map Prod.fst++co b0::m2.map Prod.fst).Nodup:=by rw [List.map_append,List.map_cons] at jB;exact jB
  obtain ⟨d1,d2,d3⟩:=List.nodup_append.1 hnm;obtain ⟨d4,d5⟩:=List.nodup_cons.1 d2;have nb:b0∉m1.map Prod.fst/\b0∉m2.map Prod.fst:=by
   rw [List.map_append,List.map_cons,List.mem_append,List.mem_cons] at kd;exact ⟨fun h=>kd (.inl h),fun h=>kd (.inr (.inr h))⟩
  have VJ:co b0∉m1.map Prod.fst:=fun h=>d3 _ h _ (.head _) rfl;have ax1: ∀a∈m1.map Prod.fst,a/2≠x:=fun a ha e=>by
   rcases jV (e.trans hx) with e|e
   ·rw [e] at ha;exact nb.1 ha
   ·rw [e] at ha;exact VJ ha
  have ax2: ∀a∈m2.map Prod.fst,a/2≠x:=fun a ha e=>by
   rcases jV (e.trans hx) with e|e
   ·rw [e] at ha;exact nb.2 ha
   ·rw [e] at ha;exact d4 ha
  have uJ:l.map Prod.fst=b0::(m1.map Prod.fst++co b0::m2.map Prod.fst):=by rw [hl,hm];simp
  have C1:im D (aj (m1++[(co b0,false)])) (aq (S.sx x 5)) (m1++[(co b0,false)]) (iv D b0 true):=by
   refine im.make hD (Di m1 _ _ _ _ Cl ⟨rfl,?_⟩) (by simp) (fun y hy=>?_) ?_ (fun y hy=>?_)
   ·show D.nx (co (co b0))=D.nx b0;rw [di]
   ·rcases List.mem_append.1 hy with h|h
    ·exact C.lt y (by rw [hl,hm];simp [h])
    ·rw [List.mem_singleton] at h;rw [h];exact aY
   ·rw [List.map_append,List.nodup_append];refine ⟨d1,by simp,fun a ha b hb e=>?_⟩;simp at hb;rw [e,hb] at ha;exact VJ ha
   ·rcases List.mem_append.1 hy with h|h
    ·rw [s5 _ (ax1 _ (List.mem_map.2 ⟨y,h,rfl⟩))];exact C.ty y (by rw [hl,hm];simp [h])
    ·rw [List.mem_singleton] at h;rw [h];show false= !aq _ (co b0/2);rw [s6,yY];rfl
  have FK: ∀a,aj (m1++[(co b0,false)]) a=true↔a∈m1.map Prod.fst\/a=co b0:=fun a=>by rw [my];simp
  have VK: ∀a,aj (m1++[(co b0,false)]) a=false↔a∉m1.map Prod.fst/\a≠co b0:=fun a=>by
   rw [←Bool.not_eq_true,FK];simp
  have kl: ∀a,aj l a=true↔a=b0\/a∈m1.map Prod.fst\/a=co b0\/a∈m2.map Prod.fst:=fun a=>by rw [my,uJ];simp
  have klf: ∀a,aj l a=false↔ ¬(a=b0\/a∈m1.map Prod.fst\/a=co b0\/a∈m2.map Prod.fst):=fun a=>by rw [←Bool.not_eq_true,kl]
  have u1: ∀a,aj (m1++[(co b0,false)]) a=true->S.ae a=false:=fun a ha=>cS a ((kl a).2 (by rcases (FK a).1 ha with h|h<;>simp [h]));have real: ∀a,aj l a=true->S.st (a/2)<=1->aq S (a/2)=false:=fun a _ h=>rZ.2 (by omega);have Q1:QK D (aj (m1++[(co b0,false)])) (aq (S.sx x 5)) (fun b=>co b % 2) (S.sx x 5).st (m1++[(co b0,false)]) (S.sx x 5) D.n:=by
   refine QK.of B5 C1 u1 fun b hb k1 k2 k3=>?_;have gT:b/2≠x:=fun e=>by
    have:(S.sx x 5).st (b/2)=5:=by rw [e];exact bG _ _ _
    omega
   have e5:(S.sx x 5).st (b/2)=S.st (b/2):=bt _ _ gT;rw [e5] at k3⊢;cases eT:aj l b with
   |false=>
    have nG:aj l (co b)=true:=(kl _).2 (by rcases (FK _).1 k2 with h|h<;>simp [h]);have e:=hq.q b hb eT nG (by omega);rw [cS _ nG] at e;rw [e] at k3⊢;revert k3;unfold cj;cases aq S (b/2)<;>cases S.ae b<;>simp
   |true=>
    have s9:b∈m2.map Prod.fst:=by
     obtain ⟨n1,n2⟩:=(VK b).1 k1;rcases (kl b).1 eT with h|h|h|h
     ·exact absurd (by rw [h,hx]) gT
     ·exact absurd h n1
     ·exact absurd h n2
     ·exact h
    have iE:co b∈m1.map Prod.fst:=by
     rcases (FK _).1 k2 with h|h
     ·exact h
     ·exact absurd (by rw [←bV b,h];exact s6) gT
    have:=hO (co b) (by rw [bV];exact real b eT k3) (by
     rw [di,uJ];refine .cons _ ?_
     have:=(List.singleton_sublist.2 iE).append (List.singleton_sublist.2 s9)
     exact this.trans ((List.sublist_cons_self _ _).append_left _))
    rw [bV] at this;exact this
  have O1:oT (aq (S.sx x 5)) (S.sx x 5).st (m1++[(co b0,false)]):=fun a ha aJ=>by
   have qQ:a/2≠x:=fun e=>by rw [e,yY] at ha;cases ha
   rw [s5 _ qQ] at ha;have e5:(S.sx x 5).st (a/2)=S.st (a/2):=bt _ _ qQ;rw [e5];refine hO a ha (aJ.trans ?_);rw [uJ,List.map_append];refine .cons _ ?_;exact (List.Sublist.refl _).append ((List.nil_sublist _).cons_cons _)
  have C2': ∀sm,sm x=true->(∀y∈m2,y.2= !sm (y.1/2))->im D (aj ((b0,false)::m2)) sm ((b0,false)::m2) b0:=fun sm BN hty=>by
   refine im.make hD ⟨rfl,AO⟩ (by simp) (fun y hy=>?_) ?_ (fun y hy=>?_)
   ·rcases List.mem_cons.1 hy with h|h
    ·rw [h];exact nH
    ·exact C.lt y (by rw [hl,hm];simp [h])
   ·exact List.nodup_cons.2 ⟨nb.2,d5⟩
   ·rcases List.mem_cons.1 hy with h|h
    ·rw [h];show false= !sm (b0/2);rw [←hx,BN];rfl
    ·exact hty y h
  have FJ: ∀a,aj ((b0,false)::m2) a=true↔a=b0\/a∈m2.map Prod.fst:=fun a=>by rw [my];simp
  have k2f: ∀a,aj ((b0,false)::m2) a=false↔a≠b0/\a∉m2.map Prod.fst:=fun a=>by
   rw [←Bool.not_eq_true,FJ];simp
  have BC: ∀a,aj ((b0,false)::m2) a=true->aj (m1++[(co b0,false)]) a=false:=fun a ha=>by
   rw [VK];rcases (FJ a).1 ha with h|h
   ·rw [h];exact ⟨nb.1,Ne.symm (qU b0)⟩
   ·exact ⟨fun h'=>d3 _ h' _ (.tail _ h) rfl,fun e=>d4 (e▸h)⟩
  have oe: ∀a,aj l a=(aj (m1++[(co b0,false)]) a||aj ((b0,false)::m2) a):=fun a=>by
   rw [Bool.eq_iff_iff,kl,Bool.or_eq_true,FK,FJ];constructor
   ·rintro (h|h|h|h)<;>simp [h]
   ·rintro ((h|h)|(h|h))<;>simp [h]
  have mJ: ∀T1,T1=TK (aj (m1++[(co b0,false)])) (aq (S.sx x 5)) (S.sx x 5)->Bd D T1->(∀u v,run X D (b0::L) (T1.cr.sc u v)=run X D L ((TK (aj l) (aq S) S).cr.cr.sc u v)):=fun T1 bw GQ u v=>by
   have yW: ∀a,T1.st (a/2)=if aj (m1++[(co b0,false)]) a&&aj (m1++[(co b0,false)]) (co a) then 4 else if aj (m1++[(co b0,false)]) (co a) then (if S.ae a then 4 else if aq (S.sx x 5) (a/2) then 2 else 3) else if aj (m1++[(co b0,false)]) a then (if S.ae (co a) then 4 else if aq (S.sx x 5) (a/2) then 2 else 3) else (S.sx x 5).st (a/2):=fun a=>by rw [bw];exact l9 _ _
   have v7: ∀a,aj ((b0,false)::m2) a=true->aq T1 (a/2)=aq (S.sx x 5) (a/2):=fun a ha=>by
    have h1:=BC a ha;have p5:S.ae a=false:=cS a (by rw [oe,ha,Bool.or_true])
    have:=yW a
    rw [h1,p5] at this;cases hc:aj (m1++[(co b0,false)]) (co a) with
    |false=>rw [hc] at this;unfold aq;simp at this;rw [this]
    |true=>
     rw [hc] at this;cases hs5:aq (S.sx x 5) (a/2) with
     |true=>rw [hs5] at this;exact sF.2 (.inr this)
     |false=>rw [hs5] at this;simp at this;exact rZ.2 (by omega)
   have OL:aj ((b0,false)::m2) b0=true:=(FJ b0).2 (.inl rfl);have C2:=C2' (aq T1) (by have:=v7 b0 OL;rw [←hx] at this;rw [this];exact yY) fun y hy=>by
    have Aw:y.1∈m2.map Prod.fst:=List.mem_map.2 ⟨y,hy,rfl⟩;rw [v7 _ ((FJ _).2 (.inr Aw)),s5 _ (ax2 _ Aw)];exact C.ty y (by rw [hl,hm];simp [hy])
   have u2: ∀a,aj ((b0,false)::m2) a=true->T1.ae a=false:=fun a ha=>by
    rw [bw];show (S.ae a||aj (m1++[(co b0,false)]) a)=false;rw [BC a ha,cS a (by rw [oe,ha,Bool.or_true])];rfl
   have Q2:QK D (aj ((b0,false)::m2)) (aq T1) (fun b=>co b % 2) T1.st ((b0,false)::m2) T1 D.n:=by
    refine QK.of GQ C2 u2 fun b hb k1 k2 k3=>?_;have h1:=BC _ k2;have nG:aj l (co b)=true:=by rw [oe,k2,Bool.or_true]
    have:=yW b
    rw [h1,cS _ nG] at this;cases iE:aj (m1++[(co b0,false)]) b with
    |true=>
     rw [iE] at this;simp at this;rw [this] at k3
     split at k3<;>omega
    |false=>
     rw [iE] at this;have e3:T1.st (b/2)=(S.sx x 5).st (b/2):=by simpa using this
     have eT:aj l b=false:=by rw [oe,iE,k1];rfl
     have e4:(S.sx x 5).st (b/2)=S.st (b/2):=bt _ _ (nk b eT);rw [e3,e4] at k3⊢;have e:=hq.q b hb eT nG (by omega);rw [cS _ nG] at e;rw [e] at k3⊢;revert k3;unfold cj;cases aq S (b/2)<;>cases S.ae b<;>simp
   have O2:oT (aq T1) T1.st ((b0,false)::m2):=fun a ha aJ=>by
    have ka:aj ((b0,false)::m2) a=true:=my.2 (aJ.subset (by simp));have kc:aj ((b0,false)::m2) (co a)=true:=my.2 (aJ.subset (by simp));rw [v7 a ka] at ha;have qQ:a/2≠x:=fun e=>by rw [e,yY] at ha;cases ha
    rw [s5 _ qQ] at ha
    have:=yW a
    rw [BC a ka,BC _ kc] at this;have e3:T1.st (a/2)=(S.sx x 5).st (a/2):=by simpa using this
    rw [e3,show (S.sx x 5).st (a/2)=S.st (a/2) from bt _ _ qQ];refine hO a ha (aJ.trans ?_);rw [uJ];refine .cons_cons _ ?_;exact (List.sublist_cons_self _ _).trans (List.sublist_append_right _ _)
   obtain ⟨k1,_⟩:=vw (X:=X) hD (GQ.cr.sc u v) C2 (Q2.cr.sc u v) (O2.ord C2.ty) hr L;rw [k1,yI,D4]
   have:TK (aj ((b0,false)::m2)) (aq T1) T1=TK (aj l) (aq S) S:=by
    refine WS.ext' (fun b=>?_) (funext fun b=>?_) ?_ ?_ ?_
    ·rw [l9,l9];have tv: ∀b,T1.ae b=(S.ae b||aj (m1++[(co b0,false)]) b):=fun b=>by rw [bw];rfl
     rw [oe,oe,tv,tv];have gT:aj l b=false\/aj l (co b)=false->b/2≠x:=fun h e=>by
      rcases h with h|h
      ·exact nk b h e
      ·exact nk (co b) h (by rw [bV];exact e)
     have ts:=yW b;have n1:=BC b;have n2:=BC (co b);have v1:aj l b=true->S.ae b=false:=cS b;have v2:aj l (co b)=true->S.ae (co b)=false:=cS (co b);rw [oe b,oe (co b)] at gT;rw [oe b] at v1;rw [oe (co b)] at v2;have MU:=v7 b;have E6:=v7 (co b);rw [bV] at E6;have yZ:=s5 (b/2);have M3:b/2≠x->(S.sx x 5).st (b/2)=S.st (b/2):=fun h=>bt _ _ h;cases a3:aj ((b0,false)::m2) b with
     |true=>
      have a1:=n1 a3;cases a4:aj ((b0,false)::m2) (co b) with
      |true=>simp only [a1,n2 a4,Bool.or_true,Bool.and_self,if_true]
      |false=>
       cases a2:aj (m1++[(co b0,false)]) (co b) with
       |true=>simp [a1]
       |false=>
        have gX:=gT (.inr (by rw [a2,a4];rfl));rw [MU a3,yZ gX,a1];simp
     |false=>
      cases a4:aj ((b0,false)::m2) (co b) with
      |true=>
       have a2:=n2 a4;cases a1:aj (m1++[(co b0,false)]) b with
       |true=>simp [a2]
       |false=>
        have gX:=gT (.inl (by rw [a1,a3];rfl));rw [E6 a4,yZ gX,a2];simp
      |false=>
       cases a1:aj (m1++[(co b0,false)]) b with
       |true=>
        cases a2:aj (m1++[(co b0,false)]) (co b) with
        |true=>
         rw [a1,a2] at ts;simp at ts⊢;exact ts
        |false=>
         have gX:=gT (.inr (by rw [a2,a4];rfl));rw [a1,a2,yZ gX] at ts;simp at ts⊢;exact ts
       |false=>
        have gX:=gT (.inl (by rw [a1,a3];rfl));cases a2:aj (m1++[(co b0,false)]) (co b) with
        |true=>
         rw [a1,a2,yZ gX] at ts;simp at ts⊢;exact ts
        |false=>
         rw [a1,a2,M3 gX] at ts;simp at ts⊢;exact ts
    ·rw [bw];show ((S.ae b||_)||_)=(S.ae b||aj l b);rw [oe,Bool.or_assoc]
    ·rw [bw];rfl
    ·rw [bw];rfl
    ·rw [bw];rfl
   rw [this];rfl
  have f5: ∀u v,run X D (iv D b0 true::L) ((S.sx x 5).sc u v)=run X D L ((TK (aj l) (aq S) S).cr.cr.sc u v):=fun u v=>by
   have B5':=B5.sc u v;have oD:eI D (iv D b0 true::L) ((S.sx x 5).sc u v):=⟨(hL _ wP).lt,(hL _ wP).all⟩;have w8:eI D (iv D b0 true::b0::L) ((S.sx x 5).sc u v):=⟨fun a ha=>by
    rcases List.mem_cons.1 ha with h|h
    ·rw [h];exact wP
    ·exact (hL _ nH).lt a h,fun a ha hv=>by
    have:=(hL (iv D b0 true) wP).all a ha hv
    rcases List.mem_cons.1 this with h|h
    ·rw [h];exact .head _
    ·exact .tail _ (.tail _ h)⟩
   rw [IH _ _ (iv D b0 true::b0::L) B5' (.inl ?_) oD w8]
   ·obtain ⟨k1,k2⟩:=vw (X:=X) hD (B5.sc u v) C1 (Q1.sc u v) (O1.ord C1.ty) hr (b0::L);rw [k1,yI,WS.dV];exact mJ _ rfl k2 u v
   ·refine AX (S':=(S.sx x 5).sc u v) (x:=x) (fun c hc=>?_) (by omega) (by show¬aM S.st x 5 x<=1;rw [bG];omega) D.n zd;have dh:aM S.st x 5 c<=1:=hc;by_cases e:c=x
    ·rw [e];omega
    ·rwa [bt _ _ e] at dh
  have vF:S.ae (2*x)=false/\S.ae (2*x+1)=false:=uD hB zd (by omega);have sk: ∀u v,run X D (iv D b0 true::L) ((S.sx x (pq D x)).sc (u-1) v)=run X D (iv D b0 true::L) ((S.sx x (nq D x)).sc (u+1) v)+run X D (iv D b0 true::L) ((S.sx x 5).sc u (v+1)):=fun u v=>by
   have:=A1 (X:=X) zd (hD.sg x zd) (iv D b0 true::L) (S.sc u v) vF.1 vF.2 ((hL _ wP).all _ (by omega) vF.1)
   simp only [WS.tT,WS.bQ,Int.add_zero] at this;exact this
  have rX: ∀u v,run X D L ((TK (aj l) (aq S) S).cr.sc (u-1) v)=run X D L ((TK (aj l) (aq S) S).cr.sc (u+1) v)+run X D L ((TK (aj l) (aq S) S).cr.cr.sc u (v+1)):=fun u v=>by
   have:=HJ (D:=D) hX L ((TK (aj l) (aq S) S).cr.sc u v) (by show 1<=S.k+1;omega)
   simp only [WS.dV,WS.bQ,Int.add_zero] at this;exact this
  have eS:S.sx x (b0 % 2)=S:=WS.ext' (fun a=>by
   show aM S.st x (b0 % 2) (a/2)=_;by_cases e:a/2=x
   ·rw [e,bG,aR]
   ·rw [bt _ _ e]) rfl rfl rfl rfl
  have BV:(b0 % 2=pq D x/\co b0 % 2=nq D x)\/(b0 % 2=nq D x/\co b0 % 2=pq D x):=by
   unfold pq nq
   split<;>omega
  rcases BV with ⟨a1,a2⟩|⟨a1,a2⟩
  ·have h1:=sk 1 0;have h2:=rX 1 0;rw [←a1,←a2,f',f5,eS,show (1:Int)-1=0 by omega,WS.bK] at h1;rw [show (1:Int)-1=0 by omega,WS.bK] at h2;rw [h1,h2]
  ·have h1:=sk (-1) 0;have h2:=rX (-1) 0;rw [←a1,←a2,f',f5,eS,show (-1:Int)+1=0 by omega,WS.bK] at h1;rw [show (-1:Int)+1=0 by omega,WS.bK] at h2;omega
 ·--otherwise the walk goes the same Vv
  have O':oT (aq S) S.st (lt++[(b0,p0)]):=fun a ha aJ=>by
   rw [List.map_append] at aJ;rcases RY aJ with h|⟨h,h2⟩
   ·exact hO a ha (by rw [hl];exact h.cons b0)
   ·have h:co a=b0:=h;have e:a=co b0:=by rw [←h,di]
    refine absurd ⟨?_,?_⟩ mU
    ·rw [e,bV] at ha;exact ha
    ·rw [←e];exact my.2 (by rw [hl];exact .tail _ h2)
  exact (vw (X:=X) hD hB C' (VF S hB rfl rfl fun _ _ _ _=>rfl) (O'.ord C'.ty) hr L).1.symm
theorem E1 (hD:Ok D) (hX:Good X) {S:WS} (IH:xu D X S) (hB:Bd D S) {b0:Nat} (hb:b0<2*D.n) (hv:S.ae b0=false) (L:List Nat) (hL: ∀c,c<2*D.n->eI D (c::L) S):run X D (b0::L) S=run X D (dH D (aq S) b0::L) S:=by
 obtain ⟨l,C,cS,_,_⟩:=u9 hD hB hb hv;refine KS hD IH hB (hL _ hb) (hL _ ((Bi hD (aq S)).lt _ hb)) (l:=l) (t:=0) (by omega) fun u v=>?_;obtain ⟨p1,p2,p3⟩:=C8 (t:=0) (by omega) hB C cS;have es:aq ((put D S l 0).sc u v)=aq S:=Ea (D:=D) (S:=S) (l:=l) (t:=0) (by omega);have er:(fun b=>if (0:Nat)=0 then co b % 2 else b % 2)=fun b=>co b % 2:=funext fun b=>if_pos rfl;rw [er] at p2
 have:=E1a (X:=X) hD hX (S:=(put D S l 0).sc u v) (IH.put l 0 u v) (p1.sc u v) (l:=l) (by rw [es];exact C) cS (by rw [es];exact p2.sc u v) (by rw [es];exact p3) L fun c hc=>⟨(hL c hc).lt,(hL c hc).all⟩
 rw [es] at this;exact this
theorem EA: ∀(B:List Nat) (S:WS),(∀a∈B,S.ae a=true)\/ ∃b L,b∈B/\(∀a∈L,a∈B)/\S.ae b=false/\run X D B S=run X D (b::L) S/\(∀a∈B,S.ae a=false->a∈b::L)
 |[],S=> .inl fun _ h=>by cases h
 |a::B,S=>by
  cases hv:S.ae a with
  |false=>exact .inr ⟨a,B, .head _,fun c hc=> .tail _ hc,hv,rfl,fun c hc _=>hc⟩
  |true=>
   have e:run X D (a::B) S=run X D B S:=by
    show (if S.ae a=true then _ else _)=_;rw [if_pos hv]
   rcases EA B S with h|⟨b,L,h1,h2,h3,h4,h5⟩
   ·left;intro c hc;rcases List.mem_cons.1 hc with rfl|hc
    ·exact hv
    ·exact h c hc
   ·refine .inr ⟨b,L, .tail _ h1,fun c hc=> .tail _ (h2 c hc),h3,by rw [e,h4],fun c hc ND=>?_⟩;rcases List.mem_cons.1 hc with rfl|hc
    ·rw [hv] at ND;cases ND
    ·exact h5 c hc ND
theorem ord (hD:Ok D) {al:Nat->Nat} (hP:qT D al) (hX:Good X) {S:WS} {B B':List Nat} (hB:Bd D S) (h1:eI D B S) (h2:eI D B' S):run X D B S=run X D B' S:=by
 have GV: ∀S:WS,fu D S<=2*D.n:=fun S=>by
  have: ∀k,unv S.ae k<=k:=fun k=>by
   induction k with
   |zero=>exact Nat.le_refl _
   |succ k ih=>simp only [unv];split<;>omega
  exact this _
 have key: ∀m (S:WS) (B B':List Nat),rl S D.n*(2*D.n+1)+fu D S<m->Bd D S->eI D B S->eI D B' S->run X D B S=run X D B' S:=fun m=>by
  induction m with
  |zero=>intro _ _ _ h;omega
  |succ m ih=>
   intro S B B' hm hB h1 h2;have IH:xu D X S:=fun S' B B' iZ hl c1 c2=>by
    refine ih S' B B' ?_ iZ c1 c2
    have:=GV S'
    rcases hl with h|⟨h,h'⟩
    ·have:(rl S' D.n+1)*(2*D.n+1)<=rl S D.n*(2*D.n+1):=Nat.mul_le_mul_right _ h
     rw [Nat.add_mul,Nat.one_mul] at this;omega
    ·have:rl S' D.n*(2*D.n+1)<=rl S D.n*(2*D.n+1):=Nat.mul_le_mul_right _ h
     omega
   rcases EA (X:=X) (D:=D) B S with h|⟨b,L,b1,b2,b3,b4,b5⟩
   ·have h': ∀a∈B',S.ae a=true:=fun a ha=>by
     cases e:S.ae a with
     |true=>rfl
     |false=>rw [h a (h1.all a (h2.lt a ha) e)] at e;cases e
    rw [z7 B S h,z7 B' S h']
   ·rcases EA (X:=X) (D:=D) B' S with h|⟨b',L',c1,c2,c3,c4,c5⟩
    ·have:=h b (h2.all b (h1.lt b b1) b3)
     rw [this] at b3;cases b3
    ·have hb:=h1.lt b b1;have lT:=h2.lt b' c1;have k1:eI D (b::L) S:=⟨fun a ha=>by
      rcases List.mem_cons.1 ha with rfl|ha
      ·exact hb
      ·exact h1.lt a (b2 a ha),fun a ha hv=>b5 a (h1.all a ha hv) hv⟩
     have k2:eI D (b'::L') S:=⟨fun a ha=>by
      rcases List.mem_cons.1 ha with rfl|ha
      ·exact lT
      ·exact h2.lt a (c2 a ha),fun a ha hv=>c5 a (h2.all a ha hv) hv⟩
     have kR: ∀c,c<2*D.n->eI D (c::List.range (2*D.n)) S:=fun c hc=>⟨fun a ha=>by
      rcases List.mem_cons.1 ha with rfl|ha
      ·exact hc
      ·exact List.mem_range.1 ha,fun a ha _=>by simp [ha]⟩
     rw [b4,c4];obtain ⟨l,C,cS,B8,Oq⟩:=u9 hD hB lT c3;cases hk:aj l b with
     |false=>exact EX hD hP IH hB hb b3 lT c3 C cS hk k1 k2
     |true=>
      obtain ⟨i,hi⟩:=Oq b hk;have hp:=Bi hD (aq S)
      have: ∀i,run X D (b'::List.range (2*D.n)) S=run X D (itn (dH D (aq S)) i b'::List.range (2*D.n)) S:=fun i=>by
       induction i with
       |zero=>rfl
       |succ i FM=>
        rw [FM,E1 hD hX IH hB (hp.a7 lT i) (cS _ (B8 i)) _ kR];rfl
      rw [E0 hD IH hB hb b3 k1 (kR b hb),E0 hD IH hB lT c3 k2 (kR b' lT),this i,←hi]
 exact key _ S B B' (Nat.lt_succ_self _) hB h1 h2
end
end Hs
end Go.Proofs.YtjpbeacamoijhaaGreatDoor
