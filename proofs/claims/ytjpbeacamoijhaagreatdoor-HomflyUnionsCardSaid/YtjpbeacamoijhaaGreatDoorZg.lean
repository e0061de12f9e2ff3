/- Plain: THE ORDER OF THE CIRCLES does not matter on the sphere (where a circle begins; the theorem). -/
import Derived.Test.YtjpbeacamoijhaaGreatDoorZf
import Derived.Test.YtjpbeacamoijhaaGreatDoorZb
import Derived.Test.YtjpbeacamoijhaaGreatDoorZa
namespace Go.Proofs.YtjpbeacamoijhaaGreatDoor
set_option linter.unusedSimpArgs false
set_option linter.unusedVariables false
namespace Hs
open Sp (fq bt aw itn)
section
variable {D:Sh} {X:Int->Int->Nat->Int}
theorem Fp: ∀(l1 l:List (Nat×Bool)) (s m e:Nat),sI D s l1 m->sI D m l e->sI D s (l1++l) e
 |[],l,s,m,e,h1,h2=>by rw [show s=m from h1];exact h2
 |(a,p)::l1,l,s,m,e,h1,h2=>⟨h1.1,Fp l1 l _ m e h1.2 h2⟩
theorem Tw {a b c:Nat} {L:List Nat} (h:[a,b].Sublist (L++[c])):[a,b].Sublist L\/(b=c/\a∈L):=by
 obtain ⟨l1,l2,e,h1,h2⟩:=List.sublist_append_iff.1 h;cases l1 with
 |nil=>
  have:=h2.length_le
  rw [List.nil_append] at e;rw [<-e] at this;simp at this
 |cons x l1=>
  cases l1 with
  |nil=>
   simp at e;obtain ⟨rfl,e⟩:=e;subst e;have h3:=h2.subset (a:=b) (by simp);simp at h3;exact .inr ⟨h3,h1.subset (by simp)⟩
  |cons y l1=>
   cases l1 with
   |nil=>
    simp at e;obtain ⟨rfl,rfl,e⟩:=e;exact .inl h1
   |cons z l1=>simp at e
theorem E1a (hD:Ok D) (hX:Good X) {S:WS} (IH:yb D X S) (hB:Bd D S) {b0:Nat} {l:List (Nat×Bool)} (C:js D (au l) (aC S) l b0) (dM: ∀a,au l a=true->S.ae a=false)
  (hq:QK D (au l) (aC S) (fun b=>co b % 2) S.st l S D.n) (hO:pE (aC S) S.st l) (L:List Nat) (hL: ∀c,c<2*D.n->jt D (c::L) S):run X D (b0::L) S=run X D (dU D (aC S) b0::L) S:=by
 obtain ⟨⟨a0,p0⟩,lt,hl⟩:=List.exists_cons_of_ne_nil C.ne;have pe:=C.ch;rw [hl] at pe;obtain ⟨e0,pe⟩:=pe;subst e0;have hr: ∀a,(fun b=>co b % 2) (co a)=a % 2:=fun a=>by show co (co a)% 2=_;rw [eY]
 have oj:b0<2*D.n:=C.lt _ (by rw [hl];exact .head _);have rD:p0= !aC S (b0/2):=C.ty _ (by rw [hl];exact .head _);have hnd:=C.nd;rw [hl] at hnd;obtain ⟨jS,ju⟩:=List.nodup_cons.1 hnd;have iM:dU D (aC S) b0=iK D b0 p0:=by unfold dU;rw [rD]
 rw [iM];obtain ⟨t1,t2⟩:=wL (X:=X) hD hB C hq (hO.ord C.ty) hr L;rw [t1];have P0:au (lt++[(b0,p0)])=au l:=funext fun a=>by
  have:(a∈(lt++[(b0,p0)]).map Prod.fst)↔a∈l.map Prod.fst:=by rw [hl];simp;exact Or.comm
  unfold au;exact decide_eq_decide.2 this
 have C':js D (au l) (aC S) (lt++[(b0,p0)]) (iK D b0 p0):=by
  rw [<-P0];refine js.make hD (Fp lt _ _ _ _ pe ⟨rfl,rfl⟩) (by simp) (fun x hx=>C.lt x ?_) ?_ (fun x hx=>C.ty x ?_)
  ·rw [hl];rcases List.mem_append.1 hx with h|h
   ·exact .tail _ h
   ·rw [zzM] at h;rw [h];exact .head _
  ·rw [List.map_append,List.nodup_append];refine ⟨ju,by simp,fun a ha b hb e=>?_⟩;simp at hb;rw [e,hb] at ha;exact jS ha
  ·rw [hl];rcases List.mem_append.1 hx with h|h
   ·exact .tail _ h
   ·rw [zzM] at h;rw [h];exact .head _
 have XL: ∀S',Bd D S'->S'.ae=S.ae->aC S'=aC S->(∀b,b<2*D.n->au l b=false->au l (co b)=true->S'.st (b/2)=S.st (b/2))->QK D (au l) (aC S) (fun b=>co b % 2) S'.st (lt++[(b0,p0)]) S' D.n:=fun S' l7 hv hs h=>by
  have:=QK.of (r:=fun b=>co b % 2) l7 (hs▸C') (fun a ha=>by rw [hv];exact dM a ha) fun b hb k1 k2 k3=>by
   rw [h b hb k1 k2] at k3⊢;have e:=hq.q b hb k1 k2 (by omega);rw [dM _ k2] at e;rw [e] at k3⊢;revert k3;unfold cL;cases aC S (b/2)<;>cases S.ae b<;>simp
  rwa [hs] at this
 by_cases nR:aC S (b0/2)=false/\au l (co b0)=true
 ·--the first crossing is one of the circle with CC
  obtain ⟨hs,hk⟩:=nR;have az:p0=true:=by rw [rD,hs];rfl
  subst az;obtain ⟨x,hx⟩: ∃x,x=b0/2:=⟨_,rfl⟩;have tA:co b0/2=x:=by rw [dJ];exact hx.symm
  have bF:=fj oj;have Ad:x<D.n:=by omega
  have dA:co b0∈lt.map Prod.fst:=by
   have:=ni.1 hk
   rw [hl] at this;exact (List.mem_cons.1 this).resolve_left (rN b0)
  obtain ⟨⟨c0,pc⟩,Qs,e⟩:=List.mem_map.1 dA;have e':c0=co b0:=e;subst e';obtain ⟨m1,m2,hm⟩:=List.append_of_mem Qs;have PN:pc=true:=by
   have:pc= !aC S (co b0/2):=C.ty (co b0,pc) (by rw [hl,hm];simp)
   rw [this,tA,hx,hs];rfl
  subst PN;have GR:[b0,co b0].Sublist (l.map Prod.fst):=by
   rw [hl];exact (List.singleton_sublist.2 dA).cons_cons b0
  have aZ:S.st x=b0 % 2:=by rw [hx];exact hO b0 hs GR
  have tE:b0 % 2<=1:=by omega
  have Qr:=BQ b0;have xw:iK D b0 true<2*D.n:=hD.lt _ oj;have B':Bd D (S.sx x (co b0 % 2)):=ER hB (by omega) (.inl (by omega));have s':aC (S.sx x (co b0 % 2))=aC S:=funext fun c=>by
   unfold aC;refine decide_eq_decide.2 ?_;show (aR S.st x _ c=5\/aR S.st x _ c=2)↔_;by_cases hc:c=x
   ·subst hc;rw [bQ];omega
   ·rw [bG _ _ hc]
  have nk: ∀b,au l b=false->b/2≠x:=fun b h1 e=>by
   rcases kj (e.trans hx) with e|e
   ·rw [e,(C.mem b0).2 (by rw [hl];simp)] at h1;cases h1
   ·rw [e,hk] at h1;cases h1
  have Q':=XL _ B' rfl s' fun b _ h1 _=>bG _ _ (nk b h1);have O':pE (aC S) (S.sx x (co b0 % 2)).st (lt++[(b0,true)]):=fun a ha aN=>by
   rw [List.map_append] at aN;show aR S.st x _ (a/2)=_;rcases Tw aN with h|⟨h,_⟩
   ·have:a/2≠x:=fun e=>by
     have YS:a∈lt.map Prod.fst:=h.subset (by simp);have YR:co a∈lt.map Prod.fst:=h.subset (by simp);rcases kj (e.trans hx) with e|e
     ·rw [e] at YS;exact jS YS
     ·rw [e,eY] at YR;exact jS YR
    rw [bG _ _ this];exact hO a ha (by rw [hl];exact h.cons b0)
   ·have h:co a=b0:=h
    have:a=co b0:=by rw [<-h,eY]
    rw [this,tA,bQ]
  have T':TK (au l) (aC S) (S.sx x (co b0 % 2))=TK (au l) (aC S) S:=by
   refine WS.ext' (fun b=>?_) rfl rfl rfl rfl;rw [oN,oN];cases h1:au l b with
   |true=>cases au l (co b)<;>rfl
   |false=>
    cases h2:au l (co b) with
    |true=>rfl
    |false=>exact bG _ _ (nk b h1)
  have f': ∀u v,run X D (iK D b0 true::L) ((S.sx x (co b0 % 2)).sc u v)=run X D L ((TK (au l) (aC S) S).cr.sc u v):=fun u v=>by
   obtain ⟨k1,_⟩:=wL (X:=X) hD (B'.sc u v) C' (Q'.sc u v) (O'.ord C'.ty) hr L;rw [k1,zA,T',WS.eX]
  have B5:Bd D (S.sx x 5):=ER hB (by omega) (.inr rfl);have s5: ∀c,c≠x->aC (S.sx x 5) c=aC S c:=fun c hc=>by
   unfold aC;refine decide_eq_decide.2 ?_;show (aR S.st x _ c=5\/aR S.st x _ c=2)↔_;rw [bG _ _ hc]
  have zU:aC (S.sx x 5) x=true:=vO.2 (.inl (bQ _ _ _));have Hw:=pe;rw [hm] at Hw;obtain ⟨mm,Dd,BC⟩:=Jz D m1 _ _ _ Hw;obtain ⟨e1,BC⟩:=BC;subst e1;rw [hm] at jS ju;have hnm:(m1.map Prod.fst++co b0::m2.map Prod.fst).Nodup:=by rw [List.map_append,List.map_cons] at ju;exact ju
  obtain ⟨d1,d2,d3⟩:=List.nodup_append.1 hnm;obtain ⟨d4,d5⟩:=List.nodup_cons.1 d2;have nb:b0∉m1.map Prod.fst/\b0∉m2.map Prod.fst:=by
   rw [List.map_append,List.map_cons,List.mem_append,List.mem_cons] at jS;exact ⟨fun h=>jS (.inl h),fun h=>jS (.inr (.inr h))⟩
  have XU:co b0∉m1.map Prod.fst:=fun h=>d3 _ h _ (.head _) rfl;have ax1: ∀a∈m1.map Prod.fst,a/2≠x:=fun a ha e=>by
   rcases kj (e.trans hx) with e|e
   ·rw [e] at ha;exact nb.1 ha
   ·rw [e] at ha;exact XU ha
  have ax2: ∀a∈m2.map Prod.fst,a/2≠x:=fun a ha e=>by
   rcases kj (e.trans hx) with e|e
   ·rw [e] at ha;exact nb.2 ha
   ·rw [e] at ha;exact d4 ha
  have vk:l.map Prod.fst=b0::(m1.map Prod.fst++co b0::m2.map Prod.fst):=by rw [hl,hm];simp
  have C1:js D (au (m1++[(co b0,false)])) (aC (S.sx x 5)) (m1++[(co b0,false)]) (iK D b0 true):=by
   refine js.make hD (Fp m1 _ _ _ _ Dd ⟨rfl,?_⟩) (by simp) (fun y hy=>?_) ?_ (fun y hy=>?_)
   ·show D.nx (co (co b0))=D.nx b0;rw [eY]
   ·rcases List.mem_append.1 hy with h|h
    ·exact C.lt y (by rw [hl,hm];simp [h])
    ·rw [zzM] at h;rw [h];exact bF
   ·rw [List.map_append,List.nodup_append];refine ⟨d1,by simp,fun a ha b hb e=>?_⟩;simp at hb;rw [e,hb] at ha;exact XU ha
   ·rcases List.mem_append.1 hy with h|h
    ·rw [s5 _ (ax1 _ (List.mem_map.2 ⟨y,h,rfl⟩))];exact C.ty y (by rw [hl,hm];simp [h])
    ·rw [zzM] at h;rw [h];show false= !aC _ (co b0/2);rw [tA,zU];rfl
  have GB: ∀a,au (m1++[(co b0,false)]) a=true↔a∈m1.map Prod.fst\/a=co b0:=fun a=>by rw [ni];simp
  have XV: ∀a,au (m1++[(co b0,false)]) a=false↔a∉m1.map Prod.fst/\a≠co b0:=fun a=>by
   rw [<-Bool.not_eq_true,GB];simp
  have kl: ∀a,au l a=true↔a=b0\/a∈m1.map Prod.fst\/a=co b0\/a∈m2.map Prod.fst:=fun a=>by rw [ni,vk];simp
  have klf: ∀a,au l a=false↔ ¬(a=b0\/a∈m1.map Prod.fst\/a=co b0\/a∈m2.map Prod.fst):=fun a=>by rw [<-Bool.not_eq_true,kl]
  have u1: ∀a,au (m1++[(co b0,false)]) a=true->S.ae a=false:=fun a ha=>dM a ((kl a).2 (by rcases (GB a).1 ha with h|h<;>simp [h]));have real: ∀a,au l a=true->S.st (a/2)<=1->aC S (a/2)=false:=fun a _ h=>vN.2 (by omega);have Q1:QK D (au (m1++[(co b0,false)])) (aC (S.sx x 5)) (fun b=>co b % 2) (S.sx x 5).st (m1++[(co b0,false)]) (S.sx x 5) D.n:=by
   refine QK.of B5 C1 u1 fun b hb k1 k2 k3=>?_;have ix:b/2≠x:=fun e=>by
    have:(S.sx x 5).st (b/2)=5:=by rw [e];exact bQ _ _ _
    omega
   have e5:(S.sx x 5).st (b/2)=S.st (b/2):=bG _ _ ix;rw [e5] at k3⊢;cases fx:au l b with
   |false=>
    have oi:au l (co b)=true:=(kl _).2 (by rcases (GB _).1 k2 with h|h<;>simp [h]);have e:=hq.q b hb fx oi (by omega);rw [dM _ oi] at e;rw [e] at k3⊢;revert k3;unfold cL;cases aC S (b/2)<;>cases S.ae b<;>simp
   |true=>
    have tE:b∈m2.map Prod.fst:=by
     obtain ⟨n1,n2⟩:=(XV b).1 k1;rcases (kl b).1 fx with h|h|h|h
     ·exact absurd (by rw [h,hx]) ix
     ·exact absurd h n1
     ·exact absurd h n2
     ·exact h
    have iM:co b∈m1.map Prod.fst:=by
     rcases (GB _).1 k2 with h|h
     ·exact h
     ·exact absurd (by rw [<-dJ b,h];exact tA) ix
    have:=hO (co b) (by rw [dJ];exact real b fx k3) (by
     rw [eY,vk];refine .cons _ ?_
     have:=(List.singleton_sublist.2 iM).append (List.singleton_sublist.2 tE)
     exact this.trans ((List.sublist_cons_self _ _).append_left _))
    rw [dJ] at this;exact this
  have O1:pE (aC (S.sx x 5)) (S.sx x 5).st (m1++[(co b0,false)]):=fun a ha aN=>by
   have rG:a/2≠x:=fun e=>by rw [e,zU] at ha;cases ha
   rw [s5 _ rG] at ha;have e5:(S.sx x 5).st (a/2)=S.st (a/2):=bG _ _ rG;rw [e5];refine hO a ha (aN.trans ?_);rw [vk,List.map_append];refine .cons _ ?_;exact (List.Sublist.refl _).append ((List.nil_sublist _).cons_cons _)
  have C2': ∀sm,sm x=true->(∀y∈m2,y.2= !sm (y.1/2))->js D (au ((b0,false)::m2)) sm ((b0,false)::m2) b0:=fun sm GP hty=>by
   refine js.make hD ⟨rfl,BC⟩ (by simp) (fun y hy=>?_) ?_ (fun y hy=>?_)
   ·rcases List.mem_cons.1 hy with h|h
    ·rw [h];exact oj
    ·exact C.lt y (by rw [hl,hm];simp [h])
   ·exact List.nodup_cons.2 ⟨nb.2,d5⟩
   ·rcases List.mem_cons.1 hy with h|h
    ·rw [h];show false= !sm (b0/2);rw [<-hx,GP];rfl
    ·exact hty y h
  have GA: ∀a,au ((b0,false)::m2) a=true↔a=b0\/a∈m2.map Prod.fst:=fun a=>by rw [ni];simp
  have k2f: ∀a,au ((b0,false)::m2) a=false↔a≠b0/\a∉m2.map Prod.fst:=fun a=>by
   rw [<-Bool.not_eq_true,GA];simp
  have CB: ∀a,au ((b0,false)::m2) a=true->au (m1++[(co b0,false)]) a=false:=fun a ha=>by
   rw [XV];rcases (GA a).1 ha with h|h
   ·rw [h];exact ⟨nb.1,Ne.symm (rN b0)⟩
   ·exact ⟨fun h'=>d3 _ h' _ (.tail _ h) rfl,fun e=>d4 (e▸h)⟩
  have oS: ∀a,au l a=(au (m1++[(co b0,false)]) a||au ((b0,false)::m2) a):=fun a=>by
   rw [Bool.eq_iff_iff,kl,Bool.or_eq_true,GB,GA];constructor
   ·rintro (h|h|h|h)<;>simp [h]
   ·rintro ((h|h)|(h|h))<;>simp [h]
  have nC: ∀T1,T1=TK (au (m1++[(co b0,false)])) (aC (S.sx x 5)) (S.sx x 5)->Bd D T1->(∀u v,run X D (b0::L) (T1.cr.sc u v)=run X D L ((TK (au l) (aC S) S).cr.cr.sc u v)):=fun T1 bM HJ u v=>by
   have zR: ∀a,T1.st (a/2)=if au (m1++[(co b0,false)]) a&&au (m1++[(co b0,false)]) (co a) then 4 else if au (m1++[(co b0,false)]) (co a) then (if S.ae a then 4 else if aC (S.sx x 5) (a/2) then 2 else 3) else if au (m1++[(co b0,false)]) a then (if S.ae (co a) then 4 else if aC (S.sx x 5) (a/2) then 2 else 3) else (S.sx x 5).st (a/2):=fun a=>by rw [bM];exact oN _ _
   have wV: ∀a,au ((b0,false)::m2) a=true->aC T1 (a/2)=aC (S.sx x 5) (a/2):=fun a ha=>by
    have h1:=CB a ha;have qy:S.ae a=false:=dM a (by rw [oS,ha,Bool.or_true])
    have:=zR a
    rw [h1,qy] at this;cases hc:au (m1++[(co b0,false)]) (co a) with
    |false=>rw [hc] at this;unfold aC;simp at this;rw [this]
    |true=>
     rw [hc] at this;cases hs5:aC (S.sx x 5) (a/2) with
     |true=>rw [hs5] at this;exact vO.2 (.inr this)
     |false=>rw [hs5] at this;simp at this;exact vN.2 (by omega)
   have Qy:au ((b0,false)::m2) b0=true:=(GA b0).2 (.inl rfl);have C2:=C2' (aC T1) (by have:=wV b0 Qy;rw [<-hx] at this;rw [this];exact zU) fun y hy=>by
    have Bo:y.1∈m2.map Prod.fst:=List.mem_map.2 ⟨y,hy,rfl⟩;rw [wV _ ((GA _).2 (.inr Bo)),s5 _ (ax2 _ Bo)];exact C.ty y (by rw [hl,hm];simp [hy])
   have u2: ∀a,au ((b0,false)::m2) a=true->T1.ae a=false:=fun a ha=>by
    rw [bM];show (S.ae a||au (m1++[(co b0,false)]) a)=false;rw [CB a ha,dM a (by rw [oS,ha,Bool.or_true])];rfl
   have Q2:QK D (au ((b0,false)::m2)) (aC T1) (fun b=>co b % 2) T1.st ((b0,false)::m2) T1 D.n:=by
    refine QK.of HJ C2 u2 fun b hb k1 k2 k3=>?_;have h1:=CB _ k2;have oi:au l (co b)=true:=by rw [oS,k2,Bool.or_true]
    have:=zR b
    rw [h1,dM _ oi] at this;cases iM:au (m1++[(co b0,false)]) b with
    |true=>
     rw [iM] at this;simp at this;rw [this] at k3
     split at k3<;>omega
    |false=>
     rw [iM] at this;have e3:T1.st (b/2)=(S.sx x 5).st (b/2):=by simpa using this
     have fx:au l b=false:=by rw [oS,iM,k1];rfl
     have e4:(S.sx x 5).st (b/2)=S.st (b/2):=bG _ _ (nk b fx);rw [e3,e4] at k3⊢;have e:=hq.q b hb fx oi (by omega);rw [dM _ oi] at e;rw [e] at k3⊢;revert k3;unfold cL;cases aC S (b/2)<;>cases S.ae b<;>simp
   have O2:pE (aC T1) T1.st ((b0,false)::m2):=fun a ha aN=>by
    have ka:au ((b0,false)::m2) a=true:=ni.2 (aN.subset (by simp));have kc:au ((b0,false)::m2) (co a)=true:=ni.2 (aN.subset (by simp));rw [wV a ka] at ha;have rG:a/2≠x:=fun e=>by rw [e,zU] at ha;cases ha
    rw [s5 _ rG] at ha
    have:=zR a
    rw [CB a ka,CB _ kc] at this;have e3:T1.st (a/2)=(S.sx x 5).st (a/2):=by simpa using this
    rw [e3,show (S.sx x 5).st (a/2)=S.st (a/2) from bG _ _ rG];refine hO a ha (aN.trans ?_);rw [vk];refine .cons_cons _ ?_;exact (List.sublist_cons_self _ _).trans (List.sublist_append_right _ _)
   obtain ⟨k1,_⟩:=wL (X:=X) hD (HJ.cr.sc u v) C2 (Q2.cr.sc u v) (O2.ord C2.ty) hr L;rw [k1,zA,ES]
   have:TK (au ((b0,false)::m2)) (aC T1) T1=TK (au l) (aC S) S:=by
    refine WS.ext' (fun b=>?_) (funext fun b=>?_) ?_ ?_ ?_
    ·rw [oN,oN];have tv: ∀b,T1.ae b=(S.ae b||au (m1++[(co b0,false)]) b):=fun b=>by rw [bM];rfl
     rw [oS,oS,tv,tv];have ix:au l b=false\/au l (co b)=false->b/2≠x:=fun h e=>by
      rcases h with h|h
      ·exact nk b h e
      ·exact nk (co b) h (by rw [dJ];exact e)
     have ts:=zR b;have n1:=CB b;have n2:=CB (co b);have v1:au l b=true->S.ae b=false:=dM b;have v2:au l (co b)=true->S.ae (co b)=false:=dM (co b);rw [oS b,oS (co b)] at ix;rw [oS b] at v1;rw [oS (co b)] at v2;have OM:=wV b;have FR:=wV (co b);rw [dJ] at FR;have zV:=s5 (b/2);have OR:b/2≠x->(S.sx x 5).st (b/2)=S.st (b/2):=fun h=>bG _ _ h;cases a3:au ((b0,false)::m2) b with
     |true=>
      have a1:=n1 a3;cases a4:au ((b0,false)::m2) (co b) with
      |true=>simp only [a1,n2 a4,Bool.or_true,Bool.and_self,if_true]
      |false=>
       cases a2:au (m1++[(co b0,false)]) (co b) with
       |true=>simp [a1]
       |false=>
        have jD:=ix (.inr (by rw [a2,a4];rfl));rw [OM a3,zV jD,a1];simp
     |false=>
      cases a4:au ((b0,false)::m2) (co b) with
      |true=>
       have a2:=n2 a4;cases a1:au (m1++[(co b0,false)]) b with
       |true=>simp [a2]
       |false=>
        have jD:=ix (.inl (by rw [a1,a3];rfl));rw [FR a4,zV jD,a2];simp
      |false=>
       cases a1:au (m1++[(co b0,false)]) b with
       |true=>
        cases a2:au (m1++[(co b0,false)]) (co b) with
        |true=>
         rw [a1,a2] at ts;simp at ts⊢;exact ts
        |false=>
         have jD:=ix (.inr (by rw [a2,a4];rfl));rw [a1,a2,zV jD] at ts;simp at ts⊢;exact ts
       |false=>
        have jD:=ix (.inl (by rw [a1,a3];rfl));cases a2:au (m1++[(co b0,false)]) (co b) with
        |true=>
         rw [a1,a2,zV jD] at ts;simp at ts⊢;exact ts
        |false=>
         rw [a1,a2,OR jD] at ts;simp at ts⊢;exact ts
    ·rw [bM];show ((S.ae b||_)||_)=(S.ae b||au l b);rw [oS,Bool.or_assoc]
    ·rw [bM];rfl
    ·rw [bM];rfl
    ·rw [bM];rfl
   rw [this];rfl
  have f5: ∀u v,run X D (iK D b0 true::L) ((S.sx x 5).sc u v)=run X D L ((TK (au l) (aC S) S).cr.cr.sc u v):=fun u v=>by
   have B5':=B5.sc u v;have iD:jt D (iK D b0 true::L) ((S.sx x 5).sc u v):=⟨(hL _ xw).lt,(hL _ xw).all⟩;have xO:jt D (iK D b0 true::b0::L) ((S.sx x 5).sc u v):=⟨fun a ha=>by
    rcases List.mem_cons.1 ha with h|h
    ·rw [h];exact xw
    ·exact (hL _ oj).lt a h,fun a ha hv=>by
    have:=(hL (iK D b0 true) xw).all a ha hv
    rcases List.mem_cons.1 this with h|h
    ·rw [h];exact .head _
    ·exact .tail _ (.tail _ h)⟩
   rw [IH _ _ (iK D b0 true::b0::L) B5' (.inl ?_) iD xO]
   ·obtain ⟨k1,k2⟩:=wL (X:=X) hD (B5.sc u v) C1 (Q1.sc u v) (O1.ord C1.ty) hr (b0::L);rw [k1,zA,WS.eX];exact nC _ rfl k2 u v
   ·refine DK (S':=(S.sx x 5).sc u v) (x:=x) (fun c hc=>?_) (by omega) (by show¬aR S.st x 5 x<=1;rw [bQ];omega) D.n Ad;have dE:aR S.st x 5 c<=1:=hc;by_cases e:c=x
    ·rw [e];omega
    ·rwa [bG _ _ e] at dE
  have wc:S.ae (2*x)=false/\S.ae (2*x+1)=false:=wT hB Ad (by omega);have sk: ∀u v,run X D (iK D b0 true::L) ((S.sx x (pq D x)).sc (u-1) v)=run X D (iK D b0 true::L) ((S.sx x (nq D x)).sc (u+1) v)+run X D (iK D b0 true::L) ((S.sx x 5).sc u (v+1)):=fun u v=>by
   have:=DO (X:=X) Ad (hD.sg x Ad) (iK D b0 true::L) (S.sc u v) wc.1 wc.2 ((hL _ xw).all _ (by omega) wc.1)
   simp only [WS.w7,WS.cd,Int.add_zero] at this;exact this
  have rX: ∀u v,run X D L ((TK (au l) (aC S) S).cr.sc (u-1) v)=run X D L ((TK (au l) (aC S) S).cr.sc (u+1) v)+run X D L ((TK (au l) (aC S) S).cr.cr.sc u (v+1)):=fun u v=>by
   have:=IJ (D:=D) hX L ((TK (au l) (aC S) S).cr.sc u v) (by show 1<=S.k+1;omega)
   simp only [WS.eX,WS.cd,Int.add_zero] at this;exact this
  have eS:S.sx x (b0 % 2)=S:=WS.ext' (fun a=>by
   show aR S.st x (b0 % 2) (a/2)=_;by_cases e:a/2=x
   ·rw [e,bQ,aZ]
   ·rw [bG _ _ e]) rfl rfl rfl rfl
  have G0:(b0 % 2=pq D x/\co b0 % 2=nq D x)\/(b0 % 2=nq D x/\co b0 % 2=pq D x):=by
   unfold pq nq
   split<;>omega
  rcases G0 with ⟨a1,a2⟩|⟨a1,a2⟩
  ·have h1:=sk 1 0;have h2:=rX 1 0;rw [<-a1,<-a2,f',f5,eS,show (1:Int)-1=0 by omega,WS.b8] at h1;rw [show (1:Int)-1=0 by omega,WS.b8] at h2;rw [h1,h2]
  ·have h1:=sk (-1) 0;have h2:=rX (-1) 0;rw [<-a1,<-a2,f',f5,eS,show (-1:Int)+1=0 by omega,WS.b8] at h1;rw [show (-1:Int)+1=0 by omega,WS.b8] at h2;omega
 ·--otherwise the walk goes the same XB
  have O':pE (aC S) S.st (lt++[(b0,p0)]):=fun a ha aN=>by
   rw [List.map_append] at aN;rcases Tw aN with h|⟨h,h2⟩
   ·exact hO a ha (by rw [hl];exact h.cons b0)
   ·have h:co a=b0:=h;have e:a=co b0:=by rw [<-h,eY]
    refine absurd ⟨?_,?_⟩ nR
    ·rw [e,dJ] at ha;exact ha
    ·rw [<-e];exact ni.2 (by rw [hl];exact .tail _ h2)
  exact (wL (X:=X) hD hB C' (XL S hB rfl rfl fun _ _ _ _=>rfl) (O'.ord C'.ty) hr L).1.symm
theorem E1 (hD:Ok D) (hX:Good X) {S:WS} (IH:yb D X S) (hB:Bd D S) {b0:Nat} (hb:b0<2*D.n) (hv:S.ae b0=false) (L:List Nat) (hL: ∀c,c<2*D.n->jt D (c::L) S):run X D (b0::L) S=run X D (dU D (aC S) b0::L) S:=by
 obtain ⟨l,C,dM,_,_⟩:=AH hD hB hb hv;refine LL hD IH hB (hL _ hb) (hL _ ((B3 hD (aC S)).lt _ hb)) (l:=l) (t:=0) (by omega) fun u v=>?_;obtain ⟨p1,p2,p3⟩:=Jf (t:=0) (by omega) hB C dM;have es:aC ((put D S l 0).sc u v)=aC S:=LM (D:=D) (S:=S) (l:=l) (t:=0) (by omega);have er:(fun b=>if (0:Nat)=0 then co b % 2 else b % 2)=fun b=>co b % 2:=funext fun b=>zzJ rfl;rw [er] at p2
 have:=E1a (X:=X) hD hX (S:=(put D S l 0).sc u v) (IH.put l 0 u v) (p1.sc u v) (l:=l) (by rw [es];exact C) dM (by rw [es];exact p2.sc u v) (by rw [es];exact p3) L fun c hc=>⟨(hL c hc).lt,(hL c hc).all⟩
 rw [es] at this;exact this
theorem MN: ∀(B:List Nat) (S:WS),(∀a∈B,S.ae a=true)\/ ∃b L,b∈B/\(∀a∈L,a∈B)/\S.ae b=false/\run X D B S=run X D (b::L) S/\(∀a∈B,S.ae a=false->a∈b::L)
 |[],S=> .inl fun _ h=>by cases h
 |a::B,S=>by
  cases hv:S.ae a with
  |false=>exact .inr ⟨a,B, .head _,fun c hc=> .tail _ hc,hv,rfl,fun c hc _=>hc⟩
  |true=>
   have e:run X D (a::B) S=run X D B S:=by
    show (if S.ae a=true then _ else _)=_;rw [zzJ hv]
   rcases MN B S with h|⟨b,L,h1,h2,h3,h4,h5⟩
   ·left;intro c hc;rcases List.mem_cons.1 hc with rfl|hc
    ·exact hv
    ·exact h c hc
   ·refine .inr ⟨b,L, .tail _ h1,fun c hc=> .tail _ (h2 c hc),h3,by rw [e,h4],fun c hc Pu=>?_⟩;rcases List.mem_cons.1 hc with rfl|hc
    ·rw [hv] at Pu;cases Pu
    ·exact h5 c hc Pu
theorem ord (hD:Ok D) {al:Nat->Nat} (hP:tU D al) (hX:Good X) {S:WS} {B B':List Nat} (hB:Bd D S) (h1:jt D B S) (h2:jt D B' S):run X D B S=run X D B' S:=by
 have fle: ∀S:WS,fu D S<=2*D.n:=fun S=>by
  have: ∀k,unv S.ae k<=k:=fun k=>by
   induction k with
   |zero=>exact zzA _
   |succ k ih=>simp only [unv];split<;>omega
  exact this _
 have key: ∀m (S:WS) (B B':List Nat),rl S D.n*(2*D.n+1)+fu D S<m->Bd D S->jt D B S->jt D B' S->run X D B S=run X D B' S:=fun m=>by
  induction m with
  |zero=>intro _ _ _ h;omega
  |succ m ih=>
   intro S B B' hm hB h1 h2;have IH:yb D X S:=fun S' B B' l7 hl c1 c2=>by
    refine ih S' B B' ?_ l7 c1 c2
    have:=fle S'
    rcases hl with h|⟨h,h'⟩
    ·have:(rl S' D.n+1)*(2*D.n+1)<=rl S D.n*(2*D.n+1):=Nat.mul_le_mul_right _ h
     rw [Nat.add_mul,Nat.one_mul] at this;omega
    ·have:rl S' D.n*(2*D.n+1)<=rl S D.n*(2*D.n+1):=Nat.mul_le_mul_right _ h
     omega
   rcases MN (X:=X) (D:=D) B S with h|⟨b,L,b1,b2,b3,b4,b5⟩
   ·have h': ∀a∈B',S.ae a=true:=fun a ha=>by
     cases e:S.ae a with
     |true=>rfl
     |false=>rw [h a (h1.all a (h2.lt a ha) e)] at e;cases e
    rw [Jy B S h,Jy B' S h']
   ·rcases MN (X:=X) (D:=D) B' S with h|⟨b',L',c1,c2,c3,c4,c5⟩
    ·have:=h b (h2.all b (h1.lt b b1) b3)
     rw [this] at b3;cases b3
    ·have hb:=h1.lt b b1;have nW:=h2.lt b' c1;have k1:jt D (b::L) S:=⟨fun a ha=>by
      rcases List.mem_cons.1 ha with rfl|ha
      ·exact hb
      ·exact h1.lt a (b2 a ha),fun a ha hv=>b5 a (h1.all a ha hv) hv⟩
     have k2:jt D (b'::L') S:=⟨fun a ha=>by
      rcases List.mem_cons.1 ha with rfl|ha
      ·exact nW
      ·exact h2.lt a (c2 a ha),fun a ha hv=>c5 a (h2.all a ha hv) hv⟩
     have kR: ∀c,c<2*D.n->jt D (c::List.range (2*D.n)) S:=fun c hc=>⟨fun a ha=>by
      rcases List.mem_cons.1 ha with rfl|ha
      ·exact hc
      ·exact List.mem_range.1 ha,fun a ha _=>by simp [ha]⟩
     rw [b4,c4];obtain ⟨l,C,dM,zr,Qd⟩:=AH hD hB nW c3;cases hk:au l b with
     |false=>exact EX hD hP IH hB hb b3 nW c3 C dM hk k1 k2
     |true=>
      obtain ⟨i,hi⟩:=Qd b hk;have hp:=B3 hD (aC S)
      have: ∀i,run X D (b'::List.range (2*D.n)) S=run X D (itn (dU D (aC S)) i b'::List.range (2*D.n)) S:=fun i=>by
       induction i with
       |zero=>rfl
       |succ i GD=>
        rw [GD,E1 hD hX IH hB (hp.bC nW i) (dM _ (zr i)) _ kR];rfl
      rw [E0 hD IH hB hb b3 k1 (kR b hb),E0 hD IH hB nW c3 k2 (kR b' nW),this i,<-hi]
 exact key _ S B B' (Nat.lt_succ_self _) hB h1 h2
end
end Hs
namespace Hs
open Sp (fq bt aw itn)
section
variable {D:Sh} {X:Int->Int->Nat->Int}
def Mx (sm:Nat->Bool) (dR:Nat->Nat) (l:List (Nat×Bool)) (T:Nat):Prop:= ∀a,sm (a/2)=false->[a,co a].Sublist (l.map Prod.fst)->dR (a/2)=if a∈(l.map Prod.fst).take T then a % 2 else co a % 2
theorem Xw {L1 L2 L3:List Nat} {a b:Nat}:[a,b].Sublist (L1++a::(L2++b::L3)):=by
 refine List.Sublist.trans ?_ (List.sublist_append_right _ _);refine .cons_cons _ ?_;exact (List.singleton_sublist.2 (by simp))
theorem mixed (hD:Ok D) {al:Nat->Nat} (hP:tU D al) (hX:Good X): ∀(n d:Nat) (S:WS) (b0:Nat) (l:List (Nat×Bool)) (L:List Nat),rl S D.n<=n->d<=l.length->Bd D S->js D (au l) (aC S) l b0->(∀a,au l a=true->S.ae a=false)->QK D (au l) (aC S) (fun b=>co b % 2) S.st l S D.n->Mx (aC S) S.st l (l.length-d)->(∀c,c<2*D.n->jt D (c::L) S)->
  run X D (b0::L) S=run X D L (TK (au l) (aC S) S).cr:=fun n=>by
 induction n with
 |zero=>
  intro d S b0 l L hn hd hB C dM hq hM hL;have hr: ∀a,(fun b=>co b % 2) (co a)=a % 2:=fun a=>by show co (co a)% 2=_;rw [eY]
  have hO:pE (aC S) S.st l:=fun a ha aN=>by
   exfalso;have ka:au l a=true:=ni.2 (aN.subset (by simp));have kc:au l (co a)=true:=ni.2 (aN.subset (by simp));have bH:=C.zc ka;have e:=hq.q2 a bH ka kc;have hs:=vN.1 ha;have f:=hB a bH;unfold Fit aP at f;rw [dM a ka,dM _ kc] at f;have h1:S.st (a/2)<=1:=by
    rcases f with ⟨h,_⟩|⟨_,h,_⟩|⟨_,_,h⟩|⟨_,_,h⟩
    ·omega
    ·cases h
    ·cases h
    ·cases h
   have:rl S D.n≠0:=by
    have key: ∀m,a/2<m->0<rl S m:=fun m=>by
     induction m with
     |zero=>intro h;omega
     |succ m ih=>
      intro h;simp only [rl];by_cases e:a/2=m
      ·rw [<-e,zzJ h1];omega
      ·have:=ih (by omega);omega
    have:=key D.n (by omega)
    omega
   omega
  exact (wL (X:=X) hD hB C hq (hO.ord C.ty) hr L).1
 |succ n ihn=>
  intro d
  induction d with
  |zero=>
   intro S b0 l L hn hd hB C dM hq hM hL;have hr: ∀a,(fun b=>co b % 2) (co a)=a % 2:=fun a=>by show co (co a)% 2=_;rw [eY]
   have hO:pE (aC S) S.st l:=fun a ha aN=>by
    have:=hM a ha aN
    rwa [zzJ] at this;rw [zzR (by rw [List.length_map];omega)];exact aN.subset (by simp)
   exact (wL (X:=X) hD hB C hq (hO.ord C.ty) hr L).1
  |succ d ihd=>
   intro S b0 l L hn hd hB C dM hq hM hL;obtain ⟨T,hT⟩: ∃T,T=l.length-(d+1):=⟨_,rfl⟩;have hTl:T<l.length:=by omega
   have bM:l.length-d=T+1:=by omega
   rw [<-hT] at hM;obtain ⟨E1,⟨a,p⟩,E2,hl,QM⟩: ∃(E1:List (Nat×Bool)) (x:Nat×Bool) (E2:List (Nat×Bool)),l=E1++x::E2/\E1.length=T:=⟨l.take T,l[T],l.drop (T+1),by rw [<-List.drop_eq_getElem_cons hTl,List.take_append_drop],by rw [List.length_take];omega⟩
   have tk:(l.map Prod.fst).take T=E1.map Prod.fst:=by rw [hl,List.map_append,<-QM,<-(show (E1.map Prod.fst).length=E1.length from List.length_map _),List.take_left]
   have XD:(l.map Prod.fst).take (T+1)=E1.map Prod.fst++[a]:=by
    have h1:l.map Prod.fst=(E1.map Prod.fst++[a])++E2.map Prod.fst:=by rw [hl];simp
    have h2:T+1=(E1.map Prod.fst++[a]).length:=by simp [QM]
    rw [h1,h2,List.take_left]
   have Hc:au l a=true:=ni.2 (by rw [hl];simp);have bH:=C.zc Hc;have hp:p= !aC S (a/2):=C.ty (a,p) (by rw [hl];simp);have hnd:=C.nd;rw [hl,List.map_append,List.map_cons] at hnd;by_cases nR:aC S (a/2)=false/\co a∈E2.map Prod.fst
   ·--the first visit of a crossing of the circle with CC
    obtain ⟨hs,dA⟩:=nR;have az:p=true:=by rw [hp,hs];rfl
    subst az;obtain ⟨x,hx⟩: ∃x,x=a/2:=⟨_,rfl⟩;have tA:co a/2=x:=by rw [dJ];exact hx.symm
    have bF:=fj bH;have Ad:x<D.n:=by omega
    obtain ⟨⟨c0,pc⟩,Qs,e⟩:=List.mem_map.1 dA;have e':c0=co a:=e;subst e';obtain ⟨m1,m2,hm⟩:=List.append_of_mem Qs;have oi:au l (co a)=true:=ni.2 (by rw [hl,hm];simp);have PN:pc=true:=by
     have:pc= !aC S (co a/2):=C.ty (co a,pc) (by rw [hl,hm];simp)
     rw [this,tA,hx,hs];rfl
    subst PN;have vk:l.map Prod.fst=E1.map Prod.fst++a::(m1.map Prod.fst++co a::m2.map Prod.fst):=by rw [hl,hm];simp
    have XT:(E1.map Prod.fst++a::(m1.map Prod.fst++co a::m2.map Prod.fst)).Nodup:=vk▸C.nd;obtain ⟨q1,q2,q3⟩:=List.nodup_append.1 XT;obtain ⟨q4,q5⟩:=List.nodup_cons.1 q2;obtain ⟨q6,q7,q8⟩:=List.nodup_append.1 q5;obtain ⟨q9,q10⟩:=List.nodup_cons.1 q7;have na:a∉E1.map Prod.fst/\a∉m1.map Prod.fst/\a∉m2.map Prod.fst:=⟨fun h=>q3 _ h _ (.head _) rfl,fun h=>q4 (by simp [h]),fun h=>q4 (by simp [h])⟩
    have nc:co a∉E1.map Prod.fst/\co a∉m1.map Prod.fst/\co a∉m2.map Prod.fst:=⟨fun h=>q3 _ h _ (by simp) rfl,fun h=>q8 _ h _ (.head _) rfl,q9⟩;have aZ:S.st x=co a % 2:=by
     have:=hM a hs (by rw [vk];exact Xw)
     rw [tk,zzI na.1] at this;rw [hx];exact this
    have tE:a % 2<=1:=by omega
    have Qr:=BQ a;have kl: ∀b,au l b=true↔b∈E1.map Prod.fst\/b=a\/b∈m1.map Prod.fst\/b=co a\/b∈m2.map Prod.fst:=fun b=>by rw [ni,vk];simp
    have nk: ∀b,au l b=false->b/2≠x:=fun b h1 e=>by
     rcases kj (e.trans hx) with e|e
     ·rw [e,Hc] at h1;cases h1
     ·rw [e,oi] at h1;cases h1
    have B':Bd D (S.sx x (a % 2)):=ER hB (by omega) (.inl (by omega));have s':aC (S.sx x (a % 2))=aC S:=funext fun c=>by
     unfold aC;refine decide_eq_decide.2 ?_;show (aR S.st x _ c=5\/aR S.st x _ c=2)↔_;by_cases hc:c=x
     ·subst hc;rw [bQ];omega
     ·rw [bG _ _ hc]
    have Q':QK D (au l) (aC S) (fun b=>co b % 2) (S.sx x (a % 2)).st l (S.sx x (a % 2)) D.n:=by
     have:=QK.of (r:=fun b=>co b % 2) B' (s'▸C) dM fun b hb k1 k2 k3=>by
      have e5:(S.sx x (a % 2)).st (b/2)=S.st (b/2):=bG _ _ (nk b k1);rw [e5] at k3⊢;have e:=hq.q b hb k1 k2 (by omega);rw [dM _ k2] at e;rw [e] at k3⊢;revert k3;unfold cL;cases aC S (b/2)<;>cases S.ae b<;>simp
     rwa [s'] at this
    have M':Mx (aC S) (S.sx x (a % 2)).st l (T+1):=fun b hb aN=>by
     show aR S.st x _ (b/2)=_;rw [XD];by_cases ix:b/2=x
     ·rw [ix,bQ];rcases kj (ix.trans hx) with e|e
      ·rw [e,zzJ (by simp)]
      ·exfalso;rw [e,eY,vk] at aN;exact JP (Ne.symm (rN a)) XT Xw aN
     ·rw [bG _ _ ix,hM b hb aN,tk];have sG:b≠a:=fun e=>ix (by rw [e];exact hx.symm);by_cases h:b∈E1.map Prod.fst
      ·rw [zzJ h,zzJ (List.mem_append_left _ h)]
      ·rw [zzI h,zzI (by simp [sG];simpa using h)]
    have T':TK (au l) (aC S) (S.sx x (a % 2))=TK (au l) (aC S) S:=by
     refine WS.ext' (fun b=>?_) rfl rfl rfl rfl;rw [oN,oN];cases h1:au l b with
     |true=>cases au l (co b)<;>rfl
     |false=>
      cases h2:au l (co b) with
      |true=>rfl
      |false=>exact bG _ _ (nk b h1)
    have rl':rl (S.sx x (a % 2)) D.n<=n+1:=by
     refine Nat.le_trans (u6 (fun c hc=>?_) _) hn;have dE:aR S.st x (a % 2) c<=1:=hc;by_cases e:c=x
     ·rw [e];omega
     ·rwa [bG _ _ e] at dE
    have f': ∀u v,run X D (b0::L) ((S.sx x (a % 2)).sc u v)=run X D L ((TK (au l) (aC S) S).cr.sc u v):=fun u v=>by
     have es:aC ((S.sx x (a % 2)).sc u v)=aC S:=s';have rs:rl ((S.sx x (a % 2)).sc u v) D.n<=n+1:=Nat.le_trans (u6 (S:=S.sx x (a % 2)) (S':=(S.sx x (a % 2)).sc u v) (fun c h=>h) _) rl'
     have:=ihd ((S.sx x (a % 2)).sc u v) b0 l L rs (by omega) (B'.sc u v) (by rw [es];exact C) dM (by rw [es];exact Q'.sc u v) (by rw [es,bM];exact M') (fun c hc=>⟨(hL c hc).lt,(hL c hc).all⟩)
     rw [this,es,zA,T',WS.eX]
    have B5:Bd D (S.sx x 5):=ER hB (by omega) (.inr rfl);have s5: ∀c,c≠x->aC (S.sx x 5) c=aC S c:=fun c hc=>by
     unfold aC;refine decide_eq_decide.2 ?_;show (aR S.st x _ c=5\/aR S.st x _ c=2)↔_;rw [bG _ _ hc]
    have zU:aC (S.sx x 5) x=true:=vO.2 (.inl (bQ _ _ _));have XK:rl (S.sx x 5) D.n<=n:=by
     have:rl (S.sx x 5) D.n<rl S D.n:=DK (x:=x) (fun c hc=>by
      have dE:aR S.st x 5 c<=1:=hc;by_cases e:c=x
      ·rw [e];omega
      ·rwa [bG _ _ e] at dE) (by omega) (by show¬aR S.st x 5 x<=1;rw [bQ];omega) D.n Ad
     omega
    have pe:=C.ch;rw [hl,hm] at pe;obtain ⟨mm,Dd,e1,BC⟩:=Jz D E1 _ _ _ pe;rw [e1] at Dd;obtain ⟨mm',EG,e2,hc4⟩:=Jz D m1 _ _ _ BC;rw [e2] at EG;clear e1 e2;have O4: ∀b,b∈E1.map Prod.fst\/b∈m1.map Prod.fst\/b∈m2.map Prod.fst->b/2≠x:=fun b hb e=>by
     rcases kj (e.trans hx) with e|e<;>rw [e] at hb
     ·rcases hb with h|h|h
      ·exact na.1 h
      ·exact na.2.1 h
      ·exact na.2.2 h
     ·rcases hb with h|h|h
      ·exact nc.1 h
      ·exact nc.2.1 h
      ·exact nc.2.2 h
    have inl: ∀y:Nat×Bool,y∈E1\/y∈m1\/y∈m2->y∈l:=fun y hy=>by rw [hl,hm];rcases hy with h|h|h<;>simp [h]
    have mf: ∀{y:Nat×Bool} {E:List (Nat×Bool)},y∈E->y.1∈E.map Prod.fst:=fun h=>List.mem_map.2 ⟨_,h,rfl⟩;have Pa:(E1++(a,false)::m2).map Prod.fst=E1.map Prod.fst++a::m2.map Prod.fst:=by simp
    have O9:(m1++[(co a,false)]).map Prod.fst=m1.map Prod.fst++[co a]:=by simp
    have FV:(E1.map Prod.fst++a::m2.map Prod.fst).Sublist (l.map Prod.fst):=by
     rw [vk];refine (List.Sublist.refl _).append (.cons_cons _ ?_);exact (List.sublist_cons_self _ _).trans (List.sublist_append_right _ _)
    have FU:(m1.map Prod.fst++[co a]).Sublist (l.map Prod.fst):=by
     rw [vk];refine List.Sublist.trans ?_ (List.sublist_append_right _ _);refine .cons _ ?_;exact (List.Sublist.refl _).append ((List.nil_sublist _).cons_cons _)
    have Ca:js D (au (E1++(a,false)::m2)) (aC (S.sx x 5)) (E1++(a,false)::m2) b0:=by
     refine js.make hD (Fp E1 _ _ a _ Dd ⟨rfl,hc4⟩) (by simp) (fun y hy=>?_) (by rw [Pa];exact C.nd.sublist FV) (fun y hy=>?_)
     ·rcases List.mem_append.1 hy with h|h
      ·exact C.lt y (inl y (.inl h))
      ·rcases List.mem_cons.1 h with h|h
       ·rw [h];exact bH
       ·exact C.lt y (inl y (.inr (.inr h)))
     ·rcases List.mem_append.1 hy with h|h
      ·rw [s5 _ (O4 _ (.inl (mf h)))];exact C.ty y (inl y (.inl h))
      ·rcases List.mem_cons.1 h with h|h
       ·rw [h];show false= !aC _ (a/2);rw [<-hx,zU];rfl
       ·rw [s5 _ (O4 _ (.inr (.inr (mf h))))];exact C.ty y (inl y (.inr (.inr h)))
    have Pd: ∀b,au (E1++(a,false)::m2) b=true↔b∈E1.map Prod.fst\/b=a\/b∈m2.map Prod.fst:=fun b=>by rw [ni,Pa];simp
    have Er: ∀b,au (m1++[(co a,false)]) b=true↔b∈m1.map Prod.fst\/b=co a:=fun b=>by rw [ni,O9];simp
    have oS: ∀b,au l b=(au (E1++(a,false)::m2) b||au (m1++[(co a,false)]) b):=fun b=>by
     rw [Bool.eq_iff_iff,kl,Bool.or_eq_true,Pd,Er];constructor
     ·rintro (h|h|h|h|h)<;>simp [h]
     ·rintro ((h|h|h)|(h|h))<;>simp [h]
    have ze: ∀b,au (m1++[(co a,false)]) b=true->au (E1++(a,false)::m2) b=false:=fun b hb=>by
     rw [<-Bool.not_eq_true,Pd];rcases (Er b).1 hb with h|h
     ·rintro (h'|h'|h')
      ·exact q3 _ h' _ (by simp [h]) rfl
      ·exact na.2.1 (h'▸h)
      ·exact q8 _ h _ (.tail _ h') rfl
     ·rw [h];rintro (h'|h'|h')
      ·exact nc.1 h'
      ·exact rN a h'
      ·exact nc.2.2 h'
    have ua: ∀b,au (E1++(a,false)::m2) b=true->S.ae b=false:=fun b hb=>dM b (by rw [oS,hb];rfl);have Qa:QK D (au (E1++(a,false)::m2)) (aC (S.sx x 5)) (fun b=>co b % 2) (S.sx x 5).st (E1++(a,false)::m2) (S.sx x 5) D.n:=by
     refine QK.of B5 Ca ua fun b hb k1 k2 k3=>?_;have ix:b/2≠x:=fun e=>by
      have:(S.sx x 5).st (b/2)=5:=by rw [e];exact bQ _ _ _
      omega
     have e5:(S.sx x 5).st (b/2)=S.st (b/2):=bG _ _ ix;rw [e5] at k3⊢;have vC:au l (co b)=true:=by rw [oS,k2];rfl
     cases fx:au l b with
     |false=>
      have e:=hq.q b hb fx vC (by omega);rw [dM _ vC] at e;rw [e] at k3⊢;revert k3;unfold cL;cases aC S (b/2)<;>cases S.ae b<;>simp
     |true=>
      have Ym:aC S (b/2)=false:=vN.2 (by omega);have iM:b∈m1.map Prod.fst:=by
       rw [oS,k1,Bool.false_or] at fx;rcases (Er b).1 fx with h|h
       ·exact h
       ·exact absurd (by rw [h];exact tA) ix
      have nE:b∉E1.map Prod.fst:=fun h=>q3 _ h _ (by simp [iM]) rfl;rcases (Pd _).1 k2 with h|h|h
      ·have:=hM (co b) (by rw [dJ];exact Ym) (by
        rw [eY,vk];exact (List.singleton_sublist.2 h).append (List.singleton_sublist.2 (by simp [iM])))
       rw [tk,zzJ h,dJ] at this;exact this
      ·exact absurd (by rw [<-dJ b,h];exact hx.symm) ix
      ·have:=hM b Ym (by
        rw [vk];refine List.Sublist.trans (.cons _ ?_) (List.sublist_append_right _ _)
        have:=(List.singleton_sublist.2 iM).append (List.singleton_sublist.2 h)
        exact this.trans ((List.sublist_cons_self _ _).append_left _))
       rw [tk,zzI nE] at this;exact this
    have Ma:Mx (aC (S.sx x 5)) (S.sx x 5).st (E1++(a,false)::m2) T:=fun b hb aN=>by
     have ix:b/2≠x:=fun e=>by rw [e,zU] at hb;cases hb
     rw [s5 _ ix] at hb;rw [Pa] at aN⊢
     have:=hM b hb (aN.trans FV)
     rw [tk] at this;have e5:(S.sx x 5).st (b/2)=S.st (b/2):=bG _ _ ix;rw [e5,this,<-QM,<-(show (E1.map Prod.fst).length=E1.length from List.length_map _),List.take_left]
    have CW:iK D a true<2*D.n:=hD.lt _ bH;have XC: ∀b,au (m1++[(co a,false)]) b=true->S.ae b=false:=fun b hb=>dM b (by rw [oS,hb,Bool.or_true]);have nC: ∀T1,T1=TK (au (E1++(a,false)::m2)) (aC (S.sx x 5)) (S.sx x 5)->Bd D T1->(∀u v,run X D (iK D a true::L) (T1.cr.sc u v)=run X D L ((TK (au l) (aC S) S).cr.cr.sc u v)):=fun T1 bM HJ u v=>by
     have zR: ∀b,T1.st (b/2)=if au (E1++(a,false)::m2) b&&au (E1++(a,false)::m2) (co b) then 4 else if au (E1++(a,false)::m2) (co b) then (if S.ae b then 4 else if aC (S.sx x 5) (b/2) then 2 else 3) else if au (E1++(a,false)::m2) b then (if S.ae (co b) then 4 else if aC (S.sx x 5) (b/2) then 2 else 3) else (S.sx x 5).st (b/2):=fun b=>by rw [bM];exact oN _ _
     have wV: ∀b,au (m1++[(co a,false)]) b=true->aC T1 (b/2)=aC (S.sx x 5) (b/2):=fun b hb=>by
      have h1:=ze b hb;have km:=XC b hb
      have:=zR b
      rw [h1,km] at this;cases hc:au (E1++(a,false)::m2) (co b) with
      |false=>rw [hc] at this;unfold aC;simp at this;rw [this]
      |true=>
       rw [hc] at this;cases hs5:aC (S.sx x 5) (b/2) with
       |true=>rw [hs5] at this;exact vO.2 (.inr this)
       |false=>rw [hs5] at this;simp at this;exact vN.2 (by omega)
     have qX:au (m1++[(co a,false)]) (co a)=true:=(Er _).2 (.inr rfl);have Cb:js D (au (m1++[(co a,false)])) (aC T1) (m1++[(co a,false)]) (iK D a true):=by
      refine js.make hD (Fp m1 _ _ (co a) _ EG ⟨rfl,by show D.nx (co (co a))=D.nx a;rw [eY]⟩) (by simp) (fun y hy=>?_) (by rw [O9];exact C.nd.sublist FU) (fun y hy=>?_)
      ·rcases List.mem_append.1 hy with h|h
       ·exact C.lt y (inl y (.inr (.inl h)))
       ·rw [zzM] at h;rw [h];exact bF
      ·rcases List.mem_append.1 hy with h|h
       ·rw [wV _ ((Er _).2 (.inl (mf h))),s5 _ (O4 _ (.inr (.inl (mf h))))];exact C.ty y (inl y (.inr (.inl h)))
       ·rw [zzM] at h;rw [h];show false= !aC T1 (co a/2);rw [wV _ qX,tA,zU];rfl
     have u2: ∀b,au (m1++[(co a,false)]) b=true->T1.ae b=false:=fun b hb=>by
      rw [bM];show (S.ae b||au (E1++(a,false)::m2) b)=false;rw [ze b hb,XC b hb];rfl
     have Qb:QK D (au (m1++[(co a,false)])) (aC T1) (fun b=>co b % 2) T1.st (m1++[(co a,false)]) T1 D.n:=by
      refine QK.of HJ Cb u2 fun b hb k1 k2 k3=>?_;have h1:=ze _ k2;have vC:au l (co b)=true:=by rw [oS,k2,Bool.or_true]
      have:=zR b
      rw [h1,dM _ vC] at this;cases iM:au (E1++(a,false)::m2) b with
      |true=>
       rw [iM] at this;simp at this;rw [this] at k3
       split at k3<;>omega
      |false=>
       rw [iM] at this;have e3:T1.st (b/2)=(S.sx x 5).st (b/2):=by simpa using this
       have fx:au l b=false:=by rw [oS,iM,k1];rfl
       have e4:(S.sx x 5).st (b/2)=S.st (b/2):=bG _ _ (nk b fx);rw [e3,e4] at k3⊢;have e:=hq.q b hb fx vC (by omega);rw [dM _ vC] at e;rw [e] at k3⊢;revert k3;unfold cL;cases aC S (b/2)<;>cases S.ae b<;>simp
     have Mb:Mx (aC T1) T1.st (m1++[(co a,false)]) 0:=fun b hb aN=>by
      have ka:au (m1++[(co a,false)]) b=true:=ni.2 (aN.subset (by simp));have kc:au (m1++[(co a,false)]) (co b)=true:=ni.2 (aN.subset (by simp));rw [wV b ka] at hb;have ix:b/2≠x:=fun e=>by rw [e,zU] at hb;cases hb
      rw [s5 _ ix] at hb
      have:=zR b
      rw [ze b ka,ze _ kc] at this;have e3:T1.st (b/2)=(S.sx x 5).st (b/2):=by simpa using this
      rw [e3,show (S.sx x 5).st (b/2)=S.st (b/2) from bG _ _ ix];rw [O9] at aN;have h2:=hM b hb (aN.trans FU);have iM:b∈m1.map Prod.fst:=by
       rcases (Er b).1 ka with h|h
       ·exact h
       ·exact absurd (by rw [h];exact tA) ix
      rw [tk,zzI fun h=>q3 _ h _ (by simp [iM]) rfl] at h2;rw [h2];simp
     have rlT:rl (T1.cr.sc u v) D.n<=n:=by
      refine Nat.le_trans (u6 (S:=S.sx x 5) (S':=T1.cr.sc u v) (fun c h=>?_) _) XK;have h':T1.st c<=1:=h;rw [bM] at h';exact VS h'
     have k1:=ihn (m1++[(co a,false)]).length (T1.cr.sc u v) (iK D a true) (m1++[(co a,false)]) L rlT (zzA _) (HJ.cr.sc u v) Cb u2 (Qb.cr.sc u v) (by rw [Nat.sub_self];exact Mb) (fun c hc=>⟨(hL c hc).lt,fun b hb km=>(hL c hc).all b hb ?_⟩)
     ·rw [k1];show run X D L (TK _ (aC T1) (T1.cr.sc u v)).cr=_;rw [zA,ES]
      have:TK (au (m1++[(co a,false)])) (aC T1) T1=TK (au l) (aC S) S:=by
       refine WS.ext' (fun b=>?_) (funext fun b=>?_) ?_ ?_ ?_
       ·rw [oN,oN];have tv: ∀b,T1.ae b=(S.ae b||au (E1++(a,false)::m2) b):=fun b=>by rw [bM];rfl
        rw [oS,oS,tv,tv];have ix:au l b=false\/au l (co b)=false->b/2≠x:=fun h e=>by
         rcases h with h|h
         ·exact nk b h e
         ·exact nk (co b) h (by rw [dJ];exact e)
        have ts:=zR b;have n1:=ze b;have n2:=ze (co b);rw [oS b,oS (co b)] at ix;have OM:=wV b;have FR:=wV (co b);rw [dJ] at FR;have zV:=s5 (b/2);have OR:b/2≠x->(S.sx x 5).st (b/2)=S.st (b/2):=fun h=>bG _ _ h;cases a3:au (m1++[(co a,false)]) b with
        |true=>
         have a1:=n1 a3;cases a4:au (m1++[(co a,false)]) (co b) with
         |true=>simp only [a1,n2 a4,Bool.or_true,Bool.and_self,if_true]
         |false=>
          cases a2:au (E1++(a,false)::m2) (co b) with
          |true=>simp [a1]
          |false=>
           have jD:=ix (.inr (by rw [a2,a4];rfl));rw [OM a3,zV jD,a1];simp
        |false=>
         cases a4:au (m1++[(co a,false)]) (co b) with
         |true=>
          have a2:=n2 a4;cases a1:au (E1++(a,false)::m2) b with
          |true=>simp [a2]
          |false=>
           have jD:=ix (.inl (by rw [a1,a3];rfl));rw [FR a4,zV jD,a2];simp
         |false=>
          cases a1:au (E1++(a,false)::m2) b with
          |true=>
           cases a2:au (E1++(a,false)::m2) (co b) with
           |true=>
            rw [a1,a2] at ts;simp at ts⊢;exact ts
           |false=>
            have jD:=ix (.inr (by rw [a2,a4];rfl));rw [a1,a2,zV jD] at ts;simp at ts⊢;exact ts
          |false=>
           have jD:=ix (.inl (by rw [a1,a3];rfl));cases a2:au (E1++(a,false)::m2) (co b) with
           |true=>
            rw [a1,a2,zV jD] at ts;simp at ts⊢;exact ts
           |false=>
            rw [a1,a2,OR jD] at ts;simp at ts⊢;exact ts
       ·rw [bM];show ((S.ae b||_)||_)=(S.ae b||au l b);rw [oS,Bool.or_assoc]
       ·rw [bM];rfl
       ·rw [bM];rfl
       ·rw [bM];rfl
      rw [this];rfl
     ·have hv2:T1.ae b=false:=km;rw [bM] at hv2;have hv3:(S.ae b||au (E1++(a,false)::m2) b)=false:=hv2;exact (Bool.or_eq_false_iff.1 hv3).1
    have f5: ∀u v,run X D (b0::L) ((S.sx x 5).sc u v)=run X D L ((TK (au l) (aC S) S).cr.cr.sc u v):=fun u v=>by
     have Au:b0<2*D.n:=C.zc C.hd;have iD:jt D (b0::L) ((S.sx x 5).sc u v):=⟨(hL _ Au).lt,(hL _ Au).all⟩;have xO:jt D (b0::iK D a true::L) ((S.sx x 5).sc u v):=⟨fun b hb=>by
      rcases List.mem_cons.1 hb with h|h
      ·rw [h];exact Au
      ·exact (hL _ CW).lt b h,fun b hb hv=>by
      rcases List.mem_cons.1 ((hL b0 Au).all b hb hv) with h|h
      ·rw [h];exact .head _
      ·exact .tail _ (.tail _ h)⟩
     rw [ord hD hP hX (B5.sc u v) iD xO];have rs:rl ((S.sx x 5).sc u v) D.n<=n:=Nat.le_trans (u6 (S:=S.sx x 5) (S':=(S.sx x 5).sc u v) (fun c h=>h) _) XK;have k1:=ihn ((E1++(a,false)::m2).length-T) ((S.sx x 5).sc u v) b0 (E1++(a,false)::m2) (iK D a true::L) rs (Nat.sub_le _ _) (B5.sc u v) Ca ua (Qa.sc u v) (by
      have:(E1++(a,false)::m2).length-((E1++(a,false)::m2).length-T)=T:=by rw [zzF,zzG];omega
      rw [this];exact Ma) (fun c hc=>⟨fun b hb=>by
       rcases List.mem_cons.1 hb with h|h
       ·rw [h];exact hc
       ·exact (hL _ CW).lt b h,fun b hb hv=>by
       rcases List.mem_cons.1 ((hL c hc).all b hb hv) with h|h
       ·rw [h];exact .head _
       ·exact .tail _ (.tail _ h)⟩)
     rw [k1];show run X D _ (TK _ (aC (S.sx x 5)) ((S.sx x 5).sc u v)).cr=_;rw [zA,WS.eX];refine nC _ rfl ?_ u v;obtain ⟨p1,p2,p3⟩:=Jf (t:=0) (by omega) B5 Ca ua;have er:(fun b=>if (0:Nat)=0 then co b % 2 else b % 2)=fun b=>co b % 2:=funext fun b=>zzJ rfl;rw [er] at p2;have hB:=(wL (X:=X) hD p1 Ca p2 (p3.ord Ca.ty) (fun b=>by show co (co b)% 2=_;rw [eY]) L).2
     refine hB.Lg rfl fun c=>?_
     show ((if au (E1++(a,false)::m2) (2*c)&&au (E1++(a,false)::m2) (2*c+1) then 4 else if au (E1++(a,false)::m2) (2*c) then (if S.ae (2*c+1) then 4 else if aC (S.sx x 5) c then 2 else 3) else if au (E1++(a,false)::m2) (2*c+1) then (if S.ae (2*c) then 4 else if aC (S.sx x 5) c then 2 else 3) else (put D (S.sx x 5) (E1++(a,false)::m2) 0).st c)<=1/\((if au (E1++(a,false)::m2) (2*c)&&au (E1++(a,false)::m2) (2*c+1) then 4 else if au (E1++(a,false)::m2) (2*c) then (if S.ae (2*c+1) then 4 else if aC (S.sx x 5) c then 2 else 3) else if au (E1++(a,false)::m2) (2*c+1) then (if S.ae (2*c) then 4 else if aC (S.sx x 5) c then 2 else 3) else (S.sx x 5).st c)<=1\/_))\/(if au (E1++(a,false)::m2) (2*c)&&au (E1++(a,false)::m2) (2*c+1) then 4 else if au (E1++(a,false)::m2) (2*c) then (if S.ae (2*c+1) then 4 else if aC (S.sx x 5) c then 2 else 3) else if au (E1++(a,false)::m2) (2*c+1) then (if S.ae (2*c) then 4 else if aC (S.sx x 5) c then 2 else 3) else (S.sx x 5).st c)=(if au (E1++(a,false)::m2) (2*c)&&au (E1++(a,false)::m2) (2*c+1) then 4 else if au (E1++(a,false)::m2) (2*c) then (if S.ae (2*c+1) then 4 else if aC (S.sx x 5) c then 2 else 3) else if au (E1++(a,false)::m2) (2*c+1) then (if S.ae (2*c) then 4 else if aC (S.sx x 5) c then 2 else 3) else (put D (S.sx x 5) (E1++(a,false)::m2) 0).st c)
     have PK:(put D (S.sx x 5) (E1++(a,false)::m2) 0).st c=if c<D.n/\(S.sx x 5).st c<=1 then gC (S.sx x 5) (E1++(a,false)::m2) 0 c else (S.sx x 5).st c:=rfl;have hg:=II (S.sx x 5) (E1++(a,false)::m2) (t:=0) (by omega) c
     split
     ·exact .inr rfl
     split
     ·exact .inr rfl
     split
     ·exact .inr rfl
     ·rw [PK];by_cases h:c<D.n/\(S.sx x 5).st c<=1
      ·rw [zzJ h];exact .inl ⟨hg, .inl h.2⟩
      ·rw [zzI h];exact .inr rfl
    have wc:S.ae (2*x)=false/\S.ae (2*x+1)=false:=wT hB Ad (by omega);have sk: ∀u v,run X D (b0::L) ((S.sx x (pq D x)).sc (u-1) v)=run X D (b0::L) ((S.sx x (nq D x)).sc (u+1) v)+run X D (b0::L) ((S.sx x 5).sc u (v+1)):=fun u v=>by
     have:=DO (X:=X) Ad (hD.sg x Ad) (b0::L) (S.sc u v) wc.1 wc.2 ((hL _ (C.zc C.hd)).all _ (by omega) wc.1)
     simp only [WS.w7,WS.cd,Int.add_zero] at this;exact this
    have rX: ∀u v,run X D L ((TK (au l) (aC S) S).cr.sc (u-1) v)=run X D L ((TK (au l) (aC S) S).cr.sc (u+1) v)+run X D L ((TK (au l) (aC S) S).cr.cr.sc u (v+1)):=fun u v=>by
     have:=IJ (D:=D) hX L ((TK (au l) (aC S) S).cr.sc u v) (by show 1<=S.k+1;omega)
     simp only [WS.eX,WS.cd,Int.add_zero] at this;exact this
    have eS:S.sx x (co a % 2)=S:=WS.ext' (fun b=>by
     show aR S.st x (co a % 2) (b/2)=_;by_cases e:b/2=x
     ·rw [e,bQ,aZ]
     ·rw [bG _ _ e]) rfl rfl rfl rfl
    have G0:(a % 2=pq D x/\co a % 2=nq D x)\/(a % 2=nq D x/\co a % 2=pq D x):=by
     unfold pq nq
     split<;>omega
    rcases G0 with ⟨a1,a2⟩|⟨a1,a2⟩
    ·have h1:=sk (-1) 0;have h2:=rX (-1) 0;rw [<-a1,<-a2,f',f5,eS,show (-1:Int)+1=0 by omega,WS.b8] at h1;rw [show (-1:Int)+1=0 by omega,WS.b8] at h2;omega
    ·have h1:=sk 1 0;have h2:=rX 1 0;rw [<-a1,<-a2,f',f5,eS,show (1:Int)-1=0 by omega,WS.b8] at h1;rw [show (1:Int)-1=0 by omega,WS.b8] at h2;rw [h1,h2]
   ·--nothing changes
    have M':Mx (aC S) S.st l (T+1):=fun b hb aN=>by
     rw [hM b hb aN,tk,XD];by_cases h:b∈E1.map Prod.fst
     ·rw [zzJ h,zzJ (List.mem_append_left _ h)]
     ·by_cases sG:b=a
      ·exfalso;subst sG;refine nR ⟨hb,?_⟩
       have:co b∈l.map Prod.fst:=aN.subset (by simp)
       rw [hl,List.map_append,List.map_cons,List.mem_append,List.mem_cons] at this;rcases this with h1|h1|h1
       ·exfalso;have s2:[co b,b].Sublist (l.map Prod.fst):=by
         rw [hl,List.map_append,List.map_cons];exact (List.singleton_sublist.2 h1).append (List.singleton_sublist.2 (.head _))
        exact JP (Ne.symm (rN b)) C.nd aN s2
       ·exact absurd h1 (rN b)
       ·exact h1
      ·rw [zzI h,zzI (by simp [sG];simpa using h)]
    exact ihd S b0 l L hn (by omega) hB C dM hq (by rw [bM];exact M') hL
end
end Hs
namespace Hs
open Sp (fq bt aw itn)
section
variable {D:Sh} {X:Int->Int->Nat->Int}
def qC (S:WS):WS:={S with st:=fun c=>if S.st c<=1 then 1-S.st c else S.st c,i:= -S.i}
end
end Hs
namespace Hs
open Sp (fq bt aw itn)
section
variable {D D':Sh} {X:Int->Int->Nat->Int}
end
end Hs
structure iF (m:List Int) (n:Nat):Prop where
 ok:pT m n
 inv: ∀x:Nat,x<4*n->m.getD (m.getD x 0).toNat 0=x
 ne: ∀x:Nat,x<4*n->m.getD x 0≠x
theorem pX {s m:List Int} {L:Int} (h:bf s m L=true):iF m s.length:=by
 have v:=bV h;refine ⟨v.dw.ok,v.dw.inv,fun x hx=>?_⟩
 have:=v.mt x hx
 omega
abbrev qe (m:List Int) (n:Nat) (ch:Nat->Bool):Nat:=roots (mI m ch n)
def vj (b:Bool):Nat:=if b then 1 else 0
theorem y44 (ch:Nat->Bool):uz (fun c=>vj (ch c))=fun x=>aI (ch (x/4).toNat) x:=by
 funext x;unfold uz vj;dsimp only;cases ch (x/4).toNat<;>rfl
section
variable {m:List Int} {n:Nat} (hp:iF m n)
include hp
theorem N7 (ch:Nat->Bool):j9 n (fun x=>m.getD x.toNat 0) (uz (fun c=>vj (ch c))) (mI m ch n):=by
 rw [y44];exact EP hp.ok hp.inv hp.ne
theorem LK (s:Nat->Nat):j9 n (fun x=>m.getD x.toNat 0) (uz s) (crN (fun x=>m.getD x.toNat 0) (uz s) (4*n) (4*n)):=H9 (SU hp.ok hp.inv hp.ne s)
theorem Xv (ch:Nat->Bool):qe m n ch=Ib m n (fun c=>vj (ch c)):=TD (N7 hp ch) (LK hp _)
end
section
variable {m:List Int} {n L:Nat} (hp:iF m n)
include hp
end
end Go.Proofs.YtjpbeacamoijhaaGreatDoor
set_option linter.unusedSimpArgs false
set_option linter.unusedVariables false
namespace Go.Proofs.YtjpbeacamoijhaaGreatDoor
namespace Sp
end Sp
end Go.Proofs.YtjpbeacamoijhaaGreatDoor
