/- Plain: a circle above has the same value if it ascends. -/
import Derived.Test.YtjpbeacamoijhaaGreatDoorHs13
namespace Go.Proofs.YtjpbeacamoijhaaGreatDoor
set_option linter.unusedSimpArgs false
set_option linter.unusedVariables false
namespace Hs
open Sp (eY aV aw itn)
section
variable {D:Sh} {X:Int->Int->Nat->Int}
def Mx (sm:Nat->Bool) (dF:Nat->Nat) (l:List (Nat×Bool)) (T:Nat):Prop:= ∀a,sm (a/2)=false->[a,co a].Sublist (l.map Prod.fst)->dF (a/2)=if a∈(l.map Prod.fst).take T then a % 2 else co a % 2
theorem Vm {L1 L2 L3:List Nat} {a b:Nat}:[a,b].Sublist (L1++a::(L2++b::L3)):=by
 refine List.Sublist.trans ?_ (List.sublist_append_right _ _);refine .cons_cons _ ?_;exact (List.singleton_sublist.2 (by simp))
theorem mixed (hD:Ok D) {al:Nat->Nat} (hP:qT D al) (hX:Good X): ∀(n d:Nat) (S:WS) (b0:Nat) (l:List (Nat×Bool)) (L:List Nat),rl S D.n<=n->d<=l.length->Bd D S->im D (aj l) (aq S) l b0->(∀a,aj l a=true->S.ae a=false)->QK D (aj l) (aq S) (fun b=>co b % 2) S.st l S D.n->Mx (aq S) S.st l (l.length-d)->(∀c,c<2*D.n->eI D (c::L) S)->
  run X D (b0::L) S=run X D L (TK (aj l) (aq S) S).cr:=fun n=>by
 induction n with
 |zero=>
  intro d S b0 l L hn hd hB C cS hq hM hL;have hr: ∀a,(fun b=>co b % 2) (co a)=a % 2:=fun a=>by show co (co a)% 2=_;rw [di]
  have hO:oT (aq S) S.st l:=fun a ha aJ=>by
   exfalso;have ka:aj l a=true:=my.2 (aJ.subset (by simp));have kc:aj l (co a)=true:=my.2 (aJ.subset (by simp));have bZ:=C.vE ka;have e:=hq.q2 a bZ ka kc;have hs:=rZ.1 ha;have f:=hB a bZ;unfold Fit aD at f;rw [cS a ka,cS _ kc] at f;have h1:S.st (a/2)<=1:=by
    rcases f with ⟨h,_⟩|⟨_,h,_⟩|⟨_,_,h⟩|⟨_,_,h⟩
    ·omega
    ·cases h
    ·cases h
    ·cases h
   have:rl S D.n≠0:=by
    have key: ∀m,a/2<m->0<rl S m:=fun m=>by
     induction m with
     |zero=>intro h;omega
     |succ m ih=>
      intro h;simp only [rl];by_cases e:a/2=m
      ·rw [←e,if_pos h1];omega
      ·have:=ih (by omega);omega
    have:=key D.n (by omega)
    omega
   omega
  exact (vw (X:=X) hD hB C hq (hO.ord C.ty) hr L).1
 |succ n ihn=>
  intro d
  induction d with
  |zero=>
   intro S b0 l L hn hd hB C cS hq hM hL;have hr: ∀a,(fun b=>co b % 2) (co a)=a % 2:=fun a=>by show co (co a)% 2=_;rw [di]
   have hO:oT (aq S) S.st l:=fun a ha aJ=>by
    have:=hM a ha aJ
    rwa [if_pos] at this;rw [List.take_of_length_le (by rw [List.length_map];omega)];exact aJ.subset (by simp)
   exact (vw (X:=X) hD hB C hq (hO.ord C.ty) hr L).1
  |succ d ihd=>
   intro S b0 l L hn hd hB C cS hq hM hL;obtain ⟨T,hT⟩: ∃T,T=l.length-(d+1):=⟨_,rfl⟩;have hTl:T<l.length:=by omega
   have bw:l.length-d=T+1:=by omega
   rw [←hT] at hM;obtain ⟨E1,⟨a,p⟩,E2,hl,O0⟩: ∃(E1:List (Nat×Bool)) (x:Nat×Bool) (E2:List (Nat×Bool)),l=E1++x::E2/\E1.length=T:=⟨l.take T,l[T],l.drop (T+1),by rw [←List.drop_eq_getElem_cons hTl,List.take_append_drop],by rw [List.length_take];omega⟩;have tk:(l.map Prod.fst).take T=E1.map Prod.fst:=by rw [hl,List.map_append,←O0,←List.length_map (f:=Prod.fst) (as:=E1),List.take_left]
   have Vy:(l.map Prod.fst).take (T+1)=E1.map Prod.fst++[a]:=by
    have h1:l.map Prod.fst=(E1.map Prod.fst++[a])++E2.map Prod.fst:=by rw [hl];simp
    have h2:T+1=(E1.map Prod.fst++[a]).length:=by simp [O0]
    rw [h1,h2,List.take_left]
   have Gn:aj l a=true:=my.2 (by rw [hl];simp);have bZ:=C.vE Gn;have hp:p= !aq S (a/2):=C.ty (a,p) (by rw [hl];simp);have hnd:=C.nd;rw [hl,List.map_append,List.map_cons] at hnd;by_cases mU:aq S (a/2)=false/\co a∈E2.map Prod.fst
   ·--the first visit of a crossing of the circle with BD
    obtain ⟨hs,df⟩:=mU;have aB:p=true:=by rw [hp,hs];rfl
    subst aB;obtain ⟨x,hx⟩: ∃x,x=a/2:=⟨_,rfl⟩;have s6:co a/2=x:=by rw [bV];exact hx.symm
    have aY:=ee bZ;have zd:x<D.n:=by omega
    obtain ⟨⟨c0,pc⟩,Cj,e⟩:=List.mem_map.1 df;have e':c0=co a:=e;subst e';obtain ⟨m1,m2,hm⟩:=List.append_of_mem Cj;have nG:aj l (co a)=true:=my.2 (by rw [hl,hm];simp);have NV:pc=true:=by
     have:pc= !aq S (co a/2):=C.ty (co a,pc) (by rw [hl,hm];simp)
     rw [this,s6,hx,hs];rfl
    subst NV;have uJ:l.map Prod.fst=E1.map Prod.fst++a::(m1.map Prod.fst++co a::m2.map Prod.fst):=by rw [hl,hm];simp
    have VI:(E1.map Prod.fst++a::(m1.map Prod.fst++co a::m2.map Prod.fst)).Nodup:=uJ▸C.nd;obtain ⟨q1,q2,q3⟩:=List.nodup_append.1 VI;obtain ⟨q4,q5⟩:=List.nodup_cons.1 q2;obtain ⟨q6,q7,q8⟩:=List.nodup_append.1 q5;obtain ⟨q9,q10⟩:=List.nodup_cons.1 q7;have na:a∉E1.map Prod.fst/\a∉m1.map Prod.fst/\a∉m2.map Prod.fst:=⟨fun h=>q3 _ h _ (.head _) rfl,fun h=>q4 (by simp [h]),fun h=>q4 (by simp [h])⟩
    have nc:co a∉E1.map Prod.fst/\co a∉m1.map Prod.fst/\co a∉m2.map Prod.fst:=⟨fun h=>q3 _ h _ (by simp) rfl,fun h=>q8 _ h _ (.head _) rfl,q9⟩;have aR:S.st x=co a % 2:=by
     have:=hM a hs (by rw [uJ];exact Vm)
     rw [tk,if_neg na.1] at this;rw [hx];exact this
    have s9:a % 2<=1:=by omega
    have OG:=vt a;have kl: ∀b,aj l b=true↔b∈E1.map Prod.fst\/b=a\/b∈m1.map Prod.fst\/b=co a\/b∈m2.map Prod.fst:=fun b=>by rw [my,uJ];simp
    have nk: ∀b,aj l b=false->b/2≠x:=fun b h1 e=>by
     rcases jV (e.trans hx) with e|e
     ·rw [e,Gn] at h1;cases h1
     ·rw [e,nG] at h1;cases h1
    have B':Bd D (S.sx x (a % 2)):=CV hB (by omega) (.inl (by omega));have s':aq (S.sx x (a % 2))=aq S:=funext fun c=>by
     unfold aq;refine decide_eq_decide.2 ?_;show (aM S.st x _ c=5\/aM S.st x _ c=2)↔_;by_cases hc:c=x
     ·subst hc;rw [bG];omega
     ·rw [bt _ _ hc]
    have Q':QK D (aj l) (aq S) (fun b=>co b % 2) (S.sx x (a % 2)).st l (S.sx x (a % 2)) D.n:=by
     have:=QK.of (r:=fun b=>co b % 2) B' (s'▸C) cS fun b hb k1 k2 k3=>by
      have e5:(S.sx x (a % 2)).st (b/2)=S.st (b/2):=bt _ _ (nk b k1);rw [e5] at k3⊢;have e:=hq.q b hb k1 k2 (by omega);rw [cS _ k2] at e;rw [e] at k3⊢;revert k3;unfold cj;cases aq S (b/2)<;>cases S.ae b<;>simp
     rwa [s'] at this
    have M':Mx (aq S) (S.sx x (a % 2)).st l (T+1):=fun b hb aJ=>by
     show aM S.st x _ (b/2)=_;rw [Vy];by_cases gT:b/2=x
     ·rw [gT,bG];rcases jV (gT.trans hx) with e|e
      ·rw [e,if_pos (by simp)]
      ·exfalso;rw [e,di,uJ] at aJ;exact IV (Ne.symm (qU a)) VI Vm aJ
     ·rw [bt _ _ gT,hM b hb aJ,tk];have rK:b≠a:=fun e=>gT (by rw [e];exact hx.symm);by_cases h:b∈E1.map Prod.fst
      ·rw [if_pos h,if_pos (List.mem_append_left _ h)]
      ·rw [if_neg h,if_neg (by simp [rK];simpa using h)]
    have T':TK (aj l) (aq S) (S.sx x (a % 2))=TK (aj l) (aq S) S:=by
     refine WS.ext' (fun b=>?_) rfl rfl rfl rfl;rw [l9,l9];cases h1:aj l b with
     |true=>cases aj l (co b)<;>rfl
     |false=>
      cases h2:aj l (co b) with
      |true=>rfl
      |false=>exact bt _ _ (nk b h1)
    have rl':rl (S.sx x (a % 2)) D.n<=n+1:=by
     refine Nat.le_trans (sI (fun c hc=>?_) _) hn;have dh:aM S.st x (a % 2) c<=1:=hc;by_cases e:c=x
     ·rw [e];omega
     ·rwa [bt _ _ e] at dh
    have f': ∀u v,run X D (b0::L) ((S.sx x (a % 2)).sc u v)=run X D L ((TK (aj l) (aq S) S).cr.sc u v):=fun u v=>by
     have es:aq ((S.sx x (a % 2)).sc u v)=aq S:=s';have rs:rl ((S.sx x (a % 2)).sc u v) D.n<=n+1:=Nat.le_trans (sI (S:=S.sx x (a % 2)) (S':=(S.sx x (a % 2)).sc u v) (fun c h=>h) _) rl'
     have:=ihd ((S.sx x (a % 2)).sc u v) b0 l L rs (by omega) (B'.sc u v) (by rw [es];exact C) cS (by rw [es];exact Q'.sc u v) (by rw [es,bw];exact M') (fun c hc=>⟨(hL c hc).lt,(hL c hc).all⟩)
     rw [this,es,yI,T',WS.dV]
    have B5:Bd D (S.sx x 5):=CV hB (by omega) (.inr rfl);have s5: ∀c,c≠x->aq (S.sx x 5) c=aq S c:=fun c hc=>by
     unfold aq;refine decide_eq_decide.2 ?_;show (aM S.st x _ c=5\/aM S.st x _ c=2)↔_;rw [bt _ _ hc]
    have yY:aq (S.sx x 5) x=true:=sF.2 (.inl (bG _ _ _));have VE:rl (S.sx x 5) D.n<=n:=by
     have:rl (S.sx x 5) D.n<rl S D.n:=AX (x:=x) (fun c hc=>by
      have dh:aM S.st x 5 c<=1:=hc;by_cases e:c=x
      ·rw [e];omega
      ·rwa [bt _ _ e] at dh) (by omega) (by show¬aM S.st x 5 x<=1;rw [bG];omega) D.n zd
     omega
    have oF:=C.ch;rw [hl,hm] at oF;obtain ⟨mm,Cl,e1,AO⟩:=Iv D E1 _ _ _ oF;rw [e1] at Cl;obtain ⟨mm',DR,e2,hc4⟩:=Iv D m1 _ _ _ AO;rw [e2] at DR;clear e1 e2;have Nc: ∀b,b∈E1.map Prod.fst\/b∈m1.map Prod.fst\/b∈m2.map Prod.fst->b/2≠x:=fun b hb e=>by
     rcases jV (e.trans hx) with e|e<;>rw [e] at hb
     ·rcases hb with h|h|h
      ·exact na.1 h
      ·exact na.2.1 h
      ·exact na.2.2 h
     ·rcases hb with h|h|h
      ·exact nc.1 h
      ·exact nc.2.1 h
      ·exact nc.2.2 h
    have inl: ∀y:Nat×Bool,y∈E1\/y∈m1\/y∈m2->y∈l:=fun y hy=>by rw [hl,hm];rcases hy with h|h|h<;>simp [h]
    have mf: ∀{y:Nat×Bool} {E:List (Nat×Bool)},y∈E->y.1∈E.map Prod.fst:=fun h=>List.mem_map.2 ⟨_,h,rfl⟩;have Nk:(E1++(a,false)::m2).map Prod.fst=E1.map Prod.fst++a::m2.map Prod.fst:=by simp
    have Nj:(m1++[(co a,false)]).map Prod.fst=m1.map Prod.fst++[co a]:=by simp
    have E9:(E1.map Prod.fst++a::m2.map Prod.fst).Sublist (l.map Prod.fst):=by
     rw [uJ];refine (List.Sublist.refl _).append (.cons_cons _ ?_);exact (List.sublist_cons_self _ _).trans (List.sublist_append_right _ _)
    have E8:(m1.map Prod.fst++[co a]).Sublist (l.map Prod.fst):=by
     rw [uJ];refine List.Sublist.trans ?_ (List.sublist_append_right _ _);refine .cons _ ?_;exact (List.Sublist.refl _).append ((List.nil_sublist _).cons_cons _)
    have Ca:im D (aj (E1++(a,false)::m2)) (aq (S.sx x 5)) (E1++(a,false)::m2) b0:=by
     refine im.make hD (Di E1 _ _ a _ Cl ⟨rfl,hc4⟩) (by simp) (fun y hy=>?_) (by rw [Nk];exact C.nd.sublist E9) (fun y hy=>?_)
     ·rcases List.mem_append.1 hy with h|h
      ·exact C.lt y (inl y (.inl h))
      ·rcases List.mem_cons.1 h with h|h
       ·rw [h];exact bZ
       ·exact C.lt y (inl y (.inr (.inr h)))
     ·rcases List.mem_append.1 hy with h|h
      ·rw [s5 _ (Nc _ (.inl (mf h)))];exact C.ty y (inl y (.inl h))
      ·rcases List.mem_cons.1 h with h|h
       ·rw [h];show false= !aq _ (a/2);rw [←hx,yY];rfl
       ·rw [s5 _ (Nc _ (.inr (.inr (mf h))))];exact C.ty y (inl y (.inr (.inr h)))
    have Np: ∀b,aj (E1++(a,false)::m2) b=true↔b∈E1.map Prod.fst\/b=a\/b∈m2.map Prod.fst:=fun b=>by rw [my,Nk];simp
    have DB: ∀b,aj (m1++[(co a,false)]) b=true↔b∈m1.map Prod.fst\/b=co a:=fun b=>by rw [my,Nj];simp
    have oe: ∀b,aj l b=(aj (E1++(a,false)::m2) b||aj (m1++[(co a,false)]) b):=fun b=>by
     rw [Bool.eq_iff_iff,kl,Bool.or_eq_true,Np,DB];constructor
     ·rintro (h|h|h|h|h)<;>simp [h]
     ·rintro ((h|h|h)|(h|h))<;>simp [h]
    have ym: ∀b,aj (m1++[(co a,false)]) b=true->aj (E1++(a,false)::m2) b=false:=fun b hb=>by
     rw [←Bool.not_eq_true,Np];rcases (DB b).1 hb with h|h
     ·rintro (h'|h'|h')
      ·exact q3 _ h' _ (by simp [h]) rfl
      ·exact na.2.1 (h'▸h)
      ·exact q8 _ h _ (.tail _ h') rfl
     ·rw [h];rintro (h'|h'|h')
      ·exact nc.1 h'
      ·exact qU a h'
      ·exact nc.2.2 h'
    have ua: ∀b,aj (E1++(a,false)::m2) b=true->S.ae b=false:=fun b hb=>cS b (by rw [oe,hb];rfl);have Qa:QK D (aj (E1++(a,false)::m2)) (aq (S.sx x 5)) (fun b=>co b % 2) (S.sx x 5).st (E1++(a,false)::m2) (S.sx x 5) D.n:=by
     refine QK.of B5 Ca ua fun b hb k1 k2 k3=>?_;have gT:b/2≠x:=fun e=>by
      have:(S.sx x 5).st (b/2)=5:=by rw [e];exact bG _ _ _
      omega
     have e5:(S.sx x 5).st (b/2)=S.st (b/2):=bt _ _ gT;rw [e5] at k3⊢;have uU:aj l (co b)=true:=by rw [oe,k2];rfl
     cases eT:aj l b with
     |false=>
      have e:=hq.q b hb eT uU (by omega);rw [cS _ uU] at e;rw [e] at k3⊢;revert k3;unfold cj;cases aq S (b/2)<;>cases S.ae b<;>simp
     |true=>
      have V6:aq S (b/2)=false:=rZ.2 (by omega);have iE:b∈m1.map Prod.fst:=by
       rw [oe,k1,Bool.false_or] at eT;rcases (DB b).1 eT with h|h
       ·exact h
       ·exact absurd (by rw [h];exact s6) gT
      have nE:b∉E1.map Prod.fst:=fun h=>q3 _ h _ (by simp [iE]) rfl;rcases (Np _).1 k2 with h|h|h
      ·have:=hM (co b) (by rw [bV];exact V6) (by
        rw [di,uJ];exact (List.singleton_sublist.2 h).append (List.singleton_sublist.2 (by simp [iE])))
       rw [tk,if_pos h,bV] at this;exact this
      ·exact absurd (by rw [←bV b,h];exact hx.symm) gT
      ·have:=hM b V6 (by
        rw [uJ];refine List.Sublist.trans (.cons _ ?_) (List.sublist_append_right _ _)
        have:=(List.singleton_sublist.2 iE).append (List.singleton_sublist.2 h)
        exact this.trans ((List.sublist_cons_self _ _).append_left _))
       rw [tk,if_neg nE] at this;exact this
    have Ma:Mx (aq (S.sx x 5)) (S.sx x 5).st (E1++(a,false)::m2) T:=fun b hb aJ=>by
     have gT:b/2≠x:=fun e=>by rw [e,yY] at hb;cases hb
     rw [s5 _ gT] at hb;rw [Nk] at aJ⊢
     have:=hM b hb (aJ.trans E9)
     rw [tk] at this;have e5:(S.sx x 5).st (b/2)=S.st (b/2):=bt _ _ gT;rw [e5,this,←O0,←List.length_map (f:=Prod.fst) (as:=E1),List.take_left]
    have B3:iv D a true<2*D.n:=hD.lt _ bZ;have Vw: ∀b,aj (m1++[(co a,false)]) b=true->S.ae b=false:=fun b hb=>cS b (by rw [oe,hb,Bool.or_true]);have mJ: ∀T1,T1=TK (aj (E1++(a,false)::m2)) (aq (S.sx x 5)) (S.sx x 5)->Bd D T1->(∀u v,run X D (iv D a true::L) (T1.cr.sc u v)=run X D L ((TK (aj l) (aq S) S).cr.cr.sc u v)):=fun T1 bw GQ u v=>by
     have yW: ∀b,T1.st (b/2)=if aj (E1++(a,false)::m2) b&&aj (E1++(a,false)::m2) (co b) then 4 else if aj (E1++(a,false)::m2) (co b) then (if S.ae b then 4 else if aq (S.sx x 5) (b/2) then 2 else 3) else if aj (E1++(a,false)::m2) b then (if S.ae (co b) then 4 else if aq (S.sx x 5) (b/2) then 2 else 3) else (S.sx x 5).st (b/2):=fun b=>by rw [bw];exact l9 _ _
     have v7: ∀b,aj (m1++[(co a,false)]) b=true->aq T1 (b/2)=aq (S.sx x 5) (b/2):=fun b hb=>by
      have h1:=ym b hb;have nC:=Vw b hb
      have:=yW b
      rw [h1,nC] at this;cases hc:aj (E1++(a,false)::m2) (co b) with
      |false=>rw [hc] at this;unfold aq;simp at this;rw [this]
      |true=>
       rw [hc] at this;cases hs5:aq (S.sx x 5) (b/2) with
       |true=>rw [hs5] at this;exact sF.2 (.inr this)
       |false=>rw [hs5] at this;simp at this;exact rZ.2 (by omega)
     have qA:aj (m1++[(co a,false)]) (co a)=true:=(DB _).2 (.inr rfl);have Cb:im D (aj (m1++[(co a,false)])) (aq T1) (m1++[(co a,false)]) (iv D a true):=by
      refine im.make hD (Di m1 _ _ (co a) _ DR ⟨rfl,by show D.nx (co (co a))=D.nx a;rw [di]⟩) (by simp) (fun y hy=>?_) (by rw [Nj];exact C.nd.sublist E8) (fun y hy=>?_)
      ·rcases List.mem_append.1 hy with h|h
       ·exact C.lt y (inl y (.inr (.inl h)))
       ·rw [List.mem_singleton] at h;rw [h];exact aY
      ·rcases List.mem_append.1 hy with h|h
       ·rw [v7 _ ((DB _).2 (.inl (mf h))),s5 _ (Nc _ (.inr (.inl (mf h))))];exact C.ty y (inl y (.inr (.inl h)))
       ·rw [List.mem_singleton] at h;rw [h];show false= !aq T1 (co a/2);rw [v7 _ qA,s6,yY];rfl
     have u2: ∀b,aj (m1++[(co a,false)]) b=true->T1.ae b=false:=fun b hb=>by
      rw [bw];show (S.ae b||aj (E1++(a,false)::m2) b)=false;rw [ym b hb,Vw b hb];rfl
     have Qb:QK D (aj (m1++[(co a,false)])) (aq T1) (fun b=>co b % 2) T1.st (m1++[(co a,false)]) T1 D.n:=by
      refine QK.of GQ Cb u2 fun b hb k1 k2 k3=>?_;have h1:=ym _ k2;have uU:aj l (co b)=true:=by rw [oe,k2,Bool.or_true]
      have:=yW b
      rw [h1,cS _ uU] at this;cases iE:aj (E1++(a,false)::m2) b with
      |true=>
       rw [iE] at this;simp at this;rw [this] at k3
       split at k3<;>omega
      |false=>
       rw [iE] at this;have e3:T1.st (b/2)=(S.sx x 5).st (b/2):=by simpa using this
       have eT:aj l b=false:=by rw [oe,iE,k1];rfl
       have e4:(S.sx x 5).st (b/2)=S.st (b/2):=bt _ _ (nk b eT);rw [e3,e4] at k3⊢;have e:=hq.q b hb eT uU (by omega);rw [cS _ uU] at e;rw [e] at k3⊢;revert k3;unfold cj;cases aq S (b/2)<;>cases S.ae b<;>simp
     have Mb:Mx (aq T1) T1.st (m1++[(co a,false)]) 0:=fun b hb aJ=>by
      have ka:aj (m1++[(co a,false)]) b=true:=my.2 (aJ.subset (by simp));have kc:aj (m1++[(co a,false)]) (co b)=true:=my.2 (aJ.subset (by simp));rw [v7 b ka] at hb;have gT:b/2≠x:=fun e=>by rw [e,yY] at hb;cases hb
      rw [s5 _ gT] at hb
      have:=yW b
      rw [ym b ka,ym _ kc] at this;have e3:T1.st (b/2)=(S.sx x 5).st (b/2):=by simpa using this
      rw [e3,show (S.sx x 5).st (b/2)=S.st (b/2) from bt _ _ gT];rw [Nj] at aJ;have h2:=hM b hb (aJ.trans E8);have iE:b∈m1.map Prod.fst:=by
       rcases (DB b).1 ka with h|h
       ·exact h
       ·exact absurd (by rw [h];exact s6) gT
      rw [tk,if_neg fun h=>q3 _ h _ (by simp [iE]) rfl] at h2;rw [h2];simp
     have rlT:rl (T1.cr.sc u v) D.n<=n:=by
      refine Nat.le_trans (sI (S:=S.sx x 5) (S':=T1.cr.sc u v) (fun c h=>?_) _) VE;have h':T1.st c<=1:=h;rw [bw] at h';exact HI h'
     have k1:=ihn (m1++[(co a,false)]).length (T1.cr.sc u v) (iv D a true) (m1++[(co a,false)]) L rlT (Nat.le_refl _) (GQ.cr.sc u v) Cb u2 (Qb.cr.sc u v) (by rw [Nat.sub_self];exact Mb) (fun c hc=>⟨(hL c hc).lt,fun b hb nC=>(hL c hc).all b hb ?_⟩)
     ·rw [k1];show run X D L (TK _ (aq T1) (T1.cr.sc u v)).cr=_;rw [yI,D4]
      have:TK (aj (m1++[(co a,false)])) (aq T1) T1=TK (aj l) (aq S) S:=by
       refine WS.ext' (fun b=>?_) (funext fun b=>?_) ?_ ?_ ?_
       ·rw [l9,l9];have tv: ∀b,T1.ae b=(S.ae b||aj (E1++(a,false)::m2) b):=fun b=>by rw [bw];rfl
        rw [oe,oe,tv,tv];have gT:aj l b=false\/aj l (co b)=false->b/2≠x:=fun h e=>by
         rcases h with h|h
         ·exact nk b h e
         ·exact nk (co b) h (by rw [bV];exact e)
        have ts:=yW b;have n1:=ym b;have n2:=ym (co b);rw [oe b,oe (co b)] at gT;have MU:=v7 b;have E6:=v7 (co b);rw [bV] at E6;have yZ:=s5 (b/2);have M3:b/2≠x->(S.sx x 5).st (b/2)=S.st (b/2):=fun h=>bt _ _ h;cases a3:aj (m1++[(co a,false)]) b with
        |true=>
         have a1:=n1 a3;cases a4:aj (m1++[(co a,false)]) (co b) with
         |true=>simp only [a1,n2 a4,Bool.or_true,Bool.and_self,if_true]
         |false=>
          cases a2:aj (E1++(a,false)::m2) (co b) with
          |true=>simp [a1]
          |false=>
           have gX:=gT (.inr (by rw [a2,a4];rfl));rw [MU a3,yZ gX,a1];simp
        |false=>
         cases a4:aj (m1++[(co a,false)]) (co b) with
         |true=>
          have a2:=n2 a4;cases a1:aj (E1++(a,false)::m2) b with
          |true=>simp [a2]
          |false=>
           have gX:=gT (.inl (by rw [a1,a3];rfl));rw [E6 a4,yZ gX,a2];simp
         |false=>
          cases a1:aj (E1++(a,false)::m2) b with
          |true=>
           cases a2:aj (E1++(a,false)::m2) (co b) with
           |true=>
            rw [a1,a2] at ts;simp at ts⊢;exact ts
           |false=>
            have gX:=gT (.inr (by rw [a2,a4];rfl));rw [a1,a2,yZ gX] at ts;simp at ts⊢;exact ts
          |false=>
           have gX:=gT (.inl (by rw [a1,a3];rfl));cases a2:aj (E1++(a,false)::m2) (co b) with
           |true=>
            rw [a1,a2,yZ gX] at ts;simp at ts⊢;exact ts
           |false=>
            rw [a1,a2,M3 gX] at ts;simp at ts⊢;exact ts
       ·rw [bw];show ((S.ae b||_)||_)=(S.ae b||aj l b);rw [oe,Bool.or_assoc]
       ·rw [bw];rfl
       ·rw [bw];rfl
       ·rw [bw];rfl
      rw [this];rfl
     ·have vH:T1.ae b=false:=nC;rw [bw] at vH;have hv3:(S.ae b||aj (E1++(a,false)::m2) b)=false:=vH;exact (Bool.or_eq_false_iff.1 hv3).1
    have f5: ∀u v,run X D (b0::L) ((S.sx x 5).sc u v)=run X D L ((TK (aj l) (aq S) S).cr.cr.sc u v):=fun u v=>by
     have zw:b0<2*D.n:=C.vE C.hd;have oD:eI D (b0::L) ((S.sx x 5).sc u v):=⟨(hL _ zw).lt,(hL _ zw).all⟩;have w8:eI D (b0::iv D a true::L) ((S.sx x 5).sc u v):=⟨fun b hb=>by
      rcases List.mem_cons.1 hb with h|h
      ·rw [h];exact zw
      ·exact (hL _ B3).lt b h,fun b hb hv=>by
      rcases List.mem_cons.1 ((hL b0 zw).all b hb hv) with h|h
      ·rw [h];exact .head _
      ·exact .tail _ (.tail _ h)⟩
     rw [ord hD hP hX (B5.sc u v) oD w8];have rs:rl ((S.sx x 5).sc u v) D.n<=n:=Nat.le_trans (sI (S:=S.sx x 5) (S':=(S.sx x 5).sc u v) (fun c h=>h) _) VE;have k1:=ihn ((E1++(a,false)::m2).length-T) ((S.sx x 5).sc u v) b0 (E1++(a,false)::m2) (iv D a true::L) rs (Nat.sub_le _ _) (B5.sc u v) Ca ua (Qa.sc u v) (by
      have:(E1++(a,false)::m2).length-((E1++(a,false)::m2).length-T)=T:=by rw [List.length_append,List.length_cons];omega
      rw [this];exact Ma) (fun c hc=>⟨fun b hb=>by
       rcases List.mem_cons.1 hb with h|h
       ·rw [h];exact hc
       ·exact (hL _ B3).lt b h,fun b hb hv=>by
       rcases List.mem_cons.1 ((hL c hc).all b hb hv) with h|h
       ·rw [h];exact .head _
       ·exact .tail _ (.tail _ h)⟩)
     rw [k1];show run X D _ (TK _ (aq (S.sx x 5)) ((S.sx x 5).sc u v)).cr=_;rw [yI,WS.dV];refine mJ _ rfl ?_ u v;obtain ⟨p1,p2,p3⟩:=C8 (t:=0) (by omega) B5 Ca ua;have er:(fun b=>if (0:Nat)=0 then co b % 2 else b % 2)=fun b=>co b % 2:=funext fun b=>if_pos rfl;rw [er] at p2;have hB:=(vw (X:=X) hD p1 Ca p2 (p3.ord Ca.ty) (fun b=>by show co (co b)% 2=_;rw [di]) L).2
     refine hB.G9 rfl fun c=>?_
     show ((if aj (E1++(a,false)::m2) (2*c)&&aj (E1++(a,false)::m2) (2*c+1) then 4 else if aj (E1++(a,false)::m2) (2*c) then (if S.ae (2*c+1) then 4 else if aq (S.sx x 5) c then 2 else 3) else if aj (E1++(a,false)::m2) (2*c+1) then (if S.ae (2*c) then 4 else if aq (S.sx x 5) c then 2 else 3) else (put D (S.sx x 5) (E1++(a,false)::m2) 0).st c)<=1/\((if aj (E1++(a,false)::m2) (2*c)&&aj (E1++(a,false)::m2) (2*c+1) then 4 else if aj (E1++(a,false)::m2) (2*c) then (if S.ae (2*c+1) then 4 else if aq (S.sx x 5) c then 2 else 3) else if aj (E1++(a,false)::m2) (2*c+1) then (if S.ae (2*c) then 4 else if aq (S.sx x 5) c then 2 else 3) else (S.sx x 5).st c)<=1\/_))\/(if aj (E1++(a,false)::m2) (2*c)&&aj (E1++(a,false)::m2) (2*c+1) then 4 else if aj (E1++(a,false)::m2) (2*c) then (if S.ae (2*c+1) then 4 else if aq (S.sx x 5) c then 2 else 3) else if aj (E1++(a,false)::m2) (2*c+1) then (if S.ae (2*c) then 4 else if aq (S.sx x 5) c then 2 else 3) else (S.sx x 5).st c)=(if aj (E1++(a,false)::m2) (2*c)&&aj (E1++(a,false)::m2) (2*c+1) then 4 else if aj (E1++(a,false)::m2) (2*c) then (if S.ae (2*c+1) then 4 else if aq (S.sx x 5) c then 2 else 3) else if aj (E1++(a,false)::m2) (2*c+1) then (if S.ae (2*c) then 4 else if aq (S.sx x 5) c then 2 else 3) else (put D (S.sx x 5) (E1++(a,false)::m2) 0).st c)
     have NS:(put D (S.sx x 5) (E1++(a,false)::m2) 0).st c=if c<D.n/\(S.sx x 5).st c<=1 then gC (S.sx x 5) (E1++(a,false)::m2) 0 c else (S.sx x 5).st c:=rfl;have hg:=CU (S.sx x 5) (E1++(a,false)::m2) (t:=0) (by omega) c
     split
     ·exact .inr rfl
     split
     ·exact .inr rfl
     split
     ·exact .inr rfl
     ·rw [NS];by_cases h:c<D.n/\(S.sx x 5).st c<=1
      ·rw [if_pos h];exact .inl ⟨hg, .inl h.2⟩
      ·rw [if_neg h];exact .inr rfl
    have vF:S.ae (2*x)=false/\S.ae (2*x+1)=false:=uD hB zd (by omega);have sk: ∀u v,run X D (b0::L) ((S.sx x (pq D x)).sc (u-1) v)=run X D (b0::L) ((S.sx x (nq D x)).sc (u+1) v)+run X D (b0::L) ((S.sx x 5).sc u (v+1)):=fun u v=>by
     have:=A1 (X:=X) zd (hD.sg x zd) (b0::L) (S.sc u v) vF.1 vF.2 ((hL _ (C.vE C.hd)).all _ (by omega) vF.1)
     simp only [WS.tT,WS.bQ,Int.add_zero] at this;exact this
    have rX: ∀u v,run X D L ((TK (aj l) (aq S) S).cr.sc (u-1) v)=run X D L ((TK (aj l) (aq S) S).cr.sc (u+1) v)+run X D L ((TK (aj l) (aq S) S).cr.cr.sc u (v+1)):=fun u v=>by
     have:=HJ (D:=D) hX L ((TK (aj l) (aq S) S).cr.sc u v) (by show 1<=S.k+1;omega)
     simp only [WS.dV,WS.bQ,Int.add_zero] at this;exact this
    have eS:S.sx x (co a % 2)=S:=WS.ext' (fun b=>by
     show aM S.st x (co a % 2) (b/2)=_;by_cases e:b/2=x
     ·rw [e,bG,aR]
     ·rw [bt _ _ e]) rfl rfl rfl rfl
    have BV:(a % 2=pq D x/\co a % 2=nq D x)\/(a % 2=nq D x/\co a % 2=pq D x):=by
     unfold pq nq
     split<;>omega
    rcases BV with ⟨a1,a2⟩|⟨a1,a2⟩
    ·have h1:=sk (-1) 0;have h2:=rX (-1) 0;rw [←a1,←a2,f',f5,eS,show (-1:Int)+1=0 by omega,WS.bK] at h1;rw [show (-1:Int)+1=0 by omega,WS.bK] at h2;omega
    ·have h1:=sk 1 0;have h2:=rX 1 0;rw [←a1,←a2,f',f5,eS,show (1:Int)-1=0 by omega,WS.bK] at h1;rw [show (1:Int)-1=0 by omega,WS.bK] at h2;rw [h1,h2]
   ·--nothing changes
    have M':Mx (aq S) S.st l (T+1):=fun b hb aJ=>by
     rw [hM b hb aJ,tk,Vy];by_cases h:b∈E1.map Prod.fst
     ·rw [if_pos h,if_pos (List.mem_append_left _ h)]
     ·by_cases rK:b=a
      ·exfalso;subst rK;refine mU ⟨hb,?_⟩
       have:co b∈l.map Prod.fst:=aJ.subset (by simp)
       rw [hl,List.map_append,List.map_cons,List.mem_append,List.mem_cons] at this;rcases this with h1|h1|h1
       ·exfalso;have s2:[co b,b].Sublist (l.map Prod.fst):=by
         rw [hl,List.map_append,List.map_cons];exact (List.singleton_sublist.2 h1).append (List.singleton_sublist.2 (.head _))
        exact IV (Ne.symm (qU b)) C.nd aJ s2
       ·exact absurd h1 (qU b)
       ·exact h1
      ·rw [if_neg h,if_neg (by simp [rK];simpa using h)]
    exact ihd S b0 l L hn (by omega) hB C cS hq (by rw [bw];exact M') hL
end
end Hs
end Go.Proofs.YtjpbeacamoijhaaGreatDoor
