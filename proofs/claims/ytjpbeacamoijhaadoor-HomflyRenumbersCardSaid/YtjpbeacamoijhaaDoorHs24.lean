/- Plain: a circle above has the same value if it ascends. -/
import Derived.Test.YtjpbeacamoijhaaDoorHs13
namespace Go.Proofs.YtjpbeacamoijhaaDoor
set_option linter.unusedSimpArgs false
set_option linter.unusedVariables false
namespace Hs
open Sp (Sph siD PermN itn)
section
variable {D:Sh} {X:Int->Int->Nat->Int}
def Mx (sm:Nat->Bool) (st0:Nat->Nat) (l:List (Nat×Bool)) (T:Nat):Prop:= ∀a,sm (a/2)=false->[a,co a].Sublist (l.map Prod.fst)->st0 (a/2)=if a∈(l.map Prod.fst).take T then a % 2 else co a % 2
theorem yy3 {L1 L2 L3:List Nat} {a b:Nat}:[a,b].Sublist (L1++a::(L2++b::L3)):=by
 refine List.Sublist.trans ?_ (List.sublist_append_right _ _)
 refine .cons_cons _ ?_
 exact (List.singleton_sublist.2 (by simp))
theorem mixed (hD:Ok D) {al:Nat->Nat} (hP:Pla D al) (hX:Good X): ∀(n d:Nat) (S:WS) (b0:Nat) (l:List (Nat×Bool)) (L:List Nat),rl S D.n<=n->d<=l.length->Bd D S->Crc D (kOf l) (sm0 S) l b0->(∀a,kOf l a=true->S.vis a=false)->QK D (kOf l) (sm0 S) (fun b=>co b % 2) S.st l S D.n->Mx (sm0 S) S.st l (l.length-d)->(∀c,c<2*D.n->Cov D (c::L) S)->
  run X D (b0::L) S=run X D L (TK (kOf l) (sm0 S) S).cr:=fun n=>by
 induction n with
 |zero=>
  intro d S b0 l L hn hd hB C hun hq hM hL
  have hr: ∀a,(fun b=>co b % 2) (co a)=a % 2:=fun a=>by show co (co a)% 2=_;rw [yax]
  have hO:Orc' (sm0 S) S.st l:=fun a ha hsub=>by
   exfalso
   have ka:kOf l a=true:=ybq.2 (hsub.subset (by simp))
   have kc:kOf l (co a)=true:=ybq.2 (hsub.subset (by simp))
   have hal:=C.lt' ka
   have e:=hq.q2 a hal ka kc
   have hs:=yeo.1 ha
   have f:=hB a hal
   unfold Fit FitP at f
   rw [hun a ka,hun _ kc] at f
   have h1:S.st (a/2)<=1:=by
    rcases f with ⟨h,_⟩|⟨_,h,_⟩|⟨_,_,h⟩|⟨_,_,h⟩
    ·omega
    ·cases h
    ·cases h
    ·cases h
   have:rl S D.n≠0:=by
    have key: ∀m,a/2<m->0<rl S m:=fun m=>by
     induction m with
     |zero=>intro h;omega
     |succ m ih=>
      intro h
      simp only [rl]
      by_cases e:a/2=m
      ·rw [←e,if_pos h1];omega
      ·have:=ih (by omega);omega
    have:=key D.n (by omega)
    omega
   omega
  exact (ydb (X:=X) hD hB C hq (hO.ord C.ty) hr L).1
 |succ n ihn=>
  intro d
  induction d with
  |zero=>
   intro S b0 l L hn hd hB C hun hq hM hL
   have hr: ∀a,(fun b=>co b % 2) (co a)=a % 2:=fun a=>by show co (co a)% 2=_;rw [yax]
   have hO:Orc' (sm0 S) S.st l:=fun a ha hsub=>by
    have:=hM a ha hsub
    rwa [if_pos] at this
    rw [List.take_of_length_le (by rw [List.length_map];omega)]
    exact hsub.subset (by simp)
   exact (ydb (X:=X) hD hB C hq (hO.ord C.ty) hr L).1
  |succ d ihd=>
   intro S b0 l L hn hd hB C hun hq hM hL
   obtain ⟨T,hT⟩: ∃T,T=l.length-(d+1):=⟨_,rfl⟩
   have hTl:T<l.length:=by omega
   have hT1:l.length-d=T+1:=by omega
   rw [←hT] at hM
   obtain ⟨E1,⟨a,p⟩,E2,hl,hE1⟩: ∃(E1:List (Nat×Bool)) (x:Nat×Bool) (E2:List (Nat×Bool)),l=E1++x::E2/\E1.length=T:=⟨l.take T,l[T],l.drop (T+1),by rw [←List.drop_eq_getElem_cons hTl,List.take_append_drop],by rw [List.length_take];omega⟩
   have tk:(l.map Prod.fst).take T=E1.map Prod.fst:=by rw [hl,List.map_append,←hE1,←List.length_map (f:=Prod.fst) (as:=E1),List.take_left]
   have tk1:(l.map Prod.fst).take (T+1)=E1.map Prod.fst++[a]:=by
    have h1:l.map Prod.fst=(E1.map Prod.fst++[a])++E2.map Prod.fst:=by rw [hl];simp
    have h2:T+1=(E1.map Prod.fst++[a]).length:=by simp [hE1]
    rw [h1,h2,List.take_left]
   have hka:kOf l a=true:=ybq.2 (by rw [hl];simp)
   have hal:=C.lt' hka
   have hp:p= !sm0 S (a/2):=C.ty (a,p) (by rw [hl];simp)
   have hnd:=C.nd
   rw [hl,List.map_append,List.map_cons] at hnd
   by_cases hself:sm0 S (a/2)=false/\co a∈E2.map Prod.fst
   ·--the first visit of a crossing of the circle with itself
    obtain ⟨hs,hin⟩:=hself
    have hp1:p=true:=by rw [hp,hs];rfl
    subst hp1
    obtain ⟨x,hx⟩: ∃x,x=a/2:=⟨_,rfl⟩
    have hcx:co a/2=x:=by rw [yao];exact hx.symm
    have hcl:=ya4 hal
    have hxn:x<D.n:=by omega
    obtain ⟨⟨c0,pc⟩,hcm,e⟩:=List.mem_map.1 hin
    have e':c0=co a:=e
    subst e'
    obtain ⟨m1,m2,hm⟩:=List.append_of_mem hcm
    have hkc:kOf l (co a)=true:=ybq.2 (by rw [hl,hm];simp)
    have hpc:pc=true:=by
     have:pc= !sm0 S (co a/2):=C.ty (co a,pc) (by rw [hl,hm];simp)
     rw [this,hcx,hx,hs];rfl
    subst hpc
    have lml:l.map Prod.fst=E1.map Prod.fst++a::(m1.map Prod.fst++co a::m2.map Prod.fst):=by rw [hl,hm];simp
    have nd1:(E1.map Prod.fst++a::(m1.map Prod.fst++co a::m2.map Prod.fst)).Nodup:=lml▸C.nd
    obtain ⟨q1,q2,q3⟩:=List.nodup_append.1 nd1
    obtain ⟨q4,q5⟩:=List.nodup_cons.1 q2
    obtain ⟨q6,q7,q8⟩:=List.nodup_append.1 q5
    obtain ⟨q9,q10⟩:=List.nodup_cons.1 q7
    have na:a∉E1.map Prod.fst/\a∉m1.map Prod.fst/\a∉m2.map Prod.fst:=⟨fun h=>q3 _ h _ (.head _) rfl,fun h=>q4 (by simp [h]),fun h=>q4 (by simp [h])⟩
    have nc:co a∉E1.map Prod.fst/\co a∉m1.map Prod.fst/\co a∉m2.map Prod.fst:=⟨fun h=>q3 _ h _ (by simp) rfl,fun h=>q8 _ h _ (.head _) rfl,q9⟩
    have hst:S.st x=co a % 2:=by
     have:=hM a hs (by rw [lml];exact yy3)
     rw [tk,if_neg na.1] at this
     rw [hx];exact this
    have hb2:a % 2<=1:=by omega
    have hcm2:=yg1 a
    have kl: ∀b,kOf l b=true↔b∈E1.map Prod.fst\/b=a\/b∈m1.map Prod.fst\/b=co a\/b∈m2.map Prod.fst:=fun b=>by rw [ybq,lml];simp
    have nk: ∀b,kOf l b=false->b/2≠x:=fun b h1 e=>by
     rcases ybi (e.trans hx) with e|e
     ·rw [e,hka] at h1;cases h1
     ·rw [e,hkc] at h1;cases h1
    have B':Bd D (S.sx x (a % 2)):=ynb hB (by omega) (.inl (by omega))
    have s':sm0 (S.sx x (a % 2))=sm0 S:=funext fun c=>by
     unfold sm0
     refine decide_eq_decide.2 ?_
     show (upd S.st x _ c=5\/upd S.st x _ c=2)↔_
     by_cases hc:c=x
     ·subst hc;rw [yac];omega
     ·rw [yae _ _ hc]
    have Q':QK D (kOf l) (sm0 S) (fun b=>co b % 2) (S.sx x (a % 2)).st l (S.sx x (a % 2)) D.n:=by
     have:=QK.of (r:=fun b=>co b % 2) B' (s'▸C) hun fun b hb k1 k2 k3=>by
      have e5:(S.sx x (a % 2)).st (b/2)=S.st (b/2):=yae _ _ (nk b k1)
      rw [e5] at k3⊢
      have e:=hq.q b hb k1 k2 (by omega)
      rw [hun _ k2] at e
      rw [e] at k3⊢
      revert k3
      unfold tab
      cases sm0 S (b/2)<;>cases S.vis b<;>simp
     rwa [s'] at this
    have M':Mx (sm0 S) (S.sx x (a % 2)).st l (T+1):=fun b hb hsub=>by
     show upd S.st x _ (b/2)=_
     rw [tk1]
     by_cases hbx:b/2=x
     ·rw [hbx,yac]
      rcases ybi (hbx.trans hx) with e|e
      ·rw [e,if_pos (by simp)]
      ·exfalso
       rw [e,yax,lml] at hsub
       exact yiz (Ne.symm (ycw a)) nd1 yy3 hsub
     ·rw [yae _ _ hbx,hM b hb hsub,tk]
      have hba:b≠a:=fun e=>hbx (by rw [e];exact hx.symm)
      by_cases h:b∈E1.map Prod.fst
      ·rw [if_pos h,if_pos (List.mem_append_left _ h)]
      ·rw [if_neg h,if_neg (by simp [hba];simpa using h)]
    have T':TK (kOf l) (sm0 S) (S.sx x (a % 2))=TK (kOf l) (sm0 S) S:=by
     refine WS.ext' (fun b=>?_) rfl rfl rfl rfl
     rw [yb3,yb3]
     cases h1:kOf l b with
     |true=>cases kOf l (co b)<;>rfl
     |false=>
      cases h2:kOf l (co b) with
      |true=>rfl
      |false=>exact yae _ _ (nk b h1)
    have rl':rl (S.sx x (a % 2)) D.n<=n+1:=by
     refine Nat.le_trans (ycp (fun c hc=>?_) _) hn
     have hc':upd S.st x (a % 2) c<=1:=hc
     by_cases e:c=x
     ·rw [e];omega
     ·rwa [yae _ _ e] at hc'
    have f': ∀u v,run X D (b0::L) ((S.sx x (a % 2)).sc u v)=run X D L ((TK (kOf l) (sm0 S) S).cr.sc u v):=fun u v=>by
     have es:sm0 ((S.sx x (a % 2)).sc u v)=sm0 S:=s'
     have rs:rl ((S.sx x (a % 2)).sc u v) D.n<=n+1:=Nat.le_trans (ycp (S:=S.sx x (a % 2)) (S':=(S.sx x (a % 2)).sc u v) (fun c h=>h) _) rl'
     have:=ihd ((S.sx x (a % 2)).sc u v) b0 l L rs (by omega) (B'.sc u v) (by rw [es];exact C) hun (by rw [es];exact Q'.sc u v) (by rw [es,hT1];exact M') (fun c hc=>⟨(hL c hc).lt,(hL c hc).all⟩)
     rw [this,es,ygg,T',WS.sc_cr]
    have B5:Bd D (S.sx x 5):=ynb hB (by omega) (.inr rfl)
    have s5: ∀c,c≠x->sm0 (S.sx x 5) c=sm0 S c:=fun c hc=>by
     unfold sm0
     refine decide_eq_decide.2 ?_
     show (upd S.st x _ c=5\/upd S.st x _ c=2)↔_
     rw [yae _ _ hc]
    have s5x:sm0 (S.sx x 5) x=true:=yen.2 (.inl (yac _ _ _))
    have rl5:rl (S.sx x 5) D.n<=n:=by
     have:rl (S.sx x 5) D.n<rl S D.n:=ykr (x:=x) (fun c hc=>by
      have hc':upd S.st x 5 c<=1:=hc
      by_cases e:c=x
      ·rw [e];omega
      ·rwa [yae _ _ e] at hc') (by omega) (by show¬upd S.st x 5 x<=1;rw [yac];omega) D.n hxn
     omega
    have hch:=C.ch
    rw [hl,hm] at hch
    obtain ⟨mm,hc1,e1,hc2⟩:=ykq D E1 _ _ _ hch
    rw [e1] at hc1
    obtain ⟨mm',hc3,e2,hc4⟩:=ykq D m1 _ _ _ hc2
    rw [e2] at hc3
    clear e1 e2
    have neb: ∀b,b∈E1.map Prod.fst\/b∈m1.map Prod.fst\/b∈m2.map Prod.fst->b/2≠x:=fun b hb e=>by
     rcases ybi (e.trans hx) with e|e<;>rw [e] at hb
     ·rcases hb with h|h|h
      ·exact na.1 h
      ·exact na.2.1 h
      ·exact na.2.2 h
     ·rcases hb with h|h|h
      ·exact nc.1 h
      ·exact nc.2.1 h
      ·exact nc.2.2 h
    have inl: ∀y:Nat×Bool,y∈E1\/y∈m1\/y∈m2->y∈l:=fun y hy=>by rw [hl,hm];rcases hy with h|h|h<;>simp [h]
    have mf: ∀{y:Nat×Bool} {E:List (Nat×Bool)},y∈E->y.1∈E.map Prod.fst:=fun h=>List.mem_map.2 ⟨_,h,rfl⟩
    have lma:(E1++(a,false)::m2).map Prod.fst=E1.map Prod.fst++a::m2.map Prod.fst:=by simp
    have lmb:(m1++[(co a,false)]).map Prod.fst=m1.map Prod.fst++[co a]:=by simp
    have suba:(E1.map Prod.fst++a::m2.map Prod.fst).Sublist (l.map Prod.fst):=by
     rw [lml]
     refine (List.Sublist.refl _).append (.cons_cons _ ?_)
     exact (List.sublist_cons_self _ _).trans (List.sublist_append_right _ _)
    have subb:(m1.map Prod.fst++[co a]).Sublist (l.map Prod.fst):=by
     rw [lml]
     refine List.Sublist.trans ?_ (List.sublist_append_right _ _)
     refine .cons _ ?_
     exact (List.Sublist.refl _).append ((List.nil_sublist _).cons_cons _)
    have Ca:Crc D (kOf (E1++(a,false)::m2)) (sm0 (S.sx x 5)) (E1++(a,false)::m2) b0:=by
     refine Crc.make hD (yg2 E1 _ _ a _ hc1 ⟨rfl,hc4⟩) (by simp) (fun y hy=>?_) (by rw [lma];exact C.nd.sublist suba) (fun y hy=>?_)
     ·rcases List.mem_append.1 hy with h|h
      ·exact C.lt y (inl y (.inl h))
      ·rcases List.mem_cons.1 h with h|h
       ·rw [h];exact hal
       ·exact C.lt y (inl y (.inr (.inr h)))
     ·rcases List.mem_append.1 hy with h|h
      ·rw [s5 _ (neb _ (.inl (mf h)))];exact C.ty y (inl y (.inl h))
      ·rcases List.mem_cons.1 h with h|h
       ·rw [h];show false= !sm0 _ (a/2);rw [←hx,s5x];rfl
       ·rw [s5 _ (neb _ (.inr (.inr (mf h))))];exact C.ty y (inl y (.inr (.inr h)))
    have kai: ∀b,kOf (E1++(a,false)::m2) b=true↔b∈E1.map Prod.fst\/b=a\/b∈m2.map Prod.fst:=fun b=>by rw [ybq,lma];simp
    have kbi: ∀b,kOf (m1++[(co a,false)]) b=true↔b∈m1.map Prod.fst\/b=co a:=fun b=>by rw [ybq,lmb];simp
    have klo: ∀b,kOf l b=(kOf (E1++(a,false)::m2) b||kOf (m1++[(co a,false)]) b):=fun b=>by
     rw [Bool.eq_iff_iff,kl,Bool.or_eq_true,kai,kbi]
     constructor
     ·rintro (h|h|h|h|h)<;>simp [h]
     ·rintro ((h|h|h)|(h|h))<;>simp [h]
    have kab: ∀b,kOf (m1++[(co a,false)]) b=true->kOf (E1++(a,false)::m2) b=false:=fun b hb=>by
     rw [←Bool.not_eq_true,kai]
     rcases (kbi b).1 hb with h|h
     ·rintro (h'|h'|h')
      ·exact q3 _ h' _ (by simp [h]) rfl
      ·exact na.2.1 (h'▸h)
      ·exact q8 _ h _ (.tail _ h') rfl
     ·rw [h]
      rintro (h'|h'|h')
      ·exact nc.1 h'
      ·exact ycw a h'
      ·exact nc.2.2 h'
    have ua: ∀b,kOf (E1++(a,false)::m2) b=true->S.vis b=false:=fun b hb=>hun b (by rw [klo,hb];rfl)
    have Qa:QK D (kOf (E1++(a,false)::m2)) (sm0 (S.sx x 5)) (fun b=>co b % 2) (S.sx x 5).st (E1++(a,false)::m2) (S.sx x 5) D.n:=by
     refine QK.of B5 Ca ua fun b hb k1 k2 k3=>?_
     have hbx:b/2≠x:=fun e=>by
      have:(S.sx x 5).st (b/2)=5:=by rw [e];exact yac _ _ _
      omega
     have e5:(S.sx x 5).st (b/2)=S.st (b/2):=yae _ _ hbx
     rw [e5] at k3⊢
     have hkc2:kOf l (co b)=true:=by rw [klo,k2];rfl
     cases hkb:kOf l b with
     |false=>
      have e:=hq.q b hb hkb hkc2 (by omega)
      rw [hun _ hkc2] at e
      rw [e] at k3⊢
      revert k3
      unfold tab
      cases sm0 S (b/2)<;>cases S.vis b<;>simp
     |true=>
      have hsb:sm0 S (b/2)=false:=yeo.2 (by omega)
      have hb1:b∈m1.map Prod.fst:=by
       rw [klo,k1,Bool.false_or] at hkb
       rcases (kbi b).1 hkb with h|h
       ·exact h
       ·exact absurd (by rw [h];exact hcx) hbx
      have nE:b∉E1.map Prod.fst:=fun h=>q3 _ h _ (by simp [hb1]) rfl
      rcases (kai _).1 k2 with h|h|h
      ·have:=hM (co b) (by rw [yao];exact hsb) (by
        rw [yax,lml]
        exact (List.singleton_sublist.2 h).append (List.singleton_sublist.2 (by simp [hb1])))
       rw [tk,if_pos h,yao] at this
       exact this
      ·exact absurd (by rw [←yao b,h];exact hx.symm) hbx
      ·have:=hM b hsb (by
        rw [lml]
        refine List.Sublist.trans (.cons _ ?_) (List.sublist_append_right _ _)
        have:=(List.singleton_sublist.2 hb1).append (List.singleton_sublist.2 h)
        exact this.trans ((List.sublist_cons_self _ _).append_left _))
       rw [tk,if_neg nE] at this
       exact this
    have Ma:Mx (sm0 (S.sx x 5)) (S.sx x 5).st (E1++(a,false)::m2) T:=fun b hb hsub=>by
     have hbx:b/2≠x:=fun e=>by rw [e,s5x] at hb;cases hb
     rw [s5 _ hbx] at hb
     rw [lma] at hsub⊢
     have:=hM b hb (hsub.trans suba)
     rw [tk] at this
     have e5:(S.sx x 5).st (b/2)=S.st (b/2):=yae _ _ hbx
     rw [e5,this,←hE1,←List.length_map (f:=Prod.fst) (as:=E1),List.take_left]
    have hnl:nof D a true<2*D.n:=hD.lt _ hal
    have ub0: ∀b,kOf (m1++[(co a,false)]) b=true->S.vis b=false:=fun b hb=>hun b (by rw [klo,hb,Bool.or_true])
    have hT5: ∀T1,T1=TK (kOf (E1++(a,false)::m2)) (sm0 (S.sx x 5)) (S.sx x 5)->Bd D T1->(∀u v,run X D (nof D a true::L) (T1.cr.sc u v)=run X D L ((TK (kOf l) (sm0 S) S).cr.cr.sc u v)):=fun T1 hT1 hBT u v=>by
     have tst: ∀b,T1.st (b/2)=if kOf (E1++(a,false)::m2) b&&kOf (E1++(a,false)::m2) (co b) then 4 else if kOf (E1++(a,false)::m2) (co b) then (if S.vis b then 4 else if sm0 (S.sx x 5) (b/2) then 2 else 3) else if kOf (E1++(a,false)::m2) b then (if S.vis (co b) then 4 else if sm0 (S.sx x 5) (b/2) then 2 else 3) else (S.sx x 5).st (b/2):=fun b=>by rw [hT1];exact yb3 _ _
     have tsm: ∀b,kOf (m1++[(co a,false)]) b=true->sm0 T1 (b/2)=sm0 (S.sx x 5) (b/2):=fun b hb=>by
      have h1:=kab b hb
      have hvb:=ub0 b hb
      have:=tst b
      rw [h1,hvb] at this
      cases hc:kOf (E1++(a,false)::m2) (co b) with
      |false=>rw [hc] at this;unfold sm0;simp at this;rw [this]
      |true=>
       rw [hc] at this
       cases hs5:sm0 (S.sx x 5) (b/2) with
       |true=>rw [hs5] at this;exact yen.2 (.inr this)
       |false=>rw [hs5] at this;simp at this;exact yeo.2 (by omega)
     have hcb:kOf (m1++[(co a,false)]) (co a)=true:=(kbi _).2 (.inr rfl)
     have Cb:Crc D (kOf (m1++[(co a,false)])) (sm0 T1) (m1++[(co a,false)]) (nof D a true):=by
      refine Crc.make hD (yg2 m1 _ _ (co a) _ hc3 ⟨rfl,by show D.nx (co (co a))=D.nx a;rw [yax]⟩) (by simp) (fun y hy=>?_) (by rw [lmb];exact C.nd.sublist subb) (fun y hy=>?_)
      ·rcases List.mem_append.1 hy with h|h
       ·exact C.lt y (inl y (.inr (.inl h)))
       ·rw [List.mem_singleton] at h;rw [h];exact hcl
      ·rcases List.mem_append.1 hy with h|h
       ·rw [tsm _ ((kbi _).2 (.inl (mf h))),s5 _ (neb _ (.inr (.inl (mf h))))];exact C.ty y (inl y (.inr (.inl h)))
       ·rw [List.mem_singleton] at h;rw [h]
        show false= !sm0 T1 (co a/2)
        rw [tsm _ hcb,hcx,s5x];rfl
     have u2: ∀b,kOf (m1++[(co a,false)]) b=true->T1.vis b=false:=fun b hb=>by
      rw [hT1]
      show (S.vis b||kOf (E1++(a,false)::m2) b)=false
      rw [kab b hb,ub0 b hb];rfl
     have Qb:QK D (kOf (m1++[(co a,false)])) (sm0 T1) (fun b=>co b % 2) T1.st (m1++[(co a,false)]) T1 D.n:=by
      refine QK.of hBT Cb u2 fun b hb k1 k2 k3=>?_
      have h1:=kab _ k2
      have hkc2:kOf l (co b)=true:=by rw [klo,k2,Bool.or_true]
      have:=tst b
      rw [h1,hun _ hkc2] at this
      cases hb1:kOf (E1++(a,false)::m2) b with
      |true=>
       rw [hb1] at this
       simp at this
       rw [this] at k3
       split at k3<;>omega
      |false=>
       rw [hb1] at this
       have e3:T1.st (b/2)=(S.sx x 5).st (b/2):=by simpa using this
       have hkb:kOf l b=false:=by rw [klo,hb1,k1];rfl
       have e4:(S.sx x 5).st (b/2)=S.st (b/2):=yae _ _ (nk b hkb)
       rw [e3,e4] at k3⊢
       have e:=hq.q b hb hkb hkc2 (by omega)
       rw [hun _ hkc2] at e
       rw [e] at k3⊢
       revert k3
       unfold tab
       cases sm0 S (b/2)<;>cases S.vis b<;>simp
     have Mb:Mx (sm0 T1) T1.st (m1++[(co a,false)]) 0:=fun b hb hsub=>by
      have ka:kOf (m1++[(co a,false)]) b=true:=ybq.2 (hsub.subset (by simp))
      have kc:kOf (m1++[(co a,false)]) (co b)=true:=ybq.2 (hsub.subset (by simp))
      rw [tsm b ka] at hb
      have hbx:b/2≠x:=fun e=>by rw [e,s5x] at hb;cases hb
      rw [s5 _ hbx] at hb
      have:=tst b
      rw [kab b ka,kab _ kc] at this
      have e3:T1.st (b/2)=(S.sx x 5).st (b/2):=by simpa using this
      rw [e3,show (S.sx x 5).st (b/2)=S.st (b/2) from yae _ _ hbx]
      rw [lmb] at hsub
      have h2:=hM b hb (hsub.trans subb)
      have hb1:b∈m1.map Prod.fst:=by
       rcases (kbi b).1 ka with h|h
       ·exact h
       ·exact absurd (by rw [h];exact hcx) hbx
      rw [tk,if_neg fun h=>q3 _ h _ (by simp [hb1]) rfl] at h2
      rw [h2];simp
     have rlT:rl (T1.cr.sc u v) D.n<=n:=by
      refine Nat.le_trans (ycp (S:=S.sx x 5) (S':=T1.cr.sc u v) (fun c h=>?_) _) rl5
      have h':T1.st c<=1:=h
      rw [hT1] at h'
      exact y33 h'
     have k1:=ihn (m1++[(co a,false)]).length (T1.cr.sc u v) (nof D a true) (m1++[(co a,false)]) L rlT (Nat.le_refl _) (hBT.cr.sc u v) Cb u2 (Qb.cr.sc u v) (by rw [Nat.sub_self];exact Mb) (fun c hc=>⟨(hL c hc).lt,fun b hb hvb=>(hL c hc).all b hb ?_⟩)
     ·rw [k1]
      show run X D L (TK _ (sm0 T1) (T1.cr.sc u v)).cr=_
      rw [ygg,yna]
      have:TK (kOf (m1++[(co a,false)])) (sm0 T1) T1=TK (kOf l) (sm0 S) S:=by
       refine WS.ext' (fun b=>?_) (funext fun b=>?_) ?_ ?_ ?_
       ·rw [yb3,yb3]
        have tv: ∀b,T1.vis b=(S.vis b||kOf (E1++(a,false)::m2) b):=fun b=>by rw [hT1];rfl
        rw [klo,klo,tv,tv]
        have hbx:kOf l b=false\/kOf l (co b)=false->b/2≠x:=fun h e=>by
         rcases h with h|h
         ·exact nk b h e
         ·exact nk (co b) h (by rw [yao];exact e)
        have ts:=tst b
        have n1:=kab b
        have n2:=kab (co b)
        rw [klo b,klo (co b)] at hbx
        have ts1:=tsm b
        have ts2:=tsm (co b)
        rw [yao] at ts2
        have s5b:=s5 (b/2)
        have s5s:b/2≠x->(S.sx x 5).st (b/2)=S.st (b/2):=fun h=>yae _ _ h
        cases a3:kOf (m1++[(co a,false)]) b with
        |true=>
         have a1:=n1 a3
         cases a4:kOf (m1++[(co a,false)]) (co b) with
         |true=>simp only [a1,n2 a4,Bool.or_true,Bool.and_self,if_true]
         |false=>
          cases a2:kOf (E1++(a,false)::m2) (co b) with
          |true=>simp [a1]
          |false=>
           have hx':=hbx (.inr (by rw [a2,a4];rfl))
           rw [ts1 a3,s5b hx',a1]
           simp
        |false=>
         cases a4:kOf (m1++[(co a,false)]) (co b) with
         |true=>
          have a2:=n2 a4
          cases a1:kOf (E1++(a,false)::m2) b with
          |true=>simp [a2]
          |false=>
           have hx':=hbx (.inl (by rw [a1,a3];rfl))
           rw [ts2 a4,s5b hx',a2]
           simp
         |false=>
          cases a1:kOf (E1++(a,false)::m2) b with
          |true=>
           cases a2:kOf (E1++(a,false)::m2) (co b) with
           |true=>
            rw [a1,a2] at ts
            simp at ts⊢;exact ts
           |false=>
            have hx':=hbx (.inr (by rw [a2,a4];rfl))
            rw [a1,a2,s5b hx'] at ts
            simp at ts⊢;exact ts
          |false=>
           have hx':=hbx (.inl (by rw [a1,a3];rfl))
           cases a2:kOf (E1++(a,false)::m2) (co b) with
           |true=>
            rw [a1,a2,s5b hx'] at ts
            simp at ts⊢;exact ts
           |false=>
            rw [a1,a2,s5s hx'] at ts
            simp at ts⊢;exact ts
       ·rw [hT1]
        show ((S.vis b||_)||_)=(S.vis b||kOf l b)
        rw [klo,Bool.or_assoc]
       ·rw [hT1];rfl
       ·rw [hT1];rfl
       ·rw [hT1];rfl
      rw [this];rfl
     ·have hv2:T1.vis b=false:=hvb
      rw [hT1] at hv2
      have hv3:(S.vis b||kOf (E1++(a,false)::m2) b)=false:=hv2
      exact (Bool.or_eq_false_iff.1 hv3).1
    have f5: ∀u v,run X D (b0::L) ((S.sx x 5).sc u v)=run X D L ((TK (kOf l) (sm0 S) S).cr.cr.sc u v):=fun u v=>by
     have hb0l:b0<2*D.n:=C.lt' C.hd
     have hcov:Cov D (b0::L) ((S.sx x 5).sc u v):=⟨(hL _ hb0l).lt,(hL _ hb0l).all⟩
     have hcov2:Cov D (b0::nof D a true::L) ((S.sx x 5).sc u v):=⟨fun b hb=>by
      rcases List.mem_cons.1 hb with h|h
      ·rw [h];exact hb0l
      ·exact (hL _ hnl).lt b h,fun b hb hv=>by
      rcases List.mem_cons.1 ((hL b0 hb0l).all b hb hv) with h|h
      ·rw [h];exact .head _
      ·exact .tail _ (.tail _ h)⟩
     rw [ord hD hP hX (B5.sc u v) hcov hcov2]
     have rs:rl ((S.sx x 5).sc u v) D.n<=n:=Nat.le_trans (ycp (S:=S.sx x 5) (S':=(S.sx x 5).sc u v) (fun c h=>h) _) rl5
     have k1:=ihn ((E1++(a,false)::m2).length-T) ((S.sx x 5).sc u v) b0 (E1++(a,false)::m2) (nof D a true::L) rs (Nat.sub_le _ _) (B5.sc u v) Ca ua (Qa.sc u v) (by
      have:(E1++(a,false)::m2).length-((E1++(a,false)::m2).length-T)=T:=by rw [List.length_append,List.length_cons];omega
      rw [this];exact Ma) (fun c hc=>⟨fun b hb=>by
       rcases List.mem_cons.1 hb with h|h
       ·rw [h];exact hc
       ·exact (hL _ hnl).lt b h,fun b hb hv=>by
       rcases List.mem_cons.1 ((hL c hc).all b hb hv) with h|h
       ·rw [h];exact .head _
       ·exact .tail _ (.tail _ h)⟩)
     rw [k1]
     show run X D _ (TK _ (sm0 (S.sx x 5)) ((S.sx x 5).sc u v)).cr=_
     rw [ygg,WS.sc_cr]
     refine hT5 _ rfl ?_ u v
     obtain ⟨p1,p2,p3⟩:=ync (t:=0) (by omega) B5 Ca ua
     have er:(fun b=>if (0:Nat)=0 then co b % 2 else b % 2)=fun b=>co b % 2:=funext fun b=>if_pos rfl
     rw [er] at p2
     have hB:=(ydb (X:=X) hD p1 Ca p2 (p3.ord Ca.ty) (fun b=>by show co (co b)% 2=_;rw [yax]) L).2
     refine hB.chg rfl fun c=>?_
     show ((if kOf (E1++(a,false)::m2) (2*c)&&kOf (E1++(a,false)::m2) (2*c+1) then 4 else if kOf (E1++(a,false)::m2) (2*c) then (if S.vis (2*c+1) then 4 else if sm0 (S.sx x 5) c then 2 else 3) else if kOf (E1++(a,false)::m2) (2*c+1) then (if S.vis (2*c) then 4 else if sm0 (S.sx x 5) c then 2 else 3) else (put D (S.sx x 5) (E1++(a,false)::m2) 0).st c)<=1/\((if kOf (E1++(a,false)::m2) (2*c)&&kOf (E1++(a,false)::m2) (2*c+1) then 4 else if kOf (E1++(a,false)::m2) (2*c) then (if S.vis (2*c+1) then 4 else if sm0 (S.sx x 5) c then 2 else 3) else if kOf (E1++(a,false)::m2) (2*c+1) then (if S.vis (2*c) then 4 else if sm0 (S.sx x 5) c then 2 else 3) else (S.sx x 5).st c)<=1\/_))\/(if kOf (E1++(a,false)::m2) (2*c)&&kOf (E1++(a,false)::m2) (2*c+1) then 4 else if kOf (E1++(a,false)::m2) (2*c) then (if S.vis (2*c+1) then 4 else if sm0 (S.sx x 5) c then 2 else 3) else if kOf (E1++(a,false)::m2) (2*c+1) then (if S.vis (2*c) then 4 else if sm0 (S.sx x 5) c then 2 else 3) else (S.sx x 5).st c)=(if kOf (E1++(a,false)::m2) (2*c)&&kOf (E1++(a,false)::m2) (2*c+1) then 4 else if kOf (E1++(a,false)::m2) (2*c) then (if S.vis (2*c+1) then 4 else if sm0 (S.sx x 5) c then 2 else 3) else if kOf (E1++(a,false)::m2) (2*c+1) then (if S.vis (2*c) then 4 else if sm0 (S.sx x 5) c then 2 else 3) else (put D (S.sx x 5) (E1++(a,false)::m2) 0).st c)
     have hput:(put D (S.sx x 5) (E1++(a,false)::m2) 0).st c=if c<D.n/\(S.sx x 5).st c<=1 then gC (S.sx x 5) (E1++(a,false)::m2) 0 c else (S.sx x 5).st c:=rfl
     have hg:=yp1 (S.sx x 5) (E1++(a,false)::m2) (t:=0) (by omega) c
     split
     ·exact .inr rfl
     split
     ·exact .inr rfl
     split
     ·exact .inr rfl
     ·rw [hput]
      by_cases h:c<D.n/\(S.sx x 5).st c<=1
      ·rw [if_pos h];exact .inl ⟨hg, .inl h.2⟩
      ·rw [if_neg h];exact .inr rfl
    have hvx:S.vis (2*x)=false/\S.vis (2*x+1)=false:=unm hB hxn (by omega)
    have sk: ∀u v,run X D (b0::L) ((S.sx x (pq D x)).sc (u-1) v)=run X D (b0::L) ((S.sx x (nq D x)).sc (u+1) v)+run X D (b0::L) ((S.sx x 5).sc u (v+1)):=fun u v=>by
     have:=yiv (X:=X) hxn (hD.sg x hxn) (b0::L) (S.sc u v) hvx.1 hvx.2 ((hL _ (C.lt' C.hd)).all _ (by omega) hvx.1)
     simp only [WS.sc_sx,WS.sc_sc,Int.add_zero] at this
     exact this
    have rX: ∀u v,run X D L ((TK (kOf l) (sm0 S) S).cr.sc (u-1) v)=run X D L ((TK (kOf l) (sm0 S) S).cr.sc (u+1) v)+run X D L ((TK (kOf l) (sm0 S) S).cr.cr.sc u (v+1)):=fun u v=>by
     have:=yp0 (D:=D) hX L ((TK (kOf l) (sm0 S) S).cr.sc u v) (by show 1<=S.k+1;omega)
     simp only [WS.sc_cr,WS.sc_sc,Int.add_zero] at this
     exact this
    have eS:S.sx x (co a % 2)=S:=WS.ext' (fun b=>by
     show upd S.st x (co a % 2) (b/2)=_
     by_cases e:b/2=x
     ·rw [e,yac,hst]
     ·rw [yae _ _ e]) rfl rfl rfl rfl
    have hpn:(a % 2=pq D x/\co a % 2=nq D x)\/(a % 2=nq D x/\co a % 2=pq D x):=by
     unfold pq nq
     split<;>omega
    rcases hpn with ⟨a1,a2⟩|⟨a1,a2⟩
    ·have h1:=sk (-1) 0
     have h2:=rX (-1) 0
     rw [←a1,←a2,f',f5,eS,show (-1:Int)+1=0 by omega,WS.sc_zero] at h1
     rw [show (-1:Int)+1=0 by omega,WS.sc_zero] at h2
     omega
    ·have h1:=sk 1 0
     have h2:=rX 1 0
     rw [←a1,←a2,f',f5,eS,show (1:Int)-1=0 by omega,WS.sc_zero] at h1
     rw [show (1:Int)-1=0 by omega,WS.sc_zero] at h2
     rw [h1,h2]
   ·--nothing changes
    have M':Mx (sm0 S) S.st l (T+1):=fun b hb hsub=>by
     rw [hM b hb hsub,tk,tk1]
     by_cases h:b∈E1.map Prod.fst
     ·rw [if_pos h,if_pos (List.mem_append_left _ h)]
     ·by_cases hba:b=a
      ·exfalso
       subst hba
       refine hself ⟨hb,?_⟩
       have:co b∈l.map Prod.fst:=hsub.subset (by simp)
       rw [hl,List.map_append,List.map_cons,List.mem_append,List.mem_cons] at this
       rcases this with h1|h1|h1
       ·exfalso
        have s2:[co b,b].Sublist (l.map Prod.fst):=by
         rw [hl,List.map_append,List.map_cons]
         exact (List.singleton_sublist.2 h1).append (List.singleton_sublist.2 (.head _))
        exact yiz (Ne.symm (ycw b)) C.nd hsub s2
       ·exact absurd h1 (ycw b)
       ·exact h1
      ·rw [if_neg h,if_neg (by simp [hba];simpa using h)]
    exact ihd S b0 l L hn (by omega) hB C hun hq (by rw [hT1];exact M') hL
end
end Hs
end Go.Proofs.YtjpbeacamoijhaaDoor
