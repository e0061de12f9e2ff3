/- Plain: a strand below is moved over a crossing that is not yet resolved. -/
import Derived.Test.YtjpbeacamoijhaaGreatDoorZi
namespace Go.Proofs.YtjpbeacamoijhaaGreatDoor
set_option linter.unusedSimpArgs false
set_option linter.unusedVariables false
namespace Hs
section
variable {D:Sh} {x q:Nat} {S:WS} {u o:Nat}
structure Fr (D:Sh) (x q u o:Nat):Prop where
 hx:x<D.n
 hq:q<=1
 hu:u=2*x+(1-q)
 ho:o=2*x+q
theorem Fr.f (h:Fr D x q u o):u/2=x/\o/2=x/\u<2*D.n/\o<2*D.n/\co u=o/\co o=u/\u≠o/\u % 2=1-q/\o % 2=q:=by
 obtain ⟨h1,h2,rfl,rfl⟩:=h;unfold co;refine ⟨by omega,by omega,by omega,by omega,?_,?_,by omega,by omega,by omega⟩<;>split<;>omega
theorem Fr.or (h:Fr D x q u o) {c:Nat} (hc:c/2=x):c=u\/c=o:=by
 obtain ⟨h1,h2,rfl,rfl⟩:=h;omega
theorem Fr.bo (h:Fr D x q u o) (hs:S.st x=q):br D S o=[(1,S.mk' o 3,D.nx o)]:=by
 obtain ⟨f1,f2,f3,f4,f5,f6,f7,f8,f9⟩:=h.f;exact zK f4 (by rw [f2,hs,f9])
theorem Fr.bu (h:Fr D x q u o) (hs:S.st x=q):br D S u=[(1,(S.mk' u 3).sc (2*dO D q x) 0,D.nx u),(dO D q x,(S.mk' u 2).sc (dO D q x) 1,D.nx o)]:=by
 obtain ⟨f1,f2,f3,f4,f5,f6,f7,f8,f9⟩:=h.f;rw [Hc f3 (by rw [f1,hs,f8];have:=h.hq;omega),f1,hs,f5]
theorem PW {D:Sh} {S S1 S2:WS} {c d1 d2:Nat} {e:Int} {F:WS->Nat->Int} (h:S.ae c=false) (hb:br D S c=[(1,S1,d1),(e,S2,d2)]):rb D S c F=F S1 d1+e*F S2 d2:=by
 unfold rb;rw [if_neg (by simp [h]),hb,KX]
theorem FA (hD:Ok D) (h:Fr D x q u o) {k:WS->Nat->Int} {p c d:Nat} (hc:c/2=x) (aR:S.st x=3) (h1:S.ae c=false) (h2:S.ae (co c)=true) (hp:p=D.nx c) (hd: ∃e,e/2=x/\d=D.nx e) (Gz:d≠p):
  W D (dT p) S d k=W D (dU x) S d fun S' c'=>if c'=c then k (S'.mk' c 4) p else 0:=by
 obtain ⟨f1,f2,f3,f4,f5,f6,f7,f8,f9⟩:=h.f;have aY:c<2*D.n:=by rcases h.or hc with rfl|rfl<;>assumption
 rw [vf hD (.inr ⟨c,aY,hc,hp.symm⟩) (.inl Gz)];refine dz hD fun S' c' hA=>?_;have n1:c'≠p:=by rw [hp];exact (hA.oth c aY hc (by rw [←hp];exact Ne.symm Gz)).1
 rw [vg n1];by_cases e:c'=c
 ·rw [if_pos e,e,uy (by rw [hA.v c hc];exact h1) (pI aY (by rw [hc,hA.st];exact aR)),←hp,iG (js _)]
 ·rw [if_neg e];refine yJ ?_;rw [hA.v c' hA.at',(jV (hA.at'.trans hc.symm)).resolve_left e];exact h2
theorem M9 (hD:Ok D) (h:Fr D x q u o) {k:WS->Nat->Int} {p c d:Nat} (hc:c/2=x) (aR:S.st x=2) (h1:S.ae c=false) (h2:S.ae (co c)=true) (hp:p=D.nx (co c)) (hd: ∃e,e/2=x/\d=D.nx e) (Gz:d≠p):
  W D (dT p) S d k=W D (dU x) S d fun S' c'=>if c'=c then k (S'.mk' c 4) p else 0:=by
 obtain ⟨f1,f2,f3,f4,f5,f6,f7,f8,f9⟩:=h.f;have aY:c<2*D.n:=by rcases h.or hc with rfl|rfl<;>assumption
 have AO:co c/2=x:=by rw [bV];exact hc
 rw [vf hD (.inr ⟨co c,ee aY,AO,hp.symm⟩) (.inl Gz)];refine dz hD fun S' c' hA=>?_;have n1:c'≠p:=by rw [hp];exact (hA.oth (co c) (ee aY) AO (by rw [←hp];exact Ne.symm Gz)).1
 rw [vg n1];by_cases e:c'=c
 ·rw [if_pos e,e,uy (by rw [hA.v c hc];exact h1) (l5 aY (by rw [hc,hA.st];exact aR)),←hp,iG (js _)]
 ·rw [if_neg e];refine yJ ?_;rw [hA.v c' hA.at',(jV (hA.at'.trans hc.symm)).resolve_left e];exact h2
theorem Bv (hD:Ok D) {k:WS->Nat->Int} {p d:Nat} (hp:p/2=x) (h2:S.ae (co p)=true):W D (dT p) S d k=W D (dU x) S d fun S' c'=>if c'=p then k S' p else 0:=by
 rw [vf hD (.inl hp) (.inr hp)];refine dz hD fun S' c' hA=>?_;by_cases e:c'=p
 ·rw [if_pos e,e,iG (js _)]
 ·rw [if_neg e,vg e];refine yJ ?_;rw [hA.v c' hA.at',(jV (hA.at'.trans hp.symm)).resolve_left e];exact h2
variable {k:WS->Int}
theorem P1 (hD:Ok D) (h:Fr D x q u o) (aR:S.st x=q) (vu:S.ae u=false) (vo:S.ae o=false) (h3:S.ae (D.nx u)=false):
  bA D S (D.nx u) k=W D (dU x) S (D.nx u) fun S' c=>if c=u then k ((S'.mk' u 3).sc (2*dO D q x) 0)+dO D q x*W D (dU x) ((S'.mk' u 2).sc (dO D q x) 1) (D.nx o) (fun dm c'=>if c'=o then k (dm.mk' o 4) else 0)
   else W D (dU x) (S'.mk' o 3) (D.nx o) fun dm c'=>if c'=u then k (dm.mk' u 4) else 0:=by
 obtain ⟨f1,f2,f3,f4,f5,f6,f7,f8,f9⟩:=h.f;have ax:D.nx o≠D.nx u:=fun e=>f7 (hD.inj _ _ f4 f3 e).symm;rw [Ee (x:=x) hD ⟨u,f3,f1,rfl⟩ h3];refine dz hD fun S' c hA=>?_;rcases h.or hA.at' with rfl|rfl
 ·rw [if_pos rfl,PW (by rw [hA.v _ f1];exact vu) (h.bu (hA.st.trans aR)),iG (js _)];congr 2;exact M9 hD h f2 (uz f1) (by show WS.ae (S'.mk' c 2) o=false;rw [dM _ (Ne.symm f7),hA.v _ f2];exact vo) (by rw [f6];exact lk S' c 2) (by rw [f6]) ⟨o,f2,rfl⟩ ax
 ·rw [if_neg (Ne.symm f7),uy (by rw [hA.v _ f2];exact vo) (h.bo (hA.st.trans aR))];exact FA hD h f1 (uz f2) (by rw [dM _ f7,hA.v _ f1];exact vu) (by rw [f5];exact lk _ _ _) rfl ⟨c,f2,rfl⟩ ax
theorem P2 (hD:Ok D) (h:Fr D x q u o) (aR:S.st x=q) (vu:S.ae u=false) (vo:S.ae o=false) (h3:S.ae (D.nx o)=false):
  bA D S (D.nx o) k=W D (dU x) S (D.nx o) fun S' c=>if c=u then W D (dU x) ((S'.mk' u 3).sc (2*dO D q x) 0) (D.nx u) (fun dm c'=>if c'=o then k (dm.mk' o 4) else 0)+dO D q x*k ((S'.mk' u 2).sc (dO D q x) 1)
   else k (S'.mk' o 3):=by
 obtain ⟨f1,f2,f3,f4,f5,f6,f7,f8,f9⟩:=h.f;have ax:D.nx u≠D.nx o:=fun e=>f7 (hD.inj _ _ f3 f4 e);rw [Ee (x:=x) hD ⟨o,f4,f2,rfl⟩ h3];refine dz hD fun S' c hA=>?_;rcases h.or hA.at' with rfl|rfl
 ·rw [if_pos rfl,PW (by rw [hA.v _ f1];exact vu) (h.bu (hA.st.trans aR)),iG (js (D.nx o))];congr 1;exact FA hD h f2 (uz f1) (by show WS.ae (S'.mk' c 3) o=false;rw [dM _ (Ne.symm f7),hA.v _ f2];exact vo) (by rw [f6];exact lk S' c 3) rfl ⟨c,f1,rfl⟩ ax
 ·rw [if_neg (Ne.symm f7),uy (by rw [hA.v _ f2];exact vo) (h.bo (hA.st.trans aR)),iG (js _)]
theorem P3 (hD:Ok D) (h:Fr D x q u o) (aR:S.st x=q) (vu:S.ae u=false) (vo:S.ae o=false):
  bA D S u k=W D (dU x) ((S.mk' u 3).sc (2*dO D q x) 0) (D.nx u) (fun S' c=>if c=u then k S' else W D (dU x) (S'.mk' o 4) (D.nx o) fun dm c'=>if c'=u then k dm else 0)
   +dO D q x*W D (dU x) ((S.mk' u 2).sc (dO D q x) 1) (D.nx o) (fun S' c=>if c=u then k S' else W D (dU x) (S'.mk' o 4) (D.nx u) fun dm c'=>if c'=u then k dm else 0):=by
 obtain ⟨f1,f2,f3,f4,f5,f6,f7,f8,f9⟩:=h.f;unfold bA;rw [h.bu aR,KX];congr 1
 ·rw [vf hD (.inl f1) (.inr f1)];refine dz hD fun S' c hA=>?_;rcases h.or hA.at' with rfl|rfl
  ·rw [if_pos rfl,iG (js _)]
  ·rw [if_neg (Ne.symm f7),vg (Ne.symm f7),uy (by rw [hA.v _ f2];show WS.ae (S.mk' u 3) c=false;rw [dM _ (Ne.symm f7)];exact vo) (pI f4 (by rw [f2,hA.st];exact uz f1))];exact Bv hD f1 (by rw [f5];exact lk _ _ _)
 ·congr 1;rw [vf hD (.inl f1) (.inr f1)];refine dz hD fun S' c hA=>?_;rcases h.or hA.at' with rfl|rfl
  ·rw [if_pos rfl,iG (js _)]
  ·rw [if_neg (Ne.symm f7),vg (Ne.symm f7),uy (by rw [hA.v _ f2];show WS.ae (S.mk' u 2) c=false;rw [dM _ (Ne.symm f7)];exact vo) (l5 f4 (by rw [f2,hA.st];exact uz f1)),f6];exact Bv hD f1 (by rw [f5];exact lk _ _ _)
theorem P4 (hD:Ok D) (h:Fr D x q u o) (aR:S.st x=q) (vu:S.ae u=false) (vo:S.ae o=false):
  bA D S o k=W D (dU x) (S.mk' o 3) (D.nx o) fun S' c=>if c=u then W D (dU x) (S'.mk' u 4) (D.nx u) (fun dm c'=>if c'=o then k dm else 0) else k S':=by
 obtain ⟨f1,f2,f3,f4,f5,f6,f7,f8,f9⟩:=h.f;unfold bA;rw [h.bo aR,rV,vf hD (.inl f2) (.inr f2)];refine dz hD fun S' c hA=>?_;rcases h.or hA.at' with rfl|rfl
 ·rw [if_pos rfl,vg f7,uy (by rw [hA.v _ f1,dM _ f7];exact vu) (pI f3 (by rw [f1,hA.st];exact uz f2))];exact Bv hD f2 (by rw [f6];exact lk _ _ _)
 ·rw [if_neg (Ne.symm f7),iG (js _)]
theorem Zg (T:WS) {a b:Nat} (v w z:Nat) (h:a/2=b/2):(T.mk' a v).mk' b z=(T.mk' a w).mk' b z:=by rw [CW T v 0 z h,←CW T w 0 z h]
theorem IW {T:WS} {a b v:Nat} (h:T.ae b=true):(T.mk' a v).ae b=true:=by
 by_cases e:b=a
 ·rw [e];exact lk _ _ _
 ·rw [dM _ e];exact h
theorem wi {p:Prop} [Decidable p] {f g:Int} (h:p->f=g):(if p then f else 0)=if p then g else 0:=by
 by_cases hp:p
 ·rw [if_pos hp,if_pos hp,h hp]
 ·rw [if_neg hp,if_neg hp]
theorem y39 (hD:Ok D) (h:Fr D x q u o) (hB:Bd D S) (aR:S.st x=q) {e:Int} (he:e= -dO D q x):Lt D (D.nx u) e (Lt D (D.nx o) e k) S=Lt D o e (Lt D u e k) S:=by
 obtain ⟨f1,f2,f3,f4,f5,f6,f7,f8,f9⟩:=h.f;have hq:=h.hq;have fu:=hB u f3;have fo:=hB o f4;unfold Fit at fu fo;rw [f1,aR,aD.i0 (.inl hq)] at fu;rw [f2,aR,aD.i0 (.inl hq)] at fo;obtain ⟨vu,wu⟩:=fu;obtain ⟨vo,wo⟩:=fo;have Vu:S.ae (D.nx u)=false:=by simpa using wu
 have MQ:S.ae (D.nx o)=false:=by simpa using wo
 have ax:D.nx u≠D.nx o:=fun e=>f7 (hD.inj _ _ f3 f4 e);generalize hs:dO D q x=s at*;rw [sG (a:=D.nx u) Vu,sG (a:=o) vo];have z1:Lt D (D.nx o) e k (S.sc (2*e) 0)=k (S.sc (4*e) 0)+e*bA D (S.sc (3*e) 1) (D.nx o) k:=by
  rw [sG (by exact MQ),WS.bQ,WS.bQ];congr 2
  ·congr 1;omega
  ·congr 2;omega
 have z2:Lt D u e k (S.sc (2*e) 0)=k (S.sc (4*e) 0)+e*bA D (S.sc (3*e) 1) u k:=by
  rw [sG (by exact vu),WS.bQ,WS.bQ];congr 2
  ·congr 1;omega
  ·congr 2;omega
 rw [z1,z2,Int.add_assoc,Int.add_assoc,←Int.mul_add,←Int.mul_add];congr 2;have l2:bA D (S.sc e 1) (D.nx u) (Lt D (D.nx o) e k)=W D (dU x) S (D.nx u) fun S' c=>if c=u then k ((S'.mk' u 3).sc e 1) else W D (dU x) S' (D.nx o) fun dm c'=>if c'=u then k (((dm.mk' o 3).mk' u 4).sc e 1) else 0:=by
  rw [P1 hD h (by exact aR) (by exact vu) (by exact vo) (by exact Vu),hs,qJ (Loc.re x e 1)];refine dz hD fun S' c hA=>?_;have ho:=(hA.oth o f4 f2 (Ne.symm ax)).2;rcases h.or hA.at' with rfl|rfl
  ·rw [if_pos rfl,if_pos rfl];have g1:Lt D (D.nx o) e k ((((S'.sc e 1).mk' c 3).sc (2*s) 0))=k ((S'.mk' c 3).sc e 1)+e*W D (dU x) S' (D.nx o) fun dm c'=>if c'=o then k (((dm.mk' c 3).mk' o 4).sc 0 2) else 0:=by
    have hv:WS.ae (S'.mk' c 3) (D.nx o)=false:=by
     by_cases e':D.nx o=c
     ·exact absurd e' (Ne.symm (hA.oth o f4 f2 (Ne.symm ax)).1)
     ·rw [dM _ e',ho];exact MQ
    rw [WS.dG,WS.bQ,sG (by exact hv),WS.bQ,WS.bQ];congr 1
    ·congr 2;omega
    ·congr 1;rw [show e+2*s+e=0 by omega,show (1:Int)+0+1=2 by omega,PF (x:=x) hD f2 f4 (by exact uz f1) (by show WS.ae (S'.mk' c 3) o=false;rw [dM _ (Ne.symm f7),hA.v _ f2];exact vo) (by rw [f6];exact lk S' c 3) (by exact hv),qJ ((Loc.re x 0 2).comp (Loc.pn 3 f1))];rfl
   have g2:W D (dU x) (((S'.sc e 1).mk' c 2).sc s 1) (D.nx o) (fun dm c'=>if c'=o then Lt D (D.nx o) e k (dm.mk' o 4) else 0)=W D (dU x) S' (D.nx o) fun dm c'=>if c'=o then k (((dm.mk' c 3).mk' o 4).sc 0 2) else 0:=by
    rw [WS.dG,WS.bQ,show e+s=0 by omega,show (1:Int)+1=2 by omega,qJ ((Loc.re x 0 2).comp (Loc.pn 2 f1))];refine dz hD fun dm c' uk=>wi fun e'=>?_
    have:WS.ae ((dm.mk' c 2).mk' o 4) (D.nx o)=true:=by
     rcases uk.dd with hh|hh
     ·rw [←hh,e'];exact lk _ _ _
     ·exact IW (IW hh)
    rw [rW (by exact this),WS.dG,Zg dm 2 3 4 (f1.trans f2.symm)]
   rw [g1,g2,he,Int.neg_mul];omega
  ·rw [if_neg (Ne.symm f7),if_neg (Ne.symm f7),qJ ((Loc.pn 3 f2).comp (Loc.re x e 1))];refine dz hD fun dm c' uk=>wi fun e'=>?_
   have:WS.ae ((dm.mk' c 3).mk' u 4) (D.nx c)=true:=by
    rcases uk.dd with hh|hh
    ·rw [←hh,e'];exact lk _ _ _
    ·exact IW (IW hh)
   rw [WS.dG,WS.dG,rW (by exact this)]
 have r2:bA D (S.sc e 1) o (Lt D u e k)=W D (dU x) S (D.nx o) fun S' c=>if c=u then W D (dU x) S' (D.nx u) (fun dm c'=>if c'=o then k (((dm.mk' u 3).mk' o 4).sc e 1) else 0)
   else k ((S'.mk' o 3).sc (3*e) 1)+e*W D (dU x) S' (D.nx u) fun dm c'=>if c'=u then k (((dm.mk' o 3).mk' u 4).sc (2*e) 2) else 0:=by
  rw [P4 hD h (by exact aR) (by exact vu) (by exact vo),WS.dG,qJ ((Loc.re x e 1).comp (Loc.pn 3 f2))];refine dz hD fun S' c hA=>?_;rcases h.or hA.at' with rfl|rfl
  ·rw [if_pos rfl,if_pos rfl,WS.dG,qJ ((Loc.re x e 1).comp ((Loc.pn 4 f1).comp (Loc.pn 3 f2)))];refine dz hD fun dm c' uk=>wi fun e'=>?_;rw [rW (by exact lk (dm.mk' o 3) c 4),CW dm 3 3 4 (f2.trans f1.symm)]
  ·rw [if_neg (Ne.symm f7),if_neg (Ne.symm f7)];have hv:WS.ae (S'.mk' c 3) u=false:=by rw [dM _ f7,hA.v _ f1];exact vu
   rw [sG (by exact hv),WS.bQ,WS.bQ];congr 1
   ·congr 2;omega
   ·congr 1;rw [show e+e=2*e by omega,show (1:Int)+1=2 by omega,Up (x:=x) hD f1 f3 (by exact uz f2) (by exact hv) (by rw [f5];exact lk S' c 3),qJ ((Loc.re x (2*e) 2).comp (Loc.pn 3 f2))];rfl
 have l1:bA D (S.sc (3*e) 1) (D.nx o) k=W D (dU x) S (D.nx o) fun S' c=>if c=u then W D (dU x) S' (D.nx u) (fun dm c'=>if c'=o then k (((dm.mk' u 3).mk' o 4).sc e 1) else 0)+s*k ((S'.mk' u 2).sc (2*e) 2) else k ((S'.mk' o 3).sc (3*e) 1):=by
  rw [P2 hD h (by exact aR) (by exact vu) (by exact vo) (by exact MQ),hs,qJ (Loc.re x (3*e) 1)];refine dz hD fun S' c hA=>?_;rcases h.or hA.at' with rfl|rfl
  ·rw [if_pos rfl,if_pos rfl,WS.dG,WS.bQ,WS.dG,WS.bQ,show 3*e+2*s=e by omega,show 3*e+s=2*e by omega,show (1:Int)+0=1 by omega,show (1:Int)+1=2 by omega,qJ ((Loc.re x e 1).comp (Loc.pn 3 f1))];rfl
  ·rw [if_neg (Ne.symm f7),if_neg (Ne.symm f7)];rfl
 have r1:bA D (S.sc (3*e) 1) u k=(W D (dU x) S (D.nx u) fun S' c=>if c=u then k ((S'.mk' u 3).sc e 1) else W D (dU x) S' (D.nx o) fun dm c'=>if c'=u then k (((dm.mk' o 3).mk' u 4).sc e 1) else 0)
   +s*W D (dU x) S (D.nx o) fun S' c=>if c=u then k ((S'.mk' u 2).sc (2*e) 2) else W D (dU x) S' (D.nx u) fun dm c'=>if c'=u then k (((dm.mk' o 3).mk' u 4).sc (2*e) 2) else 0:=by
  rw [P3 hD h (by exact aR) (by exact vu) (by exact vo),hs];congr 1
  ·rw [WS.dG,WS.bQ,show 3*e+2*s=e by omega,show (1:Int)+0=1 by omega,qJ ((Loc.re x e 1).comp (Loc.pn 3 f1))];refine dz hD fun S' c hA=>?_;rcases h.or hA.at' with rfl|rfl
   ·rw [if_pos rfl,if_pos rfl]
   ·rw [if_neg (Ne.symm f7),if_neg (Ne.symm f7),WS.dG,qJ ((Loc.re x e 1).comp ((Loc.pn 4 f2).comp (Loc.pn 3 f1)))];refine dz hD fun dm c' uk=>wi fun e'=>?_;rw [CW dm 3 3 4 (f1.trans f2.symm)]
  ·congr 1;rw [WS.dG,WS.bQ,show 3*e+s=2*e by omega,show (1:Int)+1=2 by omega,qJ ((Loc.re x (2*e) 2).comp (Loc.pn 2 f1))];refine dz hD fun S' c hA=>?_;rcases h.or hA.at' with rfl|rfl
   ·rw [if_pos rfl,if_pos rfl]
   ·rw [if_neg (Ne.symm f7),if_neg (Ne.symm f7),WS.dG,qJ ((Loc.re x (2*e) 2).comp ((Loc.pn 4 f2).comp (Loc.pn 2 f1)))];refine dz hD fun dm c' uk=>wi fun e'=>?_;rw [CW dm 2 3 4 (f1.trans f2.symm)]
 rw [l1,l2,r1,r2];have key: ∀A B C E:Int,A=E+C->A+B=B+E+C:=fun A B C E h=>by omega
 refine key _ _ _ _ ?_;rw [←Uu,←Ky];refine dz hD fun S' c hA=>?_;rcases h.or hA.at' with rfl|rfl
 ·rw [if_pos rfl,if_pos rfl,if_pos rfl];omega
 ·rw [if_neg (Ne.symm f7),if_neg (Ne.symm f7),if_neg (Ne.symm f7),he,Int.neg_mul];omega
end
def Lw (D:Sh):List (Nat×Int)->(WS->Int)->WS->Int
 |[],k=>k
 |(a,e)::l,k=>Lt D a e (Lw D l k)
def iv (D:Sh) (a:Nat) (p:Bool):Nat:=if p then D.nx a else D.nx (co a)
def sl (D:Sh) (a:Nat):Int:=dO D (co a % 2) (a/2)
def lI (D:Sh):List (Nat×Bool)->List (Nat×Int)
 |[]=>[]
 |(a,p)::l=>if p then (co a,sl D a)::lI D l else lI D l
def qE (D:Sh):Nat->List (Nat×Bool)->Nat->Prop
 |s,[],e=>s=e
 |s,(a,p)::l,e=>s=a/\qE D (iv D a p) l e
end Hs
end Go.Proofs.YtjpbeacamoijhaaGreatDoor
