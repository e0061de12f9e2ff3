/- Plain: a strand below is moved over a crossing that is not yet resolved. -/
import Derived.Test.YtjpbeacamoijhaaDoorHs3
namespace Go.Proofs.YtjpbeacamoijhaaDoor
set_option linter.unusedSimpArgs false
set_option linter.unusedVariables false
namespace Hs
section
variable {D:Sh} {x q:Nat} {S:WS} {u o:Nat}
structure Fr (D:Sh) (x q u o:Nat):Prop where
 hx:x<D.n
 hq:q<=1
 hu:u=2*x+(1-q)
 ho:o=2*x+q
theorem Fr.f (h:Fr D x q u o):u/2=x/\o/2=x/\u<2*D.n/\o<2*D.n/\co u=o/\co o=u/\u≠o/\u % 2=1-q/\o % 2=q:=by
 obtain ⟨h1,h2,rfl,rfl⟩:=h
 unfold co
 refine ⟨by omega,by omega,by omega,by omega,?_,?_,by omega,by omega,by omega⟩<;>split<;>omega
theorem Fr.or (h:Fr D x q u o) {c:Nat} (hc:c/2=x):c=u\/c=o:=by
 obtain ⟨h1,h2,rfl,rfl⟩:=h;omega
theorem Fr.bo (h:Fr D x q u o) (hs:S.st x=q):br D S o=[(1,S.mk' o 3,D.nx o)]:=by
 obtain ⟨f1,f2,f3,f4,f5,f6,f7,f8,f9⟩:=h.f
 exact br_o f4 (by rw [f2,hs,f9])
theorem Fr.bu (h:Fr D x q u o) (hs:S.st x=q):br D S u=[(1,(S.mk' u 3).sc (2*sgn D q x) 0,D.nx u),(sgn D q x,(S.mk' u 2).sc (sgn D q x) 1,D.nx o)]:=by
 obtain ⟨f1,f2,f3,f4,f5,f6,f7,f8,f9⟩:=h.f
 rw [br_u f3 (by rw [f1,hs,f8];have:=h.hq;omega),f1,hs,f5]
theorem yys {D:Sh} {S S1 S2:WS} {c d1 d2:Nat} {e:Int} {F:WS->Nat->Int} (h:S.vis c=false) (hb:br D S c=[(1,S1,d1),(e,S2,d2)]):stp D S c F=F S1 d1+e*F S2 d2:=by
 unfold stp;rw [if_neg (by simp [h]),hb,yq5]
theorem on_3 (hD:Ok D) (h:Fr D x q u o) {k:WS->Nat->Int} {p c d:Nat} (hc:c/2=x) (hst:S.st x=3) (h1:S.vis c=false) (h2:S.vis (co c)=true) (hp:p=D.nx c) (hd: ∃e,e/2=x/\d=D.nx e) (hdp:d≠p):
  W D (eqE p) S d k=W D (atx x) S d fun S' c'=>if c'=c then k (S'.mk' c 4) p else 0:=by
 obtain ⟨f1,f2,f3,f4,f5,f6,f7,f8,f9⟩:=h.f
 have hcl:c<2*D.n:=by rcases h.or hc with rfl|rfl<;>assumption
 rw [yel hD (.inr ⟨c,hcl,hc,hp.symm⟩) (.inl hdp)]
 refine W_at hD fun S' c' hA=>?_
 have n1:c'≠p:=by rw [hp];exact (hA.oth c hcl hc (by rw [←hp];exact Ne.symm hdp)).1
 rw [yek n1]
 by_cases e:c'=c
 ·rw [if_pos e,e,yd6 (by rw [hA.v c hc];exact h1) (br_3 hcl (by rw [hc,hA.st];exact hst)),←hp,yaz (ya3 _)]
 ·rw [if_neg e]
  refine ygd ?_
  rw [hA.v c' hA.at',(ybi (hA.at'.trans hc.symm)).resolve_left e];exact h2
theorem on_2 (hD:Ok D) (h:Fr D x q u o) {k:WS->Nat->Int} {p c d:Nat} (hc:c/2=x) (hst:S.st x=2) (h1:S.vis c=false) (h2:S.vis (co c)=true) (hp:p=D.nx (co c)) (hd: ∃e,e/2=x/\d=D.nx e) (hdp:d≠p):
  W D (eqE p) S d k=W D (atx x) S d fun S' c'=>if c'=c then k (S'.mk' c 4) p else 0:=by
 obtain ⟨f1,f2,f3,f4,f5,f6,f7,f8,f9⟩:=h.f
 have hcl:c<2*D.n:=by rcases h.or hc with rfl|rfl<;>assumption
 have hc2:co c/2=x:=by rw [yao];exact hc
 rw [yel hD (.inr ⟨co c,ya4 hcl,hc2,hp.symm⟩) (.inl hdp)]
 refine W_at hD fun S' c' hA=>?_
 have n1:c'≠p:=by rw [hp];exact (hA.oth (co c) (ya4 hcl) hc2 (by rw [←hp];exact Ne.symm hdp)).1
 rw [yek n1]
 by_cases e:c'=c
 ·rw [if_pos e,e,yd6 (by rw [hA.v c hc];exact h1) (br_2 hcl (by rw [hc,hA.st];exact hst)),←hp,yaz (ya3 _)]
 ·rw [if_neg e]
  refine ygd ?_
  rw [hA.v c' hA.at',(ybi (hA.at'.trans hc.symm)).resolve_left e];exact h2
theorem on_p (hD:Ok D) {k:WS->Nat->Int} {p d:Nat} (hp:p/2=x) (h2:S.vis (co p)=true):W D (eqE p) S d k=W D (atx x) S d fun S' c'=>if c'=p then k S' p else 0:=by
 rw [yel hD (.inl hp) (.inr hp)]
 refine W_at hD fun S' c' hA=>?_
 by_cases e:c'=p
 ·rw [if_pos e,e,yaz (ya3 _)]
 ·rw [if_neg e,yek e]
  refine ygd ?_
  rw [hA.v c' hA.at',(ybi (hA.at'.trans hp.symm)).resolve_left e];exact h2
variable {k:WS->Int}
theorem P1 (hD:Ok D) (h:Fr D x q u o) (hst:S.st x=q) (vu:S.vis u=false) (vo:S.vis o=false) (h3:S.vis (D.nx u)=false):
  wk1 D S (D.nx u) k=W D (atx x) S (D.nx u) fun S' c=>if c=u then k ((S'.mk' u 3).sc (2*sgn D q x) 0)+sgn D q x*W D (atx x) ((S'.mk' u 2).sc (sgn D q x) 1) (D.nx o) (fun S'' c'=>if c'=o then k (S''.mk' o 4) else 0)
   else W D (atx x) (S'.mk' o 3) (D.nx o) fun S'' c'=>if c'=u then k (S''.mk' u 4) else 0:=by
 obtain ⟨f1,f2,f3,f4,f5,f6,f7,f8,f9⟩:=h.f
 have hne:D.nx o≠D.nx u:=fun e=>f7 (hD.inj _ _ f4 f3 e).symm
 rw [yjr (x:=x) hD ⟨u,f3,f1,rfl⟩ h3]
 refine W_at hD fun S' c hA=>?_
 rcases h.or hA.at' with rfl|rfl
 ·rw [if_pos rfl,yys (by rw [hA.v _ f1];exact vu) (h.bu (hA.st.trans hst)),yaz (ya3 _)]
  congr 2
  exact on_2 hD h f2 (yd5 f1) (by show WS.vis (S'.mk' c 2) o=false;rw [yag _ (Ne.symm f7),hA.v _ f2];exact vo) (by rw [f6];exact ybg S' c 2) (by rw [f6]) ⟨o,f2,rfl⟩ hne
 ·rw [if_neg (Ne.symm f7),yd6 (by rw [hA.v _ f2];exact vo) (h.bo (hA.st.trans hst))]
  exact on_3 hD h f1 (yd5 f2) (by rw [yag _ f7,hA.v _ f1];exact vu) (by rw [f5];exact ybg _ _ _) rfl ⟨c,f2,rfl⟩ hne
theorem P2 (hD:Ok D) (h:Fr D x q u o) (hst:S.st x=q) (vu:S.vis u=false) (vo:S.vis o=false) (h3:S.vis (D.nx o)=false):
  wk1 D S (D.nx o) k=W D (atx x) S (D.nx o) fun S' c=>if c=u then W D (atx x) ((S'.mk' u 3).sc (2*sgn D q x) 0) (D.nx u) (fun S'' c'=>if c'=o then k (S''.mk' o 4) else 0)+sgn D q x*k ((S'.mk' u 2).sc (sgn D q x) 1)
   else k (S'.mk' o 3):=by
 obtain ⟨f1,f2,f3,f4,f5,f6,f7,f8,f9⟩:=h.f
 have hne:D.nx u≠D.nx o:=fun e=>f7 (hD.inj _ _ f3 f4 e)
 rw [yjr (x:=x) hD ⟨o,f4,f2,rfl⟩ h3]
 refine W_at hD fun S' c hA=>?_
 rcases h.or hA.at' with rfl|rfl
 ·rw [if_pos rfl,yys (by rw [hA.v _ f1];exact vu) (h.bu (hA.st.trans hst)),yaz (ya3 (D.nx o))]
  congr 1
  exact on_3 hD h f2 (yd5 f1) (by show WS.vis (S'.mk' c 3) o=false;rw [yag _ (Ne.symm f7),hA.v _ f2];exact vo) (by rw [f6];exact ybg S' c 3) rfl ⟨c,f1,rfl⟩ hne
 ·rw [if_neg (Ne.symm f7),yd6 (by rw [hA.v _ f2];exact vo) (h.bo (hA.st.trans hst)),yaz (ya3 _)]
theorem P3 (hD:Ok D) (h:Fr D x q u o) (hst:S.st x=q) (vu:S.vis u=false) (vo:S.vis o=false):
  wk1 D S u k=W D (atx x) ((S.mk' u 3).sc (2*sgn D q x) 0) (D.nx u) (fun S' c=>if c=u then k S' else W D (atx x) (S'.mk' o 4) (D.nx o) fun S'' c'=>if c'=u then k S'' else 0)
   +sgn D q x*W D (atx x) ((S.mk' u 2).sc (sgn D q x) 1) (D.nx o) (fun S' c=>if c=u then k S' else W D (atx x) (S'.mk' o 4) (D.nx u) fun S'' c'=>if c'=u then k S'' else 0):=by
 obtain ⟨f1,f2,f3,f4,f5,f6,f7,f8,f9⟩:=h.f
 unfold wk1
 rw [h.bu hst,yq5]
 congr 1
 ·rw [yel hD (.inl f1) (.inr f1)]
  refine W_at hD fun S' c hA=>?_
  rcases h.or hA.at' with rfl|rfl
  ·rw [if_pos rfl,yaz (ya3 _)]
  ·rw [if_neg (Ne.symm f7),yek (Ne.symm f7),yd6 (by rw [hA.v _ f2];show WS.vis (S.mk' u 3) c=false;rw [yag _ (Ne.symm f7)];exact vo) (br_3 f4 (by rw [f2,hA.st];exact yd5 f1))]
   exact on_p hD f1 (by rw [f5];exact ybg _ _ _)
 ·congr 1
  rw [yel hD (.inl f1) (.inr f1)]
  refine W_at hD fun S' c hA=>?_
  rcases h.or hA.at' with rfl|rfl
  ·rw [if_pos rfl,yaz (ya3 _)]
  ·rw [if_neg (Ne.symm f7),yek (Ne.symm f7),yd6 (by rw [hA.v _ f2];show WS.vis (S.mk' u 2) c=false;rw [yag _ (Ne.symm f7)];exact vo) (br_2 f4 (by rw [f2,hA.st];exact yd5 f1)),f6]
   exact on_p hD f1 (by rw [f5];exact ybg _ _ _)
theorem P4 (hD:Ok D) (h:Fr D x q u o) (hst:S.st x=q) (vu:S.vis u=false) (vo:S.vis o=false):
  wk1 D S o k=W D (atx x) (S.mk' o 3) (D.nx o) fun S' c=>if c=u then W D (atx x) (S'.mk' u 4) (D.nx u) (fun S'' c'=>if c'=o then k S'' else 0) else k S':=by
 obtain ⟨f1,f2,f3,f4,f5,f6,f7,f8,f9⟩:=h.f
 unfold wk1
 rw [h.bo hst,yci,yel hD (.inl f2) (.inr f2)]
 refine W_at hD fun S' c hA=>?_
 rcases h.or hA.at' with rfl|rfl
 ·rw [if_pos rfl,yek f7,yd6 (by rw [hA.v _ f1,yag _ f7];exact vu) (br_3 f3 (by rw [f1,hA.st];exact yd5 f2))]
  exact on_p hD f2 (by rw [f6];exact ybg _ _ _)
 ·rw [if_neg (Ne.symm f7),yaz (ya3 _)]
theorem y7t (T:WS) {a b:Nat} (v w z:Nat) (h:a/2=b/2):(T.mk' a v).mk' b z=(T.mk' a w).mk' b z:=by rw [ykl T v 0 z h,←ykl T w 0 z h]
theorem yiy {T:WS} {a b v:Nat} (h:T.vis b=true):(T.mk' a v).vis b=true:=by
 by_cases e:b=a
 ·rw [e];exact ybg _ _ _
 ·rw [yag _ e];exact h
theorem ite0 {p:Prop} [Decidable p] {f g:Int} (h:p->f=g):(if p then f else 0)=if p then g else 0:=by
 by_cases hp:p
 ·rw [if_pos hp,if_pos hp,h hp]
 ·rw [if_neg hp,if_neg hp]
theorem y2q (hD:Ok D) (h:Fr D x q u o) (hB:Bd D S) (hst:S.st x=q) {e:Int} (he:e= -sgn D q x):Lt D (D.nx u) e (Lt D (D.nx o) e k) S=Lt D o e (Lt D u e k) S:=by
 obtain ⟨f1,f2,f3,f4,f5,f6,f7,f8,f9⟩:=h.f
 have hq:=h.hq
 have fu:=hB u f3
 have fo:=hB o f4
 unfold Fit at fu fo
 rw [f1,hst,FitP.i0 (.inl hq)] at fu
 rw [f2,hst,FitP.i0 (.inl hq)] at fo
 obtain ⟨vu,wu⟩:=fu
 obtain ⟨vo,wo⟩:=fo
 have wu':S.vis (D.nx u)=false:=by simpa using wu
 have wo':S.vis (D.nx o)=false:=by simpa using wo
 have hne:D.nx u≠D.nx o:=fun e=>f7 (hD.inj _ _ f3 f4 e)
 generalize hs:sgn D q x=s at*
 rw [ycr (a:=D.nx u) wu',ycr (a:=o) vo]
 have z1:Lt D (D.nx o) e k (S.sc (2*e) 0)=k (S.sc (4*e) 0)+e*wk1 D (S.sc (3*e) 1) (D.nx o) k:=by
  rw [ycr (by exact wo'),WS.sc_sc,WS.sc_sc]
  congr 2
  ·congr 1;omega
  ·congr 2;omega
 have z2:Lt D u e k (S.sc (2*e) 0)=k (S.sc (4*e) 0)+e*wk1 D (S.sc (3*e) 1) u k:=by
  rw [ycr (by exact vu),WS.sc_sc,WS.sc_sc]
  congr 2
  ·congr 1;omega
  ·congr 2;omega
 rw [z1,z2,Int.add_assoc,Int.add_assoc,←Int.mul_add,←Int.mul_add]
 congr 2
 have l2:wk1 D (S.sc e 1) (D.nx u) (Lt D (D.nx o) e k)=W D (atx x) S (D.nx u) fun S' c=>if c=u then k ((S'.mk' u 3).sc e 1) else W D (atx x) S' (D.nx o) fun S'' c'=>if c'=u then k (((S''.mk' o 3).mk' u 4).sc e 1) else 0:=by
  rw [P1 hD h (by exact hst) (by exact vu) (by exact vo) (by exact wu'),hs,yb6 (Loc.scL x e 1)]
  refine W_at hD fun S' c hA=>?_
  have ho:=(hA.oth o f4 f2 (Ne.symm hne)).2
  rcases h.or hA.at' with rfl|rfl
  ·rw [if_pos rfl,if_pos rfl]
   have g1:Lt D (D.nx o) e k ((((S'.sc e 1).mk' c 3).sc (2*s) 0))=k ((S'.mk' c 3).sc e 1)+e*W D (atx x) S' (D.nx o) fun S'' c'=>if c'=o then k (((S''.mk' c 3).mk' o 4).sc 0 2) else 0:=by
    have hv:WS.vis (S'.mk' c 3) (D.nx o)=false:=by
     by_cases e':D.nx o=c
     ·exact absurd e' (Ne.symm (hA.oth o f4 f2 (Ne.symm hne)).1)
     ·rw [yag _ e',ho];exact wo'
    rw [WS.sc_mk,WS.sc_sc,ycr (by exact hv),WS.sc_sc,WS.sc_sc]
    congr 1
    ·congr 2;omega
    ·congr 1
     rw [show e+2*s+e=0 by omega,show (1:Int)+0+1=2 by omega,yyr (x:=x) hD f2 f4 (by exact yd5 f1) (by show WS.vis (S'.mk' c 3) o=false;rw [yag _ (Ne.symm f7),hA.v _ f2];exact vo) (by rw [f6];exact ybg S' c 3) (by exact hv),yb6 ((Loc.scL x 0 2).comp (Loc.mkL 3 f1))]
     rfl
   have g2:W D (atx x) (((S'.sc e 1).mk' c 2).sc s 1) (D.nx o) (fun S'' c'=>if c'=o then Lt D (D.nx o) e k (S''.mk' o 4) else 0)=W D (atx x) S' (D.nx o) fun S'' c'=>if c'=o then k (((S''.mk' c 3).mk' o 4).sc 0 2) else 0:=by
    rw [WS.sc_mk,WS.sc_sc,show e+s=0 by omega,show (1:Int)+1=2 by omega,yb6 ((Loc.scL x 0 2).comp (Loc.mkL 2 f1))]
    refine W_at hD fun S'' c' hA'=>ite0 fun e'=>?_
    have:WS.vis ((S''.mk' c 2).mk' o 4) (D.nx o)=true:=by
     rcases hA'.dd with hh|hh
     ·rw [←hh,e'];exact ybg _ _ _
     ·exact yiy (yiy hh)
    rw [ych (by exact this),WS.sc_mk,y7t S'' 2 3 4 (f1.trans f2.symm)]
   rw [g1,g2,he,Int.neg_mul]
   omega
  ·rw [if_neg (Ne.symm f7),if_neg (Ne.symm f7),yb6 ((Loc.mkL 3 f2).comp (Loc.scL x e 1))]
   refine W_at hD fun S'' c' hA'=>ite0 fun e'=>?_
   have:WS.vis ((S''.mk' c 3).mk' u 4) (D.nx c)=true:=by
    rcases hA'.dd with hh|hh
    ·rw [←hh,e'];exact ybg _ _ _
    ·exact yiy (yiy hh)
   rw [WS.sc_mk,WS.sc_mk,ych (by exact this)]
 have r2:wk1 D (S.sc e 1) o (Lt D u e k)=W D (atx x) S (D.nx o) fun S' c=>if c=u then W D (atx x) S' (D.nx u) (fun S'' c'=>if c'=o then k (((S''.mk' u 3).mk' o 4).sc e 1) else 0)
   else k ((S'.mk' o 3).sc (3*e) 1)+e*W D (atx x) S' (D.nx u) fun S'' c'=>if c'=u then k (((S''.mk' o 3).mk' u 4).sc (2*e) 2) else 0:=by
  rw [P4 hD h (by exact hst) (by exact vu) (by exact vo),WS.sc_mk,yb6 ((Loc.scL x e 1).comp (Loc.mkL 3 f2))]
  refine W_at hD fun S' c hA=>?_
  rcases h.or hA.at' with rfl|rfl
  ·rw [if_pos rfl,if_pos rfl,WS.sc_mk,yb6 ((Loc.scL x e 1).comp ((Loc.mkL 4 f1).comp (Loc.mkL 3 f2)))]
   refine W_at hD fun S'' c' hA'=>ite0 fun e'=>?_
   rw [ych (by exact ybg (S''.mk' o 3) c 4),ykl S'' 3 3 4 (f2.trans f1.symm)]
  ·rw [if_neg (Ne.symm f7),if_neg (Ne.symm f7)]
   have hv:WS.vis (S'.mk' c 3) u=false:=by rw [yag _ f7,hA.v _ f1];exact vu
   rw [ycr (by exact hv),WS.sc_sc,WS.sc_sc]
   congr 1
   ·congr 2;omega
   ·congr 1
    rw [show e+e=2*e by omega,show (1:Int)+1=2 by omega,y3t (x:=x) hD f1 f3 (by exact yd5 f2) (by exact hv) (by rw [f5];exact ybg S' c 3),yb6 ((Loc.scL x (2*e) 2).comp (Loc.mkL 3 f2))]
    rfl
 have l1:wk1 D (S.sc (3*e) 1) (D.nx o) k=W D (atx x) S (D.nx o) fun S' c=>if c=u then W D (atx x) S' (D.nx u) (fun S'' c'=>if c'=o then k (((S''.mk' u 3).mk' o 4).sc e 1) else 0)+s*k ((S'.mk' u 2).sc (2*e) 2) else k ((S'.mk' o 3).sc (3*e) 1):=by
  rw [P2 hD h (by exact hst) (by exact vu) (by exact vo) (by exact wo'),hs,yb6 (Loc.scL x (3*e) 1)]
  refine W_at hD fun S' c hA=>?_
  rcases h.or hA.at' with rfl|rfl
  ·rw [if_pos rfl,if_pos rfl,WS.sc_mk,WS.sc_sc,WS.sc_mk,WS.sc_sc,show 3*e+2*s=e by omega,show 3*e+s=2*e by omega,show (1:Int)+0=1 by omega,show (1:Int)+1=2 by omega,yb6 ((Loc.scL x e 1).comp (Loc.mkL 3 f1))]
   rfl
  ·rw [if_neg (Ne.symm f7),if_neg (Ne.symm f7)];rfl
 have r1:wk1 D (S.sc (3*e) 1) u k=(W D (atx x) S (D.nx u) fun S' c=>if c=u then k ((S'.mk' u 3).sc e 1) else W D (atx x) S' (D.nx o) fun S'' c'=>if c'=u then k (((S''.mk' o 3).mk' u 4).sc e 1) else 0)
   +s*W D (atx x) S (D.nx o) fun S' c=>if c=u then k ((S'.mk' u 2).sc (2*e) 2) else W D (atx x) S' (D.nx u) fun S'' c'=>if c'=u then k (((S''.mk' o 3).mk' u 4).sc (2*e) 2) else 0:=by
  rw [P3 hD h (by exact hst) (by exact vu) (by exact vo),hs]
  congr 1
  ·rw [WS.sc_mk,WS.sc_sc,show 3*e+2*s=e by omega,show (1:Int)+0=1 by omega,yb6 ((Loc.scL x e 1).comp (Loc.mkL 3 f1))]
   refine W_at hD fun S' c hA=>?_
   rcases h.or hA.at' with rfl|rfl
   ·rw [if_pos rfl,if_pos rfl]
   ·rw [if_neg (Ne.symm f7),if_neg (Ne.symm f7),WS.sc_mk,yb6 ((Loc.scL x e 1).comp ((Loc.mkL 4 f2).comp (Loc.mkL 3 f1)))]
    refine W_at hD fun S'' c' hA'=>ite0 fun e'=>?_
    rw [ykl S'' 3 3 4 (f1.trans f2.symm)]
  ·congr 1
   rw [WS.sc_mk,WS.sc_sc,show 3*e+s=2*e by omega,show (1:Int)+1=2 by omega,yb6 ((Loc.scL x (2*e) 2).comp (Loc.mkL 2 f1))]
   refine W_at hD fun S' c hA=>?_
   rcases h.or hA.at' with rfl|rfl
   ·rw [if_pos rfl,if_pos rfl]
   ·rw [if_neg (Ne.symm f7),if_neg (Ne.symm f7),WS.sc_mk,yb6 ((Loc.scL x (2*e) 2).comp ((Loc.mkL 4 f2).comp (Loc.mkL 2 f1)))]
    refine W_at hD fun S'' c' hA'=>ite0 fun e'=>?_
    rw [ykl S'' 2 3 4 (f1.trans f2.symm)]
 rw [l1,l2,r1,r2]
 have key: ∀A B C E:Int,A=E+C->A+B=B+E+C:=fun A B C E h=>by omega
 refine key _ _ _ _ ?_
 rw [←y9b,←ywg]
 refine W_at hD fun S' c hA=>?_
 rcases h.or hA.at' with rfl|rfl
 ·rw [if_pos rfl,if_pos rfl,if_pos rfl];omega
 ·rw [if_neg (Ne.symm f7),if_neg (Ne.symm f7),if_neg (Ne.symm f7),he,Int.neg_mul];omega
end
def Lw (D:Sh):List (Nat×Int)->(WS->Int)->WS->Int
 |[],k=>k
 |(a,e)::l,k=>Lt D a e (Lw D l k)
def nof (D:Sh) (a:Nat) (p:Bool):Nat:=if p then D.nx a else D.nx (co a)
def sl (D:Sh) (a:Nat):Int:=sgn D (co a % 2) (a/2)
def ltrs (D:Sh):List (Nat×Bool)->List (Nat×Int)
 |[]=>[]
 |(a,p)::l=>if p then (co a,sl D a)::ltrs D l else ltrs D l
def chn (D:Sh):Nat->List (Nat×Bool)->Nat->Prop
 |s,[],e=>s=e
 |s,(a,p)::l,e=>s=a/\chn D (nof D a p) l e
end Hs
end Go.Proofs.YtjpbeacamoijhaaDoor
