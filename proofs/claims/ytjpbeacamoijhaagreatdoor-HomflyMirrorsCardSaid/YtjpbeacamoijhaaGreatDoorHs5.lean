/- Plain: on the sphere, a marking of the edges by elements of a group that fits at each vertex comes of a potential on the faces. -/
import Derived.Test.YtjpbeacamoijhaaGreatDoorSq
namespace Go.Proofs.YtjpbeacamoijhaaGreatDoor
set_option linter.unusedSimpArgs false
set_option linter.unusedVariables false
namespace Sp
open Classical
structure Gr (G:Type) where
 mul:G->G->G
 one:G
 inv:G->G
 assoc: ∀a b c,mul (mul a b) c=mul a (mul b c)
 ol: ∀a,mul one a=a
 or': ∀a,mul a one=a
 il: ∀a,mul (inv a) a=one
 ir: ∀a,mul a (inv a)=one
section
variable {G:Type} (P:Gr G) {N:Nat} {si al:Nat->Nat} {w g:Nat->G}
theorem Gr.lc {a b c:G} (h:P.mul a b=P.mul a c):b=c:=by
 have:=congrArg (P.mul (P.inv a)) h
 rwa [←P.assoc,←P.assoc,P.il,P.ol,P.ol] at this
theorem Gr.rc {a b c:G} (h:P.mul b a=P.mul c a):b=c:=by
 have:=congrArg (fun x=>P.mul x (P.inv a)) h
 simpa only [P.assoc,P.ir,P.or'] using this
structure iU (N:Nat) (si al:Nat->Nat) (w g:Nat->G):Prop where
 mK: ∀x,x<N->g (si (al x))=g x
 edge: ∀x,x<N->g (al x)=P.mul (g x) (w x)
theorem Xz {f:Nat->Nat} (hf:aw N f) (h: ∀x,x<N->g (f x)=g x) {x y:Nat} (hx:x<N) (hs:SC f x y):g y=g x:=by
 obtain ⟨k,rfl⟩:=hs
 induction k with
 |zero=>rfl
 |succ k ih=>simp only [itn];rw [h _ (hf.a7 hx k),ih]
theorem XW (h:eY N si al) {p q:Nat} (hp:p<N) (hq:q<N) (pa:p≠q) (lN:SC si p q) (hg:iU P N (swp si p q) al w g): ∃g',iU P N si al w g':=by
 have hs:=h.perm;have ha:=h.ki;have aX:=yg hs hp hq;have hE:=sa hs ha;have cn:=sa aX ha;have iR:=ha.lt p hp;have p8:=ha.lt q hq;have jA:=qL hs ha N (Nat.le_refl _);have gY:=qL aX ha N (Nat.le_refl _);have J4:al p≠al q:=fun e=>pa (by rw [←ha.inv p hp,←ha.inv q hq,e]);have wM: ∀x,x<N->swp (ba si al N) (al p) (al q) x=ba (swp si p q) al N x:=fun x hx=>by
  rw [da ha hx];unfold swp;have i1:=ha.inv x hx;by_cases h1:x=al p
  ·subst h1;rw [if_pos rfl,ha.inv p hp,if_pos rfl,da ha p8,ha.inv q hq]
  ·rw [if_neg h1];have n1:al x≠p:=fun e=>h1 (by rw [←e,i1]);by_cases h2:x=al q
   ·subst h2;rw [if_pos rfl,ha.inv q hq,if_neg (Ne.symm pa),if_pos rfl,da ha iR,ha.inv p hp]
   ·rw [if_neg h2];have n2:al x≠q:=fun e=>h2 (by rw [←e,i1]);rw [if_neg n1,if_neg n2,da ha hx]
 have nD:=yg jA iR p8;have fin: ∀g',iU P N (swp si p q) al w g'->g' (al p)=g' (al q)->iU P N si al w g':=fun g' qx he=>by
  refine ⟨fun x hx=>?_,qx.edge⟩;by_cases h1:al x=p
  ·have e:=qx.mK (al q) p8;rw [ha.inv q hq] at e
   have:swp si p q q=si p:=by unfold swp;rw [if_neg (Ne.symm pa),if_pos rfl]
   rw [this] at e;rw [h1,e,←he,←h1,ha.inv x hx]
  ·by_cases h2:al x=q
   ·have e:=qx.mK (al p) iR;rw [ha.inv p hp] at e
    have:swp si p q p=si q:=by unfold swp;rw [if_pos rfl]
    rw [this] at e;rw [h2,e,he,←h2,ha.inv x hx]
   ·have e:=qx.mK x hx;rwa [show swp si p q (al x)=si (al x) by unfold swp;rw [if_neg h1,if_neg h2]] at e
 have pz: ∀g',iU P N (swp si p q) al w g'-> ∀x y,x<N->SC (ba (swp si p q) al N) x y->g' y=g' x:=fun g' qx x y hx BF=>Xz gY (fun z hz=>by rw [da ha hz];exact qx.mK z hz) hx BF;by_cases hF:SC (ba si al N) (al p) (al q)
 ·--the parts are different components
  have iy: ¬SC (ba (swp si p q) al N) (al p) (al q):=fun e=>Ag jA iR J4 hF ((yf nD wM iR).2 e);have nJ:KK si al N p q:=rT hs ha hp lN;have hnK: ¬KK (swp si p q) al N p q:=fun dI=>by
   have BL:=Ag hs hp pa lN;have FW:=vy aX hp hq BL;rw [Ab] at FW;obtain ⟨lV,hV⟩:=Tr.exists (SC.eqv hs) (KK si al N p);obtain ⟨lF,Wm⟩:=Tr.exists (SC.eqv jA) (KK si al N p);have heq:=h.eq p hp lV lF hV Wm;obtain ⟨FE,xf⟩:=Tr.exists (SC.eqv aX) (KK si al N p);obtain ⟨BB,xj⟩:=Tr.exists (SC.eqv gY) (KK si al N p);have OO:KK si al N p p:=hE.cw _ hp
   have tY:FE.length=lV.length+1:=xf.join (SC.eqv aX) hp hq OO nJ BL (hV.congr FW);have xh:KK si al N p (al p):=e7 hs ha hp;have xg:KK si al N p (al q):=hE.trans _ _ _ hp hq p8 nJ (e7 hs ha hq);have yB:Tr N (KK si al N p) (SC (swp (ba si al N) (al p) (al q))) BB:=xj.congr fun x y hx _=>(yf nD wM hx).symm;have wO:=Ag jA iR J4 hF;have hj:=vy nD iR p8 wO
   rw [Ab] at hj;have Wx:=yB.join (SC.eqv nD) iR p8 xh xg wO (Wm.congr hj);have aJ: ∀x y,x<N->y<N->KK (swp si p q) al N x y->KK si al N x y:=fun x y hx hy hk=>by
    refine sJ aX ha hE (fun x hx=>?_) (fun x hx=>e7 hs ha hx) hx hy hk;unfold swp;by_cases h1:x=p
    ·rw [if_pos h1,h1];exact hE.trans _ _ _ hp hq (hs.lt _ hq) nJ (iC hs ha hq)
    ·by_cases h2:x=q
     ·rw [if_neg h1,if_pos h2,h2];exact hE.trans _ _ _ hq hp (hs.lt _ hp) (hE.symm _ _ hp hq nJ) (iC hs ha hp)
     ·rw [if_neg h1,if_neg h2];exact iC hs ha hx
   have uO: ∀x y,x<N->y<N->KK si al N x y->KK (swp si p q) al N x y:=fun x y hx hy hk=>by
    refine sJ hs ha cn (fun x hx=>?_) (fun x hx=>e7 aX ha hx) hx hy hk;by_cases h1:x=p
    ·have:=iC aX ha hq
     rw [show swp si p q q=si p by unfold swp;rw [if_neg (Ne.symm pa),if_pos rfl]] at this;rw [h1];exact cn.trans _ _ _ hp hq (hs.lt _ hp) dI this
    ·by_cases h2:x=q
     ·have:=iC aX ha hp
      rw [show swp si p q p=si q by unfold swp;rw [if_pos rfl]] at this;rw [h2];exact cn.trans _ _ _ hq hp (hs.lt _ hq) (cn.symm _ _ hp hq dI) this
     ·have:=iC aX ha hx
      rwa [show swp si p q x=si x by unfold swp;rw [if_neg h1,if_neg h2]] at this
   have aY: ∀x,x<N->(KK si al N p x↔KK (swp si p q) al N p x):=fun x hx=>⟨uO p x hp hx,aJ p x hp hx⟩;have e1:=xf.cy aY (E':=SC (swp si p q)) (fun _ _ _ _ _ _=>Iff.rfl);have e2:=xj.cy aY (E':=SC (ba (swp si p q) al N)) (fun _ _ _ _ _ _=>Iff.rfl);have e3:eU al (KK si al N p) N=eU al (KK (swp si p q) al N p) N:=Af fun x hx=>by rw [aY x hx]
   have e4:=H6 aX ha hp e1 e2;omega
  refine ⟨fun z=>if KK (swp si p q) al N q z then P.mul (P.mul (g (al p)) (P.inv (g (al q)))) (g z) else g z,fin _ ⟨fun x hx=>?_,fun x hx=>?_⟩ ?_⟩
  ·have qQ:=ha.lt x hx;have aY:=ji aX ha hq;have e:KK (swp si p q) al N q (swp si p q (al x))↔KK (swp si p q) al N q x:=by rw [←aY.1 _ qQ,←aY.2 _ hx]
   by_cases hk:KK (swp si p q) al N q x
   ·rw [if_pos hk,if_pos (e.2 hk),hg.mK x hx]
   ·rw [if_neg hk,if_neg fun e'=>hk (e.1 e'),hg.mK x hx]
  ·have e:=(ji aX ha hq).2 x hx
   have:=hg.edge x hx
   by_cases hk:KK (swp si p q) al N q x
   ·rw [if_pos hk,if_pos (e.1 hk),this];simp only [P.assoc]
   ·rw [if_neg hk,if_neg fun e'=>hk (e.2 e')];exact this
  ·have e1: ¬KK (swp si p q) al N q (al p):=fun e=>hnK (cn.symm _ _ hq hp (cn.trans _ _ _ hq iR hp e (cn.symm _ _ hp iR (e7 aX ha hp))));rw [if_neg e1,if_pos (e7 aX ha hq),P.assoc,P.il,P.or']
 ·--one mK behind the parting
  refine ⟨g,fin g hg ?_⟩;have hj:=vy jA iR p8 hF
  have:SC (ba (swp si p q) al N) (al p) (al q):=(yf nD wM iR).1 ((hj _ _ iR p8).2 (.inr (.inl ⟨.refl _ _, .refl _ _⟩)))
  exact (pz g hg _ _ iR this).symm
def Vx (N:Nat) (si:Nat->Nat) (w t:Nat->G):Prop:= ∀x,x<N->t (si x)=P.mul (t x) (w x)
noncomputable def nL (N:Nat) (si:Nat->Nat):Nat:=cU (fun x=>si x≠x) N
theorem IA {U W:Nat->Prop} {k:Nat} (h: ∀x,x<k->U x->W x):cU U k<=cU W k:=by
 induction k with
 |zero=>simp [cU]
 |succ k ih=>
  rw [uB,uB]
  have:=ih fun x hx=>h x (by omega)
  by_cases h1:U k
  ·rw [if_pos h1,if_pos (h k (by omega) h1)];omega
  ·rw [if_neg h1];omega
theorem Ku {U W:Nat->Prop} {k x:Nat} (h: ∀x,x<k->U x->W x) (hx:x<k) (h1: ¬U x) (h2:W x):cU U k<cU W k:=by
 induction k with
 |zero=>omega
 |succ k ih=>
  rw [uB,uB];by_cases hk:x=k
  ·subst hk
   have:=IA (k:=x) fun y hy=>h y (by omega)
   rw [if_neg h1,if_pos h2];omega
  ·have:=ih (fun y hy=>h y (by omega)) (by omega)
   by_cases h3:U k
   ·rw [if_pos h3,if_pos (h k (by omega) h3)];omega
   ·rw [if_neg h3];omega
theorem off (h:eY N si al) {t:Nat->G} (ht:Vx P N si w t) {x:Nat} (hx:x<N) (hw:w x=P.one):
  ∃eK,eY N eK al/\Vx P N eK w t/\eK x=x/\(∀y,y<N->eK y≠y->si y≠y)/\(si x≠x->nL N eK<nL N si)/\(∀g,iU P N eK al w g-> ∃g',iU P N si al w g'):=by
 by_cases e:si x=x
 ·exact ⟨si,h,ht,e,fun _ _ h=>h,fun hn=>absurd e hn,fun g hg=>⟨g,hg⟩⟩
 ·obtain ⟨k,h0,hk⟩:=h.perm.back hx;obtain ⟨j,rfl⟩: ∃j,k=j+1:=⟨k-1,by omega⟩;obtain ⟨p,hp⟩: ∃p,p=itn si j x:=⟨_,rfl⟩;have mD:p<N:=hp▸h.perm.a7 hx j;have gS:si p=x:=by rw [hp];exact hk
  have yt:p≠x:=fun e'=>e (by rw [←e'];exact gS▸e'.symm▸e');have s1:swp si p x p=si x:=by unfold swp;rw [if_pos rfl]
  have s2:swp si p x x=x:=by unfold swp;rw [if_neg (Ne.symm yt),if_pos rfl];exact gS
  have s3: ∀y,y≠p->y≠x->swp si p x y=si y:=fun y h1 h2=>by unfold swp;rw [if_neg h1,if_neg h2]
  have hm: ∀y,y<N->swp si p x y≠y->si y≠y:=fun y hy hn e'=>by
   by_cases h1:y=p
   ·subst h1;rw [gS] at e';exact yt e'.symm
   ·by_cases h2:y=x
    ·exact e (h2▸e')
    ·rw [s3 y h1 h2] at hn;exact hn e'
  refine ⟨swp si p x,h.split mD hx yt ⟨1,gS⟩,fun y hy=>?_,s2,hm,fun _=>Ku hm hx (fun hn=>hn s2) e,fun g hg=>XW P h mD hx yt ⟨1,gS⟩ hg⟩;by_cases h1:y=p
  ·have a1:=ht x hx;have a2:=ht p mD;rw [gS] at a2;rw [h1,s1,a1,hw,P.or',a2]
  ·by_cases h2:y=x
   ·rw [h2,s2,hw,P.or']
   ·rw [s3 y h1 h2];exact ht y hy
theorem leaf (h:eY N si al) {a:Nat} (ha:a<N) (h1: ∀x,x<N->KK si al N a x->SC (ba si al N) x (al x)): ∃x,x<N/\KK si al N a x/\si x=x:=by
 have hs:=h.perm;have hm:=h.ki;have hE:=sa hs hm;have jA:=qL hs hm N (Nat.le_refl _);apply Classical.byContradiction;intro iy;have ax: ∀x,x<N->KK si al N a x->si x≠x:=fun x hx hk e=>iy ⟨x,hx,hk,e⟩;have aY:=ji hs hm ha;have cg: ∀x,x<N->KK si al N a x->SC (ba si al N) a x:=fun x hx hk=>by
  have:=sJ hs hm (R:=fun x y=>(KK si al N a x↔KK si al N a y)/\(KK si al N a x->SC (ba si al N) x y)) ⟨fun x _=>⟨Iff.rfl,fun _=> .refl _ _⟩,fun x y hx hy h=>⟨h.1.symm,fun hk=>(h.2 (h.1.2 hk)).symm jA hx⟩,fun x y z _ _ _ h k=>⟨h.1.trans k.1,fun hk=>(h.2 hk).trans (k.2 (h.1.1 hk))⟩⟩
   (fun x hx=>⟨aY.1 x hx,fun hk=>(h1 x hx hk).trans ⟨1,by show ba si al N (al x)=si x;rw [da hm (hm.lt x hx),hm.inv x hx]⟩⟩) (fun x hx=>⟨aY.2 x hx,h1 x hx⟩) ha hx hk
  exact this.2 (hE.cw _ ha)
 have hF:Tr N (KK si al N a) (SC (ba si al N)) [a]:=by
  refine ⟨fun x hx=>?_,by simp,fun x hx y hy _=>?_,fun x hx hk=>⟨a,by simp,(cg x hx hk).symm jA ha⟩⟩
  ·simp at hx;subst hx;exact ⟨ha,hE.cw _ ha⟩
  ·simp at hx hy;rw [hx,hy]
 obtain ⟨lV,hV⟩:=Tr.exists (SC.eqv hs) (KK si al N a);have e1:=h.eq a ha lV [a] hV hF;have e2:=Aa hm (U:=KK si al N a) aY.2;have e3:(lV++lV.map si).length<=((List.range N).filter fun x=>decide (KK si al N a x)).length:=by
  refine Ba _ _ id ?_ (fun x hx=>?_) (fun x _ y _ e=>e)
  ·rw [List.nodup_append];refine ⟨hV.nodup,?_,?_⟩
   ·rw [List.Nodup,List.pairwise_map];refine List.Pairwise.imp_of_mem ?_ hV.nodup;intro x y hx hy BF e;exact BF (hs.inj _ _ (hV.mem x hx).1 (hV.mem y hy).1 e)
   ·intro x hx y hy e;obtain ⟨z,hz,rfl⟩:=List.mem_map.1 hy
    have:=hV.apart z hz x hx ⟨1,e.symm⟩
    rw [this] at e;exact ax x (hV.mem x hx).1 (hV.mem x hx).2 e.symm
  ·rw [List.mem_filter,List.mem_range,decide_eq_true_eq];rcases List.mem_append.1 hx with hx|hx
   ·exact hV.mem x hx
   ·obtain ⟨z,hz,rfl⟩:=List.mem_map.1 hx;exact ⟨hs.lt _ (hV.mem z hz).1,(aY.1 z (hV.mem z hz).1).1 (hV.mem z hz).2⟩
 have e4:cU (KK si al N a) N=((List.range N).filter fun x=>decide (KK si al N a x)).length:=by unfold cU;rw [List.countP_eq_length_filter]
 rw [List.length_append,List.length_map] at e3;simp at e1;omega
theorem GR {hh:Nat->G} (hf: ∀x,x<N->hh (si (al x))=hh x) (hg:iU P N si al (fun x=>P.mul (P.mul (hh x) (w x)) (P.inv (hh (al x)))) g):iU P N si al w fun x=>P.mul (g x) (hh x):=by
 refine ⟨fun x hx=>?_,fun x hx=>?_⟩
 ·show P.mul (g (si (al x))) (hh (si (al x)))=_;rw [hg.mK x hx,hf x hx]
 ·show P.mul (g (al x)) (hh (al x))=_;rw [hg.edge x hx];simp only [P.assoc,P.il,P.or']
theorem eY.M7: ∀(m:Nat) {si:Nat->Nat} {w t:Nat->G},eY N si al->nL N si<=m->(∀x,x<N->w (al x)=P.inv (w x))->Vx P N si w t-> ∃g,iU P N si al w g:=fun m=>by
 induction m with
 |zero=>
  intro si w t h hm hw ht;have uW: ∀x,x<N->si x=x:=fun x hx=>by
   apply Classical.byContradiction;intro hn
   have:=Ku (U:=fun _=>False) (W:=fun x=>si x≠x) (fun _ _ h=>h.elim) hx (fun h=>h) hn
   unfold nL at hm;omega
  have h1: ∀x,x<N->w x=P.one:=fun x hx=>by
   have:=ht x hx
   rw [uW x hx] at this;exact (P.lc (a:=t x) (by rw [P.or'];exact this)).symm
  exact ⟨fun _=>P.one,fun _ _=>rfl,fun x hx=>by rw [h1 x hx,P.or']⟩
 |succ m ih=>
  intro si w t h hm hw ht;have hs:=h.perm;have ha:=h.ki;have jA:=qL hs ha N (Nat.le_refl _);have inv1:P.inv P.one=P.one:=by have:=P.ol (P.inv P.one);rw [←this,P.ir]
  have Hf: ∀(w t:Nat->G) (x:Nat),(∀x,x<N->w (al x)=P.inv (w x))->Vx P N si w t->x<N->(si x≠x\/si (al x)≠al x)->w x=P.one-> ∃g,iU P N si al w g:=fun w t x hw ht hx hn h1=>by
   obtain ⟨VD,a1,a2,a3,a4,a5,a6⟩:=off P h ht hx h1;obtain ⟨si2,b1,b2,b3,b4,b5,b6⟩:=off P a1 a2 (ha.lt x hx) (by rw [hw x hx,h1,inv1])
   have:nL N si2<=m:=by
    by_cases e:si x=x
    ·have yw:=hn.resolve_left (fun hn=>hn e);by_cases e1:VD (al x)=al x
     ·have:nL N VD<nL N si:=by
       exact Ku a4 (ha.lt x hx) (fun hn=>hn e1) yw
      have:=IA b4
      unfold nL at*;omega
     ·have:=b5 e1
      have:=IA a4
      unfold nL at*;omega
    ·have:=a5 e
     have:=IA b4
     unfold nL at*;omega
   obtain ⟨g,hg⟩:=ih b1 this hw b2;obtain ⟨g',qx⟩:=b6 g hg;exact a6 g' qx
  by_cases hact: ∃a,a<N/\si a≠a
  ·obtain ⟨a,bZ,J3⟩:=hact;by_cases hd: ∃x,x<N/\(si x≠x\/si (al x)≠al x)/\ ¬SC (ba si al N) x (al x)
   ·obtain ⟨x,hx,hn,hd⟩:=hd;let hh:Nat->G:=fun y=>if SC (ba si al N) x y then P.inv (w x) else P.one
    have hf: ∀y,y<N->hh (si (al y))=hh y:=fun y hy=>by
     have e:SC (ba si al N) x (si (al y))↔SC (ba si al N) x y:=by
      have st:SC (ba si al N) y (si (al y)):=⟨1,da ha hy⟩;exact ⟨fun k=>k.trans (st.symm jA hy),fun k=>k.trans st⟩
     show (if _ then _ else _)=if _ then _ else _;by_cases c:SC (ba si al N) x y
     ·rw [if_pos c,if_pos (e.2 c)]
     ·rw [if_neg c,if_neg fun c'=>c (e.1 c')]
    have k1: ∀y,y<N->P.mul (P.mul (hh (al y)) (w (al y))) (P.inv (hh (al (al y))))=P.inv (P.mul (P.mul (hh y) (w y)) (P.inv (hh (al y)))):=fun y hy=>by
     rw [ha.inv y hy,hw y hy];refine P.rc (a:=P.mul (P.mul (hh y) (w y)) (P.inv (hh (al y)))) ?_;rw [P.il];simp only [P.assoc];rw [←P.assoc (P.inv (hh y)),P.il,P.ol,←P.assoc (P.inv (w y)),P.il,P.ol,P.ir]
    have k2:Vx P N si (fun y=>P.mul (P.mul (hh y) (w y)) (P.inv (hh (al y)))) (fun y=>P.mul (t y) (P.inv (hh y))):=fun y hy=>by
     show P.mul (t (si y)) (P.inv (hh (si y)))=P.mul (P.mul (t y) (P.inv (hh y))) (P.mul (P.mul (hh y) (w y)) (P.inv (hh (al y))));have e:=hf (al y) (ha.lt y hy);rw [ha.inv y hy] at e;rw [e,ht y hy];simp only [P.assoc];rw [←P.assoc (P.inv (hh y)),P.il,P.ol]
    have k3:P.mul (P.mul (hh x) (w x)) (P.inv (hh (al x)))=P.one:=by
     show P.mul (P.mul (if _ then _ else _) (w x)) (P.inv (if _ then _ else _))=_;rw [if_pos (.refl _ _),if_neg hd,P.il,inv1,P.or']
    obtain ⟨g,hg⟩:=Hf (fun y=>P.mul (P.mul (hh y) (w y)) (P.inv (hh (al y)))) (fun y=>P.mul (t y) (P.inv (hh y))) x k1 k2 hx hn k3;exact ⟨_,GR P hf hg⟩
   ·--one mK:there is an end alone at its MT
    have Cg: ∀x,x<N->(si x≠x\/si (al x)≠al x)->SC (ba si al N) x (al x):=fun x hx hn=>Classical.byContradiction fun e=>hd ⟨x,hx,hn,e⟩;have aY:=ji hs ha bZ;have df: ∀x,x<N->KK si al N a x->(si x≠x\/si (al x)≠al x):=fun x hx hk=>by
     apply Classical.byContradiction;intro hn;have n1:si x=x:=Classical.byContradiction fun e=>hn (.inl e);have n2:si (al x)=al x:=Classical.byContradiction fun e=>hn (.inr e)
     have:=sJ hs ha (R:=fun u v=>(u=x\/u=al x)↔(v=x\/v=al x)) ⟨fun _ _=>Iff.rfl,fun _ _ _ _ h=>h.symm,fun _ _ _ _ _ _ h k=>h.trans k⟩ (fun u hu=>?_) (fun u hu=>?_) bZ hx hk
     ·rcases this.2 (.inl rfl) with e|e
      ·exact J3 (e▸n1)
      ·exact J3 (e▸n2)
     ·constructor
      ·rintro (e|e)
       ·rw [e,n1];exact .inl rfl
       ·rw [e,n2];exact .inr rfl
      ·rintro (e|e)
       ·exact .inl (hs.inj _ _ hu hx (by rw [e,n1]))
       ·exact .inr (hs.inj _ _ hu (ha.lt x hx) (by rw [e,n2]))
     ·constructor
      ·rintro (e|e)
       ·rw [e];exact .inr rfl
       ·rw [e,ha.inv x hx];exact .inl rfl
      ·rintro (e|e)
       ·right;rw [←e,ha.inv u hu]
       ·left;have:=congrArg al e;rwa [ha.inv u hu,ha.inv x hx] at this
    obtain ⟨x,hx,hk,e⟩:=leaf h bZ fun x hx hk=>Cg x hx (df x hx hk);refine Hf w t x hw ht hx (df x hx hk) ?_
    have:=ht x hx
    rw [e] at this;exact (P.lc (a:=t x) (by rw [P.or'];exact this)).symm
  ·have uW: ∀x,x<N->si x=x:=fun x hx=>Classical.byContradiction fun hn=>hact ⟨x,hx,hn⟩;refine ih h ?_ hw ht
   have:nL N si=0:=by
    unfold nL cU;rw [List.countP_eq_zero];intro x hx;simp [uW x (List.mem_range.1 hx)]
   omega
end
end Sp
end Go.Proofs.YtjpbeacamoijhaaGreatDoor
