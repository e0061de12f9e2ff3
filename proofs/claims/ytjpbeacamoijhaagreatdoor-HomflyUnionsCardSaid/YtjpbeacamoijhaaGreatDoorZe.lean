/- Plain: on the sphere, a marking of the edges by elements of a group that fits at each vertex comes of a potential on the faces. -/
import Derived.Test.YtjpbeacamoijhaaGreatDoorSq
import Derived.Test.YtjpbeacamoijhaaGreatDoorZd
namespace Go.Proofs.YtjpbeacamoijhaaGreatDoor
set_option linter.unusedSimpArgs false
set_option linter.unusedVariables false
namespace Sp
open Classical
structure Gr (G:Type) where
 mul:G->G->G
 one:G
 inv:G->G
 assoc: ∀a b c,mul (mul a b) c=mul a (mul b c)
 ol: ∀a,mul one a=a
 or': ∀a,mul a one=a
 il: ∀a,mul (inv a) a=one
 ir: ∀a,mul a (inv a)=one
section
variable {G:Type} (P:Gr G) {N:Nat} {si al:Nat->Nat} {w g:Nat->G}
theorem Gr.lc {a b c:G} (h:P.mul a b=P.mul a c):b=c:=by
 have:=congrArg (P.mul (P.inv a)) h
 rwa [<-P.assoc,<-P.assoc,P.il,P.ol,P.ol] at this
theorem Gr.rc {a b c:G} (h:P.mul b a=P.mul c a):b=c:=by
 have:=congrArg (fun x=>P.mul x (P.inv a)) h
 simpa only [P.assoc,P.ir,P.or'] using this
structure jo (N:Nat) (si al:Nat->Nat) (w g:Nat->G):Prop where
 nD: ∀x,x<N->g (si (al x))=g x
 edge: ∀x,x<N->g (al x)=P.mul (g x) (w x)
theorem y0q {f:Nat->Nat} (hf:aw N f) (h: ∀x,x<N->g (f x)=g x) {x y:Nat} (hx:x<N) (hs:SC f x y):g y=g x:=by
 obtain ⟨k,rfl⟩:=hs
 induction k with
 |zero=>rfl
 |succ k ih=>simp only [itn];rw [h _ (hf.bC hx k),ih]
theorem yx7 (h:fq N si al) {p q:Nat} (hp:p<N) (hq:q<N) (pN:p≠q) (jR:SC si p q) (hg:jo P N (swp si p q) al w g): ∃g',jo P N si al w g':=by
 have hs:=h.perm;have ha:=h.e7;have bJ:=vX hs hp hq;have hE:=dD hs ha;have bK:=dD bJ ha;have ji:=ha.lt p hp;have qB:=ha.lt q hq;have jL:=rA hs ha N (zzA _);have jE:=rA bJ ha N (zzA _);have KX:al p≠al q:=fun e=>pN (by rw [<-ha.inv p hp,<-ha.inv q hq,e]);have vz: ∀x,x<N->swp (bB si al N) (al p) (al q) x=bB (swp si p q) al N x:=fun x hx=>by
  rw [cD ha hx];unfold swp;have i1:=ha.inv x hx;by_cases h1:x=al p
  ·subst h1;rw [zzJ rfl,ha.inv p hp,zzJ rfl,cD ha qB,ha.inv q hq]
  ·rw [zzI h1];have n1:al x≠p:=fun e=>h1 (by rw [<-e,i1]);by_cases h2:x=al q
   ·subst h2;rw [zzJ rfl,ha.inv q hq,zzI (Ne.symm pN),zzJ rfl,cD ha ji,ha.inv p hp]
   ·rw [zzI h2];have n2:al x≠q:=fun e=>h2 (by rw [<-e,i1]);rw [zzI n1,zzI n2,cD ha hx]
 have od:=vX jL ji qB;have fin: ∀g',jo P N (swp si p q) al w g'->g' (al p)=g' (al q)->jo P N si al w g':=fun g' qS he=>by
  refine ⟨fun x hx=>?_,qS.edge⟩;by_cases h1:al x=p
  ·have e:=qS.nD (al q) qB;rw [ha.inv q hq] at e
   have:swp si p q q=si p:=by unfold swp;rw [zzI (Ne.symm pN),zzJ rfl]
   rw [this] at e;rw [h1,e,<-he,<-h1,ha.inv x hx]
  ·by_cases h2:al x=q
   ·have e:=qS.nD (al p) ji;rw [ha.inv p hp] at e
    have:swp si p q p=si q:=by unfold swp;rw [zzJ rfl]
    rw [this] at e;rw [h2,e,he,<-h2,ha.inv x hx]
   ·have e:=qS.nD x hx;rwa [show swp si p q (al x)=si (al x) by unfold swp;rw [zzI h1,zzI h2]] at e
 have qb: ∀g',jo P N (swp si p q) al w g'-> ∀x y,x<N->SC (bB (swp si p q) al N) x y->g' y=g' x:=fun g' qS x y hx vr=>y0q jE (fun z hz=>by rw [cD ha hz];exact qS.nD z hz) hx vr;by_cases hF:SC (bB si al N) (al p) (al q)
 ·--the parts are different components
  have eJ: ¬SC (bB (swp si p q) al N) (al p) (al q):=fun e=>zK jL ji KX hF ((wO od vz ji).2 e);have ot:KK si al N p q:=ri hs ha hp jR;have hnK: ¬KK (swp si p q) al N p q:=fun dW=>by
   have CJ:=zK hs hp pN jR;have GM:=tc bJ hp hq CJ;rw [zJ] at GM;obtain ⟨lV,hV⟩:=Tr.exists (SC.eqv hs) (KK si al N p);obtain ⟨lF,YA⟩:=Tr.exists (SC.eqv jL) (KK si al N p);have heq:=h.eq p hp lV lF hV YA;obtain ⟨Gt,qY⟩:=Tr.exists (SC.eqv bJ) (KK si al N p);obtain ⟨CA,Ay⟩:=Tr.exists (SC.eqv jE) (KK si al N p);have QC:KK si al N p p:=hE.bW _ hp
   have hv1:Gt.length=lV.length+1:=qY.join (SC.eqv bJ) hp hq QC ot CJ (hV.congr GM);have xW:KK si al N p (al p):=dI hs ha hp;have xU:KK si al N p (al q):=hE.trans _ _ _ hp hq qB ot (dI hs ha hq);have uN:Tr N (KK si al N p) (SC (swp (bB si al N) (al p) (al q))) CA:=Ay.congr fun x y hx _=>(wO od vz hx).symm;have xv:=zK jL ji KX hF;have hj:=tc od ji qB xv
   rw [zJ] at hj;have YK:=uN.join (SC.eqv od) ji qB xW xU xv (YA.congr hj);have aN: ∀x y,x<N->y<N->KK (swp si p q) al N x y->KK si al N x y:=fun x y hx hy hk=>by
    refine bU bJ ha hE (fun x hx=>?_) (fun x hx=>dI hs ha hx) hx hy hk;unfold swp;by_cases h1:x=p
    ·rw [zzJ h1,h1];exact hE.trans _ _ _ hp hq (hs.lt _ hq) ot (iu hs ha hq)
    ·by_cases h2:x=q
     ·rw [zzI h1,zzJ h2,h2];exact hE.trans _ _ _ hq hp (hs.lt _ hp) (hE.symm _ _ hp hq ot) (iu hs ha hp)
     ·rw [zzI h1,zzI h2];exact iu hs ha hx
   have vw: ∀x y,x<N->y<N->KK si al N x y->KK (swp si p q) al N x y:=fun x y hx hy hk=>by
    refine bU hs ha bK (fun x hx=>?_) (fun x hx=>dI bJ ha hx) hx hy hk;by_cases h1:x=p
    ·have:=iu bJ ha hq
     rw [show swp si p q q=si p by unfold swp;rw [zzI (Ne.symm pN),zzJ rfl]] at this;rw [h1];exact bK.trans _ _ _ hp hq (hs.lt _ hp) dW this
    ·by_cases h2:x=q
     ·have:=iu bJ ha hp
      rw [show swp si p q p=si q by unfold swp;rw [zzJ rfl]] at this;rw [h2];exact bK.trans _ _ _ hq hp (hs.lt _ hq) (bK.symm _ _ hp hq dW) this
     ·have:=iu bJ ha hx
      rwa [show swp si p q x=si x by unfold swp;rw [zzI h1,zzI h2]] at this
   have bF: ∀x,x<N->(KK si al N p x↔KK (swp si p q) al N p x):=fun x hx=>⟨vw p x hp hx,aN p x hp hx⟩;have e1:=qY.ct bF (E':=SC (swp si p q)) (fun _ _ _ _ _ _=>Iff.rfl);have e2:=Ay.ct bF (E':=SC (bB (swp si p q) al N)) (fun _ _ _ _ _ _=>Iff.rfl);have e3:eU al (KK si al N p) N=eU al (KK (swp si p q) al N p) N:=A9 fun x hx=>by rw [bF x hx]
   have e4:=E3 bJ ha hp e1 e2;omega
  refine ⟨fun z=>if KK (swp si p q) al N q z then P.mul (P.mul (g (al p)) (P.inv (g (al q)))) (g z) else g z,fin _ ⟨fun x hx=>?_,fun x hx=>?_⟩ ?_⟩
  ·have rG:=ha.lt x hx;have bF:=iG bJ ha hq;have e:KK (swp si p q) al N q (swp si p q (al x))↔KK (swp si p q) al N q x:=by rw [<-bF.1 _ rG,<-bF.2 _ hx]
   by_cases hk:KK (swp si p q) al N q x
   ·rw [zzJ hk,zzJ (e.2 hk),hg.nD x hx]
   ·rw [zzI hk,zzI fun e'=>hk (e.1 e'),hg.nD x hx]
  ·have e:=(iG bJ ha hq).2 x hx
   have:=hg.edge x hx
   by_cases hk:KK (swp si p q) al N q x
   ·rw [zzJ hk,zzJ (e.1 hk),this];simp only [P.assoc]
   ·rw [zzI hk,zzI fun e'=>hk (e.2 e')];exact this
  ·have e1: ¬KK (swp si p q) al N q (al p):=fun e=>hnK (bK.symm _ _ hq hp (bK.trans _ _ _ hq ji hp e (bK.symm _ _ hp ji (dI bJ ha hp))));rw [zzI e1,zzJ (dI bJ ha hq),P.assoc,P.il,P.or']
 ·--one nD behind the parting
  refine ⟨g,fin g hg ?_⟩;have hj:=tc jL ji qB hF
  have:SC (bB (swp si p q) al N) (al p) (al q):=(wO od vz ji).1 ((hj _ _ ji qB).2 (.inr (.inl ⟨.refl _ _, .refl _ _⟩)))
  exact (qb g hg _ _ ji this).symm
def Vx (N:Nat) (si:Nat->Nat) (w t:Nat->G):Prop:= ∀x,x<N->t (si x)=P.mul (t x) (w x)
noncomputable def oz (N:Nat) (si:Nat->Nat):Nat:=cU (fun x=>si x≠x) N
theorem JE {U W:Nat->Prop} {k:Nat} (h: ∀x,x<k->U x->W x):cU U k<=cU W k:=by
 induction k with
 |zero=>simp [cU]
 |succ k ih=>
  rw [u7,u7]
  have:=ih fun x hx=>h x (by omega)
  by_cases h1:U k
  ·rw [zzJ h1,zzJ (h k (by omega) h1)];omega
  ·rw [zzI h1];omega
theorem Lr {U W:Nat->Prop} {k x:Nat} (h: ∀x,x<k->U x->W x) (hx:x<k) (h1: ¬U x) (h2:W x):cU U k<cU W k:=by
 induction k with
 |zero=>omega
 |succ k ih=>
  rw [u7,u7];by_cases hk:x=k
  ·subst hk
   have:=JE (k:=x) fun y hy=>h y (by omega)
   rw [zzI h1,zzJ h2];omega
  ·have:=ih (fun y hy=>h y (by omega)) (by omega)
   by_cases h3:U k
   ·rw [zzJ h3,zzJ (h k (by omega) h3)];omega
   ·rw [zzI h3];omega
theorem off (h:fq N si al) {t:Nat->G} (ht:Vx P N si w t) {x:Nat} (hx:x<N) (hw:w x=P.one):
  ∃si',fq N si' al/\Vx P N si' w t/\si' x=x/\(∀y,y<N->si' y≠y->si y≠y)/\(si x≠x->oz N si'<oz N si)/\(∀g,jo P N si' al w g-> ∃g',jo P N si al w g'):=by
 by_cases e:si x=x
 ·exact ⟨si,h,ht,e,fun _ _ h=>h,fun hn=>absurd e hn,fun g hg=>⟨g,hg⟩⟩
 ·obtain ⟨k,h0,hk⟩:=h.perm.back hx;obtain ⟨j,rfl⟩: ∃j,k=j+1:=⟨k-1,by omega⟩;obtain ⟨p,hp⟩: ∃p,p=itn si j x:=⟨_,rfl⟩;have og:p<N:=hp▸h.perm.bC hx j;have iw:si p=x:=by rw [hp];exact hk
  have zk:p≠x:=fun e'=>e (by rw [<-e'];exact iw▸e'.symm▸e');have s1:swp si p x p=si x:=by unfold swp;rw [zzJ rfl]
  have s2:swp si p x x=x:=by unfold swp;rw [zzI (Ne.symm zk),zzJ rfl];exact iw
  have s3: ∀y,y≠p->y≠x->swp si p x y=si y:=fun y h1 h2=>by unfold swp;rw [zzI h1,zzI h2]
  have hm: ∀y,y<N->swp si p x y≠y->si y≠y:=fun y hy hn e'=>by
   by_cases h1:y=p
   ·subst h1;rw [iw] at e';exact zk e'.symm
   ·by_cases h2:y=x
    ·exact e (h2▸e')
    ·rw [s3 y h1 h2] at hn;exact hn e'
  refine ⟨swp si p x,h.split og hx zk ⟨1,iw⟩,fun y hy=>?_,s2,hm,fun _=>Lr hm hx (fun hn=>hn s2) e,fun g hg=>yx7 P h og hx zk ⟨1,iw⟩ hg⟩;by_cases h1:y=p
  ·have a1:=ht x hx;have a2:=ht p og;rw [iw] at a2;rw [h1,s1,a1,hw,P.or',a2]
  ·by_cases h2:y=x
   ·rw [h2,s2,hw,P.or']
   ·rw [s3 y h1 h2];exact ht y hy
theorem leaf (h:fq N si al) {a:Nat} (ha:a<N) (h1: ∀x,x<N->KK si al N a x->SC (bB si al N) x (al x)): ∃x,x<N/\KK si al N a x/\si x=x:=by
 have hs:=h.perm;have hm:=h.e7;have hE:=dD hs hm;have jL:=rA hs hm N (zzA _);apply zzT;intro eJ;have aA: ∀x,x<N->KK si al N a x->si x≠x:=fun x hx hk e=>eJ ⟨x,hx,hk,e⟩;have bF:=iG hs hm ha;have cF: ∀x,x<N->KK si al N a x->SC (bB si al N) a x:=fun x hx hk=>by
  have:=bU hs hm (R:=fun x y=>(KK si al N a x↔KK si al N a y)/\(KK si al N a x->SC (bB si al N) x y)) ⟨fun x _=>⟨Iff.rfl,fun _=> .refl _ _⟩,fun x y hx hy h=>⟨h.1.symm,fun hk=>(h.2 (h.1.2 hk)).symm jL hx⟩,fun x y z _ _ _ h k=>⟨h.1.trans k.1,fun hk=>(h.2 hk).trans (k.2 (h.1.1 hk))⟩⟩
   (fun x hx=>⟨bF.1 x hx,fun hk=>(h1 x hx hk).trans ⟨1,by show bB si al N (al x)=si x;rw [cD hm (hm.lt x hx),hm.inv x hx]⟩⟩) (fun x hx=>⟨bF.2 x hx,h1 x hx⟩) ha hx hk
  exact this.2 (hE.bW _ ha)
 have hF:Tr N (KK si al N a) (SC (bB si al N)) [a]:=by
  refine ⟨fun x hx=>?_,by simp,fun x hx y hy _=>?_,fun x hx hk=>⟨a,by simp,(cF x hx hk).symm jL ha⟩⟩
  ·simp at hx;subst hx;exact ⟨ha,hE.bW _ ha⟩
  ·simp at hx hy;rw [hx,hy]
 obtain ⟨lV,hV⟩:=Tr.exists (SC.eqv hs) (KK si al N a);have e1:=h.eq a ha lV [a] hV hF;have e2:=wM hm (U:=KK si al N a) bF.2;have e3:(lV++lV.map si).length<=((List.range N).filter fun x=>decide (KK si al N a x)).length:=by
  refine Cc _ _ id ?_ (fun x hx=>?_) (fun x _ y _ e=>e)
  ·rw [List.nodup_append];refine ⟨hV.nodup,?_,?_⟩
   ·rw [List.Nodup,List.pairwise_map];refine List.Pairwise.imp_of_mem ?_ hV.nodup;intro x y hx hy vr e;exact vr (hs.inj _ _ (hV.mem x hx).1 (hV.mem y hy).1 e)
   ·intro x hx y hy e;obtain ⟨z,hz,rfl⟩:=List.mem_map.1 hy
    have:=hV.apart z hz x hx ⟨1,e.symm⟩
    rw [this] at e;exact aA x (hV.mem x hx).1 (hV.mem x hx).2 e.symm
  ·rw [List.mem_filter,List.mem_range,decide_eq_true_eq];rcases List.mem_append.1 hx with hx|hx
   ·exact hV.mem x hx
   ·obtain ⟨z,hz,rfl⟩:=List.mem_map.1 hx;exact ⟨hs.lt _ (hV.mem z hz).1,(bF.1 z (hV.mem z hz).1).1 (hV.mem z hz).2⟩
 have e4:cU (KK si al N a) N=((List.range N).filter fun x=>decide (KK si al N a x)).length:=by unfold cU;rw [List.countP_eq_length_filter]
 rw [zzF,List.length_map] at e3;simp at e1;omega
theorem HK {hh:Nat->G} (hf: ∀x,x<N->hh (si (al x))=hh x) (hg:jo P N si al (fun x=>P.mul (P.mul (hh x) (w x)) (P.inv (hh (al x)))) g):jo P N si al w fun x=>P.mul (g x) (hh x):=by
 refine ⟨fun x hx=>?_,fun x hx=>?_⟩
 ·show P.mul (g (si (al x))) (hh (si (al x)))=_;rw [hg.nD x hx,hf x hx]
 ·show P.mul (g (al x)) (hh (al x))=_;rw [hg.edge x hx];simp only [P.assoc,P.il,P.or']
theorem fq.OT: ∀(m:Nat) {si:Nat->Nat} {w t:Nat->G},fq N si al->oz N si<=m->(∀x,x<N->w (al x)=P.inv (w x))->Vx P N si w t-> ∃g,jo P N si al w g:=fun m=>by
 induction m with
 |zero=>
  intro si w t h hm hw ht;have vE: ∀x,x<N->si x=x:=fun x hx=>by
   apply zzT;intro hn
   have:=Lr (U:=fun _=>False) (W:=fun x=>si x≠x) (fun _ _ h=>h.elim) hx (fun h=>h) hn
   unfold oz at hm;omega
  have h1: ∀x,x<N->w x=P.one:=fun x hx=>by
   have:=ht x hx
   rw [vE x hx] at this;exact (P.lc (a:=t x) (by rw [P.or'];exact this)).symm
  exact ⟨fun _=>P.one,fun _ _=>rfl,fun x hx=>by rw [h1 x hx,P.or']⟩
 |succ m ih=>
  intro si w t h hm hw ht;have hs:=h.perm;have ha:=h.e7;have jL:=rA hs ha N (zzA _);have inv1:P.inv P.one=P.one:=by have:=P.ol (P.inv P.one);rw [<-this,P.ir]
  have Ij: ∀(w t:Nat->G) (x:Nat),(∀x,x<N->w (al x)=P.inv (w x))->Vx P N si w t->x<N->(si x≠x\/si (al x)≠al x)->w x=P.one-> ∃g,jo P N si al w g:=fun w t x hw ht hx hn h1=>by
   obtain ⟨XJ,a1,a2,a3,a4,a5,a6⟩:=off P h ht hx h1;obtain ⟨si2,b1,b2,b3,b4,b5,b6⟩:=off P a1 a2 (ha.lt x hx) (by rw [hw x hx,h1,inv1])
   have:oz N si2<=m:=by
    by_cases e:si x=x
    ·have zo:=hn.resolve_left (fun hn=>hn e);by_cases e1:XJ (al x)=al x
     ·have:oz N XJ<oz N si:=by
       exact Lr a4 (ha.lt x hx) (fun hn=>hn e1) zo
      have:=JE b4
      unfold oz at*;omega
     ·have:=b5 e1
      have:=JE a4
      unfold oz at*;omega
    ·have:=a5 e
     have:=JE b4
     unfold oz at*;omega
   obtain ⟨g,hg⟩:=ih b1 this hw b2;obtain ⟨g',qS⟩:=b6 g hg;exact a6 g' qS
  by_cases hact: ∃a,a<N/\si a≠a
  ·obtain ⟨a,bH,KW⟩:=hact;by_cases hd: ∃x,x<N/\(si x≠x\/si (al x)≠al x)/\ ¬SC (bB si al N) x (al x)
   ·obtain ⟨x,hx,hn,hd⟩:=hd;let hh:Nat->G:=fun y=>if SC (bB si al N) x y then P.inv (w x) else P.one
    have hf: ∀y,y<N->hh (si (al y))=hh y:=fun y hy=>by
     have e:SC (bB si al N) x (si (al y))↔SC (bB si al N) x y:=by
      have st:SC (bB si al N) y (si (al y)):=⟨1,cD ha hy⟩;exact ⟨fun k=>k.trans (st.symm jL hy),fun k=>k.trans st⟩
     show (if _ then _ else _)=if _ then _ else _;by_cases c:SC (bB si al N) x y
     ·rw [zzJ c,zzJ (e.2 c)]
     ·rw [zzI c,zzI fun c'=>c (e.1 c')]
    have k1: ∀y,y<N->P.mul (P.mul (hh (al y)) (w (al y))) (P.inv (hh (al (al y))))=P.inv (P.mul (P.mul (hh y) (w y)) (P.inv (hh (al y)))):=fun y hy=>by
     rw [ha.inv y hy,hw y hy];refine P.rc (a:=P.mul (P.mul (hh y) (w y)) (P.inv (hh (al y)))) ?_;rw [P.il];simp only [P.assoc];rw [<-P.assoc (P.inv (hh y)),P.il,P.ol,<-P.assoc (P.inv (w y)),P.il,P.ol,P.ir]
    have k2:Vx P N si (fun y=>P.mul (P.mul (hh y) (w y)) (P.inv (hh (al y)))) (fun y=>P.mul (t y) (P.inv (hh y))):=fun y hy=>by
     show P.mul (t (si y)) (P.inv (hh (si y)))=P.mul (P.mul (t y) (P.inv (hh y))) (P.mul (P.mul (hh y) (w y)) (P.inv (hh (al y))));have e:=hf (al y) (ha.lt y hy);rw [ha.inv y hy] at e;rw [e,ht y hy];simp only [P.assoc];rw [<-P.assoc (P.inv (hh y)),P.il,P.ol]
    have k3:P.mul (P.mul (hh x) (w x)) (P.inv (hh (al x)))=P.one:=by
     show P.mul (P.mul (if _ then _ else _) (w x)) (P.inv (if _ then _ else _))=_;rw [zzJ (.refl _ _),zzI hd,P.il,inv1,P.or']
    obtain ⟨g,hg⟩:=Ij (fun y=>P.mul (P.mul (hh y) (w y)) (P.inv (hh (al y)))) (fun y=>P.mul (t y) (P.inv (hh y))) x k1 k2 hx hn k3;exact ⟨_,HK P hf hg⟩
   ·--one nD:there is an end alone at its OK
    have Da: ∀x,x<N->(si x≠x\/si (al x)≠al x)->SC (bB si al N) x (al x):=fun x hx hn=>zzT fun e=>hd ⟨x,hx,hn,e⟩;have bF:=iG hs ha bH;have dA: ∀x,x<N->KK si al N a x->(si x≠x\/si (al x)≠al x):=fun x hx hk=>by
     apply zzT;intro hn;have n1:si x=x:=zzT fun e=>hn (.inl e);have n2:si (al x)=al x:=zzT fun e=>hn (.inr e)
     have:=bU hs ha (R:=fun u v=>(u=x\/u=al x)↔(v=x\/v=al x)) ⟨fun _ _=>Iff.rfl,fun _ _ _ _ h=>h.symm,fun _ _ _ _ _ _ h k=>h.trans k⟩ (fun u hu=>?_) (fun u hu=>?_) bH hx hk
     ·rcases this.2 (.inl rfl) with e|e
      ·exact KW (e▸n1)
      ·exact KW (e▸n2)
     ·constructor
      ·rintro (e|e)
       ·rw [e,n1];exact .inl rfl
       ·rw [e,n2];exact .inr rfl
      ·rintro (e|e)
       ·exact .inl (hs.inj _ _ hu hx (by rw [e,n1]))
       ·exact .inr (hs.inj _ _ hu (ha.lt x hx) (by rw [e,n2]))
     ·constructor
      ·rintro (e|e)
       ·rw [e];exact .inr rfl
       ·rw [e,ha.inv x hx];exact .inl rfl
      ·rintro (e|e)
       ·right;rw [<-e,ha.inv u hu]
       ·left;have:=congrArg al e;rwa [ha.inv u hu,ha.inv x hx] at this
    obtain ⟨x,hx,hk,e⟩:=leaf h bH fun x hx hk=>Da x hx (dA x hx hk);refine Ij w t x hw ht hx (dA x hx hk) ?_
    have:=ht x hx
    rw [e] at this;exact (P.lc (a:=t x) (by rw [P.or'];exact this)).symm
  ·have vE: ∀x,x<N->si x=x:=fun x hx=>zzT fun hn=>hact ⟨x,hx,hn⟩;refine ih h ?_ hw ht
   have:oz N si=0:=by
    unfold oz cU;rw [List.countP_eq_zero];intro x hx;simp [vE x (List.mem_range.1 hx)]
   omega
end
end Sp
namespace Hs
open Classical
open Sp (Gr jo Vx fq bt)
def cB (D:Sh) (a:Nat):Nat:=if a % 2=0 then 4*(a/2) else if D.sg (a/2)=1 then 4*(a/2)+3 else 4*(a/2)+1
def aH (D:Sh) (a:Nat):Nat:=if a % 2=0 then 4*(a/2)+2 else if D.sg (a/2)=1 then 4*(a/2)+1 else 4*(a/2)+3
structure tU (D:Sh) (al:Nat->Nat):Prop where
 te:fq (4*D.n) bt al
 mate: ∀a,a<2*D.n->al (aH D a)=cB D (D.nx a)
section
variable {D:Sh} {S0:WS}
def Om (D:Sh) (S0:WS):Type:={S:WS//Bd D S/\Ext S0 S}
abbrev Ph (D:Sh) (S0:WS):Type:=Om D S0->Int
noncomputable def rV (k:Ph D S0) (S:WS):Int:=if h:Bd D S/\Ext S0 S then k ⟨S,h⟩ else 0
theorem Xf (k:Ph D S0) (S:Om D S0):rV k S.1=k S:=dif_pos S.2
noncomputable def dY (a:Nat) (e:Int) (k:Ph D S0):Ph D S0:=fun S=>Lt D a e (rV k) S.1
theorem Mp (hD:Ok D) (a:Nat) (e:Int) (k:Ph D S0) {S:WS} (hB:Bd D S) (hE:Ext S0 S):rV (dY a e k) S=Lt D a e (rV k) S:=dif_pos ⟨hB,hE⟩
structure kb (D:Sh) (S0:WS) where
 f:Ph D S0->Ph D S0
 g:Ph D S0->Ph D S0
 fg: ∀k,f (g k)=k
 gf: ∀k,g (f k)=k
theorem kb.ext {x y:kb D S0} (h: ∀k,x.f k=y.f k):x=y:=by
 obtain ⟨f,g,h1,h2⟩:=x;obtain ⟨f',g',h3,h4⟩:=y;have e:f=f':=funext h;subst e
 have:g=g':=funext fun k=>by
  have:=h2 (g' k)
  rw [h3] at this;exact this
 subst this;rfl
def a7 (D:Sh) (S0:WS):Gr (kb D S0) where
 mul x y:=⟨fun k=>x.f (y.f k),fun k=>y.g (x.g k),fun k=>by rw [y.fg,x.fg],fun k=>by rw [x.gf,y.gf]⟩
 one:=⟨id,id,fun _=>rfl,fun _=>rfl⟩
 inv x:=⟨x.g,x.f,x.gf,x.fg⟩
 assoc _ _ _:=rfl
 ol _:=rfl
 or' _:=rfl
 il x:=kb.ext fun k=>x.gf k
 ir x:=kb.ext fun k=>x.fg k
theorem JD (hD:Ok D) (a:Nat) {e:Int} (he:e=1\/e= -1) (k:Ph D S0):dY a e (dY a (-e) k)=k:=funext fun S=>by
 show Lt D a e (rV (dY a (-e) k)) S.1=_;rw [A8 hD S.2.1 (k':=Lt D a (-e) (rV k)) fun S' hB hE=>Mp hD a (-e) k hB (S.2.2.trans hE),Oi hD he S.2.1,Xf]
theorem Jj (hD:Ok D) (a:Nat) (k:Ph D S0):dY a 1 (dY a (-1) k)=k:=JD hD a (.inl rfl) k
theorem Ji (hD:Ok D) (a:Nat) (k:Ph D S0):dY a (-1) (dY a 1 k)=k:=JD hD a (.inr rfl) k
noncomputable def Le (hD:Ok D) (a:Nat):kb D S0:=⟨dY a 1,dY a (-1),fun k=>JD hD a (.inl rfl) k,fun k=>JD hD a (.inr rfl) k⟩
theorem Oe {a b:Nat} {e:Int} (h: ∀(S:WS) (k:WS->Int),Bd D S->Ext S0 S->Lt D a e k S=Lt D b e k S) (k:Ph D S0):dY a e k=dY b e k:=funext fun S=>h S.1 (rV k) S.2.1 S.2.2
theorem Iz (hD:Ok D) {a b:Nat} (h: ∀(e:Int) (S:WS) (k:WS->Int),Bd D S->Ext S0 S->Lt D a e k S=Lt D b e k S):(Le hD a:kb D S0)=Le hD b:=kb.ext fun k=>Oe (h 1) k
theorem y8d {a:Nat} (h:S0.ae a=true) (e:Int) (k:Ph D S0):dY a e k=k:=funext fun S=>by
 show Lt D a e (rV k) S.1=_;rw [sP (S.2.2.ae a h),Xf]
theorem Jh (hD:Ok D) {a:Nat} (h:S0.ae a=true):(Le hD a:kb D S0)=(a7 D S0).one:=kb.ext fun k=>y8d h 1 k
theorem V7 {q q':Nat} (h:ev q q') (hq:q=3\/q=4):q'=3\/q'=4:=by unfold ev at h;omega
theorem HU {q q':Nat} (h:ev q q') (hq:q=2\/q=4\/q=5):q'=2\/q'=4\/q'=5:=by unfold ev at h;omega
theorem y8e (hD:Ok D) {a:Nat} (hl:a<2*D.n) (h:S0.st (a/2)=3\/S0.st (a/2)=4):(Le hD a:kb D S0)=Le hD (D.nx a):=
 Iz hD fun e S k hB hE=>Mw hD hB hl (V7 (hE.st _) h)
theorem Jg (hD:Ok D) {x q u o:Nat} (h:Fr D x q u o) {e:Int} (he:S0.st x<=1->S0.st x=q/\e= -dS D q x) {S:WS} (k:WS->Int) (hB:Bd D S) (hE:Ext S0 S):Lt D (D.nx u) e (Lt D (D.nx o) e k) S=Lt D o e (Lt D u e k) S:=by
 obtain ⟨f1,f2,f3,f4,f5,f6,f7,f8,f9⟩:=h.f;have fp:=hE.st x;have jG:=hB o f4;unfold Fit at jG;rw [f2] at jG;by_cases h0:S.st x<=1
 ·have e1:S0.st x=S.st x:=by unfold ev at fp;omega
  obtain ⟨e2,e3⟩:=he (by omega);exact y4y hD h hB (by omega) e3
 ·by_cases h2:S.st x=2\/S.st x=4\/S.st x=5
  ·have hs: ∀S',Ext S S'->S'.st x=2\/S'.st x=4\/S'.st x=5:=fun S' bK=>HU (bK.st x) h2;rw [A8 hD hB (k':=Lt D u e k) fun S' l7 bK=>?_]
   ·have:=UB hD hB f4 (e:=e) (k:=Lt D u e k) (by rw [f2];exact h2)
    rw [f6] at this;exact this.symm
   ·have:=UB hD l7 f3 (e:=e) (k:=k) (by rw [f1];exact hs S' bK)
    rw [f5] at this;exact this.symm
  ·have h3:S.st x=3:=by
    unfold aP at jG;rcases jG with ⟨h,_⟩|⟨h,_⟩|⟨h,_⟩|⟨h,_⟩<;>omega
   have hs: ∀S',Ext S S'->S'.st x=3\/S'.st x=4:=fun S' bK=>V7 (bK.st x) (.inl h3);have p1: ∀(k:WS->Int) S',Bd D S'->Ext S S'->Lt D (D.nx o) e k S'=Lt D o e k S':=fun k S' l7 bK=>(Mw hD l7 f4 (by rw [f2];exact hs S' bK)).symm;have p2: ∀(k:WS->Int) S',Bd D S'->Ext S S'->Lt D (D.nx u) e k S'=Lt D u e k S':=fun k S' l7 bK=>(Mw hD l7 f3 (by rw [f1];exact hs S' bK)).symm
   rw [p2 _ S hB (.bW S),A8 hD hB (k':=Lt D o e k) fun S' l7 bK=>p1 k S' l7 bK];rw [h3,aP.i3,f6] at jG;cases hv:S.ae u with
   |true=>
    rw [sP hv];exact A8 hD hB fun S' _ bK=>(sP (bK.ae u hv)).symm
   |false=>
    have ho:S.ae o=true:=by rw [jG.2,hv];rfl
    rw [sP ho];exact A8 hD hB fun S' _ bK=>sP (bK.ae o ho)
theorem sM (hD:Ok D) (a b:Nat) (e:Int) (k:Ph D S0) (S:Om D S0):dY a e (dY b e k) S=Lt D a e (Lt D b e (rV k)) S.1:=by
 show Lt D a e (rV (dY b e k)) S.1=_;exact A8 hD S.2.1 fun S' hB hE=>Mp hD b e k hB (S.2.2.trans hE)
theorem wR (hD:Ok D) {x:Nat} (hx:x<D.n):(D.sg x=1->(a7 D S0).mul (Le hD (2*x)) (Le hD (2*x+1))=(a7 D S0).mul (Le hD (D.nx (2*x+1))) (Le hD (D.nx (2*x))))/\
  (D.sg x= -1->(a7 D S0).mul (Le hD (2*x+1)) (Le hD (2*x))=(a7 D S0).mul (Le hD (D.nx (2*x))) (Le hD (D.nx (2*x+1)))):=by
 have F1:Fr D x 1 (2*x) (2*x+1):=⟨hx,by omega,rfl,rfl⟩;have F0:Fr D x 0 (2*x+1) (2*x):=⟨hx,by omega,rfl,rfl⟩;have neg: ∀a b c d:Nat,(∀k:Ph D S0,dY a (-1) (dY b (-1) k)=dY c (-1) (dY d (-1) k))->(a7 D S0).mul (Le hD d) (Le hD c)=(a7 D S0).mul (Le hD b) (Le hD a):=fun a b c d h=>by
  have:(⟨fun k=>dY a (-1) (dY b (-1) k),fun k=>dY b 1 (dY a 1 k),fun k=>by
    show dY a (-1) (dY b (-1) (dY b 1 (dY a 1 k)))=k;rw [Ji hD,Ji hD],fun k=>by
    show dY b 1 (dY a 1 (dY a (-1) (dY b (-1) k)))=k;rw [Jj hD,Jj hD]⟩:kb D S0)=⟨fun k=>dY c (-1) (dY d (-1) k),fun k=>dY d 1 (dY c 1 k),fun k=>by
    show dY c (-1) (dY d (-1) (dY d 1 (dY c 1 k)))=k;rw [Ji hD,Ji hD],fun k=>by
    show dY d 1 (dY c 1 (dY c (-1) (dY d (-1) k)))=k;rw [Jj hD,Jj hD]⟩:=kb.ext h
  have:=congrArg kb.g this
  exact kb.ext fun k=>(congrFun this k).symm
 by_cases h0:S0.st x=0
 ·constructor
  ·intro hs;refine kb.ext fun k=>funext fun S=>?_;show dY (2*x) 1 (dY (2*x+1) 1 k) S=dY (D.nx (2*x+1)) 1 (dY (D.nx (2*x)) 1 k) S;rw [sM hD,sM hD];exact (Jg hD F0 (fun _=>⟨h0,by simp [dS,hs]⟩) _ S.2.1 S.2.2).symm
  ·intro hs;refine neg _ _ _ _ fun k=>funext fun S=>?_;rw [sM hD,sM hD];exact Jg hD F0 (fun _=>⟨h0,by simp [dS,hs]⟩) _ S.2.1 S.2.2
 ·constructor
  ·intro hs;refine neg _ _ _ _ fun k=>funext fun S=>?_;rw [sM hD,sM hD];exact Jg hD F1 (fun h=>⟨by omega,by simp [dS,hs]⟩) _ S.2.1 S.2.2
  ·intro hs;refine kb.ext fun k=>funext fun S=>?_;show dY (2*x+1) 1 (dY (2*x) 1 k) S=dY (D.nx (2*x)) 1 (dY (D.nx (2*x+1)) 1 k) S;rw [sM hD,sM hD];exact (Jg hD F1 (fun h=>⟨by omega,by simp [dS,hs]⟩) _ S.2.1 S.2.2).symm
noncomputable def wH (hD:Ok D) (x:Nat):kb D S0:=
 if x % 4=0 then Le hD (2*(x/4)) else if x % 4=2 then (a7 D S0).inv (Le hD (D.nx (2*(x/4))))
 else if x % 4=1 then (if D.sg (x/4)=1 then (a7 D S0).inv (Le hD (D.nx (2*(x/4)+1))) else Le hD (2*(x/4)+1))
 else (if D.sg (x/4)=1 then Le hD (2*(x/4)+1) else (a7 D S0).inv (Le hD (D.nx (2*(x/4)+1))))
theorem vP (hD:Ok D) (a:Nat):(wH hD (cB D a):kb D S0)=Le hD a:=by
 unfold cB wH
 split
 ·rw [zzJ (by omega),show 2*(4*(a/2)/4)=a by omega]
 split
 ·rename_i h1 h2
  rw [zzI (by omega),zzI (by omega),zzI (by omega),show (4*(a/2)+3)/4=a/2 by omega,zzJ h2,show 2*(a/2)+1=a by omega]
 ·rename_i h1 h2
  rw [zzI (by omega),zzI (by omega),zzJ (by omega),show (4*(a/2)+1)/4=a/2 by omega,zzI h2,show 2*(a/2)+1=a by omega]
theorem yS (hD:Ok D) (a:Nat):(wH hD (aH D a):kb D S0)=(a7 D S0).inv (Le hD (D.nx a)):=by
 unfold aH wH
 split
 ·rw [zzI (by omega),zzJ (by omega),show 2*((4*(a/2)+2)/4)=a by omega]
 split
 ·rename_i h1 h2
  rw [zzI (by omega),zzI (by omega),zzJ (by omega),show (4*(a/2)+1)/4=a/2 by omega,zzJ h2,show 2*(a/2)+1=a by omega]
 ·rename_i h1 h2
  rw [zzI (by omega),zzI (by omega),zzI (by omega),show (4*(a/2)+3)/4=a/2 by omega,zzI h2,show 2*(a/2)+1=a by omega]
theorem tj (c:Nat):cB D (2*c)=4*c:=by unfold cB;rw [zzJ (by omega)];omega
theorem eH (c:Nat):aH D (2*c)=4*c+2:=by unfold aH;rw [zzJ (by omega)];omega
theorem vn (c:Nat):cB D (2*c+1)=if D.sg c=1 then 4*c+3 else 4*c+1:=by unfold cB;rw [zzI (by omega),show (2*c+1)/2=c by omega]
theorem oP (c:Nat):aH D (2*c+1)=if D.sg c=1 then 4*c+1 else 4*c+3:=by unfold aH;rw [zzI (by omega),show (2*c+1)/2=c by omega]
theorem half (hD:Ok D) {x:Nat} (hx:x<4*D.n): ∃a,a<2*D.n/\(x=cB D a\/x=aH D a):=by
 have e:x=4*(x/4)\/x=4*(x/4)+1\/x=4*(x/4)+2\/x=4*(x/4)+3:=by omega
 have hl:x/4<D.n:=by omega
 generalize x/4=c at*;rcases e with e|e|e|e
 ·exact ⟨2*c,by omega, .inl (by rw [tj,e])⟩
 ·refine ⟨2*c+1,by omega,?_⟩;rw [vn,oP];by_cases hs:D.sg c=1
  ·rw [zzJ hs,zzJ hs];exact .inr e
  ·rw [zzI hs,zzI hs];exact .inl e
 ·exact ⟨2*c,by omega, .inr (by rw [eH,e])⟩
 ·refine ⟨2*c+1,by omega,?_⟩;rw [vn,oP];by_cases hs:D.sg c=1
  ·rw [zzJ hs,zzJ hs];exact .inl e
  ·rw [zzI hs,zzI hs];exact .inr e
theorem JA (hD:Ok D) {b:Nat} (hb:b<2*D.n): ∃a,a<2*D.n/\D.nx a=b:=by
 have hp:Sp.aw (2*D.n) D.nx:=⟨hD.lt,hD.inj⟩;obtain ⟨k,h0,hk⟩:=hp.back hb;obtain ⟨j,rfl⟩: ∃j,k=j+1:=⟨k-1,by omega⟩;exact ⟨_,hp.bC hb j,hk⟩
theorem FM (hD:Ok D) {al:Nat->Nat} (hP:tU D al) {x:Nat} (hx:x<4*D.n):(wH hD (al x):kb D S0)=(a7 D S0).inv (wH hD x):=by
 obtain ⟨a,ha,e|e⟩:=half hD hx
 ·obtain ⟨b,hb,e1⟩:=JA hD ha
  have:=hP.mate b hb
  rw [e1,<-e] at this;have hi:=hP.te.e7.inv (aH D b) (by
   have:aH D b/4=b/2:=by unfold aH;split<;>try omega
                         split<;>omega
   omega)
  rw [this] at hi;rw [hi,yS,e,vP,e1]
 ·rw [e,hP.mate a ha,vP,yS];rfl
theorem Gr.cyc {G:Type} (P:Gr G) {a b c d:G} (h:P.mul a b=P.mul c d):P.mul (P.mul (P.mul a b) (P.inv d)) (P.inv c)=P.one:=by
 rw [h,P.assoc c,P.ir,P.or',P.ir]
theorem Gr.QY {G:Type} (P:Gr G) {a b c d:G} (h:P.mul b a=P.mul c d):P.mul (P.mul (P.mul a (P.inv d)) (P.inv c)) b=P.one:=by
 have e:b=P.mul (P.mul c d) (P.inv a):=by rw [<-h,P.assoc,P.ir,P.or']
 rw [e];simp only [P.assoc];rw [<-P.assoc (P.inv c),P.il,P.ol,<-P.assoc (P.inv d),P.il,P.ol,P.ir]
noncomputable def tH (hD:Ok D) (x:Nat):kb D S0:=
 if x % 4=0 then (a7 D S0).one else if x % 4=3 then wH hD (4*(x/4)) else if x % 4=2 then (a7 D S0).mul (wH hD (4*(x/4))) (wH hD (4*(x/4)+3))
 else (a7 D S0).mul ((a7 D S0).mul (wH hD (4*(x/4))) (wH hD (4*(x/4)+3))) (wH hD (4*(x/4)+2))
theorem FT (hD:Ok D):Vx (a7 D S0) (4*D.n) bt (wH hD) (tH hD):=fun x hx=>by
 have e:x=4*(x/4)\/x=4*(x/4)+1\/x=4*(x/4)+2\/x=4*(x/4)+3:=by omega
 have hl:x/4<D.n:=by omega
 generalize x/4=c at*;have t0:(tH hD (4*c):kb D S0)=(a7 D S0).one:=by unfold tH;rw [zzJ (by omega)]
 have t3:(tH hD (4*c+3):kb D S0)=wH hD (4*c):=by unfold tH;rw [zzI (by omega),zzJ (by omega),show (4*c+3)/4=c by omega]
 have t2:(tH hD (4*c+2):kb D S0)=(a7 D S0).mul (wH hD (4*c)) (wH hD (4*c+3)):=by unfold tH;rw [zzI (by omega),zzI (by omega),zzJ (by omega),show (4*c+2)/4=c by omega]
 have t1:(tH hD (4*c+1):kb D S0)=(a7 D S0).mul ((a7 D S0).mul (wH hD (4*c)) (wH hD (4*c+3))) (wH hD (4*c+2)):=by unfold tH;rw [zzI (by omega),zzI (by omega),zzI (by omega),show (4*c+1)/4=c by omega]
 have i0:cB D (2*c)=4*c:=tj c;have o0:aH D (2*c)=4*c+2:=eH c;have w0:(wH hD (4*c):kb D S0)=Le hD (2*c):=by rw [<-i0];exact vP hD _
 have w2:(wH hD (4*c+2):kb D S0)=(a7 D S0).inv (Le hD (D.nx (2*c))):=by rw [<-o0];exact yS hD _
 rcases e with e|e|e|e<;>rw [e]
 ·rw [show bt (4*c)=4*c+3 by unfold bt;omega,t3,t0,(a7 D S0).ol]
 ·rw [show bt (4*c+1)=4*c by unfold bt;omega,t0,t1];symm;rcases hD.sg c hl with hs|hs
  ·have i1:cB D (2*c+1)=4*c+3:=by rw [vn];split<;>omega
   have o1:aH D (2*c+1)=4*c+1:=by rw [oP];split<;>omega
   rw [w0,w2,<-i1,<-o1,vP,yS];exact Gr.cyc _ ((wR hD hl).1 hs)
  ·have i1:cB D (2*c+1)=4*c+1:=by rw [vn];split<;>omega
   have o1:aH D (2*c+1)=4*c+3:=by rw [oP];split<;>omega
   rw [w0,w2,<-i1,<-o1,vP,yS];exact Gr.QY _ ((wR hD hl).2 hs)
 ·rw [show bt (4*c+2)=4*c+1 by unfold bt;omega,t1,t2]
 ·rw [show bt (4*c+3)=4*c+2 by unfold bt;omega,t2,t3]
theorem pot (hD:Ok D) {al:Nat->Nat} (hP:tU D al): ∃g:Nat->kb D S0,jo (a7 D S0) (4*D.n) bt al (wH hD) g:=
 Sp.fq.OT (a7 D S0) _ hP.te (zzA _) (fun x hx=>FM hD hP hx) (FT hD)
end
end Hs
namespace Hs
open Classical
open Sp (Gr jo Vx fq bt)
theorem TF {D:Sh} (hD:Ok D) {k k':WS->Int}: ∀(l:List (Nat×Int)) {S:WS},Bd D S->(∀S',Bd D S'->Ext S S'->k S'=k' S')->Lw D l k S=Lw D l k' S
 |[],S,hB,hk=>hk S hB (.bW S)
 |(a,e)::l,S,hB,hk=>A8 hD hB fun S' l7 bK=>TF hD l l7 fun dB QP QN=>hk dB QP (bK.trans QN)
theorem F4 {D:Sh} (hD:Ok D) {a:Nat} (ha:a<2*D.n):sl D a=1\/sl D a= -1:=by
 unfold sl dS;rcases hD.sg (a/2) (by omega) with h|h<;>rw [h]<;>split<;>simp
section
variable {D:Sh} {S0:WS}
noncomputable def Cy (hD:Ok D) (a:Nat) (p:Bool):kb D S0:=if p then (if sl D a=1 then Le hD (co a) else (a7 D S0).inv (Le hD (co a))) else (a7 D S0).one
theorem Lq (hD:Ok D) {a:Nat} (h:sl D a=1):(Cy hD a true:kb D S0)=Le hD (co a):=by
 unfold Cy;rw [zzJ rfl,zzJ h]
theorem Lm (hD:Ok D) {a:Nat} (h:sl D a= -1):(Cy hD a true:kb D S0)=(a7 D S0).inv (Le hD (co a)):=by
 unfold Cy;rw [zzJ rfl,zzI (show¬sl D a=1 by omega)]
theorem zx (c:Nat):co (2*c)=2*c+1:=by unfold co;rw [zzJ (by omega)]
theorem co1 (c:Nat):co (2*c+1)=2*c:=by unfold co;rw [zzI (by omega)];omega
theorem XI (c:Nat):sl D (2*c)=D.sg c:=by
 unfold sl dS;rw [zx,zzJ (by omega),show 2*c/2=c by omega]
theorem XH (c:Nat):sl D (2*c+1)= -D.sg c:=by
 unfold sl dS;rw [co1,zzI (by omega),show (2*c+1)/2=c by omega]
noncomputable def wd (hD:Ok D):List (Nat×Bool)->kb D S0
 |[]=>(a7 D S0).one
 |(a,p)::l=>(a7 D S0).mul (Cy hD a p) (wd hD l)
theorem FK (hD:Ok D): ∀(l:List (Nat×Bool)) (_: ∀x∈l,x.1<2*D.n) (k:Ph D S0) {S:WS},Bd D S->Ext S0 S->rV ((wd hD l).f k) S=Lw D (mJ D l) (rV k) S
 |[],_,k,S,hB,hE=>rfl
 |(a,p)::l,hl,k,S,hB,hE=>by
  have ih:=fun S' (l7:Bd D S') (bK:Ext S S')=>FK hD l (fun x hx=>hl x (.tail _ hx)) k l7 (hE.trans bK);have ha:=hl _ (.head _);cases p with
  |false=>exact ih S hB (.bW S)
  |true=>
   show rV ((Cy hD a true).f ((wd hD l).f k)) S=Lt D (co a) (sl D a) (Lw D (mJ D l) (rV k)) S
   have: ∀e:Int,rV (dY (co a) e ((wd hD l).f k)) S=Lt D (co a) e (Lw D (mJ D l) (rV k)) S:=fun e=>by
    rw [Mp hD _ _ _ hB hE];exact A8 hD hB ih
   rcases F4 hD ha with h|h
   ·rw [Lq hD h,h];exact this 1
   ·rw [Lm hD h,h];exact this (-1)
section
variable {al:Nat->Nat} {g:Nat->kb D S0}
theorem HM (hD:Ok D) (hP:tU D al) (hg:jo (a7 D S0) (4*D.n) bt al (wH hD) g) {x:Nat} (hx:x<4*D.n):g (bt x)=(a7 D S0).mul (g x) (wH hD x):=by
 have h1:=hg.nD (al x) (hP.te.e7.lt x hx);rw [hP.te.e7.inv x hx] at h1;rw [h1,hg.edge x hx]
theorem BP {a:Nat} (ha:a<2*D.n):cB D a<4*D.n:=by unfold cB;split<;>try omega
                                                 split<;>omega
theorem qk {a:Nat} (ha:a<2*D.n):aH D a<4*D.n:=by unfold aH;split<;>try omega
                                                 split<;>omega
theorem V6 (hD:Ok D) (hP:tU D al) (hg:jo (a7 D S0) (4*D.n) bt al (wH hD) g) {a:Nat} (ha:a<2*D.n) (hv:S0.ae (D.nx a)=true):g (cB D (D.nx a))=g (aH D a):=by
 rw [<-hP.mate a ha,hg.edge _ (qk ha),yS,Jh hD hv];rfl
theorem Od (hD:Ok D) (hP:tU D al) (hg:jo (a7 D S0) (4*D.n) bt al (wH hD) g) {a:Nat} (ha:a<2*D.n) (hv:S0.ae a=true) (hn:S0.ae (D.nx a)=true) (hs:S0.st (a/2)=3\/S0.st (a/2)=4):
  g (cB D (D.nx a))=(a7 D S0).mul (g (cB D a)) (Cy hD a true):=by
 rw [V6 hD hP hg ha hn];have hc:a/2<D.n:=by omega
 have e:a=2*(a/2)\/a=2*(a/2)+1:=by omega
 have si: ∀x,x<4*D.n->g (bt x)=(a7 D S0).mul (g x) (wH hD x):=fun x hx=>HM hD hP hg hx;have vv: ∀b,b/2=a/2->b<2*D.n->(Le hD (D.nx b):kb D S0)=Le hD b:=fun b hb tC=>(y8e hD tC (by rw [hb];exact hs)).symm;have lv:=Jh (S0:=S0) hD hv;generalize a/2=c at*;rcases e with e|e<;>subst e
 ·have s1:=si (4*c) (by omega);have s2:=si (4*c+3) (by omega);rw [show bt (4*c)=4*c+3 by unfold bt;omega,<-tj (D:=D) c,vP,lv,(a7 D S0).or',tj] at s1;rw [show bt (4*c+3)=4*c+2 by unfold bt;omega,s1] at s2;rw [eH,tj,s2];congr 1;rcases hD.sg c hc with h|h
  ·have:=vP (S0:=S0) hD (2*c+1)
   rw [vn,zzJ h] at this;rw [this,Lq hD (by rw [XI];exact h),zx]
  ·have:=yS (S0:=S0) hD (2*c+1)
   rw [oP,zzI (show¬D.sg c=1 by omega)] at this;rw [this,Lm hD (by rw [XI];exact h),zx,vv _ (by omega) (by omega)]
 ·rw [oP,vn];rcases hD.sg c hc with h|h
  ·rw [zzJ h,zzJ h,Lm hD (by rw [XH];omega),co1];have s1:=si (4*c+3) (by omega);have s2:=si (4*c+2) (by omega);have w3:=vP (S0:=S0) hD (2*c+1);rw [vn,zzJ h,lv] at w3;rw [show bt (4*c+3)=4*c+2 by unfold bt;omega,w3,(a7 D S0).or'] at s1;rw [show bt (4*c+2)=4*c+1 by unfold bt;omega,s1,<-eH (D:=D) c,yS,vv _ (by omega) (by omega)] at s2;exact s2
  ·have h': ¬D.sg c=1:=by omega
   rw [zzI h',zzI h',Lq hD (by rw [XH];omega),co1];have s1:=si (4*c+1) (by omega);have s2:=si (4*c) (by omega);have w3:=vP (S0:=S0) hD (2*c+1);rw [vn,zzI h',lv] at w3;rw [show bt (4*c+1)=4*c by unfold bt;omega,w3,(a7 D S0).or'] at s1;rw [show bt (4*c)=4*c+3 by unfold bt;omega,s1,<-tj (D:=D) c,vP,tj] at s2;exact s2
theorem Oc (hD:Ok D) (hP:tU D al) (hg:jo (a7 D S0) (4*D.n) bt al (wH hD) g) {a:Nat} (ha:a<2*D.n) (hv:S0.ae a=true) (hn:S0.ae (D.nx (co a))=true):
  g (cB D (D.nx (co a)))=g (cB D a):=by
 rw [V6 hD hP hg (fj ha) hn];have hc:a/2<D.n:=by omega
 have e:a=2*(a/2)\/a=2*(a/2)+1:=by omega
 have si: ∀x,x<4*D.n->g (bt x)=(a7 D S0).mul (g x) (wH hD x):=fun x hx=>HM hD hP hg hx;have lv:=Jh (S0:=S0) hD hv;have ln:=Jh (S0:=S0) hD hn;have i1:(a7 D S0).inv (a7 D S0).one=(a7 D S0).one:=rfl;generalize a/2=c at*;rcases e with e|e<;>subst e
 ·rw [zx] at ln⊢;rw [oP,tj];rcases hD.sg c hc with h|h
  ·rw [zzJ h];have s1:=si (4*c+1) (by omega);have w:=yS (S0:=S0) hD (2*c+1);rw [oP,zzJ h,ln,i1] at w;rw [show bt (4*c+1)=4*c by unfold bt;omega,w,(a7 D S0).or'] at s1;exact s1.symm
  ·rw [zzI (show¬D.sg c=1 by omega)];have s1:=si (4*c) (by omega);rw [show bt (4*c)=4*c+3 by unfold bt;omega,<-tj (D:=D) c,vP,lv,(a7 D S0).or',tj] at s1;exact s1
 ·rw [co1] at ln⊢;rw [eH,vn];rcases hD.sg c hc with h|h
  ·rw [zzJ h];have s1:=si (4*c+3) (by omega);have w:=vP (S0:=S0) hD (2*c+1);rw [vn,zzJ h,lv] at w;rw [show bt (4*c+3)=4*c+2 by unfold bt;omega,w,(a7 D S0).or'] at s1;exact s1
  ·rw [zzI (show¬D.sg c=1 by omega)];have s1:=si (4*c+2) (by omega);have w:=yS (S0:=S0) hD (2*c);rw [eH,ln,i1] at w;rw [show bt (4*c+2)=4*c+1 by unfold bt;omega,w,(a7 D S0).or'] at s1;exact s1.symm
theorem Xe (hD:Ok D) (hP:tU D al) (hg:jo (a7 D S0) (4*D.n) bt al (wH hD) g): ∀(l:List (Nat×Bool)) (s e:Nat),sI D s l e->(∀x∈l,x.1<2*D.n/\S0.ae x.1=true/\S0.ae (iK D x.1 x.2)=true/\(x.2=true->S0.st (x.1/2)=3\/S0.st (x.1/2)=4))->
  g (cB D e)=(a7 D S0).mul (g (cB D s)) (wd hD l)
 |[],s,e,h,_=>by rw [show s=e from h];exact ((a7 D S0).or' _).symm
 |(a,p)::l,s,e,h,hl=>by
  obtain ⟨h1,h2⟩:=h;subst h1;obtain ⟨k1,k2,k3,k4⟩:=hl _ (.head _);rw [Xe hD hP hg l _ e h2 fun x hx=>hl x (.tail _ hx)];show _=(a7 D S0).mul _ ((a7 D S0).mul _ _);rw [<-(a7 D S0).assoc];congr 1;cases p with
  |false=>
   show g (cB D (D.nx (co s)))=(a7 D S0).mul _ (a7 D S0).one;rw [(a7 D S0).or'];exact Oc hD hP hg k1 k2 k3
  |true=>exact Od hD hP hg k1 k2 k3 (k4 rfl)
end
theorem word (hD:Ok D) {al:Nat->Nat} (hP:tU D al) {l:List (Nat×Bool)} {s:Nat} (hc:sI D s l s) (hl: ∀x∈l,x.1<2*D.n/\S0.ae x.1=true/\S0.ae (iK D x.1 x.2)=true/\(x.2=true->S0.st (x.1/2)=3\/S0.st (x.1/2)=4)) (hB:Bd D S0) (k:WS->Int):Lw D (mJ D l) k S0=k S0:=by
 obtain ⟨g,hg⟩:=pot (S0:=S0) hD hP;have h1:=Xe hD hP hg l s s hc hl;have h2:wd hD l=(a7 D S0).one:=(a7 D S0).lc (a:=g (cB D s)) (by rw [<-h1,(a7 D S0).or']);have h3:=FK hD l (fun x hx=>(hl x hx).1) (fun S=>k S.1) hB (.bW S0);rw [h2] at h3;have e: ∀S,Bd D S->Ext S0 S->rV (fun S:Om D S0=>k S.1) S=k S:=fun S h h'=>dif_pos ⟨h,h'⟩;rw [TF hD _ hB fun S' l7 bK=>(e S' l7 bK).symm,<-h3]
 exact e S0 hB (.bW S0)
end
end Hs
namespace Hs
structure js (D:Sh) (K sm:Nat->Bool) (l:List (Nat×Bool)) (b:Nat):Prop where
 ch:sI D b l b
 ne:l≠[]
 lt: ∀x∈l,x.1<2*D.n
 nd:(l.map Prod.fst).Nodup
 mem: ∀a,K a=true↔a∈l.map Prod.fst
 ty: ∀x∈l,x.2= !sm (x.1/2)
 kc: ∀b,b<2*D.n->K b=false->(K (co b)=true->(sm (b/2)=true->K (D.nx (co b))=false)/\(sm (b/2)=false->K (D.nx b)=false))/\(K (co b)=false->K (D.nx b)=false/\K (D.nx (co b))=false)
def cL (sm vb vc:Bool) (r:Nat):Nat:=if vb&&vc then 4 else if vb||vc then (if sm then 2 else 3) else if sm then 5 else r
structure QK (D:Sh) (K sm:Nat->Bool) (r dR:Nat->Nat) (l:List (Nat×Bool)) (S:WS) (x0:Nat):Prop where
 ae: ∀a,K a=true->(S.ae a=false↔a∈l.map Prod.fst)
 q: ∀b,b<2*D.n->K b=false->K (co b)=true->b/2≠x0->S.st (b/2)=cL (sm (b/2)) (S.ae b) (S.ae (co b)) (r b)
 q2: ∀a,a<2*D.n->K a=true->K (co a)=true->S.st (a/2)=cL (sm (a/2)) (S.ae a) (S.ae (co a)) (dR (a/2))
def TK (K sm:Nat->Bool) (S:WS):WS:={S with
 ae:=fun a=>S.ae a||K a
 st:=fun c=>if K (2*c)&&K (2*c+1) then 4 else if K (2*c) then (if S.ae (2*c+1) then 4 else if sm c then 2 else 3) else if K (2*c+1) then (if S.ae (2*c) then 4 else if sm c then 2 else 3) else S.st c}
section
variable {D:Sh} {K sm:Nat->Bool}
theorem ends (a:Nat):(a=2*(a/2)/\co a=2*(a/2)+1)\/(a=2*(a/2)+1/\co a=2*(a/2)):=by
 unfold co;split<;>omega
theorem oN (S:WS) (b:Nat):(TK K sm S).st (b/2)=if K b&&K (co b) then 4 else if K (co b) then (if S.ae b then 4 else if sm (b/2) then 2 else 3) else if K b then (if S.ae (co b) then 4 else if sm (b/2) then 2 else 3) else S.st (b/2):=by
 show (if K (2*(b/2))&&K (2*(b/2)+1) then 4 else if K (2*(b/2)) then (if S.ae (2*(b/2)+1) then 4 else if sm (b/2) then 2 else 3) else if K (2*(b/2)+1) then (if S.ae (2*(b/2)) then 4 else if sm (b/2) then 2 else 3) else S.st (b/2))=_;rcases ends b with ⟨h1,h2⟩|⟨h1,h2⟩
 ·rw [<-h2,<-h1];cases K b<;>cases K (co b)<;>rfl
 ·rw [<-h1,<-h2];cases K b<;>cases K (co b)<;>rfl
theorem WS.ext' {S S':WS} (h1: ∀a,S.st (a/2)=S'.st (a/2)) (h2:S.ae=S'.ae) (h3:S.i=S'.i) (h4:S.j=S'.j) (h5:S.k=S'.k):S=S':=by
 obtain ⟨st,ae,i,j,k⟩:=S;obtain ⟨pK,vis',i',j',k'⟩:=S';simp only at*
 have:st=pK:=funext fun c=>by
  have:=h1 (2*c)
  rwa [show 2*c/2=c by omega] at this
 subst this h2 h3 h4 h5;rfl
theorem x9 (S:WS) {a:Nat} (v:Nat) (ha:K a=true):TK K sm (S.mk' a v)=TK K sm S:=by
 refine WS.ext' (fun b=>?_) (funext fun b=>?_) rfl rfl rfl
 ·rw [oN,oN];by_cases h:b/2=a/2
  ·rcases kj h with rfl|rfl
   ·rw [ha];rw [dZ S (rN b)];cases K (co b)<;>rfl
   ·rw [eY,ha,dZ S (rN a)];cases K (co a)<;>rfl
  ·have n1:b≠a:=fun e=>h (by rw [e]);have n2:co b≠a:=fun e=>h (by rw [<-dJ b,e]);rw [dZ S n1,dZ S n2]
   have:(S.mk' a v).st (b/2)=S.st (b/2):=bG _ _ h
   rw [this]
 ·show (aR S.ae a true b||K b)=(S.ae b||K b);by_cases h:b=a
  ·rw [h,ha,Bool.or_true,Bool.or_true]
  ·rw [bG _ _ h]
theorem ya (S:WS) {a:Nat} (v:Nat) (ha:K a=false) (hc:K (co a)=false):TK K sm (S.mk' a v)=(TK K sm S).mk' a v:=by
 refine WS.ext' (fun b=>?_) (funext fun b=>?_) rfl rfl rfl
 ·show _=aR (TK K sm S).st (a/2) v (b/2);rw [oN];by_cases h:b/2=a/2
  ·rw [h,bQ]
   have:(S.mk' a v).st (a/2)=v:=bQ _ _ _
   rcases kj h with rfl|rfl
   ·rw [ha,hc,this];rfl
   ·rw [eY,ha,hc,this];rfl
  ·have n1:b≠a:=fun e=>h (by rw [e]);have n2:co b≠a:=fun e=>h (by rw [<-dJ b,e]);rw [bG _ _ h,oN,dZ S n1,dZ S n2]
   have:(S.mk' a v).st (b/2)=S.st (b/2):=bG _ _ h
   rw [this]
 ·show (aR S.ae a true b||K b)=aR (fun b=>S.ae b||K b) a true b;by_cases h:b=a
  ·rw [h,bQ,bQ];rfl
  ·rw [bG _ _ h,bG _ _ h]
theorem Iy (S:WS) {a:Nat} (v:Nat) (ha:K a=false) (hc:K (co a)=true):TK K sm (S.mk' a v)=(TK K sm S).mk' a 4:=by
 refine WS.ext' (fun b=>?_) (funext fun b=>?_) rfl rfl rfl
 ·show _=aR (TK K sm S).st (a/2) 4 (b/2);rw [oN];by_cases h:b/2=a/2
  ·rw [h,bQ];rcases kj h with rfl|rfl
   ·rw [ha,hc,l9];rfl
   ·rw [eY,ha,hc,l9];rfl
  ·have n1:b≠a:=fun e=>h (by rw [e]);have n2:co b≠a:=fun e=>h (by rw [<-dJ b,e]);rw [bG _ _ h,oN,dZ S n1,dZ S n2]
   have:(S.mk' a v).st (b/2)=S.st (b/2):=bG _ _ h
   rw [this]
 ·show (aR S.ae a true b||K b)=aR (fun b=>S.ae b||K b) a true b;by_cases h:b=a
  ·rw [h,bQ,bQ];rfl
  ·rw [bG _ _ h,bG _ _ h]
theorem zA (S:WS) (u v:Int):TK K sm (S.sc u v)=(TK K sm S).sc u v:=rfl
theorem ES (S:WS):TK K sm S.cr=(TK K sm S).cr:=rfl
variable {r dR:Nat->Nat} {l0:List (Nat×Bool)} {b0:Nat}
theorem js.zc (C:js D K sm l0 b0) {a:Nat} (h:K a=true):a<2*D.n:=by
 obtain ⟨x,hx,rfl⟩:=List.mem_map.1 ((C.mem a).1 h);exact C.lt x hx
theorem QK.done (C:js D K sm l0 b0) {S:WS} {x0:Nat} (h:QK D K sm r dR [] S x0) (hx:D.n<=x0):TK K sm S=S:=by
 have hv: ∀a,K a=true->S.ae a=true:=fun a ha=>by
  cases e:S.ae a with
  |true=>rfl
  |false=>exact absurd ((h.ae a ha).1 e) (by simp)
 refine WS.ext' (fun b=>?_) (funext fun b=>?_) rfl rfl rfl
 ·rw [oN];cases hk:K b with
  |true=>
   have hl:=C.zc hk;cases hc:K (co b) with
   |true=>
    rw [h.q2 b hl hk hc,hv b hk,hv _ hc];rfl
   |false=>
    have:=h.q (co b) (fj hl) hc (by rw [eY];exact hk) (by rw [dJ];omega)
    rw [dJ,eY,hv b hk] at this;rw [this];unfold cL;cases S.ae (co b)<;>cases sm (b/2)<;>rfl
  |false=>
   cases hc:K (co b) with
   |true=>
    have hl:b<2*D.n:=by have:=fj (C.zc hc);rwa [eY] at this
    have:=h.q b hl hk hc (by omega)
    rw [hv _ hc] at this;rw [this];unfold cL;cases S.ae b<;>cases sm (b/2)<;>rfl
   |false=>rfl
 ·show (S.ae b||K b)=S.ae b;cases hk:K b with
  |false=>rw [Bool.or_false]
  |true=>rw [hv b hk];rfl
theorem QK.p6 (C:js D K sm l0 b0) {S:WS} {x0:Nat} {a:Nat} {p:Bool} {l1 l:List (Nat×Bool)} (hl:l0=l1++(a,p)::l) (h:QK D K sm r dR ((a,p)::l) S x0) {v:Nat} (hv:v=cL (sm (a/2)) true (S.ae (co a)) 0) {x1:Nat} (hx:x1=x0\/(x0<=x1/\D.n<=x0)):QK D K sm r dR l (S.mk' a v) x1:=by
 have ha:K a=true:=(C.mem a).2 (by rw [hl];simp);have hnd:=C.nd;rw [hl,List.map_append,List.map_cons] at hnd;have CW:a∉l.map Prod.fst:=(List.nodup_cons.1 (List.nodup_append.1 hnd).2.1).1;refine ⟨fun b hb=>?_,fun b hb hk hc ix=>?_,fun b hb hk hc=>?_⟩
 ·by_cases e:b=a
  ·rw [e,l9];simp [CW]
  ·rw [dZ S e,h.ae b hb];simp [e]
 ·have n1:b≠a:=fun e=>by rw [e,ha] at hk;cases hk
  have De:b/2≠x0:=by
   rcases hx with rfl|hx
   ·exact ix
   ·omega
  by_cases e:co b=a
  ·have aZ:(S.mk' a v).st (b/2)=v:=by rw [<-dJ b,e];exact bQ _ _ _
   have eb:b=co a:=by rw [<-e,eY]
   rw [aZ,hv,e,l9,dZ S n1,eb,dJ];unfold cL;cases S.ae (co a)<;>cases sm (a/2)<;>rfl
  ·have aA:b/2≠a/2:=fun e'=>by rcases kj e' with e'|e'
                               ·exact n1 e'
                               ·exact e (by rw [e',eY])
   rw [dZ S n1,dZ S e,<-h.q b hb hk hc De];exact bG _ _ aA
 ·by_cases e:b/2=a/2
  ·have aZ:(S.mk' a v).st (b/2)=v:=by rw [e];exact bQ _ _ _
   rw [aZ,hv];rcases kj e with e|e
   ·rw [e,l9,dZ S (rN a)];unfold cL;cases S.ae (co a)<;>cases sm (a/2)<;>rfl
   ·rw [e,eY,dJ,l9,dZ S (rN a)];unfold cL;cases S.ae (co a)<;>cases sm (a/2)<;>rfl
  ·have n1:b≠a:=fun e'=>e (by rw [e']);have n2:co b≠a:=fun e'=>e (by rw [<-dJ b,e']);rw [dZ S n1,dZ S n2,<-h.q2 b hb hk hc];exact bG _ _ e
def AQ (K:Nat->Bool) (dR:Nat->Nat) (l0:List (Nat×Bool)):Prop:= ∀l1 a l2,l0=l1++(a,true)::l2->K (co a)=true->co a∈l2.map Prod.fst->dR (a/2)=a % 2
theorem Sl {S:WS} {a:Nat} {p sm:Bool} {vc:Bool} (hl:a<2*D.n) (hp:p= !sm) (hs:S.st (a/2)=cL sm false vc (a % 2)):br D S a=[(1,S.mk' a (cL sm true vc 0),iK D a p)]:=by
 subst hp;cases vc<;>cases sm
 ·rw [AM hl hs];rfl
 ·rw [tQ hl hs];rfl
 ·rw [qi hl hs];rfl
 ·rw [mV hl hs];rfl
theorem QK.iU (C:js D K sm l0 b0) (hO:AQ K dR l0) {S:WS} {a:Nat} {p:Bool} {l1 l:List (Nat×Bool)} (hl:l0=l1++(a,p)::l) (h:QK D K sm r dR ((a,p)::l) S D.n)
  (hd:K (co a)=true\/S.ae (co a)=true\/sm (a/2)=true\/r (co a)=a % 2):br D S a=[(1,S.mk' a (cL (sm (a/2)) true (S.ae (co a)) 0),iK D a p)]:=by
 have hm:(a,p)∈l0:=by rw [hl];simp
 have ha:K a=true:=(C.mem a).2 (by rw [hl];simp);have bH:a<2*D.n:=C.lt _ hm;have hp:p= !sm (a/2):=C.ty _ hm;have qy:S.ae a=false:=(h.ae a ha).2 (by simp);refine Sl bH hp ?_;cases hk:K (co a) with
 |true=>
  have e:=h.q2 a bH ha hk;rw [qy] at e;rw [e];cases hc:S.ae (co a) with
  |true=>unfold cL;simp
  |false=>
   cases hs:sm (a/2) with
   |true=>rfl
   |false=>
    have h1:=(h.ae _ hk).1 hc;simp only [List.map_cons,List.mem_cons] at h1;have h2:=h1.resolve_left (rN a);have l5:p=true:=by rw [hp,hs];rfl
    have:=hO l1 a l (by rw [hl,l5]) hk h2
    unfold cL;simp [this]
 |false=>
  have e:=h.q (co a) (fj bH) hk (by rw [eY];exact ha) (by rw [dJ];have:=bH;omega);rw [dJ,eY,qy] at e;rw [e];cases hc:S.ae (co a) with
  |true=>unfold cL;simp
  |false=>
   cases hs:sm (a/2) with
   |true=>rfl
   |false=>
    have:r (co a)=a % 2:=by
     rcases hd with hd|hd|hd|hd
     ·rw [hk] at hd;cases hd
     ·rw [hc] at hd;cases hd
     ·rw [hs] at hd;cases hd
     ·exact hd
    unfold cL;simp [this]
theorem Xd (C:js D K sm l0 b0) {l1 l:List (Nat×Bool)} {a:Nat} {p:Bool} (hl:l0=l1++(a,p)::l) (h1:l1≠[]):a≠b0:=fun e=>by
 obtain ⟨⟨c,q⟩,l2,rfl⟩:=List.exists_cons_of_ne_nil h1;have hc:=C.ch;have hnd:=C.nd;rw [hl] at hc hnd
 have:b0=c:=hc.1
 rw [List.cons_append,List.map_cons,List.nodup_cons] at hnd;refine hnd.1 ?_;show c∈_;rw [<-this,<-e];simp
theorem Jz (D:Sh): ∀(l1 l:List (Nat×Bool)) (s e:Nat),sI D s (l1++l) e-> ∃m,sI D s l1 m/\sI D m l e
 |[],l,s,e,h=>⟨s,rfl,h⟩
 |(a,p)::l1,l,s,e,h=>by
  obtain ⟨m,h1,h2⟩:=Jz D l1 l _ e h.2;exact ⟨m,⟨h.1,h1⟩,h2⟩
theorem top (hD:Ok D) (C:js D K sm l0 b0) (hO:AQ K dR l0) (hr: ∀a,r (co a)=a % 2) {S:WS} (hB:Bd D S) (h:QK D K sm r dR l0 S D.n) (k:WS->Int):aY D S b0 k=k (TK K sm S)/\Bd D (TK K sm S):=by
 have key: ∀(l l1:List (Nat×Bool)) (S:WS) (d:Nat),l0=l1++l->l1≠[]->sI D d l b0->QK D K sm r dR l S D.n->qE D S b0 d->W D (b9 b0) S d (fun S _=>k S)=k (TK K sm S)/\Bd D (TK K sm S):=fun l=>by
  induction l with
  |nil=>
   intro l1 S d _ _ hc hq hM;have e:d=b0:=hc;subst e;rw [iY (iX d),hq.done C (zzA _)];exact ⟨rfl,hM.close⟩
  |cons x l ih=>
   obtain ⟨a,p⟩:=x;intro l1 S d hl h1 hc hq hM;obtain ⟨e,dE⟩:=hc;subst e;have aA:=Xd C hl h1;have hb:=hq.iU C hO hl (.inr (.inr (.inr (hr d))));have ha:K d=true:=(C.mem d).2 (by rw [hl];simp);rw [fA (oB aA) ((hq.ae d ha).2 (by simp)),hb,sN]
   have:=ih (l1++[(d,p)]) (S.mk' d (cL (sm (d/2)) true (S.ae (co d)) 0)) (iK D d p) (by rw [hl];simp) (by simp) dE (hq.p6 C hl rfl (.inl rfl)) (hM.step hD aA (x:=(1,_,_)) (by rw [hb];exact .head _))
   rw [x9 _ _ ha] at this;exact this
 obtain ⟨⟨a,p⟩,l,hl⟩:=List.exists_cons_of_ne_nil C.ne;have hc:=C.ch;rw [hl] at hc;obtain ⟨e,dE⟩:=hc;have ha:K a=true:=(C.mem a).2 (by rw [hl];simp);rw [e];rw [hl] at h;have hb:=h.iU C hO (l1:=[]) hl (.inr (.inr (.inr (hr a))));unfold aY;rw [hb,sN];have qy:S.ae a=false:=(h.ae a ha).2 (by simp)
 have:=key l [(a,p)] (S.mk' a (cL (sm (a/2)) true (S.ae (co a)) 0)) (iK D a p) hl (by simp) dE (h.p6 C (l1:=[]) hl rfl (.inl rfl)) (by rw [e];exact hB.start hD qy (x:=(1,_,_)) (by rw [hb];exact .head _))
 rw [x9 _ _ ha,e] at this;exact this
theorem BR.and {R J:WS->Nat->WS->Nat->Prop} {l l':List (Int×WS×Nat)} (h:BR R l l') (hJ: ∀x∈l,∀S a,J x.2.1 x.2.2 S a):BR (fun S a S' a'=>R S a S' a'/\J S a S' a') l l':=by
 induction h with
 |nil=>exact .nil
 |cons hr _ ih=>exact .cons ⟨hr,hJ _ (.head _) _ _⟩ (ih fun x hx=>hJ x (.tail _ hx))
theorem Sk (C:js D K sm l0 b0) {l:List (Nat×Bool)} {x0:Nat} {g:WS->WS} (hg:Loc x0 g) (hr: ∀a,r a=a % 2) (hD:Ok D) {S:WS} {b':Nat} (hb:b'<2*D.n) (fx:K b'=false) (hq:QK D K sm r dR l S x0) (ix:b'/2≠x0) (hv:S.ae b'=false):
  BR (fun S b S' b'=>S'=g (TK K sm S)/\b'=b/\b<2*D.n/\K b=false/\QK D K sm r dR l S x0) (br D S b') (br D (g (TK K sm S)) b'):=by
 rw [hg.br D _ ix];have stay: ∀v (u w:Int),(K (co b')=true->v=cL (sm (b'/2)) true (S.ae (co b')) 0)->QK D K sm r dR l ((S.mk' b' v).sc u w) x0:=fun v u w cw=>by
  refine ⟨fun a ha=>?_,fun b hb hk hc De=>?_,fun a ha hk hc=>?_⟩
  ·have:a≠b':=fun e=>by rw [e,fx] at ha;cases ha
   have:((S.mk' b' v).sc u w).ae a=S.ae a:=dZ (v:=v) S this
   rw [this];exact hq.ae a ha
  ·have n2:co b≠b':=fun e=>by rw [e,fx] at hc;cases hc
   have e3:((S.mk' b' v).sc u w).ae (co b)=S.ae (co b):=dZ (v:=v) S n2;rw [e3];by_cases e:b=b'
   ·subst e;have e1:((S.mk' b v).sc u w).ae b=true:=l9 S b v;have e2:((S.mk' b v).sc u w).st (b/2)=v:=bQ _ _ _;rw [e1,e2,cw hc];unfold cL;cases S.ae (co b)<;>cases sm (b/2)<;>rfl
   ·have e1:((S.mk' b' v).sc u w).ae b=S.ae b:=dZ (v:=v) S e
    have aA:b/2≠b'/2:=fun e'=>by rcases kj e' with e'|e'
                                 ·exact e e'
                                 ·exact n2 (by rw [e',eY])
    have e2:((S.mk' b' v).sc u w).st (b/2)=S.st (b/2):=bG _ _ aA;rw [e1,e2];exact hq.q b hb hk hc De
  ·have n1:a≠b':=fun e=>by rw [e,fx] at hk;cases hk
   have n2:co a≠b':=fun e=>by rw [e,fx] at hc;cases hc
   have aA:a/2≠b'/2:=fun e'=>by rcases kj e' with e'|e'
                                ·exact n1 e'
                                ·exact n2 (by rw [e',eY])
   have e1:((S.mk' b' v).sc u w).ae a=S.ae a:=dZ (v:=v) S n1;have e2:((S.mk' b' v).sc u w).ae (co a)=S.ae (co a):=dZ (v:=v) S n2;have e3:((S.mk' b' v).sc u w).st (a/2)=S.st (a/2):=bG _ _ aA;rw [e1,e2,e3];exact hq.q2 a ha hk hc
 have oi:=C.kc b' hb fx;cases hc:K (co b') with
 |false=>
  have AF:(TK K sm S).st (b'/2)=S.st (b'/2):=by rw [oN,fx,hc];rfl
  have iM:br D (TK K sm S) b'=(br D S b').map (jC (TK K sm)):=by
   unfold br;rw [AF]
   split
   ·rfl
   split
   ·simp only [List.map,jC,ya S _ fx hc]
   split
   ·simp only [List.map,jC,ya S _ fx hc]
   split
   ·simp only [List.map,jC,ya S _ fx hc]
   split
   ·simp only [List.map,jC,ya S _ fx hc]
   split
   ·simp only [List.map,jC,zA,ya S _ fx hc]
   ·rfl
  rw [iM,List.map_map];have dA: ∀x∈br D S b',K x.2.2=false/\x.2.2<2*D.n/\QK D K sm r dR l x.2.1 x0:=fun x hx=>by
   refine ⟨?_,IK hD hx,?_⟩
   ·rcases BL hx with e|e<;>rw [e]
    ·exact (oi.2 hc).1
    ·exact (oi.2 hc).2
   ·have no: ∀v,K (co b')=true->v=cL (sm (b'/2)) true (S.ae (co b')) 0:=fun v h=>by rw [hc] at h;cases h
    unfold br at hx
    split at hx
    ·cases hx
    split at hx
    ·rw [zzM] at hx;subst hx;exact stay 4 0 0 (no _)|>fun h=>by rw [WS.b8] at h;exact h
    split at hx
    ·rw [zzM] at hx;subst hx;exact stay 4 0 0 (no _)|>fun h=>by rw [WS.b8] at h;exact h
    split at hx
    ·rw [zzM] at hx;subst hx;exact stay 2 0 0 (no _)|>fun h=>by rw [WS.b8] at h;exact h
    split at hx
    ·rw [zzM] at hx;subst hx;exact stay 3 0 0 (no _)|>fun h=>by rw [WS.b8] at h;exact h
    split at hx
    ·rcases List.mem_cons.1 hx with hx|hx
     ·subst hx;exact stay _ _ _ (no _)
     ·rw [zzM] at hx;subst hx;exact stay _ _ _ (no _)
    ·cases hx
  revert dA;generalize br D S b'=L;intro dA
  induction L with
  |nil=>exact .nil
  |cons x L ih=>
   obtain ⟨c1,c2,c3⟩:=dA x (.head _);exact .cons ⟨rfl,rfl,c2,c1,c3⟩ (ih fun y hy=>dA y (.tail _ hy))
 |true=>
  have AF:(TK K sm S).st (b'/2)=if sm (b'/2) then 2 else 3:=by rw [oN,fx,hc,hv];rfl
  have eq:=hq.q b' hb fx hc ix;rw [hv,hr] at eq;have oj:=Sl (D:=D) (p:= !sm (b'/2)) hb rfl eq;have iM:br D (TK K sm S) b'=[(1,(TK K sm S).mk' b' 4,iK D b' (!sm (b'/2)))]:=by
   cases hs:sm (b'/2) with
   |true=>rw [hs] at AF;rw [mV hb AF];rfl
   |false=>rw [hs] at AF;rw [qi hb AF];rfl
  have ng:=IK hD (S:=S) (a:=b') (x:=(1,_,_)) (by rw [oj];exact .head _);rw [oj,iM];refine .cons ⟨?_,rfl,ng,?_,?_⟩ .nil
  ·show g ((TK K sm S).mk' b' 4)=g (TK K sm (S.mk' b' _));rw [Iy S _ fx hc]
  ·show K (iK D b' (!sm (b'/2)))=false;cases hs:sm (b'/2) with
   |true=>exact (oi.1 hc).1 hs
   |false=>exact (oi.1 hc).2 hs
  ·have:=stay (cL (sm (b'/2)) true (S.ae (co b')) 0) 0 0 fun _=>rfl
   rw [WS.b8] at this;exact this
theorem V5 (C:js D K sm l0 b0) {l:List (Nat×Bool)} {x0 y:Nat} {g:WS->WS} (hg:Loc x0 g) (hr: ∀a,r a=a % 2) (oU: ∀b,b<2*D.n->K b=false->b/2=x0->b=y) (J:WS->Nat->Prop)
  (hJ: ∀S b,J S b->b<2*D.n->K b=false->b≠y->S.ae b=false-> ∀x∈br D S b,J x.2.1 x.2.2) (hD:Ok D) {s1:Nat->Bool} (pM: ∀b,K b=false->s1 b=b9 y b) {k:WS->Nat->Int} {k':WS->Int} (hk: ∀S',QK D K sm r dR l S' x0->J S' y->k S' y=k' (g (TK K sm S')))
  {S:WS} {b:Nat} (hb:b<2*D.n) (fx:K b=false) (hq:QK D K sm r dR l S x0) (K5:J S b):W D s1 S b k=W D (b9 y) (g (TK K sm S)) b fun S _=>k' S:=by
 refine rh (fun S b S' b'=>(S'=g (TK K sm S)/\b'=b/\b<2*D.n/\K b=false/\QK D K sm r dR l S x0)/\J S b) ?_ _ _ _ _ ⟨⟨rfl,rfl,hb,fx,hq⟩,K5⟩;intro S b S' b' ⟨⟨e1,e2,hb,fx,hq⟩,K5⟩;subst e1 e2;refine ⟨pM _ fx,fun hs=>?_,fun hs=>?_⟩
 ·rw [pM _ fx] at hs
  have:b'=y:=by simpa [b9] using hs
  subst this;exact hk S hq K5
 rw [pM _ fx] at hs;have vG:b'≠y:=fun e=>by rw [e,iX] at hs;cases hs
 have ix:b'/2≠x0:=fun e=>vG (oU b' hb fx e);have hvT:(TK K sm S).ae b'=S.ae b':=by show (S.ae b'||K b')=_;rw [fx,Bool.or_false]
 refine ⟨by rw [hg.ae _ _ ix,hvT],fun hv=>?_⟩;exact (Sk C hg hr hD hb fx hq ix hv).and (J:=fun S b _ _=>J S b) fun x hx _ _=>hJ S b' K5 hb fx vG hv x hx
end
end Hs
end Go.Proofs.YtjpbeacamoijhaaGreatDoor
