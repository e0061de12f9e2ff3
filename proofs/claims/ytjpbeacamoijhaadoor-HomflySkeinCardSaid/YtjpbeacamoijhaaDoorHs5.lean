/- Plain: on the sphere, a marking of the edges by elements of a group that fits at each vertex comes of a potential on the faces. -/
import Derived.Test.YtjpbeacamoijhaaDoorSq
namespace Go.Proofs.YtjpbeacamoijhaaDoor
set_option linter.unusedSimpArgs false
set_option linter.unusedVariables false
namespace Sp
open Classical
structure Gr (G:Type) where
 mul:G->G->G
 one:G
 inv:G->G
 assoc: ∀a b c,mul (mul a b) c=mul a (mul b c)
 ol: ∀a,mul one a=a
 or': ∀a,mul a one=a
 il: ∀a,mul (inv a) a=one
 ir: ∀a,mul a (inv a)=one
section
variable {G:Type} (P:Gr G) {N:Nat} {si al:Nat->Nat} {w g:Nat->G}
theorem Gr.lc {a b c:G} (h:P.mul a b=P.mul a c):b=c:=by
 have:=congrArg (P.mul (P.inv a)) h
 rwa [←P.assoc,←P.assoc,P.il,P.ol,P.ol] at this
theorem Gr.rc {a b c:G} (h:P.mul b a=P.mul c a):b=c:=by
 have:=congrArg (fun x=>P.mul x (P.inv a)) h
 simpa only [P.assoc,P.ir,P.or'] using this
structure PotG (N:Nat) (si al:Nat->Nat) (w g:Nat->G):Prop where
 face: ∀x,x<N->g (si (al x))=g x
 edge: ∀x,x<N->g (al x)=P.mul (g x) (w x)
theorem yyw {f:Nat->Nat} (hf:PermN N f) (h: ∀x,x<N->g (f x)=g x) {x y:Nat} (hx:x<N) (hs:SC f x y):g y=g x:=by
 obtain ⟨k,rfl⟩:=hs
 induction k with
 |zero=>rfl
 |succ k ih=>simp only [itn];rw [h _ (hf.itn_lt hx k),ih]
theorem ywm (h:Sph N si al) {p q:Nat} (hp:p<N) (hq:q<N) (hpq:p≠q) (hsc:SC si p q) (hg:PotG P N (swp si p q) al w g): ∃g',PotG P N si al w g':=by
 have hs:=h.perm
 have ha:=h.mat
 have hs':=yc4 hs hp hq
 have hE:=yc7 hs ha
 have hE':=yc7 hs' ha
 have hap:=ha.lt p hp
 have haq:=ha.lt q hq
 have hpm:=ybl hs ha N (Nat.le_refl _)
 have hpm':=ybl hs' ha N (Nat.le_refl _)
 have haa:al p≠al q:=fun e=>hpq (by rw [←ha.inv p hp,←ha.inv q hq,e])
 have hph: ∀x,x<N->swp (phK si al N) (al p) (al q) x=phK (swp si p q) al N x:=fun x hx=>by
  rw [ph_N ha hx]
  unfold swp
  have i1:=ha.inv x hx
  by_cases h1:x=al p
  ·subst h1
   rw [if_pos rfl,ha.inv p hp,if_pos rfl,ph_N ha haq,ha.inv q hq]
  ·rw [if_neg h1]
   have n1:al x≠p:=fun e=>h1 (by rw [←e,i1])
   by_cases h2:x=al q
   ·subst h2
    rw [if_pos rfl,ha.inv q hq,if_neg (Ne.symm hpq),if_pos rfl,ph_N ha hap,ha.inv p hp]
   ·rw [if_neg h2]
    have n2:al x≠q:=fun e=>h2 (by rw [←e,i1])
    rw [if_neg n1,if_neg n2,ph_N ha hx]
 have hswp:=yc4 hpm hap haq
 have fin: ∀g',PotG P N (swp si p q) al w g'->g' (al p)=g' (al q)->PotG P N si al w g':=fun g' hg' he=>by
  refine ⟨fun x hx=>?_,hg'.edge⟩
  by_cases h1:al x=p
  ·have e:=hg'.face (al q) haq
   rw [ha.inv q hq] at e
   have:swp si p q q=si p:=by unfold swp;rw [if_neg (Ne.symm hpq),if_pos rfl]
   rw [this] at e
   rw [h1,e,←he,←h1,ha.inv x hx]
  ·by_cases h2:al x=q
   ·have e:=hg'.face (al p) hap
    rw [ha.inv p hp] at e
    have:swp si p q p=si q:=by unfold swp;rw [if_pos rfl]
    rw [this] at e
    rw [h2,e,he,←h2,ha.inv x hx]
   ·have e:=hg'.face x hx
    rwa [show swp si p q (al x)=si (al x) by unfold swp;rw [if_neg h1,if_neg h2]] at e
 have hcon: ∀g',PotG P N (swp si p q) al w g'-> ∀x y,x<N->SC (phK (swp si p q) al N) x y->g' y=g' x:=fun g' hg' x y hx hxy=>yyw hpm' (fun z hz=>by rw [ph_N ha hz];exact hg'.face z hz) hx hxy
 by_cases hF:SC (phK si al N) (al p) (al q)
 ·--the parts are different components
  have hno: ¬SC (phK (swp si p q) al N) (al p) (al q):=fun e=>ydx hpm hap haa hF ((yc5 hswp hph hap).2 e)
  have hKpq:KK si al N p q:=K_sc hs ha hp hsc
  have hnK: ¬KK (swp si p q) al N p q:=fun hsame=>by
   have hvn:=ydx hs hp hpq hsc
   have hvj:=ycg hs' hp hq hvn
   rw [ye1] at hvj
   obtain ⟨lV,hV⟩:=Tr.exists (SC.eqv hs) (KK si al N p)
   obtain ⟨lF,hlF⟩:=Tr.exists (SC.eqv hpm) (KK si al N p)
   have heq:=h.eq p hp lV lF hV hlF
   obtain ⟨lV',hV'⟩:=Tr.exists (SC.eqv hs') (KK si al N p)
   obtain ⟨lF',hF'⟩:=Tr.exists (SC.eqv hpm') (KK si al N p)
   have hUp:KK si al N p p:=hE.rfl' _ hp
   have hv1:lV'.length=lV.length+1:=hV'.join (SC.eqv hs') hp hq hUp hKpq hvn (hV.congr hvj)
   have hUap:KK si al N p (al p):=K_al hs ha hp
   have hUaq:KK si al N p (al q):=hE.trans _ _ _ hp hq haq hKpq (K_al hs ha hq)
   have hF1:Tr N (KK si al N p) (SC (swp (phK si al N) (al p) (al q))) lF':=hF'.congr fun x y hx _=>(yc5 hswp hph hx).symm
   have hno':=ydx hpm hap haa hF
   have hj:=ycg hswp hap haq hno'
   rw [ye1] at hj
   have hf1:=hF1.join (SC.eqv hswp) hap haq hUap hUaq hno' (hlF.congr hj)
   have hsub: ∀x y,x<N->y<N->KK (swp si p q) al N x y->KK si al N x y:=fun x y hx hy hk=>by
    refine yca hs' ha hE (fun x hx=>?_) (fun x hx=>K_al hs ha hx) hx hy hk
    unfold swp
    by_cases h1:x=p
    ·rw [if_pos h1,h1];exact hE.trans _ _ _ hp hq (hs.lt _ hq) hKpq (K_si hs ha hq)
    ·by_cases h2:x=q
     ·rw [if_neg h1,if_pos h2,h2];exact hE.trans _ _ _ hq hp (hs.lt _ hp) (hE.symm _ _ hp hq hKpq) (K_si hs ha hp)
     ·rw [if_neg h1,if_neg h2];exact K_si hs ha hx
   have hsup: ∀x y,x<N->y<N->KK si al N x y->KK (swp si p q) al N x y:=fun x y hx hy hk=>by
    refine yca hs ha hE' (fun x hx=>?_) (fun x hx=>K_al hs' ha hx) hx hy hk
    by_cases h1:x=p
    ·have:=K_si hs' ha hq
     rw [show swp si p q q=si p by unfold swp;rw [if_neg (Ne.symm hpq),if_pos rfl]] at this
     rw [h1];exact hE'.trans _ _ _ hp hq (hs.lt _ hp) hsame this
    ·by_cases h2:x=q
     ·have:=K_si hs' ha hp
      rw [show swp si p q p=si q by unfold swp;rw [if_pos rfl]] at this
      rw [h2];exact hE'.trans _ _ _ hq hp (hs.lt _ hq) (hE'.symm _ _ hp hq hsame) this
     ·have:=K_si hs' ha hx
      rwa [show swp si p q x=si x by unfold swp;rw [if_neg h1,if_neg h2]] at this
   have hcl: ∀x,x<N->(KK si al N p x↔KK (swp si p q) al N p x):=fun x hx=>⟨hsup p x hp hx,hsub p x hp hx⟩
   have e1:=hV'.congrU hcl (E':=SC (swp si p q)) (fun _ _ _ _ _ _=>Iff.rfl)
   have e2:=hF'.congrU hcl (E':=SC (phK (swp si p q) al N)) (fun _ _ _ _ _ _=>Iff.rfl)
   have e3:eU al (KK si al N p) N=eU al (KK (swp si p q) al N p) N:=ydy fun x hx=>by rw [hcl x hx]
   have e4:=ym5 hs' ha hp e1 e2
   omega
  refine ⟨fun z=>if KK (swp si p q) al N q z then P.mul (P.mul (g (al p)) (P.inv (g (al q)))) (g z) else g z,fin _ ⟨fun x hx=>?_,fun x hx=>?_⟩ ?_⟩
  ·have hax:=ha.lt x hx
   have hcl:=K_cl hs' ha hq
   have e:KK (swp si p q) al N q (swp si p q (al x))↔KK (swp si p q) al N q x:=by rw [←hcl.1 _ hax,←hcl.2 _ hx]
   by_cases hk:KK (swp si p q) al N q x
   ·rw [if_pos hk,if_pos (e.2 hk),hg.face x hx]
   ·rw [if_neg hk,if_neg fun e'=>hk (e.1 e'),hg.face x hx]
  ·have e:=(K_cl hs' ha hq).2 x hx
   have:=hg.edge x hx
   by_cases hk:KK (swp si p q) al N q x
   ·rw [if_pos hk,if_pos (e.1 hk),this];simp only [P.assoc]
   ·rw [if_neg hk,if_neg fun e'=>hk (e.2 e')];exact this
  ·have e1: ¬KK (swp si p q) al N q (al p):=fun e=>hnK (hE'.symm _ _ hq hp (hE'.trans _ _ _ hq hap hp e (hE'.symm _ _ hp hap (K_al hs' ha hp))))
   rw [if_neg e1,if_pos (K_al hs' ha hq),P.assoc,P.il,P.or']
 ·--one face behind the parting
  refine ⟨g,fin g hg ?_⟩
  have hj:=ycg hpm hap haq hF
  have:SC (phK (swp si p q) al N) (al p) (al q):=(yc5 hswp hph hap).1 ((hj _ _ hap haq).2 (.inr (.inl ⟨.refl _ _, .refl _ _⟩)))
  exact (hcon g hg _ _ hap this).symm
def Vx (N:Nat) (si:Nat->Nat) (w t:Nat->G):Prop:= ∀x,x<N->t (si x)=P.mul (t x) (w x)
noncomputable def actN (N:Nat) (si:Nat->Nat):Nat:=cU (fun x=>si x≠x) N
theorem ykn {U W:Nat->Prop} {k:Nat} (h: ∀x,x<k->U x->W x):cU U k<=cU W k:=by
 induction k with
 |zero=>simp [cU]
 |succ k ih=>
  rw [yco,yco]
  have:=ih fun x hx=>h x (by omega)
  by_cases h1:U k
  ·rw [if_pos h1,if_pos (h k (by omega) h1)];omega
  ·rw [if_neg h1];omega
theorem ywn {U W:Nat->Prop} {k x:Nat} (h: ∀x,x<k->U x->W x) (hx:x<k) (h1: ¬U x) (h2:W x):cU U k<cU W k:=by
 induction k with
 |zero=>omega
 |succ k ih=>
  rw [yco,yco]
  by_cases hk:x=k
  ·subst hk
   have:=ykn (k:=x) fun y hy=>h y (by omega)
   rw [if_neg h1,if_pos h2];omega
  ·have:=ih (fun y hy=>h y (by omega)) (by omega)
   by_cases h3:U k
   ·rw [if_pos h3,if_pos (h k (by omega) h3)];omega
   ·rw [if_neg h3];omega
theorem off (h:Sph N si al) {t:Nat->G} (ht:Vx P N si w t) {x:Nat} (hx:x<N) (hw:w x=P.one):
  ∃si',Sph N si' al/\Vx P N si' w t/\si' x=x/\(∀y,y<N->si' y≠y->si y≠y)/\(si x≠x->actN N si'<actN N si)/\(∀g,PotG P N si' al w g-> ∃g',PotG P N si al w g'):=by
 by_cases e:si x=x
 ·exact ⟨si,h,ht,e,fun _ _ h=>h,fun hn=>absurd e hn,fun g hg=>⟨g,hg⟩⟩
 ·obtain ⟨k,h0,hk⟩:=h.perm.back hx
  obtain ⟨j,rfl⟩: ∃j,k=j+1:=⟨k-1,by omega⟩
  obtain ⟨p,hp⟩: ∃p,p=itn si j x:=⟨_,rfl⟩
  have hpl:p<N:=hp▸h.perm.itn_lt hx j
  have hsp:si p=x:=by rw [hp];exact hk
  have hpx:p≠x:=fun e'=>e (by rw [←e'];exact hsp▸e'.symm▸e')
  have s1:swp si p x p=si x:=by unfold swp;rw [if_pos rfl]
  have s2:swp si p x x=x:=by unfold swp;rw [if_neg (Ne.symm hpx),if_pos rfl];exact hsp
  have s3: ∀y,y≠p->y≠x->swp si p x y=si y:=fun y h1 h2=>by unfold swp;rw [if_neg h1,if_neg h2]
  have hm: ∀y,y<N->swp si p x y≠y->si y≠y:=fun y hy hn e'=>by
   by_cases h1:y=p
   ·subst h1;rw [hsp] at e';exact hpx e'.symm
   ·by_cases h2:y=x
    ·exact e (h2▸e')
    ·rw [s3 y h1 h2] at hn;exact hn e'
  refine ⟨swp si p x,h.split hpl hx hpx ⟨1,hsp⟩,fun y hy=>?_,s2,hm,fun _=>ywn hm hx (fun hn=>hn s2) e,fun g hg=>ywm P h hpl hx hpx ⟨1,hsp⟩ hg⟩
  by_cases h1:y=p
  ·have a1:=ht x hx
   have a2:=ht p hpl
   rw [hsp] at a2
   rw [h1,s1,a1,hw,P.or',a2]
  ·by_cases h2:y=x
   ·rw [h2,s2,hw,P.or']
   ·rw [s3 y h1 h2];exact ht y hy
theorem leaf (h:Sph N si al) {a:Nat} (ha:a<N) (h1: ∀x,x<N->KK si al N a x->SC (phK si al N) x (al x)): ∃x,x<N/\KK si al N a x/\si x=x:=by
 have hs:=h.perm
 have hm:=h.mat
 have hE:=yc7 hs hm
 have hpm:=ybl hs hm N (Nat.le_refl _)
 apply Classical.byContradiction
 intro hno
 have hne: ∀x,x<N->KK si al N a x->si x≠x:=fun x hx hk e=>hno ⟨x,hx,hk,e⟩
 have hcl:=K_cl hs hm ha
 have hall: ∀x,x<N->KK si al N a x->SC (phK si al N) a x:=fun x hx hk=>by
  have:=yca hs hm (R:=fun x y=>(KK si al N a x↔KK si al N a y)/\(KK si al N a x->SC (phK si al N) x y)) ⟨fun x _=>⟨Iff.rfl,fun _=> .refl _ _⟩,fun x y hx hy h=>⟨h.1.symm,fun hk=>(h.2 (h.1.2 hk)).symm hpm hx⟩,fun x y z _ _ _ h k=>⟨h.1.trans k.1,fun hk=>(h.2 hk).trans (k.2 (h.1.1 hk))⟩⟩
   (fun x hx=>⟨hcl.1 x hx,fun hk=>(h1 x hx hk).trans ⟨1,by show phK si al N (al x)=si x;rw [ph_N hm (hm.lt x hx),hm.inv x hx]⟩⟩) (fun x hx=>⟨hcl.2 x hx,h1 x hx⟩) ha hx hk
  exact this.2 (hE.rfl' _ ha)
 have hF:Tr N (KK si al N a) (SC (phK si al N)) [a]:=by
  refine ⟨fun x hx=>?_,by simp,fun x hx y hy _=>?_,fun x hx hk=>⟨a,by simp,(hall x hx hk).symm hpm ha⟩⟩
  ·simp at hx;subst hx;exact ⟨ha,hE.rfl' _ ha⟩
  ·simp at hx hy;rw [hx,hy]
 obtain ⟨lV,hV⟩:=Tr.exists (SC.eqv hs) (KK si al N a)
 have e1:=h.eq a ha lV [a] hV hF
 have e2:=ye2 hm (U:=KK si al N a) hcl.2
 have e3:(lV++lV.map si).length<=((List.range N).filter fun x=>decide (KK si al N a x)).length:=by
  refine yfp _ _ id ?_ (fun x hx=>?_) (fun x _ y _ e=>e)
  ·rw [List.nodup_append]
   refine ⟨hV.nodup,?_,?_⟩
   ·rw [List.Nodup,List.pairwise_map]
    refine List.Pairwise.imp_of_mem ?_ hV.nodup
    intro x y hx hy hxy e
    exact hxy (hs.inj _ _ (hV.mem x hx).1 (hV.mem y hy).1 e)
   ·intro x hx y hy e
    obtain ⟨z,hz,rfl⟩:=List.mem_map.1 hy
    have:=hV.apart z hz x hx ⟨1,e.symm⟩
    rw [this] at e
    exact hne x (hV.mem x hx).1 (hV.mem x hx).2 e.symm
  ·rw [List.mem_filter,List.mem_range,decide_eq_true_eq]
   rcases List.mem_append.1 hx with hx|hx
   ·exact hV.mem x hx
   ·obtain ⟨z,hz,rfl⟩:=List.mem_map.1 hx
    exact ⟨hs.lt _ (hV.mem z hz).1,(hcl.1 z (hV.mem z hz).1).1 (hV.mem z hz).2⟩
 have e4:cU (KK si al N a) N=((List.range N).filter fun x=>decide (KK si al N a x)).length:=by unfold cU;rw [List.countP_eq_length_filter]
 rw [List.length_append,List.length_map] at e3
 simp at e1
 omega
theorem y9h {hh:Nat->G} (hf: ∀x,x<N->hh (si (al x))=hh x) (hg:PotG P N si al (fun x=>P.mul (P.mul (hh x) (w x)) (P.inv (hh (al x)))) g):PotG P N si al w fun x=>P.mul (g x) (hh x):=by
 refine ⟨fun x hx=>?_,fun x hx=>?_⟩
 ·show P.mul (g (si (al x))) (hh (si (al x)))=_
  rw [hg.face x hx,hf x hx]
 ·show P.mul (g (al x)) (hh (al x))=_
  rw [hg.edge x hx]
  simp only [P.assoc,P.il,P.or']
theorem Sph.potG: ∀(m:Nat) {si:Nat->Nat} {w t:Nat->G},Sph N si al->actN N si<=m->(∀x,x<N->w (al x)=P.inv (w x))->Vx P N si w t-> ∃g,PotG P N si al w g:=fun m=>by
 induction m with
 |zero=>
  intro si w t h hm hw ht
  have hfix: ∀x,x<N->si x=x:=fun x hx=>by
   apply Classical.byContradiction
   intro hn
   have:=ywn (U:=fun _=>False) (W:=fun x=>si x≠x) (fun _ _ h=>h.elim) hx (fun h=>h) hn
   unfold actN at hm
   omega
  have h1: ∀x,x<N->w x=P.one:=fun x hx=>by
   have:=ht x hx
   rw [hfix x hx] at this
   exact (P.lc (a:=t x) (by rw [P.or'];exact this)).symm
  exact ⟨fun _=>P.one,fun _ _=>rfl,fun x hx=>by rw [h1 x hx,P.or']⟩
 |succ m ih=>
  intro si w t h hm hw ht
  have hs:=h.perm
  have ha:=h.mat
  have hpm:=ybl hs ha N (Nat.le_refl _)
  have inv1:P.inv P.one=P.one:=by have:=P.ol (P.inv P.one);rw [←this,P.ir]
  have away: ∀(w t:Nat->G) (x:Nat),(∀x,x<N->w (al x)=P.inv (w x))->Vx P N si w t->x<N->(si x≠x\/si (al x)≠al x)->w x=P.one-> ∃g,PotG P N si al w g:=fun w t x hw ht hx hn h1=>by
   obtain ⟨si1,a1,a2,a3,a4,a5,a6⟩:=off P h ht hx h1
   obtain ⟨si2,b1,b2,b3,b4,b5,b6⟩:=off P a1 a2 (ha.lt x hx) (by rw [hw x hx,h1,inv1])
   have:actN N si2<=m:=by
    by_cases e:si x=x
    ·have hn':=hn.resolve_left (fun hn=>hn e)
     by_cases e1:si1 (al x)=al x
     ·have:actN N si1<actN N si:=by
       exact ywn a4 (ha.lt x hx) (fun hn=>hn e1) hn'
      have:=ykn b4
      unfold actN at*
      omega
     ·have:=b5 e1
      have:=ykn a4
      unfold actN at*
      omega
    ·have:=a5 e
     have:=ykn b4
     unfold actN at*
     omega
   obtain ⟨g,hg⟩:=ih b1 this hw b2
   obtain ⟨g',hg'⟩:=b6 g hg
   exact a6 g' hg'
  by_cases hact: ∃a,a<N/\si a≠a
  ·obtain ⟨a,hal,han⟩:=hact
   by_cases hd: ∃x,x<N/\(si x≠x\/si (al x)≠al x)/\ ¬SC (phK si al N) x (al x)
   ·obtain ⟨x,hx,hn,hd⟩:=hd
    let hh:Nat->G:=fun y=>if SC (phK si al N) x y then P.inv (w x) else P.one
    have hf: ∀y,y<N->hh (si (al y))=hh y:=fun y hy=>by
     have e:SC (phK si al N) x (si (al y))↔SC (phK si al N) x y:=by
      have st:SC (phK si al N) y (si (al y)):=⟨1,ph_N ha hy⟩
      exact ⟨fun k=>k.trans (st.symm hpm hy),fun k=>k.trans st⟩
     show (if _ then _ else _)=if _ then _ else _
     by_cases c:SC (phK si al N) x y
     ·rw [if_pos c,if_pos (e.2 c)]
     ·rw [if_neg c,if_neg fun c'=>c (e.1 c')]
    have k1: ∀y,y<N->P.mul (P.mul (hh (al y)) (w (al y))) (P.inv (hh (al (al y))))=P.inv (P.mul (P.mul (hh y) (w y)) (P.inv (hh (al y)))):=fun y hy=>by
     rw [ha.inv y hy,hw y hy]
     refine P.rc (a:=P.mul (P.mul (hh y) (w y)) (P.inv (hh (al y)))) ?_
     rw [P.il]
     simp only [P.assoc]
     rw [←P.assoc (P.inv (hh y)),P.il,P.ol,←P.assoc (P.inv (w y)),P.il,P.ol,P.ir]
    have k2:Vx P N si (fun y=>P.mul (P.mul (hh y) (w y)) (P.inv (hh (al y)))) (fun y=>P.mul (t y) (P.inv (hh y))):=fun y hy=>by
     show P.mul (t (si y)) (P.inv (hh (si y)))=P.mul (P.mul (t y) (P.inv (hh y))) (P.mul (P.mul (hh y) (w y)) (P.inv (hh (al y))))
     have e:=hf (al y) (ha.lt y hy)
     rw [ha.inv y hy] at e
     rw [e,ht y hy]
     simp only [P.assoc]
     rw [←P.assoc (P.inv (hh y)),P.il,P.ol]
    have k3:P.mul (P.mul (hh x) (w x)) (P.inv (hh (al x)))=P.one:=by
     show P.mul (P.mul (if _ then _ else _) (w x)) (P.inv (if _ then _ else _))=_
     rw [if_pos (.refl _ _),if_neg hd,P.il,inv1,P.or']
    obtain ⟨g,hg⟩:=away (fun y=>P.mul (P.mul (hh y) (w y)) (P.inv (hh (al y)))) (fun y=>P.mul (t y) (P.inv (hh y))) x k1 k2 hx hn k3
    exact ⟨_,y9h P hf hg⟩
   ·--one face:there is an end alone at its vertex
    have hd': ∀x,x<N->(si x≠x\/si (al x)≠al x)->SC (phK si al N) x (al x):=fun x hx hn=>Classical.byContradiction fun e=>hd ⟨x,hx,hn,e⟩
    have hcl:=K_cl hs ha hal
    have hin: ∀x,x<N->KK si al N a x->(si x≠x\/si (al x)≠al x):=fun x hx hk=>by
     apply Classical.byContradiction
     intro hn
     have n1:si x=x:=Classical.byContradiction fun e=>hn (.inl e)
     have n2:si (al x)=al x:=Classical.byContradiction fun e=>hn (.inr e)
     have:=yca hs ha (R:=fun u v=>(u=x\/u=al x)↔(v=x\/v=al x)) ⟨fun _ _=>Iff.rfl,fun _ _ _ _ h=>h.symm,fun _ _ _ _ _ _ h k=>h.trans k⟩ (fun u hu=>?_) (fun u hu=>?_) hal hx hk
     ·rcases this.2 (.inl rfl) with e|e
      ·exact han (e▸n1)
      ·exact han (e▸n2)
     ·constructor
      ·rintro (e|e)
       ·rw [e,n1];exact .inl rfl
       ·rw [e,n2];exact .inr rfl
      ·rintro (e|e)
       ·exact .inl (hs.inj _ _ hu hx (by rw [e,n1]))
       ·exact .inr (hs.inj _ _ hu (ha.lt x hx) (by rw [e,n2]))
     ·constructor
      ·rintro (e|e)
       ·rw [e];exact .inr rfl
       ·rw [e,ha.inv x hx];exact .inl rfl
      ·rintro (e|e)
       ·right;rw [←e,ha.inv u hu]
       ·left;have:=congrArg al e;rwa [ha.inv u hu,ha.inv x hx] at this
    obtain ⟨x,hx,hk,e⟩:=leaf h hal fun x hx hk=>hd' x hx (hin x hx hk)
    refine away w t x hw ht hx (hin x hx hk) ?_
    have:=ht x hx
    rw [e] at this
    exact (P.lc (a:=t x) (by rw [P.or'];exact this)).symm
  ·have hfix: ∀x,x<N->si x=x:=fun x hx=>Classical.byContradiction fun hn=>hact ⟨x,hx,hn⟩
   refine ih h ?_ hw ht
   have:actN N si=0:=by
    unfold actN cU
    rw [List.countP_eq_zero]
    intro x hx
    simp [hfix x (List.mem_range.1 hx)]
   omega
end
end Sp
end Go.Proofs.YtjpbeacamoijhaaDoor
