/- Plain: on the sphere, an orientation of the strands comes of a potential on the faces. -/
import Derived.Test.YtmdjdekgakidhaaGreatDoorSq
import Derived.Test.YtmdjdekgakidhaaGreatDoorZs
import Derived.Test.YtmdjdekgakidhaaGreatDoorZt
namespace Go.Proofs.YtmdjdekgakidhaaGreatDoor
set_option linter.unusedSimpArgs false
set_option linter.unusedVariables false
namespace Sp
open Classical
section
variable {N n:Nat} {si al:Nat->Nat} {w g:Nat->Int}
structure Pot (N:Nat) (si al:Nat->Nat) (w g:Nat->Int):Prop where
 face: ∀x,x<N->g (si (al x))=g x
 edge: ∀x,x<N->g x-g (al x)=w x
theorem y4z {f:Nat->Nat} (hf:PermN N f) (h: ∀x,x<N->g (f x)=g x) {x y:Nat} (hx:x<N) (hs:SC f x y):g y=g x:=by
 obtain ⟨k,rfl⟩:=hs
 induction k with
 |zero=>rfl
 |succ k ih=>simp only [itn];rw [h _ (hf.itn_lt hx k),ih]
theorem Sph.pot_split (h:Sph N si al) {p q:Nat} (hp:p<N) (hq:q<N) (hpq:p≠q) (hsc:SC si p q) (hg:Pot N (swp si p q) al w g): ∃g',Pot N si al w g':=by
 have hs:=h.perm
 have ha:=h.mat
 have hs':=ydg hs hp hq
 have hE:=K_eqv hs ha
 have hE':=K_eqv hs' ha
 have hap:=ha.lt p hp
 have haq:=ha.lt q hq
 have hpm:=phK_perm hs ha N (Nat.le_refl _)
 have hpm':=phK_perm hs' ha N (Nat.le_refl _)
 have haa:al p≠al q:=fun e=>hpq (by rw [←ha.inv p hp,←ha.inv q hq,e])
 have hph: ∀x,x<N->swp (phK si al N) (al p) (al q) x=phK (swp si p q) al N x:=fun x hx=>by
  rw [ph_N ha hx]
  unfold swp
  have i1:=ha.inv x hx
  by_cases h1:x=al p
  ·subst h1
   rw [if_pos rfl,ha.inv p hp,if_pos rfl,ph_N ha haq,ha.inv q hq]
  ·rw [if_neg h1]
   have n1:al x≠p:=fun e=>h1 (by rw [←e,i1])
   by_cases h2:x=al q
   ·subst h2
    rw [if_pos rfl,ha.inv q hq,if_neg (Ne.symm hpq),if_pos rfl,ph_N ha hap,ha.inv p hp]
   ·rw [if_neg h2]
    have n2:al x≠q:=fun e=>h2 (by rw [←e,i1])
    rw [if_neg n1,if_neg n2,ph_N ha hx]
 have hswp:=ydg hpm hap haq
 have fin: ∀g',Pot N (swp si p q) al w g'->g' (al p)=g' (al q)->Pot N si al w g':=fun g' hg' he=>by
  refine ⟨fun x hx=>?_,hg'.edge⟩
  by_cases h1:al x=p
  ·have e:=hg'.face (al q) haq
   rw [ha.inv q hq] at e
   have:swp si p q q=si p:=by unfold swp;rw [if_neg (Ne.symm hpq),if_pos rfl]
   rw [this] at e
   rw [h1,e,←he,←h1,ha.inv x hx]
  ·by_cases h2:al x=q
   ·have e:=hg'.face (al p) hap
    rw [ha.inv p hp] at e
    have:swp si p q p=si q:=by unfold swp;rw [if_pos rfl]
    rw [this] at e
    rw [h2,e,he,←h2,ha.inv x hx]
   ·have e:=hg'.face x hx
    rwa [show swp si p q (al x)=si (al x) by unfold swp;rw [if_neg h1,if_neg h2]] at e
 have hcon: ∀g',Pot N (swp si p q) al w g'-> ∀x y,x<N->SC (phK (swp si p q) al N) x y->g' y=g' x:=fun g' hg' x y hx hxy=>y4z hpm' (fun z hz=>by rw [ph_N ha hz];exact hg'.face z hz) hx hxy
 by_cases hF:SC (phK si al N) (al p) (al q)
 ·--the parts are different components
  have hno: ¬SC (phK (swp si p q) al N) (al p) (al q):=fun e=>ydx hpm hap haa hF ((ycz hswp hph hap).2 e)
  have hKpq:KK si al N p q:=K_sc hs ha hp hsc
  have hnK: ¬KK (swp si p q) al N p q:=fun hsame=>by
   have hvn:=ydx hs hp hpq hsc
   have hvj:=yb0 hs' hp hq hvn
   rw [ye4] at hvj
   obtain ⟨lV,hV⟩:=Tr.exists (SC.eqv hs) (KK si al N p)
   obtain ⟨lF,hlF⟩:=Tr.exists (SC.eqv hpm) (KK si al N p)
   have heq:=h.eq p hp lV lF hV hlF
   obtain ⟨lV',hV'⟩:=Tr.exists (SC.eqv hs') (KK si al N p)
   obtain ⟨lF',hF'⟩:=Tr.exists (SC.eqv hpm') (KK si al N p)
   have hUp:KK si al N p p:=hE.rfl' _ hp
   have hv1:lV'.length=lV.length+1:=hV'.join (SC.eqv hs') hp hq hUp hKpq hvn (hV.congr hvj)
   have hUap:KK si al N p (al p):=K_al hs ha hp
   have hUaq:KK si al N p (al q):=hE.trans _ _ _ hp hq haq hKpq (K_al hs ha hq)
   have hF1:Tr N (KK si al N p) (SC (swp (phK si al N) (al p) (al q))) lF':=hF'.congr fun x y hx _=>(ycz hswp hph hx).symm
   have hno':=ydx hpm hap haa hF
   have hj:=yb0 hswp hap haq hno'
   rw [ye4] at hj
   have hf1:=hF1.join (SC.eqv hswp) hap haq hUap hUaq hno' (hlF.congr hj)
   have hsub: ∀x y,x<N->y<N->KK (swp si p q) al N x y->KK si al N x y:=fun x y hx hy hk=>by
    refine K_least hs' ha hE (fun x hx=>?_) (fun x hx=>K_al hs ha hx) hx hy hk
    unfold swp
    by_cases h1:x=p
    ·rw [if_pos h1,h1];exact hE.trans _ _ _ hp hq (hs.lt _ hq) hKpq (K_si hs ha hq)
    ·by_cases h2:x=q
     ·rw [if_neg h1,if_pos h2,h2];exact hE.trans _ _ _ hq hp (hs.lt _ hp) (hE.symm _ _ hp hq hKpq) (K_si hs ha hp)
     ·rw [if_neg h1,if_neg h2];exact K_si hs ha hx
   have hsup: ∀x y,x<N->y<N->KK si al N x y->KK (swp si p q) al N x y:=fun x y hx hy hk=>by
    refine K_least hs ha hE' (fun x hx=>?_) (fun x hx=>K_al hs' ha hx) hx hy hk
    by_cases h1:x=p
    ·have:=K_si hs' ha hq
     rw [show swp si p q q=si p by unfold swp;rw [if_neg (Ne.symm hpq),if_pos rfl]] at this
     rw [h1];exact hE'.trans _ _ _ hp hq (hs.lt _ hp) hsame this
    ·by_cases h2:x=q
     ·have:=K_si hs' ha hp
      rw [show swp si p q p=si q by unfold swp;rw [if_pos rfl]] at this
      rw [h2];exact hE'.trans _ _ _ hq hp (hs.lt _ hq) (hE'.symm _ _ hp hq hsame) this
     ·have:=K_si hs' ha hx
      rwa [show swp si p q x=si x by unfold swp;rw [if_neg h1,if_neg h2]] at this
   have hcl: ∀x,x<N->(KK si al N p x↔KK (swp si p q) al N p x):=fun x hx=>⟨hsup p x hp hx,hsub p x hp hx⟩
   have e1:=hV'.congrU hcl (E':=SC (swp si p q)) (fun _ _ _ _ _ _=>Iff.rfl)
   have e2:=hF'.congrU hcl (E':=SC (phK (swp si p q) al N)) (fun _ _ _ _ _ _=>Iff.rfl)
   have e3:eU al (KK si al N p) N=eU al (KK (swp si p q) al N p) N:=ydy fun x hx=>by rw [hcl x hx]
   have e4:=ykl hs' ha hp e1 e2
   omega
  refine ⟨fun z=>if KK (swp si p q) al N q z then g z+(g (al p)-g (al q)) else g z,fin _ ⟨fun x hx=>?_,fun x hx=>?_⟩ ?_⟩
  ·have hax:=ha.lt x hx
   have hcl:=K_cl hs' ha hq
   have e:KK (swp si p q) al N q (swp si p q (al x))↔KK (swp si p q) al N q x:=by rw [←hcl.1 _ hax,←hcl.2 _ hx]
   by_cases hk:KK (swp si p q) al N q x
   ·rw [if_pos hk,if_pos (e.2 hk),hg.face x hx]
   ·rw [if_neg hk,if_neg fun e'=>hk (e.1 e'),hg.face x hx]
  ·have e:=(K_cl hs' ha hq).2 x hx
   have:=hg.edge x hx
   by_cases hk:KK (swp si p q) al N q x
   ·rw [if_pos hk,if_pos (e.1 hk)];omega
   ·rw [if_neg hk,if_neg fun e'=>hk (e.2 e')];exact this
  ·have e1: ¬KK (swp si p q) al N q (al p):=fun e=>hnK (hE'.symm _ _ hq hp (hE'.trans _ _ _ hq hap hp e (hE'.symm _ _ hp hap (K_al hs' ha hp))))
   rw [if_neg e1,if_pos (K_al hs' ha hq)];omega
 ·--one face behind the parting
  refine ⟨g,fin g hg ?_⟩
  have hj:=yb0 hpm hap haq hF
  have:SC (phK (swp si p q) al N) (al p) (al q):=(ycz hswp hph hap).1 ((hj _ _ hap haq).2 (.inr (.inl ⟨.refl _ _, .refl _ _⟩)))
  exact (hcon g hg _ _ hap this).symm
def nbt (b:Bool):Nat:=if b then 1 else 0
def jnN (b:Bool) (x:Nat):Nat:=if b then x-x % 4+(3-x % 4) else if x % 2=0 then x+1 else x-1
def siK (b:Nat->Bool) (k x:Nat):Nat:=if x/4<k then jnN (b (x/4)) x else siD x
theorem ytu (b:Nat->Bool):siK b 0=siD:=funext fun x=>by unfold siK;rw [if_neg (by omega)]
theorem ytv (b:Nat->Bool) (k:Nat):siK b (k+1)=swp (siK b k) (4*k+nbt (b k)) (4*k+nbt (b k)+2):=funext fun x=>by
 unfold siK swp
 by_cases h:x/4=k
 ·have e:x=4*k\/x=4*k+1\/x=4*k+2\/x=4*k+3:=by omega
  rw [if_pos (by omega),h]
  cases hb:b k with
  |false=>
   simp only [nbt,jnN,siD,Bool.false_eq_true,if_false]
   rcases e with rfl|rfl|rfl|rfl
   ·rw [if_pos (by omega),if_pos (by omega),if_neg (by omega)];omega
   ·rw [if_neg (by omega),if_neg (by omega),if_neg (by omega),if_neg (by omega)];omega
   ·rw [if_pos (by omega),if_neg (by omega),if_pos (by omega),if_neg (by omega)];omega
   ·rw [if_neg (by omega),if_neg (by omega),if_neg (by omega),if_neg (by omega)];omega
  |true=>
   simp only [nbt,jnN,siD,if_true]
   rcases e with rfl|rfl|rfl|rfl
   ·rw [if_neg (by omega),if_neg (by omega),if_neg (by omega)];omega
   ·rw [if_pos (by omega),if_neg (by omega)];omega
   ·rw [if_neg (by omega),if_neg (by omega),if_neg (by omega)];omega
   ·rw [if_neg (by omega),if_pos (by omega),if_neg (by omega)];omega
 ·have h1:x≠4*k+nbt (b k)/\x≠4*k+nbt (b k)+2:=by unfold nbt;split<;>omega
  rw [if_neg h1.1,if_neg h1.2]
  show (if x/4<k+1 then jnN (b (x/4)) x else siD x)=if x/4<k then jnN (b (x/4)) x else siD x
  by_cases h2:x/4<k
  ·rw [if_pos (by omega),if_pos h2]
  ·rw [if_neg (by omega),if_neg h2]
theorem y1r (b:Nat->Bool) (k:Nat):SC (siK b k) (4*k+nbt (b k)) (4*k+nbt (b k)+2):=by
 have key: ∀x,x/4=k->siK b k x=siD x:=fun x hx=>by unfold siK;rw [if_neg (by omega)]
 have h1:(4*k+nbt (b k))/4=k:=by unfold nbt;split<;>omega
 refine ⟨2,?_⟩
 simp only [itn]
 rw [key _ h1,key _ (by rw [siD_div];exact h1)]
 unfold siD nbt
 split<;>omega
theorem Sph.smK (h:Sph (4*n) siD al) (b:Nat->Bool): ∀k,k<=n->Sph (4*n) (siK b k) al
 |0,_=>by rw [ytu];exact h
 |k+1,hk=>by
  rw [ytv]
  have:nbt (b k)<=1:=by unfold nbt;split<;>omega
  exact (h.smK b k (by omega)).split (by omega) (by omega) (by omega) (y1r b k)
theorem Sph.pot (h:Sph (4*n) siD al) (o:Nat->Int) (h1: ∀x,x<4*n->o x=1\/o x= -1) (h2: ∀x,x<4*n->o (al x)= -o x) (h3: ∀c,c<n->o (4*c+2)= -o (4*c)/\o (4*c+3)= -o (4*c+1)): ∃g,Pot (4*n) siD al o g:=by
 obtain ⟨b,hb⟩: ∃b:Nat->Bool,b=fun c=>decide (o (4*c+1)=o (4*c)):=⟨_,rfl⟩
 have hfl: ∀x,x<4*n->o (jnN (b (x/4)) x)= -o x:=fun x hx=>by
  have e:x=4*(x/4)\/x=4*(x/4)+1\/x=4*(x/4)+2\/x=4*(x/4)+3:=by omega
  have hc:x/4<n:=by omega
  generalize x/4=c at*
  obtain ⟨k1,k2⟩:=h3 c hc
  have o0:=h1 (4*c) (by omega)
  have o1:=h1 (4*c+1) (by omega)
  by_cases hbc:o (4*c+1)=o (4*c)
  ·rw [show b c=true by rw [hb];exact decide_eq_true hbc]
   simp only [jnN,if_true]
   rcases e with rfl|rfl|rfl|rfl
   ·rw [show 4*c-4*c % 4+(3-4*c % 4)=4*c+3 by omega];omega
   ·rw [show 4*c+1-(4*c+1)% 4+(3-(4*c+1)% 4)=4*c+2 by omega];omega
   ·rw [show 4*c+2-(4*c+2)% 4+(3-(4*c+2)% 4)=4*c+1 by omega];omega
   ·rw [show 4*c+3-(4*c+3)% 4+(3-(4*c+3)% 4)=4*c by omega];omega
  ·rw [show b c=false by rw [hb];exact decide_eq_false hbc]
   simp only [jnN,Bool.false_eq_true,if_false]
   rcases e with rfl|rfl|rfl|rfl
   ·rw [if_pos (by omega)];omega
   ·rw [if_neg (by omega),show 4*c+1-1=4*c by omega];omega
   ·rw [if_pos (by omega),show 4*c+2+1=4*c+3 by omega];omega
   ·rw [if_neg (by omega),show 4*c+3-1=4*c+2 by omega];omega
 have key: ∀d,d<=n-> ∃g,Pot (4*n) (siK b (n-d)) al o g:=fun d=>by
  induction d with
  |zero=>
   intro _
   refine ⟨fun x=>if o x=1 then 1 else 0,fun x hx=>?_,fun x hx=>?_⟩
   ·have hax:=h.mat.lt x hx
    have e1:siK b (n-0) (al x)=jnN (b (al x/4)) (al x):=by unfold siK;rw [if_pos (by omega)]
    have e2:=hfl _ hax
    have e3:=h2 x hx
    rw [e1,e2,e3]
    rcases h1 x hx with e|e<;>rw [e]<;>decide
   ·have e3:=h2 x hx
    show (if o x=1 then (1:Int) else 0)-(if o (al x)=1 then 1 else 0)=o x
    rw [e3]
    rcases h1 x hx with e|e<;>rw [e]<;>decide
  |succ d ih=>
   intro hd
   obtain ⟨g,hg⟩:=ih (by omega)
   rw [show n-d=(n-(d+1))+1 by omega,ytv] at hg
   have:nbt (b (n-(d+1)))<=1:=by unfold nbt;split<;>omega
   exact (h.smK b (n-(d+1)) (by omega)).pot_split (by omega) (by omega) (by omega) (y1r b _) hg
 have:=key n (Nat.le_refl _)
 rwa [Nat.sub_self,ytu] at this
end
end Sp
end Go.Proofs.YtmdjdekgakidhaaGreatDoor
namespace Go.Proofs.YtmdjdekgakidhaaGreatDoor
set_option linter.unusedSimpArgs false
set_option linter.unusedVariables false
section
variable {s m:List Int} {L:Int} (v:yn0 s m L)
include v
end
end Go.Proofs.YtmdjdekgakidhaaGreatDoor
namespace Go.Proofs.YtmdjdekgakidhaaGreatDoor
set_option linter.unusedSimpArgs false
set_option linter.unusedVariables false
open Classical
section
variable {s m:List Int} {L:Int} (v:yn0 s m L)
def op2 (x:Nat):Nat:=x-x % 4+(x % 4+2)% 4
include v
end
section
variable {s m:List Int} {L:Int} (hv:yah s m L=true)
include hv
end
end Go.Proofs.YtmdjdekgakidhaaGreatDoor
namespace Go.Proofs.YtmdjdekgakidhaaGreatDoor
set_option linter.unusedSimpArgs false
set_option linter.unusedVariables false
open Classical
section
variable {m:List Int} {n:Nat} {σ:Nat->Bool} {s s':Nat->Nat} {c:Nat}
def jS (s:Nat->Nat) (x:Nat):Nat:=(st3 s (x:Int)).toNat
theorem ydm (s:Nat->Nat) (x:Nat):((jS s x:Nat):Int)=st3 s x:=by
 have:=ygo (s ((x:Int)/4).toNat) x
 unfold jS st3;omega
theorem ytw (s:Nat->Nat) (x:Nat):jS s x/4=x/4:=by
 have h1:=ydm s x
 have h2:=ygo (s ((x:Int)/4).toNat) x
 unfold st3 at h1;omega
theorem yon (s:Nat->Nat) (x:Nat):jS s (jS s x)=x:=by
 have h1:=ydm s (jS s x)
 rw [ydm s x] at h1
 have h2:st3 s (st3 s (x:Int))=x:=by unfold st3;rw [ygo,yoy]
 omega
structure Flp (m:List Int) (n:Nat) (σ:Nat->Bool) (s:Nat->Nat):Prop where
 mt: ∀x,x<4*n->σ (Sp.alD m x)= !σ x
 jn: ∀x,x<4*n->σ (jS s x)= !σ x
def pF (m:List Int) (σ:Nat->Bool) (s:Nat->Nat) (x:Nat):Nat:=if σ x then jS s (Sp.alD m x) else x
theorem yhf (hp:PmOk m n):Sp.Dia m n:=⟨⟨hp.ok,hp.inv⟩,hp.ne⟩
theorem ylj {x:Nat} (hx:x<4*n):jS s x<4*n:=by have:=ytw s x;omega
theorem ygx (hp:PmOk m n) (h:Flp m n σ s):Sp.PermN (4*n) (pF m σ s):=by
 have hm:=(yhf hp).mat
 refine ⟨fun x hx=>?_,fun x y hx hy e=>?_⟩
 ·unfold pF;split
  ·exact ylj (hm.lt x hx)
  ·exact hx
 ·have col: ∀x,x<4*n->σ x=true->σ (jS s (Sp.alD m x))=true:=fun x hx e=>by rw [h.jn _ (hm.lt x hx),h.mt x hx,e];rfl
  unfold pF at e
  by_cases h1:σ x=true<;>by_cases h2:σ y=true
  ·rw [if_pos h1,if_pos h2] at e
   have:=congrArg (jS s) e
   rw [yon,yon] at this
   rw [←hm.inv x hx,this,hm.inv y hy]
  ·rw [if_pos h1,if_neg h2] at e
   exact absurd (e▸col x hx h1) h2
  ·rw [if_neg h1,if_pos h2] at e
   exact absurd (e▸col y hy h2) h1
  ·rw [if_neg h1,if_neg h2] at e;exact e
theorem y5v (hp:PmOk m n) (h:Flp m n σ s) {x y:Nat} (hx:x<4*n) (hy:y<4*n) (cx:σ x=true):Sp.SC (pF m σ s) x y↔Cir (fun x=>m.getD x.toNat 0) (st3 s) x y/\σ y=true:=by
 have hD:=yhf hp
 have hm:=hD.mat
 have hP:=ygx hp h
 have hi:=ygp hp.ok hp.inv hp.ne s
 have cm: ∀z,z<4*n->m.getD z 0=(Sp.alD m z:Nat):=fun z hz=>(hD.cast hz).symm
 constructor
 ·rintro ⟨k,rfl⟩
  clear hy
  induction k with
  |zero=>exact ⟨.refl _,cx⟩
  |succ k ih=>
   have lt:=hP.itn_lt hx k
   simp only [Sp.itn]
   generalize Sp.itn (pF m σ s) k x=z at*
   obtain ⟨i1,i2⟩:=ih
   unfold pF
   rw [if_pos i2]
   refine ⟨?_,by rw [h.jn _ (hm.lt z lt),h.mt z lt,i2];rfl⟩
   have:=Cir.join (Cir.mate i1)
   simp only [Int.toNat_natCast] at this
   rw [cm z lt,←ydm] at this;exact this
 ·rintro ⟨hc,cy⟩
  have key: ∀z:Int,Cir (fun x=>m.getD x.toNat 0) (st3 s) x z->InR n z/\(σ z.toNat=true->Sp.SC (pF m σ s) x z.toNat)/\(σ z.toNat=false->Sp.SC (pF m σ s) x (Sp.alD m z.toNat)):=fun z hz=>by
   induction hz with
   |refl=>exact ⟨by unfold InR;omega,fun _=>by simpa using Sp.SC.refl _ _,fun e=>by simp [cx] at e⟩
   | @mate z _ ih=>
     obtain ⟨r,i1,i2⟩:=ih
     refine ⟨hi.mr z r,?_⟩
     unfold InR at r
     have e:((fun x:Int=>m.getD x.toNat 0) z).toNat=Sp.alD m z.toNat:=rfl
     rw [e,h.mt _ (by omega),hm.inv _ (by omega)]
     exact ⟨fun e=>i2 (by simpa using e),fun e=>i1 (by simpa using e)⟩
   | @join z _ ih=>
     obtain ⟨r,i1,i2⟩:=ih
     refine ⟨hi.jr z r,?_⟩
     unfold InR at r
     have e:(st3 s z).toNat=jS s z.toNat:=by unfold jS;rw [show ((z.toNat:Nat):Int)=z by omega]
     rw [e,h.jn _ (by omega)]
     refine ⟨fun e=>?_,fun e=>?_⟩
     ·have cz:σ z.toNat=false:=by simpa using e
      have g:=i2 cz
      refine g.trans ⟨1,?_⟩
      simp only [Sp.itn]
      unfold pF
      rw [h.mt _ (by omega),cz,if_pos (by rfl),hm.inv _ (by omega)]
     ·have cz:σ z.toNat=true:=by simpa using e
      have lj:jS s z.toNat<4*n:=ylj (by omega)
      refine (i1 cz).trans (Sp.SC.symm hP (hm.lt _ lj) ⟨1,?_⟩)
      simp only [Sp.itn]
      unfold pF
      rw [h.mt _ lj,h.jn _ (by omega),cz,if_pos (by rfl),hm.inv _ lj,yon]
  have:=(key y hc).2.1
  simp only [Int.toNat_natCast] at this
  exact this cy
theorem ytx (hp:PmOk m n) (h:Flp m n σ s) {l:List Nat} (hl:Sp.Tr (4*n) (fun x=>σ x=true) (Sp.SC (pF m σ s)) l):l.length=cir3 m n s:=by
 have hD:=yhf hp
 have hm:=hD.mat
 have hP:=ygx hp h
 have hi:=ygp hp.ok hp.inv hp.ne s
 have hR:=yj8 hp s
 unfold cir3
 generalize crN (fun x=>m.getD x.toNat 0) (st3 s) (4*n) (4*n)=R at*
 have cm: ∀z,z<4*n->m.getD z 0=(Sp.alD m z:Nat):=fun z hz=>(hD.cast hz).symm
 obtain ⟨u,hu⟩: ∃u:Nat->Nat,u=fun r=>if σ r then r else Sp.alD m r:=⟨_,rfl⟩
 have u1: ∀r,r<4*n->u r<4*n/\σ (u r)=true/\Cir (fun x=>m.getD x.toNat 0) (st3 s) r (u r):=fun r hr=>by
  rw [hu]
  by_cases e:σ r=true
  ·simp only [if_pos e];exact ⟨hr,e, .refl _⟩
  ·simp only [if_neg e]
   refine ⟨hm.lt r hr,by rw [h.mt r hr];simpa using e,?_⟩
   have:=Cir.mate (mt:=fun x=>m.getD x.toNat 0) (jn:=st3 s) (Cir.refl (r:Int))
   simp only [Int.toNat_natCast] at this
   rw [cm r hr] at this;exact this
 have hlen:=hR.rep.len
 have sy: ∀{a b:Nat},a<4*n->Cir (fun x=>m.getD x.toNat 0) (st3 s) a b->Cir (fun x=>m.getD x.toNat 0) (st3 s) b a:=fun ha e=>e.symm hi (by unfold InR;omega)
 have hf: ∀r,r∈(List.range (4*n)).filter (fun x=>R.getD x 0==(x:Int))↔r<4*n/\R.getD r 0=r:=fun r=>by simp [List.mem_filter]
 have uj: ∀a b,a<4*n->b<4*n->R.getD a 0=a->R.getD b 0=b->Cir (fun x=>m.getD x.toNat 0) (st3 s) (u a) (u b)->a=b:=fun a b ha hb ea eb e=>by
  have q:=(hR.iff a b ha hb).2 (((u1 a ha).2.2.trans e).trans (sy hb (u1 b hb).2.2))
  omega
 have hT:Sp.Tr (4*n) (fun x=>σ x=true) (Sp.SC (pF m σ s)) (((List.range (4*n)).filter (fun x=>R.getD x 0==(x:Int))).map u):=by
  refine ⟨fun x hx=>?_,?_,fun x hx y hy e=>?_,fun x hx cx=>?_⟩
  ·obtain ⟨r,hr,rfl⟩:=List.mem_map.1 hx
   have:=u1 r ((hf r).1 hr).1
   exact ⟨this.1,this.2.1⟩
  ·refine ye8 (fun a ha b hb e=>?_) (List.nodup_range.filter _)
   have ha':=(hf a).1 ha
   have hb':=(hf b).1 hb
   exact uj a b ha'.1 hb'.1 ha'.2 hb'.2 (by rw [e];exact .refl _)
  ·obtain ⟨a,ha,rfl⟩:=List.mem_map.1 hx
   obtain ⟨b,hb,rfl⟩:=List.mem_map.1 hy
   have ha':=(hf a).1 ha
   have hb':=(hf b).1 hb
   have ua:=u1 a ha'.1
   have ub:=u1 b hb'.1
   rw [uj a b ha'.1 hb'.1 ha'.2 hb'.2 ((y5v hp h ua.1 ub.1 ua.2.1).1 e).1]
  ·have rr:=hR.rep.rng x hx
   have ri:=hR.rep.idem x hx
   obtain ⟨r,hr⟩: ∃r:Nat,R.getD x 0=r:=⟨(R.getD x 0).toNat,by omega⟩
   rw [hr,Int.toNat_natCast] at ri
   have rl:r<4*n:=by omega
   have ur:=u1 r rl
   refine ⟨u r,List.mem_map.2 ⟨r,(hf r).2 ⟨rl,ri⟩,rfl⟩,(y5v hp h hx ur.1 cx).2 ⟨?_,ur.2.1⟩⟩
   exact ((hR.iff x r hx rl).1 (by rw [hr,ri])).trans ur.2.2
 rw [hl.len_eq (Sp.SC.eqv hP) hT,List.length_map]
 unfold roots
 rw [hlen,List.countP_eq_length_filter]
end
section
variable {s m:List Int} {L:Int}
theorem y82 (hv:yah s m L=true) (q:Nat->Nat) (hq: ∀c,c<s.length->q c=2\/q c=nb01 (s.getD c 0== -1)):Flp m s.length (fun x=>outB s (x:Int)) q:=by
 have v:=ya8 hv
 have hD:=yhf (pmOk hv)
 refine ⟨fun x hx=>?_,fun x hx=>?_⟩
 ·have:=(v.mt x hx).2.2.2.2
  rw [hD.cast hx]
  revert this
  cases outB s (m.getD x 0)<;>cases outB s (x:Int)<;>simp
 ·have hc:x/4<s.length:=by omega
  rw [ydm]
  unfold st3
  rw [show ((x:Int)/4).toNat=x/4 by omega]
  have e:x=4*(x/4)\/x=4*(x/4)+1\/x=4*(x/4)+2\/x=4*(x/4)+3:=by omega
  rcases hq _ hc with h|h<;>rw [h]
  ·have hsg:=v.sg (x/4) hc
   generalize x/4=c at*
   obtain ⟨_,_,_,_,_,_,_,_,v9,v10,v11,v12⟩:=yem (c:Int)
   have ov:=yol s c
   rcases e with rfl|rfl|rfl|rfl
   ·rw [show ((4*c:Nat):Int)=4*(c:Int) by omega,v9,show (4*(c:Int)+2)=((4*c+2:Nat):Int) by omega,show (4*(c:Int))=((4*c:Nat):Int) by omega,ov.1,ov.2.2.1];rfl
   ·rw [show ((4*c+1:Nat):Int)=4*(c:Int)+1 by omega,v10,show (4*(c:Int)+3)=((4*c+3:Nat):Int) by omega,show (4*(c:Int)+1)=((4*c+1:Nat):Int) by omega,ov.2.1,ov.2.2.2]
    rcases hsg with e|e<;>rw [e]<;>rfl
   ·rw [show ((4*c+2:Nat):Int)=4*(c:Int)+2 by omega,v11,show (4*(c:Int)+2)=((4*c+2:Nat):Int) by omega,show (4*(c:Int))=((4*c:Nat):Int) by omega,ov.1,ov.2.2.1];rfl
   ·rw [show ((4*c+3:Nat):Int)=4*(c:Int)+3 by omega,v12,show (4*(c:Int)+3)=((4*c+3:Nat):Int) by omega,show (4*(c:Int)+1)=((4*c+1:Nat):Int) by omega,ov.2.1,ov.2.2.2]
    rcases hsg with e|e<;>rw [e]<;>rfl
  ·have:=Sp.jnB_out (s:=s) (c:=x/4) (x:=(x:Int)) (v.sg _ hc) (by omega)
   rw [←this]
   unfold nb01
   cases (s.getD (x/4) 0== -1)<;>rfl
def oS (s:List Int) (x:Nat):Int:=if outB s (x:Int) then 1 else-1
theorem chess (hv:yah s m L=true): ∃σ:Nat->Bool,∀q:Nat->Nat,(∀c,c<s.length->q c<2)->Flp m s.length σ q:=by
 have v:=ya8 hv
 have hp:=pmOk hv
 obtain ⟨hd,hsp⟩:=Sp.dia_of hv
 have hS:=hd.sph.1 hsp
 have hf:=y82 hv (fun _=>2) fun _ _=> .inl rfl
 obtain ⟨g,hg⟩:=hS.pot (oS s) (fun x _=>by unfold oS;by_cases e:outB s (x:Int)=true<;>simp [e]) (fun x hx=>by
  have:=hf.mt x hx
  unfold oS
  rw [show outB s ((Sp.alD m x:Nat):Int)= !outB s (x:Int) from this]
  cases outB s (x:Int)<;>rfl) (fun c hc=>by
  have ov:=yol s c
  have hsg:=v.sg c hc
  unfold oS
  simp only [ov.1,ov.2.1,ov.2.2.1,ov.2.2.2]
  rcases hsg with e|e<;>rw [e]<;>exact ⟨rfl,rfl⟩)
 have ov: ∀x,oS s x=1\/oS s x= -1:=fun x=>by unfold oS;by_cases e:outB s (x:Int)=true<;>simp [e]
 have c1: ∀x,x<4*s.length->(g (Sp.alD m x)% 2=0↔ ¬g x % 2=0):=fun x hx=>by
  have:=hg.edge x hx
  have:=ov x
  omega
 have c2: ∀x,x<4*s.length->(g (Sp.siD x)% 2=0↔ ¬g x % 2=0):=fun x hx=>by
  have h1:=hg.face _ (hd.mat.lt x hx)
  rw [hd.mat.inv x hx] at h1
  rw [h1];exact c1 x hx
 refine ⟨fun x=>decide (g x % 2=0),fun q hq=>⟨fun x hx=>?_,fun x hx=>?_⟩⟩
 ·have:=c1 x hx
  simp only [this]
  by_cases e:g x % 2=0<;>simp [e]
 ·have hc:x/4<s.length:=by omega
  have hj:=ydm q x
  unfold st3 at hj
  rw [show ((x:Int)/4).toNat=x/4 by omega] at hj
  have hq2:=hq _ hc
  have e:x=4*(x/4)\/x=4*(x/4)+1\/x=4*(x/4)+2\/x=4*(x/4)+3:=by omega
  generalize x/4=c at*
  have d0:=c2 (4*c) (by omega)
  have d1:=c2 (4*c+1) (by omega)
  have d2:=c2 (4*c+2) (by omega)
  have d3:=c2 (4*c+3) (by omega)
  rw [show Sp.siD (4*c)=4*c+3 by unfold Sp.siD;omega] at d0
  rw [show Sp.siD (4*c+1)=4*c by unfold Sp.siD;omega] at d1
  rw [show Sp.siD (4*c+2)=4*c+1 by unfold Sp.siD;omega] at d2
  rw [show Sp.siD (4*c+3)=4*c+2 by unfold Sp.siD;omega] at d3
  obtain ⟨v1,v2,v3,v4,v5,v6,v7,v8,_⟩:=yem (c:Int)
  have key: ∀y,(jS q x=y)->(g y % 2=0↔ ¬g x % 2=0)->decide (g (jS q x)% 2=0)= !decide (g x % 2=0):=fun y hy h=>by
   rw [hy]
   by_cases e:g x % 2=0
   ·rw [decide_eq_true e,decide_eq_false fun h'=>h.1 h' e];rfl
   ·rw [decide_eq_false e,decide_eq_true (h.2 e)];rfl
  have q01:q c=0\/q c=1:=by omega
  rcases q01 with h|h<;>rw [h] at hj<;>rcases e with rfl|rfl|rfl|rfl
  ·rw [show ((4*c:Nat):Int)=4*(c:Int) by omega,v1] at hj;exact key (4*c+1) (by omega) (by omega)
  ·rw [show ((4*c+1:Nat):Int)=4*(c:Int)+1 by omega,v2] at hj;exact key (4*c) (by omega) (by omega)
  ·rw [show ((4*c+2:Nat):Int)=4*(c:Int)+2 by omega,v3] at hj;exact key (4*c+3) (by omega) (by omega)
  ·rw [show ((4*c+3:Nat):Int)=4*(c:Int)+3 by omega,v4] at hj;exact key (4*c+2) (by omega) (by omega)
  ·rw [show ((4*c:Nat):Int)=4*(c:Int) by omega,v5] at hj;exact key (4*c+3) (by omega) (by omega)
  ·rw [show ((4*c+1:Nat):Int)=4*(c:Int)+1 by omega,v6] at hj;exact key (4*c+2) (by omega) (by omega)
  ·rw [show ((4*c+2:Nat):Int)=4*(c:Int)+2 by omega,v7] at hj;exact key (4*c+1) (by omega) (by omega)
  ·rw [show ((4*c+3:Nat):Int)=4*(c:Int)+3 by omega,v8] at hj;exact key (4*c) (by omega) (by omega)
end
end Go.Proofs.YtmdjdekgakidhaaGreatDoor
