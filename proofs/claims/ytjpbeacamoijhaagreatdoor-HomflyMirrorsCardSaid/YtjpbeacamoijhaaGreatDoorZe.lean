/- Plain: sums over a range; the numbers of circles of neighbouring states. -/
import Derived.Test.YtjpbeacamoijhaaGreatDoorZd
import Derived.Test.YtjpbeacamoijhaaGreatDoorZc
import Derived.Test.YtjpbeacamoijhaaGreatDoorZb
namespace Go.Proofs.YtjpbeacamoijhaaGreatDoor
set_option linter.unusedSimpArgs false
set_option linter.unusedVariables false
def sm (f:Nat->Int):Nat->Int
 |0=>0
 |n+1=>sm f n+f n
inductive iu (mt jn:Int->Int) (c:Int):Int->Int->Prop
 |refl (x:Int):iu mt jn c x x
 |mate {x y:Int} (h:iu mt jn c x y):iu mt jn c x (mt y)
 |join {x y:Int} (h:iu mt jn c x y) (hy:y/4≠c):iu mt jn c x (jn y)
 |any {x y z:Int} (h:iu mt jn c x y) (hy:y/4=c) (hz:z/4=c):iu mt jn c x z
theorem iu.trans {mt jn:Int->Int} {c x y z:Int} (h1:iu mt jn c x y) (h2:iu mt jn c y z):iu mt jn c x z:=by
 induction h2 with
 |refl=>exact h1
 |mate _ ih=>exact .mate ih
 |join _ hy ih=>exact .join ih hy
 |any _ hy hz ih=>exact .any ih hy hz
structure Way (n:Nat) (mt jn:Int->Int) (c:Nat) (x e:Int) (O:Int->Prop):Prop where
 inX:O x
 inE:O e
 ne:e≠x
 eC:e/4=c
 ends: ∀y,O y->y/4=c->y=x\/y=e
 mate: ∀y,O y->O (mt y)
 join: ∀y,O y->y/4≠c->O (jn y)
 iV: ∀y,O y->aA n y
section
variable {n:Nat} {mt jn:Int->Int} {c:Nat}
def Ko (jn:Int->Int):Prop:= ∀x,jn x/4=x/4
theorem Vv (hi:Inv2 n mt jn) (hj:Ko jn) {x:Int} (hx:aA n x) (tX:x/4=c): ∃e O,Way n mt jn c x e O/\ ∀kn:Int->Int,(∀y:Int,0<=y->y/4≠c->kn y=jn y)-> ∀y,O y->bH mt kn x y:=by
 have hR: ∀j,aA n (it (fun x=>jn (mt x)) j x):=fun j=>(z6 hi).it hx j;obtain ⟨k,hk,uS⟩:=(z6 hi).JC hx;have yz:=uS.pos;have xc:=uS.back;have ex: ∃j,mt (it (fun x=>jn (mt x)) j x)/4=c:=by
  refine ⟨k-1,?_⟩;have e:it (fun x=>jn (mt x)) ((k-1)+1) x=x:=by rw [show k-1+1=k by omega];exact xc
  have e2:jn (mt (it (fun x=>jn (mt x)) (k-1) x))=x:=e;rw [←hj,e2,tX]
 have Ia: ∀b,(∃j,j<=b/\mt (it (fun x=>jn (mt x)) j x)/4=c)-> ∃j,mt (it (fun x=>jn (mt x)) j x)/4=c/\ ∀i,i<j->mt (it (fun x=>jn (mt x)) i x)/4≠c:=by
  intro b
  induction b with
  |zero=>rintro ⟨j,hj,h⟩;obtain rfl:j=0:=by omega
         exact ⟨0,h,fun i hi=>by omega⟩
  |succ b ih=>
   rintro ⟨j,hj,h⟩;by_cases hq: ∃j,j<=b/\mt (it (fun x=>jn (mt x)) j x)/4=c
   ·exact ih hq
   ·refine ⟨j,h,fun i hi hc=>hq ⟨i,by omega,hc⟩⟩
 obtain ⟨j0,h0⟩:=ex;obtain ⟨j,mW,mV⟩:=Ia j0 ⟨j0,Nat.le_refl _,h0⟩;have succ: ∀i,it (fun x=>jn (mt x)) (i+1) x=jn (mt (it (fun x=>jn (mt x)) i x)):=fun i=>rfl;have off: ∀i,0<i->i<=j->it (fun x=>jn (mt x)) i x/4≠c:=fun i h1 h2=>by
  obtain ⟨i,rfl⟩: ∃i',i=i'+1:=⟨i-1,by omega⟩;rw [succ,hj];exact mV i (by omega)
 refine ⟨mt (it (fun x=>jn (mt x)) j x),fun y=> ∃i,i<=j/\(y=it (fun x=>jn (mt x)) i x\/y=mt (it (fun x=>jn (mt x)) i x)),⟨⟨0,by omega, .inl rfl⟩,⟨j,Nat.le_refl _, .inr rfl⟩,?_,mW,?_,?_,?_,?_⟩,?_⟩
 ·exact fun e=>(Sj hi hx j 0 j (by omega)).2 e.symm
 ·rintro y ⟨i,ke,rfl|rfl⟩ yq
  ·by_cases uV:i=0
   ·subst uV;exact .inl rfl
   ·exact absurd yq (off i (by omega) ke)
  ·by_cases uV:i=j
   ·subst uV;exact .inr rfl
   ·exact absurd yq (mV i (by omega))
 ·rintro y ⟨i,ke,rfl|rfl⟩
  ·exact ⟨i,ke, .inr rfl⟩
  ·exact ⟨i,ke, .inl (hi.mm _ (hR i))⟩
 ·rintro y ⟨i,ke,rfl|rfl⟩ yq
  ·by_cases uV:i=0
   ·subst uV;exact absurd tX yq
   ·obtain ⟨i,rfl⟩: ∃i',i=i'+1:=⟨i-1,by omega⟩;exact ⟨i,by omega, .inr (by rw [succ,hi.jj _ (hi.mr _ (hR i))])⟩
  ·by_cases uV:i=j
   ·subst uV;exact absurd mW yq
   ·exact ⟨i+1,by omega, .inl rfl⟩
 ·rintro y ⟨i,ke,rfl|rfl⟩
  ·exact hR i
  ·exact hi.mr _ (hR i)
 ·intro kn B7 y hy;have hc: ∀i,i<=j->bH mt kn x (it (fun x=>jn (mt x)) i x):=by
   intro i
   induction i with
   |zero=>intro _;exact .refl _
   |succ i ih=>
    intro ke;rw [succ,←B7 _ (by have:=hi.mr _ (hR i);unfold aA at this;exact this.1) (mV i (by omega))];exact .join (.mate (ih (by omega)))
  obtain ⟨i,ke,rfl|rfl⟩:=hy
  ·exact hc i ke
  ·exact .mate (hc i ke)
theorem Sb (hi:Inv2 n mt jn) (hj:Ko jn) {R:List Int} (hR:l7 n mt jn R) {x y:Nat} (hx:x<4*n) (hy:y<4*n) (tX:x/4=c) (yq:y/4=c)
  (cg: ∀z:Int,z/4=c->z=x\/z=jn x\/z=y\/z=jn y):
  l6 (iF R x y) (4*n)/\ ∀a b:Nat,a<4*n->b<4*n->((iF R x y).getD a 0=(iF R x y).getD b 0↔iu mt jn c a b):=by
 have hl:=hR.rep.len;have ir: ∀x:Nat,x<4*n->aA n (x:Int):=fun x hx=>by unfold aA;omega
 have Dv: ∀{a b:Int},bH mt jn a b->iu mt jn c a b:=fun h=>by
  induction h with
  |refl=>exact .refl _
  |mate _ ih=>exact .mate ih
  | @join z _ ih=>
    by_cases hz:z/4=c
    ·exact .any ih hz (by rw [hj];exact hz)
    ·exact .join ih hz
 have xy:iu mt jn c x y:= .any (.refl _) (by omega) (by omega);have yx:iu mt jn c y x:= .any (.refl _) (by omega) (by omega);refine ⟨I9 hR.rep hx hy,fun a b ha hb=>⟨fun e=>?_,fun h=>?_⟩⟩
 ·rw [tO hl ha,tO hl hb] at e;by_cases c1:R.getD a 0=R.getD x 0
  ·rw [if_pos c1] at e;by_cases c2:R.getD b 0=R.getD x 0
   ·exact Dv ((hR.iff a b ha hb).1 (c1.trans c2.symm))
   ·rw [if_neg c2] at e;exact ((Dv ((hR.iff a x ha hx).1 c1)).trans xy).trans (Dv ((hR.iff y b hy hb).1 e))
  ·rw [if_neg c1] at e;by_cases c2:R.getD b 0=R.getD x 0
   ·rw [if_pos c2] at e;exact ((Dv ((hR.iff a y ha hy).1 e)).trans yx).trans (Dv ((hR.iff x b hx hb).1 c2.symm))
   ·rw [if_neg c2] at e;exact Dv ((hR.iff a b ha hb).1 e)
 ·have cx:(iF R x y).getD x 0=(iF R x y).getD y 0:=Jj hl hx hy;have Jz: ∀u v:Nat,u<4*n->v<4*n->bH mt jn u v->(iF R x y).getD u 0=(iF R x y).getD v 0:=fun u v hu hv h=>Bl hl hu hv ((hR.iff u v hu hv).2 h);have jx:=hi.jr _ (ir x hx);have jy:=hi.jr _ (ir y hy);have four: ∀z:Nat,z<4*n->z/4=c->(iF R x y).getD z 0=(iF R x y).getD x 0:=fun z hz hzc=>by
   rcases cg z (by omega) with h|h|h|h
   ·rw [show z=x by omega]
   ·exact (Jz x z hx hz (by rw [h];exact .join (.refl _))).symm
   ·rw [show z=y by omega];exact cx.symm
   ·rw [cx];exact (Jz y z hy hz (by rw [h];exact .join (.refl _))).symm
  have key: ∀z,iu mt jn c a z->aA n z->aA n z/\(iF R x y).getD z.toNat 0=(iF R x y).getD a 0:=by
   intro z hz
   induction hz with
   |refl=>exact fun h=>⟨h,by rw [Int.toNat_natCast]⟩
   | @mate u h ih=>
     intro hr;have hu:aA n u:=by
      have: ∀w,iu mt jn c a w->aA n w:=fun w hw=>by
       induction hw with
       |refl=>exact ir a ha
       |mate _ tW=>exact hi.mr _ tW
       |join _ _ tW=>exact hi.jr _ tW
       |any h Aw yp tW=>unfold aA at*;omega
      exact this u h
     obtain ⟨_,e⟩:=ih hu;refine ⟨hr,?_⟩;unfold aA at hu hr;rw [←e];exact (Jz u.toNat (mt u).toNat (by omega) (by omega) (by rw [show ((u.toNat:Nat):Int)=u by omega,show (((mt u).toNat:Nat):Int)=mt u by omega];exact .mate (.refl _))).symm
   | @join u h hu4 ih=>
     intro hr;have hu:aA n u:=by
      have: ∀w,iu mt jn c a w->aA n w:=fun w hw=>by
       induction hw with
       |refl=>exact ir a ha
       |mate _ tW=>exact hi.mr _ tW
       |join _ _ tW=>exact hi.jr _ tW
       |any h Aw yp tW=>unfold aA at*;omega
      exact this u h
     obtain ⟨_,e⟩:=ih hu;refine ⟨hr,?_⟩;unfold aA at hu hr;rw [←e];exact (Jz u.toNat (jn u).toNat (by omega) (by omega) (by rw [show ((u.toNat:Nat):Int)=u by omega,show (((jn u).toNat:Nat):Int)=jn u by omega];exact .join (.refl _))).symm
   | @any u v h hu4 hv4 ih=>
     intro hr;have hu:aA n u:=by unfold aA;omega
     obtain ⟨_,e⟩:=ih hu;refine ⟨hr,?_⟩;unfold aA at hu hr;rw [←e,four v.toNat (by omega) (by omega),four u.toNat (by omega) (by omega)]
  have:=(key b h (ir b hb)).2
  rw [Int.toNat_natCast] at this;exact this.symm
end
def pr3:Nat->Int->Int
 |0,x=>aF false x
 |1,x=>aF true x
 |_,x=>x-x % 4+(x % 4+2)% 4
theorem y4f (c:Int):pr3 0 (4*c)=4*c+1/\pr3 0 (4*c+1)=4*c/\pr3 0 (4*c+2)=4*c+3/\pr3 0 (4*c+3)=4*c+2/\
  pr3 1 (4*c)=4*c+3/\pr3 1 (4*c+1)=4*c+2/\pr3 1 (4*c+2)=4*c+1/\pr3 1 (4*c+3)=4*c/\
  pr3 2 (4*c)=4*c+2/\pr3 2 (4*c+1)=4*c+3/\pr3 2 (4*c+2)=4*c/\pr3 2 (4*c+3)=4*c+1:=by
 have o: ∀x:Int,x % 2=1->aF true x=x-x % 4+(x % 4+5)% 4/\aF false x=x-x % 4+(x % 4+3)% 4:=fun x h=>by
  unfold aF;rw [tK,sH,decide_eq_true h];exact ⟨if_pos rfl,if_neg (by simp)⟩
 have e: ∀x:Int,¬x % 2=1->aF true x=x-x % 4+(x % 4+3)% 4/\aF false x=x-x % 4+(x % 4+5)% 4:=fun x h=>by
  unfold aF;rw [tK,sH,decide_eq_false h];exact ⟨if_neg (by simp),if_pos rfl⟩
 simp only [pr3];rw [(e _ (by omega)).1,(o _ (by omega)).1,(e _ (by omega)).1,(o _ (by omega)).1,(e _ (by omega)).2,(o _ (by omega)).2,(e _ (by omega)).2,(o _ (by omega)).2];omega
theorem QB (t:Nat) (x:Int):pr3 t x/4=x/4:=by
 unfold pr3
 split
 ·exact qc _ _
 ·exact qc _ _
 ·omega
theorem QA: ∀(t:Nat) (x:Int),pr3 t (pr3 t x)=x
 |0,x=>uC _ _
 |1,x=>uC _ _
 |t+2,x=>by simp only [pr3];omega
theorem Zw (t:Nat) (x:Int):pr3 t x≠x:=by
 unfold pr3
 split
 ·exact KZ _ _
 ·exact KZ _ _
 ·omega
def tS (s:Nat->Nat) (x:Int):Int:=pr3 (s (x/4).toNat) x
theorem Qz {n:Nat} {m:List Int} (hp:pf m n) (wQ: ∀x:Nat,x<4*n->m.getD (m.getD x 0).toNat 0=x) (wS: ∀x:Nat,x<4*n->m.getD x 0≠x) (s:Nat->Nat):Inv2 n (fun x=>m.getD x.toNat 0) (tS s):=by
 have h:=Dg hp wQ wS (fun _=>false);refine ⟨h.mr,fun x hx=>?_,h.mm,fun x hx=>?_,h.mf,fun x _=>Zw _ _⟩
 ·have:=QB (s (x/4).toNat) x
  unfold aA tS at*;omega
 ·unfold tS;rw [QB,QA]
def G7 (m:List Int) (n:Nat) (s:Nat->Nat):Nat:=roots (crN (fun x=>m.getD x.toNat 0) (tS s) (4*n) (4*n))
theorem y4g {n:Nat} {mt:Int->Int} {j:Nat->Int->Int} {c:Nat} (hc:c<n) (hi: ∀t,t<3->Inv2 n mt (j t)) (hj: ∀t,t<3->Ko (j t)) (xd: ∀t,t<3-> ∀x:Int,x/4=c->j t x=pr3 t x) (ou: ∀t,t<3-> ∀x:Int,0<=x->x/4≠c->j t x=j 0 x)
  {R:Nat->List Int} (hR: ∀t,t<3->l7 n mt (j t) (R t)): ∃K t0,t0<3/\(∀t,t<3->roots (R t)=if t=t0 then K+1 else K)/\ ∀t,t<3->t≠t0-> ∀y:Nat,y<4*n->y/4=c->(R t).getD (4*c) 0=(R t).getD y 0:=by
 obtain ⟨e,O,hw,wK⟩:=Vv (c:=c) (hi 0 (by omega)) (hj 0 (by omega)) (x:=4*c) (by unfold aA;omega) (by omega);have V:=y4f c;have eC:=hw.eC;have eN:=hw.ne;have eR:=hw.iV e hw.inE;obtain ⟨t0,yr,JN⟩: ∃t0,t0<3/\pr3 t0 (4*c)=e:=by
  rcases (show e=4*c+1\/e=4*c+2\/e=4*c+3 by omega) with h|h|h
  ·exact ⟨0,by omega,by omega⟩
  ·exact ⟨2,by omega,by omega⟩
  ·exact ⟨1,by omega,by omega⟩
 have Cw: ∀t,t<3-> ∀y:Int,y/4=c->y≠4*c->y≠j t (4*c)-> ∀z:Int,z/4=c->z=4*c\/z=j t (4*c)\/z=y\/z=j t y:=fun t ht y hy h1 h2 z hz=>by
  rw [xd t ht _ (by omega)] at h2⊢;rw [xd t ht y hy];rcases (show y=4*c+1\/y=4*c+2\/y=4*c+3 by omega) with rfl|rfl|rfl<;>
  rcases (show z=4*c\/z=4*c+1\/z=4*c+2\/z=4*c+3 by omega) with rfl|rfl|rfl|rfl<;>
  rcases (show t=0\/t=1\/t=2 by omega) with rfl|rfl|rfl<;>omega
 have Fl: ∀t,t<3-> ∀a b,aA n a->iu mt (j t) c a b->aA n b:=fun t ht a b ha h=>by
  induction h with
  |refl=>exact ha
  |mate _ ih=>exact (hi t ht).mr _ ih
  |join _ _ ih=>exact (hi t ht).jr _ ih
  |any _ hy hz ih=>unfold aA at*;omega
 have AU: ∀t,t<3-> ∀a b,aA n a->(iu mt (j t) c a b↔iu mt (j 0) c a b):=fun t ht a b ha=>by
  constructor
  ·intro h
   induction h with
   |refl=>exact .refl _
   |mate _ ih=>exact .mate ih
   |join h hy ih=>rw [ou t ht _ (Fl t ht _ _ ha h).1 hy];exact .join ih hy
   |any _ hy hz ih=>exact .any ih hy hz
  ·intro h
   induction h with
   |refl=>exact .refl _
   |mate _ ih=>exact .mate ih
   |join h hy ih=>rw [←ou t ht _ (Fl 0 (by omega) _ _ ha h).1 hy];exact .join ih hy
   |any _ hy hz ih=>exact .any ih hy hz
 have J: ∀t,t<3-> ∃y:Nat,y<4*n/\y/4=c/\(y:Int)≠4*c/\(y:Int)≠j t (4*c)/\(t≠t0->(y:Int)=e):=fun t ht=>by
  by_cases h:t=t0
  ·subst h;have h1:=xd t ht (4*c) (by omega);by_cases h2:j t (4*c)=4*c+1
   ·exact ⟨4*c+2,by omega,by omega,by omega,by omega,fun h=>absurd rfl h⟩
   ·exact ⟨4*c+1,by omega,by omega,by omega,by omega,fun h=>absurd rfl h⟩
  ·unfold aA at eR;refine ⟨e.toNat,by omega,by omega,by omega,?_,fun _=>by omega⟩;rw [xd t ht _ (by omega),show ((e.toNat:Nat):Int)=e by omega,←JN];rcases (show t=0\/t=1\/t=2 by omega) with rfl|rfl|rfl<;>
   rcases (show t0=0\/t0=1\/t0=2 by omega) with rfl|rfl|rfl<;>omega
 have BG:4*c<4*n:=by omega
 have pQ:((4*c:Nat):Int)=4*(c:Int):=by omega
 obtain ⟨y0,FO,hy1,JJ,Nv,hy4⟩:=J t0 yr;obtain ⟨K,hK⟩: ∃K,roots (iF (R t0) (4*c) y0)=K:=⟨_,rfl⟩;have same: ∀t,t<3-> ∀y:Nat,y<4*n->y/4=c->(y:Int)≠4*c->(y:Int)≠j t (4*c)->roots (iF (R t) (4*c) y)=K:=fun t ht y h1 h2 h3 h4=>by
  rw [←hK];have A:=Sb (c:=c) (hi t ht) (hj t ht) (hR t ht) (x:=4*c) BG h1 (by omega) h2 (by rw [pQ];exact Cw t ht y (by omega) h3 h4);have B:=Sb (c:=c) (hi t0 yr) (hj t0 yr) (hR t0 yr) (x:=4*c) BG FO (by omega) hy1 (by rw [pQ];exact Cw t0 yr y0 (by omega) JJ Nv)
  have AB: ∀a b:Nat,a<4*n->b<4*n->((iF (R t) (4*c) y).getD a 0=(iF (R t) (4*c) y).getD b 0↔(iF (R t0) (4*c) y0).getD a 0=(iF (R t0) (4*c) y0).getD b 0):=fun a b ha hb=>by
   have ia:aA n (a:Int):=by unfold aA;omega
   rw [A.2 a b ha hb,B.2 a b ha hb,AU t ht _ _ ia,AU t0 yr _ _ ia]
  exact Nat.le_antisymm (IQ B.1 A.1 fun a b ha hb=>(AB a b ha hb).symm) (IQ A.1 B.1 AB)
 have on: ∀t,t<3->t≠t0-> ∀y:Nat,y<4*n->y/4=c->(R t).getD (4*c) 0=(R t).getD y 0:=fun t ht h y hy yq=>by
  obtain ⟨w,h1,h2,h3,h4,h5⟩:=J t ht;have e0:(R t).getD (4*c) 0=(R t).getD w 0:=((hR t ht).iff _ _ BG h1).2 (by
   rw [pQ,h5 h];exact wK (j t) (fun z h0 hz=>ou t ht z h0 hz) e hw.inE)
  rcases Cw t ht w (by omega) h3 h4 y (by omega) with h6|h6|h6|h6
  ·rw [show y=4*c by omega]
  ·exact ((hR t ht).iff _ _ BG hy).2 (by rw [pQ,h6];exact .join (.refl _))
  ·rw [e0,show y=w by omega]
  ·rw [e0];exact ((hR t ht).iff _ _ h1 hy).2 (by rw [h6];exact .join (.refl _))
 refine ⟨K,t0,yr,fun t ht=>?_,on⟩;by_cases h:t=t0
 ·rw [if_pos h];subst h;rw [←hK];refine YK (hR t ht).rep BG FO fun e1=>?_;have Cl:=((hR t ht).iff _ _ BG FO).1 e1;rw [pQ] at Cl;have inO: ∀z,bH mt (j t) (4*c) z->O z:=fun z hz=>by
   induction hz with
   |refl=>exact hw.inX
   |mate _ ih=>exact hw.mate _ ih
   | @join u _ ih=>
     by_cases hu:u/4=c
     ·rw [xd t ht u hu];rcases hw.ends u ih hu with rfl|rfl
      ·rw [JN];exact hw.inE
      ·rw [←JN,QA];exact hw.inX
     ·rw [ou t ht u (hw.iV u ih).1 hu];exact hw.join u ih hu
  rcases hw.ends _ (inO _ Cl) (by omega) with h5|h5
  ·exact JJ h5
  ·rw [xd t ht _ (by omega),JN] at Nv;exact Nv h5
 ·rw [if_neg h];obtain ⟨y,h1,h2,h3,h4,h5⟩:=J t ht;rw [←same t ht y h1 h2 h3 h4]
  have:(R t).getD (4*c) 0=(R t).getD y 0:=((hR t ht).iff _ _ BG h1).2 (by
   rw [pQ,h5 h];exact wK (j t) (fun z h0 hz=>ou t ht z h0 hz) e hw.inE)
  unfold iF;rw [if_pos this]
theorem y5n {n:Nat} {mt:Int->Int} {j:Nat->Int->Int} {c:Nat} (hc:c<n) (hi: ∀t,t<3->Inv2 n mt (j t)) (hj: ∀t,t<3->Ko (j t)) (xd: ∀t,t<3-> ∀x:Int,x/4=c->j t x=pr3 t x) (ou: ∀t,t<3-> ∀x:Int,0<=x->x/4≠c->j t x=j 0 x)
  {R:Nat->List Int} (hR: ∀t,t<3->l7 n mt (j t) (R t)): ∃K t0,t0<3/\ ∀t,t<3->roots (R t)=if t=t0 then K+1 else K:=by
 obtain ⟨K,t0,h1,h2,_⟩:=y4g hc hi hj xd ou hR;exact ⟨K,t0,h1,h2⟩
section
variable {K:Nat} {c:Nat->Nat} {w:Nat->Int}
end
theorem gM.len {p:List (Int×Int)} (h:gM p): ∀{a b:Int},(∀t∈p,a<=t.1/\t.1<=b)->(p.length:Int)<=max 0 (b-a+1):=by
 induction p with
 |nil=>intro a b _;simp;omega
 |cons t p ih=>
  intro a b hb;have h1:=hb t (List.mem_cons_self ..)
  have:=ih h.tail (a:=t.1+1) (b:=b) fun u hu=>by
   have h2:=h.head u hu;have h3:=hb u (List.mem_cons_of_mem _ hu);omega
  simp only [List.length_cons];omega
end Go.Proofs.YtjpbeacamoijhaaGreatDoor
set_option linter.unusedSimpArgs false
set_option linter.unusedVariables false
namespace Go.Proofs.YtjpbeacamoijhaaGreatDoor
set_option maxRecDepth 100000
structure dL (p:List (Int×Int)) (f:Int->Int):Prop where
 asc:gM p
 cf: ∀e,cfL p e=f e
theorem dL.congr {p:List (Int×Int)} {f g:Int->Int} (h:dL p f) (e: ∀x,f x=g x):dL p g:=⟨h.asc,fun x=>(h.cf x).trans (e x)⟩
theorem dL.mem {p:List (Int×Int)} {f:Int->Int} (h:dL p f) {t:Int×Int} (ht:t∈p):t.2=f t.1/\f t.1≠0:=by
 have:=Er h.asc ht
 rw [h.cf] at this;exact ⟨this.symm,by rw [this];exact h.asc.nz t ht⟩
theorem dL.len {p:List (Int×Int)} {f:Int->Int} (h:dL p f) (hs: ∀e,f e≠0-> -1000<=e/\e<=1000):p.length<=2001:=by
 have:=h.asc.len (a:= -1000) (b:=1000) fun t ht=>hs _ (h.mem ht).2
 omega
end Go.Proofs.YtjpbeacamoijhaaGreatDoor
