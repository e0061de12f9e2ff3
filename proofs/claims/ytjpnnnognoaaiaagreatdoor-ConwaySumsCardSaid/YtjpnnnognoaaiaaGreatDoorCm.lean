/- Plain: two edges on different circles exchange their ends: the circles run together. -/
import Derived.Test.YtjpnnnognoaaiaaGreatDoorZr
namespace Go.Proofs.YtjpnnnognoaaiaaGreatDoor
set_option linter.unusedSimpArgs false
set_option linter.unusedVariables false
section
variable {n:Nat} {mt jn mt':Int->Int} {x y:Int}
def crs (mt:Int->Int) (x y z:Int):Int:=if z=x then mt y else if z=mt y then x else if z=y then mt x else if z=mt x then y else mt z
theorem yr7 (hi:Inv2 n mt jn) (hx:InR n x) (hy:InR n y) (h1:y≠x) (h2:y≠mt x):mt x≠x/\mt y≠y/\mt y≠x/\mt y≠mt x/\mt (mt x)=x/\mt (mt y)=y:=
 ⟨hi.mf x hx,hi.mf y hy,fun e=>h2 (by rw [←e,hi.mm y hy]),fun e=>h1 (by rw [←hi.mm y hy,e,hi.mm x hx]),hi.mm x hx,hi.mm y hy⟩
theorem yr8 (hi:Inv2 n mt jn) (hx:InR n x) (hy:InR n y) (h1:y≠x) (h2:y≠mt x):crs mt x y x=mt y/\crs mt x y (mt y)=x/\crs mt x y y=mt x/\crs mt x y (mt x)=y:=by
 obtain ⟨a1,a2,a3,a4,_,_⟩:=yr7 hi hx hy h1 h2
 refine ⟨by unfold crs;rw [if_pos rfl],by unfold crs;rw [if_neg a3,if_pos rfl],by unfold crs;rw [if_neg h1,if_neg (Ne.symm a2),if_pos rfl],by unfold crs;rw [if_neg a1,if_neg (Ne.symm a4),if_neg (Ne.symm h2),if_pos rfl]⟩
theorem ydv {z:Int} (h1:z≠x) (h2:z≠mt x) (h3:z≠y) (h4:z≠mt y):crs mt x y z=mt z:=by
 unfold crs;rw [if_neg h1,if_neg h4,if_neg h3,if_neg h2]
theorem yuq (hi:Inv2 n mt jn) (hx:InR n x) (hy:InR n y) (h1:y≠x) (h2:y≠mt x):Inv2 n (crs mt x y) jn:=by
 obtain ⟨a1,a2,a3,a4,a5,a6⟩:=yr7 hi hx hy h1 h2
 obtain ⟨c1,c2,c3,c4⟩:=yr8 hi hx hy h1 h2
 have cs: ∀z,InR n z->(z=x\/z=mt y\/z=y\/z=mt x)\/(crs mt x y z=mt z/\mt z≠x/\mt z≠mt x/\mt z≠y/\mt z≠mt y):=fun z hz=>by
  by_cases e1:z=x
  ·exact .inl (.inl e1)
  ·by_cases e2:z=mt y
   ·exact .inl (.inr (.inl e2))
   ·by_cases e3:z=y
    ·exact .inl (.inr (.inr (.inl e3)))
    ·by_cases e4:z=mt x
     ·exact .inl (.inr (.inr (.inr e4)))
     ·have i:=hi.mm z hz
      exact .inr ⟨ydv e1 e4 e3 e2,fun e=>e4 (by rw [←i,e]),fun e=>e1 (by rw [←i,e,a5]),fun e=>e2 (by rw [←i,e]),fun e=>e3 (by rw [←i,e,a6])⟩
 refine ⟨fun z hz=>?_,hi.jr,fun z hz=>?_,hi.jj,fun z hz=>?_,hi.jf⟩
 ·rcases cs z hz with (rfl|rfl|rfl|rfl)|⟨e,_⟩
  ·rw [c1];exact hi.mr _ hy
  ·rw [c2];exact hx
  ·rw [c3];exact hi.mr _ hx
  ·rw [c4];exact hy
  ·rw [e];exact hi.mr _ hz
 ·rcases cs z hz with (rfl|rfl|rfl|rfl)|⟨e,e1,e2,e3,e4⟩
  ·rw [c1,c2]
  ·rw [c2,c1]
  ·rw [c3,c4]
  ·rw [c4,c3]
  ·rw [e,ydv e1 e2 e3 e4];exact hi.mm z hz
 ·rcases cs z hz with (rfl|rfl|rfl|rfl)|⟨e,_⟩
  ·rw [c1];exact a3
  ·rw [c2];exact Ne.symm a3
  ·rw [c3];exact Ne.symm h2
  ·rw [c4];exact h2
  ·rw [e];exact hi.mf z hz
theorem y6t {u v:Int} (h: ∀z,Cir mt jn u z->mt' z=mt z) (hc:Cir mt jn u v):Cir mt' jn u v:=by
 induction hc with
 |refl=>exact .refl _
 | @mate z hz ih=>rw [←h z hz];exact .mate ih
 |join _ ih=>exact .join ih
theorem ykw (hi:Inv2 n mt jn) (hx:InR n x) (h: ∀z,Cir mt jn x z->z≠x->z≠mt x->mt' z=mt z) {z:Int} (hz:Cir mt jn x z):Cir mt' jn (mt x) z:=by
 obtain ⟨k,_,hk⟩:=(yd7 hi).per hx
 have hk0:=hk.pos
 have hc: ∀j,Cir mt jn x (it (fun x=>jn (mt x)) j x):=fun j=>by
  induction j with
  |zero=>exact .refl _
  |succ j ih=>exact .join (.mate ih)
 have hoff: ∀j,0<j->j<k->mt' (it (fun x=>jn (mt x)) j x)=mt (it (fun x=>jn (mt x)) j x):=fun j h0 h1=>
  h _ (hc j) (hk.first j h0 h1) (ylv hi hx j 0 j (by omega)).1
 have key: ∀j,j<k->Cir mt' jn (mt x) (it (fun x=>jn (mt x)) (j+1) x):=fun j=>by
  induction j with
  |zero=>intro _;exact .join (.refl _)
  |succ j ih=>
   intro hj
   have e:=Cir.mate (mt:=mt') (jn:=jn) (ih (by omega))
   rw [hoff (j+1) (by omega) hj] at e
   exact .join e
 obtain ⟨j,hj,hz⟩:=(ykd hi hx hk).2 hz
 by_cases h0:j=0
 ·subst h0
  rcases hz with rfl|rfl
  ·have:=key (k-1) (by omega)
   rw [show k-1+1=k by omega,hk.back] at this
   exact this
  ·exact .refl _
 ·have:=key (j-1) (by omega)
  rw [show j-1+1=j by omega] at this
  rcases hz with rfl|rfl
  ·exact this
  ·rw [←hoff j (by omega) hj];exact .mate this
theorem y9x (hi:Inv2 n mt jn) {R:List Int} (hR:CirR n mt jn R) {x y:Nat} (hx:x<4*n) (hy:y<4*n) (hno:R.getD x 0≠R.getD y 0):
  Inv2 n (crs mt x y) jn/\CirR n (crs mt x y) jn (ybz R x y)/\roots R=roots (ybz R x y)+1:=by
 have hxr:InR n (x:Int):=by unfold InR;omega
 have hyr:InR n (y:Int):=by unfold InR;omega
 have hnc: ¬Cir mt jn x y:=fun e=>hno ((hR.iff x y hx hy).2 e)
 have h1:(y:Int)≠x:=fun e=>hnc (e▸ .refl _)
 have h2:(y:Int)≠mt x:=fun e=>hnc (by rw [e];exact .mate (.refl _))
 have hi':=yuq hi hxr hyr h1 h2
 obtain ⟨c1,c2,c3,c4⟩:=yr8 hi hxr hyr h1 h2
 have hnc': ¬Cir mt jn y x:=fun e=>hnc (e.symm hi hyr)
 have ax: ∀z,Cir mt jn x z->Cir (crs mt x y) jn (mt x) z:=fun z hz=>by
  refine ykw hi hxr (fun w hw e1 e2=>ydv e1 e2 (fun e=>hnc (by rw [←e];exact hw)) (fun e=>hnc ?_)) hz
  subst e
  have:=Cir.mate hw
  rwa [hi.mm _ hyr] at this
 have ay: ∀z,Cir mt jn y z->Cir (crs mt x y) jn (mt y) z:=fun z hz=>by
  refine ykw hi hyr (fun w hw e1 e2=>ydv (fun e=>hnc' (by rw [←e];exact hw)) (fun e=>hnc' ?_) e1 e2) hz
  subst e
  have:=Cir.mate hw
  rwa [hi.mm _ hxr] at this
 have hq:Cir (crs mt x y) jn (mt x) (mt y):=by
  have:=Cir.mate (ax x (.refl _))
  rwa [c1] at this
 have hall: ∀z,Cir mt jn x z\/Cir mt jn y z->Cir (crs mt x y) jn (mt x) z:=fun z hz=>hz.elim (ax z) fun h=>hq.trans (ay z h)
 have hpr:=hi.mr _ hxr
 refine ⟨hi',?_,yst hR.rep hx hy hno⟩
 have cl: ∀u v:Nat,u<4*n->v<4*n->Cir mt jn u v->R.getD u 0=R.getD v 0:=fun u v hu hv h=>(hR.iff u v hu hv).2 h
 have mR: ∀u:Nat,u<4*n->(mt u).toNat<4*n/\((mt u).toNat:Int)=mt u/\R.getD (mt u).toNat 0=R.getD u 0:=fun u hu=>by
  have hr:=hi.mr u (by unfold InR;omega)
  unfold InR at hr
  have e:((mt u).toNat:Int)=mt u:=by omega
  refine ⟨by omega,e,(cl u _ hu (by omega) ?_).symm⟩
  rw [e];exact .mate (.refl _)
 refine CirR.of hi' (yhi hR.rep hx hy) (fun u v hu hv e=>?_) (fun u hu=>?_) (fun u hu=>?_)
 ·rw [ybn hR.rep.len hu,ybn hR.rep.len hv] at e
  have both: ∀w:Nat,w<4*n->(R.getD w 0=R.getD x 0\/R.getD w 0=R.getD y 0)->Cir (crs mt x y) jn (mt x) w:=fun w hw h=>hall w (h.imp (fun h=>(hR.iff x w hx hw).1 h.symm) fun h=>(hR.iff y w hy hw).1 h.symm)
  by_cases hu1:R.getD u 0=R.getD x 0\/R.getD u 0=R.getD y 0
  ·have hv1:R.getD v 0=R.getD x 0\/R.getD v 0=R.getD y 0:=by
    by_cases h:R.getD v 0=R.getD x 0
    ·exact .inl h
    ·rw [if_neg h] at e
     refine .inr ?_
     rw [←e]
     rcases hu1 with h|h
     ·rw [if_pos h]
     ·by_cases h':R.getD u 0=R.getD x 0
      ·rw [if_pos h']
      ·rw [if_neg h',h]
   exact ((both u hu hu1).symm hi' hpr).trans (both v hv hv1)
  ·have hu2:=not_or.1 hu1
   rw [if_neg hu2.1] at e
   have hv2:R.getD v 0≠R.getD x 0:=fun h=>hu2.2 (by rw [e,if_pos h])
   rw [if_neg hv2] at e
   refine y6t (fun z hz=>?_) ((hR.iff u v hu hv).1 e)
   have hzr:=hz.rng hi (by unfold InR;omega)
   have key: ∀w:Nat,w<4*n->Cir mt jn z w->R.getD u 0=R.getD w 0:=fun w hw h=>cl u w hu hw (hz.trans h)
   refine ydv (fun e=>?_) (fun e=>?_) (fun e=>?_) (fun e=>?_)
   ·exact hu2.1 (key x hx (e▸ .refl _))
   ·refine hu2.1 (key x hx ?_)
    have:=Cir.mate (mt:=mt) (jn:=jn) (Cir.refl z)
    rw [e,hi.mm _ hxr] at this
    rw [e];exact this
   ·exact hu2.2 (key y hy (e▸ .refl _))
   ·refine hu2.2 (key y hy ?_)
    have:=Cir.mate (mt:=mt) (jn:=jn) (Cir.refl z)
    rw [e,hi.mm _ hyr] at this
    rw [e];exact this
 ·have gx: ∀w:Nat,w<4*n->(R.getD w 0=R.getD x 0\/R.getD w 0=R.getD y 0)->(ybz R x y).getD w 0=R.getD y 0:=fun w hw h=>by
   rw [ybn hR.rep.len hw]
   by_cases h':R.getD w 0=R.getD x 0
   ·rw [if_pos h']
   ·rw [if_neg h'];exact h.resolve_left h'
  obtain ⟨q1,q2,q3⟩:=mR y hy
  obtain ⟨p1,p2,p3⟩:=mR x hx
  by_cases e1:(u:Int)=x
  ·obtain rfl:u=x:=by omega
   rw [c1,gx _ q1 (.inr q3),gx _ hx (.inl rfl)]
  ·by_cases e2:(u:Int)=mt y
   ·have e2':u=(mt y).toNat:=by omega
    rw [e2,c2,Int.toNat_natCast,gx _ hx (.inl rfl),gx u hu (.inr (by rw [e2',q3]))]
   ·by_cases e3:(u:Int)=y
    ·obtain rfl:u=y:=by omega
     rw [c3,gx _ p1 (.inl p3),gx _ hy (.inr rfl)]
    ·by_cases e4:(u:Int)=mt x
     ·have e4':u=(mt x).toNat:=by omega
      rw [e4,c4,Int.toNat_natCast,gx _ hy (.inr rfl),gx u hu (.inl (by rw [e4',p3]))]
     ·rw [ydv e1 e4 e3 e2]
      exact yc3 hR.rep.len (mR u hu).1 hu (mR u hu).2.2
 ·have hr:=hi.jr u (by unfold InR;omega)
  unfold InR at hr
  refine yc3 hR.rep.len (by omega) hu (cl u _ hu (by omega) ?_).symm
  rw [show ((jn u).toNat:Int)=jn u by omega];exact .join (.refl _)
end
def crM (m:List Int) (x y:Nat):List Int:=(((m.set x (m.getD y 0)).set (m.getD y 0).toNat x).set y (m.getD x 0)).set (m.getD x 0).toNat y
theorem yur (m:List Int) (x y:Nat):(crM m x y).length=m.length:=by simp [crM]
section
variable {m:List Int} {n:Nat}
theorem yoa (hp:PmOk m n) {x y:Nat} (hx:x<4*n) (hy:y<4*n) (h1:(y:Int)≠x) (h2:(y:Int)≠m.getD x 0) {z:Nat} (hz:z<4*n):
  (crM m x y).getD z 0=crs (fun x=>m.getD x.toNat 0) x y z:=by
 have hl:=hp.ok.1
 have hi:=ydg hp.ok hp.inv hp.ne fun _=>false
 obtain ⟨a1,a2,a3,a4,_,_⟩:=yr7 (x:=(x:Int)) (y:=(y:Int)) hi (by unfold InR;omega) (by unfold InR;omega) h1 (by simpa using h2)
 simp only [Int.toNat_natCast] at a1 a2 a3 a4
 have px:=hp.ok.2 x hx
 have py:=hp.ok.2 y hy
 unfold crM crs
 simp only [Int.toNat_natCast]
 clear hi
 generalize m.getD x 0=p at*
 generalize m.getD y 0=q at*
 by_cases e4:z=p.toNat
 ·subst e4
  rw [yc5 _ _ _ _ (by simp;omega),if_pos rfl,if_neg (by omega),if_neg (by omega),if_neg (by omega),if_pos (by omega)]
 ·rw [yc5 _ _ _ _ (by simp;omega),if_neg (Ne.symm e4)]
  by_cases e3:z=y
  ·subst e3
   rw [yc5 _ _ _ _ (by simp;omega),if_pos rfl,if_neg (by omega),if_neg (by omega),if_pos rfl]
  ·rw [yc5 _ _ _ _ (by simp;omega),if_neg (Ne.symm e3)]
   by_cases e2:z=q.toNat
   ·subst e2
    rw [yc5 _ _ _ _ (by simp;omega),if_pos rfl,if_neg (by omega),if_pos (by omega)]
   ·rw [yc5 _ _ _ _ (by simp;omega),if_neg (Ne.symm e2)]
    by_cases e1:z=x
    ·subst e1
     rw [yc5 _ _ _ _ (by omega),if_pos rfl,if_pos rfl]
    ·rw [yc5 _ _ _ _ (by omega),if_neg (Ne.symm e1),if_neg (by omega),if_neg (by omega),if_neg (by omega),if_neg (by omega)]
theorem y8f (hp:PmOk m n) {x y:Nat} (hx:x<4*n) (hy:y<4*n) (h1:(y:Int)≠x) (h2:(y:Int)≠m.getD x 0):PmOk (crM m x y) n:=by
 have hi:=ydg hp.ok hp.inv hp.ne fun _=>false
 have hi':=yuq (x:=(x:Int)) (y:=(y:Int)) hi (by unfold InR;omega) (by unfold InR;omega) h1 (by simpa using h2)
 have g:=fun z hz=>yoa hp hx hy h1 h2 (z:=z) hz
 have r: ∀z:Nat,z<4*n->0<=crs (fun x=>m.getD x.toNat 0) x y z/\crs (fun x=>m.getD x.toNat 0) x y z<4*n:=fun z hz=>by
  have:=hi'.mr z (by unfold InR;omega)
  unfold InR at this;omega
 refine ⟨⟨by rw [yur];exact hp.ok.1,fun z hz=>by rw [g z hz];exact r z hz⟩,fun z hz=>?_,fun z hz=>?_⟩
 ·have:=r z hz
  rw [g z hz,g _ (by omega),show ((crs (fun x=>m.getD x.toNat 0) x y z).toNat:Int)=crs (fun x=>m.getD x.toNat 0) x y z by omega]
  exact hi'.mm z (by unfold InR;omega)
 ·rw [g z hz];exact hi'.mf z (by unfold InR;omega)
end
end Go.Proofs.YtjpnnnognoaaiaaGreatDoor
