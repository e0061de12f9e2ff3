/- Plain: two edges on different circles exchange their ends: the circles run together. -/
import Derived.Test.YtphjphpmfflfpaaGreatDoorKb5
namespace Go.Proofs.YtphjphpmfflfpaaGreatDoor
set_option linter.unusedSimpArgs false
set_option linter.unusedVariables false
section
variable {n:Nat} {mt jn mt':Int->Int} {x y:Int}
def iY (mt:Int->Int) (x y z:Int):Int:=if z=x then mt y else if z=mt y then x else if z=y then mt x else if z=mt x then y else mt z
theorem Jh (hi:Inv2 n mt jn) (hx:au n x) (hy:au n y) (h1:y≠x) (h2:y≠mt x):mt x≠x/\mt y≠y/\mt y≠x/\mt y≠mt x/\mt (mt x)=x/\mt (mt y)=y:=
 ⟨hi.mf x hx,hi.mf y hy,fun e=>h2 (by rw [←e,hi.mm y hy]),fun e=>h1 (by rw [←hi.mm y hy,e,hi.mm x hx]),hi.mm x hx,hi.mm y hy⟩
theorem Jg (hi:Inv2 n mt jn) (hx:au n x) (hy:au n y) (h1:y≠x) (h2:y≠mt x):iY mt x y x=mt y/\iY mt x y (mt y)=x/\iY mt x y y=mt x/\iY mt x y (mt x)=y:=by
 obtain ⟨a1,a2,a3,a4,_,_⟩:=Jh hi hx hy h1 h2;refine ⟨by unfold iY;rw [if_pos rfl],by unfold iY;rw [if_neg a3,if_pos rfl],by unfold iY;rw [if_neg h1,if_neg (Ne.symm a2),if_pos rfl],by unfold iY;rw [if_neg a1,if_neg (Ne.symm a4),if_neg (Ne.symm h2),if_pos rfl]⟩
theorem uS {z:Int} (h1:z≠x) (h2:z≠mt x) (h3:z≠y) (h4:z≠mt y):iY mt x y z=mt z:=by
 unfold iY;rw [if_neg h1,if_neg h4,if_neg h3,if_neg h2]
theorem Wr (hi:Inv2 n mt jn) (hx:au n x) (hy:au n y) (h1:y≠x) (h2:y≠mt x):Inv2 n (iY mt x y) jn:=by
 obtain ⟨a1,a2,a3,a4,a5,a6⟩:=Jh hi hx hy h1 h2;obtain ⟨c1,c2,c3,c4⟩:=Jg hi hx hy h1 h2;have cs: ∀z,au n z->(z=x\/z=mt y\/z=y\/z=mt x)\/(iY mt x y z=mt z/\mt z≠x/\mt z≠mt x/\mt z≠y/\mt z≠mt y):=fun z hz=>by
  by_cases e1:z=x
  ·exact .inl (.inl e1)
  ·by_cases e2:z=mt y
   ·exact .inl (.inr (.inl e2))
   ·by_cases e3:z=y
    ·exact .inl (.inr (.inr (.inl e3)))
    ·by_cases e4:z=mt x
     ·exact .inl (.inr (.inr (.inr e4)))
     ·have i:=hi.mm z hz;exact .inr ⟨uS e1 e4 e3 e2,fun e=>e4 (by rw [←i,e]),fun e=>e1 (by rw [←i,e,a5]),fun e=>e2 (by rw [←i,e]),fun e=>e3 (by rw [←i,e,a6])⟩
 refine ⟨fun z hz=>?_,hi.jr,fun z hz=>?_,hi.jj,fun z hz=>?_,hi.jf⟩
 ·rcases cs z hz with (rfl|rfl|rfl|rfl)|⟨e,_⟩
  ·rw [c1];exact hi.mr _ hy
  ·rw [c2];exact hx
  ·rw [c3];exact hi.mr _ hx
  ·rw [c4];exact hy
  ·rw [e];exact hi.mr _ hz
 ·rcases cs z hz with (rfl|rfl|rfl|rfl)|⟨e,e1,e2,e3,e4⟩
  ·rw [c1,c2]
  ·rw [c2,c1]
  ·rw [c3,c4]
  ·rw [c4,c3]
  ·rw [e,uS e1 e2 e3 e4];exact hi.mm z hz
 ·rcases cs z hz with (rfl|rfl|rfl|rfl)|⟨e,_⟩
  ·rw [c1];exact a3
  ·rw [c2];exact Ne.symm a3
  ·rw [c3];exact Ne.symm h2
  ·rw [c4];exact h2
  ·rw [e];exact hi.mf z hz
theorem JH {u v:Int} (h: ∀z,aL mt jn u z->mt' z=mt z) (hc:aL mt jn u v):aL mt' jn u v:=by
 induction hc with
 |refl=>exact .refl _
 | @aH z hz ih=>rw [←h z hz];exact .aH ih
 |join _ ih=>exact .join ih
theorem GX (hi:Inv2 n mt jn) (hx:au n x) (h: ∀z,aL mt jn x z->z≠x->z≠mt x->mt' z=mt z) {z:Int} (hz:aL mt jn x z):aL mt' jn (mt x) z:=by
 obtain ⟨k,_,hk⟩:=(uW hi).Cc hx;have nU:=hk.pos;have hc: ∀j,aL mt jn x (it (fun x=>jn (mt x)) j x):=fun j=>by
  induction j with
  |zero=>exact .refl _
  |succ j ih=>exact .join (.aH ih)
 have fV: ∀j,0<j->j<k->mt' (it (fun x=>jn (mt x)) j x)=mt (it (fun x=>jn (mt x)) j x):=fun j h0 h1=>
  h _ (hc j) (hk.first j h0 h1) (K8 hi hx j 0 j (by omega)).1
 have key: ∀j,j<k->aL mt' jn (mt x) (it (fun x=>jn (mt x)) (j+1) x):=fun j=>by
  induction j with
  |zero=>intro _;exact .join (.refl _)
  |succ j ih=>
   intro hj;have e:=aL.aH (mt:=mt') (jn:=jn) (ih (by omega));rw [fV (j+1) (by omega) hj] at e;exact .join e
 obtain ⟨j,hj,hz⟩:=(C4 hi hx hk).2 hz;by_cases h0:j=0
 ·subst h0;rcases hz with rfl|rfl
  ·have:=key (k-1) (by omega)
   rw [show k-1+1=k by omega,hk.back] at this;exact this
  ·exact .refl _
 ·have:=key (j-1) (by omega)
  rw [show j-1+1=j by omega] at this;rcases hz with rfl|rfl
  ·exact this
  ·rw [←fV j (by omega) hj];exact .aH this
theorem OI (hi:Inv2 n mt jn) {R:List Int} (hR:dX n mt jn R) {x y:Nat} (hx:x<4*n) (hy:y<4*n) (cD:R.getD x 0≠R.getD y 0):
  Inv2 n (iY mt x y) jn/\dX n (iY mt x y) jn (eg R x y)/\roots R=roots (eg R x y)+1:=by
 have qI:au n (x:Int):=by unfold au;omega
 have yb:au n (y:Int):=by unfold au;omega
 have Ab: ¬aL mt jn x y:=fun e=>cD ((hR.iff x y hx hy).2 e);have h1:(y:Int)≠x:=fun e=>Ab (e▸ .refl _);have h2:(y:Int)≠mt x:=fun e=>Ab (by rw [e];exact .aH (.refl _));have iy:=Wr hi qI yb h1 h2;obtain ⟨c1,c2,c3,c4⟩:=Jg hi qI yb h1 h2;have EN: ¬aL mt jn y x:=fun e=>Ab (e.symm hi yb);have ax: ∀z,aL mt jn x z->aL (iY mt x y) jn (mt x) z:=fun z hz=>by
  refine GX hi qI (fun w hw e1 e2=>uS e1 e2 (fun e=>Ab (by rw [←e];exact hw)) (fun e=>Ab ?_)) hz;subst e
  have:=aL.aH hw
  rwa [hi.mm _ yb] at this
 have ay: ∀z,aL mt jn y z->aL (iY mt x y) jn (mt y) z:=fun z hz=>by
  refine GX hi yb (fun w hw e1 e2=>uS (fun e=>EN (by rw [←e];exact hw)) (fun e=>EN ?_) e1 e2) hz;subst e
  have:=aL.aH hw
  rwa [hi.mm _ qI] at this
 have hq:aL (iY mt x y) jn (mt x) (mt y):=by
  have:=aL.aH (ax x (.refl _))
  rwa [c1] at this
 have cE: ∀z,aL mt jn x z\/aL mt jn y z->aL (iY mt x y) jn (mt x) z:=fun z hz=>hz.elim (ax z) fun h=>hq.trans (ay z h);have rM:=hi.mr _ qI;refine ⟨iy,?_,LG hR.rep hx hy cD⟩;have cl: ∀u v:Nat,u<4*n->v<4*n->aL mt jn u v->R.getD u 0=R.getD v 0:=fun u v hu hv h=>(hR.iff u v hu hv).2 h
 have mR: ∀u:Nat,u<4*n->(mt u).toNat<4*n/\((mt u).toNat:Int)=mt u/\R.getD (mt u).toNat 0=R.getD u 0:=fun u hu=>by
  have hr:=hi.mr u (by unfold au;omega);unfold au at hr;have e:((mt u).toNat:Int)=mt u:=by omega
  refine ⟨by omega,e,(cl u _ hu (by omega) ?_).symm⟩;rw [e];exact .aH (.refl _)
 refine dX.of iy (BU hR.rep hx hy) (fun u v hu hv e=>?_) (fun u hu=>?_) (fun u hu=>?_)
 ·rw [n7 hR.rep.len hu,n7 hR.rep.len hv] at e;have both: ∀w:Nat,w<4*n->(R.getD w 0=R.getD x 0\/R.getD w 0=R.getD y 0)->aL (iY mt x y) jn (mt x) w:=fun w hw h=>cE w (h.imp (fun h=>(hR.iff x w hx hw).1 h.symm) fun h=>(hR.iff y w hy hw).1 h.symm);by_cases hu1:R.getD u 0=R.getD x 0\/R.getD u 0=R.getD y 0
  ·have hv1:R.getD v 0=R.getD x 0\/R.getD v 0=R.getD y 0:=by
    by_cases h:R.getD v 0=R.getD x 0
    ·exact .inl h
    ·rw [if_neg h] at e;refine .inr ?_;rw [←e];rcases hu1 with h|h
     ·rw [if_pos h]
     ·by_cases h':R.getD u 0=R.getD x 0
      ·rw [if_pos h']
      ·rw [if_neg h',h]
   exact ((both u hu hu1).symm iy rM).trans (both v hv hv1)
  ·have Ck:=not_or.1 hu1;rw [if_neg Ck.1] at e;have hv2:R.getD v 0≠R.getD x 0:=fun h=>Ck.2 (by rw [e,if_pos h]);rw [if_neg hv2] at e;refine JH (fun z hz=>?_) ((hR.iff u v hu hv).1 e);have H9:=hz.cn hi (by unfold au;omega);have key: ∀w:Nat,w<4*n->aL mt jn z w->R.getD u 0=R.getD w 0:=fun w hw h=>cl u w hu hw (hz.trans h);refine uS (fun e=>?_) (fun e=>?_) (fun e=>?_) (fun e=>?_)
   ·exact Ck.1 (key x hx (e▸ .refl _))
   ·refine Ck.1 (key x hx ?_)
    have:=aL.aH (mt:=mt) (jn:=jn) (aL.refl z)
    rw [e,hi.mm _ qI] at this;rw [e];exact this
   ·exact Ck.2 (key y hy (e▸ .refl _))
   ·refine Ck.2 (key y hy ?_)
    have:=aL.aH (mt:=mt) (jn:=jn) (aL.refl z)
    rw [e,hi.mm _ yb] at this;rw [e];exact this
 ·have gx: ∀w:Nat,w<4*n->(R.getD w 0=R.getD x 0\/R.getD w 0=R.getD y 0)->(eg R x y).getD w 0=R.getD y 0:=fun w hw h=>by
   rw [n7 hR.rep.len hw];by_cases h':R.getD w 0=R.getD x 0
   ·rw [if_pos h']
   ·rw [if_neg h'];exact h.resolve_left h'
  obtain ⟨q1,q2,q3⟩:=mR y hy;obtain ⟨p1,p2,p3⟩:=mR x hx;by_cases e1:(u:Int)=x
  ·obtain rfl:u=x:=by omega
   rw [c1,gx _ q1 (.inr q3),gx _ hx (.inl rfl)]
  ·by_cases e2:(u:Int)=mt y
   ·have e2':u=(mt y).toNat:=by omega
    rw [e2,c2,Int.toNat_natCast,gx _ hx (.inl rfl),gx u hu (.inr (by rw [e2',q3]))]
   ·by_cases e3:(u:Int)=y
    ·obtain rfl:u=y:=by omega
     rw [c3,gx _ p1 (.inl p3),gx _ hy (.inr rfl)]
    ·by_cases e4:(u:Int)=mt x
     ·have e4':u=(mt x).toNat:=by omega
      rw [e4,c4,Int.toNat_natCast,gx _ hy (.inr rfl),gx u hu (.inl (by rw [e4',p3]))]
     ·rw [uS e1 e4 e3 e2];exact pI hR.rep.len (mR u hu).1 hu (mR u hu).2.2
 ·have hr:=hi.jr u (by unfold au;omega);unfold au at hr;refine pI hR.rep.len (by omega) hu (cl u _ hu (by omega) ?_).symm;rw [show ((jn u).toNat:Int)=jn u by omega];exact .join (.refl _)
end
def uA (m:List Int) (x y:Nat):List Int:=(((m.set x (m.getD y 0)).set (m.getD y 0).toNat x).set y (m.getD x 0)).set (m.getD x 0).toNat y
theorem Wq (m:List Int) (x y:Nat):(uA m x y).length=m.length:=by simp [uA]
section
variable {m:List Int} {n:Nat}
theorem JG (hp:aE m n) {x y:Nat} (hx:x<4*n) (hy:y<4*n) (h1:(y:Int)≠x) (h2:(y:Int)≠m.getD x 0) {z:Nat} (hz:z<4*n):
  (uA m x y).getD z 0=iY (fun x=>m.getD x.toNat 0) x y z:=by
 have hl:=hp.ok.1;have hi:=l6 hp.ok hp.inv hp.ne fun _=>false;obtain ⟨a1,a2,a3,a4,_,_⟩:=Jh (x:=(x:Int)) (y:=(y:Int)) hi (by unfold au;omega) (by unfold au;omega) h1 (by simpa using h2);simp only [Int.toNat_natCast] at a1 a2 a3 a4;have px:=hp.ok.2 x hx;have py:=hp.ok.2 y hy;unfold uA iY;simp only [Int.toNat_natCast];clear hi;generalize m.getD x 0=p at*;generalize m.getD y 0=q at*
 by_cases e4:z=p.toNat
 ·subst e4;rw [td _ _ _ _ (by simp;omega),if_pos rfl,if_neg (by omega),if_neg (by omega),if_neg (by omega),if_pos (by omega)]
 ·rw [td _ _ _ _ (by simp;omega),if_neg (Ne.symm e4)];by_cases e3:z=y
  ·subst e3;rw [td _ _ _ _ (by simp;omega),if_pos rfl,if_neg (by omega),if_neg (by omega),if_pos rfl]
  ·rw [td _ _ _ _ (by simp;omega),if_neg (Ne.symm e3)];by_cases e2:z=q.toNat
   ·subst e2;rw [td _ _ _ _ (by simp;omega),if_pos rfl,if_neg (by omega),if_pos (by omega)]
   ·rw [td _ _ _ _ (by simp;omega),if_neg (Ne.symm e2)];by_cases e1:z=x
    ·subst e1;rw [td _ _ _ _ (by omega),if_pos rfl,if_pos rfl]
    ·rw [td _ _ _ _ (by omega),if_neg (Ne.symm e1),if_neg (by omega),if_neg (by omega),if_neg (by omega),if_neg (by omega)]
theorem UZ (hp:aE m n) {x y:Nat} (hx:x<4*n) (hy:y<4*n) (h1:(y:Int)≠x) (h2:(y:Int)≠m.getD x 0):aE (uA m x y) n:=by
 have hi:=l6 hp.ok hp.inv hp.ne fun _=>false;have iy:=Wr (x:=(x:Int)) (y:=(y:Int)) hi (by unfold au;omega) (by unfold au;omega) h1 (by simpa using h2);have g:=fun z hz=>JG hp hx hy h1 h2 (z:=z) hz;have r: ∀z:Nat,z<4*n->0<=iY (fun x=>m.getD x.toNat 0) x y z/\iY (fun x=>m.getD x.toNat 0) x y z<4*n:=fun z hz=>by
  have:=iy.mr z (by unfold au;omega)
  unfold au at this;omega
 refine ⟨⟨by rw [Wq];exact hp.ok.1,fun z hz=>by rw [g z hz];exact r z hz⟩,fun z hz=>?_,fun z hz=>?_⟩
 ·have:=r z hz
  rw [g z hz,g _ (by omega),show ((iY (fun x=>m.getD x.toNat 0) x y z).toNat:Int)=iY (fun x=>m.getD x.toNat 0) x y z by omega];exact iy.mm z (by unfold au;omega)
 ·rw [g z hz];exact iy.mf z (by unfold au;omega)
theorem MW (hp:aE m n) {x y:Nat} (hx:x<4*n) (hy:y<4*n) (ch:Nat->Bool) (cD:(gj m ch n).getD x 0≠(gj m ch n).getD y 0) (h1:(y:Int)≠x) (h2:(y:Int)≠m.getD x 0):aX m n ch=aX (uA m x y) n ch+1:=by
 have hi:=l6 hp.ok hp.inv hp.ne ch;have hR:=s7 (ch:=ch) hp.ok hp.inv hp.ne;obtain ⟨_,k1,k2⟩:=OI hi hR hx hy cD;have cQ:=UZ hp hx hy h1 h2;have hR':=s7 (ch:=ch) cQ.ok cQ.inv cQ.ne;have iy:=l6 cQ.ok cQ.inv cQ.ne ch;unfold aX;rw [k2];congr 1;refine (zp hR' ⟨k1.rep,fun u v hu hv=>(k1.iff u v hu hv).trans ?_⟩).symm;have Xw:=(OI hi hR hx hy cD).1
 have EP: ∀z,au n z->iY (fun x=>m.getD x.toNat 0) x y z=(uA m x y).getD z.toNat 0:=fun z hz=>by
  unfold au at hz
  have:=JG hp hx hy h1 h2 (z:=z.toNat) (by omega)
  rw [this,show ((z.toNat:Nat):Int)=z by omega]
 constructor
 ·intro h;exact JH (fun z hz=>(EP z (hz.cn Xw (by unfold au;omega))).symm) h
 ·intro h;exact JH (fun z hz=>EP z (hz.cn iy (by unfold au;omega))) h
end
end Go.Proofs.YtphjphpmfflfpaaGreatDoor
