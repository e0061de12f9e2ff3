/- Plain: the connected sum is a diagram on the sphere, and its bracket is the product of the brackets. -/
import Derived.Test.YtjpnnnognoaaiaaGreatDoorCm
namespace Go.Proofs.YtjpnnnognoaaiaaGreatDoor
set_option linter.unusedSimpArgs false
set_option linter.unusedVariables false
namespace Sp
open Classical
section
variable {N:Nat} {si al al':Nat->Nat}
theorem Sph.cross (h:Sph N si al) (ha':Mat N al') {x y:Nat} (hx:x<N) (hy:y<N) (hno: ¬KK si al N x y) (e1:al' x=al y) (e2:al' (al y)=x) (e3:al' y=al x) (e4:al' (al x)=y)
  (e5: ∀z,z<N->z≠x->z≠y->z≠al x->z≠al y->al' z=al z) (hxp:KK si al' N x (al x)) (hyq:KK si al' N y (al y)):Sph N si al':=by
 have hs:=h.perm
 have ha:=h.mat
 have hE:=K_eqv hs ha
 have hE':=K_eqv hs ha'
 obtain ⟨p,ep⟩: ∃p,al x=p:=⟨_,rfl⟩
 obtain ⟨q,eq⟩: ∃q,al y=q:=⟨_,rfl⟩
 rw [ep] at hxp e3 e4 e5
 rw [eq] at hyq e1 e2 e5
 have lp:p<N:=ep▸ha.lt x hx
 have lq:q<N:=eq▸ha.lt y hy
 have ip:al p=x:=by rw [←ep];exact ha.inv x hx
 have iq:al q=y:=by rw [←eq];exact ha.inv y hy
 have kxp:KK si al N x p:=ep▸K_al hs ha hx
 have kyq:KK si al N y q:=eq▸K_al hs ha hy
 have nxy:x≠y:=fun e=>hno (e▸hE.rfl' x hx)
 have npx:p≠x:=ep▸ha.ne x hx
 have nqy:q≠y:=eq▸ha.ne y hy
 have npy:p≠y:=fun e=>hno (e▸kxp)
 have nqx:q≠x:=fun e=>hno (hE.symm _ _ hy hx (e▸kyq))
 have npq:p≠q:=fun e=>nxy (by rw [←ip,e,iq])
 have cs: ∀z,z<N->z=x\/z=y\/z=p\/z=q\/(z≠x/\z≠y/\z≠p/\z≠q/\al' z=al z):=fun z hz=>by
  by_cases h1:z=x
  ·exact .inl h1
  ·by_cases h2:z=y
   ·exact .inr (.inl h2)
   ·by_cases h3:z=p
    ·exact .inr (.inr (.inl h3))
    ·by_cases h4:z=q
     ·exact .inr (.inr (.inr (.inl h4)))
     ·exact .inr (.inr (.inr (.inr ⟨h1,h2,h3,h4,e5 z hz h1 h2 h3 h4⟩)))
 have kxq':KK si al' N x q:=e1▸K_al hs ha' hx
 have kxy':KK si al' N x y:=hE'.trans _ _ _ hx lq hy kxq' (hE'.symm _ _ hy lq hyq)
 have hsub: ∀a b,a<N->b<N->KK si al N a b->KK si al' N a b:=fun a b hal hb hk=>by
  refine K_least hs ha hE' (fun z hz=>K_si hs ha' hz) (fun z hz=>?_) hal hb hk
  rcases cs z hz with rfl|rfl|rfl|rfl|⟨_,_,_,_,e⟩
  ·rw [ep];exact hxp
  ·rw [eq];exact hyq
  ·rw [ip];exact hE'.symm _ _ hx hz hxp
  ·rw [iq];exact hE'.symm _ _ hy hz hyq
  ·rw [←e];exact K_al hs ha' hz
 have hKj: ∀a b,a<N->b<N->(KK si al' N a b↔Join (KK si al N) x y a b):=fun a b hal hb=>by
  constructor
  ·intro hk
   refine K_least hs ha' (Join.eqv hE hx hy) (fun z hz=> .inl (K_si hs ha hz)) (fun z hz=>?_) hal hb hk
   rcases cs z hz with rfl|rfl|rfl|rfl|⟨_,_,_,_,e⟩
   ·rw [e1];exact .inr (.inl ⟨hE.rfl' _ hz,kyq⟩)
   ·rw [e3];exact .inr (.inr ⟨hE.rfl' _ hz,kxp⟩)
   ·rw [e4];exact .inr (.inl ⟨hE.symm _ _ hx hz kxp,hE.rfl' _ hy⟩)
   ·rw [e2];exact .inr (.inr ⟨hE.symm _ _ hy hz kyq,hE.rfl' _ hx⟩)
   ·rw [e];exact .inl (K_al hs ha hz)
  ·rintro (e|⟨f1,f2⟩|⟨f1,f2⟩)
   ·exact hsub _ _ hal hb e
   ·exact hE'.trans _ _ _ hal hx hb (hsub _ _ hal hx f1) (hE'.trans _ _ _ hx hy hb kxy' (hsub _ _ hy hb f2))
   ·exact hE'.trans _ _ _ hal hy hb (hsub _ _ hal hy f1) (hE'.trans _ _ _ hy hx hb (hE'.symm _ _ hx hy kxy') (hsub _ _ hx hb f2))
 have hpm:=ybh hs ha N (Nat.le_refl _)
 have hpm':=ybh hs ha' N (Nat.le_refl _)
 have hp1:=yci hpm hx hy
 have hp2:=yci hp1 lp lq
 have hph: ∀z,z<N->swp (swp (phK si al N) x y) p q z=phK si al' N z:=fun z hz=>by
  rw [ph_N ha' hz]
  rcases cs z hz with rfl|rfl|rfl|rfl|⟨h1,h2,h3,h4,e⟩
  ·unfold swp;rw [if_neg (Ne.symm npx),if_neg (Ne.symm nqx),if_pos rfl,ph_N ha hy,eq,e1]
  ·unfold swp;rw [if_neg (Ne.symm npy),if_neg (Ne.symm nqy),if_neg (Ne.symm nxy),if_pos rfl,ph_N ha hx,ep,e3]
  ·unfold swp;rw [if_pos rfl,if_neg nqx,if_neg nqy,ph_N ha lq,iq,e4]
  ·unfold swp;rw [if_neg (Ne.symm npq),if_pos rfl,if_neg npx,if_neg npy,ph_N ha lp,ip,e2]
  ·unfold swp;rw [if_neg h3,if_neg h4,if_neg h1,if_neg h2,ph_N ha hz,e]
 refine ⟨hs,ha',fun r hr kV kF hkV hkF=>?_⟩
 by_cases hrx:KK si al' N x r
 ·have hcov: ∀z,z<N->((KK si al N x z\/KK si al N y z)↔KK si al' N r z):=fun z hz=>by
   have e:KK si al' N r z↔KK si al' N x z:=⟨fun e=>hE'.trans _ _ _ hx hr hz hrx e,fun e=>hE'.trans _ _ _ hr hx hz (hE'.symm _ _ hx hr hrx) e⟩
   rw [e,hKj x z hx hz]
   constructor
   ·rintro (g|g)
    ·exact .inl g
    ·exact .inr (.inl ⟨hE.rfl' _ hx,g⟩)
   ·rintro (g|⟨_,g⟩|⟨g,_⟩)
    ·exact .inl g
    ·exact .inr g
    ·exact absurd g hno
  have hdis: ∀z,z<N->KK si al N x z-> ¬KK si al N y z:=fun z hz f1 f2=>hno (hE.trans _ _ _ hx hz hy f1 (hE.symm _ _ hy hz f2))
  obtain ⟨xV,hxV⟩:=Tr.exists (SC.eqv hs) (KK si al N x)
  obtain ⟨xF,hxF⟩:=Tr.exists (SC.eqv hpm) (KK si al N x)
  obtain ⟨yV,hyV⟩:=Tr.exists (SC.eqv hs) (KK si al N y)
  obtain ⟨yF,hyF⟩:=Tr.exists (SC.eqv hpm) (KK si al N y)
  have q1:=h.eq x hx xV xF hxV hxF
  have q2:=h.eq y hy yV yF hyV hyF
  have hnoV: ∀a b,a<N->b<N->KK si al N x a->KK si al N y b-> ¬SC si a b/\ ¬SC si b a:=fun a b hal hb f1 f2=>
   ⟨fun e=>hdis b hb (hE.trans _ _ _ hx hal hb f1 (K_sc hs ha hal e)) f2,fun e=>hdis a hal f1 (hE.trans _ _ _ hy hb hal f2 (K_sc hs ha hb e))⟩
  have hnoF: ∀a b,a<N->b<N->KK si al N x a->KK si al N y b-> ¬SC (phK si al N) a b/\ ¬SC (phK si al N) b a:=fun a b hal hb f1 f2=>
   ⟨fun e=>hdis b hb (hE.trans _ _ _ hx hal hb f1 (K_ph hs ha hal e)) f2,fun e=>hdis a hal f1 (hE.trans _ _ _ hy hb hal f2 (K_ph hs ha hb e))⟩
  have aV:=((hxV.append hyV hnoV hdis).congrU hcov (E':=SC si) (fun _ _ _ _ _ _=>Iff.rfl)).len_eq (SC.eqv hs) hkV
  have aF:=hxF.append hyF hnoF hdis
  obtain ⟨F1,hF1⟩:=Tr.exists (SC.eqv hp1) (fun z=>KK si al N x z\/KK si al N y z)
  have hsn: ¬SC (phK si al N) x y:=fun e=>hno (K_ph hs ha hx e)
  have b1:=aF.join (SC.eqv hpm) hx hy (.inl (hE.rfl' _ hx)) (.inr (hE.rfl' _ hy)) hsn (hF1.congr (ybx hpm hx hy hsn))
  have hkF2:Tr N (fun z=>KK si al N x z\/KK si al N y z) (SC (swp (swp (phK si al N) x y) p q)) kF:=
   hkF.congrU (fun z hz=>(hcov z hz).symm) (fun a b hal hb _ _=>(ycu hp2 hph hal).symm)
  have b2:F1.length<=kF.length+1:=by
   by_cases hsc:SC (swp (phK si al N) x y) p q
   ·have hn:=ydm hp1 lp npq hsc
    have hj:=ybx hp2 lp lq hn
    rw [yd8] at hj
    have:=hkF2.join (SC.eqv hp2) lp lq (.inl kxp) (.inr kyq) hn (hF1.congr hj)
    omega
   ·have:=hF1.join (SC.eqv hp1) lp lq (.inl kxp) (.inr kyq) hsc (hkF2.congr (ybx hp1 lp lq hsc))
    omega
  have b3:=yjr hs ha' hr hkV hkF
  have c1:=ydh ha (K_cl hs ha hx).2
  have c2:=ydh ha (K_cl hs ha hy).2
  have c3:=ydh ha' (K_cl hs ha' hr).2
  have c4:cU (KK si al' N r) N=cU (KK si al N x) N+cU (KK si al N y) N:=by
   rw [←ypn (fun z hz e=>hdis z hz e)]
   exact yix fun z hz=>(hcov z hz).symm
  rw [List.length_append] at aV b1
  omega
 ·--another component
  have hr': ∀z,z<N->(KK si al' N r z↔KK si al N r z):=fun z hz=>by
   refine ⟨fun e=>?_,hsub r z hr hz⟩
   rcases (hKj r z hr hz).1 e with g|⟨g,_⟩|⟨g,_⟩
   ·exact g
   ·exact absurd (hE'.symm _ _ hr hx (hsub _ _ hr hx g)) hrx
   ·exact absurd (hE'.trans _ _ _ hx hy hr kxy' (hE'.symm _ _ hr hy (hsub _ _ hr hy g))) hrx
  have hoff: ∀z,z<N->KK si al N r z->al' z=al z:=fun z hz e=>by
   have e':=hsub _ _ hr hz e
   have hb: ∀w,w<N->KK si al' N x w->z≠w:=fun w hw f g=>hrx (hE'.trans _ _ _ hx hz hr (g▸f) (hE'.symm _ _ hr hz e'))
   exact e5 z hz (hb x hx (hE'.rfl' _ hx)) (hb y hy kxy') (hb p lp hxp) (hb q lq kxq')
  have hsc: ∀a b,a<N->KK si al N r a->(SC (phK si al' N) a b↔SC (phK si al N) a b):=fun a b hal hU=>by
   have hi: ∀k,KK si al N r (itn (phK si al' N) k a)/\itn (phK si al' N) k a=itn (phK si al N) k a:=fun k=>by
    induction k with
    |zero=>exact ⟨hU,rfl⟩
    |succ k ih=>
     have lt:=hpm'.itn_lt hal k
     have e:phK si al' N (itn (phK si al' N) k a)=phK si al N (itn (phK si al' N) k a):=by rw [ph_N ha' lt,ph_N ha lt,hoff _ lt ih.1]
     refine ⟨?_,by simp only [itn];rw [e,ih.2]⟩
     simp only [itn]
     rw [e,ph_N ha lt]
     exact ((K_cl hs ha hr).1 _ (ha.lt _ lt)).1 (((K_cl hs ha hr).2 _ lt).1 ih.1)
   constructor
   ·rintro ⟨k,rfl⟩;exact ⟨k,(hi k).2.symm⟩
   ·rintro ⟨k,rfl⟩;exact ⟨k,(hi k).2⟩
  have t1:Tr N (KK si al N r) (SC si) kV:=hkV.congrU hr' (fun _ _ _ _ _ _=>Iff.rfl)
  have t2:Tr N (KK si al N r) (SC (phK si al N)) kF:=hkF.congrU hr' (fun a b hal _ hU _=>hsc a b hal ((hr' a hal).1 hU))
  rw [h.eq r hr kV kF t1 t2]
  congr 1
  refine yd1 fun z hz=>?_
  rw [hr' z hz]
  constructor
  ·rintro ⟨f,g⟩;exact ⟨f,by rw [hoff z hz f];exact g⟩
  ·rintro ⟨f,g⟩;exact ⟨f,by rw [←hoff z hz f];exact g⟩
end
end Sp
section
variable {s1 s2 m1 m2:List Int} {L1 L2:Int} {n1 n2:Nat}
def csM (m1 m2:List Int) (x y:Nat):List Int:=crM (Sp.unM m1 m2) x (m1.length+y)
theorem yz0 (hp1:PmOk m1 n1) (ch:Nat->Bool) {x z:Int} (hx:0<=x/\x<4*n1) (h:Cir (fun x=>(Sp.unM m1 m2).getD x.toNat 0) (fun x=>jnB (ch (x/4).toNat) x) x z):0<=z/\z<4*n1:=by
 have hl:=hp1.ok.1
 have hi:=ydg hp1.ok hp1.inv hp1.ne ch
 induction h with
 |refl=>exact hx
 | @mate z _ ih=>
   show 0<=(Sp.unM m1 m2).getD z.toNat 0/\(Sp.unM m1 m2).getD z.toNat 0<4*n1
   rw [Sp.unM_l (by omega)]
   have:=hp1.ok.2 z.toNat (by omega);omega
 | @join z _ ih=>
   have:=hi.jr z (by unfold InR;omega)
   unfold InR at this;omega
theorem yl6 (hp1:PmOk m1 n1) {x y:Nat} (hx:x<4*n1):((m1.length+y:Nat):Int)≠x/\((m1.length+y:Nat):Int)≠(Sp.unM m1 m2).getD x 0:=by
 have hl:=hp1.ok.1
 have:=hp1.ok.2 x hx
 rw [Sp.unM_l (by omega)]
 omega
theorem y9y (hp1:PmOk m1 n1) (hp2:PmOk m2 n2) (hpu:PmOk (Sp.unM m1 m2) (n1+n2)) {x y:Nat} (hx:x<4*n1) (hy:y<4*n2):PmOk (csM m1 m2 x y) (n1+n2):=by
 have hl:=hp1.ok.1
 obtain ⟨h1,h2⟩:=yl6 (m2:=m2) (y:=y) hp1 hx
 exact y8f hpu (by omega) (by omega) h1 h2
theorem yz1 {m:List Int} {n:Nat} (hp:PmOk m n) (ch:Nat->Bool) {x:Nat} {z:Int} (hx:x<4*n) (h:Cir (fun x=>m.getD x.toNat 0) (fun x=>jnB (ch (x/4).toNat) x) x z):Sp.KK Sp.siD (Sp.alD m) (4*n) x z.toNat:=by
 have hi:=ydg hp.ok hp.inv hp.ne ch
 have hD:Sp.Dia m n:=⟨⟨hp.ok,hp.inv⟩,hp.ne⟩
 have hE:=Sp.K_eqv (Sp.siD_perm n) hD.mat
 have key: ∀z,Cir (fun x=>m.getD x.toNat 0) (fun x=>jnB (ch (x/4).toNat) x) x z->InR n z/\Sp.KK Sp.siD (Sp.alD m) (4*n) x z.toNat:=fun z h=>by
  induction h with
  |refl=>exact ⟨by unfold InR;omega,by simpa using hE.rfl' _ hx⟩
  | @mate z _ ih=>
    have hr:=hi.mr z ih.1
    have h0:=ih.1
    unfold InR at hr h0
    exact ⟨hr,hE.trans _ _ _ hx (by omega) (by omega) ih.2 (Sp.K_al (Sp.siD_perm n) hD.mat (x:=z.toNat) (by omega))⟩
  | @join z _ ih=>
    have hr:=hi.jr z ih.1
    have h0:=ih.1
    refine ⟨hr,?_⟩
    unfold InR at hr h0
    refine hE.trans _ _ _ hx (by omega) (by omega) ih.2 (Sp.K_sc (Sp.siD_perm n) hD.mat (x:=z.toNat) (by omega) (Sp.siD_sc.2 ?_))
    have:jnB (ch (z/4).toNat) z/4=z/4:=by unfold jnB;rw [yd6,yc2];split<;>omega
    omega
 exact (key z h).2
theorem yr9 (h1:yaf s1 m1 L1=true) (h2:yaf s2 m2 L2=true) (hn:s1.length+s2.length<=64) (hL:L1+L2<=64) {x y:Nat} (hx:x<4*s1.length) (hy:y<4*s2.length) (ox:outB s1 x=true) (oy:outB s2 y=true):
  yaf (s1++s2) (csM m1 m2 x y) (L1+L2)=true:=by
 have hvu:=Sp.valid_union h1 h2 hn hL
 have v:=yal hvu
 have hsl:(s1++s2).length=s1.length+s2.length:=by simp
 have hp1:=pmOk h1
 have hp2:=pmOk h2
 have hpu:=pmOk hvu
 rw [hsl] at hpu
 have hl:=hp1.ok.1
 have hl2:=hp2.ok.1
 obtain ⟨f1,f2⟩:=yl6 (m2:=m2) (y:=y) hp1 hx
 have hp':=y9y hp1 hp2 hpu hx hy
 obtain ⟨hd,hsp⟩:=Sp.dia_of hvu
 have hS:=hd.sph.1 hsp
 rw [hsl] at hd hS
 have hD:Sp.Dia (csM m1 m2 x y) (s1.length+s2.length):=⟨⟨hp'.ok,hp'.inv⟩,hp'.ne⟩
 have g:=fun z hz=>yoa hpu (x:=x) (y:=m1.length+y) (by omega) (by omega) f1 f2 (z:=z) hz
 have hi:=ydg hpu.ok hpu.inv hpu.ne fun _=>false
 have rx:InR (s1.length+s2.length) (x:Int):=by unfold InR;omega
 have ry:InR (s1.length+s2.length) ((m1.length+y:Nat):Int):=by unfold InR;omega
 have f2':((m1.length+y:Nat):Int)≠(fun x:Int=>(Sp.unM m1 m2).getD x.toNat 0) (x:Int):=by simpa using f2
 obtain ⟨c1,c2,c3,c4⟩:=yr8 hi rx ry f1 f2'
 simp only [Int.toNat_natCast] at c1 c2 c3 c4
 have mu: ∀z,z<4*(s1.length+s2.length)->((Sp.alD (Sp.unM m1 m2) z:Nat):Int)=(Sp.unM m1 m2).getD z 0:=fun z hz=>hd.cast hz
 have mc: ∀z,z<4*(s1.length+s2.length)->((Sp.alD (csM m1 m2 x y) z:Nat):Int)=(csM m1 m2 x y).getD z 0:=fun z hz=>hD.cast hz
 have lax:=hd.mat.lt x (by omega)
 have lay:=hd.mat.lt (m1.length+y) (by omega)
 have gz: ∀z,z<4*(s1.length+s2.length)->(csM m1 m2 x y).getD z 0=crs (fun x=>(Sp.unM m1 m2).getD x.toNat 0) x ((m1.length+y:Nat):Int) z:=g
 have hRc:=fun ch=>ym6 (ch:=ch) hpu.ok hpu.inv hpu.ne
 have hcr:=y9x hi (hRc fun _=>false) (x:=x) (y:=m1.length+y) (by omega) (by omega) (fun e=>by
  have:=yz0 hp1 (fun _=>false) (x:=x) (by omega) (((hRc fun _=>false).iff _ _ (by omega) (by omega)).1 e)
  omega)
 have hmt: ∀z,InR (s1.length+s2.length) z->crs (fun x=>(Sp.unM m1 m2).getD x.toNat 0) x ((m1.length+y:Nat):Int) z=(csM m1 m2 x y).getD z.toNat 0:=fun z hz=>by
  unfold InR at hz
  have:=gz z.toNat (by omega)
  rw [this,show ((z.toNat:Nat):Int)=z by omega]
 have hxY: ¬Cir (fun x=>(Sp.unM m1 m2).getD x.toNat 0) (fun x=>jnB ((fun _=>false) (x/4).toNat) x) (x:Int) ((m1.length+y:Nat):Int):=fun e=>by
  have:=yz0 hp1 (fun _=>false) (x:=x) (by omega) e
  omega
 have hYx: ¬Cir (fun x=>(Sp.unM m1 m2).getD x.toNat 0) (fun x=>jnB ((fun _=>false) (x/4).toNat) x) ((m1.length+y:Nat):Int) (x:Int):=fun e=>hxY (e.symm hi ry)
 have kx:Sp.KK Sp.siD (Sp.alD (csM m1 m2 x y)) (4*(s1.length+s2.length)) (Sp.alD (Sp.unM m1 m2) x) x:=by
  have e:=ykw hi rx (mt':=fun z=>(csM m1 m2 x y).getD z.toNat 0) (fun w hw e1 e2=>by
   show (csM m1 m2 x y).getD w.toNat 0=_
   rw [←hmt w (hw.rng hi rx)]
   refine ydv e1 e2 (fun e=>hxY (e▸hw)) (fun e=>hxY ?_)
   subst e
   have:=Cir.mate hw
   rwa [hi.mm _ ry] at this) (Cir.refl (x:Int))
  have e':=yz1 hp' (fun _=>false) (x:=Sp.alD (Sp.unM m1 m2) x) lax (z:=x) (by rw [mu x (by omega)];simpa using e)
  simpa using e'
 have ky:Sp.KK Sp.siD (Sp.alD (csM m1 m2 x y)) (4*(s1.length+s2.length)) (Sp.alD (Sp.unM m1 m2) (m1.length+y)) (m1.length+y):=by
  have e:=ykw hi ry (mt':=fun z=>(csM m1 m2 x y).getD z.toNat 0) (fun w hw e1 e2=>by
   show (csM m1 m2 x y).getD w.toNat 0=_
   rw [←hmt w (hw.rng hi ry)]
   refine ydv (fun e=>hYx (e▸hw)) (fun e=>hYx ?_) e1 e2
   subst e
   have:=Cir.mate hw
   rwa [hi.mm _ rx] at this) (Cir.refl ((m1.length+y:Nat):Int))
  have e':=yz1 hp' (fun _=>false) (x:=Sp.alD (Sp.unM m1 m2) (m1.length+y)) lay (z:=((m1.length+y:Nat):Int)) (by rw [mu _ (by omega)];simp only [Int.toNat_natCast] at e⊢;exact e)
  rw [Int.toNat_natCast] at e';exact e'
 have hE':=Sp.K_eqv (Sp.siD_perm (s1.length+s2.length)) hD.mat
 have hS':Sp.Sph (4*(s1.length+s2.length)) Sp.siD (Sp.alD (csM m1 m2 x y)):=by
  refine hS.cross hD.mat (x:=x) (y:=m1.length+y) (by omega) (by omega) (fun hk=>?_) ?_ ?_ ?_ ?_ (fun z hz n1 n2 n3 n4=>?_) (hE'.symm _ _ lax (by omega) kx) (hE'.symm _ _ lay (by omega) ky)
  ·--the parts are not connected
   have:=Sp.K_least (R:=fun a b=>(a<4*s1.length↔b<4*s1.length)) (Sp.siD_perm _) hd.mat ⟨fun _ _=>Iff.rfl,fun _ _ _ _ h=>h.symm,fun _ _ _ _ _ _ h k=>h.trans k⟩ (fun z _=>by have:=Sp.siD_div z;omega) (fun z hz=>by
    have e:=mu z hz
    by_cases hz1:z<4*s1.length
    ·rw [Sp.unM_l (by omega)] at e
     have:=hp1.ok.2 z hz1;omega
    ·have e2:=Sp.unM_r (m1:=m1) (m2:=m2) (i:=z-m1.length) (by omega)
     rw [show m1.length+(z-m1.length)=z by omega] at e2
     have:=hp2.ok.2 (z-m1.length) (by omega);omega) (by omega) (by omega) hk
   omega
  ·have e1:=mc x (by omega);have e2:=gz x (by omega);rw [c1] at e2;have e3:=mu (m1.length+y) (by omega);omega
  ·have e1:=mc _ lay;have e2:=gz _ lay;rw [mu _ (by omega),c2] at e2;omega
  ·have e1:=mc (m1.length+y) (by omega);have e2:=gz (m1.length+y) (by omega);rw [c3] at e2;have e3:=mu x (by omega);omega
  ·have e1:=mc _ lax;have e2:=gz _ lax;rw [mu _ (by omega),c4] at e2;omega
  ·have e1:=mc z hz
   have e2:=gz z hz
   have e3:=mu x (by omega)
   have e4:=mu (m1.length+y) (by omega)
   have e5:=mu z hz
   rw [ydv (by omega) (by simp only [Int.toNat_natCast];omega) (by omega) (by simp only [Int.toNat_natCast];omega)] at e2
   simp only [Int.toNat_natCast] at e2
   omega
 rw [yg0]
 unfold ygz
 rw [hsl,Bool.and_eq_true]
 refine ⟨?_,hD.sph.2 hS'⟩
 unfold ycn
 rw [decide_eq_true_iff,hsl]
 have hs':=v.sg
 rw [hsl] at hs'
 refine ⟨hn,hD.prd.ok.1,v.l0,hL,hs',fun z hz=>?_⟩
 have q:=hD.prd.ok.2 z hz
 refine ⟨q.1,by rw [hsl];exact q.2,hD.ne z hz,hD.prd.inv z hz,?_⟩
 have old: ∀w:Nat,w<4*(s1.length+s2.length)->outB (s1++s2) w≠outB (s1++s2) ((Sp.unM m1 m2).getD w 0):=fun w hw=>(v.mt w (by rw [hsl];exact hw)).2.2.2.2
 have oxu:outB (s1++s2) (x:Int)=true:=by rw [Sp.outB_l (by omega) (by omega)];exact ox
 have oyu:outB (s1++s2) ((m1.length+y:Nat):Int)=true:=by
  rw [show ((m1.length+y:Nat):Int)=(y:Int)+4*s1.length by omega,Sp.outB_r (by omega)];exact oy
 have opu:=old x (by omega)
 have oqu:=old (m1.length+y) (by omega)
 rw [oxu] at opu
 rw [oyu] at oqu
 rw [gz z hz]
 have px:=hpu.ok.2 x (by omega)
 have py:=hpu.ok.2 (m1.length+y) (by omega)
 by_cases n1:z=x
 ·subst n1;rw [c1,oxu];exact oqu
 ·by_cases n2:(z:Int)=(Sp.unM m1 m2).getD (m1.length+y) 0
  ·rw [n2,c2,oxu];exact Ne.symm oqu
  ·by_cases n3:z=m1.length+y
   ·subst n3;rw [c3,oyu];exact opu
   ·by_cases n4:(z:Int)=(Sp.unM m1 m2).getD x 0
    ·rw [n4,c4,oyu];exact Ne.symm opu
    ·rw [ydv (by omega) (by simp only [Int.toNat_natCast];omega) (by omega) (by simp only [Int.toNat_natCast];omega)]
     simp only [Int.toNat_natCast]
     exact old z hz
end
end Go.Proofs.YtjpnnnognoaaiaaGreatDoor
