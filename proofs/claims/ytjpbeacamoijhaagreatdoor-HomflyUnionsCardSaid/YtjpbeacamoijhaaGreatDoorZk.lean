/- Plain: the connected sum is a diagram on the sphere, and its bracket is the product of the brackets. -/
import Derived.Test.YtjpbeacamoijhaaGreatDoorZj
import Derived.Test.YtjpbeacamoijhaaGreatDoorZh
import Derived.Test.YtjpbeacamoijhaaGreatDoorZg
namespace Go.Proofs.YtjpbeacamoijhaaGreatDoor
set_option linter.unusedSimpArgs false
set_option linter.unusedVariables false
namespace Sp
open Classical
section
variable {N:Nat} {si al al':Nat->Nat}
theorem fq.H8 (h:fq N si al) (cG:mX N al') {x y:Nat} (hx:x<N) (hy:y<N) (eJ: ¬KK si al N x y) (e1:al' x=al y) (e2:al' (al y)=x) (e3:al' y=al x) (e4:al' (al x)=y)
  (e5: ∀z,z<N->z≠x->z≠y->z≠al x->z≠al y->al' z=al z) (CF:KK si al' N x (al x)) (KD:KK si al' N y (al y)):fq N si al':=by
 have hs:=h.perm;have ha:=h.e7;have hE:=dD hs ha;have bK:=dD hs cG;obtain ⟨p,ep⟩: ∃p,al x=p:=⟨_,rfl⟩;obtain ⟨q,eq⟩: ∃q,al y=q:=⟨_,rfl⟩;rw [ep] at CF e3 e4 e5;rw [eq] at KD e1 e2 e5;have lp:p<N:=ep▸ha.lt x hx;have lq:q<N:=eq▸ha.lt y hy;have ip:al p=x:=by rw [<-ep];exact ha.inv x hx
 have iq:al q=y:=by rw [<-eq];exact ha.inv y hy
 have Gw:KK si al N x p:=ep▸dI hs ha hx;have Gu:KK si al N y q:=eq▸dI hs ha hy;have Gl:x≠y:=fun e=>eJ (e▸hE.bW x hx);have XR:p≠x:=ep▸ha.ne x hx;have XO:q≠y:=eq▸ha.ne y hy;have XQ:p≠y:=fun e=>eJ (e▸Gw);have XP:q≠x:=fun e=>eJ (hE.symm _ _ hy hx (e▸Gu));have XS:p≠q:=fun e=>Gl (by rw [<-ip,e,iq]);have cs: ∀z,z<N->z=x\/z=y\/z=p\/z=q\/(z≠x/\z≠y/\z≠p/\z≠q/\al' z=al z):=fun z hz=>by
  by_cases h1:z=x
  ·exact .inl h1
  ·by_cases h2:z=y
   ·exact .inr (.inl h2)
   ·by_cases h3:z=p
    ·exact .inr (.inr (.inl h3))
    ·by_cases h4:z=q
     ·exact .inr (.inr (.inr (.inl h4)))
     ·exact .inr (.inr (.inr (.inr ⟨h1,h2,h3,h4,e5 z hz h1 h2 h3 h4⟩)))
 have Gv:KK si al' N x q:=e1▸dI hs cG hx;have z8:KK si al' N x y:=bK.trans _ _ _ hx lq hy Gv (bK.symm _ _ hy lq KD);have aN: ∀a b,a<N->b<N->KK si al N a b->KK si al' N a b:=fun a b bH hb hk=>by
  refine bU hs ha bK (fun z hz=>iu hs cG hz) (fun z hz=>?_) bH hb hk;rcases cs z hz with rfl|rfl|rfl|rfl|⟨_,_,_,_,e⟩
  ·rw [ep];exact CF
  ·rw [eq];exact KD
  ·rw [ip];exact bK.symm _ _ hx hz CF
  ·rw [iq];exact bK.symm _ _ hy hz KD
  ·rw [<-e];exact dI hs cG hz
 have EJ: ∀a b,a<N->b<N->(KK si al' N a b↔jJ (KK si al N) x y a b):=fun a b bH hb=>by
  constructor
  ·intro hk;refine bU hs cG (jJ.eqv hE hx hy) (fun z hz=> .inl (iu hs ha hz)) (fun z hz=>?_) bH hb hk;rcases cs z hz with rfl|rfl|rfl|rfl|⟨_,_,_,_,e⟩
   ·rw [e1];exact .inr (.inl ⟨hE.bW _ hz,Gu⟩)
   ·rw [e3];exact .inr (.inr ⟨hE.bW _ hz,Gw⟩)
   ·rw [e4];exact .inr (.inl ⟨hE.symm _ _ hx hz Gw,hE.bW _ hy⟩)
   ·rw [e2];exact .inr (.inr ⟨hE.symm _ _ hy hz Gu,hE.bW _ hx⟩)
   ·rw [e];exact .inl (dI hs ha hz)
  ·rintro (e|⟨f1,f2⟩|⟨f1,f2⟩)
   ·exact aN _ _ bH hb e
   ·exact bK.trans _ _ _ bH hx hb (aN _ _ bH hx f1) (bK.trans _ _ _ hx hy hb z8 (aN _ _ hy hb f2))
   ·exact bK.trans _ _ _ bH hy hb (aN _ _ bH hy f1) (bK.trans _ _ _ hy hx hb (bK.symm _ _ hx hy z8) (aN _ _ hx hb f2))
 have jL:=rA hs ha N (zzA _);have jE:=rA hs cG N (zzA _);have az:=vX jL hx hy;have aU:=vX az lp lq;have vz: ∀z,z<N->swp (swp (bB si al N) x y) p q z=bB si al' N z:=fun z hz=>by
  rw [cD cG hz];rcases cs z hz with rfl|rfl|rfl|rfl|⟨h1,h2,h3,h4,e⟩
  ·unfold swp;rw [zzI (Ne.symm XR),zzI (Ne.symm XP),zzJ rfl,cD ha hy,eq,e1]
  ·unfold swp;rw [zzI (Ne.symm XQ),zzI (Ne.symm XO),zzI (Ne.symm Gl),zzJ rfl,cD ha hx,ep,e3]
  ·unfold swp;rw [zzJ rfl,zzI XP,zzI XO,cD ha lq,iq,e4]
  ·unfold swp;rw [zzI (Ne.symm XS),zzJ rfl,zzI XR,zzI XQ,cD ha lp,ip,e2]
  ·unfold swp;rw [zzI h3,zzI h4,zzI h1,zzI h2,cD ha hz,e]
 refine ⟨hs,cG,fun r hr kV kF oJ nB=>?_⟩;by_cases hrx:KK si al' N x r
 ·have iD: ∀z,z<N->((KK si al N x z\/KK si al N y z)↔KK si al' N r z):=fun z hz=>by
   have e:KK si al' N r z↔KK si al' N x z:=⟨fun e=>bK.trans _ _ _ hx hr hz hrx e,fun e=>bK.trans _ _ _ hr hx hz (bK.symm _ _ hx hr hrx) e⟩;rw [e,EJ x z hx hz];constructor
   ·rintro (g|g)
    ·exact .inl g
    ·exact .inr (.inl ⟨hE.bW _ hx,g⟩)
   ·rintro (g|⟨_,g⟩|⟨g,_⟩)
    ·exact .inl g
    ·exact .inr g
    ·exact absurd g eJ
  have lg: ∀z,z<N->KK si al N x z-> ¬KK si al N y z:=fun z hz f1 f2=>eJ (hE.trans _ _ _ hx hz hy f1 (hE.symm _ _ hy hz f2));obtain ⟨xV,X4⟩:=Tr.exists (SC.eqv hs) (KK si al N x);obtain ⟨xF,X5⟩:=Tr.exists (SC.eqv jL) (KK si al N x);obtain ⟨yV,XZ⟩:=Tr.exists (SC.eqv hs) (KK si al N y);obtain ⟨yF,X0⟩:=Tr.exists (SC.eqv jL) (KK si al N y);have q1:=h.eq x hx xV xF X4 X5
  have q2:=h.eq y hy yV yF XZ X0
  have CU: ∀a b,a<N->b<N->KK si al N x a->KK si al N y b-> ¬SC si a b/\ ¬SC si b a:=fun a b bH hb f1 f2=>
   ⟨fun e=>lg b hb (hE.trans _ _ _ hx bH hb f1 (ri hs ha bH e)) f2,fun e=>lg a bH f1 (hE.trans _ _ _ hy hb bH f2 (ri hs ha hb e))⟩
  have CV: ∀a b,a<N->b<N->KK si al N x a->KK si al N y b-> ¬SC (bB si al N) a b/\ ¬SC (bB si al N) b a:=fun a b bH hb f1 f2=>
   ⟨fun e=>lg b hb (hE.trans _ _ _ hx bH hb f1 (tX hs ha bH e)) f2,fun e=>lg a bH f1 (hE.trans _ _ _ hy hb bH f2 (tX hs ha hb e))⟩
  have aV:=((X4.append XZ CU lg).ct iD (E':=SC si) (fun _ _ _ _ _ _=>Iff.rfl)).bN (SC.eqv hs) oJ;have aF:=X5.append X0 CV lg;obtain ⟨F1,uN⟩:=Tr.exists (SC.eqv az) (fun z=>KK si al N x z\/KK si al N y z);have CN: ¬SC (bB si al N) x y:=fun e=>eJ (tX hs ha hx e)
  have b1:=aF.join (SC.eqv jL) hx hy (.inl (hE.bW _ hx)) (.inr (hE.bW _ hy)) CN (uN.congr (tc jL hx hy CN))
  have He:Tr N (fun z=>KK si al N x z\/KK si al N y z) (SC (swp (swp (bB si al N) x y) p q)) kF:=
   nB.ct (fun z hz=>(iD z hz).symm) (fun a b bH hb _ _=>(wO aU vz bH).symm)
  have b2:F1.length<=kF.length+1:=by
   by_cases jR:SC (swp (bB si al N) x y) p q
   ·have hn:=zK az lp XS jR;have hj:=tc aU lp lq hn;rw [zJ] at hj
    have:=He.join (SC.eqv aU) lp lq (.inl Gw) (.inr Gu) hn (uN.congr hj)
    omega
   ·have:=uN.join (SC.eqv az) lp lq (.inl Gw) (.inr Gu) jR (He.congr (tc az lp lq jR))
    omega
  have b3:=E3 hs cG hr oJ nB;have c1:=wM ha (iG hs ha hx).2;have c2:=wM ha (iG hs ha hy).2;have c3:=wM cG (iG hs cG hr).2;have c4:cU (KK si al' N r) N=cU (KK si al N x) N+cU (KK si al N y) N:=by
   rw [<-IM (fun z hz e=>lg z hz e)];exact JU fun z hz=>(iD z hz).symm
  rw [zzF] at aV b1;omega
 ·--another component
  have nS: ∀z,z<N->(KK si al' N r z↔KK si al N r z):=fun z hz=>by
   refine ⟨fun e=>?_,aN r z hr hz⟩;rcases (EJ r z hr hz).1 e with g|⟨g,_⟩|⟨g,_⟩
   ·exact g
   ·exact absurd (bK.symm _ _ hr hx (aN _ _ hr hx g)) hrx
   ·exact absurd (bK.trans _ _ _ hx hy hr z8 (bK.symm _ _ hr hy (aN _ _ hr hy g))) hrx
  have jF: ∀z,z<N->KK si al N r z->al' z=al z:=fun z hz e=>by
   have e':=aN _ _ hr hz e;have hb: ∀w,w<N->KK si al' N x w->z≠w:=fun w hw f g=>hrx (bK.trans _ _ _ hx hz hr (g▸f) (bK.symm _ _ hr hz e'));exact e5 z hz (hb x hx (bK.bW _ hx)) (hb y hy z8) (hb p lp CF) (hb q lq Gv)
  have jR: ∀a b,a<N->KK si al N r a->(SC (bB si al' N) a b↔SC (bB si al N) a b):=fun a b bH hU=>by
   have hi: ∀k,KK si al N r (itn (bB si al' N) k a)/\itn (bB si al' N) k a=itn (bB si al N) k a:=fun k=>by
    induction k with
    |zero=>exact ⟨hU,rfl⟩
    |succ k ih=>
     have lt:=jE.bC bH k;have e:bB si al' N (itn (bB si al' N) k a)=bB si al N (itn (bB si al' N) k a):=by rw [cD cG lt,cD ha lt,jF _ lt ih.1]
     refine ⟨?_,by simp only [itn];rw [e,ih.2]⟩;simp only [itn];rw [e,cD ha lt];exact ((iG hs ha hr).1 _ (ha.lt _ lt)).1 (((iG hs ha hr).2 _ lt).1 ih.1)
   constructor
   ·rintro ⟨k,rfl⟩;exact ⟨k,(hi k).2.symm⟩
   ·rintro ⟨k,rfl⟩;exact ⟨k,(hi k).2⟩
  have t1:Tr N (KK si al N r) (SC si) kV:=oJ.ct nS (fun _ _ _ _ _ _=>Iff.rfl);have t2:Tr N (KK si al N r) (SC (bB si al N)) kF:=nB.ct nS (fun a b bH _ hU _=>jR a b bH ((nS a bH).1 hU));rw [h.eq r hr kV kF t1 t2];congr 1;refine A9 fun z hz=>?_;rw [nS z hz];constructor
  ·rintro ⟨f,g⟩;exact ⟨f,by rw [jF z hz f];exact g⟩
  ·rintro ⟨f,g⟩;exact ⟨f,by rw [<-jF z hz f];exact g⟩
end
end Sp
section
variable {s1 s2 m1 m2:List Int} {L1 L2:Int} {n1 n2:Nat}
def iO (m1 m2:List Int) (x y:Nat):List Int:=AG (Sp.bZ m1 m2) x (m1.length+y)
theorem WI (az:iF m1 n1) (ch:Nat->Bool) {x z:Int} (hx:0<=x/\x<4*n1) (h:aX (fun x=>(Sp.bZ m1 m2).getD x.toNat 0) (fun x=>aI (ch (x/4).toNat) x) x z):0<=z/\z<4*n1:=by
 have hl:=az.ok.1;have hi:=wK az.ok az.inv az.ne ch
 induction h with
 |refl=>exact hx
 | @mate z _ ih=>
   show 0<=(Sp.bZ m1 m2).getD z.toNat 0/\(Sp.bZ m1 m2).getD z.toNat 0<4*n1;rw [Sp.qq (by omega)]
   have:=az.ok.2 z.toNat (by omega);omega
 | @join z _ ih=>
   have:=hi.jr z (by unfold av;omega)
   unfold av at this;omega
theorem Nk (az:iF m1 n1) {x y:Nat} (hx:x<4*n1):((m1.length+y:Nat):Int)≠x/\((m1.length+y:Nat):Int)≠(Sp.bZ m1 m2).getD x 0:=by
 have hl:=az.ok.1
 have:=az.ok.2 x hx
 rw [Sp.qq (by omega)];omega
theorem H6 (az:iF m1 n1) (aU:iF m2 n2) (sV:iF (Sp.bZ m1 m2) (n1+n2)) {x y:Nat} (hx:x<4*n1) (hy:y<4*n2):iF (iO m1 m2 x y) (n1+n2):=by
 have hl:=az.ok.1;obtain ⟨h1,h2⟩:=Nk (m2:=m2) (y:=y) az hx;exact Ow sV (by omega) (by omega) h1 h2
theorem WH {m:List Int} {n:Nat} (hp:iF m n) (ch:Nat->Bool) {x:Nat} {z:Int} (hx:x<4*n) (h:aX (fun x=>m.getD x.toNat 0) (fun x=>aI (ch (x/4).toNat) x) x z):Sp.KK Sp.bt (Sp.aW m) (4*n) x z.toNat:=by
 have hi:=wK hp.ok hp.inv hp.ne ch;have hD:Sp.oA m n:=⟨⟨hp.ok,hp.inv⟩,hp.ne⟩;have hE:=Sp.dD (Sp.aO n) hD.e7;have key: ∀z,aX (fun x=>m.getD x.toNat 0) (fun x=>aI (ch (x/4).toNat) x) x z->av n z/\Sp.KK Sp.bt (Sp.aW m) (4*n) x z.toNat:=fun z h=>by
  induction h with
  |refl=>exact ⟨by unfold av;omega,by simpa using hE.bW _ hx⟩
  | @mate z _ ih=>
    have hr:=hi.mr z ih.1;have h0:=ih.1;unfold av at hr h0;exact ⟨hr,hE.trans _ _ _ hx (by omega) (by omega) ih.2 (Sp.dI (Sp.aO n) hD.e7 (x:=z.toNat) (by omega))⟩
  | @join z _ ih=>
    have hr:=hi.jr z ih.1;have h0:=ih.1;refine ⟨hr,?_⟩;unfold av at hr h0;refine hE.trans _ _ _ hx (by omega) (by omega) ih.2 (Sp.ri (Sp.aO n) hD.e7 (x:=z.toNat) (by omega) (Sp.nr.2 ?_))
    have:aI (ch (z/4).toNat) z/4=z/4:=by unfold aI;rw [s6,sQ];split<;>omega
    omega
 exact (key z h).2
theorem Tm (h1:bf s1 m1 L1=true) (h2:bf s2 m2 L2=true) (hn:s1.length+s2.length<=64) (hL:L1+L2<=64) {x y:Nat} (hx:x<4*s1.length) (hy:y<4*s2.length) (ox:aj s1 x=true) (oy:aj s2 y=true):
  bf (s1++s2) (iO m1 m2 x y) (L1+L2)=true:=by
 have tn:=Sp.dQ h1 h2 hn hL;have v:=bV tn;have cP:(s1++s2).length=s1.length+s2.length:=by simp
 have az:=pX h1;have aU:=pX h2;have sV:=pX tn;rw [cP] at sV;have hl:=az.ok.1;have sw:=aU.ok.1;obtain ⟨f1,f2⟩:=Nk (m2:=m2) (y:=y) az hx;have l5:=H6 az aU sV hx hy;obtain ⟨hd,iw⟩:=Sp.nG tn;have hS:=hd.te.1 iw;rw [cP] at hd hS;have hD:Sp.oA (iO m1 m2 x y) (s1.length+s2.length):=⟨⟨l5.ok,l5.inv⟩,l5.ne⟩
 have g:=fun z hz=>Mh sV (x:=x) (y:=m1.length+y) (by omega) (by omega) f1 f2 (z:=z) hz;have hi:=wK sV.ok sV.inv sV.ne fun _=>false;have rx:av (s1.length+s2.length) (x:Int):=by unfold av;omega
 have ry:av (s1.length+s2.length) ((m1.length+y:Nat):Int):=by unfold av;omega
 have f2':((m1.length+y:Nat):Int)≠(fun x:Int=>(Sp.bZ m1 m2).getD x.toNat 0) (x:Int):=by simpa using f2
 obtain ⟨c1,c2,c3,c4⟩:=LD hi rx ry f1 f2';simp only [zzC] at c1 c2 c3 c4;have mu: ∀z,z<4*(s1.length+s2.length)->((Sp.aW (Sp.bZ m1 m2) z:Nat):Int)=(Sp.bZ m1 m2).getD z 0:=fun z hz=>hd.cast hz;have mc: ∀z,z<4*(s1.length+s2.length)->((Sp.aW (iO m1 m2 x y) z:Nat):Int)=(iO m1 m2 x y).getD z 0:=fun z hz=>hD.cast hz;have lax:=hd.e7.lt x (by omega)
 have lay:=hd.e7.lt (m1.length+y) (by omega);have gz: ∀z,z<4*(s1.length+s2.length)->(iO m1 m2 x y).getD z 0=lh (fun x=>(Sp.bZ m1 m2).getD x.toNat 0) x ((m1.length+y:Nat):Int) z:=g;have zt:=fun ch=>EP (ch:=ch) sV.ok sV.inv sV.ne;have Qo:=H7 hi (zt fun _=>false) (x:=x) (y:=m1.length+y) (by omega) (by omega) (fun e=>by
  have:=WI az (fun _=>false) (x:=x) (by omega) (((zt fun _=>false).iff _ _ (by omega) (by omega)).1 e)
  omega)
 have nv: ∀z,av (s1.length+s2.length) z->lh (fun x=>(Sp.bZ m1 m2).getD x.toNat 0) x ((m1.length+y:Nat):Int) z=(iO m1 m2 x y).getD z.toNat 0:=fun z hz=>by
  unfold av at hz
  have:=gz z.toNat (by omega)
  rw [this,show ((z.toNat:Nat):Int)=z by omega]
 have Pm: ¬aX (fun x=>(Sp.bZ m1 m2).getD x.toNat 0) (fun x=>aI ((fun _=>false) (x/4).toNat) x) (x:Int) ((m1.length+y:Nat):Int):=fun e=>by
  have:=WI az (fun _=>false) (x:=x) (by omega) e
  omega
 have YT: ¬aX (fun x=>(Sp.bZ m1 m2).getD x.toNat 0) (fun x=>aI ((fun _=>false) (x/4).toNat) x) ((m1.length+y:Nat):Int) (x:Int):=fun e=>Pm (e.symm hi ry);have kx:Sp.KK Sp.bt (Sp.aW (iO m1 m2 x y)) (4*(s1.length+s2.length)) (Sp.aW (Sp.bZ m1 m2) x) x:=by
  have e:=Jp hi rx (mt':=fun z=>(iO m1 m2 x y).getD z.toNat 0) (fun w hw e1 e2=>by
   show (iO m1 m2 x y).getD w.toNat 0=_;rw [<-nv w (hw.iP hi rx)];refine y6 e1 e2 (fun e=>Pm (e▸hw)) (fun e=>Pm ?_);subst e
   have:=aX.mate hw
   rwa [hi.mm _ ry] at this) (aX.refl (x:Int))
  have e':=WH l5 (fun _=>false) (x:=Sp.aW (Sp.bZ m1 m2) x) lax (z:=x) (by rw [mu x (by omega)];simpa using e);simpa using e'
 have ky:Sp.KK Sp.bt (Sp.aW (iO m1 m2 x y)) (4*(s1.length+s2.length)) (Sp.aW (Sp.bZ m1 m2) (m1.length+y)) (m1.length+y):=by
  have e:=Jp hi ry (mt':=fun z=>(iO m1 m2 x y).getD z.toNat 0) (fun w hw e1 e2=>by
   show (iO m1 m2 x y).getD w.toNat 0=_;rw [<-nv w (hw.iP hi ry)];refine y6 (fun e=>YT (e▸hw)) (fun e=>YT ?_) e1 e2;subst e
   have:=aX.mate hw
   rwa [hi.mm _ rx] at this) (aX.refl ((m1.length+y:Nat):Int))
  have e':=WH l5 (fun _=>false) (x:=Sp.aW (Sp.bZ m1 m2) (m1.length+y)) lay (z:=((m1.length+y:Nat):Int)) (by rw [mu _ (by omega)];simp only [zzC] at e⊢;exact e);rw [zzC] at e';exact e'
 have bK:=Sp.dD (Sp.aO (s1.length+s2.length)) hD.e7;have Av:Sp.fq (4*(s1.length+s2.length)) Sp.bt (Sp.aW (iO m1 m2 x y)):=by
  refine hS.H8 hD.e7 (x:=x) (y:=m1.length+y) (by omega) (by omega) (fun hk=>?_) ?_ ?_ ?_ ?_ (fun z hz n1 n2 n3 n4=>?_) (bK.symm _ _ lax (by omega) kx) (bK.symm _ _ lay (by omega) ky)
  ·--the parts are not connected
   have:=Sp.bU (R:=fun a b=>(a<4*s1.length↔b<4*s1.length)) (Sp.aO _) hd.e7 ⟨fun _ _=>Iff.rfl,fun _ _ _ _ h=>h.symm,fun _ _ _ _ _ _ h k=>h.trans k⟩ (fun z _=>by have:=Sp.kg z;omega) (fun z hz=>by
    have e:=mu z hz;by_cases p8:z<4*s1.length
    ·rw [Sp.qq (by omega)] at e
     have:=az.ok.2 z p8;omega
    ·have e2:=Sp.uw (m1:=m1) (m2:=m2) (i:=z-m1.length) (by omega);rw [show m1.length+(z-m1.length)=z by omega] at e2
     have:=aU.ok.2 (z-m1.length) (by omega);omega) (by omega) (by omega) hk
   omega
  ·have e1:=mc x (by omega);have e2:=gz x (by omega);rw [c1] at e2;have e3:=mu (m1.length+y) (by omega);omega
  ·have e1:=mc _ lay;have e2:=gz _ lay;rw [mu _ (by omega),c2] at e2;omega
  ·have e1:=mc (m1.length+y) (by omega);have e2:=gz (m1.length+y) (by omega);rw [c3] at e2;have e3:=mu x (by omega);omega
  ·have e1:=mc _ lax;have e2:=gz _ lax;rw [mu _ (by omega),c4] at e2;omega
  ·have e1:=mc z hz;have e2:=gz z hz;have e3:=mu x (by omega);have e4:=mu (m1.length+y) (by omega);have e5:=mu z hz;rw [y6 (by omega) (by simp only [zzC];omega) (by omega) (by simp only [zzC];omega)] at e2;simp only [zzC] at e2;omega
 rw [Cf];unfold zH;rw [cP,zzS];refine ⟨?_,hD.te.2 Av⟩;unfold rz;rw [decide_eq_true_iff,cP];have bJ:=v.sg;rw [cP] at bJ;refine ⟨hn,hD.dw.ok.1,v.l0,hL,bJ,fun z hz=>?_⟩;have q:=hD.dw.ok.2 z hz;refine ⟨q.1,by rw [cP];exact q.2,hD.ne z hz,hD.dw.inv z hz,?_⟩
 have y9: ∀w:Nat,w<4*(s1.length+s2.length)->aj (s1++s2) w≠aj (s1++s2) ((Sp.bZ m1 m2).getD w 0):=fun w hw=>(v.mt w (by rw [cP];exact hw)).2.2.2.2;have OV:aj (s1++s2) (x:Int)=true:=by rw [Sp.tg (by omega) (by omega)];exact ox
 have OU:aj (s1++s2) ((m1.length+y:Nat):Int)=true:=by
  rw [show ((m1.length+y:Nat):Int)=(y:Int)+4*s1.length by omega,Sp.tf (by omega)];exact oy
 have OY:=y9 x (by omega);have OX:=y9 (m1.length+y) (by omega);rw [OV] at OY;rw [OU] at OX;rw [gz z hz];have px:=sV.ok.2 x (by omega);have py:=sV.ok.2 (m1.length+y) (by omega);by_cases n1:z=x
 ·subst n1;rw [c1,OV];exact OX
 ·by_cases n2:(z:Int)=(Sp.bZ m1 m2).getD (m1.length+y) 0
  ·rw [n2,c2,OV];exact Ne.symm OX
  ·by_cases n3:z=m1.length+y
   ·subst n3;rw [c3,OU];exact OY
   ·by_cases n4:(z:Int)=(Sp.bZ m1 m2).getD x 0
    ·rw [n4,c4,OU];exact Ne.symm OY
    ·rw [y6 (by omega) (by simp only [zzC];omega) (by omega) (by simp only [zzC];omega)];simp only [zzC];exact y9 z hz
end
namespace Hs
open Sp (fq bt aw itn SC aW)
section
variable {s1 m1 s2 m2:List Int} {L1 L2:Int}
theorem D3 (c:Nat):(c<s1.length->(s1++s2).getD c 0=s1.getD c 0)/\(s1++s2).getD (s1.length+c) 0=s2.getD c 0:=by
 refine ⟨fun h=>by simp [zzB,List.getElem?_append_left h],?_⟩;simp [zzB,List.getElem?_append_right]
theorem Ll (m:List Int) {a:Nat} (ha:a<2*s1.length):aH (ak (s1++s2) m) a=aH (ak s1 m1) a:=by
 unfold aH
 have:(ak (s1++s2) m).sg (a/2)=(ak s1 m1).sg (a/2):=(D3 _).1 (by omega)
 rw [this]
theorem Lk (m:List Int) (a:Nat):aH (ak (s1++s2) m) (2*s1.length+a)=4*s1.length+aH (ak s2 m2) a:=by
 unfold aH;have e:(2*s1.length+a)/2=s1.length+a/2:=by omega
 have:(ak (s1++s2) m).sg ((2*s1.length+a)/2)=(ak s2 m2).sg (a/2):=by rw [e];exact (D3 _).2
 rw [this,e];by_cases h:a % 2=0
 ·rw [zzJ h,zzJ (by omega)];omega
 ·rw [zzI h,zzI (by omega)]
  split<;>omega
theorem Mf (n h:Nat):aM (4*n+h)=2*n+aM h:=by unfold aM;omega
theorem NZ (h1:bf s1 m1 L1=true) (h2:bf s2 m2 L2=true) (hn:s1.length+s2.length<=64) (hL:L1+L2<=64) {x y:Nat} (hx:x<4*s1.length) (hy:y<4*s2.length) (ox:aj s1 (x:Int)=true) (oy:aj s2 (y:Int)=true):
  x8 (ak (s1++s2) (iO m1 m2 x y)) (ak s1 m1) (ak s2 m2) (aM x) (aM y):=by
 have v1:=bV h1;have v2:=bV h2;have az:=pX h1;have aU:=pX h2;have sV:=pX (Sp.dQ h1 h2 hn hL);have cP:(s1++s2).length=s1.length+s2.length:=by simp
 rw [cP] at sV;have hl:=az.ok.1;have sw:=aU.ok.1;obtain ⟨f1,f2⟩:=Nk (m2:=m2) (y:=y) az hx;have g:=fun z hz=>Mh sV (x:=x) (y:=m1.length+y) (by omega) (by omega) f1 f2 (z:=z) hz;have ex:=(wP (m:=m1) v1.sg hx).2 ox;have ey:=(wP (m:=m2) v2.sg hy).2 oy;have uC:aM x<2*s1.length:=by unfold aM;omega
 have zg:aM y<2*s2.length:=by unfold aM;omega
 have u1: ∀a,a<2*s1.length->(Sp.bZ m1 m2).getD (aH (ak s1 m1) a) 0=((cB (ak s1 m1) ((ak s1 m1).nx a):Nat):Int):=fun a ha=>by
  have lo:=qk (D:=ak s1 m1) ha;have Cz:aH (ak s1 m1) a<4*s1.length:=lo;rw [Sp.qq (by omega),<-u5 v1 ha,(uq v1 lo).2.1]
 have u2: ∀a,a<2*s2.length->(Sp.bZ m1 m2).getD (m1.length+aH (ak s2 m2) a) 0=((4*s1.length+cB (ak s2 m2) ((ak s2 m2).nx a):Nat):Int):=fun a ha=>by
  have lo:=qk (D:=ak s2 m2) ha;have Cz:aH (ak s2 m2) a<4*s2.length:=lo;rw [Sp.uw (by omega),hl];have e1:=(uq v2 lo).2.1;have e2:=u5 v2 ha;rw [<-e2];omega
 have mx:(Sp.bZ m1 m2).getD x 0=((cB (ak s1 m1) ((ak s1 m1).nx (aM x)):Nat):Int):=by
  have:=u1 _ uC;rwa [<-ex] at this
 have my:(Sp.bZ m1 m2).getD (m1.length+y) 0=((4*s1.length+cB (ak s2 m2) ((ak s2 m2).nx (aM y)):Nat):Int):=by
  have:=u2 _ zg;rwa [<-ey] at this
 have ilx:=BP (D:=ak s1 m1) ((nO v1).lt _ uC);have ilx':cB (ak s1 m1) ((ak s1 m1).nx (aM x))<4*s1.length:=ilx;have XM:=(yW (m:=m1) v1.sg ((nO v1).lt _ uC)).1;have Kx:=(yW (m:=m2) v2.sg ((nO v2).lt _ zg)).1;have Cu: ∀z w,(iO m1 m2 x y).getD z 0=((w:Nat):Int)->aM (aW (iO m1 m2 x y) z)=aM w:=fun z w h=>by unfold aW;rw [h,zzC]
 have xl:(ak (s1++s2) (iO m1 m2 x y)).n=(s1++s2).length:=rfl;refine ⟨cP,fun c hc=>(D3 c).1 hc,fun c _=>(D3 c).2,fun a ha aA=>?_,fun a ha aA=>?_,fun _=>?_,fun _=>?_,⟨fun _=>zg,fun _=>uC⟩⟩
 ·have cG:a<2*s1.length:=ha;have Cz:aH (ak s1 m1) a<4*s1.length:=qk (D:=ak s1 m1) ha;have oo:=(yW (m:=m1) v1.sg cG).2;have e:(iO m1 m2 x y).getD (aH (ak s1 m1) a) 0=((cB (ak s1 m1) ((ak s1 m1).nx a):Nat):Int):=by
   refine (g _ (by omega)).trans ?_;unfold lh;simp only [zzC];rw [zzI,zzI,zzI,zzI,u1 a cG]
   ·rw [mx];intro e;rw [e] at oo;rw [oo] at XM;cases XM
   ·omega
   ·rw [my];omega
   ·intro e;refine aA ?_
    have:aH (ak s1 m1) a=x:=by omega
    rw [<-this,D7]
  show aM (aW (iO m1 m2 x y) (aH (ak (s1++s2) (iO m1 m2 x y)) a))=_;rw [Ll (m1:=m1) _ cG,Cu _ _ e,zG]
 ·have cG:a<2*s2.length:=ha;have Cz:aH (ak s2 m2) a<4*s2.length:=qk (D:=ak s2 m2) ha;have oo:=(yW (m:=m2) v2.sg cG).2;have e:(iO m1 m2 x y).getD (m1.length+aH (ak s2 m2) a) 0=((4*s1.length+cB (ak s2 m2) ((ak s2 m2).nx a):Nat):Int):=by
   refine (g _ (by omega)).trans ?_;unfold lh;simp only [zzC];rw [zzI,zzI,zzI,zzI,u2 a cG]
   ·rw [mx];omega
   ·intro e;refine aA ?_
    have:aH (ak s2 m2) a=y:=by omega
    rw [<-this,D7]
   ·rw [my];intro e
    have:aH (ak s2 m2) a=cB (ak s2 m2) ((ak s2 m2).nx (aM y)):=by omega
    rw [this] at oo;rw [oo] at Kx;cases Kx
   ·omega
  show aM (aW (iO m1 m2 x y) (aH (ak (s1++s2) (iO m1 m2 x y)) (2*s1.length+a)))=2*s1.length+_;rw [Lk (m2:=m2),<-hl,Cu _ _ e,Mf,zG]
 ·have e:(iO m1 m2 x y).getD x 0=((4*s1.length+cB (ak s2 m2) ((ak s2 m2).nx (aM y)):Nat):Int):=by
   refine (g _ (by omega)).trans ?_;unfold lh;simp only [zzC];rw [zzJ trivial,my]
  show aM (aW (iO m1 m2 x y) (aH (ak (s1++s2) (iO m1 m2 x y)) (aM x)))=2*s1.length+_;rw [Ll (m1:=m1) _ uC,<-ex,Cu _ _ e,Mf,zG]
 ·have e:(iO m1 m2 x y).getD (m1.length+y) 0=((cB (ak s1 m1) ((ak s1 m1).nx (aM x)):Nat):Int):=by
   refine (g _ (by omega)).trans ?_;unfold lh;simp only [zzC];rw [zzI,zzI,zzJ trivial,mx]
   ·rw [my];intro e
    have:y=cB (ak s2 m2) ((ak s2 m2).nx (aM y)):=by omega
    rw [this] at oy;rw [oy] at Kx;cases Kx
   ·omega
  show aM (aW (iO m1 m2 x y) (aH (ak (s1++s2) (iO m1 m2 x y)) (2*s1.length+aM y)))=_;rw [Lk (m2:=m2),<-ey,<-hl,Cu _ _ e,zG]
end
theorem J9 {D:Sh} {X X':Int->Int->Nat->Int} {j0:Int} {k0:Nat} (h: ∀i j k,j0<=j->k0<=k->X i j k=X' i j k): ∀(B:List Nat) (S:WS),j0<=S.j->k0<=S.k->run X D B S=run X' D B S
 |[],S,h1,h2=>h _ _ _ h1 h2
 |a::B,S,h1,h2=>by
  show (if S.ae a=true then _ else aY D S.cr a _)=if S.ae a=true then _ else aY D S.cr a _
  split
  ·exact J9 h B S h1 h2
  ·unfold aY;have bj: ∀(S:WS) (b:Nat),∀x∈br D S b,S.j<=x.2.1.j:=fun S b x hx=>by
    unfold br at hx
    split at hx
    ·cases hx
    split at hx
    ·rw [zzM] at hx;subst hx;exact Int.le_refl _
    split at hx
    ·rw [zzM] at hx;subst hx;exact Int.le_refl _
    split at hx
    ·rw [zzM] at hx;subst hx;exact Int.le_refl _
    split at hx
    ·rw [zzM] at hx;subst hx;exact Int.le_refl _
    split at hx
    ·rcases List.mem_cons.1 hx with hx|hx
     ·subst hx;show S.j<=S.j+0;omega
     ·rw [zzM] at hx;subst hx;show S.j<=S.j+1;omega
    ·cases hx
   refine qm fun x hx=>B9 (fun S' _=>j0<=S'.j/\k0<=S'.k) (fun S' b ⟨g1,g2⟩ _ _ y hy=>⟨Int.le_trans g1 (bj S' b y hy),by rw [sJ hy];exact g2⟩) (fun S' b ⟨g1,g2⟩ _=>J9 h B S' g1 g2) ⟨Int.le_trans h1 (bj S.cr a x hx),by rw [sJ hx];show k0<=S.k+1;omega⟩
theorem Nz {D:Sh} {X X':Int->Int->Nat->Int} {k0:Nat} (h: ∀i j k,0<=j->k0+1<=k->X i j k=X' i j k) {b:Nat} (B:List Nat) {st:Nat->Nat}:run X D (b::B) (Z0 st k0)=run X' D (b::B) (Z0 st k0):=by
 show aY D (Z0 st k0).cr b (run X D B)=aY D (Z0 st k0).cr b (run X' D B)
 have: ∀X,aY D (Z0 st k0).cr b (run X D B)=run X D (b::B) (Z0 st k0):=fun _=>rfl
 unfold aY;have bj: ∀(S:WS) (b:Nat),∀x∈br D S b,S.j<=x.2.1.j:=fun S b x hx=>by
  unfold br at hx
  split at hx
  ·cases hx
  split at hx
  ·rw [zzM] at hx;subst hx;exact Int.le_refl _
  split at hx
  ·rw [zzM] at hx;subst hx;exact Int.le_refl _
  split at hx
  ·rw [zzM] at hx;subst hx;exact Int.le_refl _
  split at hx
  ·rw [zzM] at hx;subst hx;exact Int.le_refl _
  split at hx
  ·rcases List.mem_cons.1 hx with hx|hx
   ·subst hx;show S.j<=S.j+0;omega
   ·rw [zzM] at hx;subst hx;show S.j<=S.j+1;omega
  ·cases hx
 refine qm fun x hx=>B9 (fun S' _=>0<=S'.j/\k0+1<=S'.k) (fun S' b ⟨g1,g2⟩ _ _ y hy=>⟨Int.le_trans g1 (bj S' b y hy),by rw [sJ hy];exact g2⟩) (fun S' b ⟨g1,g2⟩ _=>J9 h B S' g1 g2) ⟨Int.le_trans (show 0<=(Z0 st k0).cr.j from Int.le_refl _) (bj _ b x hx),by rw [sJ hx];exact zzA _⟩
theorem Lj {D:Sh} {X:Int->Int->Nat->Int} (l:Nat): ∀(B:List Nat) (S:WS),run X D B {S with k:=S.k+l}=run (fun i j k=>X i j (k+l)) D B S
 |[],S=>rfl
 |a::B,S=>by
  show (if S.ae a=true then _ else aY D {S with k:=S.k+l+1} a (run X D B))=if S.ae a=true then _ else aY D S.cr a _
  split
  ·exact Lj l B S
  ·have e: ∀(T:WS) (b:Nat),br D {T with k:=T.k+l} b=(br D T b).map (jC fun T=>{T with k:=T.k+l}):=fun T b=>by
    unfold br;show (if _ then _ else if T.st (b/2)=2 then _ else if T.st (b/2)=3 then _ else if T.st (b/2)=5 then _ else if T.st (b/2)=b % 2 then _ else if T.st (b/2)=1-b % 2 then _ else _)=_
    split
    ·rfl
    split
    ·rfl
    split
    ·rfl
    split
    ·rfl
    split
    ·rfl
    split
    ·rfl
    ·rfl
   have e1:({S with k:=S.k+l+1}:WS)={S.cr with k:=S.cr.k+l}:=by
    show WS.mk _ _ _ _ _=WS.mk _ _ _ _ _;congr 1;show S.k+l+1=S.k+1+l;omega
   rw [e1];unfold aY;rw [e,Fq];refine qm fun x _=>?_;rw [IL (fun T=>{T with k:=T.k+l}) (fun T b _=>rfl) (fun T b _ _=>e T b)];congr 1;funext T b;exact Lj l B T
theorem R0 {D:Sh} (B:List Nat) (S:WS):tW (fun X:Int×Int×Nat->Int=>run (fun i j k=>X (i,j,k)) D B S):=by
 constructor
 ·intro f g;have key: ∀(B:List Nat) (S:WS),run (fun i j k=>f (i,j,k)+g (i,j,k)) D B S=run (fun i j k=>f (i,j,k)) D B S+run (fun i j k=>g (i,j,k)) D B S:=fun B=>by
   induction B with
   |nil=>intro S;rfl
   |cons a B ih=>
    intro S;show (if S.ae a=true then _ else aY D S.cr a _)=(if S.ae a=true then _ else aY D S.cr a _)+(if S.ae a=true then _ else aY D S.cr a _)
    split
    ·exact ih S
    ·rw [<-MA];congr 1;funext T;exact ih T
  exact key B S
 ·intro c f;have key: ∀(B:List Nat) (S:WS),run (fun i j k=>c*f (i,j,k)) D B S=c*run (fun i j k=>f (i,j,k)) D B S:=fun B=>by
   induction B with
   |nil=>intro S;rfl
   |cons a B ih=>
    intro S;show (if S.ae a=true then _ else aY D S.cr a _)=c*(if S.ae a=true then _ else aY D S.cr a _)
    split
    ·exact ih S
    ·rw [<-Sm];congr 1;funext T;exact ih T
  exact key B S
end Hs
section
variable {s m:List Int} {L:Int} {o nu:Nat->Nat}
end
namespace Hs
open Sp (fq bt aw itn SC aW)
section
variable {D D':Sh} {X:Int->Int->Nat->Int}
end
section
variable {s m s' m':List Int} {L:Int}
end
end Hs
namespace Hs
def dN:Nat->Int->Int
 |0,e=>if e=0 then 1 else 0
 |n+1,e=>dN n (e+1)-dN n (e-1)
theorem pz: ∀(n:Nat) (e:Int),dN n e≠0-> -(n:Int)<=e/\e<=n/\(e-n)% 2=0
 |0,e,h=>by
  unfold dN at h;by_cases h0:e=0
  ·subst h0;decide
  ·rw [zzI h0] at h;exact absurd rfl h
 |n+1,e,h=>by
  unfold dN at h;by_cases h1:dN n (e+1)=0
  ·have:=pz n (e-1) (by intro h2;rw [h1,h2] at h;exact h rfl)
   omega
  ·have:=pz n (e+1) h1
   omega
theorem I3: ∀(n:Nat) (e:Int),-(2^n:Int)<=dN n e/\dN n e<=2^n
 |0,e=>by unfold dN;split<;>decide
 |n+1,e=>by
  unfold dN;have h1:=I3 n (e+1);have h2:=I3 n (e-1);rw [Int.pow_succ];omega
def Xh (a b:Int) (i j:Int) (k:Nat):Int:=if b=j-(k-1) then dN (k-1) (a-i) else 0
theorem Fb (a b:Int):Good (Xh a b):=fun i j k hk=>by
 unfold Xh;obtain ⟨n,rfl⟩: ∃n,k=n+1:=⟨k-1,by omega⟩;have e1:((n+1:Nat):Int)-1=n:=by omega
 have e2:((n+1+1:Nat):Int)-1=n+1:=by omega
 rw [e1,e2,show n+1-1=n by omega,show n+1+1-1=n+1 by omega];by_cases h:b=j-n
 ·rw [zzJ h,zzJ h,zzJ (by omega)];have e3:dN (n+1) (a-i)=dN n (a-i+1)-dN n (a-i-1):=rfl;rw [show a-(i-1)=a-i+1 by omega,show a-(i+1)=a-i-1 by omega,e3];omega
 ·rw [zzI h,zzI h,zzI (by omega)];rfl
theorem AO (a b u:Int):(fun i j k=>Xh a b (i+u) j k)=Xh (a-u) b:=by
 funext i j k;unfold Xh;rw [show a-(i+u)=a-u-i by omega]
theorem Is (a b u:Int):(fun i j k=>Xh a b i (j+u) k)=Xh a (b-u):=by
 funext i j k;unfold Xh;by_cases h:b=j+u-((k:Int)-1)
 ·rw [zzJ h,zzJ (by omega)]
 ·rw [zzI h,zzI (by omega)]
def iC (s m:List Int) (L:Int) (a b:Int):Int:=HF (Xh a b) s m L
section
variable {s m:List Int} {L:Int}
theorem Tl {c:Nat} (hv:bf s m L=true) (hc:c<s.length) (cw:bf (dz s c) (fk s m c) (im s m c L)=true) (a b:Int):
  (s.getD c 0=1->iC s m L (a+1) b=iC (kf s c) (jA s m c) L (a-1) b+iC (dz s c) (fk s m c) (im s m c L) a (b-1))/\
  (s.getD c 0= -1->iC (kf s c) (jA s m c) L (a+1) b=iC s m L (a-1) b+iC (dz s c) (fk s m c) (im s m c L) a (b-1)):=by
 obtain ⟨s1,s2⟩:=y5b (Fb a b) hv hc cw;have e1:(fun i j k=>Xh a b (i-1) j k)=Xh (a+1) b:=by
  have:=AO a b (-1)
  rw [show a- -1=a+1 by omega] at this;exact this
 rw [e1,AO,Is] at s1 s2;exact ⟨s1,s2⟩
theorem BN (X X':Int->Int->Nat->Int) (h: ∀i j k,1<=k->X i j k=X' i j k) (h0:0<s.length\/0<L.toNat):HF X s m L=HF X' s m L:=by
 unfold HF;by_cases hs:0<s.length
 ·rw [NA _ (by omega:0<2*s.length)];exact Nz (k0:=L.toNat) (fun i j k _ hk=>h i j k (by omega)) _
 ·have e:s.length=0:=by omega
  rw [e];exact h _ _ _ (by show 1<=L.toNat;omega)
end
end Hs
namespace Hs
def nh:List (Int×Int×Int×Nat)->(Int->Int->Nat->Int)->Int
 |[],_=>0
 |t::T,X=>t.1*X t.2.1 t.2.2.1 t.2.2.2+nh T X
theorem RZ (X:Int->Int->Nat->Int): ∀T T',nh (T++T') X=nh T X+nh T' X
 |[],T'=>(Int.zero_add _).symm
 |t::T,T'=>by
  show _+nh (T++T') X=_+nh T X+nh T' X;rw [RZ X T T'];omega
def Gn (c:Int) (T:List (Int×Int×Int×Nat)):List (Int×Int×Int×Nat):=T.map fun t=>(c*t.1,t.2)
theorem WG (c:Int) (X:Int->Int->Nat->Int): ∀T,nh (Gn c T) X=c*nh T X
 |[]=>(Int.mul_zero _).symm
 |t::T=>by
  show c*t.1*_+nh (Gn c T) X=c*(t.1*_+nh T X);rw [WG c X T,Int.mul_add,Int.mul_assoc]
def uV (D:Sh) (S:WS) (u:Nat) (G:(Int->Int->Nat->Int)->Int):Prop:=
 ∃T,(∀X,G X=nh T X)/\T.length<=2^rl S D.n/\ ∀t∈T,(t.1=1\/t.1= -1)/\(S.i-2*rl S D.n<=t.2.1/\t.2.1<=S.i+2*rl S D.n)/\(S.j<=t.2.2.1/\t.2.2.1<=S.j+rl S D.n)/\S.k<=t.2.2.2/\t.2.2.2<=u
section
variable {D:Sh}
theorem F7 (S:WS) (a:Nat) {v:Nat} (hv: ¬v<=1): ∀m,rl (S.mk' a v) m<=rl S m:=fun m=>u6 (fun c hc=>by
 have dE:aR S.st (a/2) v c<=1:=hc;by_cases e:c=a/2
 ·rw [e,bQ] at dE;exact absurd dE hv
 ·rwa [bG _ _ e] at dE) m
theorem uV.OI {S S':WS} {u:Nat} {G:(Int->Int->Nat->Int)->Int} (h:uV D S' u G) (h1:rl S' D.n<=rl S D.n) (hi:S'.i=S.i) (hj:S'.j=S.j) (hk:S'.k=S.k):uV D S u G:=by
 obtain ⟨T,t1,t2,t3⟩:=h;refine ⟨T,t1,Nat.le_trans t2 (Nat.pow_le_pow_right (by omega) h1),fun t ht=>?_⟩
 have:=t3 t ht
 rw [hi,hj,hk] at this;omega
theorem WE {S:WS} {a u:Nat} {F:(Int->Int->Nat->Int)->WS->Nat->Int} (hs: ∀c,c<D.n->D.sg c=1\/D.sg c= -1) (h: ∀x∈br D S a,uV D x.2.1 u fun X=>F X x.2.1 x.2.2):uV D S u fun X=>sumB (br D S a) (F X):=by
 have nil:uV D S u fun X=>sumB [] (F X):=⟨[],fun X=>rfl,Nat.zero_le _,fun t ht=>by cases ht⟩;have one: ∀(v b:Nat),¬v<=1->(uV D (S.mk' a v) u fun X=>F X (S.mk' a v) b)->uV D S u fun X=>sumB [(1,S.mk' a v,b)] (F X):=fun v b hv h=>by
  have h':=h.OI (S:=S) (F7 S a hv D.n) rfl rfl rfl;obtain ⟨T,t1,t2,t3⟩:=h';refine ⟨T,fun X=>?_,t2,t3⟩;show 1*F X _ _+0=_;rw [Int.one_mul,Int.add_zero];exact t1 X
 unfold br at h⊢;by_cases h1:2*D.n<=a
 ·rw [zzJ h1];exact nil
 rw [zzI h1] at h⊢;by_cases h2:S.st (a/2)=2
 ·rw [zzJ h2] at h⊢;exact one _ _ (by omega) (h _ (.head _))
 rw [zzI h2] at h⊢;by_cases h3:S.st (a/2)=3
 ·rw [zzJ h3] at h⊢;exact one _ _ (by omega) (h _ (.head _))
 rw [zzI h3] at h⊢;by_cases h4:S.st (a/2)=5
 ·rw [zzJ h4] at h⊢;exact one _ _ (by omega) (h _ (.head _))
 rw [zzI h4] at h⊢;by_cases h5:S.st (a/2)=a % 2
 ·rw [zzJ h5] at h⊢;exact one _ _ (by omega) (h _ (.head _))
 rw [zzI h5] at h⊢;by_cases h6:S.st (a/2)=1-a % 2
 ·rw [zzJ h6] at h⊢;have oe:dS D (S.st (a/2)) (a/2)=1\/dS D (S.st (a/2)) (a/2)= -1:=by
   have:=hs (a/2) (by omega)
   unfold dS;split<;>omega
  have A:=h _ (.head _);have B:=h _ (.tail _ (.head _));generalize dS D (S.st (a/2)) (a/2)=w at*;obtain ⟨T,t1,t2,t3⟩:=A;obtain ⟨T',XG,t2',XF⟩:=B;dsimp only at t1 t2 t3 XG t2' XF;have l1:rl ((S.mk' a 3).sc (2*w) 0) D.n+1<=rl S D.n:=DK (S':=(S.mk' a 3).sc (2*w) 0) (x:=a/2) (fun c hc=>by
   have dE:aR S.st (a/2) 3 c<=1:=hc;by_cases e:c=a/2
   ·rw [e];omega
   ·rwa [bG _ _ e] at dE) (by omega) (by show¬aR S.st (a/2) 3 (a/2)<=1;rw [bQ];omega) D.n (by omega)
  have l2:rl ((S.mk' a 2).sc w 1) D.n+1<=rl S D.n:=DK (S':=(S.mk' a 2).sc w 1) (x:=a/2) (fun c hc=>by
   have dE:aR S.st (a/2) 2 c<=1:=hc;by_cases e:c=a/2
   ·rw [e];omega
   ·rwa [bG _ _ e] at dE) (by omega) (by show¬aR S.st (a/2) 2 (a/2)<=1;rw [bQ];omega) D.n (by omega)
  obtain ⟨q,hq⟩: ∃q,rl S D.n=q+1:=⟨rl S D.n-1,by omega⟩;have p1:(2:Nat)^rl ((S.mk' a 3).sc (2*w) 0) D.n<=2^q:=Nat.pow_le_pow_right (by omega) (by omega);have p2:(2:Nat)^rl ((S.mk' a 2).sc w 1) D.n<=2^q:=Nat.pow_le_pow_right (by omega) (by omega);refine ⟨T++Gn w T',fun X=>?_,?_,fun t ht=>?_⟩
  ·show 1*F X _ _+(w*F X _ _+0)=_;rw [RZ,WG,<-t1 X,<-XG X,Int.one_mul,Int.add_zero]
  ·have:(Gn w T').length=T'.length:=by simp [Gn]
   rw [zzF,this,hq,Nat.pow_succ];omega
  ·rcases List.mem_append.1 ht with ht|ht
   ·have:=t3 t ht
    have ei:((S.mk' a 3).sc (2*w) 0).i=S.i+2*w:=rfl;have ej:((S.mk' a 3).sc (2*w) 0).j=S.j:=Int.add_zero _;have ek:((S.mk' a 3).sc (2*w) 0).k=S.k:=rfl;rw [ei,ej,ek] at this;omega
   ·obtain ⟨t0,zj,rfl⟩:=List.mem_map.1 ht
    have:=XF t0 zj
    have ei:((S.mk' a 2).sc w 1).i=S.i+w:=rfl;have ej:((S.mk' a 2).sc w 1).j=S.j+1:=rfl;have ek:((S.mk' a 2).sc w 1).k=S.k:=rfl;rw [ei,ej,ek] at this;refine ⟨?_,?_⟩
    ·show w*t0.1=1\/w*t0.1= -1;rcases oe with rfl|rfl<;>rcases this.1 with e|e<;>rw [e]<;>decide
    ·dsimp only;omega
 ·rw [zzI h6];exact nil
theorem WD (hs: ∀c,c<D.n->D.sg c=1\/D.sg c= -1) {stop:Nat->Bool} {u:Nat} {k:(Int->Int->Nat->Int)->WS->Nat->Int} (hk: ∀S b,S.k+fu D S<=u->uV D S u fun X=>k X S b): ∀f S a,S.k+fu D S<=u->uV D S u fun X=>Wf D stop f S a (k X)
 |0,S,a,_=>⟨[],fun X=>rfl,Nat.zero_le _,fun t ht=>by cases ht⟩
 |f+1,S,a,hu=>by
  show uV D S u fun X=>if stop a=true then k X S a else if S.ae a=true then 0 else sumB (br D S a) fun S' b=>Wf D stop f S' b (k X);by_cases h1:stop a=true
  ·simp only [zzJ h1];exact hk S a hu
  simp only [zzI h1];by_cases h2:S.ae a=true
  ·simp only [zzJ h2];exact ⟨[],fun X=>rfl,Nat.zero_le _,fun t ht=>by cases ht⟩
  simp only [zzI h2];refine WE hs fun x hx=>WD hs hk f x.2.1 x.2.2 ?_
  have:=zD hx (by simpa using h2)
  have:=sJ hx
  omega
theorem Jo (hs: ∀c,c<D.n->D.sg c=1\/D.sg c= -1) (u:Nat): ∀(B:List Nat) (S:WS),S.k+fu D S<=u->uV D S u fun X=>run X D B S
 |[],S,hu=>⟨[(1,S.i,S.j,S.k)],fun X=>by show X S.i S.j S.k=1*X S.i S.j S.k+0;rw [Int.one_mul,Int.add_zero],Nat.one_le_two_pow,fun t ht=>by
  rw [zzM] at ht;subst ht;dsimp only;omega⟩
 |a::B,S,hu=>by
  show uV D S u fun X=>if S.ae a=true then run X D B S else aY D S.cr a (run X D B);by_cases h2:S.ae a=true
  ·simp only [zzJ h2];exact Jo hs u B S hu
  simp only [zzI h2];have key:uV D S.cr u fun X=>aY D S.cr a (run X D B):=by
   unfold aY;refine WE hs fun x hx=>?_;unfold W;have h20:S.ae a=false:=by simpa using h2
   have h3:=zD hx (show S.cr.ae a=false from h20);have h4:=sJ hx;have h5:fu D S.cr=fu D S:=rfl;have h6:S.cr.k=S.k+1:=rfl;exact WD hs (fun T b hT=>Jo hs u B T hT) _ x.2.1 x.2.2 (by omega)
  obtain ⟨T,t1,t2,t3⟩:=key;have e4:rl S.cr D.n=rl S D.n:=Nat.le_antisymm (u6 (S:=S) (S':=S.cr) (fun c h=>h) _) (u6 (S:=S.cr) (S':=S) (fun c h=>h) _);refine ⟨T,t1,e4▸t2,fun t ht=>?_⟩
  have:=t3 t ht
  have e1:S.cr.k=S.k+1:=rfl;have e2:S.cr.i=S.i:=rfl;have e3:S.cr.j=S.j:=rfl;rw [e1,e2,e3,e4] at this;omega
end
end Hs
namespace Hs
open Sp (fq bt aw itn SC aW)
theorem WC {s1 m1 s2 m2:List Int} {L1 L2:Int} (h1:bf s1 m1 L1=true) (h2:bf s2 m2 L2=true):x8 (ak (s1++s2) (Sp.bZ m1 m2)) (ak s1 m1) (ak s2 m2) (2*s1.length) (2*s2.length):=by
 have v1:=bV h1;have v2:=bV h2;have hl:=v1.len;have sw:=v2.len;have cP:(s1++s2).length=s1.length+s2.length:=by simp
 have Cu: ∀z w,(Sp.bZ m1 m2).getD z 0=((w:Nat):Int)->aM (aW (Sp.bZ m1 m2) z)=aM w:=fun z w h=>by unfold aW;rw [h,zzC]
 refine ⟨cP,fun c hc=>(D3 c).1 hc,fun c _=>(D3 c).2,fun a ha aA=>?_,fun a ha aA=>?_,fun h=>?_,fun h=>?_,⟨fun h=>?_,fun h=>?_⟩⟩
 ·have cG:a<2*s1.length:=ha;have lo:=qk (D:=ak s1 m1) ha;have Cz:aH (ak s1 m1) a<4*s1.length:=lo;show aM (aW (Sp.bZ m1 m2) (aH (ak (s1++s2) (Sp.bZ m1 m2)) a))=_;rw [Ll (m1:=m1) _ cG,Cu _ (cB (ak s1 m1) ((ak s1 m1).nx a)) (by rw [Sp.qq (by omega),<-u5 v1 cG,(uq v1 lo).2.1]),zG]
 ·have cG:a<2*s2.length:=ha;have lo:=qk (D:=ak s2 m2) ha;have Cz:aH (ak s2 m2) a<4*s2.length:=lo;show aM (aW (Sp.bZ m1 m2) (aH (ak (s1++s2) (Sp.bZ m1 m2)) (2*s1.length+a)))=2*s1.length+_;rw [Lk (m2:=m2),<-hl,Cu _ (4*s1.length+cB (ak s2 m2) ((ak s2 m2).nx a)) (by
   rw [Sp.uw (by omega),hl];have e1:=(uq v2 lo).2.1;have e2:=u5 v2 cG;rw [<-e2];omega),Mf,zG]
 ·have:2*s1.length<2*s1.length:=h;omega
 ·have:2*s2.length<2*s2.length:=h;omega
 ·have:2*s1.length<2*s1.length:=h;omega
 ·have:2*s2.length<2*s2.length:=h;omega
theorem Ke {D:Sh} {X X':Int->Int->Nat->Int} {n l:Nat} (hn:0<n\/0<l) (h: ∀i j k,0<=j->1<=k+l->X i j k=X' i j k) {st:Nat->Nat}:run X D (List.range (2*n)) (Z0 st 0)=run X' D (List.range (2*n)) (Z0 st 0):=by
 by_cases hl:0<l
 ·exact J9 (j0:=0) (k0:=0) (fun i j k hj _=>h i j k hj (by omega)) _ _ (Int.le_refl _) (zzA _)
 ·have CY:0<n:=hn.resolve_right hl;rw [NA (2*n) (by omega)];exact Nz (fun i j k hj hk=>h i j k hj (by omega)) _
end Hs
namespace Hs
open Sp (fq bt aw itn SC aW)
theorem ET {D:Sh} {X:Int->Int->Nat->Int} (B:List Nat) (l l':Nat):run X D B (Z0 (fun _=>1) (l'+l))=run (fun i j k=>X i j (k+l)) D B (Z0 (fun _=>1) l'):=by
 have:=Lj (D:=D) (X:=X) l B (Z0 (fun _=>1) l')
 rw [<-this];rfl
def Xs (X:Int->Int->Nat->Int) (s m:List Int) (L:Int) (i j:Int) (k:Nat):Int:=HF (fun i' j' k'=>X (i+i') (j+j') (k+k'-1)) s m L
theorem Ir {X:Int->Int->Nat->Int} (hX:Good X) {i j:Int} {k:Nat} (hk:1<=k):Good fun i' j' k'=>X (i+i') (j+j') (k+k'-1):=fun i' j' k' sy=>by
 have:=hX (i+i') (j+j') (k+k'-1) (by omega)
 show X (i+(i'-1)) (j+j') (k+k'-1)=X (i+(i'+1)) (j+j') (k+k'-1)+X (i+i') (j+(j'+1)) (k+(k'+1)-1);rw [show i+(i'-1)=i+i'-1 by omega,show i+(i'+1)=i+i'+1 by omega,show j+(j'+1)=j+j'+1 by omega,show k+(k'+1)-1=k+k'-1+1 by omega];exact this
theorem y80 {X:Int->Int->Nat->Int} (hX:Good X) {s m:List Int} {L:Int} (h0:0<s.length\/0<L.toNat):Good (Xs X s m L):=fun i j k hk=>by
 unfold Xs;rw [BN _ (fun i' j' k'=>X (i+1+i') (j+j') (k+k'-1)+X (i+i') (j+1+j') (k+1+k'-1)) (fun i' j' k' sy=>?_) h0]
 ·exact (R0 (D:=ak s m) _ _).add (fun t=>X (i+1+t.1) (j+t.2.1) (k+t.2.2-1)) (fun t=>X (i+t.1) (j+1+t.2.1) (k+1+t.2.2-1))
 ·have:=hX (i+i') (j+j') (k+k'-1) (by omega)
  rw [show i-1+i'=i+i'-1 by omega,show i+1+i'=i+i'+1 by omega,show j+1+j'=j+j'+1 by omega,show k+1+k'-1=k+k'-1+1 by omega];exact this
theorem y81 {X:Int->Int->Nat->Int} (hX:Good X) {s1 m1 s2 m2:List Int} {l1 l2:Nat} (h1:bf s1 m1 l1=true) (h2:bf s2 m2 l2=true) (hn:s1.length+s2.length<=64) (hL:(l1:Int)+l2<=64) {x y:Nat} (hx:x<4*s1.length) (hy:y<4*s2.length) (ox:aj s1 (x:Int)=true) (oy:aj s2 (y:Int)=true):
  HF X (s1++s2) (iO m1 m2 x y) ((l1:Int)+l2)=HF (Xs X s2 m2 l2) s1 m1 l1:=by
 have v1:=bV h1;have v2:=bV h2;have hv:=Tm h1 h2 hn hL hx hy ox oy;have T:=NZ h1 h2 hn hL hx hy ox oy;have k1:=nO v1;have k2:=nO v2;have cP:(s1++s2).length=s1.length+s2.length:=by simp
 have uC:aM x<2*s1.length:=by unfold aM;omega
 have zg:aM y<2*s2.length:=by unfold aM;omega
 have n1:=k1.lt _ uC;have n2:=k2.lt _ zg;have qv:(ak s1 m1).nx (aM x)<2*s1.length:=n1;have oQ:(ak s2 m2).nx (aM y)<2*s2.length:=n2;have hk:((l1:Int)+l2).toNat=l1+l2:=by omega
 have e0:HF X (s1++s2) (iO m1 m2 x y) ((l1:Int)+l2)=run X (ak (s1++s2) (iO m1 m2 x y)) (List.range (2*(s1++s2).length)) (Z0 (fun _=>1) (l1+l2)):=by unfold HF;rw [hk]
 rw [e0];have iD:jt (ak (s1++s2) (iO m1 m2 x y)) ((ak s1 m1).nx (aM x)::List.range (2*s1.length)++(List.range (2*s2.length)).map fun a=>2*(ak s1 m1).n+a) (Z0 (fun _=>1) (l1+l2)):=by
  have en:(ak (s1++s2) (iO m1 m2 x y)).n=s1.length+s2.length:=cP;have e1:(ak s1 m1).n=s1.length:=rfl;refine ⟨fun a ha=>?_,fun a ha _=>?_⟩
  ·rw [en];rcases List.mem_append.1 ha with h|h
   ·rcases List.mem_cons.1 h with h|h
    ·omega
    ·have:=List.mem_range.1 h;omega
   ·obtain ⟨b,hb,rfl⟩:=List.mem_map.1 h
    have:=List.mem_range.1 hb;omega
  ·rw [en] at ha;by_cases h:a<2*s1.length
   ·exact List.mem_append_left _ (.tail _ (List.mem_range.2 h))
   ·exact List.mem_append_right _ (List.mem_map.2 ⟨a-2*s1.length,List.mem_range.2 (by omega),by omega⟩)
 have e1:=ord (nO (bV hv)) (AY hv) hX (vM _ (fun _=> .inl (zzA _)) _) (wI (ak (s1++s2) (iO m1 m2 x y)) (fun _=>1) (l1+l2)) iD;refine e1.trans ?_
 refine (y8y k1 k2 T uC X (L1:=List.range (2*s1.length)) (L2:=List.range (2*s2.length)) (fun a ha=>List.mem_range.1 ha) (fun a ha=>List.mem_range.1 ha) (S:=Z0 (fun _=>1) (l1+l2)) (S1:=Z0 (fun _=>1) 0) (S2:=Z0 (fun _=>1) (l1+l2)) ⟨fun _ _=>rfl,fun _=>rfl,fun _ _=>rfl,fun _=>rfl,rfl,rfl,by show l1+l2=0+(l1+l2);omega⟩ rfl rfl ⟨rfl,rfl,rfl⟩ ⟨rfl,rfl⟩).trans ?_
 have st: ∀i j k,0<=j->0+1<=k->run (fun i' j' k'=>X (i+i') (j+j') (k+k'-1)) (ak s2 m2) ((ak s2 m2).nx (aM y)::List.range (2*s2.length)) (Z0 (fun _=>1) (l1+l2))=Xs X s2 m2 l2 i j (k+l1):=fun i j k hj hk=>by
  rw [Nat.add_comm l1 l2,ET];have e:(fun i' j' k'=>X (i+i') (j+j') (k+(k'+l1)-1))=fun i' j' k'=>X (i+i') (j+j') (k+l1+k'-1):=by
   funext i' j' k';rw [show k+(k'+l1)-1=k+l1+k'-1 by omega]
  rw [e];unfold Xs HF;rw [zzC];refine ord k2 (AY h2) (Ir hX (by omega)) (vM _ (fun _=> .inl (zzA _)) _) ⟨fun a ha=>?_,fun a ha _=> .tail _ (List.mem_range.2 ha)⟩ (wI (ak s2 m2) _ _);rcases List.mem_cons.1 ha with h|h
  ·rw [h];exact n2
  ·exact List.mem_range.1 h
 rw [Nz st];have e2:=ET (D:=ak s1 m1) (X:=Xs X s2 m2 l2) ((ak s1 m1).nx (aM x)::List.range (2*s1.length)) l1 0;rw [<-e2,Nat.zero_add];unfold HF;rw [zzC];refine ord k1 (AY h1) (y80 hX (.inl (by omega))) (vM _ (fun _=> .inl (zzA _)) _) ⟨fun a ha=>?_,fun a ha _=> .tail _ (List.mem_range.2 ha)⟩ (wI (ak s1 m1) _ _);rcases List.mem_cons.1 ha with h|h
 ·rw [h];exact n1
 ·exact List.mem_range.1 h
def Xu (X:Int->Int->Nat->Int) (s m:List Int) (L:Int) (i j:Int) (k:Nat):Int:=HF (fun i' j' k'=>X (i+i') (j+j') (k+k')) s m L
theorem y82 {X:Int->Int->Nat->Int} (hX:Good X) {s1 m1 s2 m2:List Int} {l1 l2:Nat} (h1:bf s1 m1 l1=true) (h2:bf s2 m2 l2=true) (hl:0<l1+l2) (hv:bf (s1++s2) (Sp.bZ m1 m2) ((l1:Int)+l2-1)=true) (n1:0<s1.length\/0<l1) (n2:0<s2.length\/0<l2):
  HF X (s1++s2) (Sp.bZ m1 m2) ((l1:Int)+l2-1)=HF (Xs X s2 m2 l2) s1 m1 l1:=by
 have v1:=bV h1;have v2:=bV h2;have T:=WC h1 h2;have k1:=nO v1;have k2:=nO v2;have cP:(s1++s2).length=s1.length+s2.length:=by simp
 have hk:((l1:Int)+l2-1).toNat=l1+l2-1:=by omega
 have e0:HF X (s1++s2) (Sp.bZ m1 m2) ((l1:Int)+l2-1)=run X (ak (s1++s2) (Sp.bZ m1 m2)) (List.range (2*(s1++s2).length)) (Z0 (fun _=>1) (l1+l2-1)):=by unfold HF;rw [hk]
 rw [e0];have iD:jt (ak (s1++s2) (Sp.bZ m1 m2)) (List.range (2*s1.length)++(List.range (2*s2.length)).map fun a=>2*(ak s1 m1).n+a) (Z0 (fun _=>1) (l1+l2-1)):=by
  have en:(ak (s1++s2) (Sp.bZ m1 m2)).n=s1.length+s2.length:=cP;have e1:(ak s1 m1).n=s1.length:=rfl;refine ⟨fun a ha=>?_,fun a ha _=>?_⟩
  ·rw [en];rcases List.mem_append.1 ha with h|h
   ·have:=List.mem_range.1 h;omega
   ·obtain ⟨b,hb,rfl⟩:=List.mem_map.1 h
    have:=List.mem_range.1 hb;omega
  ·rw [en] at ha;by_cases h:a<2*s1.length
   ·exact List.mem_append_left _ (List.mem_range.2 h)
   ·exact List.mem_append_right _ (List.mem_map.2 ⟨a-2*s1.length,List.mem_range.2 (by omega),by omega⟩)
 have e1:=ord (nO (bV hv)) (AY hv) hX (vM _ (fun _=> .inl (zzA _)) _) (wI (ak (s1++s2) (Sp.bZ m1 m2)) (fun _=>1) (l1+l2-1)) iD;refine e1.trans ?_;have ke: ∀{D:Sh} {X:Int->Int->Nat->Int} (B:List Nat) (l:Nat),run X D B (Z0 (fun _=>1) l)=run (fun i j k=>X i j (k+l)) D B (Z0 (fun _=>1) 0):=fun {D X} B l=>by
  have:=ET (D:=D) (X:=X) B l 0
  rwa [Nat.zero_add] at this
 rw [ke];refine (Us k1 k2 T (by show¬2*s1.length<2*s1.length;omega) (fun i j k=>X i j (k+(l1+l2-1))) (L1:=List.range (2*s1.length)) (L2:=List.range (2*s2.length)) (fun a ha=>List.mem_range.1 ha) (fun a ha=>List.mem_range.1 ha) (S:=Z0 (fun _=>1) 0) (S1:=Z0 (fun _=>1) 0) (S2:=Z0 (fun _=>1) 0) ⟨fun _ _=>rfl,fun _=>rfl,fun _ _=>rfl,fun _=>rfl,rfl,rfl,rfl⟩).trans ?_
 have st: ∀i j k,0<=j->1<=k+l1->run (fun i' j' k'=>X (i+i') (j+j') (k+k'+(l1+l2-1))) (ak s2 m2) (List.range (2*s2.length)) (Z0 (fun _=>1) 0)=Xs X s2 m2 l2 i j (k+l1):=fun i j k hj hk=>by
  unfold Xs HF;rw [zzC,ke _ l2];refine Ke n2 fun i' j' k' _ sy=>?_;rw [show k+k'+(l1+l2-1)=k+l1+(k'+l2)-1 by omega]
 rw [Ke n1 st];unfold HF;rw [zzC,ke _ l1]
theorem NY {X:Int->Int->Nat->Int} (hX:Good X) {s1 m1 s2 m2:List Int} {l1 l2:Nat} (h1:bf s1 m1 l1=true) (h2:bf s2 m2 l2=true) (hv:bf (s1++s2) (Sp.bZ m1 m2) ((l1:Int)+l2)=true) (n1:0<s1.length\/0<l1) (n2:0<s2.length\/0<l2):
  HF X (s1++s2) (Sp.bZ m1 m2) ((l1:Int)+l2)=HF (Xu X s2 m2 l2) s1 m1 l1:=by
 have v1:=bV h1;have v2:=bV h2;have T:=WC h1 h2;have k1:=nO v1;have k2:=nO v2;have cP:(s1++s2).length=s1.length+s2.length:=by simp
 have hk:((l1:Int)+l2).toNat=l1+l2:=by omega
 have e0:HF X (s1++s2) (Sp.bZ m1 m2) ((l1:Int)+l2)=run X (ak (s1++s2) (Sp.bZ m1 m2)) (List.range (2*(s1++s2).length)) (Z0 (fun _=>1) (l1+l2)):=by unfold HF;rw [hk]
 rw [e0];have iD:jt (ak (s1++s2) (Sp.bZ m1 m2)) (List.range (2*s1.length)++(List.range (2*s2.length)).map fun a=>2*(ak s1 m1).n+a) (Z0 (fun _=>1) (l1+l2)):=by
  have en:(ak (s1++s2) (Sp.bZ m1 m2)).n=s1.length+s2.length:=cP;have e1:(ak s1 m1).n=s1.length:=rfl;refine ⟨fun a ha=>?_,fun a ha _=>?_⟩
  ·rw [en];rcases List.mem_append.1 ha with h|h
   ·have:=List.mem_range.1 h;omega
   ·obtain ⟨b,hb,rfl⟩:=List.mem_map.1 h
    have:=List.mem_range.1 hb;omega
  ·rw [en] at ha;by_cases h:a<2*s1.length
   ·exact List.mem_append_left _ (List.mem_range.2 h)
   ·exact List.mem_append_right _ (List.mem_map.2 ⟨a-2*s1.length,List.mem_range.2 (by omega),by omega⟩)
 have e1:=ord (nO (bV hv)) (AY hv) hX (vM _ (fun _=> .inl (zzA _)) _) (wI (ak (s1++s2) (Sp.bZ m1 m2)) (fun _=>1) (l1+l2)) iD;refine e1.trans ?_;have ke: ∀{D:Sh} {X:Int->Int->Nat->Int} (B:List Nat) (l:Nat),run X D B (Z0 (fun _=>1) l)=run (fun i j k=>X i j (k+l)) D B (Z0 (fun _=>1) 0):=fun {D X} B l=>by
  have:=ET (D:=D) (X:=X) B l 0
  rwa [Nat.zero_add] at this
 rw [ke];refine (Us k1 k2 T (by show¬2*s1.length<2*s1.length;omega) (fun i j k=>X i j (k+(l1+l2))) (L1:=List.range (2*s1.length)) (L2:=List.range (2*s2.length)) (fun a ha=>List.mem_range.1 ha) (fun a ha=>List.mem_range.1 ha) (S:=Z0 (fun _=>1) 0) (S1:=Z0 (fun _=>1) 0) (S2:=Z0 (fun _=>1) 0) ⟨fun _ _=>rfl,fun _=>rfl,fun _ _=>rfl,fun _=>rfl,rfl,rfl,rfl⟩).trans ?_
 have st: ∀i j k,0<=j->1<=k+l1->run (fun i' j' k'=>X (i+i') (j+j') (k+k'+(l1+l2))) (ak s2 m2) (List.range (2*s2.length)) (Z0 (fun _=>1) 0)=Xu X s2 m2 l2 i j (k+l1):=fun i j k hj hk=>by
  unfold Xu HF;rw [zzC,ke _ l2];refine Ke n2 fun i' j' k' _ sy=>?_;rw [show k+k'+(l1+l2)=k+l1+(k'+l2) by omega]
 rw [Ke n1 st];unfold HF;rw [zzC,ke _ l1]
theorem y83 {X:Int->Int->Nat->Int} {s m:List Int} (l:Nat):HF X s m ((l:Int)+1)=HF (fun i j k=>X i j (k+1)) s m l:=by
 unfold HF;rw [show ((l:Int)+1).toNat=l+1 by omega,zzC,ET]
end Hs
end Go.Proofs.YtjpbeacamoijhaaGreatDoor
