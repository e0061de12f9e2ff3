/- Plain: the connected sum is a diagram on the sphere, and its bracket is the product of the brackets. -/
import Derived.Test.YtphjphpmfflfpaaGreatDoorCm
namespace Go.Proofs.YtphjphpmfflfpaaGreatDoor
set_option linter.unusedSimpArgs false
set_option linter.unusedVariables false
namespace Sp
open Classical
section
variable {N:Nat} {si al al':Nat->Nat}
theorem k6.FJ (h:k6 N si al) (eH:jA N al') {x y:Nat} (hx:x<N) (hy:y<N) (cD: ¬KK si al N x y) (e1:al' x=al y) (e2:al' (al y)=x) (e3:al' y=al x) (e4:al' (al x)=y)
  (e5: ∀z,z<N->z≠x->z≠y->z≠al x->z≠al y->al' z=al z) (zK:KK si al' N x (al x)) (Ib:KK si al' N y (al y)):k6 N si al':=by
 have hs:=h.perm;have ha:=h.ej;have hE:=dq hs ha;have c8:=dq hs eH;obtain ⟨p,ep⟩: ∃p,al x=p:=⟨_,rfl⟩;obtain ⟨q,eq⟩: ∃q,al y=q:=⟨_,rfl⟩;rw [ep] at zK e3 e4 e5;rw [eq] at Ib e1 e2 e5;have lp:p<N:=ep▸ha.lt x hx;have lq:q<N:=eq▸ha.lt y hy;have ip:al p=x:=by rw [←ep];exact ha.inv x hx
 have iq:al q=y:=by rw [←eq];exact ha.inv y hy
 have Eh:KK si al N x p:=ep▸dL hs ha hx;have Ef:KK si al N y q:=eq▸dL hs ha hy;have WC:x≠y:=fun e=>cD (e▸hE.rfl' x hx);have WH:p≠x:=ep▸ha.ne x hx;have WD:q≠y:=eq▸ha.ne y hy;have WG:p≠y:=fun e=>cD (e▸Eh);have WE:q≠x:=fun e=>cD (hE.symm _ _ hy hx (e▸Ef));have WI:p≠q:=fun e=>WC (by rw [←ip,e,iq]);have cs: ∀z,z<N->z=x\/z=y\/z=p\/z=q\/(z≠x/\z≠y/\z≠p/\z≠q/\al' z=al z):=fun z hz=>by
  by_cases h1:z=x
  ·exact .inl h1
  ·by_cases h2:z=y
   ·exact .inr (.inl h2)
   ·by_cases h3:z=p
    ·exact .inr (.inr (.inl h3))
    ·by_cases h4:z=q
     ·exact .inr (.inr (.inr (.inl h4)))
     ·exact .inr (.inr (.inr (.inr ⟨h1,h2,h3,h4,e5 z hz h1 h2 h3 h4⟩)))
 have Eg:KK si al' N x q:=e1▸dL hs eH hx;have wu:KK si al' N x y:=c8.trans _ _ _ hx lq hy Eg (c8.symm _ _ hy lq Ib);have cX: ∀a b,a<N->b<N->KK si al N a b->KK si al' N a b:=fun a b cY hb hk=>by
  refine cB hs ha c8 (fun z hz=>fI hs eH hz) (fun z hz=>?_) cY hb hk;rcases cs z hz with rfl|rfl|rfl|rfl|⟨_,_,_,_,e⟩
  ·rw [ep];exact zK
  ·rw [eq];exact Ib
  ·rw [ip];exact c8.symm _ _ hx hz zK
  ·rw [iq];exact c8.symm _ _ hy hz Ib
  ·rw [←e];exact dL hs eH hz
 have CC: ∀a b,a<N->b<N->(KK si al' N a b↔fK (KK si al N) x y a b):=fun a b cY hb=>by
  constructor
  ·intro hk;refine cB hs eH (fK.eqv hE hx hy) (fun z hz=> .inl (fI hs ha hz)) (fun z hz=>?_) cY hb hk;rcases cs z hz with rfl|rfl|rfl|rfl|⟨_,_,_,_,e⟩
   ·rw [e1];exact .inr (.inl ⟨hE.rfl' _ hz,Ef⟩)
   ·rw [e3];exact .inr (.inr ⟨hE.rfl' _ hz,Eh⟩)
   ·rw [e4];exact .inr (.inl ⟨hE.symm _ _ hx hz Eh,hE.rfl' _ hy⟩)
   ·rw [e2];exact .inr (.inr ⟨hE.symm _ _ hy hz Ef,hE.rfl' _ hx⟩)
   ·rw [e];exact .inl (dL hs ha hz)
  ·rintro (e|⟨f1,f2⟩|⟨f1,f2⟩)
   ·exact cX _ _ cY hb e
   ·exact c8.trans _ _ _ cY hx hb (cX _ _ cY hx f1) (c8.trans _ _ _ hx hy hb wu (cX _ _ hy hb f2))
   ·exact c8.trans _ _ _ cY hy hb (cX _ _ cY hy f1) (c8.trans _ _ _ hy hx hb (c8.symm _ _ hx hy wu) (cX _ _ hx hb f2))
 have gn:=o9 hs ha N (Nat.le_refl _);have eo:=o9 hs eH N (Nat.le_refl _);have aC:=cC gn hx hy;have aJ:=cC aC lp lq;have tG: ∀z,z<N->swp (swp (bK si al N) x y) p q z=bK si al' N z:=fun z hz=>by
  rw [de eH hz];rcases cs z hz with rfl|rfl|rfl|rfl|⟨h1,h2,h3,h4,e⟩
  ·unfold swp;rw [if_neg (Ne.symm WH),if_neg (Ne.symm WE),if_pos rfl,de ha hy,eq,e1]
  ·unfold swp;rw [if_neg (Ne.symm WG),if_neg (Ne.symm WD),if_neg (Ne.symm WC),if_pos rfl,de ha hx,ep,e3]
  ·unfold swp;rw [if_pos rfl,if_neg WE,if_neg WD,de ha lq,iq,e4]
  ·unfold swp;rw [if_neg (Ne.symm WI),if_pos rfl,if_neg WH,if_neg WG,de ha lp,ip,e2]
  ·unfold swp;rw [if_neg h3,if_neg h4,if_neg h1,if_neg h2,de ha hz,e]
 refine ⟨hs,eH,fun r hr kV kF wK wM=>?_⟩;by_cases hrx:KK si al' N x r
 ·have kL: ∀z,z<N->((KK si al N x z\/KK si al N y z)↔KK si al' N r z):=fun z hz=>by
   have e:KK si al' N r z↔KK si al' N x z:=⟨fun e=>c8.trans _ _ _ hx hr hz hrx e,fun e=>c8.trans _ _ _ hr hx hz (c8.symm _ _ hx hr hrx) e⟩;rw [e,CC x z hx hz];constructor
   ·rintro (g|g)
    ·exact .inl g
    ·exact .inr (.inl ⟨hE.rfl' _ hx,g⟩)
   ·rintro (g|⟨_,g⟩|⟨g,_⟩)
    ·exact .inl g
    ·exact .inr g
    ·exact absurd g cD
  have gX: ∀z,z<N->KK si al N x z-> ¬KK si al N y z:=fun z hz f1 f2=>cD (hE.trans _ _ _ hx hz hy f1 (hE.symm _ _ hy hz f2));obtain ⟨xV,WU⟩:=Tr.exists (SC.eqv hs) (KK si al N x);obtain ⟨xF,WV⟩:=Tr.exists (SC.eqv gn) (KK si al N x);obtain ⟨yV,WQ⟩:=Tr.exists (SC.eqv hs) (KK si al N y);obtain ⟨yF,WR⟩:=Tr.exists (SC.eqv gn) (KK si al N y);have q1:=h.eq x hx xV xF WU WV
  have q2:=h.eq y hy yV yF WQ WR
  have z8: ∀a b,a<N->b<N->KK si al N x a->KK si al N y b-> ¬SC si a b/\ ¬SC si b a:=fun a b cY hb f1 f2=>
   ⟨fun e=>gX b hb (hE.trans _ _ _ hx cY hb f1 (k7 hs ha cY e)) f2,fun e=>gX a cY f1 (hE.trans _ _ _ hy hb cY f2 (k7 hs ha hb e))⟩
  have Aa: ∀a b,a<N->b<N->KK si al N x a->KK si al N y b-> ¬SC (bK si al N) a b/\ ¬SC (bK si al N) b a:=fun a b cY hb f1 f2=>
   ⟨fun e=>gX b hb (hE.trans _ _ _ hx cY hb f1 (qn hs ha cY e)) f2,fun e=>gX a cY f1 (hE.trans _ _ _ hy hb cY f2 (qn hs ha hb e))⟩
  have aV:=((WU.append WQ z8 gX).ct kL (E':=SC si) (fun _ _ _ _ _ _=>Iff.rfl)).bM (SC.eqv hs) wK;have aF:=WV.append WR Aa gX;obtain ⟨F1,qX⟩:=Tr.exists (SC.eqv aC) (fun z=>KK si al N x z\/KK si al N y z);have Ik: ¬SC (bK si al N) x y:=fun e=>cD (qn hs ha hx e)
  have b1:=aF.join (SC.eqv gn) hx hy (.inl (hE.rfl' _ hx)) (.inr (hE.rfl' _ hy)) Ik (qX.congr (bu gn hx hy Ik))
  have EZ:Tr N (fun z=>KK si al N x z\/KK si al N y z) (SC (swp (swp (bK si al N) x y) p q)) kF:=
   wM.ct (fun z hz=>(kL z hz).symm) (fun a b cY hb _ _=>(cu aJ tG cY).symm)
  have b2:F1.length<=kF.length+1:=by
   by_cases jg:SC (swp (bK si al N) x y) p q
   ·have hn:=cT aC lp WI jg;have hj:=bu aJ lp lq hn;rw [dC] at hj
    have:=EZ.join (SC.eqv aJ) lp lq (.inl Eh) (.inr Ef) hn (qX.congr hj)
    omega
   ·have:=qX.join (SC.eqv aC) lp lq (.inl Eh) (.inr Ef) jg (EZ.congr (bu aC lp lq jg))
    omega
  have b3:=CV hs eH hr wK wM;have c1:=zj ha (fJ hs ha hx).2;have c2:=zj ha (fJ hs ha hy).2;have c3:=zj eH (fJ hs eH hr).2;have c4:cU (KK si al' N r) N=cU (KK si al N x) N+cU (KK si al N y) N:=by
   rw [←FO (fun z hz e=>gX z hz e)];exact RY fun z hz=>(kL z hz).symm
  rw [List.length_append] at aV b1;omega
 ·--another component
  have iM: ∀z,z<N->(KK si al' N r z↔KK si al N r z):=fun z hz=>by
   refine ⟨fun e=>?_,cX r z hr hz⟩;rcases (CC r z hr hz).1 e with g|⟨g,_⟩|⟨g,_⟩
   ·exact g
   ·exact absurd (c8.symm _ _ hr hx (cX _ _ hr hx g)) hrx
   ·exact absurd (c8.trans _ _ _ hx hy hr wu (c8.symm _ _ hr hy (cX _ _ hr hy g))) hrx
  have fV: ∀z,z<N->KK si al N r z->al' z=al z:=fun z hz e=>by
   have e':=cX _ _ hr hz e;have hb: ∀w,w<N->KK si al' N x w->z≠w:=fun w hw f g=>hrx (c8.trans _ _ _ hx hz hr (g▸f) (c8.symm _ _ hr hz e'));exact e5 z hz (hb x hx (c8.rfl' _ hx)) (hb y hy wu) (hb p lp zK) (hb q lq Eg)
  have jg: ∀a b,a<N->KK si al N r a->(SC (bK si al' N) a b↔SC (bK si al N) a b):=fun a b cY hU=>by
   have hi: ∀k,KK si al N r (itn (bK si al' N) k a)/\itn (bK si al' N) k a=itn (bK si al N) k a:=fun k=>by
    induction k with
    |zero=>exact ⟨hU,rfl⟩
    |succ k ih=>
     have lt:=eo.cI cY k;have e:bK si al' N (itn (bK si al' N) k a)=bK si al N (itn (bK si al' N) k a):=by rw [de eH lt,de ha lt,fV _ lt ih.1]
     refine ⟨?_,by simp only [itn];rw [e,ih.2]⟩;simp only [itn];rw [e,de ha lt];exact ((fJ hs ha hr).1 _ (ha.lt _ lt)).1 (((fJ hs ha hr).2 _ lt).1 ih.1)
   constructor
   ·rintro ⟨k,rfl⟩;exact ⟨k,(hi k).2.symm⟩
   ·rintro ⟨k,rfl⟩;exact ⟨k,(hi k).2⟩
  have t1:Tr N (KK si al N r) (SC si) kV:=wK.ct iM (fun _ _ _ _ _ _=>Iff.rfl);have t2:Tr N (KK si al N r) (SC (bK si al N)) kF:=wM.ct iM (fun a b cY _ hU _=>jg a b cY ((iM a cY).1 hU));rw [h.eq r hr kV kF t1 t2];congr 1;refine xw fun z hz=>?_;rw [iM z hz];constructor
  ·rintro ⟨f,g⟩;exact ⟨f,by rw [fV z hz f];exact g⟩
  ·rintro ⟨f,g⟩;exact ⟨f,by rw [←fV z hz f];exact g⟩
end
end Sp
section
variable {s1 s2 m1 m2:List Int} {L1 L2:Int} {n1 n2:Nat}
def jl (m1 m2:List Int) (x y:Nat):List Int:=uA (Sp.bR m1 m2) x (m1.length+y)
theorem Jf (aC:aE m1 n1) (ch:Nat->Bool) {x z:Int} (hx:0<=x/\x<4*n1) (h:aL (fun x=>(Sp.bR m1 m2).getD x.toNat 0) (fun x=>bd (ch (x/4).toNat) x) x z):0<=z/\z<4*n1:=by
 have hl:=aC.ok.1;have hi:=l6 aC.ok aC.inv aC.ne ch
 induction h with
 |refl=>exact hx
 | @aH z _ ih=>
   show 0<=(Sp.bR m1 m2).getD z.toNat 0/\(Sp.bR m1 m2).getD z.toNat 0<4*n1;rw [Sp.oa (by omega)]
   have:=aC.ok.2 z.toNat (by omega);omega
 | @join z _ ih=>
   have:=hi.jr z (by unfold au;omega)
   unfold au at this;omega
theorem Kx (aC:aE m1 n1) {x y:Nat} (hx:x<4*n1):((m1.length+y:Nat):Int)≠x/\((m1.length+y:Nat):Int)≠(Sp.bR m1 m2).getD x 0:=by
 have hl:=aC.ok.1
 have:=aC.ok.2 x hx
 rw [Sp.oa (by omega)];omega
theorem yH (aC:aE m1 n1) (aJ:aE m2 n2) (dc:aE (Sp.bR m1 m2) (n1+n2)) {x y:Nat} (hx:x<4*n1) (hy:y<4*n2):aE (jl m1 m2 x y) (n1+n2):=by
 have hl:=aC.ok.1;obtain ⟨h1,h2⟩:=Kx (m2:=m2) (y:=y) aC hx;exact UZ dc (by omega) (by omega) h1 h2
theorem Mt (aC:aE m1 n1) (aJ:aE m2 n2) (dc:aE (Sp.bR m1 m2) (n1+n2)) {x y:Nat} (hx:x<4*n1) (hy:y<4*n2) (ch:Nat->Bool):aX (Sp.bR m1 m2) (n1+n2) ch=aX (jl m1 m2 x y) (n1+n2) ch+1:=by
 have hl:=aC.ok.1;obtain ⟨h1,h2⟩:=Kx (m2:=m2) (y:=y) aC hx;refine MW dc (by omega) (by omega) ch (fun e=>?_) h1 h2
 have:=Jf aC ch (x:=x) (by omega) (((s7 (ch:=ch) dc.ok dc.inv dc.ne).iff _ _ (by omega) (by omega)).1 e)
 omega
theorem FI (aC:aE m1 n1) (aJ:aE m2 n2) (dc:aE (Sp.bR m1 m2) (n1+n2)) {x y:Nat} (hx:x<4*n1) (hy:y<4*n2) (L:Nat) (e:Int):aU (jl m1 m2 x y) (n1+n2) L 1 e=aU (Sp.bR m1 m2) (n1+n2) L 2 e:=by
 unfold aU pc;refine dO fun k _=>?_
 have:=Mt aC aJ dc hx hy (cA k)
 rw [show cN (Sp.bR m1 m2) (n1+n2) L k=cN (jl m1 m2 x y) (n1+n2) L k+1 by unfold cN;omega,show cN (jl m1 m2 x y) (n1+n2) L k+1-2=cN (jl m1 m2 x y) (n1+n2) L k-1 by omega];by_cases h:1<=cN (jl m1 m2 x y) (n1+n2) L k
 ·rw [if_pos h,if_pos (by omega)]
 ·rw [if_neg h,if_neg (by omega)]
theorem UY {m:List Int} {n:Nat} (hp:aE m n) (ch:Nat->Bool) {x:Nat} {z:Int} (hx:x<4*n) (h:aL (fun x=>m.getD x.toNat 0) (fun x=>bd (ch (x/4).toNat) x) x z):Sp.KK Sp.bT (Sp.bW m) (4*n) x z.toNat:=by
 have hi:=l6 hp.ok hp.inv hp.ne ch;have hD:Sp.lA m n:=⟨⟨hp.ok,hp.inv⟩,hp.ne⟩;have hE:=Sp.dq (Sp.aT n) hD.ej;have key: ∀z,aL (fun x=>m.getD x.toNat 0) (fun x=>bd (ch (x/4).toNat) x) x z->au n z/\Sp.KK Sp.bT (Sp.bW m) (4*n) x z.toNat:=fun z h=>by
  induction h with
  |refl=>exact ⟨by unfold au;omega,by simpa using hE.rfl' _ hx⟩
  | @aH z _ ih=>
    have hr:=hi.mr z ih.1;have h0:=ih.1;unfold au at hr h0;exact ⟨hr,hE.trans _ _ _ hx (by omega) (by omega) ih.2 (Sp.dL (Sp.aT n) hD.ej (x:=z.toNat) (by omega))⟩
  | @join z _ ih=>
    have hr:=hi.jr z ih.1;have h0:=ih.1;refine ⟨hr,?_⟩;unfold au at hr h0;refine hE.trans _ _ _ hx (by omega) (by omega) ih.2 (Sp.k7 (Sp.aT n) hD.ej (x:=z.toNat) (by omega) (Sp.ki.2 ?_))
    have:bd (ch (z/4).toNat) z/4=z/4:=by unfold bd;rw [qo,pD];split<;>omega
    omega
 exact (key z h).2
theorem Oo (h1:bF s1 m1 L1=true) (h2:bF s2 m2 L2=true) (hn:s1.length+s2.length<=64) (hL:L1+L2<=64) {x y:Nat} (hx:x<4*s1.length) (hy:y<4*s2.length) (ox:aw s1 x=true) (oy:aw s2 y=true):
  bF (s1++s2) (jl m1 m2 x y) (L1+L2)=true:=by
 have sK:=Sp.fR h1 h2 hn hL;have v:=cK sK;have cL:(s1++s2).length=s1.length+s2.length:=by simp
 have aC:=bP h1;have aJ:=bP h2;have dc:=bP sK;rw [cL] at dc;have hl:=aC.ok.1;have tN:=aJ.ok.1;obtain ⟨f1,f2⟩:=Kx (m2:=m2) (y:=y) aC hx;have cQ:=yH aC aJ dc hx hy;obtain ⟨hd,eZ⟩:=Sp.jk sK;have hS:=hd.vZ.1 eZ;rw [cL] at hd hS;have hD:Sp.lA (jl m1 m2 x y) (s1.length+s2.length):=⟨⟨cQ.ok,cQ.inv⟩,cQ.ne⟩
 have g:=fun z hz=>JG dc (x:=x) (y:=m1.length+y) (by omega) (by omega) f1 f2 (z:=z) hz;have hi:=l6 dc.ok dc.inv dc.ne fun _=>false;have rx:au (s1.length+s2.length) (x:Int):=by unfold au;omega
 have ry:au (s1.length+s2.length) ((m1.length+y:Nat):Int):=by unfold au;omega
 have QL:((m1.length+y:Nat):Int)≠(fun x:Int=>(Sp.bR m1 m2).getD x.toNat 0) (x:Int):=by simpa using f2
 obtain ⟨c1,c2,c3,c4⟩:=Jg hi rx ry f1 QL;simp only [Int.toNat_natCast] at c1 c2 c3 c4;have mu: ∀z,z<4*(s1.length+s2.length)->((Sp.bW (Sp.bR m1 m2) z:Nat):Int)=(Sp.bR m1 m2).getD z 0:=fun z hz=>hd.cast hz;have mc: ∀z,z<4*(s1.length+s2.length)->((Sp.bW (jl m1 m2 x y) z:Nat):Int)=(jl m1 m2 x y).getD z 0:=fun z hz=>hD.cast hz;have lax:=hd.ej.lt x (by omega)
 have lay:=hd.ej.lt (m1.length+y) (by omega);have gz: ∀z,z<4*(s1.length+s2.length)->(jl m1 m2 x y).getD z 0=iY (fun x=>(Sp.bR m1 m2).getD x.toNat 0) x ((m1.length+y:Nat):Int) z:=g;have yz:=fun ch=>s7 (ch:=ch) dc.ok dc.inv dc.ne;have vB:=OI hi (yz fun _=>false) (x:=x) (y:=m1.length+y) (by omega) (by omega) (fun e=>by
  have:=Jf aC (fun _=>false) (x:=x) (by omega) (((yz fun _=>false).iff _ _ (by omega) (by omega)).1 e)
  omega)
 have EP: ∀z,au (s1.length+s2.length) z->iY (fun x=>(Sp.bR m1 m2).getD x.toNat 0) x ((m1.length+y:Nat):Int) z=(jl m1 m2 x y).getD z.toNat 0:=fun z hz=>by
  unfold au at hz
  have:=gz z.toNat (by omega)
  rw [this,show ((z.toNat:Nat):Int)=z by omega]
 have Pf: ¬aL (fun x=>(Sp.bR m1 m2).getD x.toNat 0) (fun x=>bd ((fun _=>false) (x/4).toNat) x) (x:Int) ((m1.length+y:Nat):Int):=fun e=>by
  have:=Jf aC (fun _=>false) (x:=x) (by omega) e
  omega
 have XN: ¬aL (fun x=>(Sp.bR m1 m2).getD x.toNat 0) (fun x=>bd ((fun _=>false) (x/4).toNat) x) ((m1.length+y:Nat):Int) (x:Int):=fun e=>Pf (e.symm hi ry);have kx:Sp.KK Sp.bT (Sp.bW (jl m1 m2 x y)) (4*(s1.length+s2.length)) (Sp.bW (Sp.bR m1 m2) x) x:=by
  have e:=GX hi rx (mt':=fun z=>(jl m1 m2 x y).getD z.toNat 0) (fun w hw e1 e2=>by
   show (jl m1 m2 x y).getD w.toNat 0=_;rw [←EP w (hw.cn hi rx)];refine uS e1 e2 (fun e=>Pf (e▸hw)) (fun e=>Pf ?_);subst e
   have:=aL.aH hw
   rwa [hi.mm _ ry] at this) (aL.refl (x:Int))
  have e':=UY cQ (fun _=>false) (x:=Sp.bW (Sp.bR m1 m2) x) lax (z:=x) (by rw [mu x (by omega)];simpa using e);simpa using e'
 have ky:Sp.KK Sp.bT (Sp.bW (jl m1 m2 x y)) (4*(s1.length+s2.length)) (Sp.bW (Sp.bR m1 m2) (m1.length+y)) (m1.length+y):=by
  have e:=GX hi ry (mt':=fun z=>(jl m1 m2 x y).getD z.toNat 0) (fun w hw e1 e2=>by
   show (jl m1 m2 x y).getD w.toNat 0=_;rw [←EP w (hw.cn hi ry)];refine uS (fun e=>XN (e▸hw)) (fun e=>XN ?_) e1 e2;subst e
   have:=aL.aH hw
   rwa [hi.mm _ rx] at this) (aL.refl ((m1.length+y:Nat):Int))
  have e':=UY cQ (fun _=>false) (x:=Sp.bW (Sp.bR m1 m2) (m1.length+y)) lay (z:=((m1.length+y:Nat):Int)) (by rw [mu _ (by omega)];simp only [Int.toNat_natCast] at e⊢;exact e);rw [Int.toNat_natCast] at e';exact e'
 have c8:=Sp.dq (Sp.aT (s1.length+s2.length)) hD.ej;have Qr:Sp.k6 (4*(s1.length+s2.length)) Sp.bT (Sp.bW (jl m1 m2 x y)):=by
  refine hS.FJ hD.ej (x:=x) (y:=m1.length+y) (by omega) (by omega) (fun hk=>?_) ?_ ?_ ?_ ?_ (fun z hz n1 n2 n3 n4=>?_) (c8.symm _ _ lax (by omega) kx) (c8.symm _ _ lay (by omega) ky)
  ·--the parts are not connected
   have:=Sp.cB (R:=fun a b=>(a<4*s1.length↔b<4*s1.length)) (Sp.aT _) hd.ej ⟨fun _ _=>Iff.rfl,fun _ _ _ _ h=>h.symm,fun _ _ _ _ _ _ h k=>h.trans k⟩ (fun z _=>by have:=Sp.fe z;omega) (fun z hz=>by
    have e:=mu z hz;by_cases kr:z<4*s1.length
    ·rw [Sp.oa (by omega)] at e
     have:=aC.ok.2 z kr;omega
    ·have e2:=Sp.ti (m1:=m1) (m2:=m2) (i:=z-m1.length) (by omega);rw [show m1.length+(z-m1.length)=z by omega] at e2
     have:=aJ.ok.2 (z-m1.length) (by omega);omega) (by omega) (by omega) hk
   omega
  ·have e1:=mc x (by omega);have e2:=gz x (by omega);rw [c1] at e2;have e3:=mu (m1.length+y) (by omega);omega
  ·have e1:=mc _ lay;have e2:=gz _ lay;rw [mu _ (by omega),c2] at e2;omega
  ·have e1:=mc (m1.length+y) (by omega);have e2:=gz (m1.length+y) (by omega);rw [c3] at e2;have e3:=mu x (by omega);omega
  ·have e1:=mc _ lax;have e2:=gz _ lax;rw [mu _ (by omega),c4] at e2;omega
  ·have e1:=mc z hz;have e2:=gz z hz;have e3:=mu x (by omega);have e4:=mu (m1.length+y) (by omega);have e5:=mu z hz;rw [uS (by omega) (by simp only [Int.toNat_natCast];omega) (by omega) (by simp only [Int.toNat_natCast];omega)] at e2;simp only [Int.toNat_natCast] at e2;omega
 rw [Ho];unfold Bo;rw [cL,Bool.and_eq_true];refine ⟨?_,hD.vZ.2 Qr⟩;unfold ta;rw [decide_eq_true_iff,cL];have aZ:=v.sg;rw [cL] at aZ;refine ⟨hn,hD.prd.ok.1,v.l0,hL,aZ,fun z hz=>?_⟩;have q:=hD.prd.ok.2 z hz;refine ⟨q.1,by rw [cL];exact q.2,hD.ne z hz,hD.prd.inv z hz,?_⟩
 have vf: ∀w:Nat,w<4*(s1.length+s2.length)->aw (s1++s2) w≠aw (s1++s2) ((Sp.bR m1 m2).getD w 0):=fun w hw=>(v.mt w (by rw [cL];exact hw)).2.2.2.2;have O1:aw (s1++s2) (x:Int)=true:=by rw [Sp.pP (by omega) (by omega)];exact ox
 have O0:aw (s1++s2) ((m1.length+y:Nat):Int)=true:=by
  rw [show ((m1.length+y:Nat):Int)=(y:Int)+4*s1.length by omega,Sp.pO (by omega)];exact oy
 have O3:=vf x (by omega);have O2:=vf (m1.length+y) (by omega);rw [O1] at O3;rw [O0] at O2;rw [gz z hz];have px:=dc.ok.2 x (by omega);have py:=dc.ok.2 (m1.length+y) (by omega);by_cases n1:z=x
 ·subst n1;rw [c1,O1];exact O2
 ·by_cases n2:(z:Int)=(Sp.bR m1 m2).getD (m1.length+y) 0
  ·rw [n2,c2,O1];exact Ne.symm O2
  ·by_cases n3:z=m1.length+y
   ·subst n3;rw [c3,O0];exact O3
   ·by_cases n4:(z:Int)=(Sp.bR m1 m2).getD x 0
    ·rw [n4,c4,O0];exact Ne.symm O3
    ·rw [uS (by omega) (by simp only [Int.toNat_natCast];omega) (by omega) (by simp only [Int.toNat_natCast];omega)];simp only [Int.toNat_natCast];exact vf z hz
end
end Go.Proofs.YtphjphpmfflfpaaGreatDoor
