/- Plain: diagrams whose half-edges are renamed: they stay valid, and their circles are the old ones. -/
import Derived.Test.YtjpbeacamoijhaaGreatDoorZn
import Derived.Test.YtjpbeacamoijhaaGreatDoorZo
namespace Go.Proofs.YtjpbeacamoijhaaGreatDoor
set_option linter.unusedSimpArgs false
set_option linter.unusedVariables false
set_option linter.unusedSectionVars false
namespace Sp
open Classical
section
variable {N:Nat} {si al eK:Nat->Nat}
theorem U4 (hs:aw N si) (aX:aw N eK) (h1: ∀x,x<N->si (eK x)=x) {x y:Nat} (hx:x<N) (h:SC eK x y):SC si x y:=by
 have hE:=SC.eqv hs;refine Da aX hE (fun z hz=>?_) hx h
 have:SC si (eK z) (si (eK z)):=SC.step _ _
 rw [h1 z hz] at this;exact hE.symm _ _ (aX.lt z hz) hz this
theorem eY.opp (h:eY N si al) (aX:aw N eK) (h1: ∀x,x<N->si (eK x)=x) (h2: ∀x,x<N->eK (si x)=x):eY N eK al:=by
 have hs:=h.perm;have ha:=h.ki;have MY: ∀x y,x<N->y<N->(SC si x y↔SC eK x y):=fun x y hx hy=>⟨fun k=>U4 aX hs h2 hx k,fun k=>U4 hs aX h1 hx k⟩;have kE: ∀x y,x<N->y<N->(KK si al N x y↔KK eK al N x y):=fun x y hx hy=>by
  constructor
  ·intro k;exact sJ hs ha (sa aX ha) (fun z hz=>rT aX ha hz ((MY z _ hz (hs.lt z hz)).1 (SC.step si z))) (fun z hz=>e7 aX ha hz) hx hy k
  ·intro k;exact sJ aX ha (sa hs ha) (fun z hz=>rT hs ha hz ((MY z _ hz (aX.lt z hz)).2 (SC.step eK z))) (fun z hz=>e7 hs ha hz) hx hy k
 have jA:=qL hs ha N (Nat.le_refl _);have gY:=qL aX ha N (Nat.le_refl _);have fE: ∀x y,x<N->SC (ba eK al N) x y->SC (ba si al N) (al x) (al y):=fun x y hx k=>by
  have OY:jM N (fun a b=>SC (ba si al N) (al a) (al b)):=⟨fun a dR=> .refl _ _,fun a b dR hb k=>k.symm jA (ha.lt a dR),fun a b c _ _ _ k l=>k.trans l⟩;refine Da gY OY (fun z hz=>?_) hx k;have nB:=ha.lt z hz;have pt:=aX.lt _ nB;have e:ba si al N (al (ba eK al N z))=al z:=by
   rw [da ha hz,da ha (ha.lt _ pt),ha.inv _ pt,h1 _ nB]
  have st:=SC.step (ba si al N) (al (ba eK al N z));rw [e] at st;exact st.symm jA (ha.lt _ (gY.lt z hz))
 have fE': ∀x y,x<N->SC (ba si al N) x y->SC (ba eK al N) (al x) (al y):=fun x y hx k=>by
  have OY:jM N (fun a b=>SC (ba eK al N) (al a) (al b)):=⟨fun a dR=> .refl _ _,fun a b dR hb k=>k.symm gY (ha.lt a dR),fun a b c _ _ _ k l=>k.trans l⟩;refine Da jA OY (fun z hz=>?_) hx k;have nB:=ha.lt z hz;have pt:=hs.lt _ nB;have e:ba eK al N (al (ba si al N z))=al z:=by
   rw [da ha hz,da ha (ha.lt _ pt),ha.inv _ pt,h2 _ nB]
  have st:=SC.step (ba eK al N) (al (ba si al N z));rw [e] at st;exact st.symm gY (ha.lt _ (jA.lt z hz))
 refine ⟨aX,ha,fun r hr lV lF hV hF=>?_⟩;have xf:Tr N (KK si al N r) (SC si) lV:=hV.cy (fun x hx=>(kE r x hr hx).symm) (fun x y hx hy _ _=>(MY x y hx hy).symm);have xj:Tr N (KK si al N r) (SC (ba si al N)) (lF.map al):=by
  refine ⟨fun x hx=>?_,?_,fun x hx y hy e=>?_,fun x hx hU=>?_⟩
  ·obtain ⟨z,hz,rfl⟩:=List.mem_map.1 hx;have hm:=hF.mem z hz;have k1:=(kE r z hr hm.1).2 hm.2;exact ⟨ha.lt z hm.1,((ji hs ha hr).2 z hm.1).1 k1⟩
  ·rw [List.nodup_iff_pairwise_ne,List.pairwise_map];exact List.Pairwise.imp_of_mem (fun {a b} h1 h2 ax e=>ax (by rw [←ha.inv a (hF.mem a h1).1,e,ha.inv b (hF.mem b h2).1])) (List.nodup_iff_pairwise_ne.1 hF.nodup)
  ·obtain ⟨z,hz,rfl⟩:=List.mem_map.1 hx;obtain ⟨u,hu,rfl⟩:=List.mem_map.1 hy;have m1:=(hF.mem z hz).1;have m2:=(hF.mem u hu).1
   have:=fE' _ _ (ha.lt z m1) e
   rw [ha.inv z m1,ha.inv u m2] at this;rw [hF.apart z hz u hu this]
  ·have gX:=ha.lt x hx;obtain ⟨y,hy,k⟩:=hF.all (al x) gX ((kE r _ hr gX).1 (((ji hs ha hr).2 x hx).1 hU));refine ⟨al y,List.mem_map.2 ⟨y,hy,rfl⟩,?_⟩
   have:=fE _ _ gX k
   rw [ha.inv x hx] at this;exact this
 have:=h.eq r hr lV (lF.map al) xf xj
 rw [List.length_map] at this;rw [this];congr 1;exact Af fun x hx=>by rw [kE r x hr hx]
end
end Sp
structure Rel (n:Nat) (f g:Nat->Nat) (m m':List Int):Prop where
 fl: ∀x,x<4*n->f x<4*n
 gl: ∀x,x<4*n->g x<4*n
 gf: ∀x,x<4*n->g (f x)=x
 fg: ∀x,x<4*n->f (g x)=x
 len:m'.length=4*n
 mate: ∀x,x<4*n->m'.getD (f x) 0=(f (m.getD x 0).toNat:Int)
section
variable {n:Nat} {f g:Nat->Nat} {m m':List Int}
theorem Rel.rN (h:Rel n f g m m') (hp:jh m n) {y:Nat} (hy:y<4*n):m'.getD y 0=(f (m.getD (g y) 0).toNat:Int):=by
 have:=h.mate (g y) (h.gl y hy)
 rw [h.fg y hy] at this;exact this
theorem Rel.pm (h:Rel n f g m m') (hp:jh m n):jh m' n:=by
 have mr: ∀x,x<4*n->(m.getD x 0).toNat<4*n/\0<=m.getD x 0:=fun x hx=>by have:=hp.ok.2 x hx;omega
 refine ⟨⟨h.len,fun y hy=>?_⟩,fun y hy=>?_,fun y hy=>?_⟩
 ·rw [h.rN hp hy]
  have:=h.fl _ (mr _ (h.gl y hy)).1
  omega
 ·have hg:=h.gl y hy;rw [h.rN hp hy,Int.toNat_natCast,h.mate _ (mr _ hg).1,hp.inv _ hg,Int.toNat_natCast,h.fg y hy]
 ·rw [h.rN hp hy];intro e;have hg:=h.gl y hy;have e2:f (m.getD (g y) 0).toNat=y:=by omega
  have e3:=congrArg g e2;rw [h.gf _ (mr _ hg).1] at e3
  have:=(mr _ hg).2
  exact hp.ne _ hg (by omega)
end
def Am (x:Nat):Nat:=x-x % 4+(x % 4+1)% 4
theorem RG (n:Nat):Sp.aw (4*n) Am:=⟨fun x hx=>by unfold Am;omega,fun x y hx hy e=>by unfold Am at e;omega⟩
theorem XU {s s' m m':List Int} {L:Int} {f g:Nat->Nat} (hv:bI s m L=true) (jY:s'.length=s.length) (h:Rel s.length f g m m') (mC: ∀i,i<s.length->s'.getD i 0=1\/s'.getD i 0= -1)
  (bf:Nat->Bool) (GI: ∀x,x<4*s.length->bf (m.getD x 0).toNat=bf x) (lO: ∀x,x<4*s.length->ak s' (f x:Nat)=(bf x^^ak s x)) (ho:(∀x,x<4*s.length->f (Sp.aV x)=Sp.aV (f x))\/(∀x,x<4*s.length->f (Am x)=Sp.aV (f x))):bI s' m' L=true:=by
 have v:=dr hv;have hp:=pj hv;have kb:=h.pm hp;obtain ⟨hd,gS⟩:=Sp.qD hv;have hS:=hd.vB.1 gS;have nW:Sp.oX m' s.length:=⟨⟨kb.ok,kb.inv⟩,kb.ne⟩;have mr: ∀x,x<4*s.length->(m.getD x 0).toNat<4*s.length/\0<=m.getD x 0:=fun x hx=>by have:=hp.ok.2 x hx;omega
 have ea: ∀y,y<4*s.length->g (Sp.aZ m' y)=Sp.aZ m (g y):=fun y hy=>by
  unfold Sp.aZ;rw [h.rN hp hy,Int.toNat_natCast,h.gf _ (mr _ (h.gl y hy)).1]
 have la: ∀y,y<4*s.length->Sp.aZ m' y<4*s.length:=fun y hy=>by have:=kb.ok.2 y hy;unfold Sp.aZ;omega
 have gi: ∀x y,x<4*s.length->y<4*s.length->g x=g y->x=y:=fun x y hx hy e=>by rw [←h.fg x hx,e,h.fg y hy]
 have sl: ∀x,x<4*s.length->Sp.aV x<4*s.length:=fun x hx=>(Sp.bM s.length).lt x hx;have zx:Sp.eY (4*s.length) Sp.aV (Sp.aZ m'):=by
  rcases ho with ho|ho
  ·refine hS.um (io:=g) h.gl gi sl la (fun x hx=>?_) ea
   have:=ho (g x) (h.gl x hx)
   rw [h.fg x hx] at this;rw [←this,h.gf _ (sl _ (h.gl x hx))]
  ·have hO:=hS.opp (RG s.length) (fun x hx=>by unfold Am Sp.aV;omega) (fun x hx=>by unfold Am Sp.aV;omega);refine hO.um (io:=g) h.gl gi sl la (fun x hx=>?_) ea
   have:=ho (g x) (h.gl x hx)
   rw [h.fg x hx] at this;rw [←this,h.gf _ ((RG s.length).lt _ (h.gl x hx))]
 rw [Dk];unfold zU;rw [jY,Bool.and_eq_true];refine ⟨?_,nW.vB.2 zx⟩;unfold sK;rw [decide_eq_true_iff,jY];refine ⟨v.s64,h.len,v.l0,v.l64,fun i hi=>mC i hi,fun y hy=>?_⟩;have p1:=kb.ok.2 y hy;refine ⟨p1.1,by rw [jY];exact p1.2,kb.ne y hy,kb.inv y hy,?_⟩;have hg:=h.gl y hy;have q1:=lO (g y) hg;rw [h.fg y hy] at q1;have q2:=lO _ (mr _ hg).1
 rw [h.rN hp hy,q1,q2,GI _ hg,show (((m.getD (g y) 0).toNat:Nat):Int)=m.getD (g y) 0 by have:=(mr _ hg).2;omega]
 have:=(v.mt (g y) hg).2.2.2.2
 intro e;exact this (by revert e;cases bf (g y)<;>simp)
theorem Mh {s s' m m':List Int} {L:Int} {f g:Nat->Nat} (hv:bI s m L=true) (jY:s'.length=s.length) (h:Rel s.length f g m m') (mC: ∀i,i<s.length->s'.getD i 0=1\/s'.getD i 0= -1)
  (b:Bool) (lO: ∀x,x<4*s.length->ak s' (f x:Nat)=(b^^ak s x)) (ho:(∀x,x<4*s.length->f (Sp.aV x)=Sp.aV (f x))\/(∀x,x<4*s.length->f (Am x)=Sp.aV (f x))):bI s' m' L=true:=
 XU hv jY h mC (fun _=>b) (fun _ _=>rfl) lO ho
section
variable {m m':List Int} {n L:Nat}
end
def jv (k:Nat->Nat) (x:Nat):Nat:=x-x % 4+(x % 4+k (x/4))% 4
def rY (x:Nat):Nat:=x-x % 4+(4-x % 4)% 4
theorem KJ {m:List Int} {n:Nat} {to:Int->Int} {t u:Nat->Nat} (ht: ∀x:Nat,to x=t x) (hd: ∀x,t x/4=x/4) (hu: ∀x,u x/4=x/4) (h1: ∀x,u (t x)=x) (h2: ∀x,t (u x)=x) (hp:jh m n):Rel n t u m (jw m to m.length):=by
 have hl:=hp.ok.1;refine ⟨fun x hx=>by have:=hd x;omega,fun x hx=>by have:=hu x;omega,fun x _=>h1 x,fun x _=>h2 x,by rw [Et];exact hl,fun x hx=>?_⟩
 have:=Sp.ql (m:=m) ht (fun x y e=>by rw [←h1 x,e,h1]) (fun x hx=>by have:=hd x;omega) m.length (Nat.le_refl _) x (by omega)
 rw [this];have hm:=hp.ok.2 x hx
 have:=ht (m.getD x 0).toNat
 rw [show (((m.getD x 0).toNat:Nat):Int)=m.getD x 0 by omega] at this;exact this
theorem jn4 (b:Bool) (c:Nat):aF b ((4*c:Nat):Int)=((if b then 4*c+3 else 4*c+1:Nat):Int)/\aF b ((4*c+1:Nat):Int)=((if b then 4*c+2 else 4*c:Nat):Int)/\aF b ((4*c+2:Nat):Int)=((if b then 4*c+1 else 4*c+3:Nat):Int)/\
  aF b ((4*c+3:Nat):Int)=((if b then 4*c else 4*c+2:Nat):Int):=by
 obtain ⟨a0,a1,a2,a3,b0,b1,b2,b3⟩:=HG c;cases b
 ·exact ⟨b0,b1,b2,b3⟩
 ·exact ⟨a0,a1,a2,a3⟩
theorem four (x:Nat):x=4*(x/4)\/x=4*(x/4)+1\/x=4*(x/4)+2\/x=4*(x/4)+3:=by omega
theorem Uc {k:Nat->Nat} (c:Nat) (h:k c=1\/k c=2\/k c=3):(k c=1->jv k (4*c)=4*c+1/\jv k (4*c+1)=4*c+2/\jv k (4*c+2)=4*c+3/\jv k (4*c+3)=4*c)/\
  (k c=2->jv k (4*c)=4*c+2/\jv k (4*c+1)=4*c+3/\jv k (4*c+2)=4*c/\jv k (4*c+3)=4*c+1)/\
  (k c=3->jv k (4*c)=4*c+3/\jv k (4*c+1)=4*c/\jv k (4*c+2)=4*c+1/\jv k (4*c+3)=4*c+2):=by
 have d0:4*c/4=c:=by omega
 have d1:(4*c+1)/4=c:=by omega
 have d2:(4*c+2)/4=c:=by omega
 have d3:(4*c+3)/4=c:=by omega
 unfold jv;rw [d0,d1,d2,d3];omega
theorem y70 (c:Nat):rY (4*c)=4*c/\rY (4*c+1)=4*c+3/\rY (4*c+2)=4*c+2/\rY (4*c+3)=4*c+1:=by
 unfold rY;omega
theorem zT (s:List Int) (c:Nat):ak s ((4*c:Nat):Int)=false/\ak s ((4*c+1:Nat):Int)=(s.getD c 0==1)/\ak s ((4*c+2:Nat):Int)=true/\ak s ((4*c+3:Nat):Int)=(s.getD c 0== -1):=by
 have e0:((4*c:Nat):Int)% 4=0:=by omega
 have e1:((4*c+1:Nat):Int)% 4=1:=by omega
 have e2:((4*c+2:Nat):Int)% 4=2:=by omega
 have e3:((4*c+3:Nat):Int)% 4=3:=by omega
 have d1:(((4*c+1:Nat):Int)/4).toNat=c:=by omega
 have d3:(((4*c+3:Nat):Int)/4).toNat=c:=by omega
 unfold ak;rw [e0,e1,e2,e3,d1,d3];simp
theorem Df {s:List Int} {sg:Int->Int} {c:Nat} (h:c<s.length):(gU s sg s.length).getD c 0=s.getD c 0*sg c:=by
 unfold gU;simp [List.getD_eq_getElem?_getD,List.getElem?_range h]
section
variable {s m:List Int} {L:Int}
theorem IM {k k':Nat->Nat} (h: ∀c,(k c=1/\k' c=3)\/(k c=3/\k' c=1)\/(k c=2/\k' c=2)) (x:Nat):jv k' (jv k x)=x:=by
 have hd:jv k x/4=x/4:=by unfold jv;omega
 have:=h (x/4)
 unfold jv at hd⊢;rw [hd];omega
theorem Tb (hp:jh m s.length):Rel s.length (jv (Sp.kT s)) (jv (fun c=>4-Sp.kT s c)) m (td s m fun _=>true):=by
 have hk:=fun c=>Sp.eO (s:=s) (c:=c);refine KJ (fun x=>?_) (fun x=>by unfold jv;omega) (fun x=>by unfold jv;omega) (IM fun c=>by have:=hk c;omega) (IM fun c=>by have:=hk c;omega) hp;have hd:(((x:Int)/4).toNat)=x/4:=by omega
 unfold rP cd jv Sp.kT;rw [if_pos rfl,hd];by_cases h:s.getD (x/4) 0=1
 ·rw [if_pos h,if_pos h,show Int.tmod (-3) 4= -3 by decide];omega
 ·rw [if_neg h,if_neg h,show Int.tmod (-1) 4= -1 by decide];omega
theorem TP (hv:bI s m L=true):bI (ni s fun _=>true) (td s m fun _=>true) L=true:=by
 have v:=dr hv;have hp:=pj hv;have hlen:(ni s fun _=>true).length=s.length:=by unfold ni;rw [sd]
 have sg: ∀c,c<s.length->(ni s fun _=>true).getD c 0= -s.getD c 0:=fun c hc=>by
  unfold ni;rw [Df hc];unfold rO;simp
 refine Mh hv hlen (Tb hp) (fun i hi=>by have:=v.sg i hi;rw [sg i hi];omega) false (fun x hx=>?_) (.inl fun x hx=>?_)
 ·rw [Bool.false_xor];obtain ⟨c,hc⟩: ∃c,x/4=c:=⟨_,rfl⟩;have uM:=four x;rw [hc] at uM;have aY:c<s.length:=by omega
  obtain ⟨a0,a1,a2,a3⟩:=zT s c;obtain ⟨b0,b1,b2,b3⟩:=zT (ni s fun _=>true) c;rw [sg c aY] at b1 b3;have R:=Uc (k:=Sp.kT s) c (by rcases Sp.eO (s:=s) (c:=c) with h|h<;>simp [h]);rcases v.sg c aY with h|h
  ·obtain ⟨r0,r1,r2,r3⟩:=R.1 (by unfold Sp.kT;rw [if_pos h]);rw [h] at a1 a3 b1 b3;rcases uM with rfl|rfl|rfl|rfl
   ·rw [r0,b1,a0];rfl
   ·rw [r1,b2,a1];rfl
   ·rw [r2,b3,a2];rfl
   ·rw [r3,b0,a3];rfl
  ·obtain ⟨r0,r1,r2,r3⟩:=R.2.2 (by unfold Sp.kT;rw [if_neg (by omega)]);rw [h] at a1 a3 b1 b3;rcases uM with rfl|rfl|rfl|rfl
   ·rw [r0,b3,a0];rfl
   ·rw [r1,b0,a1];rfl
   ·rw [r2,b1,a2];rfl
   ·rw [r3,b2,a3];rfl
 ·have hd:Sp.aV x/4=x/4:=Sp.jS x
  have:=Sp.eO (s:=s) (c:=x/4)
  unfold jv;rw [hd];unfold Sp.aV;omega
theorem TI (hp:jh m s.length):Rel s.length rY rY m (jw m (fun h=>cd h (4-2*(h % 4))) m.length):=by
 refine KJ (fun x=>?_) (fun x=>by unfold rY;omega) (fun x=>by unfold rY;omega) (fun x=>by unfold rY;omega) (fun x=>by unfold rY;omega) hp;unfold cd rY;rcases (show x % 4=0\/x % 4=1\/x % 4=2\/x % 4=3 by omega) with h|h|h|h
 ·rw [show 4-2*((x:Int)% 4)=4 by omega,show Int.tmod 4 4=0 by decide];omega
 ·rw [show 4-2*((x:Int)% 4)=2 by omega,show Int.tmod 2 4=2 by decide];omega
 ·rw [show 4-2*((x:Int)% 4)=0 by omega,show Int.tmod 0 4=0 by decide];omega
 ·rw [show 4-2*((x:Int)% 4)= -2 by omega,show Int.tmod (-2) 4= -2 by decide];omega
theorem YW (hv:bI s m L=true):bI (gU s (fun _=> -1) s.length) (jw m (fun h=>cd h (4-2*(h % 4))) m.length) L=true:=by
 have v:=dr hv;have hp:=pj hv;have sg: ∀c,c<s.length->(gU s (fun _=> -1) s.length).getD c 0= -s.getD c 0:=fun c hc=>by rw [Df hc];omega
 refine Mh hv (sd _ _ _) (TI hp) (fun i hi=>by have:=v.sg i hi;rw [sg i hi];omega) false (fun x hx=>?_) (.inr fun x hx=>by unfold rY Am Sp.aV;omega);rw [Bool.false_xor];obtain ⟨c,hc⟩: ∃c,x/4=c:=⟨_,rfl⟩;have uM:=four x;rw [hc] at uM;have aY:c<s.length:=by omega
 obtain ⟨a0,a1,a2,a3⟩:=zT s c;obtain ⟨b0,b1,b2,b3⟩:=zT (gU s (fun _=> -1) s.length) c;rw [sg c aY] at b1 b3;obtain ⟨r0,r1,r2,r3⟩:=y70 c;rcases v.sg c aY with h|h<;>rw [h] at a1 a3 b1 b3<;>rcases uM with rfl|rfl|rfl|rfl
 ·rw [r0,b0,a0]
 ·rw [r1,b3,a1];rfl
 ·rw [r2,b2,a2]
 ·rw [r3,b1,a3];rfl
 ·rw [r0,b0,a0]
 ·rw [r1,b3,a1];rfl
 ·rw [r2,b2,a2]
 ·rw [r3,b1,a3];rfl
theorem TH (hp:jh m s.length):Rel s.length (jv fun _=>2) (jv fun _=>2) m (jw m (fun h=>cd h 2) m.length):=by
 refine KJ (fun x=>?_) (fun x=>by unfold jv;omega) (fun x=>by unfold jv;omega) (IM fun c=>by omega) (IM fun c=>by omega) hp;unfold cd jv;rw [show Int.tmod 2 4=2 by decide];dsimp only;omega
theorem TR (hv:bI s m L=true):bI (gU s (fun _=>1) s.length) (jw m (fun h=>cd h 2) m.length) L=true:=by
 have v:=dr hv;have hp:=pj hv;have sg: ∀c,c<s.length->(gU s (fun _=>1) s.length).getD c 0=s.getD c 0:=fun c hc=>by rw [Df hc];omega
 refine Mh hv (sd _ _ _) (TH hp) (fun i hi=>by have:=v.sg i hi;rw [sg i hi];omega) true (fun x hx=>?_) (.inl fun x hx=>by unfold jv Sp.aV;dsimp only;omega);rw [Bool.true_xor];obtain ⟨c,hc⟩: ∃c,x/4=c:=⟨_,rfl⟩;have uM:=four x;rw [hc] at uM;have aY:c<s.length:=by omega
 obtain ⟨a0,a1,a2,a3⟩:=zT s c;obtain ⟨b0,b1,b2,b3⟩:=zT (gU s (fun _=>1) s.length) c;rw [sg c aY] at b1 b3;obtain ⟨r0,r1,r2,r3⟩:=(Uc (k:=fun _=>2) c (by simp)).2.1 rfl;rcases v.sg c aY with h|h<;>rw [h] at a1 a3 b1 b3<;>rcases uM with rfl|rfl|rfl|rfl
 ·rw [r0,b2,a0];rfl
 ·rw [r1,b3,a1];rfl
 ·rw [r2,b0,a2];rfl
 ·rw [r3,b1,a3];rfl
 ·rw [r0,b2,a0];rfl
 ·rw [r1,b3,a1];rfl
 ·rw [r2,b0,a2];rfl
 ·rw [r3,b1,a3];rfl
end
end Go.Proofs.YtjpbeacamoijhaaGreatDoor
