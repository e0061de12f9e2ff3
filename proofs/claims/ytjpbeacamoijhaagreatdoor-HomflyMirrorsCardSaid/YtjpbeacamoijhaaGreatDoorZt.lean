/- Plain: renaming; the value of a switched diagram. -/
import Derived.Test.YtjpbeacamoijhaaGreatDoorZs
import Derived.Test.YtjpbeacamoijhaaGreatDoorZn
import Derived.Test.YtjpbeacamoijhaaGreatDoorSq
import Derived.Test.YtjpbeacamoijhaaGreatDoorZq
import Derived.Test.YtjpbeacamoijhaaGreatDoorZp
namespace Go.Proofs.YtjpbeacamoijhaaGreatDoor
set_option linter.unusedSimpArgs false
set_option linter.unusedVariables false
namespace Hs
open Sp (eY aV aw itn SC aZ)
def iW (p:Nat->Nat) (f:Nat->Bool) (a:Nat):Nat:=2*p (a/2)+(if f (a/2) then 1-a % 2 else a % 2)
theorem Dd (p:Nat->Nat) (f:Nat->Bool) (a:Nat):iW p f a/2=p (a/2):=by unfold iW;split<;>omega
theorem Io (p:Nat->Nat) (f:Nat->Bool) (a:Nat):iW p f a % 2=if f (a/2) then 1-a % 2 else a % 2:=by unfold iW;split<;>omega
theorem Zo (p:Nat->Nat) (f:Nat->Bool) (a:Nat):co (iW p f a)=iW p f (co a):=by
 have h1:=bV a;have h2:=vt a;have e:co (iW p f a)=2*(iW p f a/2)+(1-iW p f a % 2):=by unfold co;split<;>omega
 rw [e,Dd,Io];unfold iW;rw [h1,h2]
 split<;>omega
structure Ren (D D':Sh) (p:Nat->Nat) (f:Nat->Bool):Prop where
 n:D'.n=D.n
 lt: ∀c,c<D.n->p c<D.n
 inj: ∀c d,c<D.n->d<D.n->p c=p d->c=d
 sg: ∀c,c<D.n->D'.sg (p c)=if f c then-D.sg c else D.sg c
 nx: ∀a,a<2*D.n->D'.nx (iW p f a)=iW p f (D.nx a)
structure RR (D:Sh) (p:Nat->Nat) (f:Nat->Bool) (S S':WS):Prop where
 st: ∀c,c<D.n->S'.st (p c)=if f c=true/\S.st c<=1 then 1-S.st c else S.st c
 ae: ∀a,a<2*D.n->S'.ae (iW p f a)=S.ae a
 i:S'.i=S.i
 j:S'.j=S.j
 k:S'.k=S.k
section
variable {D D':Sh} {p:Nat->Nat} {f:Nat->Bool}
theorem La (R:Ren D D' p f) {a b:Nat} (ha:a<2*D.n) (hb:b<2*D.n) (h:iW p f a=iW p f b):a=b:=by
 have h1:p (a/2)=p (b/2):=by rw [←Dd p f a,←Dd p f b,h]
 have h2:=R.inj _ _ (by omega) (by omega) h1;have h3:iW p f a % 2=iW p f b % 2:=by rw [h]
 rw [Io,Io,h2] at h3
 split at h3<;>omega
theorem KG (R:Ren D D' p f) {a:Nat} (ha:a<2*D.n):iW p f a<2*D.n:=by
 have h1:=Dd p f a;have h2:=R.lt (a/2) (by omega);omega
theorem RR.mark (R:Ren D D' p f) {S S':WS} (h:RR D p f S S') {a:Nat} (ha:a<2*D.n) {v:Nat} (hv: ¬v<=1):RR D p f (S.mk' a v) (S'.mk' (iW p f a) v):=by
 refine ⟨fun c hc=>?_,fun b hb=>?_,h.i,h.j,h.k⟩
 ·show aM S'.st (iW p f a/2) v (p c)=if f c=true/\aM S.st (a/2) v c<=1 then 1-aM S.st (a/2) v c else aM S.st (a/2) v c;rw [Dd];by_cases e:c=a/2
  ·subst e;rw [bG,bG,if_neg fun h=>hv h.2]
  ·rw [bt _ _ e,bt _ _ fun e'=>e (R.inj _ _ hc (by omega) e')];exact h.st c hc
 ·show aM S'.ae (iW p f a) true (iW p f b)=aM S.ae a true b;by_cases e:b=a
  ·subst e;rw [bG,bG]
  ·rw [bt _ _ e,bt _ _ fun e'=>e (La R hb ha e')];exact h.ae b hb
theorem RR.sc {S S':WS} (h:RR D p f S S') (u v:Int):RR D p f (S.sc u v) (S'.sc u v):=
 ⟨h.st,h.ae,by show S'.i+u=S.i+u;rw [h.i],by show S'.j+v=S.j+v;rw [h.j],h.k⟩
theorem RR.cr {S S':WS} (h:RR D p f S S'):RR D p f S.cr S'.cr:=⟨h.st,h.ae,h.i,h.j,by show S'.k+1=S.k+1;rw [h.k]⟩
theorem Vt (hD:Ok D) (R:Ren D D' p f) {S S':WS} (h:RR D p f S S') {a:Nat} (ha:a<2*D.n):BR (fun S b S' b'=>RR D p f S S'/\b<2*D.n/\b'=iW p f b) (br D S a) (br D' S' (iW p f a)):=by
 have hc:a/2<D.n:=by omega
 have aR:=h.st _ hc;have ox:=KG R ha;have hs:=R.sg _ hc;have k1:=hD.lt _ ha;have k2:=hD.lt _ (ee ha);have n1:=R.nx a ha;have n2:=R.nx (co a) (ee ha);have e0: ¬2*D.n<=a:=by omega
 have e1: ¬2*D'.n<=iW p f a:=by rw [R.n];omega
 unfold br;rw [if_neg e0,if_neg e1,Dd,Io,Zo,n1,n2,aR];by_cases q2:S.st (a/2)=2
 ·rw [if_pos q2,if_neg (c:=f (a/2)=true/\S.st (a/2)<=1) (by omega),if_pos q2];exact .cons ⟨h.mark R ha (by omega),k2,rfl⟩ .nil
 by_cases q3:S.st (a/2)=3
 ·rw [if_neg q2,if_pos q3,if_neg (c:=f (a/2)=true/\S.st (a/2)<=1) (by omega),if_neg q2,if_pos q3];exact .cons ⟨h.mark R ha (by omega),k1,rfl⟩ .nil
 by_cases q5:S.st (a/2)=5
 ·rw [if_neg q2,if_neg q3,if_pos q5,if_neg (c:=f (a/2)=true/\S.st (a/2)<=1) (by omega),if_neg q2,if_neg q3,if_pos q5];exact .cons ⟨h.mark R ha (by omega),k2,rfl⟩ .nil
 rw [if_neg q2,if_neg q3,if_neg q5];by_cases q1:S.st (a/2)<=1
 ·have mC: ∀q,q<=1->dO D' (if f (a/2)=true then 1-q else q) (p (a/2))=dO D q (a/2):=fun q hq=>by
   unfold dO;rw [hs];by_cases hf:f (a/2)=true
   ·rw [if_pos hf,if_pos hf];by_cases e:q=1
    ·rw [if_pos e,if_neg (by omega)];omega
    ·rw [if_neg e,if_pos (by omega)]
   ·rw [if_neg hf,if_neg hf]
  have hq:(if f (a/2)=true/\S.st (a/2)<=1 then 1-S.st (a/2) else S.st (a/2))=if f (a/2)=true then 1-S.st (a/2) else S.st (a/2):=by
   by_cases hf:f (a/2)=true
   ·rw [if_pos hf,if_pos ⟨hf,q1⟩]
   ·rw [if_neg hf,if_neg fun h=>hf h.1]
  rw [hq,mC _ q1];have hle:(if f (a/2)=true then 1-S.st (a/2) else S.st (a/2))<=1:=by split<;>omega
  have sA:((if f (a/2)=true then 1-S.st (a/2) else S.st (a/2))=if f (a/2)=true then 1-a % 2 else a % 2)↔S.st (a/2)=a % 2:=by split<;>omega
  have Wq:((if f (a/2)=true then 1-S.st (a/2) else S.st (a/2))=1-if f (a/2)=true then 1-a % 2 else a % 2)↔S.st (a/2)=1-a % 2:=by split<;>omega
  rw [if_neg (show¬(if f (a/2)=true then 1-S.st (a/2) else S.st (a/2))=2 by omega),if_neg (show¬(if f (a/2)=true then 1-S.st (a/2) else S.st (a/2))=3 by omega),if_neg (show¬(if f (a/2)=true then 1-S.st (a/2) else S.st (a/2))=5 by omega)];by_cases h6:S.st (a/2)=a % 2
  ·rw [if_pos h6,if_pos (sA.2 h6)];exact .cons ⟨h.mark R ha (by omega),k1,rfl⟩ .nil
  ·rw [if_neg h6,if_neg fun h=>h6 (sA.1 h)];by_cases h7:S.st (a/2)=1-a % 2
   ·rw [if_pos h7,if_pos (Wq.2 h7)];exact .cons ⟨(h.mark R ha (by omega)).sc _ _,k1,rfl⟩ (.cons ⟨(h.mark R ha (by omega)).sc _ _,k2,rfl⟩ .nil)
   ·rw [if_neg h7,if_neg fun h=>h7 (Wq.1 h)];exact .nil
 ·rw [if_neg (c:=f (a/2)=true/\S.st (a/2)<=1) (by omega),if_neg q2,if_neg q3,if_neg q5];have m1: ¬S.st (a/2)=a % 2:=by omega
  have m2: ¬S.st (a/2)=1-a % 2:=by omega
  rw [if_neg m1,if_neg m2,if_neg (by split<;>omega),if_neg (by split<;>omega)];exact .nil
theorem Qn (hD:Ok D) (R:Ren D D' p f) (X:Int->Int->Nat->Int): ∀(B:List Nat) (S S':WS),(∀a∈B,a<2*D.n)->RR D p f S S'->run X D B S=run X D' (B.map (iW p f)) S'
 |[],S,S',_,h=>by show X _ _ _=X _ _ _;rw [h.i,h.j,h.k]
 |a::B,S,S',hl,h=>by
  have ha:=hl a (.head _);have ih:=fun S S' h=>Qn hD R X B S S' (fun b hb=>hl b (.tail _ hb)) h;show (if S.ae a=true then _ else _)=if S'.ae (iW p f a)=true then _ else _;rw [h.ae a ha]
  split
  ·exact ih _ _ h
  ·show sumB _ _=sumB _ _;refine (Vt hD R h.cr ha).sum fun x _ zM b' ⟨h1,h2,h3⟩=>?_;subst h3;refine xp (fun S b S' b'=>RR D p f S S'/\b<2*D.n/\b'=iW p f b) (fun S b S' b' ⟨h1,h2,h3⟩=>?_) _ _ _ _ ⟨h1,h2,rfl⟩;subst h3;refine ⟨?_,fun _=>ih _ _ h1,fun _=>⟨(h1.ae b h2).symm,fun _=>Vt hD R h1 h2⟩⟩;by_cases e:b=a
   ·subst e;rw [js,js]
   ·rw [tM e,tM fun e'=>e (La R h2 ha e')]
theorem y74 (R:Ren D D' p f) (st:Nat->Nat) (k:Nat):eI D' ((List.range (2*D.n)).map (iW p f)) (Z0 st k):=by
 have hl: ∀a∈(List.range (2*D.n)).map (iW p f),a<2*D'.n:=fun a ha=>by
  obtain ⟨b,hb,rfl⟩:=List.mem_map.1 ha;rw [R.n];exact KG R (List.mem_range.1 hb)
 refine ⟨hl,fun a ha _=>?_⟩;have hp:aw (2*D.n) (iW p f):=⟨fun a ha=>KG R ha,fun a b ha hb h=>La R ha hb h⟩;rw [R.n] at ha;obtain ⟨k,h0,hk⟩:=hp.back ha;obtain ⟨j,rfl⟩: ∃j,k=j+1:=⟨k-1,by omega⟩;exact List.mem_map.2 ⟨_,List.mem_range.2 (hp.a7 ha j),hk⟩
theorem Qm (hD:Ok D) (nW:Ok D') {mv:Nat->Nat} (J8:qT D' mv) (R:Ren D D' p f) {X:Int->Int->Nat->Int} (hX:Good X) {st st':Nat->Nat} {k:Nat} (aR: ∀c,st' c<=1\/st' c=5) (h: ∀c,c<D.n->st' (p c)=if f c=true/\st c<=1 then 1-st c else st c):
  run X D (List.range (2*D.n)) (Z0 st k)=run X D' (List.range (2*D'.n)) (Z0 st' k):=by
 rw [Qn hD R X _ (Z0 st k) (Z0 st' k) (fun a ha=>List.mem_range.1 ha) ⟨h,fun _ _=>rfl,rfl,rfl,rfl⟩];exact ord nW J8 hX (yH _ aR _) (y74 R _ _) (yM D' _ _)
end
section
variable {s m:List Int} {L:Int} {c:Nat}
theorem MP (hv:bI s m L=true) (hc:c<s.length):Ren (au s m) (au (jR s c) (jc s m c)) id (fun i=>i==c):=by
 have v:=dr hv;have v':=dr (Sp.iH hv hc);have jY:(jR s c).length=s.length:=Sp.dA;refine ⟨jY,fun i hi=>hi,fun _ _ _ _ h=>h,fun i hi=>?_,fun a ha=>?_⟩
 ·show (jR s c).getD i 0=if (i==c)=true then-s.getD i 0 else s.getD i 0;rw [Sp.lB hi];by_cases e:i=c
  ·rw [if_pos e,if_pos (beq_iff_eq.2 e)]
  ·rw [if_neg e,if_neg fun h=>e (beq_iff_eq.1 h)]
 ·--the out half-qX
  have JQ: ∀a,iW id (fun i=>i==c) a=if a/2=c then co a else a:=fun a=>by
   unfold iW
   have:=vt a
   have:=bV a
   by_cases e:a/2=c
   ·rw [if_pos e,if_pos (beq_iff_eq.2 e)];show 2*(a/2)+(1-a % 2)=co a;omega
   ·rw [if_neg e,if_neg fun h=>e (beq_iff_eq.1 h)];show 2*(a/2)+a % 2=a;omega
  have WB: ∀h,aQ (Sp.tw (Sp.kT s c) c h)=iW id (fun i=>i==c) (aQ h):=fun h=>by
   rw [JQ];have hk:=Sp.eO (s:=s) (c:=c);have e1:aQ h/2=h/4:=by unfold aQ;omega
   rw [e1];unfold Sp.tw;by_cases e:h/4=c
   ·rw [if_pos e,if_pos e]
    have:=vt (aQ h)
    have:=bV (aQ h)
    have e2:aQ h % 2=h % 2:=by unfold aQ;omega
    have e3:co (aQ h)=2*(h/4)+(1-h % 2):=by omega
    rw [e3];unfold aQ;rcases hk with hk|hk<;>rw [hk]<;>omega
   ·rw [if_neg e,if_neg e]
  have ho:aG (au (jR s c) (jc s m c)) (iW id (fun i=>i==c) a)=Sp.tw (Sp.kT s c) c (aG (au s m) a):=by
   have lo:=qK (D:=au s m) ha;have lo':Sp.tw (Sp.kT s c) c (aG (au s m) a)<4*(jR s c).length:=by rw [jY];exact Sp.j9 lo
   have h1:=Sp.nR (s:=s) (c:=c) (v.sg c hc) hc lo;rw [(De (m:=m) v.sg ha).2] at h1;have h2:=(yQ (m:=jc s m c) v'.sg lo').2 h1;rw [h2,WB,En]
  have lo:=qK (D:=au s m) ha;show aQ (aZ (jc s m c) (aG (au (jR s c) (jc s m c)) (iW id (fun i=>i==c) a)))=iW id (fun i=>i==c) (aQ (aZ m (aG (au s m) a)));rw [ho,(Sp.ju v hc (i:=Sp.tw (Sp.kT s c) c (aG (au s m) a)) (Sp.j9 lo)).1,(Sp.jQ Sp.eO).1,WB]
theorem SD {X:Int->Int->Nat->Int} (hX:Good X) (hv:bI s m L=true) (hc:c<s.length):HF X (jR s c) (jc s m c) L=run X (au s m) (List.range (2*s.length)) (Z0 (fun i=>if i=c then 0 else 1) L.toNat):=by
 have gN:=Sp.iH hv hc;symm;refine Qm (pN (dr hv)) (pN (dr gN)) (A8 gN) (MP hv hc) hX (fun _=> .inl (by omega)) fun i hi=>?_;show 1=if (i==c)=true/\(if i=c then 0 else 1)<=1 then 1-(if i=c then 0 else 1) else if i=c then 0 else 1;by_cases e:i=c
 ·rw [if_pos e,if_pos ⟨beq_iff_eq.2 e,by omega⟩]
 ·rw [if_neg e,if_neg fun h=>e (beq_iff_eq.1 h.1)]
theorem y4o {X:Int->Int->Nat->Int} (hX:Good X) (hv:bI s m L=true) (hc:c<s.length) (gN:bI (de s c) (en s m c) (gP s m c L)=true):
  (s.getD c 0=1->HF (fun i j k=>X (i-1) j k) s m L=HF (fun i j k=>X (i+1) j k) (jR s c) (jc s m c) L+HF (fun i j k=>X i (j+1) k) (de s c) (en s m c) (gP s m c L))/\
  (s.getD c 0= -1->HF (fun i j k=>X (i-1) j k) (jR s c) (jc s m c) L=HF (fun i j k=>X (i+1) j k) s m L+HF (fun i j k=>X i (j+1) k) (de s c) (en s m c) (gP s m c L)):=by
 have g1:Good fun i j k=>X (i-1) j k:=fun i j k hk=>by
  have:=hX (i-1) j k hk
  rw [show i-1+1=i+1-1 by omega] at this;exact this
 have g2:Good fun i j k=>X (i+1) j k:=fun i j k hk=>by
  have:=hX (i+1) j k hk
  rw [show i+1-1=i-1+1 by omega] at this;exact this
 have g3:Good fun i j k=>X i (j+1) k:=fun i j k hk=>hX i (j+1) k hk;have sk:=A1 (X:=X) (D:=au s m) hc ((dr hv).sg c hc) (List.range (2*s.length)) (Z0 (fun _=>1) L.toNat) rfl rfl (List.mem_range.2 (by omega));rw [Ef,Ef,Ef] at sk;have e1: ∀X:Int->Int->Nat->Int,(fun i j k=>X (i+ -1) (j+0) k)=fun i j k=>X (i-1) j k:=fun X=>by funext i j k;rw [Int.add_zero];rfl
 have e2: ∀X:Int->Int->Nat->Int,(fun i j k=>X (i+1) (j+0) k)=fun i j k=>X (i+1) j k:=fun X=>by funext i j k;rw [Int.add_zero]
 have e3: ∀X:Int->Int->Nat->Int,(fun i j k=>X (i+0) (j+1) k)=fun i j k=>X i (j+1) k:=fun X=>by funext i j k;rw [Int.add_zero]
 rw [e1,e2,e3] at sk;have st: ∀q,(Z0 (fun _=>1) L.toNat).sx c q=Z0 (fun i=>if i=c then q else 1) L.toNat:=fun q=>rfl;rw [st,st,st] at sk;have s1:(fun i=>if i=c then 1 else 1)=fun _:Nat=>(1:Nat):=by funext i;split<;>rfl
 constructor
 ·intro h;have hp:pq (au s m) c=1:=if_pos h;have hn:nq (au s m) c=0:=if_pos h;rw [hp,hn,s1] at sk;rw [SD g2 hv hc,SE g3 hv hc gN];exact sk
 ·intro h;have hh: ¬(au s m).sg c=1:=by show¬s.getD c 0=1;omega
  have hp:pq (au s m) c=0:=if_neg hh;have hn:nq (au s m) c=1:=if_neg hh;rw [hp,hn,s1] at sk;rw [SD g1 hv hc,SE g3 hv hc gN];exact sk
end
end Hs
section
variable {m:List Int} {n:Nat} (hp:jh m n)
include hp
end
section
variable {s m:List Int} {L:Int} (hv:jP s m L)
include hv
theorem y75 {x:Nat} (hx:x<4*s.length):ak s (m.getD x 0)= !ak s x/\ak s (aK m x)=ak s x:=by
 have hm:=hv.mt x hx;have h5:=hm.2.2.2.2;have e1:ak s (m.getD x 0)= !ak s x:=by cases h1:ak s x<;>cases h2:ak s (m.getD x 0)<;>simp_all
 refine ⟨e1,?_⟩;have key: ∀y:Int,0<=y->y<4*s.length->ak s (cd y 2)= !ak s y:=fun y h0 h1=>by
  have hs:=hv.sg (y/4).toNat (by omega);have e:cd y 2=y-y % 4+(y % 4+2)% 4:=by unfold cd;rw [show (2:Int).tmod 4=2 by decide];omega
  have e4:(y-y % 4+(y % 4+2)% 4)/4=y/4:=by omega
  rw [e];unfold ak;rw [e4];rcases (show y % 4=0\/y % 4=1\/y % 4=2\/y % 4=3 by omega) with h|h|h|h
  ·rw [if_neg (by omega),if_pos (by omega),if_neg (by omega),if_neg (by omega),if_neg (by omega)];rfl
  ·rw [if_neg (by omega),if_neg (by omega),if_pos (by omega),if_pos h];rcases hs with hs|hs<;>rw [hs]<;>rfl
  ·rw [if_neg (by omega),if_neg (by omega),if_neg (by omega),if_neg (by omega),if_pos h];rfl
  ·rw [if_pos (by omega),if_neg (by omega),if_neg (by omega),if_pos h];rcases hs with hs|hs<;>rw [hs]<;>rfl
 unfold aK;rw [Int.toNat_natCast,key _ hm.1 (by omega),e1,Bool.not_not]
theorem El {x:Nat} (hx:x<4*s.length): ∀j,ak s (it (aK m) j x)=ak s x
 |0=>rfl
 |j+1=>by
  have hR:aA s.length (x:Int):=by unfold aA;omega
  have hS:=(Ai hv.dB).it hR j;unfold aA at hS;have e:it (aK m) j (x:Int)=((it (aK m) j (x:Int)).toNat:Int):=by omega
  have h1:=(y75 hv (x:=(it (aK m) j (x:Int)).toNat) (by omega)).2;rw [←e] at h1;show ak s (aK m (it (aK m) j x))=_;rw [h1,El hx j]
end
namespace Sp
open Classical
section
variable {N n:Nat} {si al:Nat->Nat} {w g:Nat->Int}
def Nf (b:Bool):Nat:=if b then 1 else 0
end
end Sp
section
variable {s m:List Int} {L:Int} (v:jP s m L)
abbrev iJ (s m:List Int) (k:Nat):List Int:=(dt s m).getD k []
include v
theorem uA {x:Nat} (hx:x<4*s.length):(∀y,y∈af (aK m) m.length x↔ ∃j,it (aK m) j x=y)/\(∀y∈af (aK m) m.length x,aA s.length y)/\(∀y∈af (aK m) m.length x,(x:Int)∈af (aK m) m.length y)/\
  (∀y∈af (aK m) m.length x,∀z∈af (aK m) m.length y,z∈af (aK m) m.length x)/\(x:Int)∈af (aK m) m.length x/\(af (aK m) m.length x).Nodup/\ ∃k,uv (aK m) x k/\af (aK m) m.length x=its (aK m) x k:=by
 have:=Ac (Ai v.dB) (x:=(x:Int)) (by unfold aA;omega)
 rw [←v.len] at this;obtain ⟨a,b,c,d,e,_,f,k,_,g,h⟩:=this;exact ⟨a,b,c,d,e,f,k,g,h⟩
theorem LK:dt s m=((List.range m.length).filter fun i:Nat=>ak s i&&me i (af (aK m) m.length i)).map (fun i:Nat=>af (aK m) m.length i):=by
 have hl:=v.len;exact (Lq (N:=m.length) (want:=ak s) (orb:=af (aK m) m.length) (fun x hx _ y hy=>by
  have:=(uA v (x:=x) (by omega)).2.1 y hy
  unfold aA at this;omega) (fun x hx _=>(uA v (x:=x) (by omega)).2.2.2.2.1) (fun x y hx hy hw hm=>by
  have h:=uA v (x:=x) (by omega);refine ⟨?_,h.2.2.1 y hm⟩;obtain ⟨j,hj⟩:=(h.1 y).1 hm;rw [←hj,El v (by omega) j];exact hw) (fun x y z hx hy hz _ h1 h2=>(uA v (x:=x) (by omega)).2.2.2.1 y h1 z h2) m.length (Nat.le_refl _)).1
theorem HS {k:Nat} (hk:k<(dt s m).length): ∃x:Nat,x<4*s.length/\ak s x=true/\(∀y∈af (aK m) m.length x,(x:Int)<=y)/\iJ s m k=af (aK m) m.length x:=by
 have hl:=v.len;have e:=LK v;have hm:iJ s m k∈dt s m:=by simp [iJ,hk]
 rw [e] at hm;obtain ⟨x,h1,h2⟩:=List.mem_map.1 hm;obtain ⟨h3,h4⟩:=List.mem_filter.1 h1;rw [Bool.and_eq_true] at h4;exact ⟨x,by have:=List.mem_range.1 h3;omega,h4.1,yT.1 h4.2,h2.symm⟩
theorem MO {y:Nat} (hy:y<4*s.length) (ho:ak s y=true): ∃k,k<(dt s m).length/\(y:Int)∈iJ s m k:=by
 have hl:=v.len;have h:=uA v hy;have hle: ∃x:Nat,(x:Int)∈af (aK m) m.length y/\ ∀z∈af (aK m) m.length y,(x:Int)<=z:=by
  have key: ∀d x:Nat,x<d->(x:Int)∈af (aK m) m.length y-> ∃x:Nat,(x:Int)∈af (aK m) m.length y/\ ∀z∈af (aK m) m.length y,(x:Int)<=z:=fun d=>by
   induction d with
   |zero=>intro x hx;omega
   |succ d ih=>
    intro x hx hm;by_cases hz: ∃z∈af (aK m) m.length y,z<(x:Int)
    ·obtain ⟨z,z1,z2⟩:=hz
     have:=h.2.1 z z1
     unfold aA at this;exact ih z.toNat (by omega) (by rw [show ((z.toNat:Nat):Int)=z by omega];exact z1)
    ·exact ⟨x,hm,fun z yp=>by
      apply Classical.byContradiction;intro hn;exact hz ⟨z,yp,by omega⟩⟩
  exact key (y+1) y (by omega) h.2.2.2.2.1
 obtain ⟨x,x1,x2⟩:=hle;have hxr:=h.2.1 x x1;unfold aA at hxr;have hx:=uA v (x:=x) (by omega);obtain ⟨j,hj⟩:=(h.1 x).1 x1;have NY:ak s (x:Int)=true:=by rw [←hj,El v hy j];exact ho
 have Nu:=h.2.2.1 x x1;have mI:af (aK m) m.length (x:Int)∈dt s m:=by
  rw [LK v];refine List.mem_map.2 ⟨x,List.mem_filter.2 ⟨List.mem_range.2 (by omega),?_⟩,rfl⟩;rw [Bool.and_eq_true];exact ⟨NY,yT.2 fun z hz=>x2 z (h.2.2.2.1 x x1 z hz)⟩
 obtain ⟨k,hk,e⟩:=List.mem_iff_getElem.1 mI;exact ⟨k,hk,by simp only [iJ,List.getD_eq_getElem?_getD,List.getElem?_eq_getElem hk,Option.getD_some,e];exact Nu⟩
theorem y76 {k k':Nat} (hk:k<(dt s m).length) (vM:k'<(dt s m).length) {y:Int} (hy:y∈iJ s m k) (Aw:y∈iJ s m k'):k=k':=by
 have hl:=v.len;have hn:(dt s m).Nodup:=by
  rw [LK v];rw [List.nodup_iff_pairwise_ne,List.pairwise_map];refine (List.nodup_iff_pairwise_ne.1 (List.nodup_range.filter _)).imp_of_mem fun {a b} ha hb ax e=>ax ?_;obtain ⟨a1,a2⟩:=List.mem_filter.1 ha;obtain ⟨b1,b2⟩:=List.mem_filter.1 hb;rw [Bool.and_eq_true] at a2 b2;have a3:=List.mem_range.1 a1;have b3:=List.mem_range.1 b1
  have:=yT.1 a2.2 b (by rw [e];exact (uA v (x:=b) (by omega)).2.2.2.2.1)
  have:=yT.1 b2.2 a (by rw [←e];exact (uA v (x:=a) (by omega)).2.2.2.2.1)
  omega
 obtain ⟨x,x1,x2,x3,x4⟩:=HS v hk;obtain ⟨z,z1,z2,z3,z4⟩:=HS v vM;rw [x4] at hy;rw [z4] at Aw;have hx:=uA v x1;have hz:=uA v z1;have Av:=hx.2.1 y hy;unfold aA at Av;have hzy:=hz.2.2.1 y Aw;have BF:=hx.2.2.1 y hy;have q1:=x3 z (hx.2.2.2.1 y hy z hzy);have q2:=z3 x (hz.2.2.2.1 y Aw x BF);have e:x=z:=by omega
 subst e;have e2:(dt s m)[k]'hk=(dt s m)[k']'vM:=by
  have f1:iJ s m k=(dt s m)[k]'hk:=by simp [iJ,hk]
  have f2:iJ s m k'=(dt s m)[k']'vM:=by simp [iJ,vM]
  rw [←f1,←f2,x4,z4]
 exact (List.getElem_inj hn).1 e2
end
open Classical
section
variable {s m:List Int} {L:Int} (v:jP s m L)
include v
end
section
variable {s m:List Int} {L:Int} (hv:bI s m L=true)
include hv
end
end Go.Proofs.YtjpbeacamoijhaaGreatDoor
namespace Go.Proofs.YtjpbeacamoijhaaGreatDoor
set_option linter.unusedSimpArgs false
set_option linter.unusedVariables false
section
variable {s m:List Int} {L:Int} {un ov:Nat->Bool}
end
section
variable {s m:List Int} {L:Int} {u o:Nat->Nat}
end
open Classical
section
variable {m:List Int} {n:Nat} {σ:Nat->Bool} {s s':Nat->Nat} {c:Nat}
end
section
variable {s m:List Int} {L:Int}
end
end Go.Proofs.YtjpbeacamoijhaaGreatDoor
namespace Go.Proofs.YtjpbeacamoijhaaGreatDoor
set_option linter.unusedSimpArgs false
set_option linter.unusedVariables false
section
variable {s m:List Int} {L:Int} (hv:bI s m L=true)
include hv
end
open Classical
section
variable {s m:List Int} {L:Int} (hv:bI s m L=true)
include hv
end
section
variable {s m:List Int} {L:Int} (hv:bI s m L=true)
include hv
end
end Go.Proofs.YtjpbeacamoijhaaGreatDoor
