/- Plain: mirror images, the reversal and the renumbering: what becomes of the value. -/
import Derived.Test.YtjpbeacamoijhaaGreatDoorZm
import Derived.Test.YtjpbeacamoijhaaGreatDoorZu
namespace Go.Proofs.YtjpbeacamoijhaaGreatDoor
set_option linter.unusedSimpArgs false
set_option linter.unusedVariables false
namespace Hs
open Sp (eY aV aw itn SC aZ)
section
variable {D D':Sh} {X:Int->Int->Nat->Int}
structure Neg (D D':Sh):Prop where
 n:D'.n=D.n
 sg: ∀c,c<D.n->D'.sg c= -D.sg c
 nx: ∀a,a<2*D.n->D'.nx a=D.nx a
def qj (S:WS):WS:={S with i:= -S.i}
theorem Vr (N:Neg D D') {F G:WS->Nat->Int} (h: ∀S b,G (qj S) b=par S.j*F S b) (S:WS) (a:Nat):sumB (br D' (qj S) a) G=par S.j*sumB (br D S a) F:=by
 unfold br;rw [N.n];by_cases ha:2*D.n<=a
 ·rw [if_pos ha,if_pos ha];simp [sumB]
 rw [if_neg ha,if_neg ha,N.nx a (by omega),N.nx (co a) (ee (by omega))];have one: ∀(v b:Nat),sumB [(1,(qj S).mk' a v,b)] G=par S.j*sumB [(1,S.mk' a v,b)] F:=fun v b=>by
  have:=h (S.mk' a v) b
  have e:qj (S.mk' a v)=(qj S).mk' a v:=rfl;rw [e] at this;simp only [sumB];rw [this];show 1*(par S.j*F (S.mk' a v) b)+0=par S.j*(1*F (S.mk' a v) b+0);simp only [Int.one_mul,Int.add_zero]
 show sumB (if S.st (a/2)=2 then _ else if S.st (a/2)=3 then _ else if S.st (a/2)=5 then _ else if S.st (a/2)=a % 2 then _ else if S.st (a/2)=1-a % 2 then _ else _) G=_
 split
 ·exact one _ _
 split
 ·exact one _ _
 split
 ·exact one _ _
 split
 ·exact one _ _
 split
 ·rename_i _ _ _ _ h5
  have mC:dO D' ((qj S).st (a/2)) (a/2)= -dO D (S.st (a/2)) (a/2):=by
   show dO D' (S.st (a/2)) (a/2)=_;unfold dO;rw [N.sg _ (by omega)]
   split<;>omega
  rw [mC];generalize dO D (S.st (a/2)) (a/2)=w;have e1:((qj S).mk' a 3).sc (2* -w) 0=qj ((S.mk' a 3).sc (2*w) 0):=by
   refine WS.ext' (fun b=>rfl) rfl ?_ rfl rfl;show-S.i+2* -w= -(S.i+2*w);omega
  have e2:((qj S).mk' a 2).sc (-w) 1=qj ((S.mk' a 2).sc w 1):=by
   refine WS.ext' (fun b=>rfl) rfl ?_ rfl rfl;show-S.i+ -w= -(S.i+w);omega
  rw [e1,e2];simp only [sumB];rw [h,h];have j1:((S.mk' a 3).sc (2*w) 0).j=S.j:=Int.add_zero _;have j2:((S.mk' a 2).sc w 1).j=S.j+1:=rfl;rw [j1,j2,IU,Int.mul_add,Int.mul_add,Int.neg_mul (par S.j),Int.neg_mul_neg,Int.mul_left_comm w (par S.j)];simp
 ·simp [sumB]
theorem Vq (N:Neg D D') {stop:Nat->Bool} {k k':WS->Nat->Int} (h: ∀S b,k' (qj S) b=par S.j*k S b): ∀f S a,Wf D' stop f (qj S) a k'=par S.j*Wf D stop f S a k
 |0,S,a=>(Int.mul_zero _).symm
 |f+1,S,a=>by
  show (if stop a=true then k' (qj S) a else if S.ae a=true then 0 else sumB (br D' (qj S) a) fun S' b=>Wf D' stop f S' b k')=par S.j*(if stop a=true then k S a else if S.ae a=true then 0 else sumB (br D S a) fun S' b=>Wf D stop f S' b k)
  split
  ·exact h S a
  split
  ·exact (Int.mul_zero _).symm
  ·exact Vr N (fun S b=>Vq N h f S b) S a
theorem K9 (N:Neg D D'): ∀(B:List Nat) (S:WS),run (Xf X) D' B (qj S)=par S.j*run X D B S
 |[],S=>by
  show par S.j*X (- -S.i) S.j S.k=par S.j*X S.i S.j S.k;rw [Int.neg_neg]
 |a::B,S=>by
  show (if S.ae a=true then run (Xf X) D' B (qj S) else bA D' (qj S.cr) a (run (Xf X) D' B))=par S.j*(if S.ae a=true then run X D B S else bA D S.cr a (run X D B))
  split
  ·exact K9 N B S
  ·unfold bA;refine Vr N (fun T b=>?_) S.cr a;unfold W;have e:fu D' (qj T)=fu D T:=by unfold fu;rw [N.n];rfl
   rw [e];exact Vq N (fun T _=>K9 N B T) _ T b
end
section
variable {s m s' m':List Int} {L:Int}
theorem KF (v:jP s m L) {g gi:Nat->Nat} {e:Nat->Nat} (R:Rel s.length g gi m m') (hc: ∀h,h<4*s.length->aQ (g h)=e (aQ h)) {x y:Nat} (hx:x<4*s.length) (hy:aG (au s' m') y=g x):(au s' m').nx y=e (aQ (aZ m x)):=by
 show aQ (aZ m' (aG (au s' m') y))=_;rw [hy]
 have:=R.mate x hx
 have e1:aZ m' (g x)=g (aZ m x):=by unfold aZ;rw [this,Int.toNat_natCast]
 rw [e1,hc _ (vn v hx).1]
theorem MN {X:Int->Int->Nat->Int} (v:jP s m L) (N:Neg (au s m) (au s' m')) (hl:s'.length=s.length):HF (Xf X) s' m' L=HF X s m L:=by
 unfold HF;rw [hl]
 have:=K9 (X:=X) N (List.range (2*s.length)) (Z0 (fun _=>1) L.toNat)
 have e:qj (Z0 (fun _=>1) L.toNat)=Z0 (fun _=>1) L.toNat:=rfl;rw [e] at this;rw [this];show (1:Int)*_=_;rw [Int.one_mul]
theorem Ho (X:Int->Int->Nat->Int):Xf (Xf X)=X:=by
 funext i j k;unfold Xf;rw [Int.neg_neg,←Int.mul_assoc]
 have:par j*par j=1:=by unfold par;split<;>decide
 rw [this,Int.one_mul]
theorem XS {X:Int->Int->Nat->Int} (hv:bI s m L=true):HF X (gU s (fun _=> -1) s.length) (jw m (fun h=>cd h (4-2*(h % 4))) m.length) L=HF (Xf X) s m L:=by
 have v:=dr hv;have hp:=pj hv;have sg: ∀c,c<s.length->(gU s (fun _=> -1) s.length).getD c 0= -s.getD c 0:=fun c hc=>by rw [Df hc];omega
 have:=MN (X:=Xf X) (s:=s) (m:=m) (s':=gU s (fun _=> -1) s.length) (m':=jw m (fun h=>cd h (4-2*(h % 4))) m.length) v ⟨sd _ _ _,sg,fun a ha=>?_⟩ (sd _ _ _)
 ·rw [Ho] at this;exact this
 ·have dR:a<2*s.length:=ha;refine KF (x:=aG (au s m) a) (e:=id) v (TI hp) (fun h _=>?_) (qK (D:=au s m) ha) ?_
  ·show aQ (rY h)=aQ h;unfold aQ rY;omega
  ·have e:(au (gU s (fun _=> -1) s.length) (jw m (fun h=>cd h (4-2*(h % 4))) m.length)).sg (a/2)= -(au s m).sg (a/2):=sg _ (by omega);have hs:(au s m).sg (a/2)=1\/(au s m).sg (a/2)= -1:=v.sg _ (by omega);unfold aG;rw [e];unfold rY
   split
   ·omega
   ·rcases hs with h|h
    ·rw [h,if_neg (by decide),if_pos rfl];omega
    ·rw [h,if_pos (by decide),if_neg (by decide)];omega
theorem y04 {X:Int->Int->Nat->Int} (hX:Good X) (hv:bI s m L=true):HF X (ni s fun _=>true) (td s m fun _=>true) L=HF (Xf X) s m L:=by
 have v:=dr hv;have hp:=pj hv;have gN:=TP hv;have hlen:(ni s fun _=>true).length=s.length:=by unfold ni;rw [sd]
 have sg: ∀c,c<s.length->(ni s fun _=>true).getD c 0= -s.getD c 0:=fun c hc=>by
  unfold ni;rw [Df hc];unfold rO;simp
 have JQ: ∀a,iW id (fun _=>true) a=co a:=fun a=>by
  have:=vt a
  have:=bV a
  show 2*(a/2)+(1-a % 2)=_;omega
 have R:Ren (au s m) (au (ni s fun _=>true) (td s m fun _=>true)) id (fun _=>true):=by
  refine ⟨hlen,fun c hc=>hc,fun _ _ _ _ h=>h,fun c hc=>sg c hc,fun a ha=>?_⟩;have dR:a<2*s.length:=ha;rw [JQ,JQ];refine KF (x:=aG (au s m) a) (e:=co) v (Tb hp) (fun h _=>?_) (qK (D:=au s m) ha) ?_
  ·have hk:=Sp.eO (s:=s) (c:=h/4)
   have:=vt (aQ h)
   have:=bV (aQ h)
   have e1:aQ h/2=h/4:=by unfold aQ;omega
   have e2:aQ h % 2=h % 2:=by unfold aQ;omega
   have e3:co (aQ h)=2*(h/4)+(1-h % 2):=by omega
   rw [e3];unfold aQ jv;rcases hk with hk|hk<;>rw [hk]<;>omega
  ·have e:(au (ni s fun _=>true) (td s m fun _=>true)).sg (a/2)= -(au s m).sg (a/2):=sg _ (by omega);have hs:(au s m).sg (a/2)=1\/(au s m).sg (a/2)= -1:=v.sg _ (by omega);have dD:Sp.kT s (a/2)=if (au s m).sg (a/2)=1 then 1 else 3:=rfl;have Ck:=bV a;have Cj:=vt a;have hd:aG (au s m) a/4=a/2:=IL _ _
   have oa:aG (au s m) a=if a % 2=0 then 4*(a/2)+2 else if (au s m).sg (a/2)=1 then 4*(a/2)+1 else 4*(a/2)+3:=rfl;have ob:aG (au (ni s fun _=>true) (td s m fun _=>true)) (co a)=if 1-a % 2=0 then 4*(a/2)+2 else if-(au s m).sg (a/2)=1 then 4*(a/2)+1 else 4*(a/2)+3:=by unfold aG;rw [Ck,e,Cj]
   rw [ob];unfold jv;rw [hd,dD,oa];rcases hs with h|h<;>rw [h]<;>(repeat' split)<;>omega
 have h1:=Qm (k:=L.toNat) (st:=fun _=>0) (st':=fun _=>1) (pN v) (pN (dr gN)) (A8 gN) R hX (fun _=> .inl (Nat.le_refl _)) fun c hc=>rfl;have h2:=flip (pN v) (A8 hv) hX (yH (au s m) (st:=fun _=>1) (fun _=> .inl (Nat.le_refl _)) L.toNat) (yM (au s m) _ _);unfold HF;have e:ij (Z0 (fun _=>1) L.toNat)=Z0 (fun _=>0) L.toNat:=rfl;rw [e,h1] at h2;rw [show 2*s.length=2*(au s m).n from rfl,h2]
 show _=(1:Int)*_;rw [Int.one_mul];rfl
theorem XR {X:Int->Int->Nat->Int} (hX:Good X) (hv:bI s m L=true):HF X (gU s (fun _=>1) s.length) (jw m (fun h=>cd h 2) m.length) L=HF X s m L:=by
 have v:=dr hv;have hp:=pj hv;have gN:=TR hv;have sg: ∀c,c<s.length->(gU s (fun _=>1) s.length).getD c 0=s.getD c 0:=fun c hc=>by rw [Df hc];omega
 have R:zN (au s m) (au (gU s (fun _=>1) s.length) (jw m (fun h=>cd h 2) m.length)):=by
  refine ⟨sd _ _ _,sg,fun a ha=>?_⟩;have dR:a<2*s.length:=ha;have hn:=(pN v).lt a ha;have yw:(au s m).nx a<2*s.length:=hn;have sA:cZ (au s m) ((au s m).nx a)<4*s.length:=A3 (D:=au s m) hn
  have h1:=KF (s':=gU s (fun _=>1) s.length) (e:=id) v (TH hp) (fun h _=>by show aQ (jv (fun _=>2) h)=aQ h;unfold aQ jv;dsimp only;omega) (x:=cZ (au s m) ((au s m).nx a)) (y:=(au s m).nx a) sA ?_
  ·rw [h1,←yc v ha]
   have:=(vn v (qK (D:=au s m) ha)).1
   have hiv:aZ m (aZ m (aG (au s m) a))=aG (au s m) a:=by
    have:=hp.inv (aG (au s m) a) (qK (D:=au s m) ha)
    unfold aZ;rw [this,Int.toNat_natCast]
   rw [hiv];exact En a
  ·have e:(au (gU s (fun _=>1) s.length) (jw m (fun h=>cd h 2) m.length)).sg ((au s m).nx a/2)=(au s m).sg ((au s m).nx a/2):=sg _ (by omega);generalize (au s m).nx a=b at*;have oa:cZ (au s m) b=if b % 2=0 then 4*(b/2) else if (au s m).sg (b/2)=1 then 4*(b/2)+3 else 4*(b/2)+1:=rfl
   have ob:aG (au (gU s (fun _=>1) s.length) (jw m (fun h=>cd h 2) m.length)) b=if b % 2=0 then 4*(b/2)+2 else if (au s m).sg (b/2)=1 then 4*(b/2)+1 else 4*(b/2)+3:=by unfold aG;rw [e]
   rw [ob];unfold jv;rw [oa];dsimp only
   (repeat' split)<;>omega
 have h:=Z6 (pN v) (pN (dr gN)) R (A8 hv) (A8 gN) hX (yH (au s m) (st:=fun _=>1) (fun _=> .inl (Nat.le_refl _)) L.toNat) (yM (au s m) _ _) (B':=List.range (2*s.length)) (by
  have:=yM (au (gU s (fun _=>1) s.length) (jw m (fun h=>cd h 2) m.length)) (fun _=>1) L.toNat
  have e:(au (gU s (fun _=>1) s.length) (jw m (fun h=>cd h 2) m.length)).n=s.length:=sd _ _ _;rw [e] at this;exact this)
 unfold HF;rw [sd];exact h
end
end Hs
namespace Hs
def dN:Nat->Int->Int
 |0,e=>if e=0 then 1 else 0
 |n+1,e=>dN n (e+1)-dN n (e-1)
theorem oP: ∀(n:Nat) (e:Int),dN n e≠0-> -(n:Int)<=e/\e<=n/\(e-n)% 2=0
 |0,e,h=>by
  unfold dN at h;by_cases h0:e=0
  ·subst h0;decide
  ·rw [if_neg h0] at h;exact absurd rfl h
 |n+1,e,h=>by
  unfold dN at h;by_cases h1:dN n (e+1)=0
  ·have:=oP n (e-1) (by intro h2;rw [h1,h2] at h;exact h rfl)
   omega
  ·have:=oP n (e+1) h1
   omega
theorem Ih: ∀(n:Nat) (e:Int),-(2^n:Int)<=dN n e/\dN n e<=2^n
 |0,e=>by unfold dN;split<;>decide
 |n+1,e=>by
  unfold dN;have h1:=Ih n (e+1);have h2:=Ih n (e-1);rw [Int.pow_succ];omega
theorem y79 (i j:Int):par (i+j)=par i*par j:=by
 unfold par;have hi:i % 2=0\/i % 2=1:=by omega
 have hj:j % 2=0\/j % 2=1:=by omega
 rcases hi with hi|hi<;>rcases hj with hj|hj
 ·rw [if_pos (by omega),if_pos hi,if_pos hj];rfl
 ·rw [if_neg (by omega),if_pos hi,if_neg (by omega)];rfl
 ·rw [if_neg (by omega),if_neg (by omega),if_pos hj];rfl
 ·rw [if_pos (by omega),if_neg (by omega),if_neg (by omega)];rfl
theorem ZV (j:Int):par (-j)=par j:=by
 unfold par;by_cases h:j % 2=0
 ·rw [if_pos h,if_pos (by omega)]
 ·rw [if_neg h,if_neg (by omega)]
theorem KE: ∀(n:Nat) (e:Int),dN n (-e)=par n*dN n e
 |0,e=>by
  show (if-e=0 then (1:Int) else 0)=1*(if e=0 then 1 else 0);rw [Int.one_mul];by_cases h:e=0
  ·rw [if_pos h,if_pos (by omega)]
  ·rw [if_neg h,if_neg (by omega)]
 |n+1,e=>by
  have e1:((n+1:Nat):Int)=(n:Int)+1:=by omega
  rw [e1,IU];unfold dN;rw [show-e+1= -(e-1) by omega,show-e-1= -(e+1) by omega,KE n,KE n,Int.neg_mul,Int.mul_sub];omega
def Xh (a b:Int) (i j:Int) (k:Nat):Int:=if b=j-(k-1) then dN (k-1) (a-i) else 0
theorem Im (a b:Int):Good (Xh a b):=fun i j k hk=>by
 unfold Xh;obtain ⟨n,rfl⟩: ∃n,k=n+1:=⟨k-1,by omega⟩;have e1:((n+1:Nat):Int)-1=n:=by omega
 have e2:((n+1+1:Nat):Int)-1=n+1:=by omega
 rw [e1,e2,show n+1-1=n by omega,show n+1+1-1=n+1 by omega];by_cases h:b=j-n
 ·rw [if_pos h,if_pos h,if_pos (by omega)];have e3:dN (n+1) (a-i)=dN n (a-i+1)-dN n (a-i-1):=rfl;rw [show a-(i-1)=a-i+1 by omega,show a-(i+1)=a-i-1 by omega,e3];omega
 ·rw [if_neg h,if_neg h,if_neg (by omega)];rfl
theorem Hl (a b u:Int):(fun i j k=>Xh a b (i+u) j k)=Xh (a-u) b:=by
 funext i j k;unfold Xh;rw [show a-(i+u)=a-u-i by omega]
theorem Pm (a b u:Int):(fun i j k=>Xh a b i (j+u) k)=Xh a (b-u):=by
 funext i j k;unfold Xh;by_cases h:b=j+u-((k:Int)-1)
 ·rw [if_pos h,if_pos (by omega)]
 ·rw [if_neg h,if_neg (by omega)]
def nf (s m:List Int) (L:Int) (a b:Int):Int:=HF (Xh a b) s m L
section
variable {s m:List Int} {L:Int}
theorem RD {c:Nat} (hv:bI s m L=true) (hc:c<s.length) (gN:bI (de s c) (en s m c) (gP s m c L)=true) (a b:Int):
  (s.getD c 0=1->nf s m L (a+1) b=nf (jR s c) (jc s m c) L (a-1) b+nf (de s c) (en s m c) (gP s m c L) a (b-1))/\
  (s.getD c 0= -1->nf (jR s c) (jc s m c) L (a+1) b=nf s m L (a-1) b+nf (de s c) (en s m c) (gP s m c L) a (b-1)):=by
 obtain ⟨s1,s2⟩:=y4o (Im a b) hv hc gN;have e1:(fun i j k=>Xh a b (i-1) j k)=Xh (a+1) b:=by
  have:=Hl a b (-1)
  rw [show a- -1=a+1 by omega] at this;exact this
 rw [e1,Hl,Pm] at s1 s2;exact ⟨s1,s2⟩
theorem ML (X X':Int->Int->Nat->Int) (h: ∀i j k,1<=k->X i j k=X' i j k) (h0:0<s.length\/0<L.toNat):HF X s m L=HF X' s m L:=by
 unfold HF;by_cases hs:0<s.length
 ·rw [Tn _ (by omega:0<2*s.length)];exact XT (k0:=L.toNat) (fun i j k _ hk=>h i j k (by omega)) _
 ·have e:s.length=0:=by omega
  rw [e];exact h _ _ _ (by show 1<=L.toNat;omega)
theorem Hn (a b:Int) (i j:Int) (k:Nat) (hk:1<=k):Xf (Xh a b) i j k=par b*Xh (-a) b i j k:=by
 unfold Xf Xh;obtain ⟨n,rfl⟩: ∃n,k=n+1:=⟨k-1,by omega⟩;have e1:((n+1:Nat):Int)-1=n:=by omega
 rw [e1,show n+1-1=n by omega];by_cases h:b=j-n
 ·rw [if_pos h,if_pos h,show a- -i= -(-a-i) by omega,KE,←Int.mul_assoc];congr 1;rw [show b=j+ -(n:Int) by omega,y79,ZV]
 ·rw [if_neg h,if_neg h,Int.mul_zero,Int.mul_zero]
theorem Ua (h0:0<s.length\/0<L.toNat) (a b:Int):HF (Xf (Xh a b)) s m L=par b*nf s m L (-a) b:=by
 rw [ML (Xf (Xh a b)) (fun i j k=>par b*Xh (-a) b i j k) (fun i j k hk=>Hn a b i j k hk) h0];exact (y78 (D:=au s m) _ _).mul (par b) (fun t=>Xh (-a) b t.1 t.2.1 t.2.2)
theorem y05 (hv:bI s m L=true) (h0:0<s.length\/0<L.toNat) (a b:Int):nf (ni s fun _=>true) (td s m fun _=>true) L a b=par b*nf s m L (-a) b:=by
 unfold nf;rw [y04 (Im a b) hv,Ua h0];rfl
theorem XQ (hv:bI s m L=true) (h0:0<s.length\/0<L.toNat) (a b:Int):nf (gU s (fun _=> -1) s.length) (jw m (fun h=>cd h (4-2*(h % 4))) m.length) L a b=par b*nf s m L (-a) b:=by
 unfold nf;rw [XS hv,Ua h0];rfl
theorem XP (hv:bI s m L=true) (a b:Int):nf (gU s (fun _=>1) s.length) (jw m (fun h=>cd h 2) m.length) L a b=nf s m L a b:=XR (Im a b) hv
end
end Hs
namespace Hs
def p9:List (Int×Int×Int×Nat)->(Int->Int->Nat->Int)->Int
 |[],_=>0
 |t::T,X=>t.1*X t.2.1 t.2.2.1 t.2.2.2+p9 T X
theorem Ql (X:Int->Int->Nat->Int): ∀T T',p9 (T++T') X=p9 T X+p9 T' X
 |[],T'=>(Int.zero_add _).symm
 |t::T,T'=>by
  show _+p9 (T++T') X=_+p9 T X+p9 T' X;rw [Ql X T T'];omega
def FC (c:Int) (T:List (Int×Int×Int×Nat)):List (Int×Int×Int×Nat):=T.map fun t=>(c*t.1,t.2)
theorem Vp (c:Int) (X:Int->Int->Nat->Int): ∀T,p9 (FC c T) X=c*p9 T X
 |[]=>(Int.mul_zero _).symm
 |t::T=>by
  show c*t.1*_+p9 (FC c T) X=c*(t.1*_+p9 T X);rw [Vp c X T,Int.mul_add,Int.mul_assoc]
def uu (D:Sh) (S:WS) (u:Nat) (G:(Int->Int->Nat->Int)->Int):Prop:=
 ∃T,(∀X,G X=p9 T X)/\T.length<=2^rl S D.n/\ ∀t∈T,(t.1=1\/t.1= -1)/\(S.i-2*rl S D.n<=t.2.1/\t.2.1<=S.i+2*rl S D.n)/\(S.j<=t.2.2.1/\t.2.2.1<=S.j+rl S D.n)/\S.k<=t.2.2.2/\t.2.2.2<=u
section
variable {D:Sh}
theorem Fm (S:WS) (a:Nat) {v:Nat} (hv: ¬v<=1): ∀m,rl (S.mk' a v) m<=rl S m:=fun m=>sI (fun c hc=>by
 have dh:aM S.st (a/2) v c<=1:=hc;by_cases e:c=a/2
 ·rw [e,bG] at dh;exact absurd dh hv
 ·rwa [bt _ _ e] at dh) m
theorem uu.MR {S S':WS} {u:Nat} {G:(Int->Int->Nat->Int)->Int} (h:uu D S' u G) (h1:rl S' D.n<=rl S D.n) (hi:S'.i=S.i) (hj:S'.j=S.j) (hk:S'.k=S.k):uu D S u G:=by
 obtain ⟨T,t1,t2,t3⟩:=h;refine ⟨T,t1,Nat.le_trans t2 (Nat.pow_le_pow_right (by omega) h1),fun t ht=>?_⟩
 have:=t3 t ht
 rw [hi,hj,hk] at this;omega
theorem Vo {S:WS} {a u:Nat} {F:(Int->Int->Nat->Int)->WS->Nat->Int} (hs: ∀c,c<D.n->D.sg c=1\/D.sg c= -1) (h: ∀x∈br D S a,uu D x.2.1 u fun X=>F X x.2.1 x.2.2):uu D S u fun X=>sumB (br D S a) (F X):=by
 have nil:uu D S u fun X=>sumB [] (F X):=⟨[],fun X=>rfl,Nat.zero_le _,fun t ht=>by cases ht⟩;have one: ∀(v b:Nat),¬v<=1->(uu D (S.mk' a v) u fun X=>F X (S.mk' a v) b)->uu D S u fun X=>sumB [(1,S.mk' a v,b)] (F X):=fun v b hv h=>by
  have h':=h.MR (S:=S) (Fm S a hv D.n) rfl rfl rfl;obtain ⟨T,t1,t2,t3⟩:=h';refine ⟨T,fun X=>?_,t2,t3⟩;show 1*F X _ _+0=_;rw [Int.one_mul,Int.add_zero];exact t1 X
 unfold br at h⊢;by_cases h1:2*D.n<=a
 ·rw [if_pos h1];exact nil
 rw [if_neg h1] at h⊢;by_cases h2:S.st (a/2)=2
 ·rw [if_pos h2] at h⊢;exact one _ _ (by omega) (h _ (.head _))
 rw [if_neg h2] at h⊢;by_cases h3:S.st (a/2)=3
 ·rw [if_pos h3] at h⊢;exact one _ _ (by omega) (h _ (.head _))
 rw [if_neg h3] at h⊢;by_cases h4:S.st (a/2)=5
 ·rw [if_pos h4] at h⊢;exact one _ _ (by omega) (h _ (.head _))
 rw [if_neg h4] at h⊢;by_cases h5:S.st (a/2)=a % 2
 ·rw [if_pos h5] at h⊢;exact one _ _ (by omega) (h _ (.head _))
 rw [if_neg h5] at h⊢;by_cases h6:S.st (a/2)=1-a % 2
 ·rw [if_pos h6] at h⊢;have mC:dO D (S.st (a/2)) (a/2)=1\/dO D (S.st (a/2)) (a/2)= -1:=by
   have:=hs (a/2) (by omega)
   unfold dO;split<;>omega
  have A:=h _ (.head _);have B:=h _ (.tail _ (.head _));generalize dO D (S.st (a/2)) (a/2)=w at*;obtain ⟨T,t1,t2,t3⟩:=A;obtain ⟨T',VA,t2',Vz⟩:=B;dsimp only at t1 t2 t3 VA t2' Vz;have l1:rl ((S.mk' a 3).sc (2*w) 0) D.n+1<=rl S D.n:=AX (S':=(S.mk' a 3).sc (2*w) 0) (x:=a/2) (fun c hc=>by
   have dh:aM S.st (a/2) 3 c<=1:=hc;by_cases e:c=a/2
   ·rw [e];omega
   ·rwa [bt _ _ e] at dh) (by omega) (by show¬aM S.st (a/2) 3 (a/2)<=1;rw [bG];omega) D.n (by omega)
  have l2:rl ((S.mk' a 2).sc w 1) D.n+1<=rl S D.n:=AX (S':=(S.mk' a 2).sc w 1) (x:=a/2) (fun c hc=>by
   have dh:aM S.st (a/2) 2 c<=1:=hc;by_cases e:c=a/2
   ·rw [e];omega
   ·rwa [bt _ _ e] at dh) (by omega) (by show¬aM S.st (a/2) 2 (a/2)<=1;rw [bG];omega) D.n (by omega)
  obtain ⟨q,hq⟩: ∃q,rl S D.n=q+1:=⟨rl S D.n-1,by omega⟩;have p1:(2:Nat)^rl ((S.mk' a 3).sc (2*w) 0) D.n<=2^q:=Nat.pow_le_pow_right (by omega) (by omega);have p2:(2:Nat)^rl ((S.mk' a 2).sc w 1) D.n<=2^q:=Nat.pow_le_pow_right (by omega) (by omega);refine ⟨T++FC w T',fun X=>?_,?_,fun t ht=>?_⟩
  ·show 1*F X _ _+(w*F X _ _+0)=_;rw [Ql,Vp,←t1 X,←VA X,Int.one_mul,Int.add_zero]
  ·have:(FC w T').length=T'.length:=by simp [FC]
   rw [List.length_append,this,hq,Nat.pow_succ];omega
  ·rcases List.mem_append.1 ht with ht|ht
   ·have:=t3 t ht
    have ei:((S.mk' a 3).sc (2*w) 0).i=S.i+2*w:=rfl;have ej:((S.mk' a 3).sc (2*w) 0).j=S.j:=Int.add_zero _;have ek:((S.mk' a 3).sc (2*w) 0).k=S.k:=rfl;rw [ei,ej,ek] at this;omega
   ·obtain ⟨t0,yr,rfl⟩:=List.mem_map.1 ht
    have:=Vz t0 yr
    have ei:((S.mk' a 2).sc w 1).i=S.i+w:=rfl;have ej:((S.mk' a 2).sc w 1).j=S.j+1:=rfl;have ek:((S.mk' a 2).sc w 1).k=S.k:=rfl;rw [ei,ej,ek] at this;refine ⟨?_,?_⟩
    ·show w*t0.1=1\/w*t0.1= -1;rcases mC with rfl|rfl<;>rcases this.1 with e|e<;>rw [e]<;>decide
    ·dsimp only;omega
 ·rw [if_neg h6];exact nil
theorem Vn (hs: ∀c,c<D.n->D.sg c=1\/D.sg c= -1) {stop:Nat->Bool} {u:Nat} {k:(Int->Int->Nat->Int)->WS->Nat->Int} (hk: ∀S b,S.k+fu D S<=u->uu D S u fun X=>k X S b): ∀f S a,S.k+fu D S<=u->uu D S u fun X=>Wf D stop f S a (k X)
 |0,S,a,_=>⟨[],fun X=>rfl,Nat.zero_le _,fun t ht=>by cases ht⟩
 |f+1,S,a,hu=>by
  show uu D S u fun X=>if stop a=true then k X S a else if S.ae a=true then 0 else sumB (br D S a) fun S' b=>Wf D stop f S' b (k X);by_cases h1:stop a=true
  ·simp only [if_pos h1];exact hk S a hu
  simp only [if_neg h1];by_cases h2:S.ae a=true
  ·simp only [if_pos h2];exact ⟨[],fun X=>rfl,Nat.zero_le _,fun t ht=>by cases ht⟩
  simp only [if_neg h2];refine Vo hs fun x hx=>Vn hs hk f x.2.1 x.2.2 ?_
  have:=yK hx (by simpa using h2)
  have:=rQ hx
  omega
theorem K8 (hs: ∀c,c<D.n->D.sg c=1\/D.sg c= -1) (u:Nat): ∀(B:List Nat) (S:WS),S.k+fu D S<=u->uu D S u fun X=>run X D B S
 |[],S,hu=>⟨[(1,S.i,S.j,S.k)],fun X=>by show X S.i S.j S.k=1*X S.i S.j S.k+0;rw [Int.one_mul,Int.add_zero],Nat.one_le_two_pow,fun t ht=>by
  rw [List.mem_singleton] at ht;subst ht;dsimp only;omega⟩
 |a::B,S,hu=>by
  show uu D S u fun X=>if S.ae a=true then run X D B S else bA D S.cr a (run X D B);by_cases h2:S.ae a=true
  ·simp only [if_pos h2];exact K8 hs u B S hu
  simp only [if_neg h2];have key:uu D S.cr u fun X=>bA D S.cr a (run X D B):=by
   unfold bA;refine Vo hs fun x hx=>?_;unfold W;have h20:S.ae a=false:=by simpa using h2
   have h3:=yK hx (show S.cr.ae a=false from h20);have h4:=rQ hx;have h5:fu D S.cr=fu D S:=rfl;have h6:S.cr.k=S.k+1:=rfl;exact Vn hs (fun T b hT=>K8 hs u B T hT) _ x.2.1 x.2.2 (by omega)
  obtain ⟨T,t1,t2,t3⟩:=key;have e4:rl S.cr D.n=rl S D.n:=Nat.le_antisymm (sI (S:=S) (S':=S.cr) (fun c h=>h) _) (sI (S:=S.cr) (S':=S) (fun c h=>h) _);refine ⟨T,t1,e4▸t2,fun t ht=>?_⟩
  have:=t3 t ht
  have e1:S.cr.k=S.k+1:=rfl;have e2:S.cr.i=S.i:=rfl;have e3:S.cr.j=S.j:=rfl;rw [e1,e2,e3,e4] at this;omega
end
end Hs
namespace Hs
open Sp (eY aV aw itn SC aZ)
end Hs
namespace Hs
open Sp (eY aV aw itn SC aZ)
end Hs
namespace Hs
def Dl (g:Int->Int->Int) (a b:Int):Int:=g (a+1) (b+1)-g (a-1) (b+1)
theorem Pl (a b i j:Int) {k:Nat} (hk:1<=k):Xh a b i j (k+1)=Xh (a+1) (b+1) i j k-Xh (a-1) (b+1) i j k:=by
 obtain ⟨n,rfl⟩: ∃n,k=n+1:=⟨k-1,by omega⟩;unfold Xh;have e1:((n+1:Nat):Int)-1=n:=by omega
 have e2:((n+1+1:Nat):Int)-1=n+1:=by omega
 rw [e1,e2,show n+1-1=n by omega,show n+1+1-1=n+1 by omega];by_cases h:b=j-(n+1)
 ·rw [if_pos h,if_pos (by omega),if_pos (by omega)];have e3:dN (n+1) (a-i)=dN n (a-i+1)-dN n (a-i-1):=rfl;rw [e3,show a+1-i=a-i+1 by omega,show a-1-i=a-i-1 by omega]
 ·rw [if_neg h,if_neg (by omega),if_neg (by omega)];rfl
section
variable {s m:List Int} {l:Nat}
end
section
variable {s m:List Int} {l:Nat}
end
end Hs
end Go.Proofs.YtjpbeacamoijhaaGreatDoor
