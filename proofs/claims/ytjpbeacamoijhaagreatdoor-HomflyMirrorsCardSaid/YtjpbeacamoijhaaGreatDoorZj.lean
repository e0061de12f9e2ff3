/- Plain: on the sphere, the letters along a closed curve below cancel. -/
import Derived.Test.YtjpbeacamoijhaaGreatDoorHs4
import Derived.Test.YtjpbeacamoijhaaGreatDoorHs5
namespace Go.Proofs.YtjpbeacamoijhaaGreatDoor
set_option linter.unusedSimpArgs false
set_option linter.unusedVariables false
namespace Hs
open Classical
open Sp (Gr iU Vx eY aV)
def cZ (D:Sh) (a:Nat):Nat:=if a % 2=0 then 4*(a/2) else if D.sg (a/2)=1 then 4*(a/2)+3 else 4*(a/2)+1
def aG (D:Sh) (a:Nat):Nat:=if a % 2=0 then 4*(a/2)+2 else if D.sg (a/2)=1 then 4*(a/2)+1 else 4*(a/2)+3
structure qT (D:Sh) (al:Nat->Nat):Prop where
 vB:eY (4*D.n) aV al
 mate: ∀a,a<2*D.n->al (aG D a)=cZ D (D.nx a)
section
variable {D:Sh} {S0:WS}
def Om (D:Sh) (S0:WS):Type:={S:WS//Bd D S/\Ext S0 S}
abbrev Ph (D:Sh) (S0:WS):Type:=Om D S0->Int
noncomputable def ri (k:Ph D S0) (S:WS):Int:=if h:Bd D S/\Ext S0 S then k ⟨S,h⟩ else 0
theorem PV (k:Ph D S0) (S:Om D S0):ri k S.1=k S:=dif_pos S.2
noncomputable def dK (a:Nat) (e:Int) (k:Ph D S0):Ph D S0:=fun S=>Lt D a e (ri k) S.1
theorem Lk (hD:Ok D) (a:Nat) (e:Int) (k:Ph D S0) {S:WS} (hB:Bd D S) (hE:Ext S0 S):ri (dK a e k) S=Lt D a e (ri k) S:=dif_pos ⟨hB,hE⟩
structure jO (D:Sh) (S0:WS) where
 f:Ph D S0->Ph D S0
 g:Ph D S0->Ph D S0
 fg: ∀k,f (g k)=k
 gf: ∀k,g (f k)=k
theorem jO.ext {x y:jO D S0} (h: ∀k,x.f k=y.f k):x=y:=by
 obtain ⟨f,g,h1,h2⟩:=x;obtain ⟨f',g',h3,h4⟩:=y;have e:f=f':=funext h;subst e
 have:g=g':=funext fun k=>by
  have:=h2 (g' k)
  rw [h3] at this;exact this
 subst this;rfl
def aS (D:Sh) (S0:WS):Gr (jO D S0) where
 mul x y:=⟨fun k=>x.f (y.f k),fun k=>y.g (x.g k),fun k=>by rw [y.fg,x.fg],fun k=>by rw [x.gf,y.gf]⟩
 one:=⟨id,id,fun _=>rfl,fun _=>rfl⟩
 inv x:=⟨x.g,x.f,x.gf,x.fg⟩
 assoc _ _ _:=rfl
 ol _:=rfl
 or' _:=rfl
 il x:=jO.ext fun k=>x.gf k
 ir x:=jO.ext fun k=>x.fg k
theorem Iz (hD:Ok D) (a:Nat) {e:Int} (he:e=1\/e= -1) (k:Ph D S0):dK a e (dK a (-e) k)=k:=funext fun S=>by
 show Lt D a e (ri (dK a (-e) k)) S.1=_;rw [Ah hD S.2.1 (k':=Lt D a (-e) (ri k)) fun S' hB hE=>Lk hD a (-e) k hB (S.2.2.trans hE),Zj hD he S.2.1,PV]
theorem H5 (hD:Ok D) (a:Nat) (k:Ph D S0):dK a 1 (dK a (-1) k)=k:=Iz hD a (.inl rfl) k
theorem H4 (hD:Ok D) (a:Nat) (k:Ph D S0):dK a (-1) (dK a 1 k)=k:=Iz hD a (.inr rfl) k
noncomputable def Le (hD:Ok D) (a:Nat):jO D S0:=⟨dK a 1,dK a (-1),fun k=>Iz hD a (.inl rfl) k,fun k=>Iz hD a (.inr rfl) k⟩
theorem Zf {a b:Nat} {e:Int} (h: ∀(S:WS) (k:WS->Int),Bd D S->Ext S0 S->Lt D a e k S=Lt D b e k S) (k:Ph D S0):dK a e k=dK b e k:=funext fun S=>h S.1 (ri k) S.2.1 S.2.2
theorem Hv (hD:Ok D) {a b:Nat} (h: ∀(e:Int) (S:WS) (k:WS->Int),Bd D S->Ext S0 S->Lt D a e k S=Lt D b e k S):(Le hD a:jO D S0)=Le hD b:=jO.ext fun k=>Zf (h 1) k
theorem y7l {a:Nat} (h:S0.ae a=true) (e:Int) (k:Ph D S0):dK a e k=k:=funext fun S=>by
 show Lt D a e (ri k) S.1=_;rw [rW (S.2.2.ae a h),PV]
theorem H3 (hD:Ok D) {a:Nat} (h:S0.ae a=true):(Le hD a:jO D S0)=(aS D S0).one:=jO.ext fun k=>y7l h 1 k
theorem Un {q q':Nat} (h:ev q q') (hq:q=3\/q=4):q'=3\/q'=4:=by unfold ev at h;omega
theorem GZ {q q':Nat} (h:ev q q') (hq:q=2\/q=4\/q=5):q'=2\/q'=4\/q'=5:=by unfold ev at h;omega
theorem y7m (hD:Ok D) {a:Nat} (hl:a<2*D.n) (h:S0.st (a/2)=3\/S0.st (a/2)=4):(Le hD a:jO D S0)=Le hD (D.nx a):=
 Hv hD fun e S k hB hE=>Lm hD hB hl (Un (hE.st _) h)
theorem HY (hD:Ok D) {x q u o:Nat} (h:Fr D x q u o) {e:Int} (he:S0.st x<=1->S0.st x=q/\e= -dO D q x) {S:WS} (k:WS->Int) (hB:Bd D S) (hE:Ext S0 S):Lt D (D.nx u) e (Lt D (D.nx o) e k) S=Lt D o e (Lt D u e k) S:=by
 obtain ⟨f1,f2,f3,f4,f5,f6,f7,f8,f9⟩:=h.f;have eH:=hE.st x;have jd:=hB o f4;unfold Fit at jd;rw [f2] at jd;by_cases h0:S.st x<=1
 ·have e1:S0.st x=S.st x:=by unfold ev at eH;omega
  obtain ⟨e2,e3⟩:=he (by omega);exact y39 hD h hB (by omega) e3
 ·by_cases h2:S.st x=2\/S.st x=4\/S.st x=5
  ·have hs: ∀S',Ext S S'->S'.st x=2\/S'.st x=4\/S'.st x=5:=fun S' cn=>GZ (cn.st x) h2;rw [Ah hD hB (k':=Lt D u e k) fun S' iZ cn=>?_]
   ·have:=SJ hD hB f4 (e:=e) (k:=Lt D u e k) (by rw [f2];exact h2)
    rw [f6] at this;exact this.symm
   ·have:=SJ hD iZ f3 (e:=e) (k:=k) (by rw [f1];exact hs S' cn)
    rw [f5] at this;exact this.symm
  ·have h3:S.st x=3:=by
    unfold aD at jd;rcases jd with ⟨h,_⟩|⟨h,_⟩|⟨h,_⟩|⟨h,_⟩<;>omega
   have hs: ∀S',Ext S S'->S'.st x=3\/S'.st x=4:=fun S' cn=>Un (cn.st x) (.inl h3);have p1: ∀(k:WS->Int) S',Bd D S'->Ext S S'->Lt D (D.nx o) e k S'=Lt D o e k S':=fun k S' iZ cn=>(Lm hD iZ f4 (by rw [f2];exact hs S' cn)).symm;have p2: ∀(k:WS->Int) S',Bd D S'->Ext S S'->Lt D (D.nx u) e k S'=Lt D u e k S':=fun k S' iZ cn=>(Lm hD iZ f3 (by rw [f1];exact hs S' cn)).symm
   rw [p2 _ S hB (.cw S),Ah hD hB (k':=Lt D o e k) fun S' iZ cn=>p1 k S' iZ cn];rw [h3,aD.i3,f6] at jd;cases hv:S.ae u with
   |true=>
    rw [rW hv];exact Ah hD hB fun S' _ cn=>(rW (cn.ae u hv)).symm
   |false=>
    have ho:S.ae o=true:=by rw [jd.2,hv];rfl
    rw [rW ho];exact Ah hD hB fun S' _ cn=>rW (cn.ae o ho)
theorem rS (hD:Ok D) (a b:Nat) (e:Int) (k:Ph D S0) (S:Om D S0):dK a e (dK b e k) S=Lt D a e (Lt D b e (ri k)) S.1:=by
 show Lt D a e (ri (dK b e k)) S.1=_;exact Ah hD S.2.1 fun S' hB hE=>Lk hD b e k hB (S.2.2.trans hE)
theorem vY (hD:Ok D) {x:Nat} (hx:x<D.n):(D.sg x=1->(aS D S0).mul (Le hD (2*x)) (Le hD (2*x+1))=(aS D S0).mul (Le hD (D.nx (2*x+1))) (Le hD (D.nx (2*x))))/\
  (D.sg x= -1->(aS D S0).mul (Le hD (2*x+1)) (Le hD (2*x))=(aS D S0).mul (Le hD (D.nx (2*x))) (Le hD (D.nx (2*x+1)))):=by
 have F1:Fr D x 1 (2*x) (2*x+1):=⟨hx,by omega,rfl,rfl⟩;have F0:Fr D x 0 (2*x+1) (2*x):=⟨hx,by omega,rfl,rfl⟩;have neg: ∀a b c d:Nat,(∀k:Ph D S0,dK a (-1) (dK b (-1) k)=dK c (-1) (dK d (-1) k))->(aS D S0).mul (Le hD d) (Le hD c)=(aS D S0).mul (Le hD b) (Le hD a):=fun a b c d h=>by
  have:(⟨fun k=>dK a (-1) (dK b (-1) k),fun k=>dK b 1 (dK a 1 k),fun k=>by
    show dK a (-1) (dK b (-1) (dK b 1 (dK a 1 k)))=k;rw [H4 hD,H4 hD],fun k=>by
    show dK b 1 (dK a 1 (dK a (-1) (dK b (-1) k)))=k;rw [H5 hD,H5 hD]⟩:jO D S0)=⟨fun k=>dK c (-1) (dK d (-1) k),fun k=>dK d 1 (dK c 1 k),fun k=>by
    show dK c (-1) (dK d (-1) (dK d 1 (dK c 1 k)))=k;rw [H4 hD,H4 hD],fun k=>by
    show dK d 1 (dK c 1 (dK c (-1) (dK d (-1) k)))=k;rw [H5 hD,H5 hD]⟩:=jO.ext h
  have:=congrArg jO.g this
  exact jO.ext fun k=>(congrFun this k).symm
 by_cases h0:S0.st x=0
 ·constructor
  ·intro hs;refine jO.ext fun k=>funext fun S=>?_;show dK (2*x) 1 (dK (2*x+1) 1 k) S=dK (D.nx (2*x+1)) 1 (dK (D.nx (2*x)) 1 k) S;rw [rS hD,rS hD];exact (HY hD F0 (fun _=>⟨h0,by simp [dO,hs]⟩) _ S.2.1 S.2.2).symm
  ·intro hs;refine neg _ _ _ _ fun k=>funext fun S=>?_;rw [rS hD,rS hD];exact HY hD F0 (fun _=>⟨h0,by simp [dO,hs]⟩) _ S.2.1 S.2.2
 ·constructor
  ·intro hs;refine neg _ _ _ _ fun k=>funext fun S=>?_;rw [rS hD,rS hD];exact HY hD F1 (fun h=>⟨by omega,by simp [dO,hs]⟩) _ S.2.1 S.2.2
  ·intro hs;refine jO.ext fun k=>funext fun S=>?_;show dK (2*x+1) 1 (dK (2*x) 1 k) S=dK (D.nx (2*x)) 1 (dK (D.nx (2*x+1)) 1 k) S;rw [rS hD,rS hD];exact (HY hD F1 (fun h=>⟨by omega,by simp [dO,hs]⟩) _ S.2.1 S.2.2).symm
noncomputable def wH (hD:Ok D) (x:Nat):jO D S0:=
 if x % 4=0 then Le hD (2*(x/4)) else if x % 4=2 then (aS D S0).inv (Le hD (D.nx (2*(x/4))))
 else if x % 4=1 then (if D.sg (x/4)=1 then (aS D S0).inv (Le hD (D.nx (2*(x/4)+1))) else Le hD (2*(x/4)+1))
 else (if D.sg (x/4)=1 then Le hD (2*(x/4)+1) else (aS D S0).inv (Le hD (D.nx (2*(x/4)+1))))
theorem ve (hD:Ok D) (a:Nat):(wH hD (cZ D a):jO D S0)=Le hD a:=by
 unfold cZ wH
 split
 ·rw [if_pos (by omega),show 2*(4*(a/2)/4)=a by omega]
 split
 ·rename_i h1 h2
  rw [if_neg (by omega),if_neg (by omega),if_neg (by omega),show (4*(a/2)+3)/4=a/2 by omega,if_pos h2,show 2*(a/2)+1=a by omega]
 ·rename_i h1 h2
  rw [if_neg (by omega),if_neg (by omega),if_pos (by omega),show (4*(a/2)+1)/4=a/2 by omega,if_neg h2,show 2*(a/2)+1=a by omega]
theorem x9 (hD:Ok D) (a:Nat):(wH hD (aG D a):jO D S0)=(aS D S0).inv (Le hD (D.nx a)):=by
 unfold aG wH
 split
 ·rw [if_neg (by omega),if_pos (by omega),show 2*((4*(a/2)+2)/4)=a by omega]
 split
 ·rename_i h1 h2
  rw [if_neg (by omega),if_neg (by omega),if_pos (by omega),show (4*(a/2)+1)/4=a/2 by omega,if_pos h2,show 2*(a/2)+1=a by omega]
 ·rename_i h1 h2
  rw [if_neg (by omega),if_neg (by omega),if_neg (by omega),show (4*(a/2)+3)/4=a/2 by omega,if_neg h2,show 2*(a/2)+1=a by omega]
theorem sS (c:Nat):cZ D (2*c)=4*c:=by unfold cZ;rw [if_pos (by omega)];omega
theorem dP (c:Nat):aG D (2*c)=4*c+2:=by unfold aG;rw [if_pos (by omega)];omega
theorem uL (c:Nat):cZ D (2*c+1)=if D.sg c=1 then 4*c+3 else 4*c+1:=by unfold cZ;rw [if_neg (by omega),show (2*c+1)/2=c by omega]
theorem n9 (c:Nat):aG D (2*c+1)=if D.sg c=1 then 4*c+1 else 4*c+3:=by unfold aG;rw [if_neg (by omega),show (2*c+1)/2=c by omega]
theorem half (hD:Ok D) {x:Nat} (hx:x<4*D.n): ∃a,a<2*D.n/\(x=cZ D a\/x=aG D a):=by
 have e:x=4*(x/4)\/x=4*(x/4)+1\/x=4*(x/4)+2\/x=4*(x/4)+3:=by omega
 have hl:x/4<D.n:=by omega
 generalize x/4=c at*;rcases e with e|e|e|e
 ·exact ⟨2*c,by omega, .inl (by rw [sS,e])⟩
 ·refine ⟨2*c+1,by omega,?_⟩;rw [uL,n9];by_cases hs:D.sg c=1
  ·rw [if_pos hs,if_pos hs];exact .inr e
  ·rw [if_neg hs,if_neg hs];exact .inl e
 ·exact ⟨2*c,by omega, .inr (by rw [dP,e])⟩
 ·refine ⟨2*c+1,by omega,?_⟩;rw [uL,n9];by_cases hs:D.sg c=1
  ·rw [if_pos hs,if_pos hs];exact .inl e
  ·rw [if_neg hs,if_neg hs];exact .inr e
theorem Iy (hD:Ok D) {b:Nat} (hb:b<2*D.n): ∃a,a<2*D.n/\D.nx a=b:=by
 have hp:Sp.aw (2*D.n) D.nx:=⟨hD.lt,hD.inj⟩;obtain ⟨k,h0,hk⟩:=hp.back hb;obtain ⟨j,rfl⟩: ∃j,k=j+1:=⟨k-1,by omega⟩;exact ⟨_,hp.a7 hb j,hk⟩
theorem EW (hD:Ok D) {al:Nat->Nat} (hP:qT D al) {x:Nat} (hx:x<4*D.n):(wH hD (al x):jO D S0)=(aS D S0).inv (wH hD x):=by
 obtain ⟨a,ha,e|e⟩:=half hD hx
 ·obtain ⟨b,hb,e1⟩:=Iy hD ha
  have:=hP.mate b hb
  rw [e1,←e] at this;have hi:=hP.vB.ki.inv (aG D b) (by
   have:aG D b/4=b/2:=by unfold aG;split<;>try omega
                         split<;>omega
   omega)
  rw [this] at hi;rw [hi,x9,e,ve,e1]
 ·rw [e,hP.mate a ha,ve,x9];rfl
theorem Gr.cyc {G:Type} (P:Gr G) {a b c d:G} (h:P.mul a b=P.mul c d):P.mul (P.mul (P.mul a b) (P.inv d)) (P.inv c)=P.one:=by
 rw [h,P.assoc c,P.ir,P.or',P.ir]
theorem Gr.Pc {G:Type} (P:Gr G) {a b c d:G} (h:P.mul b a=P.mul c d):P.mul (P.mul (P.mul a (P.inv d)) (P.inv c)) b=P.one:=by
 have e:b=P.mul (P.mul c d) (P.inv a):=by rw [←h,P.assoc,P.ir,P.or']
 rw [e];simp only [P.assoc];rw [←P.assoc (P.inv c),P.il,P.ol,←P.assoc (P.inv d),P.il,P.ol,P.ir]
noncomputable def tH (hD:Ok D) (x:Nat):jO D S0:=
 if x % 4=0 then (aS D S0).one else if x % 4=3 then wH hD (4*(x/4)) else if x % 4=2 then (aS D S0).mul (wH hD (4*(x/4))) (wH hD (4*(x/4)+3))
 else (aS D S0).mul ((aS D S0).mul (wH hD (4*(x/4))) (wH hD (4*(x/4)+3))) (wH hD (4*(x/4)+2))
theorem E7 (hD:Ok D):Vx (aS D S0) (4*D.n) aV (wH hD) (tH hD):=fun x hx=>by
 have e:x=4*(x/4)\/x=4*(x/4)+1\/x=4*(x/4)+2\/x=4*(x/4)+3:=by omega
 have hl:x/4<D.n:=by omega
 generalize x/4=c at*;have t0:(tH hD (4*c):jO D S0)=(aS D S0).one:=by unfold tH;rw [if_pos (by omega)]
 have t3:(tH hD (4*c+3):jO D S0)=wH hD (4*c):=by unfold tH;rw [if_neg (by omega),if_pos (by omega),show (4*c+3)/4=c by omega]
 have t2:(tH hD (4*c+2):jO D S0)=(aS D S0).mul (wH hD (4*c)) (wH hD (4*c+3)):=by unfold tH;rw [if_neg (by omega),if_neg (by omega),if_pos (by omega),show (4*c+2)/4=c by omega]
 have t1:(tH hD (4*c+1):jO D S0)=(aS D S0).mul ((aS D S0).mul (wH hD (4*c)) (wH hD (4*c+3))) (wH hD (4*c+2)):=by unfold tH;rw [if_neg (by omega),if_neg (by omega),if_neg (by omega),show (4*c+1)/4=c by omega]
 have i0:cZ D (2*c)=4*c:=sS c;have o0:aG D (2*c)=4*c+2:=dP c;have w0:(wH hD (4*c):jO D S0)=Le hD (2*c):=by rw [←i0];exact ve hD _
 have w2:(wH hD (4*c+2):jO D S0)=(aS D S0).inv (Le hD (D.nx (2*c))):=by rw [←o0];exact x9 hD _
 rcases e with e|e|e|e<;>rw [e]
 ·rw [show aV (4*c)=4*c+3 by unfold aV;omega,t3,t0,(aS D S0).ol]
 ·rw [show aV (4*c+1)=4*c by unfold aV;omega,t0,t1];symm;rcases hD.sg c hl with hs|hs
  ·have i1:cZ D (2*c+1)=4*c+3:=by rw [uL];split<;>omega
   have o1:aG D (2*c+1)=4*c+1:=by rw [n9];split<;>omega
   rw [w0,w2,←i1,←o1,ve,x9];exact Gr.cyc _ ((vY hD hl).1 hs)
  ·have i1:cZ D (2*c+1)=4*c+1:=by rw [uL];split<;>omega
   have o1:aG D (2*c+1)=4*c+3:=by rw [n9];split<;>omega
   rw [w0,w2,←i1,←o1,ve,x9];exact Gr.Pc _ ((vY hD hl).2 hs)
 ·rw [show aV (4*c+2)=4*c+1 by unfold aV;omega,t1,t2]
 ·rw [show aV (4*c+3)=4*c+2 by unfold aV;omega,t2,t3]
theorem pot (hD:Ok D) {al:Nat->Nat} (hP:qT D al): ∃g:Nat->jO D S0,iU (aS D S0) (4*D.n) aV al (wH hD) g:=
 Sp.eY.M7 (aS D S0) _ hP.vB (Nat.le_refl _) (fun x hx=>EW hD hP hx) (E7 hD)
end
end Hs
namespace Hs
open Classical
open Sp (Gr iU Vx eY aV)
theorem R0 {D:Sh} (hD:Ok D) {k k':WS->Int}: ∀(l:List (Nat×Int)) {S:WS},Bd D S->(∀S',Bd D S'->Ext S S'->k S'=k' S')->Lw D l k S=Lw D l k' S
 |[],S,hB,hk=>hk S hB (.cw S)
 |(a,e)::l,S,hB,hk=>Ah hD hB fun S' iZ cn=>R0 hD l iZ fun dm O4 O3=>hk dm O4 (cn.trans O3)
theorem Fj {D:Sh} (hD:Ok D) {a:Nat} (ha:a<2*D.n):sl D a=1\/sl D a= -1:=by
 unfold sl dO;rcases hD.sg (a/2) (by omega) with h|h<;>rw [h]<;>split<;>simp
section
variable {D:Sh} {S0:WS}
noncomputable def BA (hD:Ok D) (a:Nat) (p:Bool):jO D S0:=if p then (if sl D a=1 then Le hD (co a) else (aS D S0).inv (Le hD (co a))) else (aS D S0).one
theorem Kt (hD:Ok D) {a:Nat} (h:sl D a=1):(BA hD a true:jO D S0)=Le hD (co a):=by
 unfold BA;rw [if_pos rfl,if_pos h]
theorem Ks (hD:Ok D) {a:Nat} (h:sl D a= -1):(BA hD a true:jO D S0)=(aS D S0).inv (Le hD (co a)):=by
 unfold BA;rw [if_pos rfl,if_neg (show¬sl D a=1 by omega)]
theorem yF (c:Nat):co (2*c)=2*c+1:=by unfold co;rw [if_pos (by omega)]
theorem co1 (c:Nat):co (2*c+1)=2*c:=by unfold co;rw [if_neg (by omega)];omega
theorem VC (c:Nat):sl D (2*c)=D.sg c:=by
 unfold sl dO;rw [yF,if_pos (by omega),show 2*c/2=c by omega]
theorem VB (c:Nat):sl D (2*c+1)= -D.sg c:=by
 unfold sl dO;rw [co1,if_neg (by omega),show (2*c+1)/2=c by omega]
noncomputable def wd (hD:Ok D):List (Nat×Bool)->jO D S0
 |[]=>(aS D S0).one
 |(a,p)::l=>(aS D S0).mul (BA hD a p) (wd hD l)
theorem EU (hD:Ok D): ∀(l:List (Nat×Bool)) (_: ∀x∈l,x.1<2*D.n) (k:Ph D S0) {S:WS},Bd D S->Ext S0 S->ri ((wd hD l).f k) S=Lw D (lI D l) (ri k) S
 |[],_,k,S,hB,hE=>rfl
 |(a,p)::l,hl,k,S,hB,hE=>by
  have ih:=fun S' (iZ:Bd D S') (cn:Ext S S')=>EU hD l (fun x hx=>hl x (.tail _ hx)) k iZ (hE.trans cn);have ha:=hl _ (.head _);cases p with
  |false=>exact ih S hB (.cw S)
  |true=>
   show ri ((BA hD a true).f ((wd hD l).f k)) S=Lt D (co a) (sl D a) (Lw D (lI D l) (ri k)) S
   have: ∀e:Int,ri (dK (co a) e ((wd hD l).f k)) S=Lt D (co a) e (Lw D (lI D l) (ri k)) S:=fun e=>by
    rw [Lk hD _ _ _ hB hE];exact Ah hD hB ih
   rcases Fj hD ha with h|h
   ·rw [Kt hD h,h];exact this 1
   ·rw [Ks hD h,h];exact this (-1)
section
variable {al:Nat->Nat} {g:Nat->jO D S0}
theorem GS (hD:Ok D) (hP:qT D al) (hg:iU (aS D S0) (4*D.n) aV al (wH hD) g) {x:Nat} (hx:x<4*D.n):g (aV x)=(aS D S0).mul (g x) (wH hD x):=by
 have h1:=hg.mK (al x) (hP.vB.ki.lt x hx);rw [hP.vB.ki.inv x hx] at h1;rw [h1,hg.edge x hx]
theorem A3 {a:Nat} (ha:a<2*D.n):cZ D a<4*D.n:=by unfold cZ;split<;>try omega
                                                 split<;>omega
theorem qK {a:Nat} (ha:a<2*D.n):aG D a<4*D.n:=by unfold aG;split<;>try omega
                                                 split<;>omega
theorem Um (hD:Ok D) (hP:qT D al) (hg:iU (aS D S0) (4*D.n) aV al (wH hD) g) {a:Nat} (ha:a<2*D.n) (hv:S0.ae (D.nx a)=true):g (cZ D (D.nx a))=g (aG D a):=by
 rw [←hP.mate a ha,hg.edge _ (qK ha),x9,H3 hD hv];rfl
theorem Ze (hD:Ok D) (hP:qT D al) (hg:iU (aS D S0) (4*D.n) aV al (wH hD) g) {a:Nat} (ha:a<2*D.n) (hv:S0.ae a=true) (hn:S0.ae (D.nx a)=true) (hs:S0.st (a/2)=3\/S0.st (a/2)=4):
  g (cZ D (D.nx a))=(aS D S0).mul (g (cZ D a)) (BA hD a true):=by
 rw [Um hD hP hg ha hn];have hc:a/2<D.n:=by omega
 have e:a=2*(a/2)\/a=2*(a/2)+1:=by omega
 have si: ∀x,x<4*D.n->g (aV x)=(aS D S0).mul (g x) (wH hD x):=fun x hx=>GS hD hP hg hx;have vv: ∀b,b/2=a/2->b<2*D.n->(Le hD (D.nx b):jO D S0)=Le hD b:=fun b hb GH=>(y7m hD GH (by rw [hb];exact hs)).symm;have lv:=H3 (S0:=S0) hD hv;generalize a/2=c at*;rcases e with e|e<;>subst e
 ·have s1:=si (4*c) (by omega);have s2:=si (4*c+3) (by omega);rw [show aV (4*c)=4*c+3 by unfold aV;omega,←sS (D:=D) c,ve,lv,(aS D S0).or',sS] at s1;rw [show aV (4*c+3)=4*c+2 by unfold aV;omega,s1] at s2;rw [dP,sS,s2];congr 1;rcases hD.sg c hc with h|h
  ·have:=ve (S0:=S0) hD (2*c+1)
   rw [uL,if_pos h] at this;rw [this,Kt hD (by rw [VC];exact h),yF]
  ·have:=x9 (S0:=S0) hD (2*c+1)
   rw [n9,if_neg (show¬D.sg c=1 by omega)] at this;rw [this,Ks hD (by rw [VC];exact h),yF,vv _ (by omega) (by omega)]
 ·rw [n9,uL];rcases hD.sg c hc with h|h
  ·rw [if_pos h,if_pos h,Ks hD (by rw [VB];omega),co1];have s1:=si (4*c+3) (by omega);have s2:=si (4*c+2) (by omega);have w3:=ve (S0:=S0) hD (2*c+1);rw [uL,if_pos h,lv] at w3;rw [show aV (4*c+3)=4*c+2 by unfold aV;omega,w3,(aS D S0).or'] at s1;rw [show aV (4*c+2)=4*c+1 by unfold aV;omega,s1,←dP (D:=D) c,x9,vv _ (by omega) (by omega)] at s2;exact s2
  ·have h': ¬D.sg c=1:=by omega
   rw [if_neg h',if_neg h',Kt hD (by rw [VB];omega),co1];have s1:=si (4*c+1) (by omega);have s2:=si (4*c) (by omega);have w3:=ve (S0:=S0) hD (2*c+1);rw [uL,if_neg h',lv] at w3;rw [show aV (4*c+1)=4*c by unfold aV;omega,w3,(aS D S0).or'] at s1;rw [show aV (4*c)=4*c+3 by unfold aV;omega,s1,←sS (D:=D) c,ve,sS] at s2;exact s2
theorem Zd (hD:Ok D) (hP:qT D al) (hg:iU (aS D S0) (4*D.n) aV al (wH hD) g) {a:Nat} (ha:a<2*D.n) (hv:S0.ae a=true) (hn:S0.ae (D.nx (co a))=true):
  g (cZ D (D.nx (co a)))=g (cZ D a):=by
 rw [Um hD hP hg (ee ha) hn];have hc:a/2<D.n:=by omega
 have e:a=2*(a/2)\/a=2*(a/2)+1:=by omega
 have si: ∀x,x<4*D.n->g (aV x)=(aS D S0).mul (g x) (wH hD x):=fun x hx=>GS hD hP hg hx;have lv:=H3 (S0:=S0) hD hv;have ln:=H3 (S0:=S0) hD hn;have i1:(aS D S0).inv (aS D S0).one=(aS D S0).one:=rfl;generalize a/2=c at*;rcases e with e|e<;>subst e
 ·rw [yF] at ln⊢;rw [n9,sS];rcases hD.sg c hc with h|h
  ·rw [if_pos h];have s1:=si (4*c+1) (by omega);have w:=x9 (S0:=S0) hD (2*c+1);rw [n9,if_pos h,ln,i1] at w;rw [show aV (4*c+1)=4*c by unfold aV;omega,w,(aS D S0).or'] at s1;exact s1.symm
  ·rw [if_neg (show¬D.sg c=1 by omega)];have s1:=si (4*c) (by omega);rw [show aV (4*c)=4*c+3 by unfold aV;omega,←sS (D:=D) c,ve,lv,(aS D S0).or',sS] at s1;exact s1
 ·rw [co1] at ln⊢;rw [dP,uL];rcases hD.sg c hc with h|h
  ·rw [if_pos h];have s1:=si (4*c+3) (by omega);have w:=ve (S0:=S0) hD (2*c+1);rw [uL,if_pos h,lv] at w;rw [show aV (4*c+3)=4*c+2 by unfold aV;omega,w,(aS D S0).or'] at s1;exact s1
  ·rw [if_neg (show¬D.sg c=1 by omega)];have s1:=si (4*c+2) (by omega);have w:=x9 (S0:=S0) hD (2*c);rw [dP,ln,i1] at w;rw [show aV (4*c+2)=4*c+1 by unfold aV;omega,w,(aS D S0).or'] at s1;exact s1.symm
theorem PU (hD:Ok D) (hP:qT D al) (hg:iU (aS D S0) (4*D.n) aV al (wH hD) g): ∀(l:List (Nat×Bool)) (s e:Nat),qE D s l e->(∀x∈l,x.1<2*D.n/\S0.ae x.1=true/\S0.ae (iv D x.1 x.2)=true/\(x.2=true->S0.st (x.1/2)=3\/S0.st (x.1/2)=4))->
  g (cZ D e)=(aS D S0).mul (g (cZ D s)) (wd hD l)
 |[],s,e,h,_=>by rw [show s=e from h];exact ((aS D S0).or' _).symm
 |(a,p)::l,s,e,h,hl=>by
  obtain ⟨h1,h2⟩:=h;subst h1;obtain ⟨k1,k2,k3,k4⟩:=hl _ (.head _);rw [PU hD hP hg l _ e h2 fun x hx=>hl x (.tail _ hx)];show _=(aS D S0).mul _ ((aS D S0).mul _ _);rw [←(aS D S0).assoc];congr 1;cases p with
  |false=>
   show g (cZ D (D.nx (co s)))=(aS D S0).mul _ (aS D S0).one;rw [(aS D S0).or'];exact Zd hD hP hg k1 k2 k3
  |true=>exact Ze hD hP hg k1 k2 k3 (k4 rfl)
end
theorem word (hD:Ok D) {al:Nat->Nat} (hP:qT D al) {l:List (Nat×Bool)} {s:Nat} (hc:qE D s l s) (hl: ∀x∈l,x.1<2*D.n/\S0.ae x.1=true/\S0.ae (iv D x.1 x.2)=true/\(x.2=true->S0.st (x.1/2)=3\/S0.st (x.1/2)=4)) (hB:Bd D S0) (k:WS->Int):Lw D (lI D l) k S0=k S0:=by
 obtain ⟨g,hg⟩:=pot (S0:=S0) hD hP;have h1:=PU hD hP hg l s s hc hl;have h2:wd hD l=(aS D S0).one:=(aS D S0).lc (a:=g (cZ D s)) (by rw [←h1,(aS D S0).or']);have h3:=EU hD l (fun x hx=>(hl x hx).1) (fun S=>k S.1) hB (.cw S0);rw [h2] at h3;have e: ∀S,Bd D S->Ext S0 S->ri (fun S:Om D S0=>k S.1) S=k S:=fun S h h'=>dif_pos ⟨h,h'⟩;rw [R0 hD _ hB fun S' iZ cn=>(e S' iZ cn).symm,←h3]
 exact e S0 hB (.cw S0)
end
end Hs
end Go.Proofs.YtjpbeacamoijhaaGreatDoor
