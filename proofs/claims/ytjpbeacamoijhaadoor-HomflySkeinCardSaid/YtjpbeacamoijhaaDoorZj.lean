/- Plain: on the sphere, the letters along a closed curve below cancel. -/
import Derived.Test.YtjpbeacamoijhaaDoorHs4
import Derived.Test.YtjpbeacamoijhaaDoorHs5
namespace Go.Proofs.YtjpbeacamoijhaaDoor
set_option linter.unusedSimpArgs false
set_option linter.unusedVariables false
namespace Hs
open Classical
open Sp (Gr PotG Vx Sph siD)
def inH (D:Sh) (a:Nat):Nat:=if a % 2=0 then 4*(a/2) else if D.sg (a/2)=1 then 4*(a/2)+3 else 4*(a/2)+1
def outH (D:Sh) (a:Nat):Nat:=if a % 2=0 then 4*(a/2)+2 else if D.sg (a/2)=1 then 4*(a/2)+1 else 4*(a/2)+3
structure Pla (D:Sh) (al:Nat->Nat):Prop where
 sph:Sph (4*D.n) siD al
 mate: ∀a,a<2*D.n->al (outH D a)=inH D (D.nx a)
section
variable {D:Sh} {S0:WS}
def Om (D:Sh) (S0:WS):Type:={S:WS//Bd D S/\Ext S0 S}
abbrev Ph (D:Sh) (S0:WS):Type:=Om D S0->Int
noncomputable def lif (k:Ph D S0) (S:WS):Int:=if h:Bd D S/\Ext S0 S then k ⟨S,h⟩ else 0
theorem yyx (k:Ph D S0) (S:Om D S0):lif k S.1=k S:=dif_pos S.2
noncomputable def LtO (a:Nat) (e:Int) (k:Ph D S0):Ph D S0:=fun S=>Lt D a e (lif k) S.1
theorem yn2 (hD:Ok D) (a:Nat) (e:Int) (k:Ph D S0) {S:WS} (hB:Bd D S) (hE:Ext S0 S):lif (LtO a e k) S=Lt D a e (lif k) S:=dif_pos ⟨hB,hE⟩
structure Aut (D:Sh) (S0:WS) where
 f:Ph D S0->Ph D S0
 g:Ph D S0->Ph D S0
 fg: ∀k,f (g k)=k
 gf: ∀k,g (f k)=k
theorem Aut.ext {x y:Aut D S0} (h: ∀k,x.f k=y.f k):x=y:=by
 obtain ⟨f,g,h1,h2⟩:=x
 obtain ⟨f',g',h3,h4⟩:=y
 have e:f=f':=funext h
 subst e
 have:g=g':=funext fun k=>by
  have:=h2 (g' k)
  rw [h3] at this;exact this
 subst this;rfl
def AutG (D:Sh) (S0:WS):Gr (Aut D S0) where
 mul x y:=⟨fun k=>x.f (y.f k),fun k=>y.g (x.g k),fun k=>by rw [y.fg,x.fg],fun k=>by rw [x.gf,y.gf]⟩
 one:=⟨id,id,fun _=>rfl,fun _=>rfl⟩
 inv x:=⟨x.g,x.f,x.gf,x.fg⟩
 assoc _ _ _:=rfl
 ol _:=rfl
 or' _:=rfl
 il x:=Aut.ext fun k=>x.gf k
 ir x:=Aut.ext fun k=>x.fg k
theorem yko (hD:Ok D) (a:Nat) {e:Int} (he:e=1\/e= -1) (k:Ph D S0):LtO a e (LtO a (-e) k)=k:=funext fun S=>by
 show Lt D a e (lif (LtO a (-e) k)) S.1=_
 rw [ydw hD S.2.1 (k':=Lt D a (-e) (lif k)) fun S' hB hE=>yn2 hD a (-e) k hB (S.2.2.trans hE),y7q hD he S.2.1,yyx]
theorem ym6 (hD:Ok D) (a:Nat) (k:Ph D S0):LtO a 1 (LtO a (-1) k)=k:=yko hD a (.inl rfl) k
theorem ym7 (hD:Ok D) (a:Nat) (k:Ph D S0):LtO a (-1) (LtO a 1 k)=k:=yko hD a (.inr rfl) k
noncomputable def Le (hD:Ok D) (a:Nat):Aut D S0:=⟨LtO a 1,LtO a (-1),fun k=>yko hD a (.inl rfl) k,fun k=>yko hD a (.inr rfl) k⟩
theorem y7u {a b:Nat} {e:Int} (h: ∀(S:WS) (k:WS->Int),Bd D S->Ext S0 S->Lt D a e k S=Lt D b e k S) (k:Ph D S0):LtO a e k=LtO b e k:=funext fun S=>h S.1 (lif k) S.2.1 S.2.2
theorem y9i (hD:Ok D) {a b:Nat} (h: ∀(e:Int) (S:WS) (k:WS->Int),Bd D S->Ext S0 S->Lt D a e k S=Lt D b e k S):(Le hD a:Aut D S0)=Le hD b:=Aut.ext fun k=>y7u (h 1) k
theorem y54 {a:Nat} (h:S0.vis a=true) (e:Int) (k:Ph D S0):LtO a e k=k:=funext fun S=>by
 show Lt D a e (lif k) S.1=_
 rw [ych (S.2.2.vis a h),yyx]
theorem ym8 (hD:Ok D) {a:Nat} (h:S0.vis a=true):(Le hD a:Aut D S0)=(AutG D S0).one:=Aut.ext fun k=>y54 h 1 k
theorem y3v {q q':Nat} (h:ev q q') (hq:q=3\/q=4):q'=3\/q'=4:=by unfold ev at h;omega
theorem y9j {q q':Nat} (h:ev q q') (hq:q=2\/q=4\/q=5):q'=2\/q'=4\/q'=5:=by unfold ev at h;omega
theorem y55 (hD:Ok D) {a:Nat} (hl:a<2*D.n) (h:S0.st (a/2)=3\/S0.st (a/2)=4):(Le hD a:Aut D S0)=Le hD (D.nx a):=
 y9i hD fun e S k hB hE=>yn0 hD hB hl (y3v (hE.st _) h)
theorem ym9 (hD:Ok D) {x q u o:Nat} (h:Fr D x q u o) {e:Int} (he:S0.st x<=1->S0.st x=q/\e= -sgn D q x) {S:WS} (k:WS->Int) (hB:Bd D S) (hE:Ext S0 S):Lt D (D.nx u) e (Lt D (D.nx o) e k) S=Lt D o e (Lt D u e k) S:=by
 obtain ⟨f1,f2,f3,f4,f5,f6,f7,f8,f9⟩:=h.f
 have hev:=hE.st x
 have hfit:=hB o f4
 unfold Fit at hfit
 rw [f2] at hfit
 by_cases h0:S.st x<=1
 ·have e1:S0.st x=S.st x:=by unfold ev at hev;omega
  obtain ⟨e2,e3⟩:=he (by omega)
  exact y2q hD h hB (by omega) e3
 ·by_cases h2:S.st x=2\/S.st x=4\/S.st x=5
  ·have hs: ∀S',Ext S S'->S'.st x=2\/S'.st x=4\/S'.st x=5:=fun S' hE'=>y9j (hE'.st x) h2
   rw [ydw hD hB (k':=Lt D u e k) fun S' hB' hE'=>?_]
   ·have:=yo5 hD hB f4 (e:=e) (k:=Lt D u e k) (by rw [f2];exact h2)
    rw [f6] at this;exact this.symm
   ·have:=yo5 hD hB' f3 (e:=e) (k:=k) (by rw [f1];exact hs S' hE')
    rw [f5] at this;exact this.symm
  ·have h3:S.st x=3:=by
    unfold FitP at hfit
    rcases hfit with ⟨h,_⟩|⟨h,_⟩|⟨h,_⟩|⟨h,_⟩<;>omega
   have hs: ∀S',Ext S S'->S'.st x=3\/S'.st x=4:=fun S' hE'=>y3v (hE'.st x) (.inl h3)
   have p1: ∀(k:WS->Int) S',Bd D S'->Ext S S'->Lt D (D.nx o) e k S'=Lt D o e k S':=fun k S' hB' hE'=>(yn0 hD hB' f4 (by rw [f2];exact hs S' hE')).symm
   have p2: ∀(k:WS->Int) S',Bd D S'->Ext S S'->Lt D (D.nx u) e k S'=Lt D u e k S':=fun k S' hB' hE'=>(yn0 hD hB' f3 (by rw [f1];exact hs S' hE')).symm
   rw [p2 _ S hB (.rfl' S),ydw hD hB (k':=Lt D o e k) fun S' hB' hE'=>p1 k S' hB' hE']
   rw [h3,FitP.i3,f6] at hfit
   cases hv:S.vis u with
   |true=>
    rw [ych hv]
    exact ydw hD hB fun S' _ hE'=>(ych (hE'.vis u hv)).symm
   |false=>
    have ho:S.vis o=true:=by rw [hfit.2,hv];rfl
    rw [ych ho]
    exact ydw hD hB fun S' _ hE'=>ych (hE'.vis o ho)
theorem LtO2 (hD:Ok D) (a b:Nat) (e:Int) (k:Ph D S0) (S:Om D S0):LtO a e (LtO b e k) S=Lt D a e (Lt D b e (lif k)) S.1:=by
 show Lt D a e (lif (LtO b e k)) S.1=_
 exact ydw hD S.2.1 fun S' hB hE=>yn2 hD b e k hB (S.2.2.trans hE)
theorem vert (hD:Ok D) {x:Nat} (hx:x<D.n):(D.sg x=1->(AutG D S0).mul (Le hD (2*x)) (Le hD (2*x+1))=(AutG D S0).mul (Le hD (D.nx (2*x+1))) (Le hD (D.nx (2*x))))/\
  (D.sg x= -1->(AutG D S0).mul (Le hD (2*x+1)) (Le hD (2*x))=(AutG D S0).mul (Le hD (D.nx (2*x))) (Le hD (D.nx (2*x+1)))):=by
 have F1:Fr D x 1 (2*x) (2*x+1):=⟨hx,by omega,rfl,rfl⟩
 have F0:Fr D x 0 (2*x+1) (2*x):=⟨hx,by omega,rfl,rfl⟩
 have neg: ∀a b c d:Nat,(∀k:Ph D S0,LtO a (-1) (LtO b (-1) k)=LtO c (-1) (LtO d (-1) k))->(AutG D S0).mul (Le hD d) (Le hD c)=(AutG D S0).mul (Le hD b) (Le hD a):=fun a b c d h=>by
  have:(⟨fun k=>LtO a (-1) (LtO b (-1) k),fun k=>LtO b 1 (LtO a 1 k),fun k=>by
    show LtO a (-1) (LtO b (-1) (LtO b 1 (LtO a 1 k)))=k
    rw [ym7 hD,ym7 hD],fun k=>by
    show LtO b 1 (LtO a 1 (LtO a (-1) (LtO b (-1) k)))=k
    rw [ym6 hD,ym6 hD]⟩:Aut D S0)=⟨fun k=>LtO c (-1) (LtO d (-1) k),fun k=>LtO d 1 (LtO c 1 k),fun k=>by
    show LtO c (-1) (LtO d (-1) (LtO d 1 (LtO c 1 k)))=k
    rw [ym7 hD,ym7 hD],fun k=>by
    show LtO d 1 (LtO c 1 (LtO c (-1) (LtO d (-1) k)))=k
    rw [ym6 hD,ym6 hD]⟩:=Aut.ext h
  have:=congrArg Aut.g this
  exact Aut.ext fun k=>(congrFun this k).symm
 by_cases h0:S0.st x=0
 ·constructor
  ·intro hs
   refine Aut.ext fun k=>funext fun S=>?_
   show LtO (2*x) 1 (LtO (2*x+1) 1 k) S=LtO (D.nx (2*x+1)) 1 (LtO (D.nx (2*x)) 1 k) S
   rw [LtO2 hD,LtO2 hD]
   exact (ym9 hD F0 (fun _=>⟨h0,by simp [sgn,hs]⟩) _ S.2.1 S.2.2).symm
  ·intro hs
   refine neg _ _ _ _ fun k=>funext fun S=>?_
   rw [LtO2 hD,LtO2 hD]
   exact ym9 hD F0 (fun _=>⟨h0,by simp [sgn,hs]⟩) _ S.2.1 S.2.2
 ·constructor
  ·intro hs
   refine neg _ _ _ _ fun k=>funext fun S=>?_
   rw [LtO2 hD,LtO2 hD]
   exact ym9 hD F1 (fun h=>⟨by omega,by simp [sgn,hs]⟩) _ S.2.1 S.2.2
  ·intro hs
   refine Aut.ext fun k=>funext fun S=>?_
   show LtO (2*x+1) 1 (LtO (2*x) 1 k) S=LtO (D.nx (2*x)) 1 (LtO (D.nx (2*x+1)) 1 k) S
   rw [LtO2 hD,LtO2 hD]
   exact (ym9 hD F1 (fun h=>⟨by omega,by simp [sgn,hs]⟩) _ S.2.1 S.2.2).symm
noncomputable def wH (hD:Ok D) (x:Nat):Aut D S0:=
 if x % 4=0 then Le hD (2*(x/4)) else if x % 4=2 then (AutG D S0).inv (Le hD (D.nx (2*(x/4))))
 else if x % 4=1 then (if D.sg (x/4)=1 then (AutG D S0).inv (Le hD (D.nx (2*(x/4)+1))) else Le hD (2*(x/4)+1))
 else (if D.sg (x/4)=1 then Le hD (2*(x/4)+1) else (AutG D S0).inv (Le hD (D.nx (2*(x/4)+1))))
theorem yem (hD:Ok D) (a:Nat):(wH hD (inH D a):Aut D S0)=Le hD a:=by
 unfold inH wH
 split
 ·rw [if_pos (by omega),show 2*(4*(a/2)/4)=a by omega]
 split
 ·rename_i h1 h2
  rw [if_neg (by omega),if_neg (by omega),if_neg (by omega),show (4*(a/2)+3)/4=a/2 by omega,if_pos h2,show 2*(a/2)+1=a by omega]
 ·rename_i h1 h2
  rw [if_neg (by omega),if_neg (by omega),if_pos (by omega),show (4*(a/2)+1)/4=a/2 by omega,if_neg h2,show 2*(a/2)+1=a by omega]
theorem yeb (hD:Ok D) (a:Nat):(wH hD (outH D a):Aut D S0)=(AutG D S0).inv (Le hD (D.nx a)):=by
 unfold outH wH
 split
 ·rw [if_neg (by omega),if_pos (by omega),show 2*((4*(a/2)+2)/4)=a by omega]
 split
 ·rename_i h1 h2
  rw [if_neg (by omega),if_neg (by omega),if_pos (by omega),show (4*(a/2)+1)/4=a/2 by omega,if_pos h2,show 2*(a/2)+1=a by omega]
 ·rename_i h1 h2
  rw [if_neg (by omega),if_neg (by omega),if_neg (by omega),show (4*(a/2)+3)/4=a/2 by omega,if_neg h2,show 2*(a/2)+1=a by omega]
theorem in0 (c:Nat):inH D (2*c)=4*c:=by unfold inH;rw [if_pos (by omega)];omega
theorem out0 (c:Nat):outH D (2*c)=4*c+2:=by unfold outH;rw [if_pos (by omega)];omega
theorem in1 (c:Nat):inH D (2*c+1)=if D.sg c=1 then 4*c+3 else 4*c+1:=by unfold inH;rw [if_neg (by omega),show (2*c+1)/2=c by omega]
theorem out1 (c:Nat):outH D (2*c+1)=if D.sg c=1 then 4*c+1 else 4*c+3:=by unfold outH;rw [if_neg (by omega),show (2*c+1)/2=c by omega]
theorem half (hD:Ok D) {x:Nat} (hx:x<4*D.n): ∃a,a<2*D.n/\(x=inH D a\/x=outH D a):=by
 have e:x=4*(x/4)\/x=4*(x/4)+1\/x=4*(x/4)+2\/x=4*(x/4)+3:=by omega
 have hl:x/4<D.n:=by omega
 generalize x/4=c at*
 rcases e with e|e|e|e
 ·exact ⟨2*c,by omega, .inl (by rw [in0,e])⟩
 ·refine ⟨2*c+1,by omega,?_⟩
  rw [in1,out1]
  by_cases hs:D.sg c=1
  ·rw [if_pos hs,if_pos hs];exact .inr e
  ·rw [if_neg hs,if_neg hs];exact .inl e
 ·exact ⟨2*c,by omega, .inr (by rw [out0,e])⟩
 ·refine ⟨2*c+1,by omega,?_⟩
  rw [in1,out1]
  by_cases hs:D.sg c=1
  ·rw [if_pos hs,if_pos hs];exact .inl e
  ·rw [if_neg hs,if_neg hs];exact .inr e
theorem ykp (hD:Ok D) {b:Nat} (hb:b<2*D.n): ∃a,a<2*D.n/\D.nx a=b:=by
 have hp:Sp.PermN (2*D.n) D.nx:=⟨hD.lt,hD.inj⟩
 obtain ⟨k,h0,hk⟩:=hp.back hb
 obtain ⟨j,rfl⟩: ∃j,k=j+1:=⟨k-1,by omega⟩
 exact ⟨_,hp.itn_lt hb j,hk⟩
theorem y9k (hD:Ok D) {al:Nat->Nat} (hP:Pla D al) {x:Nat} (hx:x<4*D.n):(wH hD (al x):Aut D S0)=(AutG D S0).inv (wH hD x):=by
 obtain ⟨a,ha,e|e⟩:=half hD hx
 ·obtain ⟨b,hb,e1⟩:=ykp hD ha
  have:=hP.mate b hb
  rw [e1,←e] at this
  have hi:=hP.sph.mat.inv (outH D b) (by
   have:outH D b/4=b/2:=by unfold outH;split<;>try omega
                           split<;>omega
   omega)
  rw [this] at hi
  rw [hi,yeb,e,yem,e1]
 ·rw [e,hP.mate a ha,yem,yeb];rfl
theorem Gr.cyc {G:Type} (P:Gr G) {a b c d:G} (h:P.mul a b=P.mul c d):P.mul (P.mul (P.mul a b) (P.inv d)) (P.inv c)=P.one:=by
 rw [h,P.assoc c,P.ir,P.or',P.ir]
theorem Gr.cyc' {G:Type} (P:Gr G) {a b c d:G} (h:P.mul b a=P.mul c d):P.mul (P.mul (P.mul a (P.inv d)) (P.inv c)) b=P.one:=by
 have e:b=P.mul (P.mul c d) (P.inv a):=by rw [←h,P.assoc,P.ir,P.or']
 rw [e]
 simp only [P.assoc]
 rw [←P.assoc (P.inv c),P.il,P.ol,←P.assoc (P.inv d),P.il,P.ol,P.ir]
noncomputable def tH (hD:Ok D) (x:Nat):Aut D S0:=
 if x % 4=0 then (AutG D S0).one else if x % 4=3 then wH hD (4*(x/4)) else if x % 4=2 then (AutG D S0).mul (wH hD (4*(x/4))) (wH hD (4*(x/4)+3))
 else (AutG D S0).mul ((AutG D S0).mul (wH hD (4*(x/4))) (wH hD (4*(x/4)+3))) (wH hD (4*(x/4)+2))
theorem y9l (hD:Ok D):Vx (AutG D S0) (4*D.n) siD (wH hD) (tH hD):=fun x hx=>by
 have e:x=4*(x/4)\/x=4*(x/4)+1\/x=4*(x/4)+2\/x=4*(x/4)+3:=by omega
 have hl:x/4<D.n:=by omega
 generalize x/4=c at*
 have t0:(tH hD (4*c):Aut D S0)=(AutG D S0).one:=by unfold tH;rw [if_pos (by omega)]
 have t3:(tH hD (4*c+3):Aut D S0)=wH hD (4*c):=by unfold tH;rw [if_neg (by omega),if_pos (by omega),show (4*c+3)/4=c by omega]
 have t2:(tH hD (4*c+2):Aut D S0)=(AutG D S0).mul (wH hD (4*c)) (wH hD (4*c+3)):=by unfold tH;rw [if_neg (by omega),if_neg (by omega),if_pos (by omega),show (4*c+2)/4=c by omega]
 have t1:(tH hD (4*c+1):Aut D S0)=(AutG D S0).mul ((AutG D S0).mul (wH hD (4*c)) (wH hD (4*c+3))) (wH hD (4*c+2)):=by unfold tH;rw [if_neg (by omega),if_neg (by omega),if_neg (by omega),show (4*c+1)/4=c by omega]
 have i0:inH D (2*c)=4*c:=in0 c
 have o0:outH D (2*c)=4*c+2:=out0 c
 have w0:(wH hD (4*c):Aut D S0)=Le hD (2*c):=by rw [←i0];exact yem hD _
 have w2:(wH hD (4*c+2):Aut D S0)=(AutG D S0).inv (Le hD (D.nx (2*c))):=by rw [←o0];exact yeb hD _
 rcases e with e|e|e|e<;>rw [e]
 ·rw [show siD (4*c)=4*c+3 by unfold siD;omega,t3,t0,(AutG D S0).ol]
 ·rw [show siD (4*c+1)=4*c by unfold siD;omega,t0,t1]
  symm
  rcases hD.sg c hl with hs|hs
  ·have i1:inH D (2*c+1)=4*c+3:=by rw [in1];split<;>omega
   have o1:outH D (2*c+1)=4*c+1:=by rw [out1];split<;>omega
   rw [w0,w2,←i1,←o1,yem,yeb]
   exact Gr.cyc _ ((vert hD hl).1 hs)
  ·have i1:inH D (2*c+1)=4*c+1:=by rw [in1];split<;>omega
   have o1:outH D (2*c+1)=4*c+3:=by rw [out1];split<;>omega
   rw [w0,w2,←i1,←o1,yem,yeb]
   exact Gr.cyc' _ ((vert hD hl).2 hs)
 ·rw [show siD (4*c+2)=4*c+1 by unfold siD;omega,t1,t2]
 ·rw [show siD (4*c+3)=4*c+2 by unfold siD;omega,t2,t3]
theorem pot (hD:Ok D) {al:Nat->Nat} (hP:Pla D al): ∃g:Nat->Aut D S0,PotG (AutG D S0) (4*D.n) siD al (wH hD) g:=
 Sp.Sph.potG (AutG D S0) _ hP.sph (Nat.le_refl _) (fun x hx=>y9k hD hP hx) (y9l hD)
end
end Hs
end Go.Proofs.YtjpbeacamoijhaaDoor
namespace Go.Proofs.YtjpbeacamoijhaaDoor
set_option linter.unusedSimpArgs false
set_option linter.unusedVariables false
namespace Hs
open Classical
open Sp (Gr PotG Vx Sph siD)
theorem yrb {D:Sh} (hD:Ok D) {k k':WS->Int}: ∀(l:List (Nat×Int)) {S:WS},Bd D S->(∀S',Bd D S'->Ext S S'->k S'=k' S')->Lw D l k S=Lw D l k' S
 |[],S,hB,hk=>hk S hB (.rfl' S)
 |(a,e)::l,S,hB,hk=>ydw hD hB fun S' hB' hE'=>yrb hD l hB' fun S'' hB'' hE''=>hk S'' hB'' (hE'.trans hE'')
theorem y9m {D:Sh} (hD:Ok D) {a:Nat} (ha:a<2*D.n):sl D a=1\/sl D a= -1:=by
 unfold sl sgn
 rcases hD.sg (a/2) (by omega) with h|h<;>rw [h]<;>split<;>simp
section
variable {D:Sh} {S0:WS}
noncomputable def lop (hD:Ok D) (a:Nat) (p:Bool):Aut D S0:=if p then (if sl D a=1 then Le hD (co a) else (AutG D S0).inv (Le hD (co a))) else (AutG D S0).one
theorem ywo (hD:Ok D) {a:Nat} (h:sl D a=1):(lop hD a true:Aut D S0)=Le hD (co a):=by
 unfold lop;rw [if_pos rfl,if_pos h]
theorem ywp (hD:Ok D) {a:Nat} (h:sl D a= -1):(lop hD a true:Aut D S0)=(AutG D S0).inv (Le hD (co a)):=by
 unfold lop;rw [if_pos rfl,if_neg (show¬sl D a=1 by omega)]
theorem co0 (c:Nat):co (2*c)=2*c+1:=by unfold co;rw [if_pos (by omega)]
theorem co1 (c:Nat):co (2*c+1)=2*c:=by unfold co;rw [if_neg (by omega)];omega
theorem sl0 (c:Nat):sl D (2*c)=D.sg c:=by
 unfold sl sgn;rw [co0,if_pos (by omega),show 2*c/2=c by omega]
theorem sl1 (c:Nat):sl D (2*c+1)= -D.sg c:=by
 unfold sl sgn;rw [co1,if_neg (by omega),show (2*c+1)/2=c by omega]
noncomputable def wd (hD:Ok D):List (Nat×Bool)->Aut D S0
 |[]=>(AutG D S0).one
 |(a,p)::l=>(AutG D S0).mul (lop hD a p) (wd hD l)
theorem wd_f (hD:Ok D): ∀(l:List (Nat×Bool)) (_: ∀x∈l,x.1<2*D.n) (k:Ph D S0) {S:WS},Bd D S->Ext S0 S->lif ((wd hD l).f k) S=Lw D (ltrs D l) (lif k) S
 |[],_,k,S,hB,hE=>rfl
 |(a,p)::l,hl,k,S,hB,hE=>by
  have ih:=fun S' (hB':Bd D S') (hE':Ext S S')=>wd_f hD l (fun x hx=>hl x (.tail _ hx)) k hB' (hE.trans hE')
  have ha:=hl _ (.head _)
  cases p with
  |false=>exact ih S hB (.rfl' S)
  |true=>
   show lif ((lop hD a true).f ((wd hD l).f k)) S=Lt D (co a) (sl D a) (Lw D (ltrs D l) (lif k)) S
   have: ∀e:Int,lif (LtO (co a) e ((wd hD l).f k)) S=Lt D (co a) e (Lw D (ltrs D l) (lif k)) S:=fun e=>by
    rw [yn2 hD _ _ _ hB hE]
    exact ydw hD hB ih
   rcases y9m hD ha with h|h
   ·rw [ywo hD h,h];exact this 1
   ·rw [ywp hD h,h];exact this (-1)
section
variable {al:Nat->Nat} {g:Nat->Aut D S0}
theorem g_si (hD:Ok D) (hP:Pla D al) (hg:PotG (AutG D S0) (4*D.n) siD al (wH hD) g) {x:Nat} (hx:x<4*D.n):g (siD x)=(AutG D S0).mul (g x) (wH hD x):=by
 have h1:=hg.face (al x) (hP.sph.mat.lt x hx)
 rw [hP.sph.mat.inv x hx] at h1
 rw [h1,hg.edge x hx]
theorem yhx {a:Nat} (ha:a<2*D.n):inH D a<4*D.n:=by unfold inH;split<;>try omega
                                                   split<;>omega
theorem ycb {a:Nat} (ha:a<2*D.n):outH D a<4*D.n:=by unfold outH;split<;>try omega
                                                    split<;>omega
theorem y3w (hD:Ok D) (hP:Pla D al) (hg:PotG (AutG D S0) (4*D.n) siD al (wH hD) g) {a:Nat} (ha:a<2*D.n) (hv:S0.vis (D.nx a)=true):g (inH D (D.nx a))=g (outH D a):=by
 rw [←hP.mate a ha,hg.edge _ (ycb ha),yeb,ym8 hD hv];rfl
theorem y7v (hD:Ok D) (hP:Pla D al) (hg:PotG (AutG D S0) (4*D.n) siD al (wH hD) g) {a:Nat} (ha:a<2*D.n) (hv:S0.vis a=true) (hn:S0.vis (D.nx a)=true) (hs:S0.st (a/2)=3\/S0.st (a/2)=4):
  g (inH D (D.nx a))=(AutG D S0).mul (g (inH D a)) (lop hD a true):=by
 rw [y3w hD hP hg ha hn]
 have hc:a/2<D.n:=by omega
 have e:a=2*(a/2)\/a=2*(a/2)+1:=by omega
 have si: ∀x,x<4*D.n->g (siD x)=(AutG D S0).mul (g x) (wH hD x):=fun x hx=>g_si hD hP hg hx
 have vv: ∀b,b/2=a/2->b<2*D.n->(Le hD (D.nx b):Aut D S0)=Le hD b:=fun b hb hbl=>(y55 hD hbl (by rw [hb];exact hs)).symm
 have lv:=ym8 (S0:=S0) hD hv
 generalize a/2=c at*
 rcases e with e|e<;>subst e
 ·have s1:=si (4*c) (by omega)
  have s2:=si (4*c+3) (by omega)
  rw [show siD (4*c)=4*c+3 by unfold siD;omega,←in0 (D:=D) c,yem,lv,(AutG D S0).or',in0] at s1
  rw [show siD (4*c+3)=4*c+2 by unfold siD;omega,s1] at s2
  rw [out0,in0,s2]
  congr 1
  rcases hD.sg c hc with h|h
  ·have:=yem (S0:=S0) hD (2*c+1)
   rw [in1,if_pos h] at this
   rw [this,ywo hD (by rw [sl0];exact h),co0]
  ·have:=yeb (S0:=S0) hD (2*c+1)
   rw [out1,if_neg (show¬D.sg c=1 by omega)] at this
   rw [this,ywp hD (by rw [sl0];exact h),co0,vv _ (by omega) (by omega)]
 ·rw [out1,in1]
  rcases hD.sg c hc with h|h
  ·rw [if_pos h,if_pos h,ywp hD (by rw [sl1];omega),co1]
   have s1:=si (4*c+3) (by omega)
   have s2:=si (4*c+2) (by omega)
   have w3:=yem (S0:=S0) hD (2*c+1)
   rw [in1,if_pos h,lv] at w3
   rw [show siD (4*c+3)=4*c+2 by unfold siD;omega,w3,(AutG D S0).or'] at s1
   rw [show siD (4*c+2)=4*c+1 by unfold siD;omega,s1,←out0 (D:=D) c,yeb,vv _ (by omega) (by omega)] at s2
   exact s2
  ·have h': ¬D.sg c=1:=by omega
   rw [if_neg h',if_neg h',ywo hD (by rw [sl1];omega),co1]
   have s1:=si (4*c+1) (by omega)
   have s2:=si (4*c) (by omega)
   have w3:=yem (S0:=S0) hD (2*c+1)
   rw [in1,if_neg h',lv] at w3
   rw [show siD (4*c+1)=4*c by unfold siD;omega,w3,(AutG D S0).or'] at s1
   rw [show siD (4*c)=4*c+3 by unfold siD;omega,s1,←in0 (D:=D) c,yem,in0] at s2
   exact s2
theorem y7w (hD:Ok D) (hP:Pla D al) (hg:PotG (AutG D S0) (4*D.n) siD al (wH hD) g) {a:Nat} (ha:a<2*D.n) (hv:S0.vis a=true) (hn:S0.vis (D.nx (co a))=true):
  g (inH D (D.nx (co a)))=g (inH D a):=by
 rw [y3w hD hP hg (ya4 ha) hn]
 have hc:a/2<D.n:=by omega
 have e:a=2*(a/2)\/a=2*(a/2)+1:=by omega
 have si: ∀x,x<4*D.n->g (siD x)=(AutG D S0).mul (g x) (wH hD x):=fun x hx=>g_si hD hP hg hx
 have lv:=ym8 (S0:=S0) hD hv
 have ln:=ym8 (S0:=S0) hD hn
 have i1:(AutG D S0).inv (AutG D S0).one=(AutG D S0).one:=rfl
 generalize a/2=c at*
 rcases e with e|e<;>subst e
 ·rw [co0] at ln⊢
  rw [out1,in0]
  rcases hD.sg c hc with h|h
  ·rw [if_pos h]
   have s1:=si (4*c+1) (by omega)
   have w:=yeb (S0:=S0) hD (2*c+1)
   rw [out1,if_pos h,ln,i1] at w
   rw [show siD (4*c+1)=4*c by unfold siD;omega,w,(AutG D S0).or'] at s1
   exact s1.symm
  ·rw [if_neg (show¬D.sg c=1 by omega)]
   have s1:=si (4*c) (by omega)
   rw [show siD (4*c)=4*c+3 by unfold siD;omega,←in0 (D:=D) c,yem,lv,(AutG D S0).or',in0] at s1
   exact s1
 ·rw [co1] at ln⊢
  rw [out0,in1]
  rcases hD.sg c hc with h|h
  ·rw [if_pos h]
   have s1:=si (4*c+3) (by omega)
   have w:=yem (S0:=S0) hD (2*c+1)
   rw [in1,if_pos h,lv] at w
   rw [show siD (4*c+3)=4*c+2 by unfold siD;omega,w,(AutG D S0).or'] at s1
   exact s1
  ·rw [if_neg (show¬D.sg c=1 by omega)]
   have s1:=si (4*c+2) (by omega)
   have w:=yeb (S0:=S0) hD (2*c)
   rw [out0,ln,i1] at w
   rw [show siD (4*c+2)=4*c+1 by unfold siD;omega,w,(AutG D S0).or'] at s1
   exact s1.symm
theorem yyy (hD:Ok D) (hP:Pla D al) (hg:PotG (AutG D S0) (4*D.n) siD al (wH hD) g): ∀(l:List (Nat×Bool)) (s e:Nat),chn D s l e->(∀x∈l,x.1<2*D.n/\S0.vis x.1=true/\S0.vis (nof D x.1 x.2)=true/\(x.2=true->S0.st (x.1/2)=3\/S0.st (x.1/2)=4))->
  g (inH D e)=(AutG D S0).mul (g (inH D s)) (wd hD l)
 |[],s,e,h,_=>by rw [show s=e from h];exact ((AutG D S0).or' _).symm
 |(a,p)::l,s,e,h,hl=>by
  obtain ⟨h1,h2⟩:=h
  subst h1
  obtain ⟨k1,k2,k3,k4⟩:=hl _ (.head _)
  rw [yyy hD hP hg l _ e h2 fun x hx=>hl x (.tail _ hx)]
  show _=(AutG D S0).mul _ ((AutG D S0).mul _ _)
  rw [←(AutG D S0).assoc]
  congr 1
  cases p with
  |false=>
   show g (inH D (D.nx (co s)))=(AutG D S0).mul _ (AutG D S0).one
   rw [(AutG D S0).or'];exact y7w hD hP hg k1 k2 k3
  |true=>exact y7v hD hP hg k1 k2 k3 (k4 rfl)
end
theorem word (hD:Ok D) {al:Nat->Nat} (hP:Pla D al) {l:List (Nat×Bool)} {s:Nat} (hc:chn D s l s) (hl: ∀x∈l,x.1<2*D.n/\S0.vis x.1=true/\S0.vis (nof D x.1 x.2)=true/\(x.2=true->S0.st (x.1/2)=3\/S0.st (x.1/2)=4)) (hB:Bd D S0) (k:WS->Int):Lw D (ltrs D l) k S0=k S0:=by
 obtain ⟨g,hg⟩:=pot (S0:=S0) hD hP
 have h1:=yyy hD hP hg l s s hc hl
 have h2:wd hD l=(AutG D S0).one:=(AutG D S0).lc (a:=g (inH D s)) (by rw [←h1,(AutG D S0).or'])
 have h3:=wd_f hD l (fun x hx=>(hl x hx).1) (fun S=>k S.1) hB (.rfl' S0)
 rw [h2] at h3
 have e: ∀S,Bd D S->Ext S0 S->lif (fun S:Om D S0=>k S.1) S=k S:=fun S h h'=>dif_pos ⟨h,h'⟩
 rw [yrb hD _ hB fun S' hB' hE'=>(e S' hB' hE').symm,←h3]
 exact e S0 hB (.rfl' S0)
end
end Hs
end Go.Proofs.YtjpbeacamoijhaaDoor
