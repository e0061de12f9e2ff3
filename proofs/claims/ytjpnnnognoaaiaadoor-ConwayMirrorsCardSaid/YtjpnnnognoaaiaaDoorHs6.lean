/- Plain: on the sphere, the letters along a closed curve below cancel. -/
import Derived.Test.YtjpnnnognoaaiaaDoorHs4
import Derived.Test.YtjpnnnognoaaiaaDoorHs5
namespace Go.Proofs.YtjpnnnognoaaiaaDoor
set_option linter.unusedSimpArgs false
set_option linter.unusedVariables false
namespace Hs
open Classical
open Sp (Gr PotG Vx Sph siD)
def inH (D:Sh) (a:Nat):Nat:=if a % 2=0 then 4*(a/2) else if D.sg (a/2)=1 then 4*(a/2)+3 else 4*(a/2)+1
def outH (D:Sh) (a:Nat):Nat:=if a % 2=0 then 4*(a/2)+2 else if D.sg (a/2)=1 then 4*(a/2)+1 else 4*(a/2)+3
structure Pla (D:Sh) (al:Nat->Nat):Prop where
 sph:Sph (4*D.n) siD al
 mate: ∀a,a<2*D.n->al (outH D a)=inH D (D.nx a)
section
variable {D:Sh} {S0:WS}
def Om (D:Sh) (S0:WS):Type:={S:WS//Bd D S/\Ext S0 S}
abbrev Ph (D:Sh) (S0:WS):Type:=Om D S0->Int
noncomputable def lif (k:Ph D S0) (S:WS):Int:=if h:Bd D S/\Ext S0 S then k ⟨S,h⟩ else 0
theorem yyq (k:Ph D S0) (S:Om D S0):lif k S.1=k S:=dif_pos S.2
noncomputable def LtO (a:Nat) (e:Int) (k:Ph D S0):Ph D S0:=fun S=>Lt D a e (lif k) S.1
theorem yn3 (hD:Ok D) (a:Nat) (e:Int) (k:Ph D S0) {S:WS} (hB:Bd D S) (hE:Ext S0 S):lif (LtO a e k) S=Lt D a e (lif k) S:=dif_pos ⟨hB,hE⟩
structure Aut (D:Sh) (S0:WS) where
 f:Ph D S0->Ph D S0
 g:Ph D S0->Ph D S0
 fg: ∀k,f (g k)=k
 gf: ∀k,g (f k)=k
theorem Aut.ext {x y:Aut D S0} (h: ∀k,x.f k=y.f k):x=y:=by
 obtain ⟨f,g,h1,h2⟩:=x
 obtain ⟨f',g',h3,h4⟩:=y
 have e:f=f':=funext h
 subst e
 have:g=g':=funext fun k=>by
  have:=h2 (g' k)
  rw [h3] at this;exact this
 subst this;rfl
def AutG (D:Sh) (S0:WS):Gr (Aut D S0) where
 mul x y:=⟨fun k=>x.f (y.f k),fun k=>y.g (x.g k),fun k=>by rw [y.fg,x.fg],fun k=>by rw [x.gf,y.gf]⟩
 one:=⟨id,id,fun _=>rfl,fun _=>rfl⟩
 inv x:=⟨x.g,x.f,x.gf,x.fg⟩
 assoc _ _ _:=rfl
 ol _:=rfl
 or' _:=rfl
 il x:=Aut.ext fun k=>x.gf k
 ir x:=Aut.ext fun k=>x.fg k
theorem ykq (hD:Ok D) (a:Nat) {e:Int} (he:e=1\/e= -1) (k:Ph D S0):LtO a e (LtO a (-e) k)=k:=funext fun S=>by
 show Lt D a e (lif (LtO a (-e) k)) S.1=_
 rw [yd1 hD S.2.1 (k':=Lt D a (-e) (lif k)) fun S' hB hE=>yn3 hD a (-e) k hB (S.2.2.trans hE),y69 hD he S.2.1,yyq]
theorem ym8 (hD:Ok D) (a:Nat) (k:Ph D S0):LtO a 1 (LtO a (-1) k)=k:=ykq hD a (.inl rfl) k
theorem ym9 (hD:Ok D) (a:Nat) (k:Ph D S0):LtO a (-1) (LtO a 1 k)=k:=ykq hD a (.inr rfl) k
noncomputable def Le (hD:Ok D) (a:Nat):Aut D S0:=⟨LtO a 1,LtO a (-1),fun k=>ykq hD a (.inl rfl) k,fun k=>ykq hD a (.inr rfl) k⟩
theorem y7d {a b:Nat} {e:Int} (h: ∀(S:WS) (k:WS->Int),Bd D S->Ext S0 S->Lt D a e k S=Lt D b e k S) (k:Ph D S0):LtO a e k=LtO b e k:=funext fun S=>h S.1 (lif k) S.2.1 S.2.2
theorem y80 (hD:Ok D) {a b:Nat} (h: ∀(e:Int) (S:WS) (k:WS->Int),Bd D S->Ext S0 S->Lt D a e k S=Lt D b e k S):(Le hD a:Aut D S0)=Le hD b:=Aut.ext fun k=>y7d (h 1) k
theorem y5b {a:Nat} (h:S0.vis a=true) (e:Int) (k:Ph D S0):LtO a e k=k:=funext fun S=>by
 show Lt D a e (lif k) S.1=_
 rw [ycm (S.2.2.vis a h),yyq]
theorem yna (hD:Ok D) {a:Nat} (h:S0.vis a=true):(Le hD a:Aut D S0)=(AutG D S0).one:=Aut.ext fun k=>y5b h 1 k
theorem y2u {q q':Nat} (h:ev q q') (hq:q=3\/q=4):q'=3\/q'=4:=by unfold ev at h;omega
theorem y81 {q q':Nat} (h:ev q q') (hq:q=2\/q=4\/q=5):q'=2\/q'=4\/q'=5:=by unfold ev at h;omega
theorem y5c (hD:Ok D) {a:Nat} (hl:a<2*D.n) (h:S0.st (a/2)=3\/S0.st (a/2)=4):(Le hD a:Aut D S0)=Le hD (D.nx a):=
 y80 hD fun e S k hB hE=>yn1 hD hB hl (y2u (hE.st _) h)
theorem ynb (hD:Ok D) {x q u o:Nat} (h:Fr D x q u o) {e:Int} (he:S0.st x<=1->S0.st x=q/\e= -sgn D q x) {S:WS} (k:WS->Int) (hB:Bd D S) (hE:Ext S0 S):Lt D (D.nx u) e (Lt D (D.nx o) e k) S=Lt D o e (Lt D u e k) S:=by
 obtain ⟨f1,f2,f3,f4,f5,f6,f7,f8,f9⟩:=h.f
 have hev:=hE.st x
 have hfit:=hB o f4
 unfold Fit at hfit
 rw [f2] at hfit
 by_cases h0:S.st x<=1
 ·have e1:S0.st x=S.st x:=by unfold ev at hev;omega
  obtain ⟨e2,e3⟩:=he (by omega)
  exact y12 hD h hB (by omega) e3
 ·by_cases h2:S.st x=2\/S.st x=4\/S.st x=5
  ·have hs: ∀S',Ext S S'->S'.st x=2\/S'.st x=4\/S'.st x=5:=fun S' hE'=>y81 (hE'.st x) h2
   rw [yd1 hD hB (k':=Lt D u e k) fun S' hB' hE'=>?_]
   ·have:=yoz hD hB f4 (e:=e) (k:=Lt D u e k) (by rw [f2];exact h2)
    rw [f6] at this;exact this.symm
   ·have:=yoz hD hB' f3 (e:=e) (k:=k) (by rw [f1];exact hs S' hE')
    rw [f5] at this;exact this.symm
  ·have h3:S.st x=3:=by
    unfold FitP at hfit
    rcases hfit with ⟨h,_⟩|⟨h,_⟩|⟨h,_⟩|⟨h,_⟩<;>omega
   have hs: ∀S',Ext S S'->S'.st x=3\/S'.st x=4:=fun S' hE'=>y2u (hE'.st x) (.inl h3)
   have p1: ∀(k:WS->Int) S',Bd D S'->Ext S S'->Lt D (D.nx o) e k S'=Lt D o e k S':=fun k S' hB' hE'=>(yn1 hD hB' f4 (by rw [f2];exact hs S' hE')).symm
   have p2: ∀(k:WS->Int) S',Bd D S'->Ext S S'->Lt D (D.nx u) e k S'=Lt D u e k S':=fun k S' hB' hE'=>(yn1 hD hB' f3 (by rw [f1];exact hs S' hE')).symm
   rw [p2 _ S hB (.rfl' S),yd1 hD hB (k':=Lt D o e k) fun S' hB' hE'=>p1 k S' hB' hE']
   rw [h3,FitP.i3,f6] at hfit
   cases hv:S.vis u with
   |true=>
    rw [ycm hv]
    exact yd1 hD hB fun S' _ hE'=>(ycm (hE'.vis u hv)).symm
   |false=>
    have ho:S.vis o=true:=by rw [hfit.2,hv];rfl
    rw [ycm ho]
    exact yd1 hD hB fun S' _ hE'=>ycm (hE'.vis o ho)
theorem LtO2 (hD:Ok D) (a b:Nat) (e:Int) (k:Ph D S0) (S:Om D S0):LtO a e (LtO b e k) S=Lt D a e (Lt D b e (lif k)) S.1:=by
 show Lt D a e (lif (LtO b e k)) S.1=_
 exact yd1 hD S.2.1 fun S' hB hE=>yn3 hD b e k hB (S.2.2.trans hE)
theorem vert (hD:Ok D) {x:Nat} (hx:x<D.n):(D.sg x=1->(AutG D S0).mul (Le hD (2*x)) (Le hD (2*x+1))=(AutG D S0).mul (Le hD (D.nx (2*x+1))) (Le hD (D.nx (2*x))))/\
  (D.sg x= -1->(AutG D S0).mul (Le hD (2*x+1)) (Le hD (2*x))=(AutG D S0).mul (Le hD (D.nx (2*x))) (Le hD (D.nx (2*x+1)))):=by
 have F1:Fr D x 1 (2*x) (2*x+1):=⟨hx,by omega,rfl,rfl⟩
 have F0:Fr D x 0 (2*x+1) (2*x):=⟨hx,by omega,rfl,rfl⟩
 have neg: ∀a b c d:Nat,(∀k:Ph D S0,LtO a (-1) (LtO b (-1) k)=LtO c (-1) (LtO d (-1) k))->(AutG D S0).mul (Le hD d) (Le hD c)=(AutG D S0).mul (Le hD b) (Le hD a):=fun a b c d h=>by
  have:(⟨fun k=>LtO a (-1) (LtO b (-1) k),fun k=>LtO b 1 (LtO a 1 k),fun k=>by
    show LtO a (-1) (LtO b (-1) (LtO b 1 (LtO a 1 k)))=k
    rw [ym9 hD,ym9 hD],fun k=>by
    show LtO b 1 (LtO a 1 (LtO a (-1) (LtO b (-1) k)))=k
    rw [ym8 hD,ym8 hD]⟩:Aut D S0)=⟨fun k=>LtO c (-1) (LtO d (-1) k),fun k=>LtO d 1 (LtO c 1 k),fun k=>by
    show LtO c (-1) (LtO d (-1) (LtO d 1 (LtO c 1 k)))=k
    rw [ym9 hD,ym9 hD],fun k=>by
    show LtO d 1 (LtO c 1 (LtO c (-1) (LtO d (-1) k)))=k
    rw [ym8 hD,ym8 hD]⟩:=Aut.ext h
  have:=congrArg Aut.g this
  exact Aut.ext fun k=>(congrFun this k).symm
 by_cases h0:S0.st x=0
 ·constructor
  ·intro hs
   refine Aut.ext fun k=>funext fun S=>?_
   show LtO (2*x) 1 (LtO (2*x+1) 1 k) S=LtO (D.nx (2*x+1)) 1 (LtO (D.nx (2*x)) 1 k) S
   rw [LtO2 hD,LtO2 hD]
   exact (ynb hD F0 (fun _=>⟨h0,by simp [sgn,hs]⟩) _ S.2.1 S.2.2).symm
  ·intro hs
   refine neg _ _ _ _ fun k=>funext fun S=>?_
   rw [LtO2 hD,LtO2 hD]
   exact ynb hD F0 (fun _=>⟨h0,by simp [sgn,hs]⟩) _ S.2.1 S.2.2
 ·constructor
  ·intro hs
   refine neg _ _ _ _ fun k=>funext fun S=>?_
   rw [LtO2 hD,LtO2 hD]
   exact ynb hD F1 (fun h=>⟨by omega,by simp [sgn,hs]⟩) _ S.2.1 S.2.2
  ·intro hs
   refine Aut.ext fun k=>funext fun S=>?_
   show LtO (2*x+1) 1 (LtO (2*x) 1 k) S=LtO (D.nx (2*x)) 1 (LtO (D.nx (2*x+1)) 1 k) S
   rw [LtO2 hD,LtO2 hD]
   exact (ynb hD F1 (fun h=>⟨by omega,by simp [sgn,hs]⟩) _ S.2.1 S.2.2).symm
noncomputable def wH (hD:Ok D) (x:Nat):Aut D S0:=
 if x % 4=0 then Le hD (2*(x/4)) else if x % 4=2 then (AutG D S0).inv (Le hD (D.nx (2*(x/4))))
 else if x % 4=1 then (if D.sg (x/4)=1 then (AutG D S0).inv (Le hD (D.nx (2*(x/4)+1))) else Le hD (2*(x/4)+1))
 else (if D.sg (x/4)=1 then Le hD (2*(x/4)+1) else (AutG D S0).inv (Le hD (D.nx (2*(x/4)+1))))
theorem yer (hD:Ok D) (a:Nat):(wH hD (inH D a):Aut D S0)=Le hD a:=by
 unfold inH wH
 split
 ·rw [if_pos (by omega),show 2*(4*(a/2)/4)=a by omega]
 split
 ·rename_i h1 h2
  rw [if_neg (by omega),if_neg (by omega),if_neg (by omega),show (4*(a/2)+3)/4=a/2 by omega,if_pos h2,show 2*(a/2)+1=a by omega]
 ·rename_i h1 h2
  rw [if_neg (by omega),if_neg (by omega),if_pos (by omega),show (4*(a/2)+1)/4=a/2 by omega,if_neg h2,show 2*(a/2)+1=a by omega]
theorem yei (hD:Ok D) (a:Nat):(wH hD (outH D a):Aut D S0)=(AutG D S0).inv (Le hD (D.nx a)):=by
 unfold outH wH
 split
 ·rw [if_neg (by omega),if_pos (by omega),show 2*((4*(a/2)+2)/4)=a by omega]
 split
 ·rename_i h1 h2
  rw [if_neg (by omega),if_neg (by omega),if_pos (by omega),show (4*(a/2)+1)/4=a/2 by omega,if_pos h2,show 2*(a/2)+1=a by omega]
 ·rename_i h1 h2
  rw [if_neg (by omega),if_neg (by omega),if_neg (by omega),show (4*(a/2)+3)/4=a/2 by omega,if_neg h2,show 2*(a/2)+1=a by omega]
theorem in0 (c:Nat):inH D (2*c)=4*c:=by unfold inH;rw [if_pos (by omega)];omega
theorem out0 (c:Nat):outH D (2*c)=4*c+2:=by unfold outH;rw [if_pos (by omega)];omega
theorem in1 (c:Nat):inH D (2*c+1)=if D.sg c=1 then 4*c+3 else 4*c+1:=by unfold inH;rw [if_neg (by omega),show (2*c+1)/2=c by omega]
theorem out1 (c:Nat):outH D (2*c+1)=if D.sg c=1 then 4*c+1 else 4*c+3:=by unfold outH;rw [if_neg (by omega),show (2*c+1)/2=c by omega]
theorem half (hD:Ok D) {x:Nat} (hx:x<4*D.n): ∃a,a<2*D.n/\(x=inH D a\/x=outH D a):=by
 have e:x=4*(x/4)\/x=4*(x/4)+1\/x=4*(x/4)+2\/x=4*(x/4)+3:=by omega
 have hl:x/4<D.n:=by omega
 generalize x/4=c at*
 rcases e with e|e|e|e
 ·exact ⟨2*c,by omega, .inl (by rw [in0,e])⟩
 ·refine ⟨2*c+1,by omega,?_⟩
  rw [in1,out1]
  by_cases hs:D.sg c=1
  ·rw [if_pos hs,if_pos hs];exact .inr e
  ·rw [if_neg hs,if_neg hs];exact .inl e
 ·exact ⟨2*c,by omega, .inr (by rw [out0,e])⟩
 ·refine ⟨2*c+1,by omega,?_⟩
  rw [in1,out1]
  by_cases hs:D.sg c=1
  ·rw [if_pos hs,if_pos hs];exact .inl e
  ·rw [if_neg hs,if_neg hs];exact .inr e
theorem ykr (hD:Ok D) {b:Nat} (hb:b<2*D.n): ∃a,a<2*D.n/\D.nx a=b:=by
 have hp:Sp.PermN (2*D.n) D.nx:=⟨hD.lt,hD.inj⟩
 obtain ⟨k,h0,hk⟩:=hp.back hb
 obtain ⟨j,rfl⟩: ∃j,k=j+1:=⟨k-1,by omega⟩
 exact ⟨_,hp.itn_lt hb j,hk⟩
theorem y82 (hD:Ok D) {al:Nat->Nat} (hP:Pla D al) {x:Nat} (hx:x<4*D.n):(wH hD (al x):Aut D S0)=(AutG D S0).inv (wH hD x):=by
 obtain ⟨a,ha,e|e⟩:=half hD hx
 ·obtain ⟨b,hb,e1⟩:=ykr hD ha
  have:=hP.mate b hb
  rw [e1,←e] at this
  have hi:=hP.sph.mat.inv (outH D b) (by
   have:outH D b/4=b/2:=by unfold outH;split<;>try omega
                           split<;>omega
   omega)
  rw [this] at hi
  rw [hi,yei,e,yer,e1]
 ·rw [e,hP.mate a ha,yer,yei];rfl
theorem Gr.cyc {G:Type} (P:Gr G) {a b c d:G} (h:P.mul a b=P.mul c d):P.mul (P.mul (P.mul a b) (P.inv d)) (P.inv c)=P.one:=by
 rw [h,P.assoc c,P.ir,P.or',P.ir]
theorem Gr.cyc' {G:Type} (P:Gr G) {a b c d:G} (h:P.mul b a=P.mul c d):P.mul (P.mul (P.mul a (P.inv d)) (P.inv c)) b=P.one:=by
 have e:b=P.mul (P.mul c d) (P.inv a):=by rw [←h,P.assoc,P.ir,P.or']
 rw [e]
 simp only [P.assoc]
 rw [←P.assoc (P.inv c),P.il,P.ol,←P.assoc (P.inv d),P.il,P.ol,P.ir]
noncomputable def tH (hD:Ok D) (x:Nat):Aut D S0:=
 if x % 4=0 then (AutG D S0).one else if x % 4=3 then wH hD (4*(x/4)) else if x % 4=2 then (AutG D S0).mul (wH hD (4*(x/4))) (wH hD (4*(x/4)+3))
 else (AutG D S0).mul ((AutG D S0).mul (wH hD (4*(x/4))) (wH hD (4*(x/4)+3))) (wH hD (4*(x/4)+2))
theorem y83 (hD:Ok D):Vx (AutG D S0) (4*D.n) siD (wH hD) (tH hD):=fun x hx=>by
 have e:x=4*(x/4)\/x=4*(x/4)+1\/x=4*(x/4)+2\/x=4*(x/4)+3:=by omega
 have hl:x/4<D.n:=by omega
 generalize x/4=c at*
 have t0:(tH hD (4*c):Aut D S0)=(AutG D S0).one:=by unfold tH;rw [if_pos (by omega)]
 have t3:(tH hD (4*c+3):Aut D S0)=wH hD (4*c):=by unfold tH;rw [if_neg (by omega),if_pos (by omega),show (4*c+3)/4=c by omega]
 have t2:(tH hD (4*c+2):Aut D S0)=(AutG D S0).mul (wH hD (4*c)) (wH hD (4*c+3)):=by unfold tH;rw [if_neg (by omega),if_neg (by omega),if_pos (by omega),show (4*c+2)/4=c by omega]
 have t1:(tH hD (4*c+1):Aut D S0)=(AutG D S0).mul ((AutG D S0).mul (wH hD (4*c)) (wH hD (4*c+3))) (wH hD (4*c+2)):=by unfold tH;rw [if_neg (by omega),if_neg (by omega),if_neg (by omega),show (4*c+1)/4=c by omega]
 have i0:inH D (2*c)=4*c:=in0 c
 have o0:outH D (2*c)=4*c+2:=out0 c
 have w0:(wH hD (4*c):Aut D S0)=Le hD (2*c):=by rw [←i0];exact yer hD _
 have w2:(wH hD (4*c+2):Aut D S0)=(AutG D S0).inv (Le hD (D.nx (2*c))):=by rw [←o0];exact yei hD _
 rcases e with e|e|e|e<;>rw [e]
 ·rw [show siD (4*c)=4*c+3 by unfold siD;omega,t3,t0,(AutG D S0).ol]
 ·rw [show siD (4*c+1)=4*c by unfold siD;omega,t0,t1]
  symm
  rcases hD.sg c hl with hs|hs
  ·have i1:inH D (2*c+1)=4*c+3:=by rw [in1];split<;>omega
   have o1:outH D (2*c+1)=4*c+1:=by rw [out1];split<;>omega
   rw [w0,w2,←i1,←o1,yer,yei]
   exact Gr.cyc _ ((vert hD hl).1 hs)
  ·have i1:inH D (2*c+1)=4*c+1:=by rw [in1];split<;>omega
   have o1:outH D (2*c+1)=4*c+3:=by rw [out1];split<;>omega
   rw [w0,w2,←i1,←o1,yer,yei]
   exact Gr.cyc' _ ((vert hD hl).2 hs)
 ·rw [show siD (4*c+2)=4*c+1 by unfold siD;omega,t1,t2]
 ·rw [show siD (4*c+3)=4*c+2 by unfold siD;omega,t2,t3]
theorem pot (hD:Ok D) {al:Nat->Nat} (hP:Pla D al): ∃g:Nat->Aut D S0,PotG (AutG D S0) (4*D.n) siD al (wH hD) g:=
 Sp.Sph.potG (AutG D S0) _ hP.sph (Nat.le_refl _) (fun x hx=>y82 hD hP hx) (y83 hD)
end
end Hs
end Go.Proofs.YtjpnnnognoaaiaaDoor
