/- Plain: on the sphere, the letters along a closed curve below cancel (the word). -/
import Derived.Test.YtjpnnnognoaaiaaDoorHs6
namespace Go.Proofs.YtjpnnnognoaaiaaDoor
set_option linter.unusedSimpArgs false
set_option linter.unusedVariables false
namespace Hs
open Classical
open Sp (Gr PotG Vx Sph siD)
theorem yra {D:Sh} (hD:Ok D) {k k':WS->Int}: ∀(l:List (Nat×Int)) {S:WS},Bd D S->(∀S',Bd D S'->Ext S S'->k S'=k' S')->Lw D l k S=Lw D l k' S
 |[],S,hB,hk=>hk S hB (.rfl' S)
 |(a,e)::l,S,hB,hk=>yd1 hD hB fun S' hB' hE'=>yra hD l hB' fun S'' hB'' hE''=>hk S'' hB'' (hE'.trans hE'')
theorem y84 {D:Sh} (hD:Ok D) {a:Nat} (ha:a<2*D.n):sl D a=1\/sl D a= -1:=by
 unfold sl sgn
 rcases hD.sg (a/2) (by omega) with h|h<;>rw [h]<;>split<;>simp
section
variable {D:Sh} {S0:WS}
noncomputable def lop (hD:Ok D) (a:Nat) (p:Bool):Aut D S0:=if p then (if sl D a=1 then Le hD (co a) else (AutG D S0).inv (Le hD (co a))) else (AutG D S0).one
theorem yvp (hD:Ok D) {a:Nat} (h:sl D a=1):(lop hD a true:Aut D S0)=Le hD (co a):=by
 unfold lop;rw [if_pos rfl,if_pos h]
theorem yvq (hD:Ok D) {a:Nat} (h:sl D a= -1):(lop hD a true:Aut D S0)=(AutG D S0).inv (Le hD (co a)):=by
 unfold lop;rw [if_pos rfl,if_neg (show¬sl D a=1 by omega)]
theorem co0 (c:Nat):co (2*c)=2*c+1:=by unfold co;rw [if_pos (by omega)]
theorem co1 (c:Nat):co (2*c+1)=2*c:=by unfold co;rw [if_neg (by omega)];omega
theorem sl0 (c:Nat):sl D (2*c)=D.sg c:=by
 unfold sl sgn;rw [co0,if_pos (by omega),show 2*c/2=c by omega]
theorem sl1 (c:Nat):sl D (2*c+1)= -D.sg c:=by
 unfold sl sgn;rw [co1,if_neg (by omega),show (2*c+1)/2=c by omega]
noncomputable def wd (hD:Ok D):List (Nat×Bool)->Aut D S0
 |[]=>(AutG D S0).one
 |(a,p)::l=>(AutG D S0).mul (lop hD a p) (wd hD l)
theorem wd_f (hD:Ok D): ∀(l:List (Nat×Bool)) (_: ∀x∈l,x.1<2*D.n) (k:Ph D S0) {S:WS},Bd D S->Ext S0 S->lif ((wd hD l).f k) S=Lw D (ltrs D l) (lif k) S
 |[],_,k,S,hB,hE=>rfl
 |(a,p)::l,hl,k,S,hB,hE=>by
  have ih:=fun S' (hB':Bd D S') (hE':Ext S S')=>wd_f hD l (fun x hx=>hl x (.tail _ hx)) k hB' (hE.trans hE')
  have ha:=hl _ (.head _)
  cases p with
  |false=>exact ih S hB (.rfl' S)
  |true=>
   show lif ((lop hD a true).f ((wd hD l).f k)) S=Lt D (co a) (sl D a) (Lw D (ltrs D l) (lif k)) S
   have: ∀e:Int,lif (LtO (co a) e ((wd hD l).f k)) S=Lt D (co a) e (Lw D (ltrs D l) (lif k)) S:=fun e=>by
    rw [yn3 hD _ _ _ hB hE]
    exact yd1 hD hB ih
   rcases y84 hD ha with h|h
   ·rw [yvp hD h,h];exact this 1
   ·rw [yvq hD h,h];exact this (-1)
section
variable {al:Nat->Nat} {g:Nat->Aut D S0}
theorem g_si (hD:Ok D) (hP:Pla D al) (hg:PotG (AutG D S0) (4*D.n) siD al (wH hD) g) {x:Nat} (hx:x<4*D.n):g (siD x)=(AutG D S0).mul (g x) (wH hD x):=by
 have h1:=hg.face (al x) (hP.sph.mat.lt x hx)
 rw [hP.sph.mat.inv x hx] at h1
 rw [h1,hg.edge x hx]
theorem yg3 {a:Nat} (ha:a<2*D.n):inH D a<4*D.n:=by unfold inH;split<;>try omega
                                                   split<;>omega
theorem ybp {a:Nat} (ha:a<2*D.n):outH D a<4*D.n:=by unfold outH;split<;>try omega
                                                    split<;>omega
theorem y2v (hD:Ok D) (hP:Pla D al) (hg:PotG (AutG D S0) (4*D.n) siD al (wH hD) g) {a:Nat} (ha:a<2*D.n) (hv:S0.vis (D.nx a)=true):g (inH D (D.nx a))=g (outH D a):=by
 rw [←hP.mate a ha,hg.edge _ (ybp ha),yei,yna hD hv];rfl
theorem y7e (hD:Ok D) (hP:Pla D al) (hg:PotG (AutG D S0) (4*D.n) siD al (wH hD) g) {a:Nat} (ha:a<2*D.n) (hv:S0.vis a=true) (hn:S0.vis (D.nx a)=true) (hs:S0.st (a/2)=3\/S0.st (a/2)=4):
  g (inH D (D.nx a))=(AutG D S0).mul (g (inH D a)) (lop hD a true):=by
 rw [y2v hD hP hg ha hn]
 have hc:a/2<D.n:=by omega
 have e:a=2*(a/2)\/a=2*(a/2)+1:=by omega
 have si: ∀x,x<4*D.n->g (siD x)=(AutG D S0).mul (g x) (wH hD x):=fun x hx=>g_si hD hP hg hx
 have vv: ∀b,b/2=a/2->b<2*D.n->(Le hD (D.nx b):Aut D S0)=Le hD b:=fun b hb hbl=>(y5c hD hbl (by rw [hb];exact hs)).symm
 have lv:=yna (S0:=S0) hD hv
 generalize a/2=c at*
 rcases e with e|e<;>subst e
 ·have s1:=si (4*c) (by omega)
  have s2:=si (4*c+3) (by omega)
  rw [show siD (4*c)=4*c+3 by unfold siD;omega,←in0 (D:=D) c,yer,lv,(AutG D S0).or',in0] at s1
  rw [show siD (4*c+3)=4*c+2 by unfold siD;omega,s1] at s2
  rw [out0,in0,s2]
  congr 1
  rcases hD.sg c hc with h|h
  ·have:=yer (S0:=S0) hD (2*c+1)
   rw [in1,if_pos h] at this
   rw [this,yvp hD (by rw [sl0];exact h),co0]
  ·have:=yei (S0:=S0) hD (2*c+1)
   rw [out1,if_neg (show¬D.sg c=1 by omega)] at this
   rw [this,yvq hD (by rw [sl0];exact h),co0,vv _ (by omega) (by omega)]
 ·rw [out1,in1]
  rcases hD.sg c hc with h|h
  ·rw [if_pos h,if_pos h,yvq hD (by rw [sl1];omega),co1]
   have s1:=si (4*c+3) (by omega)
   have s2:=si (4*c+2) (by omega)
   have w3:=yer (S0:=S0) hD (2*c+1)
   rw [in1,if_pos h,lv] at w3
   rw [show siD (4*c+3)=4*c+2 by unfold siD;omega,w3,(AutG D S0).or'] at s1
   rw [show siD (4*c+2)=4*c+1 by unfold siD;omega,s1,←out0 (D:=D) c,yei,vv _ (by omega) (by omega)] at s2
   exact s2
  ·have h': ¬D.sg c=1:=by omega
   rw [if_neg h',if_neg h',yvp hD (by rw [sl1];omega),co1]
   have s1:=si (4*c+1) (by omega)
   have s2:=si (4*c) (by omega)
   have w3:=yer (S0:=S0) hD (2*c+1)
   rw [in1,if_neg h',lv] at w3
   rw [show siD (4*c+1)=4*c by unfold siD;omega,w3,(AutG D S0).or'] at s1
   rw [show siD (4*c)=4*c+3 by unfold siD;omega,s1,←in0 (D:=D) c,yer,in0] at s2
   exact s2
theorem y7f (hD:Ok D) (hP:Pla D al) (hg:PotG (AutG D S0) (4*D.n) siD al (wH hD) g) {a:Nat} (ha:a<2*D.n) (hv:S0.vis a=true) (hn:S0.vis (D.nx (co a))=true):
  g (inH D (D.nx (co a)))=g (inH D a):=by
 rw [y2v hD hP hg (yav ha) hn]
 have hc:a/2<D.n:=by omega
 have e:a=2*(a/2)\/a=2*(a/2)+1:=by omega
 have si: ∀x,x<4*D.n->g (siD x)=(AutG D S0).mul (g x) (wH hD x):=fun x hx=>g_si hD hP hg hx
 have lv:=yna (S0:=S0) hD hv
 have ln:=yna (S0:=S0) hD hn
 have i1:(AutG D S0).inv (AutG D S0).one=(AutG D S0).one:=rfl
 generalize a/2=c at*
 rcases e with e|e<;>subst e
 ·rw [co0] at ln⊢
  rw [out1,in0]
  rcases hD.sg c hc with h|h
  ·rw [if_pos h]
   have s1:=si (4*c+1) (by omega)
   have w:=yei (S0:=S0) hD (2*c+1)
   rw [out1,if_pos h,ln,i1] at w
   rw [show siD (4*c+1)=4*c by unfold siD;omega,w,(AutG D S0).or'] at s1
   exact s1.symm
  ·rw [if_neg (show¬D.sg c=1 by omega)]
   have s1:=si (4*c) (by omega)
   rw [show siD (4*c)=4*c+3 by unfold siD;omega,←in0 (D:=D) c,yer,lv,(AutG D S0).or',in0] at s1
   exact s1
 ·rw [co1] at ln⊢
  rw [out0,in1]
  rcases hD.sg c hc with h|h
  ·rw [if_pos h]
   have s1:=si (4*c+3) (by omega)
   have w:=yer (S0:=S0) hD (2*c+1)
   rw [in1,if_pos h,lv] at w
   rw [show siD (4*c+3)=4*c+2 by unfold siD;omega,w,(AutG D S0).or'] at s1
   exact s1
  ·rw [if_neg (show¬D.sg c=1 by omega)]
   have s1:=si (4*c+2) (by omega)
   have w:=yei (S0:=S0) hD (2*c)
   rw [out0,ln,i1] at w
   rw [show siD (4*c+2)=4*c+1 by unfold siD;omega,w,(AutG D S0).or'] at s1
   exact s1.symm
theorem yyr (hD:Ok D) (hP:Pla D al) (hg:PotG (AutG D S0) (4*D.n) siD al (wH hD) g): ∀(l:List (Nat×Bool)) (s e:Nat),chn D s l e->(∀x∈l,x.1<2*D.n/\S0.vis x.1=true/\S0.vis (nof D x.1 x.2)=true/\(x.2=true->S0.st (x.1/2)=3\/S0.st (x.1/2)=4))->
  g (inH D e)=(AutG D S0).mul (g (inH D s)) (wd hD l)
 |[],s,e,h,_=>by rw [show s=e from h];exact ((AutG D S0).or' _).symm
 |(a,p)::l,s,e,h,hl=>by
  obtain ⟨h1,h2⟩:=h
  subst h1
  obtain ⟨k1,k2,k3,k4⟩:=hl _ (.head _)
  rw [yyr hD hP hg l _ e h2 fun x hx=>hl x (.tail _ hx)]
  show _=(AutG D S0).mul _ ((AutG D S0).mul _ _)
  rw [←(AutG D S0).assoc]
  congr 1
  cases p with
  |false=>
   show g (inH D (D.nx (co s)))=(AutG D S0).mul _ (AutG D S0).one
   rw [(AutG D S0).or'];exact y7f hD hP hg k1 k2 k3
  |true=>exact y7e hD hP hg k1 k2 k3 (k4 rfl)
end
theorem word (hD:Ok D) {al:Nat->Nat} (hP:Pla D al) {l:List (Nat×Bool)} {s:Nat} (hc:chn D s l s) (hl: ∀x∈l,x.1<2*D.n/\S0.vis x.1=true/\S0.vis (nof D x.1 x.2)=true/\(x.2=true->S0.st (x.1/2)=3\/S0.st (x.1/2)=4)) (hB:Bd D S0) (k:WS->Int):Lw D (ltrs D l) k S0=k S0:=by
 obtain ⟨g,hg⟩:=pot (S0:=S0) hD hP
 have h1:=yyr hD hP hg l s s hc hl
 have h2:wd hD l=(AutG D S0).one:=(AutG D S0).lc (a:=g (inH D s)) (by rw [←h1,(AutG D S0).or'])
 have h3:=wd_f hD l (fun x hx=>(hl x hx).1) (fun S=>k S.1) hB (.rfl' S0)
 rw [h2] at h3
 have e: ∀S,Bd D S->Ext S0 S->lif (fun S:Om D S0=>k S.1) S=k S:=fun S h h'=>dif_pos ⟨h,h'⟩
 rw [yra hD _ hB fun S' hB' hE'=>(e S' hB' hE').symm,←h3]
 exact e S0 hB (.rfl' S0)
end
end Hs
end Go.Proofs.YtjpnnnognoaaiaaDoor
