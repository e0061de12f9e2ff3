/- Plain: the Conway polynomial of a connected sum. -/
import Derived.Test.YtjpnnnognoaaiaaGreatDoorZx
import Derived.Test.YtjpnnnognoaaiaaGreatDoorCv
namespace Go.Proofs.YtjpnnnognoaaiaaGreatDoor
set_option linter.unusedSimpArgs false
set_option linter.unusedVariables false
namespace Hs
open Sp (Sph siD PermN itn SC alD)
section
variable {s1 m1 s2 m2:List Int} {L1 L2:Int}
theorem yh8 (c:Nat):(c<s1.length->(s1++s2).getD c 0=s1.getD c 0)/\(s1++s2).getD (s1.length+c) 0=s2.getD c 0:=by
 refine ⟨fun h=>by simp [List.getD_eq_getElem?_getD,List.getElem?_append_left h],?_⟩
 simp [List.getD_eq_getElem?_getD,List.getElem?_append_right]
theorem ywa (m:List Int) {a:Nat} (ha:a<2*s1.length):outH (shD (s1++s2) m) a=outH (shD s1 m1) a:=by
 unfold outH
 have:(shD (s1++s2) m).sg (a/2)=(shD s1 m1).sg (a/2):=(yh8 _).1 (by omega)
 rw [this]
theorem ywb (m:List Int) (a:Nat):outH (shD (s1++s2) m) (2*s1.length+a)=4*s1.length+outH (shD s2 m2) a:=by
 unfold outH
 have e:(2*s1.length+a)/2=s1.length+a/2:=by omega
 have:(shD (s1++s2) m).sg ((2*s1.length+a)/2)=(shD s2 m2).sg (a/2):=by rw [e];exact (yh8 _).2
 rw [this,e]
 by_cases h:a % 2=0
 ·rw [if_pos h,if_pos (by omega)];omega
 ·rw [if_neg h,if_neg (by omega)]
  split<;>omega
theorem yob (n h:Nat):cod (4*n+h)=2*n+cod h:=by unfold cod;omega
theorem y8g (h1:yaf s1 m1 L1=true) (h2:yaf s2 m2 L2=true) (hn:s1.length+s2.length<=64) (hL:L1+L2<=64) {x y:Nat} (hx:x<4*s1.length) (hy:y<4*s2.length) (ox:outB s1 (x:Int)=true) (oy:outB s2 (y:Int)=true):
  Two (shD (s1++s2) (csM m1 m2 x y)) (shD s1 m1) (shD s2 m2) (cod x) (cod y):=by
 have v1:=yal h1
 have v2:=yal h2
 have hp1:=pmOk h1
 have hp2:=pmOk h2
 have hpu:=pmOk (Sp.valid_union h1 h2 hn hL)
 have hsl:(s1++s2).length=s1.length+s2.length:=by simp
 rw [hsl] at hpu
 have hl:=hp1.ok.1
 have hl2:=hp2.ok.1
 obtain ⟨f1,f2⟩:=yl6 (m2:=m2) (y:=y) hp1 hx
 have g:=fun z hz=>yoa hpu (x:=x) (y:=m1.length+y) (by omega) (by omega) f1 f2 (z:=z) hz
 have ex:=(ycx (m:=m1) v1.sg hx).2 ox
 have ey:=(ycx (m:=m2) v2.sg hy).2 oy
 have hxo:cod x<2*s1.length:=by unfold cod;omega
 have hyo:cod y<2*s2.length:=by unfold cod;omega
 have u1: ∀a,a<2*s1.length->(Sp.unM m1 m2).getD (outH (shD s1 m1) a) 0=((inH (shD s1 m1) ((shD s1 m1).nx a):Nat):Int):=fun a ha=>by
  have lo:=ybk (D:=shD s1 m1) ha
  have lo':outH (shD s1 m1) a<4*s1.length:=lo
  rw [Sp.unM_l (by omega),←ycq v1 ha,(yc6 v1 lo).2.1]
 have u2: ∀a,a<2*s2.length->(Sp.unM m1 m2).getD (m1.length+outH (shD s2 m2) a) 0=((4*s1.length+inH (shD s2 m2) ((shD s2 m2).nx a):Nat):Int):=fun a ha=>by
  have lo:=ybk (D:=shD s2 m2) ha
  have lo':outH (shD s2 m2) a<4*s2.length:=lo
  rw [Sp.unM_r (by omega),hl]
  have e1:=(yc6 v2 lo).2.1
  have e2:=ycq v2 ha
  rw [←e2];omega
 have mx:(Sp.unM m1 m2).getD x 0=((inH (shD s1 m1) ((shD s1 m1).nx (cod x)):Nat):Int):=by
  have:=u1 _ hxo;rwa [←ex] at this
 have my:(Sp.unM m1 m2).getD (m1.length+y) 0=((4*s1.length+inH (shD s2 m2) ((shD s2 m2).nx (cod y)):Nat):Int):=by
  have:=u2 _ hyo;rwa [←ey] at this
 have ilx:=yg7 (D:=shD s1 m1) ((ybo v1).lt _ hxo)
 have ilx':inH (shD s1 m1) ((shD s1 m1).nx (cod x))<4*s1.length:=ilx
 have oix:=(ydu (m:=m1) v1.sg ((ybo v1).lt _ hxo)).1
 have oiy:=(ydu (m:=m2) v2.sg ((ybo v2).lt _ hyo)).1
 have nxv: ∀z w,(csM m1 m2 x y).getD z 0=((w:Nat):Int)->cod (alD (csM m1 m2 x y) z)=cod w:=fun z w h=>by unfold alD;rw [h,Int.toNat_natCast]
 have xl:(shD (s1++s2) (csM m1 m2 x y)).n=(s1++s2).length:=rfl
 refine ⟨hsl,fun c hc=>(yh8 c).1 hc,fun c _=>(yh8 c).2,fun a ha hne=>?_,fun a ha hne=>?_,fun _=>?_,fun _=>?_,⟨fun _=>hyo,fun _=>hxo⟩⟩
 ·have ha':a<2*s1.length:=ha
  have lo':outH (shD s1 m1) a<4*s1.length:=ybk (D:=shD s1 m1) ha
  have oo:=(ydu (m:=m1) v1.sg ha').2
  have e:(csM m1 m2 x y).getD (outH (shD s1 m1) a) 0=((inH (shD s1 m1) ((shD s1 m1).nx a):Nat):Int):=by
   refine (g _ (by omega)).trans ?_
   unfold crs
   simp only [Int.toNat_natCast]
   rw [if_neg,if_neg,if_neg,if_neg,u1 a ha']
   ·rw [mx];intro e
    rw [e] at oo;rw [oo] at oix;cases oix
   ·omega
   ·rw [my];omega
   ·intro e
    refine hne ?_
    have:outH (shD s1 m1) a=x:=by omega
    rw [←this,ygl]
  show cod (alD (csM m1 m2 x y) (outH (shD (s1++s2) (csM m1 m2 x y)) a))=_
  rw [ywa (m1:=m1) _ ha',nxv _ _ e,yfg]
 ·have ha':a<2*s2.length:=ha
  have lo':outH (shD s2 m2) a<4*s2.length:=ybk (D:=shD s2 m2) ha
  have oo:=(ydu (m:=m2) v2.sg ha').2
  have e:(csM m1 m2 x y).getD (m1.length+outH (shD s2 m2) a) 0=((4*s1.length+inH (shD s2 m2) ((shD s2 m2).nx a):Nat):Int):=by
   refine (g _ (by omega)).trans ?_
   unfold crs
   simp only [Int.toNat_natCast]
   rw [if_neg,if_neg,if_neg,if_neg,u2 a ha']
   ·rw [mx];omega
   ·intro e
    refine hne ?_
    have:outH (shD s2 m2) a=y:=by omega
    rw [←this,ygl]
   ·rw [my];intro e
    have:outH (shD s2 m2) a=inH (shD s2 m2) ((shD s2 m2).nx (cod y)):=by omega
    rw [this] at oo;rw [oo] at oiy;cases oiy
   ·omega
  show cod (alD (csM m1 m2 x y) (outH (shD (s1++s2) (csM m1 m2 x y)) (2*s1.length+a)))=2*s1.length+_
  rw [ywb (m2:=m2),←hl,nxv _ _ e,yob,yfg]
 ·have e:(csM m1 m2 x y).getD x 0=((4*s1.length+inH (shD s2 m2) ((shD s2 m2).nx (cod y)):Nat):Int):=by
   refine (g _ (by omega)).trans ?_
   unfold crs
   simp only [Int.toNat_natCast]
   rw [if_pos trivial,my]
  show cod (alD (csM m1 m2 x y) (outH (shD (s1++s2) (csM m1 m2 x y)) (cod x)))=2*s1.length+_
  rw [ywa (m1:=m1) _ hxo,←ex,nxv _ _ e,yob,yfg]
 ·have e:(csM m1 m2 x y).getD (m1.length+y) 0=((inH (shD s1 m1) ((shD s1 m1).nx (cod x)):Nat):Int):=by
   refine (g _ (by omega)).trans ?_
   unfold crs
   simp only [Int.toNat_natCast]
   rw [if_neg,if_neg,if_pos trivial,mx]
   ·rw [my];intro e
    have:y=inH (shD s2 m2) ((shD s2 m2).nx (cod y)):=by omega
    rw [this] at oy;rw [oy] at oiy;cases oiy
   ·omega
  show cod (alD (csM m1 m2 x y) (outH (shD (s1++s2) (csM m1 m2 x y)) (2*s1.length+cod y)))=_
  rw [ywb (m2:=m2),←ey,←hl,nxv _ _ e,yfg]
end
theorem yhj {D:Sh} {X X':Int->Int->Nat->Int} {j0:Int} {k0:Nat} (h: ∀i j k,j0<=j->k0<=k->X i j k=X' i j k): ∀(B:List Nat) (S:WS),j0<=S.j->k0<=S.k->run X D B S=run X' D B S
 |[],S,h1,h2=>h _ _ _ h1 h2
 |a::B,S,h1,h2=>by
  show (if S.vis a=true then _ else wk1 D S.cr a _)=if S.vis a=true then _ else wk1 D S.cr a _
  split
  ·exact yhj h B S h1 h2
  ·unfold wk1
   have bj: ∀(S:WS) (b:Nat),∀x∈br D S b,S.j<=x.2.1.j:=fun S b x hx=>by
    unfold br at hx
    split at hx
    ·cases hx
    split at hx
    ·rw [List.mem_singleton] at hx;subst hx;exact Int.le_refl _
    split at hx
    ·rw [List.mem_singleton] at hx;subst hx;exact Int.le_refl _
    split at hx
    ·rw [List.mem_singleton] at hx;subst hx;exact Int.le_refl _
    split at hx
    ·rw [List.mem_singleton] at hx;subst hx;exact Int.le_refl _
    split at hx
    ·rcases List.mem_cons.1 hx with hx|hx
     ·subst hx;show S.j<=S.j+0;omega
     ·rw [List.mem_singleton] at hx;subst hx;show S.j<=S.j+1;omega
    ·cases hx
   refine ya2 fun x hx=>ye8 (fun S' _=>j0<=S'.j/\k0<=S'.k) (fun S' b ⟨g1,g2⟩ _ _ y hy=>⟨Int.le_trans g1 (bj S' b y hy),by rw [br_k hy];exact g2⟩) (fun S' b ⟨g1,g2⟩ _=>yhj h B S' g1 g2) ⟨Int.le_trans h1 (bj S.cr a x hx),by rw [br_k hx];show k0<=S.k+1;omega⟩
theorem yi4 {D:Sh} {X X':Int->Int->Nat->Int} {k0:Nat} (h: ∀i j k,0<=j->k0+1<=k->X i j k=X' i j k) {b:Nat} (B:List Nat) {st:Nat->Nat}:run X D (b::B) (Z0 st k0)=run X' D (b::B) (Z0 st k0):=by
 show wk1 D (Z0 st k0).cr b (run X D B)=wk1 D (Z0 st k0).cr b (run X' D B)
 have: ∀X,wk1 D (Z0 st k0).cr b (run X D B)=run X D (b::B) (Z0 st k0):=fun _=>rfl
 unfold wk1
 have bj: ∀(S:WS) (b:Nat),∀x∈br D S b,S.j<=x.2.1.j:=fun S b x hx=>by
  unfold br at hx
  split at hx
  ·cases hx
  split at hx
  ·rw [List.mem_singleton] at hx;subst hx;exact Int.le_refl _
  split at hx
  ·rw [List.mem_singleton] at hx;subst hx;exact Int.le_refl _
  split at hx
  ·rw [List.mem_singleton] at hx;subst hx;exact Int.le_refl _
  split at hx
  ·rw [List.mem_singleton] at hx;subst hx;exact Int.le_refl _
  split at hx
  ·rcases List.mem_cons.1 hx with hx|hx
   ·subst hx;show S.j<=S.j+0;omega
   ·rw [List.mem_singleton] at hx;subst hx;show S.j<=S.j+1;omega
  ·cases hx
 refine ya2 fun x hx=>ye8 (fun S' _=>0<=S'.j/\k0+1<=S'.k) (fun S' b ⟨g1,g2⟩ _ _ y hy=>⟨Int.le_trans g1 (bj S' b y hy),by rw [br_k hy];exact g2⟩) (fun S' b ⟨g1,g2⟩ _=>yhj h B S' g1 g2) ⟨Int.le_trans (show 0<=(Z0 st k0).cr.j from Int.le_refl _) (bj _ b x hx),by rw [br_k hx];exact Nat.le_refl _⟩
theorem ykx {D:Sh} {X:Int->Int->Nat->Int} (l:Nat): ∀(B:List Nat) (S:WS),run X D B {S with k:=S.k+l}=run (fun i j k=>X i j (k+l)) D B S
 |[],S=>rfl
 |a::B,S=>by
  show (if S.vis a=true then _ else wk1 D {S with k:=S.k+l+1} a (run X D B))=if S.vis a=true then _ else wk1 D S.cr a _
  split
  ·exact ykx l B S
  ·have e: ∀(T:WS) (b:Nat),br D {T with k:=T.k+l} b=(br D T b).map (mapS fun T=>{T with k:=T.k+l}):=fun T b=>by
    unfold br
    show (if _ then _ else if T.st (b/2)=2 then _ else if T.st (b/2)=3 then _ else if T.st (b/2)=5 then _ else if T.st (b/2)=b % 2 then _ else if T.st (b/2)=1-b % 2 then _ else _)=_
    split
    ·rfl
    split
    ·rfl
    split
    ·rfl
    split
    ·rfl
    split
    ·rfl
    split
    ·rfl
    ·rfl
   have e1:({S with k:=S.k+l+1}:WS)={S.cr with k:=S.cr.k+l}:=by
    show WS.mk _ _ _ _ _=WS.mk _ _ _ _ _
    congr 1
    show S.k+l+1=S.k+1+l
    omega
   rw [e1]
   unfold wk1
   rw [e,yg6]
   refine ya2 fun x _=>?_
   rw [ypp (fun T=>{T with k:=T.k+l}) (fun T b _=>rfl) (fun T b _ _=>e T b)]
   congr 1
   funext T b
   exact ykx l B T
theorem yky {D:Sh} (B:List Nat) (S:WS):Lin (fun X:Int×Int×Nat->Int=>run (fun i j k=>X (i,j,k)) D B S):=by
 constructor
 ·intro f g
  have key: ∀(B:List Nat) (S:WS),run (fun i j k=>f (i,j,k)+g (i,j,k)) D B S=run (fun i j k=>f (i,j,k)) D B S+run (fun i j k=>g (i,j,k)) D B S:=fun B=>by
   induction B with
   |nil=>intro S;rfl
   |cons a B ih=>
    intro S
    show (if S.vis a=true then _ else wk1 D S.cr a _)=(if S.vis a=true then _ else wk1 D S.cr a _)+(if S.vis a=true then _ else wk1 D S.cr a _)
    split
    ·exact ih S
    ·rw [←yn0];congr 1;funext T;exact ih T
  exact key B S
 ·intro c f
  have key: ∀(B:List Nat) (S:WS),run (fun i j k=>c*f (i,j,k)) D B S=c*run (fun i j k=>f (i,j,k)) D B S:=fun B=>by
   induction B with
   |nil=>intro S;rfl
   |cons a B ih=>
    intro S
    show (if S.vis a=true then _ else wk1 D S.cr a _)=c*(if S.vis a=true then _ else wk1 D S.cr a _)
    split
    ·exact ih S
    ·rw [←yn1];congr 1;funext T;exact ih T
  exact key B S
theorem Lin.sm {P:Type} {F:(P->Int)->Int} (h:Lin F) (f:Nat->P->Int): ∀n,F (fun p=>sm (fun t=>f t p) n)=Go.Proofs.YtjpnnnognoaaiaaGreatDoor.sm (fun t=>F (f t)) n
 |0=>h.zero
 |n+1=>by
  show F (fun p=>Go.Proofs.YtjpnnnognoaaiaaGreatDoor.sm (fun t=>f t p) n+f n p)=Go.Proofs.YtjpnnnognoaaiaaGreatDoor.sm (fun t=>F (f t)) n+F (f n)
  rw [h.add,Lin.sm h f n]
theorem sm_0: ∀n,sm (fun _=>0) n=0
 |0=>rfl
 |n+1=>by show sm (fun _=>0) n+0=0;rw [sm_0 n];rfl
theorem HF_sum {s1 m1 s2 m2:List Int} {l1 l2:Nat} (h1:yaf s1 m1 l1=true) (h2:yaf s2 m2 l2=true) (hn:s1.length+s2.length<=64) (hL:(l1:Int)+l2<=64) {x y:Nat} (hx:x<4*s1.length) (hy:y<4*s2.length) (ox:outB s1 (x:Int)=true) (oy:outB s2 (y:Int)=true) (p:Nat):
  HF (Xc p) (s1++s2) (csM m1 m2 x y) ((l1:Int)+l2)=sm (fun t=>HF (Xc t) s1 m1 l1*HF (Xc ((p:Int)-t)) s2 m2 l2) (p+1):=by
 have v1:=yal h1
 have v2:=yal h2
 have hv:=yr9 h1 h2 hn hL hx hy ox oy
 have T:=y8g h1 h2 hn hL hx hy ox oy
 have k1:=ybo v1
 have k2:=ybo v2
 have hsl:(s1++s2).length=s1.length+s2.length:=by simp
 have hxo:cod x<2*s1.length:=by unfold cod;omega
 have hyo:cod y<2*s2.length:=by unfold cod;omega
 have n1:=k1.lt _ hxo
 have n2:=k2.lt _ hyo
 have n1':(shD s1 m1).nx (cod x)<2*s1.length:=n1
 have n2':(shD s2 m2).nx (cod y)<2*s2.length:=n2
 have hk:((l1:Int)+l2).toNat=l1+l2:=by omega
 have e0:HF (Xc p) (s1++s2) (csM m1 m2 x y) ((l1:Int)+l2)=run (Xc p) (shD (s1++s2) (csM m1 m2 x y)) (List.range (2*(s1++s2).length)) (Z0 (fun _=>1) (l1+l2)):=by unfold HF;rw [hk]
 rw [e0]
 have hcov:Cov (shD (s1++s2) (csM m1 m2 x y)) ((shD s1 m1).nx (cod x)::List.range (2*s1.length)++(List.range (2*s2.length)).map fun a=>2*(shD s1 m1).n+a) (Z0 (fun _=>1) (l1+l2)):=by
  have en:(shD (s1++s2) (csM m1 m2 x y)).n=s1.length+s2.length:=hsl
  have e1:(shD s1 m1).n=s1.length:=rfl
  refine ⟨fun a ha=>?_,fun a ha _=>?_⟩
  ·rw [en]
   rcases List.mem_append.1 ha with h|h
   ·rcases List.mem_cons.1 h with h|h
    ·omega
    ·have:=List.mem_range.1 h;omega
   ·obtain ⟨b,hb,rfl⟩:=List.mem_map.1 h
    have:=List.mem_range.1 hb;omega
  ·rw [en] at ha
   by_cases h:a<2*s1.length
   ·exact List.mem_append_left _ (.tail _ (List.mem_range.2 h))
   ·exact List.mem_append_right _ (List.mem_map.2 ⟨a-2*s1.length,List.mem_range.2 (by omega),by omega⟩)
 have e1:=ord (ybo (yal hv)) (yfr hv) (ygn p) (yfh _ (fun _=> .inl (Nat.le_refl _)) _) (yel (shD (s1++s2) (csM m1 m2 x y)) (fun _=>1) (l1+l2)) hcov
 refine e1.trans ?_
 refine (y6s k1 k2 T hxo (Xc p) (L1:=List.range (2*s1.length)) (L2:=List.range (2*s2.length)) (fun a ha=>List.mem_range.1 ha) (fun a ha=>List.mem_range.1 ha) (S:=Z0 (fun _=>1) (l1+l2)) (S1:=Z0 (fun _=>1) 0) (S2:=Z0 (fun _=>1) (l1+l2)) ⟨fun _ _=>rfl,fun _=>rfl,fun _ _=>rfl,fun _=>rfl,rfl,rfl,by show l1+l2=0+(l1+l2);omega⟩ rfl rfl ⟨rfl,rfl,rfl⟩ ⟨rfl,rfl⟩).trans ?_
 have c1: ∀t:Int,HF (Xc t) s1 m1 l1=run (fun i j k=>Xc t i j (k+l1)) (shD s1 m1) ((shD s1 m1).nx (cod x)::List.range (2*s1.length)) (Z0 (fun _=>1) 0):=fun t=>by
  unfold HF
  rw [Int.toNat_natCast]
  have:=ykx (D:=shD s1 m1) (X:=Xc t) l1 ((shD s1 m1).nx (cod x)::List.range (2*s1.length)) (Z0 (fun _=>1) 0)
  rw [←this]
  have e:({Z0 (fun _=>1) 0 with k:=(Z0 (fun _=>1) 0).k+l1}:WS)=Z0 (fun _=>1) l1:=by
   show WS.mk _ _ _ _ _=WS.mk _ _ _ _ _
   congr 1;show 0+l1=l1;omega
  rw [e]
  refine ord k1 (yfr h1) (ygn t) (yfh _ (fun _=> .inl (Nat.le_refl _)) _) (yel (shD s1 m1) _ _) ⟨fun a ha=>?_,fun a ha _=> .tail _ (List.mem_range.2 ha)⟩
  rcases List.mem_cons.1 ha with h|h
  ·rw [h];exact n1
  ·exact List.mem_range.1 h
 have c2: ∀t:Int,HF (Xc t) s2 m2 l2=run (fun i j k=>Xc t i j (k+l2)) (shD s2 m2) ((shD s2 m2).nx (cod y)::List.range (2*s2.length)) (Z0 (fun _=>1) 0):=fun t=>by
  unfold HF
  rw [Int.toNat_natCast]
  have:=ykx (D:=shD s2 m2) (X:=Xc t) l2 ((shD s2 m2).nx (cod y)::List.range (2*s2.length)) (Z0 (fun _=>1) 0)
  rw [←this]
  have e:({Z0 (fun _=>1) 0 with k:=(Z0 (fun _=>1) 0).k+l2}:WS)=Z0 (fun _=>1) l2:=by
   show WS.mk _ _ _ _ _=WS.mk _ _ _ _ _
   congr 1;show 0+l2=l2;omega
  rw [e]
  refine ord k2 (yfr h2) (ygn t) (yfh _ (fun _=> .inl (Nat.le_refl _)) _) (yel (shD s2 m2) _ _) ⟨fun a ha=>?_,fun a ha _=> .tail _ (List.mem_range.2 ha)⟩
  rcases List.mem_cons.1 ha with h|h
  ·rw [h];exact n2
  ·exact List.mem_range.1 h
 have st: ∀i j k,0<=j->0+1<=k->run (fun i' j' k'=>Xc p (i+i') (j+j') (k+k'-1)) (shD s2 m2) ((shD s2 m2).nx (cod y)::List.range (2*s2.length)) (Z0 (fun _=>1) (l1+l2))=sm (fun t=>Xc t i j (k+l1)*HF (Xc ((p:Int)-t)) s2 m2 l2) (p+1):=fun i j k hj hk=>by
  have e0:Z0 (fun _=>1) (l1+l2)={Z0 (fun _=>1) 0 with k:=(Z0 (fun _=>1) 0).k+(l1+l2)}:=by
   show WS.mk _ _ _ _ _=WS.mk _ _ _ _ _
   congr 1;show l1+l2=0+(l1+l2);omega
  rw [e0,ykx]
  have e2:run (fun i' j' k'=>Xc p (i+i') (j+j') (k+(k'+(l1+l2))-1)) (shD s2 m2) ((shD s2 m2).nx (cod y)::List.range (2*s2.length)) (Z0 (fun _=>1) 0)=run (fun i' j' k'=>sm (fun t=>Xc t i j (k+l1)*Xc ((p:Int)-t) i' j' (k'+l2)) (p+1)) (shD s2 m2) ((shD s2 m2).nx (cod y)::List.range (2*s2.length)) (Z0 (fun _=>1) 0):=by
   refine yi4 (fun i' j' k' hj' hk'=>?_) _
   by_cases hkk:k+l1=1/\k'+l2=1
   ·by_cases hjp:j<=p
    ·obtain ⟨t,rfl⟩: ∃t:Nat,j=t:=⟨j.toNat,by omega⟩
     rw [ym7 (a:=t) (by omega) fun u _ hu=>?_]
     ·unfold Xc
      rw [if_pos (c:=k+l1=1/\(t:Int)=t) ⟨hkk.1,rfl⟩,Int.one_mul]
      have:(k+(k'+(l1+l2))-1=1/\(t:Int)+j'=p)↔(k'+l2=1/\j'=(p:Int)-t):=by omega
      simp only [this]
     ·unfold Xc
      rw [if_neg (c:=k+l1=1/\(t:Int)=u) (by omega),Int.zero_mul]
    ·rw [show sm (fun t=>Xc t i j (k+l1)*Xc ((p:Int)-t) i' j' (k'+l2)) (p+1)=sm (fun _=>0) (p+1) from ycc fun t ht=>by
      unfold Xc
      rw [if_neg (c:=k+l1=1/\j=(t:Int)) (by omega),Int.zero_mul]]
     rw [sm_0]
     unfold Xc
     exact if_neg (by omega)
   ·rw [show sm (fun t=>Xc t i j (k+l1)*Xc ((p:Int)-t) i' j' (k'+l2)) (p+1)=sm (fun _=>0) (p+1) from ycc fun t ht=>by
     unfold Xc
     by_cases h:k+l1=1
     ·rw [if_neg (c:=k'+l2=1/\j'=(p:Int)-t) (by omega),Int.mul_zero]
     ·rw [if_neg (c:=k+l1=1/\j=(t:Int)) (by omega),Int.zero_mul]]
    rw [sm_0]
    unfold Xc
    exact if_neg (by omega)
  rw [e2]
  have hl:=yky (D:=shD s2 m2) ((shD s2 m2).nx (cod y)::List.range (2*s2.length)) (Z0 (fun _=>1) 0)
  rw [hl.sm (fun t (q:Int×Int×Nat)=>Xc t i j (k+l1)*Xc ((p:Int)-t) q.1 q.2.1 (q.2.2+l2)) (p+1)]
  refine ycc fun t _=>?_
  refine (hl.mul (Xc t i j (k+l1)) fun q=>Xc ((p:Int)-t) q.1 q.2.1 (q.2.2+l2)).trans ?_
  rw [c2]
 rw [yi4 st]
 have hl:=yky (D:=shD s1 m1) ((shD s1 m1).nx (cod x)::List.range (2*s1.length)) (Z0 (fun _=>1) 0)
 rw [hl.sm (fun t (q:Int×Int×Nat)=>Xc t q.1 q.2.1 (q.2.2+l1)*HF (Xc ((p:Int)-t)) s2 m2 l2) (p+1)]
 refine ycc fun t _=>?_
 have:(fun q:Int×Int×Nat=>Xc t q.1 q.2.1 (q.2.2+l1)*HF (Xc ((p:Int)-t)) s2 m2 l2)=fun q=>HF (Xc ((p:Int)-t)) s2 m2 l2*Xc t q.1 q.2.1 (q.2.2+l1):=by funext q;rw [Int.mul_comm]
 rw [this]
 refine (hl.mul (HF (Xc ((p:Int)-t)) s2 m2 l2) fun q=>Xc t q.1 q.2.1 (q.2.2+l1)).trans ?_
 rw [c1,Int.mul_comm]
end Hs
end Go.Proofs.YtjpnnnognoaaiaaGreatDoor
