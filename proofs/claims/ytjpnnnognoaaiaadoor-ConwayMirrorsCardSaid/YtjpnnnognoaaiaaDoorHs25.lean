/- Plain: all crossings switched. -/
import Derived.Test.YtjpnnnognoaaiaaDoorHs24
namespace Go.Proofs.YtjpnnnognoaaiaaDoor
set_option linter.unusedSimpArgs false
set_option linter.unusedVariables false
namespace Hs
open Sp (Sph siD PermN itn)
section
variable {D:Sh} {X:Int->Int->Nat->Int}
def SkR (D:Sh) (F:WS->Int):Prop:= ∀(S:WS) (x:Nat),Bd D S->x<D.n->S.st x<=1->F ((S.sx x (pq D x)).sc (-1) 0)=F ((S.sx x (nq D x)).sc 1 0)+F ((S.sx x 5).sc 0 1)
theorem yzl {F G:WS->Int} (hF:SkR D F) (hG:SkR D G) {S:WS} (hB:Bd D S) (IH: ∀S',Bd D S'->S'.vis=S.vis->rl S' D.n<rl S D.n->F S'=G S') {g:Nat->Nat} (hg: ∀c,g c<=1)
  (h: ∀u v,F ((S.asN g D.n).sc u v)=G ((S.asN g D.n).sc u v)):F S=G S:=by
 have key: ∀d,d<=D.n-> ∀u v,F ((S.asN g (D.n-d)).sc u v)=G ((S.asN g (D.n-d)).sc u v):=fun d=>by
  induction d with
  |zero=>exact fun _=>h
  |succ d ih=>
   intro hd
   have ih:=ih (by omega)
   obtain ⟨m,hm⟩: ∃m,m=D.n-(d+1):=⟨_,rfl⟩
   rw [show D.n-d=m+1 by omega] at ih
   rw [←hm]
   have hmn:m<D.n:=by omega
   by_cases hs:S.st m<=1
   ·have e1:(S.asN g (m+1))=(S.asN g m).sx m (g m):=by
     unfold WS.asN WS.sx
     congr 1
     funext c
     show (if c<m+1/\S.st c<=1 then g c else S.st c)=if c=m then g m else if c<m/\S.st c<=1 then g c else S.st c
     by_cases hc:c=m
     ·subst hc;rw [if_pos rfl,if_pos ⟨by omega,hs⟩]
     ·rw [if_neg hc]
      by_cases h3:c<m/\S.st c<=1
      ·rw [if_pos ⟨by omega,h3.2⟩,if_pos h3]
      ·rw [if_neg h3,if_neg (by omega)]
    have e2:(S.asN g m)=(S.asN g m).sx m (S.st m):=by
     unfold WS.asN WS.sx
     congr 1
     funext c
     unfold upd
     by_cases hc:c=m
     ·subst hc;rw [if_pos rfl,if_neg (by omega)]
     ·rw [if_neg hc]
    have hT:Bd D (S.asN g m):=yrc hB hg m
    have hst:(S.asN g m).st m=S.st m:=if_neg (by omega)
    rw [e1] at ih
    generalize hTe:S.asN g m=T at*
    have hvis:T.vis=S.vis:=by rw [←hTe];rfl
    have h5: ∀u v,F ((T.sx m 5).sc u v)=G ((T.sx m 5).sc u v):=fun u v=>by
     refine IH _ ((ykt hT (by rw [hst];exact hs) (.inr rfl)).sc u v) hvis ?_
     refine ynd (S':=(T.sx m 5).sc u v) (x:=m) (fun c hc=>?_) hs (by show¬upd T.st m 5 m<=1;rw [yad];omega) D.n hmn
     have hc':upd T.st m 5 c<=1:=hc
     by_cases e:c=m
     ·rw [e];exact hs
     ·rw [yaf _ _ e,←hTe] at hc'
      have hc'':(if c<m/\S.st c<=1 then g c else S.st c)<=1:=hc'
      by_cases h3:c<m/\S.st c<=1
      ·exact h3.2
      ·rwa [if_neg h3] at hc''
    have sk: ∀(F:WS->Int),SkR D F-> ∀u v,F ((T.sx m (pq D m)).sc (u-1) v)=F ((T.sx m (nq D m)).sc (u+1) v)+F ((T.sx m 5).sc u (v+1)):=fun F hF u v=>by
     have:=hF (T.sc u v) m (hT.sc u v) hmn (by show T.st m<=1;rw [hst];exact hs)
     simp only [WS.sc_sx,WS.sc_sc,Int.add_zero] at this
     exact this
    have hpn:(g m=pq D m/\S.st m=nq D m)\/(g m=nq D m/\S.st m=pq D m)\/g m=S.st m:=by
     have:=hg m
     unfold pq nq
     split<;>omega
    intro u v
    rw [e2]
    rcases hpn with ⟨a1,a2⟩|⟨a1,a2⟩|a1
    ·rw [a2]
     rw [a1] at ih
     have s1:=sk F hF (u-1) v
     have s2:=sk G hG (u-1) v
     rw [ih,h5,s2] at s1
     rw [show u-1+1=u by omega] at s1
     omega
    ·rw [a2]
     rw [a1] at ih
     have s1:=sk F hF (u+1) v
     have s2:=sk G hG (u+1) v
     rw [ih,h5,←s2] at s1
     rw [show u+1-1=u by omega] at s1
     exact s1
    ·rw [←a1];exact ih u v
   ·have e1:S.asN g (m+1)=S.asN g m:=by
     unfold WS.asN
     congr 1
     funext c
     by_cases hc:c=m
     ·subst hc;rw [if_neg (by omega),if_neg (by omega)]
     ·by_cases h3:c<m/\S.st c<=1
      ·rw [if_pos h3,if_pos ⟨by omega,h3.2⟩]
      ·rw [if_neg h3,if_neg (by omega)]
    rw [e1] at ih;exact ih
 have:=key D.n (Nat.le_refl _) 0 0
 rw [Nat.sub_self,WS.sc_zero] at this
 have e:S.asN g 0=S:=WS.ext' (fun a=>by
  show (if a/2<0/\S.st (a/2)<=1 then g (a/2) else S.st (a/2))=_
  exact if_neg fun h=>by omega) rfl rfl rfl rfl
 rwa [e] at this
def par (j:Int):Int:=if j % 2=0 then 1 else-1
theorem yma (j:Int):par (j+1)= -par j:=by unfold par;split<;>split<;>omega
def Xf (X:Int->Int->Nat->Int) (i j:Int) (k:Nat):Int:=par j*X (-i) j k
theorem y51 (hX:Good X):Good (Xf X):=fun i j k hk=>by
 have:=hX (-i) j k hk
 unfold Xf
 rw [yma,show-(i-1)= -i+1 by omega,show-(i+1)= -i-1 by omega,Int.neg_mul]
 rw [this,Int.mul_add];omega
def flS (S:WS):WS:={S with st:=fun c=>if S.st c<=1 then 1-S.st c else S.st c,i:= -S.i}
theorem ysb {S:WS} (hB:Bd D S):Bd D (flS S):=hB.chg rfl fun c=>by
 show (_/\((if _ then _ else _)<=1\/_))\/(if _ then _ else _)=_
 by_cases h:S.st c<=1
 ·rw [if_pos h];exact .inl ⟨h, .inl (by omega)⟩
 ·rw [if_neg h];exact .inr rfl
theorem y7u (S:WS):sm0 (flS S)=sm0 S:=funext fun c=>by
 unfold sm0
 refine decide_eq_decide.2 ?_
 show ((if S.st c<=1 then 1-S.st c else S.st c)=5\/(if S.st c<=1 then 1-S.st c else S.st c)=2)↔_
 split<;>omega
theorem y7v (K sm:Nat->Bool) (S:WS):TK K sm (flS S)=flS (TK K sm S):=by
 refine WS.ext' (fun b=>?_) rfl rfl rfl rfl
 show _=if (TK K sm S).st (b/2)<=1 then 1-(TK K sm S).st (b/2) else (TK K sm S).st (b/2)
 rw [ybl,ybl]
 show (if K b&&K (co b) then 4 else if K (co b) then (if S.vis b then 4 else if sm (b/2) then 2 else 3) else if K b then (if S.vis (co b) then 4 else if sm (b/2) then 2 else 3) else (if S.st (b/2)<=1 then 1-S.st (b/2) else S.st (b/2)))=_
 cases K b<;>cases K (co b)<;>cases S.vis b<;>cases S.vis (co b)<;>cases sm (b/2)<;>simp
theorem yzm (S:WS) (x q:Nat) (hq:q<=1) (u v:Int):flS ((S.sx x q).sc u v)=((flS S).sx x (1-q)).sc (-u) v:=by
 refine WS.ext' (fun b=>?_) rfl ?_ rfl rfl
 ·show (if upd S.st x q (b/2)<=1 then 1-upd S.st x q (b/2) else upd S.st x q (b/2))=upd (fun c=>if S.st c<=1 then 1-S.st c else S.st c) x (1-q) (b/2)
  by_cases e:b/2=x
  ·rw [e,yad,yad,if_pos hq]
  ·rw [yaf _ _ e,yaf _ _ e]
 ·show-(S.i+u)= -S.i+ -u;omega
theorem y7w (S:WS) (x:Nat) (u v:Int):flS ((S.sx x 5).sc u v)=((flS S).sx x 5).sc (-u) v:=by
 refine WS.ext' (fun b=>?_) rfl ?_ rfl rfl
 ·show (if upd S.st x 5 (b/2)<=1 then 1-upd S.st x 5 (b/2) else upd S.st x 5 (b/2))=upd (fun c=>if S.st c<=1 then 1-S.st c else S.st c) x 5 (b/2)
  by_cases e:b/2=x
  ·rw [e,yad,yad];rfl
  ·rw [yaf _ _ e,yaf _ _ e]
 ·show-(S.i+u)= -S.i+ -u;omega
theorem yk0 (hD:Ok D) {B:List Nat} (hL: ∀x,x<D.n->2*x∈B):SkR D (run X D B):=fun S x hB hx h=>yhh hx (hD.sg x hx) B S (unm hB hx h).1 (unm hB hx h).2 (hL x hx)
theorem y2d (hD:Ok D) {B:List Nat} (hL: ∀x,x<D.n->2*x∈B):SkR D (fun S=>par S.j*run X D B (flS S)):=fun S x hB hx h=>by
 have hsx: ∀q u v,((S.sx x q).sc u v).j=S.j+v:=fun _ _ _=>rfl
 have h1:=yk0 (X:=X) hD hL (flS S) x (ysb hB) hx (by show (if S.st x<=1 then 1-S.st x else S.st x)<=1;rw [if_pos h];omega)
 have hp:pq D x<=1/\nq D x<=1/\1-pq D x=nq D x/\1-nq D x=pq D x:=by unfold pq nq;split<;>omega
 obtain ⟨p1,p2,p3,p4⟩:=hp
 simp only [hsx]
 rw [yzm _ _ _ p1,yzm _ _ _ p2,y7w,p3,p4,yma,Int.add_zero,show-(-1:Int)=1 by omega,show-(0:Int)=0 by omega,h1,Int.mul_add,Int.neg_mul]
 omega
theorem flip (hD:Ok D) {al:Nat->Nat} (hP:Pla D al) (hX:Good X) {S:WS} {B:List Nat} (hB:Bd D S) (hC:Cov D B S):run (Xf X) D B S=par S.j*run X D B (flS S):=by
 have fle: ∀S:WS,fu D S<=2*D.n:=fun S=>by
  have: ∀k,unv S.vis k<=k:=fun k=>by
   induction k with
   |zero=>exact Nat.le_refl _
   |succ k ih=>simp only [unv];split<;>omega
  exact this _
 have key: ∀m (S:WS) (B:List Nat),rl S D.n*(2*D.n+1)+fu D S<m->Bd D S->Cov D B S->run (Xf X) D B S=par S.j*run X D B (flS S):=fun m=>by
  induction m with
  |zero=>intro _ _ h;omega
  |succ m ih=>
   intro S B hm hB hC
   have IH: ∀S' B,Bd D S'->(rl S' D.n<rl S D.n\/(rl S' D.n<=rl S D.n/\fu D S'<fu D S))->Cov D B S'->run (Xf X) D B S'=par S'.j*run X D B (flS S'):=fun S' B hB' hl c1=>by
    refine ih S' B ?_ hB' c1
    have:=fle S'
    rcases hl with h|⟨h,h'⟩
    ·have:(rl S' D.n+1)*(2*D.n+1)<=rl S D.n*(2*D.n+1):=Nat.mul_le_mul_right _ h
     rw [Nat.add_mul,Nat.one_mul] at this
     omega
    ·have:rl S' D.n*(2*D.n+1)<=rl S D.n*(2*D.n+1):=Nat.mul_le_mul_right _ h
     omega
   rcases yg4 (X:=X) (D:=D) B S with h|⟨b,_,b1,_,b3,_,_⟩
   ·rw [ye4 B S h,ye4 B (flS S) h]
    show par S.j*X (-S.i) S.j S.k=_
    rfl
   ·have hb:=hC.lt b b1
    have kR: ∀c,c<2*D.n-> ∀S,Cov D (c::List.range (2*D.n)) S:=fun c hc S=>⟨fun a ha=>by
     rcases List.mem_cons.1 ha with rfl|ha
     ·exact hc
     ·exact List.mem_range.1 ha,fun a ha _=>by simp [ha]⟩
    have hL: ∀x,x<D.n->2*x∈b::List.range (2*D.n):=fun x hx=> .tail _ (List.mem_range.2 (by omega))
    rw [ord hD hP (y51 hX) hB hC (kR b hb S),ord hD hP hX (ysb hB) ⟨hC.lt,hC.all⟩ (kR b hb (flS S))]
    obtain ⟨l,C,hun,_,_⟩:=circ hD hB hb b3
    refine yzl (F:=run (Xf X) D (b::List.range (2*D.n))) (G:=fun S=>par S.j*run X D (b::List.range (2*D.n)) (flS S)) (yk0 hD hL) (y2d hD hL) hB (fun S' hB' hv hr=>IH S' _ hB' (.inl hr) (kR b hb S')) (yku S l (t:=1) (by omega)) fun u v=>?_
    obtain ⟨p1,p2,p3⟩:=yh2 (t:=1) (by omega) hB C hun
    have es:sm0 (put D S l 1)=sm0 S:=yj3 (by omega)
    have hr1: ∀a,(fun b=>if (1:Nat)=0 then co b % 2 else b % 2) a=a % 2:=fun a=>if_neg (by omega)
    have e1:=yvs hD hP C (p3.ord C.ty) hr1 (p1.sc u v) (p2.sc u v) (Xf X) (List.range (2*D.n))
    show run (Xf X) D (b::List.range (2*D.n)) ((put D S l 1).sc u v)=par ((put D S l 1).sc u v).j*run X D (b::List.range (2*D.n)) (flS ((put D S l 1).sc u v))
    rw [e1]
    have hbd:=yvr hD C (p3.ord C.ty) (fun a=>by show (if (1:Nat)=0 then co a % 2 else a % 2)<=1;split<;>omega) (p1.sc u v) (p2.sc u v)
    have h2:=IH (TK (kOf l) (sm0 S) ((put D S l 1).sc u v)).cr (List.range (2*D.n)) hbd.cr (.inr ⟨?_,?_⟩) ⟨fun a ha=>List.mem_range.1 ha,fun a ha _=>List.mem_range.2 ha⟩
    ·rw [h2]
     show par ((put D S l 1).sc u v).j*_=par ((put D S l 1).sc u v).j*_
     congr 1
     have hfB:=ysb (p1.sc u v)
     have efs:sm0 (flS ((put D S l 1).sc u v))=sm0 S:=by rw [y7u];exact es
     have hq:QK D (kOf l) (sm0 S) (fun b=>co b % 2) (flS ((put D S l 1).sc u v)).st l (flS ((put D S l 1).sc u v)) D.n:=by
      have:=QK.of (r:=fun b=>co b % 2) hfB (by rw [efs];exact C) hun fun c hc k1 k2 k3=>by
       have e:=p2.q c hc k1 k2 (by omega)
       have hv2:(put D S l 1).vis (co c)=false:=hun _ k2
       rw [hv2] at e
       have k3':(if (put D S l 1).st (c/2)<=1 then 1-(put D S l 1).st (c/2) else (put D S l 1).st (c/2))<=1:=k3
       show (if (put D S l 1).st (c/2)<=1 then 1-(put D S l 1).st (c/2) else (put D S l 1).st (c/2))=co c % 2
       have hcm:=ydn c
       have hle:(put D S l 1).st (c/2)<=1:=by
        by_cases h:(put D S l 1).st (c/2)<=1
        ·exact h
        ·rw [if_neg h] at k3';exact absurd k3' h
       rw [if_pos hle,hcm]
       rw [e] at hle⊢
       revert hle
       unfold tab
       cases sm0 S (c/2)<;>cases (put D S l 1).vis c<;>simp
      rwa [efs] at this
     have hM:Mx (sm0 S) (flS ((put D S l 1).sc u v)).st l 0:=fun a ha hsub=>by
      have e:=p3 a ha hsub
      show (if (put D S l 1).st (a/2)<=1 then 1-(put D S l 1).st (a/2) else (put D S l 1).st (a/2))=_
      rw [e,if_pos (by omega),List.take_zero,if_neg (by simp),ydn]
     have:=mixed (X:=X) hD hP hX _ l.length (flS ((put D S l 1).sc u v)) b l (List.range (2*D.n)) (Nat.le_refl _) (Nat.le_refl _) hfB (by rw [efs];exact C) hun (by rw [efs];exact hq) (by rw [efs,Nat.sub_self];exact hM) (fun c hc=>kR c hc _)
     rw [this,efs,y7v];rfl
    ·refine Nat.le_trans (ycv (S:=put D S l 1) (S':=(TK (kOf l) (sm0 S) ((put D S l 1).sc u v)).cr) (fun c h=>?_) D.n) (yre S)
     have h':(TK (kOf l) (sm0 S) ((put D S l 1).sc u v)).st c<=1:=h
     exact ypp h'
    ·exact yvt (S:=(put D S l 1).sc u v) (sm:=sm0 S) hb C.hd b3
 exact key _ S B (Nat.lt_succ_self _) hB hC
end
end Hs
end Go.Proofs.YtjpnnnognoaaiaaDoor
