/- Plain: all crossings switched. -/
import Derived.Test.YtjpbeacamoijhaaGreatDoorHs24
namespace Go.Proofs.YtjpbeacamoijhaaGreatDoor
set_option linter.unusedSimpArgs false
set_option linter.unusedVariables false
namespace Hs
open Sp (eY aV aw itn)
section
variable {D:Sh} {X:Int->Int->Nat->Int}
def DZ (D:Sh) (F:WS->Int):Prop:= ∀(S:WS) (x:Nat),Bd D S->x<D.n->S.st x<=1->F ((S.sx x (pq D x)).sc (-1) 0)=F ((S.sx x (nq D x)).sc 1 0)+F ((S.sx x 5).sc 0 1)
theorem Vl {F G:WS->Int} (hF:DZ D F) (hG:DZ D G) {S:WS} (hB:Bd D S) (IH: ∀S',Bd D S'->S'.ae=S.ae->rl S' D.n<rl S D.n->F S'=G S') {g:Nat->Nat} (hg: ∀c,g c<=1)
  (h: ∀u v,F ((S.jq g D.n).sc u v)=G ((S.jq g D.n).sc u v)):F S=G S:=by
 have key: ∀d,d<=D.n-> ∀u v,F ((S.jq g (D.n-d)).sc u v)=G ((S.jq g (D.n-d)).sc u v):=fun d=>by
  induction d with
  |zero=>exact fun _=>h
  |succ d ih=>
   intro hd;have ih:=ih (by omega);obtain ⟨m,hm⟩: ∃m,m=D.n-(d+1):=⟨_,rfl⟩;rw [show D.n-d=m+1 by omega] at ih;rw [←hm];have AF:m<D.n:=by omega
   by_cases hs:S.st m<=1
   ·have e1:(S.jq g (m+1))=(S.jq g m).sx m (g m):=by
     unfold WS.jq WS.sx;congr 1;funext c;show (if c<m+1/\S.st c<=1 then g c else S.st c)=if c=m then g m else if c<m/\S.st c<=1 then g c else S.st c;by_cases hc:c=m
     ·subst hc;rw [if_pos rfl,if_pos ⟨by omega,hs⟩]
     ·rw [if_neg hc];by_cases h3:c<m/\S.st c<=1
      ·rw [if_pos ⟨by omega,h3.2⟩,if_pos h3]
      ·rw [if_neg h3,if_neg (by omega)]
    have e2:(S.jq g m)=(S.jq g m).sx m (S.st m):=by
     unfold WS.jq WS.sx;congr 1;funext c;unfold aM;by_cases hc:c=m
     ·subst hc;rw [if_pos rfl,if_neg (by omega)]
     ·rw [if_neg hc]
    have hT:Bd D (S.jq g m):=KV hB hg m;have aR:(S.jq g m).st m=S.st m:=if_neg (by omega);rw [e1] at ih;generalize GL:S.jq g m=T at*;have wx:T.ae=S.ae:=by rw [←GL];rfl
    have h5: ∀u v,F ((T.sx m 5).sc u v)=G ((T.sx m 5).sc u v):=fun u v=>by
     refine IH _ ((CV hT (by rw [aR];exact hs) (.inr rfl)).sc u v) wx ?_;refine AX (S':=(T.sx m 5).sc u v) (x:=m) (fun c hc=>?_) hs (by show¬aM T.st m 5 m<=1;rw [bG];omega) D.n AF;have dh:aM T.st m 5 c<=1:=hc;by_cases e:c=m
     ·rw [e];exact hs
     ·rw [bt _ _ e,←GL] at dh;have Cm:(if c<m/\S.st c<=1 then g c else S.st c)<=1:=dh;by_cases h3:c<m/\S.st c<=1
      ·exact h3.2
      ·rwa [if_neg h3] at Cm
    have sk: ∀(F:WS->Int),DZ D F-> ∀u v,F ((T.sx m (pq D m)).sc (u-1) v)=F ((T.sx m (nq D m)).sc (u+1) v)+F ((T.sx m 5).sc u (v+1)):=fun F hF u v=>by
     have:=hF (T.sc u v) m (hT.sc u v) AF (by show T.st m<=1;rw [aR];exact hs)
     simp only [WS.tT,WS.bQ,Int.add_zero] at this;exact this
    have BV:(g m=pq D m/\S.st m=nq D m)\/(g m=nq D m/\S.st m=pq D m)\/g m=S.st m:=by
     have:=hg m
     unfold pq nq
     split<;>omega
    intro u v;rw [e2];rcases BV with ⟨a1,a2⟩|⟨a1,a2⟩|a1
    ·rw [a2];rw [a1] at ih;have s1:=sk F hF (u-1) v;have s2:=sk G hG (u-1) v;rw [ih,h5,s2] at s1;rw [show u-1+1=u by omega] at s1;omega
    ·rw [a2];rw [a1] at ih;have s1:=sk F hF (u+1) v;have s2:=sk G hG (u+1) v;rw [ih,h5,←s2] at s1;rw [show u+1-1=u by omega] at s1;exact s1
    ·rw [←a1];exact ih u v
   ·have e1:S.jq g (m+1)=S.jq g m:=by
     unfold WS.jq;congr 1;funext c;by_cases hc:c=m
     ·subst hc;rw [if_neg (by omega),if_neg (by omega)]
     ·by_cases h3:c<m/\S.st c<=1
      ·rw [if_pos h3,if_pos ⟨by omega,h3.2⟩]
      ·rw [if_neg h3,if_neg (by omega)]
    rw [e1] at ih;exact ih
 have:=key D.n (Nat.le_refl _) 0 0
 rw [Nat.sub_self,WS.bK] at this;have e:S.jq g 0=S:=WS.ext' (fun a=>by
  show (if a/2<0/\S.st (a/2)<=1 then g (a/2) else S.st (a/2))=_;exact if_neg fun h=>by omega) rfl rfl rfl rfl
 rwa [e] at this
def par (j:Int):Int:=if j % 2=0 then 1 else-1
theorem IU (j:Int):par (j+1)= -par j:=by unfold par;split<;>split<;>omega
def Xf (X:Int->Int->Nat->Int) (i j:Int) (k:Nat):Int:=par j*X (-i) j k
theorem Z9 (hX:Good X):Good (Xf X):=fun i j k hk=>by
 have:=hX (-i) j k hk
 unfold Xf;rw [IU,show-(i-1)= -i+1 by omega,show-(i+1)= -i-1 by omega,Int.neg_mul];rw [this,Int.mul_add];omega
def ij (S:WS):WS:={S with st:=fun c=>if S.st c<=1 then 1-S.st c else S.st c,i:= -S.i}
theorem KQ {S:WS} (hB:Bd D S):Bd D (ij S):=hB.G9 rfl fun c=>by
 show (_/\((if _ then _ else _)<=1\/_))\/(if _ then _ else _)=_;by_cases h:S.st c<=1
 ·rw [if_pos h];exact .inl ⟨h, .inl (by omega)⟩
 ·rw [if_neg h];exact .inr rfl
theorem Zb (S:WS):aq (ij S)=aq S:=funext fun c=>by
 unfold aq;refine decide_eq_decide.2 ?_;show ((if S.st c<=1 then 1-S.st c else S.st c)=5\/(if S.st c<=1 then 1-S.st c else S.st c)=2)↔_
 split<;>omega
theorem Za (K sm:Nat->Bool) (S:WS):TK K sm (ij S)=ij (TK K sm S):=by
 refine WS.ext' (fun b=>?_) rfl rfl rfl rfl;show _=if (TK K sm S).st (b/2)<=1 then 1-(TK K sm S).st (b/2) else (TK K sm S).st (b/2);rw [l9,l9];show (if K b&&K (co b) then 4 else if K (co b) then (if S.ae b then 4 else if sm (b/2) then 2 else 3) else if K b then (if S.ae (co b) then 4 else if sm (b/2) then 2 else 3) else (if S.st (b/2)<=1 then 1-S.st (b/2) else S.st (b/2)))=_
 cases K b<;>cases K (co b)<;>cases S.ae b<;>cases S.ae (co b)<;>cases sm (b/2)<;>simp
theorem Vk (S:WS) (x q:Nat) (hq:q<=1) (u v:Int):ij ((S.sx x q).sc u v)=((ij S).sx x (1-q)).sc (-u) v:=by
 refine WS.ext' (fun b=>?_) rfl ?_ rfl rfl
 ·show (if aM S.st x q (b/2)<=1 then 1-aM S.st x q (b/2) else aM S.st x q (b/2))=aM (fun c=>if S.st c<=1 then 1-S.st c else S.st c) x (1-q) (b/2);by_cases e:b/2=x
  ·rw [e,bG,bG,if_pos hq]
  ·rw [bt _ _ e,bt _ _ e]
 ·show-(S.i+u)= -S.i+ -u;omega
theorem Y9 (S:WS) (x:Nat) (u v:Int):ij ((S.sx x 5).sc u v)=((ij S).sx x 5).sc (-u) v:=by
 refine WS.ext' (fun b=>?_) rfl ?_ rfl rfl
 ·show (if aM S.st x 5 (b/2)<=1 then 1-aM S.st x 5 (b/2) else aM S.st x 5 (b/2))=aM (fun c=>if S.st c<=1 then 1-S.st c else S.st c) x 5 (b/2);by_cases e:b/2=x
  ·rw [e,bG,bG];rfl
  ·rw [bt _ _ e,bt _ _ e]
 ·show-(S.i+u)= -S.i+ -u;omega
theorem Iu (hD:Ok D) {B:List Nat} (hL: ∀x,x<D.n->2*x∈B):DZ D (run X D B):=fun S x hB hx h=>A1 hx (hD.sg x hx) B S (uD hB hx h).1 (uD hB hx h).2 (hL x hx)
theorem y4b (hD:Ok D) {B:List Nat} (hL: ∀x,x<D.n->2*x∈B):DZ D (fun S=>par S.j*run X D B (ij S)):=fun S x hB hx h=>by
 have BN: ∀q u v,((S.sx x q).sc u v).j=S.j+v:=fun _ _ _=>rfl;have h1:=Iu (X:=X) hD hL (ij S) x (KQ hB) hx (by show (if S.st x<=1 then 1-S.st x else S.st x)<=1;rw [if_pos h];omega);have hp:pq D x<=1/\nq D x<=1/\1-pq D x=nq D x/\1-nq D x=pq D x:=by unfold pq nq;split<;>omega
 obtain ⟨p1,p2,p3,p4⟩:=hp;simp only [BN];rw [Vk _ _ _ p1,Vk _ _ _ p2,Y9,p3,p4,IU,Int.add_zero,show-(-1:Int)=1 by omega,show-(0:Int)=0 by omega,h1,Int.mul_add,Int.neg_mul];omega
theorem flip (hD:Ok D) {al:Nat->Nat} (hP:qT D al) (hX:Good X) {S:WS} {B:List Nat} (hB:Bd D S) (hC:eI D B S):run (Xf X) D B S=par S.j*run X D B (ij S):=by
 have GV: ∀S:WS,fu D S<=2*D.n:=fun S=>by
  have: ∀k,unv S.ae k<=k:=fun k=>by
   induction k with
   |zero=>exact Nat.le_refl _
   |succ k ih=>simp only [unv];split<;>omega
  exact this _
 have key: ∀m (S:WS) (B:List Nat),rl S D.n*(2*D.n+1)+fu D S<m->Bd D S->eI D B S->run (Xf X) D B S=par S.j*run X D B (ij S):=fun m=>by
  induction m with
  |zero=>intro _ _ h;omega
  |succ m ih=>
   intro S B hm hB hC;have IH: ∀S' B,Bd D S'->(rl S' D.n<rl S D.n\/(rl S' D.n<=rl S D.n/\fu D S'<fu D S))->eI D B S'->run (Xf X) D B S'=par S'.j*run X D B (ij S'):=fun S' B iZ hl c1=>by
    refine ih S' B ?_ iZ c1
    have:=GV S'
    rcases hl with h|⟨h,h'⟩
    ·have:(rl S' D.n+1)*(2*D.n+1)<=rl S D.n*(2*D.n+1):=Nat.mul_le_mul_right _ h
     rw [Nat.add_mul,Nat.one_mul] at this;omega
    ·have:rl S' D.n*(2*D.n+1)<=rl S D.n*(2*D.n+1):=Nat.mul_le_mul_right _ h
     omega
   rcases EA (X:=X) (D:=D) B S with h|⟨b,_,b1,_,b3,_,_⟩
   ·rw [z7 B S h,z7 B (ij S) h];show par S.j*X (-S.i) S.j S.k=_;rfl
   ·have hb:=hC.lt b b1;have kR: ∀c,c<2*D.n-> ∀S,eI D (c::List.range (2*D.n)) S:=fun c hc S=>⟨fun a ha=>by
     rcases List.mem_cons.1 ha with rfl|ha
     ·exact hc
     ·exact List.mem_range.1 ha,fun a ha _=>by simp [ha]⟩
    have hL: ∀x,x<D.n->2*x∈b::List.range (2*D.n):=fun x hx=> .tail _ (List.mem_range.2 (by omega));rw [ord hD hP (Z9 hX) hB hC (kR b hb S),ord hD hP hX (KQ hB) ⟨hC.lt,hC.all⟩ (kR b hb (ij S))];obtain ⟨l,C,cS,_,_⟩:=u9 hD hB hb b3
    refine Vl (F:=run (Xf X) D (b::List.range (2*D.n))) (G:=fun S=>par S.j*run X D (b::List.range (2*D.n)) (ij S)) (Iu hD hL) (y4b hD hL) hB (fun S' iZ hv hr=>IH S' _ iZ (.inl hr) (kR b hb S')) (CU S l (t:=1) (by omega)) fun u v=>?_;obtain ⟨p1,p2,p3⟩:=C8 (t:=1) (by omega) hB C cS;have es:aq (put D S l 1)=aq S:=Ea (by omega)
    have DG: ∀a,(fun b=>if (1:Nat)=0 then co b % 2 else b % 2) a=a % 2:=fun a=>if_neg (by omega);have e1:=Kq hD hP C (p3.ord C.ty) DG (p1.sc u v) (p2.sc u v) (Xf X) (List.range (2*D.n));show run (Xf X) D (b::List.range (2*D.n)) ((put D S l 1).sc u v)=par ((put D S l 1).sc u v).j*run X D (b::List.range (2*D.n)) (ij ((put D S l 1).sc u v));rw [e1]
    have yA:=Kr hD C (p3.ord C.ty) (fun a=>by show (if (1:Nat)=0 then co a % 2 else a % 2)<=1;split<;>omega) (p1.sc u v) (p2.sc u v);have h2:=IH (TK (aj l) (aq S) ((put D S l 1).sc u v)).cr (List.range (2*D.n)) yA.cr (.inr ⟨?_,?_⟩) ⟨fun a ha=>List.mem_range.1 ha,fun a ha _=>List.mem_range.2 ha⟩
    ·rw [h2];show par ((put D S l 1).sc u v).j*_=par ((put D S l 1).sc u v).j*_;congr 1;have Ww:=KQ (p1.sc u v);have DY:aq (ij ((put D S l 1).sc u v))=aq S:=by rw [Zb];exact es
     have hq:QK D (aj l) (aq S) (fun b=>co b % 2) (ij ((put D S l 1).sc u v)).st l (ij ((put D S l 1).sc u v)) D.n:=by
      have:=QK.of (r:=fun b=>co b % 2) Ww (by rw [DY];exact C) cS fun c hc k1 k2 k3=>by
       have e:=p2.q c hc k1 k2 (by omega);have vH:(put D S l 1).ae (co c)=false:=cS _ k2;rw [vH] at e;have FI:(if (put D S l 1).st (c/2)<=1 then 1-(put D S l 1).st (c/2) else (put D S l 1).st (c/2))<=1:=k3;show (if (put D S l 1).st (c/2)<=1 then 1-(put D S l 1).st (c/2) else (put D S l 1).st (c/2))=co c % 2;have Cj:=vt c;have hle:(put D S l 1).st (c/2)<=1:=by
        by_cases h:(put D S l 1).st (c/2)<=1
        ·exact h
        ·rw [if_neg h] at FI;exact absurd FI h
       rw [if_pos hle,Cj];rw [e] at hle⊢;revert hle;unfold cj;cases aq S (c/2)<;>cases (put D S l 1).ae c<;>simp
      rwa [DY] at this
     have hM:Mx (aq S) (ij ((put D S l 1).sc u v)).st l 0:=fun a ha aJ=>by
      have e:=p3 a ha aJ;show (if (put D S l 1).st (a/2)<=1 then 1-(put D S l 1).st (a/2) else (put D S l 1).st (a/2))=_;rw [e,if_pos (by omega),List.take_zero,if_neg (by simp),vt]
     have:=mixed (X:=X) hD hP hX _ l.length (ij ((put D S l 1).sc u v)) b l (List.range (2*D.n)) (Nat.le_refl _) (Nat.le_refl _) Ww (by rw [DY];exact C) cS (by rw [DY];exact hq) (by rw [DY,Nat.sub_self];exact hM) (fun c hc=>kR c hc _)
     rw [this,DY,Za];rfl
    ·refine Nat.le_trans (sI (S:=put D S l 1) (S':=(TK (aj l) (aq S) ((put D S l 1).sc u v)).cr) (fun c h=>?_) D.n) (KT S);have h':(TK (aj l) (aq S) ((put D S l 1).sc u v)).st c<=1:=h;exact HI h'
    ·exact Kp (S:=(put D S l 1).sc u v) (sm:=aq S) hb C.hd b3
 exact key _ S B (Nat.lt_succ_self _) hB hC
end
end Hs
namespace Hs
open Sp (eY aV aw itn)
structure zN (D D':Sh):Prop where
 n:D'.n=D.n
 sg: ∀c,c<D.n->D'.sg c=D.sg c
 nx: ∀a,a<2*D.n->D'.nx (D.nx a)=a
def pR (sm:Nat->Bool) (a:Nat):Nat:=if sm (a/2) then co a else a
theorem Z8 (sm:Nat->Bool) (a:Nat):pR sm a/2=a/2:=by unfold pR;split
                                                    ·exact bV a
                                                    ·rfl
theorem Es (sm:Nat->Bool) (a:Nat):pR sm (pR sm a)=a:=by
 have:=Z8 sm a
 unfold pR at*;rw [this]
 split
 ·exact di a
 ·rfl
theorem zQ {sm:Nat->Bool} {a:Nat} (h:sm (a/2)=false):pR sm a=a:=by unfold pR;rw [h];rfl
theorem HH {sm:Nat->Bool} {a:Nat} (h:sm (a/2)=true):pR sm a=co a:=by unfold pR;rw [h];rfl
def iK (S:WS):WS:={S with ae:=fun a=>if S.st (a/2)=2 then S.ae (co a) else S.ae a}
theorem yN {S:WS} {a:Nat} (h:S.st (a/2)≠2):(iK S).ae a=S.ae a:=if_neg h
theorem D9 {S:WS} {a:Nat} (h:S.st (a/2)=2):(iK S).ae a=S.ae (co a):=if_pos h
section
variable {D D':Sh} {X:Int->Int->Nat->Int}
theorem HW {S:WS} (hB:Bd D S) {a:Nat} (ha:a<2*D.n):(iK S).ae a=S.ae (D.nx a):=by
 have f:=hB a ha;have f':=hB (co a) (ee ha);have WD:=bV a;unfold Fit at f f';rw [WD,di] at f';by_cases h:S.st (a/2)=2
 ·rw [D9 h];unfold aD at f';rw [h] at f';rcases f' with ⟨h,_⟩|⟨h,_⟩|⟨h,_⟩|⟨_,h1,_⟩
  ·omega
  ·omega
  ·omega
  ·exact Bool.eq_iff_iff.2 h1
 ·rw [yN h];unfold aD at f;rcases f with ⟨_,h1,h2⟩|⟨_,h1,h2⟩|⟨_,h1,_⟩|⟨h',_⟩
  ·rw [h1];cases e:S.ae (D.nx a) with
   |false=>rfl
   |true=>exact absurd e h2
  ·rw [h1,h2]
  ·exact Bool.eq_iff_iff.2 h1
  ·exact absurd h' h
theorem zN.lt (hD:Ok D) (R:zN D D') {a:Nat} (ha:a<2*D.n): ∃b,b<2*D.n/\D.nx b=a/\D'.nx a=b:=by
 have hp:aw (2*D.n) D.nx:=⟨hD.lt,hD.inj⟩;obtain ⟨k,h0,hk⟩:=hp.back ha;obtain ⟨j,rfl⟩: ∃j,k=j+1:=⟨k-1,by omega⟩;have e:D.nx (itn D.nx j a)=a:=hk
 have:=R.nx _ (hp.a7 ha j)
 rw [e] at this;exact ⟨_,hp.a7 ha j,e,this⟩
theorem Vj (hD:Ok D) (R:zN D D') {S:WS} (hB:Bd D S) {a:Nat} (ha:a<2*D.n):(iK S).ae (D'.nx a)=S.ae a:=by
 obtain ⟨b,h1,h2,h3⟩:=R.lt hD ha;rw [h3,HW hB h1,h2]
theorem K3 (hD:Ok D) (R:zN D D') {S:WS} (hB:Bd D S):Bd D' (iK S):=fun a ha=>by
 rw [R.n] at ha;have hc:=ee ha;show aD (S.st (a/2)) ((iK S).ae a) ((iK S).ae (co a)) ((iK S).ae (D'.nx a)=true) ((iK S).ae (D'.nx (co a))=true);rw [Vj hD R hB ha,Vj hD R hB hc,HW hB ha,HW hB hc];have f:=hB a ha;have f':=hB (co a) hc;unfold Fit at f f';rw [bV,di] at f';show aD (S.st (a/2)) _ _ _ _;unfold aD at*;rcases f with ⟨h,h1,h2⟩|⟨h,h1,h2⟩|⟨h,h1,h2⟩|⟨h,h1,h2⟩
 ·refine .inl ⟨h,?_,by rw [h1];simp⟩;cases e:S.ae (D.nx a) with
  |false=>rfl
  |true=>exact absurd e h2
 ·exact .inr (.inl ⟨h,h2,h1⟩)
 ·have h3:=Bool.eq_iff_iff.2 h1;rcases f' with ⟨g,_⟩|⟨g,_⟩|⟨_,g1,_⟩|⟨g,_⟩
  ·omega
  ·omega
  ·have h4:=Bool.eq_iff_iff.2 g1;refine .inr (.inr (.inl ⟨h,by rw [h3],by rw [←h3,←h4,h2]⟩))
  ·omega
 ·have h3:=Bool.eq_iff_iff.2 h1;rcases f' with ⟨g,_⟩|⟨g,_⟩|⟨g,_⟩|⟨_,g1,_⟩
  ·omega
  ·omega
  ·omega
  ·have h4:=Bool.eq_iff_iff.2 g1;refine .inr (.inr (.inr ⟨h,by rw [←h4],by rw [←h3,←h4,h2];simp⟩))
theorem Y8 {S:WS} {x q:Nat} (h:S.st x<=1) (hq:q≠2):iK (S.sx x q)=(iK S).sx x q:=by
 refine WS.ext' (fun b=>rfl) ?_ rfl rfl rfl;funext a;show (if aM S.st x q (a/2)=2 then S.ae (co a) else S.ae a)=if S.st (a/2)=2 then S.ae (co a) else S.ae a;by_cases e:a/2=x
 ·rw [e,bG,if_neg hq,if_neg (by omega)]
 ·rw [bt _ _ e]
theorem Z7 (hD:Ok D) (nW:Ok D') (R:zN D D') {B:List Nat} (hL: ∀x,x<D.n->2*x∈B):DZ D (fun S=>run X D' B (iK S)):=fun S x hB hx h=>by
 have gX:x<D'.n:=by rw [R.n];exact hx
 have h1:=Iu (X:=X) nW (B:=B) (fun y hy=>hL y (by rw [←R.n];exact hy)) (iK S) x (K3 hD R hB) gX h;have hp:pq D x<=1/\nq D x<=1/\pq D' x=pq D x/\nq D' x=nq D x:=by unfold pq nq;rw [R.sg x hx];split<;>omega
 obtain ⟨p1,p2,p3,p4⟩:=hp;rw [p3,p4] at h1;have e: ∀q u v,q≠2->iK ((S.sx x q).sc u v)=((iK S).sx x q).sc u v:=fun q u v hq=>by
  show (iK (S.sx x q)).sc u v=_;rw [Y8 h hq]
 show run X D' B (iK _)=run X D' B (iK _)+run X D' B (iK _);rw [e _ _ _ (by omega),e _ _ _ (by omega),e _ _ _ (by omega)];exact h1
def nv (l:List (Nat×Bool)):List (Nat×Bool):=(l.map fun x=>(if x.2 then x.1 else co x.1,x.2)).reverse
theorem Vi (hD:Ok D) (R:zN D D'): ∀(l:List (Nat×Bool)) (b e:Nat),(∀x∈l,x.1<2*D.n)->qE D b l e->qE D' (D'.nx e) (nv l) (D'.nx b)
 |[],b,e,_,h=>by rw [show b=e from h];exact rfl
 |(a,p)::l,b,e,hl,h=>by
  obtain ⟨h1,h2⟩:=h;have ha:=hl (a,p) (.head _);have ih:=Vi hD R l _ e (fun x hx=>hl x (.tail _ hx)) h2;have e1:nv ((a,p)::l)=nv l++[(if p then a else co a,p)]:=by unfold nv;simp
  rw [e1];refine Di _ _ _ _ _ ih ⟨?_,?_⟩
  ·cases p with
   |true=>exact R.nx a ha
   |false=>exact R.nx (co a) (ee ha)
  ·rw [h1];cases p with
   |true=>rfl
   |false=>
    show D'.nx (co (co a))=_;rw [di]
theorem Lj {l:List (Nat×Bool)} {sm:Nat->Bool} (ty: ∀x∈l,x.2= !sm (x.1/2)):(nv l).map Prod.fst=((l.map Prod.fst).map (pR sm)).reverse:=by
 unfold nv;rw [List.map_reverse,List.map_map,List.map_map];congr 1;refine List.map_congr_left fun x hx=>?_;show (if x.2 then x.1 else co x.1)=pR sm x.1;unfold pR;rw [ty x hx];cases sm (x.1/2)<;>rfl
theorem CT {l:List (Nat×Bool)} {sm:Nat->Bool} (ty: ∀x∈l,x.2= !sm (x.1/2)) (a:Nat):aj (nv l) a=aj l (pR sm a):=by
 unfold aj;refine decide_eq_decide.2 ?_;rw [Lj ty,List.mem_reverse,List.mem_map];exact ⟨fun ⟨b,hb,e⟩=>by rw [←e,Es];exact hb,fun h=>⟨_,h,Es _ _⟩⟩
theorem Y7 (hD:Ok D) (nW:Ok D') (R:zN D D') {sm:Nat->Bool} {l:List (Nat×Bool)} {b:Nat} (C:im D (aj l) sm l b):im D' (aj (nv l)) sm (nv l) (D'.nx b):=by
 have hm: ∀x∈nv l,∃y∈l,x=(if y.2 then y.1 else co y.1,y.2):=fun x hx=>by
  unfold nv at hx;rw [List.mem_reverse] at hx;obtain ⟨y,hy,e⟩:=List.mem_map.1 hx;exact ⟨y,hy,e.symm⟩
 refine im.make nW (Vi hD R l b b C.lt C.ch) (fun h=>C.ne ?_) (fun x hx=>?_) ?_ fun x hx=>?_
 ·unfold nv at h;simpa using h
 ·obtain ⟨y,hy,rfl⟩:=hm x hx;rw [R.n];show (if y.2 then y.1 else co y.1)<_
  split
  ·exact C.lt y hy
  ·exact ee (C.lt y hy)
 ·rw [Lj C.ty];refine List.pairwise_reverse.2 ?_;exact List.Pairwise.map _ (fun a b h e=>h (by rw [←Es sm a,←e,Es])) C.nd
 ·obtain ⟨y,hy,rfl⟩:=hm x hx;show y.2= !sm ((if y.2 then y.1 else co y.1)/2);rw [show (if y.2 then y.1 else co y.1)/2=y.1/2 by split;rfl;exact bV _];exact C.ty y hy
theorem Y6 {S:WS} (hB:Bd D S) {l:List (Nat×Bool)} (lt: ∀a,aj l a=true->a<2*D.n) (ty: ∀x∈l,x.2= !aq S (x.1/2)):TK (aj (nv l)) (aq S) (iK S)=iK (TK (aj l) (aq S) S):=by
 have W7: ∀a,¬a<2*D.n->aj l a=false/\aj l (co a)=false:=fun a h=>by
  have hc:=bV a;refine ⟨?_,?_⟩
  ·cases e:aj l a with
   |false=>rfl
   |true=>exact absurd (lt a e) h
  ·cases e:aj l (co a) with
   |false=>rfl
   |true=>have:=lt _ e;omega
 have GW: ∀a,a<2*D.n->S.st (a/2)=5->S.ae a=false/\S.ae (co a)=false:=fun a ha h=>by
  have f:=hB a ha;have f':=hB (co a) (ee ha);unfold Fit aD at f f';rw [bV] at f';rw [h] at f f';refine ⟨?_,?_⟩
  ·rcases f with ⟨_,h,_⟩|⟨h,_⟩|⟨h,_⟩|⟨h,_⟩
   ·exact h
   all_goals omega
  ·rcases f' with ⟨_,h,_⟩|⟨h,_⟩|⟨h,_⟩|⟨h,_⟩
   ·exact h
   all_goals omega
 have st: ∀b,(TK (aj (nv l)) (aq S) (iK S)).st (b/2)=(TK (aj l) (aq S) S).st (b/2):=fun b=>by
  rw [l9,l9,CT ty,CT ty];show (if _ then _ else if _ then _ else if _ then _ else S.st (b/2))=_;cases hs:aq S (b/2) with
  |false=>
   have h2:=(rZ.1 hs).2;rw [zQ hs,zQ (a:=co b) (by rw [bV];exact hs),yN h2,yN (a:=co b) (by rw [bV];exact h2)]
  |true=>
   rw [HH hs,HH (a:=co b) (by rw [bV];exact hs),di];by_cases hb:b<2*D.n
   ·rcases sF.1 hs with h|h
    ·obtain ⟨v1,v2⟩:=GW b hb h;rw [yN (by omega),yN (a:=co b) (by rw [bV];omega),v1,v2];cases aj l b<;>cases aj l (co b)<;>rfl
    ·rw [D9 h,D9 (a:=co b) (by rw [bV];exact h),di];cases aj l b<;>cases aj l (co b)<;>rfl
   ·obtain ⟨k1,k2⟩:=W7 b hb;rw [k1,k2];rfl
 refine WS.ext' st ?_ rfl rfl rfl;funext a;show ((iK S).ae a||aj (nv l) a)=if (TK (aj l) (aq S) S).st (a/2)=2 then (S.ae (co a)||aj l (co a)) else (S.ae a||aj l a);rw [CT ty,l9];cases hs:aq S (a/2) with
 |false=>
  have h2:=(rZ.1 hs).2;rw [zQ hs,yN h2,if_neg];cases aj l a<;>cases aj l (co a)<;>cases S.ae a<;>cases S.ae (co a)<;>simp [h2]
 |true=>
  rw [HH hs];by_cases hb:a<2*D.n
  ·rcases sF.1 hs with h|h
   ·obtain ⟨v1,v2⟩:=GW a hb h;rw [yN (by omega),v1,v2,h];cases aj l a<;>cases aj l (co a)<;>rfl
   ·rw [D9 h,h];cases aj l a<;>cases aj l (co a)<;>cases S.ae a<;>cases S.ae (co a)<;>simp
  ·obtain ⟨k1,k2⟩:=W7 a hb;rw [k1,k2];simp only [Bool.and_self,Bool.or_false,Bool.false_eq_true,if_false,ite_false];rfl
theorem C7 (S:WS):aq (iK S)=aq S:=rfl
theorem Z6 (hD:Ok D) (nW:Ok D') (R:zN D D') {al mv:Nat->Nat} (hP:qT D al) (J8:qT D' mv) (hX:Good X) {S:WS} {B B':List Nat} (hB:Bd D S) (hC:eI D B S) (DV:eI D' B' (iK S)):run X D' B' (iK S)=run X D B S:=by
 have GV: ∀S:WS,fu D S<=2*D.n:=fun S=>by
  have: ∀k,unv S.ae k<=k:=fun k=>by
   induction k with
   |zero=>exact Nat.le_refl _
   |succ k ih=>simp only [unv];split<;>omega
  exact this _
 have key: ∀m (S:WS) (B B':List Nat),rl S D.n*(2*D.n+1)+fu D S<m->Bd D S->eI D B S->eI D' B' (iK S)->run X D' B' (iK S)=run X D B S:=fun m=>by
  induction m with
  |zero=>intro _ _ _ h;omega
  |succ m ih=>
   intro S B B' hm hB hC DV;have IH: ∀S' B B',Bd D S'->(rl S' D.n<rl S D.n\/(rl S' D.n<=rl S D.n/\fu D S'<fu D S))->eI D B S'->eI D' B' (iK S')->run X D' B' (iK S')=run X D B S':=fun S' B B' iZ hl c1 c2=>by
    refine ih S' B B' ?_ iZ c1 c2
    have:=GV S'
    rcases hl with h|⟨h,h'⟩
    ·have:(rl S' D.n+1)*(2*D.n+1)<=rl S D.n*(2*D.n+1):=Nat.mul_le_mul_right _ h
     rw [Nat.add_mul,Nat.one_mul] at this;omega
    ·have:rl S' D.n*(2*D.n+1)<=rl S D.n*(2*D.n+1):=Nat.mul_le_mul_right _ h
     omega
   rcases EA (X:=X) (D:=D) B S with h|⟨b,_,b1,_,b3,_,_⟩
   ·have cg: ∀a,a<2*D.n->S.ae a=true:=fun a ha=>by
     cases e:S.ae a with
     |true=>rfl
     |false=>rw [h a (hC.all a ha e)] at e;cases e
    rw [z7 B S h,z7 B' (iK S) fun a ha=>?_]
    ·rfl
    ·have bZ:a<2*D.n:=by have:=DV.lt a ha;rw [R.n] at this;exact this
     rw [HW hB bZ];exact cg _ (hD.lt a bZ)
   ·have hb:=hC.lt b b1;have kR: ∀c,c<2*D.n-> ∀S,eI D (c::List.range (2*D.n)) S:=fun c hc S=>⟨fun a ha=>by
     rcases List.mem_cons.1 ha with rfl|ha
     ·exact hc
     ·exact List.mem_range.1 ha,fun a ha _=>by simp [ha]⟩
    have Nq: ∀c,c<2*D.n-> ∀S,eI D' (c::List.range (2*D.n)) S:=fun c hc S=>⟨fun a ha=>by
     rw [R.n];rcases List.mem_cons.1 ha with rfl|ha
     ·exact hc
     ·exact List.mem_range.1 ha,fun a ha _=>by rw [R.n] at ha;simp [ha]⟩
    have hL: ∀c,∀x,x<D.n->2*x∈c::List.range (2*D.n):=fun c x hx=> .tail _ (List.mem_range.2 (by omega));obtain ⟨b',lT,w9⟩: ∃b',b'<2*D.n/\b'=D'.nx b:=⟨_,by have:=nW.lt b (by rw [R.n];exact hb);rw [R.n] at this;exact this,rfl⟩;rw [ord hD hP hX hB hC (kR b hb S),ord nW J8 hX (K3 hD R hB) DV (Nq b' lT (iK S))];obtain ⟨l,C,cS,_,_⟩:=u9 hD hB hb b3
    refine Vl (F:=fun S=>run X D' (b'::List.range (2*D.n)) (iK S)) (G:=run X D (b::List.range (2*D.n))) (Z7 hD nW R (hL b')) (Iu hD (hL b)) hB (fun S' iZ hv hr=>IH S' _ _ iZ (.inl hr) (kR b hb S') (Nq b' lT _)) (CU S l (t:=0) (by omega)) fun u v=>?_;obtain ⟨p1,p2,p3⟩:=C8 (t:=0) (by omega) hB C cS;have es:aq (put D S l 0)=aq S:=Ea (by omega)
    have DG: ∀a,(fun b=>if (0:Nat)=0 then co b % 2 else b % 2) (co a)=a % 2:=fun a=>by show co (co a)% 2=_;rw [di]
    obtain ⟨e1,yA⟩:=vw (X:=X) hD (p1.sc u v) C (p2.sc u v) (p3.ord C.ty) DG (List.range (2*D.n));show run X D' (b'::List.range (2*D.n)) (iK ((put D S l 0).sc u v))=run X D (b::List.range (2*D.n)) ((put D S l 0).sc u v);rw [e1];have Ke:=p1.sc u v;have wy: ∀a,aj l a=true->((put D S l 0).sc u v).ae a=false:=cS;obtain ⟨P,J7⟩: ∃P,P=(put D S l 0).sc u v:=⟨_,rfl⟩
    have eP:aq P=aq S:=by rw [J7];exact es
    have stP:P.st=(put D S l 0).st:=by rw [J7];rfl
    have VG:=p2.sc u v;rw [←J7] at e1 yA Ke wy VG⊢;have tyP: ∀x∈l,x.2= !aq P (x.1/2):=by rw [eP];exact C.ty
    have hT:=Y6 Ke (fun a h=>C.vE h) tyP;rw [eP] at hT;have FY: ∀a,aj (nv l) a=true->(iK P).ae a=false:=fun a ha=>by
     rw [CT C.ty] at ha;cases hs:aq P (a/2) with
     |false=>
      rw [←eP,zQ hs] at ha;rw [yN (rZ.1 hs).2];exact wy a ha
     |true=>
      rw [←eP,HH hs] at ha;rcases sF.1 hs with h|h
      ·have f:=Ke a (by have:=C.vE ha;have:=bV a;omega);unfold Fit aD at f;rw [h] at f;rw [yN (by omega)];rcases f with ⟨_,h,_⟩|⟨h,_⟩|⟨h,_⟩|⟨h,_⟩
       ·exact h
       all_goals omega
      ·rw [D9 h];exact wy _ ha
    have C':im D' (aj (nv l)) (aq S) (nv l) b':=w9▸Y7 hD nW R C;have WU:=K3 hD R Ke;have Q':QK D' (aj (nv l)) (aq S) (fun b=>co b % 2) (iK P).st (nv l) (iK P) D'.n:=by
     have:=QK.of (r:=fun b=>co b % 2) WU (by rw [C7,eP];exact C') FY fun c hc k1 k2 k3=>by
      have FI:P.st (c/2)<=1:=k3;have hs:aq S (c/2)=false:=by rw [←eP];exact rZ.2 (by omega)
      rw [R.n] at hc;rw [CT C.ty,zQ hs] at k1;rw [CT C.ty,zQ (a:=co c) (by rw [bV];exact hs)] at k2;have e:=VG.q c hc k1 k2 (by omega);rw [wy _ k2,hs] at e;show P.st (c/2)=co c % 2;rw [e] at FI⊢;revert FI;unfold cj;cases P.ae c<;>simp
     rwa [C7,eP] at this
    have M':Mx (aq S) (iK P).st (nv l) ((nv l).length-(nv l).length):=fun a ha aJ=>by
     rw [Nat.sub_self,List.take_zero,if_neg (by simp)];show P.st (a/2)=co a % 2;have F5:[co a,a].Sublist ((l.map Prod.fst).map (pR (aq S))):=by
      rw [Lj C.ty] at aJ
      have:=List.reverse_sublist.2 aJ
      rwa [List.reverse_reverse] at this
     have F4:[co a,a].Sublist (l.map Prod.fst):=by
      have:=List.Sublist.map (pR (aq S)) F5
      rw [List.map_map,show (pR (aq S)∘pR (aq S))=id from funext fun x=>Es _ x,List.map_id] at this;have e:[co a,a].map (pR (aq S))=[co a,a]:=by
       show [pR (aq S) (co a),pR (aq S) a]=_;rw [zQ ha,zQ (a:=co a) (by rw [bV];exact ha)]
      rwa [e] at this
     have:=p3 (co a) (by rw [bV];exact ha) (by rw [di];exact F4)
     rw [bV] at this;rw [stP];exact this
    have:=mixed (X:=X) nW J8 hX _ (nv l).length (iK P) b' (nv l) (List.range (2*D.n)) (Nat.le_refl _) (Nat.le_refl _) WU (by rw [C7,eP];exact C') FY (by rw [C7,eP];exact Q') (by rw [C7,eP];exact M') (fun c hc=>Nq c (by rw [←R.n];exact hc) _)
    rw [this,C7,eP,hT];have h2:=IH (TK (aj l) (aq S) P).cr (List.range (2*D.n)) (List.range (2*D.n)) yA.cr (.inr ⟨?_,?_⟩) ⟨fun a ha=>List.mem_range.1 ha,fun a ha _=>List.mem_range.2 ha⟩ ⟨fun a ha=>by rw [R.n];exact List.mem_range.1 ha,fun a ha _=>by rw [R.n] at ha;exact List.mem_range.2 ha⟩
    ·exact h2
    ·refine Nat.le_trans (sI (S:=put D S l 0) (S':=(TK (aj l) (aq S) P).cr) (fun c h=>?_) D.n) (KT S);have h':(TK (aj l) (aq S) P).st c<=1:=h
     have:=HI h'
     rwa [stP] at this
    ·have e:fu D P=fu D S:=by rw [J7];rfl
     have:=Kp (S:=P) (sm:=aq S) hb C.hd (wy b C.hd)
     rw [e] at this;exact this
 exact key _ S B B' (Nat.lt_succ_self _) hB hC DV
end
end Hs
end Go.Proofs.YtjpbeacamoijhaaGreatDoor
