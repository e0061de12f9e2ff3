/- Plain: two shadows side by side, or joined at two edges. -/
import Derived.Test.YtjpnnnognoaaiaaGreatDoorHs13
import Derived.Test.YtjpnnnognoaaiaaGreatDoorZw
namespace Go.Proofs.YtjpnnnognoaaiaaGreatDoor
set_option linter.unusedSimpArgs false
set_option linter.unusedVariables false
namespace Hs
structure Two (D D1 D2:Sh) (xo yo:Nat):Prop where
 n:D.n=D1.n+D2.n
 sg1: ∀c,c<D1.n->D.sg c=D1.sg c
 sg2: ∀c,c<D2.n->D.sg (D1.n+c)=D2.sg c
 nx1: ∀a,a<2*D1.n->a≠xo->D.nx a=D1.nx a
 nx2: ∀a,a<2*D2.n->a≠yo->D.nx (2*D1.n+a)=2*D1.n+D2.nx a
 nxx:xo<2*D1.n->D.nx xo=2*D1.n+D2.nx yo
 nxy:yo<2*D2.n->D.nx (2*D1.n+yo)=D1.nx xo
 both:xo<2*D1.n↔yo<2*D2.n
structure Mg (n1:Nat) (S S1 S2:WS):Prop where
 st1: ∀c,c<n1->S.st c=S1.st c
 st2: ∀c,S.st (n1+c)=S2.st c
 vis1: ∀a,a<2*n1->S.vis a=S1.vis a
 vis2: ∀a,S.vis (2*n1+a)=S2.vis a
 i:S.i=S1.i+S2.i
 j:S.j=S1.j+S2.j
 k:S.k=S1.k+S2.k
section
variable {n1:Nat} {S S1 S2:WS}
theorem Mg.mk1 (h:Mg n1 S S1 S2) {a:Nat} (ha:a<2*n1) (v:Nat):Mg n1 (S.mk' a v) (S1.mk' a v) S2:=by
 refine ⟨fun c hc=>?_,fun c=>?_,fun b hb=>?_,fun b=>?_,h.i,h.j,h.k⟩
 ·show upd S.st (a/2) v c=upd S1.st (a/2) v c
  unfold upd;split
  ·rfl
  ·exact h.st1 c hc
 ·show upd S.st (a/2) v (n1+c)=_
  rw [yah _ _ (by omega)];exact h.st2 c
 ·show upd S.vis a true b=upd S1.vis a true b
  unfold upd;split
  ·rfl
  ·exact h.vis1 b hb
 ·show upd S.vis a true (2*n1+b)=_
  rw [yah _ _ (by omega)];exact h.vis2 b
theorem Mg.sc1 (h:Mg n1 S S1 S2) (u v:Int):Mg n1 (S.sc u v) (S1.sc u v) S2:=
 ⟨h.st1,h.st2,h.vis1,h.vis2,by show S.i+u=S1.i+u+S2.i;rw [h.i];omega,by show S.j+v=S1.j+v+S2.j;rw [h.j];omega,h.k⟩
theorem Mg.cr1 (h:Mg n1 S S1 S2):Mg n1 S.cr S1.cr S2:=⟨h.st1,h.st2,h.vis1,h.vis2,h.i,h.j,by show S.k+1=S1.k+1+S2.k;rw [h.k];omega⟩
theorem Mg.mk2 (h:Mg n1 S S1 S2) (a v:Nat):Mg n1 (S.mk' (2*n1+a) v) S1 (S2.mk' a v):=by
 have e:(2*n1+a)/2=n1+a/2:=by omega
 refine ⟨fun c hc=>?_,fun c=>?_,fun b hb=>?_,fun b=>?_,h.i,h.j,h.k⟩
 ·show upd S.st ((2*n1+a)/2) v c=_
  rw [yah _ _ (by omega)];exact h.st1 c hc
 ·show upd S.st ((2*n1+a)/2) v (n1+c)=upd S2.st (a/2) v c
  rw [e]
  by_cases hc:c=a/2
  ·rw [hc,yae,yae]
  ·rw [yah _ _ hc,yah _ _ (by omega)];exact h.st2 c
 ·show upd S.vis (2*n1+a) true b=_
  rw [yah _ _ (by omega)];exact h.vis1 b hb
 ·show upd S.vis (2*n1+a) true (2*n1+b)=upd S2.vis a true b
  by_cases hb:b=a
  ·rw [hb,yae,yae]
  ·rw [yah _ _ hb,yah _ _ (by omega)];exact h.vis2 b
theorem Mg.sc2 (h:Mg n1 S S1 S2) (u v:Int):Mg n1 (S.sc u v) S1 (S2.sc u v):=
 ⟨h.st1,h.st2,h.vis1,h.vis2,by show S.i+u=S1.i+(S2.i+u);rw [h.i];omega,by show S.j+v=S1.j+(S2.j+v);rw [h.j];omega,h.k⟩
theorem Mg.cr2 (h:Mg n1 S S1 S2):Mg n1 S.cr S1 S2.cr:=⟨h.st1,h.st2,h.vis1,h.vis2,h.i,h.j,by show S.k+1=S1.k+(S2.k+1);rw [h.k];omega⟩
end
section
variable {D D1 D2:Sh} {xo yo:Nat}
theorem yku (T:Two D D1 D2 xo yo) {S S1 S2:WS} (h:Mg D1.n S S1 S2) {a:Nat} (ha:a<2*D1.n):
  BR (fun S b S1 b1=>Mg D1.n S S1 S2/\ ∃o,o<2*D1.n/\b=D.nx o/\b1=D1.nx o) (br D S a) (br D1 S1 a):=by
 have hst:S.st (a/2)=S1.st (a/2):=h.st1 _ (by omega)
 have hsg: ∀q,sgn D q (a/2)=sgn D1 q (a/2):=fun q=>by unfold sgn;rw [T.sg1 _ (by omega)]
 unfold br
 rw [if_neg (show¬2*D.n<=a by have:=T.n;omega),if_neg (show¬2*D1.n<=a by omega),hst,hsg]
 split
 ·exact .cons ⟨h.mk1 ha _,_,yav ha,rfl,rfl⟩ .nil
 split
 ·exact .cons ⟨h.mk1 ha _,_,ha,rfl,rfl⟩ .nil
 split
 ·exact .cons ⟨h.mk1 ha _,_,yav ha,rfl,rfl⟩ .nil
 split
 ·exact .cons ⟨h.mk1 ha _,_,ha,rfl,rfl⟩ .nil
 split
 ·exact .cons ⟨(h.mk1 ha _).sc1 _ _,_,ha,rfl,rfl⟩ (.cons ⟨(h.mk1 ha _).sc1 _ _,_,yav ha,rfl,rfl⟩ .nil)
 ·exact .nil
theorem y8e (n a:Nat):co (2*n+a)=2*n+co a:=by
 unfold co
 by_cases h:a % 2=0
 ·rw [if_pos h,if_pos (by omega)];omega
 ·rw [if_neg h,if_neg (by omega)];omega
theorem ykv (T:Two D D1 D2 xo yo) {S S1 S2:WS} (h:Mg D1.n S S1 S2) {a:Nat} (ha:a<2*D2.n):
  BR (fun S b S2 b2=>Mg D1.n S S1 S2/\ ∃o,o<2*D2.n/\b=D.nx (2*D1.n+o)/\b2=D2.nx o) (br D S (2*D1.n+a)) (br D2 S2 a):=by
 have e:(2*D1.n+a)/2=D1.n+a/2:=by omega
 have e2:(2*D1.n+a)% 2=a % 2:=by omega
 have hst:S.st ((2*D1.n+a)/2)=S2.st (a/2):=by rw [e];exact h.st2 _
 have hsg: ∀q,sgn D q ((2*D1.n+a)/2)=sgn D2 q (a/2):=fun q=>by unfold sgn;rw [e,T.sg2 _ (by omega)]
 unfold br
 rw [if_neg (show¬2*D.n<=2*D1.n+a by have:=T.n;omega),if_neg (show¬2*D2.n<=a by omega),hst,hsg,e2,y8e]
 split
 ·exact .cons ⟨h.mk2 a _,_,yav ha,rfl,rfl⟩ .nil
 split
 ·exact .cons ⟨h.mk2 a _,_,ha,rfl,rfl⟩ .nil
 split
 ·exact .cons ⟨h.mk2 a _,_,yav ha,rfl,rfl⟩ .nil
 split
 ·exact .cons ⟨h.mk2 a _,_,ha,rfl,rfl⟩ .nil
 split
 ·exact .cons ⟨(h.mk2 a _).sc2 _ _,_,ha,rfl,rfl⟩ (.cons ⟨(h.mk2 a _).sc2 _ _,_,yav ha,rfl,rfl⟩ .nil)
 ·exact .nil
theorem yc9 {D:Sh} {S:WS} {b c:Nat} {x:Int×WS×Nat} (hx:x∈br D S b) (h:S.vis c=true):x.2.1.vis c=true:=by
 rw [(ycv hx).2];unfold upd;split
 ·rfl
 ·exact h
theorem y6o (h1:Ok D1) (h2:Ok D2) (T:Two D D1 D2 xo yo) {S S1 S2:WS} (h:Mg D1.n S S1 S2) {a:Nat} (ha:a<2*D1.n) (hv:S1.vis a=false) (hx:xo<2*D1.n->S.vis (2*D1.n+D2.nx yo)=true/\S1.vis (D1.nx xo)=true) {k k1:WS->Int}
  (hk: ∀T T1,Mg D1.n T T1 S2->(xo<2*D1.n->T.vis (2*D1.n+D2.nx yo)=true/\T1.vis (D1.nx xo)=true)->k T=k1 T1):wk1 D S a k=wk1 D1 S1 a k1:=by
 have hne:xo<2*D1.n->a≠D1.nx xo:=fun hxl e=>by rw [e,(hx hxl).2] at hv;cases hv
 unfold wk1
 have main: ∀T b T1 b1,(Mg D1.n T T1 S2/\ ∃o,o<2*D1.n/\b=D.nx o/\b1=D1.nx o)->(xo<2*D1.n->T.vis (2*D1.n+D2.nx yo)=true/\T1.vis (D1.nx xo)=true)->W D (eqE a) T b (fun S _=>k S)=W D1 (eqE a) T1 b1 fun S _=>k1 S:=fun T0 b T1 b1 hR hX=>by
  refine Wsim (fun T b T1 b1=>(Mg D1.n T T1 S2/\ ∃o,o<2*D1.n/\b=D.nx o/\b1=D1.nx o)/\(xo<2*D1.n->T.vis (2*D1.n+D2.nx yo)=true/\T1.vis (D1.nx xo)=true)) ?_ _ _ _ _ ⟨hR,hX⟩
  intro T' b T1 b1 ⟨⟨hM,o,ho,e1,e2⟩,hX⟩
  by_cases hox:o=xo
  ·--the exchanged edge is never reached
   have hxl:xo<2*D1.n:=hox▸ho
   rw [hox] at e1 e2
   rw [T.nxx hxl] at e1
   have n1:b≠a:=by omega
   have n2:b1≠a:=by rw [e2];exact Ne.symm (hne hxl)
   rw [ybj n1,ybj n2]
   refine ⟨rfl,fun h=>(by cases h),fun _=>⟨?_,fun hvb=>?_⟩⟩
   ·rw [e1,e2,(hX hxl).1,(hX hxl).2]
   ·rw [e1,(hX hxl).1] at hvb;cases hvb
  ·rw [T.nx1 o ho hox] at e1
   have hbl:=h1.lt o ho
   subst e1 e2
   refine ⟨rfl,fun _=>hk _ _ hM hX,fun _=>⟨hM.vis1 _ hbl,fun hvb=>?_⟩⟩
   have hB:=yku T hM hbl
   have: ∀{l l1:List (Int×WS×Nat)},BR (fun S b S1 b1=>Mg D1.n S S1 S2/\ ∃o,o<2*D1.n/\b=D.nx o/\b1=D1.nx o) l l1->(∀y∈l,∀c,T'.vis c=true->y.2.1.vis c=true)->(∀y∈l1,∀c,T1.vis c=true->y.2.1.vis c=true)->BR (fun T b T1 b1=>(Mg D1.n T T1 S2/\ ∃o,o<2*D1.n/\b=D.nx o/\b1=D1.nx o)/\(xo<2*D1.n->T.vis (2*D1.n+D2.nx yo)=true/\T1.vis (D1.nx xo)=true)) l l1:=fun hb=>by
    induction hb with
    |nil=>intro _ _;exact .nil
    |cons hr _ ih=>intro q1 q2;exact .cons ⟨hr,fun hxl=>⟨q1 _ (.head _) _ (hX hxl).1,q2 _ (.head _) _ (hX hxl).2⟩⟩ (ih (fun y hy=>q1 y (.tail _ hy)) fun y hy=>q2 y (.tail _ hy))
   exact this hB (fun y hy c hc=>yc9 hy hc) fun y hy c hc=>yc9 hy hc
 have hB:=yku T h ha
 have: ∀{l l1:List (Int×WS×Nat)},BR (fun S b S1 b1=>Mg D1.n S S1 S2/\ ∃o,o<2*D1.n/\b=D.nx o/\b1=D1.nx o) l l1->(∀y∈l,∀c,S.vis c=true->y.2.1.vis c=true)->(∀y∈l1,∀c,S1.vis c=true->y.2.1.vis c=true)->(sumB l fun S' b=>W D (eqE a) S' b fun S _=>k S)=sumB l1 fun S' b=>W D1 (eqE a) S' b fun S _=>k1 S:=fun hb=>by
  induction hb with
  |nil=>intro _ _;rfl
  |cons hr _ ih=>
   intro q1 q2
   simp only [sumB]
   rw [main _ _ _ _ hr fun hxl=>⟨q1 _ (.head _) _ (hx hxl).1,q2 _ (.head _) _ (hx hxl).2⟩,ih (fun y hy=>q1 y (.tail _ hy)) fun y hy=>q2 y (.tail _ hy)]
 exact this hB (fun y hy c hc=>yc9 hy hc) fun y hy c hc=>yc9 hy hc
theorem y6p (h1:Ok D1) (h2:Ok D2) (T:Two D D1 D2 xo yo) {S S1 S2:WS} (h:Mg D1.n S S1 S2) {a:Nat} (ha:a<2*D2.n) (hv:S2.vis a=false) (hx:yo<2*D2.n->S.vis (D1.nx xo)=true/\S2.vis (D2.nx yo)=true) {k k2:WS->Int}
  (hk: ∀T T2,Mg D1.n T S1 T2->(yo<2*D2.n->T.vis (D1.nx xo)=true/\T2.vis (D2.nx yo)=true)->k T=k2 T2):wk1 D S (2*D1.n+a) k=wk1 D2 S2 a k2:=by
 have hne:yo<2*D2.n->a≠D2.nx yo:=fun hxl e=>by rw [e,(hx hxl).2] at hv;cases hv
 unfold wk1
 have main: ∀T b T2 b2,(Mg D1.n T S1 T2/\ ∃o,o<2*D2.n/\b=D.nx (2*D1.n+o)/\b2=D2.nx o)->(yo<2*D2.n->T.vis (D1.nx xo)=true/\T2.vis (D2.nx yo)=true)->W D (eqE (2*D1.n+a)) T b (fun S _=>k S)=W D2 (eqE a) T2 b2 fun S _=>k2 S:=fun T0 b T2 b2 hR hX=>by
  refine Wsim (fun T b T2 b2=>(Mg D1.n T S1 T2/\ ∃o,o<2*D2.n/\b=D.nx (2*D1.n+o)/\b2=D2.nx o)/\(yo<2*D2.n->T.vis (D1.nx xo)=true/\T2.vis (D2.nx yo)=true)) ?_ _ _ _ _ ⟨hR,hX⟩
  intro T' b T2 b2 ⟨⟨hM,o,ho,e1,e2⟩,hX⟩
  by_cases hox:o=yo
  ·have hxl:yo<2*D2.n:=hox▸ho
   rw [hox] at e1 e2
   rw [T.nxy hxl] at e1
   have hl:=h1.lt xo (T.both.2 hxl)
   have n1:b≠2*D1.n+a:=by omega
   have n2:b2≠a:=by rw [e2];exact Ne.symm (hne hxl)
   rw [ybj n1,ybj n2]
   refine ⟨rfl,fun h=>(by cases h),fun _=>⟨?_,fun hvb=>?_⟩⟩
   ·rw [e1,e2,(hX hxl).1,(hX hxl).2]
   ·rw [e1,(hX hxl).1] at hvb;cases hvb
  ·rw [T.nx2 o ho hox] at e1
   have hbl:=h2.lt o ho
   subst e1 e2
   have es:eqE (2*D1.n+a) (2*D1.n+D2.nx o)=eqE a (D2.nx o):=by
    unfold eqE
    rw [Bool.eq_iff_iff,beq_iff_eq,beq_iff_eq];omega
   refine ⟨es,fun _=>hk _ _ hM hX,fun _=>⟨hM.vis2 _,fun hvb=>?_⟩⟩
   have hB:=ykv T hM hbl
   have: ∀{l l1:List (Int×WS×Nat)},BR (fun S b S2 b2=>Mg D1.n S S1 S2/\ ∃o,o<2*D2.n/\b=D.nx (2*D1.n+o)/\b2=D2.nx o) l l1->(∀y∈l,∀c,T'.vis c=true->y.2.1.vis c=true)->(∀y∈l1,∀c,T2.vis c=true->y.2.1.vis c=true)->BR (fun T b T2 b2=>(Mg D1.n T S1 T2/\ ∃o,o<2*D2.n/\b=D.nx (2*D1.n+o)/\b2=D2.nx o)/\(yo<2*D2.n->T.vis (D1.nx xo)=true/\T2.vis (D2.nx yo)=true)) l l1:=fun hb=>by
    induction hb with
    |nil=>intro _ _;exact .nil
    |cons hr _ ih=>intro q1 q2;exact .cons ⟨hr,fun hxl=>⟨q1 _ (.head _) _ (hX hxl).1,q2 _ (.head _) _ (hX hxl).2⟩⟩ (ih (fun y hy=>q1 y (.tail _ hy)) fun y hy=>q2 y (.tail _ hy))
   exact this hB (fun y hy c hc=>yc9 hy hc) fun y hy c hc=>yc9 hy hc
 have hB:=ykv T h ha
 have: ∀{l l1:List (Int×WS×Nat)},BR (fun S b S2 b2=>Mg D1.n S S1 S2/\ ∃o,o<2*D2.n/\b=D.nx (2*D1.n+o)/\b2=D2.nx o) l l1->(∀y∈l,∀c,S.vis c=true->y.2.1.vis c=true)->(∀y∈l1,∀c,S2.vis c=true->y.2.1.vis c=true)->(sumB l fun S' b=>W D (eqE (2*D1.n+a)) S' b fun S _=>k S)=sumB l1 fun S' b=>W D2 (eqE a) S' b fun S _=>k2 S:=fun hb=>by
  induction hb with
  |nil=>intro _ _;rfl
  |cons hr _ ih=>
   intro q1 q2
   simp only [sumB]
   rw [main _ _ _ _ hr fun hxl=>⟨q1 _ (.head _) _ (hx hxl).1,q2 _ (.head _) _ (hx hxl).2⟩,ih (fun y hy=>q1 y (.tail _ hy)) fun y hy=>q2 y (.tail _ hy)]
 exact this hB (fun y hy c hc=>yc9 hy hc) fun y hy c hc=>yc9 hy hc
theorem y6q (h1:Ok D1) (h2:Ok D2) (T:Two D D1 D2 xo yo) (hx:xo<2*D1.n) {S S1 S2:WS} (h:Mg D1.n S S1 S2) (hv2:S2.vis (D2.nx yo)=false) {k:WS->Int} {k1:WS->WS->Int} (hk: ∀T T1 T2,Mg D1.n T T1 T2->T1.vis (D1.nx xo)=true->T2.vis (D2.nx yo)=true->k T=k1 T1 T2):
  wk1 D S (D1.nx xo) k=wk1 D1 S1 (D1.nx xo) fun T1=>wk1 D2 S2 (D2.nx yo) fun T2=>k1 T1 T2:=by
 have hy:=T.both.1 hx
 have l1:=h1.lt xo hx
 have l2:=h2.lt yo hy
 have second: ∀T0 T1,Mg D1.n T0 T1 S2->T1.vis (D1.nx xo)=true->W D (eqE (D1.nx xo)) T0 (2*D1.n+D2.nx yo) (fun S _=>k S)=wk1 D2 S2 (D2.nx yo) fun T2=>k1 T1 T2:=fun T0 T1 hM hv1=>by
  rw [W_go (ybj (by omega)) (by rw [hM.vis2];exact hv2)]
  unfold wk1
  have main: ∀T b T2 b2,(Mg D1.n T T1 T2/\ ∃o,o<2*D2.n/\b=D.nx (2*D1.n+o)/\b2=D2.nx o)->T2.vis (D2.nx yo)=true->W D (eqE (D1.nx xo)) T b (fun S _=>k S)=W D2 (eqE (D2.nx yo)) T2 b2 fun T2 _=>k1 T1 T2:=fun T' b T2 b2 hR hv=>by
   refine Wsim (fun T b T2 b2=>(Mg D1.n T T1 T2/\ ∃o,o<2*D2.n/\b=D.nx (2*D1.n+o)/\b2=D2.nx o)/\T2.vis (D2.nx yo)=true) ?_ _ _ _ _ ⟨hR,hv⟩
   intro T' b T2 b2 ⟨⟨hM,o,ho,e1,e2⟩,hv⟩
   by_cases hoy:o=yo
   ·rw [hoy] at e1 e2
    rw [T.nxy hy] at e1
    subst e1 e2
    rw [yax,yax]
    exact ⟨rfl,fun _=>hk _ _ _ hM hv1 hv,fun h=>(by cases h)⟩
   ·rw [T.nx2 o ho hoy] at e1
    have hbl:=h2.lt o ho
    subst e1 e2
    rw [ybj (show 2*D1.n+D2.nx o≠D1.nx xo by omega),ybj (fun e=>hoy (h2.inj _ _ ho hy e))]
    refine ⟨rfl,fun h=>(by cases h),fun _=>⟨hM.vis2 _,fun _=>?_⟩⟩
    have hB:=ykv T hM hbl
    have: ∀{l l1:List (Int×WS×Nat)},BR (fun S b S2 b2=>Mg D1.n S T1 S2/\ ∃o,o<2*D2.n/\b=D.nx (2*D1.n+o)/\b2=D2.nx o) l l1->(∀y∈l1,y.2.1.vis (D2.nx yo)=true)->BR (fun T b T2 b2=>(Mg D1.n T T1 T2/\ ∃o,o<2*D2.n/\b=D.nx (2*D1.n+o)/\b2=D2.nx o)/\T2.vis (D2.nx yo)=true) l l1:=fun hb=>by
     induction hb with
     |nil=>intro _;exact .nil
     |cons hr _ ih=>intro q2;exact .cons ⟨hr,q2 _ (.head _)⟩ (ih fun y hy=>q2 y (.tail _ hy))
    exact this hB fun y hy=>yc9 hy hv
  have hB:=ykv T hM l2
  have: ∀{l l1:List (Int×WS×Nat)},BR (fun S b S2 b2=>Mg D1.n S T1 S2/\ ∃o,o<2*D2.n/\b=D.nx (2*D1.n+o)/\b2=D2.nx o) l l1->(∀y∈l1,y.2.1.vis (D2.nx yo)=true)->(sumB l fun S' b=>W D (eqE (D1.nx xo)) S' b fun S _=>k S)=sumB l1 fun S' b=>W D2 (eqE (D2.nx yo)) S' b fun T2 _=>k1 T1 T2:=fun hb=>by
   induction hb with
   |nil=>intro _;rfl
   |cons hr _ ih=>
    intro q2
    simp only [sumB]
    rw [main _ _ _ _ hr (q2 _ (.head _)),ih fun y hy=>q2 y (.tail _ hy)]
  exact this hB fun y hy=>by rw [(ycv hy).2,yae]
 have first: ∀T b T1 b1,(Mg D1.n T T1 S2/\ ∃o,o<2*D1.n/\b=D.nx o/\b1=D1.nx o)->T1.vis (D1.nx xo)=true->W D (eqE (D1.nx xo)) T b (fun S _=>k S)=W D1 (eqE (D1.nx xo)) T1 b1 fun T1 _=>wk1 D2 S2 (D2.nx yo) fun T2=>k1 T1 T2:=fun T' b T1 b1 hR hv=>by
  rw [ync (s2:=eqE (D1.nx xo)) (s1:=fun z=>eqE (D1.nx xo) z||eqE (2*D1.n+D2.nx yo) z) (fun z hz=>by show (eqE (D1.nx xo) z||_)=true;rw [hz];rfl)]
  refine Wsim (fun T b T1 b1=>(Mg D1.n T T1 S2/\ ∃o,o<2*D1.n/\b=D.nx o/\b1=D1.nx o)/\T1.vis (D1.nx xo)=true) ?_ _ _ _ _ ⟨hR,hv⟩
  intro T' b T1 b1 ⟨⟨hM,o,ho,e1,e2⟩,hv⟩
  by_cases hox:o=xo
  ·rw [hox] at e1 e2
   rw [T.nxx hx] at e1
   subst e1 e2
   have es:(eqE (D1.nx xo) (2*D1.n+D2.nx yo)||eqE (2*D1.n+D2.nx yo) (2*D1.n+D2.nx yo))=true:=by rw [yax,Bool.or_true]
   refine ⟨es.trans (yax _).symm,fun _=>second _ _ hM hv,fun h=>?_⟩
   rw [es] at h;cases h
  ·rw [T.nx1 o ho hox] at e1
   have hbl:=h1.lt o ho
   subst e1 e2
   have n1:D1.nx o≠D1.nx xo:=fun e=>hox (h1.inj _ _ ho hx e)
   have es:(eqE (D1.nx xo) (D1.nx o)||eqE (2*D1.n+D2.nx yo) (D1.nx o))=false:=by rw [ybj n1,ybj (show D1.nx o≠2*D1.n+D2.nx yo by omega)];rfl
   refine ⟨es.trans (ybj n1).symm,fun h=>?_,fun _=>⟨hM.vis1 _ hbl,fun _=>?_⟩⟩
   ·rw [es] at h;cases h
   ·have hB:=yku T hM hbl
    have: ∀{l l1:List (Int×WS×Nat)},BR (fun S b S1 b1=>Mg D1.n S S1 S2/\ ∃o,o<2*D1.n/\b=D.nx o/\b1=D1.nx o) l l1->(∀y∈l1,y.2.1.vis (D1.nx xo)=true)->BR (fun T b T1 b1=>(Mg D1.n T T1 S2/\ ∃o,o<2*D1.n/\b=D.nx o/\b1=D1.nx o)/\T1.vis (D1.nx xo)=true) l l1:=fun hb=>by
     induction hb with
     |nil=>intro _;exact .nil
     |cons hr _ ih=>intro q2;exact .cons ⟨hr,q2 _ (.head _)⟩ (ih fun y hy=>q2 y (.tail _ hy))
    exact this hB fun y hy=>yc9 hy hv
 have hB:=yku T h l1
 unfold wk1
 have: ∀{l l1:List (Int×WS×Nat)},BR (fun S b S1 b1=>Mg D1.n S S1 S2/\ ∃o,o<2*D1.n/\b=D.nx o/\b1=D1.nx o) l l1->(∀y∈l1,y.2.1.vis (D1.nx xo)=true)->(sumB l fun S' b=>W D (eqE (D1.nx xo)) S' b fun S _=>k S)=sumB l1 fun S' b=>W D1 (eqE (D1.nx xo)) S' b fun T1 _=>wk1 D2 S2 (D2.nx yo) fun T2=>k1 T1 T2:=fun hb=>by
  induction hb with
  |nil=>intro _;rfl
  |cons hr _ ih=>
   intro q2
   simp only [sumB]
   rw [first _ _ _ _ hr (q2 _ (.head _)),ih fun y hy=>q2 y (.tail _ hy)]
 exact this hB fun y hy=>by rw [(ycv hy).2,yae]
end
end Hs
end Go.Proofs.YtjpnnnognoaaiaaGreatDoor
namespace Go.Proofs.YtjpnnnognoaaiaaGreatDoor
set_option linter.unusedSimpArgs false
set_option linter.unusedVariables false
namespace Hs
section
variable {D D1 D2:Sh} {xo yo:Nat}
structure Lin {P:Type} (F:(P->Int)->Int):Prop where
 add: ∀f g,F (fun p=>f p+g p)=F f+F g
 mul: ∀(c:Int) f,F (fun p=>c*f p)=c*F f
theorem Lin.zero {P:Type} {F:(P->Int)->Int} (h:Lin F):F (fun _=>0)=0:=by
 have:=h.mul 0 (fun _=>0)
 rw [Int.zero_mul] at this
 simpa using this
theorem Lin.sumB {P:Type} {F:(P->Int)->Int} (h:Lin F) {k:P->WS->Nat->Int}: ∀l:List (Int×WS×Nat),Hs.sumB l (fun S b=>F fun p=>k p S b)=F fun p=>Hs.sumB l (k p)
 |[]=>h.zero.symm
 |x::l=>by
  simp only [Hs.sumB]
  rw [Lin.sumB h l,h.add,h.mul]
theorem Lin.W {P:Type} {F:(P->Int)->Int} (h:Lin F) (D:Sh) (stop:Nat->Bool) {k:P->WS->Nat->Int} (S:WS) (a:Nat):Hs.W D stop S a (fun S b=>F fun p=>k p S b)=F fun p=>Hs.W D stop S a (k p):=by
 have key: ∀f S a,Wf D stop f S a (fun S b=>F fun p=>k p S b)=F fun p=>Wf D stop f S a (k p):=fun f=>by
  induction f with
  |zero=>intro S a;exact h.zero.symm
  |succ f ih=>
   intro S a
   simp only [Wf]
   split
   ·rfl
   split
   ·exact h.zero.symm
   ·rw [←h.sumB]
    exact ya2 fun x _=>ih _ _
 exact key _ S a
theorem Lin.wk1 {P:Type} {F:(P->Int)->Int} (h:Lin F) (D:Sh) {k:P->WS->Int} (S:WS) (a:Nat):Hs.wk1 D S a (fun S=>F fun p=>k p S)=F fun p=>Hs.wk1 D S a (k p):=by
 unfold Hs.wk1
 rw [←h.sumB]
 exact ya2 fun x _=>h.W D _ (k:=fun p S _=>k p S) _ _
theorem Lin.run {P:Type} {F:(P->Int)->Int} (h:Lin F) (D:Sh) {X:P->Int->Int->Nat->Int}: ∀(B:List Nat) (S:WS),Hs.run (fun i j k=>F fun p=>X p i j k) D B S=F fun p=>Hs.run (X p) D B S
 |[],S=>rfl
 |a::B,S=>by
  simp only [Hs.run]
  cases hv:S.vis a with
  |true=>simp only [if_true];exact Lin.run h D B S
  |false=>
   simp only [Bool.false_eq_true,if_false]
   rw [←h.wk1]
   congr 1
   funext S'
   exact Lin.run h D B S'
theorem y6r (D:Sh) (S:WS) (a:Nat):Lin (fun k:WS->Int=>Hs.wk1 D S a k):=⟨fun f g=>yn0,fun c f=>yn1 c⟩
theorem yo6 (h1:Ok D1) (h2:Ok D2) (T:Two D D1 D2 xo yo) (X:Int->Int->Nat->Int): ∀(L2:List Nat) (S S1 S2:WS),(∀a∈L2,a<2*D2.n)->Mg D1.n S S1 S2->(yo<2*D2.n->S.vis (D1.nx xo)=true/\S2.vis (D2.nx yo)=true)->
  run X D (L2.map fun a=>2*D1.n+a) S=run (fun i j k=>X (S1.i+i) (S1.j+j) (S1.k+k)) D2 L2 S2
 |[],S,S1,S2,_,h,_=>by show X _ _ _=X _ _ _;rw [h.i,h.j,h.k]
 |a::L2,S,S1,S2,hl,h,hx=>by
  have ha:=hl a (.head _)
  have ih:=fun S S2 h hx=>yo6 h1 h2 T X L2 S S1 S2 (fun b hb=>hl b (.tail _ hb)) h hx
  show (if S.vis (2*D1.n+a)=true then _ else wk1 D S.cr (2*D1.n+a) (run X D (L2.map fun a=>2*D1.n+a)))=if S2.vis a=true then _ else wk1 D2 S2.cr a _
  rw [h.vis2]
  cases hv:S2.vis a with
  |true=>exact ih _ _ h hx
  |false=>
   simp only [Bool.false_eq_true,if_false]
   exact y6p h1 h2 T h.cr2 ha hv hx fun T' T2 hM hX=>ih T' T2 hM hX
theorem yjy (h1:Ok D1) (h2:Ok D2) (T:Two D D1 D2 xo yo) (X:Int->Int->Nat->Int) (L2:List Nat) (hl2: ∀a∈L2,a<2*D2.n): ∀(L1:List Nat) (S S1 S2:WS),(∀a∈L1,a<2*D1.n)->Mg D1.n S S1 S2->(xo<2*D1.n->S.vis (2*D1.n+D2.nx yo)=true/\S1.vis (D1.nx xo)=true)->
  run X D (L1++L2.map fun a=>2*D1.n+a) S=run (fun i j k=>run (fun i' j' k'=>X (i+i') (j+j') (k+k')) D2 L2 S2) D1 L1 S1
 |[],S,S1,S2,_,h,hx=>by
  refine yo6 h1 h2 T X L2 S S1 S2 hl2 h fun hy=>?_
  have hxl:=T.both.2 hy
  obtain ⟨k1,k2⟩:=hx hxl
  rw [h.vis2] at k1
  exact ⟨by rw [h.vis1 _ (h1.lt _ hxl)];exact k2,k1⟩
 |a::L1,S,S1,S2,hl,h,hx=>by
  have ha:=hl a (.head _)
  have ih:=fun S S1 h hx=>yjy h1 h2 T X L2 hl2 L1 S S1 S2 (fun b hb=>hl b (.tail _ hb)) h hx
  show (if S.vis a=true then _ else wk1 D S.cr a (run X D (L1++L2.map fun a=>2*D1.n+a)))=if S1.vis a=true then _ else wk1 D1 S1.cr a _
  rw [h.vis1 a ha]
  cases hv:S1.vis a with
  |true=>exact ih _ _ h hx
  |false=>
   simp only [Bool.false_eq_true,if_false]
   exact y6o h1 h2 T h.cr1 ha hv hx fun T' T1 hM hX=>ih T' T1 hM hX
theorem yzz (h1:Ok D1) (h2:Ok D2) (T:Two D D1 D2 xo yo) (hx: ¬xo<2*D1.n) (X:Int->Int->Nat->Int) {L1 L2:List Nat} (hl1: ∀a∈L1,a<2*D1.n) (hl2: ∀a∈L2,a<2*D2.n) {S S1 S2:WS} (h:Mg D1.n S S1 S2):
  run X D (L1++L2.map fun a=>2*D1.n+a) S=run (fun i j k=>run (fun i' j' k'=>X (i+i') (j+j') (k+k')) D2 L2 S2) D1 L1 S1:=
 yjy h1 h2 T X L2 hl2 L1 S S1 S2 hl1 h fun h=>absurd h hx
theorem y6s (h1:Ok D1) (h2:Ok D2) (T:Two D D1 D2 xo yo) (hx:xo<2*D1.n) (X:Int->Int->Nat->Int) {L1 L2:List Nat} (hl1: ∀a∈L1,a<2*D1.n) (hl2: ∀a∈L2,a<2*D2.n) {S S1 S2:WS} (h:Mg D1.n S S1 S2) (hv1:S1.vis (D1.nx xo)=false) (hv2:S2.vis (D2.nx yo)=false) (hS1:S1.i=0/\S1.j=0/\S1.k=0) (hS2:S2.i=0/\S2.j=0):
  run X D (D1.nx xo::L1++L2.map fun a=>2*D1.n+a) S=run (fun i j k=>run (fun i' j' k'=>X (i+i') (j+j') (k+k'-1)) D2 (D2.nx yo::L2) S2) D1 (D1.nx xo::L1) S1:=by
 have hy:=T.both.1 hx
 have l1:=h1.lt xo hx
 have hv:S.vis (D1.nx xo)=false:=by rw [h.vis1 _ l1];exact hv1
 show (if S.vis (D1.nx xo)=true then _ else wk1 D S.cr (D1.nx xo) (run X D (L1++L2.map fun a=>2*D1.n+a)))=if S1.vis (D1.nx xo)=true then _ else wk1 D1 S1.cr (D1.nx xo) _
 rw [if_neg (by simp [hv]),if_neg (by simp [hv1])]
 rw [y6q h1 h2 T hx h.cr1 hv2 (k1:=fun T1 T2=>run (fun i j k=>run (fun i' j' k'=>X (i+i') (j+j') (k+k')) D2 L2 T2) D1 L1 T1) fun T' T1 T2 hM q1 q2=>yjy h1 h2 T X L2 hl2 L1 T' T1 T2 hl1 hM fun _=>⟨by rw [hM.vis2];exact q2,q1⟩]
 congr 1
 funext T1
 have hL:=(y6r D2 S2 (D2.nx yo)).run D1 (X:=fun T2 i j k=>run (fun i' j' k'=>X (i+i') (j+j') (k+k')) D2 L2 T2) L1 T1
 refine hL.symm.trans ?_
 congr 1
 funext i j k
 show wk1 D2 S2 (D2.nx yo) _=if S2.vis (D2.nx yo)=true then _ else wk1 D2 S2.cr (D2.nx yo) _
 rw [if_neg (by simp [hv2]),yne]
 congr 1
 funext T2
 have key: ∀(B:List Nat) (S:WS) (X:Int->Int->Nat->Int),run X D2 B S.cr=run (fun i j k=>X i j (k+1)) D2 B S:=fun B=>by
  induction B with
  |nil=>intro S X;rfl
  |cons a B ih=>
   intro S X
   show (if S.vis a=true then _ else wk1 D2 S.cr.cr a _)=if S.vis a=true then _ else wk1 D2 S.cr a _
   split
   ·exact ih S X
   ·rw [show wk1 D2 S.cr.cr a (run X D2 B)=wk1 D2 S.cr a (fun S=>run X D2 B S.cr) from yne _ _]
    congr 1
    funext S'
    exact ih S' X
 rw [key]
 congr 1
end
end Hs
end Go.Proofs.YtjpnnnognoaaiaaGreatDoor
