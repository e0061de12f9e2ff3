/- Plain: the reversed diagram has the same value. -/
import Derived.Test.YtjpnnnognoaaiaaDoorHs25
import Derived.Test.YtjpnnnognoaaiaaDoorHs13
import Derived.Test.YtjpnnnognoaaiaaDoorZr
import Derived.Test.YtjpnnnognoaaiaaDoorZn
namespace Go.Proofs.YtjpnnnognoaaiaaDoor
set_option linter.unusedSimpArgs false
set_option linter.unusedVariables false
namespace Hs
open Sp (Sph siD PermN itn)
structure Rev (D D':Sh):Prop where
 n:D'.n=D.n
 sg: ∀c,c<D.n->D'.sg c=D.sg c
 nx: ∀a,a<2*D.n->D'.nx (D.nx a)=a
def tau (sm:Nat->Bool) (a:Nat):Nat:=if sm (a/2) then co a else a
theorem y52 (sm:Nat->Bool) (a:Nat):tau sm a/2=a/2:=by unfold tau;split
                                                      ·exact yai a
                                                      ·rfl
theorem yid (sm:Nat->Bool) (a:Nat):tau sm (tau sm a)=a:=by
 have:=y52 sm a
 unfold tau at*
 rw [this]
 split
 ·exact yap a
 ·rfl
theorem yhk {sm:Nat->Bool} {a:Nat} (h:sm (a/2)=false):tau sm a=a:=by unfold tau;rw [h];rfl
theorem yps {sm:Nat->Bool} {a:Nat} (h:sm (a/2)=true):tau sm a=co a:=by unfold tau;rw [h];rfl
def rvS (S:WS):WS:={S with vis:=fun a=>if S.st (a/2)=2 then S.vis (co a) else S.vis a}
theorem yfd {S:WS} {a:Nat} (h:S.st (a/2)≠2):(rvS S).vis a=S.vis a:=if_neg h
theorem yj8 {S:WS} {a:Nat} (h:S.st (a/2)=2):(rvS S).vis a=S.vis (co a):=if_pos h
section
variable {D D':Sh} {X:Int->Int->Nat->Int}
theorem ynk {S:WS} (hB:Bd D S) {a:Nat} (ha:a<2*D.n):(rvS S).vis a=S.vis (D.nx a):=by
 have f:=hB a ha
 have f':=hB (co a) (yav ha)
 have hcc:=yai a
 unfold Fit at f f'
 rw [hcc,yap] at f'
 by_cases h:S.st (a/2)=2
 ·rw [yj8 h]
  unfold FitP at f'
  rw [h] at f'
  rcases f' with ⟨h,_⟩|⟨h,_⟩|⟨h,_⟩|⟨_,h1,_⟩
  ·omega
  ·omega
  ·omega
  ·exact Bool.eq_iff_iff.2 h1
 ·rw [yfd h]
  unfold FitP at f
  rcases f with ⟨_,h1,h2⟩|⟨_,h1,h2⟩|⟨_,h1,_⟩|⟨h',_⟩
  ·rw [h1]
   cases e:S.vis (D.nx a) with
   |false=>rfl
   |true=>exact absurd e h2
  ·rw [h1,h2]
  ·exact Bool.eq_iff_iff.2 h1
  ·exact absurd h' h
theorem Rev.lt (hD:Ok D) (R:Rev D D') {a:Nat} (ha:a<2*D.n): ∃b,b<2*D.n/\D.nx b=a/\D'.nx a=b:=by
 have hp:PermN (2*D.n) D.nx:=⟨hD.lt,hD.inj⟩
 obtain ⟨k,h0,hk⟩:=hp.back ha
 obtain ⟨j,rfl⟩: ∃j,k=j+1:=⟨k-1,by omega⟩
 have e:D.nx (itn D.nx j a)=a:=hk
 have:=R.nx _ (hp.itn_lt ha j)
 rw [e] at this
 exact ⟨_,hp.itn_lt ha j,e,this⟩
theorem yzn (hD:Ok D) (R:Rev D D') {S:WS} (hB:Bd D S) {a:Nat} (ha:a<2*D.n):(rvS S).vis (D'.nx a)=S.vis a:=by
 obtain ⟨b,h1,h2,h3⟩:=R.lt hD ha
 rw [h3,ynk hB h1,h2]
theorem ysc (hD:Ok D) (R:Rev D D') {S:WS} (hB:Bd D S):Bd D' (rvS S):=fun a ha=>by
 rw [R.n] at ha
 have hc:=yav ha
 show FitP (S.st (a/2)) ((rvS S).vis a) ((rvS S).vis (co a)) ((rvS S).vis (D'.nx a)=true) ((rvS S).vis (D'.nx (co a))=true)
 rw [yzn hD R hB ha,yzn hD R hB hc,ynk hB ha,ynk hB hc]
 have f:=hB a ha
 have f':=hB (co a) hc
 unfold Fit at f f'
 rw [yai,yap] at f'
 show FitP (S.st (a/2)) _ _ _ _
 unfold FitP at*
 rcases f with ⟨h,h1,h2⟩|⟨h,h1,h2⟩|⟨h,h1,h2⟩|⟨h,h1,h2⟩
 ·refine .inl ⟨h,?_,by rw [h1];simp⟩
  cases e:S.vis (D.nx a) with
  |false=>rfl
  |true=>exact absurd e h2
 ·exact .inr (.inl ⟨h,h2,h1⟩)
 ·have h3:=Bool.eq_iff_iff.2 h1
  rcases f' with ⟨g,_⟩|⟨g,_⟩|⟨_,g1,_⟩|⟨g,_⟩
  ·omega
  ·omega
  ·have h4:=Bool.eq_iff_iff.2 g1
   refine .inr (.inr (.inl ⟨h,by rw [h3],by rw [←h3,←h4,h2]⟩))
  ·omega
 ·have h3:=Bool.eq_iff_iff.2 h1
  rcases f' with ⟨g,_⟩|⟨g,_⟩|⟨g,_⟩|⟨_,g1,_⟩
  ·omega
  ·omega
  ·omega
  ·have h4:=Bool.eq_iff_iff.2 g1
   refine .inr (.inr (.inr ⟨h,by rw [←h4],by rw [←h3,←h4,h2];simp⟩))
theorem y7x {S:WS} {x q:Nat} (h:S.st x<=1) (hq:q≠2):rvS (S.sx x q)=(rvS S).sx x q:=by
 refine WS.ext' (fun b=>rfl) ?_ rfl rfl rfl
 funext a
 show (if upd S.st x q (a/2)=2 then S.vis (co a) else S.vis a)=if S.st (a/2)=2 then S.vis (co a) else S.vis a
 by_cases e:a/2=x
 ·rw [e,yad,if_neg hq,if_neg (by omega)]
 ·rw [yaf _ _ e]
theorem y53 (hD:Ok D) (hD':Ok D') (R:Rev D D') {B:List Nat} (hL: ∀x,x<D.n->2*x∈B):SkR D (fun S=>run X D' B (rvS S)):=fun S x hB hx h=>by
 have hx':x<D'.n:=by rw [R.n];exact hx
 have h1:=yk0 (X:=X) hD' (B:=B) (fun y hy=>hL y (by rw [←R.n];exact hy)) (rvS S) x (ysc hD R hB) hx' h
 have hp:pq D x<=1/\nq D x<=1/\pq D' x=pq D x/\nq D' x=nq D x:=by unfold pq nq;rw [R.sg x hx];split<;>omega
 obtain ⟨p1,p2,p3,p4⟩:=hp
 rw [p3,p4] at h1
 have e: ∀q u v,q≠2->rvS ((S.sx x q).sc u v)=((rvS S).sx x q).sc u v:=fun q u v hq=>by
  show (rvS (S.sx x q)).sc u v=_
  rw [y7x h hq]
 show run X D' B (rvS _)=run X D' B (rvS _)+run X D' B (rvS _)
 rw [e _ _ _ (by omega),e _ _ _ (by omega),e _ _ _ (by omega)]
 exact h1
def rvL (l:List (Nat×Bool)):List (Nat×Bool):=(l.map fun x=>(if x.2 then x.1 else co x.1,x.2)).reverse
theorem yzo (hD:Ok D) (R:Rev D D'): ∀(l:List (Nat×Bool)) (b e:Nat),(∀x∈l,x.1<2*D.n)->chn D b l e->chn D' (D'.nx e) (rvL l) (D'.nx b)
 |[],b,e,_,h=>by rw [show b=e from h];exact rfl
 |(a,p)::l,b,e,hl,h=>by
  obtain ⟨h1,h2⟩:=h
  have ha:=hl (a,p) (.head _)
  have ih:=yzo hD R l _ e (fun x hx=>hl x (.tail _ hx)) h2
  have e1:rvL ((a,p)::l)=rvL l++[(if p then a else co a,p)]:=by unfold rvL;simp
  rw [e1]
  refine yfm _ _ _ _ _ ih ⟨?_,?_⟩
  ·cases p with
   |true=>exact R.nx a ha
   |false=>exact R.nx (co a) (yav ha)
  ·rw [h1]
   cases p with
   |true=>rfl
   |false=>
    show D'.nx (co (co a))=_
    rw [yap]
theorem yoc {l:List (Nat×Bool)} {sm:Nat->Bool} (ty: ∀x∈l,x.2= !sm (x.1/2)):(rvL l).map Prod.fst=((l.map Prod.fst).map (tau sm)).reverse:=by
 unfold rvL
 rw [List.map_reverse,List.map_map,List.map_map]
 congr 1
 refine List.map_congr_left fun x hx=>?_
 show (if x.2 then x.1 else co x.1)=tau sm x.1
 unfold tau
 rw [ty x hx]
 cases sm (x.1/2)<;>rfl
theorem yk1 {l:List (Nat×Bool)} {sm:Nat->Bool} (ty: ∀x∈l,x.2= !sm (x.1/2)) (a:Nat):kOf (rvL l) a=kOf l (tau sm a):=by
 unfold kOf
 refine decide_eq_decide.2 ?_
 rw [yoc ty,List.mem_reverse,List.mem_map]
 exact ⟨fun ⟨b,hb,e⟩=>by rw [←e,yid];exact hb,fun h=>⟨_,h,yid _ _⟩⟩
theorem y7y (hD:Ok D) (hD':Ok D') (R:Rev D D') {sm:Nat->Bool} {l:List (Nat×Bool)} {b:Nat} (C:Crc D (kOf l) sm l b):Crc D' (kOf (rvL l)) sm (rvL l) (D'.nx b):=by
 have hm: ∀x∈rvL l,∃y∈l,x=(if y.2 then y.1 else co y.1,y.2):=fun x hx=>by
  unfold rvL at hx
  rw [List.mem_reverse] at hx
  obtain ⟨y,hy,e⟩:=List.mem_map.1 hx
  exact ⟨y,hy,e.symm⟩
 refine Crc.make hD' (yzo hD R l b b C.lt C.ch) (fun h=>C.ne ?_) (fun x hx=>?_) ?_ fun x hx=>?_
 ·unfold rvL at h;simpa using h
 ·obtain ⟨y,hy,rfl⟩:=hm x hx
  rw [R.n]
  show (if y.2 then y.1 else co y.1)<_
  split
  ·exact C.lt y hy
  ·exact yav (C.lt y hy)
 ·rw [yoc C.ty]
  refine List.pairwise_reverse.2 ?_
  exact List.Pairwise.map _ (fun a b h e=>h (by rw [←yid sm a,←e,yid])) C.nd
 ·obtain ⟨y,hy,rfl⟩:=hm x hx
  show y.2= !sm ((if y.2 then y.1 else co y.1)/2)
  rw [show (if y.2 then y.1 else co y.1)/2=y.1/2 by split;rfl;exact yai _]
  exact C.ty y hy
theorem y7z {S:WS} (hB:Bd D S) {l:List (Nat×Bool)} (lt: ∀a,kOf l a=true->a<2*D.n) (ty: ∀x∈l,x.2= !sm0 S (x.1/2)):TK (kOf (rvL l)) (sm0 S) (rvS S)=rvS (TK (kOf l) (sm0 S) S):=by
 have big: ∀a,¬a<2*D.n->kOf l a=false/\kOf l (co a)=false:=fun a h=>by
  have hc:=yai a
  refine ⟨?_,?_⟩
  ·cases e:kOf l a with
   |false=>rfl
   |true=>exact absurd (lt a e) h
  ·cases e:kOf l (co a) with
   |false=>rfl
   |true=>have:=lt _ e;omega
 have five: ∀a,a<2*D.n->S.st (a/2)=5->S.vis a=false/\S.vis (co a)=false:=fun a ha h=>by
  have f:=hB a ha
  have f':=hB (co a) (yav ha)
  unfold Fit FitP at f f'
  rw [yai] at f'
  rw [h] at f f'
  refine ⟨?_,?_⟩
  ·rcases f with ⟨_,h,_⟩|⟨h,_⟩|⟨h,_⟩|⟨h,_⟩
   ·exact h
   all_goals omega
  ·rcases f' with ⟨_,h,_⟩|⟨h,_⟩|⟨h,_⟩|⟨h,_⟩
   ·exact h
   all_goals omega
 have st: ∀b,(TK (kOf (rvL l)) (sm0 S) (rvS S)).st (b/2)=(TK (kOf l) (sm0 S) S).st (b/2):=fun b=>by
  rw [ybl,ybl,yk1 ty,yk1 ty]
  show (if _ then _ else if _ then _ else if _ then _ else S.st (b/2))=_
  cases hs:sm0 S (b/2) with
  |false=>
   have h2:=(yc5.1 hs).2
   rw [yhk hs,yhk (a:=co b) (by rw [yai];exact hs),yfd h2,yfd (a:=co b) (by rw [yai];exact h2)]
  |true=>
   rw [yps hs,yps (a:=co b) (by rw [yai];exact hs),yap]
   by_cases hb:b<2*D.n
   ·rcases ydg.1 hs with h|h
    ·obtain ⟨v1,v2⟩:=five b hb h
     rw [yfd (by omega),yfd (a:=co b) (by rw [yai];omega),v1,v2]
     cases kOf l b<;>cases kOf l (co b)<;>rfl
    ·rw [yj8 h,yj8 (a:=co b) (by rw [yai];exact h),yap]
     cases kOf l b<;>cases kOf l (co b)<;>rfl
   ·obtain ⟨k1,k2⟩:=big b hb
    rw [k1,k2];rfl
 refine WS.ext' st ?_ rfl rfl rfl
 funext a
 show ((rvS S).vis a||kOf (rvL l) a)=if (TK (kOf l) (sm0 S) S).st (a/2)=2 then (S.vis (co a)||kOf l (co a)) else (S.vis a||kOf l a)
 rw [yk1 ty,ybl]
 cases hs:sm0 S (a/2) with
 |false=>
  have h2:=(yc5.1 hs).2
  rw [yhk hs,yfd h2,if_neg]
  cases kOf l a<;>cases kOf l (co a)<;>cases S.vis a<;>cases S.vis (co a)<;>simp [h2]
 |true=>
  rw [yps hs]
  by_cases hb:a<2*D.n
  ·rcases ydg.1 hs with h|h
   ·obtain ⟨v1,v2⟩:=five a hb h
    rw [yfd (by omega),v1,v2,h]
    cases kOf l a<;>cases kOf l (co a)<;>rfl
   ·rw [yj8 h,h]
    cases kOf l a<;>cases kOf l (co a)<;>cases S.vis a<;>cases S.vis (co a)<;>simp
  ·obtain ⟨k1,k2⟩:=big a hb
   rw [k1,k2]
   simp only [Bool.and_self,Bool.or_false,Bool.false_eq_true,if_false,ite_false]
   rfl
theorem yie (S:WS):sm0 (rvS S)=sm0 S:=rfl
theorem y54 (hD:Ok D) (hD':Ok D') (R:Rev D D') {al al':Nat->Nat} (hP:Pla D al) (hP':Pla D' al') (hX:Good X) {S:WS} {B B':List Nat} (hB:Bd D S) (hC:Cov D B S) (hC':Cov D' B' (rvS S)):run X D' B' (rvS S)=run X D B S:=by
 have fle: ∀S:WS,fu D S<=2*D.n:=fun S=>by
  have: ∀k,unv S.vis k<=k:=fun k=>by
   induction k with
   |zero=>exact Nat.le_refl _
   |succ k ih=>simp only [unv];split<;>omega
  exact this _
 have key: ∀m (S:WS) (B B':List Nat),rl S D.n*(2*D.n+1)+fu D S<m->Bd D S->Cov D B S->Cov D' B' (rvS S)->run X D' B' (rvS S)=run X D B S:=fun m=>by
  induction m with
  |zero=>intro _ _ _ h;omega
  |succ m ih=>
   intro S B B' hm hB hC hC'
   have IH: ∀S' B B',Bd D S'->(rl S' D.n<rl S D.n\/(rl S' D.n<=rl S D.n/\fu D S'<fu D S))->Cov D B S'->Cov D' B' (rvS S')->run X D' B' (rvS S')=run X D B S':=fun S' B B' hB' hl c1 c2=>by
    refine ih S' B B' ?_ hB' c1 c2
    have:=fle S'
    rcases hl with h|⟨h,h'⟩
    ·have:(rl S' D.n+1)*(2*D.n+1)<=rl S D.n*(2*D.n+1):=Nat.mul_le_mul_right _ h
     rw [Nat.add_mul,Nat.one_mul] at this
     omega
    ·have:rl S' D.n*(2*D.n+1)<=rl S D.n*(2*D.n+1):=Nat.mul_le_mul_right _ h
     omega
   rcases yg4 (X:=X) (D:=D) B S with h|⟨b,_,b1,_,b3,_,_⟩
   ·have hall: ∀a,a<2*D.n->S.vis a=true:=fun a ha=>by
     cases e:S.vis a with
     |true=>rfl
     |false=>rw [h a (hC.all a ha e)] at e;cases e
    rw [ye4 B S h,ye4 B' (rvS S) fun a ha=>?_]
    ·rfl
    ·have hal:a<2*D.n:=by have:=hC'.lt a ha;rw [R.n] at this;exact this
     rw [ynk hB hal]
     exact hall _ (hD.lt a hal)
   ·have hb:=hC.lt b b1
    have kR: ∀c,c<2*D.n-> ∀S,Cov D (c::List.range (2*D.n)) S:=fun c hc S=>⟨fun a ha=>by
     rcases List.mem_cons.1 ha with rfl|ha
     ·exact hc
     ·exact List.mem_range.1 ha,fun a ha _=>by simp [ha]⟩
    have kR': ∀c,c<2*D.n-> ∀S,Cov D' (c::List.range (2*D.n)) S:=fun c hc S=>⟨fun a ha=>by
     rw [R.n]
     rcases List.mem_cons.1 ha with rfl|ha
     ·exact hc
     ·exact List.mem_range.1 ha,fun a ha _=>by rw [R.n] at ha;simp [ha]⟩
    have hL: ∀c,∀x,x<D.n->2*x∈c::List.range (2*D.n):=fun c x hx=> .tail _ (List.mem_range.2 (by omega))
    obtain ⟨b',hb',hbe⟩: ∃b',b'<2*D.n/\b'=D'.nx b:=⟨_,by have:=hD'.lt b (by rw [R.n];exact hb);rw [R.n] at this;exact this,rfl⟩
    rw [ord hD hP hX hB hC (kR b hb S),ord hD' hP' hX (ysc hD R hB) hC' (kR' b' hb' (rvS S))]
    obtain ⟨l,C,hun,_,_⟩:=circ hD hB hb b3
    refine yzl (F:=fun S=>run X D' (b'::List.range (2*D.n)) (rvS S)) (G:=run X D (b::List.range (2*D.n))) (y53 hD hD' R (hL b')) (yk0 hD (hL b)) hB (fun S' hB' hv hr=>IH S' _ _ hB' (.inl hr) (kR b hb S') (kR' b' hb' _)) (yku S l (t:=0) (by omega)) fun u v=>?_
    obtain ⟨p1,p2,p3⟩:=yh2 (t:=0) (by omega) hB C hun
    have es:sm0 (put D S l 0)=sm0 S:=yj3 (by omega)
    have hr1: ∀a,(fun b=>if (0:Nat)=0 then co b % 2 else b % 2) (co a)=a % 2:=fun a=>by show co (co a)% 2=_;rw [yap]
    obtain ⟨e1,hbd⟩:=ycw (X:=X) hD (p1.sc u v) C (p2.sc u v) (p3.ord C.ty) hr1 (List.range (2*D.n))
    show run X D' (b'::List.range (2*D.n)) (rvS ((put D S l 0).sc u v))=run X D (b::List.range (2*D.n)) ((put D S l 0).sc u v)
    rw [e1]
    have hBP:=p1.sc u v
    have hunP: ∀a,kOf l a=true->((put D S l 0).sc u v).vis a=false:=hun
    obtain ⟨P,hP0⟩: ∃P,P=(put D S l 0).sc u v:=⟨_,rfl⟩
    have eP:sm0 P=sm0 S:=by rw [hP0];exact es
    have stP:P.st=(put D S l 0).st:=by rw [hP0];rfl
    have p2':=p2.sc u v
    rw [←hP0] at e1 hbd hBP hunP p2'⊢
    have tyP: ∀x∈l,x.2= !sm0 P (x.1/2):=by rw [eP];exact C.ty
    have hT:=y7z hBP (fun a h=>C.lt' h) tyP
    rw [eP] at hT
    have hunR: ∀a,kOf (rvL l) a=true->(rvS P).vis a=false:=fun a ha=>by
     rw [yk1 C.ty] at ha
     cases hs:sm0 P (a/2) with
     |false=>
      rw [←eP,yhk hs] at ha
      rw [yfd (yc5.1 hs).2];exact hunP a ha
     |true=>
      rw [←eP,yps hs] at ha
      rcases ydg.1 hs with h|h
      ·have f:=hBP a (by have:=C.lt' ha;have:=yai a;omega)
       unfold Fit FitP at f
       rw [h] at f
       rw [yfd (by omega)]
       rcases f with ⟨_,h,_⟩|⟨h,_⟩|⟨h,_⟩|⟨h,_⟩
       ·exact h
       all_goals omega
      ·rw [yj8 h];exact hunP _ ha
    have C':Crc D' (kOf (rvL l)) (sm0 S) (rvL l) b':=hbe▸y7y hD hD' R C
    have hBR:=ysc hD R hBP
    have Q':QK D' (kOf (rvL l)) (sm0 S) (fun b=>co b % 2) (rvS P).st (rvL l) (rvS P) D'.n:=by
     have:=QK.of (r:=fun b=>co b % 2) hBR (by rw [yie,eP];exact C') hunR fun c hc k1 k2 k3=>by
      have k3':P.st (c/2)<=1:=k3
      have hs:sm0 S (c/2)=false:=by rw [←eP];exact yc5.2 (by omega)
      rw [R.n] at hc
      rw [yk1 C.ty,yhk hs] at k1
      rw [yk1 C.ty,yhk (a:=co c) (by rw [yai];exact hs)] at k2
      have e:=p2'.q c hc k1 k2 (by omega)
      rw [hunP _ k2,hs] at e
      show P.st (c/2)=co c % 2
      rw [e] at k3'⊢
      revert k3'
      unfold tab
      cases P.vis c<;>simp
     rwa [yie,eP] at this
    have M':Mx (sm0 S) (rvS P).st (rvL l) ((rvL l).length-(rvL l).length):=fun a ha hsub=>by
     rw [Nat.sub_self,List.take_zero,if_neg (by simp)]
     show P.st (a/2)=co a % 2
     have hsub2:[co a,a].Sublist ((l.map Prod.fst).map (tau (sm0 S))):=by
      rw [yoc C.ty] at hsub
      have:=List.reverse_sublist.2 hsub
      rwa [List.reverse_reverse] at this
     have hsub3:[co a,a].Sublist (l.map Prod.fst):=by
      have:=List.Sublist.map (tau (sm0 S)) hsub2
      rw [List.map_map,show (tau (sm0 S)∘tau (sm0 S))=id from funext fun x=>yid _ x,List.map_id] at this
      have e:[co a,a].map (tau (sm0 S))=[co a,a]:=by
       show [tau (sm0 S) (co a),tau (sm0 S) a]=_
       rw [yhk ha,yhk (a:=co a) (by rw [yai];exact ha)]
      rwa [e] at this
     have:=p3 (co a) (by rw [yai];exact ha) (by rw [yap];exact hsub3)
     rw [yai] at this
     rw [stP];exact this
    have:=mixed (X:=X) hD' hP' hX _ (rvL l).length (rvS P) b' (rvL l) (List.range (2*D.n)) (Nat.le_refl _) (Nat.le_refl _) hBR (by rw [yie,eP];exact C') hunR (by rw [yie,eP];exact Q') (by rw [yie,eP];exact M') (fun c hc=>kR' c (by rw [←R.n];exact hc) _)
    rw [this,yie,eP,hT]
    have h2:=IH (TK (kOf l) (sm0 S) P).cr (List.range (2*D.n)) (List.range (2*D.n)) hbd.cr (.inr ⟨?_,?_⟩) ⟨fun a ha=>List.mem_range.1 ha,fun a ha _=>List.mem_range.2 ha⟩ ⟨fun a ha=>by rw [R.n];exact List.mem_range.1 ha,fun a ha _=>by rw [R.n] at ha;exact List.mem_range.2 ha⟩
    ·exact h2
    ·refine Nat.le_trans (ycv (S:=put D S l 0) (S':=(TK (kOf l) (sm0 S) P).cr) (fun c h=>?_) D.n) (yre S)
     have h':(TK (kOf l) (sm0 S) P).st c<=1:=h
     have:=ypp h'
     rwa [stP] at this
    ·have e:fu D P=fu D S:=by rw [hP0];rfl
     have:=yvt (S:=P) (sm:=sm0 S) hb C.hd (hunP b C.hd)
     rw [e] at this;exact this
 exact key _ S B B' (Nat.lt_succ_self _) hB hC hC'
end
end Hs
end Go.Proofs.YtjpnnnognoaaiaaDoor
namespace Go.Proofs.YtjpnnnognoaaiaaDoor
set_option linter.unusedSimpArgs false
set_option linter.unusedVariables false
namespace Hs
section
variable {n1:Nat} {S S1 S2:WS}
end
section
variable {D D1 D2:Sh} {xo yo:Nat}
end
end Hs
end Go.Proofs.YtjpnnnognoaaiaaDoor
namespace Go.Proofs.YtjpnnnognoaaiaaDoor
set_option linter.unusedSimpArgs false
set_option linter.unusedVariables false
namespace Hs
section
variable {D D1 D2:Sh} {xo yo:Nat}
structure Lin {P:Type} (F:(P->Int)->Int):Prop where
 add: ∀f g,F (fun p=>f p+g p)=F f+F g
 mul: ∀(c:Int) f,F (fun p=>c*f p)=c*F f
end
end Hs
end Go.Proofs.YtjpnnnognoaaiaaDoor
namespace Go.Proofs.YtjpnnnognoaaiaaDoor
set_option linter.unusedSimpArgs false
set_option linter.unusedVariables false
section
variable {n:Nat} {mt jn mt':Int->Int} {x y:Int}
end
section
variable {m:List Int} {n:Nat}
end
end Go.Proofs.YtjpnnnognoaaiaaDoor
namespace Go.Proofs.YtjpnnnognoaaiaaDoor
set_option linter.unusedSimpArgs false
set_option linter.unusedVariables false
namespace Sp
open Classical
section
variable {N:Nat} {si al al':Nat->Nat}
end
end Sp
section
variable {s1 s2 m1 m2:List Int} {L1 L2:Int} {n1 n2:Nat}
end
end Go.Proofs.YtjpnnnognoaaiaaDoor
namespace Go.Proofs.YtjpnnnognoaaiaaDoor
set_option linter.unusedSimpArgs false
set_option linter.unusedVariables false
namespace Hs
open Sp (Sph siD PermN itn SC alD)
section
variable {s1 m1 s2 m2:List Int} {L1 L2:Int}
end
theorem y55 {D:Sh} (B:List Nat) (S:WS):Lin (fun X:Int×Int×Nat->Int=>run (fun i j k=>X (i,j,k)) D B S):=by
 constructor
 ·intro f g
  have key: ∀(B:List Nat) (S:WS),run (fun i j k=>f (i,j,k)+g (i,j,k)) D B S=run (fun i j k=>f (i,j,k)) D B S+run (fun i j k=>g (i,j,k)) D B S:=fun B=>by
   induction B with
   |nil=>intro S;rfl
   |cons a B ih=>
    intro S
    show (if S.vis a=true then _ else wk1 D S.cr a _)=(if S.vis a=true then _ else wk1 D S.cr a _)+(if S.vis a=true then _ else wk1 D S.cr a _)
    split
    ·exact ih S
    ·rw [←yts];congr 1;funext T;exact ih T
  exact key B S
 ·intro c f
  have key: ∀(B:List Nat) (S:WS),run (fun i j k=>c*f (i,j,k)) D B S=c*run (fun i j k=>f (i,j,k)) D B S:=fun B=>by
   induction B with
   |nil=>intro S;rfl
   |cons a B ih=>
    intro S
    show (if S.vis a=true then _ else wk1 D S.cr a _)=c*(if S.vis a=true then _ else wk1 D S.cr a _)
    split
    ·exact ih S
    ·rw [←ytt];congr 1;funext T;exact ih T
  exact key B S
end Hs
end Go.Proofs.YtjpnnnognoaaiaaDoor
