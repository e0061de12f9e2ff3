/- Plain: renaming; the value of a switched diagram. -/
import Derived.Test.YtjpnnnognoaaiaaDoorZp
import Derived.Test.YtjpnnnognoaaiaaDoorZm
import Derived.Test.YtjpnnnognoaaiaaDoorSq
import Derived.Test.YtjpnnnognoaaiaaDoorZo
namespace Go.Proofs.YtjpnnnognoaaiaaDoor
set_option linter.unusedSimpArgs false
set_option linter.unusedVariables false
namespace Hs
open Sp (Sph siD PermN itn SC alD)
def rnE (p:Nat->Nat) (f:Nat->Bool) (a:Nat):Nat:=2*p (a/2)+(if f (a/2) then 1-a % 2 else a % 2)
theorem ygm (p:Nat->Nat) (f:Nat->Bool) (a:Nat):rnE p f a/2=p (a/2):=by unfold rnE;split<;>omega
theorem ykz (p:Nat->Nat) (f:Nat->Bool) (a:Nat):rnE p f a % 2=if f (a/2) then 1-a % 2 else a % 2:=by unfold rnE;split<;>omega
theorem y7o (p:Nat->Nat) (f:Nat->Bool) (a:Nat):co (rnE p f a)=rnE p f (co a):=by
 have h1:=yai a
 have h2:=ydn a
 have e:co (rnE p f a)=2*(rnE p f a/2)+(1-rnE p f a % 2):=by unfold co;split<;>omega
 rw [e,ygm,ykz]
 unfold rnE
 rw [h1,h2]
 split<;>omega
structure Ren (D D':Sh) (p:Nat->Nat) (f:Nat->Bool):Prop where
 n:D'.n=D.n
 lt: ∀c,c<D.n->p c<D.n
 inj: ∀c d,c<D.n->d<D.n->p c=p d->c=d
 sg: ∀c,c<D.n->D'.sg (p c)=if f c then-D.sg c else D.sg c
 nx: ∀a,a<2*D.n->D'.nx (rnE p f a)=rnE p f (D.nx a)
structure RR (D:Sh) (p:Nat->Nat) (f:Nat->Bool) (S S':WS):Prop where
 st: ∀c,c<D.n->S'.st (p c)=if f c=true/\S.st c<=1 then 1-S.st c else S.st c
 vis: ∀a,a<2*D.n->S'.vis (rnE p f a)=S.vis a
 i:S'.i=S.i
 j:S'.j=S.j
 k:S'.k=S.k
section
variable {D D':Sh} {p:Nat->Nat} {f:Nat->Bool}
theorem yn9 (R:Ren D D' p f) {a b:Nat} (ha:a<2*D.n) (hb:b<2*D.n) (h:rnE p f a=rnE p f b):a=b:=by
 have h1:p (a/2)=p (b/2):=by rw [←ygm p f a,←ygm p f b,h]
 have h2:=R.inj _ _ (by omega) (by omega) h1
 have h3:rnE p f a % 2=rnE p f b % 2:=by rw [h]
 rw [ykz,ykz,h2] at h3
 split at h3<;>omega
theorem yr1 (R:Ren D D' p f) {a:Nat} (ha:a<2*D.n):rnE p f a<2*D.n:=by
 have h1:=ygm p f a
 have h2:=R.lt (a/2) (by omega)
 omega
theorem RR.mark (R:Ren D D' p f) {S S':WS} (h:RR D p f S S') {a:Nat} (ha:a<2*D.n) {v:Nat} (hv: ¬v<=1):RR D p f (S.mk' a v) (S'.mk' (rnE p f a) v):=by
 refine ⟨fun c hc=>?_,fun b hb=>?_,h.i,h.j,h.k⟩
 ·show upd S'.st (rnE p f a/2) v (p c)=if f c=true/\upd S.st (a/2) v c<=1 then 1-upd S.st (a/2) v c else upd S.st (a/2) v c
  rw [ygm]
  by_cases e:c=a/2
  ·subst e;rw [yad,yad,if_neg fun h=>hv h.2]
  ·rw [yaf _ _ e,yaf _ _ fun e'=>e (R.inj _ _ hc (by omega) e')];exact h.st c hc
 ·show upd S'.vis (rnE p f a) true (rnE p f b)=upd S.vis a true b
  by_cases e:b=a
  ·subst e;rw [yad,yad]
  ·rw [yaf _ _ e,yaf _ _ fun e'=>e (yn9 R hb ha e')];exact h.vis b hb
theorem RR.sc {S S':WS} (h:RR D p f S S') (u v:Int):RR D p f (S.sc u v) (S'.sc u v):=
 ⟨h.st,h.vis,by show S'.i+u=S.i+u;rw [h.i],by show S'.j+v=S.j+v;rw [h.j],h.k⟩
theorem RR.cr {S S':WS} (h:RR D p f S S'):RR D p f S.cr S'.cr:=⟨h.st,h.vis,h.i,h.j,by show S'.k+1=S.k+1;rw [h.k]⟩
theorem yze (hD:Ok D) (R:Ren D D' p f) {S S':WS} (h:RR D p f S S') {a:Nat} (ha:a<2*D.n):BR (fun S b S' b'=>RR D p f S S'/\b<2*D.n/\b'=rnE p f b) (br D S a) (br D' S' (rnE p f a)):=by
 have hc:a/2<D.n:=by omega
 have hst:=h.st _ hc
 have hl':=yr1 R ha
 have hs:=R.sg _ hc
 have k1:=hD.lt _ ha
 have k2:=hD.lt _ (yav ha)
 have n1:=R.nx a ha
 have n2:=R.nx (co a) (yav ha)
 have e0: ¬2*D.n<=a:=by omega
 have e1: ¬2*D'.n<=rnE p f a:=by rw [R.n];omega
 unfold br
 rw [if_neg e0,if_neg e1,ygm,ykz,y7o,n1,n2,hst]
 by_cases q2:S.st (a/2)=2
 ·rw [if_pos q2,if_neg (c:=f (a/2)=true/\S.st (a/2)<=1) (by omega),if_pos q2]
  exact .cons ⟨h.mark R ha (by omega),k2,rfl⟩ .nil
 by_cases q3:S.st (a/2)=3
 ·rw [if_neg q2,if_pos q3,if_neg (c:=f (a/2)=true/\S.st (a/2)<=1) (by omega),if_neg q2,if_pos q3]
  exact .cons ⟨h.mark R ha (by omega),k1,rfl⟩ .nil
 by_cases q5:S.st (a/2)=5
 ·rw [if_neg q2,if_neg q3,if_pos q5,if_neg (c:=f (a/2)=true/\S.st (a/2)<=1) (by omega),if_neg q2,if_neg q3,if_pos q5]
  exact .cons ⟨h.mark R ha (by omega),k2,rfl⟩ .nil
 rw [if_neg q2,if_neg q3,if_neg q5]
 by_cases q1:S.st (a/2)<=1
 ·have hsg: ∀q,q<=1->sgn D' (if f (a/2)=true then 1-q else q) (p (a/2))=sgn D q (a/2):=fun q hq=>by
   unfold sgn
   rw [hs]
   by_cases hf:f (a/2)=true
   ·rw [if_pos hf,if_pos hf]
    by_cases e:q=1
    ·rw [if_pos e,if_neg (by omega)];omega
    ·rw [if_neg e,if_pos (by omega)]
   ·rw [if_neg hf,if_neg hf]
  have hq:(if f (a/2)=true/\S.st (a/2)<=1 then 1-S.st (a/2) else S.st (a/2))=if f (a/2)=true then 1-S.st (a/2) else S.st (a/2):=by
   by_cases hf:f (a/2)=true
   ·rw [if_pos hf,if_pos ⟨hf,q1⟩]
   ·rw [if_neg hf,if_neg fun h=>hf h.1]
  rw [hq,hsg _ q1]
  have hle:(if f (a/2)=true then 1-S.st (a/2) else S.st (a/2))<=1:=by split<;>omega
  have hio:((if f (a/2)=true then 1-S.st (a/2) else S.st (a/2))=if f (a/2)=true then 1-a % 2 else a % 2)↔S.st (a/2)=a % 2:=by split<;>omega
  have hiu:((if f (a/2)=true then 1-S.st (a/2) else S.st (a/2))=1-if f (a/2)=true then 1-a % 2 else a % 2)↔S.st (a/2)=1-a % 2:=by split<;>omega
  rw [if_neg (show¬(if f (a/2)=true then 1-S.st (a/2) else S.st (a/2))=2 by omega),if_neg (show¬(if f (a/2)=true then 1-S.st (a/2) else S.st (a/2))=3 by omega),if_neg (show¬(if f (a/2)=true then 1-S.st (a/2) else S.st (a/2))=5 by omega)]
  by_cases h6:S.st (a/2)=a % 2
  ·rw [if_pos h6,if_pos (hio.2 h6)]
   exact .cons ⟨h.mark R ha (by omega),k1,rfl⟩ .nil
  ·rw [if_neg h6,if_neg fun h=>h6 (hio.1 h)]
   by_cases h7:S.st (a/2)=1-a % 2
   ·rw [if_pos h7,if_pos (hiu.2 h7)]
    exact .cons ⟨(h.mark R ha (by omega)).sc _ _,k1,rfl⟩ (.cons ⟨(h.mark R ha (by omega)).sc _ _,k2,rfl⟩ .nil)
   ·rw [if_neg h7,if_neg fun h=>h7 (hiu.1 h)];exact .nil
 ·rw [if_neg (c:=f (a/2)=true/\S.st (a/2)<=1) (by omega),if_neg q2,if_neg q3,if_neg q5]
  have m1: ¬S.st (a/2)=a % 2:=by omega
  have m2: ¬S.st (a/2)=1-a % 2:=by omega
  rw [if_neg m1,if_neg m2,if_neg (by split<;>omega),if_neg (by split<;>omega)]
  exact .nil
theorem yud (hD:Ok D) (R:Ren D D' p f) (X:Int->Int->Nat->Int): ∀(B:List Nat) (S S':WS),(∀a∈B,a<2*D.n)->RR D p f S S'->run X D B S=run X D' (B.map (rnE p f)) S'
 |[],S,S',_,h=>by show X _ _ _=X _ _ _;rw [h.i,h.j,h.k]
 |a::B,S,S',hl,h=>by
  have ha:=hl a (.head _)
  have ih:=fun S S' h=>yud hD R X B S S' (fun b hb=>hl b (.tail _ hb)) h
  show (if S.vis a=true then _ else _)=if S'.vis (rnE p f a)=true then _ else _
  rw [h.vis a ha]
  split
  ·exact ih _ _ h
  ·show sumB _ _=sumB _ _
   refine (yze hD R h.cr ha).sum fun x _ S1' b' ⟨h1,h2,h3⟩=>?_
   subst h3
   refine Wsim (fun S b S' b'=>RR D p f S S'/\b<2*D.n/\b'=rnE p f b) (fun S b S' b' ⟨h1,h2,h3⟩=>?_) _ _ _ _ ⟨h1,h2,rfl⟩
   subst h3
   refine ⟨?_,fun _=>ih _ _ h1,fun _=>⟨(h1.vis b h2).symm,fun _=>yze hD R h1 h2⟩⟩
   by_cases e:b=a
   ·subst e;rw [ya2,ya2]
   ·rw [ycz e,ycz fun e'=>e (yn9 R h2 ha e')]
theorem y5q (R:Ren D D' p f) (st:Nat->Nat) (k:Nat):Cov D' ((List.range (2*D.n)).map (rnE p f)) (Z0 st k):=by
 have hl: ∀a∈(List.range (2*D.n)).map (rnE p f),a<2*D'.n:=fun a ha=>by
  obtain ⟨b,hb,rfl⟩:=List.mem_map.1 ha
  rw [R.n];exact yr1 R (List.mem_range.1 hb)
 refine ⟨hl,fun a ha _=>?_⟩
 have hp:PermN (2*D.n) (rnE p f):=⟨fun a ha=>yr1 R ha,fun a b ha hb h=>yn9 R ha hb h⟩
 rw [R.n] at ha
 obtain ⟨k,h0,hk⟩:=hp.back ha
 obtain ⟨j,rfl⟩: ∃j,k=j+1:=⟨k-1,by omega⟩
 exact List.mem_map.2 ⟨_,List.mem_range.2 (hp.itn_lt ha j),hk⟩
theorem yoa (hD:Ok D) (hD':Ok D') {al':Nat->Nat} (hP':Pla D' al') (R:Ren D D' p f) {X:Int->Int->Nat->Int} (hX:Good X) {st st':Nat->Nat} {k:Nat} (hst: ∀c,st' c<=1\/st' c=5) (h: ∀c,c<D.n->st' (p c)=if f c=true/\st c<=1 then 1-st c else st c):
  run X D (List.range (2*D.n)) (Z0 st k)=run X D' (List.range (2*D'.n)) (Z0 st' k):=by
 rw [yud hD R X _ (Z0 st k) (Z0 st' k) (fun a ha=>List.mem_range.1 ha) ⟨h,fun _ _=>rfl,rfl,rfl,rfl⟩]
 exact ord hD' hP' hX (yge _ hst _) (y5q R _ _) (yfc D' _ _)
end
section
variable {s m:List Int} {L:Int} {c:Nat}
theorem y7p (hv:yag s m L=true) (hc:c<s.length):Ren (shD s m) (shD (swS s c) (swM s m c)) id (fun i=>i==c):=by
 have v:=yan hv
 have v':=yan (Sp.valid_switch hv hc)
 have hsl:(swS s c).length=s.length:=Sp.swS_len
 refine ⟨hsl,fun i hi=>hi,fun _ _ _ _ h=>h,fun i hi=>?_,fun a ha=>?_⟩
 ·show (swS s c).getD i 0=if (i==c)=true then-s.getD i 0 else s.getD i 0
  rw [Sp.swS_get hi]
  by_cases e:i=c
  ·rw [if_pos e,if_pos (beq_iff_eq.2 e)]
  ·rw [if_neg e,if_neg fun h=>e (beq_iff_eq.1 h)]
 ·--the out half-ycc
  have hrn: ∀a,rnE id (fun i=>i==c) a=if a/2=c then co a else a:=fun a=>by
   unfold rnE
   have:=ydn a
   have:=yai a
   by_cases e:a/2=c
   ·rw [if_pos e,if_pos (beq_iff_eq.2 e)]
    show 2*(a/2)+(1-a % 2)=co a
    omega
   ·rw [if_neg e,if_neg fun h=>e (beq_iff_eq.1 h)]
    show 2*(a/2)+a % 2=a
    omega
  have hct: ∀h,cod (Sp.tw (Sp.kT s c) c h)=rnE id (fun i=>i==c) (cod h):=fun h=>by
   rw [hrn]
   have hk:=Sp.kT_or (s:=s) (c:=c)
   have e1:cod h/2=h/4:=by unfold cod;omega
   rw [e1]
   unfold Sp.tw
   by_cases e:h/4=c
   ·rw [if_pos e,if_pos e]
    have:=ydn (cod h)
    have:=yai (cod h)
    have e2:cod h % 2=h % 2:=by unfold cod;omega
    have e3:co (cod h)=2*(h/4)+(1-h % 2):=by omega
    rw [e3]
    unfold cod
    rcases hk with hk|hk<;>rw [hk]<;>omega
   ·rw [if_neg e,if_neg e]
  have ho:outH (shD (swS s c) (swM s m c)) (rnE id (fun i=>i==c) a)=Sp.tw (Sp.kT s c) c (outH (shD s m) a):=by
   have lo:=ybp (D:=shD s m) ha
   have lo':Sp.tw (Sp.kT s c) c (outH (shD s m) a)<4*(swS s c).length:=by rw [hsl];exact Sp.tw_lt lo
   have h1:=Sp.outB_sw (s:=s) (c:=c) (v.sg c hc) hc lo
   rw [(ygl (m:=m) v.sg ha).2] at h1
   have h2:=(ydh (m:=swM s m c) v'.sg lo').2 h1
   rw [h2,hct,yh5]
  have lo:=ybp (D:=shD s m) ha
  show cod (alD (swM s m c) (outH (shD (swS s c) (swM s m c)) (rnE id (fun i=>i==c) a)))=rnE id (fun i=>i==c) (cod (alD m (outH (shD s m) a)))
  rw [ho,(Sp.swM_al v hc (i:=Sp.tw (Sp.kT s c) c (outH (shD s m) a)) (Sp.tw_lt lo)).1,(Sp.tw_back Sp.kT_or).1,hct]
theorem yo4 {X:Int->Int->Nat->Int} (hX:Good X) (hv:yag s m L=true) (hc:c<s.length):HF X (swS s c) (swM s m c) L=run X (shD s m) (List.range (2*s.length)) (Z0 (fun i=>if i=c then 0 else 1) L.toNat):=by
 have hv':=Sp.valid_switch hv hc
 symm
 refine yoa (ybr (yan hv)) (ybr (yan hv')) (ye6 hv') (y7p hv hc) hX (fun _=> .inl (by omega)) fun i hi=>?_
 show 1=if (i==c)=true/\(if i=c then 0 else 1)<=1 then 1-(if i=c then 0 else 1) else if i=c then 0 else 1
 by_cases e:i=c
 ·rw [if_pos e,if_pos ⟨beq_iff_eq.2 e,by omega⟩]
 ·rw [if_neg e,if_neg fun h=>e (beq_iff_eq.1 h.1)]
theorem y2b {X:Int->Int->Nat->Int} (hX:Good X) (hv:yag s m L=true) (hc:c<s.length) (hv':yag (smS s c) (smM s m c) (smLp s m c L)=true):
  (s.getD c 0=1->HF (fun i j k=>X (i-1) j k) s m L=HF (fun i j k=>X (i+1) j k) (swS s c) (swM s m c) L+HF (fun i j k=>X i (j+1) k) (smS s c) (smM s m c) (smLp s m c L))/\
  (s.getD c 0= -1->HF (fun i j k=>X (i-1) j k) (swS s c) (swM s m c) L=HF (fun i j k=>X (i+1) j k) s m L+HF (fun i j k=>X i (j+1) k) (smS s c) (smM s m c) (smLp s m c L)):=by
 have g1:Good fun i j k=>X (i-1) j k:=fun i j k hk=>by
  have:=hX (i-1) j k hk
  rw [show i-1+1=i+1-1 by omega] at this;exact this
 have g2:Good fun i j k=>X (i+1) j k:=fun i j k hk=>by
  have:=hX (i+1) j k hk
  rw [show i+1-1=i-1+1 by omega] at this;exact this
 have g3:Good fun i j k=>X i (j+1) k:=fun i j k hk=>hX i (j+1) k hk
 have sk:=yhh (X:=X) (D:=shD s m) hc ((yan hv).sg c hc) (List.range (2*s.length)) (Z0 (fun _=>1) L.toNat) rfl rfl (List.mem_range.2 (by omega))
 rw [yjx,yjx,yjx] at sk
 have e1: ∀X:Int->Int->Nat->Int,(fun i j k=>X (i+ -1) (j+0) k)=fun i j k=>X (i-1) j k:=fun X=>by funext i j k;rw [Int.add_zero];rfl
 have e2: ∀X:Int->Int->Nat->Int,(fun i j k=>X (i+1) (j+0) k)=fun i j k=>X (i+1) j k:=fun X=>by funext i j k;rw [Int.add_zero]
 have e3: ∀X:Int->Int->Nat->Int,(fun i j k=>X (i+0) (j+1) k)=fun i j k=>X i (j+1) k:=fun X=>by funext i j k;rw [Int.add_zero]
 rw [e1,e2,e3] at sk
 have st: ∀q,(Z0 (fun _=>1) L.toNat).sx c q=Z0 (fun i=>if i=c then q else 1) L.toNat:=fun q=>rfl
 rw [st,st,st] at sk
 have s1:(fun i=>if i=c then 1 else 1)=fun _:Nat=>(1:Nat):=by funext i;split<;>rfl
 constructor
 ·intro h
  have hp:pq (shD s m) c=1:=if_pos h
  have hn:nq (shD s m) c=0:=if_pos h
  rw [hp,hn,s1] at sk
  rw [yo4 g2 hv hc,yo3 g3 hv hc hv']
  exact sk
 ·intro h
  have hh: ¬(shD s m).sg c=1:=by show¬s.getD c 0=1;omega
  have hp:pq (shD s m) c=0:=if_neg hh
  have hn:nq (shD s m) c=1:=if_neg hh
  rw [hp,hn,s1] at sk
  rw [yo4 g1 hv hc,yo3 g3 hv hc hv']
  exact sk
end
end Hs
end Go.Proofs.YtjpnnnognoaaiaaDoor
namespace Go.Proofs.YtjpnnnognoaaiaaDoor
set_option linter.unusedSimpArgs false
set_option linter.unusedVariables false
section
variable {m:List Int} {n:Nat} (hp:PmOk m n)
include hp
end
section
variable {s m:List Int} {L:Int} (hv:ybf s m L)
include hv
theorem y5r {x:Nat} (hx:x<4*s.length):outB s (m.getD x 0)= !outB s x/\outB s (yal m x)=outB s x:=by
 have hm:=hv.mt x hx
 have h5:=hm.2.2.2.2
 have e1:outB s (m.getD x 0)= !outB s x:=by cases h1:outB s x<;>cases h2:outB s (m.getD x 0)<;>simp_all
 refine ⟨e1,?_⟩
 have key: ∀y:Int,0<=y->y<4*s.length->outB s (yao y 2)= !outB s y:=fun y h0 h1=>by
  have hs:=hv.sg (y/4).toNat (by omega)
  have e:yao y 2=y-y % 4+(y % 4+2)% 4:=by unfold yao;rw [show (2:Int).tmod 4=2 by decide];omega
  have e4:(y-y % 4+(y % 4+2)% 4)/4=y/4:=by omega
  rw [e]
  unfold outB
  rw [e4]
  rcases (show y % 4=0\/y % 4=1\/y % 4=2\/y % 4=3 by omega) with h|h|h|h
  ·rw [if_neg (by omega),if_pos (by omega),if_neg (by omega),if_neg (by omega),if_neg (by omega)];rfl
  ·rw [if_neg (by omega),if_neg (by omega),if_pos (by omega),if_pos h]
   rcases hs with hs|hs<;>rw [hs]<;>rfl
  ·rw [if_neg (by omega),if_neg (by omega),if_neg (by omega),if_neg (by omega),if_pos h];rfl
  ·rw [if_pos (by omega),if_neg (by omega),if_neg (by omega),if_pos h]
   rcases hs with hs|hs<;>rw [hs]<;>rfl
 unfold yal
 rw [Int.toNat_natCast,key _ hm.1 (by omega),e1,Bool.not_not]
theorem yh7 {x:Nat} (hx:x<4*s.length): ∀j,outB s (it (yal m) j x)=outB s x
 |0=>rfl
 |j+1=>by
  have hR:InR s.length (x:Int):=by unfold InR;omega
  have hS:=(yfk hv.prd).it hR j
  unfold InR at hS
  have e:it (yal m) j (x:Int)=((it (yal m) j (x:Int)).toNat:Int):=by omega
  have h1:=(y5r hv (x:=(it (yal m) j (x:Int)).toNat) (by omega)).2
  rw [←e] at h1
  show outB s (yal m (it (yal m) j x))=_
  rw [h1,yh7 hx j]
end
end Go.Proofs.YtjpnnnognoaaiaaDoor
namespace Go.Proofs.YtjpnnnognoaaiaaDoor
set_option linter.unusedSimpArgs false
set_option linter.unusedVariables false
namespace Sp
open Classical
section
variable {N n:Nat} {si al:Nat->Nat} {w g:Nat->Int}
end
end Sp
end Go.Proofs.YtjpnnnognoaaiaaDoor
namespace Go.Proofs.YtjpnnnognoaaiaaDoor
set_option linter.unusedSimpArgs false
set_option linter.unusedVariables false
section
variable {s m:List Int} {L:Int} (v:ybf s m L)
abbrev strK (s m:List Int) (k:Nat):List Int:=(yak s m).getD k []
include v
theorem ydc {x:Nat} (hx:x<4*s.length):(∀y,y∈orbF (yal m) m.length x↔ ∃j,it (yal m) j x=y)/\(∀y∈orbF (yal m) m.length x,InR s.length y)/\(∀y∈orbF (yal m) m.length x,(x:Int)∈orbF (yal m) m.length y)/\
  (∀y∈orbF (yal m) m.length x,∀z∈orbF (yal m) m.length y,z∈orbF (yal m) m.length x)/\(x:Int)∈orbF (yal m) m.length x/\(orbF (yal m) m.length x).Nodup/\ ∃k,Per (yal m) x k/\orbF (yal m) m.length x=its (yal m) x k:=by
 have:=ydw (yfk v.prd) (x:=(x:Int)) (by unfold InR;omega)
 rw [←v.len] at this
 obtain ⟨a,b,c,d,e,_,f,k,_,g,h⟩:=this
 exact ⟨a,b,c,d,e,f,k,g,h⟩
theorem yl7:yak s m=((List.range m.length).filter fun i:Nat=>outB s i&&yf2 i (orbF (yal m) m.length i)).map (fun i:Nat=>orbF (yal m) m.length i):=by
 have hl:=v.len
 exact (ytb (N:=m.length) (want:=outB s) (orb:=orbF (yal m) m.length) (fun x hx _ y hy=>by
  have:=(ydc v (x:=x) (by omega)).2.1 y hy
  unfold InR at this;omega) (fun x hx _=>(ydc v (x:=x) (by omega)).2.2.2.2.1) (fun x y hx hy hw hm=>by
  have h:=ydc v (x:=x) (by omega)
  refine ⟨?_,h.2.2.1 y hm⟩
  obtain ⟨j,hj⟩:=(h.1 y).1 hm
  rw [←hj,yh7 v (by omega) j];exact hw) (fun x y z hx hy hz _ h1 h2=>(ydc v (x:=x) (by omega)).2.2.2.1 y h1 z h2) m.length (Nat.le_refl _)).1
theorem yr2 {k:Nat} (hk:k<(yak s m).length): ∃x:Nat,x<4*s.length/\outB s x=true/\(∀y∈orbF (yal m) m.length x,(x:Int)<=y)/\strK s m k=orbF (yal m) m.length x:=by
 have hl:=v.len
 have e:=yl7 v
 have hm:strK s m k∈yak s m:=by simp [strK,hk]
 rw [e] at hm
 obtain ⟨x,h1,h2⟩:=List.mem_map.1 hm
 obtain ⟨h3,h4⟩:=List.mem_filter.1 h1
 rw [Bool.and_eq_true] at h4
 exact ⟨x,by have:=List.mem_range.1 h3;omega,h4.1,yco.1 h4.2,h2.symm⟩
theorem y7q {y:Nat} (hy:y<4*s.length) (ho:outB s y=true): ∃k,k<(yak s m).length/\(y:Int)∈strK s m k:=by
 have hl:=v.len
 have h:=ydc v hy
 have hle: ∃x:Nat,(x:Int)∈orbF (yal m) m.length y/\ ∀z∈orbF (yal m) m.length y,(x:Int)<=z:=by
  have key: ∀d x:Nat,x<d->(x:Int)∈orbF (yal m) m.length y-> ∃x:Nat,(x:Int)∈orbF (yal m) m.length y/\ ∀z∈orbF (yal m) m.length y,(x:Int)<=z:=fun d=>by
   induction d with
   |zero=>intro x hx;omega
   |succ d ih=>
    intro x hx hm
    by_cases hz: ∃z∈orbF (yal m) m.length y,z<(x:Int)
    ·obtain ⟨z,z1,z2⟩:=hz
     have:=h.2.1 z z1
     unfold InR at this
     exact ih z.toNat (by omega) (by rw [show ((z.toNat:Nat):Int)=z by omega];exact z1)
    ·exact ⟨x,hm,fun z hz'=>by
      apply Classical.byContradiction
      intro hn
      exact hz ⟨z,hz',by omega⟩⟩
  exact key (y+1) y (by omega) h.2.2.2.2.1
 obtain ⟨x,x1,x2⟩:=hle
 have hxr:=h.2.1 x x1
 unfold InR at hxr
 have hx:=ydc v (x:=x) (by omega)
 obtain ⟨j,hj⟩:=(h.1 x).1 x1
 have hox:outB s (x:Int)=true:=by rw [←hj,yh7 v hy j];exact ho
 have hyx:=h.2.2.1 x x1
 have hmem:orbF (yal m) m.length (x:Int)∈yak s m:=by
  rw [yl7 v]
  refine List.mem_map.2 ⟨x,List.mem_filter.2 ⟨List.mem_range.2 (by omega),?_⟩,rfl⟩
  rw [Bool.and_eq_true]
  exact ⟨hox,yco.2 fun z hz=>x2 z (h.2.2.2.1 x x1 z hz)⟩
 obtain ⟨k,hk,e⟩:=List.mem_iff_getElem.1 hmem
 exact ⟨k,hk,by simp only [strK,List.getD_eq_getElem?_getD,List.getElem?_eq_getElem hk,Option.getD_some,e];exact hyx⟩
theorem y5s {k k':Nat} (hk:k<(yak s m).length) (hk':k'<(yak s m).length) {y:Int} (hy:y∈strK s m k) (hy':y∈strK s m k'):k=k':=by
 have hl:=v.len
 have hn:(yak s m).Nodup:=by
  rw [yl7 v]
  rw [List.nodup_iff_pairwise_ne,List.pairwise_map]
  refine (List.nodup_iff_pairwise_ne.1 (List.nodup_range.filter _)).imp_of_mem fun {a b} ha hb hne e=>hne ?_
  obtain ⟨a1,a2⟩:=List.mem_filter.1 ha
  obtain ⟨b1,b2⟩:=List.mem_filter.1 hb
  rw [Bool.and_eq_true] at a2 b2
  have a3:=List.mem_range.1 a1
  have b3:=List.mem_range.1 b1
  have:=yco.1 a2.2 b (by rw [e];exact (ydc v (x:=b) (by omega)).2.2.2.2.1)
  have:=yco.1 b2.2 a (by rw [←e];exact (ydc v (x:=a) (by omega)).2.2.2.2.1)
  omega
 obtain ⟨x,x1,x2,x3,x4⟩:=yr2 v hk
 obtain ⟨z,z1,z2,z3,z4⟩:=yr2 v hk'
 rw [x4] at hy
 rw [z4] at hy'
 have hx:=ydc v x1
 have hz:=ydc v z1
 have hyr:=hx.2.1 y hy
 unfold InR at hyr
 have hzy:=hz.2.2.1 y hy'
 have hxy:=hx.2.2.1 y hy
 have q1:=x3 z (hx.2.2.2.1 y hy z hzy)
 have q2:=z3 x (hz.2.2.2.1 y hy' x hxy)
 have e:x=z:=by omega
 subst e
 have e2:(yak s m)[k]'hk=(yak s m)[k']'hk':=by
  have f1:strK s m k=(yak s m)[k]'hk:=by simp [strK,hk]
  have f2:strK s m k'=(yak s m)[k']'hk':=by simp [strK,hk']
  rw [←f1,←f2,x4,z4]
 exact (List.getElem_inj hn).1 e2
end
end Go.Proofs.YtjpnnnognoaaiaaDoor
