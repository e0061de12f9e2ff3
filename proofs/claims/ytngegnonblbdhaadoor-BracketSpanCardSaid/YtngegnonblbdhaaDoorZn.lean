/- Plain: how many circles a state has, up to parity. -/
import Derived.Test.YtngegnonblbdhaaDoorZl
import Derived.Test.YtngegnonblbdhaaDoorZm
namespace Go.Proofs.YtngegnonblbdhaaDoor
set_option linter.unusedSimpArgs false
set_option linter.unusedVariables false
open Classical
section
variable {m:List Int} {n:Nat} {σ:Nat->Bool} {s s':Nat->Nat} {c:Nat}
def jS (s:Nat->Nat) (x:Nat):Nat:=(st3 s (x:Int)).toNat
theorem ycb (s:Nat->Nat) (x:Nat):((jS s x:Nat):Int)=st3 s x:=by
 have:=ye6 (s ((x:Int)/4).toNat) x
 unfold jS st3;omega
theorem yor (s:Nat->Nat) (x:Nat):jS s x/4=x/4:=by
 have h1:=ycb s x
 have h2:=ye6 (s ((x:Int)/4).toNat) x
 unfold st3 at h1;omega
theorem yku (s:Nat->Nat) (x:Nat):jS s (jS s x)=x:=by
 have h1:=ycb s (jS s x)
 rw [ycb s x] at h1
 have h2:st3 s (st3 s (x:Int))=x:=by unfold st3;rw [ye6,yk7]
 omega
structure Flp (m:List Int) (n:Nat) (σ:Nat->Bool) (s:Nat->Nat):Prop where
 mt: ∀x,x<4*n->σ (Sp.alD m x)= !σ x
 jn: ∀x,x<4*n->σ (jS s x)= !σ x
def pF (m:List Int) (σ:Nat->Bool) (s:Nat->Nat) (x:Nat):Nat:=if σ x then jS s (Sp.alD m x) else x
theorem ycc (hp:PmOk m n):Sp.Dia m n:=⟨⟨hp.ok,hp.inv⟩,hp.ne⟩
theorem ykv {x:Nat} (hx:x<4*n):jS s x<4*n:=by have:=yor s x;omega
theorem yc4 (hp:PmOk m n) (h:Flp m n σ s):Sp.PermN (4*n) (pF m σ s):=by
 have hm:=(ycc hp).mat
 refine ⟨fun x hx=>?_,fun x y hx hy e=>?_⟩
 ·unfold pF;split
  ·exact ykv (hm.lt x hx)
  ·exact hx
 ·have col: ∀x,x<4*n->σ x=true->σ (jS s (Sp.alD m x))=true:=fun x hx e=>by rw [h.jn _ (hm.lt x hx),h.mt x hx,e];rfl
  unfold pF at e
  by_cases h1:σ x=true<;>by_cases h2:σ y=true
  ·rw [if_pos h1,if_pos h2] at e
   have:=congrArg (jS s) e
   rw [yku,yku] at this
   rw [←hm.inv x hx,this,hm.inv y hy]
  ·rw [if_pos h1,if_neg h2] at e
   exact absurd (e▸col x hx h1) h2
  ·rw [if_neg h1,if_pos h2] at e
   exact absurd (e▸col y hy h2) h1
  ·rw [if_neg h1,if_neg h2] at e;exact e
theorem ymu (hp:PmOk m n) (h:Flp m n σ s) {x y:Nat} (hx:x<4*n) (hy:y<4*n) (cx:σ x=true):Sp.SC (pF m σ s) x y↔Cir (fun x=>m.getD x.toNat 0) (st3 s) x y/\σ y=true:=by
 have hD:=ycc hp
 have hm:=hD.mat
 have hP:=yc4 hp h
 have hi:=ydt hp.ok hp.inv hp.ne s
 have cm: ∀z,z<4*n->m.getD z 0=(Sp.alD m z:Nat):=fun z hz=>(hD.cast hz).symm
 constructor
 ·rintro ⟨k,rfl⟩
  clear hy
  induction k with
  |zero=>exact ⟨.refl _,cx⟩
  |succ k ih=>
   have lt:=hP.itn_lt hx k
   simp only [Sp.itn]
   generalize Sp.itn (pF m σ s) k x=z at*
   obtain ⟨i1,i2⟩:=ih
   unfold pF
   rw [if_pos i2]
   refine ⟨?_,by rw [h.jn _ (hm.lt z lt),h.mt z lt,i2];rfl⟩
   have:=Cir.join (Cir.mate i1)
   simp only [Int.toNat_natCast] at this
   rw [cm z lt,←ycb] at this;exact this
 ·rintro ⟨hc,cy⟩
  have key: ∀z:Int,Cir (fun x=>m.getD x.toNat 0) (st3 s) x z->InR n z/\(σ z.toNat=true->Sp.SC (pF m σ s) x z.toNat)/\(σ z.toNat=false->Sp.SC (pF m σ s) x (Sp.alD m z.toNat)):=fun z hz=>by
   induction hz with
   |refl=>exact ⟨by unfold InR;omega,fun _=>by simpa using Sp.SC.refl _ _,fun e=>by simp [cx] at e⟩
   | @mate z _ ih=>
     obtain ⟨r,i1,i2⟩:=ih
     refine ⟨hi.mr z r,?_⟩
     unfold InR at r
     have e:((fun x:Int=>m.getD x.toNat 0) z).toNat=Sp.alD m z.toNat:=rfl
     rw [e,h.mt _ (by omega),hm.inv _ (by omega)]
     exact ⟨fun e=>i2 (by simpa using e),fun e=>i1 (by simpa using e)⟩
   | @join z _ ih=>
     obtain ⟨r,i1,i2⟩:=ih
     refine ⟨hi.jr z r,?_⟩
     unfold InR at r
     have e:(st3 s z).toNat=jS s z.toNat:=by unfold jS;rw [show ((z.toNat:Nat):Int)=z by omega]
     rw [e,h.jn _ (by omega)]
     refine ⟨fun e=>?_,fun e=>?_⟩
     ·have cz:σ z.toNat=false:=by simpa using e
      have g:=i2 cz
      refine g.trans ⟨1,?_⟩
      simp only [Sp.itn]
      unfold pF
      rw [h.mt _ (by omega),cz,if_pos (by rfl),hm.inv _ (by omega)]
     ·have cz:σ z.toNat=true:=by simpa using e
      have lj:jS s z.toNat<4*n:=ykv (by omega)
      refine (i1 cz).trans (Sp.SC.symm hP (hm.lt _ lj) ⟨1,?_⟩)
      simp only [Sp.itn]
      unfold pF
      rw [h.mt _ lj,h.jn _ (by omega),cz,if_pos (by rfl),hm.inv _ lj,yku]
  have:=(key y hc).2.1
  simp only [Int.toNat_natCast] at this
  exact this cy
theorem yg8 (hp:PmOk m n) (h:Flp m n σ s) {l:List Nat} (hl:Sp.Tr (4*n) (fun x=>σ x=true) (Sp.SC (pF m σ s)) l):l.length=cir3 m n s:=by
 have hD:=ycc hp
 have hm:=hD.mat
 have hP:=yc4 hp h
 have hi:=ydt hp.ok hp.inv hp.ne s
 have hR:=yfm hp s
 unfold cir3
 generalize crN (fun x=>m.getD x.toNat 0) (st3 s) (4*n) (4*n)=R at*
 have cm: ∀z,z<4*n->m.getD z 0=(Sp.alD m z:Nat):=fun z hz=>(hD.cast hz).symm
 obtain ⟨u,hu⟩: ∃u:Nat->Nat,u=fun r=>if σ r then r else Sp.alD m r:=⟨_,rfl⟩
 have u1: ∀r,r<4*n->u r<4*n/\σ (u r)=true/\Cir (fun x=>m.getD x.toNat 0) (st3 s) r (u r):=fun r hr=>by
  rw [hu]
  by_cases e:σ r=true
  ·simp only [if_pos e];exact ⟨hr,e, .refl _⟩
  ·simp only [if_neg e]
   refine ⟨hm.lt r hr,by rw [h.mt r hr];simpa using e,?_⟩
   have:=Cir.mate (mt:=fun x=>m.getD x.toNat 0) (jn:=st3 s) (Cir.refl (r:Int))
   simp only [Int.toNat_natCast] at this
   rw [cm r hr] at this;exact this
 have hlen:=hR.rep.len
 have sy: ∀{a b:Nat},a<4*n->Cir (fun x=>m.getD x.toNat 0) (st3 s) a b->Cir (fun x=>m.getD x.toNat 0) (st3 s) b a:=fun ha e=>e.symm hi (by unfold InR;omega)
 have hf: ∀r,r∈(List.range (4*n)).filter (fun x=>R.getD x 0==(x:Int))↔r<4*n/\R.getD r 0=r:=fun r=>by simp [List.mem_filter]
 have uj: ∀a b,a<4*n->b<4*n->R.getD a 0=a->R.getD b 0=b->Cir (fun x=>m.getD x.toNat 0) (st3 s) (u a) (u b)->a=b:=fun a b ha hb ea eb e=>by
  have q:=(hR.iff a b ha hb).2 (((u1 a ha).2.2.trans e).trans (sy hb (u1 b hb).2.2))
  omega
 have hT:Sp.Tr (4*n) (fun x=>σ x=true) (Sp.SC (pF m σ s)) (((List.range (4*n)).filter (fun x=>R.getD x 0==(x:Int))).map u):=by
  refine ⟨fun x hx=>?_,?_,fun x hx y hy e=>?_,fun x hx cx=>?_⟩
  ·obtain ⟨r,hr,rfl⟩:=List.mem_map.1 hx
   have:=u1 r ((hf r).1 hr).1
   exact ⟨this.1,this.2.1⟩
  ·refine yd3 (fun a ha b hb e=>?_) (List.nodup_range.filter _)
   have ha':=(hf a).1 ha
   have hb':=(hf b).1 hb
   exact uj a b ha'.1 hb'.1 ha'.2 hb'.2 (by rw [e];exact .refl _)
  ·obtain ⟨a,ha,rfl⟩:=List.mem_map.1 hx
   obtain ⟨b,hb,rfl⟩:=List.mem_map.1 hy
   have ha':=(hf a).1 ha
   have hb':=(hf b).1 hb
   have ua:=u1 a ha'.1
   have ub:=u1 b hb'.1
   rw [uj a b ha'.1 hb'.1 ha'.2 hb'.2 ((ymu hp h ua.1 ub.1 ua.2.1).1 e).1]
  ·have rr:=hR.rep.rng x hx
   have ri:=hR.rep.idem x hx
   obtain ⟨r,hr⟩: ∃r:Nat,R.getD x 0=r:=⟨(R.getD x 0).toNat,by omega⟩
   rw [hr,Int.toNat_natCast] at ri
   have rl:r<4*n:=by omega
   have ur:=u1 r rl
   refine ⟨u r,List.mem_map.2 ⟨r,(hf r).2 ⟨rl,ri⟩,rfl⟩,(ymu hp h hx ur.1 cx).2 ⟨?_,ur.2.1⟩⟩
   exact ((hR.iff x r hx rl).1 (by rw [hr,ri])).trans ur.2.2
 rw [hl.len_eq (Sp.SC.eqv hP) hT,List.length_map]
 unfold roots
 rw [hlen,List.countP_eq_length_filter]
end
section
variable {s m:List Int} {L:Int}
theorem y0n (hv:yao s m L=true) (q:Nat->Nat) (hq: ∀c,c<s.length->q c=2\/q c=nb01 (s.getD c 0== -1)):Flp m s.length (fun x=>outB s (x:Int)) q:=by
 have v:=yb8 hv
 have hD:=ycc (pmOk hv)
 refine ⟨fun x hx=>?_,fun x hx=>?_⟩
 ·have:=(v.mt x hx).2.2.2.2
  rw [hD.cast hx]
  revert this
  cases outB s (m.getD x 0)<;>cases outB s (x:Int)<;>simp
 ·have hc:x/4<s.length:=by omega
  rw [ycb]
  unfold st3
  rw [show ((x:Int)/4).toNat=x/4 by omega]
  have e:x=4*(x/4)\/x=4*(x/4)+1\/x=4*(x/4)+2\/x=4*(x/4)+3:=by omega
  rcases hq _ hc with h|h<;>rw [h]
  ·have hsg:=v.sg (x/4) hc
   generalize x/4=c at*
   obtain ⟨_,_,_,_,_,_,_,_,v9,v10,v11,v12⟩:=yci (c:Int)
   have ov:=yuk s c
   rcases e with rfl|rfl|rfl|rfl
   ·rw [show ((4*c:Nat):Int)=4*(c:Int) by omega,v9,show (4*(c:Int)+2)=((4*c+2:Nat):Int) by omega,show (4*(c:Int))=((4*c:Nat):Int) by omega,ov.1,ov.2.2.1];rfl
   ·rw [show ((4*c+1:Nat):Int)=4*(c:Int)+1 by omega,v10,show (4*(c:Int)+3)=((4*c+3:Nat):Int) by omega,show (4*(c:Int)+1)=((4*c+1:Nat):Int) by omega,ov.2.1,ov.2.2.2]
    rcases hsg with e|e<;>rw [e]<;>rfl
   ·rw [show ((4*c+2:Nat):Int)=4*(c:Int)+2 by omega,v11,show (4*(c:Int)+2)=((4*c+2:Nat):Int) by omega,show (4*(c:Int))=((4*c:Nat):Int) by omega,ov.1,ov.2.2.1];rfl
   ·rw [show ((4*c+3:Nat):Int)=4*(c:Int)+3 by omega,v12,show (4*(c:Int)+3)=((4*c+3:Nat):Int) by omega,show (4*(c:Int)+1)=((4*c+1:Nat):Int) by omega,ov.2.1,ov.2.2.2]
    rcases hsg with e|e<;>rw [e]<;>rfl
  ·have:=Sp.jnB_out (s:=s) (c:=x/4) (x:=(x:Int)) (v.sg _ hc) (by omega)
   rw [←this]
   unfold nb01
   cases (s.getD (x/4) 0== -1)<;>rfl
def oS (s:List Int) (x:Nat):Int:=if outB s (x:Int) then 1 else-1
theorem y3g (hv:yao s m L=true): ∃σ:Nat->Bool,∀q:Nat->Nat,(∀c,c<s.length->q c<2)->Flp m s.length σ q:=by
 have v:=yb8 hv
 have hp:=pmOk hv
 obtain ⟨hd,hsp⟩:=Sp.dia_of hv
 have hS:=hd.sph.1 hsp
 have hf:=y0n hv (fun _=>2) fun _ _=> .inl rfl
 obtain ⟨g,hg⟩:=hS.pot (oS s) (fun x _=>by unfold oS;by_cases e:outB s (x:Int)=true<;>simp [e]) (fun x hx=>by
  have:=hf.mt x hx
  unfold oS
  rw [show outB s ((Sp.alD m x:Nat):Int)= !outB s (x:Int) from this]
  cases outB s (x:Int)<;>rfl) (fun c hc=>by
  have ov:=yuk s c
  have hsg:=v.sg c hc
  unfold oS
  simp only [ov.1,ov.2.1,ov.2.2.1,ov.2.2.2]
  rcases hsg with e|e<;>rw [e]<;>exact ⟨rfl,rfl⟩)
 have ov: ∀x,oS s x=1\/oS s x= -1:=fun x=>by unfold oS;by_cases e:outB s (x:Int)=true<;>simp [e]
 have c1: ∀x,x<4*s.length->(g (Sp.alD m x)% 2=0↔ ¬g x % 2=0):=fun x hx=>by
  have:=hg.edge x hx
  have:=ov x
  omega
 have c2: ∀x,x<4*s.length->(g (Sp.siD x)% 2=0↔ ¬g x % 2=0):=fun x hx=>by
  have h1:=hg.face _ (hd.mat.lt x hx)
  rw [hd.mat.inv x hx] at h1
  rw [h1];exact c1 x hx
 refine ⟨fun x=>decide (g x % 2=0),fun q hq=>⟨fun x hx=>?_,fun x hx=>?_⟩⟩
 ·have:=c1 x hx
  simp only [this]
  by_cases e:g x % 2=0<;>simp [e]
 ·have hc:x/4<s.length:=by omega
  have hj:=ycb q x
  unfold st3 at hj
  rw [show ((x:Int)/4).toNat=x/4 by omega] at hj
  have hq2:=hq _ hc
  have e:x=4*(x/4)\/x=4*(x/4)+1\/x=4*(x/4)+2\/x=4*(x/4)+3:=by omega
  generalize x/4=c at*
  have d0:=c2 (4*c) (by omega)
  have d1:=c2 (4*c+1) (by omega)
  have d2:=c2 (4*c+2) (by omega)
  have d3:=c2 (4*c+3) (by omega)
  rw [show Sp.siD (4*c)=4*c+3 by unfold Sp.siD;omega] at d0
  rw [show Sp.siD (4*c+1)=4*c by unfold Sp.siD;omega] at d1
  rw [show Sp.siD (4*c+2)=4*c+1 by unfold Sp.siD;omega] at d2
  rw [show Sp.siD (4*c+3)=4*c+2 by unfold Sp.siD;omega] at d3
  obtain ⟨v1,v2,v3,v4,v5,v6,v7,v8,_⟩:=yci (c:Int)
  have key: ∀y,(jS q x=y)->(g y % 2=0↔ ¬g x % 2=0)->decide (g (jS q x)% 2=0)= !decide (g x % 2=0):=fun y hy h=>by
   rw [hy]
   by_cases e:g x % 2=0
   ·rw [decide_eq_true e,decide_eq_false fun h'=>h.1 h' e];rfl
   ·rw [decide_eq_false e,decide_eq_true (h.2 e)];rfl
  have q01:q c=0\/q c=1:=by omega
  rcases q01 with h|h<;>rw [h] at hj<;>rcases e with rfl|rfl|rfl|rfl
  ·rw [show ((4*c:Nat):Int)=4*(c:Int) by omega,v1] at hj;exact key (4*c+1) (by omega) (by omega)
  ·rw [show ((4*c+1:Nat):Int)=4*(c:Int)+1 by omega,v2] at hj;exact key (4*c) (by omega) (by omega)
  ·rw [show ((4*c+2:Nat):Int)=4*(c:Int)+2 by omega,v3] at hj;exact key (4*c+3) (by omega) (by omega)
  ·rw [show ((4*c+3:Nat):Int)=4*(c:Int)+3 by omega,v4] at hj;exact key (4*c+2) (by omega) (by omega)
  ·rw [show ((4*c:Nat):Int)=4*(c:Int) by omega,v5] at hj;exact key (4*c+3) (by omega) (by omega)
  ·rw [show ((4*c+1:Nat):Int)=4*(c:Int)+1 by omega,v6] at hj;exact key (4*c+2) (by omega) (by omega)
  ·rw [show ((4*c+2:Nat):Int)=4*(c:Int)+2 by omega,v7] at hj;exact key (4*c+1) (by omega) (by omega)
  ·rw [show ((4*c+3:Nat):Int)=4*(c:Int)+3 by omega,v8] at hj;exact key (4*c) (by omega) (by omega)
end
end Go.Proofs.YtngegnonblbdhaaDoor
namespace Go.Proofs.YtngegnonblbdhaaDoor
set_option linter.unusedSimpArgs false
set_option linter.unusedVariables false
open Classical
theorem ylh (n:Nat):Sp.Mat (4*n) op2:=⟨fun x hx=>by unfold op2;omega,fun x hx=>by unfold op2;omega,fun x hx=>by unfold op2;omega⟩
theorem yli (x:Nat):op2 (op2 x)=x:=by unfold op2;omega
theorem yx2 (x:Nat):jS (fun _=>1) (jS (fun _=>0) x)=op2 x:=by
 obtain ⟨v1,v2,v3,v4,v5,v6,v7,v8,_⟩:=yci ((x/4:Nat):Int)
 have h0:=ycb (fun _=>0) x
 have h1:=ycb (fun _=>1) (jS (fun _=>0) x)
 unfold st3 at h0 h1
 have e:x=4*(x/4)\/x=4*(x/4)+1\/x=4*(x/4)+2\/x=4*(x/4)+3:=by omega
 generalize x/4=c at*
 unfold op2
 rcases e with rfl|rfl|rfl|rfl
 ·rw [show ((4*c:Nat):Int)=4*(c:Int) by omega,v1] at h0
  rw [h0,v6] at h1;omega
 ·rw [show ((4*c+1:Nat):Int)=4*(c:Int)+1 by omega,v2] at h0
  rw [h0,v5] at h1;omega
 ·rw [show ((4*c+2:Nat):Int)=4*(c:Int)+2 by omega,v3] at h0
  rw [h0,v8] at h1;omega
 ·rw [show ((4*c+3:Nat):Int)=4*(c:Int)+3 by omega,v4] at h0
  rw [h0,v7] at h1;omega
theorem y2c (x:Nat):jS (fun _=>1) x=op2 (jS (fun _=>0) x):=by
 have:=yx2 (jS (fun _=>0) x)
 rwa [yku] at this
section
variable {m:List Int} {n:Nat} {σ:Nat->Bool} (hp:PmOk m n) (hA:Flp m n σ fun _=>0) (hB:Flp m n σ fun _=>1)
include hp hA hB
omit hp in
theorem ygl {x:Nat} (hx:x<4*n):σ (op2 x)=σ x:=by
 rw [←yx2,hB.jn _ (ykv hx),hA.jn x hx,Bool.not_not]
omit hB in
theorem yos {x:Nat} (hx:x<4*n):σ (pF m σ (fun _=>0) x)=σ x:=by
 unfold pF
 split
 ·rename_i h
  have hm:=(ycc hp).mat
  rw [hA.jn _ (hm.lt x hx),hA.mt x hx,Bool.not_not]
 ·rfl
omit hp in
theorem yot: ∀k,k<=n->Sp.cU (fun x=>σ x=true) (4*k)=2*k
 |0,_=>by simp [Sp.cU]
 |k+1,hk=>by
  have ih:=yot k (by omega)
  rw [show 4*(k+1)=4*k+1+1+1+1 by omega,Sp.cU_succ,Sp.cU_succ,Sp.cU_succ,Sp.cU_succ,ih]
  have e1:σ (4*k+1)= !σ (4*k):=by
   have h:=hA.jn (4*k) (by omega)
   have hj:=ycb (fun _=>0) (4*k)
   unfold st3 at hj
   obtain ⟨v1,_⟩:=yci (k:Int)
   rw [show ((4*k:Nat):Int)=4*(k:Int) by omega,v1] at hj
   rw [show jS (fun _=>0) (4*k)=4*k+1 by omega] at h
   exact h
  have e2:=ygl hA hB (x:=4*k) (by omega)
  have e3:=ygl hA hB (x:=4*k+1) (by omega)
  rw [show op2 (4*k)=4*k+1+1 by unfold op2;omega] at e2
  rw [show op2 (4*k+1)=4*k+1+1+1 by unfold op2;omega] at e3
  simp only [e1,e2,e3]
  cases σ (4*k)<;>simp<;>omega
theorem yum {lK:List Nat} (hK:Sp.Tr (4*n) (fun x=>σ x=true) (Sp.KK (pF m σ fun _=>0) op2 (4*n)) lK):cirS m n (fun _=>false)+cirS m n (fun _=>true)<=2*lK.length+n:=by
 have hs:=yc4 hp hA
 have hm:=ylh n
 have hD:=(ycc hp).mat
 have hB':=yc4 hp hB
 have h1: ∀x,x<4*n->(σ x=true↔σ (pF m σ (fun _=>0) x)=true):=fun x hx=>by rw [yos hp hA hx]
 have h2: ∀x,x<4*n->(σ x=true↔σ (op2 x)=true):=fun x hx=>by rw [ygl hA hB hx]
 have hg:=Sp.phK_perm hs hm (4*n) (Nat.le_refl _)
 obtain ⟨lV,hV⟩:=Sp.Tr.exists (Sp.SC.eqv hs) fun x=>σ x=true
 obtain ⟨lF,hF⟩:=Sp.Tr.exists (Sp.SC.eqv hg) fun x=>σ x=true
 have eu:=Sp.euler hs hm h1 h2 (4*n) (Nat.le_refl _) lV lF lK hV hF hK
 have eV:=yg8 hp hA hV
 have eE:=Sp.eU_card hm h2
 rw [yot hA hB n (Nat.le_refl _)] at eE
 have step: ∀x,x<4*n->σ x=true->Sp.phK (pF m σ fun _=>0) op2 (4*n) x<4*n/\σ (Sp.phK (pF m σ fun _=>0) op2 (4*n) x)=true/\op2 (Sp.phK (pF m σ fun _=>0) op2 (4*n) x)=pF m σ (fun _=>1) (op2 x):=fun x hx cx=>by
  have ho:=hm.lt x hx
  have co:=(h2 x hx).1 cx
  refine ⟨hg.lt x hx,?_,?_⟩
  ·rw [Sp.ph_N hm hx];exact (h1 _ ho).1 co
  ·rw [Sp.ph_N hm hx]
   unfold pF
   rw [if_pos co,if_pos co,y2c]
 have iter: ∀k x,x<4*n->σ x=true->Sp.itn (Sp.phK (pF m σ fun _=>0) op2 (4*n)) k x<4*n/\σ (Sp.itn (Sp.phK (pF m σ fun _=>0) op2 (4*n)) k x)=true/\op2 (Sp.itn (Sp.phK (pF m σ fun _=>0) op2 (4*n)) k x)=Sp.itn (pF m σ fun _=>1) k (op2 x):=fun k=>by
  induction k with
  |zero=>intro x hx cx;exact ⟨hx,cx,rfl⟩
  |succ k ih=>
   intro x hx cx
   obtain ⟨a,b,c⟩:=ih x hx cx
   obtain ⟨a',b',c'⟩:=step _ a b
   exact ⟨a',b',by simp only [Sp.itn];rw [c',c]⟩
 have opi: ∀x y,op2 x=op2 y->x=y:=fun x y e=>by rw [←yli x,e,yli]
 have hF':Sp.Tr (4*n) (fun x=>σ x=true) (Sp.SC (pF m σ fun _=>1)) (lF.map op2):=by
  refine ⟨fun x hx=>?_,yd3 (fun x _ y _ e=>opi x y e) hF.nodup,fun x hx y hy e=>?_,fun z hz cz=>?_⟩
  ·obtain ⟨y,hy,rfl⟩:=List.mem_map.1 hx
   obtain ⟨a,b⟩:=hF.mem y hy
   exact ⟨hm.lt y a,(h2 y a).1 b⟩
  ·obtain ⟨x',hx',rfl⟩:=List.mem_map.1 hx
   obtain ⟨y',hy',rfl⟩:=List.mem_map.1 hy
   obtain ⟨a,b⟩:=hF.mem x' hx'
   obtain ⟨k,hk⟩:=e
   rw [←(iter k x' a b).2.2] at hk
   rw [hF.apart x' hx' y' hy' ⟨k,opi _ _ hk⟩]
  ·have ho:=hm.lt z hz
   obtain ⟨y,hy,k,hk⟩:=hF.all (op2 z) ho ((h2 z hz).1 cz)
   refine ⟨op2 y,List.mem_map_of_mem hy,k,?_⟩
   have:=(iter k (op2 z) ho ((h2 z hz).1 cz)).2.2
   rw [hk,yli] at this
   exact this.symm
 have eF:=yg8 hp hB hF'
 rw [List.length_map] at eF
 have c1:cirS m n (fun _=>false)=cir3 m n (fun _=>0):=yd4 hp _
 have c2:cirS m n (fun _=>true)=cir3 m n (fun _=>1):=yd4 hp _
 omega
theorem yxj {x y:Nat} (hx:x<4*n) (hy:y<4*n) (hc:Sp.KK Sp.siD (Sp.alD m) (4*n) x y) (cx:σ x=true) (cy:σ y=true):Sp.KK (pF m σ fun _=>0) op2 (4*n) x y:=by
 have hs:=yc4 hp hA
 have hm:=ylh n
 have hD:=(ycc hp).mat
 have hE:=Sp.K_eqv hs hm
 have hE0:=Sp.K_eqv (Sp.siD_perm n) hD
 have alt: ∀c,c<n->σ (4*c+1)= !σ (4*c):=fun c h=>by
  have h:=hA.jn (4*c) (by omega)
  have hj:=ycb (fun _=>0) (4*c)
  unfold st3 at hj
  obtain ⟨v1,_⟩:=yci (c:Int)
  rw [show ((4*c:Nat):Int)=4*(c:Int) by omega,v1] at hj
  rw [show jS (fun _=>0) (4*c)=4*c+1 by omega] at h
  exact h
 have same: ∀u v,u<4*n->v<4*n->σ u=true->σ v=true->u/4=v/4->Sp.KK (pF m σ fun _=>0) op2 (4*n) u v:=fun u v hu hv cu cv e=>by
  have h1:=ygl hA hB hu
  have h3:=alt (u/4) (by omega)
  have h4:=ygl hA hB (x:=4*(u/4)) (by omega)
  have h5:=ygl hA hB (x:=4*(u/4)+1) (by omega)
  rw [show op2 (4*(u/4))=4*(u/4)+2 by unfold op2;omega] at h4
  rw [show op2 (4*(u/4)+1)=4*(u/4)+3 by unfold op2;omega] at h5
  have hor:v=u\/v=op2 u:=by
   have eu:u=4*(u/4)\/u=4*(u/4)+1\/u=4*(u/4)+2\/u=4*(u/4)+3:=by omega
   have ev:v=4*(u/4)\/v=4*(u/4)+1\/v=4*(u/4)+2\/v=4*(u/4)+3:=by omega
   generalize u/4=c at*
   unfold op2
   rcases eu with rfl|rfl|rfl|rfl<;>rcases ev with rfl|rfl|rfl|rfl<;>first|omega|(exfalso;clear h1;revert cu cv h3 h4 h5;cases σ (4*c)<;>cases σ (4*c+1)<;>cases σ (4*c+2)<;>cases σ (4*c+3)<;>simp)
  rcases hor with rfl|rfl
  ·exact hE.rfl' _ hu
  ·exact Sp.K_al hs hm hu
 have some': ∀c,c<n-> ∃u,u<4*n/\u/4=c/\σ u=true:=fun c h=>by
  have:=alt c h
  by_cases e:σ (4*c)=true
  ·exact ⟨4*c,by omega,by omega,e⟩
  ·exact ⟨4*c+1,by omega,by omega,by rw [this];simpa using e⟩
 have hR:Sp.EqvN (4*n) fun x y=> ∀u v,u<4*n->v<4*n->σ u=true->σ v=true->u/4=x/4->v/4=y/4->Sp.KK (pF m σ fun _=>0) op2 (4*n) u v:=by
  refine ⟨fun x hx u v hu hv cu cv e1 e2=>same u v hu hv cu cv (e1.trans e2.symm),fun x y hx hy h u v hu hv cu cv e1 e2=>hE.symm _ _ hv hu (h v u hv hu cv cu e2 e1),fun x y z hx hy hz h1 h2 u v hu hv cu cv e1 e2=>?_⟩
  obtain ⟨w,w1,w2,w3⟩:=some' (y/4) (by omega)
  exact hE.trans _ _ _ hu w1 hv (h1 u w hu w1 cu w3 e1 w2) (h2 w v w1 hv w3 cv w2 e2)
 refine Sp.K_least (Sp.siD_perm n) hD hR (fun x hx u v hu hv cu cv e1 e2=>same u v hu hv cu cv (by rw [e1,e2,Sp.siD_div])) (fun x hx u v hu hv cu cv e1 e2=>?_) hx hy hc x y hx hy cx cy rfl rfl
 have ha:=hD.lt x hx
 have hmt:=hA.mt x hx
 by_cases cx':σ x=true
 ·have h1:=Sp.K_si hs hm hx
  have h2:pF m σ (fun _=>0) x=jS (fun _=>0) (Sp.alD m x):=by unfold pF;rw [if_pos cx']
  have h3:=yos hp hA hx
  rw [h2] at h1 h3
  have hl:=ykv (s:=fun _=>0) ha
  exact hE.trans _ _ _ hu hx hv (same u x hu hx cu cx' e1) (hE.trans _ _ _ hx hl hv h1 (same _ v hl hv (by rw [h3];exact cx') cv (by rw [yor];exact e2.symm)))
 ·have cx2:σ (Sp.alD m x)=true:=by rw [hmt];simpa using cx'
  have h1:=Sp.K_si hs hm ha
  have h2:pF m σ (fun _=>0) (Sp.alD m x)=jS (fun _=>0) x:=by unfold pF;rw [if_pos cx2,hD.inv x hx]
  have h3:=yos hp hA ha
  rw [h2] at h1 h3
  have hl:=ykv (s:=fun _=>0) hx
  exact hE.trans _ _ _ hu hl hv (same u _ hu hl cu (by rw [h3];exact cx2) (by rw [yor];exact e1)) (hE.trans _ _ _ hl ha hv (hE.symm _ _ ha hl h1) (same _ v ha hv cx2 cv e2.symm))
end
theorem y0o {s m:List Int} {L:Int} (hv:yao s m L=true) (hn:0<s.length) (hc: ∀x y,x<4*s.length->y<4*s.length->Sp.KK Sp.siD (Sp.alD m) (4*s.length) x y):cirS m s.length (fun _=>false)+cirS m s.length (fun _=>true)<=s.length+2:=by
 have hp:=pmOk hv
 obtain ⟨σ,hσ⟩:=y3g hv
 have hA:=hσ (fun _=>0) fun _ _=>by omega
 have hB:=hσ (fun _=>1) fun _ _=>by omega
 obtain ⟨lK,hK⟩:=Sp.Tr.exists (Sp.K_eqv (yc4 hp hA) (ylh s.length)) fun x=>σ x=true
 have h1:=yum hp hA hB hK
 have h2:lK.length<=1:=by
  match lK,hK with
  |[],_=>simp
  |[_],_=>simp
  |a::b::r,hK=>
   exfalso
   have ma:=hK.mem a (by simp)
   have mb:=hK.mem b (by simp)
   have e:=hK.apart a (by simp) b (by simp) (yxj hp hA hB ma.1 mb.1 (hc _ _ ma.1 mb.1) ma.2 mb.2)
   have:=hK.nodup
   rw [e] at this
   simp at this
 omega
end Go.Proofs.YtngegnonblbdhaaDoor
