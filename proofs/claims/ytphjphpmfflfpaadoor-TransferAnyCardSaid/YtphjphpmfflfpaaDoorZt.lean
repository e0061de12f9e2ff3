/- Plain: how many circles a state has, up to parity. -/
import Derived.Test.YtphjphpmfflfpaaDoorZr
import Derived.Test.YtphjphpmfflfpaaDoorZs
import Derived.Test.YtphjphpmfflfpaaDoorZj
namespace Go.Proofs.YtphjphpmfflfpaaDoor
set_option linter.unusedSimpArgs false
set_option linter.unusedVariables false
open Classical
section
variable {m:List Int} {n:Nat} {σ:Nat->Bool} {s s':Nat->Nat} {c:Nat}
def jS (s:Nat->Nat) (x:Nat):Nat:=(st3 s (x:Int)).toNat
theorem yc0 (s:Nat->Nat) (x:Nat):((jS s x:Nat):Int)=st3 s x:=by
 have:=yfi (s ((x:Int)/4).toNat) x
 unfold jS st3;omega
theorem ysi (s:Nat->Nat) (x:Nat):jS s x/4=x/4:=by
 have h1:=yc0 s x
 have h2:=yfi (s ((x:Int)/4).toNat) x
 unfold st3 at h1;omega
theorem ync (s:Nat->Nat) (x:Nat):jS s (jS s x)=x:=by
 have h1:=yc0 s (jS s x)
 rw [yc0 s x] at h1
 have h2:st3 s (st3 s (x:Int))=x:=by unfold st3;rw [yfi,ynx]
 omega
structure Flp (m:List Int) (n:Nat) (σ:Nat->Bool) (s:Nat->Nat):Prop where
 mt: ∀x,x<4*n->σ (Sp.alD m x)= !σ x
 jn: ∀x,x<4*n->σ (jS s x)= !σ x
def pF (m:List Int) (σ:Nat->Bool) (s:Nat->Nat) (x:Nat):Nat:=if σ x then jS s (Sp.alD m x) else x
theorem yf9 (hp:PmOk m n):Sp.Dia m n:=⟨⟨hp.ok,hp.inv⟩,hp.ne⟩
theorem yj7 {x:Nat} (hx:x<4*n):jS s x<4*n:=by have:=ysi s x;omega
theorem yfr (hp:PmOk m n) (h:Flp m n σ s):Sp.PermN (4*n) (pF m σ s):=by
 have hm:=(yf9 hp).mat
 refine ⟨fun x hx=>?_,fun x y hx hy e=>?_⟩
 ·unfold pF;split
  ·exact yj7 (hm.lt x hx)
  ·exact hx
 ·have col: ∀x,x<4*n->σ x=true->σ (jS s (Sp.alD m x))=true:=fun x hx e=>by rw [h.jn _ (hm.lt x hx),h.mt x hx,e];rfl
  unfold pF at e
  by_cases h1:σ x=true<;>by_cases h2:σ y=true
  ·rw [if_pos h1,if_pos h2] at e
   have:=congrArg (jS s) e
   rw [ync,ync] at this
   rw [←hm.inv x hx,this,hm.inv y hy]
  ·rw [if_pos h1,if_neg h2] at e
   exact absurd (e▸col x hx h1) h2
  ·rw [if_neg h1,if_pos h2] at e
   exact absurd (e▸col y hy h2) h1
  ·rw [if_neg h1,if_neg h2] at e;exact e
theorem y3b (hp:PmOk m n) (h:Flp m n σ s) {x y:Nat} (hx:x<4*n) (hy:y<4*n) (cx:σ x=true):Sp.SC (pF m σ s) x y↔Cir (fun x=>m.getD x.toNat 0) (st3 s) x y/\σ y=true:=by
 have hD:=yf9 hp
 have hm:=hD.mat
 have hP:=yfr hp h
 have hi:=yfj hp.ok hp.inv hp.ne s
 have cm: ∀z,z<4*n->m.getD z 0=(Sp.alD m z:Nat):=fun z hz=>(hD.cast hz).symm
 constructor
 ·rintro ⟨k,rfl⟩
  clear hy
  induction k with
  |zero=>exact ⟨.refl _,cx⟩
  |succ k ih=>
   have lt:=hP.itn_lt hx k
   simp only [Sp.itn]
   generalize Sp.itn (pF m σ s) k x=z at*
   obtain ⟨i1,i2⟩:=ih
   unfold pF
   rw [if_pos i2]
   refine ⟨?_,by rw [h.jn _ (hm.lt z lt),h.mt z lt,i2];rfl⟩
   have:=Cir.join (Cir.mate i1)
   simp only [Int.toNat_natCast] at this
   rw [cm z lt,←yc0] at this;exact this
 ·rintro ⟨hc,cy⟩
  have key: ∀z:Int,Cir (fun x=>m.getD x.toNat 0) (st3 s) x z->InR n z/\(σ z.toNat=true->Sp.SC (pF m σ s) x z.toNat)/\(σ z.toNat=false->Sp.SC (pF m σ s) x (Sp.alD m z.toNat)):=fun z hz=>by
   induction hz with
   |refl=>exact ⟨by unfold InR;omega,fun _=>by simpa using Sp.SC.refl _ _,fun e=>by simp [cx] at e⟩
   | @mate z _ ih=>
     obtain ⟨r,i1,i2⟩:=ih
     refine ⟨hi.mr z r,?_⟩
     unfold InR at r
     have e:((fun x:Int=>m.getD x.toNat 0) z).toNat=Sp.alD m z.toNat:=rfl
     rw [e,h.mt _ (by omega),hm.inv _ (by omega)]
     exact ⟨fun e=>i2 (by simpa using e),fun e=>i1 (by simpa using e)⟩
   | @join z _ ih=>
     obtain ⟨r,i1,i2⟩:=ih
     refine ⟨hi.jr z r,?_⟩
     unfold InR at r
     have e:(st3 s z).toNat=jS s z.toNat:=by unfold jS;rw [show ((z.toNat:Nat):Int)=z by omega]
     rw [e,h.jn _ (by omega)]
     refine ⟨fun e=>?_,fun e=>?_⟩
     ·have cz:σ z.toNat=false:=by simpa using e
      have g:=i2 cz
      refine g.trans ⟨1,?_⟩
      simp only [Sp.itn]
      unfold pF
      rw [h.mt _ (by omega),cz,if_pos (by rfl),hm.inv _ (by omega)]
     ·have cz:σ z.toNat=true:=by simpa using e
      have lj:jS s z.toNat<4*n:=yj7 (by omega)
      refine (i1 cz).trans (Sp.SC.symm hP (hm.lt _ lj) ⟨1,?_⟩)
      simp only [Sp.itn]
      unfold pF
      rw [h.mt _ lj,h.jn _ (by omega),cz,if_pos (by rfl),hm.inv _ lj,ync]
  have:=(key y hc).2.1
  simp only [Int.toNat_natCast] at this
  exact this cy
theorem ysj (hp:PmOk m n) (h:Flp m n σ s) {l:List Nat} (hl:Sp.Tr (4*n) (fun x=>σ x=true) (Sp.SC (pF m σ s)) l):l.length=cir3 m n s:=by
 have hD:=yf9 hp
 have hm:=hD.mat
 have hP:=yfr hp h
 have hi:=yfj hp.ok hp.inv hp.ne s
 have hR:=yq9 hp s
 unfold cir3
 generalize crN (fun x=>m.getD x.toNat 0) (st3 s) (4*n) (4*n)=R at*
 have cm: ∀z,z<4*n->m.getD z 0=(Sp.alD m z:Nat):=fun z hz=>(hD.cast hz).symm
 obtain ⟨u,hu⟩: ∃u:Nat->Nat,u=fun r=>if σ r then r else Sp.alD m r:=⟨_,rfl⟩
 have u1: ∀r,r<4*n->u r<4*n/\σ (u r)=true/\Cir (fun x=>m.getD x.toNat 0) (st3 s) r (u r):=fun r hr=>by
  rw [hu]
  by_cases e:σ r=true
  ·simp only [if_pos e];exact ⟨hr,e, .refl _⟩
  ·simp only [if_neg e]
   refine ⟨hm.lt r hr,by rw [h.mt r hr];simpa using e,?_⟩
   have:=Cir.mate (mt:=fun x=>m.getD x.toNat 0) (jn:=st3 s) (Cir.refl (r:Int))
   simp only [Int.toNat_natCast] at this
   rw [cm r hr] at this;exact this
 have hlen:=hR.rep.len
 have sy: ∀{a b:Nat},a<4*n->Cir (fun x=>m.getD x.toNat 0) (st3 s) a b->Cir (fun x=>m.getD x.toNat 0) (st3 s) b a:=fun ha e=>e.symm hi (by unfold InR;omega)
 have hf: ∀r,r∈(List.range (4*n)).filter (fun x=>R.getD x 0==(x:Int))↔r<4*n/\R.getD r 0=r:=fun r=>by simp [List.mem_filter]
 have uj: ∀a b,a<4*n->b<4*n->R.getD a 0=a->R.getD b 0=b->Cir (fun x=>m.getD x.toNat 0) (st3 s) (u a) (u b)->a=b:=fun a b ha hb ea eb e=>by
  have q:=(hR.iff a b ha hb).2 (((u1 a ha).2.2.trans e).trans (sy hb (u1 b hb).2.2))
  omega
 have hT:Sp.Tr (4*n) (fun x=>σ x=true) (Sp.SC (pF m σ s)) (((List.range (4*n)).filter (fun x=>R.getD x 0==(x:Int))).map u):=by
  refine ⟨fun x hx=>?_,?_,fun x hx y hy e=>?_,fun x hx cx=>?_⟩
  ·obtain ⟨r,hr,rfl⟩:=List.mem_map.1 hx
   have:=u1 r ((hf r).1 hr).1
   exact ⟨this.1,this.2.1⟩
  ·refine yc6 (fun a ha b hb e=>?_) (List.nodup_range.filter _)
   have ha':=(hf a).1 ha
   have hb':=(hf b).1 hb
   exact uj a b ha'.1 hb'.1 ha'.2 hb'.2 (by rw [e];exact .refl _)
  ·obtain ⟨a,ha,rfl⟩:=List.mem_map.1 hx
   obtain ⟨b,hb,rfl⟩:=List.mem_map.1 hy
   have ha':=(hf a).1 ha
   have hb':=(hf b).1 hb
   have ua:=u1 a ha'.1
   have ub:=u1 b hb'.1
   rw [uj a b ha'.1 hb'.1 ha'.2 hb'.2 ((y3b hp h ua.1 ub.1 ua.2.1).1 e).1]
  ·have rr:=hR.rep.rng x hx
   have ri:=hR.rep.idem x hx
   obtain ⟨r,hr⟩: ∃r:Nat,R.getD x 0=r:=⟨(R.getD x 0).toNat,by omega⟩
   rw [hr,Int.toNat_natCast] at ri
   have rl:r<4*n:=by omega
   have ur:=u1 r rl
   refine ⟨u r,List.mem_map.2 ⟨r,(hf r).2 ⟨rl,ri⟩,rfl⟩,(y3b hp h hx ur.1 cx).2 ⟨?_,ur.2.1⟩⟩
   exact ((hR.iff x r hx rl).1 (by rw [hr,ri])).trans ur.2.2
 rw [hl.len_eq (Sp.SC.eqv hP) hT,List.length_map]
 unfold roots
 rw [hlen,List.countP_eq_length_filter]
end
section
variable {s m:List Int} {L:Int}
theorem y6k (hv:yal s m L=true) (q:Nat->Nat) (hq: ∀c,c<s.length->q c=2\/q c=nb01 (s.getD c 0== -1)):Flp m s.length (fun x=>outB s (x:Int)) q:=by
 have v:=yb2 hv
 have hD:=yf9 (pmOk hv)
 refine ⟨fun x hx=>?_,fun x hx=>?_⟩
 ·have:=(v.mt x hx).2.2.2.2
  rw [hD.cast hx]
  revert this
  cases outB s (m.getD x 0)<;>cases outB s (x:Int)<;>simp
 ·have hc:x/4<s.length:=by omega
  rw [yc0]
  unfold st3
  rw [show ((x:Int)/4).toNat=x/4 by omega]
  have e:x=4*(x/4)\/x=4*(x/4)+1\/x=4*(x/4)+2\/x=4*(x/4)+3:=by omega
  rcases hq _ hc with h|h<;>rw [h]
  ·have hsg:=v.sg (x/4) hc
   generalize x/4=c at*
   obtain ⟨_,_,_,_,_,_,_,_,v9,v10,v11,v12⟩:=ydk (c:Int)
   have ov:=ynb s c
   rcases e with rfl|rfl|rfl|rfl
   ·rw [show ((4*c:Nat):Int)=4*(c:Int) by omega,v9,show (4*(c:Int)+2)=((4*c+2:Nat):Int) by omega,show (4*(c:Int))=((4*c:Nat):Int) by omega,ov.1,ov.2.2.1];rfl
   ·rw [show ((4*c+1:Nat):Int)=4*(c:Int)+1 by omega,v10,show (4*(c:Int)+3)=((4*c+3:Nat):Int) by omega,show (4*(c:Int)+1)=((4*c+1:Nat):Int) by omega,ov.2.1,ov.2.2.2]
    rcases hsg with e|e<;>rw [e]<;>rfl
   ·rw [show ((4*c+2:Nat):Int)=4*(c:Int)+2 by omega,v11,show (4*(c:Int)+2)=((4*c+2:Nat):Int) by omega,show (4*(c:Int))=((4*c:Nat):Int) by omega,ov.1,ov.2.2.1];rfl
   ·rw [show ((4*c+3:Nat):Int)=4*(c:Int)+3 by omega,v12,show (4*(c:Int)+3)=((4*c+3:Nat):Int) by omega,show (4*(c:Int)+1)=((4*c+1:Nat):Int) by omega,ov.2.1,ov.2.2.2]
    rcases hsg with e|e<;>rw [e]<;>rfl
  ·have:=Sp.jnB_out (s:=s) (c:=x/4) (x:=(x:Int)) (v.sg _ hc) (by omega)
   rw [←this]
   unfold nb01
   cases (s.getD (x/4) 0== -1)<;>rfl
def oS (s:List Int) (x:Nat):Int:=if outB s (x:Int) then 1 else-1
theorem y9f (hv:yal s m L=true): ∃σ:Nat->Bool,∀q:Nat->Nat,(∀c,c<s.length->q c<2)->Flp m s.length σ q:=by
 have v:=yb2 hv
 have hp:=pmOk hv
 obtain ⟨hd,hsp⟩:=Sp.dia_of hv
 have hS:=hd.sph.1 hsp
 have hf:=y6k hv (fun _=>2) fun _ _=> .inl rfl
 obtain ⟨g,hg⟩:=hS.pot (oS s) (fun x _=>by unfold oS;by_cases e:outB s (x:Int)=true<;>simp [e]) (fun x hx=>by
  have:=hf.mt x hx
  unfold oS
  rw [show outB s ((Sp.alD m x:Nat):Int)= !outB s (x:Int) from this]
  cases outB s (x:Int)<;>rfl) (fun c hc=>by
  have ov:=ynb s c
  have hsg:=v.sg c hc
  unfold oS
  simp only [ov.1,ov.2.1,ov.2.2.1,ov.2.2.2]
  rcases hsg with e|e<;>rw [e]<;>exact ⟨rfl,rfl⟩)
 have ov: ∀x,oS s x=1\/oS s x= -1:=fun x=>by unfold oS;by_cases e:outB s (x:Int)=true<;>simp [e]
 have c1: ∀x,x<4*s.length->(g (Sp.alD m x)% 2=0↔ ¬g x % 2=0):=fun x hx=>by
  have:=hg.edge x hx
  have:=ov x
  omega
 have c2: ∀x,x<4*s.length->(g (Sp.siD x)% 2=0↔ ¬g x % 2=0):=fun x hx=>by
  have h1:=hg.face _ (hd.mat.lt x hx)
  rw [hd.mat.inv x hx] at h1
  rw [h1];exact c1 x hx
 refine ⟨fun x=>decide (g x % 2=0),fun q hq=>⟨fun x hx=>?_,fun x hx=>?_⟩⟩
 ·have:=c1 x hx
  simp only [this]
  by_cases e:g x % 2=0<;>simp [e]
 ·have hc:x/4<s.length:=by omega
  have hj:=yc0 q x
  unfold st3 at hj
  rw [show ((x:Int)/4).toNat=x/4 by omega] at hj
  have hq2:=hq _ hc
  have e:x=4*(x/4)\/x=4*(x/4)+1\/x=4*(x/4)+2\/x=4*(x/4)+3:=by omega
  generalize x/4=c at*
  have d0:=c2 (4*c) (by omega)
  have d1:=c2 (4*c+1) (by omega)
  have d2:=c2 (4*c+2) (by omega)
  have d3:=c2 (4*c+3) (by omega)
  rw [show Sp.siD (4*c)=4*c+3 by unfold Sp.siD;omega] at d0
  rw [show Sp.siD (4*c+1)=4*c by unfold Sp.siD;omega] at d1
  rw [show Sp.siD (4*c+2)=4*c+1 by unfold Sp.siD;omega] at d2
  rw [show Sp.siD (4*c+3)=4*c+2 by unfold Sp.siD;omega] at d3
  obtain ⟨v1,v2,v3,v4,v5,v6,v7,v8,_⟩:=ydk (c:Int)
  have key: ∀y,(jS q x=y)->(g y % 2=0↔ ¬g x % 2=0)->decide (g (jS q x)% 2=0)= !decide (g x % 2=0):=fun y hy h=>by
   rw [hy]
   by_cases e:g x % 2=0
   ·rw [decide_eq_true e,decide_eq_false fun h'=>h.1 h' e];rfl
   ·rw [decide_eq_false e,decide_eq_true (h.2 e)];rfl
  have q01:q c=0\/q c=1:=by omega
  rcases q01 with h|h<;>rw [h] at hj<;>rcases e with rfl|rfl|rfl|rfl
  ·rw [show ((4*c:Nat):Int)=4*(c:Int) by omega,v1] at hj;exact key (4*c+1) (by omega) (by omega)
  ·rw [show ((4*c+1:Nat):Int)=4*(c:Int)+1 by omega,v2] at hj;exact key (4*c) (by omega) (by omega)
  ·rw [show ((4*c+2:Nat):Int)=4*(c:Int)+2 by omega,v3] at hj;exact key (4*c+3) (by omega) (by omega)
  ·rw [show ((4*c+3:Nat):Int)=4*(c:Int)+3 by omega,v4] at hj;exact key (4*c+2) (by omega) (by omega)
  ·rw [show ((4*c:Nat):Int)=4*(c:Int) by omega,v5] at hj;exact key (4*c+3) (by omega) (by omega)
  ·rw [show ((4*c+1:Nat):Int)=4*(c:Int)+1 by omega,v6] at hj;exact key (4*c+2) (by omega) (by omega)
  ·rw [show ((4*c+2:Nat):Int)=4*(c:Int)+2 by omega,v7] at hj;exact key (4*c+1) (by omega) (by omega)
  ·rw [show ((4*c+3:Nat):Int)=4*(c:Int)+3 by omega,v8] at hj;exact key (4*c) (by omega) (by omega)
end
end Go.Proofs.YtphjphpmfflfpaaDoor
namespace Go.Proofs.YtphjphpmfflfpaaDoor
set_option linter.unusedSimpArgs false
set_option linter.unusedVariables false
open Classical
theorem yod (n:Nat):Sp.Mat (4*n) op2:=⟨fun x hx=>by unfold op2;omega,fun x hx=>by unfold op2;omega,fun x hx=>by unfold op2;omega⟩
theorem yoe (x:Nat):op2 (op2 x)=x:=by unfold op2;omega
theorem y3c (x:Nat):jS (fun _=>1) (jS (fun _=>0) x)=op2 x:=by
 obtain ⟨v1,v2,v3,v4,v5,v6,v7,v8,_⟩:=ydk ((x/4:Nat):Int)
 have h0:=yc0 (fun _=>0) x
 have h1:=yc0 (fun _=>1) (jS (fun _=>0) x)
 unfold st3 at h0 h1
 have e:x=4*(x/4)\/x=4*(x/4)+1\/x=4*(x/4)+2\/x=4*(x/4)+3:=by omega
 generalize x/4=c at*
 unfold op2
 rcases e with rfl|rfl|rfl|rfl
 ·rw [show ((4*c:Nat):Int)=4*(c:Int) by omega,v1] at h0
  rw [h0,v6] at h1;omega
 ·rw [show ((4*c+1:Nat):Int)=4*(c:Int)+1 by omega,v2] at h0
  rw [h0,v5] at h1;omega
 ·rw [show ((4*c+2:Nat):Int)=4*(c:Int)+2 by omega,v3] at h0
  rw [h0,v8] at h1;omega
 ·rw [show ((4*c+3:Nat):Int)=4*(c:Int)+3 by omega,v4] at h0
  rw [h0,v7] at h1;omega
theorem y77 (x:Nat):jS (fun _=>1) x=op2 (jS (fun _=>0) x):=by
 have:=y3c (jS (fun _=>0) x)
 rwa [ync] at this
section
variable {m:List Int} {n:Nat} {σ:Nat->Bool} (hp:PmOk m n) (hA:Flp m n σ fun _=>0) (hB:Flp m n σ fun _=>1)
include hp hA hB
omit hp in
theorem yhb {x:Nat} (hx:x<4*n):σ (op2 x)=σ x:=by
 rw [←y3c,hB.jn _ (yj7 hx),hA.jn x hx,Bool.not_not]
omit hB in
theorem ysk {x:Nat} (hx:x<4*n):σ (pF m σ (fun _=>0) x)=σ x:=by
 unfold pF
 split
 ·rename_i h
  have hm:=(yf9 hp).mat
  rw [hA.jn _ (hm.lt x hx),hA.mt x hx,Bool.not_not]
 ·rfl
omit hp in
theorem ysl: ∀k,k<=n->Sp.cU (fun x=>σ x=true) (4*k)=2*k
 |0,_=>by simp [Sp.cU]
 |k+1,hk=>by
  have ih:=ysl k (by omega)
  rw [show 4*(k+1)=4*k+1+1+1+1 by omega,Sp.cU_succ,Sp.cU_succ,Sp.cU_succ,Sp.cU_succ,ih]
  have e1:σ (4*k+1)= !σ (4*k):=by
   have h:=hA.jn (4*k) (by omega)
   have hj:=yc0 (fun _=>0) (4*k)
   unfold st3 at hj
   obtain ⟨v1,_⟩:=ydk (k:Int)
   rw [show ((4*k:Nat):Int)=4*(k:Int) by omega,v1] at hj
   rw [show jS (fun _=>0) (4*k)=4*k+1 by omega] at h
   exact h
  have e2:=yhb hA hB (x:=4*k) (by omega)
  have e3:=yhb hA hB (x:=4*k+1) (by omega)
  rw [show op2 (4*k)=4*k+1+1 by unfold op2;omega] at e2
  rw [show op2 (4*k+1)=4*k+1+1+1 by unfold op2;omega] at e3
  simp only [e1,e2,e3]
  cases σ (4*k)<;>simp<;>omega
theorem yzo {lK:List Nat} (hK:Sp.Tr (4*n) (fun x=>σ x=true) (Sp.KK (pF m σ fun _=>0) op2 (4*n)) lK):cirS m n (fun _=>false)+cirS m n (fun _=>true)<=2*lK.length+n:=by
 have hs:=yfr hp hA
 have hm:=yod n
 have hD:=(yf9 hp).mat
 have hB':=yfr hp hB
 have h1: ∀x,x<4*n->(σ x=true↔σ (pF m σ (fun _=>0) x)=true):=fun x hx=>by rw [ysk hp hA hx]
 have h2: ∀x,x<4*n->(σ x=true↔σ (op2 x)=true):=fun x hx=>by rw [yhb hA hB hx]
 have hg:=Sp.phK_perm hs hm (4*n) (Nat.le_refl _)
 obtain ⟨lV,hV⟩:=Sp.Tr.exists (Sp.SC.eqv hs) fun x=>σ x=true
 obtain ⟨lF,hF⟩:=Sp.Tr.exists (Sp.SC.eqv hg) fun x=>σ x=true
 have eu:=Sp.euler hs hm h1 h2 (4*n) (Nat.le_refl _) lV lF lK hV hF hK
 have eV:=ysj hp hA hV
 have eE:=Sp.eU_card hm h2
 rw [ysl hA hB n (Nat.le_refl _)] at eE
 have step: ∀x,x<4*n->σ x=true->Sp.phK (pF m σ fun _=>0) op2 (4*n) x<4*n/\σ (Sp.phK (pF m σ fun _=>0) op2 (4*n) x)=true/\op2 (Sp.phK (pF m σ fun _=>0) op2 (4*n) x)=pF m σ (fun _=>1) (op2 x):=fun x hx cx=>by
  have ho:=hm.lt x hx
  have co:=(h2 x hx).1 cx
  refine ⟨hg.lt x hx,?_,?_⟩
  ·rw [Sp.ph_N hm hx];exact (h1 _ ho).1 co
  ·rw [Sp.ph_N hm hx]
   unfold pF
   rw [if_pos co,if_pos co,y77]
 have iter: ∀k x,x<4*n->σ x=true->Sp.itn (Sp.phK (pF m σ fun _=>0) op2 (4*n)) k x<4*n/\σ (Sp.itn (Sp.phK (pF m σ fun _=>0) op2 (4*n)) k x)=true/\op2 (Sp.itn (Sp.phK (pF m σ fun _=>0) op2 (4*n)) k x)=Sp.itn (pF m σ fun _=>1) k (op2 x):=fun k=>by
  induction k with
  |zero=>intro x hx cx;exact ⟨hx,cx,rfl⟩
  |succ k ih=>
   intro x hx cx
   obtain ⟨a,b,c⟩:=ih x hx cx
   obtain ⟨a',b',c'⟩:=step _ a b
   exact ⟨a',b',by simp only [Sp.itn];rw [c',c]⟩
 have opi: ∀x y,op2 x=op2 y->x=y:=fun x y e=>by rw [←yoe x,e,yoe]
 have hF':Sp.Tr (4*n) (fun x=>σ x=true) (Sp.SC (pF m σ fun _=>1)) (lF.map op2):=by
  refine ⟨fun x hx=>?_,yc6 (fun x _ y _ e=>opi x y e) hF.nodup,fun x hx y hy e=>?_,fun z hz cz=>?_⟩
  ·obtain ⟨y,hy,rfl⟩:=List.mem_map.1 hx
   obtain ⟨a,b⟩:=hF.mem y hy
   exact ⟨hm.lt y a,(h2 y a).1 b⟩
  ·obtain ⟨x',hx',rfl⟩:=List.mem_map.1 hx
   obtain ⟨y',hy',rfl⟩:=List.mem_map.1 hy
   obtain ⟨a,b⟩:=hF.mem x' hx'
   obtain ⟨k,hk⟩:=e
   rw [←(iter k x' a b).2.2] at hk
   rw [hF.apart x' hx' y' hy' ⟨k,opi _ _ hk⟩]
  ·have ho:=hm.lt z hz
   obtain ⟨y,hy,k,hk⟩:=hF.all (op2 z) ho ((h2 z hz).1 cz)
   refine ⟨op2 y,List.mem_map_of_mem hy,k,?_⟩
   have:=(iter k (op2 z) ho ((h2 z hz).1 cz)).2.2
   rw [hk,yoe] at this
   exact this.symm
 have eF:=ysj hp hB hF'
 rw [List.length_map] at eF
 have c1:cirS m n (fun _=>false)=cir3 m n (fun _=>0):=ymx hp _
 have c2:cirS m n (fun _=>true)=cir3 m n (fun _=>1):=ymx hp _
 omega
theorem y2o {x y:Nat} (hx:x<4*n) (hy:y<4*n) (hc:Sp.KK Sp.siD (Sp.alD m) (4*n) x y) (cx:σ x=true) (cy:σ y=true):Sp.KK (pF m σ fun _=>0) op2 (4*n) x y:=by
 have hs:=yfr hp hA
 have hm:=yod n
 have hD:=(yf9 hp).mat
 have hE:=Sp.K_eqv hs hm
 have hE0:=Sp.K_eqv (Sp.siD_perm n) hD
 have alt: ∀c,c<n->σ (4*c+1)= !σ (4*c):=fun c h=>by
  have h:=hA.jn (4*c) (by omega)
  have hj:=yc0 (fun _=>0) (4*c)
  unfold st3 at hj
  obtain ⟨v1,_⟩:=ydk (c:Int)
  rw [show ((4*c:Nat):Int)=4*(c:Int) by omega,v1] at hj
  rw [show jS (fun _=>0) (4*c)=4*c+1 by omega] at h
  exact h
 have same: ∀u v,u<4*n->v<4*n->σ u=true->σ v=true->u/4=v/4->Sp.KK (pF m σ fun _=>0) op2 (4*n) u v:=fun u v hu hv cu cv e=>by
  have h1:=yhb hA hB hu
  have h3:=alt (u/4) (by omega)
  have h4:=yhb hA hB (x:=4*(u/4)) (by omega)
  have h5:=yhb hA hB (x:=4*(u/4)+1) (by omega)
  rw [show op2 (4*(u/4))=4*(u/4)+2 by unfold op2;omega] at h4
  rw [show op2 (4*(u/4)+1)=4*(u/4)+3 by unfold op2;omega] at h5
  have hor:v=u\/v=op2 u:=by
   have eu:u=4*(u/4)\/u=4*(u/4)+1\/u=4*(u/4)+2\/u=4*(u/4)+3:=by omega
   have ev:v=4*(u/4)\/v=4*(u/4)+1\/v=4*(u/4)+2\/v=4*(u/4)+3:=by omega
   generalize u/4=c at*
   unfold op2
   rcases eu with rfl|rfl|rfl|rfl<;>rcases ev with rfl|rfl|rfl|rfl<;>first|omega|(exfalso;clear h1;revert cu cv h3 h4 h5;cases σ (4*c)<;>cases σ (4*c+1)<;>cases σ (4*c+2)<;>cases σ (4*c+3)<;>simp)
  rcases hor with rfl|rfl
  ·exact hE.rfl' _ hu
  ·exact Sp.K_al hs hm hu
 have some': ∀c,c<n-> ∃u,u<4*n/\u/4=c/\σ u=true:=fun c h=>by
  have:=alt c h
  by_cases e:σ (4*c)=true
  ·exact ⟨4*c,by omega,by omega,e⟩
  ·exact ⟨4*c+1,by omega,by omega,by rw [this];simpa using e⟩
 have hR:Sp.EqvN (4*n) fun x y=> ∀u v,u<4*n->v<4*n->σ u=true->σ v=true->u/4=x/4->v/4=y/4->Sp.KK (pF m σ fun _=>0) op2 (4*n) u v:=by
  refine ⟨fun x hx u v hu hv cu cv e1 e2=>same u v hu hv cu cv (e1.trans e2.symm),fun x y hx hy h u v hu hv cu cv e1 e2=>hE.symm _ _ hv hu (h v u hv hu cv cu e2 e1),fun x y z hx hy hz h1 h2 u v hu hv cu cv e1 e2=>?_⟩
  obtain ⟨w,w1,w2,w3⟩:=some' (y/4) (by omega)
  exact hE.trans _ _ _ hu w1 hv (h1 u w hu w1 cu w3 e1 w2) (h2 w v w1 hv w3 cv w2 e2)
 refine Sp.K_least (Sp.siD_perm n) hD hR (fun x hx u v hu hv cu cv e1 e2=>same u v hu hv cu cv (by rw [e1,e2,Sp.siD_div])) (fun x hx u v hu hv cu cv e1 e2=>?_) hx hy hc x y hx hy cx cy rfl rfl
 have ha:=hD.lt x hx
 have hmt:=hA.mt x hx
 by_cases cx':σ x=true
 ·have h1:=Sp.K_si hs hm hx
  have h2:pF m σ (fun _=>0) x=jS (fun _=>0) (Sp.alD m x):=by unfold pF;rw [if_pos cx']
  have h3:=ysk hp hA hx
  rw [h2] at h1 h3
  have hl:=yj7 (s:=fun _=>0) ha
  exact hE.trans _ _ _ hu hx hv (same u x hu hx cu cx' e1) (hE.trans _ _ _ hx hl hv h1 (same _ v hl hv (by rw [h3];exact cx') cv (by rw [ysi];exact e2.symm)))
 ·have cx2:σ (Sp.alD m x)=true:=by rw [hmt];simpa using cx'
  have h1:=Sp.K_si hs hm ha
  have h2:pF m σ (fun _=>0) (Sp.alD m x)=jS (fun _=>0) x:=by unfold pF;rw [if_pos cx2,hD.inv x hx]
  have h3:=ysk hp hA ha
  rw [h2] at h1 h3
  have hl:=yj7 (s:=fun _=>0) hx
  exact hE.trans _ _ _ hu hl hv (same u _ hu hl cu (by rw [h3];exact cx2) (by rw [ysi];exact e1)) (hE.trans _ _ _ hl ha hv (hE.symm _ _ ha hl h1) (same _ v ha hv cx2 cv e2.symm))
end
end Go.Proofs.YtphjphpmfflfpaaDoor
set_option linter.unusedSimpArgs false
set_option linter.unusedVariables false
namespace Go.Proofs.YtphjphpmfflfpaaDoor
namespace Sp
section
variable {s s1 s2 m m1 m2:List Int} {L L1 L2:Int} {n c k:Nat}
variable {col:Nat->Bool} {LA LB:Int}
end
end Sp
end Go.Proofs.YtphjphpmfflfpaaDoor
namespace Go.Proofs.YtphjphpmfflfpaaDoor
set_option linter.unusedSimpArgs false
set_option linter.unusedVariables false
section
variable {m1 m2:List Int} {n1 n2:Nat}
end
theorem yzp (F:Nat->Int->Int) (K:Nat): ∀i e,dmn i (fun x=>sm (fun k=>F k x) K) e=sm (fun k=>dmn i (F k) e) K
 |0,e=>rfl
 |i+1,e=>by
  simp only [dmn,dml,yzp F K i]
  have h1:sm (fun k=> -dmn i (F k) (e+2)-dmn i (F k) (e-2)) K= -1*sm (fun k=>dmn i (F k) (e+2)) K+ -1*sm (fun k=>dmn i (F k) (e-2)) K:=by
   rw [←yqy,←yqy,←ye2];exact yb3 fun k _=>by omega
  rw [h1];omega
theorem yu0 (j:Nat) (w:Int): ∀i e,dmn i (fun x=>dpw j (x-w)) e=dpw (i+j) (e-w)
 |0,e=>by rw [Nat.zero_add];rfl
 |i+1,e=>by
  rw [show i+1+j=(i+j)+1 by omega]
  simp only [dmn,dml,dpw,yu0 j w i]
  rw [show e+2-w=e-w+2 by omega,show e-2-w=e-w-2 by omega]
section
variable {m1 m2:List Int} {n1 n2 L1 L2:Nat}
end
end Go.Proofs.YtphjphpmfflfpaaDoor
namespace Go.Proofs.YtphjphpmfflfpaaDoor
set_option linter.unusedSimpArgs false
set_option linter.unusedVariables false
section
variable {n:Nat} {mt jn mt':Int->Int} {x y:Int}
end
section
variable {m:List Int} {n:Nat}
end
end Go.Proofs.YtphjphpmfflfpaaDoor
namespace Go.Proofs.YtphjphpmfflfpaaDoor
set_option linter.unusedSimpArgs false
set_option linter.unusedVariables false
namespace Sp
open Classical
section
variable {N:Nat} {si al al':Nat->Nat}
end
end Sp
section
variable {s1 s2 m1 m2:List Int} {L1 L2:Int} {n1 n2:Nat}
theorem y78 {m:List Int} {n:Nat} (hp:PmOk m n) (ch:Nat->Bool) {x:Nat} {z:Int} (hx:x<4*n) (h:Cir (fun x=>m.getD x.toNat 0) (fun x=>jnB (ch (x/4).toNat) x) x z):Sp.KK Sp.siD (Sp.alD m) (4*n) x z.toNat:=by
 have hi:=yck hp.ok hp.inv hp.ne ch
 have hD:Sp.Dia m n:=⟨⟨hp.ok,hp.inv⟩,hp.ne⟩
 have hE:=Sp.K_eqv (Sp.siD_perm n) hD.mat
 have key: ∀z,Cir (fun x=>m.getD x.toNat 0) (fun x=>jnB (ch (x/4).toNat) x) x z->InR n z/\Sp.KK Sp.siD (Sp.alD m) (4*n) x z.toNat:=fun z h=>by
  induction h with
  |refl=>exact ⟨by unfold InR;omega,by simpa using hE.rfl' _ hx⟩
  | @mate z _ ih=>
    have hr:=hi.mr z ih.1
    have h0:=ih.1
    unfold InR at hr h0
    exact ⟨hr,hE.trans _ _ _ hx (by omega) (by omega) ih.2 (Sp.K_al (Sp.siD_perm n) hD.mat (x:=z.toNat) (by omega))⟩
  | @join z _ ih=>
    have hr:=hi.jr z ih.1
    have h0:=ih.1
    refine ⟨hr,?_⟩
    unfold InR at hr h0
    refine hE.trans _ _ _ hx (by omega) (by omega) ih.2 (Sp.K_sc (Sp.siD_perm n) hD.mat (x:=z.toNat) (by omega) (Sp.siD_sc.2 ?_))
    have:jnB (ch (z/4).toNat) z/4=z/4:=by unfold jnB;rw [ydj,yci];split<;>omega
    omega
 exact (key z h).2
end
end Go.Proofs.YtphjphpmfflfpaaDoor
namespace Go.Proofs.YtphjphpmfflfpaaDoor
set_option linter.unusedSimpArgs false
set_option linter.unusedVariables false
open Classical
theorem y2p {s m:List Int} {L:Int} (hv:yal s m L=true): ∃k,(∀ch,k<=cirS m s.length ch)/\cirS m s.length (fun _=>false)+cirS m s.length (fun _=>true)<=s.length+2*k/\(0<s.length->1<=k):=by
 have hp:=pmOk hv
 obtain ⟨σ,hσ⟩:=y9f hv
 have hA:=hσ (fun _=>0) fun _ _=>by omega
 have hB:=hσ (fun _=>1) fun _ _=>by omega
 have hE:=Sp.K_eqv (yfr hp hA) (yod s.length)
 obtain ⟨lK,hK⟩:=Sp.Tr.exists hE fun x=>σ x=true
 have h1:=yzo hp hA hB hK
 refine ⟨lK.length,fun ch=>?_,by omega,fun hn=>?_⟩
 ·have hR:=ymq (ch:=ch) hp.ok hp.inv hp.ne
  unfold cirS roots
  rw [hR.rep.len,List.countP_eq_length_filter]
  refine yyw hK.nodup (fun x r=>(mgB m ch s.length).getD x 0=(r:Int)) (fun x hx=>?_) fun x x' r hx hx' e1 e2=>?_
  ·have hl:=(hK.mem x hx).1
   have r1:=hR.rep.rng x hl
   have r2:=hR.rep.idem x hl
   refine ⟨((mgB m ch s.length).getD x 0).toNat,?_,by omega⟩
   simp only [List.mem_filter,List.mem_range,beq_iff_eq]
   exact ⟨by omega,by rw [r2];omega⟩
  ·have a:=hK.mem x hx
   have b:=hK.mem x' hx'
   have hc:=(hR.iff x x' a.1 b.1).1 (e1.trans e2.symm)
   have hk:=y78 hp ch a.1 hc
   rw [Int.toNat_natCast] at hk
   exact hK.apart x hx x' hx' (y2o hp hA hB a.1 b.1 hk a.2 b.2)
 ·have hz: ∃z,z<4*s.length/\σ z=true:=by
   by_cases e:σ 0=true
   ·exact ⟨0,by omega,e⟩
   ·exact ⟨jS (fun _=>0) 0,yj7 (by omega),by rw [hA.jn 0 (by omega)];simpa using e⟩
  obtain ⟨z,z1,z2⟩:=hz
  obtain ⟨y,y1,_⟩:=hK.all z z1 z2
  exact List.length_pos_of_mem y1
theorem y79 {m:List Int} {n L K j:Nat} (hK: ∀k,k<2^n->K<=cN m n L k) (h1:j<=K) (e:Int):brT m n L j e=dmn (K-j) (brT m n L K) e:=by
 have h2:dmn (K-j) (brT m n L K) e=sm (fun k=>dmn (K-j) (fun x=>if K<=cN m n L k then dpw (cN m n L k-K) (x-wB n k) else 0) e) (2^n):=yzp (fun k x=>if K<=cN m n L k then dpw (cN m n L k-K) (x-wB n k) else 0) (2^n) (K-j) e
 rw [h2]
 unfold brT hrT
 refine yb3 fun k hk=>?_
 have h3:=hK k hk
 rw [if_pos (by omega),show (fun x=>if K<=cN m n L k then dpw (cN m n L k-K) (x-wB n k) else 0)=fun x=>dpw (cN m n L k-K) (x-wB n k) from funext fun x=>if_pos h3,yu0,show K-j+(cN m n L k-K)=cN m n L k-j by omega]
structure DenK (m:List Int) (n L K:Nat):Prop where
 pm:PmOk m n
 low: ∀ch,K<=cirS m n ch+L
 sum:cirS m n (fun _=>false)+cirS m n (fun _=>true)+2*L<=n+2*K
 pos:1<=K
theorem y9g {s m:List Int} {L:Int} (hv:yal s m L=true) (h0:0<s.length): ∃K,DenK m s.length 0 K:=by
 obtain ⟨k,k1,k2,k3⟩:=y2p hv
 exact ⟨k,pmOk hv,fun ch=>k1 ch,by omega,k3 h0⟩
theorem DenK.ok {m:List Int} {n L K j:Nat} (h:DenK m n L K) (hj:j<=K) {p:List (Int×Int)} (ha:AscN p) (hf: ∀e,cfL p e=brT m n L j e) (hne:0<p.length):
  K-j+1<=p.length/\ya9 p-lowE p+4*j<=4*(n:Int)+4*K:=by
 have hK: ∀c,c<2^n->K<=cN m n L c:=fun c _=>by unfold cN;have:=h.low (chB c);omega
 have ht:=yh5 (K-j) p (brT m n L K) ha (y5l h.pm K) (fun e=>by rw [hf,y79 hK hj]) (fun e=>by rw [e] at hne;simp at hne)
 refine ⟨by omega,?_⟩
 have sup: ∀i,i<p.length-> -(n:Int)-2*(cirS m n (fun _=>true)+L)+2*j<=(p.getD i (0,0)).1/\(p.getD i (0,0)).1<=n+2*(cirS m n (fun _=>false)+L)-2*j:=fun i hi=>by
  have hm:p.getD i (0,0)∈p:=by simp [hi]
  have h1:brT m n L j (p.getD i (0,0)).1≠0:=by rw [←hf,yeh ha hm];exact ha.nz _ hm
  have h2:=ydm h.pm h1
  omega
 have a:=sup 0 hne
 have b:=sup (p.length-1) (by omega)
 have hs:=h.sum
 unfold ya9 lowE
 omega
end Go.Proofs.YtphjphpmfflfpaaDoor
