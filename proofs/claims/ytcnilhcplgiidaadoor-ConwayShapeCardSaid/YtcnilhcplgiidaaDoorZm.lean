/- Plain: the bracket at A = 1; the circles of the state that crosses everywhere are the strands. -/
import Derived.Test.YtcnilhcplgiidaaDoorZk
import Derived.Test.YtcnilhcplgiidaaDoorSr
namespace Go.Proofs.YtcnilhcplgiidaaDoor
set_option linter.unusedSimpArgs false
set_option linter.unusedVariables false
def stX (n i k:Nat) (c:Nat):Nat:=if c<i then nb01 (chB k c) else if c<n then 2 else 0
section
variable {m:List Int} {n:Nat} (hp:PmOk m n)
include hp
end
section
variable {s m:List Int} {L:Int} (hv:ybj s m L)
include hv
theorem yid {x:Nat} (hx:x<4*s.length):outB s (m.getD x 0)= !outB s x/\outB s (yah m x)=outB s x:=by
 have hm:=hv.mt x hx
 have h5:=hm.2.2.2.2
 have e1:outB s (m.getD x 0)= !outB s x:=by cases h1:outB s x<;>cases h2:outB s (m.getD x 0)<;>simp_all
 refine ⟨e1,?_⟩
 have key: ∀y:Int,0<=y->y<4*s.length->outB s (yaz y 2)= !outB s y:=fun y h0 h1=>by
  have hs:=hv.sg (y/4).toNat (by omega)
  have e:yaz y 2=y-y % 4+(y % 4+2)% 4:=by unfold yaz;rw [show (2:Int).tmod 4=2 by decide];omega
  have e4:(y-y % 4+(y % 4+2)% 4)/4=y/4:=by omega
  rw [e]
  unfold outB
  rw [e4]
  rcases (show y % 4=0\/y % 4=1\/y % 4=2\/y % 4=3 by omega) with h|h|h|h
  ·rw [if_neg (by omega),if_pos (by omega),if_neg (by omega),if_neg (by omega),if_neg (by omega)];rfl
  ·rw [if_neg (by omega),if_neg (by omega),if_pos (by omega),if_pos h]
   rcases hs with hs|hs<;>rw [hs]<;>rfl
  ·rw [if_neg (by omega),if_neg (by omega),if_neg (by omega),if_neg (by omega),if_pos h];rfl
  ·rw [if_pos (by omega),if_neg (by omega),if_neg (by omega),if_pos h]
   rcases hs with hs|hs<;>rw [hs]<;>rfl
 unfold yah
 rw [Int.toNat_natCast,key _ hm.1 (by omega),e1,Bool.not_not]
theorem yea {x:Nat} (hx:x<4*s.length): ∀j,outB s (it (yah m) j x)=outB s x
 |0=>rfl
 |j+1=>by
  have hR:InR s.length (x:Int):=by unfold InR;omega
  have hS:=(yb5 hv.prd).it hR j
  unfold InR at hS
  have e:it (yah m) j (x:Int)=((it (yah m) j (x:Int)).toNat:Int):=by omega
  have h1:=(yid hv (x:=(it (yah m) j (x:Int)).toNat) (by omega)).2
  rw [←e] at h1
  show outB s (yah m (it (yah m) j x))=_
  rw [h1,yea hx j]
theorem yot (hp:PmOk m s.length):(yae s m).length=cir3 m s.length (stX s.length 0 0):=by
 have hl:=hv.len
 have hR: ∀x:Nat,x<m.length->InR s.length (x:Int):=fun x hx=>by unfold InR;omega
 have hof:=fun (x:Nat) (hx:x<m.length)=>by
  have:=yb2 (yb5 hv.prd) (hR x hx)
  rw [←hl] at this;exact this
 have hcy:=(ykp (N:=m.length) (want:=outB s) (orb:=orbF (yah m) m.length) (fun x hx _ y hy=>by
  have:=(hof x hx).2.1 y hy
  unfold InR at this;omega) (fun x hx _=>(hof x hx).2.2.2.2.1) (fun x y hx hy hw hm=>by
  refine ⟨?_,(hof x hx).2.2.1 y hm⟩
  obtain ⟨j,hj⟩:=((hof x hx).1 y).1 hm
  rw [←hj,yea hv (by omega) j];exact hw) (fun x y z hx hy hz _ h1 h2=>(hof x hx).2.2.2.1 y h1 z h2) m.length (Nat.le_refl _)).1
 have hlen:(yae s m).length=((List.range m.length).filter fun i:Nat=>outB s i&&ydw i (orbF (yah m) m.length i)).length:=by
  unfold yae;rw [hcy,List.length_map]
 have hRc:=ygd hp (stX s.length 0 0)
 have hi:=yc8 hp.ok hp.inv hp.ne (stX s.length 0 0)
 have hroots:cir3 m s.length (stX s.length 0 0)=((List.range m.length).filter fun x=>(crN (fun x=>m.getD x.toNat 0) (st3 (stX s.length 0 0)) (4*s.length) (4*s.length)).getD x 0==(x:Int)).length:=by
  unfold cir3 roots
  rw [List.countP_eq_length_filter,hRc.rep.len,hl]
 rw [hlen,hroots]
 generalize hRR:crN (fun x=>m.getD x.toNat 0) (st3 (stX s.length 0 0)) (4*s.length) (4*s.length)=R at*
 have jn2: ∀x:Int,InR s.length x->st3 (stX s.length 0 0) x=yaz x 2:=fun x hx=>by
  unfold InR at hx
  have e:yaz x 2=x-x % 4+(x % 4+2)% 4:=by unfold yaz;rw [show (2:Int).tmod 4=2 by decide];omega
  unfold st3 stX
  rw [if_neg (by omega),if_pos (by omega),e];rfl
 have nxE: ∀x:Int,InR s.length x-> ∀j,it (fun x=>st3 (stX s.length 0 0) (m.getD x.toNat 0)) j x=it (yah m) j x:=fun x hx j=>by
  induction j with
  |zero=>rfl
  |succ j ih=>
   show st3 _ (m.getD (it (fun x=>st3 (stX s.length 0 0) (m.getD x.toNat 0)) j x).toNat 0)=yah m (it (yah m) j x)
   rw [ih]
   exact jn2 _ (hi.mr _ ((yb5 hv.prd).it hx j))
 have cir: ∀x y:Nat,x<m.length->y<m.length->outB s x=true->outB s y=true->(R.getD x 0=R.getD y 0↔(y:Int)∈orbF (yah m) m.length x):=fun x y hx hy ox oy=>by
  rw [hRc.iff x y (by omega) (by omega),(hof x hx).1]
  obtain ⟨k,hk,hper⟩:=(yd8 hi).per (hR x hx)
  rw [←yic hi (hR x hx) hper]
  constructor
  ·rintro ⟨j,hj,e|e⟩
   ·exact ⟨j,by rw [←nxE _ (hR x hx)];exact e.symm⟩
   ·exfalso
    rw [nxE _ (hR x hx)] at e
    have hS:=(yb5 hv.prd).it (hR x hx) j
    unfold InR at hS
    have h1:=(yid hv (x:=(it (yah m) j (x:Int)).toNat) (by omega)).1
    rw [show (((it (yah m) j (x:Int)).toNat:Nat):Int)=it (yah m) j x by omega,yea hv (by omega) j,ox] at h1
    change (y:Int)=m.getD (it (yah m) j (x:Int)).toNat 0 at e
    rw [←e,oy] at h1
    cases h1
  ·rintro ⟨j,e⟩
   refine ⟨j % k,Nat.mod_lt _ hper.pos, .inl ?_⟩
   rw [←e,←nxE _ (hR x hx),←ym2 hper]
 have rg:=hRc.rep.rng
 refine Nat.le_antisymm (ytx (List.Nodup.sublist List.filter_sublist List.nodup_range) (fun x r=>R.getD x 0=(r:Int)) (fun x hx=>?_) (fun x x' r hx hx' h1 h2=>?_)) (ytx (List.Nodup.sublist List.filter_sublist List.nodup_range) (fun r x=>R.getD x 0=(r:Int)) (fun r hr=>?_) (fun r r' x _ _ h1 h2=>by omega))
 ·simp only [List.mem_filter,List.mem_range,Bool.and_eq_true] at hx
  have:=rg x (by omega)
  refine ⟨(R.getD x 0).toNat,?_,by omega⟩
  simp only [List.mem_filter,List.mem_range,beq_iff_eq]
  refine ⟨by omega,?_⟩
  rw [hRc.rep.idem x (by omega)];omega
 ·simp only [List.mem_filter,List.mem_range,Bool.and_eq_true] at hx hx'
  have e:=h1.trans h2.symm
  have a:=(cir x x' hx.1 hx'.1 hx.2.1 hx'.2.1).1 e
  have b:=(cir x' x hx'.1 hx.1 hx'.2.1 hx.2.1).1 e.symm
  have c1:=ybh.1 hx.2.2 _ a
  have c2:=ybh.1 hx'.2.2 _ b
  omega
 ·simp only [List.mem_filter,List.mem_range,beq_iff_eq] at hr
  obtain ⟨o,ho,oo,oR⟩: ∃o:Nat,o<m.length/\outB s o=true/\R.getD o 0=(r:Int):=by
   cases h:outB s r with
   |true=>exact ⟨r,hr.1,h,hr.2⟩
   |false=>
    have h1:=(yid hv (x:=r) (by omega)).1
    have hm:=hv.mt r (by omega)
    refine ⟨(m.getD r 0).toNat,by omega,by rw [show (((m.getD r 0).toNat:Nat):Int)=m.getD r 0 by omega,h1,h];rfl,?_⟩
    rw [←hr.2]
    refine ((hRc.iff r (m.getD r 0).toNat (by omega) (by omega)).2 ?_).symm
    rw [show (((m.getD r 0).toNat:Nat):Int)=m.getD r 0 by omega]
    have:=Cir.mate (mt:=fun x=>m.getD x.toNat 0) (jn:=st3 (stX s.length 0 0)) (Cir.refl (r:Int))
    simpa using this
  have yj0: ∀b:Nat,(∃y:Nat,y<=b/\(y:Int)∈orbF (yah m) m.length o)-> ∃y:Nat,(y:Int)∈orbF (yah m) m.length o/\ ∀z:Nat,(z:Int)∈orbF (yah m) m.length o->y<=z:=by
   intro b
   induction b with
   |zero=>rintro ⟨y,hy,h⟩;exact ⟨y,h,fun z _=>by omega⟩
   |succ b ih=>
    rintro ⟨y,hy,h⟩
    by_cases hq: ∃y:Nat,y<=b/\(y:Int)∈orbF (yah m) m.length o
    ·exact ih hq
    ·exact ⟨y,h,fun z hz=>by
      rcases Nat.lt_or_ge z y with g|g
      ·exact absurd ⟨z,by omega,hz⟩ hq
      ·exact g⟩
  obtain ⟨y,hy,hl2⟩:=yj0 o ⟨o,Nat.le_refl _,(hof o ho).2.2.2.2.1⟩
  have hyS:=(hof o ho).2.1 _ hy
  unfold InR at hyS
  have hyo:outB s y=true:=by
   obtain ⟨j,hj⟩:=((hof o ho).1 y).1 hy
   rw [←hj,yea hv (by omega) j];exact oo
  refine ⟨y,?_,?_⟩
  ·simp only [List.mem_filter,List.mem_range,Bool.and_eq_true]
   refine ⟨by omega,hyo,ybh.2 fun z hz=>?_⟩
   have h1:=(hof o ho).2.2.2.1 _ hy z hz
   have h2:=(hof o ho).2.1 z h1
   unfold InR at h2
   have:=hl2 z.toNat (by rw [show ((z.toNat:Nat):Int)=z by omega];exact h1)
   omega
  ·rw [←oR]
   exact ((cir o y ho (by omega) oo hyo).2 hy).symm
end
end Go.Proofs.YtcnilhcplgiidaaDoor
namespace Go.Proofs.YtcnilhcplgiidaaDoor
set_option linter.unusedSimpArgs false
set_option linter.unusedVariables false
set_option linter.unusedSectionVars false
namespace Sp
open Classical
section
variable {N:Nat} {si al si':Nat->Nat}
end
end Sp
section
variable {n:Nat} {f g:Nat->Nat} {m m':List Int}
end
end Go.Proofs.YtcnilhcplgiidaaDoor
namespace Go.Proofs.YtcnilhcplgiidaaDoor
set_option linter.unusedSimpArgs false
set_option linter.unusedVariables false
section
variable {m m':List Int} {n L:Nat}
end
theorem yct (s:List Int) (c:Nat):outB s ((4*c:Nat):Int)=false/\outB s ((4*c+1:Nat):Int)=(s.getD c 0==1)/\outB s ((4*c+2:Nat):Int)=true/\outB s ((4*c+3:Nat):Int)=(s.getD c 0== -1):=by
 have e0:((4*c:Nat):Int)% 4=0:=by omega
 have e1:((4*c+1:Nat):Int)% 4=1:=by omega
 have e2:((4*c+2:Nat):Int)% 4=2:=by omega
 have e3:((4*c+3:Nat):Int)% 4=3:=by omega
 have d1:(((4*c+1:Nat):Int)/4).toNat=c:=by omega
 have d3:(((4*c+3:Nat):Int)/4).toNat=c:=by omega
 unfold outB
 rw [e0,e1,e2,e3,d1,d3]
 simp
section
variable {s m:List Int} {L:Int}
end
end Go.Proofs.YtcnilhcplgiidaaDoor
