/- Plain: the bracket at A = 1; the circles of the state that crosses everywhere are the strands. -/
import Derived.Test.YtmdjdekgakidhaaGreatDoorZo
namespace Go.Proofs.YtmdjdekgakidhaaGreatDoor
set_option linter.unusedSimpArgs false
set_option linter.unusedVariables false
def pd (n i k:Nat) (c:Nat):Nat:=if c<i then cT (e9 k c) else if c<n then 2 else 0
section
variable {m:List Int} {n:Nat} (hp:bD m n)
include hp
end
section
variable {s m:List Int} {L:Int} (hv:x8 s m L)
include hv
theorem GF {x:Nat} (hx:x<4*s.length):aB s (m.getD x 0)= !aB s x/\aB s (a8 m x)=aB s x:=by
 have hm:=hv.mt x hx;have h5:=hm.2.2.2.2;have e1:aB s (m.getD x 0)= !aB s x:=by cases h1:aB s x<;>cases h2:aB s (m.getD x 0)<;>simp_all
 refine ⟨e1,?_⟩;have key: ∀y:Int,0<=y->y<4*s.length->aB s (fC y 2)= !aB s y:=fun y h0 h1=>by
  have hs:=hv.sg (y/4).toNat (by omega);have e:fC y 2=y-y % 4+(y % 4+2)% 4:=by unfold fC;rw [show (2:Int).tmod 4=2 by decide];omega
  have e4:(y-y % 4+(y % 4+2)% 4)/4=y/4:=by omega
  rw [e];unfold aB;rw [e4];rcases (show y % 4=0\/y % 4=1\/y % 4=2\/y % 4=3 by omega) with h|h|h|h
  ·rw [if_neg (by omega),if_pos (by omega),if_neg (by omega),if_neg (by omega),if_neg (by omega)];rfl
  ·rw [if_neg (by omega),if_neg (by omega),if_pos (by omega),if_pos h];rcases hs with hs|hs<;>rw [hs]<;>rfl
  ·rw [if_neg (by omega),if_neg (by omega),if_neg (by omega),if_neg (by omega),if_pos h];rfl
  ·rw [if_pos (by omega),if_neg (by omega),if_neg (by omega),if_pos h];rcases hs with hs|hs<;>rw [hs]<;>rfl
 unfold a8;rw [zzC,key _ hm.1 (by omega),e1,Bool.not_not]
theorem DC {x:Nat} (hx:x<4*s.length): ∀j,aB s (it (a8 m) j x)=aB s x
 |0=>rfl
 |j+1=>by
  have hR:aw s.length (x:Int):=by unfold aw;omega
  have hS:=(tE hv.prd).it hR j;unfold aw at hS;have e:it (a8 m) j (x:Int)=((it (a8 m) j (x:Int)).toNat:Int):=by omega
  have h1:=(GF hv (x:=(it (a8 m) j (x:Int)).toNat) (by omega)).2;rw [←e] at h1;show aB s (a8 m (it (a8 m) j x))=_;rw [h1,DC hx j]
theorem Uk (hp:bD m s.length):(ff s m).length=dO m s.length (pd s.length 0 0):=by
 have hl:=hv.len;have hR: ∀x:Nat,x<m.length->aw s.length (x:Int):=fun x hx=>by unfold aw;omega
 have gD:=fun (x:Nat) (hx:x<m.length)=>by
  have:=wE (tE hv.prd) (hR x hx)
  rw [←hl] at this;exact this
 have pD:=(GP (N:=m.length) (want:=aB s) (orb:=ak (a8 m) m.length) (fun x hx _ y hy=>by
  have:=(gD x hx).2.1 y hy
  unfold aw at this;omega) (fun x hx _=>(gD x hx).2.2.2.2.1) (fun x y hx hy hw hm=>by
  refine ⟨?_,(gD x hx).2.2.1 y hm⟩;obtain ⟨j,hj⟩:=((gD x hx).1 y).1 hm;rw [←hj,DC hv (by omega) j];exact hw) (fun x y z hx hy hz _ h1 h2=>(gD x hx).2.2.2.1 y h1 z h2) m.length (zzA _)).1
 have hlen:(ff s m).length=((List.range m.length).filter fun i:Nat=>aB s i&&gN i (ak (a8 m) m.length i)).length:=by
  unfold ff;rw [pD,List.length_map]
 have Cw:=yd hp (pd s.length 0 0);have hi:=tF hp.ok hp.inv hp.ne (pd s.length 0 0);have nZ:dO m s.length (pd s.length 0 0)=((List.range m.length).filter fun x=>(crN (fun x=>m.getD x.toNat 0) (cZ (pd s.length 0 0)) (4*s.length) (4*s.length)).getD x 0==(x:Int)).length:=by
  unfold dO roots;rw [List.countP_eq_length_filter,Cw.rep.len,hl]
 rw [hlen,nZ];generalize hRR:crN (fun x=>m.getD x.toNat 0) (cZ (pd s.length 0 0)) (4*s.length) (4*s.length)=R at*;have X2: ∀x:Int,aw s.length x->cZ (pd s.length 0 0) x=fC x 2:=fun x hx=>by
  unfold aw at hx;have e:fC x 2=x-x % 4+(x % 4+2)% 4:=by unfold fC;rw [show (2:Int).tmod 4=2 by decide];omega
  unfold cZ pd;rw [if_neg (by omega),if_pos (by omega),e];rfl
 have KN: ∀x:Int,aw s.length x-> ∀j,it (fun x=>cZ (pd s.length 0 0) (m.getD x.toNat 0)) j x=it (a8 m) j x:=fun x hx j=>by
  induction j with
  |zero=>rfl
  |succ j ih=>
   show cZ _ (m.getD (it (fun x=>cZ (pd s.length 0 0) (m.getD x.toNat 0)) j x).toNat 0)=a8 m (it (a8 m) j x);rw [ih];exact X2 _ (hi.mr _ ((tE hv.prd).it hx j))
 have MG: ∀x y:Nat,x<m.length->y<m.length->aB s x=true->aB s y=true->(R.getD x 0=R.getD y 0↔(y:Int)∈ak (a8 m) m.length x):=fun x y hx hy ox oy=>by
  rw [Cw.iff x y (by omega) (by omega),(gD x hx).1];obtain ⟨k,hk,ka⟩:=(tH hi).A5 (hR x hx);rw [←DU hi (hR x hx) ka];constructor
  ·rintro ⟨j,hj,e|e⟩
   ·exact ⟨j,by rw [←KN _ (hR x hx)];exact e.symm⟩
   ·exfalso;rw [KN _ (hR x hx)] at e;have hS:=(tE hv.prd).it (hR x hx) j;unfold aw at hS;have h1:=(GF hv (x:=(it (a8 m) j (x:Int)).toNat) (by omega)).1;rw [show (((it (a8 m) j (x:Int)).toNat:Nat):Int)=it (a8 m) j x by omega,DC hv (by omega) j,ox] at h1;change (y:Int)=m.getD (it (a8 m) j (x:Int)).toNat 0 at e;rw [←e,oy] at h1;cases h1
  ·rintro ⟨j,e⟩;refine ⟨j % k,Nat.mod_lt _ ka.pos, .inl ?_⟩;rw [←e,←KN _ (hR x hx),←F5 ka]
 have rg:=Cw.rep.cR;refine Nat.le_antisymm (RE (List.Nodup.sublist List.filter_sublist List.nodup_range) (fun x r=>R.getD x 0=(r:Int)) (fun x hx=>?_) (fun x x' r hx ik h1 h2=>?_)) (RE (List.Nodup.sublist List.filter_sublist List.nodup_range) (fun r x=>R.getD x 0=(r:Int)) (fun r hr=>?_) (fun r r' x _ _ h1 h2=>by omega))
 ·simp only [List.mem_filter,zzK,Bool.and_eq_true] at hx
  have:=rg x (by omega)
  refine ⟨(R.getD x 0).toNat,?_,by omega⟩;simp only [List.mem_filter,zzK,beq_iff_eq];refine ⟨by omega,?_⟩;rw [Cw.rep.idem x (by omega)];omega
 ·simp only [List.mem_filter,zzK,Bool.and_eq_true] at hx ik;have e:=h1.trans h2.symm;have a:=(MG x x' hx.1 ik.1 hx.2.1 ik.2.1).1 e;have b:=(MG x' x ik.1 hx.1 ik.2.1 hx.2.1).1 e.symm;have c1:=vk.1 hx.2.2 _ a;have c2:=vk.1 ik.2.2 _ b;omega
 ·simp only [List.mem_filter,zzK,beq_iff_eq] at hr;obtain ⟨o,ho,oo,oR⟩: ∃o:Nat,o<m.length/\aB s o=true/\R.getD o 0=(r:Int):=by
   cases h:aB s r with
   |true=>exact ⟨r,hr.1,h,hr.2⟩
   |false=>
    have h1:=(GF hv (x:=r) (by omega)).1;have hm:=hv.mt r (by omega);refine ⟨(m.getD r 0).toNat,by omega,by rw [show (((m.getD r 0).toNat:Nat):Int)=m.getD r 0 by omega,h1,h];rfl,?_⟩;rw [←hr.2];refine ((Cw.iff r (m.getD r 0).toNat (by omega) (by omega)).2 ?_).symm;rw [show (((m.getD r 0).toNat:Nat):Int)=m.getD r 0 by omega]
    have:=bf.aO (mt:=fun x=>m.getD x.toNat 0) (jn:=cZ (pd s.length 0 0)) (bf.refl (r:Int))
    simpa using this
  have xM: ∀b:Nat,(∃y:Nat,y<=b/\(y:Int)∈ak (a8 m) m.length o)-> ∃y:Nat,(y:Int)∈ak (a8 m) m.length o/\ ∀z:Nat,(z:Int)∈ak (a8 m) m.length o->y<=z:=by
   intro b
   induction b with
   |zero=>rintro ⟨y,hy,h⟩;exact ⟨y,h,fun z _=>by omega⟩
   |succ b ih=>
    rintro ⟨y,hy,h⟩;by_cases hq: ∃y:Nat,y<=b/\(y:Int)∈ak (a8 m) m.length o
    ·exact ih hq
    ·exact ⟨y,h,fun z hz=>by
      rcases Nat.lt_or_ge z y with g|g
      ·exact absurd ⟨z,by omega,hz⟩ hq
      ·exact g⟩
  obtain ⟨y,hy,s6⟩:=xM o ⟨o,zzA _,(gD o ho).2.2.2.2.1⟩;have X4:=(gD o ho).2.1 _ hy;unfold aw at X4;have SG:aB s y=true:=by
   obtain ⟨j,hj⟩:=((gD o ho).1 y).1 hy;rw [←hj,DC hv (by omega) j];exact oo
  refine ⟨y,?_,?_⟩
  ·simp only [List.mem_filter,zzK,Bool.and_eq_true];refine ⟨by omega,SG,vk.2 fun z hz=>?_⟩;have h1:=(gD o ho).2.2.2.1 _ hy z hz;have h2:=(gD o ho).2.1 z h1;unfold aw at h2
   have:=s6 z.toNat (by rw [show ((z.toNat:Nat):Int)=z by omega];exact h1)
   omega
  ·rw [←oR];exact ((MG o y ho (by omega) oo SG).2 hy).symm
end
end Go.Proofs.YtmdjdekgakidhaaGreatDoor
