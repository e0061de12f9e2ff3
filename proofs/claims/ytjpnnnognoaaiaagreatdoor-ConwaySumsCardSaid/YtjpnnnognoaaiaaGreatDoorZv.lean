/- Plain: the strands of a diagram: each outgoing half-edge lies on one of them; two strands meet an even number of times. -/
import Derived.Test.YtjpnnnognoaaiaaGreatDoorZu
import Derived.Test.YtjpnnnognoaaiaaGreatDoorZs
import Derived.Test.YtjpnnnognoaaiaaGreatDoorSk1
namespace Go.Proofs.YtjpnnnognoaaiaaGreatDoor
set_option linter.unusedSimpArgs false
set_option linter.unusedVariables false
section
variable {s m:List Int} {L:Int} (v:ybm s m L)
abbrev strK (s m:List Int) (k:Nat):List Int:=(yaj s m).getD k []
include v
theorem ydi {x:Nat} (hx:x<4*s.length):(∀y,y∈orbF (yak m) m.length x↔ ∃j,it (yak m) j x=y)/\(∀y∈orbF (yak m) m.length x,InR s.length y)/\(∀y∈orbF (yak m) m.length x,(x:Int)∈orbF (yak m) m.length y)/\
  (∀y∈orbF (yak m) m.length x,∀z∈orbF (yak m) m.length y,z∈orbF (yak m) m.length x)/\(x:Int)∈orbF (yak m) m.length x/\(orbF (yak m) m.length x).Nodup/\ ∃k,Per (yak m) x k/\orbF (yak m) m.length x=its (yak m) x k:=by
 have:=ydz (yfp v.prd) (x:=(x:Int)) (by unfold InR;omega)
 rw [←v.len] at this
 obtain ⟨a,b,c,d,e,_,f,k,_,g,h⟩:=this
 exact ⟨a,b,c,d,e,f,k,g,h⟩
theorem yl4:yaj s m=((List.range m.length).filter fun i:Nat=>outB s i&&yf6 i (orbF (yak m) m.length i)).map (fun i:Nat=>orbF (yak m) m.length i):=by
 have hl:=v.len
 exact (ytb (N:=m.length) (want:=outB s) (orb:=orbF (yak m) m.length) (fun x hx _ y hy=>by
  have:=(ydi v (x:=x) (by omega)).2.1 y hy
  unfold InR at this;omega) (fun x hx _=>(ydi v (x:=x) (by omega)).2.2.2.2.1) (fun x y hx hy hw hm=>by
  have h:=ydi v (x:=x) (by omega)
  refine ⟨?_,h.2.2.1 y hm⟩
  obtain ⟨j,hj⟩:=(h.1 y).1 hm
  rw [←hj,yh7 v (by omega) j];exact hw) (fun x y z hx hy hz _ h1 h2=>(ydi v (x:=x) (by omega)).2.2.2.1 y h1 z h2) m.length (Nat.le_refl _)).1
theorem yr6 {k:Nat} (hk:k<(yaj s m).length): ∃x:Nat,x<4*s.length/\outB s x=true/\(∀y∈orbF (yak m) m.length x,(x:Int)<=y)/\strK s m k=orbF (yak m) m.length x:=by
 have hl:=v.len
 have e:=yl4 v
 have hm:strK s m k∈yaj s m:=by simp [strK,hk]
 rw [e] at hm
 obtain ⟨x,h1,h2⟩:=List.mem_map.1 hm
 obtain ⟨h3,h4⟩:=List.mem_filter.1 h1
 rw [Bool.and_eq_true] at h4
 exact ⟨x,by have:=List.mem_range.1 h3;omega,h4.1,ycl.1 h4.2,h2.symm⟩
theorem y8d {y:Nat} (hy:y<4*s.length) (ho:outB s y=true): ∃k,k<(yaj s m).length/\(y:Int)∈strK s m k:=by
 have hl:=v.len
 have h:=ydi v hy
 have hle: ∃x:Nat,(x:Int)∈orbF (yak m) m.length y/\ ∀z∈orbF (yak m) m.length y,(x:Int)<=z:=by
  have key: ∀d x:Nat,x<d->(x:Int)∈orbF (yak m) m.length y-> ∃x:Nat,(x:Int)∈orbF (yak m) m.length y/\ ∀z∈orbF (yak m) m.length y,(x:Int)<=z:=fun d=>by
   induction d with
   |zero=>intro x hx;omega
   |succ d ih=>
    intro x hx hm
    by_cases hz: ∃z∈orbF (yak m) m.length y,z<(x:Int)
    ·obtain ⟨z,z1,z2⟩:=hz
     have:=h.2.1 z z1
     unfold InR at this
     exact ih z.toNat (by omega) (by rw [show ((z.toNat:Nat):Int)=z by omega];exact z1)
    ·exact ⟨x,hm,fun z hz'=>by
      apply Classical.byContradiction
      intro hn
      exact hz ⟨z,hz',by omega⟩⟩
  exact key (y+1) y (by omega) h.2.2.2.2.1
 obtain ⟨x,x1,x2⟩:=hle
 have hxr:=h.2.1 x x1
 unfold InR at hxr
 have hx:=ydi v (x:=x) (by omega)
 obtain ⟨j,hj⟩:=(h.1 x).1 x1
 have hox:outB s (x:Int)=true:=by rw [←hj,yh7 v hy j];exact ho
 have hyx:=h.2.2.1 x x1
 have hmem:orbF (yak m) m.length (x:Int)∈yaj s m:=by
  rw [yl4 v]
  refine List.mem_map.2 ⟨x,List.mem_filter.2 ⟨List.mem_range.2 (by omega),?_⟩,rfl⟩
  rw [Bool.and_eq_true]
  exact ⟨hox,ycl.2 fun z hz=>x2 z (h.2.2.2.1 x x1 z hz)⟩
 obtain ⟨k,hk,e⟩:=List.mem_iff_getElem.1 hmem
 exact ⟨k,hk,by simp only [strK,List.getD_eq_getElem?_getD,List.getElem?_eq_getElem hk,Option.getD_some,e];exact hyx⟩
theorem y6m {k k':Nat} (hk:k<(yaj s m).length) (hk':k'<(yaj s m).length) {y:Int} (hy:y∈strK s m k) (hy':y∈strK s m k'):k=k':=by
 have hl:=v.len
 have hn:(yaj s m).Nodup:=by
  rw [yl4 v]
  rw [List.nodup_iff_pairwise_ne,List.pairwise_map]
  refine (List.nodup_iff_pairwise_ne.1 (List.nodup_range.filter _)).imp_of_mem fun {a b} ha hb hne e=>hne ?_
  obtain ⟨a1,a2⟩:=List.mem_filter.1 ha
  obtain ⟨b1,b2⟩:=List.mem_filter.1 hb
  rw [Bool.and_eq_true] at a2 b2
  have a3:=List.mem_range.1 a1
  have b3:=List.mem_range.1 b1
  have:=ycl.1 a2.2 b (by rw [e];exact (ydi v (x:=b) (by omega)).2.2.2.2.1)
  have:=ycl.1 b2.2 a (by rw [←e];exact (ydi v (x:=a) (by omega)).2.2.2.2.1)
  omega
 obtain ⟨x,x1,x2,x3,x4⟩:=yr6 v hk
 obtain ⟨z,z1,z2,z3,z4⟩:=yr6 v hk'
 rw [x4] at hy
 rw [z4] at hy'
 have hx:=ydi v x1
 have hz:=ydi v z1
 have hyr:=hx.2.1 y hy
 unfold InR at hyr
 have hzy:=hz.2.2.1 y hy'
 have hxy:=hx.2.2.1 y hy
 have q1:=x3 z (hx.2.2.2.1 y hy z hzy)
 have q2:=z3 x (hz.2.2.2.1 y hy' x hxy)
 have e:x=z:=by omega
 subst e
 have e2:(yaj s m)[k]'hk=(yaj s m)[k']'hk':=by
  have f1:strK s m k=(yaj s m)[k]'hk:=by simp [strK,hk]
  have f2:strK s m k'=(yaj s m)[k']'hk':=by simp [strK,hk']
  rw [←f1,←f2,x4,z4]
 exact (List.getElem_inj hn).1 e2
end
end Go.Proofs.YtjpnnnognoaaiaaGreatDoor
namespace Go.Proofs.YtjpnnnognoaaiaaGreatDoor
set_option linter.unusedSimpArgs false
set_option linter.unusedVariables false
open Classical
section
variable {s m:List Int} {L:Int} (v:ybm s m L)
include v
end
section
variable {s m:List Int} {L:Int} (hv:yaf s m L=true)
include hv
end
end Go.Proofs.YtjpnnnognoaaiaaGreatDoor
namespace Go.Proofs.YtjpnnnognoaaiaaGreatDoor
set_option linter.unusedSimpArgs false
set_option linter.unusedVariables false
section
variable {s m:List Int} {L:Int} {un ov:Nat->Bool}
end
section
variable {s m:List Int} {L:Int} {u o:Nat->Nat}
end
end Go.Proofs.YtjpnnnognoaaiaaGreatDoor
namespace Go.Proofs.YtjpnnnognoaaiaaGreatDoor
set_option linter.unusedSimpArgs false
set_option linter.unusedVariables false
open Classical
section
variable {m:List Int} {n:Nat} {σ:Nat->Bool} {s s':Nat->Nat} {c:Nat}
end
section
variable {s m:List Int} {L:Int}
end
end Go.Proofs.YtjpnnnognoaaiaaGreatDoor
namespace Go.Proofs.YtjpnnnognoaaiaaGreatDoor
set_option linter.unusedSimpArgs false
set_option linter.unusedVariables false
section
variable {s m:List Int} {L:Int} (hv:yaf s m L=true)
include hv
end
end Go.Proofs.YtjpnnnognoaaiaaGreatDoor
namespace Go.Proofs.YtjpnnnognoaaiaaGreatDoor
set_option linter.unusedSimpArgs false
set_option linter.unusedVariables false
open Classical
section
variable {s m:List Int} {L:Int} (hv:yaf s m L=true)
include hv
end
section
variable {s m:List Int} {L:Int} (hv:yaf s m L=true)
include hv
end
theorem y3r: ∀(p q:List Int) (i:Nat),(Sp.zadd p q).getD i 0=p.getD i 0+q.getD i 0
 |[],q,i=>by simp [Sp.zadd]
 |a::p,[],i=>by simp [Sp.zadd]
 |a::p,b::q,0=>by simp [Sp.zadd]
 |a::p,b::q,i+1=>by
  have:=y3r p q i
  simpa [Sp.zadd] using this
theorem adRG (p q:List Int) (k:Int) (i:Nat):(Sp.adR p k q).getD i 0=p.getD i 0+(if 0<i then k*q.getD (i-1) 0 else 0):=by
 unfold Sp.adR
 rw [y3r]
 cases i with
 |zero=>simp
 |succ i=>
  rw [if_pos (by omega)]
  congr 1
  simp only [List.getD_cons_succ,Nat.add_sub_cancel]
  by_cases h:i<q.length
  ·simp [List.getD_eq_getElem?_getD,h]
  ·simp [List.getD_eq_getElem?_getD,Nat.le_of_not_lt h]
end Go.Proofs.YtjpnnnognoaaiaaGreatDoor
