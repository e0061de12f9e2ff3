/- Plain: the strands of a diagram: each outgoing half-edge lies on one of them; two strands meet an even number of times. -/
import Derived.Test.YtphjphpmfflfpaaGreatDoorZm
import Derived.Test.YtphjphpmfflfpaaGreatDoorZn
namespace Go.Proofs.YtphjphpmfflfpaaGreatDoor
set_option linter.unusedSimpArgs false
set_option linter.unusedVariables false
section
variable {s m:List Int} {L:Int} (v:Bn s m L)
abbrev aI (s m:List Int) (k:Nat):List Int:=(a8 s m).getD k []
include v
theorem pC {x:Nat} (hx:x<4*s.length):(∀y,y∈aY (bE m) m.length x↔ ∃j,it (bE m) j x=y)/\(∀y∈aY (bE m) m.length x,au s.length y)/\(∀y∈aY (bE m) m.length x,(x:Int)∈aY (bE m) m.length y)/\
  (∀y∈aY (bE m) m.length x,∀z∈aY (bE m) m.length y,z∈aY (bE m) m.length x)/\(x:Int)∈aY (bE m) m.length x/\(aY (bE m) m.length x).Nodup/\ ∃k,sb (bE m) x k/\aY (bE m) m.length x=its (bE m) x k:=by
 have:=zt (xx v.prd) (x:=(x:Int)) (by unfold au;omega)
 rw [←v.len] at this;obtain ⟨a,b,c,d,e,_,f,k,_,g,h⟩:=this;exact ⟨a,b,c,d,e,f,k,g,h⟩
theorem KY:a8 s m=((List.range m.length).filter fun i:Nat=>aw s i&&vK i (aY (bE m) m.length i)).map (fun i:Nat=>aY (bE m) m.length i):=by
 have hl:=v.len;exact (Kk (N:=m.length) (want:=aw s) (orb:=aY (bE m) m.length) (fun x hx _ y hy=>by
  have:=(pC v (x:=x) (by omega)).2.1 y hy
  unfold au at this;omega) (fun x hx _=>(pC v (x:=x) (by omega)).2.2.2.2.1) (fun x y hx hy hw hm=>by
  have h:=pC v (x:=x) (by omega);refine ⟨?_,h.2.2.1 y hm⟩;obtain ⟨j,hj⟩:=(h.1 y).1 hm;rw [←hj,zk v (by omega) j];exact hw) (fun x y z hx hy hz _ h1 h2=>(pC v (x:=x) (by omega)).2.2.2.1 y h1 z h2) m.length (Nat.le_refl _)).1
theorem A0 {k:Nat} (hk:k<(a8 s m).length): ∃x:Nat,x<4*s.length/\aw s x=true/\(∀y∈aY (bE m) m.length x,(x:Int)<=y)/\aI s m k=aY (bE m) m.length x:=by
 have hl:=v.len;have e:=KY v;have hm:aI s m k∈a8 s m:=by simp [aI,hk]
 rw [e] at hm;obtain ⟨x,h1,h2⟩:=List.mem_map.1 hm;obtain ⟨h3,h4⟩:=List.mem_filter.1 h1;rw [Bool.and_eq_true] at h4;exact ⟨x,by have:=List.mem_range.1 h3;omega,h4.1,sC.1 h4.2,h2.symm⟩
theorem Bv {k:Nat} (hk:k<(a8 s m).length) {y:Int} (hy:y∈aI s m k):au s.length y/\aw s y=true:=by
 obtain ⟨x,h1,h2,_,h3⟩:=A0 v hk;rw [h3] at hy;have h:=pC v h1;obtain ⟨j,hj⟩:=(h.1 y).1 hy;exact ⟨h.2.1 y hy,by rw [←hj,zk v h1 j];exact h2⟩
theorem UE {y:Nat} (hy:y<4*s.length) (ho:aw s y=true): ∃k,k<(a8 s m).length/\(y:Int)∈aI s m k:=by
 have hl:=v.len;have h:=pC v hy;have hle: ∃x:Nat,(x:Int)∈aY (bE m) m.length y/\ ∀z∈aY (bE m) m.length y,(x:Int)<=z:=by
  have key: ∀d x:Nat,x<d->(x:Int)∈aY (bE m) m.length y-> ∃x:Nat,(x:Int)∈aY (bE m) m.length y/\ ∀z∈aY (bE m) m.length y,(x:Int)<=z:=fun d=>by
   induction d with
   |zero=>intro x hx;omega
   |succ d ih=>
    intro x hx hm;by_cases hz: ∃z∈aY (bE m) m.length y,z<(x:Int)
    ·obtain ⟨z,z1,z2⟩:=hz
     have:=h.2.1 z z1
     unfold au at this;exact ih z.toNat (by omega) (by rw [show ((z.toNat:Nat):Int)=z by omega];exact z1)
    ·exact ⟨x,hm,fun z wy=>by
      apply Classical.byContradiction;intro hn;exact hz ⟨z,wy,by omega⟩⟩
  exact key (y+1) y (by omega) h.2.2.2.2.1
 obtain ⟨x,x1,x2⟩:=hle;have qI:=h.2.1 x x1;unfold au at qI;have hx:=pC v (x:=x) (by omega);obtain ⟨j,hj⟩:=(h.1 x).1 x1;have hox:aw s (x:Int)=true:=by rw [←hj,zk v hy j];exact ho
 have hyx:=h.2.2.1 x x1;have gT:aY (bE m) m.length (x:Int)∈a8 s m:=by
  rw [KY v];refine List.mem_map.2 ⟨x,List.mem_filter.2 ⟨List.mem_range.2 (by omega),?_⟩,rfl⟩;rw [Bool.and_eq_true];exact ⟨hox,sC.2 fun z hz=>x2 z (h.2.2.2.1 x x1 z hz)⟩
 obtain ⟨k,hk,e⟩:=List.mem_iff_getElem.1 gT;exact ⟨k,hk,by simp only [aI,List.getD_eq_getElem?_getD,List.getElem?_eq_getElem hk,Option.getD_some,e];exact hyx⟩
theorem CW {k k':Nat} (hk:k<(a8 s m).length) (vt:k'<(a8 s m).length) {y:Int} (hy:y∈aI s m k) (Ep:y∈aI s m k'):k=k':=by
 have hl:=v.len;have hn:(a8 s m).Nodup:=by
  rw [KY v];rw [List.nodup_iff_pairwise_ne,List.pairwise_map];refine (List.nodup_iff_pairwise_ne.1 (List.nodup_range.filter _)).imp_of_mem fun {a b} ha hb az e=>az ?_;obtain ⟨a1,a2⟩:=List.mem_filter.1 ha;obtain ⟨b1,b2⟩:=List.mem_filter.1 hb;rw [Bool.and_eq_true] at a2 b2;have a3:=List.mem_range.1 a1;have b3:=List.mem_range.1 b1
  have:=sC.1 a2.2 b (by rw [e];exact (pC v (x:=b) (by omega)).2.2.2.2.1)
  have:=sC.1 b2.2 a (by rw [←e];exact (pC v (x:=a) (by omega)).2.2.2.2.1)
  omega
 obtain ⟨x,x1,x2,x3,x4⟩:=A0 v hk;obtain ⟨z,z1,z2,z3,z4⟩:=A0 v vt;rw [x4] at hy;rw [z4] at Ep;have hx:=pC v x1;have hz:=pC v z1;have yb:=hx.2.1 y hy;unfold au at yb;have hzy:=hz.2.2.1 y Ep;have nS:=hx.2.2.1 y hy;have q1:=x3 z (hx.2.2.2.1 y hy z hzy);have q2:=z3 x (hz.2.2.2.1 y Ep x nS);have e:x=z:=by omega
 subst e;have e2:(a8 s m)[k]'hk=(a8 s m)[k']'vt:=by
  have f1:aI s m k=(a8 s m)[k]'hk:=by simp [aI,hk]
  have f2:aI s m k'=(a8 s m)[k']'vt:=by simp [aI,vt]
  rw [←f1,←f2,x4,z4]
 exact (List.getElem_inj hn).1 e2
theorem UD {k:Nat} (hk:k<(a8 s m).length) {z:Nat} (hz:z<4*s.length):(z:Int)∈aI s m k↔bE m z∈aI s m k:=by
 obtain ⟨x,x1,x2,x3,x4⟩:=A0 v hk;rw [x4];have hx:=pC v x1;have WL:=pC v hz;constructor
 ·intro h;obtain ⟨j,hj⟩:=(hx.1 _).1 h;exact (hx.1 _).2 ⟨j+1,by show bE m (it (bE m) j x)=_;rw [hj]⟩
 ·intro h;have h1:bE m z∈aY (bE m) m.length (z:Int):=(WL.1 _).2 ⟨1,rfl⟩;exact hx.2.2.2.1 _ h _ (WL.2.2.1 _ h1)
end
end Go.Proofs.YtphjphpmfflfpaaGreatDoor
