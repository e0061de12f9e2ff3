/- Plain: the shape of the polynomial of a resolution: exponents, the constant term, the linking number. -/
import Derived.Test.YtcnilhcplgiidaaDoorCs1
import Derived.Test.YtcnilhcplgiidaaDoorGc
import Derived.Laws.IdiomRangeMap
namespace Go.Proofs.YtcnilhcplgiidaaDoor
set_option linter.unusedSimpArgs false
set_option linter.unusedVariables false
open Classical
theorem y1l {s m:List Int} {L:Int} (hv:yaj s m L=true): ∃u o:Nat->Nat,AtK s m (yae s m).length u o:=by
 have v:=yat hv
 have hu: ∀c,∃k,c<s.length->k<(yae s m).length/\((4*c+2:Nat):Int)∈strK s m k:=fun c=>by
  by_cases hc:c<s.length
  ·obtain ⟨k,h1,h2⟩:=ykg v (y:=4*c+2) (by omega) (yct s c).2.2.1
   exact ⟨k,fun _=>⟨h1,h2⟩⟩
  ·exact ⟨0,fun h=>absurd h hc⟩
 have ho: ∀c,∃k,c<s.length->k<(yae s m).length/\((ovH s c:Nat):Int)∈strK s m k:=fun c=>by
  by_cases hc:c<s.length
  ·obtain ⟨k,h1,h2⟩:=ykg v (y:=ovH s c) (by unfold ovH;split<;>omega) (by
    obtain ⟨a0,a1,a2,a3⟩:=yct s c
    unfold ovH
    rcases v.sg c hc with h|h
    ·rw [if_pos h,a1,h];rfl
    ·rw [if_neg (by omega),a3,h];rfl)
   exact ⟨k,fun _=>⟨h1,h2⟩⟩
  ·exact ⟨0,fun h=>absurd h hc⟩
 obtain ⟨u,hu⟩:=Classical.axiomOfChoice hu
 obtain ⟨o,ho⟩:=Classical.axiomOfChoice ho
 exact ⟨u,o,⟨fun c hc=>(hu c hc).1,fun c hc=>(ho c hc).1,fun c hc=>(hu c hc).2,fun c hc=>(ho c hc).2⟩⟩
section
variable {s m:List Int} {L:Int} (hv:yaj s m L=true)
include hv
theorem yt2 {u o:Nat->Nat} (ha:AtK s m (yae s m).length u o) {i j:Nat} (hi:i<(yae s m).length) (hj:j<(yae s m).length) (hij:i≠j):
  sm (fun c=>(if u c=j/\o c=i then-s.getD c 0 else 0)+(if u c=i/\o c=j then s.getD c 0 else 0)) s.length=0:=by
 have v:=yat hv
 have h0:=ypw hv hi hj hij
 obtain ⟨x,x1,x2,x3,x4⟩:=yer v hj
 obtain ⟨_,hr,_,_,_,hn,_⟩:=ybx v x1
 rw [yn8 (N:=4*s.length) (by rw [x4];exact hn) (by rw [x4];intro y hy;have:=hr y hy;unfold InR at this;omega),yk1] at h0
 refine (ybz fun c hc=>?_).trans h0
 have e4: ∀f:Nat->Int,sm f 4=f 0+f 1+f 2+f 3:=fun f=>by simp only [sm];omega
 rw [e4]
 obtain ⟨a0,a1,a2,a3⟩:=yct s c
 obtain ⟨bi1,bi2⟩:=ymb hv ha hc i hi
 obtain ⟨bj1,bj2⟩:=ymb hv ha hc j hj
 have no: ∀y:Nat,outB s y=false-> ¬(y:Int)∈strK s m j:=fun y hy h=>by have:=(yeb v hj h).2;rw [hy] at this;cases this
 have p0:op2 (4*c)=4*c+2:=by unfold op2;omega
 have p1:op2 (4*c+1)=4*c+3:=by unfold op2;omega
 have n1:nt1 (4*c+1)=4*c+2:=by unfold nt1;omega
 have n2:nt1 (4*c+2)=4*c+3:=by unfold nt1;omega
 have n3:nt1 (4*c+3)=4*c:=by unfold nt1;omega
 have k0:=yfr v hi (x:=4*c) (by omega)
 have k1:=yfr v hi (x:=4*c+1) (by omega)
 rw [p0] at k0
 rw [p1] at k1
 have u2:onK s m i (4*c+2)↔u c=i:=by unfold onK;rw [if_pos a2];exact bi1
 have d1:dlt s m i ((4*c+1:Nat):Int)=if onK s m i (4*c+2) then (if outB s ((4*c+2:Nat):Int)=true then 1 else-1) else 0:=by unfold dlt;rw [Int.toNat_natCast,n1]
 have d2:dlt s m i ((4*c+2:Nat):Int)=if onK s m i (4*c+3) then (if outB s ((4*c+3:Nat):Int)=true then 1 else-1) else 0:=by unfold dlt;rw [Int.toNat_natCast,n2]
 have d3:dlt s m i ((4*c+3:Nat):Int)=if onK s m i (4*c) then (if outB s ((4*c:Nat):Int)=true then 1 else-1) else 0:=by unfold dlt;rw [Int.toNat_natCast,n3]
 rw [a2] at d1
 rw [a0] at d3
 rw [if_neg (no (4*c+0) (by rw [Nat.add_zero];exact a0))]
 have memu:(((4*c+2:Nat):Int)∈strK s m j↔u c=j):=bj1
 rcases v.sg c hc with h|h
 ·have o1:outB s ((4*c+1:Nat):Int)=true:=by rw [a1,h];rfl
  have o3:outB s ((4*c+3:Nat):Int)=false:=by rw [a3,h];rfl
  have ho:ovH s c=4*c+1:=by unfold ovH;rw [if_pos h]
  rw [ho] at bi2 bj2
  have u3:onK s m i (4*c+3)↔o c=i:=by rw [k1];unfold onK;rw [if_pos o1];exact bi2
  rw [o3] at d2
  rw [if_neg (no _ o3),d1,d2,h]
  by_cases A:u c=j
  ·rw [if_pos (memu.2 A)]
   have nA: ¬u c=i:=by omega
   rw [if_neg (show¬(u c=i/\o c=j) from fun q=>nA q.1)]
   by_cases B:o c=i
   ·rw [if_pos ⟨A,B⟩,if_pos (u3.2 B)]
    have: ¬o c=j:=by omega
    rw [if_neg (show¬((4*c+1:Nat):Int)∈strK s m j from fun q=>this (bj2.1 q))];rfl
   ·rw [if_neg (show¬(u c=j/\o c=i) from fun q=>B q.2),if_neg fun q=>B (u3.1 q)]
    by_cases C:o c=j
    ·rw [if_pos (bj2.2 C),if_neg fun q=>nA (u2.1 q)];rfl
    ·rw [if_neg (show¬((4*c+1:Nat):Int)∈strK s m j from fun q=>C (bj2.1 q))];rfl
  ·rw [if_neg (show¬(u c=j/\o c=i) from fun q=>A q.1),if_neg fun q=>A (memu.1 q)]
   by_cases C:o c=j
   ·rw [if_pos (bj2.2 C)]
    by_cases B:u c=i
    ·rw [if_pos ⟨B,C⟩,if_pos (u2.2 B)];rfl
    ·rw [if_neg (show¬(u c=i/\o c=j) from fun q=>B q.1),if_neg fun q=>B (u2.1 q)];rfl
   ·rw [if_neg (show¬(u c=i/\o c=j) from fun q=>C q.2),if_neg (show¬((4*c+1:Nat):Int)∈strK s m j from fun q=>C (bj2.1 q))];rfl
 ·have o1:outB s ((4*c+1:Nat):Int)=false:=by rw [a1,h];rfl
  have o3:outB s ((4*c+3:Nat):Int)=true:=by rw [a3,h];rfl
  have ho:ovH s c=4*c+3:=by unfold ovH;rw [if_neg (by omega)]
  rw [ho] at bi2 bj2
  have u3:onK s m i (4*c+3)↔o c=i:=by unfold onK;rw [if_pos o3];exact bi2
  have u0:onK s m i (4*c)↔u c=i:=k0.symm.trans u2
  rw [o3] at d2
  rw [if_neg (no _ o1),d2,d3,h]
  by_cases A:u c=j
  ·rw [if_pos (memu.2 A)]
   have nA: ¬u c=i:=by omega
   rw [if_neg (show¬(u c=i/\o c=j) from fun q=>nA q.1)]
   by_cases B:o c=i
   ·rw [if_pos ⟨A,B⟩,if_pos (u3.2 B)]
    have: ¬o c=j:=by omega
    rw [if_neg (show¬((4*c+3:Nat):Int)∈strK s m j from fun q=>this (bj2.1 q))];rfl
   ·rw [if_neg (show¬(u c=j/\o c=i) from fun q=>B q.2),if_neg fun q=>B (u3.1 q)]
    by_cases C:o c=j
    ·rw [if_pos (bj2.2 C),if_neg fun q=>nA (u0.1 q)];rfl
    ·rw [if_neg (show¬((4*c+3:Nat):Int)∈strK s m j from fun q=>C (bj2.1 q))];rfl
  ·rw [if_neg (show¬(u c=j/\o c=i) from fun q=>A q.1),if_neg fun q=>A (memu.1 q)]
   by_cases C:o c=j
   ·rw [if_pos (bj2.2 C)]
    by_cases B:u c=i
    ·rw [if_pos ⟨B,C⟩,if_pos (u0.2 B)];rfl
    ·rw [if_neg (show¬(u c=i/\o c=j) from fun q=>B q.1),if_neg fun q=>B (u0.1 q)];rfl
   ·rw [if_neg (show¬(u c=i/\o c=j) from fun q=>C q.2),if_neg (show¬((4*c+3:Nat):Int)∈strK s m j from fun q=>C (bj2.1 q))];rfl
end
theorem ylv: ∀(l:List Int) (v v':List Bool),badS v l=(none,v')->(∀c,v'.getD c false=true->v.getD c false=true\/ ∃h∈l,(h/4).toNat=c)/\ ∀h∈l,h % 2=0->v.getD (h/4).toNat false=true\/ ∃h'∈l,h' % 2=1/\(h'/4).toNat=(h/4).toNat
 |[],v,v',e=>by
  simp only [badS] at e
  cases e
  exact ⟨fun c h=> .inl h,fun h hh=>by cases hh⟩
 |a::t,v,v',e=>by
  unfold badS at e
  by_cases hb:v.getD (a/4).toNat false=false/\a % 2=0
  ·rw [if_pos hb] at e;cases e
  ·rw [if_neg hb] at e
   obtain ⟨i1,i2⟩:=ylv t _ _ e
   have hset: ∀c,(v.set (a/4).toNat true).getD c false=true->v.getD c false=true\/(a/4).toNat=c:=fun c h=>by
    by_cases e':(a/4).toNat=c
    ·exact .inr e'
    ·rw [yak e'] at h;exact .inl h
   refine ⟨fun c h=>?_,fun h hh hev=>?_⟩
   ·rcases i1 c h with h1|⟨x,x1,x2⟩
    ·rcases hset c h1 with h2|h2
     ·exact .inl h2
     ·exact .inr ⟨a,List.mem_cons_self,h2⟩
    ·exact .inr ⟨x,List.mem_cons_of_mem _ x1,x2⟩
   ·have ha: ∀c,(a/4).toNat=c->v.getD c false=true\/a % 2=1:=fun c hc=>by
     by_cases h1:v.getD c false=true
     ·exact .inl h1
     ·right
      have: ¬a % 2=0:=fun h2=>hb ⟨by rw [hc];exact Bool.eq_false_iff.2 h1,h2⟩
      omega
    rcases List.mem_cons.1 hh with rfl|ht
    ·rcases ha _ rfl with h1|h1
     ·exact .inl h1
     ·omega
    ·rcases i2 h ht hev with h1|⟨x,x1,x2⟩
     ·rcases hset _ h1 with h2|h2
      ·exact .inl h2
      ·rcases ha _ h2 with h3|h3
       ·exact .inl h3
       ·exact .inr ⟨a,List.mem_cons_self,h3,h2⟩
     ·exact .inr ⟨x,List.mem_cons_of_mem _ x1,x2⟩
theorem yki: ∀(ls:List (List Int)) (v:List Bool),ycx v ls=none-> ∀k,k<ls.length-> ∀h∈ls.getD k [],h % 2=0->v.getD (h/4).toNat false=true\/(∃h'∈ls.getD k [],h' % 2=1/\(h'/4).toNat=(h/4).toNat)\/ ∃k',k'<k/\ ∃h'∈ls.getD k' [],(h'/4).toNat=(h/4).toNat
 |[],v,_,k,hk,_,_,_=>by cases hk
 |l::ls,v,e,k,hk,h,hh,hev=>by
  unfold ycx at e
  cases hb:badS v l with
  |mk r v'=>
   rw [hb] at e
   cases r with
   |some c=>cases e
   |none=>
    obtain ⟨i1,i2⟩:=ylv l v v' hb
    cases k with
    |zero=>
     rcases i2 h hh hev with h1|h1
     ·exact .inl h1
     ·exact .inr (.inl h1)
    |succ k=>
     rcases yki ls v' e k (by simpa using hk) h hh hev with h1|h1|⟨k',k1,k2⟩
     ·rcases i1 _ h1 with h2|⟨x,x1,x2⟩
      ·exact .inl h2
      ·exact .inr (.inr ⟨0,by omega,x,x1,x2⟩)
     ·exact .inr (.inl h1)
     ·exact .inr (.inr ⟨k'+1,by omega,k2⟩)
section
variable {s m:List Int} {L:Int} (hv:yaj s m L=true)
include hv
theorem yzg (hb:badO s m=none) {u o:Nat->Nat} (ha:AtK s m (yae s m).length u o) {c:Nat} (hc:c<s.length):o c<=u c:=by
 have v:=yat hv
 have hul:=ha.ul c hc
 have hol:=ha.ol c hc
 obtain ⟨a0,a1,a2,a3⟩:=yct s c
 have od: ∀k,k<(yae s m).length-> ∀x,x∈strK s m k->(x/4).toNat=c->x % 2=1->x=((ovH s c:Nat):Int):=fun k hk x hx h1 h2=>by
  obtain ⟨r1,r2⟩:=yeb v hk hx
  unfold InR at r1
  unfold ovH
  rcases (show x=((4*c+1:Nat):Int)\/x=((4*c+3:Nat):Int) by omega) with h|h
  ·rw [h,a1] at r2
   rw [h,if_pos (by simpa using r2)]
  ·rw [h,a3] at r2
   have:=eq_of_beq r2
   rw [h,if_neg (by omega)]
 have h1:=yki _ _ hb (u c) hul _ (ha.um c hc) (by omega)
 rw [show (((4*c+2:Nat):Int)/4).toNat=c by omega] at h1
 rcases h1 with h1|⟨h',p1,p2,p3⟩|⟨k',p1,h',p2,p3⟩
 ·simp [List.getD_eq_getElem?_getD,hc] at h1
 ·have e:=od _ hul h' p1 p3 p2
  rw [e] at p1
  rw [yc9 v hol hul (ha.om c hc) p1]
  exact Nat.le_refl _
 ·have hk':k'<(yae s m).length:=by omega
  obtain ⟨r1,r2⟩:=yeb v hk' p2
  unfold InR at r1
  rcases (show h' % 2=0\/h' % 2=1 by omega) with q|q
  ·rcases (show h'=((4*c:Nat):Int)\/h'=((4*c+2:Nat):Int) by omega) with e|e
   ·rw [e,a0] at r2;cases r2
   ·rw [e] at p2
    have:=yc9 v hul hk' (ha.um c hc) p2
    omega
  ·have e:=od _ hk' h' p2 p3 q
   rw [e] at p2
   have:=yc9 v hol hk' (ha.om c hc) p2
   omega
theorem yzh (hb:badO s m=none) {u o:Nat->Nat} (ha:AtK s m (yae s m).length u o) (h2:(yae s m).length<=2):twK s u o 0 1 s.length=0:=by
 by_cases hk:(yae s m).length=2
 ·have h1:=yt2 hv ha (i:=0) (j:=1) (by omega) (by omega) (by omega)
  have e:twK s u o 0 1 s.length=sm (fun c=> -1*((if u c=1/\o c=0 then-s.getD c 0 else 0)+(if u c=0/\o c=1 then s.getD c 0 else 0))) s.length:=ybz fun c hc=>by
   have:=yzg hv hb ha hc
   have n1: ¬(u c=0/\o c=1):=by omega
   rw [if_neg n1]
   by_cases h:u c=1/\o c=0
   ·rw [if_pos (.inr h),if_pos h];omega
   ·rw [if_neg fun q=>q.elim n1 h,if_neg h];rfl
  rw [e,ykf,h1];rfl
 ·have e:twK s u o 0 1 s.length=sm (fun _=>0) s.length:=ybz fun c hc=>by
   have:=ha.ul c hc
   have:=ha.ol c hc
   exact if_neg (by omega)
  rw [e,yd9];simp
theorem y1m {c:Nat} (hc:c<s.length) {u o:Nat->Nat} (ha:AtK s m (yae s m).length u o):AtK (swS s c) (swM s m c) (yae (swS s c) (swM s m c)).length (fun i=>if i=c then o c else u i) (fun i=>if i=c then u c else o i):=by
 have v:=yat hv
 have hst:=Sp.strands_sw hv hc
 have hlen:(yae (swS s c) (swM s m c)).length=(yae s m).length:=by rw [hst,List.length_map]
 have hsl:(swS s c).length=s.length:=Sp.swS_len
 have hmem: ∀k,k<(yae s m).length-> ∀x:Nat,(x:Int)∈strK s m k->((Sp.tw (Sp.kT s c) c x:Nat):Int)∈strK (swS s c) (swM s m c) k:=fun k hk x hx=>by
  unfold strK
  rw [hst,show ((yae s m).map (List.map (Sp.tI (Sp.kT s c) c))).getD k []=(strK s m k).map (Sp.tI (Sp.kT s c) c) by simp [strK,hk]]
  exact List.mem_map.2 ⟨x,hx,Sp.tI_nat x⟩
 have hsg:=v.sg c hc
 have tu:Sp.tw (Sp.kT s c) c (4*c+2)=ovH (swS s c) c:=by
  unfold ovH Sp.tw Sp.kT
  rw [Sp.swS_get hc,if_pos rfl]
  rcases hsg with h|h
  ·rw [h,if_pos (by omega),if_pos rfl,if_neg (by omega)];omega
  ·rw [h,if_pos (by omega),if_neg (by omega),if_pos (by omega)];omega
 have to:Sp.tw (Sp.kT s c) c (ovH s c)=4*c+2:=by
  rcases hsg with h|h
  ·have ho:ovH s c=4*c+1:=by unfold ovH;rw [if_pos h]
   have hk:Sp.kT s c=1:=by unfold Sp.kT;rw [if_pos h]
   rw [ho,hk];unfold Sp.tw;rw [if_pos (by omega)];omega
  ·have ho:ovH s c=4*c+3:=by unfold ovH;rw [if_neg (by omega)]
   have hk:Sp.kT s c=3:=by unfold Sp.kT;rw [if_neg (by omega)]
   rw [ho,hk];unfold Sp.tw;rw [if_pos (by omega)];omega
 refine ⟨fun i hi=>?_,fun i hi=>?_,fun i hi=>?_,fun i hi=>?_⟩
 ·rw [hlen];rw [hsl] at hi
  by_cases e:i=c
  ·rw [if_pos e];exact ha.ol c hc
  ·rw [if_neg e];exact ha.ul i hi
 ·rw [hlen];rw [hsl] at hi
  by_cases e:i=c
  ·rw [if_pos e];exact ha.ul c hc
  ·rw [if_neg e];exact ha.ol i hi
 ·rw [hsl] at hi
  by_cases e:i=c
  ·rw [if_pos e,e,←to];exact hmem _ (ha.ol c hc) _ (ha.om c hc)
  ·rw [if_neg e]
   have:=hmem _ (ha.ul i hi) _ (ha.um i hi)
   rwa [Sp.tw_out (by omega)] at this
 ·rw [hsl] at hi
  by_cases e:i=c
  ·rw [if_pos e,e,←tu];exact hmem _ (ha.ul c hc) _ (ha.um c hc)
  ·rw [if_neg e]
   have:=hmem _ (ha.ol i hi) _ (ha.om i hi)
   have ho:ovH s i/4=i:=by unfold ovH;split<;>omega
   rw [Sp.tw_out (by omega)] at this
   have e2:ovH (swS s c) i=ovH s i:=by unfold ovH;rw [Sp.swS_get hi,if_neg e]
   rw [e2];exact this
omit hv in
theorem y1n {c:Nat} (hc:c<s.length) {u o:Nat->Nat} (i j:Nat):twK (swS s c) (fun x=>if x=c then o c else u x) (fun x=>if x=c then u c else o x) i j s.length=twK s u o i j s.length-(if u c=i/\o c=j\/u c=j/\o c=i then 2*s.getD c 0 else 0):=by
 have e:twK (swS s c) (fun x=>if x=c then o c else u x) (fun x=>if x=c then u c else o x) i j s.length=sm (fun x=>(if u x=i/\o x=j\/u x=j/\o x=i then s.getD x 0 else 0)+(if x=c then-(if u c=i/\o c=j\/u c=j/\o c=i then 2*s.getD c 0 else 0) else 0)) s.length:=ybz fun x hx=>by
  rw [Sp.swS_get hx]
  have q:((fun x=>if x=c then o c else u x) x=i/\(fun x=>if x=c then u c else o x) x=j\/(fun x=>if x=c then o c else u x) x=j/\(fun x=>if x=c then u c else o x) x=i)↔(u x=i/\o x=j\/u x=j/\o x=i):=by
   dsimp only
   by_cases h:x=c
   ·rw [if_pos h,if_pos h,h]
    constructor
    ·rintro (⟨a,b⟩|⟨a,b⟩)
     ·exact .inr ⟨b,a⟩
     ·exact .inl ⟨b,a⟩
    ·rintro (⟨a,b⟩|⟨a,b⟩)
     ·exact .inr ⟨b,a⟩
     ·exact .inl ⟨b,a⟩
   ·rw [if_neg h,if_neg h]
  by_cases h2:u x=i/\o x=j\/u x=j/\o x=i
  ·rw [if_pos (q.2 h2),if_pos h2]
   by_cases h:x=c
   ·rw [if_pos h,if_pos h,if_pos (by rw [←h];exact h2),h];omega
   ·rw [if_neg h,if_neg h];omega
  ·rw [if_neg fun k=>h2 (q.1 k),if_neg h2]
   by_cases h:x=c
   ·rw [if_pos h,if_neg (by rw [←h];exact h2)];rfl
   ·rw [if_neg h];rfl
 rw [e,yke,yny (f:=fun x=>if x=c then-(if u c=i/\o c=j\/u c=j/\o c=i then 2*s.getD c 0 else 0) else 0) (a:=c) hc fun x _ hx=>if_neg hx,if_pos rfl]
 unfold twK;omega
end
theorem yw0: ∀(p q:List Int) (i:Nat),(Sp.zadd p q).getD i 0=p.getD i 0+q.getD i 0
 |[],q,i=>by simp [Sp.zadd]
 |a::p,[],i=>by simp [Sp.zadd]
 |a::p,b::q,0=>by simp [Sp.zadd]
 |a::p,b::q,i+1=>by
  have:=yw0 p q i
  simpa [Sp.zadd] using this
theorem adRG (p q:List Int) (k:Int) (i:Nat):(Sp.adR p k q).getD i 0=p.getD i 0+(if 0<i then k*q.getD (i-1) 0 else 0):=by
 unfold Sp.adR
 rw [yw0]
 cases i with
 |zero=>simp
 |succ i=>
  rw [if_pos (by omega)]
  congr 1
  simp only [List.getD_cons_succ,Nat.add_sub_cancel]
  by_cases h:i<q.length
  ·simp [List.getD_eq_getElem?_getD,h]
  ·simp [List.getD_eq_getElem?_getD,Nat.le_of_not_lt h]
theorem yjg: ∀(f:Nat) (s m:List Int) (L:Int) (q:List Int),yaj s m L=true->L+2*s.length<=62->Sp.rfM f s m L=some q->
  (∀i:Nat,q.getD i 0≠0->((yae s m).length:Int)+L-1<=i/\((i:Int)-((yae s m).length+L)+1)% 2=0)/\(((yae s m).length:Int)+L=1->q.getD 0 0=1)/\
   (((yae s m).length:Int)+L=2-> ∀u o,AtK s m (yae s m).length u o->2*q.getD 1 0=twK s u o 0 1 s.length)
 |0,s,m,L,q,_,_,h=>by cases h
 |f+1,s,m,L,q,hv,hL,h=>by
  have v:=yat hv
  have l0:=v.l0
  unfold Sp.rfM at h
  cases hb:badO s m with
  |none=>
   rw [hb] at h
   have hq:=Option.some.inj h
   by_cases h1:((yae s m).length:Int)+L=1
   ·rw [if_pos h1] at hq
    subst hq
    refine ⟨fun i hi=>?_,fun _=>rfl,fun h2=>by omega⟩
    cases i with
    |zero=>omega
    |succ i=>simp at hi
   ·rw [if_neg h1] at hq
    subst hq
    refine ⟨fun i hi=>?_,fun h2=>absurd h2 h1,fun h2 u o ha=>?_⟩
    ·cases i with
     |zero=>simp at hi
     |succ i=>simp at hi
    ·rw [yzh hv hb ha (by omega)];rfl
  |some c0=>
   rw [hb] at h
   have hcr:=yfl v.prd hb
   obtain ⟨c,rfl⟩: ∃c:Nat,c0=c:=⟨c0.toNat,by omega⟩
   have hc:c<s.length:=by omega
   simp only [Int.toNat_natCast] at h
   cases h1:Sp.rfM f (swS s c) (swM s m c) L with
   |none=>rw [h1] at h;cases h
   |some p=>
    cases h2:Sp.rfM f (smS s c) (smM s m c) (smLp s m c L) with
    |none=>rw [h1,h2] at h;cases h
    |some r=>
     rw [h1,h2] at h
     simp only at h
     split at h
     ·have hq:=Option.some.inj h
      have hsm:=Sp.smL_rng (m:=m) (b:=(s.getD c 0== -1)) (c:=c) (n:=s.length)
      have hlp:smLp s m c L=L+smL m (s.getD c 0== -1) c s.length:=rfl
      have hv1:=Sp.valid_switch hv hc
      obtain ⟨hv2,hl2⟩:=Sp.valid_smooth hv hc (by omega)
      have hl1:(swS s c).length=s.length:=Sp.swS_len
      have hst:(yae (swS s c) (swM s m c)).length=(yae s m).length:=by rw [Sp.strands_sw hv hc,List.length_map]
      obtain ⟨a1,a2,a3⟩:=yjg f _ _ _ p hv1 (by rw [hl1];exact hL) h1
      obtain ⟨b1,b2,b3⟩:=yjg f _ _ _ r hv2 (by rw [hl2];omega) h2
      obtain ⟨u,o,ha⟩:=y1l hv
      obtain ⟨c1,c2⟩:=yiu hv hc rfl hv2 ha
      rw [hst] at a1 a2 a3
      subst hq
      refine ⟨fun i hi=>?_,fun h3=>?_,fun h3 u' o' ha'=>?_⟩
      ·rw [adRG] at hi
       by_cases hp:p.getD i 0=0
       ·rw [hp] at hi
        have hi0:0<i:=by
         cases i with
         |zero=>simp at hi
         |succ i=>omega
        rw [if_pos hi0] at hi
        have hr:r.getD (i-1) 0≠0:=fun e=>hi (by rw [e];simp)
        obtain ⟨e1,e2⟩:=b1 _ hr
        by_cases huo:u c=o c
        ·have:=c1 huo;omega
        ·have:=c2 huo;omega
       ·exact a1 i hp
      ·rw [adRG,if_neg (by omega),a2 h3];rfl
      ·have hat:=y1m hv hc ha'
       have ht:=a3 h3 _ _ (by rw [←hst];exact hat)
       rw [hl1,y1n hc] at ht
       obtain ⟨c1,c2⟩:=yiu hv hc rfl hv2 ha'
       have hul:=ha'.ul c hc
       have hol:=ha'.ol c hc
       rw [adRG,if_pos (by omega)]
       show 2*(p.getD 1 0+s.getD c 0*r.getD 0 0)=_
       by_cases huo:u' c=o' c
       ·have h4:=c1 huo
        have hr:r.getD 0 0=0:=by
         apply Classical.byContradiction
         intro hn
         have:=b1 0 hn
         omega
        rw [if_neg (by omega)] at ht
        rw [hr];omega
       ·have h4:=c2 huo
        have hr:=b2 (by omega)
        rw [if_pos (by omega)] at ht
        rw [hr];omega
     ·cases h
end Go.Proofs.YtcnilhcplgiidaaDoor
set_option linter.unusedSimpArgs false
set_option linter.unusedVariables false
namespace Go.Proofs.YtcnilhcplgiidaaDoor
open Go Go.RowKit
set_option linter.unusedVariables false
section
variable {P:Program} {B:Nat} {w0:ybe} {Mx:Nat->Prop} {N:Nat} {fr:Fr} {H:Hp}
theorem awO.of {o:Oper} {K:Fr->Hp->Prop} (hc:cvOk P o.op=true) (hq:quF P H (evA fr) o.op=none) (ha:alF P (hnew H) (evA fr) o.op=none) (hx:awX P N o fr H K):awO P N o fr H K:=by
 unfold awO
 rw [hq,ha]
 exact ⟨hc,hx⟩
theorem Oper.wp_value {o:Oper} {a:Act} {w w':World} {v:Value} {K:Act->World->Prop} {Q:Exit->Act->World->Prop} (h:(execOp a.eval o).run P w= .ok (.value v) w') (hk:K (a.put o.dst v) w'):o.wp P a w K Q:=by
 unfold Oper.wp;rw [h];exact hk
end
end Go.Proofs.YtcnilhcplgiidaaDoor
