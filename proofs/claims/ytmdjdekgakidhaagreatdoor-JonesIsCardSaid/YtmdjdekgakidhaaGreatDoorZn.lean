/- Plain: all paths and circles at a crossing are taken out. -/
import Derived.Test.YtmdjdekgakidhaaGreatDoorZk
import Derived.Test.YtmdjdekgakidhaaGreatDoorZl
import Derived.Test.YtmdjdekgakidhaaGreatDoorZg
namespace Go.Proofs.YtmdjdekgakidhaaGreatDoor
set_option linter.unusedVariables false
set_option linter.unusedSimpArgs false
section
variable {n W:Nat} {mt b0:Int->Int} {arc:Nat->Nat} {glue:Nat->Int} {hv:Nat->Int} (E:CU n W mt b0 arc glue hv)
include E
omit E in
theorem iC.le {b:Int->Int} {sn:List Bool} {c:Nat} {ex dn:Nat->Prop} (h:iC n W mt b0 arc glue hv b sn c ex dn):sn.count true<=W:=by
 rw [←h.sl];exact List.count_le_length
theorem iC.path {c x:Nat} {dn:Nat->Prop} (hx:x<W) (B9:glue x<0) (Fh: ¬dn x): ∀(f:Nat) (b:Int->Int) (sn:List Bool) (u:Nat),W<sn.count true+2*f->u<W->iC n W mt b0 arc glue hv b sn c (fun v=>v=x\/v=arc u) dn->b (hv (arc u))=hv x->
  ∃ys e b' tO,jV arc glue u ys e/\e<W/\glue e<0/\iC n W mt b0 arc glue hv b' tO c (fun v=>v=x\/v=e) dn/\b' (hv e)=hv x/\tO=ys.foldl (cj glue) sn/\tO.count true=sn.count true+2*ys.length/\(∀y∈ys,y<W/\tO.getD y false=true/\tO.getD (glue y).toNat false=true)/\ ∀v,sn.getD v false=true->tO.getD v false=true
 |0,b,sn,u,hf,hu,h,hb=>by have:=h.le;omega
 |f+1,b,sn,u,hf,hu,h,hb=>by
  have hy:=E.nod.ar u hu;have KY:sn.getD x false=false:=by
   cases hq:sn.getD x false with
   |false=>rfl
   |true=>have:=(h.seen x hx hq).1;omega
  by_cases hg:0<=glue (arc u)
  ·obtain ⟨zW,ze,zg,zy⟩:=E.gW hy hg;have vA:sn.getD (arc u) false=false:=by
    cases hq:sn.getD (arc u) false with
    |false=>rfl
    |true=>
     have h1:=(h.seen _ hy hq).2.2;rw [hb] at h1
     have:=E.inj _ _ hx zW h1
     rw [this,zg] at B9;omega
   have EX:x≠(glue (arc u)).toNat:=fun e=>by rw [e,zg] at B9;omega
   obtain ⟨s1,s2,s3,s4⟩:=h.step E hx hy hb hg vA EX KY Fh;have j6:sn.getD (glue (arc u)).toNat false=false:=by
    cases hz:sn.getD (glue (arc u)).toNat false with
    |false=>rfl
    |true=>
     have:=(h.seen _ zW hz).2.1
     rw [zg] at this;simp only [zzC] at this;rw [this] at vA;cases vA
   have iw:=Ie (glue:=glue) (sn:=sn) (y:=arc u) (by rw [h.sl];exact hy) (by rw [h.sl];exact zW) zy vA j6;have hget:=fun j=>Ha (glue:=glue) (sn:=sn) (y:=arc u) (by rw [h.sl];exact hy) (by rw [h.sl];exact zW) j;obtain ⟨ys,e,b',tO,p1,p2,p3,p4,p5,p6,p7,p8,p9⟩:=iC.path hx B9 Fh f _ _ (glue (arc u)).toNat (by omega) zW s1 s4
   refine ⟨arc u::ys,e,b',tO, .cons hg p1,p2,p3,p4,p5,by rw [List.foldl_cons];exact p6,by rw [p7,iw,zzG];omega,fun y Bl=>?_,fun v mL=>p9 v (by rw [hget];split<;>first|rfl|exact mL)⟩;rcases List.mem_cons.1 Bl with rfl|Bl
   ·exact ⟨hy,p9 _ (by rw [hget,if_pos (.inl rfl)]),p9 _ (by rw [hget,if_pos (.inr rfl)])⟩
   ·exact p8 y Bl
  ·exact ⟨[],arc u,b,sn, .nil (by omega),hy,by omega,h,hb,rfl,by simp,(fun y Bl=>by cases Bl),fun v mL=>mL⟩
theorem jV.back {u e:Nat} {ys:List Nat} (h:jV arc glue u ys e):u<W-> ∃ws,ws.length=ys.length/\(∀w∈ws,∃y∈ys,w=(glue y).toNat)/\((glue u<0->jV arc glue e ws u)/\(0<=glue u-> ∀zs x,jV arc glue (glue u).toNat zs x->jV arc glue e (ws++u::zs) x)):=by
 induction h with
 | @nil u hn=>
   intro hu;have ha:=E.nod.aa u hu;refine ⟨[],rfl,(fun w hw=>by cases hw),fun w7=>?_,fun w7 zs x hz=>?_⟩
   ·have:=jV.nil (arc:=arc) (glue:=glue) (u:=arc u) (by rw [ha];exact w7)
    rw [ha] at this;exact this
   ·have:=jV.cons (arc:=arc) (glue:=glue) (u:=arc u) (ys:=zs) (e:=x) (by rw [ha];exact w7) (by rw [ha];exact hz)
    rw [ha] at this;exact this
 | @cons u e ys hg k ih=>
   intro hu;have hy:=E.nod.ar u hu;obtain ⟨zW,ze,zg,zy⟩:=E.gW hy hg;have ha:=E.nod.aa u hu;obtain ⟨ws,h1,h2,h3,h4⟩:=ih zW;have rL:0<=glue (glue (arc u)).toNat:=by rw [zg];omega
   have rK:(glue (glue (arc u)).toNat).toNat=arc u:=by rw [zg];simp
   refine ⟨ws++[(glue (arc u)).toNat],by simp [h1],fun w hw=>?_,fun w7=>?_,fun w7 zs x hz=>?_⟩
   ·rcases List.mem_append.1 hw with hw|hw
    ·obtain ⟨y,q1,q2⟩:=h2 w hw;exact ⟨y,zzE _ q1,q2⟩
    ·simp only [List.mem_singleton] at hw;exact ⟨arc u,zzD ..,hw⟩
   ·refine h4 rL [] u ?_;rw [rK]
    have:=jV.nil (arc:=arc) (glue:=glue) (u:=arc u) (by rw [ha];exact w7)
    rw [ha] at this;exact this
   ·rw [List.append_assoc];refine h4 rL (u::zs) x ?_;rw [rK]
    have:=jV.cons (arc:=arc) (glue:=glue) (u:=arc u) (ys:=zs) (e:=x) (by rw [ha];exact w7) (by rw [ha];exact hz)
    rw [ha] at this;exact this
theorem NS: ∀k,k<=W-> ∃b dn,iC n W mt b0 arc glue hv b (endN W arc glue k) 0 (fun _=>False) dn/\ ∀x,x<k->glue x<0->dn x
 |0,_=>⟨b0,fun _=>False,⟨E.inv,fun _ _ _=>rfl,by simp [endN],fun x hx h=>by simp [endN,zzB,List.getElem?_replicate] at h;split at h<;>simp_all,fun x hx _ _ _=>E.ba x hx,fun u h=>h.elim,by simp [endN,List.count_replicate]⟩,fun x h=>by omega⟩
 |k+1,hk=>by
  obtain ⟨b,dn,h,hd⟩:=NS k (by omega);by_cases hg:0<=glue k
  ·have:endN W arc glue (k+1)=endN W arc glue k:=by simp only [endN];rw [if_pos hg]
   rw [this];exact ⟨b,dn,h,fun x hx lU=>by
    by_cases e:x=k
    ·subst e;omega
    ·exact hd x (by omega) lU⟩
  ·have e1:endN W arc glue (k+1)=(pthN arc glue (W+1) (endN W arc glue k) (arc k)).1:=by simp only [endN];rw [if_neg hg]
   rw [e1];by_cases je:dn k
   ·obtain ⟨_,_,ys,e,g3,g4,_,_,g7⟩:=h.dne k je;rw [yu g3 (W+1) _ (by omega),PK ys _ g7];exact ⟨b,dn,h,fun x hx lU=>by
     by_cases e:x=k
     ·subst e;exact je
     ·exact hd x (by omega) lU⟩
   ·have s7:(endN W arc glue k).getD k false=false:=by
     cases hq:(endN W arc glue k).getD k false with
     |false=>rfl
     |true=>have:=(h.seen k (by omega) hq).1;omega
    have nI:=h.org k (by omega) s7 (fun h=>h) je;have L5:b (hv (arc k))=hv k:=by rw [←nI,h.inv.jj _ (E.cR k (by omega))]
    have aY:iC n W mt b0 arc glue hv b (endN W arc glue k) 0 (fun v=>v=k\/v=arc k) dn:=⟨h.inv,h.off,h.sl,h.seen,fun x hx hs _ vS=>h.org x hx hs (fun h=>h) vS,h.dne,h.aN⟩;obtain ⟨ys,e,b',tO,p1,p2,p3,p4,p5,p6,p7,p8,p9⟩:=iC.path E (by omega) (by omega) je (W+1) b _ k (by omega) (by omega) aY L5;have hle:=p4.le;have vB:ys.length<=W:=by omega
    rw [yu p1 (W+1) _ (by omega),←p6];obtain ⟨ws,w1,w2,w3,_⟩:=jV.back E p1 (by omega);have rU:b' (hv k)=hv e:=by rw [←p5,p4.inv.jj _ (E.cR e p2)]
    refine ⟨b',fun v=>dn v\/v=k\/v=e,⟨p4.inv,p4.off,p4.sl,p4.seen,fun x hx hs _ vS=>p4.org x hx hs (fun g=>vS (.inr g)) (fun g=>vS (.inl g)),fun u hu=>?_,p4.aN⟩,fun x hx lU=>?_⟩
    ·rcases hu with hu|rfl|rfl
     ·obtain ⟨q1,q2,UY,e2,q3,q4,q5,q6,q7⟩:=p4.dne u hu;exact ⟨q1,q2,UY,e2,q3,q4, .inl q5,q6,q7⟩
     ·exact ⟨by omega,by omega,ys,e,p1,vB, .inr (.inr rfl),rU,fun y hy=>(p8 y hy).2⟩
     ·refine ⟨p2,p3,ws,k,w3 (by omega),by omega, .inr (.inl rfl),p5,fun w hw=>?_⟩;obtain ⟨y,q1,q2⟩:=w2 w hw;obtain ⟨r1,r2,r3⟩:=p8 y q1;have YP:=(p4.seen y r1 r2).1;obtain ⟨_,_,zg,_⟩:=E.gW r1 YP;rw [q2];refine ⟨r3,?_⟩;rw [zg];simpa using r2
    ·by_cases e':x=k
     ·exact .inr (.inl e')
     ·exact .inl (hd x (by omega) lU)
end
section
variable {n W:Nat} {mt b0:Int->Int} {arc:Nat->Nat} {glue:Nat->Int} {hv:Nat->Int} (E:CU n W mt b0 arc glue hv)
include E
theorem iC.aO {b:Int->Int} {sn:List Bool} {c:Nat} {ex dn:Nat->Prop} (h:iC n W mt b0 arc glue hv b sn c ex dn) {z:Nat} (hz:z<W) (hg:0<=glue z) (hs:sn.getD z false=false):sn.getD (glue z).toNat false=false:=by
 obtain ⟨zW,ze,zg,zy⟩:=E.gW hz hg;cases hq:sn.getD (glue z).toNat false with
 |false=>rfl
 |true=>
  have:=(h.seen _ zW hq).2.1
  rw [zg] at this;simp only [zzC] at this;rw [this] at hs;cases hs
theorem iC.SE {b:Int->Int} {sn:List Bool} {c:Nat} {ex dn:Nat->Prop} (h:iC n W mt b0 arc glue hv b sn c ex dn) (ta: ∀x,x<W->glue x<0->dn x) {g v:Nat} (hg:g<W) (mL:v<W) (hgg:0<=glue g) (Ca:sn.getD g false=false) (hb:b (hv v)=hv g):0<=glue v/\sn.getD v false=false:=by
 have Fg:0<=glue v:=by
  rcases Int.lt_or_le (glue v) 0 with h1|h1
  ·obtain ⟨_,_,ys,e,_,_,q5,q6,_⟩:=h.dne v (ta v mL h1);rw [hb] at q6
   have:=E.inj _ _ hg (h.dne e q5).1 q6
   have:=(h.dne e q5).2.1
   subst_vars
   omega
  ·exact h1
 refine ⟨Fg,?_⟩;cases hq:sn.getD v false with
 |false=>rfl
 |true=>
  obtain ⟨s1,s2,s3⟩:=h.seen v mL hq;rw [hb] at s3
  have:=E.inj _ _ hg (E.gW mL Fg).1 s3
  rw [←this,Ca] at s2;cases s2
theorem iC.TQ {c z0 P:Nat} {dn:Nat->Prop} (ta: ∀x,x<W->glue x<0->dn x) (jP:z0<W) (hP:P<W) (Tw:arc P=z0): ∀(f:Nat) (b:Int->Int) (sn:List Bool) (z:Nat),W<sn.count true+2*f->z<W->iC n W mt b0 arc glue hv b sn c (fun v=>v=P\/v=z) dn->b (hv z)=hv P->b (hv P)=hv z->0<=glue z->sn.getD z false=false->0<=glue P->sn.getD P false=false->(z=z0\/sn.getD z0 false=true)->
  ∃zs b',ti arc glue sn z zs/\iC n W mt b0 arc glue hv b' (zs.foldl (cj glue) sn) (c+1) (fun _=>False) dn/\(zs.foldl (cj glue) sn).count true=sn.count true+2*zs.length/\(∀v,sn.getD v false=true->(zs.foldl (cj glue) sn).getD v false=true)/\(zs.foldl (cj glue) sn).getD z false=true
 |0,b,sn,z,hf,hz,h,_,_,_,_,_,_,_=>by have:=h.le;omega
 |f+1,b,sn,z,hf,hz,h,iy,kx,rL,j6,Tc,hPs,hz00=>by
  obtain ⟨gW,ge,gg,gz⟩:=E.gW hz rL;have Ca:=h.aO E hz rL j6;have zl:z<sn.length:=by rw [h.sl];exact hz
  have gl:(glue z).toNat<sn.length:=by rw [h.sl];exact gW
  have hget:=fun j=>Ha (glue:=glue) zl gl j;have iw:=Ie (glue:=glue) zl gl gz j6 Ca;have hzP:z≠P:=fun e=>h.inv.jf _ (E.cR z hz) (by rw [iy,e]);by_cases b5:(glue z).toNat=P
  ·refine ⟨[z],b, .step j6 rL ?_,⟨h.inv,h.off,by simp only [List.foldl_cons,List.foldl_nil,El];exact h.sl,fun x hx hs=>?_,fun x hx hs _ hd=>?_,fun u hd=>?_,?_⟩,?_,fun v Bu=>?_,?_⟩
   ·rw [b5,Tw];refine .stop ?_;rw [hget];rcases hz00 with rfl|h0
    ·rw [if_pos (.inl rfl)]
    ·split<;>first|rfl|exact h0
   ·simp only [List.foldl_cons,List.foldl_nil] at hs⊢;rw [hget] at hs;by_cases e1:x=z
    ·rw [e1];exact ⟨rL,by rw [hget,if_pos (.inr rfl)],by rw [iy,b5]⟩
    ·by_cases e2:x=(glue z).toNat
     ·rw [e2,gg];refine ⟨by omega,by rw [hget,if_pos (.inl (by omega))],?_⟩;rw [b5,kx];simp
     ·rw [if_neg (by rintro (g|g)<;>omega)] at hs;obtain ⟨s1,s2,s3⟩:=h.seen x hx hs;exact ⟨s1,by rw [hget];split<;>first|rfl|exact s2,s3⟩
   ·simp only [List.foldl_cons,List.foldl_nil] at hs;rw [hget] at hs;by_cases e1:x=z\/x=(glue z).toNat
    ·rw [if_pos e1] at hs;cases hs
    ·rw [if_neg e1] at hs;exact h.org x hx hs (by rintro (e|e);exact e1 (.inr (e.trans b5.symm));exact e1 (.inl e)) hd
   ·obtain ⟨q1,q2,ys,e,q3,q4,q5,q6,q7⟩:=h.dne u hd;refine ⟨q1,q2,ys,e,q3,q4,q5,q6,fun y hy=>?_⟩;simp only [List.foldl_cons,List.foldl_nil];exact ⟨by rw [hget];split<;>first|rfl|exact (q7 y hy).1,by rw [hget];split<;>first|rfl|exact (q7 y hy).2⟩
   ·simp only [List.foldl_cons,List.foldl_nil]
    have:=h.aN
    omega
   ·simp only [List.foldl_cons,List.foldl_nil,zzG,List.length_nil];omega
   ·simp only [List.foldl_cons,List.foldl_nil];rw [hget];split<;>first|rfl|exact Bu
   ·simp only [List.foldl_cons,List.foldl_nil];rw [hget,if_pos (.inl rfl)]
  ·have Za: ¬dn P:=fun hd=>by have:=(h.dne P hd).2.1;omega
   obtain ⟨s1,s2,s3,s4⟩:=h.step E hP hz iy rL j6 (fun e=>b5 e.symm) hPs Za;have aW:=E.nod.ar _ gW;have Cx:(cj glue sn z).getD P false=false:=by rw [hget,if_neg (by rintro (g|g)<;>omega)];exact hPs
   obtain ⟨t1,t2⟩:=s1.SE E ta hP aW Tc Cx s4;obtain ⟨zs,b',p1,p2,p3,p4,p5⟩:=iC.TQ ta jP hP Tw f _ _ (arc (glue z).toNat) (by omega) aW s1 s4 s2 t1 t2 Tc Cx (.inr (by
    rcases hz00 with rfl|h0
    ·rw [hget,if_pos (.inl rfl)]
    ·rw [hget];split<;>first|rfl|exact h0))
   refine ⟨z::zs,b', .step j6 rL p1,by rw [List.foldl_cons];exact p2,by rw [List.foldl_cons,p3,iw,zzG];omega,fun v Bu=>?_,?_⟩
   ·rw [List.foldl_cons];exact p4 v (by rw [hget];split<;>first|rfl|exact Bu)
   ·rw [List.foldl_cons];exact p4 z (by rw [hget,if_pos (.inl rfl)])
theorem iC.round {b:Int->Int} {sn:List Bool} {c z0:Nat} {dn:Nat->Prop} (h:iC n W mt b0 arc glue hv b sn c (fun _=>False) dn) (ta: ∀x,x<W->glue x<0->dn x) (jP:z0<W) (hg:0<=glue z0) (hs:sn.getD z0 false=false):
  ∃zs b',ti arc glue sn z0 zs/\zs.length<=W/\iC n W mt b0 arc glue hv b' (zs.foldl (cj glue) sn) (c+1) (fun _=>False) dn/\(∀v,sn.getD v false=true->(zs.foldl (cj glue) sn).getD v false=true)/\(zs.foldl (cj glue) sn).getD z0 false=true:=by
 have Fj: ¬dn z0:=fun hd=>by have:=(h.dne z0 hd).2.1;omega
 have hb:=h.org z0 jP hs (fun h=>h) Fj;have aW:=E.nod.ar z0 jP;have kx:b (hv (arc z0))=hv z0:=by rw [←hb,h.inv.jj _ (E.cR z0 jP)]
 obtain ⟨t1,t2⟩:=h.SE E ta jP aW hg hs kx;have aY:iC n W mt b0 arc glue hv b sn c (fun v=>v=arc z0\/v=z0) dn:=⟨h.inv,h.off,h.sl,h.seen,fun x hx hs _ vS=>h.org x hx hs (fun h=>h) vS,h.dne,h.aN⟩;obtain ⟨zs,b',p1,p2,p3,p4,p5⟩:=iC.TQ E ta jP aW (E.nod.aa z0 jP) (W+1) b sn z0 (by omega) jP aY hb kx hg hs t1 t2 (.inl rfl)
 have:=p2.le
 exact ⟨zs,b',p1,by omega,p2,p4,p5⟩
theorem Gr {b1:Int->Int} {dn:Nat->Prop} (h:iC n W mt b0 arc glue hv b1 (endN W arc glue W) 0 (fun _=>False) dn) (ta: ∀x,x<W->glue x<0->dn x): ∀k,k<=W-> ∃b,iC n W mt b0 arc glue hv b (bA W arc glue (endN W arc glue W) k).1 (bA W arc glue (endN W arc glue W) k).2 (fun _=>False) dn/\ ∀x,x<k->0<=glue x->(bA W arc glue (endN W arc glue W) k).1.getD x false=true
 |0,_=>⟨b1,h,fun x hx=>by omega⟩
 |k+1,hk=>by
  obtain ⟨b,h1,h2⟩:=Gr h ta k (by omega);have aY:bA W arc glue (endN W arc glue W) (k+1)=if glue k<0\/(bA W arc glue (endN W arc glue W) k).1.getD k false=true then bA W arc glue (endN W arc glue W) k else (ll arc glue (W+1) (bA W arc glue (endN W arc glue W) k).1 k,(bA W arc glue (endN W arc glue W) k).2+1):=rfl
  by_cases hc:glue k<0\/(bA W arc glue (endN W arc glue W) k).1.getD k false=true
  ·rw [aY,if_pos hc];refine ⟨b,h1,fun x hx hg=>?_⟩;by_cases e:x=k
   ·subst e;rcases hc with hc|hc
    ·omega
    ·exact hc
   ·exact h2 x (by omega) hg
  ·rw [aY,if_neg hc];have hg:0<=glue k:=by
    rcases Int.lt_or_le (glue k) 0 with g|g
    ·exact absurd (.inl g) hc
    ·exact g
   have hs:(bA W arc glue (endN W arc glue W) k).1.getD k false=false:=by
    cases hq:(bA W arc glue (endN W arc glue W) k).1.getD k false with
    |false=>rfl
    |true=>exact absurd (.inr hq) hc
   obtain ⟨zs,b',p1,p2,p3,p4,p5⟩:=h1.round E ta (by omega) hg hs;rw [OM p1 (W+1) (by omega)];refine ⟨b',p3,fun x hx B9=>?_⟩;by_cases e:x=k
   ·subst e;exact p5
   ·exact p4 x (h2 x (by omega) B9)
theorem G8: ∃b,Inv2 n mt b/\(∀h,aw n h->(∀x,x<W->h≠hv x)->b h=b0 h)/\(∀x,x<W->0<=glue x->b (hv x)=mt (hv x))/\
  (∀x,x<W->glue x<0-> ∃ys e,jV arc glue x ys e/\ys.length<=W/\e<W/\glue e<0/\b (hv x)=hv e)/\
  (∀k,k<W->0<=glue k->(bA W arc glue (endN W arc glue W) k).1.getD k false=false-> ∃zs,ti arc glue (bA W arc glue (endN W arc glue W) k).1 k zs/\zs.length<=W)/\
  ∃g:Nat,2*mI n mt b+2*(bA W arc glue (endN W arc glue W) W).2=2*mI n mt b0+g/\g=(bA W arc glue (endN W arc glue W) W).1.count true/\ ∀x,x<W->((bA W arc glue (endN W arc glue W) W).1.getD x false=true↔0<=glue x):=by
 obtain ⟨b1,dn,h,hd⟩:=NS E W (zzA _);obtain ⟨b,h1,h2⟩:=Gr E h hd W (zzA _);refine ⟨b,h1.inv,h1.off,fun x hx hg=>?_,fun x hx hg=>?_,fun k hk hg hs=>?_,_,h1.aN,rfl,fun x hx=>⟨fun hs=>(h1.seen x hx hs).1,fun hg=>h2 x hx hg⟩⟩
 ·rw [(h1.seen x hx (h2 x hx hg)).2.2,E.mtg x hx hg]
 ·obtain ⟨q1,q2,ys,e,q3,q4,q5,q6,q7⟩:=h1.dne x (hd x hx hg);exact ⟨ys,e,q3,q4,(h1.dne e q5).1,(h1.dne e q5).2.1,q6⟩
 ·obtain ⟨b',k1,_⟩:=Gr E h hd k (by omega);obtain ⟨zs,_,p1,p2,_⟩:=k1.round E hd hk hg hs;exact ⟨zs,p1,p2⟩
end
set_option linter.unusedSectionVars false
structure qH (m:List Int) (n:Nat) (P:List Nat) (ends:List Int):Prop where
 nd:ends.Nodup
 mem: ∀h:Int,h∈ends↔aw n h/\(h/4).toNat∈P/\ ¬(m.getD h.toNat 0/4).toNat∈P
structure nr (T:List Nat) (E:Nat):Prop where
 len:T.length=E
 cR: ∀x,x<E->T.getD x 0<E
 inv: ∀x,x<E->T.getD (T.getD x 0) 0=x
 ne: ∀x,x<E->T.getD x 0≠x
def bST (m:List Int) (P:List Nat) (ends:List Int) (T:List Nat) (ch:Nat->Bool) (h:Int):Int:=
 match ndF ends ends.length h with
 |some x=>ends.getD (T.getD x.toNat 0) 0
 |none=>if (h/4).toNat∈P then m.getD h.toNat 0 else bO (ch (h/4).toNat) h
theorem Gq (hs:List Int) (h:Int): ∀k x,ndF hs k h=some x->0<=x/\x<k/\hs.getD x.toNat 0=h
 |0,x,e=>by cases e
 |k+1,x,e=>by
  simp only [ndF] at e
  split at e
  ·rename_i e1;cases e;exact ⟨by omega,by omega,e1.symm⟩
  ·obtain ⟨h1,h2,h3⟩:=Gq hs h k x e;exact ⟨h1,by omega,h3⟩
theorem G7 (hs:List Int) (h:Int): ∀k,ndF hs k h=none-> ∀x,x<k->hs.getD x 0≠h
 |0,_,x,hx=>by omega
 |k+1,e,x,hx=>by
  simp only [ndF] at e
  split at e
  ·cases e
  ·rename_i e1
   by_cases hk:x=k
   ·rw [hk];exact fun g=>e1 g.symm
   ·exact G7 hs h k e x (by omega)
theorem RJ (hs:List Int) (h:Int): ∀k,(∀x,x<k->hs.getD x 0≠h)->ndF hs k h=none
 |0,_=>rfl
 |k+1,hx=>by
  simp only [ndF];rw [if_neg fun e=>hx k (by omega) e.symm];exact RJ hs h k fun x h1=>hx x (by omega)
theorem sK {l:List Int} {h:Int}:h∈l↔ ∃x,x<l.length/\l.getD x 0=h:=by
 rw [List.mem_iff_getElem];constructor
 ·rintro ⟨x,hx,e⟩;exact ⟨x,hx,by simp [zzB,hx,e]⟩
 ·rintro ⟨x,hx,e⟩;exact ⟨x,hx,by simpa [zzB,hx] using e⟩
theorem Ex {l:List Int} (h:l.Nodup) {x y:Nat} (hx:x<l.length) (hy:y<l.length) (e:l.getD x 0=l.getD y 0):x=y:=by
 simp only [zzB,zzI hx,zzI hy,Option.getD_some] at e;exact (List.getElem_inj h).1 e
theorem RH {hs:List Int} (h:hs.Nodup) {x:Nat} (hx:x<hs.length):ndF hs hs.length (hs.getD x 0)=some (x:Int):=by
 cases hq:ndF hs hs.length (hs.getD x 0) with
 |none=>exact absurd rfl (G7 hs _ _ hq x hx)
 |some y=>
  obtain ⟨h1,h2,h3⟩:=Gq hs _ _ _ hq
  have:=Ex h (by omega) hx h3
  congr 1;omega
theorem JX {hs:List Int} {h:Int} (hn:h∉hs):ndF hs hs.length h=none:=RJ hs h _ fun x hx e=>hn (sK.2 ⟨x,hx,e⟩)
def jL (b:Bool):List Int:=if b then [3,2,1,0] else [1,0,3,2]
theorem Q3 (b:Bool) {t:Nat} (ht:t<4):0<=(jL b).getD t 0/\(jL b).getD t 0<=3/\(jL b).getD ((jL b).getD t 0).toNat 0=t/\(jL b).getD t 0≠t:=by
 have:t=0\/t=1\/t=2\/t=3:=by omega
 rcases this with rfl|rfl|rfl|rfl<;>cases b<;>decide
theorem Bi (b:Bool) (c:Nat) {t:Nat} (ht:t<4):bO b (4*(c:Int)+t)=4*c+(jL b).getD t 0:=by
 obtain ⟨h0,h1,h2,h3,g0,g1,g2,g3⟩:=Rc c;have e0:((4*c:Nat):Int)=4*(c:Int)+(0:Nat):=by omega
 have e1:((4*c+1:Nat):Int)=4*(c:Int)+(1:Nat):=by omega
 have e2:((4*c+2:Nat):Int)=4*(c:Int)+(2:Nat):=by omega
 have e3:((4*c+3:Nat):Int)=4*(c:Int)+(3:Nat):=by omega
 rw [e0] at h0 g0;rw [e1] at h1 g1;rw [e2] at h2 g2;rw [e3] at h3 g3
 have:t=0\/t=1\/t=2\/t=3:=by omega
 rcases this with rfl|rfl|rfl|rfl<;>cases b
 ·rw [g0];simp [jL]
 ·rw [h0];simp [jL]
 ·rw [g1];simp [jL]
 ·rw [h1];simp [jL]
 ·rw [g2];simp [jL]
 ·rw [h2];simp [jL]
 ·rw [g3];simp [jL]
 ·rw [h3];simp [jL]
def fo (aN:Nat) (T:List Nat) (b:Bool) (x:Nat):Nat:=if x<aN then T.getD x 0 else aN+((jL b).getD (x-aN) 0).toNat
abbrev aS (m ends:List Int) (c:Nat):List Int:=cQ (jR (bE ends c) m) (ends.length+4) (ends.length+4)
abbrev c6 (m ends:List Int) (c:Nat):List Int:=cQ (lS (bE ends c) m) (ends.length+4) (ends.length+4)
abbrev aE (m ends:List Int) (c:Nat):List Int:=aJ (bE ends c) m (ends.length+4)
theorem NR {ends:List Int} (c:Int) {x:Nat} (hx:x<ends.length):(bE ends c).getD x 0=ends.getD x 0:=by
 simp only [bE,zzB,List.getElem?_append_left hx]
theorem NQ (ends:List Int) (c:Int) {t:Nat} (ht:t<4):(bE ends c).getD (ends.length+t) 0=4*c+t:=by
 simp only [bE,zzB,List.getElem?_append_right (Nat.le_add_right _ _),Nat.add_sub_cancel_left]
 have:t=0\/t=1\/t=2\/t=3:=by omega
 rcases this with rfl|rfl|rfl|rfl<;>simp
section
variable {m:List Int} {n:Nat} {P:List Nat} {ends:List Int} {c:Nat} (hp:bD m n) (he:qH m n P ends) (hc:c<n) (aT:c∉P)
include he
theorem qH.at {x:Nat} (hx:x<ends.length):aw n (ends.getD x 0)/\(ends.getD x 0/4).toNat∈P/\ ¬(m.getD (ends.getD x 0).toNat 0/4).toNat∈P:=(he.mem _).1 (sK.2 ⟨x,hx,rfl⟩)
include hc aT
theorem FM:(bE ends c).Nodup:=by
 unfold bE;rw [List.nodup_append];refine ⟨he.nd,by simp;omega,fun x hx y hy e=>?_⟩;subst e
 have:=((he.mem x).1 hx).2.1
 have h4:(x/4).toNat=c:=by
  simp only [List.mem_cons,zzH,or_false] at hy;omega
 rw [h4] at this;exact aT this
theorem zE (h:Int):h∈bE ends c↔h∈ends\/(0<=h/\h/4=c):=by
 unfold bE;simp only [List.mem_append,List.mem_cons,zzH,or_false];constructor
 ·rintro (h1|h1)
  ·exact .inl h1
  ·right;omega
 ·rintro (h1|⟨h1,h2⟩)
  ·exact .inl h1
  ·right;omega
theorem wh {x:Nat} (hx:x<ends.length+4):aw n ((bE ends c).getD x 0)/\((bE ends c).getD x 0/4).toNat∈c::P:=by
 have hm:(bE ends c).getD x 0∈bE ends c:=sK.2 ⟨x,by rw [qf];exact hx,rfl⟩;rcases (zE he hc aT _).1 hm with h1|⟨h1,h2⟩
 ·obtain ⟨g1,g2,_⟩:=(he.mem _).1 h1;exact ⟨g1,zzE _ g2⟩
 ·exact ⟨⟨h1,by omega⟩,by rw [h2];simp⟩
include hp
theorem yk {x:Nat} (hx:x<ends.length+4) {y:Int} (h:eW (bE ends c) m x=some y):0<=y/\y<ends.length+4/\(bE ends c).getD y.toNat 0=m.getD ((bE ends c).getD x 0).toNat 0:=by
 unfold eW at h;rw [qf] at h
 have:=Gq _ _ _ _ h
 exact ⟨this.1,by omega,this.2.2⟩
theorem JV {x:Nat} (hx:x<ends.length+4) (h:eW (bE ends c) m x=none):m.getD ((bE ends c).getD x 0).toNat 0∉bE ends c:=by
 unfold eW at h;intro hm;obtain ⟨y,hy,e⟩:=sK.1 hm;exact G7 _ _ _ h y hy e
theorem IP {x y:Nat} (hx:x<ends.length+4) (h:eW (bE ends c) m x=some (y:Int)):eW (bE ends c) m y=some (x:Int):=by
 obtain ⟨h1,h2,h3⟩:=yk hp he hc aT hx h;rw [zzC] at h3;have hr:=(wh he hc aT hx).1;unfold aw at hr
 have:=hp.inv ((bE ends c).getD x 0).toNat (by omega)
 unfold eW;rw [h3,this,Int.toNat_of_nonneg hr.1];exact RH (FM he hc aT) (by rw [qf];exact hx)
theorem DJ {x:Nat} (hx:x<ends.length+4):(aS m ends c).getD x 0=jR (bE ends c) m x:=OI _ _ _ hx
theorem wu {x:Nat} (hx:x<ends.length+4):(aS m ends c).getD x 0<0↔eW (bE ends c) m x=none:=by
 rw [DJ hp he hc aT hx];unfold jR;cases hq:eW (bE ends c) m x with
 |none=>simp
 |some y=>have:=yk hp he hc aT hx hq;simp;omega
theorem Ab {x:Nat} (hx:x<ends.length+4) (h:0<=(aS m ends c).getD x 0): ∃y:Nat,y<ends.length+4/\(aS m ends c).getD x 0=y/\eW (bE ends c) m x=some (y:Int):=by
 rw [DJ hp he hc aT hx] at h⊢;unfold jR at h⊢;cases hq:eW (bE ends c) m x with
 |none=>rw [hq] at h;simp at h
 |some y=>
  have:=yk hp he hc aT hx hq
  exact ⟨y.toNat,by omega,by simp;omega,by congr 1;omega⟩
end
section
variable {m:List Int} {n:Nat} {P:List Nat} {ends:List Int} {c:Nat} {T:List Nat} (hp:bD m n) (he:qH m n P ends) (hT:nr T ends.length)
include hp he hT
theorem Ea (ch:Nat->Bool) {x:Nat} (hx:x<ends.length):bST m P ends T ch (ends.getD x 0)=ends.getD (T.getD x 0) 0:=by
 unfold bST;rw [RH he.nd hx];simp
theorem wq (ch:Nat->Bool) {h:Int} (hn:h∉ends):bST m P ends T ch h=if (h/4).toNat∈P then m.getD h.toNat 0 else bO (ch (h/4).toNat) h:=by
 unfold bST;rw [JX hn]
theorem Gp (ch:Nat->Bool):Inv2 n (fun x=>m.getD x.toNat 0) (bST m P ends T ch):=by
 have hi:=tG hp.ok hp.inv hp.ne ch;have key: ∀x,aw n x->aw n (bST m P ends T ch x)/\bST m P ends T ch (bST m P ends T ch x)=x/\bST m P ends T ch x≠x:=by
  intro x hx;by_cases hm:x∈ends
  ·obtain ⟨k,hk,rfl⟩:=sK.1 hm;rw [Ea hp he hT ch hk,Ea hp he hT ch (hT.cR k hk),hT.inv k hk];exact ⟨(he.at (hT.cR k hk)).1,rfl,fun e=>hT.ne k hk (Ex he.nd (hT.cR k hk) hk e)⟩
  ·rw [wq hp he hT ch hm];by_cases hP:(x/4).toNat∈P
   ·rw [if_pos hP];have h1:(m.getD x.toNat 0/4).toNat∈P:=by
     rcases Classical.em ((m.getD x.toNat 0/4).toNat∈P) with h|h
     ·exact h
     ·exact absurd ((he.mem x).2 ⟨hx,hP,h⟩) hm
    have wJ:m.getD (m.getD x.toNat 0).toNat 0=x:=hi.mm x hx;have av:m.getD x.toNat 0≠x:=hi.mf x hx;have hr:aw n (m.getD x.toNat 0):=hi.mr x hx;refine ⟨hr,?_,av⟩;have h2:m.getD x.toNat 0∉ends:=fun h=>by
     have:=((he.mem _).1 h).2.2
     rw [wJ] at this;exact this hP
    rw [wq hp he hT ch h2,if_pos h1,wJ]
   ·rw [if_neg hP];have hr:aw n (bO (ch (x/4).toNat) x):=hi.jr x hx;have hd:=wx (ch (x/4).toNat) x;refine ⟨hr,?_,you _ x⟩;have h2:bO (ch (x/4).toNat) x∉ends:=fun h=>by
     have:=((he.mem _).1 h).2.1
     rw [hd] at this;exact hP this
    rw [wq hp he hT ch h2,hd,if_neg hP];exact DV _ x
 exact ⟨hi.mr,fun x hx=>(key x hx).1,hi.mm,fun x hx=>(key x hx).2.1,hi.mf,fun x hx=>(key x hx).2.2⟩
variable (hc:c<n) (aT:c∉P)
include hc aT
theorem D9 (ch:Nat->Bool):CU n (ends.length+4) (fun x=>m.getD x.toNat 0) (bST m P ends T ch) (fo ends.length T (ch c)) (fun x=>(aS m ends c).getD x 0) (fun x=>(bE ends c).getD x 0):=by
 have fc: ∀x,x<ends.length+4->fo ends.length T (ch c) x<ends.length+4/\fo ends.length T (ch c) (fo ends.length T (ch c) x)=x/\fo ends.length T (ch c) x≠x:=by
  intro x hx;unfold fo;by_cases h:x<ends.length
  ·have h1:=hT.cR x h;rw [if_pos h,if_pos h1];exact ⟨by omega,hT.inv x h,hT.ne x h⟩
  ·have j:=Q3 (ch c) (t:=x-ends.length) (by omega);rw [if_neg h,if_neg (by omega)];rw [Nat.add_sub_cancel_left];refine ⟨by omega,by omega,by omega⟩
 refine ⟨⟨fun x hx=>(fc x hx).1,fun x hx=>(fc x hx).2.1,fun x hx=>(fc x hx).2.2,fun x hx h=>?_,fun x hx h=>?_,fun x hx e=>?_⟩,Gp hp he hT ch,fun x y hx hy e=>Ex (FM he hc aT) (by rw [qf];exact hx) (by rw [qf];exact hy) e,fun x hx=>(wh he hc aT hx).1,fun x hx h=>?_,fun x hx=>?_⟩
 ·obtain ⟨y,hy,e,_⟩:=Ab hp he hc aT hx h;rw [e];omega
 ·obtain ⟨y,hy,e,e2⟩:=Ab hp he hc aT hx h;rw [e,zzC,DJ hp he hc aT hy];unfold jR;rw [IP hp he hc aT hx e2];rfl
 ·obtain ⟨y,hy,e1,e2⟩:=Ab hp he hc aT hx (by omega);rw [e1] at e
  have:y=x:=by omega
  subst this;have h3:=(yk hp he hc aT hx e2).2.2;have hr:=(wh he hc aT hx).1;unfold aw at hr
  have:=hp.ne ((bE ends c).getD y 0).toNat (by omega)
  rw [zzC] at h3;omega
 ·obtain ⟨y,hy,e1,e2⟩:=Ab hp he hc aT hx h;rw [e1];exact (yk hp he hc aT hx e2).2.2.symm
 ·unfold fo;by_cases h:x<ends.length
  ·rw [if_pos h,NR _ h,NR _ (hT.cR x h),Ea hp he hT ch h]
  ·obtain ⟨t,rfl⟩: ∃t,x=ends.length+t:=⟨x-ends.length,by omega⟩;have ht:t<4:=by omega
   have j:=Q3 (ch c) ht;have e4:((4*(c:Int)+t)/4).toNat=c:=by omega
   rw [if_neg h,Nat.add_sub_cancel_left,NQ _ _ ht,NQ _ _ (by omega)];have hn:4*(c:Int)+t∉ends:=fun g=>by
    have:=((he.mem _).1 g).2.1
    rw [e4] at this;exact aT this
   rw [wq hp he hT ch hn,e4,if_neg aT,Bi _ _ ht];omega
end
end Go.Proofs.YtmdjdekgakidhaaGreatDoor
