/- Plain: all circles at a crossing are taken out; how many circles are left. -/
import Derived.Test.YtmdjdekgakidhaaDoorZg
namespace Go.Proofs.YtmdjdekgakidhaaDoor
set_option linter.unusedVariables false
set_option linter.unusedSimpArgs false
section
variable {n W:Nat} {mt b0:Int->Int} {arc:Nat->Nat} {glue:Nat->Int} {hv:Nat->Int} (E:Emb n W mt b0 arc glue hv)
include E
theorem Pst.mate {b:Int->Int} {sn:List Bool} {c:Nat} {ex dn:Nat->Prop} (h:Pst n W mt b0 arc glue hv b sn c ex dn) {z:Nat} (hz:z<W) (hg:0<=glue z) (hs:sn.getD z false=false):sn.getD (glue z).toNat false=false:=by
 obtain ⟨zW,ze,zg,zy⟩:=E.gW hz hg
 cases hq:sn.getD (glue z).toNat false with
 |false=>rfl
 |true=>
  have:=(h.seen _ zW hq).2.1
  rw [zg] at this
  simp only [Int.toNat_natCast] at this
  rw [this] at hs;cases hs
theorem Pst.in' {b:Int->Int} {sn:List Bool} {c:Nat} {ex dn:Nat->Prop} (h:Pst n W mt b0 arc glue hv b sn c ex dn) (hdn: ∀x,x<W->glue x<0->dn x) {g v:Nat} (hg:g<W) (hv':v<W) (hgg:0<=glue g) (hgs:sn.getD g false=false) (hb:b (hv v)=hv g):0<=glue v/\sn.getD v false=false:=by
 have hgl:0<=glue v:=by
  rcases Int.lt_or_le (glue v) 0 with h1|h1
  ·obtain ⟨_,_,ys,e,_,_,q5,q6,_⟩:=h.dne v (hdn v hv' h1)
   rw [hb] at q6
   have:=E.inj _ _ hg (h.dne e q5).1 q6
   have:=(h.dne e q5).2.1
   subst_vars
   omega
  ·exact h1
 refine ⟨hgl,?_⟩
 cases hq:sn.getD v false with
 |false=>rfl
 |true=>
  obtain ⟨s1,s2,s3⟩:=h.seen v hv' hq
  rw [hb] at s3
  have:=E.inj _ _ hg (E.gW hv' hgl).1 s3
  rw [←this,hgs] at s2;cases s2
theorem Pst.cyc {c z0 P:Nat} {dn:Nat->Prop} (hdn: ∀x,x<W->glue x<0->dn x) (hz0:z0<W) (hP:P<W) (hPa:arc P=z0): ∀(f:Nat) (b:Int->Int) (sn:List Bool) (z:Nat),W<sn.count true+2*f->z<W->Pst n W mt b0 arc glue hv b sn c (fun v=>v=P\/v=z) dn->b (hv z)=hv P->b (hv P)=hv z->0<=glue z->sn.getD z false=false->0<=glue P->sn.getD P false=false->(z=z0\/sn.getD z0 false=true)->
  ∃zs b',Cyc arc glue sn z zs/\Pst n W mt b0 arc glue hv b' (zs.foldl (setP glue) sn) (c+1) (fun _=>False) dn/\(zs.foldl (setP glue) sn).count true=sn.count true+2*zs.length/\(∀v,sn.getD v false=true->(zs.foldl (setP glue) sn).getD v false=true)/\(zs.foldl (setP glue) sn).getD z false=true
 |0,b,sn,z,hf,hz,h,_,_,_,_,_,_,_=>by have:=h.le;omega
 |f+1,b,sn,z,hf,hz,h,hb1,hb2,hgz,hzs,hgP,hPs,hz00=>by
  obtain ⟨gW,ge,gg,gz⟩:=E.gW hz hgz
  have hgs:=h.mate E hz hgz hzs
  have zl:z<sn.length:=by rw [h.sl];exact hz
  have gl:(glue z).toNat<sn.length:=by rw [h.sl];exact gW
  have hget:=fun j=>ykq (glue:=glue) zl gl j
  have hcnt:=yhy (glue:=glue) zl gl gz hzs hgs
  have hzP:z≠P:=fun e=>h.inv.jf _ (E.rng z hz) (by rw [hb1,e])
  by_cases hcl:(glue z).toNat=P
  ·refine ⟨[z],b, .step hzs hgz ?_,⟨h.inv,h.off,by simp only [List.foldl_cons,List.foldl_nil,yhw];exact h.sl,fun x hx hs=>?_,fun x hx hs _ hd=>?_,fun u hd=>?_,?_⟩,?_,fun v hvv=>?_,?_⟩
   ·rw [hcl,hPa]
    refine .stop ?_
    rw [hget]
    rcases hz00 with rfl|h0
    ·rw [if_pos (.inl rfl)]
    ·split<;>first|rfl|exact h0
   ·simp only [List.foldl_cons,List.foldl_nil] at hs⊢
    rw [hget] at hs
    by_cases e1:x=z
    ·rw [e1];exact ⟨hgz,by rw [hget,if_pos (.inr rfl)],by rw [hb1,hcl]⟩
    ·by_cases e2:x=(glue z).toNat
     ·rw [e2,gg]
      refine ⟨by omega,by rw [hget,if_pos (.inl (by omega))],?_⟩
      rw [hcl,hb2];simp
     ·rw [if_neg (by rintro (g|g)<;>omega)] at hs
      obtain ⟨s1,s2,s3⟩:=h.seen x hx hs
      exact ⟨s1,by rw [hget];split<;>first|rfl|exact s2,s3⟩
   ·simp only [List.foldl_cons,List.foldl_nil] at hs
    rw [hget] at hs
    by_cases e1:x=z\/x=(glue z).toNat
    ·rw [if_pos e1] at hs;cases hs
    ·rw [if_neg e1] at hs
     exact h.org x hx hs (by rintro (e|e);exact e1 (.inr (e.trans hcl.symm));exact e1 (.inl e)) hd
   ·obtain ⟨q1,q2,ys,e,q3,q4,q5,q6,q7⟩:=h.dne u hd
    refine ⟨q1,q2,ys,e,q3,q4,q5,q6,fun y hy=>?_⟩
    simp only [List.foldl_cons,List.foldl_nil]
    exact ⟨by rw [hget];split<;>first|rfl|exact (q7 y hy).1,by rw [hget];split<;>first|rfl|exact (q7 y hy).2⟩
   ·simp only [List.foldl_cons,List.foldl_nil]
    have:=h.cnt
    omega
   ·simp only [List.foldl_cons,List.foldl_nil,List.length_cons,List.length_nil];omega
   ·simp only [List.foldl_cons,List.foldl_nil];rw [hget];split<;>first|rfl|exact hvv
   ·simp only [List.foldl_cons,List.foldl_nil];rw [hget,if_pos (.inl rfl)]
  ·have hPd: ¬dn P:=fun hd=>by have:=(h.dne P hd).2.1;omega
   obtain ⟨s1,s2,s3,s4⟩:=h.step E hP hz hb1 hgz hzs (fun e=>hcl e.symm) hPs hPd
   have aW:=E.nod.ar _ gW
   have hPs':(setP glue sn z).getD P false=false:=by rw [hget,if_neg (by rintro (g|g)<;>omega)];exact hPs
   obtain ⟨t1,t2⟩:=s1.in' E hdn hP aW hgP hPs' s4
   obtain ⟨zs,b',p1,p2,p3,p4,p5⟩:=Pst.cyc hdn hz0 hP hPa f _ _ (arc (glue z).toNat) (by omega) aW s1 s4 s2 t1 t2 hgP hPs' (.inr (by
    rcases hz00 with rfl|h0
    ·rw [hget,if_pos (.inl rfl)]
    ·rw [hget];split<;>first|rfl|exact h0))
   refine ⟨z::zs,b', .step hzs hgz p1,by rw [List.foldl_cons];exact p2,by rw [List.foldl_cons,p3,hcnt,List.length_cons];omega,fun v hvv=>?_,?_⟩
   ·rw [List.foldl_cons];exact p4 v (by rw [hget];split<;>first|rfl|exact hvv)
   ·rw [List.foldl_cons];exact p4 z (by rw [hget,if_pos (.inl rfl)])
theorem Pst.round {b:Int->Int} {sn:List Bool} {c z0:Nat} {dn:Nat->Prop} (h:Pst n W mt b0 arc glue hv b sn c (fun _=>False) dn) (hdn: ∀x,x<W->glue x<0->dn x) (hz0:z0<W) (hg:0<=glue z0) (hs:sn.getD z0 false=false):
  ∃zs b',Cyc arc glue sn z0 zs/\zs.length<=W/\Pst n W mt b0 arc glue hv b' (zs.foldl (setP glue) sn) (c+1) (fun _=>False) dn/\(∀v,sn.getD v false=true->(zs.foldl (setP glue) sn).getD v false=true)/\(zs.foldl (setP glue) sn).getD z0 false=true:=by
 have hd0: ¬dn z0:=fun hd=>by have:=(h.dne z0 hd).2.1;omega
 have hb:=h.org z0 hz0 hs (fun h=>h) hd0
 have aW:=E.nod.ar z0 hz0
 have hb2:b (hv (arc z0))=hv z0:=by rw [←hb,h.inv.jj _ (E.rng z0 hz0)]
 obtain ⟨t1,t2⟩:=h.in' E hdn hz0 aW hg hs hb2
 have hst:Pst n W mt b0 arc glue hv b sn c (fun v=>v=arc z0\/v=z0) dn:=⟨h.inv,h.off,h.sl,h.seen,fun x hx hs _ hd'=>h.org x hx hs (fun h=>h) hd',h.dne,h.cnt⟩
 obtain ⟨zs,b',p1,p2,p3,p4,p5⟩:=Pst.cyc E hdn hz0 aW (E.nod.aa z0 hz0) (W+1) b sn z0 (by omega) hz0 hst hb hb2 hg hs t1 t2 (.inl rfl)
 have:=p2.le
 exact ⟨zs,b',p1,by omega,p2,p4,p5⟩
theorem ym6 {b1:Int->Int} {dn:Nat->Prop} (h:Pst n W mt b0 arc glue hv b1 (endN W arc glue W) 0 (fun _=>False) dn) (hdn: ∀x,x<W->glue x<0->dn x): ∀k,k<=W-> ∃b,Pst n W mt b0 arc glue hv b (cirN W arc glue (endN W arc glue W) k).1 (cirN W arc glue (endN W arc glue W) k).2 (fun _=>False) dn/\ ∀x,x<k->0<=glue x->(cirN W arc glue (endN W arc glue W) k).1.getD x false=true
 |0,_=>⟨b1,h,fun x hx=>by omega⟩
 |k+1,hk=>by
  obtain ⟨b,h1,h2⟩:=ym6 h hdn k (by omega)
  have hst:cirN W arc glue (endN W arc glue W) (k+1)=if glue k<0\/(cirN W arc glue (endN W arc glue W) k).1.getD k false=true then cirN W arc glue (endN W arc glue W) k else (cycN arc glue (W+1) (cirN W arc glue (endN W arc glue W) k).1 k,(cirN W arc glue (endN W arc glue W) k).2+1):=rfl
  by_cases hc:glue k<0\/(cirN W arc glue (endN W arc glue W) k).1.getD k false=true
  ·rw [hst,if_pos hc]
   refine ⟨b,h1,fun x hx hg=>?_⟩
   by_cases e:x=k
   ·subst e
    rcases hc with hc|hc
    ·omega
    ·exact hc
   ·exact h2 x (by omega) hg
  ·rw [hst,if_neg hc]
   have hg:0<=glue k:=by
    rcases Int.lt_or_le (glue k) 0 with g|g
    ·exact absurd (.inl g) hc
    ·exact g
   have hs:(cirN W arc glue (endN W arc glue W) k).1.getD k false=false:=by
    cases hq:(cirN W arc glue (endN W arc glue W) k).1.getD k false with
    |false=>rfl
    |true=>exact absurd (.inr hq) hc
   obtain ⟨zs,b',p1,p2,p3,p4,p5⟩:=h1.round E hdn (by omega) hg hs
   rw [ypn p1 (W+1) (by omega)]
   refine ⟨b',p3,fun x hx hgx=>?_⟩
   by_cases e:x=k
   ·subst e;exact p5
   ·exact p4 x (h2 x (by omega) hgx)
theorem yky: ∃b,Inv2 n mt b/\(∀h,InR n h->(∀x,x<W->h≠hv x)->b h=b0 h)/\(∀x,x<W->0<=glue x->b (hv x)=mt (hv x))/\
  (∀x,x<W->glue x<0-> ∃ys e,Pth arc glue x ys e/\ys.length<=W/\e<W/\glue e<0/\b (hv x)=hv e)/\
  (∀k,k<W->0<=glue k->(cirN W arc glue (endN W arc glue W) k).1.getD k false=false-> ∃zs,Cyc arc glue (cirN W arc glue (endN W arc glue W) k).1 k zs/\zs.length<=W)/\
  ∃g:Nat,2*ncl n mt b+2*(cirN W arc glue (endN W arc glue W) W).2=2*ncl n mt b0+g/\g=(cirN W arc glue (endN W arc glue W) W).1.count true/\ ∀x,x<W->((cirN W arc glue (endN W arc glue W) W).1.getD x false=true↔0<=glue x):=by
 obtain ⟨b1,dn,h,hd⟩:=ysk E W (Nat.le_refl _)
 obtain ⟨b,h1,h2⟩:=ym6 E h hd W (Nat.le_refl _)
 refine ⟨b,h1.inv,h1.off,fun x hx hg=>?_,fun x hx hg=>?_,fun k hk hg hs=>?_,_,h1.cnt,rfl,fun x hx=>⟨fun hs=>(h1.seen x hx hs).1,fun hg=>h2 x hx hg⟩⟩
 ·rw [(h1.seen x hx (h2 x hx hg)).2.2,E.mtg x hx hg]
 ·obtain ⟨q1,q2,ys,e,q3,q4,q5,q6,q7⟩:=h1.dne x (hd x hx hg)
  exact ⟨ys,e,q3,q4,(h1.dne e q5).1,(h1.dne e q5).2.1,q6⟩
 ·obtain ⟨b',k1,_⟩:=ym6 E h hd k (by omega)
  obtain ⟨zs,_,p1,p2,_⟩:=k1.round E hd hk hg hs
  exact ⟨zs,p1,p2⟩
end
end Go.Proofs.YtmdjdekgakidhaaDoor
