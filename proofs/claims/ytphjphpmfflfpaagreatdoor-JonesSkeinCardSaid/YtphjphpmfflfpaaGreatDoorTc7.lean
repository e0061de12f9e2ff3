/- Plain: all circles at a crossing are taken out; how many circles are left. -/
import Derived.Test.YtphjphpmfflfpaaGreatDoorZh
namespace Go.Proofs.YtphjphpmfflfpaaGreatDoor
set_option linter.unusedVariables false
set_option linter.unusedSimpArgs false
section
variable {n W:Nat} {mt b0:Int->Int} {arc:Nat->Nat} {glue:Nat->Int} {hv:Nat->Int} (E:Dh n W mt b0 arc glue hv)
include E
theorem iD.aJ {b:Int->Int} {sn:List Bool} {c:Nat} {ex dn:Nat->Prop} (h:iD n W mt b0 arc glue hv b sn c ex dn) {z:Nat} (hz:z<W) (hg:0<=glue z) (hs:sn.getD z false=false):sn.getD (glue z).toNat false=false:=by
 obtain ⟨zW,ze,zg,zy⟩:=E.gW hz hg;cases hq:sn.getD (glue z).toNat false with
 |false=>rfl
 |true=>
  have:=(h.seen _ zW hq).2.1
  rw [zg] at this;simp only [Int.toNat_natCast] at this;rw [this] at hs;cases hs
theorem iD.RC {b:Int->Int} {sn:List Bool} {c:Nat} {ex dn:Nat->Prop} (h:iD n W mt b0 arc glue hv b sn c ex dn) (tr: ∀x,x<W->glue x<0->dn x) {g v:Nat} (hg:g<W) (lE:v<W) (hgg:0<=glue g) (vQ:sn.getD g false=false) (hb:b (hv v)=hv g):0<=glue v/\sn.getD v false=false:=by
 have Fw:0<=glue v:=by
  rcases Int.lt_or_le (glue v) 0 with h1|h1
  ·obtain ⟨_,_,ys,e,_,_,q5,q6,_⟩:=h.dne v (tr v lE h1);rw [hb] at q6
   have:=E.inj _ _ hg (h.dne e q5).1 q6
   have:=(h.dne e q5).2.1
   subst_vars
   omega
  ·exact h1
 refine ⟨Fw,?_⟩;cases hq:sn.getD v false with
 |false=>rfl
 |true=>
  obtain ⟨s1,s2,s3⟩:=h.seen v lE hq;rw [hb] at s3
  have:=E.inj _ _ hg (E.gW lE Fw).1 s3
  rw [←this,vQ] at s2;cases s2
theorem iD.SQ {c z0 P:Nat} {dn:Nat->Prop} (tr: ∀x,x<W->glue x<0->dn x) (iz:z0<W) (hP:P<W) (Sx:arc P=z0): ∀(f:Nat) (b:Int->Int) (sn:List Bool) (z:Nat),W<sn.count true+2*f->z<W->iD n W mt b0 arc glue hv b sn c (fun v=>v=P\/v=z) dn->b (hv z)=hv P->b (hv P)=hv z->0<=glue z->sn.getD z false=false->0<=glue P->sn.getD P false=false->(z=z0\/sn.getD z0 false=true)->
  ∃zs b',tA arc glue sn z zs/\iD n W mt b0 arc glue hv b' (zs.foldl (b5 glue) sn) (c+1) (fun _=>False) dn/\(zs.foldl (b5 glue) sn).count true=sn.count true+2*zs.length/\(∀v,sn.getD v false=true->(zs.foldl (b5 glue) sn).getD v false=true)/\(zs.foldl (b5 glue) sn).getD z false=true
 |0,b,sn,z,hf,hz,h,_,_,_,_,_,_,_=>by have:=h.le;omega
 |f+1,b,sn,z,hf,hz,h,hZ,lO,rZ,kv,Se,hPs,hz00=>by
  obtain ⟨gW,ge,gg,gz⟩:=E.gW hz rZ;have vQ:=h.aJ E hz rZ kv;have zl:z<sn.length:=by rw [h.sl];exact hz
  have gl:(glue z).toNat<sn.length:=by rw [h.sl];exact gW
  have hget:=fun j=>HW (glue:=glue) zl gl j;have iT:=Io (glue:=glue) zl gl gz kv vQ;have hzP:z≠P:=fun e=>h.inv.jf _ (E.bP z hz) (by rw [hZ,e]);by_cases bC:(glue z).toNat=P
  ·refine ⟨[z],b, .step kv rZ ?_,⟨h.inv,h.off,by simp only [List.foldl_cons,List.foldl_nil,Et];exact h.sl,fun x hx hs=>?_,fun x hx hs _ hd=>?_,fun u hd=>?_,?_⟩,?_,fun v vC=>?_,?_⟩
   ·rw [bC,Sx];refine .stop ?_;rw [hget];rcases hz00 with rfl|h0
    ·rw [if_pos (.inl rfl)]
    ·split<;>first|rfl|exact h0
   ·simp only [List.foldl_cons,List.foldl_nil] at hs⊢;rw [hget] at hs;by_cases e1:x=z
    ·rw [e1];exact ⟨rZ,by rw [hget,if_pos (.inr rfl)],by rw [hZ,bC]⟩
    ·by_cases e2:x=(glue z).toNat
     ·rw [e2,gg];refine ⟨by omega,by rw [hget,if_pos (.inl (by omega))],?_⟩;rw [bC,lO];simp
     ·rw [if_neg (by rintro (g|g)<;>omega)] at hs;obtain ⟨s1,s2,s3⟩:=h.seen x hx hs;exact ⟨s1,by rw [hget];split<;>first|rfl|exact s2,s3⟩
   ·simp only [List.foldl_cons,List.foldl_nil] at hs;rw [hget] at hs;by_cases e1:x=z\/x=(glue z).toNat
    ·rw [if_pos e1] at hs;cases hs
    ·rw [if_neg e1] at hs;exact h.org x hx hs (by rintro (e|e);exact e1 (.inr (e.trans bC.symm));exact e1 (.inl e)) hd
   ·obtain ⟨q1,q2,ys,e,q3,q4,q5,q6,q7⟩:=h.dne u hd;refine ⟨q1,q2,ys,e,q3,q4,q5,q6,fun y hy=>?_⟩;simp only [List.foldl_cons,List.foldl_nil];exact ⟨by rw [hget];split<;>first|rfl|exact (q7 y hy).1,by rw [hget];split<;>first|rfl|exact (q7 y hy).2⟩
   ·simp only [List.foldl_cons,List.foldl_nil]
    have:=h.aS
    omega
   ·simp only [List.foldl_cons,List.foldl_nil,List.length_cons,List.length_nil];omega
   ·simp only [List.foldl_cons,List.foldl_nil];rw [hget];split<;>first|rfl|exact vC
   ·simp only [List.foldl_cons,List.foldl_nil];rw [hget,if_pos (.inl rfl)]
  ·have YP: ¬dn P:=fun hd=>by have:=(h.dne P hd).2.1;omega
   obtain ⟨s1,s2,s3,s4⟩:=h.step E hP hz hZ rZ kv (fun e=>bC e.symm) hPs YP;have aW:=E.nod.ar _ gW;have CT:(b5 glue sn z).getD P false=false:=by rw [hget,if_neg (by rintro (g|g)<;>omega)];exact hPs
   obtain ⟨t1,t2⟩:=s1.RC E tr hP aW Se CT s4;obtain ⟨zs,b',p1,p2,p3,p4,p5⟩:=iD.SQ tr iz hP Sx f _ _ (arc (glue z).toNat) (by omega) aW s1 s4 s2 t1 t2 Se CT (.inr (by
    rcases hz00 with rfl|h0
    ·rw [hget,if_pos (.inl rfl)]
    ·rw [hget];split<;>first|rfl|exact h0))
   refine ⟨z::zs,b', .step kv rZ p1,by rw [List.foldl_cons];exact p2,by rw [List.foldl_cons,p3,iT,List.length_cons];omega,fun v vC=>?_,?_⟩
   ·rw [List.foldl_cons];exact p4 v (by rw [hget];split<;>first|rfl|exact vC)
   ·rw [List.foldl_cons];exact p4 z (by rw [hget,if_pos (.inl rfl)])
theorem iD.round {b:Int->Int} {sn:List Bool} {c z0:Nat} {dn:Nat->Prop} (h:iD n W mt b0 arc glue hv b sn c (fun _=>False) dn) (tr: ∀x,x<W->glue x<0->dn x) (iz:z0<W) (hg:0<=glue z0) (hs:sn.getD z0 false=false):
  ∃zs b',tA arc glue sn z0 zs/\zs.length<=W/\iD n W mt b0 arc glue hv b' (zs.foldl (b5 glue) sn) (c+1) (fun _=>False) dn/\(∀v,sn.getD v false=true->(zs.foldl (b5 glue) sn).getD v false=true)/\(zs.foldl (b5 glue) sn).getD z0 false=true:=by
 have FA: ¬dn z0:=fun hd=>by have:=(h.dne z0 hd).2.1;omega
 have hb:=h.org z0 iz hs (fun h=>h) FA;have aW:=E.nod.ar z0 iz;have lO:b (hv (arc z0))=hv z0:=by rw [←hb,h.inv.jj _ (E.bP z0 iz)]
 obtain ⟨t1,t2⟩:=h.RC E tr iz aW hg hs lO;have bo:iD n W mt b0 arc glue hv b sn c (fun v=>v=arc z0\/v=z0) dn:=⟨h.inv,h.off,h.sl,h.seen,fun x hx hs _ qK=>h.org x hx hs (fun h=>h) qK,h.dne,h.aS⟩;obtain ⟨zs,b',p1,p2,p3,p4,p5⟩:=iD.SQ E tr iz aW (E.nod.aa z0 iz) (W+1) b sn z0 (by omega) iz bo hb lO hg hs t1 t2 (.inl rfl)
 have:=p2.le
 exact ⟨zs,b',p1,by omega,p2,p4,p5⟩
theorem G8 {b1:Int->Int} {dn:Nat->Prop} (h:iD n W mt b0 arc glue hv b1 (endN W arc glue W) 0 (fun _=>False) dn) (tr: ∀x,x<W->glue x<0->dn x): ∀k,k<=W-> ∃b,iD n W mt b0 arc glue hv b (br W arc glue (endN W arc glue W) k).1 (br W arc glue (endN W arc glue W) k).2 (fun _=>False) dn/\ ∀x,x<k->0<=glue x->(br W arc glue (endN W arc glue W) k).1.getD x false=true
 |0,_=>⟨b1,h,fun x hx=>by omega⟩
 |k+1,hk=>by
  obtain ⟨b,h1,h2⟩:=G8 h tr k (by omega);have bo:br W arc glue (endN W arc glue W) (k+1)=if glue k<0\/(br W arc glue (endN W arc glue W) k).1.getD k false=true then br W arc glue (endN W arc glue W) k else (lS arc glue (W+1) (br W arc glue (endN W arc glue W) k).1 k,(br W arc glue (endN W arc glue W) k).2+1):=rfl
  by_cases hc:glue k<0\/(br W arc glue (endN W arc glue W) k).1.getD k false=true
  ·rw [bo,if_pos hc];refine ⟨b,h1,fun x hx hg=>?_⟩;by_cases e:x=k
   ·subst e;rcases hc with hc|hc
    ·omega
    ·exact hc
   ·exact h2 x (by omega) hg
  ·rw [bo,if_neg hc];have hg:0<=glue k:=by
    rcases Int.lt_or_le (glue k) 0 with g|g
    ·exact absurd (.inl g) hc
    ·exact g
   have hs:(br W arc glue (endN W arc glue W) k).1.getD k false=false:=by
    cases hq:(br W arc glue (endN W arc glue W) k).1.getD k false with
    |false=>rfl
    |true=>exact absurd (.inr hq) hc
   obtain ⟨zs,b',p1,p2,p3,p4,p5⟩:=h1.round E tr (by omega) hg hs;rw [Oi p1 (W+1) (by omega)];refine ⟨b',p3,fun x hx Cv=>?_⟩;by_cases e:x=k
   ·subst e;exact p5
   ·exact p4 x (h2 x (by omega) Cv)
theorem HG: ∃b,Inv2 n mt b/\(∀h,ax n h->(∀x,x<W->h≠hv x)->b h=b0 h)/\(∀x,x<W->0<=glue x->b (hv x)=mt (hv x))/\
  (∀x,x<W->glue x<0-> ∃ys e,kj arc glue x ys e/\ys.length<=W/\e<W/\glue e<0/\b (hv x)=hv e)/\
  (∀k,k<W->0<=glue k->(br W arc glue (endN W arc glue W) k).1.getD k false=false-> ∃zs,tA arc glue (br W arc glue (endN W arc glue W) k).1 k zs/\zs.length<=W)/\
  ∃g:Nat,2*mR n mt b+2*(br W arc glue (endN W arc glue W) W).2=2*mR n mt b0+g/\g=(br W arc glue (endN W arc glue W) W).1.count true/\ ∀x,x<W->((br W arc glue (endN W arc glue W) W).1.getD x false=true↔0<=glue x):=by
 obtain ⟨b1,dn,h,hd⟩:=MT E W (Nat.le_refl _);obtain ⟨b,h1,h2⟩:=G8 E h hd W (Nat.le_refl _);refine ⟨b,h1.inv,h1.off,fun x hx hg=>?_,fun x hx hg=>?_,fun k hk hg hs=>?_,_,h1.aS,rfl,fun x hx=>⟨fun hs=>(h1.seen x hx hs).1,fun hg=>h2 x hx hg⟩⟩
 ·rw [(h1.seen x hx (h2 x hx hg)).2.2,E.mtg x hx hg]
 ·obtain ⟨q1,q2,ys,e,q3,q4,q5,q6,q7⟩:=h1.dne x (hd x hx hg);exact ⟨ys,e,q3,q4,(h1.dne e q5).1,(h1.dne e q5).2.1,q6⟩
 ·obtain ⟨b',k1,_⟩:=G8 E h hd k (by omega);obtain ⟨zs,_,p1,p2,_⟩:=k1.round E hd hk hg hs;exact ⟨zs,p1,p2⟩
end
end Go.Proofs.YtphjphpmfflfpaaGreatDoor
