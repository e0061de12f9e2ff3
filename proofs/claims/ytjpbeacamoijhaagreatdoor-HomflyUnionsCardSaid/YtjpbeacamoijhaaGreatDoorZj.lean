/- Plain: how many circles a state has, up to parity. -/
import Derived.Test.YtjpbeacamoijhaaGreatDoorZi
import Derived.Test.YtjpbeacamoijhaaGreatDoorZh
import Derived.Test.YtjpbeacamoijhaaGreatDoorZg
namespace Go.Proofs.YtjpbeacamoijhaaGreatDoor
set_option linter.unusedSimpArgs false
set_option linter.unusedVariables false
open Classical
section
variable {m:List Int} {n:Nat} {σ:Nat->Bool} {s s':Nat->Nat} {c:Nat}
end
section
variable {s m:List Int} {L:Int}
end
end Go.Proofs.YtjpbeacamoijhaaGreatDoor
namespace Go.Proofs.YtjpbeacamoijhaaGreatDoor
set_option linter.unusedSimpArgs false
set_option linter.unusedVariables false
section
variable {s m:List Int} {L:Int} (hv:bf s m L=true)
include hv
end
open Classical
section
variable {s m:List Int} {L:Int} (hv:bf s m L=true)
include hv
end
section
variable {s m:List Int} {L:Int} (hv:bf s m L=true)
include hv
end
end Go.Proofs.YtjpbeacamoijhaaGreatDoor
namespace Go.Proofs.YtjpbeacamoijhaaGreatDoor
set_option linter.unusedSimpArgs false
set_option linter.unusedVariables false
namespace Hs
open Sp (fq bt aw itn SC aW)
section
variable {s m:List Int} {L:Int} (v:iV s m L)
def DS (n:Nat) (vv:List Bool) (S:WS):Prop:= ∀a,a<2*n->S.ae a=false->S.st (a/2)=if vv.getD (a/2) false=true then 3 else 1
include v
theorem WJ {g:Nat} (hg:g<4*s.length) (ho:aj s (g:Int)=true):(ak s m).nx (aM g)=aM (aS m g).toNat:=by
 have h1:=(wP (m:=m) v.sg hg).2 ho;have h2:=(Sp.mD v hg).1;rw [h2,zzC];show aM (aW m (aH (ak s m) (aM g)))=_;rw [<-h1];unfold aM Sp.xa;omega
theorem Vn {x k:Nat} (hx:x<4*s.length) (ho:aj s (x:Int)=true) (hk:uW (aS m) x k) (K:WS->Int): ∀(d j:Nat) (S:WS) (vv zQ:List Bool),j+d=k->0<j->qE (ak s m) S (aM x) (aM (it (aS m) j x).toNat)->DS s.length vv S->vv.length=s.length->
  dG vv ((List.range' j d).map fun i=>it (aS m) i x)=(none,zQ)->
  ∃S1,W (ak s m) (b9 (aM x)) S (aM (it (aS m) j x).toNat) (fun S _=>K S)=K S1/\Bd (ak s m) S1/\DS s.length zQ S1/\zQ.length=s.length/\S1.i=S.i/\S1.j=S.j/\S1.k=S.k/\(∀a,S1.ae a=true↔S.ae a=true\/ ∃i,j<=i/\i<k/\a=aM (it (aS m) i x).toNat)
 |0,j,S,vv,zQ,hj,h0,hM,hS,hl,hb=>by
  have e:j=k:=by omega
  subst e;rw [hk.back,zzC] at hM⊢
  have:=Prod.mk.inj hb
  refine ⟨S,iY (iX _),hM.close,by rw [<-this.2];exact hS,by rw [<-this.2];exact hl,rfl,rfl,rfl,fun a=>⟨.inl,fun h=>h.elim id fun ⟨i,h1,h2,_⟩=>by omega⟩⟩
 |d+1,j,S,vv,zQ,hj,h0,hM,hS,hl,hb=>by
  have xG:j<k:=by omega
  have hR:=(u4 v hx).2.1 _ (((u4 v hx).1 _).2 ⟨j,rfl⟩);obtain ⟨y,hy⟩: ∃y:Nat,it (aS m) j x=y:=⟨(it (aS m) j x).toNat,by unfold av at hR;omega⟩;have qx:y<4*s.length:=by unfold av at hR;omega
  have zg:aj s (y:Int)=true:=by rw [<-hy,Fc v hx j];exact ho
  have Pj:y≠x:=fun e=>hk.first j h0 xG (by rw [hy,e])
  have hD:=nO v;have EF:aM y<2*s.length:=by unfold aM;omega
  have aA:aM y≠aM x:=fun e=>Pj (by
   rw [(wP (m:=m) v.sg qx).2 zg,(wP (m:=m) v.sg hx).2 ho,e])
  have vB:(ak s m).nx (aM y)=aM (it (aS m) (j+1) x).toNat:=by
   rw [WJ v qx zg,<-hy];rfl
  rw [hy,zzC] at hM⊢;have Ps:S.ae (aM y)=false:=hM.vq.resolve_left aA;have aZ:=hS _ EF Ps;have d2:aM y/2=y/4:=by unfold aM;omega
  have m2:aM y % 2=y % 2:=by unfold aM;omega
  rw [List.range'_succ,List.map_cons,hy] at hb;simp only [dG] at hb;have ey:((y:Int)/4).toNat=y/4:=by omega
  rw [ey] at hb;by_cases hc:vv.getD (y/4) false=false/\(y:Int)% 2=0
  ·rw [zzJ hc] at hb
   have:=(Prod.mk.inj hb).1
   cases this
  rw [zzI hc] at hb;have As: ∃q,(q=3\/q=4)/\br (ak s m) S (aM y)=[(1,S.mk' (aM y) q,(ak s m).nx (aM y))]/\(vv.getD (y/4) false=true->q=4)/\(vv.getD (y/4) false=false->q=3):=by
   cases e:vv.getD (y/4) false with
   |true=>
    rw [d2,e,zzJ rfl] at aZ;exact ⟨4, .inr rfl,qi EF (by rw [d2];exact aZ),fun _=>rfl,fun h=>(by cases h)⟩
   |false=>
    rw [d2,e,zzI (by decide)] at aZ;have h1: ¬(y:Int)% 2=0:=fun h=>hc ⟨e,h⟩;exact ⟨3, .inl rfl,AM EF (by rw [d2,aZ,m2];omega),fun h=>(by cases h),fun _=>rfl⟩
  obtain ⟨q,hq,As,hq4,GY⟩:=As;have K3:=hM.step hD aA (x:=(1,S.mk' (aM y) q,(ak s m).nx (aM y))) (by rw [As];exact .head _);rw [vB] at K3;have Av:DS s.length (vv.set (y/4) true) (S.mk' (aM y) q):=fun a ha qy=>by
   have HA:a≠aM y:=fun e=>by rw [e,l9] at qy;cases qy
   rw [dZ S HA] at qy;by_cases e:a/2=aM y/2
   ·have tq:(S.mk' (aM y) q).st (a/2)=q:=by rw [e];exact bQ _ _ _
    rw [tq,e,d2,nY (by omega),zzJ rfl];cases e':vv.getD (y/4) false with
    |false=>exact GY e'
    |true=>
     have f:=hM.inv (aM y) EF;unfold Fit at f;rw [aZ,d2,e',zzJ rfl,aP.i3,Ps] at f
     have:a=co (aM y):=(kj e).resolve_left HA
     rw [<-this,qy] at f;exact absurd f.2 (by decide)
   ·have tq:(S.mk' (aM y) q).st (a/2)=S.st (a/2):=bG _ _ e;rw [tq,nZ (by omega)];exact hS a ha qy
  obtain ⟨S1,k1,k2,k3,k4,k5,k6,k7,k8⟩:=Vn hx ho hk K d (j+1) (S.mk' (aM y) q) (vv.set (y/4) true) zQ (by omega) (by omega) K3 Av (by rw [List.length_set];exact hl) hb;refine ⟨S1,?_,k2,k3,k4,k5,k6,k7,fun a=>?_⟩
  ·rw [fA (oB aA) Ps,As,sN,vB,k1]
  ·rw [k8];by_cases e:a=aM y
   ·subst e;rw [l9];exact ⟨fun _=> .inr ⟨j,zzA _,xG,by rw [hy];rfl⟩,fun _=> .inl rfl⟩
   ·rw [dZ S e];constructor
    ·rintro (h|⟨i,h1,h2,h3⟩)
     ·exact .inl h
     ·exact .inr ⟨i,by omega,h2,h3⟩
    ·rintro (h|⟨i,h1,h2,h3⟩)
     ·exact .inl h
     ·by_cases kB:i=j
      ·subst kB;rw [hy] at h3;exact absurd h3 e
      ·exact .inr ⟨i,by omega,h2,h3⟩
omit v in
theorem NA (k:Nat) (h:0<k):List.range k=0::List.range' 1 (k-1):=by
 rw [List.range_eq_range'];obtain ⟨j,rfl⟩: ∃j,k=j+1:=⟨k-1,by omega⟩;rw [List.range'_succ];rfl
theorem Vv (X:Int->Int->Nat->Int) (hd:Nat->Nat) (YH: ∀t,t<(dr s m).length-> ∃x:Nat,x<4*s.length/\aj s (x:Int)=true/\jb s m t=af (aS m) m.length x/\hd t=aM x): ∀(d t:Nat) (S:WS) (vv:List Bool),t+d=(dr s m).length->Bd (ak s m) S->DS s.length vv S->vv.length=s.length->
  (∀a,a<2*s.length->(S.ae a=true↔ ∃t',t'<t/\((aH (ak s m) a:Nat):Int)∈jb s m t'))->uo vv ((dr s m).drop t)=none->
  run X (ak s m) ((List.range' t d).map hd++List.range (2*s.length)) S=X S.i S.j (S.k+d)
 |0,t,S,vv,ht,hB,hS,hl,hv,hb=>by
  show run X (ak s m) (List.range (2*s.length)) S=_;refine Jy _ _ fun a ha=>?_;have cG:=List.mem_range.1 ha;obtain ⟨t',h1,h2⟩:=Oy v (qk (D:=ak s m) cG) (yW v.sg cG).2;exact (hv a cG).2 ⟨t',by omega,h2⟩
 |d+1,t,S,vv,ht,hB,hS,hl,hv,hb=>by
  have GO:t<(dr s m).length:=by omega
  obtain ⟨x,hx,ho,GH,hxd⟩:=YH t GO;have hD:=nO v;obtain ⟨o1,o2,o3,o4,o5,o6,k,hk,YB⟩:=u4 v hx;have tA:aM x<2*s.length:=by unfold aM;omega
  have tx:=(wP (m:=m) v.sg hx).2 ho;have wc:S.ae (aM x)=false:=by
   cases e:S.ae (aM x) with
   |false=>rfl
   |true=>
    obtain ⟨t',h1,h2⟩:=(hv _ tA).1 e;rw [<-tx] at h2
    have:=y8s v (by omega) GO h2 (by rw [GH];exact o5)
    omega
  have KT:(dr s m).drop t=jb s m t::(dr s m).drop (t+1):=by
   rw [List.drop_eq_getElem_cons GO];congr 1;simp [jb,GO]
  rw [KT] at hb;simp only [uo] at hb;cases pg:dG vv (jb s m t) with
  |mk o zQ=>
   rw [pg] at hb;cases o with
   |some c=>cases hb
   |none=>
    simp only at hb;rw [GH,YB] at pg;unfold its at pg;rw [NA k hk.pos,List.map_cons] at pg;simp only [dG] at pg;have ex:((it (aS m) 0 (x:Int))/4).toNat=x/4:=by show ((x:Int)/4).toNat=_;omega
    have ex2:it (aS m) 0 (x:Int)=x:=rfl;rw [ex,ex2] at pg;have d2:aM x/2=x/4:=by unfold aM;omega
    have m2:aM x % 2=x % 2:=by unfold aM;omega
    by_cases hc:vv.getD (x/4) false=false/\(x:Int)% 2=0
    ·rw [zzJ hc] at pg
     have:=(Prod.mk.inj pg).1
     cases this
    rw [zzI hc] at pg;have aZ:=hS _ tA wc;have As: ∃q,br (ak s m) S.cr (aM x)=[(1,S.cr.mk' (aM x) q,(ak s m).nx (aM x))]/\(vv.getD (x/4) false=true->q=4)/\(vv.getD (x/4) false=false->q=3):=by
     cases e:vv.getD (x/4) false with
     |true=>
      rw [d2,e,zzJ rfl] at aZ;exact ⟨4,qi tA (by rw [d2];exact aZ),fun _=>rfl,fun h=>(by cases h)⟩
     |false=>
      rw [d2,e,zzI (by decide)] at aZ;have h1: ¬(x:Int)% 2=0:=fun h=>hc ⟨e,h⟩;exact ⟨3,AM tA (by rw [d2];show S.st (x/4)=_;rw [aZ,m2];omega),fun h=>(by cases h),fun _=>rfl⟩
    obtain ⟨q,As,hq4,GY⟩:=As;have vB:(ak s m).nx (aM x)=aM (it (aS m) 1 x).toNat:=by rw [WJ v hx ho];rfl
    have hM:=hB.cr.start hD wc (x:=(1,S.cr.mk' (aM x) q,(ak s m).nx (aM x))) (by rw [As];exact .head _);rw [vB] at hM;have Av:DS s.length (vv.set (x/4) true) (S.cr.mk' (aM x) q):=fun a ha qy=>by
     have HA:a≠aM x:=fun e=>by rw [e,l9] at qy;cases qy
     rw [dZ _ HA] at qy;by_cases e:a/2=aM x/2
     ·have tq:(S.cr.mk' (aM x) q).st (a/2)=q:=by rw [e];exact bQ _ _ _
      rw [tq,e,d2,nY (by omega),zzJ rfl];cases e':vv.getD (x/4) false with
      |false=>exact GY e'
      |true=>
       have f:=hB (aM x) tA;unfold Fit at f;rw [aZ,d2,e',zzJ rfl,aP.i3,wc] at f
       have:a=co (aM x):=(kj e).resolve_left HA
       rw [<-this] at f;have Pv:S.ae a=false:=qy;rw [Pv] at f;exact absurd f.2 (by decide)
     ·have tq:(S.cr.mk' (aM x) q).st (a/2)=S.st (a/2):=bG _ _ e;rw [tq,nZ (by omega)];exact hS a ha qy
    obtain ⟨S1,k1,k2,k3,k4,k5,k6,k7,k8⟩:=Vn v hx ho hk (run X (ak s m) ((List.range' (t+1) d).map hd++List.range (2*s.length))) (k-1) 1 (S.cr.mk' (aM x) q) (vv.set (x/4) true) zQ (by have:=hk.pos;omega) (by omega) hM Av (by rw [List.length_set];exact hl) pg;have hv1: ∀a,a<2*s.length->(S1.ae a=true↔ ∃t',t'<t+1/\((aH (ak s m) a:Nat):Int)∈jb s m t'):=fun a ha=>by
     rw [k8];have ho2:=(yW (m:=m) v.sg ha).2;have inK:((aH (ak s m) a:Nat):Int)∈jb s m t↔ ∃i,i<k/\a=aM (it (aS m) i x).toNat:=by
      rw [GH,YB,Fk];constructor
      ·rintro ⟨i,h1,h2⟩;exact ⟨i,h1,by rw [h2,zzC,D7]⟩
      ·rintro ⟨i,h1,h2⟩;refine ⟨i,h1,?_⟩;have hR:=o2 _ ((o1 _).2 ⟨i,rfl⟩);obtain ⟨y,hy⟩: ∃y:Nat,it (aS m) i x=y:=⟨(it (aS m) i x).toNat,by unfold av at hR;omega⟩;have qx:y<4*s.length:=by unfold av at hR;omega
       have zg:aj s (y:Int)=true:=by rw [<-hy,Fc v hx i];exact ho
       rw [h2,hy,zzC,<-(wP (m:=m) v.sg qx).2 zg]
     have sU:(S.cr.mk' (aM x) q).ae a=true↔S.ae a=true\/a=aM x:=by
      by_cases e:a=aM x
      ·subst e;rw [l9];simp
      ·rw [dZ _ e];show S.ae a=true↔_;simp [e]
     rw [sU,hv a ha];constructor
     ·rintro ((⟨t',h1,h2⟩|h)|⟨i,h1,h2,h3⟩)
      ·exact ⟨t',by omega,h2⟩
      ·exact ⟨t,by omega,inK.2 ⟨0,hk.pos,h⟩⟩
      ·exact ⟨t,by omega,inK.2 ⟨i,h2,h3⟩⟩
     ·rintro ⟨t',h1,h2⟩;by_cases e:t'=t
      ·subst e;obtain ⟨i,h3,h4⟩:=inK.1 h2;by_cases h0:i=0
       ·subst h0;exact .inl (.inr h4)
       ·exact .inr ⟨i,by omega,h3,h4⟩
      ·exact .inl (.inl ⟨t',by omega,h2⟩)
    have ih:=Vv X hd YH d (t+1) S1 zQ (by omega) k2 k3 k4 hv1 hb;rw [List.range'_succ,List.map_cons,hxd];show (if S.ae (aM x)=true then _ else aY (ak s m) S.cr (aM x) (run X (ak s m) ((List.range' (t+1) d).map hd++List.range (2*s.length))))=_;rw [zzI (by simp [wc])];unfold aY;rw [As,sN,vB,k1,ih,k5,k6,k7];show X S.i S.j (S.k+1+d)=_;congr 1;omega
omit v in
theorem y8t {X:Int->Int->Nat->Int} (hX:Good X) (hv:bf s m L=true) (hb:nJ s m=none):HF X s m L=X 0 0 (L.toNat+(dr s m).length):=by
 have v:=bV hv;have hex: ∀t,∃x:Nat,t<(dr s m).length->x<4*s.length/\aj s (x:Int)=true/\jb s m t=af (aS m) m.length x:=fun t=>by
  by_cases h:t<(dr s m).length
  ·obtain ⟨x,h1,h2,_,h3⟩:=I4 v h;exact ⟨x,fun _=>⟨h1,h2,h3⟩⟩
  ·exact ⟨0,fun h'=>absurd h' h⟩
 obtain ⟨hx,KE⟩:=Classical.axiomOfChoice hex
 have h:=Vv v X (fun t=>aM (hx t)) (fun t ht=>⟨hx t,(KE t ht).1,(KE t ht).2.1,(KE t ht).2.2,rfl⟩) (dr s m).length 0 (Z0 (fun _=>1) L.toNat) (List.replicate s.length false) (by omega) (vM _ (fun _=> .inl (zzA _)) _)
  (fun a _ _=>by
   show 1=_;rw [zzI];simp [zzB,List.getElem?_replicate]
   split<;>simp) (by simp) (fun a _=>⟨fun h=>(by cases h),fun ⟨t',h1,_⟩=>(by omega)⟩) (by rw [List.drop_zero];exact hb)
 unfold HF;rw [<-show run X (ak s m) (List.map (fun t=>aM (hx t)) (List.range' 0 (dr s m).length)++List.range (2*s.length)) (Z0 (fun _=>1) L.toNat)=X 0 0 (L.toNat+(dr s m).length) from h];refine ord (nO v) (AY hv) hX (vM _ (fun _=> .inl (zzA _)) _) (wI (ak s m) _ _) ⟨fun a ha=>?_,fun a ha _=>List.mem_append_right _ (List.mem_range.2 ha)⟩;rcases List.mem_append.1 ha with h|h
 ·obtain ⟨t,ht,rfl⟩:=List.mem_map.1 h
  have:=(KE t (by simpa [List.mem_range'] using ht)).1
  show aM (hx t)<2*s.length;unfold aM;omega
 ·exact List.mem_range.1 h
end
end Hs
namespace Hs
structure x8 (D D1 D2:Sh) (xo yo:Nat):Prop where
 n:D.n=D1.n+D2.n
 sg1: ∀c,c<D1.n->D.sg c=D1.sg c
 sg2: ∀c,c<D2.n->D.sg (D1.n+c)=D2.sg c
 nx1: ∀a,a<2*D1.n->a≠xo->D.nx a=D1.nx a
 nx2: ∀a,a<2*D2.n->a≠yo->D.nx (2*D1.n+a)=2*D1.n+D2.nx a
 nxx:xo<2*D1.n->D.nx xo=2*D1.n+D2.nx yo
 Gl:yo<2*D2.n->D.nx (2*D1.n+yo)=D1.nx xo
 both:xo<2*D1.n↔yo<2*D2.n
structure Mg (n1:Nat) (S S1 S2:WS):Prop where
 st1: ∀c,c<n1->S.st c=S1.st c
 st2: ∀c,S.st (n1+c)=S2.st c
 vis1: ∀a,a<2*n1->S.ae a=S1.ae a
 vis2: ∀a,S.ae (2*n1+a)=S2.ae a
 i:S.i=S1.i+S2.i
 j:S.j=S1.j+S2.j
 k:S.k=S1.k+S2.k
section
variable {n1:Nat} {S S1 S2:WS}
theorem Mg.p6 (h:Mg n1 S S1 S2) {a:Nat} (ha:a<2*n1) (v:Nat):Mg n1 (S.mk' a v) (S1.mk' a v) S2:=by
 refine ⟨fun c hc=>?_,fun c=>?_,fun b hb=>?_,fun b=>?_,h.i,h.j,h.k⟩
 ·show aR S.st (a/2) v c=aR S1.st (a/2) v c;unfold aR;split
  ·rfl
  ·exact h.st1 c hc
 ·show aR S.st (a/2) v (n1+c)=_;rw [bG _ _ (by omega)];exact h.st2 c
 ·show aR S.ae a true b=aR S1.ae a true b;unfold aR;split
  ·rfl
  ·exact h.vis1 b hb
 ·show aR S.ae a true (2*n1+b)=_;rw [bG _ _ (by omega)];exact h.vis2 b
theorem Mg.Cn (h:Mg n1 S S1 S2) (u v:Int):Mg n1 (S.sc u v) (S1.sc u v) S2:=
 ⟨h.st1,h.st2,h.vis1,h.vis2,by show S.i+u=S1.i+u+S2.i;rw [h.i];omega,by show S.j+v=S1.j+v+S2.j;rw [h.j];omega,h.k⟩
theorem Mg.Ze (h:Mg n1 S S1 S2):Mg n1 S.cr S1.cr S2:=⟨h.st1,h.st2,h.vis1,h.vis2,h.i,h.j,by show S.k+1=S1.k+1+S2.k;rw [h.k];omega⟩
theorem Mg.Bm (h:Mg n1 S S1 S2) (a v:Nat):Mg n1 (S.mk' (2*n1+a) v) S1 (S2.mk' a v):=by
 have e:(2*n1+a)/2=n1+a/2:=by omega
 refine ⟨fun c hc=>?_,fun c=>?_,fun b hb=>?_,fun b=>?_,h.i,h.j,h.k⟩
 ·show aR S.st ((2*n1+a)/2) v c=_;rw [bG _ _ (by omega)];exact h.st1 c hc
 ·show aR S.st ((2*n1+a)/2) v (n1+c)=aR S2.st (a/2) v c;rw [e];by_cases hc:c=a/2
  ·rw [hc,bQ,bQ]
  ·rw [bG _ _ hc,bG _ _ (by omega)];exact h.st2 c
 ·show aR S.ae (2*n1+a) true b=_;rw [bG _ _ (by omega)];exact h.vis1 b hb
 ·show aR S.ae (2*n1+a) true (2*n1+b)=aR S2.ae a true b;by_cases hb:b=a
  ·rw [hb,bQ,bQ]
  ·rw [bG _ _ hb,bG _ _ (by omega)];exact h.vis2 b
theorem Mg.El (h:Mg n1 S S1 S2) (u v:Int):Mg n1 (S.sc u v) S1 (S2.sc u v):=
 ⟨h.st1,h.st2,h.vis1,h.vis2,by show S.i+u=S1.i+(S2.i+u);rw [h.i];omega,by show S.j+v=S1.j+(S2.j+v);rw [h.j];omega,h.k⟩
theorem Mg.cr2 (h:Mg n1 S S1 S2):Mg n1 S.cr S1 S2.cr:=⟨h.st1,h.st2,h.vis1,h.vis2,h.i,h.j,by show S.k+1=S1.k+(S2.k+1);rw [h.k];omega⟩
end
section
variable {D D1 D2:Sh} {xo yo:Nat}
theorem Jr (T:x8 D D1 D2 xo yo) {S S1 S2:WS} (h:Mg D1.n S S1 S2) {a:Nat} (ha:a<2*D1.n):
  BR (fun S b S1 b1=>Mg D1.n S S1 S2/\ ∃o,o<2*D1.n/\b=D.nx o/\b1=D1.nx o) (br D S a) (br D1 S1 a):=by
 have aZ:S.st (a/2)=S1.st (a/2):=h.st1 _ (by omega);have oe: ∀q,dS D q (a/2)=dS D1 q (a/2):=fun q=>by unfold dS;rw [T.sg1 _ (by omega)]
 unfold br;rw [zzI (show¬2*D.n<=a by have:=T.n;omega),zzI (show¬2*D1.n<=a by omega),aZ,oe]
 split
 ·exact .cons ⟨h.p6 ha _,_,fj ha,rfl,rfl⟩ .nil
 split
 ·exact .cons ⟨h.p6 ha _,_,ha,rfl,rfl⟩ .nil
 split
 ·exact .cons ⟨h.p6 ha _,_,fj ha,rfl,rfl⟩ .nil
 split
 ·exact .cons ⟨h.p6 ha _,_,ha,rfl,rfl⟩ .nil
 split
 ·exact .cons ⟨(h.p6 ha _).Cn _ _,_,ha,rfl,rfl⟩ (.cons ⟨(h.p6 ha _).Cn _ _,_,fj ha,rfl,rfl⟩ .nil)
 ·exact .nil
theorem Ox (n a:Nat):co (2*n+a)=2*n+co a:=by
 unfold co;by_cases h:a % 2=0
 ·rw [zzJ h,zzJ (by omega)];omega
 ·rw [zzI h,zzI (by omega)];omega
theorem Jq (T:x8 D D1 D2 xo yo) {S S1 S2:WS} (h:Mg D1.n S S1 S2) {a:Nat} (ha:a<2*D2.n):
  BR (fun S b S2 b2=>Mg D1.n S S1 S2/\ ∃o,o<2*D2.n/\b=D.nx (2*D1.n+o)/\b2=D2.nx o) (br D S (2*D1.n+a)) (br D2 S2 a):=by
 have e:(2*D1.n+a)/2=D1.n+a/2:=by omega
 have e2:(2*D1.n+a)% 2=a % 2:=by omega
 have aZ:S.st ((2*D1.n+a)/2)=S2.st (a/2):=by rw [e];exact h.st2 _
 have oe: ∀q,dS D q ((2*D1.n+a)/2)=dS D2 q (a/2):=fun q=>by unfold dS;rw [e,T.sg2 _ (by omega)]
 unfold br;rw [zzI (show¬2*D.n<=2*D1.n+a by have:=T.n;omega),zzI (show¬2*D2.n<=a by omega),aZ,oe,e2,Ox]
 split
 ·exact .cons ⟨h.Bm a _,_,fj ha,rfl,rfl⟩ .nil
 split
 ·exact .cons ⟨h.Bm a _,_,ha,rfl,rfl⟩ .nil
 split
 ·exact .cons ⟨h.Bm a _,_,fj ha,rfl,rfl⟩ .nil
 split
 ·exact .cons ⟨h.Bm a _,_,ha,rfl,rfl⟩ .nil
 split
 ·exact .cons ⟨(h.Bm a _).El _ _,_,ha,rfl,rfl⟩ (.cons ⟨(h.Bm a _).El _ _,_,fj ha,rfl,rfl⟩ .nil)
 ·exact .nil
theorem yY {D:Sh} {S:WS} {b c:Nat} {x:Int×WS×Nat} (hx:x∈br D S b) (h:S.ae c=true):x.2.1.ae c=true:=by
 rw [(s8 hx).2];unfold aR;split
 ·rfl
 ·exact h
theorem y8u (h1:Ok D1) (h2:Ok D2) (T:x8 D D1 D2 xo yo) {S S1 S2:WS} (h:Mg D1.n S S1 S2) {a:Nat} (ha:a<2*D1.n) (hv:S1.ae a=false) (hx:xo<2*D1.n->S.ae (2*D1.n+D2.nx yo)=true/\S1.ae (D1.nx xo)=true) {k k1:WS->Int}
  (hk: ∀T T1,Mg D1.n T T1 S2->(xo<2*D1.n->T.ae (2*D1.n+D2.nx yo)=true/\T1.ae (D1.nx xo)=true)->k T=k1 T1):aY D S a k=aY D1 S1 a k1:=by
 have aA:xo<2*D1.n->a≠D1.nx xo:=fun kO e=>by rw [e,(hx kO).2] at hv;cases hv
 unfold aY;have main: ∀T b T1 b1,(Mg D1.n T T1 S2/\ ∃o,o<2*D1.n/\b=D.nx o/\b1=D1.nx o)->(xo<2*D1.n->T.ae (2*D1.n+D2.nx yo)=true/\T1.ae (D1.nx xo)=true)->W D (b9 a) T b (fun S _=>k S)=W D1 (b9 a) T1 b1 fun S _=>k1 S:=fun T0 b T1 b1 hR hX=>by
  refine rh (fun T b T1 b1=>(Mg D1.n T T1 S2/\ ∃o,o<2*D1.n/\b=D.nx o/\b1=D1.nx o)/\(xo<2*D1.n->T.ae (2*D1.n+D2.nx yo)=true/\T1.ae (D1.nx xo)=true)) ?_ _ _ _ _ ⟨hR,hX⟩;intro T' b T1 b1 ⟨⟨hM,o,ho,e1,e2⟩,hX⟩;by_cases tx:o=xo
  ·--the exchanged edge is never reached
   have kO:xo<2*D1.n:=tx▸ho;rw [tx] at e1 e2;rw [T.nxx kO] at e1;have n1:b≠a:=by omega
   have n2:b1≠a:=by rw [e2];exact Ne.symm (aA kO)
   rw [oB n1,oB n2];refine ⟨rfl,fun h=>(by cases h),fun _=>⟨?_,fun km=>?_⟩⟩
   ·rw [e1,e2,(hX kO).1,(hX kO).2]
   ·rw [e1,(hX kO).1] at km;cases km
  ·rw [T.nx1 o ho tx] at e1;have tC:=h1.lt o ho;subst e1 e2;refine ⟨rfl,fun _=>hk _ _ hM hX,fun _=>⟨hM.vis1 _ tC,fun km=>?_⟩⟩;have hB:=Jr T hM tC
   have: ∀{l l1:List (Int×WS×Nat)},BR (fun S b S1 b1=>Mg D1.n S S1 S2/\ ∃o,o<2*D1.n/\b=D.nx o/\b1=D1.nx o) l l1->(∀y∈l,∀c,T'.ae c=true->y.2.1.ae c=true)->(∀y∈l1,∀c,T1.ae c=true->y.2.1.ae c=true)->BR (fun T b T1 b1=>(Mg D1.n T T1 S2/\ ∃o,o<2*D1.n/\b=D.nx o/\b1=D1.nx o)/\(xo<2*D1.n->T.ae (2*D1.n+D2.nx yo)=true/\T1.ae (D1.nx xo)=true)) l l1:=fun hb=>by
    induction hb with
    |nil=>intro _ _;exact .nil
    |cons hr _ ih=>intro q1 q2;exact .cons ⟨hr,fun kO=>⟨q1 _ (.head _) _ (hX kO).1,q2 _ (.head _) _ (hX kO).2⟩⟩ (ih (fun y hy=>q1 y (.tail _ hy)) fun y hy=>q2 y (.tail _ hy))
   exact this hB (fun y hy c hc=>yY hy hc) fun y hy c hc=>yY hy hc
 have hB:=Jr T h ha
 have: ∀{l l1:List (Int×WS×Nat)},BR (fun S b S1 b1=>Mg D1.n S S1 S2/\ ∃o,o<2*D1.n/\b=D.nx o/\b1=D1.nx o) l l1->(∀y∈l,∀c,S.ae c=true->y.2.1.ae c=true)->(∀y∈l1,∀c,S1.ae c=true->y.2.1.ae c=true)->(sumB l fun S' b=>W D (b9 a) S' b fun S _=>k S)=sumB l1 fun S' b=>W D1 (b9 a) S' b fun S _=>k1 S:=fun hb=>by
  induction hb with
  |nil=>intro _ _;rfl
  |cons hr _ ih=>
   intro q1 q2;simp only [sumB];rw [main _ _ _ _ hr fun kO=>⟨q1 _ (.head _) _ (hx kO).1,q2 _ (.head _) _ (hx kO).2⟩,ih (fun y hy=>q1 y (.tail _ hy)) fun y hy=>q2 y (.tail _ hy)]
 exact this hB (fun y hy c hc=>yY hy hc) fun y hy c hc=>yY hy hc
theorem y8v (h1:Ok D1) (h2:Ok D2) (T:x8 D D1 D2 xo yo) {S S1 S2:WS} (h:Mg D1.n S S1 S2) {a:Nat} (ha:a<2*D2.n) (hv:S2.ae a=false) (hx:yo<2*D2.n->S.ae (D1.nx xo)=true/\S2.ae (D2.nx yo)=true) {k k2:WS->Int}
  (hk: ∀T T2,Mg D1.n T S1 T2->(yo<2*D2.n->T.ae (D1.nx xo)=true/\T2.ae (D2.nx yo)=true)->k T=k2 T2):aY D S (2*D1.n+a) k=aY D2 S2 a k2:=by
 have aA:yo<2*D2.n->a≠D2.nx yo:=fun kO e=>by rw [e,(hx kO).2] at hv;cases hv
 unfold aY;have main: ∀T b T2 b2,(Mg D1.n T S1 T2/\ ∃o,o<2*D2.n/\b=D.nx (2*D1.n+o)/\b2=D2.nx o)->(yo<2*D2.n->T.ae (D1.nx xo)=true/\T2.ae (D2.nx yo)=true)->W D (b9 (2*D1.n+a)) T b (fun S _=>k S)=W D2 (b9 a) T2 b2 fun S _=>k2 S:=fun T0 b T2 b2 hR hX=>by
  refine rh (fun T b T2 b2=>(Mg D1.n T S1 T2/\ ∃o,o<2*D2.n/\b=D.nx (2*D1.n+o)/\b2=D2.nx o)/\(yo<2*D2.n->T.ae (D1.nx xo)=true/\T2.ae (D2.nx yo)=true)) ?_ _ _ _ _ ⟨hR,hX⟩;intro T' b T2 b2 ⟨⟨hM,o,ho,e1,e2⟩,hX⟩;by_cases tx:o=yo
  ·have kO:yo<2*D2.n:=tx▸ho;rw [tx] at e1 e2;rw [T.Gl kO] at e1;have hl:=h1.lt xo (T.both.2 kO);have n1:b≠2*D1.n+a:=by omega
   have n2:b2≠a:=by rw [e2];exact Ne.symm (aA kO)
   rw [oB n1,oB n2];refine ⟨rfl,fun h=>(by cases h),fun _=>⟨?_,fun km=>?_⟩⟩
   ·rw [e1,e2,(hX kO).1,(hX kO).2]
   ·rw [e1,(hX kO).1] at km;cases km
  ·rw [T.nx2 o ho tx] at e1;have tC:=h2.lt o ho;subst e1 e2;have es:b9 (2*D1.n+a) (2*D1.n+D2.nx o)=b9 a (D2.nx o):=by
    unfold b9;rw [Bool.eq_iff_iff,beq_iff_eq,beq_iff_eq];omega
   refine ⟨es,fun _=>hk _ _ hM hX,fun _=>⟨hM.vis2 _,fun km=>?_⟩⟩;have hB:=Jq T hM tC
   have: ∀{l l1:List (Int×WS×Nat)},BR (fun S b S2 b2=>Mg D1.n S S1 S2/\ ∃o,o<2*D2.n/\b=D.nx (2*D1.n+o)/\b2=D2.nx o) l l1->(∀y∈l,∀c,T'.ae c=true->y.2.1.ae c=true)->(∀y∈l1,∀c,T2.ae c=true->y.2.1.ae c=true)->BR (fun T b T2 b2=>(Mg D1.n T S1 T2/\ ∃o,o<2*D2.n/\b=D.nx (2*D1.n+o)/\b2=D2.nx o)/\(yo<2*D2.n->T.ae (D1.nx xo)=true/\T2.ae (D2.nx yo)=true)) l l1:=fun hb=>by
    induction hb with
    |nil=>intro _ _;exact .nil
    |cons hr _ ih=>intro q1 q2;exact .cons ⟨hr,fun kO=>⟨q1 _ (.head _) _ (hX kO).1,q2 _ (.head _) _ (hX kO).2⟩⟩ (ih (fun y hy=>q1 y (.tail _ hy)) fun y hy=>q2 y (.tail _ hy))
   exact this hB (fun y hy c hc=>yY hy hc) fun y hy c hc=>yY hy hc
 have hB:=Jq T h ha
 have: ∀{l l1:List (Int×WS×Nat)},BR (fun S b S2 b2=>Mg D1.n S S1 S2/\ ∃o,o<2*D2.n/\b=D.nx (2*D1.n+o)/\b2=D2.nx o) l l1->(∀y∈l,∀c,S.ae c=true->y.2.1.ae c=true)->(∀y∈l1,∀c,S2.ae c=true->y.2.1.ae c=true)->(sumB l fun S' b=>W D (b9 (2*D1.n+a)) S' b fun S _=>k S)=sumB l1 fun S' b=>W D2 (b9 a) S' b fun S _=>k2 S:=fun hb=>by
  induction hb with
  |nil=>intro _ _;rfl
  |cons hr _ ih=>
   intro q1 q2;simp only [sumB];rw [main _ _ _ _ hr fun kO=>⟨q1 _ (.head _) _ (hx kO).1,q2 _ (.head _) _ (hx kO).2⟩,ih (fun y hy=>q1 y (.tail _ hy)) fun y hy=>q2 y (.tail _ hy)]
 exact this hB (fun y hy c hc=>yY hy hc) fun y hy c hc=>yY hy hc
theorem y8w (h1:Ok D1) (h2:Ok D2) (T:x8 D D1 D2 xo yo) (hx:xo<2*D1.n) {S S1 S2:WS} (h:Mg D1.n S S1 S2) (hv2:S2.ae (D2.nx yo)=false) {k:WS->Int} {k1:WS->WS->Int} (hk: ∀T T1 T2,Mg D1.n T T1 T2->T1.ae (D1.nx xo)=true->T2.ae (D2.nx yo)=true->k T=k1 T1 T2):
  aY D S (D1.nx xo) k=aY D1 S1 (D1.nx xo) fun T1=>aY D2 S2 (D2.nx yo) fun T2=>k1 T1 T2:=by
 have hy:=T.both.1 hx;have l1:=h1.lt xo hx;have l2:=h2.lt yo hy;have second: ∀T0 T1,Mg D1.n T0 T1 S2->T1.ae (D1.nx xo)=true->W D (b9 (D1.nx xo)) T0 (2*D1.n+D2.nx yo) (fun S _=>k S)=aY D2 S2 (D2.nx yo) fun T2=>k1 T1 T2:=fun T0 T1 hM hv1=>by
  rw [fA (oB (by omega)) (by rw [hM.vis2];exact hv2)];unfold aY;have main: ∀T b T2 b2,(Mg D1.n T T1 T2/\ ∃o,o<2*D2.n/\b=D.nx (2*D1.n+o)/\b2=D2.nx o)->T2.ae (D2.nx yo)=true->W D (b9 (D1.nx xo)) T b (fun S _=>k S)=W D2 (b9 (D2.nx yo)) T2 b2 fun T2 _=>k1 T1 T2:=fun T' b T2 b2 hR hv=>by
   refine rh (fun T b T2 b2=>(Mg D1.n T T1 T2/\ ∃o,o<2*D2.n/\b=D.nx (2*D1.n+o)/\b2=D2.nx o)/\T2.ae (D2.nx yo)=true) ?_ _ _ _ _ ⟨hR,hv⟩;intro T' b T2 b2 ⟨⟨hM,o,ho,e1,e2⟩,hv⟩;by_cases hoy:o=yo
   ·rw [hoy] at e1 e2;rw [T.Gl hy] at e1;subst e1 e2;rw [iX,iX];exact ⟨rfl,fun _=>hk _ _ _ hM hv1 hv,fun h=>(by cases h)⟩
   ·rw [T.nx2 o ho hoy] at e1;have tC:=h2.lt o ho;subst e1 e2;rw [oB (show 2*D1.n+D2.nx o≠D1.nx xo by omega),oB (fun e=>hoy (h2.inj _ _ ho hy e))];refine ⟨rfl,fun h=>(by cases h),fun _=>⟨hM.vis2 _,fun _=>?_⟩⟩;have hB:=Jq T hM tC
    have: ∀{l l1:List (Int×WS×Nat)},BR (fun S b S2 b2=>Mg D1.n S T1 S2/\ ∃o,o<2*D2.n/\b=D.nx (2*D1.n+o)/\b2=D2.nx o) l l1->(∀y∈l1,y.2.1.ae (D2.nx yo)=true)->BR (fun T b T2 b2=>(Mg D1.n T T1 T2/\ ∃o,o<2*D2.n/\b=D.nx (2*D1.n+o)/\b2=D2.nx o)/\T2.ae (D2.nx yo)=true) l l1:=fun hb=>by
     induction hb with
     |nil=>intro _;exact .nil
     |cons hr _ ih=>intro q2;exact .cons ⟨hr,q2 _ (.head _)⟩ (ih fun y hy=>q2 y (.tail _ hy))
    exact this hB fun y hy=>yY hy hv
  have hB:=Jq T hM l2
  have: ∀{l l1:List (Int×WS×Nat)},BR (fun S b S2 b2=>Mg D1.n S T1 S2/\ ∃o,o<2*D2.n/\b=D.nx (2*D1.n+o)/\b2=D2.nx o) l l1->(∀y∈l1,y.2.1.ae (D2.nx yo)=true)->(sumB l fun S' b=>W D (b9 (D1.nx xo)) S' b fun S _=>k S)=sumB l1 fun S' b=>W D2 (b9 (D2.nx yo)) S' b fun T2 _=>k1 T1 T2:=fun hb=>by
   induction hb with
   |nil=>intro _;rfl
   |cons hr _ ih=>
    intro q2;simp only [sumB];rw [main _ _ _ _ hr (q2 _ (.head _)),ih fun y hy=>q2 y (.tail _ hy)]
  exact this hB fun y hy=>by rw [(s8 hy).2,bQ]
 have first: ∀T b T1 b1,(Mg D1.n T T1 S2/\ ∃o,o<2*D1.n/\b=D.nx o/\b1=D1.nx o)->T1.ae (D1.nx xo)=true->W D (b9 (D1.nx xo)) T b (fun S _=>k S)=W D1 (b9 (D1.nx xo)) T1 b1 fun T1 _=>aY D2 S2 (D2.nx yo) fun T2=>k1 T1 T2:=fun T' b T1 b1 hR hv=>by
  rw [I7 (s2:=b9 (D1.nx xo)) (s1:=fun z=>b9 (D1.nx xo) z||b9 (2*D1.n+D2.nx yo) z) (fun z hz=>by show (b9 (D1.nx xo) z||_)=true;rw [hz];rfl)];refine rh (fun T b T1 b1=>(Mg D1.n T T1 S2/\ ∃o,o<2*D1.n/\b=D.nx o/\b1=D1.nx o)/\T1.ae (D1.nx xo)=true) ?_ _ _ _ _ ⟨hR,hv⟩;intro T' b T1 b1 ⟨⟨hM,o,ho,e1,e2⟩,hv⟩;by_cases tx:o=xo
  ·rw [tx] at e1 e2;rw [T.nxx hx] at e1;subst e1 e2;have es:(b9 (D1.nx xo) (2*D1.n+D2.nx yo)||b9 (2*D1.n+D2.nx yo) (2*D1.n+D2.nx yo))=true:=by rw [iX,Bool.or_true]
   refine ⟨es.trans (iX _).symm,fun _=>second _ _ hM hv,fun h=>?_⟩;rw [es] at h;cases h
  ·rw [T.nx1 o ho tx] at e1;have tC:=h1.lt o ho;subst e1 e2;have n1:D1.nx o≠D1.nx xo:=fun e=>tx (h1.inj _ _ ho hx e);have es:(b9 (D1.nx xo) (D1.nx o)||b9 (2*D1.n+D2.nx yo) (D1.nx o))=false:=by rw [oB n1,oB (show D1.nx o≠2*D1.n+D2.nx yo by omega)];rfl
   refine ⟨es.trans (oB n1).symm,fun h=>?_,fun _=>⟨hM.vis1 _ tC,fun _=>?_⟩⟩
   ·rw [es] at h;cases h
   ·have hB:=Jr T hM tC
    have: ∀{l l1:List (Int×WS×Nat)},BR (fun S b S1 b1=>Mg D1.n S S1 S2/\ ∃o,o<2*D1.n/\b=D.nx o/\b1=D1.nx o) l l1->(∀y∈l1,y.2.1.ae (D1.nx xo)=true)->BR (fun T b T1 b1=>(Mg D1.n T T1 S2/\ ∃o,o<2*D1.n/\b=D.nx o/\b1=D1.nx o)/\T1.ae (D1.nx xo)=true) l l1:=fun hb=>by
     induction hb with
     |nil=>intro _;exact .nil
     |cons hr _ ih=>intro q2;exact .cons ⟨hr,q2 _ (.head _)⟩ (ih fun y hy=>q2 y (.tail _ hy))
    exact this hB fun y hy=>yY hy hv
 have hB:=Jr T h l1;unfold aY
 have: ∀{l l1:List (Int×WS×Nat)},BR (fun S b S1 b1=>Mg D1.n S S1 S2/\ ∃o,o<2*D1.n/\b=D.nx o/\b1=D1.nx o) l l1->(∀y∈l1,y.2.1.ae (D1.nx xo)=true)->(sumB l fun S' b=>W D (b9 (D1.nx xo)) S' b fun S _=>k S)=sumB l1 fun S' b=>W D1 (b9 (D1.nx xo)) S' b fun T1 _=>aY D2 S2 (D2.nx yo) fun T2=>k1 T1 T2:=fun hb=>by
  induction hb with
  |nil=>intro _;rfl
  |cons hr _ ih=>
   intro q2;simp only [sumB];rw [first _ _ _ _ hr (q2 _ (.head _)),ih fun y hy=>q2 y (.tail _ hy)]
 exact this hB fun y hy=>by rw [(s8 hy).2,bQ]
end
end Hs
namespace Hs
section
variable {D D1 D2:Sh} {xo yo:Nat}
structure tW {P:Type} (F:(P->Int)->Int):Prop where
 add: ∀f g,F (fun p=>f p+g p)=F f+F g
 mul: ∀(c:Int) f,F (fun p=>c*f p)=c*F f
theorem tW.zero {P:Type} {F:(P->Int)->Int} (h:tW F):F (fun _=>0)=0:=by
 have:=h.mul 0 (fun _=>0)
 rw [Int.zero_mul] at this;simpa using this
theorem tW.sumB {P:Type} {F:(P->Int)->Int} (h:tW F) {k:P->WS->Nat->Int}: ∀l:List (Int×WS×Nat),Hs.sumB l (fun S b=>F fun p=>k p S b)=F fun p=>Hs.sumB l (k p)
 |[]=>h.zero.symm
 |x::l=>by
  simp only [Hs.sumB];rw [tW.sumB h l,h.add,h.mul]
theorem tW.W {P:Type} {F:(P->Int)->Int} (h:tW F) (D:Sh) (stop:Nat->Bool) {k:P->WS->Nat->Int} (S:WS) (a:Nat):Hs.W D stop S a (fun S b=>F fun p=>k p S b)=F fun p=>Hs.W D stop S a (k p):=by
 have key: ∀f S a,Wf D stop f S a (fun S b=>F fun p=>k p S b)=F fun p=>Wf D stop f S a (k p):=fun f=>by
  induction f with
  |zero=>intro S a;exact h.zero.symm
  |succ f ih=>
   intro S a;simp only [Wf]
   split
   ·rfl
   split
   ·exact h.zero.symm
   ·rw [<-h.sumB];exact qm fun x _=>ih _ _
 exact key _ S a
theorem tW.aY {P:Type} {F:(P->Int)->Int} (h:tW F) (D:Sh) {k:P->WS->Int} (S:WS) (a:Nat):Hs.aY D S a (fun S=>F fun p=>k p S)=F fun p=>Hs.aY D S a (k p):=by
 unfold Hs.aY;rw [<-h.sumB];exact qm fun x _=>h.W D _ (k:=fun p S _=>k p S) _ _
theorem tW.run {P:Type} {F:(P->Int)->Int} (h:tW F) (D:Sh) {X:P->Int->Int->Nat->Int}: ∀(B:List Nat) (S:WS),Hs.run (fun i j k=>F fun p=>X p i j k) D B S=F fun p=>Hs.run (X p) D B S
 |[],S=>rfl
 |a::B,S=>by
  simp only [Hs.run];cases hv:S.ae a with
  |true=>simp only [if_true];exact tW.run h D B S
  |false=>
   simp only [Bool.false_eq_true,if_false];rw [<-h.aY];congr 1;funext S';exact tW.run h D B S'
theorem y8x (D:Sh) (S:WS) (a:Nat):tW (fun k:WS->Int=>Hs.aY D S a k):=⟨fun f g=>MA,fun c f=>Sm c⟩
theorem Ut (h1:Ok D1) (h2:Ok D2) (T:x8 D D1 D2 xo yo) (X:Int->Int->Nat->Int): ∀(L2:List Nat) (S S1 S2:WS),(∀a∈L2,a<2*D2.n)->Mg D1.n S S1 S2->(yo<2*D2.n->S.ae (D1.nx xo)=true/\S2.ae (D2.nx yo)=true)->
  run X D (L2.map fun a=>2*D1.n+a) S=run (fun i j k=>X (S1.i+i) (S1.j+j) (S1.k+k)) D2 L2 S2
 |[],S,S1,S2,_,h,_=>by show X _ _ _=X _ _ _;rw [h.i,h.j,h.k]
 |a::L2,S,S1,S2,hl,h,hx=>by
  have ha:=hl a (.head _);have ih:=fun S S2 h hx=>Ut h1 h2 T X L2 S S1 S2 (fun b hb=>hl b (.tail _ hb)) h hx;show (if S.ae (2*D1.n+a)=true then _ else aY D S.cr (2*D1.n+a) (run X D (L2.map fun a=>2*D1.n+a)))=if S2.ae a=true then _ else aY D2 S2.cr a _;rw [h.vis2];cases hv:S2.ae a with
  |true=>exact ih _ _ h hx
  |false=>
   simp only [Bool.false_eq_true,if_false];exact y8v h1 h2 T h.cr2 ha hv hx fun T' T2 hM hX=>ih T' T2 hM hX
theorem Nt (h1:Ok D1) (h2:Ok D2) (T:x8 D D1 D2 xo yo) (X:Int->Int->Nat->Int) (L2:List Nat) (sw: ∀a∈L2,a<2*D2.n): ∀(L1:List Nat) (S S1 S2:WS),(∀a∈L1,a<2*D1.n)->Mg D1.n S S1 S2->(xo<2*D1.n->S.ae (2*D1.n+D2.nx yo)=true/\S1.ae (D1.nx xo)=true)->
  run X D (L1++L2.map fun a=>2*D1.n+a) S=run (fun i j k=>run (fun i' j' k'=>X (i+i') (j+j') (k+k')) D2 L2 S2) D1 L1 S1
 |[],S,S1,S2,_,h,hx=>by
  refine Ut h1 h2 T X L2 S S1 S2 sw h fun hy=>?_;have kO:=T.both.2 hy;obtain ⟨k1,k2⟩:=hx kO;rw [h.vis2] at k1;exact ⟨by rw [h.vis1 _ (h1.lt _ kO)];exact k2,k1⟩
 |a::L1,S,S1,S2,hl,h,hx=>by
  have ha:=hl a (.head _);have ih:=fun S S1 h hx=>Nt h1 h2 T X L2 sw L1 S S1 S2 (fun b hb=>hl b (.tail _ hb)) h hx;show (if S.ae a=true then _ else aY D S.cr a (run X D (L1++L2.map fun a=>2*D1.n+a)))=if S1.ae a=true then _ else aY D1 S1.cr a _;rw [h.vis1 a ha];cases hv:S1.ae a with
  |true=>exact ih _ _ h hx
  |false=>
   simp only [Bool.false_eq_true,if_false];exact y8u h1 h2 T h.Ze ha hv hx fun T' T1 hM hX=>ih T' T1 hM hX
theorem Us (h1:Ok D1) (h2:Ok D2) (T:x8 D D1 D2 xo yo) (hx: ¬xo<2*D1.n) (X:Int->Int->Nat->Int) {L1 L2:List Nat} (ng: ∀a∈L1,a<2*D1.n) (sw: ∀a∈L2,a<2*D2.n) {S S1 S2:WS} (h:Mg D1.n S S1 S2):
  run X D (L1++L2.map fun a=>2*D1.n+a) S=run (fun i j k=>run (fun i' j' k'=>X (i+i') (j+j') (k+k')) D2 L2 S2) D1 L1 S1:=
 Nt h1 h2 T X L2 sw L1 S S1 S2 ng h fun h=>absurd h hx
theorem y8y (h1:Ok D1) (h2:Ok D2) (T:x8 D D1 D2 xo yo) (hx:xo<2*D1.n) (X:Int->Int->Nat->Int) {L1 L2:List Nat} (ng: ∀a∈L1,a<2*D1.n) (sw: ∀a∈L2,a<2*D2.n) {S S1 S2:WS} (h:Mg D1.n S S1 S2) (hv1:S1.ae (D1.nx xo)=false) (hv2:S2.ae (D2.nx yo)=false) (KZ:S1.i=0/\S1.j=0/\S1.k=0) (HE:S2.i=0/\S2.j=0):
  run X D (D1.nx xo::L1++L2.map fun a=>2*D1.n+a) S=run (fun i j k=>run (fun i' j' k'=>X (i+i') (j+j') (k+k'-1)) D2 (D2.nx yo::L2) S2) D1 (D1.nx xo::L1) S1:=by
 have hy:=T.both.1 hx;have l1:=h1.lt xo hx;have hv:S.ae (D1.nx xo)=false:=by rw [h.vis1 _ l1];exact hv1
 show (if S.ae (D1.nx xo)=true then _ else aY D S.cr (D1.nx xo) (run X D (L1++L2.map fun a=>2*D1.n+a)))=if S1.ae (D1.nx xo)=true then _ else aY D1 S1.cr (D1.nx xo) _;rw [zzI (by simp [hv]),zzI (by simp [hv1])]
 rw [y8w h1 h2 T hx h.Ze hv2 (k1:=fun T1 T2=>run (fun i j k=>run (fun i' j' k'=>X (i+i') (j+j') (k+k')) D2 L2 T2) D1 L1 T1) fun T' T1 T2 hM q1 q2=>Nt h1 h2 T X L2 sw L1 T' T1 T2 ng hM fun _=>⟨by rw [hM.vis2];exact q2,q1⟩];congr 1;funext T1;have hL:=(y8x D2 S2 (D2.nx yo)).run D1 (X:=fun T2 i j k=>run (fun i' j' k'=>X (i+i') (j+j') (k+k')) D2 L2 T2) L1 T1;refine hL.symm.trans ?_;congr 1
 funext i j k;show aY D2 S2 (D2.nx yo) _=if S2.ae (D2.nx yo)=true then _ else aY D2 S2.cr (D2.nx yo) _;rw [zzI (by simp [hv2]),I5];congr 1;funext T2;have key: ∀(B:List Nat) (S:WS) (X:Int->Int->Nat->Int),run X D2 B S.cr=run (fun i j k=>X i j (k+1)) D2 B S:=fun B=>by
  induction B with
  |nil=>intro S X;rfl
  |cons a B ih=>
   intro S X;show (if S.ae a=true then _ else aY D2 S.cr.cr a _)=if S.ae a=true then _ else aY D2 S.cr a _
   split
   ·exact ih S X
   ·rw [show aY D2 S.cr.cr a (run X D2 B)=aY D2 S.cr a (fun S=>run X D2 B S.cr) from I5 _ _];congr 1;funext S';exact ih S' X
 rw [key];congr 1
end
end Hs
section
variable {n:Nat} {mt jn mt':Int->Int} {x y:Int}
def lh (mt:Int->Int) (x y z:Int):Int:=if z=x then mt y else if z=mt y then x else if z=y then mt x else if z=mt x then y else mt z
theorem LF (hi:Inv2 n mt jn) (hx:av n x) (hy:av n y) (h1:y≠x) (h2:y≠mt x):mt x≠x/\mt y≠y/\mt y≠x/\mt y≠mt x/\mt (mt x)=x/\mt (mt y)=y:=
 ⟨hi.mf x hx,hi.mf y hy,fun e=>h2 (by rw [<-e,hi.mm y hy]),fun e=>h1 (by rw [<-hi.mm y hy,e,hi.mm x hx]),hi.mm x hx,hi.mm y hy⟩
theorem LD (hi:Inv2 n mt jn) (hx:av n x) (hy:av n y) (h1:y≠x) (h2:y≠mt x):lh mt x y x=mt y/\lh mt x y (mt y)=x/\lh mt x y y=mt x/\lh mt x y (mt x)=y:=by
 obtain ⟨a1,a2,a3,a4,_,_⟩:=LF hi hx hy h1 h2;refine ⟨by unfold lh;rw [zzJ rfl],by unfold lh;rw [zzI a3,zzJ rfl],by unfold lh;rw [zzI h1,zzI (Ne.symm a2),zzJ rfl],by unfold lh;rw [zzI a1,zzI (Ne.symm a4),zzI (Ne.symm h2),zzJ rfl]⟩
theorem y6 {z:Int} (h1:z≠x) (h2:z≠mt x) (h3:z≠y) (h4:z≠mt y):lh mt x y z=mt z:=by
 unfold lh;rw [zzI h1,zzI h4,zzI h3,zzI h2]
theorem R2 (hi:Inv2 n mt jn) (hx:av n x) (hy:av n y) (h1:y≠x) (h2:y≠mt x):Inv2 n (lh mt x y) jn:=by
 obtain ⟨a1,a2,a3,a4,a5,a6⟩:=LF hi hx hy h1 h2;obtain ⟨c1,c2,c3,c4⟩:=LD hi hx hy h1 h2;have cs: ∀z,av n z->(z=x\/z=mt y\/z=y\/z=mt x)\/(lh mt x y z=mt z/\mt z≠x/\mt z≠mt x/\mt z≠y/\mt z≠mt y):=fun z hz=>by
  by_cases e1:z=x
  ·exact .inl (.inl e1)
  ·by_cases e2:z=mt y
   ·exact .inl (.inr (.inl e2))
   ·by_cases e3:z=y
    ·exact .inl (.inr (.inr (.inl e3)))
    ·by_cases e4:z=mt x
     ·exact .inl (.inr (.inr (.inr e4)))
     ·have i:=hi.mm z hz;exact .inr ⟨y6 e1 e4 e3 e2,fun e=>e4 (by rw [<-i,e]),fun e=>e1 (by rw [<-i,e,a5]),fun e=>e2 (by rw [<-i,e]),fun e=>e3 (by rw [<-i,e,a6])⟩
 refine ⟨fun z hz=>?_,hi.jr,fun z hz=>?_,hi.jj,fun z hz=>?_,hi.jf⟩
 ·rcases cs z hz with (rfl|rfl|rfl|rfl)|⟨e,_⟩
  ·rw [c1];exact hi.mr _ hy
  ·rw [c2];exact hx
  ·rw [c3];exact hi.mr _ hx
  ·rw [c4];exact hy
  ·rw [e];exact hi.mr _ hz
 ·rcases cs z hz with (rfl|rfl|rfl|rfl)|⟨e,e1,e2,e3,e4⟩
  ·rw [c1,c2]
  ·rw [c2,c1]
  ·rw [c3,c4]
  ·rw [c4,c3]
  ·rw [e,y6 e1 e2 e3 e4];exact hi.mm z hz
 ·rcases cs z hz with (rfl|rfl|rfl|rfl)|⟨e,_⟩
  ·rw [c1];exact a3
  ·rw [c2];exact Ne.symm a3
  ·rw [c3];exact Ne.symm h2
  ·rw [c4];exact h2
  ·rw [e];exact hi.mf z hz
theorem y8z {u v:Int} (h: ∀z,aX mt jn u z->mt' z=mt z) (hc:aX mt jn u v):aX mt' jn u v:=by
 induction hc with
 |refl=>exact .refl _
 | @mate z hz ih=>rw [<-h z hz];exact .mate ih
 |join _ ih=>exact .join ih
theorem Jp (hi:Inv2 n mt jn) (hx:av n x) (h: ∀z,aX mt jn x z->z≠x->z≠mt x->mt' z=mt z) {z:Int} (hz:aX mt jn x z):aX mt' jn (mt x) z:=by
 obtain ⟨k,_,hk⟩:=(zI hi).Gb hx;have xE:=hk.pos;have hc: ∀j,aX mt jn x (it (fun x=>jn (mt x)) j x):=fun j=>by
  induction j with
  |zero=>exact .refl _
  |succ j ih=>exact .join (.mate ih)
 have jF: ∀j,0<j->j<k->mt' (it (fun x=>jn (mt x)) j x)=mt (it (fun x=>jn (mt x)) j x):=fun j h0 h1=>
  h _ (hc j) (hk.first j h0 h1) (MT hi hx j 0 j (by omega)).1
 have key: ∀j,j<k->aX mt' jn (mt x) (it (fun x=>jn (mt x)) (j+1) x):=fun j=>by
  induction j with
  |zero=>intro _;exact .join (.refl _)
  |succ j ih=>
   intro hj;have e:=aX.mate (mt:=mt') (jn:=jn) (ih (by omega));rw [jF (j+1) (by omega) hj] at e;exact .join e
 obtain ⟨j,hj,hz⟩:=(Jx hi hx hk).2 hz;by_cases h0:j=0
 ·subst h0;rcases hz with rfl|rfl
  ·have:=key (k-1) (by omega)
   rw [show k-1+1=k by omega,hk.back] at this;exact this
  ·exact .refl _
 ·have:=key (j-1) (by omega)
  rw [show j-1+1=j by omega] at this;rcases hz with rfl|rfl
  ·exact this
  ·rw [<-jF j (by omega) hj];exact .mate this
theorem H7 (hi:Inv2 n mt jn) {R:List Int} (hR:j9 n mt jn R) {x y:Nat} (hx:x<4*n) (hy:y<4*n) (eJ:R.getD x 0≠R.getD y 0):
  Inv2 n (lh mt x y) jn/\j9 n (lh mt x y) jn (iI R x y)/\roots R=roots (iI R x y)+1:=by
 have Bp:av n (x:Int):=by unfold av;omega
 have tm:av n (y:Int):=by unfold av;omega
 have CX: ¬aX mt jn x y:=fun e=>eJ ((hR.iff x y hx hy).2 e);have h1:(y:Int)≠x:=fun e=>CX (e▸ .refl _);have h2:(y:Int)≠mt x:=fun e=>CX (by rw [e];exact .mate (.refl _));have oK:=R2 hi Bp tm h1 h2;obtain ⟨c1,c2,c3,c4⟩:=LD hi Bp tm h1 h2;have G2: ¬aX mt jn y x:=fun e=>CX (e.symm hi tm);have ax: ∀z,aX mt jn x z->aX (lh mt x y) jn (mt x) z:=fun z hz=>by
  refine Jp hi Bp (fun w hw e1 e2=>y6 e1 e2 (fun e=>CX (by rw [<-e];exact hw)) (fun e=>CX ?_)) hz;subst e
  have:=aX.mate hw
  rwa [hi.mm _ tm] at this
 have ay: ∀z,aX mt jn y z->aX (lh mt x y) jn (mt y) z:=fun z hz=>by
  refine Jp hi tm (fun w hw e1 e2=>y6 (fun e=>G2 (by rw [<-e];exact hw)) (fun e=>G2 ?_) e1 e2) hz;subst e
  have:=aX.mate hw
  rwa [hi.mm _ Bp] at this
 have hq:aX (lh mt x y) jn (mt x) (mt y):=by
  have:=aX.mate (ax x (.refl _))
  rwa [c1] at this
 have cF: ∀z,aX mt jn x z\/aX mt jn y z->aX (lh mt x y) jn (mt x) z:=fun z hz=>hz.elim (ax z) fun h=>hq.trans (ay z h);have Eu:=hi.mr _ Bp;refine ⟨oK,?_,Vo hR.rep hx hy eJ⟩;have cl: ∀u v:Nat,u<4*n->v<4*n->aX mt jn u v->R.getD u 0=R.getD v 0:=fun u v hu hv h=>(hR.iff u v hu hv).2 h
 have mR: ∀u:Nat,u<4*n->(mt u).toNat<4*n/\((mt u).toNat:Int)=mt u/\R.getD (mt u).toNat 0=R.getD u 0:=fun u hu=>by
  have hr:=hi.mr u (by unfold av;omega);unfold av at hr;have e:((mt u).toNat:Int)=mt u:=by omega
  refine ⟨by omega,e,(cl u _ hu (by omega) ?_).symm⟩;rw [e];exact .mate (.refl _)
 refine j9.of oK (Fv hR.rep hx hy) (fun u v hu hv e=>?_) (fun u hu=>?_) (fun u hu=>?_)
 ·rw [rO hR.rep.len hu,rO hR.rep.len hv] at e;have both: ∀w:Nat,w<4*n->(R.getD w 0=R.getD x 0\/R.getD w 0=R.getD y 0)->aX (lh mt x y) jn (mt x) w:=fun w hw h=>cF w (h.imp (fun h=>(hR.iff x w hx hw).1 h.symm) fun h=>(hR.iff y w hy hw).1 h.symm);by_cases tp:R.getD u 0=R.getD x 0\/R.getD u 0=R.getD y 0
  ·have hv1:R.getD v 0=R.getD x 0\/R.getD v 0=R.getD y 0:=by
    by_cases h:R.getD v 0=R.getD x 0
    ·exact .inl h
    ·rw [zzI h] at e;refine .inr ?_;rw [<-e];rcases tp with h|h
     ·rw [zzJ h]
     ·by_cases h':R.getD u 0=R.getD x 0
      ·rw [zzJ h']
      ·rw [zzI h',h]
   exact ((both u hu tp).symm oK Eu).trans (both v hv hv1)
  ·have wh:=not_or.1 tp;rw [zzI wh.1] at e;have hv2:R.getD v 0≠R.getD x 0:=fun h=>wh.2 (by rw [e,zzJ h]);rw [zzI hv2] at e;refine y8z (fun z hz=>?_) ((hR.iff u v hu hv).1 e);have wa:=hz.iP hi (by unfold av;omega);have key: ∀w:Nat,w<4*n->aX mt jn z w->R.getD u 0=R.getD w 0:=fun w hw h=>cl u w hu hw (hz.trans h);refine y6 (fun e=>?_) (fun e=>?_) (fun e=>?_) (fun e=>?_)
   ·exact wh.1 (key x hx (e▸ .refl _))
   ·refine wh.1 (key x hx ?_)
    have:=aX.mate (mt:=mt) (jn:=jn) (aX.refl z)
    rw [e,hi.mm _ Bp] at this;rw [e];exact this
   ·exact wh.2 (key y hy (e▸ .refl _))
   ·refine wh.2 (key y hy ?_)
    have:=aX.mate (mt:=mt) (jn:=jn) (aX.refl z)
    rw [e,hi.mm _ tm] at this;rw [e];exact this
 ·have gx: ∀w:Nat,w<4*n->(R.getD w 0=R.getD x 0\/R.getD w 0=R.getD y 0)->(iI R x y).getD w 0=R.getD y 0:=fun w hw h=>by
   rw [rO hR.rep.len hw];by_cases h':R.getD w 0=R.getD x 0
   ·rw [zzJ h']
   ·rw [zzI h'];exact h.resolve_left h'
  obtain ⟨q1,q2,q3⟩:=mR y hy;obtain ⟨p1,p2,p3⟩:=mR x hx;by_cases e1:(u:Int)=x
  ·obtain rfl:u=x:=by omega
   rw [c1,gx _ q1 (.inr q3),gx _ hx (.inl rfl)]
  ·by_cases e2:(u:Int)=mt y
   ·have e2':u=(mt y).toNat:=by omega
    rw [e2,c2,zzC,gx _ hx (.inl rfl),gx u hu (.inr (by rw [e2',q3]))]
   ·by_cases e3:(u:Int)=y
    ·obtain rfl:u=y:=by omega
     rw [c3,gx _ p1 (.inl p3),gx _ hy (.inr rfl)]
    ·by_cases e4:(u:Int)=mt x
     ·have e4':u=(mt x).toNat:=by omega
      rw [e4,c4,zzC,gx _ hy (.inr rfl),gx u hu (.inl (by rw [e4',p3]))]
     ·rw [y6 e1 e4 e3 e2];exact zN hR.rep.len (mR u hu).1 hu (mR u hu).2.2
 ·have hr:=hi.jr u (by unfold av;omega);unfold av at hr;refine zN hR.rep.len (by omega) hu (cl u _ hu (by omega) ?_).symm;rw [show ((jn u).toNat:Int)=jn u by omega];exact .join (.refl _)
end
def AG (m:List Int) (x y:Nat):List Int:=(((m.set x (m.getD y 0)).set (m.getD y 0).toNat x).set y (m.getD x 0)).set (m.getD x 0).toNat y
theorem R1 (m:List Int) (x y:Nat):(AG m x y).length=m.length:=by simp [AG]
section
variable {m:List Int} {n:Nat}
theorem Mh (hp:iF m n) {x y:Nat} (hx:x<4*n) (hy:y<4*n) (h1:(y:Int)≠x) (h2:(y:Int)≠m.getD x 0) {z:Nat} (hz:z<4*n):
  (AG m x y).getD z 0=lh (fun x=>m.getD x.toNat 0) x y z:=by
 have hl:=hp.ok.1;have hi:=wK hp.ok hp.inv hp.ne fun _=>false;obtain ⟨a1,a2,a3,a4,_,_⟩:=LF (x:=(x:Int)) (y:=(y:Int)) hi (by unfold av;omega) (by unfold av;omega) h1 (by simpa using h2);simp only [zzC] at a1 a2 a3 a4;have px:=hp.ok.2 x hx;have py:=hp.ok.2 y hy;unfold AG lh;simp only [zzC];clear hi;generalize m.getD x 0=p at*;generalize m.getD y 0=q at*
 by_cases e4:z=p.toNat
 ·subst e4;rw [A4 _ _ _ _ (by simp;omega),zzJ rfl,zzI (by omega),zzI (by omega),zzI (by omega),zzJ (by omega)]
 ·rw [A4 _ _ _ _ (by simp;omega),zzI (Ne.symm e4)];by_cases e3:z=y
  ·subst e3;rw [A4 _ _ _ _ (by simp;omega),zzJ rfl,zzI (by omega),zzI (by omega),zzJ rfl]
  ·rw [A4 _ _ _ _ (by simp;omega),zzI (Ne.symm e3)];by_cases e2:z=q.toNat
   ·subst e2;rw [A4 _ _ _ _ (by simp;omega),zzJ rfl,zzI (by omega),zzJ (by omega)]
   ·rw [A4 _ _ _ _ (by simp;omega),zzI (Ne.symm e2)];by_cases e1:z=x
    ·subst e1;rw [A4 _ _ _ _ (by omega),zzJ rfl,zzJ rfl]
    ·rw [A4 _ _ _ _ (by omega),zzI (Ne.symm e1),zzI (by omega),zzI (by omega),zzI (by omega),zzI (by omega)]
theorem Ow (hp:iF m n) {x y:Nat} (hx:x<4*n) (hy:y<4*n) (h1:(y:Int)≠x) (h2:(y:Int)≠m.getD x 0):iF (AG m x y) n:=by
 have hi:=wK hp.ok hp.inv hp.ne fun _=>false;have oK:=R2 (x:=(x:Int)) (y:=(y:Int)) hi (by unfold av;omega) (by unfold av;omega) h1 (by simpa using h2);have g:=fun z hz=>Mh hp hx hy h1 h2 (z:=z) hz;have r: ∀z:Nat,z<4*n->0<=lh (fun x=>m.getD x.toNat 0) x y z/\lh (fun x=>m.getD x.toNat 0) x y z<4*n:=fun z hz=>by
  have:=oK.mr z (by unfold av;omega)
  unfold av at this;omega
 refine ⟨⟨by rw [R1];exact hp.ok.1,fun z hz=>by rw [g z hz];exact r z hz⟩,fun z hz=>?_,fun z hz=>?_⟩
 ·have:=r z hz
  rw [g z hz,g _ (by omega),show ((lh (fun x=>m.getD x.toNat 0) x y z).toNat:Int)=lh (fun x=>m.getD x.toNat 0) x y z by omega];exact oK.mm z (by unfold av;omega)
 ·rw [g z hz];exact oK.mf z (by unfold av;omega)
end
end Go.Proofs.YtjpbeacamoijhaaGreatDoor
