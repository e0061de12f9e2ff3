/- Plain: the strands of a diagram: each outgoing half-edge lies on one of them; two strands meet an even number of times. -/
import Derived.Test.YtjpbeacamoijhaaDoorZq
import Derived.Test.YtjpbeacamoijhaaDoorZo
import Derived.Test.YtjpbeacamoijhaaDoorSk1
import Derived.Test.YtjpbeacamoijhaaDoorHs13
import Derived.Test.YtjpbeacamoijhaaDoorZn
namespace Go.Proofs.YtjpbeacamoijhaaDoor
set_option linter.unusedSimpArgs false
set_option linter.unusedVariables false
section
variable {s m:List Int} {L:Int} (v:ybd s m L)
abbrev strK (s m:List Int) (k:Nat):List Int:=(yak s m).getD k []
include v
theorem ydc {x:Nat} (hx:x<4*s.length):(∀y,y∈orbF (yam m) m.length x↔ ∃j,it (yam m) j x=y)/\(∀y∈orbF (yam m) m.length x,InR s.length y)/\(∀y∈orbF (yam m) m.length x,(x:Int)∈orbF (yam m) m.length y)/\
  (∀y∈orbF (yam m) m.length x,∀z∈orbF (yam m) m.length y,z∈orbF (yam m) m.length x)/\(x:Int)∈orbF (yam m) m.length x/\(orbF (yam m) m.length x).Nodup/\ ∃k,Per (yam m) x k/\orbF (yam m) m.length x=its (yam m) x k:=by
 have:=ydv (yfo v.prd) (x:=(x:Int)) (by unfold InR;omega)
 rw [←v.len] at this
 obtain ⟨a,b,c,d,e,_,f,k,_,g,h⟩:=this
 exact ⟨a,b,c,d,e,f,k,g,h⟩
theorem ymb:yak s m=((List.range m.length).filter fun i:Nat=>outB s i&&yb2 i (orbF (yam m) m.length i)).map (fun i:Nat=>orbF (yam m) m.length i):=by
 have hl:=v.len
 exact (ytx (N:=m.length) (want:=outB s) (orb:=orbF (yam m) m.length) (fun x hx _ y hy=>by
  have:=(ydc v (x:=x) (by omega)).2.1 y hy
  unfold InR at this;omega) (fun x hx _=>(ydc v (x:=x) (by omega)).2.2.2.2.1) (fun x y hx hy hw hm=>by
  have h:=ydc v (x:=x) (by omega)
  refine ⟨?_,h.2.2.1 y hm⟩
  obtain ⟨j,hj⟩:=(h.1 y).1 hm
  rw [←hj,yh4 v (by omega) j];exact hw) (fun x y z hx hy hz _ h1 h2=>(ydc v (x:=x) (by omega)).2.2.2.1 y h1 z h2) m.length (Nat.le_refl _)).1
theorem yr8 {k:Nat} (hk:k<(yak s m).length): ∃x:Nat,x<4*s.length/\outB s x=true/\(∀y∈orbF (yam m) m.length x,(x:Int)<=y)/\strK s m k=orbF (yam m) m.length x:=by
 have hl:=v.len
 have e:=ymb v
 have hm:strK s m k∈yak s m:=by simp [strK,hk]
 rw [e] at hm
 obtain ⟨x,h1,h2⟩:=List.mem_map.1 hm
 obtain ⟨h3,h4⟩:=List.mem_filter.1 h1
 rw [Bool.and_eq_true] at h4
 exact ⟨x,by have:=List.mem_range.1 h3;omega,h4.1,ycl.1 h4.2,h2.symm⟩
theorem y8d {y:Nat} (hy:y<4*s.length) (ho:outB s y=true): ∃k,k<(yak s m).length/\(y:Int)∈strK s m k:=by
 have hl:=v.len
 have h:=ydc v hy
 have hle: ∃x:Nat,(x:Int)∈orbF (yam m) m.length y/\ ∀z∈orbF (yam m) m.length y,(x:Int)<=z:=by
  have key: ∀d x:Nat,x<d->(x:Int)∈orbF (yam m) m.length y-> ∃x:Nat,(x:Int)∈orbF (yam m) m.length y/\ ∀z∈orbF (yam m) m.length y,(x:Int)<=z:=fun d=>by
   induction d with
   |zero=>intro x hx;omega
   |succ d ih=>
    intro x hx hm
    by_cases hz: ∃z∈orbF (yam m) m.length y,z<(x:Int)
    ·obtain ⟨z,z1,z2⟩:=hz
     have:=h.2.1 z z1
     unfold InR at this
     exact ih z.toNat (by omega) (by rw [show ((z.toNat:Nat):Int)=z by omega];exact z1)
    ·exact ⟨x,hm,fun z hz'=>by
      apply Classical.byContradiction
      intro hn
      exact hz ⟨z,hz',by omega⟩⟩
  exact key (y+1) y (by omega) h.2.2.2.2.1
 obtain ⟨x,x1,x2⟩:=hle
 have hxr:=h.2.1 x x1
 unfold InR at hxr
 have hx:=ydc v (x:=x) (by omega)
 obtain ⟨j,hj⟩:=(h.1 x).1 x1
 have hox:outB s (x:Int)=true:=by rw [←hj,yh4 v hy j];exact ho
 have hyx:=h.2.2.1 x x1
 have hmem:orbF (yam m) m.length (x:Int)∈yak s m:=by
  rw [ymb v]
  refine List.mem_map.2 ⟨x,List.mem_filter.2 ⟨List.mem_range.2 (by omega),?_⟩,rfl⟩
  rw [Bool.and_eq_true]
  exact ⟨hox,ycl.2 fun z hz=>x2 z (h.2.2.2.1 x x1 z hz)⟩
 obtain ⟨k,hk,e⟩:=List.mem_iff_getElem.1 hmem
 exact ⟨k,hk,by simp only [strK,List.getD_eq_getElem?_getD,List.getElem?_eq_getElem hk,Option.getD_some,e];exact hyx⟩
theorem y6h {k k':Nat} (hk:k<(yak s m).length) (hk':k'<(yak s m).length) {y:Int} (hy:y∈strK s m k) (hy':y∈strK s m k'):k=k':=by
 have hl:=v.len
 have hn:(yak s m).Nodup:=by
  rw [ymb v]
  rw [List.nodup_iff_pairwise_ne,List.pairwise_map]
  refine (List.nodup_iff_pairwise_ne.1 (List.nodup_range.filter _)).imp_of_mem fun {a b} ha hb hne e=>hne ?_
  obtain ⟨a1,a2⟩:=List.mem_filter.1 ha
  obtain ⟨b1,b2⟩:=List.mem_filter.1 hb
  rw [Bool.and_eq_true] at a2 b2
  have a3:=List.mem_range.1 a1
  have b3:=List.mem_range.1 b1
  have:=ycl.1 a2.2 b (by rw [e];exact (ydc v (x:=b) (by omega)).2.2.2.2.1)
  have:=ycl.1 b2.2 a (by rw [←e];exact (ydc v (x:=a) (by omega)).2.2.2.2.1)
  omega
 obtain ⟨x,x1,x2,x3,x4⟩:=yr8 v hk
 obtain ⟨z,z1,z2,z3,z4⟩:=yr8 v hk'
 rw [x4] at hy
 rw [z4] at hy'
 have hx:=ydc v x1
 have hz:=ydc v z1
 have hyr:=hx.2.1 y hy
 unfold InR at hyr
 have hzy:=hz.2.2.1 y hy'
 have hxy:=hx.2.2.1 y hy
 have q1:=x3 z (hx.2.2.2.1 y hy z hzy)
 have q2:=z3 x (hz.2.2.2.1 y hy' x hxy)
 have e:x=z:=by omega
 subst e
 have e2:(yak s m)[k]'hk=(yak s m)[k']'hk':=by
  have f1:strK s m k=(yak s m)[k]'hk:=by simp [strK,hk]
  have f2:strK s m k'=(yak s m)[k']'hk':=by simp [strK,hk']
  rw [←f1,←f2,x4,z4]
 exact (List.getElem_inj hn).1 e2
end
end Go.Proofs.YtjpbeacamoijhaaDoor
namespace Go.Proofs.YtjpbeacamoijhaaDoor
set_option linter.unusedSimpArgs false
set_option linter.unusedVariables false
open Classical
section
variable {s m:List Int} {L:Int} (v:ybd s m L)
include v
end
section
variable {s m:List Int} {L:Int} (hv:yai s m L=true)
include hv
end
end Go.Proofs.YtjpbeacamoijhaaDoor
namespace Go.Proofs.YtjpbeacamoijhaaDoor
set_option linter.unusedSimpArgs false
set_option linter.unusedVariables false
section
variable {s m:List Int} {L:Int} {un ov:Nat->Bool}
end
section
variable {s m:List Int} {L:Int} {u o:Nat->Nat}
end
end Go.Proofs.YtjpbeacamoijhaaDoor
namespace Go.Proofs.YtjpbeacamoijhaaDoor
set_option linter.unusedSimpArgs false
set_option linter.unusedVariables false
open Classical
section
variable {m:List Int} {n:Nat} {σ:Nat->Bool} {s s':Nat->Nat} {c:Nat}
end
section
variable {s m:List Int} {L:Int}
end
end Go.Proofs.YtjpbeacamoijhaaDoor
namespace Go.Proofs.YtjpbeacamoijhaaDoor
set_option linter.unusedSimpArgs false
set_option linter.unusedVariables false
section
variable {s m:List Int} {L:Int} (hv:yai s m L=true)
include hv
end
end Go.Proofs.YtjpbeacamoijhaaDoor
namespace Go.Proofs.YtjpbeacamoijhaaDoor
set_option linter.unusedSimpArgs false
set_option linter.unusedVariables false
open Classical
section
variable {s m:List Int} {L:Int} (hv:yai s m L=true)
include hv
end
section
variable {s m:List Int} {L:Int} (hv:yai s m L=true)
include hv
end
end Go.Proofs.YtjpbeacamoijhaaDoor
namespace Go.Proofs.YtjpbeacamoijhaaDoor
set_option linter.unusedSimpArgs false
set_option linter.unusedVariables false
namespace Hs
open Sp (Sph siD PermN itn SC alD)
section
variable {s m:List Int} {L:Int} (v:ybd s m L)
def DS (n:Nat) (vv:List Bool) (S:WS):Prop:= ∀a,a<2*n->S.vis a=false->S.st (a/2)=if vv.getD (a/2) false=true then 3 else 1
include v
theorem yzx {g:Nat} (hg:g<4*s.length) (ho:outB s (g:Int)=true):(shD s m).nx (cod g)=cod (yam m g).toNat:=by
 have h1:=(ydi (m:=m) v.sg hg).2 ho
 have h2:=(Sp.str_nat v hg).1
 rw [h2,Int.toNat_natCast]
 show cod (alD m (outH (shD s m) (cod g)))=_
 rw [←h1]
 unfold cod Sp.opN
 omega
theorem yli {x k:Nat} (hx:x<4*s.length) (ho:outB s (x:Int)=true) (hk:Per (yam m) x k) (K:WS->Int): ∀(d j:Nat) (S:WS) (vv vv':List Bool),j+d=k->0<j->Mid (shD s m) S (cod x) (cod (it (yam m) j x).toNat)->DS s.length vv S->vv.length=s.length->
  badS vv ((List.range' j d).map fun i=>it (yam m) i x)=(none,vv')->
  ∃S1,W (shD s m) (eqE (cod x)) S (cod (it (yam m) j x).toNat) (fun S _=>K S)=K S1/\Bd (shD s m) S1/\DS s.length vv' S1/\vv'.length=s.length/\S1.i=S.i/\S1.j=S.j/\S1.k=S.k/\(∀a,S1.vis a=true↔S.vis a=true\/ ∃i,j<=i/\i<k/\a=cod (it (yam m) i x).toNat)
 |0,j,S,vv,vv',hj,h0,hM,hS,hl,hb=>by
  have e:j=k:=by omega
  subst e
  rw [hk.back,Int.toNat_natCast] at hM⊢
  have:=Prod.mk.inj hb
  refine ⟨S,yaz (ya3 _),hM.close,by rw [←this.2];exact hS,by rw [←this.2];exact hl,rfl,rfl,rfl,fun a=>⟨.inl,fun h=>h.elim id fun ⟨i,h1,h2,_⟩=>by omega⟩⟩
 |d+1,j,S,vv,vv',hj,h0,hM,hS,hl,hb=>by
  have hjk:j<k:=by omega
  have hR:=(ydc v hx).2.1 _ (((ydc v hx).1 _).2 ⟨j,rfl⟩)
  obtain ⟨y,hy⟩: ∃y:Nat,it (yam m) j x=y:=⟨(it (yam m) j x).toNat,by unfold InR at hR;omega⟩
  have hyl:y<4*s.length:=by unfold InR at hR;omega
  have hyo:outB s (y:Int)=true:=by rw [←hy,yh4 v hx j];exact ho
  have hyx:y≠x:=fun e=>hk.first j h0 hjk (by rw [hy,e])
  have hD:=ycj v
  have hcy:cod y<2*s.length:=by unfold cod;omega
  have hne:cod y≠cod x:=fun e=>hyx (by
   rw [(ydi (m:=m) v.sg hyl).2 hyo,(ydi (m:=m) v.sg hx).2 ho,e])
  have hnx:(shD s m).nx (cod y)=cod (it (yam m) (j+1) x).toNat:=by
   rw [yzx v hyl hyo,←hy];rfl
  rw [hy,Int.toNat_natCast] at hM⊢
  have hvy:S.vis (cod y)=false:=hM.vq.resolve_left hne
  have hst:=hS _ hcy hvy
  have d2:cod y/2=y/4:=by unfold cod;omega
  have m2:cod y % 2=y % 2:=by unfold cod;omega
  rw [List.range'_succ,List.map_cons,hy] at hb
  simp only [badS] at hb
  have ey:((y:Int)/4).toNat=y/4:=by omega
  rw [ey] at hb
  by_cases hc:vv.getD (y/4) false=false/\(y:Int)% 2=0
  ·rw [if_pos hc] at hb
   have:=(Prod.mk.inj hb).1
   cases this
  rw [if_neg hc] at hb
  have hbr: ∃q,(q=3\/q=4)/\br (shD s m) S (cod y)=[(1,S.mk' (cod y) q,(shD s m).nx (cod y))]/\(vv.getD (y/4) false=true->q=4)/\(vv.getD (y/4) false=false->q=3):=by
   cases e:vv.getD (y/4) false with
   |true=>
    rw [d2,e,if_pos rfl] at hst
    exact ⟨4, .inr rfl,br_3 hcy (by rw [d2];exact hst),fun _=>rfl,fun h=>(by cases h)⟩
   |false=>
    rw [d2,e,if_neg (by decide)] at hst
    have h1: ¬(y:Int)% 2=0:=fun h=>hc ⟨e,h⟩
    exact ⟨3, .inl rfl,br_o hcy (by rw [d2,hst,m2];omega),fun h=>(by cases h),fun _=>rfl⟩
  obtain ⟨q,hq,hbr,hq4,hq3⟩:=hbr
  have hM':=hM.step hD hne (x:=(1,S.mk' (cod y) q,(shD s m).nx (cod y))) (by rw [hbr];exact .head _)
  rw [hnx] at hM'
  have hS':DS s.length (vv.set (y/4) true) (S.mk' (cod y) q):=fun a ha hva=>by
   have hay:a≠cod y:=fun e=>by rw [e,ybg] at hva;cases hva
   rw [yag S hay] at hva
   by_cases e:a/2=cod y/2
   ·have hst':(S.mk' (cod y) q).st (a/2)=q:=by rw [e];exact yac _ _ _
    rw [hst',e,d2,yas (by omega),if_pos rfl]
    cases e':vv.getD (y/4) false with
    |false=>exact hq3 e'
    |true=>
     have f:=hM.inv (cod y) hcy
     unfold Fit at f
     rw [hst,d2,e',if_pos rfl,FitP.i3,hvy] at f
     have:a=co (cod y):=(ybi e).resolve_left hay
     rw [←this,hva] at f
     exact absurd f.2 (by decide)
   ·have hst':(S.mk' (cod y) q).st (a/2)=S.st (a/2):=yae _ _ e
    rw [hst',yaq (by omega)]
    exact hS a ha hva
  obtain ⟨S1,k1,k2,k3,k4,k5,k6,k7,k8⟩:=yli hx ho hk K d (j+1) (S.mk' (cod y) q) (vv.set (y/4) true) vv' (by omega) (by omega) hM' hS' (by rw [List.length_set];exact hl) hb
  refine ⟨S1,?_,k2,k3,k4,k5,k6,k7,fun a=>?_⟩
  ·rw [W_go (ycx hne) hvy,hbr,yci,hnx,k1]
  ·rw [k8]
   by_cases e:a=cod y
   ·subst e
    rw [ybg]
    exact ⟨fun _=> .inr ⟨j,Nat.le_refl _,hjk,by rw [hy];rfl⟩,fun _=> .inl rfl⟩
   ·rw [yag S e]
    constructor
    ·rintro (h|⟨i,h1,h2,h3⟩)
     ·exact .inl h
     ·exact .inr ⟨i,by omega,h2,h3⟩
    ·rintro (h|⟨i,h1,h2,h3⟩)
     ·exact .inl h
     ·by_cases hij:i=j
      ·subst hij;rw [hy] at h3;exact absurd h3 e
      ·exact .inr ⟨i,by omega,h2,h3⟩
omit v in
theorem yws (k:Nat) (h:0<k):List.range k=0::List.range' 1 (k-1):=by
 rw [List.range_eq_range']
 obtain ⟨j,rfl⟩: ∃j,k=j+1:=⟨k-1,by omega⟩
 rw [List.range'_succ];rfl
theorem yj2 (X:Int->Int->Nat->Int) (hd:Nat->Nat) (hhd: ∀t,t<(yak s m).length-> ∃x:Nat,x<4*s.length/\outB s (x:Int)=true/\strK s m t=orbF (yam m) m.length x/\hd t=cod x): ∀(d t:Nat) (S:WS) (vv:List Bool),t+d=(yak s m).length->Bd (shD s m) S->DS s.length vv S->vv.length=s.length->
  (∀a,a<2*s.length->(S.vis a=true↔ ∃t',t'<t/\((outH (shD s m) a:Nat):Int)∈strK s m t'))->ydr vv ((yak s m).drop t)=none->
  run X (shD s m) ((List.range' t d).map hd++List.range (2*s.length)) S=X S.i S.j (S.k+d)
 |0,t,S,vv,ht,hB,hS,hl,hv,hb=>by
  show run X (shD s m) (List.range (2*s.length)) S=_
  refine yks _ _ fun a ha=>?_
  have ha':=List.mem_range.1 ha
  obtain ⟨t',h1,h2⟩:=y8d v (ycb (D:=shD s m) ha') (ygl v.sg ha').2
  exact (hv a ha').2 ⟨t',by omega,h2⟩
 |d+1,t,S,vv,ht,hB,hS,hl,hv,hb=>by
  have htl:t<(yak s m).length:=by omega
  obtain ⟨x,hx,ho,hxk,hxd⟩:=hhd t htl
  have hD:=ycj v
  obtain ⟨o1,o2,o3,o4,o5,o6,k,hk,hko⟩:=ydc v hx
  have hcx:cod x<2*s.length:=by unfold cod;omega
  have hox:=(ydi (m:=m) v.sg hx).2 ho
  have hvx:S.vis (cod x)=false:=by
   cases e:S.vis (cod x) with
   |false=>rfl
   |true=>
    obtain ⟨t',h1,h2⟩:=(hv _ hcx).1 e
    rw [←hox] at h2
    have:=y6h v (by omega) htl h2 (by rw [hxk];exact o5)
    omega
  have hdr:(yak s m).drop t=strK s m t::(yak s m).drop (t+1):=by
   rw [List.drop_eq_getElem_cons htl]
   congr 1
   simp [strK,htl]
  rw [hdr] at hb
  simp only [ydr] at hb
  cases hbs:badS vv (strK s m t) with
  |mk o vv'=>
   rw [hbs] at hb
   cases o with
   |some c=>cases hb
   |none=>
    simp only at hb
    rw [hxk,hko] at hbs
    unfold its at hbs
    rw [yws k hk.pos,List.map_cons] at hbs
    simp only [badS] at hbs
    have ex:((it (yam m) 0 (x:Int))/4).toNat=x/4:=by show ((x:Int)/4).toNat=_;omega
    have ex2:it (yam m) 0 (x:Int)=x:=rfl
    rw [ex,ex2] at hbs
    have d2:cod x/2=x/4:=by unfold cod;omega
    have m2:cod x % 2=x % 2:=by unfold cod;omega
    by_cases hc:vv.getD (x/4) false=false/\(x:Int)% 2=0
    ·rw [if_pos hc] at hbs
     have:=(Prod.mk.inj hbs).1
     cases this
    rw [if_neg hc] at hbs
    have hst:=hS _ hcx hvx
    have hbr: ∃q,br (shD s m) S.cr (cod x)=[(1,S.cr.mk' (cod x) q,(shD s m).nx (cod x))]/\(vv.getD (x/4) false=true->q=4)/\(vv.getD (x/4) false=false->q=3):=by
     cases e:vv.getD (x/4) false with
     |true=>
      rw [d2,e,if_pos rfl] at hst
      exact ⟨4,br_3 hcx (by rw [d2];exact hst),fun _=>rfl,fun h=>(by cases h)⟩
     |false=>
      rw [d2,e,if_neg (by decide)] at hst
      have h1: ¬(x:Int)% 2=0:=fun h=>hc ⟨e,h⟩
      exact ⟨3,br_o hcx (by rw [d2];show S.st (x/4)=_;rw [hst,m2];omega),fun h=>(by cases h),fun _=>rfl⟩
    obtain ⟨q,hbr,hq4,hq3⟩:=hbr
    have hnx:(shD s m).nx (cod x)=cod (it (yam m) 1 x).toNat:=by rw [yzx v hx ho];rfl
    have hM:=hB.cr.start hD hvx (x:=(1,S.cr.mk' (cod x) q,(shD s m).nx (cod x))) (by rw [hbr];exact .head _)
    rw [hnx] at hM
    have hS':DS s.length (vv.set (x/4) true) (S.cr.mk' (cod x) q):=fun a ha hva=>by
     have hay:a≠cod x:=fun e=>by rw [e,ybg] at hva;cases hva
     rw [yag _ hay] at hva
     by_cases e:a/2=cod x/2
     ·have hst':(S.cr.mk' (cod x) q).st (a/2)=q:=by rw [e];exact yac _ _ _
      rw [hst',e,d2,yas (by omega),if_pos rfl]
      cases e':vv.getD (x/4) false with
      |false=>exact hq3 e'
      |true=>
       have f:=hB (cod x) hcx
       unfold Fit at f
       rw [hst,d2,e',if_pos rfl,FitP.i3,hvx] at f
       have:a=co (cod x):=(ybi e).resolve_left hay
       rw [←this] at f
       have hva':S.vis a=false:=hva
       rw [hva'] at f
       exact absurd f.2 (by decide)
     ·have hst':(S.cr.mk' (cod x) q).st (a/2)=S.st (a/2):=yae _ _ e
      rw [hst',yaq (by omega)]
      exact hS a ha hva
    obtain ⟨S1,k1,k2,k3,k4,k5,k6,k7,k8⟩:=yli v hx ho hk (run X (shD s m) ((List.range' (t+1) d).map hd++List.range (2*s.length))) (k-1) 1 (S.cr.mk' (cod x) q) (vv.set (x/4) true) vv' (by have:=hk.pos;omega) (by omega) hM hS' (by rw [List.length_set];exact hl) hbs
    have hv1: ∀a,a<2*s.length->(S1.vis a=true↔ ∃t',t'<t+1/\((outH (shD s m) a:Nat):Int)∈strK s m t'):=fun a ha=>by
     rw [k8]
     have ho2:=(ygl (m:=m) v.sg ha).2
     have inK:((outH (shD s m) a:Nat):Int)∈strK s m t↔ ∃i,i<k/\a=cod (it (yam m) i x).toNat:=by
      rw [hxk,hko,yht]
      constructor
      ·rintro ⟨i,h1,h2⟩
       exact ⟨i,h1,by rw [h2,Int.toNat_natCast,ykw]⟩
      ·rintro ⟨i,h1,h2⟩
       refine ⟨i,h1,?_⟩
       have hR:=o2 _ ((o1 _).2 ⟨i,rfl⟩)
       obtain ⟨y,hy⟩: ∃y:Nat,it (yam m) i x=y:=⟨(it (yam m) i x).toNat,by unfold InR at hR;omega⟩
       have hyl:y<4*s.length:=by unfold InR at hR;omega
       have hyo:outB s (y:Int)=true:=by rw [←hy,yh4 v hx i];exact ho
       rw [h2,hy,Int.toNat_natCast,←(ydi (m:=m) v.sg hyl).2 hyo]
     have hsv:(S.cr.mk' (cod x) q).vis a=true↔S.vis a=true\/a=cod x:=by
      by_cases e:a=cod x
      ·subst e;rw [ybg];simp
      ·rw [yag _ e]
       show S.vis a=true↔_
       simp [e]
     rw [hsv,hv a ha]
     constructor
     ·rintro ((⟨t',h1,h2⟩|h)|⟨i,h1,h2,h3⟩)
      ·exact ⟨t',by omega,h2⟩
      ·exact ⟨t,by omega,inK.2 ⟨0,hk.pos,h⟩⟩
      ·exact ⟨t,by omega,inK.2 ⟨i,h2,h3⟩⟩
     ·rintro ⟨t',h1,h2⟩
      by_cases e:t'=t
      ·subst e
       obtain ⟨i,h3,h4⟩:=inK.1 h2
       by_cases h0:i=0
       ·subst h0;exact .inl (.inr h4)
       ·exact .inr ⟨i,by omega,h3,h4⟩
      ·exact .inl (.inl ⟨t',by omega,h2⟩)
    have ih:=yj2 X hd hhd d (t+1) S1 vv' (by omega) k2 k3 k4 hv1 hb
    rw [List.range'_succ,List.map_cons,hxd]
    show (if S.vis (cod x)=true then _ else wk1 (shD s m) S.cr (cod x) (run X (shD s m) ((List.range' (t+1) d).map hd++List.range (2*s.length))))=_
    rw [if_neg (by simp [hvx])]
    unfold wk1
    rw [hbr,yci,hnx,k1,ih,k5,k6,k7]
    show X S.i S.j (S.k+1+d)=_
    congr 1;omega
omit v in
theorem y6i {X:Int->Int->Nat->Int} (hX:Good X) (hv:yai s m L=true) (hb:badO s m=none):HF X s m L=X 0 0 (L.toNat+(yak s m).length):=by
 have v:=yal hv
 have hex: ∀t,∃x:Nat,t<(yak s m).length->x<4*s.length/\outB s (x:Int)=true/\strK s m t=orbF (yam m) m.length x:=fun t=>by
  by_cases h:t<(yak s m).length
  ·obtain ⟨x,h1,h2,_,h3⟩:=yr8 v h
   exact ⟨x,fun _=>⟨h1,h2,h3⟩⟩
  ·exact ⟨0,fun h'=>absurd h' h⟩
 obtain ⟨hx,hxs⟩:=Classical.axiomOfChoice hex
 have h:=yj2 v X (fun t=>cod (hx t)) (fun t ht=>⟨hx t,(hxs t ht).1,(hxs t ht).2.1,(hxs t ht).2.2,rfl⟩) (yak s m).length 0 (Z0 (fun _=>1) L.toNat) (List.replicate s.length false) (by omega) (yi2 _ (fun _=> .inl (Nat.le_refl _)) _)
  (fun a _ _=>by
   show 1=_
   rw [if_neg]
   simp [List.getD_eq_getElem?_getD,List.getElem?_replicate]
   split<;>simp) (by simp) (fun a _=>⟨fun h=>(by cases h),fun ⟨t',h1,_⟩=>(by omega)⟩) (by rw [List.drop_zero];exact hb)
 unfold HF
 rw [←show run X (shD s m) (List.map (fun t=>cod (hx t)) (List.range' 0 (yak s m).length)++List.range (2*s.length)) (Z0 (fun _=>1) L.toNat)=X 0 0 (L.toNat+(yak s m).length) from h]
 refine ord (ycj v) (ykx hv) hX (yi2 _ (fun _=> .inl (Nat.le_refl _)) _) (yh2 (shD s m) _ _) ⟨fun a ha=>?_,fun a ha _=>List.mem_append_right _ (List.mem_range.2 ha)⟩
 rcases List.mem_append.1 ha with h|h
 ·obtain ⟨t,ht,rfl⟩:=List.mem_map.1 h
  have:=(hxs t (by simpa [List.mem_range'] using ht)).1
  show cod (hx t)<2*s.length
  unfold cod;omega
 ·exact List.mem_range.1 h
end
end Hs
end Go.Proofs.YtjpbeacamoijhaaDoor
namespace Go.Proofs.YtjpbeacamoijhaaDoor
set_option linter.unusedSimpArgs false
set_option linter.unusedVariables false
namespace Hs
section
variable {n1:Nat} {S S1 S2:WS}
end
section
variable {D D1 D2:Sh} {xo yo:Nat}
end
end Hs
end Go.Proofs.YtjpbeacamoijhaaDoor
namespace Go.Proofs.YtjpbeacamoijhaaDoor
set_option linter.unusedSimpArgs false
set_option linter.unusedVariables false
namespace Hs
section
variable {D D1 D2:Sh} {xo yo:Nat}
end
end Hs
end Go.Proofs.YtjpbeacamoijhaaDoor
namespace Go.Proofs.YtjpbeacamoijhaaDoor
set_option linter.unusedSimpArgs false
set_option linter.unusedVariables false
section
variable {n:Nat} {mt jn mt':Int->Int} {x y:Int}
end
section
variable {m:List Int} {n:Nat}
end
end Go.Proofs.YtjpbeacamoijhaaDoor
namespace Go.Proofs.YtjpbeacamoijhaaDoor
set_option linter.unusedSimpArgs false
set_option linter.unusedVariables false
namespace Sp
open Classical
section
variable {N:Nat} {si al al':Nat->Nat}
end
end Sp
section
variable {s1 s2 m1 m2:List Int} {L1 L2:Int} {n1 n2:Nat}
end
end Go.Proofs.YtjpbeacamoijhaaDoor
namespace Go.Proofs.YtjpbeacamoijhaaDoor
set_option linter.unusedSimpArgs false
set_option linter.unusedVariables false
namespace Hs
open Sp (Sph siD PermN itn SC alD)
section
variable {s1 m1 s2 m2:List Int} {L1 L2:Int}
end
end Hs
end Go.Proofs.YtjpbeacamoijhaaDoor
