/- Plain: two strands meet an even number of times (a potential on the faces). -/
import Derived.Test.YtjpnnnognoaaiaaDoorZq
import Derived.Test.YtjpnnnognoaaiaaDoorZo
import Derived.Test.YtjpnnnognoaaiaaDoorSk1
namespace Go.Proofs.YtjpnnnognoaaiaaDoor
set_option linter.unusedSimpArgs false
set_option linter.unusedVariables false
open Classical
section
variable {s m:List Int} {L:Int} (v:ybf s m L)
include v
end
section
variable {s m:List Int} {L:Int} (hv:yag s m L=true)
include hv
end
end Go.Proofs.YtjpnnnognoaaiaaDoor
namespace Go.Proofs.YtjpnnnognoaaiaaDoor
set_option linter.unusedSimpArgs false
set_option linter.unusedVariables false
section
variable {s m:List Int} {L:Int} {un ov:Nat->Bool}
end
section
variable {s m:List Int} {L:Int} {u o:Nat->Nat}
end
end Go.Proofs.YtjpnnnognoaaiaaDoor
namespace Go.Proofs.YtjpnnnognoaaiaaDoor
set_option linter.unusedSimpArgs false
set_option linter.unusedVariables false
open Classical
section
variable {m:List Int} {n:Nat} {σ:Nat->Bool} {s s':Nat->Nat} {c:Nat}
end
section
variable {s m:List Int} {L:Int}
end
end Go.Proofs.YtjpnnnognoaaiaaDoor
namespace Go.Proofs.YtjpnnnognoaaiaaDoor
set_option linter.unusedSimpArgs false
set_option linter.unusedVariables false
section
variable {s m:List Int} {L:Int} (hv:yag s m L=true)
include hv
end
end Go.Proofs.YtjpnnnognoaaiaaDoor
namespace Go.Proofs.YtjpnnnognoaaiaaDoor
set_option linter.unusedSimpArgs false
set_option linter.unusedVariables false
open Classical
section
variable {s m:List Int} {L:Int} (hv:yag s m L=true)
include hv
end
section
variable {s m:List Int} {L:Int} (hv:yag s m L=true)
include hv
end
theorem y23: ∀(p q:List Int) (i:Nat),(Sp.zadd p q).getD i 0=p.getD i 0+q.getD i 0
 |[],q,i=>by simp [Sp.zadd]
 |a::p,[],i=>by simp [Sp.zadd]
 |a::p,b::q,0=>by simp [Sp.zadd]
 |a::p,b::q,i+1=>by
  have:=y23 p q i
  simpa [Sp.zadd] using this
theorem adRG (p q:List Int) (k:Int) (i:Nat):(Sp.adR p k q).getD i 0=p.getD i 0+(if 0<i then k*q.getD (i-1) 0 else 0):=by
 unfold Sp.adR
 rw [y23]
 cases i with
 |zero=>simp
 |succ i=>
  rw [if_pos (by omega)]
  congr 1
  simp only [List.getD_cons_succ,Nat.add_sub_cancel]
  by_cases h:i<q.length
  ·simp [List.getD_eq_getElem?_getD,h]
  ·simp [List.getD_eq_getElem?_getD,Nat.le_of_not_lt h]
end Go.Proofs.YtjpnnnognoaaiaaDoor
namespace Go.Proofs.YtjpnnnognoaaiaaDoor
set_option linter.unusedSimpArgs false
set_option linter.unusedVariables false
namespace Hs
open Sp (Sph siD PermN itn SC alD)
section
variable {s m:List Int} {L:Int} (v:ybf s m L)
def DS (n:Nat) (vv:List Bool) (S:WS):Prop:= ∀a,a<2*n->S.vis a=false->S.st (a/2)=if vv.getD (a/2) false=true then 3 else 1
include v
theorem yzf {g:Nat} (hg:g<4*s.length) (ho:outB s (g:Int)=true):(shD s m).nx (cod g)=cod (yal m g).toNat:=by
 have h1:=(ydh (m:=m) v.sg hg).2 ho
 have h2:=(Sp.str_nat v hg).1
 rw [h2,Int.toNat_natCast]
 show cod (alD m (outH (shD s m) (cod g)))=_
 rw [←h1]
 unfold cod Sp.opN
 omega
theorem ylk {x k:Nat} (hx:x<4*s.length) (ho:outB s (x:Int)=true) (hk:Per (yal m) x k) (K:WS->Int): ∀(d j:Nat) (S:WS) (vv vv':List Bool),j+d=k->0<j->Mid (shD s m) S (cod x) (cod (it (yal m) j x).toNat)->DS s.length vv S->vv.length=s.length->
  badS vv ((List.range' j d).map fun i=>it (yal m) i x)=(none,vv')->
  ∃S1,W (shD s m) (eqE (cod x)) S (cod (it (yal m) j x).toNat) (fun S _=>K S)=K S1/\Bd (shD s m) S1/\DS s.length vv' S1/\vv'.length=s.length/\S1.i=S.i/\S1.j=S.j/\S1.k=S.k/\(∀a,S1.vis a=true↔S.vis a=true\/ ∃i,j<=i/\i<k/\a=cod (it (yal m) i x).toNat)
 |0,j,S,vv,vv',hj,h0,hM,hS,hl,hb=>by
  have e:j=k:=by omega
  subst e
  rw [hk.back,Int.toNat_natCast] at hM⊢
  have:=Prod.mk.inj hb
  refine ⟨S,yax (ya2 _),hM.close,by rw [←this.2];exact hS,by rw [←this.2];exact hl,rfl,rfl,rfl,fun a=>⟨.inl,fun h=>h.elim id fun ⟨i,h1,h2,_⟩=>by omega⟩⟩
 |d+1,j,S,vv,vv',hj,h0,hM,hS,hl,hb=>by
  have hjk:j<k:=by omega
  have hR:=(ydc v hx).2.1 _ (((ydc v hx).1 _).2 ⟨j,rfl⟩)
  obtain ⟨y,hy⟩: ∃y:Nat,it (yal m) j x=y:=⟨(it (yal m) j x).toNat,by unfold InR at hR;omega⟩
  have hyl:y<4*s.length:=by unfold InR at hR;omega
  have hyo:outB s (y:Int)=true:=by rw [←hy,yh7 v hx j];exact ho
  have hyx:y≠x:=fun e=>hk.first j h0 hjk (by rw [hy,e])
  have hD:=ybr v
  have hcy:cod y<2*s.length:=by unfold cod;omega
  have hne:cod y≠cod x:=fun e=>hyx (by
   rw [(ydh (m:=m) v.sg hyl).2 hyo,(ydh (m:=m) v.sg hx).2 ho,e])
  have hnx:(shD s m).nx (cod y)=cod (it (yal m) (j+1) x).toNat:=by
   rw [yzf v hyl hyo,←hy];rfl
  rw [hy,Int.toNat_natCast] at hM⊢
  have hvy:S.vis (cod y)=false:=hM.vq.resolve_left hne
  have hst:=hS _ hcy hvy
  have d2:cod y/2=y/4:=by unfold cod;omega
  have m2:cod y % 2=y % 2:=by unfold cod;omega
  rw [List.range'_succ,List.map_cons,hy] at hb
  simp only [badS] at hb
  have ey:((y:Int)/4).toNat=y/4:=by omega
  rw [ey] at hb
  by_cases hc:vv.getD (y/4) false=false/\(y:Int)% 2=0
  ·rw [if_pos hc] at hb
   have:=(Prod.mk.inj hb).1
   cases this
  rw [if_neg hc] at hb
  have hbr: ∃q,(q=3\/q=4)/\br (shD s m) S (cod y)=[(1,S.mk' (cod y) q,(shD s m).nx (cod y))]/\(vv.getD (y/4) false=true->q=4)/\(vv.getD (y/4) false=false->q=3):=by
   cases e:vv.getD (y/4) false with
   |true=>
    rw [d2,e,if_pos rfl] at hst
    exact ⟨4, .inr rfl,br_3 hcy (by rw [d2];exact hst),fun _=>rfl,fun h=>(by cases h)⟩
   |false=>
    rw [d2,e,if_neg (by decide)] at hst
    have h1: ¬(y:Int)% 2=0:=fun h=>hc ⟨e,h⟩
    exact ⟨3, .inl rfl,br_o hcy (by rw [d2,hst,m2];omega),fun h=>(by cases h),fun _=>rfl⟩
  obtain ⟨q,hq,hbr,hq4,hq3⟩:=hbr
  have hM':=hM.step hD hne (x:=(1,S.mk' (cod y) q,(shD s m).nx (cod y))) (by rw [hbr];exact .head _)
  rw [hnx] at hM'
  have hS':DS s.length (vv.set (y/4) true) (S.mk' (cod y) q):=fun a ha hva=>by
   have hay:a≠cod y:=fun e=>by rw [e,ybc] at hva;cases hva
   rw [yah S hay] at hva
   by_cases e:a/2=cod y/2
   ·have hst':(S.mk' (cod y) q).st (a/2)=q:=by rw [e];exact yad _ _ _
    rw [hst',e,d2,yaq (by omega),if_pos rfl]
    cases e':vv.getD (y/4) false with
    |false=>exact hq3 e'
    |true=>
     have f:=hM.inv (cod y) hcy
     unfold Fit at f
     rw [hst,d2,e',if_pos rfl,FitP.i3,hvy] at f
     have:a=co (cod y):=(ybd e).resolve_left hay
     rw [←this,hva] at f
     exact absurd f.2 (by decide)
   ·have hst':(S.mk' (cod y) q).st (a/2)=S.st (a/2):=yaf _ _ e
    rw [hst',yam (by omega)]
    exact hS a ha hva
  obtain ⟨S1,k1,k2,k3,k4,k5,k6,k7,k8⟩:=ylk hx ho hk K d (j+1) (S.mk' (cod y) q) (vv.set (y/4) true) vv' (by omega) (by omega) hM' hS' (by rw [List.length_set];exact hl) hb
  refine ⟨S1,?_,k2,k3,k4,k5,k6,k7,fun a=>?_⟩
  ·rw [W_go (ycz hne) hvy,hbr,ycn,hnx,k1]
  ·rw [k8]
   by_cases e:a=cod y
   ·subst e
    rw [ybc]
    exact ⟨fun _=> .inr ⟨j,Nat.le_refl _,hjk,by rw [hy];rfl⟩,fun _=> .inl rfl⟩
   ·rw [yah S e]
    constructor
    ·rintro (h|⟨i,h1,h2,h3⟩)
     ·exact .inl h
     ·exact .inr ⟨i,by omega,h2,h3⟩
    ·rintro (h|⟨i,h1,h2,h3⟩)
     ·exact .inl h
     ·by_cases hij:i=j
      ·subst hij;rw [hy] at h3;exact absurd h3 e
      ·exact .inr ⟨i,by omega,h2,h3⟩
omit v in
theorem yvw (k:Nat) (h:0<k):List.range k=0::List.range' 1 (k-1):=by
 rw [List.range_eq_range']
 obtain ⟨j,rfl⟩: ∃j,k=j+1:=⟨k-1,by omega⟩
 rw [List.range'_succ];rfl
theorem yj7 (X:Int->Int->Nat->Int) (hd:Nat->Nat) (hhd: ∀t,t<(yak s m).length-> ∃x:Nat,x<4*s.length/\outB s (x:Int)=true/\strK s m t=orbF (yal m) m.length x/\hd t=cod x): ∀(d t:Nat) (S:WS) (vv:List Bool),t+d=(yak s m).length->Bd (shD s m) S->DS s.length vv S->vv.length=s.length->
  (∀a,a<2*s.length->(S.vis a=true↔ ∃t',t'<t/\((outH (shD s m) a:Nat):Int)∈strK s m t'))->ydu vv ((yak s m).drop t)=none->
  run X (shD s m) ((List.range' t d).map hd++List.range (2*s.length)) S=X S.i S.j (S.k+d)
 |0,t,S,vv,ht,hB,hS,hl,hv,hb=>by
  show run X (shD s m) (List.range (2*s.length)) S=_
  refine ye4 _ _ fun a ha=>?_
  have ha':=List.mem_range.1 ha
  obtain ⟨t',h1,h2⟩:=y7q v (ybp (D:=shD s m) ha') (ygl v.sg ha').2
  exact (hv a ha').2 ⟨t',by omega,h2⟩
 |d+1,t,S,vv,ht,hB,hS,hl,hv,hb=>by
  have htl:t<(yak s m).length:=by omega
  obtain ⟨x,hx,ho,hxk,hxd⟩:=hhd t htl
  have hD:=ybr v
  obtain ⟨o1,o2,o3,o4,o5,o6,k,hk,hko⟩:=ydc v hx
  have hcx:cod x<2*s.length:=by unfold cod;omega
  have hox:=(ydh (m:=m) v.sg hx).2 ho
  have hvx:S.vis (cod x)=false:=by
   cases e:S.vis (cod x) with
   |false=>rfl
   |true=>
    obtain ⟨t',h1,h2⟩:=(hv _ hcx).1 e
    rw [←hox] at h2
    have:=y5s v (by omega) htl h2 (by rw [hxk];exact o5)
    omega
  have hdr:(yak s m).drop t=strK s m t::(yak s m).drop (t+1):=by
   rw [List.drop_eq_getElem_cons htl]
   congr 1
   simp [strK,htl]
  rw [hdr] at hb
  simp only [ydu] at hb
  cases hbs:badS vv (strK s m t) with
  |mk o vv'=>
   rw [hbs] at hb
   cases o with
   |some c=>cases hb
   |none=>
    simp only at hb
    rw [hxk,hko] at hbs
    unfold its at hbs
    rw [yvw k hk.pos,List.map_cons] at hbs
    simp only [badS] at hbs
    have ex:((it (yal m) 0 (x:Int))/4).toNat=x/4:=by show ((x:Int)/4).toNat=_;omega
    have ex2:it (yal m) 0 (x:Int)=x:=rfl
    rw [ex,ex2] at hbs
    have d2:cod x/2=x/4:=by unfold cod;omega
    have m2:cod x % 2=x % 2:=by unfold cod;omega
    by_cases hc:vv.getD (x/4) false=false/\(x:Int)% 2=0
    ·rw [if_pos hc] at hbs
     have:=(Prod.mk.inj hbs).1
     cases this
    rw [if_neg hc] at hbs
    have hst:=hS _ hcx hvx
    have hbr: ∃q,br (shD s m) S.cr (cod x)=[(1,S.cr.mk' (cod x) q,(shD s m).nx (cod x))]/\(vv.getD (x/4) false=true->q=4)/\(vv.getD (x/4) false=false->q=3):=by
     cases e:vv.getD (x/4) false with
     |true=>
      rw [d2,e,if_pos rfl] at hst
      exact ⟨4,br_3 hcx (by rw [d2];exact hst),fun _=>rfl,fun h=>(by cases h)⟩
     |false=>
      rw [d2,e,if_neg (by decide)] at hst
      have h1: ¬(x:Int)% 2=0:=fun h=>hc ⟨e,h⟩
      exact ⟨3,br_o hcx (by rw [d2];show S.st (x/4)=_;rw [hst,m2];omega),fun h=>(by cases h),fun _=>rfl⟩
    obtain ⟨q,hbr,hq4,hq3⟩:=hbr
    have hnx:(shD s m).nx (cod x)=cod (it (yal m) 1 x).toNat:=by rw [yzf v hx ho];rfl
    have hM:=hB.cr.start hD hvx (x:=(1,S.cr.mk' (cod x) q,(shD s m).nx (cod x))) (by rw [hbr];exact .head _)
    rw [hnx] at hM
    have hS':DS s.length (vv.set (x/4) true) (S.cr.mk' (cod x) q):=fun a ha hva=>by
     have hay:a≠cod x:=fun e=>by rw [e,ybc] at hva;cases hva
     rw [yah _ hay] at hva
     by_cases e:a/2=cod x/2
     ·have hst':(S.cr.mk' (cod x) q).st (a/2)=q:=by rw [e];exact yad _ _ _
      rw [hst',e,d2,yaq (by omega),if_pos rfl]
      cases e':vv.getD (x/4) false with
      |false=>exact hq3 e'
      |true=>
       have f:=hB (cod x) hcx
       unfold Fit at f
       rw [hst,d2,e',if_pos rfl,FitP.i3,hvx] at f
       have:a=co (cod x):=(ybd e).resolve_left hay
       rw [←this] at f
       have hva':S.vis a=false:=hva
       rw [hva'] at f
       exact absurd f.2 (by decide)
     ·have hst':(S.cr.mk' (cod x) q).st (a/2)=S.st (a/2):=yaf _ _ e
      rw [hst',yam (by omega)]
      exact hS a ha hva
    obtain ⟨S1,k1,k2,k3,k4,k5,k6,k7,k8⟩:=ylk v hx ho hk (run X (shD s m) ((List.range' (t+1) d).map hd++List.range (2*s.length))) (k-1) 1 (S.cr.mk' (cod x) q) (vv.set (x/4) true) vv' (by have:=hk.pos;omega) (by omega) hM hS' (by rw [List.length_set];exact hl) hbs
    have hv1: ∀a,a<2*s.length->(S1.vis a=true↔ ∃t',t'<t+1/\((outH (shD s m) a:Nat):Int)∈strK s m t'):=fun a ha=>by
     rw [k8]
     have ho2:=(ygl (m:=m) v.sg ha).2
     have inK:((outH (shD s m) a:Nat):Int)∈strK s m t↔ ∃i,i<k/\a=cod (it (yal m) i x).toNat:=by
      rw [hxk,hko,yhu]
      constructor
      ·rintro ⟨i,h1,h2⟩
       exact ⟨i,h1,by rw [h2,Int.toNat_natCast,yh5]⟩
      ·rintro ⟨i,h1,h2⟩
       refine ⟨i,h1,?_⟩
       have hR:=o2 _ ((o1 _).2 ⟨i,rfl⟩)
       obtain ⟨y,hy⟩: ∃y:Nat,it (yal m) i x=y:=⟨(it (yal m) i x).toNat,by unfold InR at hR;omega⟩
       have hyl:y<4*s.length:=by unfold InR at hR;omega
       have hyo:outB s (y:Int)=true:=by rw [←hy,yh7 v hx i];exact ho
       rw [h2,hy,Int.toNat_natCast,←(ydh (m:=m) v.sg hyl).2 hyo]
     have hsv:(S.cr.mk' (cod x) q).vis a=true↔S.vis a=true\/a=cod x:=by
      by_cases e:a=cod x
      ·subst e;rw [ybc];simp
      ·rw [yah _ e]
       show S.vis a=true↔_
       simp [e]
     rw [hsv,hv a ha]
     constructor
     ·rintro ((⟨t',h1,h2⟩|h)|⟨i,h1,h2,h3⟩)
      ·exact ⟨t',by omega,h2⟩
      ·exact ⟨t,by omega,inK.2 ⟨0,hk.pos,h⟩⟩
      ·exact ⟨t,by omega,inK.2 ⟨i,h2,h3⟩⟩
     ·rintro ⟨t',h1,h2⟩
      by_cases e:t'=t
      ·subst e
       obtain ⟨i,h3,h4⟩:=inK.1 h2
       by_cases h0:i=0
       ·subst h0;exact .inl (.inr h4)
       ·exact .inr ⟨i,by omega,h3,h4⟩
      ·exact .inl (.inl ⟨t',by omega,h2⟩)
    have ih:=yj7 X hd hhd d (t+1) S1 vv' (by omega) k2 k3 k4 hv1 hb
    rw [List.range'_succ,List.map_cons,hxd]
    show (if S.vis (cod x)=true then _ else wk1 (shD s m) S.cr (cod x) (run X (shD s m) ((List.range' (t+1) d).map hd++List.range (2*s.length))))=_
    rw [if_neg (by simp [hvx])]
    unfold wk1
    rw [hbr,ycn,hnx,k1,ih,k5,k6,k7]
    show X S.i S.j (S.k+1+d)=_
    congr 1;omega
omit v in
theorem y5t {X:Int->Int->Nat->Int} (hX:Good X) (hv:yag s m L=true) (hb:badO s m=none):HF X s m L=X 0 0 (L.toNat+(yak s m).length):=by
 have v:=yan hv
 have hex: ∀t,∃x:Nat,t<(yak s m).length->x<4*s.length/\outB s (x:Int)=true/\strK s m t=orbF (yal m) m.length x:=fun t=>by
  by_cases h:t<(yak s m).length
  ·obtain ⟨x,h1,h2,_,h3⟩:=yr2 v h
   exact ⟨x,fun _=>⟨h1,h2,h3⟩⟩
  ·exact ⟨0,fun h'=>absurd h' h⟩
 obtain ⟨hx,hxs⟩:=Classical.axiomOfChoice hex
 have h:=yj7 v X (fun t=>cod (hx t)) (fun t ht=>⟨hx t,(hxs t ht).1,(hxs t ht).2.1,(hxs t ht).2.2,rfl⟩) (yak s m).length 0 (Z0 (fun _=>1) L.toNat) (List.replicate s.length false) (by omega) (yge _ (fun _=> .inl (Nat.le_refl _)) _)
  (fun a _ _=>by
   show 1=_
   rw [if_neg]
   simp [List.getD_eq_getElem?_getD,List.getElem?_replicate]
   split<;>simp) (by simp) (fun a _=>⟨fun h=>(by cases h),fun ⟨t',h1,_⟩=>(by omega)⟩) (by rw [List.drop_zero];exact hb)
 unfold HF
 rw [←show run X (shD s m) (List.map (fun t=>cod (hx t)) (List.range' 0 (yak s m).length)++List.range (2*s.length)) (Z0 (fun _=>1) L.toNat)=X 0 0 (L.toNat+(yak s m).length) from h]
 refine ord (ybr v) (ye6 hv) hX (yge _ (fun _=> .inl (Nat.le_refl _)) _) (yfc (shD s m) _ _) ⟨fun a ha=>?_,fun a ha _=>List.mem_append_right _ (List.mem_range.2 ha)⟩
 rcases List.mem_append.1 ha with h|h
 ·obtain ⟨t,ht,rfl⟩:=List.mem_map.1 h
  have:=(hxs t (by simpa [List.mem_range'] using ht)).1
  show cod (hx t)<2*s.length
  unfold cod;omega
 ·exact List.mem_range.1 h
end
def Xc (p:Int) (_ j:Int) (k:Nat):Int:=if k=1/\j=p then 1 else 0
theorem Xc_good (p:Int):Good (Xc p):=fun i j k hk=>by
 unfold Xc
 rw [if_neg (c:=k+1=1/\j+1=p) (by omega),Int.add_zero]
theorem run_zero {D:Sh} {X:Int->Int->Nat->Int} {j0:Int} (hX: ∀i j k,j0<=j->X i j k=0): ∀(B:List Nat) (S:WS),j0<=S.j->run X D B S=0
 |[],S,h=>hX _ _ _ h
 |a::B,S,h=>by
  show (if S.vis a=true then _ else _)=0
  split
  ·exact run_zero hX B S h
  ·have bj: ∀(S:WS) (b:Nat),∀x∈br D S b,S.j<=x.2.1.j:=fun S b x hx=>by
    unfold br at hx
    split at hx
    ·cases hx
    split at hx
    ·rw [List.mem_singleton] at hx;subst hx;exact Int.le_refl _
    split at hx
    ·rw [List.mem_singleton] at hx;subst hx;exact Int.le_refl _
    split at hx
    ·rw [List.mem_singleton] at hx;subst hx;exact Int.le_refl _
    split at hx
    ·rw [List.mem_singleton] at hx;subst hx;exact Int.le_refl _
    split at hx
    ·rcases List.mem_cons.1 hx with hx|hx
     ·subst hx;show S.j<=S.j+0;omega
     ·rw [List.mem_singleton] at hx;subst hx;show S.j<=S.j+1;omega
    ·cases hx
   have h0:wk1 D S.cr a (run X D B)=wk1 D S.cr a (fun S=>0*run X D B S):=by
    unfold wk1
    refine ybe fun x hx=>ygj (fun S' _=>j0<=S'.j) (fun S' b h1 _ _ y hy=>Int.le_trans h1 (bj S' b y hy)) (fun S' b h1 _=>?_) (Int.le_trans h (bj S.cr a x hx))
    show run X D B S'=0*run X D B S'
    rw [run_zero hX B S' h1];rfl
   rw [h0,ytt,Int.zero_mul]
theorem rfM_HF: ∀(f:Nat) (s m:List Int) (L:Int) (q:List Int),yag s m L=true->L+2*s.length<=62->Sp.rfM f s m L=some q-> ∀p:Nat,q.getD p 0=HF (Xc p) s m L
 |0,s,m,L,q,_,_,h,p=>by cases h
 |f+1,s,m,L,q,hv,hL,h,p=>by
  have v:=yan hv
  have l0:=v.l0
  unfold Sp.rfM at h
  cases hb:badO s m with
  |none=>
   rw [hb] at h
   have hq:=Option.some.inj h
   rw [y5t (Xc_good p) hv hb,←hq]
   unfold Xc
   by_cases h1:((yak s m).length:Int)+L=1
   ·rw [if_pos h1]
    cases p with
    |zero=>rw [if_pos ⟨by omega,rfl⟩];rfl
    |succ p=>rw [if_neg (by omega)];simp
   ·rw [if_neg h1,if_neg (by omega)]
    cases p<;>simp
  |some c0=>
   rw [hb] at h
   have hcr:=yiw v.prd hb
   obtain ⟨c,rfl⟩: ∃c:Nat,c0=c:=⟨c0.toNat,by omega⟩
   have hc:c<s.length:=by omega
   simp only [Int.toNat_natCast] at h
   cases h1:Sp.rfM f (swS s c) (swM s m c) L with
   |none=>rw [h1] at h;cases h
   |some p1=>
    cases h2:Sp.rfM f (smS s c) (smM s m c) (smLp s m c L) with
    |none=>rw [h1,h2] at h;cases h
    |some r=>
     rw [h1,h2] at h
     simp only at h
     split at h
     ·have hq:=Option.some.inj h
      have hsm:=Sp.smL_rng (m:=m) (b:=(s.getD c 0== -1)) (c:=c) (n:=s.length)
      have hlp:smLp s m c L=L+smL m (s.getD c 0== -1) c s.length:=rfl
      have hv1:=Sp.valid_switch hv hc
      obtain ⟨hv2,hl2⟩:=Sp.valid_smooth hv hc (by omega)
      have hl1:(swS s c).length=s.length:=Sp.swS_len
      have a1:=rfM_HF f _ _ _ p1 hv1 (by rw [hl1];exact hL) h1 p
      have a2:=rfM_HF f _ _ _ r hv2 (by rw [hl2];omega) h2
      obtain ⟨s1,s2⟩:=y2b (Xc_good p) hv hc hv2
      rw [←hq,adRG,a1]
      have hz:(if 0<p then s.getD c 0*r.getD (p-1) 0 else 0)=s.getD c 0*HF (fun i j k=>Xc p i (j+1) k) (smS s c) (smM s m c) (smLp s m c L):=by
       by_cases hp:0<p
       ·rw [if_pos hp,a2]
        congr 2
        funext i j k
        unfold Xc
        have:(j=((p-1:Nat):Int))↔(j+1=(p:Int)):=by omega
        simp only [this]
       ·rw [if_neg hp]
        have:HF (fun i j k=>Xc p i (j+1) k) (smS s c) (smM s m c) (smLp s m c L)=0:=by
         refine run_zero (j0:=0) (fun i j k hj=>?_) _ _ (Int.le_refl _)
         unfold Xc;exact if_neg (by omega)
        rw [this,Int.mul_zero]
      rw [hz]
      have e1:(fun i j k=>Xc (p:Int) (i-1) j k)=Xc p:=rfl
      have e2:(fun i j k=>Xc (p:Int) (i+1) j k)=Xc p:=rfl
      rw [e1,e2] at s1 s2
      rcases v.sg c hc with h3|h3
      ·have:=s1 h3;rw [h3];omega
      ·have:=s2 h3;rw [h3];omega
     ·cases h
end Hs
end Go.Proofs.YtjpnnnognoaaiaaDoor
