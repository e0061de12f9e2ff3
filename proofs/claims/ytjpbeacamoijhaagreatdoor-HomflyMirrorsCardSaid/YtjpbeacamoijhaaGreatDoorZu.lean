/- Plain: the value of a descending diagram; the resolution computes the value. -/
import Derived.Test.YtjpbeacamoijhaaGreatDoorZt
import Derived.Test.YtjpbeacamoijhaaGreatDoorHs13
import Derived.Test.YtjpbeacamoijhaaGreatDoorZp
import Derived.Test.YtjpbeacamoijhaaGreatDoorZq
namespace Go.Proofs.YtjpbeacamoijhaaGreatDoor
set_option linter.unusedSimpArgs false
set_option linter.unusedVariables false
namespace Hs
open Sp (eY aV aw itn SC aZ)
section
variable {s m:List Int} {L:Int} (v:jP s m L)
def DS (n:Nat) (vv:List Bool) (S:WS):Prop:= ∀a,a<2*n->S.ae a=false->S.st (a/2)=if vv.getD (a/2) false=true then 3 else 1
include v
theorem Vs {g:Nat} (hg:g<4*s.length) (ho:ak s (g:Int)=true):(au s m).nx (aQ g)=aQ (aK m g).toNat:=by
 have h1:=(yQ (m:=m) v.sg hg).2 ho;have h2:=(Sp.lC v hg).1;rw [h2,Int.toNat_natCast];show aQ (aZ m (aG (au s m) (aQ g)))=_;rw [←h1];unfold aQ Sp.we;omega
theorem TG {x k:Nat} (hx:x<4*s.length) (ho:ak s (x:Int)=true) (hk:uv (aK m) x k) (K:WS->Int): ∀(d j:Nat) (S:WS) (vv yV:List Bool),j+d=k->0<j->qa (au s m) S (aQ x) (aQ (it (aK m) j x).toNat)->DS s.length vv S->vv.length=s.length->
  dy vv ((List.range' j d).map fun i=>it (aK m) i x)=(none,yV)->
  ∃S1,W (au s m) (dT (aQ x)) S (aQ (it (aK m) j x).toNat) (fun S _=>K S)=K S1/\Bd (au s m) S1/\DS s.length yV S1/\yV.length=s.length/\S1.i=S.i/\S1.j=S.j/\S1.k=S.k/\(∀a,S1.ae a=true↔S.ae a=true\/ ∃i,j<=i/\i<k/\a=aQ (it (aK m) i x).toNat)
 |0,j,S,vv,yV,hj,h0,hM,hS,hl,hb=>by
  have e:j=k:=by omega
  subst e;rw [hk.back,Int.toNat_natCast] at hM⊢
  have:=Prod.mk.inj hb
  refine ⟨S,iG (js _),hM.close,by rw [←this.2];exact hS,by rw [←this.2];exact hl,rfl,rfl,rfl,fun a=>⟨.inl,fun h=>h.elim id fun ⟨i,h1,h2,_⟩=>by omega⟩⟩
 |d+1,j,S,vv,yV,hj,h0,hM,hS,hl,hb=>by
  have wU:j<k:=by omega
  have hR:=(uA v hx).2.1 _ (((uA v hx).1 _).2 ⟨j,rfl⟩);obtain ⟨y,hy⟩: ∃y:Nat,it (aK m) j x=y:=⟨(it (aK m) j x).toNat,by unfold aA at hR;omega⟩;have pW:y<4*s.length:=by unfold aA at hR;omega
  have JI:ak s (y:Int)=true:=by rw [←hy,El v hx j];exact ho
  have Nu:y≠x:=fun e=>hk.first j h0 wU (by rw [hy,e])
  have hD:=pN v;have DQ:aQ y<2*s.length:=by unfold aQ;omega
  have ax:aQ y≠aQ x:=fun e=>Nu (by
   rw [(yQ (m:=m) v.sg pW).2 JI,(yQ (m:=m) v.sg hx).2 ho,e])
  have uT:(au s m).nx (aQ y)=aQ (it (aK m) (j+1) x).toNat:=by
   rw [Vs v pW JI,←hy];rfl
  rw [hy,Int.toNat_natCast] at hM⊢;have NC:S.ae (aQ y)=false:=hM.vq.resolve_left ax;have aR:=hS _ DQ NC;have d2:aQ y/2=y/4:=by unfold aQ;omega
  have m2:aQ y % 2=y % 2:=by unfold aQ;omega
  rw [List.range'_succ,List.map_cons,hy] at hb;simp only [dy] at hb;have ey:((y:Int)/4).toNat=y/4:=by omega
  rw [ey] at hb;by_cases hc:vv.getD (y/4) false=false/\(y:Int)% 2=0
  ·rw [if_pos hc] at hb
   have:=(Prod.mk.inj hb).1
   cases this
  rw [if_neg hc] at hb;have zu: ∃q,(q=3\/q=4)/\br (au s m) S (aQ y)=[(1,S.mk' (aQ y) q,(au s m).nx (aQ y))]/\(vv.getD (y/4) false=true->q=4)/\(vv.getD (y/4) false=false->q=3):=by
   cases e:vv.getD (y/4) false with
   |true=>
    rw [d2,e,if_pos rfl] at aR;exact ⟨4, .inr rfl,pI DQ (by rw [d2];exact aR),fun _=>rfl,fun h=>(by cases h)⟩
   |false=>
    rw [d2,e,if_neg (by decide)] at aR;have h1: ¬(y:Int)% 2=0:=fun h=>hc ⟨e,h⟩;exact ⟨3, .inl rfl,zK DQ (by rw [d2,aR,m2];omega),fun h=>(by cases h),fun _=>rfl⟩
  obtain ⟨q,hq,zu,hq4,Gc⟩:=zu;have Kb:=hM.step hD ax (x:=(1,S.mk' (aQ y) q,(au s m).nx (aQ y))) (by rw [zu];exact .head _);rw [uT] at Kb;have zx:DS s.length (vv.set (y/4) true) (S.mk' (aQ y) q):=fun a ha p5=>by
   have GJ:a≠aQ y:=fun e=>by rw [e,lk] at p5;cases p5
   rw [dM S GJ] at p5;by_cases e:a/2=aQ y/2
   ·have sT:(S.mk' (aQ y) q).st (a/2)=q:=by rw [e];exact bG _ _ _
    rw [sT,e,d2,nr (by omega),if_pos rfl];cases e':vv.getD (y/4) false with
    |false=>exact Gc e'
    |true=>
     have f:=hM.inv (aQ y) DQ;unfold Fit at f;rw [aR,d2,e',if_pos rfl,aD.i3,NC] at f
     have:a=co (aQ y):=(jV e).resolve_left GJ
     rw [←this,p5] at f;exact absurd f.2 (by decide)
   ·have sT:(S.mk' (aQ y) q).st (a/2)=S.st (a/2):=bt _ _ e;rw [sT,ns (by omega)];exact hS a ha p5
  obtain ⟨S1,k1,k2,k3,k4,k5,k6,k7,k8⟩:=TG hx ho hk K d (j+1) (S.mk' (aQ y) q) (vv.set (y/4) true) yV (by omega) (by omega) Kb zx (by rw [List.length_set];exact hl) hb;refine ⟨S1,?_,k2,k3,k4,k5,k6,k7,fun a=>?_⟩
  ·rw [gQ (tM ax) NC,zu,rV,uT,k1]
  ·rw [k8];by_cases e:a=aQ y
   ·subst e;rw [lk];exact ⟨fun _=> .inr ⟨j,Nat.le_refl _,wU,by rw [hy];rfl⟩,fun _=> .inl rfl⟩
   ·rw [dM S e];constructor
    ·rintro (h|⟨i,h1,h2,h3⟩)
     ·exact .inl h
     ·exact .inr ⟨i,by omega,h2,h3⟩
    ·rintro (h|⟨i,h1,h2,h3⟩)
     ·exact .inl h
     ·by_cases ke:i=j
      ·subst ke;rw [hy] at h3;exact absurd h3 e
      ·exact .inr ⟨i,by omega,h2,h3⟩
omit v in
theorem Tn (k:Nat) (h:0<k):List.range k=0::List.range' 1 (k-1):=by
 rw [List.range_eq_range'];obtain ⟨j,rfl⟩: ∃j,k=j+1:=⟨k-1,by omega⟩;rw [List.range'_succ];rfl
theorem TN (X:Int->Int->Nat->Int) (hd:Nat->Nat) (Wt: ∀t,t<(dt s m).length-> ∃x:Nat,x<4*s.length/\ak s (x:Int)=true/\iJ s m t=af (aK m) m.length x/\hd t=aQ x): ∀(d t:Nat) (S:WS) (vv:List Bool),t+d=(dt s m).length->Bd (au s m) S->DS s.length vv S->vv.length=s.length->
  (∀a,a<2*s.length->(S.ae a=true↔ ∃t',t'<t/\((aG (au s m) a:Nat):Int)∈iJ s m t'))->tJ vv ((dt s m).drop t)=none->
  run X (au s m) ((List.range' t d).map hd++List.range (2*s.length)) S=X S.i S.j (S.k+d)
 |0,t,S,vv,ht,hB,hS,hl,hv,hb=>by
  show run X (au s m) (List.range (2*s.length)) S=_;refine z7 _ _ fun a ha=>?_;have dR:=List.mem_range.1 ha;obtain ⟨t',h1,h2⟩:=MO v (qK (D:=au s m) dR) (De v.sg dR).2;exact (hv a dR).2 ⟨t',by omega,h2⟩
 |d+1,t,S,vv,ht,hB,hS,hl,hv,hb=>by
  have F2:t<(dt s m).length:=by omega
  obtain ⟨x,hx,ho,FQ,hxd⟩:=Wt t F2;have hD:=pN v;obtain ⟨o1,o2,o3,o4,o5,o6,k,hk,Wn⟩:=uA v hx;have s6:aQ x<2*s.length:=by unfold aQ;omega
  have NY:=(yQ (m:=m) v.sg hx).2 ho;have vF:S.ae (aQ x)=false:=by
   cases e:S.ae (aQ x) with
   |false=>rfl
   |true=>
    obtain ⟨t',h1,h2⟩:=(hv _ s6).1 e;rw [←NY] at h2
    have:=y76 v (by omega) F2 h2 (by rw [FQ];exact o5)
    omega
  have J0:(dt s m).drop t=iJ s m t::(dt s m).drop (t+1):=by
   rw [List.drop_eq_getElem_cons F2];congr 1;simp [iJ,F2]
  rw [J0] at hb;simp only [tJ] at hb;cases oI:dy vv (iJ s m t) with
  |mk o yV=>
   rw [oI] at hb;cases o with
   |some c=>cases hb
   |none=>
    simp only at hb;rw [FQ,Wn] at oI;unfold its at oI;rw [Tn k hk.pos,List.map_cons] at oI;simp only [dy] at oI;have ex:((it (aK m) 0 (x:Int))/4).toNat=x/4:=by show ((x:Int)/4).toNat=_;omega
    have ex2:it (aK m) 0 (x:Int)=x:=rfl;rw [ex,ex2] at oI;have d2:aQ x/2=x/4:=by unfold aQ;omega
    have m2:aQ x % 2=x % 2:=by unfold aQ;omega
    by_cases hc:vv.getD (x/4) false=false/\(x:Int)% 2=0
    ·rw [if_pos hc] at oI
     have:=(Prod.mk.inj oI).1
     cases this
    rw [if_neg hc] at oI;have aR:=hS _ s6 vF;have zu: ∃q,br (au s m) S.cr (aQ x)=[(1,S.cr.mk' (aQ x) q,(au s m).nx (aQ x))]/\(vv.getD (x/4) false=true->q=4)/\(vv.getD (x/4) false=false->q=3):=by
     cases e:vv.getD (x/4) false with
     |true=>
      rw [d2,e,if_pos rfl] at aR;exact ⟨4,pI s6 (by rw [d2];exact aR),fun _=>rfl,fun h=>(by cases h)⟩
     |false=>
      rw [d2,e,if_neg (by decide)] at aR;have h1: ¬(x:Int)% 2=0:=fun h=>hc ⟨e,h⟩;exact ⟨3,zK s6 (by rw [d2];show S.st (x/4)=_;rw [aR,m2];omega),fun h=>(by cases h),fun _=>rfl⟩
    obtain ⟨q,zu,hq4,Gc⟩:=zu;have uT:(au s m).nx (aQ x)=aQ (it (aK m) 1 x).toNat:=by rw [Vs v hx ho];rfl
    have hM:=hB.cr.start hD vF (x:=(1,S.cr.mk' (aQ x) q,(au s m).nx (aQ x))) (by rw [zu];exact .head _);rw [uT] at hM;have zx:DS s.length (vv.set (x/4) true) (S.cr.mk' (aQ x) q):=fun a ha p5=>by
     have GJ:a≠aQ x:=fun e=>by rw [e,lk] at p5;cases p5
     rw [dM _ GJ] at p5;by_cases e:a/2=aQ x/2
     ·have sT:(S.cr.mk' (aQ x) q).st (a/2)=q:=by rw [e];exact bG _ _ _
      rw [sT,e,d2,nr (by omega),if_pos rfl];cases e':vv.getD (x/4) false with
      |false=>exact Gc e'
      |true=>
       have f:=hB (aQ x) s6;unfold Fit at f;rw [aR,d2,e',if_pos rfl,aD.i3,vF] at f
       have:a=co (aQ x):=(jV e).resolve_left GJ
       rw [←this] at f;have NF:S.ae a=false:=p5;rw [NF] at f;exact absurd f.2 (by decide)
     ·have sT:(S.cr.mk' (aQ x) q).st (a/2)=S.st (a/2):=bt _ _ e;rw [sT,ns (by omega)];exact hS a ha p5
    obtain ⟨S1,k1,k2,k3,k4,k5,k6,k7,k8⟩:=TG v hx ho hk (run X (au s m) ((List.range' (t+1) d).map hd++List.range (2*s.length))) (k-1) 1 (S.cr.mk' (aQ x) q) (vv.set (x/4) true) yV (by have:=hk.pos;omega) (by omega) hM zx (by rw [List.length_set];exact hl) oI;have tY: ∀a,a<2*s.length->(S1.ae a=true↔ ∃t',t'<t+1/\((aG (au s m) a:Nat):Int)∈iJ s m t'):=fun a ha=>by
     rw [k8];have ho2:=(De (m:=m) v.sg ha).2;have inK:((aG (au s m) a:Nat):Int)∈iJ s m t↔ ∃i,i<k/\a=aQ (it (aK m) i x).toNat:=by
      rw [FQ,Wn,Ev];constructor
      ·rintro ⟨i,h1,h2⟩;exact ⟨i,h1,by rw [h2,Int.toNat_natCast,En]⟩
      ·rintro ⟨i,h1,h2⟩;refine ⟨i,h1,?_⟩;have hR:=o2 _ ((o1 _).2 ⟨i,rfl⟩);obtain ⟨y,hy⟩: ∃y:Nat,it (aK m) i x=y:=⟨(it (aK m) i x).toNat,by unfold aA at hR;omega⟩;have pW:y<4*s.length:=by unfold aA at hR;omega
       have JI:ak s (y:Int)=true:=by rw [←hy,El v hx i];exact ho
       rw [h2,hy,Int.toNat_natCast,←(yQ (m:=m) v.sg pW).2 JI]
     have sw:(S.cr.mk' (aQ x) q).ae a=true↔S.ae a=true\/a=aQ x:=by
      by_cases e:a=aQ x
      ·subst e;rw [lk];simp
      ·rw [dM _ e];show S.ae a=true↔_;simp [e]
     rw [sw,hv a ha];constructor
     ·rintro ((⟨t',h1,h2⟩|h)|⟨i,h1,h2,h3⟩)
      ·exact ⟨t',by omega,h2⟩
      ·exact ⟨t,by omega,inK.2 ⟨0,hk.pos,h⟩⟩
      ·exact ⟨t,by omega,inK.2 ⟨i,h2,h3⟩⟩
     ·rintro ⟨t',h1,h2⟩;by_cases e:t'=t
      ·subst e;obtain ⟨i,h3,h4⟩:=inK.1 h2;by_cases h0:i=0
       ·subst h0;exact .inl (.inr h4)
       ·exact .inr ⟨i,by omega,h3,h4⟩
      ·exact .inl (.inl ⟨t',by omega,h2⟩)
    have ih:=TN X hd Wt d (t+1) S1 yV (by omega) k2 k3 k4 tY hb;rw [List.range'_succ,List.map_cons,hxd];show (if S.ae (aQ x)=true then _ else bA (au s m) S.cr (aQ x) (run X (au s m) ((List.range' (t+1) d).map hd++List.range (2*s.length))))=_;rw [if_neg (by simp [vF])];unfold bA;rw [zu,rV,uT,k1,ih,k5,k6,k7];show X S.i S.j (S.k+1+d)=_;congr 1;omega
omit v in
theorem y77 {X:Int->Int->Nat->Int} (hX:Good X) (hv:bI s m L=true) (hb:mN s m=none):HF X s m L=X 0 0 (L.toNat+(dt s m).length):=by
 have v:=dr hv;have hex: ∀t,∃x:Nat,t<(dt s m).length->x<4*s.length/\ak s (x:Int)=true/\iJ s m t=af (aK m) m.length x:=fun t=>by
  by_cases h:t<(dt s m).length
  ·obtain ⟨x,h1,h2,_,h3⟩:=HS v h;exact ⟨x,fun _=>⟨h1,h2,h3⟩⟩
  ·exact ⟨0,fun h'=>absurd h' h⟩
 obtain ⟨hx,JK⟩:=Classical.axiomOfChoice hex
 have h:=TN v X (fun t=>aQ (hx t)) (fun t ht=>⟨hx t,(JK t ht).1,(JK t ht).2.1,(JK t ht).2.2,rfl⟩) (dt s m).length 0 (Z0 (fun _=>1) L.toNat) (List.replicate s.length false) (by omega) (yH _ (fun _=> .inl (Nat.le_refl _)) _)
  (fun a _ _=>by
   show 1=_;rw [if_neg];simp [List.getD_eq_getElem?_getD,List.getElem?_replicate]
   split<;>simp) (by simp) (fun a _=>⟨fun h=>(by cases h),fun ⟨t',h1,_⟩=>(by omega)⟩) (by rw [List.drop_zero];exact hb)
 unfold HF;rw [←show run X (au s m) (List.map (fun t=>aQ (hx t)) (List.range' 0 (dt s m).length)++List.range (2*s.length)) (Z0 (fun _=>1) L.toNat)=X 0 0 (L.toNat+(dt s m).length) from h];refine ord (pN v) (A8 hv) hX (yH _ (fun _=> .inl (Nat.le_refl _)) _) (yM (au s m) _ _) ⟨fun a ha=>?_,fun a ha _=>List.mem_append_right _ (List.mem_range.2 ha)⟩;rcases List.mem_append.1 ha with h|h
 ·obtain ⟨t,ht,rfl⟩:=List.mem_map.1 h
  have:=(JK t (by simpa [List.mem_range'] using ht)).1
  show aQ (hx t)<2*s.length;unfold aQ;omega
 ·exact List.mem_range.1 h
end
end Hs
namespace Hs
section
variable {n1:Nat} {S S1 S2:WS}
end
section
variable {D D1 D2:Sh} {xo yo:Nat}
end
end Hs
namespace Hs
section
variable {D D1 D2:Sh} {xo yo:Nat}
structure Lin {P:Type} (F:(P->Int)->Int):Prop where
 add: ∀f g,F (fun p=>f p+g p)=F f+F g
 mul: ∀(c:Int) f,F (fun p=>c*f p)=c*F f
end
end Hs
section
variable {n:Nat} {mt jn mt':Int->Int} {x y:Int}
end
section
variable {m:List Int} {n:Nat}
end
namespace Sp
open Classical
section
variable {N:Nat} {si al mv:Nat->Nat}
end
end Sp
section
variable {s1 s2 m1 m2:List Int} {L1 L2:Int} {n1 n2:Nat}
end
namespace Hs
open Sp (eY aV aw itn SC aZ)
section
variable {s1 m1 s2 m2:List Int} {L1 L2:Int}
end
theorem Mg {D:Sh} {X X':Int->Int->Nat->Int} {j0:Int} {k0:Nat} (h: ∀i j k,j0<=j->k0<=k->X i j k=X' i j k): ∀(B:List Nat) (S:WS),j0<=S.j->k0<=S.k->run X D B S=run X' D B S
 |[],S,h1,h2=>h _ _ _ h1 h2
 |a::B,S,h1,h2=>by
  show (if S.ae a=true then _ else bA D S.cr a _)=if S.ae a=true then _ else bA D S.cr a _
  split
  ·exact Mg h B S h1 h2
  ·unfold bA;have bj: ∀(S:WS) (b:Nat),∀x∈br D S b,S.j<=x.2.1.j:=fun S b x hx=>by
    unfold br at hx
    split at hx
    ·cases hx
    split at hx
    ·rw [List.mem_singleton] at hx;subst hx;exact Int.le_refl _
    split at hx
    ·rw [List.mem_singleton] at hx;subst hx;exact Int.le_refl _
    split at hx
    ·rw [List.mem_singleton] at hx;subst hx;exact Int.le_refl _
    split at hx
    ·rw [List.mem_singleton] at hx;subst hx;exact Int.le_refl _
    split at hx
    ·rcases List.mem_cons.1 hx with hx|hx
     ·subst hx;show S.j<=S.j+0;omega
     ·rw [List.mem_singleton] at hx;subst hx;show S.j<=S.j+1;omega
    ·cases hx
   refine qZ fun x hx=>Bb (fun S' _=>j0<=S'.j/\k0<=S'.k) (fun S' b ⟨g1,g2⟩ _ _ y hy=>⟨Int.le_trans g1 (bj S' b y hy),by rw [rQ hy];exact g2⟩) (fun S' b ⟨g1,g2⟩ _=>Mg h B S' g1 g2) ⟨Int.le_trans h1 (bj S.cr a x hx),by rw [rQ hx];show k0<=S.k+1;omega⟩
theorem XT {D:Sh} {X X':Int->Int->Nat->Int} {k0:Nat} (h: ∀i j k,0<=j->k0+1<=k->X i j k=X' i j k) {b:Nat} (B:List Nat) {st:Nat->Nat}:run X D (b::B) (Z0 st k0)=run X' D (b::B) (Z0 st k0):=by
 show bA D (Z0 st k0).cr b (run X D B)=bA D (Z0 st k0).cr b (run X' D B)
 have: ∀X,bA D (Z0 st k0).cr b (run X D B)=run X D (b::B) (Z0 st k0):=fun _=>rfl
 unfold bA;have bj: ∀(S:WS) (b:Nat),∀x∈br D S b,S.j<=x.2.1.j:=fun S b x hx=>by
  unfold br at hx
  split at hx
  ·cases hx
  split at hx
  ·rw [List.mem_singleton] at hx;subst hx;exact Int.le_refl _
  split at hx
  ·rw [List.mem_singleton] at hx;subst hx;exact Int.le_refl _
  split at hx
  ·rw [List.mem_singleton] at hx;subst hx;exact Int.le_refl _
  split at hx
  ·rw [List.mem_singleton] at hx;subst hx;exact Int.le_refl _
  split at hx
  ·rcases List.mem_cons.1 hx with hx|hx
   ·subst hx;show S.j<=S.j+0;omega
   ·rw [List.mem_singleton] at hx;subst hx;show S.j<=S.j+1;omega
  ·cases hx
 refine qZ fun x hx=>Bb (fun S' _=>0<=S'.j/\k0+1<=S'.k) (fun S' b ⟨g1,g2⟩ _ _ y hy=>⟨Int.le_trans g1 (bj S' b y hy),by rw [rQ hy];exact g2⟩) (fun S' b ⟨g1,g2⟩ _=>Mg h B S' g1 g2) ⟨Int.le_trans (show 0<=(Z0 st k0).cr.j from Int.le_refl _) (bj _ b x hx),by rw [rQ hx];exact Nat.le_refl _⟩
theorem y78 {D:Sh} (B:List Nat) (S:WS):Lin (fun X:Int×Int×Nat->Int=>run (fun i j k=>X (i,j,k)) D B S):=by
 constructor
 ·intro f g;have key: ∀(B:List Nat) (S:WS),run (fun i j k=>f (i,j,k)+g (i,j,k)) D B S=run (fun i j k=>f (i,j,k)) D B S+run (fun i j k=>g (i,j,k)) D B S:=fun B=>by
   induction B with
   |nil=>intro S;rfl
   |cons a B ih=>
    intro S;show (if S.ae a=true then _ else bA D S.cr a _)=(if S.ae a=true then _ else bA D S.cr a _)+(if S.ae a=true then _ else bA D S.cr a _)
    split
    ·exact ih S
    ·rw [←Rr];congr 1;funext T;exact ih T
  exact key B S
 ·intro c f;have key: ∀(B:List Nat) (S:WS),run (fun i j k=>c*f (i,j,k)) D B S=c*run (fun i j k=>f (i,j,k)) D B S:=fun B=>by
   induction B with
   |nil=>intro S;rfl
   |cons a B ih=>
    intro S;show (if S.ae a=true then _ else bA D S.cr a _)=c*(if S.ae a=true then _ else bA D S.cr a _)
    split
    ·exact ih S
    ·rw [←y7k];congr 1;funext T;exact ih T
  exact key B S
end Hs
section
variable {s m:List Int} {L:Int} {o nu:Nat->Nat}
end
end Go.Proofs.YtjpbeacamoijhaaGreatDoor
