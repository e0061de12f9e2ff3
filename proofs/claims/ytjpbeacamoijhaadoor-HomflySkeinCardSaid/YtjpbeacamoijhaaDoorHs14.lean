/- Plain: the shadow of a diagram; its circles where all crossings are smoothed. -/
import Derived.Test.YtjpbeacamoijhaaDoorHs13
import Derived.Test.YtjpbeacamoijhaaDoorSk1
import Derived.Test.YtjpbeacamoijhaaDoorZo
namespace Go.Proofs.YtjpbeacamoijhaaDoor
set_option linter.unusedSimpArgs false
set_option linter.unusedVariables false
namespace Hs
open Sp (Sph siD PermN itn SC alD)
def cod (h:Nat):Nat:=2*(h/4)+h % 2
def oG (sg:Nat->Int) (a:Nat):Nat:=if a % 2=0 then 4*(a/2)+2 else if sg (a/2)=1 then 4*(a/2)+1 else 4*(a/2)+3
def shD (s m:List Int):Sh:=⟨s.length,fun a=>cod (alD m (oG (fun c=>s.getD c 0) a)),fun c=>s.getD c 0⟩
section
variable {s m:List Int} {L:Int}
theorem yzr (hs:yb7 s s.length) {c:Nat} (hc:c<s.length):outB s ((inH (shD s m) (2*c):Nat):Int)=false/\outB s ((inH (shD s m) (2*c+1):Nat):Int)=false/\outB s ((outH (shD s m) (2*c):Nat):Int)=true/\outB s ((outH (shD s m) (2*c+1):Nat):Int)=true:=by
 obtain ⟨a0,a1,a2,a3⟩:=yng s c
 rw [in0,in1,out0,out1]
 show _/\outB s ((if s.getD c 0=1 then 4*c+3 else 4*c+1:Nat):Int)=false/\_/\outB s ((if s.getD c 0=1 then 4*c+1 else 4*c+3:Nat):Int)=true
 refine ⟨a0,?_,a2,?_⟩
 ·rcases hs c hc with h|h
  ·rw [if_pos h,a3,h];rfl
  ·rw [if_neg (by omega),a1,h];rfl
 ·rcases hs c hc with h|h
  ·rw [if_pos h,a1,h];rfl
  ·rw [if_neg (by omega),a3,h];rfl
theorem ygl (hs:yb7 s s.length) {a:Nat} (ha:a<2*s.length):outB s ((inH (shD s m) a:Nat):Int)=false/\outB s ((outH (shD s m) a:Nat):Int)=true:=by
 have h:=yzr (m:=m) hs (c:=a/2) (by omega)
 have e:a=2*(a/2)\/a=2*(a/2)+1:=by omega
 rcases e with e|e
 ·rw [e];exact ⟨h.1,h.2.2.1⟩
 ·rw [e];exact ⟨h.2.1,h.2.2.2⟩
theorem yr3 (a:Nat):cod (inH (shD s m) a)=a:=by
 unfold cod inH;split<;>try omega
 split<;>omega
theorem ykw (a:Nat):cod (outH (shD s m) a)=a:=by
 unfold cod outH;split<;>try omega
 split<;>omega
theorem ydi (hs:yb7 s s.length) {h:Nat} (hh:h<4*s.length):(outB s (h:Int)=false->h=inH (shD s m) (cod h))/\(outB s (h:Int)=true->h=outH (shD s m) (cod h)):=by
 have hc:h/4<s.length:=by omega
 obtain ⟨b1,b2,b3,b4⟩:=yzr (m:=m) hs hc
 have e:h=4*(h/4)\/h=4*(h/4)+1\/h=4*(h/4)+2\/h=4*(h/4)+3:=by omega
 obtain ⟨a0,a1,a2,a3⟩:=yng s (h/4)
 generalize h/4=c at*
 have i1:=in1 (D:=shD s m) c
 have o1:=out1 (D:=shD s m) c
 have hsg:(shD s m).sg c=s.getD c 0:=rfl
 rw [hsg] at i1 o1
 rcases e with e|e|e|e<;>subst e
 ·rw [show cod (4*c)=2*c by unfold cod;omega,in0,out0]
  exact ⟨fun _=>rfl,fun h=>(by rw [a0] at h;cases h)⟩
 ·rw [show cod (4*c+1)=2*c+1 by unfold cod;omega,i1,o1,a1]
  rcases hs c hc with h|h
  ·rw [if_pos h,if_pos h,h];exact ⟨fun h=>(by cases h),fun _=>rfl⟩
  ·rw [if_neg (by omega),if_neg (by omega),h];exact ⟨fun _=>rfl,fun h=>(by cases h)⟩
 ·rw [show cod (4*c+2)=2*c by unfold cod;omega,in0,out0]
  exact ⟨fun h=>(by rw [a2] at h;cases h),fun _=>rfl⟩
 ·rw [show cod (4*c+3)=2*c+1 by unfold cod;omega,i1,o1,a3]
  rcases hs c hc with h|h
  ·rw [if_pos h,if_pos h,h];exact ⟨fun _=>rfl,fun h=>(by cases h)⟩
  ·rw [if_neg (by omega),if_neg (by omega),h];exact ⟨fun h=>(by cases h),fun _=>rfl⟩
theorem yd1 (v:ybd s m L) {h:Nat} (hh:h<4*s.length):alD m h<4*s.length/\((alD m h:Nat):Int)=m.getD h 0/\outB s ((alD m h:Nat):Int)= !outB s (h:Int):=by
 obtain ⟨h1,h2,h3,h4,h5⟩:=v.mt h hh
 have e:((alD m h:Nat):Int)=m.getD h 0:=by unfold alD;omega
 refine ⟨by omega,e,?_⟩
 rw [e]
 revert h5
 cases outB s (h:Int)<;>cases outB s (m.getD h 0)<;>simp
theorem yd7 (v:ybd s m L) {a:Nat} (ha:a<2*s.length):alD m (outH (shD s m) a)=inH (shD s m) ((shD s m).nx a):=by
 have hl:=ycb (D:=shD s m) ha
 obtain ⟨h1,h2,h3⟩:=yd1 v hl
 rw [(ygl v.sg ha).2] at h3
 exact (ydi v.sg h1).1 h3
theorem ycj (v:ybd s m L):Ok (shD s m):=by
 refine ⟨fun a ha=>?_,fun a b ha hb e=>?_,fun c hc=>v.sg c hc⟩
 ·have hl:=ycb (D:=shD s m) ha
  have:=(yd1 v hl).1
  show cod (alD m (outH (shD s m) a))<2*s.length
  unfold cod;omega
 ·have h1:=yd7 v ha
  have h2:=yd7 v hb
  rw [e,←h2] at h1
  have la:=ycb (D:=shD s m) ha
  have lb:=ycb (D:=shD s m) hb
  have k1:=v.mt _ la
  have k2:=v.mt _ lb
  have e1:=(yd1 v la).2.1
  have e2:=(yd1 v lb).2.1
  have:((outH (shD s m) a:Nat):Int)=(outH (shD s m) b:Nat):=by rw [←k1.2.2.2.1,←k2.2.2.2.1,←e1,←e2,h1]
  rw [←ykw (s:=s) (m:=m) a,←ykw (s:=s) (m:=m) b]
  congr 1
  omega
theorem ykx (hv:yai s m L=true):Pla (shD s m) (alD m):=by
 have v:=yal hv
 obtain ⟨hd,hsp⟩:=Sp.dia_of hv
 exact ⟨hd.sph.1 hsp,fun a ha=>yd7 v ha⟩
def Z0 (st:Nat->Nat) (k:Nat):WS:=⟨st,fun _=>false,0,0,k⟩
theorem yi2 (D:Sh) {st:Nat->Nat} (h: ∀c,st c<=1\/st c=5) (k:Nat):Bd D (Z0 st k):=fun a ha=>by
 unfold Fit
 exact (FitP.i0 (h _)).2 ⟨rfl,fun h=>(by cases h)⟩
theorem yh2 (D:Sh) (st:Nat->Nat) (k:Nat):Cov D (List.range (2*D.n)) (Z0 st k):=⟨fun a ha=>List.mem_range.1 ha,fun a ha _=>List.mem_range.2 ha⟩
theorem yoc {D:Sh} (hD:Ok D) (X:Int->Int->Nat->Int): ∀(B:List Nat) (S:WS),Bd D S->Cov D B S->(∀c,S.st c=5\/S.st c=2\/S.st c=4)->
  ∃T:List Nat,(∀t∈T,t<2*D.n/\S.vis t=false)/\T.Pairwise (fun t t'=> ¬SC (nxB D fun _=>true) t t')/\(∀a,a<2*D.n->S.vis a=false-> ∃t∈T,SC (nxB D fun _=>true) t a)/\run X D B S=X S.i S.j (S.k+T.length)
 |[],S,hB,hC,hs=>⟨[],by simp, .nil,fun a ha hv=>(by have:=hC.all a ha hv;cases this),rfl⟩
 |a::B,S,hB,hC,hs=>by
  cases hv:S.vis a with
  |true=>
   obtain ⟨T,h1,h2,h3,h4⟩:=yoc hD X B S hB ⟨fun b hb=>hC.lt b (.tail _ hb),fun b hb hvb=>(List.mem_cons.1 (hC.all b hb hvb)).resolve_left fun e=>by rw [e,hv] at hvb;cases hvb⟩ hs
   refine ⟨T,h1,h2,h3,?_⟩
   rw [←h4]
   show (if S.vis a=true then _ else _)=_
   rw [if_pos hv]
  |false=>
   have hal:=hC.lt a (.head _)
   obtain ⟨l,C,hun,hi1,hi2⟩:=circ hD hB hal hv
   have sm1: ∀b,b<2*D.n->S.vis b=false->sm0 S (b/2)=true:=fun b hb hvb=>by
    refine yen.2 ?_
    have f:=hB b hb
    unfold Fit at f
    rcases hs (b/2) with h|h|h
    ·exact .inl h
    ·exact .inr h
    ·rw [h,FitP.i4,hvb] at f;cases f.1
   have hp:=yer hD (sm0 S)
   have same: ∀i,itn (nxB D (sm0 S)) i a=itn (nxB D fun _=>true) i a:=fun i=>by
    induction i with
    |zero=>rfl
    |succ i ih=>
     simp only [itn]
     rw [←ih]
     have hk:=hi1 i
     have:sm0 S (itn (nxB D (sm0 S)) i a/2)=true:=sm1 _ (hp.itn_lt hal i) (hun _ hk)
     generalize itn (nxB D (sm0 S)) i a=b at*
     unfold nxB;rw [this]
   have hQ:QK D (kOf l) (sm0 S) (fun b=>co b % 2) S.st l S D.n:=QK.of hB C hun fun b _ _ _ h=>by have:=hs (b/2);omega
   have hO:Orc' (sm0 S) S.st l:=fun b hb hsub=>by
    have hk:kOf l b=true:=ybq.2 (hsub.subset (by simp))
    rw [sm1 b (C.lt' hk) (hun b hk)] at hb;cases hb
   obtain ⟨t1,t2⟩:=ydb (X:=X) hD hB C hQ (hO.ord C.ty) (fun b=>by show co (co b)% 2=_;rw [yax]) B
   have hs': ∀c,(TK (kOf l) (sm0 S) S).cr.st c=5\/(TK (kOf l) (sm0 S) S).cr.st c=2\/(TK (kOf l) (sm0 S) S).cr.st c=4:=fun c=>by
    have k1:kOf l (2*c)=true->sm0 S c=true:=fun h=>by
     have:=sm1 _ (C.lt' h) (hun _ h);rwa [show 2*c/2=c by omega] at this
    have k2:kOf l (2*c+1)=true->sm0 S c=true:=fun h=>by
     have:=sm1 _ (C.lt' h) (hun _ h);rwa [show (2*c+1)/2=c by omega] at this
    show (if kOf l (2*c)&&kOf l (2*c+1) then 4 else if kOf l (2*c) then (if S.vis (2*c+1) then 4 else if sm0 S c then 2 else 3) else if kOf l (2*c+1) then (if S.vis (2*c) then 4 else if sm0 S c then 2 else 3) else S.st c)=5\/(if kOf l (2*c)&&kOf l (2*c+1) then 4 else if kOf l (2*c) then (if S.vis (2*c+1) then 4 else if sm0 S c then 2 else 3) else if kOf l (2*c+1) then (if S.vis (2*c) then 4 else if sm0 S c then 2 else 3) else S.st c)=2\/(if kOf l (2*c)&&kOf l (2*c+1) then 4 else if kOf l (2*c) then (if S.vis (2*c+1) then 4 else if sm0 S c then 2 else 3) else if kOf l (2*c+1) then (if S.vis (2*c) then 4 else if sm0 S c then 2 else 3) else S.st c)=4
    cases e1:kOf l (2*c) with
    |true=>
     rw [k1 e1]
     cases kOf l (2*c+1)<;>cases S.vis (2*c+1)<;>simp
    |false=>
     cases e2:kOf l (2*c+1) with
     |true=>rw [k2 e2];cases S.vis (2*c)<;>simp
     |false=>simpa using hs c
   obtain ⟨T,h1,h2,h3,h4⟩:=yoc hD X B (TK (kOf l) (sm0 S) S).cr t2.cr (yrd hC C.hd) hs'
   have tv: ∀b,(TK (kOf l) (sm0 S) S).cr.vis b=(S.vis b||kOf l b):=fun _=>rfl
   have inK: ∀b,SC (nxB D fun _=>true) a b->kOf l b=true:=fun b ⟨i,hi⟩=>by rw [←hi,←same];exact hi1 i
   refine ⟨a::T,fun t ht=>?_,List.pairwise_cons.2 ⟨fun t ht hsc=>?_,h2⟩,fun b hb hvb=>?_,?_⟩
   ·rcases List.mem_cons.1 ht with rfl|ht
    ·exact ⟨hal,hv⟩
    ·have:=h1 t ht
     rw [tv] at this
     exact ⟨this.1,by cases e:S.vis t with
      |false=>rfl
      |true=>rw [e] at this;cases this.2⟩
   ·have:=(h1 t ht).2
    rw [tv,inK t hsc,Bool.or_true] at this;cases this
   ·cases hk:kOf l b with
    |true=>
     obtain ⟨i,hi⟩:=hi2 b hk
     exact ⟨a, .head _,i,by rw [hi,same]⟩
    |false=>
     obtain ⟨t,ht,h⟩:=h3 b hb (by rw [tv,hvb,hk];rfl)
     exact ⟨t, .tail _ ht,h⟩
   ·rw [t1,h4]
    show X S.i S.j (S.k+1+T.length)=X S.i S.j (S.k+(T.length+1))
    congr 1;omega
def chO (s:List Int) (c:Nat):Bool:=s.getD c 0== -1
theorem yp4 (hs:yb7 s s.length) {a:Nat} (ha:a<2*s.length):jnB (chO s (a/2)) (inH (shD s m) a:Nat)=(outH (shD s m) (co a):Nat)/\jnB (chO s (a/2)) (outH (shD s m) a:Nat)=(inH (shD s m) (co a):Nat):=by
 have e:a=2*(a/2)\/a=2*(a/2)+1:=by omega
 have hc:a/2<s.length:=by omega
 generalize a/2=c at*
 obtain ⟨j0,j1,j2,j3⟩:=jn4 (chO s c) c
 have i1:=in1 (D:=shD s m) c
 have o1:=out1 (D:=shD s m) c
 have hsg:(shD s m).sg c=s.getD c 0:=rfl
 rw [hsg] at i1 o1
 rcases e with e|e<;>subst e
 ·rw [co0,in0,out0,i1,o1,j0,j2]
  unfold chO
  rcases hs c hc with h|h<;>rw [h]<;>exact ⟨rfl,rfl⟩
 ·rw [co1,in0,out0,i1,o1]
  unfold chO at*
  rcases hs c hc with h|h<;>rw [h] at j1 j3⊢
  ·exact ⟨j3,j1⟩
  ·exact ⟨j1,j3⟩
theorem yh3 (D:Sh) (b:Nat):inH D b/4=b/2:=by
 unfold inH
 split
 ·omega
 ·split<;>omega
theorem yi3 (D:Sh) (b:Nat):outH D b/4=b/2:=by
 unfold outH
 split
 ·omega
 ·split<;>omega
theorem y21 (v:ybd s m L) {a:Nat} (ha:a<2*s.length) {z:Int} (h:Cir (fun x=>m.getD x.toNat 0) (fun x=>jnB (chO s (x/4).toNat) x) (inH (shD s m) a:Nat) z):
  ∃b,b<2*s.length/\((z=(inH (shD s m) b:Nat)/\SC (nxB (shD s m) fun _=>true) a b)\/(z=(outH (shD s m) b:Nat)/\SC (nxB (shD s m) fun _=>true) a ((shD s m).nx b))):=by
 have hD:=ycj v
 have hp:=yer hD fun _=>true
 have d4i: ∀b,((inH (shD s m) b:Nat):Int)/4=(b/2:Nat):=fun b=>by have:=yh3 (shD s m) b;omega
 have d4o: ∀b,((outH (shD s m) b:Nat):Int)/4=(b/2:Nat):=fun b=>by have:=yi3 (shD s m) b;omega
 induction h with
 |refl=>exact ⟨a,ha, .inl ⟨rfl, .refl _ _⟩⟩
 |mate _ ih=>
  obtain ⟨b,hb,⟨e,h⟩|⟨e,h⟩⟩:=ih
  ·obtain ⟨p,hpl,hpe⟩:=ykp hD hb
   refine ⟨p,hpl, .inr ⟨?_,by rw [hpe];exact h⟩⟩
   rw [e]
   show m.getD (Int.toNat ((inH (shD s m) b:Nat):Int)) 0=_
   rw [Int.toNat_natCast,←hpe,←yd7 v hpl]
   have lo:=ycb (D:=shD s m) hpl
   have k:=v.mt _ lo
   have e1:=(yd1 v lo).2.1
   rw [←k.2.2.2.1,←e1,Int.toNat_natCast]
  ·refine ⟨(shD s m).nx b,hD.lt _ hb, .inl ⟨?_,h⟩⟩
   rw [e]
   show m.getD (Int.toNat ((outH (shD s m) b:Nat):Int)) 0=_
   rw [Int.toNat_natCast,←yd7 v hb,(yd1 v (ycb (D:=shD s m) hb)).2.1]
 |join _ ih=>
  obtain ⟨b,hb,⟨e,h⟩|⟨e,h⟩⟩:=ih
  ·refine ⟨co b,ya4 hb, .inr ⟨?_,h.trans ⟨1,rfl⟩⟩⟩
   rw [e]
   show jnB (chO s (((inH (shD s m) b:Nat):Int)/4).toNat) _=_
   rw [d4i,Int.toNat_natCast]
   exact (yp4 v.sg hb).1
  ·refine ⟨co b,ya4 hb, .inl ⟨?_,?_⟩⟩
   ·rw [e]
    show jnB (chO s (((outH (shD s m) b:Nat):Int)/4).toNat) _=_
    rw [d4o,Int.toNat_natCast]
    exact (yp4 v.sg hb).2
   ·have:SC (nxB (shD s m) fun _=>true) (co b) ((shD s m).nx b):=⟨1,by show (shD s m).nx (co (co b))=_;rw [yax]⟩
    exact h.trans (this.symm hp (ya4 hb))
theorem y22 (v:ybd s m L) {a:Nat} (ha:a<2*s.length) {b:Nat} (h:SC (nxB (shD s m) fun _=>true) a b):Cir (fun x=>m.getD x.toNat 0) (fun x=>jnB (chO s (x/4).toNat) x) (inH (shD s m) a:Nat) (inH (shD s m) b:Nat):=by
 have hD:=ycj v
 have hp:=yer hD fun _=>true
 obtain ⟨i,rfl⟩:=h
 induction i with
 |zero=>exact .refl _
 |succ i ih=>
  have hb:=hp.itn_lt ha i
  simp only [itn]
  generalize itn (nxB (shD s m) fun _=>true) i a=b at*
  have h1:=ih.join.mate
  have d4i:((inH (shD s m) b:Nat):Int)/4=(b/2:Nat):=by have:=yh3 (shD s m) b;omega
  have e:(fun x:Int=>m.getD x.toNat 0) ((fun x:Int=>jnB (chO s (x/4).toNat) x) (inH (shD s m) b:Nat))=(inH (shD s m) (nxB (shD s m) (fun _=>true) b):Nat):=by
   show m.getD (Int.toNat (jnB (chO s (((inH (shD s m) b:Nat):Int)/4).toNat) _)) 0=_
   rw [d4i,Int.toNat_natCast,(yp4 v.sg hb).1,Int.toNat_natCast,←(yd1 v (ycb (D:=shD s m) (ya4 hb))).2.1,yd7 v (ya4 hb)]
   rfl
  rw [←e];exact h1
theorem seif (hv:yai s m L=true) (X:Int->Int->Nat->Int) (k:Nat) {B:List Nat} (hC:Cov (shD s m) B (Z0 (fun _=>5) k)):run X (shD s m) B (Z0 (fun _=>5) k)=X 0 0 (k+cirS m s.length (chO s)):=by
 have v:=yal hv
 have hD:=ycj v
 have hp:=pmOk hv
 obtain ⟨T,h1,h2,h3,h4⟩:=yoc hD X B (Z0 (fun _=>5) k) (yi2 _ (fun _=> .inr rfl) k) hC (fun _=> .inl rfl)
 rw [h4]
 have hR:=yp3 hp.ok hp.inv hp.ne (ch:=chO s)
 have:roots (mgB m (chO s) s.length)=(T.map fun t=>inH (shD s m) t).length:=by
  refine ynh hR.rep (fun x hx=>?_) ?_ (fun x hx=>?_)
  ·obtain ⟨t,ht,rfl⟩:=List.mem_map.1 hx
   exact yhx (D:=shD s m) (h1 t ht).1
  ·rw [List.pairwise_map]
   refine h2.imp_of_mem fun {a b} ha hb hn e=>hn ?_
   have la:=(h1 a ha).1
   have lb:=(h1 b hb).1
   obtain ⟨c,hc,⟨e1,e2⟩|⟨e1,e2⟩⟩:=y21 v la ((hR.iff _ _ (yhx (D:=shD s m) la) (yhx (D:=shD s m) lb)).1 e)
   ·have:b=c:=by
     rw [←yr3 (s:=s) (m:=m) b,←yr3 (s:=s) (m:=m) c];congr 1;omega
    rw [this];exact e2
   ·have k1:=(ygl (m:=m) v.sg lb).1
    rw [e1,(ygl (m:=m) v.sg hc).2] at k1;cases k1
  ·have key: ∀a,a<2*s.length-> ∃y∈T.map fun t=>inH (shD s m) t,(mgB m (chO s) s.length).getD (inH (shD s m) a) 0=(mgB m (chO s) s.length).getD y 0:=fun a ha=>by
    obtain ⟨t,ht,hsc⟩:=h3 a ha rfl
    have lt:=(h1 t ht).1
    exact ⟨_,List.mem_map.2 ⟨t,ht,rfl⟩,((hR.iff _ _ (yhx (D:=shD s m) lt) (yhx (D:=shD s m) ha)).2 (y22 v lt hsc)).symm⟩
   cases ho:outB s (x:Int) with
   |false=>
    have e:=(ydi (m:=m) v.sg hx).1 ho
    rw [e];exact key _ (by unfold cod;omega)
   |true=>
    have e:=(ydi (m:=m) v.sg hx).2 ho
    have hcl:cod x<2*s.length:=by unfold cod;omega
    obtain ⟨y,hy,e2⟩:=key _ (hD.lt _ hcl)
    refine ⟨y,hy,?_⟩
    rw [←e2]
    refine (hR.iff _ _ hx (yhx (D:=shD s m) (hD.lt _ hcl))).2 ?_
    have:=Cir.mate (Cir.refl (mt:=fun x:Int=>m.getD x.toNat 0) (jn:=fun x:Int=>jnB (chO s (x/4).toNat) x) (x:Int))
    rw [←yd7 v hcl,←e,(yd1 v hx).2.1]
    exact this
 show X 0 0 (k+T.length)=X 0 0 (k+roots (mgB m (chO s) s.length))
 rw [this,List.length_map]
end
end Hs
end Go.Proofs.YtjpbeacamoijhaaDoor
