/- Plain: a circle below may be walked first or last. -/
import Derived.Test.YtjpbeacamoijhaaGreatDoorZe
namespace Go.Proofs.YtjpbeacamoijhaaGreatDoor
set_option linter.unusedSimpArgs false
set_option linter.unusedVariables false
namespace Hs
open Sp (fq bt)
section
variable {D:Sh} {K sm:Nat->Bool} {r dR:Nat->Nat} {l0:List (Nat×Bool)} {b0:Nat}
theorem QK.sc {l:List (Nat×Bool)} {S:WS} {x0:Nat} (h:QK D K sm r dR l S x0) (u v:Int):QK D K sm r dR l (S.sc u v) x0:=⟨h.ae,h.q,h.q2⟩
theorem QK.cr {l:List (Nat×Bool)} {S:WS} {x0:Nat} (h:QK D K sm r dR l S x0):QK D K sm r dR l S.cr x0:=⟨h.ae,h.q,h.q2⟩
theorem QK.Bm (C:js D K sm l0 b0) {S:WS} {a:Nat} {p:Bool} {l1 l:List (Nat×Bool)} (hl:l0=l1++(a,p)::l) (h:QK D K sm r dR ((a,p)::l) S D.n) (hc:K (co a)=false) (v:Nat):QK D K sm r dR l (S.mk' a v) (a/2):=by
 have ha:K a=true:=(C.mem a).2 (by rw [hl];simp);have hnd:=C.nd;rw [hl,List.map_append,List.map_cons] at hnd;have CW:a∉l.map Prod.fst:=(List.nodup_cons.1 (List.nodup_append.1 hnd).2.1).1
 have ne: ∀b,b<2*D.n->b/2≠a/2->(S.mk' a v).st (b/2)=S.st (b/2)/\(S.mk' a v).ae b=S.ae b/\(S.mk' a v).ae (co b)=S.ae (co b):=fun b _ hb=>
  ⟨bG _ _ hb,dZ S fun e=>hb (by rw [e]),dZ S fun e=>hb (by rw [<-dJ b,e])⟩
 refine ⟨fun b hb=>?_,fun b hb hk dE ix=>?_,fun b hb hk dE=>?_⟩
 ·by_cases e:b=a
  ·rw [e,l9];simp [CW]
  ·rw [dZ S e,h.ae b hb];simp [e]
 ·obtain ⟨e1,e2,e3⟩:=ne b hb ix;rw [e1,e2,e3];exact h.q b hb hk dE (by omega)
 ·have:b/2≠a/2:=fun e=>by
   rcases kj e with e|e
   ·rw [e,hc] at dE;cases dE
   ·rw [e,hc] at hk;cases hk
  obtain ⟨e1,e2,e3⟩:=ne b hb this;rw [e1,e2,e3];exact h.q2 b hb hk dE
theorem QK.mk3 (C:js D K sm l0 b0) {l:List (Nat×Bool)} {S:WS} {y:Nat} (hy:K y=false) (EF:K (co y)=true) (hc:S.ae (co y)=true) (h:QK D K sm r dR l S (y/2)) (x1:Nat):QK D K sm r dR l (S.mk' y 4) x1:=by
 have ne: ∀b,b/2≠y/2->(S.mk' y 4).st (b/2)=S.st (b/2)/\(S.mk' y 4).ae b=S.ae b/\(S.mk' y 4).ae (co b)=S.ae (co b):=fun b hb=>
  ⟨bG _ _ hb,dZ S fun e=>hb (by rw [e]),dZ S fun e=>hb (by rw [<-dJ b,e])⟩
 refine ⟨fun b hb=>?_,fun b hb hk dE ix=>?_,fun b hb hk dE=>?_⟩
 ·rw [dZ S fun e=>by rw [e,hy] at hb;cases hb];exact h.ae b hb
 ·by_cases e:b/2=y/2
  ·rcases kj e with e|e
   ·subst e;rw [show (S.mk' b 4).st (b/2)=4 from bQ _ _ _,l9,dZ S (rN b),hc];rfl
   ·rw [e,EF] at hk;cases hk
  ·obtain ⟨e1,e2,e3⟩:=ne b e;rw [e1,e2,e3];exact h.q b hb hk dE e
 ·have:b/2≠y/2:=fun e=>by
   rcases kj e with e|e
   ·rw [e,hy] at hk;cases hk
   ·rw [e,eY,hy] at dE;cases dE
  obtain ⟨e1,e2,e3⟩:=ne b this;rw [e1,e2,e3];exact h.q2 b hb hk dE
theorem TE (hD:Ok D) (C:js D K sm l0 b0) (hO:AQ K dR l0) (hr: ∀a,r a=a % 2) {k:WS->Int} {S:WS} {a:Nat} {p:Bool} {l1 l:List (Nat×Bool)} (hl:l0=l1++(a,p)::l) (h:QK D K sm r dR ((a,p)::l) S D.n)
  (H: ∀S',QK D K sm r dR l S' D.n->W D (b9 b0) S' (iK D a p) (fun S _=>k S)=Lw D (mJ D l) k (TK K sm S')):
  (sumB (br D S a) fun S' d=>W D (b9 b0) S' d fun S _=>k S)=Lw D (mJ D ((a,p)::l)) k (TK K sm S):=by
 have hm:(a,p)∈l0:=by rw [hl];simp
 have ha:K a=true:=(C.mem a).2 (by rw [hl];simp);have bH:a<2*D.n:=C.lt _ hm;have hp:p= !sm (a/2):=C.ty _ hm;have qy:S.ae a=false:=(h.ae a ha).2 (by simp);have bF:=fj bH;by_cases hd:K (co a)=true\/S.ae (co a)=true\/sm (a/2)=true
 ·rw [h.iU C hO hl (hd.elim .inl fun hd=> .inr (hd.elim .inl fun hd=> .inr (.inl hd))),sN,H _ (h.p6 C hl rfl (.inl rfl)),x9 _ _ ha];show _=Lw D (if p=true then (co a,sl D a)::mJ D l else mJ D l) k _;by_cases az:p=true
  ·rw [zzJ az];show _=Lt D (co a) _ _ _;rw [sP];show (S.ae (co a)||K (co a))=true;rcases hd with h|h|h
   ·rw [h,Bool.or_true]
   ·rw [h];rfl
   ·rw [h] at hp;rw [hp] at az;cases az
  ·rw [zzI az]
 ·have hk:K (co a)=false:=by cases e:K (co a) with
   |false=>rfl
   |true=>exact absurd (.inl e) hd
  have hv:S.ae (co a)=false:=by cases e:S.ae (co a) with
   |false=>rfl
   |true=>exact absurd (.inr (.inl e)) hd
  have hs:sm (a/2)=false:=by cases e:sm (a/2) with
   |false=>rfl
   |true=>exact absurd (.inr (.inr e)) hd
  have az:p=true:=by rw [hp,hs];rfl
  subst az;have AF:=h.q (co a) bF hk (by rw [eY];exact ha) (by rw [dJ];omega);rw [dJ,eY,qy,hv,hs,hr] at AF;have HW:S.st (a/2)=co a % 2:=AF;have cP:dS D (S.st (a/2)) (a/2)=sl D a:=by unfold sl;rw [HW]
  rw [Ih bH (by rw [HW,BQ]),LO,cP];show _=Lt D (co a) (sl D a) (Lw D (mJ D l) k) (TK K sm S);rw [s7 (by show (S.ae (co a)||K (co a))=false;rw [hv,hk];rfl)];have m3:=h.p6 C hl (v:=3) (by rw [hs,hv];rfl) (x1:=D.n) (.inl rfl);have t1:=H _ (m3.sc (2*sl D a) 0);rw [zA,x9 _ _ ha] at t1;congr 1;congr 1
  have C4:K (D.nx (co a))=false:=((C.kc (co a) bF hk).1 (by rw [eY];exact ha)).2 (by rw [dJ];exact hs);have GG:co a≠b0:=fun e=>by
   have:K b0=true:=by
    obtain ⟨⟨c,q⟩,l',e'⟩:=List.exists_cons_of_ne_nil C.ne;have hc:=C.ch;rw [e'] at hc;rw [hc.1];exact (C.mem c).2 (by rw [e'];simp)
   rw [<-e,hk] at this;cases this
  rw [I7 (s2:=b9 b0) (s1:=fun z=>b9 b0 z||b9 (co a) z) (fun z hz=>by show (b9 b0 z||_)=true;rw [hz];rfl)];rw [V5 C (Loc.pZ 4 (dJ a)) hr (x0:=a/2) (y:=co a) (l:=l) (fun b hb fx e=>by
    rcases kj e with e|e
    ·rw [e,ha] at fx;cases fx
    ·exact e) (fun S' b=>S'.ae (co a)=false/\S'.st (a/2)=2/\S'.ae a=true) ?_ hD (s1:=fun z=>b9 b0 z||b9 (co a) z) ?_ (k':=Lw D (mJ D l) k) ?_ (hD.lt _ bF) C4 ((h.Bm C hl hk 2).sc _ _) ?_]
  ·unfold aY
   have:((TK K sm S).sc (sl D a) 1).st (co a/2)=3:=by
    show (TK K sm S).st (co a/2)=3;rw [oN,hk,eY,ha,hv,dJ,hs];rfl
   rw [qi bF this,sN,zA,x9 _ _ ha]
  ·intro S' b ⟨j1,j2,j3⟩ hb fx vG km x hx;have aA:b/2≠a/2:=fun e=>by
    rcases kj e with e|e
    ·rw [e,ha] at fx;cases fx
    ·exact vG e
   obtain ⟨_,v,e1,e2,_⟩:=JR hx;rw [e1,e2];exact ⟨by rw [bG _ _ (Ne.symm vG)];exact j1,by rw [bG _ _ (Ne.symm aA)];exact j2,by rw [bG _ _ fun e=>aA (by rw [e])];exact j3⟩
  ·intro b fx;have oj:b≠b0:=fun e=>by
    have:K b0=true:=by
     obtain ⟨⟨c,q⟩,l',e'⟩:=List.exists_cons_of_ne_nil C.ne;have hc:=C.ch;rw [e'] at hc;rw [hc.1];exact (C.mem c).2 (by rw [e'];simp)
    rw [<-e,fx] at this;cases this
   show (b9 b0 b||b9 (co a) b)=_;rw [oB oj];rfl
  ·intro S' hq ⟨j1,j2,j3⟩;rw [fA (oB GG) j1,mV bF (by rw [dJ];exact j2),sN,eY];have wi:=QK.mk3 C hk (by rw [eY];exact ha) (by rw [eY];exact j3) (by rw [dJ];exact hq) D.n
   have:=H _ wi
   rw [Iy _ _ hk (by rw [eY];exact ha)] at this;exact this
  ·exact ⟨(dZ (v:=2) S (rN a)).trans hv,bQ _ _ _,l9 S a 2⟩
theorem low (hD:Ok D) (C:js D K sm l0 b0) (hO:AQ K dR l0) (hr: ∀a,r a=a % 2) {S:WS} (h:QK D K sm r dR l0 S D.n) (k:WS->Int):aY D S b0 k=Lw D (mJ D l0) k (TK K sm S):=by
 have key: ∀(l l1:List (Nat×Bool)) (S:WS) (d:Nat),l0=l1++l->l1≠[]->sI D d l b0->QK D K sm r dR l S D.n->W D (b9 b0) S d (fun S _=>k S)=Lw D (mJ D l) k (TK K sm S):=fun l=>by
  induction l with
  |nil=>
   intro l1 S d _ _ hc hq;have e:d=b0:=hc;subst e;rw [iY (iX d),hq.done C (zzA _)];rfl
  |cons x l ih=>
   obtain ⟨a,p⟩:=x;intro l1 S d hl h1 hc hq;obtain ⟨e,dE⟩:=hc;subst e;have ha:K d=true:=(C.mem d).2 (by rw [hl];simp);rw [fA (oB (Xd C hl h1)) ((hq.ae d ha).2 (by simp))];exact TE hD C hO hr hl hq fun S' wi=>ih (l1++[(d,p)]) S' _ (by rw [hl];simp) (by simp) dE wi
 obtain ⟨⟨a,p⟩,l,hl⟩:=List.exists_cons_of_ne_nil C.ne;have hc:=C.ch;rw [hl] at hc;obtain ⟨e,dE⟩:=hc;rw [hl] at h⊢;unfold aY;rw [show br D S b0=br D S a by rw [e]];exact TE hD C hO hr (l1:=[]) hl h fun S' wi=>key l [(a,p)] S' _ hl (by simp) dE wi
theorem Xc: ∀(l:List (Nat×Bool)) (s e:Nat),sI D s l e-> ∀x∈l,iK D x.1 x.2=e\/iK D x.1 x.2∈l.map Prod.fst
 |[],s,e,_,x,hx=>by cases hx
 |(a,p)::l,s,e,h,x,hx=>by
  obtain ⟨h1,h2⟩:=h;rcases List.mem_cons.1 hx with rfl|hx
  ·cases l with
   |nil=>exact .inl h2
   |cons y l=>exact .inr (by rw [h2.1];simp)
  ·rcases Xc l _ e h2 x hx with h|h
   ·exact .inl h
   ·exact .inr (by simp [h])
theorem js.hd (C:js D K sm l0 b0):K b0=true:=by
 obtain ⟨⟨c,q⟩,l',e'⟩:=List.exists_cons_of_ne_nil C.ne;have hc:=C.ch;rw [e'] at hc;rw [hc.1];exact (C.mem c).2 (by rw [e'];simp)
def zX (K:Nat->Bool) (S:WS):WS:={S with st:=fun c=>if S.st c<=1 then (if K (2*c)&&K (2*c+1) then S.st c else if K (2*c) then 0 else if K (2*c+1) then 1 else S.st c) else S.st c}
theorem Ob (S:WS) (c:Nat):(zX K S).st c<=1↔S.st c<=1:=by
 show (if S.st c<=1 then _ else _)<=1↔_;by_cases h:S.st c<=1
 ·rw [zzJ h];refine ⟨fun _=>h,fun _=>?_⟩
  split
  ·exact h
  split
  ·omega
  split
  ·omega
  ·exact h
 ·rw [zzI h]
theorem Xb (S:WS) {c:Nat} (h: ¬S.st c<=1):(zX K S).st c=S.st c:=zzI h
theorem Bd.Lg {S S':WS} (h:Bd D S) (hv:S'.ae=S.ae) (h1: ∀c,(S.st c<=1/\(S'.st c<=1\/S'.st c=5))\/S'.st c=S.st c):Bd D S':=fun a ha=>by
 have f:=h a ha;unfold Fit at*;rw [hv];rcases h1 (a/2) with ⟨h2,h3⟩|h2
 ·rw [aP.i0 (.inl h2)] at f;exact (aP.i0 h3).2 f
 ·rw [h2];exact f
theorem V4 (hD:Ok D) (C:js D K sm l0 b0) (hO:AQ K dR l0) {S:WS} (hr: ∀a,r a<=1) (hB:Bd D S) (h:QK D K sm r dR l0 S D.n):Bd D (TK K sm S):=by
 have hu: ∀b,b<2*D.n-> ¬S.st (b/2)<=1\/S.st (b/2)<=1:=fun b _=>by omega
 have l7:Bd D (zX K S):=hB.Lg rfl fun c=>by
  by_cases h:S.st c<=1
  ·exact .inl ⟨h, .inl ((Ob S c).2 h)⟩
  ·exact .inr (Xb S h)
 have hq:QK D K sm (fun b=>1-b % 2) dR l0 (zX K S) D.n:=by
  refine ⟨h.ae,fun b hb hk hc ix=>?_,fun a ha hk hc=>?_⟩
  ·have e:=h.q b hb hk hc ix;show (zX K S).st (b/2)=cL _ (S.ae b) (S.ae (co b)) _;by_cases h1:S.st (b/2)<=1
   ·have e2:(zX K S).st (b/2)=1-b % 2:=by
     show (if S.st (b/2)<=1 then _ else _)=_;rw [zzJ h1];rcases ends b with ⟨k1,k2⟩|⟨k1,k2⟩
     ·rw [<-k2,<-k1,hk,hc];simp;omega
     ·rw [<-k1,<-k2,hk,hc];simp;omega
    rw [e2];rw [e] at h1;revert h1;unfold cL;cases sm (b/2)<;>cases S.ae b<;>cases S.ae (co b)<;>simp
   ·rw [Xb S h1,e];rw [e] at h1;revert h1
    have:=hr b
    unfold cL;cases sm (b/2)<;>cases S.ae b<;>cases S.ae (co b)<;>simp;omega
  ·show (zX K S).st (a/2)=cL (sm (a/2)) (S.ae a) (S.ae (co a)) (dR (a/2));rw [<-h.q2 a ha hk hc];show (if S.st (a/2)<=1 then _ else _)=_
   split
   ·rcases ends a with ⟨k1,k2⟩|⟨k1,k2⟩
    ·rw [<-k2,<-k1,hk,hc];rfl
    ·rw [<-k1,<-k2,hk,hc];rfl
   ·rfl
 have hT:TK K sm (zX K S)=TK K sm S:=by
  refine WS.ext' (fun b=>?_) rfl rfl rfl rfl;rw [oN,oN];cases hk:K b with
  |true=>cases hc:K (co b)<;>rfl
  |false=>
   cases hc:K (co b) with
   |true=>rfl
   |false=>
    show (zX K S).st (b/2)=S.st (b/2);show (if S.st (b/2)<=1 then _ else _)=_
    split
    ·rcases ends b with ⟨k1,k2⟩|⟨k1,k2⟩
     ·rw [<-k2,<-k1,hk,hc];rfl
     ·rw [<-k1,<-k2,hk,hc];rfl
    ·rfl
 rw [<-hT];exact (top hD C hO (fun a=>by rw [BQ];omega) l7 hq fun _=>0).2
theorem V3 (hD:Ok D) {al:Nat->Nat} (hP:tU D al) (C:js D K sm l0 b0) (hO:AQ K dR l0) (hr: ∀a,r a=a % 2) {S:WS} (hB:Bd D S) (h:QK D K sm r dR l0 S D.n) (X:Int->Int->Nat->Int) (L:List Nat):run X D (b0::L) S=run X D L (TK K sm S).cr:=by
 have hv0:S.ae b0=false:=(h.ae b0 C.hd).2 ((C.mem b0).1 C.hd);show (if S.ae b0=true then _ else aY D S.cr b0 (run X D L))=_;rw [zzI (by simp [hv0]),low hD C hO hr h.cr,ES];refine word hD hP C.ch (fun x hx=>?_) (V4 hD C hO (fun a=>by rw [hr];omega) hB h).cr _;have hk:K x.1=true:=(C.mem _).2 (List.mem_map.2 ⟨x,hx,rfl⟩);refine ⟨C.lt x hx,?_,?_,fun hp=>?_⟩
 ·show (S.ae x.1||K x.1)=true;rw [hk,Bool.or_true]
 ·show (S.ae _||K _)=true
  have:K (iK D x.1 x.2)=true:=by
   rcases Xc l0 _ _ C.ch x hx with e|e
   ·rw [e];exact C.hd
   ·exact (C.mem _).2 e
  rw [this,Bool.or_true]
 ·show (TK K sm S).st (x.1/2)=3\/(TK K sm S).st (x.1/2)=4;have hs:sm (x.1/2)=false:=by
   have:=C.ty x hx
   rw [hp] at this;cases e:sm (x.1/2) with
   |false=>rfl
   |true=>rw [e] at this;cases this
  rw [oN,hk,hs];cases K (co x.1)<;>cases S.ae x.1<;>cases S.ae (co x.1)<;>simp
theorem back (hD:Ok D) {al:Nat->Nat} (hP:tU D al) (C:js D K sm l0 b0) (hO:AQ K dR l0) (hr: ∀a,r a=a % 2) (X:Int->Int->Nat->Int) (L:List Nat): ∀(lA:List Nat) {S:WS},(∀a∈lA,a<2*D.n/\K a=false)->Bd D S->QK D K sm r dR l0 S D.n->run X D (lA++b0::L) S=run X D (lA++L) (TK K sm S).cr
 |[],S,_,hB,h=>V3 hD hP C hO hr hB h X L
 |a::lA,S,hA,hB,h=>by
  obtain ⟨bH,Hc⟩:=hA a (.head _);have ih:=fun S' (l7:Bd D S') (h':QK D K sm r dR l0 S' D.n)=>back hD hP C hO hr X L lA (S:=S') (fun b hb=>hA b (.tail _ hb)) l7 h';show (if S.ae a=true then _ else _)=if (S.ae a||K a)=true then _ else _;rw [Hc,Bool.or_false];cases hv:S.ae a with
  |true=>exact ih S hB h
  |false=>
   simp only [Bool.false_eq_true,if_false];show aY D S.cr a (run X D (lA++b0::L))=aY D (TK K sm S).cr.cr a (run X D (lA++L));rw [show aY D (TK K sm S).cr.cr a (run X D (lA++L))=aY D (TK K sm S).cr a (fun S=>run X D (lA++L) S.cr) from I5 _ _,<-ES];unfold aY;have hid:Loc D.n (fun S:WS=>S):=⟨fun _ _ _=>rfl,fun _ _ _=>rfl,fun _ _ _ _=>rfl,fun _ _ _=>rfl⟩
   refine (Sk C hid hr hD bH Hc h.cr (by omega) hv).sum fun x hx S' a' ⟨e1,e2,e3,e4,e5⟩=>?_;subst e1 e2;exact V5 C hid hr (fun b hb _ e=>absurd e (by omega)) (fun S' b=>qE D S' a b) (fun S' b hM _ _ aA _ y hy=>hM.step hD aA hy) hD (fun _ _=>rfl) (k':=fun S=>run X D (lA++L) S.cr) (fun S' hq hM=>ih S' hM.close hq) e3 e4 e5 (hB.cr.start hD hv hx)
end
end Hs
namespace Hs
open Sp (fq bt aw itn)
section
variable {D:Sh}
def aC (S:WS) (c:Nat):Bool:=decide (S.st c=5\/S.st c=2)
theorem vO {S:WS} {c:Nat}:aC S c=true↔S.st c=5\/S.st c=2:=by unfold aC;exact decide_eq_true_iff
theorem vN {S:WS} {c:Nat}:aC S c=false↔S.st c≠5/\S.st c≠2:=by
 unfold aC;rw [decide_eq_false_iff_not];omega
def dU (D:Sh) (sm:Nat->Bool) (a:Nat):Nat:=iK D a (!sm (a/2))
theorem B3 (hD:Ok D) (sm:Nat->Bool):aw (2*D.n) (dU D sm):=by
 refine ⟨fun a ha=>?_,fun a b ha hb e=>?_⟩
 ·unfold dU iK;split
  ·exact hD.lt _ ha
  ·exact hD.lt _ (fj ha)
 ·unfold dU iK at e;cases h1:sm (a/2)<;>cases h2:sm (b/2)<;>rw [h1,h2] at e
  ·exact hD.inj _ _ ha hb e
  ·have e':a=co b:=hD.inj _ _ ha (fj hb) e;rw [e',dJ,h2] at h1;cases h1
  ·have e':co a=b:=hD.inj _ _ (fj ha) hb e;rw [<-e',dJ,h1] at h2;cases h2
  ·have e':co a=co b:=hD.inj _ _ (fj ha) (fj hb) e;rw [<-eY a,e',eY]
theorem Sj: ∀(l:List (Nat×Bool)) (s e:Nat),sI D s l e-> ∀a∈l.map Prod.fst,a=s\/ ∃x∈l,iK D x.1 x.2=a
 |[],s,e,_,a,ha=>by cases ha
 |(c,p)::l,s,e,h,a,ha=>by
  obtain ⟨h1,h2⟩:=h;rcases List.mem_cons.1 ha with rfl|ha
  ·exact .inl h1.symm
  ·rcases Sj l _ e h2 a ha with h|⟨x,hx,h⟩
   ·exact .inr ⟨(c,p), .head _,h.symm⟩
   ·exact .inr ⟨x, .tail _ hx,h⟩
theorem Si: ∀(l:List (Nat×Bool)) (s e:Nat),sI D s l e->l≠[]-> ∃x∈l,iK D x.1 x.2=e
 |[],s,e,_,h=>absurd rfl h
 |(c,p)::l,s,e,h,_=>by
  obtain ⟨h1,h2⟩:=h;cases l with
  |nil=>exact ⟨(c,p), .head _,h2⟩
  |cons y l=>
   obtain ⟨x,hx,e'⟩:=Si (y::l) _ e h2 (by simp);exact ⟨x, .tail _ hx,e'⟩
def au (l:List (Nat×Bool)) (a:Nat):Bool:=decide (a∈l.map Prod.fst)
theorem ni {l:List (Nat×Bool)} {a:Nat}:au l a=true↔a∈l.map Prod.fst:=by unfold au;exact decide_eq_true_iff
theorem js.make (hD:Ok D) {sm:Nat->Bool} {l:List (Nat×Bool)} {b:Nat} (ch:sI D b l b) (ne:l≠[]) (lt: ∀x∈l,x.1<2*D.n) (nd:(l.map Prod.fst).Nodup) (ty: ∀x∈l,x.2= !sm (x.1/2)):js D (au l) sm l b:=by
 have hp:=B3 hD sm;have pre: ∀c,c<2*D.n->au l (dU D sm c)=true->au l c=true:=fun c hc hk=>by
  have: ∃x∈l,iK D x.1 x.2=dU D sm c:=by
   rcases Sj l b b ch _ (ni.1 hk) with h|h
   ·rw [h];exact Si l b b ch ne
   ·exact h
  obtain ⟨x,hx,e⟩:=this;rw [ty x hx] at e
  have:=hp.inj _ _ (lt x hx) hc e
  rw [<-this];exact ni.2 (List.mem_map.2 ⟨x,hx,rfl⟩)
 have Ga: ∀c,c<2*D.n->au l c=false->au l (dU D sm c)=false:=fun c hc hk=>by
  cases e:au l (dU D sm c) with
  |false=>rfl
  |true=>rw [pre c hc e] at hk;cases hk
 refine ⟨ch,ne,lt,nd,fun a=>ni,ty,fun c hc hk=>?_⟩;have h1:=Ga c hc hk;unfold dU iK at h1;refine ⟨fun _=>⟨fun hs=>?_,fun hs=>?_⟩,fun sy=>?_⟩
 ·rw [hs] at h1;exact h1
 ·rw [hs] at h1;exact h1
 ·have h2:=Ga (co c) (fj hc) sy;unfold dU iK at h2;rw [dJ,eY] at h2;cases hs:sm (c/2) with
  |true=>rw [hs] at h1 h2;exact ⟨h2,h1⟩
  |false=>rw [hs] at h1 h2;exact ⟨h1,h2⟩
def pl (D:Sh) (sm:Nat->Bool) (b:Nat):Nat->Nat->List (Nat×Bool)
 |0,_=>[]
 |m+1,i=>(itn (dU D sm) i b,!sm (itn (dU D sm) i b/2))::pl D sm b m (i+1)
theorem VV (sm:Nat->Bool) (b:Nat): ∀m i,sI D (itn (dU D sm) i b) (pl D sm b m i) (itn (dU D sm) (i+m) b)
 |0,i=>rfl
 |m+1,i=>by
  refine ⟨rfl,?_⟩
  have:=VV sm b m (i+1)
  rw [show i+1+m=i+(m+1) by omega] at this;exact this
theorem D4 {sm:Nat->Bool} {b:Nat}: ∀{m i:Nat} {x:Nat×Bool},x∈pl D sm b m i-> ∃j,i<=j/\j<i+m/\x=(itn (dU D sm) j b,!sm (itn (dU D sm) j b/2))
 |0,i,x,h=>by cases h
 |m+1,i,x,h=>by
  rcases List.mem_cons.1 h with rfl|h
  ·exact ⟨i,by omega,by omega,rfl⟩
  ·obtain ⟨j,h1,h2,h3⟩:=D4 h;exact ⟨j,by omega,by omega,h3⟩
theorem VU {sm:Nat->Bool} {b:Nat}: ∀{m i j:Nat},i<=j->j<i+m->itn (dU D sm) j b∈(pl D sm b m i).map Prod.fst
 |0,i,j,h1,h2=>by omega
 |m+1,i,j,h1,h2=>by
  by_cases e:j=i
  ·subst e;exact .head _
  ·exact .tail _ (VU (by omega) (by omega))
theorem VT {sm:Nat->Bool} {b k:Nat} (h: ∀i j,i<j->j<k->itn (dU D sm) i b≠itn (dU D sm) j b): ∀m i,i+m<=k->((pl D sm b m i).map Prod.fst).Nodup
 |0,i,_=> .nil
 |m+1,i,hm=>by
  show (itn (dU D sm) i b::(pl D sm b m (i+1)).map Prod.fst).Nodup;refine List.nodup_cons.2 ⟨fun dA=>?_,VT h m (i+1) (by omega)⟩;obtain ⟨x,hx,e⟩:=List.mem_map.1 dA;obtain ⟨j,h1,h2,rfl⟩:=D4 hx;exact h i j (by omega) (by omega) e.symm
theorem AH (hD:Ok D) {S:WS} (hB:Bd D S) {b:Nat} (hb:b<2*D.n) (hv:S.ae b=false): ∃l,js D (au l) (aC S) l b/\(∀a,au l a=true->S.ae a=false)/\(∀i,au l (itn (dU D (aC S)) i b)=true)/\(∀a,au l a=true-> ∃i,a=itn (dU D (aC S)) i b):=by
 have hp:=B3 hD (aC S);obtain ⟨k,h0,hk,xB⟩:=Sp.pt hp hb;have aA: ∀i j,i<j->j<k->itn (dU D (aC S)) i b≠itn (dU D (aC S)) j b:=fun i j kB hj e=>by
  refine xB (j-i) (by omega) (by omega) ?_;have e2:itn (dU D (aC S)) i (itn (dU D (aC S)) (j-i) b)=itn (dU D (aC S)) i b:=by rw [<-Sp.dL,show i+(j-i)=j by omega];exact e.symm
  exact hp.qN (hp.bC hb _) hb i e2
 have dM: ∀i,S.ae (itn (dU D (aC S)) i b)=false:=fun i=>by
  induction i with
  |zero=>exact hv
  |succ i ih=>
   have hl:=hp.bC hb i;simp only [itn];generalize itn (dU D (aC S)) i b=a at*;have f:=hB a hl;have f':=hB (co a) (fj hl);unfold Fit at f f';rw [dJ,eY] at f';unfold dU iK;cases hs:aC S (a/2) with
   |true=>
    rcases vO.1 hs with h|h
    ·rw [h,aP.i0 (.inr rfl)] at f';simpa using f'.2
    ·rw [h,aP.i2] at f;cases e:S.ae (D.nx (co a)) with
     |false=>exact e
     |true=>rw [f.1.2 e] at ih;cases ih
   |false=>
    obtain ⟨n5,n2⟩:=vN.1 hs;unfold aP at f;rcases f with ⟨_,_,h⟩|⟨_,h,_⟩|⟨_,h,_⟩|⟨h,_⟩
    ·simpa using h
    ·rw [h] at ih;cases ih
    ·cases e:S.ae (D.nx a) with
     |false=>exact e
     |true=>rw [h.2 e] at ih;cases ih
    ·exact absurd h n2
 refine ⟨pl D (aC S) b k 0,js.make hD ?_ ?_ ?_ (VT aA k 0 (by omega)) ?_,?_,?_,?_⟩
 ·have:=VV (D:=D) (aC S) b k 0
  rw [Nat.zero_add,hk] at this;exact this
 ·obtain ⟨m,rfl⟩: ∃m,k=m+1:=⟨k-1,by omega⟩;intro e;cases e
 ·intro x hx;obtain ⟨j,_,_,rfl⟩:=D4 hx;exact hp.bC hb j
 ·intro x hx;obtain ⟨j,_,_,rfl⟩:=D4 hx;rfl
 ·intro a ha;obtain ⟨x,hx,rfl⟩:=List.mem_map.1 (ni.1 ha);obtain ⟨j,_,_,rfl⟩:=D4 hx;exact dM j
 ·intro i
  have: ∀i,∃j,j<k/\itn (dU D (aC S)) i b=itn (dU D (aC S)) j b:=fun i=>by
   induction i with
   |zero=>exact ⟨0,h0,rfl⟩
   |succ i ih=>
    obtain ⟨j,hj,e⟩:=ih;by_cases h:j+1<k
    ·exact ⟨j+1,h,by simp only [itn];rw [e]⟩
    ·refine ⟨0,h0,?_⟩
     have:j+1=k:=by omega
     simp only [itn];rw [e];have e2:dU D (aC S) (itn (dU D (aC S)) j b)=itn (dU D (aC S)) (j+1) b:=rfl;rw [e2,this,hk]
  obtain ⟨j,hj,e⟩:=this i;rw [e];exact ni.2 (VU (Nat.zero_le _) (by omega))
 ·intro a ha;obtain ⟨x,hx,rfl⟩:=List.mem_map.1 (ni.1 ha);obtain ⟨j,_,_,rfl⟩:=D4 hx;exact ⟨j,rfl⟩
theorem QK.of {S:WS} {K:Nat->Bool} {l:List (Nat×Bool)} {b:Nat} {r:Nat->Nat} (hB:Bd D S) (C:js D K (aC S) l b) (dM: ∀a,K a=true->S.ae a=false) (hr: ∀b,b<2*D.n->K b=false->K (co b)=true->S.st (b/2)<=1->S.st (b/2)=r b):QK D K (aC S) r S.st l S D.n:=by
 refine ⟨fun a ha=>⟨fun _=>(C.mem a).1 ha,fun _=>dM a ha⟩,fun b hb hk hc _=>?_,fun a ha hk hc=>?_⟩
 ·have f:=hB b hb;unfold Fit at f;have hv:=dM _ hc;rw [hv];unfold aP at f;rcases f with ⟨h,h1,_⟩|⟨h,_,h2⟩|⟨h,_,h1⟩|⟨h,_,h1⟩
  ·rw [h1];rcases h with h|h
   ·have:aC S (b/2)=false:=vN.2 (by omega)
    rw [this];exact hr b hb hk hc h
   ·have:aC S (b/2)=true:=vO.2 (.inl h)
    rw [this,h];rfl
  ·have f':=hB (co b) (fj hb);unfold Fit at f';rw [dJ,h,aP.i4,hv] at f';cases f'.1
  ·rw [hv] at h1
   have:aC S (b/2)=false:=vN.2 (by omega)
   rw [h1,this,h];rfl
  ·rw [hv] at h1
   have:aC S (b/2)=true:=vO.2 (.inr h)
   rw [h1,this,h];rfl
 ·have f:=hB a ha;unfold Fit at f;rw [dM _ hk,dM _ hc] at f⊢;unfold aP at f;rcases f with ⟨h,h1,_⟩|⟨h,h1,h2⟩|⟨h,_,h1⟩|⟨h,_,h1⟩
  ·rcases h with h|h
   ·have:aC S (a/2)=false:=vN.2 (by omega)
    rw [this];rfl
   ·have:aC S (a/2)=true:=vO.2 (.inl h)
    rw [this,h];rfl
  ·cases h1
  ·cases h1
  ·cases h1
def pE (sm:Nat->Bool) (dR:Nat->Nat) (l0:List (Nat×Bool)):Prop:= ∀a,sm (a/2)=false->[a,co a].Sublist (l0.map Prod.fst)->dR (a/2)=a % 2
theorem pE.ord {K sm:Nat->Bool} {dR:Nat->Nat} {l:List (Nat×Bool)} (ty: ∀x∈l,x.2= !sm (x.1/2)) (h:pE sm dR l):AQ K dR l:=fun l1 a l2 e _ dA=>by
 have:=ty (a,true) (by rw [e];simp)
 refine h a ?_ ?_
 ·cases e:sm (a/2) with
  |false=>rfl
  |true=>rw [e] at this;cases this
 ·rw [e,List.map_append,List.map_cons];exact ((List.singleton_sublist.2 dA).cons_cons a).trans (List.sublist_append_right _ _)
theorem JP {a b:Nat} (mQ:a≠b): ∀{L:List Nat},L.Nodup->[a,b].Sublist L-> ¬[b,a].Sublist L
 |[],_,h=>by cases h
 |c::L,hn,h=>fun h'=>by
  obtain ⟨h1,h2⟩:=List.nodup_cons.1 hn;cases h with
  |cons _ h=>
   cases h' with
   |cons _ h'=>exact JP mQ h2 h h'
   |cons_cons _ h'=>exact h1 (h.subset (by simp))
  |cons_cons _ h=>
   cases h' with
   |cons _ h'=>exact h1 (h'.subset (by simp))
   |cons_cons _ h'=>exact mQ rfl
end
end Hs
namespace Hs
open Sp (fq bt aw itn)
section
variable {D:Sh}
def rl (S:WS):Nat->Nat
 |0=>0
 |m+1=>rl S m+if S.st m<=1 then 1 else 0
theorem u6 {S S':WS} (h: ∀c,S'.st c<=1->S.st c<=1): ∀m,rl S' m<=rl S m
 |0=>zzA _
 |m+1=>by
  have:=u6 h m
  simp only [rl];by_cases h1:S'.st m<=1
  ·rw [zzJ h1,zzJ (h m h1)];omega
  ·rw [zzI h1];omega
theorem DK {S S':WS} (h: ∀c,S'.st c<=1->S.st c<=1) {x:Nat} (h1:S.st x<=1) (h2: ¬S'.st x<=1): ∀m,x<m->rl S' m<rl S m
 |0,hx=>by omega
 |m+1,hx=>by
  simp only [rl];by_cases e:x=m
  ·subst e
   have:=u6 h x
   rw [zzJ h1,zzI h2];omega
  ·have:=DK h h1 h2 m (by omega)
   by_cases h3:S'.st m<=1
   ·rw [zzJ h3,zzJ (h m h3)];omega
   ·rw [zzI h3];omega
theorem Jy {X:Int->Int->Nat->Int}: ∀(B:List Nat) (S:WS),(∀a∈B,S.ae a=true)->run X D B S=X S.i S.j S.k
 |[],S,_=>rfl
 |a::B,S,h=>by
  unfold run;rw [zzJ (h a (.head _))];exact Jy B S fun b hb=>h b (.tail _ hb)
theorem sJ {S:WS} {a:Nat} {x:Int×WS×Nat} (h:x∈br D S a):x.2.1.k=S.k:=by
 unfold br at h
 split at h
 ·cases h
 split at h
 ·rw [zzM] at h;subst h;rfl
 split at h
 ·rw [zzM] at h;subst h;rfl
 split at h
 ·rw [zzM] at h;subst h;rfl
 split at h
 ·rw [zzM] at h;subst h;rfl
 split at h
 ·rcases List.mem_cons.1 h with h|h
  ·subst h;rfl
  ·rw [zzM] at h;subst h;rfl
 ·cases h
theorem FH {S:WS} {a:Nat} {k k':WS->Int} (h: ∀S',S'.k=S.k->k S'=k' S'):aY D S a k=aY D S a k':=by
 unfold aY;refine qm fun x hx=>B9 (fun S' _=>S'.k=S.k) (fun S' b h1 _ _ y hy=>(sJ hy).trans h1) (fun S' b h1 _=>h S' h1) (sJ hx)
def Good (X:Int->Int->Nat->Int):Prop:= ∀i j k,1<=k->X (i-1) j k=X (i+1) j k+X i (j+1) (k+1)
theorem IJ {X:Int->Int->Nat->Int} (hX:Good X): ∀(B:List Nat) (T:WS),1<=T.k->run X D B (T.sc (-1) 0)=run X D B (T.sc 1 0)+run X D B (T.cr.sc 0 1)
 |[],T,hk=>by
  show X (T.i+ -1) (T.j+0) T.k=X (T.i+1) (T.j+0) T.k+X (T.i+0) (T.j+1) (T.k+1);rw [Int.add_zero,Int.add_zero];exact hX T.i T.j T.k hk
 |a::B,T,hk=>by
  unfold run;show (if T.ae a=true then _ else _)=(if T.ae a=true then _ else _)+(if T.ae a=true then _ else _);cases hv:T.ae a with
  |true=>exact IJ hX B T hk
  |false=>
   simp only [Bool.false_eq_true,if_false];rw [WS.eX,WS.eX,WS.eX,I6,I6,I6,I5 T.cr,<-MA];refine FH fun S' h'=>?_;rw [IJ hX B S' (by rw [h'];show 1<=T.k+1;omega)]
def WS.rf (S:WS) (g:Nat->Nat) (m:Nat):WS:={S with st:=fun c=>if c<m/\S.st c<=1 then g c else S.st c}
theorem Xa {S:WS} (hB:Bd D S) {g:Nat->Nat} (hg: ∀c,g c<=1) (m:Nat):Bd D (S.rf g m):=hB.Lg rfl fun c=>by
 show (_/\((if _ then _ else _)<=1\/_))\/(if _ then _ else _)=_;by_cases h:c<m/\S.st c<=1
 ·rw [zzJ h];exact .inl ⟨h.2, .inl (hg c)⟩
 ·rw [zzI h];exact .inr rfl
structure jt (D:Sh) (B:List Nat) (S:WS):Prop where
 lt: ∀a∈B,a<2*D.n
 all: ∀a,a<2*D.n->S.ae a=false->a∈B
theorem ER {S:WS} (hB:Bd D S) {x v:Nat} (h:S.st x<=1) (hv:v<=1\/v=5):Bd D (S.sx x v):=hB.Lg rfl fun c=>by
 by_cases e:c=x
 ·subst e;left;refine ⟨h,?_⟩;show aR S.st c v c<=1\/aR S.st c v c=5;rw [bQ];exact hv
 ·exact .inr (bG _ _ e)
theorem wT {S:WS} (hB:Bd D S) {x:Nat} (hx:x<D.n) (h:S.st x<=1):S.ae (2*x)=false/\S.ae (2*x+1)=false:=by
 have f:=hB (2*x) (by omega);have f':=hB (2*x+1) (by omega);unfold Fit at f f';rw [show 2*x/2=x by omega,aP.i0 (.inl h)] at f;rw [show (2*x+1)/2=x by omega,aP.i0 (.inl h)] at f';exact ⟨f.1,f'.1⟩
theorem Io {X:Int->Int->Nat->Int} (hD:Ok D) {B B':List Nat} {S:WS} (hB:Bd D S) (h1:jt D B S) (h2:jt D B' S) (IH: ∀S',Bd D S'->S'.ae=S.ae->rl S' D.n<rl S D.n->run X D B S'=run X D B' S') {g:Nat->Nat} (hg: ∀c,g c<=1)
  (h: ∀u v,run X D B ((S.rf g D.n).sc u v)=run X D B' ((S.rf g D.n).sc u v)):run X D B S=run X D B' S:=by
 have key: ∀d,d<=D.n-> ∀u v,run X D B ((S.rf g (D.n-d)).sc u v)=run X D B' ((S.rf g (D.n-d)).sc u v):=fun d=>by
  induction d with
  |zero=>exact fun _=>h
  |succ d ih=>
   intro hd;have ih:=ih (by omega);obtain ⟨m,hm⟩: ∃m,m=D.n-(d+1):=⟨_,rfl⟩;rw [show D.n-d=m+1 by omega] at ih;rw [<-hm];have G4:m<D.n:=by omega
   by_cases hs:S.st m<=1
   ·have e1:(S.rf g (m+1))=(S.rf g m).sx m (g m):=by
     unfold WS.rf WS.sx;congr 1;funext c;show (if c<m+1/\S.st c<=1 then g c else S.st c)=if c=m then g m else if c<m/\S.st c<=1 then g c else S.st c;by_cases hc:c=m
     ·subst hc;rw [zzJ rfl,zzJ ⟨by omega,hs⟩]
     ·rw [zzI hc];by_cases h3:c<m/\S.st c<=1
      ·rw [zzJ ⟨by omega,h3.2⟩,zzJ h3]
      ·rw [zzI h3,zzI (by omega)]
    have e2:(S.rf g m)=(S.rf g m).sx m (S.st m):=by
     unfold WS.rf WS.sx;congr 1;funext c;unfold aR;by_cases hc:c=m
     ·subst hc;rw [zzJ rfl,zzI (by omega)]
     ·rw [zzI hc]
    have hT:Bd D (S.rf g m):=Xa hB hg m;have aZ:(S.rf g m).st m=S.st m:=zzI (by omega);rw [e1] at ih;generalize YW:S.rf g m=T at*;have CK:T.ae=S.ae:=by rw [<-YW];rfl
    obtain ⟨v0,v1⟩:=wT hT G4 (by rw [aZ];exact hs);have m1:2*m∈B:=h1.all _ (by omega) (by rw [<-CK];exact v0);have m2:2*m∈B':=h2.all _ (by omega) (by rw [<-CK];exact v0);have h5: ∀u v,run X D B ((T.sx m 5).sc u v)=run X D B' ((T.sx m 5).sc u v):=fun u v=>by
     refine IH _ ((ER hT (by rw [aZ];exact hs) (.inr rfl)).sc u v) CK ?_;refine DK (x:=m) (fun c hc=>?_) hs (by show¬aR T.st m 5 m<=1;rw [bQ];omega) D.n G4;have dE:aR T.st m 5 c<=1:=hc;by_cases e:c=m
     ·rw [e];exact hs
     ·rw [bG _ _ e,<-YW] at dE;have Qv:(if c<m/\S.st c<=1 then g c else S.st c)<=1:=dE;by_cases h3:c<m/\S.st c<=1
      ·exact h3.2
      ·rwa [zzI h3] at Qv
    have sk: ∀(B:List Nat),2*m∈B-> ∀u v,run X D B ((T.sx m (pq D m)).sc (u-1) v)=run X D B ((T.sx m (nq D m)).sc (u+1) v)+run X D B ((T.sx m 5).sc u (v+1)):=fun B hm u v=>by
     have:=DO (X:=X) G4 (hD.sg m G4) B (T.sc u v) v0 v1 hm
     simp only [WS.w7,WS.cd,Int.add_zero] at this;exact this
    have G0:(g m=pq D m/\S.st m=nq D m)\/(g m=nq D m/\S.st m=pq D m)\/g m=S.st m:=by
     have:=hg m
     unfold pq nq
     split<;>omega
    intro u v;rw [e2];rcases G0 with ⟨a1,a2⟩|⟨a1,a2⟩|a1
    ·rw [a2];rw [a1] at ih;have s1:=sk B m1 (u-1) v;have s2:=sk B' m2 (u-1) v;rw [ih,h5,s2] at s1;rw [show u-1+1=u by omega] at s1;omega
    ·rw [a2];rw [a1] at ih;have s1:=sk B m1 (u+1) v;have s2:=sk B' m2 (u+1) v;rw [ih,h5,<-s2] at s1;rw [show u+1-1=u by omega] at s1;exact s1
    ·rw [<-a1];exact ih u v
   ·have e1:S.rf g (m+1)=S.rf g m:=by
     unfold WS.rf;congr 1;funext c;by_cases hc:c=m
     ·subst hc;rw [zzI (by omega),zzI (by omega)]
     ·by_cases h3:c<m/\S.st c<=1
      ·rw [zzJ h3,zzJ ⟨by omega,h3.2⟩]
      ·rw [zzI h3,zzI (by omega)]
    rw [e1] at ih;exact ih
 have:=key D.n (zzA _) 0 0
 rw [Nat.sub_self,WS.b8] at this;have e:S.rf g 0=S:=WS.ext' (fun a=>by
  show (if a/2<0/\S.st (a/2)<=1 then g (a/2) else S.st (a/2))=_;exact zzI fun h=>by omega) rfl rfl rfl rfl
 rwa [e] at this
noncomputable def gC (S:WS) (l:List (Nat×Bool)) (t c:Nat):Nat:=by
 classical
 exact if au l (2*c)&&au l (2*c+1) then (if [2*c,2*c+1].Sublist (l.map Prod.fst) then 0 else 1) else if au l (2*c) then t else if au l (2*c+1) then 1-t else 0
theorem II (S:WS) (l:List (Nat×Bool)) {t:Nat} (ht:t<=1) (c:Nat):gC S l t c<=1:=by
 unfold gC
 split
 ·split<;>omega
 split
 ·exact ht
 split<;>omega
theorem QS {S:WS} {l:List (Nat×Bool)} {t b:Nat} (ht:t<=1) (h1:au l b=false) (h2:au l (co b)=true):gC S l t (b/2)=if t=0 then co b % 2 else b % 2:=by
 unfold gC;rcases ends b with ⟨k1,k2⟩|⟨k1,k2⟩
 ·rw [<-k2,<-k1,h1,h2];simp only [Bool.false_and,Bool.false_eq_true,if_false,if_true]
  split<;>omega
 ·rw [<-k1,<-k2,h1,h2];simp only [Bool.and_false,Bool.false_eq_true,if_false,if_true]
  split<;>omega
theorem QR {S:WS} {l:List (Nat×Bool)} {t a:Nat} (hn:(l.map Prod.fst).Nodup) (h:[a,co a].Sublist (l.map Prod.fst)):gC S l t (a/2)=a % 2:=by
 have h1:au l a=true:=ni.2 (h.subset (by simp));have h2:au l (co a)=true:=ni.2 (h.subset (by simp));unfold gC;rcases ends a with ⟨k1,k2⟩|⟨k1,k2⟩
 ·rw [<-k2,<-k1,h1,h2];simp only [Bool.and_self,if_true];rw [zzJ h];omega
 ·rw [<-k1,<-k2,h1,h2];simp only [Bool.and_self,if_true];rw [zzI (JP (Ne.symm (rN a)) hn h)];omega
end
end Hs
namespace Hs
open Sp (fq bt aw itn)
section
variable {D:Sh} {X:Int->Int->Nat->Int}
theorem LN {K sm:Nat->Bool} {S:WS} {b:Nat} {L:List Nat} (h:jt D (b::L) S) (hk:K b=true):jt D L (TK K sm S).cr:=⟨fun a ha=>h.lt a (.tail _ ha),fun a ha hv=>by
 have h1:(S.ae a||K a)=false:=hv;cases e:S.ae a with
 |true=>rw [e] at h1;cases h1
 |false=>
  rcases List.mem_cons.1 (h.all a ha e) with rfl|h2
  ·rw [hk,Bool.or_true] at h1;cases h1
  ·exact h2⟩
theorem Ix {K sm:Nat->Bool} {S:WS} {b:Nat} (hb:b<2*D.n) (hk:K b=true) (hv:S.ae b=false):fu D (TK K sm S)<fu D S:=by
 have mono: ∀m,unv (TK K sm S).ae m<=unv S.ae m:=fun m=>by
  induction m with
  |zero=>exact zzA _
  |succ m ih=>
   simp only [unv]
   have:(TK K sm S).ae m=(S.ae m||K m):=rfl
   rw [this];cases S.ae m<;>cases K m<;>simp<;>omega
 have key: ∀m,b<m->unv (TK K sm S).ae m<unv S.ae m:=fun m=>by
  induction m with
  |zero=>intro h;omega
  |succ m ih=>
   intro h;simp only [unv];have e1:(TK K sm S).ae m=(S.ae m||K m):=rfl;rw [e1];by_cases e:b=m
   ·subst e
    have:=mono b
    rw [hv,hk];simp;omega
   ·have:=ih (by omega)
    cases S.ae m<;>cases K m<;>simp<;>omega
 exact key _ hb
theorem VS {K sm:Nat->Bool} {S:WS} {c:Nat} (h:(TK K sm S).st c<=1):S.st c<=1:=by
 have e:(if K (2*c)&&K (2*c+1) then 4 else if K (2*c) then (if S.ae (2*c+1) then 4 else if sm c then 2 else 3) else if K (2*c+1) then (if S.ae (2*c) then 4 else if sm c then 2 else 3) else S.st c)<=1:=h;revert e
 split
 ·omega
 split
 ·split
  ·omega
  split<;>omega
 split
 ·split
  ·omega
  split<;>omega
 ·exact id
def yb (D:Sh) (X:Int->Int->Nat->Int) (S:WS):Prop:= ∀S' B B',Bd D S'->(rl S' D.n<rl S D.n\/(rl S' D.n<=rl S D.n/\fu D S'<fu D S))->jt D B S'->jt D B' S'->run X D B S'=run X D B' S'
theorem yb.tk (hD:Ok D) {S:WS} (IH:yb D X S) {K sm:Nat->Bool} {b:Nat} {L L':List Nat} (hb:b<2*D.n) (hk:K b=true) (hv:S.ae b=false) (hB:Bd D (TK K sm S)) (h1:jt D (b::L) S) (h2:jt D (b::L') S):run X D L (TK K sm S).cr=run X D L' (TK K sm S).cr:=
 IH _ _ _ hB.cr (.inr ⟨u6 (S:=S) (S':=(Hs.TK K sm S).cr) (fun c h=>VS (K:=K) (sm:=sm) h) D.n,Ix (sm:=sm) hb hk hv⟩) (LN h1 hk) (LN h2 hk)
noncomputable def put (D:Sh) (S:WS) (l:List (Nat×Bool)) (t:Nat):WS:=S.rf (gC S l t) D.n
theorem LM {S:WS} {l:List (Nat×Bool)} {t:Nat} (ht:t<=1):aC (put D S l t)=aC S:=funext fun c=>by
 have e:(put D S l t).st c=if c<D.n/\S.st c<=1 then gC S l t c else S.st c:=rfl
 have:=II S l ht c
 cases h:aC S c with
 |true=>
  refine vO.2 ?_;rw [e,zzI (by have:=vO.1 h;omega)];exact vO.1 h
 |false=>
  refine vN.2 ?_
  have:=vN.1 h
  rw [e]
  split<;>omega
theorem Jf {S:WS} {l:List (Nat×Bool)} {b t:Nat} (ht:t<=1) (hB:Bd D S) (C:js D (au l) (aC S) l b) (dM: ∀a,au l a=true->S.ae a=false):
  Bd D (put D S l t)/\QK D (au l) (aC S) (fun b=>if t=0 then co b % 2 else b % 2) (put D S l t).st l (put D S l t) D.n/\pE (aC S) (put D S l t).st l:=by
 have l7:Bd D (put D S l t):=Xa hB (II S l ht) _;have e: ∀c,(put D S l t).st c=if c<D.n/\S.st c<=1 then gC S l t c else S.st c:=fun _=>rfl;refine ⟨l7,?_,?_⟩
 ·have C':js D (au l) (aC (put D S l t)) l b:=by rw [LM ht];exact C
  have:=QK.of (r:=fun b=>if t=0 then co b % 2 else b % 2) l7 C' dM fun c hc h1 h2 h3=>by
   rw [e] at h3⊢;by_cases h4:c/2<D.n/\S.st (c/2)<=1
   ·rw [zzJ h4];exact QS ht h1 h2
   ·rw [zzI h4] at h3;omega
  rwa [LM ht] at this
 ·intro a hs h;have ha:au l a=true:=ni.2 (h.subset (by simp));have hc:au l (co a)=true:=ni.2 (h.subset (by simp));have bH:=C.zc ha;have f:=hB a bH;unfold Fit aP at f;rw [dM a ha,dM _ hc] at f;have n:=vN.1 hs;have h1:S.st (a/2)<=1:=by
   rcases f with ⟨h,_⟩|⟨_,h,_⟩|⟨_,_,h⟩|⟨_,_,h⟩
   ·omega
   ·cases h
   ·cases h
   ·cases h
  rw [e,zzJ ⟨by omega,h1⟩];exact QR C.nd h
theorem Oa {S:WS} {l:List (Nat×Bool)} {t:Nat} (S':WS):rl (put D S l t) D.n<=rl S D.n:=u6 (fun c hc=>by
 have e:(put D S l t).st c=if c<D.n/\S.st c<=1 then gC S l t c else S.st c:=rfl;rw [e] at hc;by_cases h:c<D.n/\S.st c<=1
 ·exact h.2
 ·rwa [zzI h] at hc) _
theorem yb.put {S:WS} (IH:yb D X S) (l:List (Nat×Bool)) (t:Nat) (u v:Int):yb D X ((put D S l t).sc u v):=fun S' B B' l7 h h1 h2=>by
 have e1:rl ((Hs.put D S l t).sc u v) D.n=rl (Hs.put D S l t) D.n:=by
  refine Nat.le_antisymm (u6 (S:=Hs.put D S l t) (S':=(Hs.put D S l t).sc u v) (fun c h=>h) _) (u6 (S':=Hs.put D S l t) (S:=(Hs.put D S l t).sc u v) (fun c h=>h) _)
 have e2:=Oa (D:=D) (S:=S) (l:=l) (t:=t) S;have e3:fu D ((Hs.put D S l t).sc u v)=fu D S:=rfl;rw [e1,e3] at h;exact IH S' B B' l7 (by omega) h1 h2
theorem LL (hD:Ok D) {S:WS} (IH:yb D X S) {B B':List Nat} (hB:Bd D S) (h1:jt D B S) (h2:jt D B' S) {l:List (Nat×Bool)} {t:Nat} (ht:t<=1) (h: ∀u v,run X D B ((put D S l t).sc u v)=run X D B' ((put D S l t).sc u v)):run X D B S=run X D B' S:=
 Io hD hB h1 h2 (fun S' l7 hv hr=>IH S' B B' l7 (.inl hr) ⟨h1.lt,by rw [hv];exact h1.all⟩ ⟨h2.lt,by rw [hv];exact h2.all⟩) (II S l ht) h
theorem wL (hD:Ok D) {S:WS} {K sm:Nat->Bool} {dR:Nat->Nat} {l:List (Nat×Bool)} {b:Nat} {r:Nat->Nat} (hB:Bd D S) (C:js D K sm l b) (h:QK D K sm r dR l S D.n) (hO:AQ K dR l) (hr: ∀a,r (co a)=a % 2) (L:List Nat):run X D (b::L) S=run X D L (TK K sm S).cr/\Bd D (TK K sm S):=by
 have hv0:S.ae b=false:=(h.ae b C.hd).2 ((C.mem b).1 C.hd);obtain ⟨t1,t2⟩:=top hD C hO hr hB.cr h.cr (run X D L);refine ⟨?_,t2⟩;show (if S.ae b=true then _ else aY D S.cr b (run X D L))=_;rw [zzI (by simp [hv0]),t1,ES]
theorem E0 (hD:Ok D) {S:WS} (IH:yb D X S) (hB:Bd D S) {b:Nat} (hb:b<2*D.n) (hv:S.ae b=false) {L L':List Nat} (h1:jt D (b::L) S) (h2:jt D (b::L') S):run X D (b::L) S=run X D (b::L') S:=by
 obtain ⟨l,C,dM,_,_⟩:=AH hD hB hb hv;refine LL hD IH hB h1 h2 (l:=l) (t:=0) (by omega) fun u v=>?_;obtain ⟨p1,p2,p3⟩:=Jf (t:=0) (by omega) hB C dM;obtain ⟨t1,t2⟩:=wL (X:=X) hD (p1.sc u v) C (p2.sc u v) (p3.ord C.ty) (fun a=>by rw [zzJ rfl,eY]) L;obtain ⟨t3,_⟩:=wL (X:=X) hD (p1.sc u v) C (p2.sc u v) (p3.ord C.ty) (fun a=>by rw [zzJ rfl,eY]) L';rw [t1,t3]
 exact (IH.put l 0 u v).tk hD hb C.hd hv t2 ⟨h1.lt,h1.all⟩ ⟨h2.lt,h2.all⟩
theorem EX (hD:Ok D) {al:Nat->Nat} (hP:tU D al) {S:WS} (IH:yb D X S) (hB:Bd D S) {b b':Nat} (hb:b<2*D.n) (hv:S.ae b=false) (nW:b'<2*D.n) (cw:S.ae b'=false) {l:List (Nat×Bool)} (C:js D (au l) (aC S) l b') (dM: ∀a,au l a=true->S.ae a=false) (hn:au l b=false) {L L':List Nat} (h1:jt D (b::L) S) (h2:jt D (b'::L') S):run X D (b::L) S=run X D (b'::L') S:=by
 obtain ⟨lA,PZ⟩: ∃lA,lA=b::(List.range (2*D.n)).filter fun a=> !au l a:=⟨_,rfl⟩;have hA: ∀a∈lA,a<2*D.n/\au l a=false:=fun a ha=>by
  rw [PZ] at ha;rcases List.mem_cons.1 ha with rfl|ha
  ·exact ⟨hb,hn⟩
  ·rw [List.mem_filter] at ha;exact ⟨List.mem_range.1 ha.1,by simpa using ha.2⟩
 have cA:jt D (lA++b'::List.range (2*D.n)) S:=⟨fun a ha=>by
  rcases List.mem_append.1 ha with h|h
  ·exact (hA a h).1
  rcases List.mem_cons.1 h with rfl|h
  ·exact nW
  ·exact List.mem_range.1 h,fun a ha _=>by simp [ha]⟩
 have e1:run X D (b::L) S=run X D (lA++b'::List.range (2*D.n)) S:=by
  rw [PZ];exact E0 hD IH hB hb hv h1 (by rw [PZ] at cA;exact cA)
 rw [e1];refine LL hD IH hB cA h2 (l:=l) (t:=1) (by omega) fun u v=>?_;obtain ⟨p1,p2,p3⟩:=Jf (t:=1) (by omega) hB C dM;have hr: ∀a,(fun b=>if (1:Nat)=0 then co b % 2 else b % 2) a=a % 2:=fun a=>zzI (by omega);rw [back hD hP C (p3.ord C.ty) hr X _ lA hA (p1.sc u v) (p2.sc u v),V3 hD hP C (p3.ord C.ty) hr (p1.sc u v) (p2.sc u v)]
 have Hz:=V4 hD C (p3.ord C.ty) (fun a=>by show (if (1:Nat)=0 then co a % 2 else a % 2)<=1;split<;>omega) (p1.sc u v) (p2.sc u v);exact (IH.put l 1 u v).tk hD nW C.hd cw Hz ⟨fun a ha=>by
  rcases List.mem_cons.1 ha with rfl|h
  ·exact nW
  rcases List.mem_append.1 h with h|h
  ·exact (hA a h).1
  ·exact List.mem_range.1 h,fun a ha _=>by simp [ha]⟩ ⟨h2.lt,h2.all⟩
end
end Hs
end Go.Proofs.YtjpbeacamoijhaaGreatDoor
