/- Plain: a circle below may be walked first or last. -/
import Derived.Test.YtjpbeacamoijhaaGreatDoorZj
import Derived.Test.YtjpbeacamoijhaaGreatDoorHs8
namespace Go.Proofs.YtjpbeacamoijhaaGreatDoor
set_option linter.unusedSimpArgs false
set_option linter.unusedVariables false
namespace Hs
open Sp (eY aV)
section
variable {D:Sh} {K sm:Nat->Bool} {r dF:Nat->Nat} {l0:List (Nat×Bool)} {b0:Nat}
theorem QK.sc {l:List (Nat×Bool)} {S:WS} {x0:Nat} (h:QK D K sm r dF l S x0) (u v:Int):QK D K sm r dF l (S.sc u v) x0:=⟨h.ae,h.q,h.q2⟩
theorem QK.cr {l:List (Nat×Bool)} {S:WS} {x0:Nat} (h:QK D K sm r dF l S x0):QK D K sm r dF l S.cr x0:=⟨h.ae,h.q,h.q2⟩
theorem QK.mk2 (C:im D K sm l0 b0) {S:WS} {a:Nat} {p:Bool} {l1 l:List (Nat×Bool)} (hl:l0=l1++(a,p)::l) (h:QK D K sm r dF ((a,p)::l) S D.n) (hc:K (co a)=false) (v:Nat):QK D K sm r dF l (S.mk' a v) (a/2):=by
 have ha:K a=true:=(C.mem a).2 (by rw [hl];simp);have hnd:=C.nd;rw [hl,List.map_append,List.map_cons] at hnd;have B3:a∉l.map Prod.fst:=(List.nodup_cons.1 (List.nodup_append.1 hnd).2.1).1
 have ne: ∀b,b<2*D.n->b/2≠a/2->(S.mk' a v).st (b/2)=S.st (b/2)/\(S.mk' a v).ae b=S.ae b/\(S.mk' a v).ae (co b)=S.ae (co b):=fun b _ hb=>
  ⟨bt _ _ hb,dM S fun e=>hb (by rw [e]),dM S fun e=>hb (by rw [←bV b,e])⟩
 refine ⟨fun b hb=>?_,fun b hb hk dh gT=>?_,fun b hb hk dh=>?_⟩
 ·by_cases e:b=a
  ·rw [e,lk];simp [B3]
  ·rw [dM S e,h.ae b hb];simp [e]
 ·obtain ⟨e1,e2,e3⟩:=ne b hb gT;rw [e1,e2,e3];exact h.q b hb hk dh (by omega)
 ·have:b/2≠a/2:=fun e=>by
   rcases jV e with e|e
   ·rw [e,hc] at dh;cases dh
   ·rw [e,hc] at hk;cases hk
  obtain ⟨e1,e2,e3⟩:=ne b hb this;rw [e1,e2,e3];exact h.q2 b hb hk dh
theorem QK.mk3 (C:im D K sm l0 b0) {l:List (Nat×Bool)} {S:WS} {y:Nat} (hy:K y=false) (DQ:K (co y)=true) (hc:S.ae (co y)=true) (h:QK D K sm r dF l S (y/2)) (x1:Nat):QK D K sm r dF l (S.mk' y 4) x1:=by
 have ne: ∀b,b/2≠y/2->(S.mk' y 4).st (b/2)=S.st (b/2)/\(S.mk' y 4).ae b=S.ae b/\(S.mk' y 4).ae (co b)=S.ae (co b):=fun b hb=>
  ⟨bt _ _ hb,dM S fun e=>hb (by rw [e]),dM S fun e=>hb (by rw [←bV b,e])⟩
 refine ⟨fun b hb=>?_,fun b hb hk dh gT=>?_,fun b hb hk dh=>?_⟩
 ·rw [dM S fun e=>by rw [e,hy] at hb;cases hb];exact h.ae b hb
 ·by_cases e:b/2=y/2
  ·rcases jV e with e|e
   ·subst e;rw [show (S.mk' b 4).st (b/2)=4 from bG _ _ _,lk,dM S (qU b),hc];rfl
   ·rw [e,DQ] at hk;cases hk
  ·obtain ⟨e1,e2,e3⟩:=ne b e;rw [e1,e2,e3];exact h.q b hb hk dh e
 ·have:b/2≠y/2:=fun e=>by
   rcases jV e with e|e
   ·rw [e,hy] at hk;cases hk
   ·rw [e,di,hy] at dh;cases dh
  obtain ⟨e1,e2,e3⟩:=ne b this;rw [e1,e2,e3];exact h.q2 b hb hk dh
theorem RZ (hD:Ok D) (C:im D K sm l0 b0) (hO:zO K dF l0) (hr: ∀a,r a=a % 2) {k:WS->Int} {S:WS} {a:Nat} {p:Bool} {l1 l:List (Nat×Bool)} (hl:l0=l1++(a,p)::l) (h:QK D K sm r dF ((a,p)::l) S D.n)
  (H: ∀S',QK D K sm r dF l S' D.n->W D (dT b0) S' (iv D a p) (fun S _=>k S)=Lw D (lI D l) k (TK K sm S')):
  (sumB (br D S a) fun S' d=>W D (dT b0) S' d fun S _=>k S)=Lw D (lI D ((a,p)::l)) k (TK K sm S):=by
 have hm:(a,p)∈l0:=by rw [hl];simp
 have ha:K a=true:=(C.mem a).2 (by rw [hl];simp);have bZ:a<2*D.n:=C.lt _ hm;have hp:p= !sm (a/2):=C.ty _ hm;have p5:S.ae a=false:=(h.ae a ha).2 (by simp);have aY:=ee bZ;by_cases hd:K (co a)=true\/S.ae (co a)=true\/sm (a/2)=true
 ·rw [h.iB C hO hl (hd.elim .inl fun hd=> .inr (hd.elim .inl fun hd=> .inr (.inl hd))),rV,H _ (h.sR C hl rfl (.inl rfl)),xq _ _ ha];show _=Lw D (if p=true then (co a,sl D a)::lI D l else lI D l) k _;by_cases aB:p=true
  ·rw [if_pos aB];show _=Lt D (co a) _ _ _;rw [rW];show (S.ae (co a)||K (co a))=true;rcases hd with h|h|h
   ·rw [h,Bool.or_true]
   ·rw [h];rfl
   ·rw [h] at hp;rw [hp] at aB;cases aB
  ·rw [if_neg aB]
 ·have hk:K (co a)=false:=by cases e:K (co a) with
   |false=>rfl
   |true=>exact absurd (.inl e) hd
  have hv:S.ae (co a)=false:=by cases e:S.ae (co a) with
   |false=>rfl
   |true=>exact absurd (.inr (.inl e)) hd
  have hs:sm (a/2)=false:=by cases e:sm (a/2) with
   |false=>rfl
   |true=>exact absurd (.inr (.inr e)) hd
  have aB:p=true:=by rw [hp,hs];rfl
  subst aB;have zG:=h.q (co a) aY hk (by rw [di];exact ha) (by rw [bV];omega);rw [bV,di,p5,hv,hs,hr] at zG;have G0:S.st (a/2)=co a % 2:=zG;have jY:dO D (S.st (a/2)) (a/2)=sl D a:=by unfold sl;rw [G0]
  rw [Hc bZ (by rw [G0,vt]),KX,jY];show _=Lt D (co a) (sl D a) (Lw D (lI D l) k) (TK K sm S);rw [sG (by show (S.ae (co a)||K (co a))=false;rw [hv,hk];rfl)];have m3:=h.sR C hl (v:=3) (by rw [hs,hv];rfl) (x1:=D.n) (.inl rfl);have t1:=H _ (m3.sc (2*sl D a) 0);rw [yI,xq _ _ ha] at t1;congr 1;congr 1
  have B7:K (D.nx (co a))=false:=((C.kc (co a) aY hk).1 (by rw [di];exact ha)).2 (by rw [bV];exact hs);have FO:co a≠b0:=fun e=>by
   have:K b0=true:=by
    obtain ⟨⟨c,q⟩,l',e'⟩:=List.exists_cons_of_ne_nil C.ne;have hc:=C.ch;rw [e'] at hc;rw [hc.1];exact (C.mem c).2 (by rw [e'];simp)
   rw [←e,hk] at this;cases this
  rw [KY (s2:=dT b0) (s1:=fun z=>dT b0 z||dT (co a) z) (fun z hz=>by show (dT b0 z||_)=true;rw [hz];rfl)];rw [Ul C (Loc.pn 4 (bV a)) hr (x0:=a/2) (y:=co a) (l:=l) (fun b hb eT e=>by
    rcases jV e with e|e
    ·rw [e,ha] at eT;cases eT
    ·exact e) (fun S' b=>S'.ae (co a)=false/\S'.st (a/2)=2/\S'.ae a=true) ?_ hD (s1:=fun z=>dT b0 z||dT (co a) z) ?_ (k':=Lw D (lI D l) k) ?_ (hD.lt _ aY) B7 ((h.mk2 C hl hk 2).sc _ _) ?_]
  ·unfold bA
   have:((TK K sm S).sc (sl D a) 1).st (co a/2)=3:=by
    show (TK K sm S).st (co a/2)=3;rw [l9,hk,di,ha,hv,bV,hs];rfl
   rw [pI aY this,rV,yI,xq _ _ ha]
  ·intro S' b ⟨j1,j2,j3⟩ hb eT uY nC x hx;have ax:b/2≠a/2:=fun e=>by
    rcases jV e with e|e
    ·rw [e,ha] at eT;cases eT
    ·exact uY e
   obtain ⟨_,v,e1,e2,_⟩:=IX hx;rw [e1,e2];exact ⟨by rw [bt _ _ (Ne.symm uY)];exact j1,by rw [bt _ _ (Ne.symm ax)];exact j2,by rw [bt _ _ fun e=>ax (by rw [e])];exact j3⟩
  ·intro b eT;have nH:b≠b0:=fun e=>by
    have:K b0=true:=by
     obtain ⟨⟨c,q⟩,l',e'⟩:=List.exists_cons_of_ne_nil C.ne;have hc:=C.ch;rw [e'] at hc;rw [hc.1];exact (C.mem c).2 (by rw [e'];simp)
    rw [←e,eT] at this;cases this
   show (dT b0 b||dT (co a) b)=_;rw [tM nH];rfl
  ·intro S' hq ⟨j1,j2,j3⟩;rw [gQ (tM FO) j1,l5 aY (by rw [bV];exact j2),rV,di];have vI:=QK.mk3 C hk (by rw [di];exact ha) (by rw [di];exact j3) (by rw [bV];exact hq) D.n
   have:=H _ vI
   rw [Hu _ _ hk (by rw [di];exact ha)] at this;exact this
  ·exact ⟨(dM (v:=2) S (qU a)).trans hv,bG _ _ _,lk S a 2⟩
theorem low (hD:Ok D) (C:im D K sm l0 b0) (hO:zO K dF l0) (hr: ∀a,r a=a % 2) {S:WS} (h:QK D K sm r dF l0 S D.n) (k:WS->Int):bA D S b0 k=Lw D (lI D l0) k (TK K sm S):=by
 have key: ∀(l l1:List (Nat×Bool)) (S:WS) (d:Nat),l0=l1++l->l1≠[]->qE D d l b0->QK D K sm r dF l S D.n->W D (dT b0) S d (fun S _=>k S)=Lw D (lI D l) k (TK K sm S):=fun l=>by
  induction l with
  |nil=>
   intro l1 S d _ _ hc hq;have e:d=b0:=hc;subst e;rw [iG (js d),hq.done C (Nat.le_refl _)];rfl
  |cons x l ih=>
   obtain ⟨a,p⟩:=x;intro l1 S d hl h1 hc hq;obtain ⟨e,dh⟩:=hc;subst e;have ha:K d=true:=(C.mem d).2 (by rw [hl];simp);rw [gQ (tM (PT C hl h1)) ((hq.ae d ha).2 (by simp))];exact RZ hD C hO hr hl hq fun S' vI=>ih (l1++[(d,p)]) S' _ (by rw [hl];simp) (by simp) dh vI
 obtain ⟨⟨a,p⟩,l,hl⟩:=List.exists_cons_of_ne_nil C.ne;have hc:=C.ch;rw [hl] at hc;obtain ⟨e,dh⟩:=hc;rw [hl] at h⊢;unfold bA;rw [show br D S b0=br D S a by rw [e]];exact RZ hD C hO hr (l1:=[]) hl h fun S' vI=>key l [(a,p)] S' _ hl (by simp) dh vI
theorem PS: ∀(l:List (Nat×Bool)) (s e:Nat),qE D s l e-> ∀x∈l,iv D x.1 x.2=e\/iv D x.1 x.2∈l.map Prod.fst
 |[],s,e,_,x,hx=>by cases hx
 |(a,p)::l,s,e,h,x,hx=>by
  obtain ⟨h1,h2⟩:=h;rcases List.mem_cons.1 hx with rfl|hx
  ·cases l with
   |nil=>exact .inl h2
   |cons y l=>exact .inr (by rw [h2.1];simp)
  ·rcases PS l _ e h2 x hx with h|h
   ·exact .inl h
   ·exact .inr (by simp [h])
theorem im.hd (C:im D K sm l0 b0):K b0=true:=by
 obtain ⟨⟨c,q⟩,l',e'⟩:=List.exists_cons_of_ne_nil C.ne;have hc:=C.ch;rw [e'] at hc;rw [hc.1];exact (C.mem c).2 (by rw [e'];simp)
def y5 (K:Nat->Bool) (S:WS):WS:={S with st:=fun c=>if S.st c<=1 then (if K (2*c)&&K (2*c+1) then S.st c else if K (2*c) then 0 else if K (2*c+1) then 1 else S.st c) else S.st c}
theorem Zc (S:WS) (c:Nat):(y5 K S).st c<=1↔S.st c<=1:=by
 show (if S.st c<=1 then _ else _)<=1↔_;by_cases h:S.st c<=1
 ·rw [if_pos h];refine ⟨fun _=>h,fun _=>?_⟩
  split
  ·exact h
  split
  ·omega
  split
  ·omega
  ·exact h
 ·rw [if_neg h]
theorem PR (S:WS) {c:Nat} (h: ¬S.st c<=1):(y5 K S).st c=S.st c:=if_neg h
theorem Bd.G9 {S S':WS} (h:Bd D S) (hv:S'.ae=S.ae) (h1: ∀c,(S.st c<=1/\(S'.st c<=1\/S'.st c=5))\/S'.st c=S.st c):Bd D S':=fun a ha=>by
 have f:=h a ha;unfold Fit at*;rw [hv];rcases h1 (a/2) with ⟨h2,h3⟩|h2
 ·rw [aD.i0 (.inl h2)] at f;exact (aD.i0 h3).2 f
 ·rw [h2];exact f
theorem Kr (hD:Ok D) (C:im D K sm l0 b0) (hO:zO K dF l0) {S:WS} (hr: ∀a,r a<=1) (hB:Bd D S) (h:QK D K sm r dF l0 S D.n):Bd D (TK K sm S):=by
 have hu: ∀b,b<2*D.n-> ¬S.st (b/2)<=1\/S.st (b/2)<=1:=fun b _=>by omega
 have iZ:Bd D (y5 K S):=hB.G9 rfl fun c=>by
  by_cases h:S.st c<=1
  ·exact .inl ⟨h, .inl ((Zc S c).2 h)⟩
  ·exact .inr (PR S h)
 have hq:QK D K sm (fun b=>1-b % 2) dF l0 (y5 K S) D.n:=by
  refine ⟨h.ae,fun b hb hk hc gT=>?_,fun a ha hk hc=>?_⟩
  ·have e:=h.q b hb hk hc gT;show (y5 K S).st (b/2)=cj _ (S.ae b) (S.ae (co b)) _;by_cases h1:S.st (b/2)<=1
   ·have e2:(y5 K S).st (b/2)=1-b % 2:=by
     show (if S.st (b/2)<=1 then _ else _)=_;rw [if_pos h1];rcases ends b with ⟨k1,k2⟩|⟨k1,k2⟩
     ·rw [←k2,←k1,hk,hc];simp;omega
     ·rw [←k1,←k2,hk,hc];simp;omega
    rw [e2];rw [e] at h1;revert h1;unfold cj;cases sm (b/2)<;>cases S.ae b<;>cases S.ae (co b)<;>simp
   ·rw [PR S h1,e];rw [e] at h1;revert h1
    have:=hr b
    unfold cj;cases sm (b/2)<;>cases S.ae b<;>cases S.ae (co b)<;>simp;omega
  ·show (y5 K S).st (a/2)=cj (sm (a/2)) (S.ae a) (S.ae (co a)) (dF (a/2));rw [←h.q2 a ha hk hc];show (if S.st (a/2)<=1 then _ else _)=_
   split
   ·rcases ends a with ⟨k1,k2⟩|⟨k1,k2⟩
    ·rw [←k2,←k1,hk,hc];rfl
    ·rw [←k1,←k2,hk,hc];rfl
   ·rfl
 have hT:TK K sm (y5 K S)=TK K sm S:=by
  refine WS.ext' (fun b=>?_) rfl rfl rfl rfl;rw [l9,l9];cases hk:K b with
  |true=>cases hc:K (co b)<;>rfl
  |false=>
   cases hc:K (co b) with
   |true=>rfl
   |false=>
    show (y5 K S).st (b/2)=S.st (b/2);show (if S.st (b/2)<=1 then _ else _)=_
    split
    ·rcases ends b with ⟨k1,k2⟩|⟨k1,k2⟩
     ·rw [←k2,←k1,hk,hc];rfl
     ·rw [←k1,←k2,hk,hc];rfl
    ·rfl
 rw [←hT];exact (top hD C hO (fun a=>by rw [vt];omega) iZ hq fun _=>0).2
theorem Kq (hD:Ok D) {al:Nat->Nat} (hP:qT D al) (C:im D K sm l0 b0) (hO:zO K dF l0) (hr: ∀a,r a=a % 2) {S:WS} (hB:Bd D S) (h:QK D K sm r dF l0 S D.n) (X:Int->Int->Nat->Int) (L:List Nat):run X D (b0::L) S=run X D L (TK K sm S).cr:=by
 have hv0:S.ae b0=false:=(h.ae b0 C.hd).2 ((C.mem b0).1 C.hd);show (if S.ae b0=true then _ else bA D S.cr b0 (run X D L))=_;rw [if_neg (by simp [hv0]),low hD C hO hr h.cr,D4];refine word hD hP C.ch (fun x hx=>?_) (Kr hD C hO (fun a=>by rw [hr];omega) hB h).cr _;have hk:K x.1=true:=(C.mem _).2 (List.mem_map.2 ⟨x,hx,rfl⟩);refine ⟨C.lt x hx,?_,?_,fun hp=>?_⟩
 ·show (S.ae x.1||K x.1)=true;rw [hk,Bool.or_true]
 ·show (S.ae _||K _)=true
  have:K (iv D x.1 x.2)=true:=by
   rcases PS l0 _ _ C.ch x hx with e|e
   ·rw [e];exact C.hd
   ·exact (C.mem _).2 e
  rw [this,Bool.or_true]
 ·show (TK K sm S).st (x.1/2)=3\/(TK K sm S).st (x.1/2)=4;have hs:sm (x.1/2)=false:=by
   have:=C.ty x hx
   rw [hp] at this;cases e:sm (x.1/2) with
   |false=>rfl
   |true=>rw [e] at this;cases this
  rw [l9,hk,hs];cases K (co x.1)<;>cases S.ae x.1<;>cases S.ae (co x.1)<;>simp
theorem back (hD:Ok D) {al:Nat->Nat} (hP:qT D al) (C:im D K sm l0 b0) (hO:zO K dF l0) (hr: ∀a,r a=a % 2) (X:Int->Int->Nat->Int) (L:List Nat): ∀(lA:List Nat) {S:WS},(∀a∈lA,a<2*D.n/\K a=false)->Bd D S->QK D K sm r dF l0 S D.n->run X D (lA++b0::L) S=run X D (lA++L) (TK K sm S).cr
 |[],S,_,hB,h=>Kq hD hP C hO hr hB h X L
 |a::lA,S,hA,hB,h=>by
  obtain ⟨bZ,Gn⟩:=hA a (.head _);have ih:=fun S' (iZ:Bd D S') (h':QK D K sm r dF l0 S' D.n)=>back hD hP C hO hr X L lA (S:=S') (fun b hb=>hA b (.tail _ hb)) iZ h';show (if S.ae a=true then _ else _)=if (S.ae a||K a)=true then _ else _;rw [Gn,Bool.or_false];cases hv:S.ae a with
  |true=>exact ih S hB h
  |false=>
   simp only [Bool.false_eq_true,if_false];show bA D S.cr a (run X D (lA++b0::L))=bA D (TK K sm S).cr.cr a (run X D (lA++L));rw [show bA D (TK K sm S).cr.cr a (run X D (lA++L))=bA D (TK K sm S).cr a (fun S=>run X D (lA++L) S.cr) from PH _ _,←D4];unfold bA;have hid:Loc D.n (fun S:WS=>S):=⟨fun _ _ _=>rfl,fun _ _ _=>rfl,fun _ _ _ _=>rfl,fun _ _ _=>rfl⟩
   refine (Ro C hid hr hD bZ Gn h.cr (by omega) hv).sum fun x hx S' a' ⟨e1,e2,e3,e4,e5⟩=>?_;subst e1 e2;exact Ul C hid hr (fun b hb _ e=>absurd e (by omega)) (fun S' b=>qa D S' a b) (fun S' b hM _ _ ax _ y hy=>hM.step hD ax hy) hD (fun _ _=>rfl) (k':=fun S=>run X D (lA++L) S.cr) (fun S' hq hM=>ih S' hM.close hq) e3 e4 e5 (hB.cr.start hD hv hx)
end
end Hs
namespace Hs
open Sp (eY aV aw itn)
section
variable {D:Sh}
def aq (S:WS) (c:Nat):Bool:=decide (S.st c=5\/S.st c=2)
theorem sF {S:WS} {c:Nat}:aq S c=true↔S.st c=5\/S.st c=2:=by unfold aq;exact decide_eq_true_iff
theorem rZ {S:WS} {c:Nat}:aq S c=false↔S.st c≠5/\S.st c≠2:=by
 unfold aq;rw [decide_eq_false_iff_not];omega
def dH (D:Sh) (sm:Nat->Bool) (a:Nat):Nat:=iv D a (!sm (a/2))
theorem Bi (hD:Ok D) (sm:Nat->Bool):aw (2*D.n) (dH D sm):=by
 refine ⟨fun a ha=>?_,fun a b ha hb e=>?_⟩
 ·unfold dH iv;split
  ·exact hD.lt _ ha
  ·exact hD.lt _ (ee ha)
 ·unfold dH iv at e;cases h1:sm (a/2)<;>cases h2:sm (b/2)<;>rw [h1,h2] at e
  ·exact hD.inj _ _ ha hb e
  ·have e':a=co b:=hD.inj _ _ ha (ee hb) e;rw [e',bV,h2] at h1;cases h1
  ·have e':co a=b:=hD.inj _ _ (ee ha) hb e;rw [←e',bV,h1] at h2;cases h2
  ·have e':co a=co b:=hD.inj _ _ (ee ha) (ee hb) e;rw [←di a,e',di]
theorem Rn: ∀(l:List (Nat×Bool)) (s e:Nat),qE D s l e-> ∀a∈l.map Prod.fst,a=s\/ ∃x∈l,iv D x.1 x.2=a
 |[],s,e,_,a,ha=>by cases ha
 |(c,p)::l,s,e,h,a,ha=>by
  obtain ⟨h1,h2⟩:=h;rcases List.mem_cons.1 ha with rfl|ha
  ·exact .inl h1.symm
  ·rcases Rn l _ e h2 a ha with h|⟨x,hx,h⟩
   ·exact .inr ⟨(c,p), .head _,h.symm⟩
   ·exact .inr ⟨x, .tail _ hx,h⟩
theorem Rm: ∀(l:List (Nat×Bool)) (s e:Nat),qE D s l e->l≠[]-> ∃x∈l,iv D x.1 x.2=e
 |[],s,e,_,h=>absurd rfl h
 |(c,p)::l,s,e,h,_=>by
  obtain ⟨h1,h2⟩:=h;cases l with
  |nil=>exact ⟨(c,p), .head _,h2⟩
  |cons y l=>
   obtain ⟨x,hx,e'⟩:=Rm (y::l) _ e h2 (by simp);exact ⟨x, .tail _ hx,e'⟩
def aj (l:List (Nat×Bool)) (a:Nat):Bool:=decide (a∈l.map Prod.fst)
theorem my {l:List (Nat×Bool)} {a:Nat}:aj l a=true↔a∈l.map Prod.fst:=by unfold aj;exact decide_eq_true_iff
theorem im.make (hD:Ok D) {sm:Nat->Bool} {l:List (Nat×Bool)} {b:Nat} (ch:qE D b l b) (ne:l≠[]) (lt: ∀x∈l,x.1<2*D.n) (nd:(l.map Prod.fst).Nodup) (ty: ∀x∈l,x.2= !sm (x.1/2)):im D (aj l) sm l b:=by
 have hp:=Bi hD sm;have pre: ∀c,c<2*D.n->aj l (dH D sm c)=true->aj l c=true:=fun c hc hk=>by
  have: ∃x∈l,iv D x.1 x.2=dH D sm c:=by
   rcases Rn l b b ch _ (my.1 hk) with h|h
   ·rw [h];exact Rm l b b ch ne
   ·exact h
  obtain ⟨x,hx,e⟩:=this;rw [ty x hx] at e
  have:=hp.inj _ _ (lt x hx) hc e
  rw [←this];exact my.2 (List.mem_map.2 ⟨x,hx,rfl⟩)
 have Fq: ∀c,c<2*D.n->aj l c=false->aj l (dH D sm c)=false:=fun c hc hk=>by
  cases e:aj l (dH D sm c) with
  |false=>rfl
  |true=>rw [pre c hc e] at hk;cases hk
 refine ⟨ch,ne,lt,nd,fun a=>my,ty,fun c hc hk=>?_⟩;have h1:=Fq c hc hk;unfold dH iv at h1;refine ⟨fun _=>⟨fun hs=>?_,fun hs=>?_⟩,fun vM=>?_⟩
 ·rw [hs] at h1;exact h1
 ·rw [hs] at h1;exact h1
 ·have h2:=Fq (co c) (ee hc) vM;unfold dH iv at h2;rw [bV,di] at h2;cases hs:sm (c/2) with
  |true=>rw [hs] at h1 h2;exact ⟨h2,h1⟩
  |false=>rw [hs] at h1 h2;exact ⟨h1,h2⟩
def pl (D:Sh) (sm:Nat->Bool) (b:Nat):Nat->Nat->List (Nat×Bool)
 |0,_=>[]
 |m+1,i=>(itn (dH D sm) i b,!sm (itn (dH D sm) i b/2))::pl D sm b m (i+1)
theorem Uk (sm:Nat->Bool) (b:Nat): ∀m i,qE D (itn (dH D sm) i b) (pl D sm b m i) (itn (dH D sm) (i+m) b)
 |0,i=>rfl
 |m+1,i=>by
  refine ⟨rfl,?_⟩
  have:=Uk sm b m (i+1)
  rw [show i+1+m=i+(m+1) by omega] at this;exact this
theorem C9 {sm:Nat->Bool} {b:Nat}: ∀{m i:Nat} {x:Nat×Bool},x∈pl D sm b m i-> ∃j,i<=j/\j<i+m/\x=(itn (dH D sm) j b,!sm (itn (dH D sm) j b/2))
 |0,i,x,h=>by cases h
 |m+1,i,x,h=>by
  rcases List.mem_cons.1 h with rfl|h
  ·exact ⟨i,by omega,by omega,rfl⟩
  ·obtain ⟨j,h1,h2,h3⟩:=C9 h;exact ⟨j,by omega,by omega,h3⟩
theorem Uj {sm:Nat->Bool} {b:Nat}: ∀{m i j:Nat},i<=j->j<i+m->itn (dH D sm) j b∈(pl D sm b m i).map Prod.fst
 |0,i,j,h1,h2=>by omega
 |m+1,i,j,h1,h2=>by
  by_cases e:j=i
  ·subst e;exact .head _
  ·exact .tail _ (Uj (by omega) (by omega))
theorem Ui {sm:Nat->Bool} {b k:Nat} (h: ∀i j,i<j->j<k->itn (dH D sm) i b≠itn (dH D sm) j b): ∀m i,i+m<=k->((pl D sm b m i).map Prod.fst).Nodup
 |0,i,_=> .nil
 |m+1,i,hm=>by
  show (itn (dH D sm) i b::(pl D sm b m (i+1)).map Prod.fst).Nodup;refine List.nodup_cons.2 ⟨fun df=>?_,Ui h m (i+1) (by omega)⟩;obtain ⟨x,hx,e⟩:=List.mem_map.1 df;obtain ⟨j,h1,h2,rfl⟩:=C9 hx;exact h i j (by omega) (by omega) e.symm
theorem u9 (hD:Ok D) {S:WS} (hB:Bd D S) {b:Nat} (hb:b<2*D.n) (hv:S.ae b=false): ∃l,im D (aj l) (aq S) l b/\(∀a,aj l a=true->S.ae a=false)/\(∀i,aj l (itn (dH D (aq S)) i b)=true)/\(∀a,aj l a=true-> ∃i,a=itn (dH D (aq S)) i b):=by
 have hp:=Bi hD (aq S);obtain ⟨k,h0,hk,wR⟩:=Sp.oO hp hb;have ax: ∀i j,i<j->j<k->itn (dH D (aq S)) i b≠itn (dH D (aq S)) j b:=fun i j ke hj e=>by
  refine wR (j-i) (by omega) (by omega) ?_;have e2:itn (dH D (aq S)) i (itn (dH D (aq S)) (j-i) b)=itn (dH D (aq S)) i b:=by rw [←Sp.dC,show i+(j-i)=j by omega];exact e.symm
  exact hp.qq (hp.a7 hb _) hb i e2
 have cS: ∀i,S.ae (itn (dH D (aq S)) i b)=false:=fun i=>by
  induction i with
  |zero=>exact hv
  |succ i ih=>
   have hl:=hp.a7 hb i;simp only [itn];generalize itn (dH D (aq S)) i b=a at*;have f:=hB a hl;have f':=hB (co a) (ee hl);unfold Fit at f f';rw [bV,di] at f';unfold dH iv;cases hs:aq S (a/2) with
   |true=>
    rcases sF.1 hs with h|h
    ·rw [h,aD.i0 (.inr rfl)] at f';simpa using f'.2
    ·rw [h,aD.i2] at f;cases e:S.ae (D.nx (co a)) with
     |false=>exact e
     |true=>rw [f.1.2 e] at ih;cases ih
   |false=>
    obtain ⟨n5,n2⟩:=rZ.1 hs;unfold aD at f;rcases f with ⟨_,_,h⟩|⟨_,h,_⟩|⟨_,h,_⟩|⟨h,_⟩
    ·simpa using h
    ·rw [h] at ih;cases ih
    ·cases e:S.ae (D.nx a) with
     |false=>exact e
     |true=>rw [h.2 e] at ih;cases ih
    ·exact absurd h n2
 refine ⟨pl D (aq S) b k 0,im.make hD ?_ ?_ ?_ (Ui ax k 0 (by omega)) ?_,?_,?_,?_⟩
 ·have:=Uk (D:=D) (aq S) b k 0
  rw [Nat.zero_add,hk] at this;exact this
 ·obtain ⟨m,rfl⟩: ∃m,k=m+1:=⟨k-1,by omega⟩;intro e;cases e
 ·intro x hx;obtain ⟨j,_,_,rfl⟩:=C9 hx;exact hp.a7 hb j
 ·intro x hx;obtain ⟨j,_,_,rfl⟩:=C9 hx;rfl
 ·intro a ha;obtain ⟨x,hx,rfl⟩:=List.mem_map.1 (my.1 ha);obtain ⟨j,_,_,rfl⟩:=C9 hx;exact cS j
 ·intro i
  have: ∀i,∃j,j<k/\itn (dH D (aq S)) i b=itn (dH D (aq S)) j b:=fun i=>by
   induction i with
   |zero=>exact ⟨0,h0,rfl⟩
   |succ i ih=>
    obtain ⟨j,hj,e⟩:=ih;by_cases h:j+1<k
    ·exact ⟨j+1,h,by simp only [itn];rw [e]⟩
    ·refine ⟨0,h0,?_⟩
     have:j+1=k:=by omega
     simp only [itn];rw [e];have e2:dH D (aq S) (itn (dH D (aq S)) j b)=itn (dH D (aq S)) (j+1) b:=rfl;rw [e2,this,hk]
  obtain ⟨j,hj,e⟩:=this i;rw [e];exact my.2 (Uj (Nat.zero_le _) (by omega))
 ·intro a ha;obtain ⟨x,hx,rfl⟩:=List.mem_map.1 (my.1 ha);obtain ⟨j,_,_,rfl⟩:=C9 hx;exact ⟨j,rfl⟩
theorem QK.of {S:WS} {K:Nat->Bool} {l:List (Nat×Bool)} {b:Nat} {r:Nat->Nat} (hB:Bd D S) (C:im D K (aq S) l b) (cS: ∀a,K a=true->S.ae a=false) (hr: ∀b,b<2*D.n->K b=false->K (co b)=true->S.st (b/2)<=1->S.st (b/2)=r b):QK D K (aq S) r S.st l S D.n:=by
 refine ⟨fun a ha=>⟨fun _=>(C.mem a).1 ha,fun _=>cS a ha⟩,fun b hb hk hc _=>?_,fun a ha hk hc=>?_⟩
 ·have f:=hB b hb;unfold Fit at f;have hv:=cS _ hc;rw [hv];unfold aD at f;rcases f with ⟨h,h1,_⟩|⟨h,_,h2⟩|⟨h,_,h1⟩|⟨h,_,h1⟩
  ·rw [h1];rcases h with h|h
   ·have:aq S (b/2)=false:=rZ.2 (by omega)
    rw [this];exact hr b hb hk hc h
   ·have:aq S (b/2)=true:=sF.2 (.inl h)
    rw [this,h];rfl
  ·have f':=hB (co b) (ee hb);unfold Fit at f';rw [bV,h,aD.i4,hv] at f';cases f'.1
  ·rw [hv] at h1
   have:aq S (b/2)=false:=rZ.2 (by omega)
   rw [h1,this,h];rfl
  ·rw [hv] at h1
   have:aq S (b/2)=true:=sF.2 (.inr h)
   rw [h1,this,h];rfl
 ·have f:=hB a ha;unfold Fit at f;rw [cS _ hk,cS _ hc] at f⊢;unfold aD at f;rcases f with ⟨h,h1,_⟩|⟨h,h1,h2⟩|⟨h,_,h1⟩|⟨h,_,h1⟩
  ·rcases h with h|h
   ·have:aq S (a/2)=false:=rZ.2 (by omega)
    rw [this];rfl
   ·have:aq S (a/2)=true:=sF.2 (.inl h)
    rw [this,h];rfl
  ·cases h1
  ·cases h1
  ·cases h1
def oT (sm:Nat->Bool) (dF:Nat->Nat) (l0:List (Nat×Bool)):Prop:= ∀a,sm (a/2)=false->[a,co a].Sublist (l0.map Prod.fst)->dF (a/2)=a % 2
theorem oT.ord {K sm:Nat->Bool} {dF:Nat->Nat} {l:List (Nat×Bool)} (ty: ∀x∈l,x.2= !sm (x.1/2)) (h:oT sm dF l):zO K dF l:=fun l1 a l2 e _ df=>by
 have:=ty (a,true) (by rw [e];simp)
 refine h a ?_ ?_
 ·cases e:sm (a/2) with
  |false=>rfl
  |true=>rw [e] at this;cases this
 ·rw [e,List.map_append,List.map_cons];exact ((List.singleton_sublist.2 df).cons_cons a).trans (List.sublist_append_right _ _)
theorem IV {a b:Nat} (lW:a≠b): ∀{L:List Nat},L.Nodup->[a,b].Sublist L-> ¬[b,a].Sublist L
 |[],_,h=>by cases h
 |c::L,hn,h=>fun h'=>by
  obtain ⟨h1,h2⟩:=List.nodup_cons.1 hn;cases h with
  |cons _ h=>
   cases h' with
   |cons _ h'=>exact IV lW h2 h h'
   |cons_cons _ h'=>exact h1 (h.subset (by simp))
  |cons_cons _ h=>
   cases h' with
   |cons _ h'=>exact h1 (h'.subset (by simp))
   |cons_cons _ h'=>exact lW rfl
end
end Hs
end Go.Proofs.YtjpbeacamoijhaaGreatDoor
