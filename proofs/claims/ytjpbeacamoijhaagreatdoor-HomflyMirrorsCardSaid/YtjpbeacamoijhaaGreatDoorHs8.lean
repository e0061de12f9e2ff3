/- Plain: a circle above, a circle below. -/
import Derived.Test.YtjpbeacamoijhaaGreatDoorHs4
namespace Go.Proofs.YtjpbeacamoijhaaGreatDoor
set_option linter.unusedSimpArgs false
set_option linter.unusedVariables false
namespace Hs
structure im (D:Sh) (K sm:Nat->Bool) (l:List (Nat×Bool)) (b:Nat):Prop where
 ch:qE D b l b
 ne:l≠[]
 lt: ∀x∈l,x.1<2*D.n
 nd:(l.map Prod.fst).Nodup
 mem: ∀a,K a=true↔a∈l.map Prod.fst
 ty: ∀x∈l,x.2= !sm (x.1/2)
 kc: ∀b,b<2*D.n->K b=false->(K (co b)=true->(sm (b/2)=true->K (D.nx (co b))=false)/\(sm (b/2)=false->K (D.nx b)=false))/\(K (co b)=false->K (D.nx b)=false/\K (D.nx (co b))=false)
def cj (sm vb vc:Bool) (r:Nat):Nat:=if vb&&vc then 4 else if vb||vc then (if sm then 2 else 3) else if sm then 5 else r
structure QK (D:Sh) (K sm:Nat->Bool) (r dF:Nat->Nat) (l:List (Nat×Bool)) (S:WS) (x0:Nat):Prop where
 ae: ∀a,K a=true->(S.ae a=false↔a∈l.map Prod.fst)
 q: ∀b,b<2*D.n->K b=false->K (co b)=true->b/2≠x0->S.st (b/2)=cj (sm (b/2)) (S.ae b) (S.ae (co b)) (r b)
 q2: ∀a,a<2*D.n->K a=true->K (co a)=true->S.st (a/2)=cj (sm (a/2)) (S.ae a) (S.ae (co a)) (dF (a/2))
def TK (K sm:Nat->Bool) (S:WS):WS:={S with
 ae:=fun a=>S.ae a||K a
 st:=fun c=>if K (2*c)&&K (2*c+1) then 4 else if K (2*c) then (if S.ae (2*c+1) then 4 else if sm c then 2 else 3) else if K (2*c+1) then (if S.ae (2*c) then 4 else if sm c then 2 else 3) else S.st c}
section
variable {D:Sh} {K sm:Nat->Bool}
theorem ends (a:Nat):(a=2*(a/2)/\co a=2*(a/2)+1)\/(a=2*(a/2)+1/\co a=2*(a/2)):=by
 unfold co;split<;>omega
theorem l9 (S:WS) (b:Nat):(TK K sm S).st (b/2)=if K b&&K (co b) then 4 else if K (co b) then (if S.ae b then 4 else if sm (b/2) then 2 else 3) else if K b then (if S.ae (co b) then 4 else if sm (b/2) then 2 else 3) else S.st (b/2):=by
 show (if K (2*(b/2))&&K (2*(b/2)+1) then 4 else if K (2*(b/2)) then (if S.ae (2*(b/2)+1) then 4 else if sm (b/2) then 2 else 3) else if K (2*(b/2)+1) then (if S.ae (2*(b/2)) then 4 else if sm (b/2) then 2 else 3) else S.st (b/2))=_;rcases ends b with ⟨h1,h2⟩|⟨h1,h2⟩
 ·rw [←h2,←h1];cases K b<;>cases K (co b)<;>rfl
 ·rw [←h1,←h2];cases K b<;>cases K (co b)<;>rfl
theorem WS.ext' {S S':WS} (h1: ∀a,S.st (a/2)=S'.st (a/2)) (h2:S.ae=S'.ae) (h3:S.i=S'.i) (h4:S.j=S'.j) (h5:S.k=S'.k):S=S':=by
 obtain ⟨st,ae,i,j,k⟩:=S;obtain ⟨st',vis',i',j',k'⟩:=S';simp only at*
 have:st=st':=funext fun c=>by
  have:=h1 (2*c)
  rwa [show 2*c/2=c by omega] at this
 subst this h2 h3 h4 h5;rfl
theorem xq (S:WS) {a:Nat} (v:Nat) (ha:K a=true):TK K sm (S.mk' a v)=TK K sm S:=by
 refine WS.ext' (fun b=>?_) (funext fun b=>?_) rfl rfl rfl
 ·rw [l9,l9];by_cases h:b/2=a/2
  ·rcases jV h with rfl|rfl
   ·rw [ha];rw [dM S (qU b)];cases K (co b)<;>rfl
   ·rw [di,ha,dM S (qU a)];cases K (co a)<;>rfl
  ·have n1:b≠a:=fun e=>h (by rw [e]);have n2:co b≠a:=fun e=>h (by rw [←bV b,e]);rw [dM S n1,dM S n2]
   have:(S.mk' a v).st (b/2)=S.st (b/2):=bt _ _ h
   rw [this]
 ·show (aM S.ae a true b||K b)=(S.ae b||K b);by_cases h:b=a
  ·rw [h,ha,Bool.or_true,Bool.or_true]
  ·rw [bt _ _ h]
theorem xr (S:WS) {a:Nat} (v:Nat) (ha:K a=false) (hc:K (co a)=false):TK K sm (S.mk' a v)=(TK K sm S).mk' a v:=by
 refine WS.ext' (fun b=>?_) (funext fun b=>?_) rfl rfl rfl
 ·show _=aM (TK K sm S).st (a/2) v (b/2);rw [l9];by_cases h:b/2=a/2
  ·rw [h,bG]
   have:(S.mk' a v).st (a/2)=v:=bG _ _ _
   rcases jV h with rfl|rfl
   ·rw [ha,hc,this];rfl
   ·rw [di,ha,hc,this];rfl
  ·have n1:b≠a:=fun e=>h (by rw [e]);have n2:co b≠a:=fun e=>h (by rw [←bV b,e]);rw [bt _ _ h,l9,dM S n1,dM S n2]
   have:(S.mk' a v).st (b/2)=S.st (b/2):=bt _ _ h
   rw [this]
 ·show (aM S.ae a true b||K b)=aM (fun b=>S.ae b||K b) a true b;by_cases h:b=a
  ·rw [h,bG,bG];rfl
  ·rw [bt _ _ h,bt _ _ h]
theorem Hu (S:WS) {a:Nat} (v:Nat) (ha:K a=false) (hc:K (co a)=true):TK K sm (S.mk' a v)=(TK K sm S).mk' a 4:=by
 refine WS.ext' (fun b=>?_) (funext fun b=>?_) rfl rfl rfl
 ·show _=aM (TK K sm S).st (a/2) 4 (b/2);rw [l9];by_cases h:b/2=a/2
  ·rw [h,bG];rcases jV h with rfl|rfl
   ·rw [ha,hc,lk];rfl
   ·rw [di,ha,hc,lk];rfl
  ·have n1:b≠a:=fun e=>h (by rw [e]);have n2:co b≠a:=fun e=>h (by rw [←bV b,e]);rw [bt _ _ h,l9,dM S n1,dM S n2]
   have:(S.mk' a v).st (b/2)=S.st (b/2):=bt _ _ h
   rw [this]
 ·show (aM S.ae a true b||K b)=aM (fun b=>S.ae b||K b) a true b;by_cases h:b=a
  ·rw [h,bG,bG];rfl
  ·rw [bt _ _ h,bt _ _ h]
theorem yI (S:WS) (u v:Int):TK K sm (S.sc u v)=(TK K sm S).sc u v:=rfl
theorem D4 (S:WS):TK K sm S.cr=(TK K sm S).cr:=rfl
variable {r dF:Nat->Nat} {l0:List (Nat×Bool)} {b0:Nat}
theorem im.vE (C:im D K sm l0 b0) {a:Nat} (h:K a=true):a<2*D.n:=by
 obtain ⟨x,hx,rfl⟩:=List.mem_map.1 ((C.mem a).1 h);exact C.lt x hx
theorem QK.done (C:im D K sm l0 b0) {S:WS} {x0:Nat} (h:QK D K sm r dF [] S x0) (hx:D.n<=x0):TK K sm S=S:=by
 have hv: ∀a,K a=true->S.ae a=true:=fun a ha=>by
  cases e:S.ae a with
  |true=>rfl
  |false=>exact absurd ((h.ae a ha).1 e) (by simp)
 refine WS.ext' (fun b=>?_) (funext fun b=>?_) rfl rfl rfl
 ·rw [l9];cases hk:K b with
  |true=>
   have hl:=C.vE hk;cases hc:K (co b) with
   |true=>
    rw [h.q2 b hl hk hc,hv b hk,hv _ hc];rfl
   |false=>
    have:=h.q (co b) (ee hl) hc (by rw [di];exact hk) (by rw [bV];omega)
    rw [bV,di,hv b hk] at this;rw [this];unfold cj;cases S.ae (co b)<;>cases sm (b/2)<;>rfl
  |false=>
   cases hc:K (co b) with
   |true=>
    have hl:b<2*D.n:=by have:=ee (C.vE hc);rwa [di] at this
    have:=h.q b hl hk hc (by omega)
    rw [hv _ hc] at this;rw [this];unfold cj;cases S.ae b<;>cases sm (b/2)<;>rfl
   |false=>rfl
 ·show (S.ae b||K b)=S.ae b;cases hk:K b with
  |false=>rw [Bool.or_false]
  |true=>rw [hv b hk];rfl
theorem QK.sR (C:im D K sm l0 b0) {S:WS} {x0:Nat} {a:Nat} {p:Bool} {l1 l:List (Nat×Bool)} (hl:l0=l1++(a,p)::l) (h:QK D K sm r dF ((a,p)::l) S x0) {v:Nat} (hv:v=cj (sm (a/2)) true (S.ae (co a)) 0) {x1:Nat} (hx:x1=x0\/(x0<=x1/\D.n<=x0)):QK D K sm r dF l (S.mk' a v) x1:=by
 have ha:K a=true:=(C.mem a).2 (by rw [hl];simp);have hnd:=C.nd;rw [hl,List.map_append,List.map_cons] at hnd;have B3:a∉l.map Prod.fst:=(List.nodup_cons.1 (List.nodup_append.1 hnd).2.1).1;refine ⟨fun b hb=>?_,fun b hb hk hc gT=>?_,fun b hb hk hc=>?_⟩
 ·by_cases e:b=a
  ·rw [e,lk];simp [B3]
  ·rw [dM S e,h.ae b hb];simp [e]
 ·have n1:b≠a:=fun e=>by rw [e,ha] at hk;cases hk
  have Cn:b/2≠x0:=by
   rcases hx with rfl|hx
   ·exact gT
   ·omega
  by_cases e:co b=a
  ·have aR:(S.mk' a v).st (b/2)=v:=by rw [←bV b,e];exact bG _ _ _
   have eb:b=co a:=by rw [←e,di]
   rw [aR,hv,e,lk,dM S n1,eb,bV];unfold cj;cases S.ae (co a)<;>cases sm (a/2)<;>rfl
  ·have ax:b/2≠a/2:=fun e'=>by rcases jV e' with e'|e'
                               ·exact n1 e'
                               ·exact e (by rw [e',di])
   rw [dM S n1,dM S e,←h.q b hb hk hc Cn];exact bt _ _ ax
 ·by_cases e:b/2=a/2
  ·have aR:(S.mk' a v).st (b/2)=v:=by rw [e];exact bG _ _ _
   rw [aR,hv];rcases jV e with e|e
   ·rw [e,lk,dM S (qU a)];unfold cj;cases S.ae (co a)<;>cases sm (a/2)<;>rfl
   ·rw [e,di,bV,lk,dM S (qU a)];unfold cj;cases S.ae (co a)<;>cases sm (a/2)<;>rfl
  ·have n1:b≠a:=fun e'=>e (by rw [e']);have n2:co b≠a:=fun e'=>e (by rw [←bV b,e']);rw [dM S n1,dM S n2,←h.q2 b hb hk hc];exact bt _ _ e
def zO (K:Nat->Bool) (dF:Nat->Nat) (l0:List (Nat×Bool)):Prop:= ∀l1 a l2,l0=l1++(a,true)::l2->K (co a)=true->co a∈l2.map Prod.fst->dF (a/2)=a % 2
theorem Rp {S:WS} {a:Nat} {p sm:Bool} {vc:Bool} (hl:a<2*D.n) (hp:p= !sm) (hs:S.st (a/2)=cj sm false vc (a % 2)):br D S a=[(1,S.mk' a (cj sm true vc 0),iv D a p)]:=by
 subst hp;cases vc<;>cases sm
 ·rw [zK hl hs];rfl
 ·rw [tl hl hs];rfl
 ·rw [pI hl hs];rfl
 ·rw [l5 hl hs];rfl
theorem QK.iB (C:im D K sm l0 b0) (hO:zO K dF l0) {S:WS} {a:Nat} {p:Bool} {l1 l:List (Nat×Bool)} (hl:l0=l1++(a,p)::l) (h:QK D K sm r dF ((a,p)::l) S D.n)
  (hd:K (co a)=true\/S.ae (co a)=true\/sm (a/2)=true\/r (co a)=a % 2):br D S a=[(1,S.mk' a (cj (sm (a/2)) true (S.ae (co a)) 0),iv D a p)]:=by
 have hm:(a,p)∈l0:=by rw [hl];simp
 have ha:K a=true:=(C.mem a).2 (by rw [hl];simp);have bZ:a<2*D.n:=C.lt _ hm;have hp:p= !sm (a/2):=C.ty _ hm;have p5:S.ae a=false:=(h.ae a ha).2 (by simp);refine Rp bZ hp ?_;cases hk:K (co a) with
 |true=>
  have e:=h.q2 a bZ ha hk;rw [p5] at e;rw [e];cases hc:S.ae (co a) with
  |true=>unfold cj;simp
  |false=>
   cases hs:sm (a/2) with
   |true=>rfl
   |false=>
    have h1:=(h.ae _ hk).1 hc;simp only [List.map_cons,List.mem_cons] at h1;have h2:=h1.resolve_left (qU a);have kb:p=true:=by rw [hp,hs];rfl
    have:=hO l1 a l (by rw [hl,kb]) hk h2
    unfold cj;simp [this]
 |false=>
  have e:=h.q (co a) (ee bZ) hk (by rw [di];exact ha) (by rw [bV];have:=bZ;omega);rw [bV,di,p5] at e;rw [e];cases hc:S.ae (co a) with
  |true=>unfold cj;simp
  |false=>
   cases hs:sm (a/2) with
   |true=>rfl
   |false=>
    have:r (co a)=a % 2:=by
     rcases hd with hd|hd|hd|hd
     ·rw [hk] at hd;cases hd
     ·rw [hc] at hd;cases hd
     ·rw [hs] at hd;cases hd
     ·exact hd
    unfold cj;simp [this]
theorem PT (C:im D K sm l0 b0) {l1 l:List (Nat×Bool)} {a:Nat} {p:Bool} (hl:l0=l1++(a,p)::l) (h1:l1≠[]):a≠b0:=fun e=>by
 obtain ⟨⟨c,q⟩,l2,rfl⟩:=List.exists_cons_of_ne_nil h1;have hc:=C.ch;have hnd:=C.nd;rw [hl] at hc hnd
 have:b0=c:=hc.1
 rw [List.cons_append,List.map_cons,List.nodup_cons] at hnd;refine hnd.1 ?_;show c∈_;rw [←this,←e];simp
theorem Iv (D:Sh): ∀(l1 l:List (Nat×Bool)) (s e:Nat),qE D s (l1++l) e-> ∃m,qE D s l1 m/\qE D m l e
 |[],l,s,e,h=>⟨s,rfl,h⟩
 |(a,p)::l1,l,s,e,h=>by
  obtain ⟨m,h1,h2⟩:=Iv D l1 l _ e h.2;exact ⟨m,⟨h.1,h1⟩,h2⟩
theorem top (hD:Ok D) (C:im D K sm l0 b0) (hO:zO K dF l0) (hr: ∀a,r (co a)=a % 2) {S:WS} (hB:Bd D S) (h:QK D K sm r dF l0 S D.n) (k:WS->Int):bA D S b0 k=k (TK K sm S)/\Bd D (TK K sm S):=by
 have key: ∀(l l1:List (Nat×Bool)) (S:WS) (d:Nat),l0=l1++l->l1≠[]->qE D d l b0->QK D K sm r dF l S D.n->qa D S b0 d->W D (dT b0) S d (fun S _=>k S)=k (TK K sm S)/\Bd D (TK K sm S):=fun l=>by
  induction l with
  |nil=>
   intro l1 S d _ _ hc hq hM;have e:d=b0:=hc;subst e;rw [iG (js d),hq.done C (Nat.le_refl _)];exact ⟨rfl,hM.close⟩
  |cons x l ih=>
   obtain ⟨a,p⟩:=x;intro l1 S d hl h1 hc hq hM;obtain ⟨e,dh⟩:=hc;subst e;have ax:=PT C hl h1;have hb:=hq.iB C hO hl (.inr (.inr (.inr (hr d))));have ha:K d=true:=(C.mem d).2 (by rw [hl];simp);rw [gQ (tM ax) ((hq.ae d ha).2 (by simp)),hb,rV]
   have:=ih (l1++[(d,p)]) (S.mk' d (cj (sm (d/2)) true (S.ae (co d)) 0)) (iv D d p) (by rw [hl];simp) (by simp) dh (hq.sR C hl rfl (.inl rfl)) (hM.step hD ax (x:=(1,_,_)) (by rw [hb];exact .head _))
   rw [xq _ _ ha] at this;exact this
 obtain ⟨⟨a,p⟩,l,hl⟩:=List.exists_cons_of_ne_nil C.ne;have hc:=C.ch;rw [hl] at hc;obtain ⟨e,dh⟩:=hc;have ha:K a=true:=(C.mem a).2 (by rw [hl];simp);rw [e];rw [hl] at h;have hb:=h.iB C hO (l1:=[]) hl (.inr (.inr (.inr (hr a))));unfold bA;rw [hb,rV];have p5:S.ae a=false:=(h.ae a ha).2 (by simp)
 have:=key l [(a,p)] (S.mk' a (cj (sm (a/2)) true (S.ae (co a)) 0)) (iv D a p) hl (by simp) dh (h.sR C (l1:=[]) hl rfl (.inl rfl)) (by rw [e];exact hB.start hD p5 (x:=(1,_,_)) (by rw [hb];exact .head _))
 rw [xq _ _ ha,e] at this;exact this
theorem BR.and {R J:WS->Nat->WS->Nat->Prop} {l l':List (Int×WS×Nat)} (h:BR R l l') (hJ: ∀x∈l,∀S a,J x.2.1 x.2.2 S a):BR (fun S a S' a'=>R S a S' a'/\J S a S' a') l l':=by
 induction h with
 |nil=>exact .nil
 |cons hr _ ih=>exact .cons ⟨hr,hJ _ (.head _) _ _⟩ (ih fun x hx=>hJ x (.tail _ hx))
theorem Ro (C:im D K sm l0 b0) {l:List (Nat×Bool)} {x0:Nat} {g:WS->WS} (hg:Loc x0 g) (hr: ∀a,r a=a % 2) (hD:Ok D) {S:WS} {b':Nat} (hb:b'<2*D.n) (eT:K b'=false) (hq:QK D K sm r dF l S x0) (gT:b'/2≠x0) (hv:S.ae b'=false):
  BR (fun S b S' b'=>S'=g (TK K sm S)/\b'=b/\b<2*D.n/\K b=false/\QK D K sm r dF l S x0) (br D S b') (br D (g (TK K sm S)) b'):=by
 rw [hg.br D _ gT];have stay: ∀v (u w:Int),(K (co b')=true->v=cj (sm (b'/2)) true (S.ae (co b')) 0)->QK D K sm r dF l ((S.mk' b' v).sc u w) x0:=fun v u w gN=>by
  refine ⟨fun a ha=>?_,fun b hb hk hc Cn=>?_,fun a ha hk hc=>?_⟩
  ·have:a≠b':=fun e=>by rw [e,eT] at ha;cases ha
   have:((S.mk' b' v).sc u w).ae a=S.ae a:=dM (v:=v) S this
   rw [this];exact hq.ae a ha
  ·have n2:co b≠b':=fun e=>by rw [e,eT] at hc;cases hc
   have e3:((S.mk' b' v).sc u w).ae (co b)=S.ae (co b):=dM (v:=v) S n2;rw [e3];by_cases e:b=b'
   ·subst e;have e1:((S.mk' b v).sc u w).ae b=true:=lk S b v;have e2:((S.mk' b v).sc u w).st (b/2)=v:=bG _ _ _;rw [e1,e2,gN hc];unfold cj;cases S.ae (co b)<;>cases sm (b/2)<;>rfl
   ·have e1:((S.mk' b' v).sc u w).ae b=S.ae b:=dM (v:=v) S e
    have ax:b/2≠b'/2:=fun e'=>by rcases jV e' with e'|e'
                                 ·exact e e'
                                 ·exact n2 (by rw [e',di])
    have e2:((S.mk' b' v).sc u w).st (b/2)=S.st (b/2):=bt _ _ ax;rw [e1,e2];exact hq.q b hb hk hc Cn
  ·have n1:a≠b':=fun e=>by rw [e,eT] at hk;cases hk
   have n2:co a≠b':=fun e=>by rw [e,eT] at hc;cases hc
   have ax:a/2≠b'/2:=fun e'=>by rcases jV e' with e'|e'
                                ·exact n1 e'
                                ·exact n2 (by rw [e',di])
   have e1:((S.mk' b' v).sc u w).ae a=S.ae a:=dM (v:=v) S n1;have e2:((S.mk' b' v).sc u w).ae (co a)=S.ae (co a):=dM (v:=v) S n2;have e3:((S.mk' b' v).sc u w).st (a/2)=S.st (a/2):=bt _ _ ax;rw [e1,e2,e3];exact hq.q2 a ha hk hc
 have nG:=C.kc b' hb eT;cases hc:K (co b') with
 |false=>
  have zG:(TK K sm S).st (b'/2)=S.st (b'/2):=by rw [l9,eT,hc];rfl
  have iE:br D (TK K sm S) b'=(br D S b').map (jz (TK K sm)):=by
   unfold br;rw [zG]
   split
   ·rfl
   split
   ·simp only [List.map,jz,xr S _ eT hc]
   split
   ·simp only [List.map,jz,xr S _ eT hc]
   split
   ·simp only [List.map,jz,xr S _ eT hc]
   split
   ·simp only [List.map,jz,xr S _ eT hc]
   split
   ·simp only [List.map,jz,yI,xr S _ eT hc]
   ·rfl
  rw [iE,List.map_map];have df: ∀x∈br D S b',K x.2.2=false/\x.2.2<2*D.n/\QK D K sm r dF l x.2.1 x0:=fun x hx=>by
   refine ⟨?_,HL hD hx,?_⟩
   ·rcases AY hx with e|e<;>rw [e]
    ·exact (nG.2 hc).1
    ·exact (nG.2 hc).2
   ·have no: ∀v,K (co b')=true->v=cj (sm (b'/2)) true (S.ae (co b')) 0:=fun v h=>by rw [hc] at h;cases h
    unfold br at hx
    split at hx
    ·cases hx
    split at hx
    ·rw [List.mem_singleton] at hx;subst hx;exact stay 4 0 0 (no _)|>fun h=>by rw [WS.bK] at h;exact h
    split at hx
    ·rw [List.mem_singleton] at hx;subst hx;exact stay 4 0 0 (no _)|>fun h=>by rw [WS.bK] at h;exact h
    split at hx
    ·rw [List.mem_singleton] at hx;subst hx;exact stay 2 0 0 (no _)|>fun h=>by rw [WS.bK] at h;exact h
    split at hx
    ·rw [List.mem_singleton] at hx;subst hx;exact stay 3 0 0 (no _)|>fun h=>by rw [WS.bK] at h;exact h
    split at hx
    ·rcases List.mem_cons.1 hx with hx|hx
     ·subst hx;exact stay _ _ _ (no _)
     ·rw [List.mem_singleton] at hx;subst hx;exact stay _ _ _ (no _)
    ·cases hx
  revert df;generalize br D S b'=L;intro df
  induction L with
  |nil=>exact .nil
  |cons x L ih=>
   obtain ⟨c1,c2,c3⟩:=df x (.head _);exact .cons ⟨rfl,rfl,c2,c1,c3⟩ (ih fun y hy=>df y (.tail _ hy))
 |true=>
  have zG:(TK K sm S).st (b'/2)=if sm (b'/2) then 2 else 3:=by rw [l9,eT,hc,hv];rfl
  have eq:=hq.q b' hb eT hc gT;rw [hv,hr] at eq;have nH:=Rp (D:=D) (p:= !sm (b'/2)) hb rfl eq;have iE:br D (TK K sm S) b'=[(1,(TK K sm S).mk' b' 4,iv D b' (!sm (b'/2)))]:=by
   cases hs:sm (b'/2) with
   |true=>rw [hs] at zG;rw [l5 hb zG];rfl
   |false=>rw [hs] at zG;rw [pI hb zG];rfl
  have nU:=HL hD (S:=S) (a:=b') (x:=(1,_,_)) (by rw [nH];exact .head _);rw [nH,iE];refine .cons ⟨?_,rfl,nU,?_,?_⟩ .nil
  ·show g ((TK K sm S).mk' b' 4)=g (TK K sm (S.mk' b' _));rw [Hu S _ eT hc]
  ·show K (iv D b' (!sm (b'/2)))=false;cases hs:sm (b'/2) with
   |true=>exact (nG.1 hc).1 hs
   |false=>exact (nG.1 hc).2 hs
  ·have:=stay (cj (sm (b'/2)) true (S.ae (co b')) 0) 0 0 fun _=>rfl
   rw [WS.bK] at this;exact this
theorem Ul (C:im D K sm l0 b0) {l:List (Nat×Bool)} {x0 y:Nat} {g:WS->WS} (hg:Loc x0 g) (hr: ∀a,r a=a % 2) (oh: ∀b,b<2*D.n->K b=false->b/2=x0->b=y) (J:WS->Nat->Prop)
  (hJ: ∀S b,J S b->b<2*D.n->K b=false->b≠y->S.ae b=false-> ∀x∈br D S b,J x.2.1 x.2.2) (hD:Ok D) {s1:Nat->Bool} (o9: ∀b,K b=false->s1 b=dT y b) {k:WS->Nat->Int} {k':WS->Int} (hk: ∀S',QK D K sm r dF l S' x0->J S' y->k S' y=k' (g (TK K sm S')))
  {S:WS} {b:Nat} (hb:b<2*D.n) (eT:K b=false) (hq:QK D K sm r dF l S x0) (Kd:J S b):W D s1 S b k=W D (dT y) (g (TK K sm S)) b fun S _=>k' S:=by
 refine xp (fun S b S' b'=>(S'=g (TK K sm S)/\b'=b/\b<2*D.n/\K b=false/\QK D K sm r dF l S x0)/\J S b) ?_ _ _ _ _ ⟨⟨rfl,rfl,hb,eT,hq⟩,Kd⟩;intro S b S' b' ⟨⟨e1,e2,hb,eT,hq⟩,Kd⟩;subst e1 e2;refine ⟨o9 _ eT,fun hs=>?_,fun hs=>?_⟩
 ·rw [o9 _ eT] at hs
  have:b'=y:=by simpa [dT] using hs
  subst this;exact hk S hq Kd
 rw [o9 _ eT] at hs;have uY:b'≠y:=fun e=>by rw [e,js] at hs;cases hs
 have gT:b'/2≠x0:=fun e=>uY (oh b' hb eT e);have hvT:(TK K sm S).ae b'=S.ae b':=by show (S.ae b'||K b')=_;rw [eT,Bool.or_false]
 refine ⟨by rw [hg.ae _ _ gT,hvT],fun hv=>?_⟩;exact (Ro C hg hr hD hb eT hq gT hv).and (J:=fun S b _ _=>J S b) fun x hx _ _=>hJ S b' Kd hb eT uY hv x hx
end
end Hs
end Go.Proofs.YtjpbeacamoijhaaGreatDoor
