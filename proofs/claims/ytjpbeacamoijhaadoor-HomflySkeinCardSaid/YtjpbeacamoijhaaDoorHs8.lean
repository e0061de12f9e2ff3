/- Plain: a circle above, a circle below. -/
import Derived.Test.YtjpbeacamoijhaaDoorHs4
namespace Go.Proofs.YtjpbeacamoijhaaDoor
set_option linter.unusedSimpArgs false
set_option linter.unusedVariables false
namespace Hs
structure Crc (D:Sh) (K sm:Nat->Bool) (l:List (Nat×Bool)) (b:Nat):Prop where
 ch:chn D b l b
 ne:l≠[]
 lt: ∀x∈l,x.1<2*D.n
 nd:(l.map Prod.fst).Nodup
 mem: ∀a,K a=true↔a∈l.map Prod.fst
 ty: ∀x∈l,x.2= !sm (x.1/2)
 kc: ∀b,b<2*D.n->K b=false->(K (co b)=true->(sm (b/2)=true->K (D.nx (co b))=false)/\(sm (b/2)=false->K (D.nx b)=false))/\(K (co b)=false->K (D.nx b)=false/\K (D.nx (co b))=false)
def tab (sm vb vc:Bool) (r:Nat):Nat:=if vb&&vc then 4 else if vb||vc then (if sm then 2 else 3) else if sm then 5 else r
structure QK (D:Sh) (K sm:Nat->Bool) (r st0:Nat->Nat) (l:List (Nat×Bool)) (S:WS) (x0:Nat):Prop where
 vis: ∀a,K a=true->(S.vis a=false↔a∈l.map Prod.fst)
 q: ∀b,b<2*D.n->K b=false->K (co b)=true->b/2≠x0->S.st (b/2)=tab (sm (b/2)) (S.vis b) (S.vis (co b)) (r b)
 q2: ∀a,a<2*D.n->K a=true->K (co a)=true->S.st (a/2)=tab (sm (a/2)) (S.vis a) (S.vis (co a)) (st0 (a/2))
def TK (K sm:Nat->Bool) (S:WS):WS:={S with
 vis:=fun a=>S.vis a||K a
 st:=fun c=>if K (2*c)&&K (2*c+1) then 4 else if K (2*c) then (if S.vis (2*c+1) then 4 else if sm c then 2 else 3) else if K (2*c+1) then (if S.vis (2*c) then 4 else if sm c then 2 else 3) else S.st c}
section
variable {D:Sh} {K sm:Nat->Bool}
theorem ends (a:Nat):(a=2*(a/2)/\co a=2*(a/2)+1)\/(a=2*(a/2)+1/\co a=2*(a/2)):=by
 unfold co;split<;>omega
theorem yb3 (S:WS) (b:Nat):(TK K sm S).st (b/2)=if K b&&K (co b) then 4 else if K (co b) then (if S.vis b then 4 else if sm (b/2) then 2 else 3) else if K b then (if S.vis (co b) then 4 else if sm (b/2) then 2 else 3) else S.st (b/2):=by
 show (if K (2*(b/2))&&K (2*(b/2)+1) then 4 else if K (2*(b/2)) then (if S.vis (2*(b/2)+1) then 4 else if sm (b/2) then 2 else 3) else if K (2*(b/2)+1) then (if S.vis (2*(b/2)) then 4 else if sm (b/2) then 2 else 3) else S.st (b/2))=_
 rcases ends b with ⟨h1,h2⟩|⟨h1,h2⟩
 ·rw [←h2,←h1]
  cases K b<;>cases K (co b)<;>rfl
 ·rw [←h1,←h2]
  cases K b<;>cases K (co b)<;>rfl
theorem WS.ext' {S S':WS} (h1: ∀a,S.st (a/2)=S'.st (a/2)) (h2:S.vis=S'.vis) (h3:S.i=S'.i) (h4:S.j=S'.j) (h5:S.k=S'.k):S=S':=by
 obtain ⟨st,vis,i,j,k⟩:=S
 obtain ⟨st',vis',i',j',k'⟩:=S'
 simp only at*
 have:st=st':=funext fun c=>by
  have:=h1 (2*c)
  rwa [show 2*c/2=c by omega] at this
 subst this h2 h3 h4 h5;rfl
theorem TK_K (S:WS) {a:Nat} (v:Nat) (ha:K a=true):TK K sm (S.mk' a v)=TK K sm S:=by
 refine WS.ext' (fun b=>?_) (funext fun b=>?_) rfl rfl rfl
 ·rw [yb3,yb3]
  by_cases h:b/2=a/2
  ·rcases ybi h with rfl|rfl
   ·rw [ha]
    rw [yag S (ycw b)]
    cases K (co b)<;>rfl
   ·rw [yax,ha,yag S (ycw a)]
    cases K (co a)<;>rfl
  ·have n1:b≠a:=fun e=>h (by rw [e])
   have n2:co b≠a:=fun e=>h (by rw [←yao b,e])
   rw [yag S n1,yag S n2]
   have:(S.mk' a v).st (b/2)=S.st (b/2):=yae _ _ h
   rw [this]
 ·show (upd S.vis a true b||K b)=(S.vis b||K b)
  by_cases h:b=a
  ·rw [h,ha,Bool.or_true,Bool.or_true]
  ·rw [yae _ _ h]
theorem TK_0 (S:WS) {a:Nat} (v:Nat) (ha:K a=false) (hc:K (co a)=false):TK K sm (S.mk' a v)=(TK K sm S).mk' a v:=by
 refine WS.ext' (fun b=>?_) (funext fun b=>?_) rfl rfl rfl
 ·show _=upd (TK K sm S).st (a/2) v (b/2)
  rw [yb3]
  by_cases h:b/2=a/2
  ·rw [h,yac]
   have:(S.mk' a v).st (a/2)=v:=yac _ _ _
   rcases ybi h with rfl|rfl
   ·rw [ha,hc,this];rfl
   ·rw [yax,ha,hc,this];rfl
  ·have n1:b≠a:=fun e=>h (by rw [e])
   have n2:co b≠a:=fun e=>h (by rw [←yao b,e])
   rw [yae _ _ h,yb3,yag S n1,yag S n2]
   have:(S.mk' a v).st (b/2)=S.st (b/2):=yae _ _ h
   rw [this]
 ·show (upd S.vis a true b||K b)=upd (fun b=>S.vis b||K b) a true b
  by_cases h:b=a
  ·rw [h,yac,yac];rfl
  ·rw [yae _ _ h,yae _ _ h]
theorem TK_A (S:WS) {a:Nat} (v:Nat) (ha:K a=false) (hc:K (co a)=true):TK K sm (S.mk' a v)=(TK K sm S).mk' a 4:=by
 refine WS.ext' (fun b=>?_) (funext fun b=>?_) rfl rfl rfl
 ·show _=upd (TK K sm S).st (a/2) 4 (b/2)
  rw [yb3]
  by_cases h:b/2=a/2
  ·rw [h,yac]
   rcases ybi h with rfl|rfl
   ·rw [ha,hc,ybg];rfl
   ·rw [yax,ha,hc,ybg];rfl
  ·have n1:b≠a:=fun e=>h (by rw [e])
   have n2:co b≠a:=fun e=>h (by rw [←yao b,e])
   rw [yae _ _ h,yb3,yag S n1,yag S n2]
   have:(S.mk' a v).st (b/2)=S.st (b/2):=yae _ _ h
   rw [this]
 ·show (upd S.vis a true b||K b)=upd (fun b=>S.vis b||K b) a true b
  by_cases h:b=a
  ·rw [h,yac,yac];rfl
  ·rw [yae _ _ h,yae _ _ h]
theorem ygg (S:WS) (u v:Int):TK K sm (S.sc u v)=(TK K sm S).sc u v:=rfl
theorem yna (S:WS):TK K sm S.cr=(TK K sm S).cr:=rfl
variable {r st0:Nat->Nat} {l0:List (Nat×Bool)} {b0:Nat}
theorem Crc.lt' (C:Crc D K sm l0 b0) {a:Nat} (h:K a=true):a<2*D.n:=by
 obtain ⟨x,hx,rfl⟩:=List.mem_map.1 ((C.mem a).1 h)
 exact C.lt x hx
theorem QK.done (C:Crc D K sm l0 b0) {S:WS} {x0:Nat} (h:QK D K sm r st0 [] S x0) (hx:D.n<=x0):TK K sm S=S:=by
 have hv: ∀a,K a=true->S.vis a=true:=fun a ha=>by
  cases e:S.vis a with
  |true=>rfl
  |false=>exact absurd ((h.vis a ha).1 e) (by simp)
 refine WS.ext' (fun b=>?_) (funext fun b=>?_) rfl rfl rfl
 ·rw [yb3]
  cases hk:K b with
  |true=>
   have hl:=C.lt' hk
   cases hc:K (co b) with
   |true=>
    rw [h.q2 b hl hk hc,hv b hk,hv _ hc];rfl
   |false=>
    have:=h.q (co b) (ya4 hl) hc (by rw [yax];exact hk) (by rw [yao];omega)
    rw [yao,yax,hv b hk] at this
    rw [this]
    unfold tab
    cases S.vis (co b)<;>cases sm (b/2)<;>rfl
  |false=>
   cases hc:K (co b) with
   |true=>
    have hl:b<2*D.n:=by have:=ya4 (C.lt' hc);rwa [yax] at this
    have:=h.q b hl hk hc (by omega)
    rw [hv _ hc] at this
    rw [this]
    unfold tab
    cases S.vis b<;>cases sm (b/2)<;>rfl
   |false=>rfl
 ·show (S.vis b||K b)=S.vis b
  cases hk:K b with
  |false=>rw [Bool.or_false]
  |true=>rw [hv b hk];rfl
theorem QK.mk1 (C:Crc D K sm l0 b0) {S:WS} {x0:Nat} {a:Nat} {p:Bool} {l1 l:List (Nat×Bool)} (hl:l0=l1++(a,p)::l) (h:QK D K sm r st0 ((a,p)::l) S x0) {v:Nat} (hv:v=tab (sm (a/2)) true (S.vis (co a)) 0) {x1:Nat} (hx:x1=x0\/(x0<=x1/\D.n<=x0)):QK D K sm r st0 l (S.mk' a v) x1:=by
 have ha:K a=true:=(C.mem a).2 (by rw [hl];simp)
 have hnd:=C.nd
 rw [hl,List.map_append,List.map_cons] at hnd
 have hnl:a∉l.map Prod.fst:=(List.nodup_cons.1 (List.nodup_append.1 hnd).2.1).1
 refine ⟨fun b hb=>?_,fun b hb hk hc hbx=>?_,fun b hb hk hc=>?_⟩
 ·by_cases e:b=a
  ·rw [e,ybg];simp [hnl]
  ·rw [yag S e,h.vis b hb];simp [e]
 ·have n1:b≠a:=fun e=>by rw [e,ha] at hk;cases hk
  have hbx':b/2≠x0:=by
   rcases hx with rfl|hx
   ·exact hbx
   ·omega
  by_cases e:co b=a
  ·have hst:(S.mk' a v).st (b/2)=v:=by rw [←yao b,e];exact yac _ _ _
   have eb:b=co a:=by rw [←e,yax]
   rw [hst,hv,e,ybg,yag S n1,eb,yao]
   unfold tab
   cases S.vis (co a)<;>cases sm (a/2)<;>rfl
  ·have hne:b/2≠a/2:=fun e'=>by rcases ybi e' with e'|e'
                                ·exact n1 e'
                                ·exact e (by rw [e',yax])
   rw [yag S n1,yag S e,←h.q b hb hk hc hbx']
   exact yae _ _ hne
 ·by_cases e:b/2=a/2
  ·have hst:(S.mk' a v).st (b/2)=v:=by rw [e];exact yac _ _ _
   rw [hst,hv]
   rcases ybi e with e|e
   ·rw [e,ybg,yag S (ycw a)]
    unfold tab
    cases S.vis (co a)<;>cases sm (a/2)<;>rfl
   ·rw [e,yax,yao,ybg,yag S (ycw a)]
    unfold tab
    cases S.vis (co a)<;>cases sm (a/2)<;>rfl
  ·have n1:b≠a:=fun e'=>e (by rw [e'])
   have n2:co b≠a:=fun e'=>e (by rw [←yao b,e'])
   rw [yag S n1,yag S n2,←h.q2 b hb hk hc]
   exact yae _ _ e
def Orc (K:Nat->Bool) (st0:Nat->Nat) (l0:List (Nat×Bool)):Prop:= ∀l1 a l2,l0=l1++(a,true)::l2->K (co a)=true->co a∈l2.map Prod.fst->st0 (a/2)=a % 2
theorem yub {S:WS} {a:Nat} {p sm:Bool} {vc:Bool} (hl:a<2*D.n) (hp:p= !sm) (hs:S.st (a/2)=tab sm false vc (a % 2)):br D S a=[(1,S.mk' a (tab sm true vc 0),nof D a p)]:=by
 subst hp
 cases vc<;>cases sm
 ·rw [br_o hl hs];rfl
 ·rw [br_5 hl hs];rfl
 ·rw [br_3 hl hs];rfl
 ·rw [br_2 hl hs];rfl
theorem QK.det (C:Crc D K sm l0 b0) (hO:Orc K st0 l0) {S:WS} {a:Nat} {p:Bool} {l1 l:List (Nat×Bool)} (hl:l0=l1++(a,p)::l) (h:QK D K sm r st0 ((a,p)::l) S D.n)
  (hd:K (co a)=true\/S.vis (co a)=true\/sm (a/2)=true\/r (co a)=a % 2):br D S a=[(1,S.mk' a (tab (sm (a/2)) true (S.vis (co a)) 0),nof D a p)]:=by
 have hm:(a,p)∈l0:=by rw [hl];simp
 have ha:K a=true:=(C.mem a).2 (by rw [hl];simp)
 have hal:a<2*D.n:=C.lt _ hm
 have hp:p= !sm (a/2):=C.ty _ hm
 have hva:S.vis a=false:=(h.vis a ha).2 (by simp)
 refine yub hal hp ?_
 cases hk:K (co a) with
 |true=>
  have e:=h.q2 a hal ha hk
  rw [hva] at e
  rw [e]
  cases hc:S.vis (co a) with
  |true=>unfold tab;simp
  |false=>
   cases hs:sm (a/2) with
   |true=>rfl
   |false=>
    have h1:=(h.vis _ hk).1 hc
    simp only [List.map_cons,List.mem_cons] at h1
    have h2:=h1.resolve_left (ycw a)
    have hp':p=true:=by rw [hp,hs];rfl
    have:=hO l1 a l (by rw [hl,hp']) hk h2
    unfold tab;simp [this]
 |false=>
  have e:=h.q (co a) (ya4 hal) hk (by rw [yax];exact ha) (by rw [yao];have:=hal;omega)
  rw [yao,yax,hva] at e
  rw [e]
  cases hc:S.vis (co a) with
  |true=>unfold tab;simp
  |false=>
   cases hs:sm (a/2) with
   |true=>rfl
   |false=>
    have:r (co a)=a % 2:=by
     rcases hd with hd|hd|hd|hd
     ·rw [hk] at hd;cases hd
     ·rw [hc] at hd;cases hd
     ·rw [hs] at hd;cases hd
     ·exact hd
    unfold tab;simp [this]
theorem yyz (C:Crc D K sm l0 b0) {l1 l:List (Nat×Bool)} {a:Nat} {p:Bool} (hl:l0=l1++(a,p)::l) (h1:l1≠[]):a≠b0:=fun e=>by
 obtain ⟨⟨c,q⟩,l2,rfl⟩:=List.exists_cons_of_ne_nil h1
 have hc:=C.ch
 have hnd:=C.nd
 rw [hl] at hc hnd
 have:b0=c:=hc.1
 rw [List.cons_append,List.map_cons,List.nodup_cons] at hnd
 refine hnd.1 ?_
 show c∈_
 rw [←this,←e];simp
theorem ykq (D:Sh): ∀(l1 l:List (Nat×Bool)) (s e:Nat),chn D s (l1++l) e-> ∃m,chn D s l1 m/\chn D m l e
 |[],l,s,e,h=>⟨s,rfl,h⟩
 |(a,p)::l1,l,s,e,h=>by
  obtain ⟨m,h1,h2⟩:=ykq D l1 l _ e h.2
  exact ⟨m,⟨h.1,h1⟩,h2⟩
theorem top (hD:Ok D) (C:Crc D K sm l0 b0) (hO:Orc K st0 l0) (hr: ∀a,r (co a)=a % 2) {S:WS} (hB:Bd D S) (h:QK D K sm r st0 l0 S D.n) (k:WS->Int):wk1 D S b0 k=k (TK K sm S)/\Bd D (TK K sm S):=by
 have key: ∀(l l1:List (Nat×Bool)) (S:WS) (d:Nat),l0=l1++l->l1≠[]->chn D d l b0->QK D K sm r st0 l S D.n->Mid D S b0 d->W D (eqE b0) S d (fun S _=>k S)=k (TK K sm S)/\Bd D (TK K sm S):=fun l=>by
  induction l with
  |nil=>
   intro l1 S d _ _ hc hq hM
   have e:d=b0:=hc
   subst e
   rw [yaz (ya3 d),hq.done C (Nat.le_refl _)]
   exact ⟨rfl,hM.close⟩
  |cons x l ih=>
   obtain ⟨a,p⟩:=x
   intro l1 S d hl h1 hc hq hM
   obtain ⟨e,hc'⟩:=hc
   subst e
   have hne:=yyz C hl h1
   have hb:=hq.det C hO hl (.inr (.inr (.inr (hr d))))
   have ha:K d=true:=(C.mem d).2 (by rw [hl];simp)
   rw [W_go (ycx hne) ((hq.vis d ha).2 (by simp)),hb,yci]
   have:=ih (l1++[(d,p)]) (S.mk' d (tab (sm (d/2)) true (S.vis (co d)) 0)) (nof D d p) (by rw [hl];simp) (by simp) hc' (hq.mk1 C hl rfl (.inl rfl)) (hM.step hD hne (x:=(1,_,_)) (by rw [hb];exact .head _))
   rw [TK_K _ _ ha] at this
   exact this
 obtain ⟨⟨a,p⟩,l,hl⟩:=List.exists_cons_of_ne_nil C.ne
 have hc:=C.ch
 rw [hl] at hc
 obtain ⟨e,hc'⟩:=hc
 have ha:K a=true:=(C.mem a).2 (by rw [hl];simp)
 rw [e]
 rw [hl] at h
 have hb:=h.det C hO (l1:=[]) hl (.inr (.inr (.inr (hr a))))
 unfold wk1
 rw [hb,yci]
 have hva:S.vis a=false:=(h.vis a ha).2 (by simp)
 have:=key l [(a,p)] (S.mk' a (tab (sm (a/2)) true (S.vis (co a)) 0)) (nof D a p) hl (by simp) hc' (h.mk1 C (l1:=[]) hl rfl (.inl rfl)) (by rw [e];exact hB.start hD hva (x:=(1,_,_)) (by rw [hb];exact .head _))
 rw [TK_K _ _ ha,e] at this
 exact this
theorem BR.and {R J:WS->Nat->WS->Nat->Prop} {l l':List (Int×WS×Nat)} (h:BR R l l') (hJ: ∀x∈l,∀S a,J x.2.1 x.2.2 S a):BR (fun S a S' a'=>R S a S' a'/\J S a S' a') l l':=by
 induction h with
 |nil=>exact .nil
 |cons hr _ ih=>exact .cons ⟨hr,hJ _ (.head _) _ _⟩ (ih fun x hx=>hJ x (.tail _ hx))
theorem yuc (C:Crc D K sm l0 b0) {l:List (Nat×Bool)} {x0:Nat} {g:WS->WS} (hg:Loc x0 g) (hr: ∀a,r a=a % 2) (hD:Ok D) {S:WS} {b':Nat} (hb:b'<2*D.n) (hkb:K b'=false) (hq:QK D K sm r st0 l S x0) (hbx:b'/2≠x0) (hv:S.vis b'=false):
  BR (fun S b S' b'=>S'=g (TK K sm S)/\b'=b/\b<2*D.n/\K b=false/\QK D K sm r st0 l S x0) (br D S b') (br D (g (TK K sm S)) b'):=by
 rw [hg.br D _ hbx]
 have stay: ∀v (u w:Int),(K (co b')=true->v=tab (sm (b'/2)) true (S.vis (co b')) 0)->QK D K sm r st0 l ((S.mk' b' v).sc u w) x0:=fun v u w hv'=>by
  refine ⟨fun a ha=>?_,fun b hb hk hc hbx'=>?_,fun a ha hk hc=>?_⟩
  ·have:a≠b':=fun e=>by rw [e,hkb] at ha;cases ha
   have:((S.mk' b' v).sc u w).vis a=S.vis a:=yag (v:=v) S this
   rw [this];exact hq.vis a ha
  ·have n2:co b≠b':=fun e=>by rw [e,hkb] at hc;cases hc
   have e3:((S.mk' b' v).sc u w).vis (co b)=S.vis (co b):=yag (v:=v) S n2
   rw [e3]
   by_cases e:b=b'
   ·subst e
    have e1:((S.mk' b v).sc u w).vis b=true:=ybg S b v
    have e2:((S.mk' b v).sc u w).st (b/2)=v:=yac _ _ _
    rw [e1,e2,hv' hc]
    unfold tab
    cases S.vis (co b)<;>cases sm (b/2)<;>rfl
   ·have e1:((S.mk' b' v).sc u w).vis b=S.vis b:=yag (v:=v) S e
    have hne:b/2≠b'/2:=fun e'=>by rcases ybi e' with e'|e'
                                  ·exact e e'
                                  ·exact n2 (by rw [e',yax])
    have e2:((S.mk' b' v).sc u w).st (b/2)=S.st (b/2):=yae _ _ hne
    rw [e1,e2];exact hq.q b hb hk hc hbx'
  ·have n1:a≠b':=fun e=>by rw [e,hkb] at hk;cases hk
   have n2:co a≠b':=fun e=>by rw [e,hkb] at hc;cases hc
   have hne:a/2≠b'/2:=fun e'=>by rcases ybi e' with e'|e'
                                 ·exact n1 e'
                                 ·exact n2 (by rw [e',yax])
   have e1:((S.mk' b' v).sc u w).vis a=S.vis a:=yag (v:=v) S n1
   have e2:((S.mk' b' v).sc u w).vis (co a)=S.vis (co a):=yag (v:=v) S n2
   have e3:((S.mk' b' v).sc u w).st (a/2)=S.st (a/2):=yae _ _ hne
   rw [e1,e2,e3];exact hq.q2 a ha hk hc
 have hkc:=C.kc b' hb hkb
 cases hc:K (co b') with
 |false=>
  have est:(TK K sm S).st (b'/2)=S.st (b'/2):=by rw [yb3,hkb,hc];rfl
  have hb1:br D (TK K sm S) b'=(br D S b').map (mapS (TK K sm)):=by
   unfold br
   rw [est]
   split
   ·rfl
   split
   ·simp only [List.map,mapS,TK_0 S _ hkb hc]
   split
   ·simp only [List.map,mapS,TK_0 S _ hkb hc]
   split
   ·simp only [List.map,mapS,TK_0 S _ hkb hc]
   split
   ·simp only [List.map,mapS,TK_0 S _ hkb hc]
   split
   ·simp only [List.map,mapS,ygg,TK_0 S _ hkb hc]
   ·rfl
  rw [hb1,List.map_map]
  have hin: ∀x∈br D S b',K x.2.2=false/\x.2.2<2*D.n/\QK D K sm r st0 l x.2.1 x0:=fun x hx=>by
   refine ⟨?_,ypy hD hx,?_⟩
   ·rcases yiw hx with e|e<;>rw [e]
    ·exact (hkc.2 hc).1
    ·exact (hkc.2 hc).2
   ·have no: ∀v,K (co b')=true->v=tab (sm (b'/2)) true (S.vis (co b')) 0:=fun v h=>by rw [hc] at h;cases h
    unfold br at hx
    split at hx
    ·cases hx
    split at hx
    ·rw [List.mem_singleton] at hx;subst hx;exact stay 4 0 0 (no _)|>fun h=>by rw [WS.sc_zero] at h;exact h
    split at hx
    ·rw [List.mem_singleton] at hx;subst hx;exact stay 4 0 0 (no _)|>fun h=>by rw [WS.sc_zero] at h;exact h
    split at hx
    ·rw [List.mem_singleton] at hx;subst hx;exact stay 2 0 0 (no _)|>fun h=>by rw [WS.sc_zero] at h;exact h
    split at hx
    ·rw [List.mem_singleton] at hx;subst hx;exact stay 3 0 0 (no _)|>fun h=>by rw [WS.sc_zero] at h;exact h
    split at hx
    ·rcases List.mem_cons.1 hx with hx|hx
     ·subst hx;exact stay _ _ _ (no _)
     ·rw [List.mem_singleton] at hx;subst hx;exact stay _ _ _ (no _)
    ·cases hx
  revert hin
  generalize br D S b'=L
  intro hin
  induction L with
  |nil=>exact .nil
  |cons x L ih=>
   obtain ⟨c1,c2,c3⟩:=hin x (.head _)
   exact .cons ⟨rfl,rfl,c2,c1,c3⟩ (ih fun y hy=>hin y (.tail _ hy))
 |true=>
  have est:(TK K sm S).st (b'/2)=if sm (b'/2) then 2 else 3:=by rw [yb3,hkb,hc,hv];rfl
  have eq:=hq.q b' hb hkb hc hbx
  rw [hv,hr] at eq
  have hb0:=yub (D:=D) (p:= !sm (b'/2)) hb rfl eq
  have hb1:br D (TK K sm S) b'=[(1,(TK K sm S).mk' b' 4,nof D b' (!sm (b'/2)))]:=by
   cases hs:sm (b'/2) with
   |true=>rw [hs] at est;rw [br_2 hb est];rfl
   |false=>rw [hs] at est;rw [br_3 hb est];rfl
  have hl1:=ypy hD (S:=S) (a:=b') (x:=(1,_,_)) (by rw [hb0];exact .head _)
  rw [hb0,hb1]
  refine .cons ⟨?_,rfl,hl1,?_,?_⟩ .nil
  ·show g ((TK K sm S).mk' b' 4)=g (TK K sm (S.mk' b' _))
   rw [TK_A S _ hkb hc]
  ·show K (nof D b' (!sm (b'/2)))=false
   cases hs:sm (b'/2) with
   |true=>exact (hkc.1 hc).1 hs
   |false=>exact (hkc.1 hc).2 hs
  ·have:=stay (tab (sm (b'/2)) true (S.vis (co b')) 0) 0 0 fun _=>rfl
   rw [WS.sc_zero] at this
   exact this
theorem y3x (C:Crc D K sm l0 b0) {l:List (Nat×Bool)} {x0 y:Nat} {g:WS->WS} (hg:Loc x0 g) (hr: ∀a,r a=a % 2) (hx0: ∀b,b<2*D.n->K b=false->b/2=x0->b=y) (J:WS->Nat->Prop)
  (hJ: ∀S b,J S b->b<2*D.n->K b=false->b≠y->S.vis b=false-> ∀x∈br D S b,J x.2.1 x.2.2) (hD:Ok D) {s1:Nat->Bool} (hs1: ∀b,K b=false->s1 b=eqE y b) {k:WS->Nat->Int} {k':WS->Int} (hk: ∀S',QK D K sm r st0 l S' x0->J S' y->k S' y=k' (g (TK K sm S')))
  {S:WS} {b:Nat} (hb:b<2*D.n) (hkb:K b=false) (hq:QK D K sm r st0 l S x0) (hJ0:J S b):W D s1 S b k=W D (eqE y) (g (TK K sm S)) b fun S _=>k' S:=by
 refine Wsim (fun S b S' b'=>(S'=g (TK K sm S)/\b'=b/\b<2*D.n/\K b=false/\QK D K sm r st0 l S x0)/\J S b) ?_ _ _ _ _ ⟨⟨rfl,rfl,hb,hkb,hq⟩,hJ0⟩
 intro S b S' b' ⟨⟨e1,e2,hb,hkb,hq⟩,hJ0⟩
 subst e1 e2
 refine ⟨hs1 _ hkb,fun hs=>?_,fun hs=>?_⟩
 ·rw [hs1 _ hkb] at hs
  have:b'=y:=by simpa [eqE] using hs
  subst this
  exact hk S hq hJ0
 rw [hs1 _ hkb] at hs
 have hby:b'≠y:=fun e=>by rw [e,ya3] at hs;cases hs
 have hbx:b'/2≠x0:=fun e=>hby (hx0 b' hb hkb e)
 have hvT:(TK K sm S).vis b'=S.vis b':=by show (S.vis b'||K b')=_;rw [hkb,Bool.or_false]
 refine ⟨by rw [hg.vis _ _ hbx,hvT],fun hv=>?_⟩
 exact (yuc C hg hr hD hb hkb hq hbx hv).and (J:=fun S b _ _=>J S b) fun x hx _ _=>hJ S b' hJ0 hb hkb hby hv x hx
end
end Hs
end Go.Proofs.YtjpbeacamoijhaaDoor
