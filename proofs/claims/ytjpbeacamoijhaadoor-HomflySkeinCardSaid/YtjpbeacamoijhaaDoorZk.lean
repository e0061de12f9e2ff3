/- Plain: a circle below may be walked first or last. -/
import Derived.Test.YtjpbeacamoijhaaDoorZj
import Derived.Test.YtjpbeacamoijhaaDoorHs8
namespace Go.Proofs.YtjpbeacamoijhaaDoor
set_option linter.unusedSimpArgs false
set_option linter.unusedVariables false
namespace Hs
open Sp (Sph siD)
section
variable {D:Sh} {K sm:Nat->Bool} {r st0:Nat->Nat} {l0:List (Nat×Bool)} {b0:Nat}
theorem QK.sc {l:List (Nat×Bool)} {S:WS} {x0:Nat} (h:QK D K sm r st0 l S x0) (u v:Int):QK D K sm r st0 l (S.sc u v) x0:=⟨h.vis,h.q,h.q2⟩
theorem QK.cr {l:List (Nat×Bool)} {S:WS} {x0:Nat} (h:QK D K sm r st0 l S x0):QK D K sm r st0 l S.cr x0:=⟨h.vis,h.q,h.q2⟩
theorem QK.mk2 (C:Crc D K sm l0 b0) {S:WS} {a:Nat} {p:Bool} {l1 l:List (Nat×Bool)} (hl:l0=l1++(a,p)::l) (h:QK D K sm r st0 ((a,p)::l) S D.n) (hc:K (co a)=false) (v:Nat):QK D K sm r st0 l (S.mk' a v) (a/2):=by
 have ha:K a=true:=(C.mem a).2 (by rw [hl];simp)
 have hnd:=C.nd
 rw [hl,List.map_append,List.map_cons] at hnd
 have hnl:a∉l.map Prod.fst:=(List.nodup_cons.1 (List.nodup_append.1 hnd).2.1).1
 have ne: ∀b,b<2*D.n->b/2≠a/2->(S.mk' a v).st (b/2)=S.st (b/2)/\(S.mk' a v).vis b=S.vis b/\(S.mk' a v).vis (co b)=S.vis (co b):=fun b _ hb=>
  ⟨yae _ _ hb,yag S fun e=>hb (by rw [e]),yag S fun e=>hb (by rw [←yao b,e])⟩
 refine ⟨fun b hb=>?_,fun b hb hk hc' hbx=>?_,fun b hb hk hc'=>?_⟩
 ·by_cases e:b=a
  ·rw [e,ybg];simp [hnl]
  ·rw [yag S e,h.vis b hb];simp [e]
 ·obtain ⟨e1,e2,e3⟩:=ne b hb hbx
  rw [e1,e2,e3];exact h.q b hb hk hc' (by omega)
 ·have:b/2≠a/2:=fun e=>by
   rcases ybi e with e|e
   ·rw [e,hc] at hc';cases hc'
   ·rw [e,hc] at hk;cases hk
  obtain ⟨e1,e2,e3⟩:=ne b hb this
  rw [e1,e2,e3];exact h.q2 b hb hk hc'
theorem QK.mk3 (C:Crc D K sm l0 b0) {l:List (Nat×Bool)} {S:WS} {y:Nat} (hy:K y=false) (hcy:K (co y)=true) (hc:S.vis (co y)=true) (h:QK D K sm r st0 l S (y/2)) (x1:Nat):QK D K sm r st0 l (S.mk' y 4) x1:=by
 have ne: ∀b,b/2≠y/2->(S.mk' y 4).st (b/2)=S.st (b/2)/\(S.mk' y 4).vis b=S.vis b/\(S.mk' y 4).vis (co b)=S.vis (co b):=fun b hb=>
  ⟨yae _ _ hb,yag S fun e=>hb (by rw [e]),yag S fun e=>hb (by rw [←yao b,e])⟩
 refine ⟨fun b hb=>?_,fun b hb hk hc' hbx=>?_,fun b hb hk hc'=>?_⟩
 ·rw [yag S fun e=>by rw [e,hy] at hb;cases hb];exact h.vis b hb
 ·by_cases e:b/2=y/2
  ·rcases ybi e with e|e
   ·subst e
    rw [show (S.mk' b 4).st (b/2)=4 from yac _ _ _,ybg,yag S (ycw b),hc];rfl
   ·rw [e,hcy] at hk;cases hk
  ·obtain ⟨e1,e2,e3⟩:=ne b e
   rw [e1,e2,e3];exact h.q b hb hk hc' e
 ·have:b/2≠y/2:=fun e=>by
   rcases ybi e with e|e
   ·rw [e,hy] at hk;cases hk
   ·rw [e,yax,hy] at hc';cases hc'
  obtain ⟨e1,e2,e3⟩:=ne b this
  rw [e1,e2,e3];exact h.q2 b hb hk hc'
theorem yrc (hD:Ok D) (C:Crc D K sm l0 b0) (hO:Orc K st0 l0) (hr: ∀a,r a=a % 2) {k:WS->Int} {S:WS} {a:Nat} {p:Bool} {l1 l:List (Nat×Bool)} (hl:l0=l1++(a,p)::l) (h:QK D K sm r st0 ((a,p)::l) S D.n)
  (H: ∀S',QK D K sm r st0 l S' D.n->W D (eqE b0) S' (nof D a p) (fun S _=>k S)=Lw D (ltrs D l) k (TK K sm S')):
  (sumB (br D S a) fun S' d=>W D (eqE b0) S' d fun S _=>k S)=Lw D (ltrs D ((a,p)::l)) k (TK K sm S):=by
 have hm:(a,p)∈l0:=by rw [hl];simp
 have ha:K a=true:=(C.mem a).2 (by rw [hl];simp)
 have hal:a<2*D.n:=C.lt _ hm
 have hp:p= !sm (a/2):=C.ty _ hm
 have hva:S.vis a=false:=(h.vis a ha).2 (by simp)
 have hcl:=ya4 hal
 by_cases hd:K (co a)=true\/S.vis (co a)=true\/sm (a/2)=true
 ·rw [h.det C hO hl (hd.elim .inl fun hd=> .inr (hd.elim .inl fun hd=> .inr (.inl hd))),yci,H _ (h.mk1 C hl rfl (.inl rfl)),TK_K _ _ ha]
  show _=Lw D (if p=true then (co a,sl D a)::ltrs D l else ltrs D l) k _
  by_cases hp1:p=true
  ·rw [if_pos hp1]
   show _=Lt D (co a) _ _ _
   rw [ych]
   show (S.vis (co a)||K (co a))=true
   rcases hd with h|h|h
   ·rw [h,Bool.or_true]
   ·rw [h];rfl
   ·rw [h] at hp;rw [hp] at hp1;cases hp1
  ·rw [if_neg hp1]
 ·have hk:K (co a)=false:=by cases e:K (co a) with
   |false=>rfl
   |true=>exact absurd (.inl e) hd
  have hv:S.vis (co a)=false:=by cases e:S.vis (co a) with
   |false=>rfl
   |true=>exact absurd (.inr (.inl e)) hd
  have hs:sm (a/2)=false:=by cases e:sm (a/2) with
   |false=>rfl
   |true=>exact absurd (.inr (.inr e)) hd
  have hp1:p=true:=by rw [hp,hs];rfl
  subst hp1
  have est:=h.q (co a) hcl hk (by rw [yax];exact ha) (by rw [yao];omega)
  rw [yao,yax,hva,hv,hs,hr] at est
  have est':S.st (a/2)=co a % 2:=est
  have hsl:sgn D (S.st (a/2)) (a/2)=sl D a:=by unfold sl;rw [est']
  rw [br_u hal (by rw [est',yg1]),yq5,hsl]
  show _=Lt D (co a) (sl D a) (Lw D (ltrs D l) k) (TK K sm S)
  rw [ycr (by show (S.vis (co a)||K (co a))=false;rw [hv,hk];rfl)]
  have m3:=h.mk1 C hl (v:=3) (by rw [hs,hv];rfl) (x1:=D.n) (.inl rfl)
  have t1:=H _ (m3.sc (2*sl D a) 0)
  rw [ygg,TK_K _ _ ha] at t1
  congr 1
  congr 1
  have hkn:K (D.nx (co a))=false:=((C.kc (co a) hcl hk).1 (by rw [yax];exact ha)).2 (by rw [yao];exact hs)
  have hy0:co a≠b0:=fun e=>by
   have:K b0=true:=by
    obtain ⟨⟨c,q⟩,l',e'⟩:=List.exists_cons_of_ne_nil C.ne
    have hc:=C.ch
    rw [e'] at hc
    rw [hc.1];exact (C.mem c).2 (by rw [e'];simp)
   rw [←e,hk] at this;cases this
  rw [yq3 (s2:=eqE b0) (s1:=fun z=>eqE b0 z||eqE (co a) z) (fun z hz=>by show (eqE b0 z||_)=true;rw [hz];rfl)]
  rw [y3x C (Loc.mkL 4 (yao a)) hr (x0:=a/2) (y:=co a) (l:=l) (fun b hb hkb e=>by
    rcases ybi e with e|e
    ·rw [e,ha] at hkb;cases hkb
    ·exact e) (fun S' b=>S'.vis (co a)=false/\S'.st (a/2)=2/\S'.vis a=true) ?_ hD (s1:=fun z=>eqE b0 z||eqE (co a) z) ?_ (k':=Lw D (ltrs D l) k) ?_ (hD.lt _ hcl) hkn ((h.mk2 C hl hk 2).sc _ _) ?_]
  ·unfold wk1
   have:((TK K sm S).sc (sl D a) 1).st (co a/2)=3:=by
    show (TK K sm S).st (co a/2)=3
    rw [yb3,hk,yax,ha,hv,yao,hs];rfl
   rw [br_3 hcl this,yci,ygg,TK_K _ _ ha]
  ·intro S' b ⟨j1,j2,j3⟩ hb hkb hby hvb x hx
   have hne:b/2≠a/2:=fun e=>by
    rcases ybi e with e|e
    ·rw [e,ha] at hkb;cases hkb
    ·exact hby e
   obtain ⟨_,v,e1,e2,_⟩:=yix hx
   rw [e1,e2]
   exact ⟨by rw [yae _ _ (Ne.symm hby)];exact j1,by rw [yae _ _ (Ne.symm hne)];exact j2,by rw [yae _ _ fun e=>hne (by rw [e])];exact j3⟩
  ·intro b hkb
   have hb0:b≠b0:=fun e=>by
    have:K b0=true:=by
     obtain ⟨⟨c,q⟩,l',e'⟩:=List.exists_cons_of_ne_nil C.ne
     have hc:=C.ch
     rw [e'] at hc
     rw [hc.1];exact (C.mem c).2 (by rw [e'];simp)
    rw [←e,hkb] at this;cases this
   show (eqE b0 b||eqE (co a) b)=_
   rw [ycx hb0];rfl
  ·intro S' hq ⟨j1,j2,j3⟩
   rw [W_go (ycx hy0) j1,br_2 hcl (by rw [yao];exact j2),yci,yax]
   have hq':=QK.mk3 C hk (by rw [yax];exact ha) (by rw [yax];exact j3) (by rw [yao];exact hq) D.n
   have:=H _ hq'
   rw [TK_A _ _ hk (by rw [yax];exact ha)] at this
   exact this
  ·exact ⟨(yag (v:=2) S (ycw a)).trans hv,yac _ _ _,ybg S a 2⟩
theorem low (hD:Ok D) (C:Crc D K sm l0 b0) (hO:Orc K st0 l0) (hr: ∀a,r a=a % 2) {S:WS} (h:QK D K sm r st0 l0 S D.n) (k:WS->Int):wk1 D S b0 k=Lw D (ltrs D l0) k (TK K sm S):=by
 have key: ∀(l l1:List (Nat×Bool)) (S:WS) (d:Nat),l0=l1++l->l1≠[]->chn D d l b0->QK D K sm r st0 l S D.n->W D (eqE b0) S d (fun S _=>k S)=Lw D (ltrs D l) k (TK K sm S):=fun l=>by
  induction l with
  |nil=>
   intro l1 S d _ _ hc hq
   have e:d=b0:=hc
   subst e
   rw [yaz (ya3 d),hq.done C (Nat.le_refl _)];rfl
  |cons x l ih=>
   obtain ⟨a,p⟩:=x
   intro l1 S d hl h1 hc hq
   obtain ⟨e,hc'⟩:=hc
   subst e
   have ha:K d=true:=(C.mem d).2 (by rw [hl];simp)
   rw [W_go (ycx (yyz C hl h1)) ((hq.vis d ha).2 (by simp))]
   exact yrc hD C hO hr hl hq fun S' hq'=>ih (l1++[(d,p)]) S' _ (by rw [hl];simp) (by simp) hc' hq'
 obtain ⟨⟨a,p⟩,l,hl⟩:=List.exists_cons_of_ne_nil C.ne
 have hc:=C.ch
 rw [hl] at hc
 obtain ⟨e,hc'⟩:=hc
 rw [hl] at h⊢
 unfold wk1
 rw [show br D S b0=br D S a by rw [e]]
 exact yrc hD C hO hr (l1:=[]) hl h fun S' hq'=>key l [(a,p)] S' _ hl (by simp) hc' hq'
theorem yy0: ∀(l:List (Nat×Bool)) (s e:Nat),chn D s l e-> ∀x∈l,nof D x.1 x.2=e\/nof D x.1 x.2∈l.map Prod.fst
 |[],s,e,_,x,hx=>by cases hx
 |(a,p)::l,s,e,h,x,hx=>by
  obtain ⟨h1,h2⟩:=h
  rcases List.mem_cons.1 hx with rfl|hx
  ·cases l with
   |nil=>exact .inl h2
   |cons y l=>exact .inr (by rw [h2.1];simp)
  ·rcases yy0 l _ e h2 x hx with h|h
   ·exact .inl h
   ·exact .inr (by simp [h])
theorem Crc.hd (C:Crc D K sm l0 b0):K b0=true:=by
 obtain ⟨⟨c,q⟩,l',e'⟩:=List.exists_cons_of_ne_nil C.ne
 have hc:=C.ch
 rw [e'] at hc
 rw [hc.1];exact (C.mem c).2 (by rw [e'];simp)
def ovr (K:Nat->Bool) (S:WS):WS:={S with st:=fun c=>if S.st c<=1 then (if K (2*c)&&K (2*c+1) then S.st c else if K (2*c) then 0 else if K (2*c+1) then 1 else S.st c) else S.st c}
theorem y7x (S:WS) (c:Nat):(ovr K S).st c<=1↔S.st c<=1:=by
 show (if S.st c<=1 then _ else _)<=1↔_
 by_cases h:S.st c<=1
 ·rw [if_pos h]
  refine ⟨fun _=>h,fun _=>?_⟩
  split
  ·exact h
  split
  ·omega
  split
  ·omega
  ·exact h
 ·rw [if_neg h]
theorem yy1 (S:WS) {c:Nat} (h: ¬S.st c<=1):(ovr K S).st c=S.st c:=if_neg h
theorem Bd.chg {S S':WS} (h:Bd D S) (hv:S'.vis=S.vis) (h1: ∀c,(S.st c<=1/\(S'.st c<=1\/S'.st c=5))\/S'.st c=S.st c):Bd D S':=fun a ha=>by
 have f:=h a ha
 unfold Fit at*
 rw [hv]
 rcases h1 (a/2) with ⟨h2,h3⟩|h2
 ·rw [FitP.i0 (.inl h2)] at f
  exact (FitP.i0 h3).2 f
 ·rw [h2];exact f
theorem y3y (hD:Ok D) (C:Crc D K sm l0 b0) (hO:Orc K st0 l0) {S:WS} (hr: ∀a,r a<=1) (hB:Bd D S) (h:QK D K sm r st0 l0 S D.n):Bd D (TK K sm S):=by
 have hu: ∀b,b<2*D.n-> ¬S.st (b/2)<=1\/S.st (b/2)<=1:=fun b _=>by omega
 have hB':Bd D (ovr K S):=hB.chg rfl fun c=>by
  by_cases h:S.st c<=1
  ·exact .inl ⟨h, .inl ((y7x S c).2 h)⟩
  ·exact .inr (yy1 S h)
 have hq:QK D K sm (fun b=>1-b % 2) st0 l0 (ovr K S) D.n:=by
  refine ⟨h.vis,fun b hb hk hc hbx=>?_,fun a ha hk hc=>?_⟩
  ·have e:=h.q b hb hk hc hbx
   show (ovr K S).st (b/2)=tab _ (S.vis b) (S.vis (co b)) _
   by_cases h1:S.st (b/2)<=1
   ·have e2:(ovr K S).st (b/2)=1-b % 2:=by
     show (if S.st (b/2)<=1 then _ else _)=_
     rw [if_pos h1]
     rcases ends b with ⟨k1,k2⟩|⟨k1,k2⟩
     ·rw [←k2,←k1,hk,hc];simp;omega
     ·rw [←k1,←k2,hk,hc];simp;omega
    rw [e2]
    rw [e] at h1
    revert h1
    unfold tab
    cases sm (b/2)<;>cases S.vis b<;>cases S.vis (co b)<;>simp
   ·rw [yy1 S h1,e]
    rw [e] at h1
    revert h1
    have:=hr b
    unfold tab
    cases sm (b/2)<;>cases S.vis b<;>cases S.vis (co b)<;>simp
    omega
  ·show (ovr K S).st (a/2)=tab (sm (a/2)) (S.vis a) (S.vis (co a)) (st0 (a/2))
   rw [←h.q2 a ha hk hc]
   show (if S.st (a/2)<=1 then _ else _)=_
   split
   ·rcases ends a with ⟨k1,k2⟩|⟨k1,k2⟩
    ·rw [←k2,←k1,hk,hc];rfl
    ·rw [←k1,←k2,hk,hc];rfl
   ·rfl
 have hT:TK K sm (ovr K S)=TK K sm S:=by
  refine WS.ext' (fun b=>?_) rfl rfl rfl rfl
  rw [yb3,yb3]
  cases hk:K b with
  |true=>cases hc:K (co b)<;>rfl
  |false=>
   cases hc:K (co b) with
   |true=>rfl
   |false=>
    show (ovr K S).st (b/2)=S.st (b/2)
    show (if S.st (b/2)<=1 then _ else _)=_
    split
    ·rcases ends b with ⟨k1,k2⟩|⟨k1,k2⟩
     ·rw [←k2,←k1,hk,hc];rfl
     ·rw [←k1,←k2,hk,hc];rfl
    ·rfl
 rw [←hT]
 exact (top hD C hO (fun a=>by rw [yg1];omega) hB' hq fun _=>0).2
theorem y3z (hD:Ok D) {al:Nat->Nat} (hP:Pla D al) (C:Crc D K sm l0 b0) (hO:Orc K st0 l0) (hr: ∀a,r a=a % 2) {S:WS} (hB:Bd D S) (h:QK D K sm r st0 l0 S D.n) (X:Int->Int->Nat->Int) (L:List Nat):run X D (b0::L) S=run X D L (TK K sm S).cr:=by
 have hv0:S.vis b0=false:=(h.vis b0 C.hd).2 ((C.mem b0).1 C.hd)
 show (if S.vis b0=true then _ else wk1 D S.cr b0 (run X D L))=_
 rw [if_neg (by simp [hv0]),low hD C hO hr h.cr,yna]
 refine word hD hP C.ch (fun x hx=>?_) (y3y hD C hO (fun a=>by rw [hr];omega) hB h).cr _
 have hk:K x.1=true:=(C.mem _).2 (List.mem_map.2 ⟨x,hx,rfl⟩)
 refine ⟨C.lt x hx,?_,?_,fun hp=>?_⟩
 ·show (S.vis x.1||K x.1)=true
  rw [hk,Bool.or_true]
 ·show (S.vis _||K _)=true
  have:K (nof D x.1 x.2)=true:=by
   rcases yy0 l0 _ _ C.ch x hx with e|e
   ·rw [e];exact C.hd
   ·exact (C.mem _).2 e
  rw [this,Bool.or_true]
 ·show (TK K sm S).st (x.1/2)=3\/(TK K sm S).st (x.1/2)=4
  have hs:sm (x.1/2)=false:=by
   have:=C.ty x hx
   rw [hp] at this
   cases e:sm (x.1/2) with
   |false=>rfl
   |true=>rw [e] at this;cases this
  rw [yb3,hk,hs]
  cases K (co x.1)<;>cases S.vis x.1<;>cases S.vis (co x.1)<;>simp
theorem back (hD:Ok D) {al:Nat->Nat} (hP:Pla D al) (C:Crc D K sm l0 b0) (hO:Orc K st0 l0) (hr: ∀a,r a=a % 2) (X:Int->Int->Nat->Int) (L:List Nat): ∀(lA:List Nat) {S:WS},(∀a∈lA,a<2*D.n/\K a=false)->Bd D S->QK D K sm r st0 l0 S D.n->run X D (lA++b0::L) S=run X D (lA++L) (TK K sm S).cr
 |[],S,_,hB,h=>y3z hD hP C hO hr hB h X L
 |a::lA,S,hA,hB,h=>by
  obtain ⟨hal,hka⟩:=hA a (.head _)
  have ih:=fun S' (hB':Bd D S') (h':QK D K sm r st0 l0 S' D.n)=>back hD hP C hO hr X L lA (S:=S') (fun b hb=>hA b (.tail _ hb)) hB' h'
  show (if S.vis a=true then _ else _)=if (S.vis a||K a)=true then _ else _
  rw [hka,Bool.or_false]
  cases hv:S.vis a with
  |true=>exact ih S hB h
  |false=>
   simp only [Bool.false_eq_true,if_false]
   show wk1 D S.cr a (run X D (lA++b0::L))=wk1 D (TK K sm S).cr.cr a (run X D (lA++L))
   rw [show wk1 D (TK K sm S).cr.cr a (run X D (lA++L))=wk1 D (TK K sm S).cr a (fun S=>run X D (lA++L) S.cr) from yyp _ _,←yna]
   unfold wk1
   have hid:Loc D.n (fun S:WS=>S):=⟨fun _ _ _=>rfl,fun _ _ _=>rfl,fun _ _ _ _=>rfl,fun _ _ _=>rfl⟩
   refine (yuc C hid hr hD hal hka h.cr (by omega) hv).sum fun x hx S' a' ⟨e1,e2,e3,e4,e5⟩=>?_
   subst e1 e2
   exact y3x C hid hr (fun b hb _ e=>absurd e (by omega)) (fun S' b=>Mid D S' a b) (fun S' b hM _ _ hne _ y hy=>hM.step hD hne hy) hD (fun _ _=>rfl) (k':=fun S=>run X D (lA++L) S.cr) (fun S' hq hM=>ih S' hM.close hq) e3 e4 e5 (hB.cr.start hD hv hx)
end
end Hs
end Go.Proofs.YtjpbeacamoijhaaDoor
namespace Go.Proofs.YtjpbeacamoijhaaDoor
set_option linter.unusedSimpArgs false
set_option linter.unusedVariables false
namespace Hs
open Sp (Sph siD PermN itn)
section
variable {D:Sh}
def sm0 (S:WS) (c:Nat):Bool:=decide (S.st c=5\/S.st c=2)
theorem yen {S:WS} {c:Nat}:sm0 S c=true↔S.st c=5\/S.st c=2:=by unfold sm0;exact decide_eq_true_iff
theorem yeo {S:WS} {c:Nat}:sm0 S c=false↔S.st c≠5/\S.st c≠2:=by
 unfold sm0;rw [decide_eq_false_iff_not];omega
def nxB (D:Sh) (sm:Nat->Bool) (a:Nat):Nat:=nof D a (!sm (a/2))
theorem yer (hD:Ok D) (sm:Nat->Bool):PermN (2*D.n) (nxB D sm):=by
 refine ⟨fun a ha=>?_,fun a b ha hb e=>?_⟩
 ·unfold nxB nof;split
  ·exact hD.lt _ ha
  ·exact hD.lt _ (ya4 ha)
 ·unfold nxB nof at e
  cases h1:sm (a/2)<;>cases h2:sm (b/2)<;>rw [h1,h2] at e
  ·exact hD.inj _ _ ha hb e
  ·have e':a=co b:=hD.inj _ _ ha (ya4 hb) e
   rw [e',yao,h2] at h1;cases h1
  ·have e':co a=b:=hD.inj _ _ (ya4 ha) hb e
   rw [←e',yao,h1] at h2;cases h2
  ·have e':co a=co b:=hD.inj _ _ (ya4 ha) (ya4 hb) e
   rw [←yax a,e',yax]
theorem yud: ∀(l:List (Nat×Bool)) (s e:Nat),chn D s l e-> ∀a∈l.map Prod.fst,a=s\/ ∃x∈l,nof D x.1 x.2=a
 |[],s,e,_,a,ha=>by cases ha
 |(c,p)::l,s,e,h,a,ha=>by
  obtain ⟨h1,h2⟩:=h
  rcases List.mem_cons.1 ha with rfl|ha
  ·exact .inl h1.symm
  ·rcases yud l _ e h2 a ha with h|⟨x,hx,h⟩
   ·exact .inr ⟨(c,p), .head _,h.symm⟩
   ·exact .inr ⟨x, .tail _ hx,h⟩
theorem yue: ∀(l:List (Nat×Bool)) (s e:Nat),chn D s l e->l≠[]-> ∃x∈l,nof D x.1 x.2=e
 |[],s,e,_,h=>absurd rfl h
 |(c,p)::l,s,e,h,_=>by
  obtain ⟨h1,h2⟩:=h
  cases l with
  |nil=>exact ⟨(c,p), .head _,h2⟩
  |cons y l=>
   obtain ⟨x,hx,e'⟩:=yue (y::l) _ e h2 (by simp)
   exact ⟨x, .tail _ hx,e'⟩
def kOf (l:List (Nat×Bool)) (a:Nat):Bool:=decide (a∈l.map Prod.fst)
theorem ybq {l:List (Nat×Bool)} {a:Nat}:kOf l a=true↔a∈l.map Prod.fst:=by unfold kOf;exact decide_eq_true_iff
theorem Crc.make (hD:Ok D) {sm:Nat->Bool} {l:List (Nat×Bool)} {b:Nat} (ch:chn D b l b) (ne:l≠[]) (lt: ∀x∈l,x.1<2*D.n) (nd:(l.map Prod.fst).Nodup) (ty: ∀x∈l,x.2= !sm (x.1/2)):Crc D (kOf l) sm l b:=by
 have hp:=yer hD sm
 have pre: ∀c,c<2*D.n->kOf l (nxB D sm c)=true->kOf l c=true:=fun c hc hk=>by
  have: ∃x∈l,nof D x.1 x.2=nxB D sm c:=by
   rcases yud l b b ch _ (ybq.1 hk) with h|h
   ·rw [h];exact yue l b b ch ne
   ·exact h
  obtain ⟨x,hx,e⟩:=this
  rw [ty x hx] at e
  have:=hp.inj _ _ (lt x hx) hc e
  rw [←this];exact ybq.2 (List.mem_map.2 ⟨x,hx,rfl⟩)
 have pre': ∀c,c<2*D.n->kOf l c=false->kOf l (nxB D sm c)=false:=fun c hc hk=>by
  cases e:kOf l (nxB D sm c) with
  |false=>rfl
  |true=>rw [pre c hc e] at hk;cases hk
 refine ⟨ch,ne,lt,nd,fun a=>ybq,ty,fun c hc hk=>?_⟩
 have h1:=pre' c hc hk
 unfold nxB nof at h1
 refine ⟨fun _=>⟨fun hs=>?_,fun hs=>?_⟩,fun hk'=>?_⟩
 ·rw [hs] at h1;exact h1
 ·rw [hs] at h1;exact h1
 ·have h2:=pre' (co c) (ya4 hc) hk'
  unfold nxB nof at h2
  rw [yao,yax] at h2
  cases hs:sm (c/2) with
  |true=>rw [hs] at h1 h2;exact ⟨h2,h1⟩
  |false=>rw [hs] at h1 h2;exact ⟨h1,h2⟩
def pl (D:Sh) (sm:Nat->Bool) (b:Nat):Nat->Nat->List (Nat×Bool)
 |0,_=>[]
 |m+1,i=>(itn (nxB D sm) i b,!sm (itn (nxB D sm) i b/2))::pl D sm b m (i+1)
theorem y30 (sm:Nat->Bool) (b:Nat): ∀m i,chn D (itn (nxB D sm) i b) (pl D sm b m i) (itn (nxB D sm) (i+m) b)
 |0,i=>rfl
 |m+1,i=>by
  refine ⟨rfl,?_⟩
  have:=y30 sm b m (i+1)
  rw [show i+1+m=i+(m+1) by omega] at this
  exact this
theorem yhy {sm:Nat->Bool} {b:Nat}: ∀{m i:Nat} {x:Nat×Bool},x∈pl D sm b m i-> ∃j,i<=j/\j<i+m/\x=(itn (nxB D sm) j b,!sm (itn (nxB D sm) j b/2))
 |0,i,x,h=>by cases h
 |m+1,i,x,h=>by
  rcases List.mem_cons.1 h with rfl|h
  ·exact ⟨i,by omega,by omega,rfl⟩
  ·obtain ⟨j,h1,h2,h3⟩:=yhy h
   exact ⟨j,by omega,by omega,h3⟩
theorem y31 {sm:Nat->Bool} {b:Nat}: ∀{m i j:Nat},i<=j->j<i+m->itn (nxB D sm) j b∈(pl D sm b m i).map Prod.fst
 |0,i,j,h1,h2=>by omega
 |m+1,i,j,h1,h2=>by
  by_cases e:j=i
  ·subst e;exact .head _
  ·exact .tail _ (y31 (by omega) (by omega))
theorem y32 {sm:Nat->Bool} {b k:Nat} (h: ∀i j,i<j->j<k->itn (nxB D sm) i b≠itn (nxB D sm) j b): ∀m i,i+m<=k->((pl D sm b m i).map Prod.fst).Nodup
 |0,i,_=> .nil
 |m+1,i,hm=>by
  show (itn (nxB D sm) i b::(pl D sm b m (i+1)).map Prod.fst).Nodup
  refine List.nodup_cons.2 ⟨fun hin=>?_,y32 h m (i+1) (by omega)⟩
  obtain ⟨x,hx,e⟩:=List.mem_map.1 hin
  obtain ⟨j,h1,h2,rfl⟩:=yhy hx
  exact h i j (by omega) (by omega) e.symm
theorem circ (hD:Ok D) {S:WS} (hB:Bd D S) {b:Nat} (hb:b<2*D.n) (hv:S.vis b=false): ∃l,Crc D (kOf l) (sm0 S) l b/\(∀a,kOf l a=true->S.vis a=false)/\(∀i,kOf l (itn (nxB D (sm0 S)) i b)=true)/\(∀a,kOf l a=true-> ∃i,a=itn (nxB D (sm0 S)) i b):=by
 have hp:=yer hD (sm0 S)
 obtain ⟨k,h0,hk,hmin⟩:=Sp.first_back hp hb
 have hne: ∀i j,i<j->j<k->itn (nxB D (sm0 S)) i b≠itn (nxB D (sm0 S)) j b:=fun i j hij hj e=>by
  refine hmin (j-i) (by omega) (by omega) ?_
  have e2:itn (nxB D (sm0 S)) i (itn (nxB D (sm0 S)) (j-i) b)=itn (nxB D (sm0 S)) i b:=by rw [←Sp.itn_add,show i+(j-i)=j by omega];exact e.symm
  exact hp.itn_inj (hp.itn_lt hb _) hb i e2
 have hun: ∀i,S.vis (itn (nxB D (sm0 S)) i b)=false:=fun i=>by
  induction i with
  |zero=>exact hv
  |succ i ih=>
   have hl:=hp.itn_lt hb i
   simp only [itn]
   generalize itn (nxB D (sm0 S)) i b=a at*
   have f:=hB a hl
   have f':=hB (co a) (ya4 hl)
   unfold Fit at f f'
   rw [yao,yax] at f'
   unfold nxB nof
   cases hs:sm0 S (a/2) with
   |true=>
    rcases yen.1 hs with h|h
    ·rw [h,FitP.i0 (.inr rfl)] at f'
     simpa using f'.2
    ·rw [h,FitP.i2] at f
     cases e:S.vis (D.nx (co a)) with
     |false=>exact e
     |true=>rw [f.1.2 e] at ih;cases ih
   |false=>
    obtain ⟨n5,n2⟩:=yeo.1 hs
    unfold FitP at f
    rcases f with ⟨_,_,h⟩|⟨_,h,_⟩|⟨_,h,_⟩|⟨h,_⟩
    ·simpa using h
    ·rw [h] at ih;cases ih
    ·cases e:S.vis (D.nx a) with
     |false=>exact e
     |true=>rw [h.2 e] at ih;cases ih
    ·exact absurd h n2
 refine ⟨pl D (sm0 S) b k 0,Crc.make hD ?_ ?_ ?_ (y32 hne k 0 (by omega)) ?_,?_,?_,?_⟩
 ·have:=y30 (D:=D) (sm0 S) b k 0
  rw [Nat.zero_add,hk] at this
  exact this
 ·obtain ⟨m,rfl⟩: ∃m,k=m+1:=⟨k-1,by omega⟩
  intro e;cases e
 ·intro x hx
  obtain ⟨j,_,_,rfl⟩:=yhy hx
  exact hp.itn_lt hb j
 ·intro x hx
  obtain ⟨j,_,_,rfl⟩:=yhy hx
  rfl
 ·intro a ha
  obtain ⟨x,hx,rfl⟩:=List.mem_map.1 (ybq.1 ha)
  obtain ⟨j,_,_,rfl⟩:=yhy hx
  exact hun j
 ·intro i
  have: ∀i,∃j,j<k/\itn (nxB D (sm0 S)) i b=itn (nxB D (sm0 S)) j b:=fun i=>by
   induction i with
   |zero=>exact ⟨0,h0,rfl⟩
   |succ i ih=>
    obtain ⟨j,hj,e⟩:=ih
    by_cases h:j+1<k
    ·exact ⟨j+1,h,by simp only [itn];rw [e]⟩
    ·refine ⟨0,h0,?_⟩
     have:j+1=k:=by omega
     simp only [itn]
     rw [e]
     have e2:nxB D (sm0 S) (itn (nxB D (sm0 S)) j b)=itn (nxB D (sm0 S)) (j+1) b:=rfl
     rw [e2,this,hk]
  obtain ⟨j,hj,e⟩:=this i
  rw [e]
  exact ybq.2 (y31 (Nat.zero_le _) (by omega))
 ·intro a ha
  obtain ⟨x,hx,rfl⟩:=List.mem_map.1 (ybq.1 ha)
  obtain ⟨j,_,_,rfl⟩:=yhy hx
  exact ⟨j,rfl⟩
theorem QK.of {S:WS} {K:Nat->Bool} {l:List (Nat×Bool)} {b:Nat} {r:Nat->Nat} (hB:Bd D S) (C:Crc D K (sm0 S) l b) (hun: ∀a,K a=true->S.vis a=false) (hr: ∀b,b<2*D.n->K b=false->K (co b)=true->S.st (b/2)<=1->S.st (b/2)=r b):QK D K (sm0 S) r S.st l S D.n:=by
 refine ⟨fun a ha=>⟨fun _=>(C.mem a).1 ha,fun _=>hun a ha⟩,fun b hb hk hc _=>?_,fun a ha hk hc=>?_⟩
 ·have f:=hB b hb
  unfold Fit at f
  have hv:=hun _ hc
  rw [hv]
  unfold FitP at f
  rcases f with ⟨h,h1,_⟩|⟨h,_,h2⟩|⟨h,_,h1⟩|⟨h,_,h1⟩
  ·rw [h1]
   rcases h with h|h
   ·have:sm0 S (b/2)=false:=yeo.2 (by omega)
    rw [this];exact hr b hb hk hc h
   ·have:sm0 S (b/2)=true:=yen.2 (.inl h)
    rw [this,h];rfl
  ·have f':=hB (co b) (ya4 hb)
   unfold Fit at f'
   rw [yao,h,FitP.i4,hv] at f'
   cases f'.1
  ·rw [hv] at h1
   have:sm0 S (b/2)=false:=yeo.2 (by omega)
   rw [h1,this,h];rfl
  ·rw [hv] at h1
   have:sm0 S (b/2)=true:=yen.2 (.inr h)
   rw [h1,this,h];rfl
 ·have f:=hB a ha
  unfold Fit at f
  rw [hun _ hk,hun _ hc] at f⊢
  unfold FitP at f
  rcases f with ⟨h,h1,_⟩|⟨h,h1,h2⟩|⟨h,_,h1⟩|⟨h,_,h1⟩
  ·rcases h with h|h
   ·have:sm0 S (a/2)=false:=yeo.2 (by omega)
    rw [this];rfl
   ·have:sm0 S (a/2)=true:=yen.2 (.inl h)
    rw [this,h];rfl
  ·cases h1
  ·cases h1
  ·cases h1
def Orc' (sm:Nat->Bool) (st0:Nat->Nat) (l0:List (Nat×Bool)):Prop:= ∀a,sm (a/2)=false->[a,co a].Sublist (l0.map Prod.fst)->st0 (a/2)=a % 2
theorem Orc'.ord {K sm:Nat->Bool} {st0:Nat->Nat} {l:List (Nat×Bool)} (ty: ∀x∈l,x.2= !sm (x.1/2)) (h:Orc' sm st0 l):Orc K st0 l:=fun l1 a l2 e _ hin=>by
 have:=ty (a,true) (by rw [e];simp)
 refine h a ?_ ?_
 ·cases e:sm (a/2) with
  |false=>rfl
  |true=>rw [e] at this;cases this
 ·rw [e,List.map_append,List.map_cons]
  exact ((List.singleton_sublist.2 hin).cons_cons a).trans (List.sublist_append_right _ _)
theorem yiz {a b:Nat} (hab:a≠b): ∀{L:List Nat},L.Nodup->[a,b].Sublist L-> ¬[b,a].Sublist L
 |[],_,h=>by cases h
 |c::L,hn,h=>fun h'=>by
  obtain ⟨h1,h2⟩:=List.nodup_cons.1 hn
  cases h with
  |cons _ h=>
   cases h' with
   |cons _ h'=>exact yiz hab h2 h h'
   |cons_cons _ h'=>exact h1 (h.subset (by simp))
  |cons_cons _ h=>
   cases h' with
   |cons _ h'=>exact h1 (h'.subset (by simp))
   |cons_cons _ h'=>exact hab rfl
end
end Hs
end Go.Proofs.YtjpbeacamoijhaaDoor
