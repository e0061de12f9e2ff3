/- Plain: THE ORDER OF THE CIRCLES does not matter on the sphere (where a circle begins; the theorem). -/
import Derived.Test.YtjpbeacamoijhaaDoorZl
namespace Go.Proofs.YtjpbeacamoijhaaDoor
set_option linter.unusedSimpArgs false
set_option linter.unusedVariables false
namespace Hs
open Sp (Sph siD PermN itn)
section
variable {D:Sh} {X:Int->Int->Nat->Int}
theorem yg2: ∀(l1 l:List (Nat×Bool)) (s m e:Nat),chn D s l1 m->chn D m l e->chn D s (l1++l) e
 |[],l,s,m,e,h1,h2=>by rw [show s=m from h1];exact h2
 |(a,p)::l1,l,s,m,e,h1,h2=>⟨h1.1,yg2 l1 l _ m e h1.2 h2⟩
theorem yrg {a b c:Nat} {L:List Nat} (h:[a,b].Sublist (L++[c])):[a,b].Sublist L\/(b=c/\a∈L):=by
 obtain ⟨l1,l2,e,h1,h2⟩:=List.sublist_append_iff.1 h
 cases l1 with
 |nil=>
  have:=h2.length_le
  rw [List.nil_append] at e
  rw [←e] at this
  simp at this
 |cons x l1=>
  cases l1 with
  |nil=>
   simp at e
   obtain ⟨rfl,e⟩:=e
   subst e
   have h3:=h2.subset (a:=b) (by simp)
   simp at h3
   exact .inr ⟨h3,h1.subset (by simp)⟩
  |cons y l1=>
   cases l1 with
   |nil=>
    simp at e
    obtain ⟨rfl,rfl,e⟩:=e
    exact .inl h1
   |cons z l1=>simp at e
theorem E1a (hD:Ok D) (hX:Good X) {S:WS} (IH:IHr D X S) (hB:Bd D S) {b0:Nat} {l:List (Nat×Bool)} (C:Crc D (kOf l) (sm0 S) l b0) (hun: ∀a,kOf l a=true->S.vis a=false)
  (hq:QK D (kOf l) (sm0 S) (fun b=>co b % 2) S.st l S D.n) (hO:Orc' (sm0 S) S.st l) (L:List Nat) (hL: ∀c,c<2*D.n->Cov D (c::L) S):run X D (b0::L) S=run X D (nxB D (sm0 S) b0::L) S:=by
 obtain ⟨⟨a0,p0⟩,lt,hl⟩:=List.exists_cons_of_ne_nil C.ne
 have hch:=C.ch
 rw [hl] at hch
 obtain ⟨e0,hch⟩:=hch
 subst e0
 have hr: ∀a,(fun b=>co b % 2) (co a)=a % 2:=fun a=>by show co (co a)% 2=_;rw [yax]
 have hb0:b0<2*D.n:=C.lt _ (by rw [hl];exact .head _)
 have hp0:p0= !sm0 S (b0/2):=C.ty _ (by rw [hl];exact .head _)
 have hnd:=C.nd
 rw [hl] at hnd
 obtain ⟨hn1,hn2⟩:=List.nodup_cons.1 hnd
 have hb1:nxB D (sm0 S) b0=nof D b0 p0:=by unfold nxB;rw [hp0]
 rw [hb1]
 obtain ⟨t1,t2⟩:=ydb (X:=X) hD hB C hq (hO.ord C.ty) hr L
 rw [t1]
 have hkk:kOf (lt++[(b0,p0)])=kOf l:=funext fun a=>by
  have:(a∈(lt++[(b0,p0)]).map Prod.fst)↔a∈l.map Prod.fst:=by rw [hl];simp;exact Or.comm
  unfold kOf
  exact decide_eq_decide.2 this
 have C':Crc D (kOf l) (sm0 S) (lt++[(b0,p0)]) (nof D b0 p0):=by
  rw [←hkk]
  refine Crc.make hD (yg2 lt _ _ _ _ hch ⟨rfl,rfl⟩) (by simp) (fun x hx=>C.lt x ?_) ?_ (fun x hx=>C.ty x ?_)
  ·rw [hl]
   rcases List.mem_append.1 hx with h|h
   ·exact .tail _ h
   ·rw [List.mem_singleton] at h;rw [h];exact .head _
  ·rw [List.map_append,List.nodup_append]
   refine ⟨hn2,by simp,fun a ha b hb e=>?_⟩
   simp at hb
   rw [e,hb] at ha;exact hn1 ha
  ·rw [hl]
   rcases List.mem_append.1 hx with h|h
   ·exact .tail _ h
   ·rw [List.mem_singleton] at h;rw [h];exact .head _
 have qk': ∀S',Bd D S'->S'.vis=S.vis->sm0 S'=sm0 S->(∀b,b<2*D.n->kOf l b=false->kOf l (co b)=true->S'.st (b/2)=S.st (b/2))->QK D (kOf l) (sm0 S) (fun b=>co b % 2) S'.st (lt++[(b0,p0)]) S' D.n:=fun S' hB' hv hs h=>by
  have:=QK.of (r:=fun b=>co b % 2) hB' (hs▸C') (fun a ha=>by rw [hv];exact hun a ha) fun b hb k1 k2 k3=>by
   rw [h b hb k1 k2] at k3⊢
   have e:=hq.q b hb k1 k2 (by omega)
   rw [hun _ k2] at e
   rw [e] at k3⊢
   revert k3
   unfold tab
   cases sm0 S (b/2)<;>cases S.vis b<;>simp
  rwa [hs] at this
 by_cases hself:sm0 S (b0/2)=false/\kOf l (co b0)=true
 ·--the first crossing is one of the circle with itself
  obtain ⟨hs,hk⟩:=hself
  have hp1:p0=true:=by rw [hp0,hs];rfl
  subst hp1
  obtain ⟨x,hx⟩: ∃x,x=b0/2:=⟨_,rfl⟩
  have hcx:co b0/2=x:=by rw [yao];exact hx.symm
  have hcl:=ya4 hb0
  have hxn:x<D.n:=by omega
  have hin:co b0∈lt.map Prod.fst:=by
   have:=ybq.1 hk
   rw [hl] at this
   exact (List.mem_cons.1 this).resolve_left (ycw b0)
  obtain ⟨⟨c0,pc⟩,hcm,e⟩:=List.mem_map.1 hin
  have e':c0=co b0:=e
  subst e'
  obtain ⟨m1,m2,hm⟩:=List.append_of_mem hcm
  have hpc:pc=true:=by
   have:pc= !sm0 S (co b0/2):=C.ty (co b0,pc) (by rw [hl,hm];simp)
   rw [this,hcx,hx,hs];rfl
  subst hpc
  have hsub0:[b0,co b0].Sublist (l.map Prod.fst):=by
   rw [hl]
   exact (List.singleton_sublist.2 hin).cons_cons b0
  have hst:S.st x=b0 % 2:=by rw [hx];exact hO b0 hs hsub0
  have hb2:b0 % 2<=1:=by omega
  have hcm2:=yg1 b0
  have hn1l:nof D b0 true<2*D.n:=hD.lt _ hb0
  have B':Bd D (S.sx x (co b0 % 2)):=ynb hB (by omega) (.inl (by omega))
  have s':sm0 (S.sx x (co b0 % 2))=sm0 S:=funext fun c=>by
   unfold sm0
   refine decide_eq_decide.2 ?_
   show (upd S.st x _ c=5\/upd S.st x _ c=2)↔_
   by_cases hc:c=x
   ·subst hc;rw [yac];omega
   ·rw [yae _ _ hc]
  have nk: ∀b,kOf l b=false->b/2≠x:=fun b h1 e=>by
   rcases ybi (e.trans hx) with e|e
   ·rw [e,(C.mem b0).2 (by rw [hl];simp)] at h1;cases h1
   ·rw [e,hk] at h1;cases h1
  have Q':=qk' _ B' rfl s' fun b _ h1 _=>yae _ _ (nk b h1)
  have O':Orc' (sm0 S) (S.sx x (co b0 % 2)).st (lt++[(b0,true)]):=fun a ha hsub=>by
   rw [List.map_append] at hsub
   show upd S.st x _ (a/2)=_
   rcases yrg hsub with h|⟨h,_⟩
   ·have:a/2≠x:=fun e=>by
     have ha1:a∈lt.map Prod.fst:=h.subset (by simp)
     have ha2:co a∈lt.map Prod.fst:=h.subset (by simp)
     rcases ybi (e.trans hx) with e|e
     ·rw [e] at ha1;exact hn1 ha1
     ·rw [e,yax] at ha2;exact hn1 ha2
    rw [yae _ _ this]
    exact hO a ha (by rw [hl];exact h.cons b0)
   ·have h:co a=b0:=h
    have:a=co b0:=by rw [←h,yax]
    rw [this,hcx,yac]
  have T':TK (kOf l) (sm0 S) (S.sx x (co b0 % 2))=TK (kOf l) (sm0 S) S:=by
   refine WS.ext' (fun b=>?_) rfl rfl rfl rfl
   rw [yb3,yb3]
   cases h1:kOf l b with
   |true=>cases kOf l (co b)<;>rfl
   |false=>
    cases h2:kOf l (co b) with
    |true=>rfl
    |false=>exact yae _ _ (nk b h1)
  have f': ∀u v,run X D (nof D b0 true::L) ((S.sx x (co b0 % 2)).sc u v)=run X D L ((TK (kOf l) (sm0 S) S).cr.sc u v):=fun u v=>by
   obtain ⟨k1,_⟩:=ydb (X:=X) hD (B'.sc u v) C' (Q'.sc u v) (O'.ord C'.ty) hr L
   rw [k1,ygg,T',WS.sc_cr]
  have B5:Bd D (S.sx x 5):=ynb hB (by omega) (.inr rfl)
  have s5: ∀c,c≠x->sm0 (S.sx x 5) c=sm0 S c:=fun c hc=>by
   unfold sm0
   refine decide_eq_decide.2 ?_
   show (upd S.st x _ c=5\/upd S.st x _ c=2)↔_
   rw [yae _ _ hc]
  have s5x:sm0 (S.sx x 5) x=true:=yen.2 (.inl (yac _ _ _))
  have hch2:=hch
  rw [hm] at hch2
  obtain ⟨mm,hc1,hc2⟩:=ykq D m1 _ _ _ hch2
  obtain ⟨e1,hc2⟩:=hc2
  subst e1
  rw [hm] at hn1 hn2
  have hnm:(m1.map Prod.fst++co b0::m2.map Prod.fst).Nodup:=by rw [List.map_append,List.map_cons] at hn2;exact hn2
  obtain ⟨d1,d2,d3⟩:=List.nodup_append.1 hnm
  obtain ⟨d4,d5⟩:=List.nodup_cons.1 d2
  have nb:b0∉m1.map Prod.fst/\b0∉m2.map Prod.fst:=by
   rw [List.map_append,List.map_cons,List.mem_append,List.mem_cons] at hn1
   exact ⟨fun h=>hn1 (.inl h),fun h=>hn1 (.inr (.inr h))⟩
  have nc1:co b0∉m1.map Prod.fst:=fun h=>d3 _ h _ (.head _) rfl
  have ax1: ∀a∈m1.map Prod.fst,a/2≠x:=fun a ha e=>by
   rcases ybi (e.trans hx) with e|e
   ·rw [e] at ha;exact nb.1 ha
   ·rw [e] at ha;exact nc1 ha
  have ax2: ∀a∈m2.map Prod.fst,a/2≠x:=fun a ha e=>by
   rcases ybi (e.trans hx) with e|e
   ·rw [e] at ha;exact nb.2 ha
   ·rw [e] at ha;exact d4 ha
  have lml:l.map Prod.fst=b0::(m1.map Prod.fst++co b0::m2.map Prod.fst):=by rw [hl,hm];simp
  have C1:Crc D (kOf (m1++[(co b0,false)])) (sm0 (S.sx x 5)) (m1++[(co b0,false)]) (nof D b0 true):=by
   refine Crc.make hD (yg2 m1 _ _ _ _ hc1 ⟨rfl,?_⟩) (by simp) (fun y hy=>?_) ?_ (fun y hy=>?_)
   ·show D.nx (co (co b0))=D.nx b0;rw [yax]
   ·rcases List.mem_append.1 hy with h|h
    ·exact C.lt y (by rw [hl,hm];simp [h])
    ·rw [List.mem_singleton] at h;rw [h];exact hcl
   ·rw [List.map_append,List.nodup_append]
    refine ⟨d1,by simp,fun a ha b hb e=>?_⟩
    simp at hb
    rw [e,hb] at ha;exact nc1 ha
   ·rcases List.mem_append.1 hy with h|h
    ·rw [s5 _ (ax1 _ (List.mem_map.2 ⟨y,h,rfl⟩))]
     exact C.ty y (by rw [hl,hm];simp [h])
    ·rw [List.mem_singleton] at h;rw [h]
     show false= !sm0 _ (co b0/2)
     rw [hcx,s5x];rfl
  have k1i: ∀a,kOf (m1++[(co b0,false)]) a=true↔a∈m1.map Prod.fst\/a=co b0:=fun a=>by rw [ybq];simp
  have k1f: ∀a,kOf (m1++[(co b0,false)]) a=false↔a∉m1.map Prod.fst/\a≠co b0:=fun a=>by
   rw [←Bool.not_eq_true,k1i];simp
  have kl: ∀a,kOf l a=true↔a=b0\/a∈m1.map Prod.fst\/a=co b0\/a∈m2.map Prod.fst:=fun a=>by rw [ybq,lml];simp
  have klf: ∀a,kOf l a=false↔ ¬(a=b0\/a∈m1.map Prod.fst\/a=co b0\/a∈m2.map Prod.fst):=fun a=>by rw [←Bool.not_eq_true,kl]
  have u1: ∀a,kOf (m1++[(co b0,false)]) a=true->S.vis a=false:=fun a ha=>hun a ((kl a).2 (by rcases (k1i a).1 ha with h|h<;>simp [h]))
  have real: ∀a,kOf l a=true->S.st (a/2)<=1->sm0 S (a/2)=false:=fun a _ h=>yeo.2 (by omega)
  have Q1:QK D (kOf (m1++[(co b0,false)])) (sm0 (S.sx x 5)) (fun b=>co b % 2) (S.sx x 5).st (m1++[(co b0,false)]) (S.sx x 5) D.n:=by
   refine QK.of B5 C1 u1 fun b hb k1 k2 k3=>?_
   have hbx:b/2≠x:=fun e=>by
    have:(S.sx x 5).st (b/2)=5:=by rw [e];exact yac _ _ _
    omega
   have e5:(S.sx x 5).st (b/2)=S.st (b/2):=yae _ _ hbx
   rw [e5] at k3⊢
   cases hkb:kOf l b with
   |false=>
    have hkc:kOf l (co b)=true:=(kl _).2 (by rcases (k1i _).1 k2 with h|h<;>simp [h])
    have e:=hq.q b hb hkb hkc (by omega)
    rw [hun _ hkc] at e
    rw [e] at k3⊢
    revert k3
    unfold tab
    cases sm0 S (b/2)<;>cases S.vis b<;>simp
   |true=>
    have hb2:b∈m2.map Prod.fst:=by
     obtain ⟨n1,n2⟩:=(k1f b).1 k1
     rcases (kl b).1 hkb with h|h|h|h
     ·exact absurd (by rw [h,hx]) hbx
     ·exact absurd h n1
     ·exact absurd h n2
     ·exact h
    have hb1:co b∈m1.map Prod.fst:=by
     rcases (k1i _).1 k2 with h|h
     ·exact h
     ·exact absurd (by rw [←yao b,h];exact hcx) hbx
    have:=hO (co b) (by rw [yao];exact real b hkb k3) (by
     rw [yax,lml]
     refine .cons _ ?_
     have:=(List.singleton_sublist.2 hb1).append (List.singleton_sublist.2 hb2)
     exact this.trans ((List.sublist_cons_self _ _).append_left _))
    rw [yao] at this;exact this
  have O1:Orc' (sm0 (S.sx x 5)) (S.sx x 5).st (m1++[(co b0,false)]):=fun a ha hsub=>by
   have hax:a/2≠x:=fun e=>by rw [e,s5x] at ha;cases ha
   rw [s5 _ hax] at ha
   have e5:(S.sx x 5).st (a/2)=S.st (a/2):=yae _ _ hax
   rw [e5]
   refine hO a ha (hsub.trans ?_)
   rw [lml,List.map_append]
   refine .cons _ ?_
   exact (List.Sublist.refl _).append ((List.nil_sublist _).cons_cons _)
  have C2': ∀sm,sm x=true->(∀y∈m2,y.2= !sm (y.1/2))->Crc D (kOf ((b0,false)::m2)) sm ((b0,false)::m2) b0:=fun sm hsx hty=>by
   refine Crc.make hD ⟨rfl,hc2⟩ (by simp) (fun y hy=>?_) ?_ (fun y hy=>?_)
   ·rcases List.mem_cons.1 hy with h|h
    ·rw [h];exact hb0
    ·exact C.lt y (by rw [hl,hm];simp [h])
   ·exact List.nodup_cons.2 ⟨nb.2,d5⟩
   ·rcases List.mem_cons.1 hy with h|h
    ·rw [h];show false= !sm (b0/2);rw [←hx,hsx];rfl
    ·exact hty y h
  have k2i: ∀a,kOf ((b0,false)::m2) a=true↔a=b0\/a∈m2.map Prod.fst:=fun a=>by rw [ybq];simp
  have k2f: ∀a,kOf ((b0,false)::m2) a=false↔a≠b0/\a∉m2.map Prod.fst:=fun a=>by
   rw [←Bool.not_eq_true,k2i];simp
  have k12: ∀a,kOf ((b0,false)::m2) a=true->kOf (m1++[(co b0,false)]) a=false:=fun a ha=>by
   rw [k1f]
   rcases (k2i a).1 ha with h|h
   ·rw [h];exact ⟨nb.1,Ne.symm (ycw b0)⟩
   ·exact ⟨fun h'=>d3 _ h' _ (.tail _ h) rfl,fun e=>d4 (e▸h)⟩
  have klo: ∀a,kOf l a=(kOf (m1++[(co b0,false)]) a||kOf ((b0,false)::m2) a):=fun a=>by
   rw [Bool.eq_iff_iff,kl,Bool.or_eq_true,k1i,k2i]
   constructor
   ·rintro (h|h|h|h)<;>simp [h]
   ·rintro ((h|h)|(h|h))<;>simp [h]
  have hT5: ∀T1,T1=TK (kOf (m1++[(co b0,false)])) (sm0 (S.sx x 5)) (S.sx x 5)->Bd D T1->(∀u v,run X D (b0::L) (T1.cr.sc u v)=run X D L ((TK (kOf l) (sm0 S) S).cr.cr.sc u v)):=fun T1 hT1 hBT u v=>by
   have tst: ∀a,T1.st (a/2)=if kOf (m1++[(co b0,false)]) a&&kOf (m1++[(co b0,false)]) (co a) then 4 else if kOf (m1++[(co b0,false)]) (co a) then (if S.vis a then 4 else if sm0 (S.sx x 5) (a/2) then 2 else 3) else if kOf (m1++[(co b0,false)]) a then (if S.vis (co a) then 4 else if sm0 (S.sx x 5) (a/2) then 2 else 3) else (S.sx x 5).st (a/2):=fun a=>by rw [hT1];exact yb3 _ _
   have tsm: ∀a,kOf ((b0,false)::m2) a=true->sm0 T1 (a/2)=sm0 (S.sx x 5) (a/2):=fun a ha=>by
    have h1:=k12 a ha
    have hva:S.vis a=false:=hun a (by rw [klo,ha,Bool.or_true])
    have:=tst a
    rw [h1,hva] at this
    cases hc:kOf (m1++[(co b0,false)]) (co a) with
    |false=>rw [hc] at this;unfold sm0;simp at this;rw [this]
    |true=>
     rw [hc] at this
     cases hs5:sm0 (S.sx x 5) (a/2) with
     |true=>rw [hs5] at this;exact yen.2 (.inr this)
     |false=>rw [hs5] at this;simp at this;exact yeo.2 (by omega)
   have hbk2:kOf ((b0,false)::m2) b0=true:=(k2i b0).2 (.inl rfl)
   have C2:=C2' (sm0 T1) (by have:=tsm b0 hbk2;rw [←hx] at this;rw [this];exact s5x) fun y hy=>by
    have hy':y.1∈m2.map Prod.fst:=List.mem_map.2 ⟨y,hy,rfl⟩
    rw [tsm _ ((k2i _).2 (.inr hy')),s5 _ (ax2 _ hy')]
    exact C.ty y (by rw [hl,hm];simp [hy])
   have u2: ∀a,kOf ((b0,false)::m2) a=true->T1.vis a=false:=fun a ha=>by
    rw [hT1]
    show (S.vis a||kOf (m1++[(co b0,false)]) a)=false
    rw [k12 a ha,hun a (by rw [klo,ha,Bool.or_true])];rfl
   have Q2:QK D (kOf ((b0,false)::m2)) (sm0 T1) (fun b=>co b % 2) T1.st ((b0,false)::m2) T1 D.n:=by
    refine QK.of hBT C2 u2 fun b hb k1 k2 k3=>?_
    have h1:=k12 _ k2
    have hkc:kOf l (co b)=true:=by rw [klo,k2,Bool.or_true]
    have:=tst b
    rw [h1,hun _ hkc] at this
    cases hb1:kOf (m1++[(co b0,false)]) b with
    |true=>
     rw [hb1] at this
     simp at this
     rw [this] at k3
     split at k3<;>omega
    |false=>
     rw [hb1] at this
     have e3:T1.st (b/2)=(S.sx x 5).st (b/2):=by simpa using this
     have hkb:kOf l b=false:=by rw [klo,hb1,k1];rfl
     have e4:(S.sx x 5).st (b/2)=S.st (b/2):=yae _ _ (nk b hkb)
     rw [e3,e4] at k3⊢
     have e:=hq.q b hb hkb hkc (by omega)
     rw [hun _ hkc] at e
     rw [e] at k3⊢
     revert k3
     unfold tab
     cases sm0 S (b/2)<;>cases S.vis b<;>simp
   have O2:Orc' (sm0 T1) T1.st ((b0,false)::m2):=fun a ha hsub=>by
    have ka:kOf ((b0,false)::m2) a=true:=ybq.2 (hsub.subset (by simp))
    have kc:kOf ((b0,false)::m2) (co a)=true:=ybq.2 (hsub.subset (by simp))
    rw [tsm a ka] at ha
    have hax:a/2≠x:=fun e=>by rw [e,s5x] at ha;cases ha
    rw [s5 _ hax] at ha
    have:=tst a
    rw [k12 a ka,k12 _ kc] at this
    have e3:T1.st (a/2)=(S.sx x 5).st (a/2):=by simpa using this
    rw [e3,show (S.sx x 5).st (a/2)=S.st (a/2) from yae _ _ hax]
    refine hO a ha (hsub.trans ?_)
    rw [lml]
    refine .cons_cons _ ?_
    exact (List.sublist_cons_self _ _).trans (List.sublist_append_right _ _)
   obtain ⟨k1,_⟩:=ydb (X:=X) hD (hBT.cr.sc u v) C2 (Q2.cr.sc u v) (O2.ord C2.ty) hr L
   rw [k1,ygg,yna]
   have:TK (kOf ((b0,false)::m2)) (sm0 T1) T1=TK (kOf l) (sm0 S) S:=by
    refine WS.ext' (fun b=>?_) (funext fun b=>?_) ?_ ?_ ?_
    ·rw [yb3,yb3]
     have tv: ∀b,T1.vis b=(S.vis b||kOf (m1++[(co b0,false)]) b):=fun b=>by rw [hT1];rfl
     rw [klo,klo,tv,tv]
     have hbx:kOf l b=false\/kOf l (co b)=false->b/2≠x:=fun h e=>by
      rcases h with h|h
      ·exact nk b h e
      ·exact nk (co b) h (by rw [yao];exact e)
     have ts:=tst b
     have n1:=k12 b
     have n2:=k12 (co b)
     have v1:kOf l b=true->S.vis b=false:=hun b
     have v2:kOf l (co b)=true->S.vis (co b)=false:=hun (co b)
     rw [klo b,klo (co b)] at hbx
     rw [klo b] at v1
     rw [klo (co b)] at v2
     have ts1:=tsm b
     have ts2:=tsm (co b)
     rw [yao] at ts2
     have s5b:=s5 (b/2)
     have s5s:b/2≠x->(S.sx x 5).st (b/2)=S.st (b/2):=fun h=>yae _ _ h
     cases a3:kOf ((b0,false)::m2) b with
     |true=>
      have a1:=n1 a3
      cases a4:kOf ((b0,false)::m2) (co b) with
      |true=>simp only [a1,n2 a4,Bool.or_true,Bool.and_self,if_true]
      |false=>
       cases a2:kOf (m1++[(co b0,false)]) (co b) with
       |true=>simp [a1]
       |false=>
        have hx':=hbx (.inr (by rw [a2,a4];rfl))
        rw [ts1 a3,s5b hx',a1]
        simp
     |false=>
      cases a4:kOf ((b0,false)::m2) (co b) with
      |true=>
       have a2:=n2 a4
       cases a1:kOf (m1++[(co b0,false)]) b with
       |true=>simp [a2]
       |false=>
        have hx':=hbx (.inl (by rw [a1,a3];rfl))
        rw [ts2 a4,s5b hx',a2]
        simp
      |false=>
       cases a1:kOf (m1++[(co b0,false)]) b with
       |true=>
        cases a2:kOf (m1++[(co b0,false)]) (co b) with
        |true=>
         rw [a1,a2] at ts
         simp at ts⊢;exact ts
        |false=>
         have hx':=hbx (.inr (by rw [a2,a4];rfl))
         rw [a1,a2,s5b hx'] at ts
         simp at ts⊢;exact ts
       |false=>
        have hx':=hbx (.inl (by rw [a1,a3];rfl))
        cases a2:kOf (m1++[(co b0,false)]) (co b) with
        |true=>
         rw [a1,a2,s5b hx'] at ts
         simp at ts⊢;exact ts
        |false=>
         rw [a1,a2,s5s hx'] at ts
         simp at ts⊢;exact ts
    ·rw [hT1]
     show ((S.vis b||_)||_)=(S.vis b||kOf l b)
     rw [klo,Bool.or_assoc]
    ·rw [hT1];rfl
    ·rw [hT1];rfl
    ·rw [hT1];rfl
   rw [this];rfl
  have f5: ∀u v,run X D (nof D b0 true::L) ((S.sx x 5).sc u v)=run X D L ((TK (kOf l) (sm0 S) S).cr.cr.sc u v):=fun u v=>by
   have B5':=B5.sc u v
   have hcov:Cov D (nof D b0 true::L) ((S.sx x 5).sc u v):=⟨(hL _ hn1l).lt,(hL _ hn1l).all⟩
   have hcov2:Cov D (nof D b0 true::b0::L) ((S.sx x 5).sc u v):=⟨fun a ha=>by
    rcases List.mem_cons.1 ha with h|h
    ·rw [h];exact hn1l
    ·exact (hL _ hb0).lt a h,fun a ha hv=>by
    have:=(hL (nof D b0 true) hn1l).all a ha hv
    rcases List.mem_cons.1 this with h|h
    ·rw [h];exact .head _
    ·exact .tail _ (.tail _ h)⟩
   rw [IH _ _ (nof D b0 true::b0::L) B5' (.inl ?_) hcov hcov2]
   ·obtain ⟨k1,k2⟩:=ydb (X:=X) hD (B5.sc u v) C1 (Q1.sc u v) (O1.ord C1.ty) hr (b0::L)
    rw [k1,ygg,WS.sc_cr]
    exact hT5 _ rfl k2 u v
   ·refine ykr (S':=(S.sx x 5).sc u v) (x:=x) (fun c hc=>?_) (by omega) (by show¬upd S.st x 5 x<=1;rw [yac];omega) D.n hxn
    have hc':upd S.st x 5 c<=1:=hc
    by_cases e:c=x
    ·rw [e];omega
    ·rwa [yae _ _ e] at hc'
  have hvx:S.vis (2*x)=false/\S.vis (2*x+1)=false:=unm hB hxn (by omega)
  have sk: ∀u v,run X D (nof D b0 true::L) ((S.sx x (pq D x)).sc (u-1) v)=run X D (nof D b0 true::L) ((S.sx x (nq D x)).sc (u+1) v)+run X D (nof D b0 true::L) ((S.sx x 5).sc u (v+1)):=fun u v=>by
   have:=yiv (X:=X) hxn (hD.sg x hxn) (nof D b0 true::L) (S.sc u v) hvx.1 hvx.2 ((hL _ hn1l).all _ (by omega) hvx.1)
   simp only [WS.sc_sx,WS.sc_sc,Int.add_zero] at this
   exact this
  have rX: ∀u v,run X D L ((TK (kOf l) (sm0 S) S).cr.sc (u-1) v)=run X D L ((TK (kOf l) (sm0 S) S).cr.sc (u+1) v)+run X D L ((TK (kOf l) (sm0 S) S).cr.cr.sc u (v+1)):=fun u v=>by
   have:=yp0 (D:=D) hX L ((TK (kOf l) (sm0 S) S).cr.sc u v) (by show 1<=S.k+1;omega)
   simp only [WS.sc_cr,WS.sc_sc,Int.add_zero] at this
   exact this
  have eS:S.sx x (b0 % 2)=S:=WS.ext' (fun a=>by
   show upd S.st x (b0 % 2) (a/2)=_
   by_cases e:a/2=x
   ·rw [e,yac,hst]
   ·rw [yae _ _ e]) rfl rfl rfl rfl
  have hpn:(b0 % 2=pq D x/\co b0 % 2=nq D x)\/(b0 % 2=nq D x/\co b0 % 2=pq D x):=by
   unfold pq nq
   split<;>omega
  rcases hpn with ⟨a1,a2⟩|⟨a1,a2⟩
  ·have h1:=sk 1 0
   have h2:=rX 1 0
   rw [←a1,←a2,f',f5,eS,show (1:Int)-1=0 by omega,WS.sc_zero] at h1
   rw [show (1:Int)-1=0 by omega,WS.sc_zero] at h2
   rw [h1,h2]
  ·have h1:=sk (-1) 0
   have h2:=rX (-1) 0
   rw [←a1,←a2,f',f5,eS,show (-1:Int)+1=0 by omega,WS.sc_zero] at h1
   rw [show (-1:Int)+1=0 by omega,WS.sc_zero] at h2
   omega
 ·--otherwise the walk goes the same way
  have O':Orc' (sm0 S) S.st (lt++[(b0,p0)]):=fun a ha hsub=>by
   rw [List.map_append] at hsub
   rcases yrg hsub with h|⟨h,h2⟩
   ·exact hO a ha (by rw [hl];exact h.cons b0)
   ·have h:co a=b0:=h
    have e:a=co b0:=by rw [←h,yax]
    refine absurd ⟨?_,?_⟩ hself
    ·rw [e,yao] at ha;exact ha
    ·rw [←e];exact ybq.2 (by rw [hl];exact .tail _ h2)
  exact (ydb (X:=X) hD hB C' (qk' S hB rfl rfl fun _ _ _ _=>rfl) (O'.ord C'.ty) hr L).1.symm
theorem E1 (hD:Ok D) (hX:Good X) {S:WS} (IH:IHr D X S) (hB:Bd D S) {b0:Nat} (hb:b0<2*D.n) (hv:S.vis b0=false) (L:List Nat) (hL: ∀c,c<2*D.n->Cov D (c::L) S):run X D (b0::L) S=run X D (nxB D (sm0 S) b0::L) S:=by
 obtain ⟨l,C,hun,_,_⟩:=circ hD hB hb hv
 refine yrf hD IH hB (hL _ hb) (hL _ ((yer hD (sm0 S)).lt _ hb)) (l:=l) (t:=0) (by omega) fun u v=>?_
 obtain ⟨p1,p2,p3⟩:=ync (t:=0) (by omega) hB C hun
 have es:sm0 ((put D S l 0).sc u v)=sm0 S:=yre (D:=D) (S:=S) (l:=l) (t:=0) (by omega)
 have er:(fun b=>if (0:Nat)=0 then co b % 2 else b % 2)=fun b=>co b % 2:=funext fun b=>if_pos rfl
 rw [er] at p2
 have:=E1a (X:=X) hD hX (S:=(put D S l 0).sc u v) (IH.put l 0 u v) (p1.sc u v) (l:=l) (by rw [es];exact C) hun (by rw [es];exact p2.sc u v) (by rw [es];exact p3) L fun c hc=>⟨(hL c hc).lt,(hL c hc).all⟩
 rw [es] at this
 exact this
theorem yl2: ∀(B:List Nat) (S:WS),(∀a∈B,S.vis a=true)\/ ∃b L,b∈B/\(∀a∈L,a∈B)/\S.vis b=false/\run X D B S=run X D (b::L) S/\(∀a∈B,S.vis a=false->a∈b::L)
 |[],S=> .inl fun _ h=>by cases h
 |a::B,S=>by
  cases hv:S.vis a with
  |false=>exact .inr ⟨a,B, .head _,fun c hc=> .tail _ hc,hv,rfl,fun c hc _=>hc⟩
  |true=>
   have e:run X D (a::B) S=run X D B S:=by
    show (if S.vis a=true then _ else _)=_
    rw [if_pos hv]
   rcases yl2 B S with h|⟨b,L,h1,h2,h3,h4,h5⟩
   ·left
    intro c hc
    rcases List.mem_cons.1 hc with rfl|hc
    ·exact hv
    ·exact h c hc
   ·refine .inr ⟨b,L, .tail _ h1,fun c hc=> .tail _ (h2 c hc),h3,by rw [e,h4],fun c hc hvc=>?_⟩
    rcases List.mem_cons.1 hc with rfl|hc
    ·rw [hv] at hvc;cases hvc
    ·exact h5 c hc hvc
theorem ord (hD:Ok D) {al:Nat->Nat} (hP:Pla D al) (hX:Good X) {S:WS} {B B':List Nat} (hB:Bd D S) (h1:Cov D B S) (h2:Cov D B' S):run X D B S=run X D B' S:=by
 have fle: ∀S:WS,fu D S<=2*D.n:=fun S=>by
  have: ∀k,unv S.vis k<=k:=fun k=>by
   induction k with
   |zero=>exact Nat.le_refl _
   |succ k ih=>simp only [unv];split<;>omega
  exact this _
 have key: ∀m (S:WS) (B B':List Nat),rl S D.n*(2*D.n+1)+fu D S<m->Bd D S->Cov D B S->Cov D B' S->run X D B S=run X D B' S:=fun m=>by
  induction m with
  |zero=>intro _ _ _ h;omega
  |succ m ih=>
   intro S B B' hm hB h1 h2
   have IH:IHr D X S:=fun S' B B' hB' hl c1 c2=>by
    refine ih S' B B' ?_ hB' c1 c2
    have:=fle S'
    rcases hl with h|⟨h,h'⟩
    ·have:(rl S' D.n+1)*(2*D.n+1)<=rl S D.n*(2*D.n+1):=Nat.mul_le_mul_right _ h
     rw [Nat.add_mul,Nat.one_mul] at this
     omega
    ·have:rl S' D.n*(2*D.n+1)<=rl S D.n*(2*D.n+1):=Nat.mul_le_mul_right _ h
     omega
   rcases yl2 (X:=X) (D:=D) B S with h|⟨b,L,b1,b2,b3,b4,b5⟩
   ·have h': ∀a∈B',S.vis a=true:=fun a ha=>by
     cases e:S.vis a with
     |true=>rfl
     |false=>rw [h a (h1.all a (h2.lt a ha) e)] at e;cases e
    rw [yks B S h,yks B' S h']
   ·rcases yl2 (X:=X) (D:=D) B' S with h|⟨b',L',c1,c2,c3,c4,c5⟩
    ·have:=h b (h2.all b (h1.lt b b1) b3)
     rw [this] at b3;cases b3
    ·have hb:=h1.lt b b1
     have hb':=h2.lt b' c1
     have k1:Cov D (b::L) S:=⟨fun a ha=>by
      rcases List.mem_cons.1 ha with rfl|ha
      ·exact hb
      ·exact h1.lt a (b2 a ha),fun a ha hv=>b5 a (h1.all a ha hv) hv⟩
     have k2:Cov D (b'::L') S:=⟨fun a ha=>by
      rcases List.mem_cons.1 ha with rfl|ha
      ·exact hb'
      ·exact h2.lt a (c2 a ha),fun a ha hv=>c5 a (h2.all a ha hv) hv⟩
     have kR: ∀c,c<2*D.n->Cov D (c::List.range (2*D.n)) S:=fun c hc=>⟨fun a ha=>by
      rcases List.mem_cons.1 ha with rfl|ha
      ·exact hc
      ·exact List.mem_range.1 ha,fun a ha _=>by simp [ha]⟩
     rw [b4,c4]
     obtain ⟨l,C,hun,hi1,hi2⟩:=circ hD hB hb' c3
     cases hk:kOf l b with
     |false=>exact EX hD hP IH hB hb b3 hb' c3 C hun hk k1 k2
     |true=>
      obtain ⟨i,hi⟩:=hi2 b hk
      have hp:=yer hD (sm0 S)
      have: ∀i,run X D (b'::List.range (2*D.n)) S=run X D (itn (nxB D (sm0 S)) i b'::List.range (2*D.n)) S:=fun i=>by
       induction i with
       |zero=>rfl
       |succ i ih'=>
        rw [ih',E1 hD hX IH hB (hp.itn_lt hb' i) (hun _ (hi1 i)) _ kR];rfl
      rw [E0 hD IH hB hb b3 k1 (kR b hb),E0 hD IH hB hb' c3 k2 (kR b' hb'),this i,←hi]
 exact key _ S B B' (Nat.lt_succ_self _) hB h1 h2
end
end Hs
end Go.Proofs.YtjpbeacamoijhaaDoor
