/- Plain: THE ORDER OF THE CIRCLES does not matter on the sphere (the proof). -/
import Derived.Test.YtjpnnnognoaaiaaDoorZl
namespace Go.Proofs.YtjpnnnognoaaiaaDoor
set_option linter.unusedSimpArgs false
set_option linter.unusedVariables false
namespace Hs
open Sp (Sph siD PermN itn)
section
variable {D:Sh} {X:Int->Int->Nat->Int}
theorem yrd {K sm:Nat->Bool} {S:WS} {b:Nat} {L:List Nat} (h:Cov D (b::L) S) (hk:K b=true):Cov D L (TK K sm S).cr:=⟨fun a ha=>h.lt a (.tail _ ha),fun a ha hv=>by
 have h1:(S.vis a||K a)=false:=hv
 cases e:S.vis a with
 |true=>rw [e] at h1;cases h1
 |false=>
  rcases List.mem_cons.1 (h.all a ha e) with rfl|h2
  ·rw [hk,Bool.or_true] at h1;cases h1
  ·exact h2⟩
theorem yvt {K sm:Nat->Bool} {S:WS} {b:Nat} (hb:b<2*D.n) (hk:K b=true) (hv:S.vis b=false):fu D (TK K sm S)<fu D S:=by
 have mono: ∀m,unv (TK K sm S).vis m<=unv S.vis m:=fun m=>by
  induction m with
  |zero=>exact Nat.le_refl _
  |succ m ih=>
   simp only [unv]
   have:(TK K sm S).vis m=(S.vis m||K m):=rfl
   rw [this]
   cases S.vis m<;>cases K m<;>simp<;>omega
 have key: ∀m,b<m->unv (TK K sm S).vis m<unv S.vis m:=fun m=>by
  induction m with
  |zero=>intro h;omega
  |succ m ih=>
   intro h
   simp only [unv]
   have e1:(TK K sm S).vis m=(S.vis m||K m):=rfl
   rw [e1]
   by_cases e:b=m
   ·subst e
    have:=mono b
    rw [hv,hk];simp;omega
   ·have:=ih (by omega)
    cases S.vis m<;>cases K m<;>simp<;>omega
 exact key _ hb
theorem ypp {K sm:Nat->Bool} {S:WS} {c:Nat} (h:(TK K sm S).st c<=1):S.st c<=1:=by
 have e:(if K (2*c)&&K (2*c+1) then 4 else if K (2*c) then (if S.vis (2*c+1) then 4 else if sm c then 2 else 3) else if K (2*c+1) then (if S.vis (2*c) then 4 else if sm c then 2 else 3) else S.st c)<=1:=h
 revert e
 split
 ·omega
 split
 ·split
  ·omega
  split<;>omega
 split
 ·split
  ·omega
  split<;>omega
 ·exact id
def IHr (D:Sh) (X:Int->Int->Nat->Int) (S:WS):Prop:= ∀S' B B',Bd D S'->(rl S' D.n<rl S D.n\/(rl S' D.n<=rl S D.n/\fu D S'<fu D S))->Cov D B S'->Cov D B' S'->run X D B S'=run X D B' S'
theorem IHr.tk (hD:Ok D) {S:WS} (IH:IHr D X S) {K sm:Nat->Bool} {b:Nat} {L L':List Nat} (hb:b<2*D.n) (hk:K b=true) (hv:S.vis b=false) (hB:Bd D (TK K sm S)) (h1:Cov D (b::L) S) (h2:Cov D (b::L') S):run X D L (TK K sm S).cr=run X D L' (TK K sm S).cr:=
 IH _ _ _ hB.cr (.inr ⟨ycv (S:=S) (S':=(Hs.TK K sm S).cr) (fun c h=>ypp (K:=K) (sm:=sm) h) D.n,yvt (sm:=sm) hb hk hv⟩) (yrd h1 hk) (yrd h2 hk)
noncomputable def put (D:Sh) (S:WS) (l:List (Nat×Bool)) (t:Nat):WS:=S.asN (gC S l t) D.n
theorem yj3 {S:WS} {l:List (Nat×Bool)} {t:Nat} (ht:t<=1):sm0 (put D S l t)=sm0 S:=funext fun c=>by
 have e:(put D S l t).st c=if c<D.n/\S.st c<=1 then gC S l t c else S.st c:=rfl
 have:=yku S l ht c
 cases h:sm0 S c with
 |true=>
  refine ydg.2 ?_
  rw [e,if_neg (by have:=ydg.1 h;omega)]
  exact ydg.1 h
 |false=>
  refine yc5.2 ?_
  have:=yc5.1 h
  rw [e]
  split<;>omega
theorem yh2 {S:WS} {l:List (Nat×Bool)} {b t:Nat} (ht:t<=1) (hB:Bd D S) (C:Crc D (kOf l) (sm0 S) l b) (hun: ∀a,kOf l a=true->S.vis a=false):
  Bd D (put D S l t)/\QK D (kOf l) (sm0 S) (fun b=>if t=0 then co b % 2 else b % 2) (put D S l t).st l (put D S l t) D.n/\Orc' (sm0 S) (put D S l t).st l:=by
 have hB':Bd D (put D S l t):=yrc hB (yku S l ht) _
 have e: ∀c,(put D S l t).st c=if c<D.n/\S.st c<=1 then gC S l t c else S.st c:=fun _=>rfl
 refine ⟨hB',?_,?_⟩
 ·have C':Crc D (kOf l) (sm0 (put D S l t)) l b:=by rw [yj3 ht];exact C
  have:=QK.of (r:=fun b=>if t=0 then co b % 2 else b % 2) hB' C' hun fun c hc h1 h2 h3=>by
   rw [e] at h3⊢
   by_cases h4:c/2<D.n/\S.st (c/2)<=1
   ·rw [if_pos h4];exact gC_A ht h1 h2
   ·rw [if_neg h4] at h3;omega
  rwa [yj3 ht] at this
 ·intro a hs h
  have ha:kOf l a=true:=ybq.2 (h.subset (by simp))
  have hc:kOf l (co a)=true:=ybq.2 (h.subset (by simp))
  have hal:=C.lt' ha
  have f:=hB a hal
  unfold Fit FitP at f
  rw [hun a ha,hun _ hc] at f
  have n:=yc5.1 hs
  have h1:S.st (a/2)<=1:=by
   rcases f with ⟨h,_⟩|⟨_,h,_⟩|⟨_,_,h⟩|⟨_,_,h⟩
   ·omega
   ·cases h
   ·cases h
   ·cases h
  rw [e,if_pos ⟨by omega,h1⟩]
  exact gC_K C.nd h
theorem yre {S:WS} {l:List (Nat×Bool)} {t:Nat} (S':WS):rl (put D S l t) D.n<=rl S D.n:=ycv (fun c hc=>by
 have e:(put D S l t).st c=if c<D.n/\S.st c<=1 then gC S l t c else S.st c:=rfl
 rw [e] at hc
 by_cases h:c<D.n/\S.st c<=1
 ·exact h.2
 ·rwa [if_neg h] at hc) _
theorem IHr.put {S:WS} (IH:IHr D X S) (l:List (Nat×Bool)) (t:Nat) (u v:Int):IHr D X ((put D S l t).sc u v):=fun S' B B' hB' h h1 h2=>by
 have e1:rl ((Hs.put D S l t).sc u v) D.n=rl (Hs.put D S l t) D.n:=by
  refine Nat.le_antisymm (ycv (S:=Hs.put D S l t) (S':=(Hs.put D S l t).sc u v) (fun c h=>h) _) (ycv (S':=Hs.put D S l t) (S:=(Hs.put D S l t).sc u v) (fun c h=>h) _)
 have e2:=yre (D:=D) (S:=S) (l:=l) (t:=t) S
 have e3:fu D ((Hs.put D S l t).sc u v)=fu D S:=rfl
 rw [e1,e3] at h
 exact IH S' B B' hB' (by omega) h1 h2
theorem yrf (hD:Ok D) {S:WS} (IH:IHr D X S) {B B':List Nat} (hB:Bd D S) (h1:Cov D B S) (h2:Cov D B' S) {l:List (Nat×Bool)} {t:Nat} (ht:t<=1) (h: ∀u v,run X D B ((put D S l t).sc u v)=run X D B' ((put D S l t).sc u v)):run X D B S=run X D B' S:=
 y86 hD hB h1 h2 (fun S' hB' hv hr=>IH S' B B' hB' (.inl hr) ⟨h1.lt,by rw [hv];exact h1.all⟩ ⟨h2.lt,by rw [hv];exact h2.all⟩) (yku S l ht) h
theorem ycw (hD:Ok D) {S:WS} {K sm:Nat->Bool} {st0:Nat->Nat} {l:List (Nat×Bool)} {b:Nat} {r:Nat->Nat} (hB:Bd D S) (C:Crc D K sm l b) (h:QK D K sm r st0 l S D.n) (hO:Orc K st0 l) (hr: ∀a,r (co a)=a % 2) (L:List Nat):run X D (b::L) S=run X D L (TK K sm S).cr/\Bd D (TK K sm S):=by
 have hv0:S.vis b=false:=(h.vis b C.hd).2 ((C.mem b).1 C.hd)
 obtain ⟨t1,t2⟩:=top hD C hO hr hB.cr h.cr (run X D L)
 refine ⟨?_,t2⟩
 show (if S.vis b=true then _ else wk1 D S.cr b (run X D L))=_
 rw [if_neg (by simp [hv0]),t1,ync]
theorem E0 (hD:Ok D) {S:WS} (IH:IHr D X S) (hB:Bd D S) {b:Nat} (hb:b<2*D.n) (hv:S.vis b=false) {L L':List Nat} (h1:Cov D (b::L) S) (h2:Cov D (b::L') S):run X D (b::L) S=run X D (b::L') S:=by
 obtain ⟨l,C,hun,_,_⟩:=circ hD hB hb hv
 refine yrf hD IH hB h1 h2 (l:=l) (t:=0) (by omega) fun u v=>?_
 obtain ⟨p1,p2,p3⟩:=yh2 (t:=0) (by omega) hB C hun
 obtain ⟨t1,t2⟩:=ycw (X:=X) hD (p1.sc u v) C (p2.sc u v) (p3.ord C.ty) (fun a=>by rw [if_pos rfl,yap]) L
 obtain ⟨t3,_⟩:=ycw (X:=X) hD (p1.sc u v) C (p2.sc u v) (p3.ord C.ty) (fun a=>by rw [if_pos rfl,yap]) L'
 rw [t1,t3]
 exact (IH.put l 0 u v).tk hD hb C.hd hv t2 ⟨h1.lt,h1.all⟩ ⟨h2.lt,h2.all⟩
theorem EX (hD:Ok D) {al:Nat->Nat} (hP:Pla D al) {S:WS} (IH:IHr D X S) (hB:Bd D S) {b b':Nat} (hb:b<2*D.n) (hv:S.vis b=false) (hb':b'<2*D.n) (hv':S.vis b'=false) {l:List (Nat×Bool)} (C:Crc D (kOf l) (sm0 S) l b') (hun: ∀a,kOf l a=true->S.vis a=false) (hn:kOf l b=false) {L L':List Nat} (h1:Cov D (b::L) S) (h2:Cov D (b'::L') S):run X D (b::L) S=run X D (b'::L') S:=by
 obtain ⟨lA,hlA⟩: ∃lA,lA=b::(List.range (2*D.n)).filter fun a=> !kOf l a:=⟨_,rfl⟩
 have hA: ∀a∈lA,a<2*D.n/\kOf l a=false:=fun a ha=>by
  rw [hlA] at ha
  rcases List.mem_cons.1 ha with rfl|ha
  ·exact ⟨hb,hn⟩
  ·rw [List.mem_filter] at ha
   exact ⟨List.mem_range.1 ha.1,by simpa using ha.2⟩
 have cA:Cov D (lA++b'::List.range (2*D.n)) S:=⟨fun a ha=>by
  rcases List.mem_append.1 ha with h|h
  ·exact (hA a h).1
  rcases List.mem_cons.1 h with rfl|h
  ·exact hb'
  ·exact List.mem_range.1 h,fun a ha _=>by simp [ha]⟩
 have e1:run X D (b::L) S=run X D (lA++b'::List.range (2*D.n)) S:=by
  rw [hlA]
  exact E0 hD IH hB hb hv h1 (by rw [hlA] at cA;exact cA)
 rw [e1]
 refine yrf hD IH hB cA h2 (l:=l) (t:=1) (by omega) fun u v=>?_
 obtain ⟨p1,p2,p3⟩:=yh2 (t:=1) (by omega) hB C hun
 have hr: ∀a,(fun b=>if (1:Nat)=0 then co b % 2 else b % 2) a=a % 2:=fun a=>if_neg (by omega)
 rw [back hD hP C (p3.ord C.ty) hr X _ lA hA (p1.sc u v) (p2.sc u v),yvs hD hP C (p3.ord C.ty) hr (p1.sc u v) (p2.sc u v)]
 have hbd:=yvr hD C (p3.ord C.ty) (fun a=>by show (if (1:Nat)=0 then co a % 2 else a % 2)<=1;split<;>omega) (p1.sc u v) (p2.sc u v)
 exact (IH.put l 1 u v).tk hD hb' C.hd hv' hbd ⟨fun a ha=>by
  rcases List.mem_cons.1 ha with rfl|h
  ·exact hb'
  rcases List.mem_append.1 h with h|h
  ·exact (hA a h).1
  ·exact List.mem_range.1 h,fun a ha _=>by simp [ha]⟩ ⟨h2.lt,h2.all⟩
end
end Hs
end Go.Proofs.YtjpnnnognoaaiaaDoor
