/- The reference of layer 6: smoothing. -/
import Derived.Test.YtbblgobamoabkaaGreatDoorZw
import Derived.Test.YtbblgobamoabkaaGreatDoorZm
import Derived.Test.YtbblgobamoabkaaGreatDoorZb
set_option linter.unusedSimpArgs false
set_option linter.unusedVariables false
namespace Go.Proofs.YtbblgobamoabkaaGreatDoor
open Go Go.RowKit
set_option maxRecDepth 100000
set_option maxHeartbeats 8000000
def ygd:List (List Nat):=[[154,155,156,157,158,159],[154,155,156,157,158,159],[152,153,156],[152,153,156],[152,153,154,155],[152,153],[152,153],[152,153],[],[],[]]
theorem y1z (c:Nat):jnB false (4*c)=4*c+1/\jnB false (4*c+1)=4*c/\jnB false (4*c+2)=4*c+3/\jnB false (4*c+3)=4*c+2:=by
 unfold jnB;simp only [yen,yc7];refine ⟨?_,?_,?_,?_⟩<;>(split<;>rename_i h<;>simp at h<;>omega)
theorem y10 (c:Nat):jnB true (4*c)=4*c+3/\jnB true (4*c+1)=4*c+2/\jnB true (4*c+2)=4*c+1/\jnB true (4*c+3)=4*c:=by
 unfold jnB;simp only [yen,yc7];refine ⟨?_,?_,?_,?_⟩<;>(split<;>rename_i h<;>simp at h<;>omega)
def snL (c:Nat) (u:Int->Bool):List Bool:=[u (4*c),u (4*c+1),u (4*c+2),u (4*c+3)]
def thL (c:Nat) (b:Bool):List Int:=[jnB b (4*c),jnB b (4*c+1),jnB b (4*c+2),jnB b (4*c+3)]
theorem yva {c:Nat} {x:Int} (h:x/4=c):x=4*c\/x=4*c+1\/x=4*c+2\/x=4*c+3:=by omega
theorem mod4 (c:Nat):((4*(c:Int))% 4).toNat=0/\((4*(c:Int)+1)% 4).toNat=1/\((4*(c:Int)+2)% 4).toNat=2/\((4*(c:Int)+3)% 4).toNat=3:=by omega
theorem ytq {c:Nat} {b:Bool} {x:Int} (h:x/4=c):(thL c b).getD (x % 4).toNat 0=jnB b x:=by
 have m:=mod4 c
 rcases yva h with rfl|rfl|rfl|rfl
 ·rw [m.1];rfl
 ·rw [m.2.1];rfl
 ·rw [m.2.2.1];rfl
 ·rw [m.2.2.2];rfl
theorem ytr {c:Nat} {u:Int->Bool} {x:Int} (h:x/4=c):(snL c u).getD (x % 4).toNat false=u x:=by
 have m:=mod4 c
 rcases yva h with rfl|rfl|rfl|rfl
 ·rw [m.1];rfl
 ·rw [m.2.1];rfl
 ·rw [m.2.2.1];rfl
 ·rw [m.2.2.2];rfl
theorem yts {c:Nat} {u:Int->Bool} {x:Int} (h:x/4=c):(snL c u).set (x % 4).toNat true=snL c (fun z=>u z||z==x):=by
 have m:=mod4 c
 have d: ∀i j:Int,(4*(c:Int)+i==4*(c:Int)+j)=(i==j):=fun i j=>by
  rw [Bool.eq_iff_iff,beq_iff_eq,beq_iff_eq];omega
 have d0: ∀j:Int,(4*(c:Int)==4*(c:Int)+j)=(0==j):=fun j=>by have:=d 0 j;simpa using this
 have d1: ∀j:Int,(4*(c:Int)+j==4*(c:Int))=(j==0):=fun j=>by have:=d j 0;simpa using this
 rcases yva h with rfl|rfl|rfl|rfl
 ·rw [m.1];simp [snL,d,d0,d1]
 ·rw [m.2.1];simp [snL,d,d0,d1]
 ·rw [m.2.2.1];simp [snL,d,d0,d1]
 ·rw [m.2.2.2];simp [snL,d,d0,d1]
theorem ytt {c:Nat} {b:Bool} {u:Int->Bool} {x:Int} (h:x/4=c):((snL c u).set (x % 4).toNat true).set (jnB b x % 4).toNat true=snL c (usd u x (jnB b x)):=by
 rw [yts h,yts (by rw [ycm];exact h)]
 rfl
theorem yno (c:Nat) (u:Int->Bool):(snL c u).length=4:=rfl
theorem y4e (c:Nat) (b:Bool):(thL c b).length=4:=rfl
def endT (m:List Int) (b:Bool) (c:Nat) (h:Nat):Int:=if h/4=c then 0 else thrX m b c 5 (m.getD h 0)
theorem ykb {m:List Int} {b:Bool} {c:Nat}: ∀k h,k<=m.length->(smE m b c k).getD h 0=if h<k/\h/4≠c then thrX m b c 5 (m.getD h 0) else m.getD h 0
 |0,h,_=>by simp [smE]
 |k+1,h,hk=>by
  have ih:=ykb (m:=m) (b:=b) (c:=c) k h (by omega)
  have hl:=yj7 (m:=m) (b:=b) (c:=c) k
  simp only [smE]
  split
  ·rename_i e
   rw [ih]
   by_cases e1:h=k
   ·subst e1;simp [e]
   ·have:(h<k+1/\h/4≠c)↔(h<k/\h/4≠c):=by omega
    simp only [this]
  ·rename_i e
   by_cases e1:k=h
   ·subst e1
    rw [yat (by omega),if_pos ⟨by omega,e⟩]
   ·rw [yao e1,ih]
    have:(h<k+1/\h/4≠c)↔(h<k/\h/4≠c):=by omega
    simp only [this]
theorem ymx {m m':List Int} {c k:Nat} (h: ∀x,x<4->m.getD (4*k+x) 0=m'.getD (4*k+x) 0) (l:List Int): ∀x,x<=4->woM4 m c k l x=woM4 m' c k l x
 |0,_=>rfl
 |x+1,hx=>by
  simp only [woM4]
  rw [ymx h l x (by omega)]
  unfold cutM
  rw [h x (by omega)]
theorem yoi {m m':List Int} {c n:Nat} (h: ∀x,x<4*n->x/4≠c->m.getD x 0=m'.getD x 0): ∀k,k<=n->woM m c k=woM m' c k
 |0,_=>rfl
 |k+1,hk=>by
  simp only [woM]
  rw [yoi h k (by omega)]
  split
  ·rfl
  ·exact ymx (fun x hx=>h _ (by omega) (by omega)) _ 4 (by omega)
theorem y1k {m:List Int} {b:Bool} {c n:Nat} (hm:m.length=4*n):woM (toL (endT m b c) m.length) c n=woM (smE m b c (4*n)) c n:=by
 refine yoi (n:=n) (fun x hx hc=>?_) n (Nat.le_refl _)
 rw [ygc _ _ _ (by omega),ykb _ _ (by omega),if_pos ⟨hx,hc⟩]
 unfold endT;rw [if_neg hc]
def lpS (m:List Int) (b:Bool) (c:Nat) (u0:Int->Bool):Nat->(Int->Bool)×Int
 |0=>(u0,0)
 |k+1=>if (lpS m b c u0 k).1 (4*c+k) then lpS m b c u0 k else (lpU m b 5 (4*c+k) (lpS m b c u0 k).1,(lpS m b c u0 k).2+1)
theorem yjs {m:List Int} {b:Bool} (f:Nat): ∀(x:Int) (u:Int->Bool) (y:Int),u y=true->lpU m b f x u y=true:=by
 induction f with
 |zero=>intro x u y h;exact h
 |succ f ih=>
  intro x u y h
  unfold lpU
  split
  ·exact h
  ·exact ih _ _ _ (by simp [usd,h])
theorem y1l {m:List Int} {b:Bool} (f:Nat) (x:Int) (u:Int->Bool):lpU m b (f+1) x u x=true:=by
 unfold lpU
 split
 ·assumption
 ·exact yjs f _ _ _ (by simp [usd])
theorem yq6 {m:List Int} {b:Bool} {c:Nat} {u0:Int->Bool}: ∀(k:Nat) (y:Int),u0 y=true->(lpS m b c u0 k).1 y=true
 |0,_,h=>h
 |k+1,y,h=>by
  have:=yq6 (m:=m) (b:=b) (c:=c) k y h
  simp only [lpS]
  split
  ·exact this
  ·exact yjs 5 _ _ _ this
theorem yyy {m:List Int} {b:Bool} {c:Nat} {u0:Int->Bool}: ∀k:Nat,0<=(lpS m b c u0 k).2/\(lpS m b c u0 k).2<=k
 |0=>by simp [lpS]
 |k+1=>by
  have:=yyy (m:=m) (b:=b) (c:=c) (u0:=u0) k
  simp only [lpS]
  split
  ·omega
  ·simp only;omega
section
variable {m:List Int} {b:Bool} {c:Nat} {u0:Int->Bool}
theorem yo4 {k:Nat} {x:Int} (hx:x=4*c+k) (h:(lpS m b c u0 k).1 x=true):lpS m b c u0 (k+1)=lpS m b c u0 k:=by
 subst hx;simp only [lpS,h,if_true]
theorem yvb {k:Nat} {x:Int} (hx:x=4*c+k) (h:(lpS m b c u0 k).1 x=false):lpS m b c u0 (k+1)=(lpU m b 5 x (lpS m b c u0 k).1,(lpS m b c u0 k).2+1):=by
 subst hx;simp only [lpS,h,Bool.false_eq_true,if_false]
theorem yq7 (h:ydt b u0): ∀k,ydt b (lpS m b c u0 k).1
 |0=>h
 |k+1=>by
  simp only [lpS]
  split
  ·exact yq7 h k
  ·exact yus 5 _ _ (yq7 h k)
theorem yix {k:Nat} {x:Int} (hx:x=4*c+k):(lpS m b c u0 (k+1)).1 x=true/\(∀y,(lpS m b c u0 k).1 y=true->(lpS m b c u0 (k+1)).1 y=true)/\(lpS m b c u0 (k+1)).2=(lpS m b c u0 k).2+(if (lpS m b c u0 k).1 x then 0 else 1):=by
 cases h:(lpS m b c u0 k).1 x with
 |true=>rw [yo4 hx h];simp [h]
 |false=>
  rw [yvb hx h]
  exact ⟨y1l 4 _ _,fun y hy=>yjs 5 _ _ _ hy,by simp⟩
theorem y5q {n:Nat}:(lpS m b c (smU m b c (4*n)) 4).2=smL m b c n:=by
 have hcl:=yq7 (m:=m) (c:=c) (yur (m:=m) (b:=b) (c:=c) (4*n))
 have h1:=yix (m:=m) (b:=b) (c:=c) (u0:=smU m b c (4*n)) (k:=0) (x:=4*c) (by omega)
 have h2:=yix (m:=m) (b:=b) (c:=c) (u0:=smU m b c (4*n)) (k:=1) (x:=4*c+1) (by omega)
 have h3:=yix (m:=m) (b:=b) (c:=c) (u0:=smU m b c (4*n)) (k:=2) (x:=4*c+2) (by omega)
 have h4:=yix (m:=m) (b:=b) (c:=c) (u0:=smU m b c (4*n)) (k:=3) (x:=4*c+3) (by omega)
 have e0:lpS m b c (smU m b c (4*n)) 0=(smU m b c (4*n),0):=rfl
 have e1:(lpS m b c (smU m b c (4*n)) 1).1=if smU m b c (4*n) (4*c) then smU m b c (4*n) else lpU m b 5 (4*c) (smU m b c (4*n)):=by
  cases h:smU m b c (4*n) (4*c) with
  |true=>rw [yo4 (k:=0) (x:=4*c) (by omega) h];simp [e0]
  |false=>rw [yvb (k:=0) (x:=4*c) (by omega) h];simp [e0]
 have k2:(lpS m b c (smU m b c (4*n)) 1).1 (4*c+1)=true->lpS m b c (smU m b c (4*n)) 2=lpS m b c (smU m b c (4*n)) 1:=yo4 (by omega)
 have c1:=hcl 1
 have c2:=hcl 2
 have c3:=hcl 3
 unfold smL
 simp only
 rw [←e1]
 rw [e0] at h1
 simp only at h1
 rw [h4.2.2,h3.2.2,h2.2.2,h1.2.2]
 generalize lpS m b c (smU m b c (4*n)) 1=s1 at*
 generalize lpS m b c (smU m b c (4*n)) 2=s2 at*
 generalize lpS m b c (smU m b c (4*n)) 3=s3 at*
 cases b with
 |false=>
  have j:=y1z c
  have a1:s1.1 (4*c+1)=true:=by rw [c1,j.2.1];exact h1.1
  have a3:s3.1 (4*c+3)=true:=by rw [c3,j.2.2.2];exact h3.1
  have a2:s2.1 (4*c+2)=s1.1 (4*c+3):=by rw [k2 a1,c1,j.2.2.1]
  rw [a1,a3,a2]
  simp
 |true=>
  have j:=y10 c
  have a2:s2.1 (4*c+2)=true:=by rw [c2,j.2.2.1];exact h2.1
  have a3:s3.1 (4*c+3)=true:=by rw [c3,j.2.2.2];exact h3.2.1 _ (h2.2.1 _ h1.1)
  rw [a2,a3]
  simp
end
theorem yvc (s m:List Int) (L:Int) (c:Nat) (hc:c<s.length) (hL:L<=64) (hv:yap s m L=true) (b:Bool) (hb:(s.getD c 0== -1)=b):
  Fn Tryz.prog 47 [dgA s m L,I c] (dgA (woS s c s.length) (woM (smE m b c (4*s.length)) c s.length) (L+smL m b c s.length)):=by
 have v1:=ya1 hv
 have h64:=v1.s64
 have hl:=v1.len
 have hl0:=v1.l0
 have hsg:=v1.sg c hc
 have hp:=v1.prd
 rw [←y1k (m:=m) (b:=b) (c:=c) (n:=s.length) hl]
 have hth:(b=true/\s.getD c 0= -1/\thL c b=[4*(c:Int)+3,4*(c:Int)+2,4*(c:Int)+1,4*(c:Int)])\/(b=false/\s.getD c 0=1/\thL c b=[4*(c:Int)+1,4*(c:Int),4*(c:Int)+3,4*(c:Int)+2]):=by
  cases b with
  |true=>have j:=y10 c;exact .inl ⟨rfl,by simpa using hb,by unfold thL;rw [j.1,j.2.1,j.2.2.1,j.2.2.2]⟩
  |false=>
   have j:=y1z c
   have:s.getD c 0≠ -1:=by simpa using hb
   exact .inr ⟨rfl,by omega,by unfold thL;rw [j.1,j.2.1,j.2.2.1,j.2.2.2]⟩
 have q1:(4*(c:Int)+1).tmod 4=1:=by rw [yde (by omega)];omega
 have q3:(4*(c:Int)+3).tmod 4=3:=by rw [yde (by omega)];omega
 refine Fn.introL [.cell 4 24] Tryz.func47 rfl rfl (by decide) (by simp [Tryz.ntmps47]) ?_;rw [Tryz.ntmps47]
 rcases hth with ⟨hb1,hs1,ht1⟩|⟨hb1,hs1,ht1⟩
 all_goals repeat' (first|omega|(first|apply yaa|(refine yac.intro (id:=39) ygd [[],[],[0,1],[0,1],[0,1,2,3],[0,1],[0,1],[0,1],[],[],[]] (by decide+kernel) mixed ?_)|skip);simp only [go_sem,sevalprocAttr,hs1,q1,q3,↓reduceIte,reduceCtorEq,ygd]|apply yab<;>(intro h_;(try simp only [h_]);revert h_)|apply And.intro|with_reducible intro h_|trivial|simp only [go_sem,la2];omega)
 all_goals (
  refine yaj.intro (fun n fr H=> ∃h:Nat,h<=m.length/\n=m.length-h/\fr=[(11,I h),(10, .sl 1 4 0 4),(9, .sl 1 3 0 m.length),(8,I m.length),(7, .sl 1 2 0 4),(4, .ptr 1 0),(2, .ptr 0 0),(1,I c)]/\H=[(4, .cells 4 (.bools (snL c (smU m b c h)))),(3, .cells 3 (.ints (toL (endT m b c) h++List.replicate (m.length-h) 0))),(2, .cells 3 (.ints (thL c b))),(1, .cells 24 (.lst [.nils, .nils,I 0])),(0, .cells 24 (.lst [roI s,roI m,I L]))]) ?_ ?_
  ·refine ⟨_,_,_,?_,0,by omega,rfl,rfl,rfl⟩
   refine Wk.sub ?_ ?_<;>simp only [go_sem,sevalprocAttr]
   all_goals simp [snL,smU,toL,ht1,List.replicate]
  clear ht1 q1 q3 hs1
  rintro n fr H ⟨h,hh,rfl,rfl,rfl⟩
  have htl:=ydy (endT m b c) h
  have thl:=y4e c b
  have bh0:decide ((h:Int)<m.length)=true\/decide ((h:Int)<m.length)=false:=by cases decide ((h:Int)<m.length)<;>simp
  by_cases hhl:h<m.length
  ·have bh:decide ((h:Int)<m.length)=true:=by simp;omega
   have e1:(h:Int).tdiv 4=((h/4:Nat):Int):=by rw [ybe (by omega)];omega
   have hmr:=hp.ok.2 h (by omega)
   by_cases hhc:h/4=c
   ·have bc:(((h/4:Nat):Int)==(c:Int))=true:=by rw [hhc];simp
    have ek:=yq4 (endT m b c) m.length h hhl (by unfold endT;rw [if_pos hhc])
    have eu:smU m b c (h+1)=smU m b c h:=by simp only [smU,hhc,if_true]
    repeat' (first|omega|(try apply yaa);simp only [go_sem,sevalprocAttr,bh,e1,bc]|apply yab<;>(intro h_;(try simp only [h_]);revert h_)|apply And.intro|with_reducible intro h_|trivial|simp only [go_sem,la2];omega)
    refine ⟨_,_,_,?_,?_,⟨h+1,by omega,rfl,rfl,rfl⟩⟩
    ·omega
    ·rw [ek,eu]
     refine Wk.sub ?_ ?_<;>simp only [go_sem,sevalprocAttr]
   ·have bc:(((h/4:Nat):Int)==(c:Int))=false:=by simp;omega
    have ho:=yij (b:=b) hp hc (show h<4*s.length by omega) hhc
    have eu:smU m b c (h+1)=thrU m b c 5 (m.getD h 0) (smU m b c h):=by simp only [smU,hhc,if_false]
    have eT:endT m b c h=thrX m b c 5 (m.getD h 0):=by unfold endT;rw [if_neg hhc]
    have eS:=ykh (endT m b c) m.length h hhl
    repeat' (first|omega|(try apply yaa);simp only [go_sem,sevalprocAttr,bh,e1,bc]|apply yab<;>(intro h_;(try simp only [h_]);revert h_)|apply And.intro|with_reducible intro h_|trivial|simp only [go_sem,la2];omega)
    refine yaj.intro (fun f fr H=> ∃(x:Int) (u:Int->Bool),0<=x/\x<4*s.length/\thrX m b c f x=thrX m b c 5 (m.getD h 0)/\thrU m b c f x u=thrU m b c 5 (m.getD h 0) (smU m b c h)/\fr=[(12,I x),(11,I h),(10, .sl 1 4 0 4),(9, .sl 1 3 0 m.length),(8,I m.length),(7, .sl 1 2 0 4),(4, .ptr 1 0),(2, .ptr 0 0),(1,I c)]/\H=[(4, .cells 4 (.bools (snL c u))),(3, .cells 3 (.ints (toL (endT m b c) h++List.replicate (m.length-h) 0))),(2, .cells 3 (.ints (thL c b))),(1, .cells 24 (.lst [.nils, .nils,I 0])),(0, .cells 24 (.lst [roI s,roI m,I L]))]) ?_ ?_
    ·refine ⟨5,_,_,?_,m.getD h 0,smU m b c h,hmr.1,hmr.2,rfl,rfl,rfl,rfl⟩
     refine Wk.sub ?_ ?_<;>simp only [go_sem,sevalprocAttr]
    rintro f fr H ⟨x,u,hx0,hx1,hX,hU,rfl,rfl⟩
    have snl:=yno c u
    have e2:x.tdiv 4=x/4:=ybe hx0
    by_cases hxc:x/4=c
    ·obtain ⟨f',rfl⟩: ∃f',f=f'+1:=by
      cases f with
      |zero=>rw [←hX] at ho;exact absurd hxc ho
      |succ f'=>exact ⟨f',rfl⟩
     have bx:(x/4==(c:Int))=true:=by rw [hxc];simp
     have e3:x.tmod 4=x % 4:=yde hx0
     have hj0:=yw6 b hx0
     have e4:(jnB b x).tmod 4=jnB b x % 4:=yde hj0
     have et:=ytq (b:=b) hxc
     have ew:=ytt (b:=b) (u:=u) hxc
     have hjd:=ycm b x
     have hmj:=hp.ok.2 (jnB b x).toNat (by omega)
     rw [ym4 hxc] at hX
     rw [yso hxc] at hU
     repeat' (first|omega|(try apply yaa);simp only [go_sem,sevalprocAttr,e2,bx,e3,et,e4,snl,thl]|apply yab<;>(intro h_;(try simp only [h_]);revert h_)|apply And.intro|with_reducible intro h_|trivial|simp only [go_sem,la2];omega)
     refine ⟨f',_,_,?_,?_,⟨m.getD (jnB b x).toNat 0,usd u x (jnB b x),hmj.1,hmj.2,hX,hU,rfl,rfl⟩⟩
     ·omega
     ·rw [ew]
      refine Wk.sub ?_ ?_<;>simp only [go_sem,sevalprocAttr]
    ·have bx:(x/4==(c:Int))=false:=by simpa using hxc
     rw [yj6 hxc] at hX
     rw [ysp hxc] at hU
     rw [←hX] at eT
     rw [eT] at eS
     rw [←hU] at eu
     repeat' (first|omega|(try apply yaa);simp only [go_sem,sevalprocAttr,e2,bx,htl]|apply yab<;>(intro h_;(try simp only [h_]);revert h_)|apply And.intro|with_reducible intro h_|trivial|simp only [go_sem,la2];omega)
     refine ⟨_,_,_,?_,?_,⟨h+1,by omega,rfl,rfl,rfl⟩⟩
     ·omega
     ·rw [eS,eu]
      refine Wk.sub ?_ ?_<;>simp only [go_sem,sevalprocAttr]
  ·obtain rfl:h=m.length:=by omega
   have bh:decide ((m.length:Int)<m.length)=false:=by simp
   rw [Nat.sub_self,List.replicate_zero,List.append_nil]
   repeat' (first|omega|(try apply yaa);simp only [go_sem,sevalprocAttr,bh]|apply yab<;>(intro h_;(try simp only [h_]);revert h_)|apply And.intro|with_reducible intro h_|trivial|simp only [go_sem,la2];omega)
   have hin: ∀x:Int,x/4=c->smU m b c m.length x=false->nxC m b x/4=(c:Int):=fun x hx hu=>yw7 hp hc hx (by rw [←hl];exact hu)
   have hle:=y5q (m:=m) (b:=b) (c:=c) (n:=s.length)
   rw [←hl] at hle
   have hend: ∀x,x<m.length->x/4≠c->0<=(toL (endT m b c) m.length).getD x 0/\(toL (endT m b c) m.length).getD x 0<4*s.length:=fun x hx hxc=>by
    rw [ygc _ _ _ hx]
    unfold endT
    rw [if_neg hxc]
    have:=yik (b:=b) hp hc 5 (m.getD x 0) (by have:=hp.ok.2 x (by omega);unfold InR;omega)
    unfold InR at this;exact this
   generalize toL (endT m b c) m.length=E at*
   generalize smU m b c m.length=u0 at*
   refine yaj.intro (fun n fr H=> ∃k:Nat,k<=4/\n=4-k/\fr=[(14,I k),(13, .ptr 5 0),(10, .sl 1 4 0 4),(9, .sl 1 3 0 m.length),(7, .sl 1 2 0 4),(4, .ptr 1 0),(2, .ptr 0 0),(1,I c)]/\H=[(5, .cells 24 (.lst [.nils, .nils,I (L+(lpS m b c u0 k).2)])),(4, .cells 4 (.bools (snL c (lpS m b c u0 k).1))),(3, .cells 3 (.ints E)),(2, .cells 3 (.ints (thL c b))),(1, .cells 24 (.lst [.nils, .nils,I 0])),(0, .cells 24 (.lst [roI s,roI m,I L]))]) ?_ ?_
   ·refine ⟨_,_,_,?_,0,by omega,rfl,rfl,rfl⟩
    refine Wk.sub ?_ ?_<;>simp only [go_sem,sevalprocAttr]
    all_goals simp [lpS]
   rintro n fr H ⟨k,hk,rfl,rfl,rfl⟩
   have hll:=yyy (m:=m) (b:=b) (c:=c) (u0:=u0) k
   have hsup:=yq6 (m:=m) (b:=b) (c:=c) (u0:=u0) k
   by_cases hk4:k<4
   ·have bk:decide ((k:Int)<4)=true:=by simp;omega
    have snl:=yno c (lpS m b c u0 k).1
    have esn:(snL c (lpS m b c u0 k).1).getD k false=(lpS m b c u0 k).1 (4*c+k):=by
     have:=ytr (c:=c) (u:=(lpS m b c u0 k).1) (x:=4*c+k) (by omega)
     rw [show ((4*(c:Int)+k)% 4).toNat=k by omega] at this
     exact this
    cases hu:(lpS m b c u0 k).1 (4*c+k) with
    |true=>
     have et:=yo4 (m:=m) (b:=b) (c:=c) (u0:=u0) (k:=k) rfl hu
     rw [hu] at esn
     repeat' (first|omega|(try apply yaa);simp only [go_sem,sevalprocAttr,bk,snl,esn]|apply yab<;>(intro h_;(try simp only [h_]);revert h_)|apply And.intro|with_reducible intro h_|trivial|simp only [go_sem,la2];omega)
     refine ⟨_,_,_,?_,?_,⟨k+1,by omega,rfl,rfl,rfl⟩⟩
     ·omega
     ·rw [et]
      refine Wk.sub ?_ ?_<;>simp only [go_sem,sevalprocAttr]
    |false=>
     have et:=yvb (m:=m) (b:=b) (c:=c) (u0:=u0) (k:=k) rfl hu
     rw [hu] at esn
     generalize (lpS m b c u0 k).2=l at*
     generalize (lpS m b c u0 k).1=u at*
     have hfr:=ypu (c:=c) u
     repeat' (first|omega|(try apply yaa);simp only [go_sem,sevalprocAttr,bk,snl,esn]|apply yab<;>(intro h_;(try simp only [h_]);revert h_)|apply And.intro|with_reducible intro h_|trivial|simp only [go_sem,la2];omega)
     refine yaj.intro (fun f fr H=> ∃(h:Int) (u':Int->Bool),h/4=c/\lpU m b f h u'=lpU m b 5 (4*c+k) u/\yil c u'<f/\(∀y,u0 y=true->u' y=true)/\
      fr=[(15,I h),(14,I k),(13, .ptr 5 0),(10, .sl 1 4 0 4),(9, .sl 1 3 0 m.length),(7, .sl 1 2 0 4),(4, .ptr 1 0),(2, .ptr 0 0),(1,I c)]/\H=[(5, .cells 24 (.lst [.nils, .nils,I (L+l+1)])),(4, .cells 4 (.bools (snL c u'))),(3, .cells 3 (.ints E)),(2, .cells 3 (.ints (thL c b))),(1, .cells 24 (.lst [.nils, .nils,I 0])),(0, .cells 24 (.lst [roI s,roI m,I L]))]) ?_ ?_
     ·refine ⟨5,_,_,?_,4*c+k,u,by omega,rfl,by omega,hsup,rfl,rfl⟩
      refine Wk.sub ?_ ?_<;>simp only [go_sem,sevalprocAttr]
     rintro f fr H ⟨h,u',hhc,hlp,hfr',hsup',rfl,rfl⟩
     have h0:0<=h:=by omega
     have snl':=yno c u'
     have esg:=ytr (u:=u') hhc
     have e3:h.tmod 4=h % 4:=yde h0
     cases huh:u' h with
     |true=>
      rw [huh] at esg
      rw [y1s huh] at hlp
      rw [←hlp] at et
      repeat' (first|omega|(try apply yaa);simp only [go_sem,sevalprocAttr,e3,snl',esg]|apply yab<;>(intro h_;(try simp only [h_]);revert h_)|apply And.intro|with_reducible intro h_|trivial|simp only [go_sem,la2];omega)
      refine ⟨_,_,_,?_,?_,⟨k+1,by omega,rfl,rfl,rfl⟩⟩
      ·omega
      ·rw [et]
       refine Wk.sub ?_ ?_<;>simp only [go_sem,sevalprocAttr]
       all_goals first|omega|(simp only;omega)
     |false=>
      rw [huh] at esg
      obtain ⟨f',rfl⟩: ∃f',f=f'+1:=⟨f-1,by omega⟩
      rw [y1t huh] at hlp
      have hf2:=yn6 (c:=c) (u:=u') (x:=h) (y:=jnB b h) hhc huh
      have hu0:u0 h=false:=by
       cases hq:u0 h with
       |false=>rfl
       |true=>have:=hsup' h hq;rw [huh] at this;cases this
      have hnx:=hin h hhc hu0
      have hj0:=yw6 b h0
      have e4:(jnB b h).tmod 4=jnB b h % 4:=yde hj0
      have eth:=ytq (b:=b) hhc
      have ew:=ytt (b:=b) (u:=u') hhc
      have hjd:=ycm b h
      repeat' (first|omega|(try apply yaa);simp only [go_sem,sevalprocAttr,e3,snl',esg,eth,e4,thl]|apply yab<;>(intro h_;(try simp only [h_]);revert h_)|apply And.intro|with_reducible intro h_|trivial|simp only [go_sem,la2];omega)
      refine ⟨f',_,_,?_,?_,⟨nxC m b h,usd u' h (jnB b h),hnx,hlp,by omega,fun y hy=>by simp [usd,hsup' y hy],rfl,rfl⟩⟩
      ·omega
      ·rw [ew]
       refine Wk.sub ?_ ?_<;>simp only [go_sem,sevalprocAttr]
       all_goals rfl
   ·obtain rfl:k=4:=by omega
    have bk:decide (((4:Nat):Int)<4)=false:=by decide
    rw [hle]
    rw [hle] at hll
    repeat' (first|omega|(try apply yaa);simp only [go_sem,sevalprocAttr,bk]|apply yab<;>(intro h_;(try simp only [h_]);revert h_)|apply And.intro|with_reducible intro h_|trivial|simp only [go_sem,la2];omega)
    generalize L+smL m b c s.length=LL at*
    refine yaj.intro (fun n fr H=> ∃k:Nat,k<=s.length/\n=s.length-k/\fr=[(16,I k),(13, .ptr 5 0),(9, .sl 1 3 0 m.length),(4, .ptr 1 0),(2, .ptr 0 0),(1,I c)]/\((woS s c k=[]/\woM E c k=[]/\H=[(5, .cells 24 (.lst [.nils, .nils,I LL])),(3, .cells 3 (.ints E)),(1, .cells 24 (.lst [.nils, .nils,I 0])),(0, .cells 24 (.lst [roI s,roI m,I L]))])\/H=[(16, .cells 3 (.ints (woM E c k))),(14, .cells 3 (.ints (woS s c k))),(5, .cells 24 (.lst [.sl 1 14 0 (woS s c k).length, .sl 1 16 0 (woM E c k).length,I LL])),(3, .cells 3 (.ints E)),(1, .cells 24 (.lst [.nils, .nils,I 0])),(0, .cells 24 (.lst [roI s,roI m,I L]))])) ?_ ?_
    ·refine ⟨_,_,_,?_,0,by omega,rfl,rfl, .inl ⟨rfl,rfl,rfl⟩⟩
     refine Wk.sub ?_ ?_<;>simp only [go_sem,sevalprocAttr]
    rintro n fr H ⟨k,hk,rfl,rfl,hcase⟩
    have wl1:=ym5 s c k
    have wl2:=ym6 E c k
    by_cases hkl:k<s.length
    ·have bk:decide ((k:Int)<s.length)=true:=by simp;omega
     by_cases hkc:k=c
     ·have bc:((k:Int)!=(c:Int))=false:=by rw [hkc];simp
      have ek:woS s c (k+1)=woS s c k/\woM E c (k+1)=woM E c k:=by simp [woS,woM,hkc]
      rcases hcase with ⟨hn1,hn2,rfl⟩|rfl
      ·repeat' (first|omega|(try apply yaa);simp only [go_sem,sevalprocAttr,bk,bc]|apply yab<;>(intro h_;(try simp only [h_]);revert h_)|apply And.intro|with_reducible intro h_|trivial|simp only [go_sem,la2];omega)
       refine ⟨_,_,_,?_,?_,⟨k+1,by omega,rfl,rfl, .inl ⟨by rw [ek.1];exact hn1,by rw [ek.2];exact hn2,rfl⟩⟩⟩
       ·omega
       ·refine Wk.sub ?_ ?_<;>simp only [go_sem,sevalprocAttr]
      ·repeat' (first|omega|(try apply yaa);simp only [go_sem,sevalprocAttr,bk,bc]|apply yab<;>(intro h_;(try simp only [h_]);revert h_)|apply And.intro|with_reducible intro h_|trivial|simp only [go_sem,la2];omega)
       refine ⟨_,_,_,?_,?_,⟨k+1,by omega,rfl,rfl, .inr rfl⟩⟩
       ·omega
       ·rw [ek.1,ek.2]
        refine Wk.sub ?_ ?_<;>simp only [go_sem,sevalprocAttr]
     ·have bc:((k:Int)!=(c:Int))=true:=by simp;omega
      have ek:woS s c (k+1)=woS s c k++[s.getD k 0]/\woM E c (k+1)=woM4 E c k (woM E c k) 4:=by simp [woS,woM,hkc]
      rcases hcase with ⟨hn1,hn2,rfl⟩|rfl
      ·repeat' (first|omega|(first|apply yaa|(refine yac.intro (id:=39) ygd [[],[],[0,1],[0,1],[0,1,2,3],[0,1],[0,1],[0,1],[],[],[]] (by decide+kernel) mixed ?_)|skip);simp only [go_sem,sevalprocAttr,bk,bc,↓reduceIte,reduceCtorEq,ygd]|apply yab<;>(intro h_;(try simp only [h_]);revert h_)|apply And.intro|with_reducible intro h_|trivial|simp only [go_sem,la2];omega)
       refine yaj.intro (fun j fr H=> ∃x:Nat,x<=4/\j=4-x/\fr=[(17,I x),(16,I k),(13, .ptr 5 0),(9, .sl 1 3 0 m.length),(4, .ptr 1 0),(2, .ptr 0 0),(1,I c)]/\((x=0/\woM E c k=[]/\H=[(14, .cells 3 (.ints (woS s c k++[s.getD k 0]))),(5, .cells 24 (.lst [.sl 1 14 0 (woS s c k++[s.getD k 0]).length, .nils,I LL])),(3, .cells 3 (.ints E)),(1, .cells 24 (.lst [.nils, .nils,I 0])),(0, .cells 24 (.lst [roI s,roI m,I L]))])\/H=[(16, .cells 3 (.ints (woM4 E c k (woM E c k) x))),(14, .cells 3 (.ints (woS s c k++[s.getD k 0]))),(5, .cells 24 (.lst [.sl 1 14 0 (woS s c k++[s.getD k 0]).length, .sl 1 16 0 (woM4 E c k (woM E c k) x).length,I LL])),(3, .cells 3 (.ints E)),(1, .cells 24 (.lst [.nils, .nils,I 0])),(0, .cells 24 (.lst [roI s,roI m,I L]))])) ?_ ?_
       ·refine ⟨_,_,_,?_,0,by omega,rfl,rfl, .inl ⟨rfl,hn2,rfl⟩⟩
        rw [hn1]
        refine Wk.sub ?_ ?_<;>simp only [go_sem,sevalprocAttr]
       rintro j fr H ⟨x,hx,rfl,rfl,hin2⟩
       have wl4:=yez E c k (woM E c k) x
       have slen:(woS s c k++[s.getD k 0]).length=(woS s c k).length+1:=by simp
       by_cases hx4:x<4
       ·have bx:decide ((x:Int)<4)=true:=by simp;omega
        have hmr:=hend (4*k+x) (by omega) (by omega)
        have e0:(4*(k:Int)+x).toNat=4*k+x:=by omega
        have e2:(E.getD (4*k+x) 0).tdiv 4=E.getD (4*k+x) 0/4:=ybe hmr.1
        have eW:woM4 E c k (woM E c k) (x+1)=woM4 E c k (woM E c k) x++[cutM E c (4*k+x)]:=rfl
        rcases hin2 with ⟨rfl,hwn,rfl⟩|rfl
        ·have hmr0:=hend (4*k) (by omega) (by omega)
         have e3:(4*(k:Int)).toNat=4*k:=by omega
         have e4:(E.getD (4*k) 0).tdiv 4=E.getD (4*k) 0/4:=ybe hmr0.1
         repeat' (first|omega|(try apply yaa);simp only [go_sem,sevalprocAttr,bx,e3,e4,slen]|apply yab<;>(intro h_;(try simp only [h_]);revert h_)|apply And.intro|with_reducible intro h_|trivial|simp only [go_sem,la2];omega)
         ·have hcut:cutM E c (4*k)=E.getD (4*k) 0-4:=by unfold cutM;rw [if_pos (by omega)]
          have e5:woM4 E c k (woM E c k) 1=[E.getD (4*k) 0-4]:=by simp only [woM4,hwn,Nat.add_zero,hcut,List.nil_append]
          refine ⟨_,_,_,?_,?_,⟨1,by omega,rfl,rfl, .inr rfl⟩⟩
          ·omega
          ·refine Wk.sub ?_ ?_<;>(simp only [go_sem,sevalprocAttr,e5])
         ·have hcut:cutM E c (4*k)=E.getD (4*k) 0:=by unfold cutM;rw [if_neg (by omega)]
          have e5:woM4 E c k (woM E c k) 1=[E.getD (4*k) 0]:=by simp only [woM4,hwn,Nat.add_zero,hcut,List.nil_append]
          refine ⟨_,_,_,?_,?_,⟨1,by omega,rfl,rfl, .inr rfl⟩⟩
          ·omega
          ·refine Wk.sub ?_ ?_<;>(simp only [go_sem,sevalprocAttr,e5])
        ·repeat' (first|omega|(try apply yaa);simp only [go_sem,sevalprocAttr,bx,e0,e2,slen]|apply yab<;>(intro h_;(try simp only [h_]);revert h_)|apply And.intro|with_reducible intro h_|trivial|simp only [go_sem,la2];omega)
         ·have hcut:cutM E c (4*k+x)=E.getD (4*k+x) 0-4:=by unfold cutM;rw [if_pos (by omega)]
          refine ⟨_,_,_,?_,?_,⟨x+1,by omega,rfl,rfl, .inr rfl⟩⟩
          ·omega
          ·refine Wk.sub ?_ ?_<;>(simp only [go_sem,sevalprocAttr,eW,hcut,List.length_append])
         ·have hcut:cutM E c (4*k+x)=E.getD (4*k+x) 0:=by unfold cutM;rw [if_neg (by omega)]
          refine ⟨_,_,_,?_,?_,⟨x+1,by omega,rfl,rfl, .inr rfl⟩⟩
          ·omega
          ·refine Wk.sub ?_ ?_<;>(simp only [go_sem,sevalprocAttr,eW,hcut,List.length_append])
       ·obtain rfl:x=4:=by omega
        have bx:decide (((4:Nat):Int)<4)=false:=by decide
        rcases hin2 with ⟨h4,_⟩|rfl
        ·omega
        ·repeat' (first|omega|(try apply yaa);simp only [go_sem,sevalprocAttr,bx]|apply yab<;>(intro h_;(try simp only [h_]);revert h_)|apply And.intro|with_reducible intro h_|trivial|simp only [go_sem,la2];omega)
         refine ⟨_,_,_,?_,?_,⟨k+1,by omega,rfl,rfl, .inr rfl⟩⟩
         ·omega
         ·refine Wk.sub ?_ ?_<;>(simp only [go_sem,sevalprocAttr,ek.1,ek.2,List.length_append])
      ·repeat' (first|omega|(first|apply yaa|(refine yac.intro (id:=39) ygd [[],[],[0,1],[0,1],[0,1,2,3],[0,1],[0,1],[0,1],[],[],[]] (by decide+kernel) mixed ?_)|skip);simp only [go_sem,sevalprocAttr,bk,bc,↓reduceIte,reduceCtorEq,ygd]|apply yab<;>(intro h_;(try simp only [h_]);revert h_)|apply And.intro|with_reducible intro h_|trivial|simp only [go_sem,la2];omega)
       refine yaj.intro (fun j fr H=> ∃x:Nat,x<=4/\j=4-x/\fr=[(17,I x),(16,I k),(13, .ptr 5 0),(9, .sl 1 3 0 m.length),(4, .ptr 1 0),(2, .ptr 0 0),(1,I c)]/\((x=0/\woM E c k=[]/\H=[(14, .cells 3 (.ints (woS s c k++[s.getD k 0]))),(5, .cells 24 (.lst [.sl 1 14 0 (woS s c k++[s.getD k 0]).length, .nils,I LL])),(3, .cells 3 (.ints E)),(1, .cells 24 (.lst [.nils, .nils,I 0])),(0, .cells 24 (.lst [roI s,roI m,I L]))])\/H=[(16, .cells 3 (.ints (woM4 E c k (woM E c k) x))),(14, .cells 3 (.ints (woS s c k++[s.getD k 0]))),(5, .cells 24 (.lst [.sl 1 14 0 (woS s c k++[s.getD k 0]).length, .sl 1 16 0 (woM4 E c k (woM E c k) x).length,I LL])),(3, .cells 3 (.ints E)),(1, .cells 24 (.lst [.nils, .nils,I 0])),(0, .cells 24 (.lst [roI s,roI m,I L]))])) ?_ ?_
       ·refine ⟨_,_,_,?_,0,by omega,rfl,rfl, .inr rfl⟩
        rw [show woM4 E c k (woM E c k) 0=woM E c k from rfl]
        refine Wk.subS 14 25 (fr1:=[(17,I ((0:Nat):Int)),(16,I k),(13, .ptr 5 0),(9, .sl 1 3 0 m.length),(4, .ptr 1 0),(2, .ptr 0 0),(1,I c)]) (H1:=[(16, .cells 3 (.ints (woM E c k))),(25, .cells 3 (.ints (woS s c k++[s.getD k 0]))),(5, .cells 24 (.lst [.sl 1 25 0 (woS s c k++[s.getD k 0]).length, .sl 1 16 0 (woM E c k).length,I LL])),(3, .cells 3 (.ints E)),(1, .cells 24 (.lst [.nils, .nils,I 0])),(0, .cells 24 (.lst [roI s,roI m,I L]))]) rfl rfl rfl rfl ?_ ?_<;>(simp only [go_sem,sevalprocAttr,List.length_append])
       rintro j fr H ⟨x,hx,rfl,rfl,hin2⟩
       have wl4:=yez E c k (woM E c k) x
       have slen:(woS s c k++[s.getD k 0]).length=(woS s c k).length+1:=by simp
       by_cases hx4:x<4
       ·have bx:decide ((x:Int)<4)=true:=by simp;omega
        have hmr:=hend (4*k+x) (by omega) (by omega)
        have e0:(4*(k:Int)+x).toNat=4*k+x:=by omega
        have e2:(E.getD (4*k+x) 0).tdiv 4=E.getD (4*k+x) 0/4:=ybe hmr.1
        have eW:woM4 E c k (woM E c k) (x+1)=woM4 E c k (woM E c k) x++[cutM E c (4*k+x)]:=rfl
        rcases hin2 with ⟨rfl,hwn,rfl⟩|rfl
        ·have hmr0:=hend (4*k) (by omega) (by omega)
         have e3:(4*(k:Int)).toNat=4*k:=by omega
         have e4:(E.getD (4*k) 0).tdiv 4=E.getD (4*k) 0/4:=ybe hmr0.1
         repeat' (first|omega|(try apply yaa);simp only [go_sem,sevalprocAttr,bx,e3,e4,slen]|apply yab<;>(intro h_;(try simp only [h_]);revert h_)|apply And.intro|with_reducible intro h_|trivial|simp only [go_sem,la2];omega)
         ·have hcut:cutM E c (4*k)=E.getD (4*k) 0-4:=by unfold cutM;rw [if_pos (by omega)]
          have e5:woM4 E c k (woM E c k) 1=[E.getD (4*k) 0-4]:=by simp only [woM4,hwn,Nat.add_zero,hcut,List.nil_append]
          refine ⟨_,_,_,?_,?_,⟨1,by omega,rfl,rfl, .inr rfl⟩⟩
          ·omega
          ·refine Wk.sub ?_ ?_<;>(simp only [go_sem,sevalprocAttr,e5])
         ·have hcut:cutM E c (4*k)=E.getD (4*k) 0:=by unfold cutM;rw [if_neg (by omega)]
          have e5:woM4 E c k (woM E c k) 1=[E.getD (4*k) 0]:=by simp only [woM4,hwn,Nat.add_zero,hcut,List.nil_append]
          refine ⟨_,_,_,?_,?_,⟨1,by omega,rfl,rfl, .inr rfl⟩⟩
          ·omega
          ·refine Wk.sub ?_ ?_<;>(simp only [go_sem,sevalprocAttr,e5])
        ·repeat' (first|omega|(try apply yaa);simp only [go_sem,sevalprocAttr,bx,e0,e2,slen]|apply yab<;>(intro h_;(try simp only [h_]);revert h_)|apply And.intro|with_reducible intro h_|trivial|simp only [go_sem,la2];omega)
         ·have hcut:cutM E c (4*k+x)=E.getD (4*k+x) 0-4:=by unfold cutM;rw [if_pos (by omega)]
          refine ⟨_,_,_,?_,?_,⟨x+1,by omega,rfl,rfl, .inr rfl⟩⟩
          ·omega
          ·refine Wk.sub ?_ ?_<;>(simp only [go_sem,sevalprocAttr,eW,hcut,List.length_append])
         ·have hcut:cutM E c (4*k+x)=E.getD (4*k+x) 0:=by unfold cutM;rw [if_neg (by omega)]
          refine ⟨_,_,_,?_,?_,⟨x+1,by omega,rfl,rfl, .inr rfl⟩⟩
          ·omega
          ·refine Wk.sub ?_ ?_<;>(simp only [go_sem,sevalprocAttr,eW,hcut,List.length_append])
       ·obtain rfl:x=4:=by omega
        have bx:decide (((4:Nat):Int)<4)=false:=by decide
        rcases hin2 with ⟨h4,_⟩|rfl
        ·omega
        ·repeat' (first|omega|(try apply yaa);simp only [go_sem,sevalprocAttr,bx]|apply yab<;>(intro h_;(try simp only [h_]);revert h_)|apply And.intro|with_reducible intro h_|trivial|simp only [go_sem,la2];omega)
         refine ⟨_,_,_,?_,?_,⟨k+1,by omega,rfl,rfl, .inr rfl⟩⟩
         ·omega
         ·refine Wk.sub ?_ ?_<;>(simp only [go_sem,sevalprocAttr,ek.1,ek.2,List.length_append])
    ·obtain rfl:k=s.length:=by omega
     have bk:decide ((s.length:Int)<s.length)=false:=by simp
     rcases hcase with ⟨hn1,hn2,rfl⟩|rfl
     ·repeat' (first|omega|(try apply yaa);simp only [go_sem,sevalprocAttr,bk]|apply yab<;>(intro h_;(try simp only [h_]);revert h_)|apply And.intro|with_reducible intro h_|trivial|simp only [go_sem,la2];omega)
      rw [hn1,hn2]
      exact LeA.aggL (.cons (LeA.nils (by omega) rfl) (.cons (LeA.nils (by omega) rfl) (.cons (LeA.refl _) .nil)))
     ·repeat' (first|omega|(try apply yaa);simp only [go_sem,sevalprocAttr,bk]|apply yab<;>(intro h_;(try simp only [h_]);revert h_)|apply And.intro|with_reducible intro h_|trivial|simp only [go_sem,la2];omega)
      exact LeA.of (by rw [List.take_of_length_le (by omega),List.take_of_length_le (by omega)]))
end Go.Proofs.YtbblgobamoabkaaGreatDoor
