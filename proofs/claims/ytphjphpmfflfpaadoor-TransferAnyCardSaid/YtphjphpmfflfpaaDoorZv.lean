/- The references of layer 17: edges, Width. -/
import Derived.Test.YtphjphpmfflfpaaDoorZu
import Derived.Test.YtphjphpmfflfpaaDoorSx3
import Derived.Test.YtphjphpmfflfpaaDoorZs
namespace Go.Proofs.YtphjphpmfflfpaaDoor
open Go Go.RowKit
set_option maxRecDepth 100000
set_option maxHeartbeats 8000000
set_option linter.unusedVariables false
set_option linter.unusedSimpArgs false
def yne:Tr:= .node [(0, .node [(3, .node [(4, .node [(7, .node [(8, .node [(9, .node [(1, .node [(2, .node [(5, .node [(6, .node [(10, .node [(11, .node [(12, .done)])])])])]),(5, .node [(2, .node [(6, .node [(10, .node [(11, .node [(12, .done)])])])]),(6, .node [(2, .node [(10, .node [(11, .node [(12, .done)])])])])])]),(2, .node [(1, .node [(5, .node [(6, .node [(10, .node [(11, .node [(12, .done)])])])])]),(5, .node [(1, .node [(6, .node [(10, .node [(11, .node [(12, .done)])])])]),(6, .node [(1, .node [(10, .node [(11, .node [(12, .done)])])]),(10, .node [(1, .node [(11, .node [(12, .done)])])])])])]),(5, .node [(1, .node [(2, .node [(6, .node [(10, .node [(11, .node [(12, .done)])])])]),(6, .node [(2, .node [(10, .node [(11, .node [(12, .done)])])])])]),(2, .node [(1, .node [(6, .node [(10, .node [(11, .node [(12, .done)])])])]),(6, .node [(1, .node [(10, .node [(11, .node [(12, .done)])])]),(10, .node [(1, .node [(11, .node [(12, .done)])])])])]),(6, .node [(1, .node [(2, .node [(10, .node [(11, .node [(12, .done)])])])]),(2, .node [(1, .node [(10, .node [(11, .node [(12, .done)])])]),(10, .node [(1, .node [(11, .node [(12, .done)])])])])])])])])])])])])]
def ynf:List (List Nat):=[[22,23,24,25,26,27,28,29,30],[22,23,24,25,26,27,28,29,30],[20,21,23,24,25,26,27,28,29],[20,21,22,24,27,28,29],[20,21,22,23,27,28,29],[20,21,22,27,28,29],[20,21,22,27,28,29],[20,21,22,23,24,25,26,28],[20,21,22,23,24,25,26,27],[20,21,22,23,24,25,26],[20,21],[],[]]
def yng:List (List Nat):=[[],[],[0,1],[0,1,2],[0,1,2,3],[0,1,2],[0,1,2],[0,1,2,3,4,5,6],[0,1,2,3,4,5,6,7],[0,1,2,3,4,5,6],[0,1],[],[]]
theorem yzu (s m:List Int) (L:Int) (c:Nat) (l:List Int) (hm:ya3 m s.length) (hs:s.length<=1000) (hc:c<s.length) (hl:l.length<=100000):Fn Tryd.prog 37 [dgA s m L,I c,roI l] (I (eN m l c 4)):=by
 have hml:=hm.1
 refine Fn.introL [.tmp 6] Tryd.func37 rfl rfl (by decide) (by simp [Tryd.ntmps37]) ?_;rw [Tryd.ntmps37]
 repeat' (first|omega|(try apply yaa);simp only [go_sem,sevalprocAttr]|apply yad<;>(intro h_;(try simp only [h_]);revert h_)|apply yac|apply yab|apply gspI|apply And.intro|with_reducible intro h_|trivial|simp only [go_sem,la2];omega)
 refine yai.intro (fun n' fr H=> ∃j:Nat,j<=4/\n'=4-j/\fr=[(8,I j),(7,I (eN m l c j)),(3, .ptr 0 0),(1,I c),(2,roI l)]/\H=[(0, .cells 31 (.lst [roI s,roI m,I L]))]) ?_ ?_
 ·refine ⟨_,_,_,Wk.sub ?_ ?_,0,by omega,rfl,rfl,rfl⟩
  ·(simp only [go_sem,sevalprocAttr,eN])<;>rfl
  ·simp only [go_sem,sevalprocAttr]
 rintro n' fr H ⟨j,hj,rfl,rfl,rfl⟩
 have her:=ymo m l c j
 by_cases hj4:j<4
 ·have bj:decide ((j:Int)<4)=true:=by simp;omega
  have hy:=hm.2 (4*c+j) (by omega)
  have e7:(4*(c:Int)+(j:Int)).toNat=4*c+j:=by omega
  obtain ⟨y,hyd⟩: ∃y:Nat,m.getD (4*c+j) 0=y:=⟨(m.getD (4*c+j) 0).toNat,by omega⟩
  have hcs:eN m l c (j+1)=eN m l c j+if (y:Int)/4∈l then 1 else 0:=by simp only [eN,hyd]
  have htd:(y:Int).tdiv 4=(y:Int)/4:=Int.tdiv_eq_ediv_of_nonneg (by omega)
  have hI:=yzt l ((y:Int)/4) (by omega)
  by_cases h2:(y:Int)/4∈l
  ·rw [if_pos h2] at hcs
   have b3:l.contains ((y:Int)/4)=true:=by simpa using h2
   rw [b3] at hI
   repeat' (first|omega|(try apply yaa);simp only [go_sem,sevalprocAttr,bj,e7,hyd,htd]|apply yad<;>(intro h_;(try simp only [h_]);revert h_)|apply yac|apply yab|apply gspI|apply And.intro|with_reducible intro h_|trivial|simp only [go_sem,la2];omega)
   refine ⟨yaf.fn rfl hI ?_⟩
   repeat' (first|omega|(try apply yaa);simp only [go_sem,sevalprocAttr,bj]|apply yad<;>(intro h_;(try simp only [h_]);revert h_)|apply yac|apply yab|apply gspI|apply And.intro|with_reducible intro h_|trivial|simp only [go_sem,la2];omega)
   refine ⟨_,_,_,?_,Wk.sub ?_ ?_,j+1,by omega,rfl,rfl,rfl⟩
   ·omega
   ·(simp only [go_sem,sevalprocAttr,hcs])<;>rfl
   ·simp only [go_sem,sevalprocAttr]
  ·rw [if_neg h2,Nat.add_zero] at hcs
   have b3:l.contains ((y:Int)/4)=false:=by simpa using h2
   rw [b3] at hI
   repeat' (first|omega|(try apply yaa);simp only [go_sem,sevalprocAttr,bj,e7,hyd,htd]|apply yad<;>(intro h_;(try simp only [h_]);revert h_)|apply yac|apply yab|apply gspI|apply And.intro|with_reducible intro h_|trivial|simp only [go_sem,la2];omega)
   refine ⟨yaf.fn rfl hI ?_⟩
   repeat' (first|omega|(try apply yaa);simp only [go_sem,sevalprocAttr,bj]|apply yad<;>(intro h_;(try simp only [h_]);revert h_)|apply yac|apply yab|apply gspI|apply And.intro|with_reducible intro h_|trivial|simp only [go_sem,la2];omega)
   refine ⟨_,_,_,?_,Wk.sub ?_ ?_,j+1,by omega,rfl,rfl,rfl⟩
   ·omega
   ·simp only [go_sem,sevalprocAttr,hcs]
   ·simp only [go_sem,sevalprocAttr]
 ·obtain rfl:j=4:=by omega
  have bj:decide (((4:Nat):Int)<4)=false:=by decide
  repeat' (first|omega|(try apply yaa);simp only [go_sem,sevalprocAttr,bj]|apply yad<;>(intro h_;(try simp only [h_]);revert h_)|apply yac|apply yab|apply gspI|apply And.intro|with_reducible intro h_|trivial|simp only [go_sem,la2];omega)
  all_goals exact LeA.refl _
def rwN (m o:List Int):Nat->Int
 |0=>0
 |k+1=>max (rwN m o k) (rfC m (o.take k) (o.take k))
theorem ykb (m l:List Int): ∀r:List Int,0<=rfC m l r/\rfC m l r<=4*r.length
 |[]=>by simp [rfC]
 |c::r=>by
  have h1:=ykb m l r
  have h2:=ymo m l c.toNat 4
  simp only [rfC,List.length_cons];omega
theorem yu2 (m o:List Int): ∀k,0<=rwN m o k/\rwN m o k<=4*o.length
 |0=>by simp only [rwN];omega
 |k+1=>by
  have h1:=yu2 m o k
  have h2:=ykb m (o.take k) (o.take k)
  have h3:(o.take k).length<=o.length:=List.length_take_le' ..
  simp only [rwN];omega
theorem ywd {m:List Int} {n:Nat} (hp:ya3 m n) (hi: ∀x:Nat,x<4*n->m.getD (m.getD x 0).toNat 0=x) {o:List Int} (h:PrmL n o): ∀k,k<=o.length->rwN m o (k+1)=wdN m o k
 |0,_=>by simp [rwN,wdN,rfC]
 |k+1,hk=>by
  have ih:=ywd hp hi h k (by omega)
  rw [rwN,ih,←ymp hp hi h (k+1) hk]
  rfl
theorem ypg (s m:List Int) (L:Int) (o:List Int) (hm:ya3 m s.length) (hs:s.length<=1000) (ho:o.length<=1000) (hr: ∀x∈o,0<=x/\x<s.length):Fn Tryd.prog 15 [dgA s m L,roI o] (I (rwN m o (o.length+1))):=by
 have hml:=hm.1
 refine Fn.introL [.tmp 4] Tryd.func15 rfl rfl (by decide) (by simp [Tryd.ntmps15]) ?_;rw [Tryd.ntmps15]
 repeat' (first|omega|(try apply yaa);simp only [go_sem,sevalprocAttr]|apply yad<;>(intro h_;(try simp only [h_]);revert h_)|apply yac|apply yab|apply gspI|apply And.intro|with_reducible intro h_|trivial|simp only [go_sem,la2];omega)
 refine yai.intro (fun n' fr H=> ∃k:Nat,k<=o.length+1/\n'=o.length+1-k/\fr=[(6,I k),(5,I (rwN m o k)),(2, .ptr 0 0),(1,roI o)]/\H=[(0, .cells 31 (.lst [roI s,roI m,I L]))]) ?_ ?_
 ·refine ⟨_,_,_,Wk.sub ?_ ?_,0,by omega,rfl,rfl,rfl⟩
  ·(simp only [go_sem,sevalprocAttr,rwN])<;>rfl
  ·simp only [go_sem,sevalprocAttr]
 rintro n' fr H ⟨k,hk,rfl,rfl,rfl⟩
 have hrw:=yu2 m o k
 by_cases hkn:k<o.length+1
 ·have bk:decide ((k:Int)<=o.length)=true:=by simp;omega
  have hrf:=ykb m (o.take k) (o.take k)
  have htl:(o.take k).length=k:=by rw [List.length_take];omega
  rw [htl] at hrf
  repeat' (first|omega|(try apply yaa);simp only [go_sem,sevalprocAttr,bk]|apply yad<;>(intro h_;(try simp only [h_]);revert h_)|apply yac|apply yab|apply gspI|apply And.intro|with_reducible intro h_|trivial|simp only [go_sem,la2];omega)
  refine yai.intro (fun n' fr H=> ∃i:Nat,i<=k/\n'=k-i/\fr=[(8,I i),(7,I (rfC m (o.take k) (o.take i))),(6,I k),(5,I (rwN m o k)),(2, .ptr 0 0),(1,roI o)]/\H=[(0, .cells 31 (.lst [roI s,roI m,I L]))]) ?_ ?_
  ·refine ⟨_,_,_,Wk.sub ?_ ?_,0,by omega,rfl,rfl,rfl⟩
   ·(simp only [go_sem,sevalprocAttr,rfC,List.take_zero])<;>rfl
   ·simp only [go_sem,sevalprocAttr]
  rintro n' fr H ⟨i,hi,rfl,rfl,rfl⟩
  have hri:=ykb m (o.take k) (o.take i)
  have hti:(o.take i).length=i:=by rw [List.length_take];omega
  rw [hti] at hri
  by_cases hik:i<k
  ·have bi:decide ((i:Int)<k)=true:=by simp;omega
   have hmem:o.getD i 0∈o:=by
    rw [List.getD_eq_getElem?_getD,List.getElem?_eq_getElem (show i<o.length by omega)]
    exact List.getElem_mem _
   have hx:=hr _ hmem
   obtain ⟨c,hc⟩: ∃c:Nat,o.getD i 0=c:=⟨(o.getD i 0).toNat,by omega⟩
   rw [hc] at hx
   have hE:=yzu s m L c (o.take k) hm hs (by omega) (by omega)
   unfold roI at hE
   rw [htl] at hE
   have her:=ymo m (o.take k) c 4
   have hst:=yns m (o.take k) (c:Int) (o.take i)
   rw [←hc,←yb8 (show i<o.length by omega),hc,Int.toNat_natCast] at hst
   have e1:(k:Int).toNat-(0:Int).toNat=k:=by simp
   repeat' (first|omega|(first|apply yaa|(refine yae.introE (id:=9) (yne) (by decide+kernel) mixed ?_)|(refine yae.intro (id:=9) ynf yng (by decide+kernel) mixed ?_)|skip);simp only [go_sem,sevalprocAttr,bi,hc,Nat.sub_zero,Int.toNat_natCast,↓reduceIte,reduceCtorEq,yne,ynf,yng]|apply yad<;>(intro h_;(try simp only [h_]);revert h_)|apply yac|apply yab|apply gspI|apply And.intro|with_reducible intro h_|trivial|simp only [go_sem,la2];omega)
   all_goals refine ⟨yaf.fn rfl hE ?_⟩
   all_goals (repeat' (first|omega|(first|apply yaa|(refine yae.introE (id:=9) (yne) (by decide+kernel) mixed ?_)|(refine yae.intro (id:=9) ynf yng (by decide+kernel) mixed ?_)|skip);simp only [go_sem,sevalprocAttr,bi,hc,Nat.sub_zero,Int.toNat_natCast,↓reduceIte,reduceCtorEq,yne,ynf,yng]|apply yad<;>(intro h_;(try simp only [h_]);revert h_)|apply yac|apply yab|apply gspI|apply And.intro|with_reducible intro h_|trivial|simp only [go_sem,la2];omega))
   all_goals (
    refine ⟨_,_,_,?_,Wk.sub ?_ ?_,i+1,by omega,rfl,rfl,rfl⟩
    ·omega
    ·simp only [go_sem,sevalprocAttr]
     rw [hst];omega
    ·simp only [go_sem,sevalprocAttr])
  ·obtain rfl:i=k:=by omega
   have bi:decide ((i:Int)<i)=false:=by simp
   have hwd:rwN m o (i+1)=max (rwN m o i) (rfC m (o.take i) (o.take i)):=rfl
   repeat' (first|omega|(try apply yaa);simp only [go_sem,sevalprocAttr,bi]|apply yad<;>(intro h_;(try simp only [h_]);revert h_)|apply yac|apply yab|apply gspI|apply And.intro|with_reducible intro h_|trivial|simp only [go_sem,la2];omega)
   refine ⟨_,_,_,?_,Wk.sub ?_ ?_,i+1,by omega,rfl,rfl,rfl⟩
   ·omega
   ·simp only [go_sem,sevalprocAttr]
    rw [hwd];split<;>omega
   ·simp only [go_sem,sevalprocAttr]
 ·obtain rfl:k=o.length+1:=by omega
  have bk:decide ((o.length:Int)+1<=o.length)=false:=by simp;omega
  repeat' (first|omega|(try apply yaa);simp only [go_sem,sevalprocAttr,bk]|apply yad<;>(intro h_;(try simp only [h_]);revert h_)|apply yac|apply yab|apply gspI|apply And.intro|with_reducible intro h_|trivial|simp only [go_sem,la2];omega)
  all_goals exact LeA.refl _
end Go.Proofs.YtphjphpmfflfpaaDoor
namespace Go.Proofs.YtphjphpmfflfpaaDoor
set_option linter.unusedSimpArgs false
set_option linter.unusedVariables false
def nob (f:Nat->Bool):Nat->Nat
 |0=>0
 |n+1=>nob f n+if f n then 2^n else 0
theorem ysq (f:Nat->Bool): ∀n,nob f n<2^n
 |0=>by simp [nob]
 |n+1=>by have:=ysq f n;simp only [nob,Nat.pow_succ];split<;>omega
theorem yu3 (f:Nat->Bool): ∀(n c:Nat),c<n->chB (nob f n) c=f c
 |n+1,c,h=>by
  have hl:=ysq f n
  simp only [nob]
  by_cases hc:c<n
  ·rw [←yu3 f n c hc]
   by_cases hf:f n=true
   ·rw [if_pos hf]
    have:=y5u (k1:=nob f n) (k2:=1) (i:=n) hc
    rw [Nat.mul_one,Nat.add_comm] at this
    exact this
   ·rw [if_neg hf,Nat.add_zero]
  ·obtain rfl:c=n:=by omega
   by_cases hf:f c=true
   ·rw [if_pos hf,hf,Nat.add_comm];exact yuk hl
   ·rw [if_neg hf,Nat.add_zero,yyv hl];simpa using hf
theorem yog (ch:Nat->Bool): ∀n,(difS false ch n:Int)=sm (fun c=>if ch c then 1 else 0) n
 |0=>rfl
 |n+1=>by
  simp only [difS,sm,Int.natCast_add,yog ch n]
  cases ch n<;>simp
structure Ord (n:Nat) (o nu:Nat->Nat):Prop where
 ol: ∀i,i<n->o i<n
 nl: ∀c,c<n->nu c<n
 no: ∀i,i<n->nu (o i)=i
 on: ∀c,c<n->o (nu c)=c
def rnF (nu:Nat->Nat) (x:Nat):Nat:=4*nu (x/4)+x % 4
def rnS (s:List Int) (o:Nat->Nat) (n:Nat):List Int:=(List.range n).map fun i=>s.getD (o i) 0
def rnM (m:List Int) (o nu:Nat->Nat) (n:Nat):List Int:=(List.range (4*n)).map fun y=>(rnF nu (m.getD (rnF o y) 0).toNat:Int)
section
variable {s m:List Int} {L:Int} {o nu:Nat->Nat}
theorem ylw {n:Nat} {o nu:Nat->Nat} (h: ∀i,i<n->nu (o i)=i) {x:Nat} (hx:x<4*n):rnF nu (rnF o x)=x:=by
 have:=h (x/4) (by omega)
 unfold rnF
 rw [show (4*o (x/4)+x % 4)/4=o (x/4) by omega,this];omega
theorem yzv (hp:PmOk m s.length) (h:Ord s.length o nu):Rel s.length (rnF nu) (rnF o) m (rnM m o nu s.length):=by
 have fl: ∀x,x<4*s.length->rnF nu x<4*s.length:=fun x hx=>by have:=h.nl (x/4) (by omega);unfold rnF;omega
 refine ⟨fl,fun x hx=>by have:=h.ol (x/4) (by omega);unfold rnF;omega,fun x hx=>ylw h.on hx,fun x hx=>ylw h.no hx,by simp [rnM],fun x hx=>?_⟩
 unfold rnM
 have:=fl x hx
 simp only [List.getD_eq_getElem?_getD,List.getElem?_map,List.getElem?_range this,Option.map_some,Option.getD_some]
 rw [ylw h.on hx]
theorem y3e (nu:Nat->Nat) (c:Nat):rnF nu (4*c)=4*nu c/\rnF nu (4*c+1)=4*nu c+1/\rnF nu (4*c+2)=4*nu c+2/\rnF nu (4*c+3)=4*nu c+3:=by
 unfold rnF
 rw [show 4*c/4=c by omega,show (4*c+1)/4=c by omega,show (4*c+2)/4=c by omega,show (4*c+3)/4=c by omega]
 omega
theorem y2r (hv:yal s m L=true) (h:Ord s.length o nu):yal (rnS s o s.length) (rnM m o nu s.length) L=true:=by
 have v:=yb2 hv
 have hp:=pmOk hv
 have sg: ∀i,i<s.length->(rnS s o s.length).getD i 0=s.getD (o i) 0:=fun i hi=>by
  unfold rnS
  simp only [List.getD_eq_getElem?_getD,List.getElem?_map,List.getElem?_range hi,Option.map_some,Option.getD_some]
 refine yzm hv (by simp [rnS]) (yzv hp h) (fun i hi=>by rw [sg i hi];exact v.sg _ (h.ol i hi)) false (fun x hx=>?_) (.inl fun x hx=>?_)
 ·rw [Bool.false_xor]
  obtain ⟨c,hc⟩: ∃c,x/4=c:=⟨_,rfl⟩
  have hx4:=four x
  rw [hc] at hx4
  have hcl:c<s.length:=by omega
  obtain ⟨a0,a1,a2,a3⟩:=ynb s c
  obtain ⟨b0,b1,b2,b3⟩:=ynb (rnS s o s.length) (nu c)
  rw [sg _ (h.nl c hcl),h.on c hcl] at b1 b3
  obtain ⟨r0,r1,r2,r3⟩:=y3e nu c
  rcases hx4 with rfl|rfl|rfl|rfl
  ·rw [r0,b0,a0]
  ·rw [r1,b1,a1]
  ·rw [r2,b2,a2]
  ·rw [r3,b3,a3]
 ·have hd:Sp.siD x/4=x/4:=Sp.siD_div x
  unfold rnF
  rw [hd]
  unfold Sp.siD
  omega
theorem y9i (hv:yal s m L=true) (h:Ord s.length o nu) (Ln j:Nat) (e:Int):brT (rnM m o nu s.length) s.length Ln j e=brT m s.length Ln j e:=by
 have hp:=pmOk hv
 have bit: ∀k i,i<s.length->chB (nob (fun i=>chB k (o i)) s.length) i=chB k (o i):=fun k i hi=>yu3 _ _ i hi
 refine y6i (fun k=>nob (fun i=>chB k (o i)) s.length) (fun k hk=>ysq _ _) (fun k l hk hl e=>y6j hk hl fun c hc=>?_) (fun k hk=>y6h (yzv hp h) hp fun x hx=>?_) (fun k hk=>?_) j e
 ·have h1:=bit k (nu c) (h.nl c hc)
  have h2:=bit l (nu c) (h.nl c hc)
  rw [h.on c hc] at h1 h2
  rw [←h1,←h2]
  rw [e]
 ·obtain ⟨c,hc⟩: ∃c,x/4=c:=⟨_,rfl⟩
  have hx4:=four x
  rw [hc] at hx4
  have hcl:c<s.length:=by omega
  have hd:rnF nu x/4=nu c:=by unfold rnF;rw [hc];omega
  rw [hd,hc,bit k (nu c) (h.nl c hcl),h.on c hcl]
  generalize chB k c=b
  obtain ⟨r0,r1,r2,r3⟩:=y3e nu c
  obtain ⟨j0,j1,j2,j3⟩:=jn4 b c
  obtain ⟨i0,i1,i2,i3⟩:=jn4 b (nu c)
  rcases hx4 with rfl|rfl|rfl|rfl
  ·rw [r0,i0,j0,Int.toNat_natCast];cases b<;>simp [r1,r3]
  ·rw [r1,i1,j1,Int.toNat_natCast];cases b<;>simp [r0,r2]
  ·rw [r2,i2,j2,Int.toNat_natCast];cases b<;>simp [r1,r3]
  ·rw [r3,i3,j3,Int.toNat_natCast];cases b<;>simp [r0,r2]
 ·have e1:(cntB (nob (fun i=>chB k (o i)) s.length) s.length:Int)=cntB k s.length:=by
   rw [yf3,yf3,yh7 fun i hi=>bit k i hi,yog,yog]
   exact yfh (fun c=>if chB k c then 1 else 0) o h.ol fun x y hx hy e=>by rw [←h.no x hx,e,h.no y hy]
  unfold wB;rw [e1]
end
end Go.Proofs.YtphjphpmfflfpaaDoor
