/- Layer 1: strands, components. -/
import Derived.Test.YtfgbnalnbdhimaaGreatDoorZi
import Derived.Test.YtfgbnalnbdhimaaGreatDoorZc
import Derived.Test.YtfgbnalnbdhimaaGreatDoorZa
import Derived.Test.YtfgbnalnbdhimaaGreatDoorZf
import Derived.Shelf.Strings.BuilderK
import Derived.WalkKit
import Derived.BigCall
import Derived.Test.YtfgbnalnbdhimaaGreatDoorProg
import Derived.Test.YtfgbnalnbdhimaaGreatDoorSh
import Derived.Test.YtfgbnalnbdhimaaGreatDoorGa
import Derived.Lib.ItoaLen
import Derived.Lib.AppendIntMem
set_option linter.unusedSimpArgs false
set_option linter.unusedVariables false
namespace Go.Proofs.YtfgbnalnbdhimaaGreatDoor
open Go Go.RowKit
set_option maxRecDepth 100000
set_option maxHeartbeats 4000000
def y6v:TbA:=[(3,[[9,10],[9,10],[9,10],[6,7,8],[6,7,8],[],[]],[[],[],[],[0,1,2],[0,1,2],[],[]])]
def y6w:TbT:=[(3, .node [(0, .node [(1, .node [(2,trD [3,4,5,6]),(3, .node [(2,trD [4,5,6]),(4,trD [2,5,6])])]),(3, .node [(1, .node [(2,trD [4,5,6]),(4,trD [2,5,6])]),(4,trD [1,2,5,6])])]),(3, .node [(0, .node [(1, .node [(2,trD [4,5,6]),(4,trD [2,5,6])]),(4,trD [1,2,5,6])]),(4,trD [0,1,2,5,6])])])]
def ygc (s m:List Int) (L:Int):List (List Int):=if ya4 s m L then yaq s m else []
theorem y4x (s m:List Int) (L:Int) (hv:ycm s m L) (h:Nat) (hh:h<4*s.length):(orbF (yb0 m) m.length h).length<=m.length/\(∀x∈orbF (yb0 m) m.length h,0<=x/\x<m.length)/\
  Fn Tryz.prog 113 [I h, .fn 97 [.rp (dgC s m L) 0]] (roI (orbF (yb0 m) m.length h)):=by
 have hR:InR s.length (h:Int):=by unfold InR;omega
 have hl:=hv.len
 have h64:=hv.s64
 have hof:=yd0 (yhs hv.prd) hR
 rw [←hl] at hof
 obtain ⟨_,o2,_,_,_,o6,_,k,hk,hper,e⟩:=hof
 refine ⟨o6,fun x hx=>by have:=o2 x hx;unfold InR at this;omega,?_⟩
 rw [e]
 refine y1k _ _ (yb0 m) h k hper (by omega) fun j hj=>?_
 have hr:=(yhs hv.prd).it hR j
 have hr2:=hv.prd.rng hr
 unfold InR at hr hr2
 exact yni s m L _ hr.1 (by omega) hr2.1 (by omega)
theorem ymi (s m:List Int) (L:Int):Fn Tryz.prog 69 [dgA s m L] (roLL (ygc s m L)):=by
 refine Fn.introL [.tmp 2] Tryz.func69 rfl rfl (by decide) (by simp [Tryz.ntmps69]) ?_;rw [Tryz.ntmps69]
 repeat' (first|omega|(try apply yaa);simp only [go_sem]|apply yab<;>(intro h_;(try simp only [h_]);revert h_)|apply And.intro|with_reducible intro h_|trivial)
 refine ⟨yae.fn rfl (yen s m L) ?_⟩
 cases hv:ya4 s m L with
 |false=>
  repeat' (first|omega|(try apply yaa);simp only [go_sem]|apply yab<;>(intro h_;(try simp only [h_]);revert h_)|apply And.intro|with_reducible intro h_|trivial)
  unfold ygc
  rw [hv]
  exact LeA.nils (by omega) rfl
 |true=>
  have v1:=ya8 hv
  have h64:=v1.s64
  have hl:=v1.len
  repeat' (first|omega|(try apply yaa);simp only [go_sem]|apply yab<;>(intro h_;(try simp only [h_]);revert h_)|apply And.intro|with_reducible intro h_|trivial)
  refine ⟨yae.frz [0] rfl (by simp only [go_sem]) (by simp only [go_sem]) (by simp only [go_sem]) (by simp only [go_sem]) rfl rfl rfl (yae.fn rfl (yyq m.length _ _ (dgC s m L) (outB s) (orbF (yb0 m) m.length) (by omega) (fun h hh=>yoi s m L h (by omega) (by omega) (by omega)) (fun h hh _=>y4x s m L v1 h (by omega))) ?_)⟩
  repeat' (first|omega|(try apply yaa);simp only [go_sem]|apply yab<;>(intro h_;(try simp only [h_]);revert h_)|apply And.intro|with_reducible intro h_|trivial)
  unfold ygc yaq
  rw [hv]
  exact LeA.refl _
theorem yoj (s m:List Int) (L:Int):Fn Tryz.prog 35 [dgA s m L] (I (if ya4 s m L then (yaq s m).length+L else 0)):=by
 refine Fn.intro [.tmp 2] Tryz.func35 rfl rfl (by decide) (by simp [Tryz.ntmps35]) ?_;rw [Tryz.ntmps35]
 repeat' (first|omega|(try apply yaa);simp only [go_sem]|apply yab<;>(intro h_;(try simp only [h_]);revert h_)|apply And.intro|with_reducible intro h_|trivial)
 refine ⟨yae.fn rfl (yen s m L) ?_⟩
 have hS:=ymi s m L
 unfold ygc at hS
 have hsl:=ycn s m
 cases hv:ya4 s m L with
 |false=>
  repeat' (first|omega|(try apply yaa);simp only [go_sem]|apply yab<;>(intro h_;(try simp only [h_]);revert h_)|apply And.intro|with_reducible intro h_|trivial)
 |true=>
  rw [hv,if_pos rfl] at hS
  have v1:=ya8 hv
  have h64:=v1.s64
  have hl:=v1.len
  have h0:=v1.l0
  have h1:=v1.l64
  repeat' (first|omega|(first|apply yaa|refine tbN y6v ?_|refine tbT y6w ?_|skip);simp only [go_sem]|apply yab<;>(intro h_;(try simp only [h_]);revert h_)|apply And.intro|with_reducible intro h_|trivial)
  refine ⟨ybd.fn rfl hS ?_⟩
  repeat' (first|omega|(try apply yaa);simp only [go_sem]|apply yab<;>(intro h_;(try simp only [h_]);revert h_)|apply And.intro|with_reducible intro h_|trivial)
end Go.Proofs.YtfgbnalnbdhimaaGreatDoor
set_option linter.unusedSimpArgs false
set_option linter.unusedVariables false
namespace Go.Proofs.YtfgbnalnbdhimaaGreatDoor
open Go Go.RowKit
set_option maxRecDepth 100000
set_option maxHeartbeats 4000000
def yov (s m:List Int) (L:Int):Int×Bool:=if ya4 s m L then (match badO s m with|some c=>(c,false)|none=>(-1,true)) else (-1,false)
theorem yn9 {α:Type} (l:List α) (k:Nat) (d:α) (h:k<l.length):l.drop k=l.getD k d::l.drop (k+1):=by
 rw [List.drop_eq_getElem_cons h];simp [h]
theorem yok (s m:List Int) (L:Int):Fn Tryz.prog 66 [dgA s m L] (.tup [I (yov s m L).1, .bool (yov s m L).2]):=by
 refine Fn.intro [.tmp 2, .tmp 3] Tryz.func66 rfl rfl (by decide) (by simp [Tryz.ntmps66]) ?_;rw [Tryz.ntmps66]
 repeat' (first|omega|(try apply yaa);simp only [go_sem]|apply yab<;>(intro h_;(try simp only [h_]);revert h_)|apply And.intro|with_reducible intro h_|trivial)
 refine ⟨yae.fn rfl (yen s m L) ?_⟩
 have hS:=ymi s m L
 unfold ygc at hS
 have hsl:=ycn s m
 unfold yov
 cases hv:ya4 s m L with
 |false=>
  repeat' (first|omega|(try apply yaa);simp only [go_sem]|apply yab<;>(intro h_;(try simp only [h_]);revert h_)|apply And.intro|with_reducible intro h_|trivial)
 |true=>
  rw [hv,if_pos rfl] at hS
  have v1:=ya8 hv
  have h64:=v1.s64
  have hl:=v1.len
  have hmem:=fun l (hl:l∈yaq s m)=>yf1 v1.prd hl
  unfold badO
  repeat' (first|omega|(try apply yaa);simp only [go_sem]|apply yab<;>(intro h_;(try simp only [h_]);revert h_)|apply And.intro|with_reducible intro h_|trivial)
  refine ⟨yae.fn rfl hS ?_⟩
  repeat' (first|omega|(try apply yaa);simp only [go_sem]|apply yab<;>(intro h_;(try simp only [h_]);revert h_)|apply And.intro|with_reducible intro h_|trivial)
  generalize yaq s m=ls at*
  refine yai.intro (fun n fr H=> ∃(i:Nat) (v:List Bool),i<=ls.length/\n=ls.length-i/\v.length=s.length/\ydr v (ls.drop i)=ydr (List.replicate s.length false) ls/\fr=[(19,I i),(18,I ls.length),(17,roLL ls),(4, .sl 1 1 0 s.length)]/\H=[(1, .cells 4 (.bools v))]) ?_ ?_
  ·refine ⟨_,_,_,?_,0,List.replicate s.length false,by omega,rfl,by simp,rfl,rfl,rfl⟩
   refine Wk.sub ?_ ?_<;>simp only [go_sem]
  rintro n fr H ⟨i,v,hi,rfl,hvl,hbad,rfl,rfl⟩
  by_cases hil:i<ls.length
  ·have hg:=y0s ls i hil
   have hme:=hmem (ls.getD i []) (by simp [hil])
   rw [yn9 ls i [] hil] at hbad
   generalize ls.getD i []=l at*
   repeat' (first|omega|(try apply yaa);simp only [go_sem,hg]|apply yab<;>(intro h_;(try simp only [h_]);revert h_)|apply And.intro|with_reducible intro h_|trivial)
   refine yai.intro (fun n fr H=> ∃(k:Nat) (v':List Bool),k<=l.length/\n=l.length-k/\v'.length=s.length/\badS v' (l.drop k)=badS v l/\fr=[(25,I k),(24,I l.length),(23,roI l),(19,I i),(18,I ls.length),(17,roLL ls),(4, .sl 1 1 0 s.length)]/\H=[(1, .cells 4 (.bools v'))]) ?_ ?_
   ·refine ⟨_,_,_,?_,0,v,by omega,rfl,hvl,rfl,rfl,rfl⟩
    refine Wk.sub ?_ ?_<;>simp only [go_sem]
   rintro n fr H ⟨k,v',hk,rfl,hvl',hbs,rfl,rfl⟩
   by_cases hkl:k<l.length
   ·have hx:=hme.2 (l.getD k 0) (by simp [hkl])
    rw [yn9 l k 0 hkl] at hbs
    have e1:(l.getD k 0).tdiv 4=l.getD k 0/4:=yc1 hx.1
    have e2:(l.getD k 0).tmod 2=l.getD k 0 % 2:=ysw hx.1
    have hstep: ¬(v'.getD (l.getD k 0/4).toNat false=false/\l.getD k 0 % 2=0)->badS (v'.set (l.getD k 0/4).toNat true) (l.drop (k+1))=badS v l:=fun hn=>by
     rw [←hbs];simp only [badS];rw [if_neg hn]
    have hhit:(v'.getD (l.getD k 0/4).toNat false=false/\l.getD k 0 % 2=0)->ydr (List.replicate s.length false) ls=some (l.getD k 0/4):=fun hn=>by
     rw [←hbad]
     simp only [badS] at hbs
     rw [if_pos hn] at hbs
     simp only [ydr,←hbs]
    repeat' (first|omega|(try apply yaa);simp only [go_sem,e1,e2]|apply yab<;>(intro h_;(try simp only [h_]);revert h_)|apply And.intro|with_reducible intro h_|trivial)
    ·rw [hhit ⟨by assumption,by assumption⟩]
    ·rw [hhit ⟨by assumption,by assumption⟩]
    all_goals refine ⟨_,_,_,?_,?_,⟨k+1,v'.set (l.getD k 0/4).toNat true,by omega,rfl,by simp [hvl'],hstep (by simp_all),rfl,rfl⟩⟩
    all_goals first|omega|refine Wk.sub ?_ ?_<;>simp only [go_sem]
   ·obtain rfl:k=l.length:=by omega
    rw [List.drop_length] at hbs
    repeat' (first|omega|(try apply yaa);simp only [go_sem]|apply yab<;>(intro h_;(try simp only [h_]);revert h_)|apply And.intro|with_reducible intro h_|trivial)
    refine ⟨_,_,_,?_,?_,⟨i+1,v',by omega,rfl,hvl',?_,rfl,rfl⟩⟩
    ·omega
    ·refine Wk.sub ?_ ?_<;>simp only [go_sem]
    ·rw [←hbad];simp only [ydr,←hbs,badS]
  ·obtain rfl:i=ls.length:=by omega
   rw [List.drop_length] at hbad
   rw [←hbad]
   repeat' (first|omega|(try apply yaa);simp only [go_sem]|apply yab<;>(intro h_;(try simp only [h_]);revert h_)|apply And.intro|with_reducible intro h_|trivial)
end Go.Proofs.YtfgbnalnbdhimaaGreatDoor
set_option linter.unusedSimpArgs false
set_option linter.unusedVariables false
namespace Go.Proofs.YtfgbnalnbdhimaaGreatDoor
open Go Go.RowKit
set_option maxRecDepth 100000
set_option maxHeartbeats 4000000
def yqz:TbA:=[(3,[[14],[13],[14],[],[],[]],[[],[0],[1],[],[],[]]),(5,[[18],[17],[18],[],[],[]],[[],[0],[1],[],[],[]]),(12,[[42,43],[41,43],[41,42],[42,43],[43],[],[]],[[],[0],[0,1],[1,2],[2],[],[]])]
def yq0:TbT:=[(3, .node [(0, .node [(1,trD [2,3,4,5]),(2,trD [1,3,4,5])]),(1,trD [0,2,3,4,5])]),(5, .node [(0, .node [(1,trD [2,3,4,5]),(2,trD [1,3,4,5])]),(1,trD [0,2,3,4,5])]),(12, .node [(0, .node [(1, .node [(2,trD [3,4,5,6]),(3, .node [(2,trD [4,5,6]),(4,trD [2,5,6])])]),(2, .node [(1,trD [3,4,5,6]),(3,trD [1,4,5,6])]),(3, .node [(1, .node [(2,trD [4,5,6]),(4,trD [2,5,6])]),(2,trD [1,4,5,6])])]),(1, .node [(0, .node [(2,trD [3,4,5,6]),(3, .node [(2,trD [4,5,6]),(4,trD [2,5,6])])]),(2,trD [0,3,4,5,6])]),(2, .node [(0, .node [(1,trD [3,4,5,6]),(3,trD [1,4,5,6])]),(1,trD [0,3,4,5,6])])])]
theorem yh2:LeA (.agg [.nils, .nils,I 0]) (dgA [] [] 0):=LeA.aggL (.cons (LeA.nils (by omega) rfl) (.cons (LeA.nils (by omega) rfl) (.cons (LeA.refl _) .nil)))
def resA (s m:List Int) (L:Int):AV:=if ya4 s m L then (match badO s m with
    |some c=> .tup [dgA (swS s c.toNat) (swM s m c.toNat) L,dgA (smS s c.toNat) (smM s m c.toNat) (smLp s m c.toNat L),I c,I 0]
    |none=> .tup [dgA [] [] 0,dgA [] [] 0,I (-1),I 12]) else .tup [dgA [] [] 0,dgA [] [] 0,I (-1),I 1]
theorem ymj (s m:List Int) (L:Int) (hL:ya4 s m L=true->L<=62):Fn Tryz.prog 31 [dgA s m L] (resA s m L):=by
 have hD:=yok s m L
 unfold yov at hD
 unfold resA
 cases hv:ya4 s m L with
 |false=>
  rw [hv] at hD
  simp only [Bool.false_eq_true,if_false] at hD⊢
  refine Fn.introL [.cell 2 45, .cell 3 45, .tmp 4, .tmp 5] Tryz.func31 rfl rfl (by decide) (by simp [Tryz.ntmps31]) ?_;rw [Tryz.ntmps31]
  repeat' (first|omega|(try apply yaa);simp only [go_sem]|apply yab<;>(intro h_;(try simp only [h_]);revert h_)|apply And.intro|with_reducible intro h_|trivial)
  refine ⟨yae.fn rfl hD ?_⟩
  repeat' (first|omega|(first|apply yaa|refine tbN yqz ?_|refine tbT yq0 ?_|skip);simp only [go_sem]|apply yab<;>(intro h_;(try simp only [h_]);revert h_)|apply And.intro|with_reducible intro h_|trivial)
  all_goals exact LeA.tupL (.cons yh2 (.cons yh2 (.cons (LeA.refl _) (.cons (LeA.refl _) .nil))))
 |true=>
  have hL:=hL hv
  have v1:=ya8 hv
  rw [hv] at hD
  simp only [if_true] at hD⊢
  cases hbo:badO s m with
  |none=>
   rw [hbo] at hD
   simp only at hD⊢
   refine Fn.introL [.cell 2 45, .cell 3 45, .tmp 4, .tmp 5] Tryz.func31 rfl rfl (by decide) (by simp [Tryz.ntmps31]) ?_;rw [Tryz.ntmps31]
   repeat' (first|omega|(try apply yaa);simp only [go_sem]|apply yab<;>(intro h_;(try simp only [h_]);revert h_)|apply And.intro|with_reducible intro h_|trivial)
   refine ⟨yae.fn rfl hD ?_⟩
   repeat' (first|omega|(first|apply yaa|refine tbN yqz ?_|refine tbT yq0 ?_|skip);simp only [go_sem]|apply yab<;>(intro h_;(try simp only [h_]);revert h_)|apply And.intro|with_reducible intro h_|trivial)
   all_goals exact LeA.tupL (.cons yh2 (.cons yh2 (.cons (LeA.refl _) (.cons (LeA.refl _) .nil))))
  |some c=>
   rw [hbo] at hD
   simp only at hD⊢
   obtain ⟨c0,c1⟩:=ypk v1.prd hbo
   obtain ⟨c,rfl⟩: ∃n:Nat,c=n:=⟨c.toNat,by omega⟩
   have hsm:=yyp s m L c (by omega) hL hv _ rfl
   have hsw:=yyn s m L c (by omega) (by omega) hv
   refine Fn.introL [.cell 2 45, .cell 3 45, .tmp 4, .tmp 5] Tryz.func31 rfl rfl (by decide) (by simp [Tryz.ntmps31]) ?_;rw [Tryz.ntmps31]
   repeat' (first|omega|(try apply yaa);simp only [go_sem]|apply yab<;>(intro h_;(try simp only [h_]);revert h_)|apply And.intro|with_reducible intro h_|trivial)
   refine ⟨yae.fn rfl hD ?_⟩
   repeat' (first|omega|(try apply yaa);simp only [go_sem]|apply yab<;>(intro h_;(try simp only [h_]);revert h_)|apply And.intro|with_reducible intro h_|trivial)
   refine ⟨yae.fn rfl hsm ?_⟩
   repeat' (first|omega|(try apply yaa);simp only [go_sem]|apply yab<;>(intro h_;(try simp only [h_]);revert h_)|apply And.intro|with_reducible intro h_|trivial)
   refine ⟨yae.fn rfl hsw ?_⟩
   repeat' (first|omega|(first|apply yaa|refine tbN yqz ?_|refine tbT yq0 ?_|skip);simp only [go_sem]|apply yab<;>(intro h_;(try simp only [h_]);revert h_)|apply And.intro|with_reducible intro h_|trivial)
   all_goals exact LeA.refl _
end Go.Proofs.YtfgbnalnbdhimaaGreatDoor
namespace Go.Proofs.YtfgbnalnbdhimaaGreatDoor
open Go Go.RowKit
set_option maxRecDepth 100000
set_option maxHeartbeats 8000000
set_option linter.unusedVariables false
set_option linter.unusedSimpArgs false
theorem ytr (b:Bool) (p:List (Int×Int)):Fn Tryz.prog 34 [bvP b p] (.bool b):=by
 refine Fn.intro [.tmp 2] Tryz.func34 rfl rfl (by decide) (by simp [Tryz.ntmps34]) ?_;rw [Tryz.ntmps34]
 repeat' (first|omega|(try apply yaa);simp only [go_sem]|apply yab<;>(intro h_;(try simp only [h_]);revert h_)|apply And.intro|with_reducible intro h_|trivial)
end Go.Proofs.YtfgbnalnbdhimaaGreatDoor
namespace Go.Proofs.YtfgbnalnbdhimaaGreatDoor
open Go Go.RowKit
set_option maxRecDepth 100000
set_option maxHeartbeats 16000000
set_option linter.unusedVariables false
set_option linter.unusedSimpArgs false
def PwOk (l:List (Int×AV)):Prop:= ∀(n:Int) (x:AV),ycb l n=some x-> ∃(k:Nat) (q:List (Int×Int)),n=k/\yag q (Hs.XE k)/\x=bvP false q
theorem PwOk.nil:PwOk []:=fun n x h=>by simp [ycb] at h
theorem yyr (l:List (Int×AV)) (n:Int) (v:AV) (n':Int):ycb (lput l n v) n'=if n=n' then some v else ycb l n':=by
 induction l with
 |nil=>
  simp only [lput,ycb,List.find?_cons,List.find?_nil]
  by_cases h:n=n'
  ·simp [h]
  ·rw [if_neg h,beq_eq_false_iff_ne.2 h]
 |cons q l ih=>
  simp only [lput]
  by_cases hq:q.1=n
  ·rw [if_pos hq]
   simp only [ycb,List.find?_cons]
   by_cases h:n=n'
   ·simp [h]
   ·have h2: ¬q.1=n':=by rw [hq];exact h
    rw [if_neg h,beq_eq_false_iff_ne.2 h,beq_eq_false_iff_ne.2 h2]
  ·rw [if_neg hq]
   simp only [ycb,List.find?_cons] at ih⊢
   by_cases h:q.1=n'
   ·have: ¬n=n':=fun e=>hq (h.trans e.symm)
    simp [h,this]
   ·simp only [beq_eq_false_iff_ne.2 h];exact ih
theorem PwOk.put {l:List (Int×AV)} (h:PwOk l) {k:Nat} {q:List (Int×Int)} (hq:yag q (Hs.XE k)):PwOk (lput l k (bvP false q)):=fun n x hx=>by
 rw [yyr] at hx
 by_cases e:(k:Int)=n
 ·rw [if_pos e] at hx;cases hx;exact ⟨k,q,e.symm,hq,rfl⟩
 ·rw [if_neg e] at hx;exact h n x hx
abbrev rsO:AObj:= .cells 63 (.lst [.fn 30 [.ptr 4 0, .ptr 5 0, .ptr 3 0]])
abbrev okO:AObj:= .cells 4 (.lst [.bool true])
structure HB (H:Hp) (l:List (Int×AV)):Prop where
 h5:hget H 5=some rsO
 h4:hget H 4=some okO
 h3:hget H 3=some (.cells 62 (.lst [.mp 2]))
 h2:hget H 2=some (.imap 62 l)
 lt:5<hnew H
theorem yk3: ∀(H:Hp) (i:Nat) (o:AObj),hnew (hset H i o)=hnew H
 |[],_,_=>rfl
 |(j,u)::H,i,o=>by
  simp only [hset]
  by_cases h:j=i
  ·rw [if_pos h,h];rfl
  ·rw [if_neg h];simp only [hnew,yk3 H i o]
theorem yi0 {i:Nat} {H:Hp}: ∀{X:Hp},(∀q∈X,q.1≠i)->hget (X++H) i=hget H i
 |[],_=>rfl
 |(j,u)::X,h=>by
  rw [List.cons_append]
  simp only [hget]
  rw [if_neg (h (j,u) (List.mem_cons_self ..))]
  exact yi0 fun q hq=>h q (List.mem_cons_of_mem _ hq)
theorem yi1 {H:Hp}: ∀X:Hp,hnew H<=hnew (X++H)
 |[]=>Nat.le_refl _
 |(j,u)::X=>by
  have:=yi1 (H:=H) X
  rw [List.cons_append]
  simp only [hnew]
  omega
theorem y4y {H X:Hp} {l:List (Int×AV)} (hH:HB H l) (l':List (Int×AV)) (hX: ∀q∈X,hnew H<=q.1):HB (X++hset H 2 (.imap 62 l')) l'/\hnew H<=hnew (X++hset H 2 (.imap 62 l'))/\ ∀i,i<hnew H->i≠2->hget (X++hset H 2 (.imap 62 l')) i=hget H i:=by
 obtain ⟨k5,k4,k3,k2,kN⟩:=hH
 have hn:=yi1 (H:=hset H 2 (.imap 62 l')) X
 rw [yk3] at hn
 have hg: ∀i,i<hnew H->hget (X++hset H 2 (.imap 62 l')) i=hget (hset H 2 (.imap 62 l')) i:=fun i hi=>yi0 fun q hq he=>by
  have:=hX q hq;omega
 refine ⟨⟨?_,?_,?_,?_,by omega⟩,hn,fun i hi h2=>by rw [hg i hi,yaf (Ne.symm h2)]⟩
 ·rw [hg 5 kN,yaf (by decide)];exact k5
 ·rw [hg 4 (by omega),yaf (by decide)];exact k4
 ·rw [hg 3 (by omega),yaf (by decide)];exact k3
 ·rw [hg 2 (by omega),ya0 k2]
theorem yq1 {H H2 X:Hp} {l:List (Int×AV)} {N:Nat} (hH:HB H2 l) (hN:N<=hnew H2) (h5:5<N) (hg: ∀i,i<N->i≠2->hget H2 i=hget H i) (n1:Nat) (h1:N<=n1) (o:AObj) (hX: ∀q∈X,N<=q.1):HB (X++hset H2 n1 o) l/\N<=hnew (X++hset H2 n1 o)/\ ∀i,i<N->i≠2->hget (X++hset H2 n1 o) i=hget H i:=by
 obtain ⟨k5,k4,k3,k2,kN⟩:=hH
 have hn:=yi1 (H:=hset H2 n1 o) X
 rw [yk3] at hn
 have hs: ∀i,i<N->hget (X++hset H2 n1 o) i=hget H2 i:=fun i hi=>by
  rw [yi0 fun q hq he=>by have:=hX q hq;omega,yaf (by omega)]
 refine ⟨⟨?_,?_,?_,?_,by omega⟩,by omega,fun i hi h2=>by rw [hs i hi];exact hg i hi h2⟩
 ·rw [hs 5 h5];exact k5
 ·rw [hs 4 (by omega)];exact k4
 ·rw [hs 3 (by omega)];exact k3
 ·rw [hs 2 (by omega)];exact k2
theorem yq2 {WB MB:Nat} {F:List Int->List Int->Nat->Int->Int} (hF:HomV WB MB F): ∀(s m:List Int) (L:Nat),ybk s m L->s.length<=WB/\3*s.length+L<=MB-> ∀(p:List (Int×Int)),yag p (F s m L)-> ∀(l:List (Int×AV)),PwOk l-> ∀(H:Hp),HB H l-> ∀(fr:Fr) (K:AV->Fr->Hp->Prop),
  (∀(H':Hp) (l':List (Int×AV)),PwOk l'->HB H' l'->hnew H<=hnew H'->(∀i,i<hnew H->i≠2->hget H' i=hget H i)->K (bvP false p) fr H')->
  yba Tryz.prog 30 [dgA s m L, .ptr 4 0, .ptr 5 0, .ptr 3 0] fr H K:=by
 refine yg8 (fun s m L h hb hMB p hp l hl H hH fr K hK=>?_) fun s m L c L' h hb hc hsg hL' h1 e1 h2 e2 ih1 ih2 hMB p hp l hl H hH fr K hK=>?_
 ·obtain ⟨k5,k4,k3,k2,kN⟩:=hH
  have hR:=ymj s m L (fun _=>by have:=h.len;omega)
  have hC:=yoj s m L
  unfold resA at hR
  rw [if_pos h.val] at hR hC
  rw [hb] at hR
  dsimp only at hR
  have hs:(yaq s m).length+L<=45:=by
   have h3:=ycn s m
   have h4:=(ya8 h.val).len
   have:=h.len
   have:=h.n14
   omega
  have hs1:1<=(yaq s m).length+L:=by
   rcases h.pos with h3|h3
   ·have:=Sp.strands_pos (ya8 h.val) h3;omega
   ·omega
  obtain ⟨k,hk⟩: ∃k,L+(yaq s m).length=k:=⟨_,rfl⟩
  have hpk:yag p (Hs.XE k):=hp.congr fun e=>by rw [hF.desc h hMB hb,hk]
  have ek:((yaq s m).length:Int)+(L:Int)=k:=by omega
  rw [ek] at hC
  have hB:=ytr false p
  have hCi:=yu9 k (by omega) hpk
  have s24: ∀o,hget (hset H 2 o) 4=some okO:=fun o=>by rw [yaf (by decide)];exact k4
  have w4:hset H 4 okO=H:=yb7 k4
  have w24: ∀o,hset (hset H 2 o) 4 okO=hset H 2 o:=fun o=>yb7 (s24 o)
  have hE:=fun (X:Hp) (l':List (Int×AV))=>y4y (X:=X) ⟨k5,k4,k3,k2,kN⟩ l'
  generalize hN:hnew H=N at*
  obtain ⟨N1,EN1⟩: ∃x,N+1=x:=⟨_,rfl⟩
  obtain ⟨N2,EN2⟩: ∃x,N1+1=x:=⟨_,rfl⟩
  obtain ⟨N3,EN3⟩: ∃x,N2+1=x:=⟨_,rfl⟩
  obtain ⟨N4,EN4⟩: ∃x,N3+1=x:=⟨_,rfl⟩
  obtain ⟨N5,EN5⟩: ∃x,N4+1=x:=⟨_,rfl⟩
  have FqN2:(N=2)=False:=eq_false (by omega)
  have Fq2N:(2=N)=False:=eq_false (by omega)
  have FqN3:(N=3)=False:=eq_false (by omega)
  have Fq3N:(3=N)=False:=eq_false (by omega)
  have FqN4:(N=4)=False:=eq_false (by omega)
  have Fq4N:(4=N)=False:=eq_false (by omega)
  have FqN5:(N=5)=False:=eq_false (by omega)
  have Fq5N:(5=N)=False:=eq_false (by omega)
  have FqN12:(N1=2)=False:=eq_false (by omega)
  have Fq2N1:(2=N1)=False:=eq_false (by omega)
  have FqN13:(N1=3)=False:=eq_false (by omega)
  have Fq3N1:(3=N1)=False:=eq_false (by omega)
  have FqN14:(N1=4)=False:=eq_false (by omega)
  have Fq4N1:(4=N1)=False:=eq_false (by omega)
  have FqN15:(N1=5)=False:=eq_false (by omega)
  have Fq5N1:(5=N1)=False:=eq_false (by omega)
  have FqN22:(N2=2)=False:=eq_false (by omega)
  have Fq2N2:(2=N2)=False:=eq_false (by omega)
  have FqN23:(N2=3)=False:=eq_false (by omega)
  have Fq3N2:(3=N2)=False:=eq_false (by omega)
  have FqN24:(N2=4)=False:=eq_false (by omega)
  have Fq4N2:(4=N2)=False:=eq_false (by omega)
  have FqN25:(N2=5)=False:=eq_false (by omega)
  have Fq5N2:(5=N2)=False:=eq_false (by omega)
  have FqN32:(N3=2)=False:=eq_false (by omega)
  have Fq2N3:(2=N3)=False:=eq_false (by omega)
  have FqN33:(N3=3)=False:=eq_false (by omega)
  have Fq3N3:(3=N3)=False:=eq_false (by omega)
  have FqN34:(N3=4)=False:=eq_false (by omega)
  have Fq4N3:(4=N3)=False:=eq_false (by omega)
  have FqN35:(N3=5)=False:=eq_false (by omega)
  have Fq5N3:(5=N3)=False:=eq_false (by omega)
  have FqN42:(N4=2)=False:=eq_false (by omega)
  have Fq2N4:(2=N4)=False:=eq_false (by omega)
  have FqN43:(N4=3)=False:=eq_false (by omega)
  have Fq3N4:(3=N4)=False:=eq_false (by omega)
  have FqN44:(N4=4)=False:=eq_false (by omega)
  have Fq4N4:(4=N4)=False:=eq_false (by omega)
  have FqN45:(N4=5)=False:=eq_false (by omega)
  have Fq5N4:(5=N4)=False:=eq_false (by omega)
  have FqN52:(N5=2)=False:=eq_false (by omega)
  have Fq2N5:(2=N5)=False:=eq_false (by omega)
  have FqN53:(N5=3)=False:=eq_false (by omega)
  have Fq3N5:(3=N5)=False:=eq_false (by omega)
  have FqN54:(N5=4)=False:=eq_false (by omega)
  have Fq4N5:(4=N5)=False:=eq_false (by omega)
  have FqN55:(N5=5)=False:=eq_false (by omega)
  have Fq5N5:(5=N5)=False:=eq_false (by omega)
  have FqN1N:(N1=N)=False:=eq_false (by omega)
  have FqNN1:(N=N1)=False:=eq_false (by omega)
  have FlN1N:(N1<=N)=False:=eq_false (by omega)
  have FqN2N:(N2=N)=False:=eq_false (by omega)
  have FqNN2:(N=N2)=False:=eq_false (by omega)
  have FlN2N:(N2<=N)=False:=eq_false (by omega)
  have FqN2N1:(N2=N1)=False:=eq_false (by omega)
  have FqN1N2:(N1=N2)=False:=eq_false (by omega)
  have FlN2N1:(N2<=N1)=False:=eq_false (by omega)
  have FqN3N:(N3=N)=False:=eq_false (by omega)
  have FqNN3:(N=N3)=False:=eq_false (by omega)
  have FlN3N:(N3<=N)=False:=eq_false (by omega)
  have FqN3N1:(N3=N1)=False:=eq_false (by omega)
  have FqN1N3:(N1=N3)=False:=eq_false (by omega)
  have FlN3N1:(N3<=N1)=False:=eq_false (by omega)
  have FqN3N2:(N3=N2)=False:=eq_false (by omega)
  have FqN2N3:(N2=N3)=False:=eq_false (by omega)
  have FlN3N2:(N3<=N2)=False:=eq_false (by omega)
  have FqN4N:(N4=N)=False:=eq_false (by omega)
  have FqNN4:(N=N4)=False:=eq_false (by omega)
  have FlN4N:(N4<=N)=False:=eq_false (by omega)
  have FqN4N1:(N4=N1)=False:=eq_false (by omega)
  have FqN1N4:(N1=N4)=False:=eq_false (by omega)
  have FlN4N1:(N4<=N1)=False:=eq_false (by omega)
  have FqN4N2:(N4=N2)=False:=eq_false (by omega)
  have FqN2N4:(N2=N4)=False:=eq_false (by omega)
  have FlN4N2:(N4<=N2)=False:=eq_false (by omega)
  have FqN4N3:(N4=N3)=False:=eq_false (by omega)
  have FqN3N4:(N3=N4)=False:=eq_false (by omega)
  have FlN4N3:(N4<=N3)=False:=eq_false (by omega)
  have FqN5N:(N5=N)=False:=eq_false (by omega)
  have FqNN5:(N=N5)=False:=eq_false (by omega)
  have FlN5N:(N5<=N)=False:=eq_false (by omega)
  have FqN5N1:(N5=N1)=False:=eq_false (by omega)
  have FqN1N5:(N1=N5)=False:=eq_false (by omega)
  have FlN5N1:(N5<=N1)=False:=eq_false (by omega)
  have FqN5N2:(N5=N2)=False:=eq_false (by omega)
  have FqN2N5:(N2=N5)=False:=eq_false (by omega)
  have FlN5N2:(N5<=N2)=False:=eq_false (by omega)
  have FqN5N3:(N5=N3)=False:=eq_false (by omega)
  have FqN3N5:(N3=N5)=False:=eq_false (by omega)
  have FlN5N3:(N5<=N3)=False:=eq_false (by omega)
  have FqN5N4:(N5=N4)=False:=eq_false (by omega)
  have FqN4N5:(N4=N5)=False:=eq_false (by omega)
  have FlN5N4:(N5<=N4)=False:=eq_false (by omega)
  cases hf:ycb l k with
  |none=>
   refine yba.intro [.cell 5 26] Tryz.func30 rfl rfl (by decide) (by simp [Tryz.ntmps30]) ?_;rw [Tryz.ntmps30]
   repeat' (first|omega|(try apply yaa);simp only [go_sem,hN,k2,k3,k4,k5,hf,s24,w4,w24,EN1,EN2,EN3,EN4,FqN2,Fq2N,FqN3,Fq3N,FqN4,Fq4N,FqN5,Fq5N,FqN12,Fq2N1,FqN13,Fq3N1,FqN14,Fq4N1,FqN15,Fq5N1,FqN22,Fq2N2,FqN23,Fq3N2,FqN24,Fq4N2,FqN25,Fq5N2,FqN32,Fq2N3,FqN33,Fq3N3,FqN34,Fq4N3,FqN35,Fq5N3,FqN42,Fq2N4,FqN43,Fq3N4,FqN44,Fq4N4,FqN45,Fq5N4,FqN1N,FqNN1,FlN1N,FqN2N,FqNN2,FlN2N,FqN2N1,FqN1N2,FlN2N1,FqN3N,FqNN3,FlN3N,FqN3N1,FqN1N3,FlN3N1,FqN3N2,FqN2N3,FlN3N2,FqN4N,FqNN4,FlN4N,FqN4N1,FqN1N4,FlN4N1,FqN4N2,FqN2N4,FlN4N2,FqN4N3,FqN3N4,FlN4N3]|refine cgL ?_|refine cgD ?_|apply yab<;>(intro h_;(try simp only [h_]);revert h_)|apply And.intro|with_reducible intro h_|trivial)
   all_goals
    obtain ⟨z1,z2,z3⟩:=hE [(N4,_),(N3,_),(N2,_),(N1,_),(N,_)] (lput l k (bvP false p)) (by simp only [List.forall_mem_cons];exact ⟨by omega,by omega,by omega,by omega,by omega,fun _ h=>by cases h⟩)
    exact hK _ _ (hl.put hpk) z1 z2 z3
  |some x=>
   obtain ⟨k',q',e1,e2,rfl⟩:=hl _ _ hf
   obtain rfl:k'=k:=by omega
   obtain rfl:q'=p:=e2.uniq hpk
   have e0:H=hset H 2 (.imap 62 l):=(yb7 k2).symm
   refine yba.intro [.cell 5 26] Tryz.func30 rfl rfl (by decide) (by simp [Tryz.ntmps30]) ?_;rw [Tryz.ntmps30]
   repeat' (first|omega|(try apply yaa);simp only [go_sem,hN,k2,k3,k4,k5,hf,s24,w4,w24,EN1,EN2,EN3,EN4,FqN2,Fq2N,FqN3,Fq3N,FqN4,Fq4N,FqN5,Fq5N,FqN12,Fq2N1,FqN13,Fq3N1,FqN14,Fq4N1,FqN15,Fq5N1,FqN22,Fq2N2,FqN23,Fq3N2,FqN24,Fq4N2,FqN25,Fq5N2,FqN32,Fq2N3,FqN33,Fq3N3,FqN34,Fq4N3,FqN35,Fq5N3,FqN42,Fq2N4,FqN43,Fq3N4,FqN44,Fq4N4,FqN45,Fq5N4,FqN1N,FqNN1,FlN1N,FqN2N,FqNN2,FlN2N,FqN2N1,FqN1N2,FlN2N1,FqN3N,FqNN3,FlN3N,FqN3N1,FqN1N3,FlN3N1,FqN3N2,FqN2N3,FlN3N2,FqN4N,FqNN4,FlN4N,FqN4N1,FqN1N4,FlN4N1,FqN4N2,FqN2N4,FlN4N2,FqN4N3,FqN3N4,FlN4N3]|refine cgL ?_|refine cgD ?_|apply yab<;>(intro h_;(try simp only [h_]);revert h_)|apply And.intro|with_reducible intro h_|trivial)
   all_goals
    obtain ⟨z1,z2,z3⟩:=hE [(N4,_),(N3,_),(N2,_),(N1,_),(N,_)] l (by simp only [List.forall_mem_cons];exact ⟨by omega,by omega,by omega,by omega,by omega,fun _ h=>by cases h⟩)
    rw [←e0] at z1 z2 z3
    exact hK _ _ hl z1 z2 z3
 ·obtain ⟨k5,k4,k3,k2,kN⟩:=hH
  have hR:=ymj s m L (fun _=>by have:=h.len;omega)
  unfold resA at hR
  rw [if_pos h.val] at hR
  rw [hb] at hR
  dsimp only at hR
  rw [Int.toNat_natCast,hL'] at hR
  have hlen:=h.len
  have hl1:=h1.len
  have hl2:=h2.len
  have v1:=ya8 h1.val
  have v2:=ya8 h2.val
  obtain ⟨hM1,hM2⟩:=y5w h hMB hc hL' e1 e2
  have S1:=hF.sup h1 hM1
  have S2:=hF.sup h2 hM2
  obtain ⟨q1,hq1⟩:=ygv S1 (by decide)
  obtain ⟨q2,hq2⟩:=ygv S2 (by decide)
  have B1:=hF.bnd h1 hM1
  have B2:=hF.bnd h2 hM2
  have B0:=hF.bnd h hMB
  have st:=hF.step h hMB hb hc hL' h1 h2
  have s24: ∀o,hget (hset H 2 o) 4=some okO:=fun o=>by rw [yaf (by decide)];exact k4
  have w4:hset H 4 okO=H:=yb7 k4
  have w24: ∀o,hset (hset H 2 o) 4 okO=hset H 2 o:=fun o=>yb7 (s24 o)
  have hB:=ytr false p
  generalize hN:hnew H=N at*
  obtain ⟨N1,EN1⟩: ∃x,N+1=x:=⟨_,rfl⟩
  obtain ⟨N2,EN2⟩: ∃x,N1+1=x:=⟨_,rfl⟩
  obtain ⟨N3,EN3⟩: ∃x,N2+1=x:=⟨_,rfl⟩
  obtain ⟨N4,EN4⟩: ∃x,N3+1=x:=⟨_,rfl⟩
  have FqN2:(N=2)=False:=eq_false (by omega)
  have Fq2N:(2=N)=False:=eq_false (by omega)
  have FqN3:(N=3)=False:=eq_false (by omega)
  have Fq3N:(3=N)=False:=eq_false (by omega)
  have FqN4:(N=4)=False:=eq_false (by omega)
  have Fq4N:(4=N)=False:=eq_false (by omega)
  have FqN5:(N=5)=False:=eq_false (by omega)
  have Fq5N:(5=N)=False:=eq_false (by omega)
  have FqN12:(N1=2)=False:=eq_false (by omega)
  have Fq2N1:(2=N1)=False:=eq_false (by omega)
  have FqN13:(N1=3)=False:=eq_false (by omega)
  have Fq3N1:(3=N1)=False:=eq_false (by omega)
  have FqN14:(N1=4)=False:=eq_false (by omega)
  have Fq4N1:(4=N1)=False:=eq_false (by omega)
  have FqN15:(N1=5)=False:=eq_false (by omega)
  have Fq5N1:(5=N1)=False:=eq_false (by omega)
  have FqN22:(N2=2)=False:=eq_false (by omega)
  have Fq2N2:(2=N2)=False:=eq_false (by omega)
  have FqN23:(N2=3)=False:=eq_false (by omega)
  have Fq3N2:(3=N2)=False:=eq_false (by omega)
  have FqN24:(N2=4)=False:=eq_false (by omega)
  have Fq4N2:(4=N2)=False:=eq_false (by omega)
  have FqN25:(N2=5)=False:=eq_false (by omega)
  have Fq5N2:(5=N2)=False:=eq_false (by omega)
  have FqN32:(N3=2)=False:=eq_false (by omega)
  have Fq2N3:(2=N3)=False:=eq_false (by omega)
  have FqN33:(N3=3)=False:=eq_false (by omega)
  have Fq3N3:(3=N3)=False:=eq_false (by omega)
  have FqN34:(N3=4)=False:=eq_false (by omega)
  have Fq4N3:(4=N3)=False:=eq_false (by omega)
  have FqN35:(N3=5)=False:=eq_false (by omega)
  have Fq5N3:(5=N3)=False:=eq_false (by omega)
  have FqN42:(N4=2)=False:=eq_false (by omega)
  have Fq2N4:(2=N4)=False:=eq_false (by omega)
  have FqN43:(N4=3)=False:=eq_false (by omega)
  have Fq3N4:(3=N4)=False:=eq_false (by omega)
  have FqN44:(N4=4)=False:=eq_false (by omega)
  have Fq4N4:(4=N4)=False:=eq_false (by omega)
  have FqN45:(N4=5)=False:=eq_false (by omega)
  have Fq5N4:(5=N4)=False:=eq_false (by omega)
  have FqN1N:(N1=N)=False:=eq_false (by omega)
  have FqNN1:(N=N1)=False:=eq_false (by omega)
  have FlN1N:(N1<=N)=False:=eq_false (by omega)
  have FqN2N:(N2=N)=False:=eq_false (by omega)
  have FqNN2:(N=N2)=False:=eq_false (by omega)
  have FlN2N:(N2<=N)=False:=eq_false (by omega)
  have FqN2N1:(N2=N1)=False:=eq_false (by omega)
  have FqN1N2:(N1=N2)=False:=eq_false (by omega)
  have FlN2N1:(N2<=N1)=False:=eq_false (by omega)
  have FqN3N:(N3=N)=False:=eq_false (by omega)
  have FqNN3:(N=N3)=False:=eq_false (by omega)
  have FlN3N:(N3<=N)=False:=eq_false (by omega)
  have FqN3N1:(N3=N1)=False:=eq_false (by omega)
  have FqN1N3:(N1=N3)=False:=eq_false (by omega)
  have FlN3N1:(N3<=N1)=False:=eq_false (by omega)
  have FqN3N2:(N3=N2)=False:=eq_false (by omega)
  have FqN2N3:(N2=N3)=False:=eq_false (by omega)
  have FlN3N2:(N3<=N2)=False:=eq_false (by omega)
  have FqN4N:(N4=N)=False:=eq_false (by omega)
  have FqNN4:(N=N4)=False:=eq_false (by omega)
  have FlN4N:(N4<=N)=False:=eq_false (by omega)
  have FqN4N1:(N4=N1)=False:=eq_false (by omega)
  have FqN1N4:(N1=N4)=False:=eq_false (by omega)
  have FlN4N1:(N4<=N1)=False:=eq_false (by omega)
  have FqN4N2:(N4=N2)=False:=eq_false (by omega)
  have FqN2N4:(N2=N4)=False:=eq_false (by omega)
  have FlN4N2:(N4<=N2)=False:=eq_false (by omega)
  have FqN4N3:(N4=N3)=False:=eq_false (by omega)
  have FqN3N4:(N3=N4)=False:=eq_false (by omega)
  have FlN4N3:(N4<=N3)=False:=eq_false (by omega)
  rcases hsg with hsv|hsv
  ·have hS2:=ygs q2 1 1 (hq2.lenB S2 (by omega)) (by decide) (by decide) (fun t ht=>by have:=hq2.memB S2 ht;omega)
   have hS1:=ygs q1 2 0 (hq1.lenB S1 (by omega)) (by decide) (by decide) (fun t ht=>by have:=hq1.memB S1 ht;omega)
   have hA:=ytk (r:=p) (N:=150) (hq1.shift (bvE 2 0)) (hq2.shift (bvE 1 1)) ((S1.shift (a:=2) (z:=0) (M:=2) (by decide) (by decide) (by omega) (by decide)).mono (by omega)) ((S2.shift (a:=1) (z:=1) (M:=2) (by decide) (by decide) (by omega) (by decide)).mono (by omega)) (by decide) (fun e=>B1 _) (fun e=>B2 _) (hp.congr fun e=>by rw [st e,hsv];rfl) (fun e=>by
    have:=B0 e
    rw [st e,hsv] at this
    exact this)
   rw [show (q1.map fun t=>(t.1+bvE 2 0,t.2))=bvSh (bvE 2 0) q1 from rfl,show (q2.map fun t=>(t.1+bvE 1 1,t.2))=bvSh (bvE 1 1) q2 from rfl] at hA
   refine yba.intro [.cell 5 26] Tryz.func30 rfl rfl (by decide) (by simp [Tryz.ntmps30]) ?_;rw [Tryz.ntmps30]
   repeat' (first|omega|(try apply yaa);simp only [go_sem,hN,k2,k3,k4,k5,s24,w4,w24,hsv,EN1,EN2,EN3,EN4,FqN2,Fq2N,FqN3,Fq3N,FqN4,Fq4N,FqN5,Fq5N,FqN12,Fq2N1,FqN13,Fq3N1,FqN14,Fq4N1,FqN15,Fq5N1,FqN22,Fq2N2,FqN23,Fq3N2,FqN24,Fq4N2,FqN25,Fq5N2,FqN32,Fq2N3,FqN33,Fq3N3,FqN34,Fq4N3,FqN35,Fq5N3,FqN42,Fq2N4,FqN43,Fq3N4,FqN44,Fq4N4,FqN45,Fq5N4,FqN1N,FqNN1,FlN1N,FqN2N,FqNN2,FlN2N,FqN2N1,FqN1N2,FlN2N1,FqN3N,FqNN3,FlN3N,FqN3N1,FqN1N3,FlN3N1,FqN3N2,FqN2N3,FlN3N2,FqN4N,FqNN4,FlN4N,FqN4N1,FqN1N4,FlN4N1,FqN4N2,FqN2N4,FlN4N2,FqN4N3,FqN3N4,FlN4N3]|refine cgL ?_|refine cgD ?_|apply yab<;>(intro h_;(try simp only [h_]);revert h_)|apply And.intro|with_reducible intro h_|trivial)
   refine ⟨yae.inline (ih2 hM2 q2 hq2 l hl _ ?_ _ _ fun H1 l1 w1 w2 w3 w5=>?_)⟩
   ·constructor<;>(simp only [go_sem,hN,k2,k3,k4,k5,EN1,EN2,EN3,EN4,FqN2,Fq2N,FqN3,Fq3N,FqN4,Fq4N,FqN5,Fq5N,FqN12,Fq2N1,FqN13,Fq3N1,FqN14,Fq4N1,FqN15,Fq5N1,FqN22,Fq2N2,FqN23,Fq3N2,FqN24,Fq4N2,FqN25,Fq5N2,FqN32,Fq2N3,FqN33,Fq3N3,FqN34,Fq4N3,FqN35,Fq5N3,FqN42,Fq2N4,FqN43,Fq3N4,FqN44,Fq4N4,FqN45,Fq5N4,FqN1N,FqNN1,FlN1N,FqN2N,FqNN2,FlN2N,FqN2N1,FqN1N2,FlN2N1,FqN3N,FqNN3,FlN3N,FqN3N1,FqN1N3,FlN3N1,FqN3N2,FqN2N3,FlN3N2,FqN4N,FqNN4,FlN4N,FqN4N1,FqN1N4,FlN4N1,FqN4N2,FqN2N4,FlN4N2,FqN4N3,FqN3N4,FlN4N3])
    all_goals omega
   clear ih2
   obtain ⟨i5,i4,i3,i2,iN⟩:=w2
   simp only [go_sem,hN,EN1,EN2,EN3,EN4,FqN2,Fq2N,FqN3,Fq3N,FqN4,Fq4N,FqN5,Fq5N,FqN12,Fq2N1,FqN13,Fq3N1,FqN14,Fq4N1,FqN15,Fq5N1,FqN22,Fq2N2,FqN23,Fq3N2,FqN24,Fq4N2,FqN25,Fq5N2,FqN32,Fq2N3,FqN33,Fq3N3,FqN34,Fq4N3,FqN35,Fq5N3,FqN42,Fq2N4,FqN43,Fq3N4,FqN44,Fq4N4,FqN45,Fq5N4,FqN1N,FqNN1,FlN1N,FqN2N,FqNN2,FlN2N,FqN2N1,FqN1N2,FlN2N1,FqN3N,FqNN3,FlN3N,FqN3N1,FqN1N3,FlN3N1,FqN3N2,FqN2N3,FlN3N2,FqN4N,FqNN4,FlN4N,FqN4N1,FqN1N4,FlN4N1,FqN4N2,FqN2N4,FlN4N2,FqN4N3,FqN3N4,FlN4N3] at w3 w5
   have u0:=w5 N (by omega) (by omega)
   have u1:=w5 N1 (by omega) (by omega)
   have u2:=w5 N2 (by omega) (by omega)
   have u3:=w5 N3 (by omega) (by omega)
   simp only [go_sem,EN1,EN2,EN3,EN4,FqN2,Fq2N,FqN3,Fq3N,FqN4,Fq4N,FqN5,Fq5N,FqN12,Fq2N1,FqN13,Fq3N1,FqN14,Fq4N1,FqN15,Fq5N1,FqN22,Fq2N2,FqN23,Fq3N2,FqN24,Fq4N2,FqN25,Fq5N2,FqN32,Fq2N3,FqN33,Fq3N3,FqN34,Fq4N3,FqN35,Fq5N3,FqN42,Fq2N4,FqN43,Fq3N4,FqN44,Fq4N4,FqN45,Fq5N4,FqN1N,FqNN1,FlN1N,FqN2N,FqNN2,FlN2N,FqN2N1,FqN1N2,FlN2N1,FqN3N,FqNN3,FlN3N,FqN3N1,FqN1N3,FlN3N1,FqN3N2,FqN2N3,FlN3N2,FqN4N,FqNN4,FlN4N,FqN4N1,FqN1N4,FlN4N1,FqN4N2,FqN2N4,FlN4N2,FqN4N3,FqN3N4,FlN4N3] at u0 u1 u2 u3
   have g1: ∀i,i<N->i≠2->hget H1 i=hget H i:=fun i hi h2=>by
    have:=w5 i (by omega) h2
    rw [this]
    repeat rw [if_neg (by omega)]
   generalize hM:hnew H1=M at*
   obtain ⟨M1,EM1⟩: ∃x,M+1=x:=⟨_,rfl⟩
   have FqM2:(M=2)=False:=eq_false (by omega)
   have Fq2M:(2=M)=False:=eq_false (by omega)
   have FqM3:(M=3)=False:=eq_false (by omega)
   have Fq3M:(3=M)=False:=eq_false (by omega)
   have FqM4:(M=4)=False:=eq_false (by omega)
   have Fq4M:(4=M)=False:=eq_false (by omega)
   have FqM5:(M=5)=False:=eq_false (by omega)
   have Fq5M:(5=M)=False:=eq_false (by omega)
   have FqM12:(M1=2)=False:=eq_false (by omega)
   have Fq2M1:(2=M1)=False:=eq_false (by omega)
   have FqM13:(M1=3)=False:=eq_false (by omega)
   have Fq3M1:(3=M1)=False:=eq_false (by omega)
   have FqM14:(M1=4)=False:=eq_false (by omega)
   have Fq4M1:(4=M1)=False:=eq_false (by omega)
   have FqM15:(M1=5)=False:=eq_false (by omega)
   have Fq5M1:(5=M1)=False:=eq_false (by omega)
   have FqMN:(M=N)=False:=eq_false (by omega)
   have FqNM:(N=M)=False:=eq_false (by omega)
   have FqMN1:(M=N1)=False:=eq_false (by omega)
   have FqN1M:(N1=M)=False:=eq_false (by omega)
   have FqMN2:(M=N2)=False:=eq_false (by omega)
   have FqN2M:(N2=M)=False:=eq_false (by omega)
   have FqMN3:(M=N3)=False:=eq_false (by omega)
   have FqN3M:(N3=M)=False:=eq_false (by omega)
   have FqM1M:(M1=M)=False:=eq_false (by omega)
   have FqMM1:(M=M1)=False:=eq_false (by omega)
   have FlM1M:(M1<=M)=False:=eq_false (by omega)
   have FqM1N:(M1=N)=False:=eq_false (by omega)
   have FqNM1:(N=M1)=False:=eq_false (by omega)
   have FqM1N1:(M1=N1)=False:=eq_false (by omega)
   have FqN1M1:(N1=M1)=False:=eq_false (by omega)
   have FqM1N2:(M1=N2)=False:=eq_false (by omega)
   have FqN2M1:(N2=M1)=False:=eq_false (by omega)
   have FqM1N3:(M1=N3)=False:=eq_false (by omega)
   have FqN3M1:(N3=M1)=False:=eq_false (by omega)
   repeat' (first|omega|(try apply yaa);simp only [go_sem,hM,i2,i3,i4,i5,u0,u1,u2,u3,hsv,EN1,EN2,EN3,EN4,FqN2,Fq2N,FqN3,Fq3N,FqN4,Fq4N,FqN5,Fq5N,FqN12,Fq2N1,FqN13,Fq3N1,FqN14,Fq4N1,FqN15,Fq5N1,FqN22,Fq2N2,FqN23,Fq3N2,FqN24,Fq4N2,FqN25,Fq5N2,FqN32,Fq2N3,FqN33,Fq3N3,FqN34,Fq4N3,FqN35,Fq5N3,FqN42,Fq2N4,FqN43,Fq3N4,FqN44,Fq4N4,FqN45,Fq5N4,FqN1N,FqNN1,FlN1N,FqN2N,FqNN2,FlN2N,FqN2N1,FqN1N2,FlN2N1,FqN3N,FqNN3,FlN3N,FqN3N1,FqN1N3,FlN3N1,FqN3N2,FqN2N3,FlN3N2,FqN4N,FqNN4,FlN4N,FqN4N1,FqN1N4,FlN4N1,FqN4N2,FqN2N4,FlN4N2,FqN4N3,FqN3N4,FlN4N3,EM1,FqM2,Fq2M,FqM3,Fq3M,FqM4,Fq4M,FqM5,Fq5M,FqM12,Fq2M1,FqM13,Fq3M1,FqM14,Fq4M1,FqM15,Fq5M1,FqMN,FqNM,FqMN1,FqN1M,FqMN2,FqN2M,FqMN3,FqN3M,FqM1M,FqMM1,FlM1M,FqM1N,FqNM1,FqM1N1,FqN1M1,FqM1N2,FqN2M1,FqM1N3,FqN3M1]|refine cgL ?_|refine cgD ?_|apply yab<;>(intro h_;(try simp only [h_]);revert h_)|apply And.intro|with_reducible intro h_|trivial)
   refine ⟨yae.inline (ih1 hM1 q1 hq1 l1 w1 _ ?_ _ _ fun H2 l2 x1 x2 x3 x5=>?_)⟩
   ·constructor<;>(simp only [go_sem,hM,i2,i3,i4,i5,EM1,FqM2,Fq2M,FqM3,Fq3M,FqM4,Fq4M,FqM5,Fq5M,FqM12,Fq2M1,FqM13,Fq3M1,FqM14,Fq4M1,FqM15,Fq5M1,FqMN,FqNM,FqMN1,FqN1M,FqMN2,FqN2M,FqMN3,FqN3M,FqM1M,FqMM1,FlM1M,FqM1N,FqNM1,FqM1N1,FqN1M1,FqM1N2,FqN2M1,FqM1N3,FqN3M1])
    all_goals omega
   clear ih1
   obtain ⟨j5,j4,j3,j2,jN⟩:=x2
   simp only [go_sem,hM,EM1,FqM2,Fq2M,FqM3,Fq3M,FqM4,Fq4M,FqM5,Fq5M,FqM12,Fq2M1,FqM13,Fq3M1,FqM14,Fq4M1,FqM15,Fq5M1,FqMN,FqNM,FqMN1,FqN1M,FqMN2,FqN2M,FqMN3,FqN3M,FqM1M,FqMM1,FlM1M,FqM1N,FqNM1,FqM1N1,FqN1M1,FqM1N2,FqN2M1,FqM1N3,FqN3M1] at x3 x5
   have v0:=x5 N (by omega) (by omega)
   have v1:=x5 N1 (by omega) (by omega)
   have v2:=x5 N2 (by omega) (by omega)
   have v3:=x5 N3 (by omega) (by omega)
   have v4:=x5 M (by omega) (by omega)
   simp only [go_sem,EM1,FqM2,Fq2M,FqM3,Fq3M,FqM4,Fq4M,FqM5,Fq5M,FqM12,Fq2M1,FqM13,Fq3M1,FqM14,Fq4M1,FqM15,Fq5M1,FqMN,FqNM,FqMN1,FqN1M,FqMN2,FqN2M,FqMN3,FqN3M,FqM1M,FqMM1,FlM1M,FqM1N,FqNM1,FqM1N1,FqN1M1,FqM1N2,FqN2M1,FqM1N3,FqN3M1,u0,u1,u2,u3] at v0 v1 v2 v3 v4
   have g2: ∀i,i<N->i≠2->hget H2 i=hget H i:=fun i hi h2=>by
    have:=x5 i (by omega) h2
    rw [this]
    repeat rw [if_neg (by omega)]
    exact g1 i hi h2
   have y4:hset H2 4 okO=H2:=yb7 j4
   have y1: ∀o,hget (hset H2 N1 o) N1=some o:=fun o=>ya0 v1
   have hEE:=fun X o=>yq1 (X:=X) ⟨j5,j4,j3,j2,jN⟩ (N:=N) (by omega) (by omega) g2 N1 (by omega) o
   generalize hQ:hnew H2=Q at*
   obtain ⟨Q1,EQ1⟩: ∃x,Q+1=x:=⟨_,rfl⟩
   have FqQ2:(Q=2)=False:=eq_false (by omega)
   have Fq2Q:(2=Q)=False:=eq_false (by omega)
   have FqQ3:(Q=3)=False:=eq_false (by omega)
   have Fq3Q:(3=Q)=False:=eq_false (by omega)
   have FqQ4:(Q=4)=False:=eq_false (by omega)
   have Fq4Q:(4=Q)=False:=eq_false (by omega)
   have FqQ5:(Q=5)=False:=eq_false (by omega)
   have Fq5Q:(5=Q)=False:=eq_false (by omega)
   have FqQ12:(Q1=2)=False:=eq_false (by omega)
   have Fq2Q1:(2=Q1)=False:=eq_false (by omega)
   have FqQ13:(Q1=3)=False:=eq_false (by omega)
   have Fq3Q1:(3=Q1)=False:=eq_false (by omega)
   have FqQ14:(Q1=4)=False:=eq_false (by omega)
   have Fq4Q1:(4=Q1)=False:=eq_false (by omega)
   have FqQ15:(Q1=5)=False:=eq_false (by omega)
   have Fq5Q1:(5=Q1)=False:=eq_false (by omega)
   have FqQN:(Q=N)=False:=eq_false (by omega)
   have FqNQ:(N=Q)=False:=eq_false (by omega)
   have FqQN1:(Q=N1)=False:=eq_false (by omega)
   have FqN1Q:(N1=Q)=False:=eq_false (by omega)
   have FqQN2:(Q=N2)=False:=eq_false (by omega)
   have FqN2Q:(N2=Q)=False:=eq_false (by omega)
   have FqQN3:(Q=N3)=False:=eq_false (by omega)
   have FqN3Q:(N3=Q)=False:=eq_false (by omega)
   have FqQM:(Q=M)=False:=eq_false (by omega)
   have FqMQ:(M=Q)=False:=eq_false (by omega)
   have FqQ1Q:(Q1=Q)=False:=eq_false (by omega)
   have FqQQ1:(Q=Q1)=False:=eq_false (by omega)
   have FlQ1Q:(Q1<=Q)=False:=eq_false (by omega)
   have FqQ1N:(Q1=N)=False:=eq_false (by omega)
   have FqNQ1:(N=Q1)=False:=eq_false (by omega)
   have FqQ1N1:(Q1=N1)=False:=eq_false (by omega)
   have FqN1Q1:(N1=Q1)=False:=eq_false (by omega)
   have FqQ1N2:(Q1=N2)=False:=eq_false (by omega)
   have FqN2Q1:(N2=Q1)=False:=eq_false (by omega)
   have FqQ1N3:(Q1=N3)=False:=eq_false (by omega)
   have FqN3Q1:(N3=Q1)=False:=eq_false (by omega)
   have FqQ1M:(Q1=M)=False:=eq_false (by omega)
   have FqMQ1:(M=Q1)=False:=eq_false (by omega)
   repeat' (first|omega|(try apply yaa);simp only [go_sem,hQ,j2,j3,j4,j5,v0,v1,v2,v3,v4,y1,y4,hsv,EN1,EN2,EN3,EN4,FqN2,Fq2N,FqN3,Fq3N,FqN4,Fq4N,FqN5,Fq5N,FqN12,Fq2N1,FqN13,Fq3N1,FqN14,Fq4N1,FqN15,Fq5N1,FqN22,Fq2N2,FqN23,Fq3N2,FqN24,Fq4N2,FqN25,Fq5N2,FqN32,Fq2N3,FqN33,Fq3N3,FqN34,Fq4N3,FqN35,Fq5N3,FqN42,Fq2N4,FqN43,Fq3N4,FqN44,Fq4N4,FqN45,Fq5N4,FqN1N,FqNN1,FlN1N,FqN2N,FqNN2,FlN2N,FqN2N1,FqN1N2,FlN2N1,FqN3N,FqNN3,FlN3N,FqN3N1,FqN1N3,FlN3N1,FqN3N2,FqN2N3,FlN3N2,FqN4N,FqNN4,FlN4N,FqN4N1,FqN1N4,FlN4N1,FqN4N2,FqN2N4,FlN4N2,FqN4N3,FqN3N4,FlN4N3,EM1,FqM2,Fq2M,FqM3,Fq3M,FqM4,Fq4M,FqM5,Fq5M,FqM12,Fq2M1,FqM13,Fq3M1,FqM14,Fq4M1,FqM15,Fq5M1,FqMN,FqNM,FqMN1,FqN1M,FqMN2,FqN2M,FqMN3,FqN3M,FqM1M,FqMM1,FlM1M,FqM1N,FqNM1,FqM1N1,FqN1M1,FqM1N2,FqN2M1,FqM1N3,FqN3M1,EQ1,FqQ2,Fq2Q,FqQ3,Fq3Q,FqQ4,Fq4Q,FqQ5,Fq5Q,FqQ12,Fq2Q1,FqQ13,Fq3Q1,FqQ14,Fq4Q1,FqQ15,Fq5Q1,FqQN,FqNQ,FqQN1,FqN1Q,FqQN2,FqN2Q,FqQN3,FqN3Q,FqQM,FqMQ,FqQ1Q,FqQQ1,FlQ1Q,FqQ1N,FqNQ1,FqQ1N1,FqN1Q1,FqQ1N2,FqN2Q1,FqQ1N3,FqN3Q1,FqQ1M,FqMQ1]|refine cgL ?_|refine cgD ?_|apply yab<;>(intro h_;(try simp only [h_]);revert h_)|apply And.intro|with_reducible intro h_|trivial)
   all_goals
    obtain ⟨z1,z2,z3⟩:=hEE [(Q,_)] _ (by simp only [List.forall_mem_cons];exact ⟨by omega,fun _ h=>by cases h⟩)
    exact hK _ _ x1 z1 z2 z3
  ·have hS2:=ygs q2 (-1) 1 (hq2.lenB S2 (by omega)) (by decide) (by decide) (fun t ht=>by have:=hq2.memB S2 ht;omega)
   have hS1:=ygs q1 (-2) 0 (hq1.lenB S1 (by omega)) (by decide) (by decide) (fun t ht=>by have:=hq1.memB S1 ht;omega)
   have hA:=ytl (r:=p) (N:=150) (hq1.shift (bvE (-2) 0)) (hq2.shift (bvE (-1) 1)) ((S1.shift (a:=(-2)) (z:=0) (M:=2) (by decide) (by decide) (by omega) (by decide)).mono (by omega)) ((S2.shift (a:=(-1)) (z:=1) (M:=2) (by decide) (by decide) (by omega) (by decide)).mono (by omega)) (by decide) (fun e=>B1 _) (fun e=>B2 _) (hp.congr fun e=>by rw [st e,hsv];rfl) (fun e=>by
    have:=B0 e
    rw [st e,hsv] at this
    exact this)
   rw [show (q1.map fun t=>(t.1+bvE (-2) 0,t.2))=bvSh (bvE (-2) 0) q1 from rfl,show (q2.map fun t=>(t.1+bvE (-1) 1,t.2))=bvSh (bvE (-1) 1) q2 from rfl] at hA
   refine yba.intro [.cell 5 26] Tryz.func30 rfl rfl (by decide) (by simp [Tryz.ntmps30]) ?_;rw [Tryz.ntmps30]
   repeat' (first|omega|(try apply yaa);simp only [go_sem,hN,k2,k3,k4,k5,s24,w4,w24,hsv,EN1,EN2,EN3,EN4,FqN2,Fq2N,FqN3,Fq3N,FqN4,Fq4N,FqN5,Fq5N,FqN12,Fq2N1,FqN13,Fq3N1,FqN14,Fq4N1,FqN15,Fq5N1,FqN22,Fq2N2,FqN23,Fq3N2,FqN24,Fq4N2,FqN25,Fq5N2,FqN32,Fq2N3,FqN33,Fq3N3,FqN34,Fq4N3,FqN35,Fq5N3,FqN42,Fq2N4,FqN43,Fq3N4,FqN44,Fq4N4,FqN45,Fq5N4,FqN1N,FqNN1,FlN1N,FqN2N,FqNN2,FlN2N,FqN2N1,FqN1N2,FlN2N1,FqN3N,FqNN3,FlN3N,FqN3N1,FqN1N3,FlN3N1,FqN3N2,FqN2N3,FlN3N2,FqN4N,FqNN4,FlN4N,FqN4N1,FqN1N4,FlN4N1,FqN4N2,FqN2N4,FlN4N2,FqN4N3,FqN3N4,FlN4N3]|refine cgL ?_|refine cgD ?_|apply yab<;>(intro h_;(try simp only [h_]);revert h_)|apply And.intro|with_reducible intro h_|trivial)
   refine ⟨yae.inline (ih2 hM2 q2 hq2 l hl _ ?_ _ _ fun H1 l1 w1 w2 w3 w5=>?_)⟩
   ·constructor<;>(simp only [go_sem,hN,k2,k3,k4,k5,EN1,EN2,EN3,EN4,FqN2,Fq2N,FqN3,Fq3N,FqN4,Fq4N,FqN5,Fq5N,FqN12,Fq2N1,FqN13,Fq3N1,FqN14,Fq4N1,FqN15,Fq5N1,FqN22,Fq2N2,FqN23,Fq3N2,FqN24,Fq4N2,FqN25,Fq5N2,FqN32,Fq2N3,FqN33,Fq3N3,FqN34,Fq4N3,FqN35,Fq5N3,FqN42,Fq2N4,FqN43,Fq3N4,FqN44,Fq4N4,FqN45,Fq5N4,FqN1N,FqNN1,FlN1N,FqN2N,FqNN2,FlN2N,FqN2N1,FqN1N2,FlN2N1,FqN3N,FqNN3,FlN3N,FqN3N1,FqN1N3,FlN3N1,FqN3N2,FqN2N3,FlN3N2,FqN4N,FqNN4,FlN4N,FqN4N1,FqN1N4,FlN4N1,FqN4N2,FqN2N4,FlN4N2,FqN4N3,FqN3N4,FlN4N3])
    all_goals omega
   clear ih2
   obtain ⟨i5,i4,i3,i2,iN⟩:=w2
   simp only [go_sem,hN,EN1,EN2,EN3,EN4,FqN2,Fq2N,FqN3,Fq3N,FqN4,Fq4N,FqN5,Fq5N,FqN12,Fq2N1,FqN13,Fq3N1,FqN14,Fq4N1,FqN15,Fq5N1,FqN22,Fq2N2,FqN23,Fq3N2,FqN24,Fq4N2,FqN25,Fq5N2,FqN32,Fq2N3,FqN33,Fq3N3,FqN34,Fq4N3,FqN35,Fq5N3,FqN42,Fq2N4,FqN43,Fq3N4,FqN44,Fq4N4,FqN45,Fq5N4,FqN1N,FqNN1,FlN1N,FqN2N,FqNN2,FlN2N,FqN2N1,FqN1N2,FlN2N1,FqN3N,FqNN3,FlN3N,FqN3N1,FqN1N3,FlN3N1,FqN3N2,FqN2N3,FlN3N2,FqN4N,FqNN4,FlN4N,FqN4N1,FqN1N4,FlN4N1,FqN4N2,FqN2N4,FlN4N2,FqN4N3,FqN3N4,FlN4N3] at w3 w5
   have u0:=w5 N (by omega) (by omega)
   have u1:=w5 N1 (by omega) (by omega)
   have u2:=w5 N2 (by omega) (by omega)
   have u3:=w5 N3 (by omega) (by omega)
   simp only [go_sem,EN1,EN2,EN3,EN4,FqN2,Fq2N,FqN3,Fq3N,FqN4,Fq4N,FqN5,Fq5N,FqN12,Fq2N1,FqN13,Fq3N1,FqN14,Fq4N1,FqN15,Fq5N1,FqN22,Fq2N2,FqN23,Fq3N2,FqN24,Fq4N2,FqN25,Fq5N2,FqN32,Fq2N3,FqN33,Fq3N3,FqN34,Fq4N3,FqN35,Fq5N3,FqN42,Fq2N4,FqN43,Fq3N4,FqN44,Fq4N4,FqN45,Fq5N4,FqN1N,FqNN1,FlN1N,FqN2N,FqNN2,FlN2N,FqN2N1,FqN1N2,FlN2N1,FqN3N,FqNN3,FlN3N,FqN3N1,FqN1N3,FlN3N1,FqN3N2,FqN2N3,FlN3N2,FqN4N,FqNN4,FlN4N,FqN4N1,FqN1N4,FlN4N1,FqN4N2,FqN2N4,FlN4N2,FqN4N3,FqN3N4,FlN4N3] at u0 u1 u2 u3
   have g1: ∀i,i<N->i≠2->hget H1 i=hget H i:=fun i hi h2=>by
    have:=w5 i (by omega) h2
    rw [this]
    repeat rw [if_neg (by omega)]
   generalize hM:hnew H1=M at*
   obtain ⟨M1,EM1⟩: ∃x,M+1=x:=⟨_,rfl⟩
   have FqM2:(M=2)=False:=eq_false (by omega)
   have Fq2M:(2=M)=False:=eq_false (by omega)
   have FqM3:(M=3)=False:=eq_false (by omega)
   have Fq3M:(3=M)=False:=eq_false (by omega)
   have FqM4:(M=4)=False:=eq_false (by omega)
   have Fq4M:(4=M)=False:=eq_false (by omega)
   have FqM5:(M=5)=False:=eq_false (by omega)
   have Fq5M:(5=M)=False:=eq_false (by omega)
   have FqM12:(M1=2)=False:=eq_false (by omega)
   have Fq2M1:(2=M1)=False:=eq_false (by omega)
   have FqM13:(M1=3)=False:=eq_false (by omega)
   have Fq3M1:(3=M1)=False:=eq_false (by omega)
   have FqM14:(M1=4)=False:=eq_false (by omega)
   have Fq4M1:(4=M1)=False:=eq_false (by omega)
   have FqM15:(M1=5)=False:=eq_false (by omega)
   have Fq5M1:(5=M1)=False:=eq_false (by omega)
   have FqMN:(M=N)=False:=eq_false (by omega)
   have FqNM:(N=M)=False:=eq_false (by omega)
   have FqMN1:(M=N1)=False:=eq_false (by omega)
   have FqN1M:(N1=M)=False:=eq_false (by omega)
   have FqMN2:(M=N2)=False:=eq_false (by omega)
   have FqN2M:(N2=M)=False:=eq_false (by omega)
   have FqMN3:(M=N3)=False:=eq_false (by omega)
   have FqN3M:(N3=M)=False:=eq_false (by omega)
   have FqM1M:(M1=M)=False:=eq_false (by omega)
   have FqMM1:(M=M1)=False:=eq_false (by omega)
   have FlM1M:(M1<=M)=False:=eq_false (by omega)
   have FqM1N:(M1=N)=False:=eq_false (by omega)
   have FqNM1:(N=M1)=False:=eq_false (by omega)
   have FqM1N1:(M1=N1)=False:=eq_false (by omega)
   have FqN1M1:(N1=M1)=False:=eq_false (by omega)
   have FqM1N2:(M1=N2)=False:=eq_false (by omega)
   have FqN2M1:(N2=M1)=False:=eq_false (by omega)
   have FqM1N3:(M1=N3)=False:=eq_false (by omega)
   have FqN3M1:(N3=M1)=False:=eq_false (by omega)
   repeat' (first|omega|(try apply yaa);simp only [go_sem,hM,i2,i3,i4,i5,u0,u1,u2,u3,hsv,EN1,EN2,EN3,EN4,FqN2,Fq2N,FqN3,Fq3N,FqN4,Fq4N,FqN5,Fq5N,FqN12,Fq2N1,FqN13,Fq3N1,FqN14,Fq4N1,FqN15,Fq5N1,FqN22,Fq2N2,FqN23,Fq3N2,FqN24,Fq4N2,FqN25,Fq5N2,FqN32,Fq2N3,FqN33,Fq3N3,FqN34,Fq4N3,FqN35,Fq5N3,FqN42,Fq2N4,FqN43,Fq3N4,FqN44,Fq4N4,FqN45,Fq5N4,FqN1N,FqNN1,FlN1N,FqN2N,FqNN2,FlN2N,FqN2N1,FqN1N2,FlN2N1,FqN3N,FqNN3,FlN3N,FqN3N1,FqN1N3,FlN3N1,FqN3N2,FqN2N3,FlN3N2,FqN4N,FqNN4,FlN4N,FqN4N1,FqN1N4,FlN4N1,FqN4N2,FqN2N4,FlN4N2,FqN4N3,FqN3N4,FlN4N3,EM1,FqM2,Fq2M,FqM3,Fq3M,FqM4,Fq4M,FqM5,Fq5M,FqM12,Fq2M1,FqM13,Fq3M1,FqM14,Fq4M1,FqM15,Fq5M1,FqMN,FqNM,FqMN1,FqN1M,FqMN2,FqN2M,FqMN3,FqN3M,FqM1M,FqMM1,FlM1M,FqM1N,FqNM1,FqM1N1,FqN1M1,FqM1N2,FqN2M1,FqM1N3,FqN3M1]|refine cgL ?_|refine cgD ?_|apply yab<;>(intro h_;(try simp only [h_]);revert h_)|apply And.intro|with_reducible intro h_|trivial)
   refine ⟨yae.inline (ih1 hM1 q1 hq1 l1 w1 _ ?_ _ _ fun H2 l2 x1 x2 x3 x5=>?_)⟩
   ·constructor<;>(simp only [go_sem,hM,i2,i3,i4,i5,EM1,FqM2,Fq2M,FqM3,Fq3M,FqM4,Fq4M,FqM5,Fq5M,FqM12,Fq2M1,FqM13,Fq3M1,FqM14,Fq4M1,FqM15,Fq5M1,FqMN,FqNM,FqMN1,FqN1M,FqMN2,FqN2M,FqMN3,FqN3M,FqM1M,FqMM1,FlM1M,FqM1N,FqNM1,FqM1N1,FqN1M1,FqM1N2,FqN2M1,FqM1N3,FqN3M1])
    all_goals omega
   clear ih1
   obtain ⟨j5,j4,j3,j2,jN⟩:=x2
   simp only [go_sem,hM,EM1,FqM2,Fq2M,FqM3,Fq3M,FqM4,Fq4M,FqM5,Fq5M,FqM12,Fq2M1,FqM13,Fq3M1,FqM14,Fq4M1,FqM15,Fq5M1,FqMN,FqNM,FqMN1,FqN1M,FqMN2,FqN2M,FqMN3,FqN3M,FqM1M,FqMM1,FlM1M,FqM1N,FqNM1,FqM1N1,FqN1M1,FqM1N2,FqN2M1,FqM1N3,FqN3M1] at x3 x5
   have v0:=x5 N (by omega) (by omega)
   have v1:=x5 N1 (by omega) (by omega)
   have v2:=x5 N2 (by omega) (by omega)
   have v3:=x5 N3 (by omega) (by omega)
   have v4:=x5 M (by omega) (by omega)
   simp only [go_sem,EM1,FqM2,Fq2M,FqM3,Fq3M,FqM4,Fq4M,FqM5,Fq5M,FqM12,Fq2M1,FqM13,Fq3M1,FqM14,Fq4M1,FqM15,Fq5M1,FqMN,FqNM,FqMN1,FqN1M,FqMN2,FqN2M,FqMN3,FqN3M,FqM1M,FqMM1,FlM1M,FqM1N,FqNM1,FqM1N1,FqN1M1,FqM1N2,FqN2M1,FqM1N3,FqN3M1,u0,u1,u2,u3] at v0 v1 v2 v3 v4
   have g2: ∀i,i<N->i≠2->hget H2 i=hget H i:=fun i hi h2=>by
    have:=x5 i (by omega) h2
    rw [this]
    repeat rw [if_neg (by omega)]
    exact g1 i hi h2
   have y4:hset H2 4 okO=H2:=yb7 j4
   have y1: ∀o,hget (hset H2 N1 o) N1=some o:=fun o=>ya0 v1
   have hEE:=fun X o=>yq1 (X:=X) ⟨j5,j4,j3,j2,jN⟩ (N:=N) (by omega) (by omega) g2 N1 (by omega) o
   generalize hQ:hnew H2=Q at*
   obtain ⟨Q1,EQ1⟩: ∃x,Q+1=x:=⟨_,rfl⟩
   have FqQ2:(Q=2)=False:=eq_false (by omega)
   have Fq2Q:(2=Q)=False:=eq_false (by omega)
   have FqQ3:(Q=3)=False:=eq_false (by omega)
   have Fq3Q:(3=Q)=False:=eq_false (by omega)
   have FqQ4:(Q=4)=False:=eq_false (by omega)
   have Fq4Q:(4=Q)=False:=eq_false (by omega)
   have FqQ5:(Q=5)=False:=eq_false (by omega)
   have Fq5Q:(5=Q)=False:=eq_false (by omega)
   have FqQ12:(Q1=2)=False:=eq_false (by omega)
   have Fq2Q1:(2=Q1)=False:=eq_false (by omega)
   have FqQ13:(Q1=3)=False:=eq_false (by omega)
   have Fq3Q1:(3=Q1)=False:=eq_false (by omega)
   have FqQ14:(Q1=4)=False:=eq_false (by omega)
   have Fq4Q1:(4=Q1)=False:=eq_false (by omega)
   have FqQ15:(Q1=5)=False:=eq_false (by omega)
   have Fq5Q1:(5=Q1)=False:=eq_false (by omega)
   have FqQN:(Q=N)=False:=eq_false (by omega)
   have FqNQ:(N=Q)=False:=eq_false (by omega)
   have FqQN1:(Q=N1)=False:=eq_false (by omega)
   have FqN1Q:(N1=Q)=False:=eq_false (by omega)
   have FqQN2:(Q=N2)=False:=eq_false (by omega)
   have FqN2Q:(N2=Q)=False:=eq_false (by omega)
   have FqQN3:(Q=N3)=False:=eq_false (by omega)
   have FqN3Q:(N3=Q)=False:=eq_false (by omega)
   have FqQM:(Q=M)=False:=eq_false (by omega)
   have FqMQ:(M=Q)=False:=eq_false (by omega)
   have FqQ1Q:(Q1=Q)=False:=eq_false (by omega)
   have FqQQ1:(Q=Q1)=False:=eq_false (by omega)
   have FlQ1Q:(Q1<=Q)=False:=eq_false (by omega)
   have FqQ1N:(Q1=N)=False:=eq_false (by omega)
   have FqNQ1:(N=Q1)=False:=eq_false (by omega)
   have FqQ1N1:(Q1=N1)=False:=eq_false (by omega)
   have FqN1Q1:(N1=Q1)=False:=eq_false (by omega)
   have FqQ1N2:(Q1=N2)=False:=eq_false (by omega)
   have FqN2Q1:(N2=Q1)=False:=eq_false (by omega)
   have FqQ1N3:(Q1=N3)=False:=eq_false (by omega)
   have FqN3Q1:(N3=Q1)=False:=eq_false (by omega)
   have FqQ1M:(Q1=M)=False:=eq_false (by omega)
   have FqMQ1:(M=Q1)=False:=eq_false (by omega)
   repeat' (first|omega|(try apply yaa);simp only [go_sem,hQ,j2,j3,j4,j5,v0,v1,v2,v3,v4,y1,y4,hsv,EN1,EN2,EN3,EN4,FqN2,Fq2N,FqN3,Fq3N,FqN4,Fq4N,FqN5,Fq5N,FqN12,Fq2N1,FqN13,Fq3N1,FqN14,Fq4N1,FqN15,Fq5N1,FqN22,Fq2N2,FqN23,Fq3N2,FqN24,Fq4N2,FqN25,Fq5N2,FqN32,Fq2N3,FqN33,Fq3N3,FqN34,Fq4N3,FqN35,Fq5N3,FqN42,Fq2N4,FqN43,Fq3N4,FqN44,Fq4N4,FqN45,Fq5N4,FqN1N,FqNN1,FlN1N,FqN2N,FqNN2,FlN2N,FqN2N1,FqN1N2,FlN2N1,FqN3N,FqNN3,FlN3N,FqN3N1,FqN1N3,FlN3N1,FqN3N2,FqN2N3,FlN3N2,FqN4N,FqNN4,FlN4N,FqN4N1,FqN1N4,FlN4N1,FqN4N2,FqN2N4,FlN4N2,FqN4N3,FqN3N4,FlN4N3,EM1,FqM2,Fq2M,FqM3,Fq3M,FqM4,Fq4M,FqM5,Fq5M,FqM12,Fq2M1,FqM13,Fq3M1,FqM14,Fq4M1,FqM15,Fq5M1,FqMN,FqNM,FqMN1,FqN1M,FqMN2,FqN2M,FqMN3,FqN3M,FqM1M,FqMM1,FlM1M,FqM1N,FqNM1,FqM1N1,FqN1M1,FqM1N2,FqN2M1,FqM1N3,FqN3M1,EQ1,FqQ2,Fq2Q,FqQ3,Fq3Q,FqQ4,Fq4Q,FqQ5,Fq5Q,FqQ12,Fq2Q1,FqQ13,Fq3Q1,FqQ14,Fq4Q1,FqQ15,Fq5Q1,FqQN,FqNQ,FqQN1,FqN1Q,FqQN2,FqN2Q,FqQN3,FqN3Q,FqQM,FqMQ,FqQ1Q,FqQQ1,FlQ1Q,FqQ1N,FqNQ1,FqQ1N1,FqN1Q1,FqQ1N2,FqN2Q1,FqQ1N3,FqN3Q1,FqQ1M,FqMQ1]|refine cgL ?_|refine cgD ?_|apply yab<;>(intro h_;(try simp only [h_]);revert h_)|apply And.intro|with_reducible intro h_|trivial)
   all_goals
    obtain ⟨z1,z2,z3⟩:=hEE [(Q,_)] _ (by simp only [List.forall_mem_cons];exact ⟨by omega,fun _ h=>by cases h⟩)
    exact hK _ _ x1 z1 z2 z3
end Go.Proofs.YtfgbnalnbdhimaaGreatDoor
namespace Go.Proofs.YtfgbnalnbdhimaaGreatDoor
open Go Go.RowKit
set_option maxRecDepth 100000
set_option maxHeartbeats 8000000
set_option linter.unusedVariables false
set_option linter.unusedSimpArgs false
theorem yq3 {WB MB:Nat} {F:List Int->List Int->Nat->Int->Int} (hF:HomV WB MB F) {s m:List Int} {L:Nat} (h:ybk s m L) (hMB:s.length<=WB/\3*s.length+L<=MB) {p:List (Int×Int)} (hp:yag p (F s m L)):Fn Tryz.prog 13 [dgA s m L] (.tup [bvP false p,I 0]):=by
 have hV:=yen s m L
 rw [h.val] at hV
 have hn:=h.n14
 have bn:decide ((14:Int)<s.length)=false:=by rw [decide_eq_false_iff_not];omega
 have hr:=yq2 hF s m L h hMB p hp [] PwOk.nil
 by_cases h0:s.length=0
 ·have hb0:((s.length:Int)==0)=true:=by rw [h0];rfl
  have bL:((L:Int)==0)=false:=by
   rw [beq_eq_false_iff_ne]
   rcases h.pos with h2|h2<;>omega
  refine Fn.introL [.cell 2 26, .tmp 3] Tryz.func13 rfl rfl (by decide) (by simp [Tryz.ntmps13]) ?_;rw [Tryz.ntmps13]
  repeat' (first|omega|(try apply yaa);simp only [go_sem,hb0,bL,bn]|refine cgL ?_|refine cgD ?_|apply yab<;>(intro h_;(try simp only [h_]);revert h_)|apply And.intro|with_reducible intro h_|trivial)
  refine ⟨yae.inline (hr _ ?_ _ _ fun H' l' w1 w2 w3 w5=>?_)⟩
  ·constructor<;>(simp only [go_sem])
  obtain ⟨i5,i4,i3,i2,iN⟩:=w2
  simp only [go_sem] at w3 w5
  have u1:=w5 1 (by omega) (by omega)
  simp only [go_sem] at u1
  have y1: ∀o,hget (hset H' 1 o) 1=some o:=fun o=>ya0 u1
  generalize hM:hnew H'=M at*
  obtain ⟨M1,EM1⟩: ∃x,M+1=x:=⟨_,rfl⟩
  have FqM2:(M=2)=False:=eq_false (by omega)
  have Fq2M:(2=M)=False:=eq_false (by omega)
  have FqM3:(M=3)=False:=eq_false (by omega)
  have Fq3M:(3=M)=False:=eq_false (by omega)
  have FqM4:(M=4)=False:=eq_false (by omega)
  have Fq4M:(4=M)=False:=eq_false (by omega)
  have FqM5:(M=5)=False:=eq_false (by omega)
  have Fq5M:(5=M)=False:=eq_false (by omega)
  have FqM12:(M1=2)=False:=eq_false (by omega)
  have Fq2M1:(2=M1)=False:=eq_false (by omega)
  have FqM13:(M1=3)=False:=eq_false (by omega)
  have Fq3M1:(3=M1)=False:=eq_false (by omega)
  have FqM14:(M1=4)=False:=eq_false (by omega)
  have Fq4M1:(4=M1)=False:=eq_false (by omega)
  have FqM15:(M1=5)=False:=eq_false (by omega)
  have Fq5M1:(5=M1)=False:=eq_false (by omega)
  have FqM1M:(M1=M)=False:=eq_false (by omega)
  have FqMM1:(M=M1)=False:=eq_false (by omega)
  have FlM1M:(M1<=M)=False:=eq_false (by omega)
  have FqM0:(M=0)=False:=eq_false (by omega)
  have Fq0M:(0=M)=False:=eq_false (by omega)
  have FqM1:(M=1)=False:=eq_false (by omega)
  have Fq1M:(1=M)=False:=eq_false (by omega)
  have FqM10:(M1=0)=False:=eq_false (by omega)
  have Fq0M1:(0=M1)=False:=eq_false (by omega)
  have FqM11:(M1=1)=False:=eq_false (by omega)
  have Fq1M1:(1=M1)=False:=eq_false (by omega)
  repeat' (first|omega|(try apply yaa);simp only [go_sem,hM,i2,i3,i4,i5,u1,y1,EM1,FqM2,Fq2M,FqM3,Fq3M,FqM4,Fq4M,FqM5,Fq5M,FqM12,Fq2M1,FqM13,Fq3M1,FqM14,Fq4M1,FqM15,Fq5M1,FqM1M,FqMM1,FlM1M,FqM0,Fq0M,FqM1,Fq1M,FqM10,Fq0M1,FqM11,Fq1M1]|refine cgL ?_|refine cgD ?_|apply yab<;>(intro h_;(try simp only [h_]);revert h_)|apply And.intro|with_reducible intro h_|trivial)
  all_goals exact LeA.refl _
 ·have hb0:((s.length:Int)==0)=false:=by rw [beq_eq_false_iff_ne];omega
  refine Fn.introL [.cell 2 26, .tmp 3] Tryz.func13 rfl rfl (by decide) (by simp [Tryz.ntmps13]) ?_;rw [Tryz.ntmps13]
  repeat' (first|omega|(try apply yaa);simp only [go_sem,hb0,bn]|refine cgL ?_|refine cgD ?_|apply yab<;>(intro h_;(try simp only [h_]);revert h_)|apply And.intro|with_reducible intro h_|trivial)
  refine ⟨yae.inline (hr _ ?_ _ _ fun H' l' w1 w2 w3 w5=>?_)⟩
  ·constructor<;>(simp only [go_sem])
  obtain ⟨i5,i4,i3,i2,iN⟩:=w2
  simp only [go_sem] at w3 w5
  have u1:=w5 1 (by omega) (by omega)
  simp only [go_sem] at u1
  have y1: ∀o,hget (hset H' 1 o) 1=some o:=fun o=>ya0 u1
  generalize hM:hnew H'=M at*
  obtain ⟨M1,EM1⟩: ∃x,M+1=x:=⟨_,rfl⟩
  have FqM2:(M=2)=False:=eq_false (by omega)
  have Fq2M:(2=M)=False:=eq_false (by omega)
  have FqM3:(M=3)=False:=eq_false (by omega)
  have Fq3M:(3=M)=False:=eq_false (by omega)
  have FqM4:(M=4)=False:=eq_false (by omega)
  have Fq4M:(4=M)=False:=eq_false (by omega)
  have FqM5:(M=5)=False:=eq_false (by omega)
  have Fq5M:(5=M)=False:=eq_false (by omega)
  have FqM12:(M1=2)=False:=eq_false (by omega)
  have Fq2M1:(2=M1)=False:=eq_false (by omega)
  have FqM13:(M1=3)=False:=eq_false (by omega)
  have Fq3M1:(3=M1)=False:=eq_false (by omega)
  have FqM14:(M1=4)=False:=eq_false (by omega)
  have Fq4M1:(4=M1)=False:=eq_false (by omega)
  have FqM15:(M1=5)=False:=eq_false (by omega)
  have Fq5M1:(5=M1)=False:=eq_false (by omega)
  have FqM1M:(M1=M)=False:=eq_false (by omega)
  have FqMM1:(M=M1)=False:=eq_false (by omega)
  have FlM1M:(M1<=M)=False:=eq_false (by omega)
  have FqM0:(M=0)=False:=eq_false (by omega)
  have Fq0M:(0=M)=False:=eq_false (by omega)
  have FqM1:(M=1)=False:=eq_false (by omega)
  have Fq1M:(1=M)=False:=eq_false (by omega)
  have FqM10:(M1=0)=False:=eq_false (by omega)
  have Fq0M1:(0=M1)=False:=eq_false (by omega)
  have FqM11:(M1=1)=False:=eq_false (by omega)
  have Fq1M1:(1=M1)=False:=eq_false (by omega)
  repeat' (first|omega|(try apply yaa);simp only [go_sem,hM,i2,i3,i4,i5,u1,y1,EM1,FqM2,Fq2M,FqM3,Fq3M,FqM4,Fq4M,FqM5,Fq5M,FqM12,Fq2M1,FqM13,Fq3M1,FqM14,Fq4M1,FqM15,Fq5M1,FqM1M,FqMM1,FlM1M,FqM0,Fq0M,FqM1,Fq1M,FqM10,Fq0M1,FqM11,Fq1M1]|refine cgL ?_|refine cgD ?_|apply yab<;>(intro h_;(try simp only [h_]);revert h_)|apply And.intro|with_reducible intro h_|trivial)
  all_goals exact LeA.refl _
end Go.Proofs.YtfgbnalnbdhimaaGreatDoor
set_option linter.unusedSimpArgs false
set_option linter.unusedVariables false
namespace Go.Proofs.YtfgbnalnbdhimaaGreatDoor
open Go Go.RowKit Go.Shelf
set_option maxHeartbeats 4000000
set_option maxRecDepth 100000
theorem yts:(Tryz.prog.info? 73).map (·.size)=some 2:=by kernel_rfl
theorem y4z:liesAt Tryz.prog Tryz.prog.depth 73 (2/Tryz.prog.cellsOf 73) 0 73 1=true:=by kernel_rfl
theorem yq4:Tryz.prog.underlying 70=some (.pointer 73):=by kernel_rfl
theorem yys:Tryz.prog.underlying 142=some .unsafePointer:=by kernel_rfl
theorem yq5:(Tryz.prog.info? 5).map (fun i=>(i.zero,i.size,i.bytes))=some (some (.int .u8 0),1,1):=by kernel_rfl
theorem ytt:Tryz.prog.underlying 71=some (.slice 5):=by kernel_rfl
theorem y70:Tryz.prog.underlying 9=some .string:=by kernel_rfl
theorem y1l (b:Nat) (w:World) (h0:w.cell? ⟨b,0,none⟩=some (.pointer (some ⟨b,0,none⟩))):
  Calls Tryz.prog 71 #[.pointer (some ⟨b,0,none⟩)] w fun e w'=>e= .returned (.tuple #[])/\w'=w:=by
 obtain ⟨j,hj,_⟩:=Option.map_eq_some_iff.1 yts
 go_enter Tryz.func71,Tryz.ntmps71
 go_wp2
 rw [Lib.run_neq_ptr_same w _ yq4 hj]
 go_wp2
 go_end0
 exact ⟨rfl,rfl⟩
theorem yyt (b:Nat) (w:World) (h0:w.cell? ⟨b,0,none⟩=some (.pointer none)) (hsh:w.shape? b=some (73,2)) (hfz:w.frozen? ⟨b,0,none⟩=false):
  Calls Tryz.prog 71 #[.pointer (some ⟨b,0,none⟩)] w fun e w'=>e= .returned (.tuple #[])/\w'=w.setCell ⟨b,0,none⟩ (.pointer (some ⟨b,0,none⟩)):=by
 obtain ⟨j,hj,hjs⟩:=Option.map_eq_some_iff.1 yts
 go_enter Tryz.func71,Tryz.ntmps71
 go_wp2
 rw [Lib.run_to_unsafe w ⟨b,0,none⟩ yq4 yys hj (by rw [hjs];decide) hsh (Nat.zero_lt_succ 1)]
 simp only [Result.andThen]
 rw [Oper.upon_value]
 go_wp2
 rw [run_callFunc_extern Tryz.func100 (by kernel_rfl) (by kernel_rfl) (by kernel_rfl) (e:=Extern.AbiNoEscape.same) (by kernel_rfl)]
 rw [Lib.run_noEscape]
 simp only [Result.andThen]
 rw [Oper.upon_value]
 go_wp2
 rw [Lib.run_from_unsafe w ⟨b,0,none⟩ yys yq4 hj hsh y4z]
 simp only [Result.andThen]
 rw [Oper.upon_value]
 go_wp2
 go_end0
 exact ⟨rfl,rfl⟩
theorem yoa (B b:Nat) (bs:List Value) (w:World) (h:Lib.IsBuilderF 73 5 B b bs w):
  Calls Tryz.prog 71 #[.pointer (some ⟨b,0,none⟩)] w fun e w'=>e= .returned (.tuple #[])/\(Lib.BuilderAtF 73 5 B b (.pointer (some ⟨b,0,none⟩)) bs w'/\Below B w w'/\Lib.OthersKept 5 (some b) w w'):=by
 rcases h with h|h
 ·refine (yyt b w h.cell0 h.shape h.frozen0).mono ?_
  rintro e w' ⟨rfl,rfl⟩
  exact ⟨rfl,h.used _,(Below.refl B w).setCell (p:=⟨b,0,none⟩) h.1 _,(Lib.OthersKept.refl _ _ w).setCell ⟨b,0,none⟩ rfl _⟩
 ·refine (y1l b w h.cell0).mono ?_
  rintro e w' ⟨rfl,rfl⟩
  exact ⟨rfl,h,Below.refl B _,Lib.OthersKept.refl _ _ _⟩
theorem y1m (B b:Nat) (bs:List Value) (c:Int) (w:World) (h:Lib.IsBuilderF 73 5 B b bs w) (hlen:bs.length+1<=140737488355328) (hBw:B<=w.heap.size):
  Calls Tryz.prog 39 #[.pointer (some ⟨b,0,none⟩), .int .u8 c] w fun e w'=>e= .returned .nilIface/\(Lib.BuilderAtF 73 5 B b (.pointer (some ⟨b,0,none⟩)) (bs++[.int .u8 c]) w'/\Below B w w'/\Lib.OthersKept 5 (some b) w w'):=by
 obtain ⟨i0,hi,hz0,hz1,hz2⟩:=info_parts yq5
 go_enter Tryz.func39,Tryz.ntmps39
 go_wp2_with (go_at_call 71;refine (yoa B b bs _ h).mono ?_)
 rintro e w1 ⟨rfl,h1,hb1,hk1⟩
 obtain ⟨hB,v,hbk,hown,hne⟩:=h1
 have c0:w1.cell? ⟨b,0,none⟩=some (.pointer (some ⟨b,0,none⟩)):=by rw [Lib.cell_of_heap hbk];rfl
 have c1:w1.cell? ⟨b,1,none⟩=some v:=by rw [Lib.cell_of_heap hbk];rfl
 go_wp2_with (at_builtin;refine wpList_append_ownF _ rfl _ _ 71 rfl B 5 i0 (.int .u8 0) 1 1 ytt hi hz0 hz1 hz2 rfl (by decide) _ _ _ rfl (hown.alloc _) ⟨w1.heap.size,0,none⟩ 1 1 [.int .u8 c] rfl rfl ?c1 ?c2 ?c3 ?c4 ?c5 ?_)
 case c1=>
  intro j u hj
  match j,hj with
  |0,hj=>simp at hj;subst hj;simp [Addr.add]
 case c2=>intro u hu;simp at hu;subst hu;rfl
 case c3=>unfold maxLen;omega
 case c4=>omega
 case c5=>have:=hb1.size;simp;omega
 intro v' w2 hown' hgrow _
 have hlt:b<w1.heap.size:=by
  rcases Nat.lt_or_ge b w1.heap.size with h'|h'
  ·exact h'
  ·simp [Array.getElem?_eq_none h'] at hbk
 have hb2:w2.heap[b]?=some (.cells #[.pointer (some ⟨b,0,none⟩),v] 73 (0,0)):=by
  rw [hgrow.block b (by simp;omega) (fun e=>hne e.symm),Lib.alloc_old w1 _ b hlt]
  exact hbk
 have d0:w2.cell? ⟨b,0,none⟩=some (.pointer (some ⟨b,0,none⟩)):=by rw [Lib.cell_of_heap hb2];rfl
 have d1:w2.cell? ⟨b,1,none⟩=some v:=by rw [Lib.cell_of_heap hb2];rfl
 have f1:w2.frozen? ⟨b,1,none⟩=false:=Lib.frozen_of_heap hb2 1
 obtain ⟨g,cap,rfl⟩: ∃g cap,v'= .slice (some ⟨g,0,none⟩) (bs.length+1) cap:=by
  rcases hown'.2 with ⟨_,h0⟩|⟨g,cap,cur,fz,hv,_⟩
  ·omega
  ·exact ⟨g,cap,hv⟩
 go_wp2
 go_ret
 refine ⟨rfl,?_,?_,((hk1.alloc _).grown hgrow (Lib.ownsRowF_kind (hown.alloc _))).setCell ⟨b,1,none⟩ rfl _⟩
 ·exact Lib.BuilderAtF.put (T:=73) (e:=5) hB hb2 (bs':=bs++[.int .u8 c]) (by simpa using hown') (by decide)
 ·exact ((hb1.alloc (by have:=hb1.size;omega) _).grown hgrow (by have:=hb1.size;simp;omega) (fun k hk=>(hown.lt k hk).1)).setCell (p:=⟨b,1,none⟩) hB _
theorem y40 (B b:Nat) (bs:List Value) (s:ByteArray) (w:World) (h:Lib.IsBuilderF 73 5 B b bs w) (hlen:bs.length+s.size<=140737488355328) (hBw:B<=w.heap.size):
  Calls Tryz.prog 38 #[.pointer (some ⟨b,0,none⟩), .string s] w fun e w'=>e= .returned (.tuple #[.int .i64 s.size, .nilIface])/\(Lib.BuilderAtF 73 5 B b (.pointer (some ⟨b,0,none⟩)) (bs++Lib.strCells s) w'/\Below B w w'/\Lib.OthersKept 5 (some b) w w'):=by
 obtain ⟨i0,hi,hz0,hz1,hz2⟩:=info_parts yq5
 go_enter Tryz.func38,Tryz.ntmps38
 go_wp2_with (go_at_call 71;refine (yoa B b bs _ h).mono ?_)
 rintro e w1 ⟨rfl,h1,hb1,hk1⟩
 obtain ⟨hB,v,hbk,hown,hne⟩:=h1
 have c0:w1.cell? ⟨b,0,none⟩=some (.pointer (some ⟨b,0,none⟩)):=by rw [Lib.cell_of_heap hbk];rfl
 have c1:w1.cell? ⟨b,1,none⟩=some v:=by rw [Lib.cell_of_heap hbk];rfl
 go_wp2_with (at_builtin;refine Lib.wpList_append_own_stringF _ rfl _ _ 71 9 rfl B 5 i0 ytt y70 hi hz0 hz1 hz2 _ _ _ rfl hown s rfl ?c3 ?c4 ?c5 ?_)
 case c3=>unfold maxLen;omega
 case c4=>omega
 case c5=>have:=hb1.size;omega
 intro v' w2 hown' hgrow _
 have hlt:b<w1.heap.size:=by
  rcases Nat.lt_or_ge b w1.heap.size with h'|h'
  ·exact h'
  ·simp [Array.getElem?_eq_none h'] at hbk
 have hb2:w2.heap[b]?=some (.cells #[.pointer (some ⟨b,0,none⟩),v] 73 (0,0)):=by
  rw [hgrow.block b hlt (fun e=>hne e.symm)]
  exact hbk
 have d0:w2.cell? ⟨b,0,none⟩=some (.pointer (some ⟨b,0,none⟩)):=by rw [Lib.cell_of_heap hb2];rfl
 have d1:w2.cell? ⟨b,1,none⟩=some v:=by rw [Lib.cell_of_heap hb2];rfl
 have f1:w2.frozen? ⟨b,1,none⟩=false:=Lib.frozen_of_heap hb2 1
 obtain ⟨ao,n',cap,rfl⟩: ∃ao n' cap,v'= .slice ao n' cap:=by
  rcases hown'.2 with ⟨hv,_⟩|⟨g,cap,cur,fz,hv,_⟩
  ·exact ⟨_,_,_,hv⟩
  ·exact ⟨_,_,_,hv⟩
 go_wp2
 go_ret2
 refine ⟨rfl,?_,?_,(hk1.grown hgrow (Lib.ownsRowF_kind hown)).setCell ⟨b,1,none⟩ rfl _⟩
 ·exact Lib.BuilderAtF.put (T:=73) (e:=5) hB hb2 (bs':=bs++Lib.strCells s) (by simpa [Lib.strCells_length] using hown') (by decide)
 ·exact (hb1.grown hgrow (by have:=hb1.size;omega) (fun k hk=>(hown.lt k hk).1)).setCell (p:=⟨b,1,none⟩) hB _
end Go.Proofs.YtfgbnalnbdhimaaGreatDoor
set_option linter.unusedSimpArgs false
set_option linter.unusedVariables false
namespace Go.Proofs.YtfgbnalnbdhimaaGreatDoor
open Go Go.RowKit Go.Shelf
set_option maxHeartbeats 4000000
set_option maxRecDepth 100000
theorem ydd {n:Int} (h0: -9223372036854775808<=n) (h1:n<=9223372036854775807):(Lib.itoa n).length<=21:=Lib.itoa_length_le n h0 h1
theorem yyu {B b:Nat} {bs:List Value} {W W':World} (h:Lib.IsBuilderF 73 5 B b bs W) (hb:Below W.heap.size W W'):Lib.IsBuilderF 73 5 B b bs W':=by
 have key: ∀p,Lib.BuilderAtF 73 5 B b p bs W->Lib.BuilderAtF 73 5 B b p bs W':=by
  rintro p ⟨h1,v,h2,h3,h4⟩
  refine ⟨h1,v,?_,?_,h4⟩
  ·rw [hb.block b (Array.getElem?_eq_some_iff.1 h2).1];exact h2
  ·refine ⟨h3.1,?_⟩
   rcases h3.2 with hn|⟨g,cap,cur,fz,rfl,g1,g2,rest⟩
   ·exact .inl hn
   ·exact .inr ⟨g,cap,cur,fz,rfl,g1,by rw [hb.block g (Array.getElem?_eq_some_iff.1 g2).1];exact g2,rest⟩
 exact h.imp (key _) (key _)
section
variable {w W:World} {b:Nat} {acc:List UInt8}
theorem TS.string (h:Lib.IsBuilderF 73 5 w.heap.size b (Lib.byteCells acc) W) (hb:Below w.heap.size w W):
  Calls Tryz.prog 41 #[.pointer (some ⟨b,0,none⟩)] W fun r W'=>r= .returned (.string ⟨acc.toArray⟩)/\Below w.heap.size w W':=by
 refine (Tryz.Builder_String_any_k w.heap.size b acc W h hb.size).mono ?_
 rintro r W' ⟨rfl,_,h2,_⟩
 exact ⟨rfl,hb.trans h2⟩
end
theorem adds (a:Addr) (i j:Nat):(a.add i).add j=a.add (i+j):=by
 unfold Addr.add
 by_cases hi:i=0<;>by_cases hj:j=0<;>simp [hi,hj,Nat.add_assoc]
theorem addB (a:Addr) (i:Nat):(a.add i).block=a.block:=by unfold Addr.add;split<;>rfl
theorem yq6 (w:World) (o:Obj):(w.alloc o).heap[w.heap.size]?=some o:=by
 show (w.heap.push o)[w.heap.size]?=some o
 simp
theorem yeo {n:Int} (h0: -9223372036854775808<=n) (h1:n<=9223372036854775807):(⟨(Lib.itoa n).toArray⟩:ByteArray).size<=100000:=by
 have:=ydd h0 h1
 show (Lib.itoa n).toArray.size<=100000
 simp;omega
theorem yvb (w:World) (o:Obj):Lib.IsBuilderF 73 5 w.heap.size (w.heap.size+1) (Lib.byteCells []) ((w.alloc o).alloc (.cells #[.pointer none, .slice none 0 0] 73))/\
  Below w.heap.size w ((w.alloc o).alloc (.cells #[.pointer none, .slice none 0 0] 73))/\w.heap.size+1<((w.alloc o).alloc (.cells #[.pointer none, .slice none 0 0] 73)).heap.size:=by
 have e1:(w.alloc o).heap.size=w.heap.size+1:=by show (w.heap.push o).size=_;simp
 have e2:=yq6 (w.alloc o) (.cells #[.pointer none, .slice none 0 0] 73)
 rw [e1] at e2
 refine ⟨.inl ⟨by omega, .slice none 0 0,e2,⟨rfl, .inl ⟨rfl,rfl⟩⟩,by simp [Value.ownBlock]⟩,((Below.refl _ w).alloc (Nat.le_refl _) _).alloc (by omega) _,?_⟩
 exact (Array.getElem?_eq_some_iff.1 e2).1
end Go.Proofs.YtfgbnalnbdhimaaGreatDoor
