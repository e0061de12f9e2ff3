/- Layer 19: the first bad crossing. -/
import Derived.Test.YtjpnnnognoaaiaaDoorZe
import Derived.Test.YtjpnnnognoaaiaaDoorZd
import Derived.Test.YtjpnnnognoaaiaaDoorPl
import Derived.Test.YtjpnnnognoaaiaaDoorZa
import Derived.Test.YtjpnnnognoaaiaaDoorZb
set_option linter.unusedSimpArgs false
set_option linter.unusedVariables false
namespace Go.Proofs.YtjpnnnognoaaiaaDoor
open Go Go.RowKit
set_option maxRecDepth 100000
set_option maxHeartbeats 4000000
def ym1 (s m:List Int) (L:Int):Int×Bool:=if yag s m L then (match badO s m with|some c=>(c,false)|none=>(-1,true)) else (-1,false)
theorem yow {α:Type} (l:List α) (k:Nat) (d:α) (h:k<l.length):l.drop k=l.getD k d::l.drop (k+1):=by
 rw [List.drop_eq_getElem_cons h];simp [h]
theorem yje (s m:List Int) (L:Int):Fn Tryd.prog 18 [dgA s m L] (.tup [I (ym1 s m L).1, .bool (ym1 s m L).2]):=by
 refine Fn.intro [.tmp 2, .tmp 3] Tryd.func18 rfl rfl (by decide) (by simp [Tryd.ntmps18]) ?_;rw [Tryd.ntmps18]
 repeat' (first|omega|(try apply yaa);simp only [go_sem,sevalprocAttr]|apply yab<;>(intro h_;(try simp only [h_]);revert h_)|apply And.intro|with_reducible intro h_|trivial|simp only [go_sem,la2];omega)
 refine ⟨yae.fn rfl (ybs s m L) ?_⟩
 have hS:=ym0 s m L
 unfold ygz at hS
 have hsl:=yjt s m
 unfold ym1
 cases hv:yag s m L with
 |false=>
  repeat' (first|omega|(try apply yaa);simp only [go_sem,sevalprocAttr]|apply yab<;>(intro h_;(try simp only [h_]);revert h_)|apply And.intro|with_reducible intro h_|trivial|simp only [go_sem,la2];omega)
 |true=>
  rw [hv,if_pos rfl] at hS
  have v1:=yan hv
  have h64:=v1.s64
  have hl:=v1.len
  have hmem:=fun l (hl:l∈yak s m)=>ygy v1.prd hl
  unfold badO
  repeat' (first|omega|(try apply yaa);simp only [go_sem,sevalprocAttr]|apply yab<;>(intro h_;(try simp only [h_]);revert h_)|apply And.intro|with_reducible intro h_|trivial|simp only [go_sem,la2];omega)
  refine ⟨yae.fn rfl hS ?_⟩
  repeat' (first|omega|(try apply yaa);simp only [go_sem,sevalprocAttr]|apply yab<;>(intro h_;(try simp only [h_]);revert h_)|apply And.intro|with_reducible intro h_|trivial|simp only [go_sem,la2];omega)
  generalize yak s m=ls at*
  refine ya0.intro (fun n fr H=> ∃(i:Nat) (v:List Bool),i<=ls.length/\n=ls.length-i/\v.length=s.length/\ydu v (ls.drop i)=ydu (List.replicate s.length false) ls/\fr=[(19,I i),(18,I ls.length),(17,roLL ls),(4, .sl 1 1 0 s.length)]/\H=[(1, .cells 4 (.bools v))]) ?_ ?_
  ·refine ⟨_,_,_,?_,0,List.replicate s.length false,by omega,rfl,by simp,rfl,rfl,rfl⟩
   refine Wk.sub ?_ ?_<;>simp only [go_sem,sevalprocAttr]
  rintro n fr H ⟨i,v,hi,rfl,hvl,hbad,rfl,rfl⟩
  by_cases hil:i<ls.length
  ·have hg:=y1f ls i hil
   have hme:=hmem (ls.getD i []) (by simp [hil])
   rw [yow ls i [] hil] at hbad
   generalize ls.getD i []=l at*
   repeat' (first|omega|(try apply yaa);simp only [go_sem,sevalprocAttr,hg]|apply yab<;>(intro h_;(try simp only [h_]);revert h_)|apply And.intro|with_reducible intro h_|trivial|simp only [go_sem,la2];omega)
   refine ya0.intro (fun n fr H=> ∃(k:Nat) (v':List Bool),k<=l.length/\n=l.length-k/\v'.length=s.length/\badS v' (l.drop k)=badS v l/\fr=[(25,I k),(24,I l.length),(23,roI l),(19,I i),(18,I ls.length),(17,roLL ls),(4, .sl 1 1 0 s.length)]/\H=[(1, .cells 4 (.bools v'))]) ?_ ?_
   ·refine ⟨_,_,_,?_,0,v,by omega,rfl,hvl,rfl,rfl,rfl⟩
    refine Wk.sub ?_ ?_<;>simp only [go_sem,sevalprocAttr]
   rintro n fr H ⟨k,v',hk,rfl,hvl',hbs,rfl,rfl⟩
   by_cases hkl:k<l.length
   ·have hx:=hme.2 (l.getD k 0) (by simp [hkl])
    rw [yow l k 0 hkl] at hbs
    have e1:(l.getD k 0).tdiv 4=l.getD k 0/4:=yda hx.1
    have e2:(l.getD k 0).tmod 2=l.getD k 0 % 2:=ynt hx.1
    have hstep: ¬(v'.getD (l.getD k 0/4).toNat false=false/\l.getD k 0 % 2=0)->badS (v'.set (l.getD k 0/4).toNat true) (l.drop (k+1))=badS v l:=fun hn=>by
     rw [←hbs];simp only [badS];rw [if_neg hn]
    have hhit:(v'.getD (l.getD k 0/4).toNat false=false/\l.getD k 0 % 2=0)->ydu (List.replicate s.length false) ls=some (l.getD k 0/4):=fun hn=>by
     rw [←hbad]
     simp only [badS] at hbs
     rw [if_pos hn] at hbs
     simp only [ydu,←hbs]
    repeat' (first|omega|(try apply yaa);simp only [go_sem,sevalprocAttr,e1,e2]|apply yab<;>(intro h_;(try simp only [h_]);revert h_)|apply And.intro|with_reducible intro h_|trivial|simp only [go_sem,la2];omega)
    ·rw [hhit ⟨by assumption,by assumption⟩]
    ·rw [hhit ⟨by assumption,by assumption⟩]
    all_goals refine ⟨_,_,_,?_,?_,⟨k+1,v'.set (l.getD k 0/4).toNat true,by omega,rfl,by simp [hvl'],hstep (by simp_all),rfl,rfl⟩⟩
    all_goals first|omega|refine Wk.sub ?_ ?_<;>simp only [go_sem,sevalprocAttr]
   ·obtain rfl:k=l.length:=by omega
    rw [List.drop_length] at hbs
    repeat' (first|omega|(try apply yaa);simp only [go_sem,sevalprocAttr]|apply yab<;>(intro h_;(try simp only [h_]);revert h_)|apply And.intro|with_reducible intro h_|trivial|simp only [go_sem,la2];omega)
    refine ⟨_,_,_,?_,?_,⟨i+1,v',by omega,rfl,hvl',?_,rfl,rfl⟩⟩
    ·omega
    ·refine Wk.sub ?_ ?_<;>simp only [go_sem,sevalprocAttr]
    ·rw [←hbad];simp only [ydu,←hbs,badS]
  ·obtain rfl:i=ls.length:=by omega
   rw [List.drop_length] at hbad
   rw [←hbad]
   repeat' (first|omega|(try apply yaa);simp only [go_sem,sevalprocAttr]|apply yab<;>(intro h_;(try simp only [h_]);revert h_)|apply And.intro|with_reducible intro h_|trivial|simp only [go_sem,la2];omega)
end Go.Proofs.YtjpnnnognoaaiaaDoor
set_option linter.unusedSimpArgs false
set_option linter.unusedVariables false
namespace Go.Proofs.YtjpnnnognoaaiaaDoor
open Go Go.RowKit
set_option maxRecDepth 100000
set_option maxHeartbeats 4000000
def yfb:Tr:= .node [(0, .node [(1,trD [2,3,4,5]),(2,trD [1,3,4,5])]),(1,trD [0,2,3,4,5])]
def yhy:Tr:= .node [(0, .node [(1, .node [(2,trD [3,4,5,6]),(3, .node [(2,trD [4,5,6]),(4,trD [2,5,6])])]),(2, .node [(1,trD [3,4,5,6]),(3,trD [1,4,5,6])]),(3, .node [(1, .node [(2,trD [4,5,6]),(4,trD [2,5,6])]),(2,trD [1,4,5,6])])]),(1, .node [(0, .node [(2,trD [3,4,5,6]),(3, .node [(2,trD [4,5,6]),(4,trD [2,5,6])])]),(2,trD [0,3,4,5,6])]),(2, .node [(0, .node [(1,trD [3,4,5,6]),(3,trD [1,4,5,6])]),(1,trD [0,3,4,5,6])])]
theorem yix:LeA (.agg [.nils, .nils,I 0]) (dgA [] [] 0):=LeA.aggL (.cons (LeA.nils (by omega) rfl) (.cons (LeA.nils (by omega) rfl) (.cons (LeA.refl _) .nil)))
def resA (s m:List Int) (L:Int):AV:=if yag s m L then (match badO s m with
    |some c=> .tup [dgA (swS s c.toNat) (swM s m c.toNat) L,dgA (smS s c.toNat) (smM s m c.toNat) (smLp s m c.toNat L),I c,I 0]
    |none=> .tup [dgA [] [] 0,dgA [] [] 0,I (-1),I 12]) else .tup [dgA [] [] 0,dgA [] [] 0,I (-1),I 1]
theorem yvd (s m:List Int) (L:Int) (hL:yag s m L=true->L<=62):Fn Tryd.prog 43 [dgA s m L] (resA s m L):=by
 have hD:=yje s m L
 unfold ym1 at hD
 unfold resA
 cases hv:yag s m L with
 |false=>
  rw [hv] at hD
  simp only [Bool.false_eq_true,if_false] at hD⊢
  refine Fn.introL [.cell 2 24, .cell 3 24, .tmp 4, .tmp 5] Tryd.func43 rfl rfl (by decide) (by simp [Tryd.ntmps43]) ?_;rw [Tryd.ntmps43]
  repeat' (first|omega|(try apply yaa);simp only [go_sem,sevalprocAttr]|apply yab<;>(intro h_;(try simp only [h_]);revert h_)|apply And.intro|with_reducible intro h_|trivial|simp only [go_sem,la2];omega)
  refine ⟨yae.fn rfl hD ?_⟩
  repeat' (first|omega|(first|apply yaa|(refine yac.intro (id:=3) [[14],[13],[14],[],[],[]] [[],[0],[1],[],[],[]] (by decide+kernel) mixed ?_)|(refine yac.introT (id:=3) (yfb) (by decide+kernel) mixed ?_)|(refine yac.intro (id:=5) [[18],[17],[18],[],[],[]] [[],[0],[1],[],[],[]] (by decide+kernel) mixed ?_)|(refine yac.introT (id:=5) (yfb) (by decide+kernel) mixed ?_)|(refine yac.intro (id:=12) [[42,43],[41,43],[41,42],[42,43],[43],[],[]] [[],[0],[0,1],[1,2],[2],[],[]] (by decide+kernel) mixed ?_)|(refine yac.introT (id:=12) (yhy) (by decide+kernel) mixed ?_)|skip);simp only [go_sem,sevalprocAttr,↓reduceIte,reduceCtorEq,yfb,yhy]|apply yab<;>(intro h_;(try simp only [h_]);revert h_)|apply And.intro|with_reducible intro h_|trivial|simp only [go_sem,la2];omega)
  all_goals exact LeA.tupL (.cons yix (.cons yix (.cons (LeA.refl _) (.cons (LeA.refl _) .nil))))
 |true=>
  have hL:=hL hv
  have v1:=yan hv
  rw [hv] at hD
  simp only [if_true] at hD⊢
  cases hbo:badO s m with
  |none=>
   rw [hbo] at hD
   simp only at hD⊢
   refine Fn.introL [.cell 2 24, .cell 3 24, .tmp 4, .tmp 5] Tryd.func43 rfl rfl (by decide) (by simp [Tryd.ntmps43]) ?_;rw [Tryd.ntmps43]
   repeat' (first|omega|(try apply yaa);simp only [go_sem,sevalprocAttr]|apply yab<;>(intro h_;(try simp only [h_]);revert h_)|apply And.intro|with_reducible intro h_|trivial|simp only [go_sem,la2];omega)
   refine ⟨yae.fn rfl hD ?_⟩
   repeat' (first|omega|(first|apply yaa|(refine yac.intro (id:=3) [[14],[13],[14],[],[],[]] [[],[0],[1],[],[],[]] (by decide+kernel) mixed ?_)|(refine yac.introT (id:=3) (yfb) (by decide+kernel) mixed ?_)|(refine yac.intro (id:=5) [[18],[17],[18],[],[],[]] [[],[0],[1],[],[],[]] (by decide+kernel) mixed ?_)|(refine yac.introT (id:=5) (yfb) (by decide+kernel) mixed ?_)|(refine yac.intro (id:=12) [[42,43],[41,43],[41,42],[42,43],[43],[],[]] [[],[0],[0,1],[1,2],[2],[],[]] (by decide+kernel) mixed ?_)|(refine yac.introT (id:=12) (yhy) (by decide+kernel) mixed ?_)|skip);simp only [go_sem,sevalprocAttr,↓reduceIte,reduceCtorEq,yfb,yhy]|apply yab<;>(intro h_;(try simp only [h_]);revert h_)|apply And.intro|with_reducible intro h_|trivial|simp only [go_sem,la2];omega)
   all_goals exact LeA.tupL (.cons yix (.cons yix (.cons (LeA.refl _) (.cons (LeA.refl _) .nil))))
  |some c=>
   rw [hbo] at hD
   simp only at hD⊢
   obtain ⟨c0,c1⟩:=yiw v1.prd hbo
   obtain ⟨c,rfl⟩: ∃n:Nat,c=n:=⟨c.toNat,by omega⟩
   have hsm:=yx7 s m L c (by omega) hL hv _ rfl
   have hsw:=yx3 s m L c (by omega) (by omega) hv
   refine Fn.introL [.cell 2 24, .cell 3 24, .tmp 4, .tmp 5] Tryd.func43 rfl rfl (by decide) (by simp [Tryd.ntmps43]) ?_;rw [Tryd.ntmps43]
   repeat' (first|omega|(try apply yaa);simp only [go_sem,sevalprocAttr]|apply yab<;>(intro h_;(try simp only [h_]);revert h_)|apply And.intro|with_reducible intro h_|trivial|simp only [go_sem,la2];omega)
   refine ⟨yae.fn rfl hD ?_⟩
   repeat' (first|omega|(try apply yaa);simp only [go_sem,sevalprocAttr]|apply yab<;>(intro h_;(try simp only [h_]);revert h_)|apply And.intro|with_reducible intro h_|trivial|simp only [go_sem,la2];omega)
   refine ⟨yae.fn rfl hsm ?_⟩
   repeat' (first|omega|(try apply yaa);simp only [go_sem,sevalprocAttr]|apply yab<;>(intro h_;(try simp only [h_]);revert h_)|apply And.intro|with_reducible intro h_|trivial|simp only [go_sem,la2];omega)
   refine ⟨yae.fn rfl hsw ?_⟩
   repeat' (first|omega|(first|apply yaa|(refine yac.intro (id:=3) [[14],[13],[14],[],[],[]] [[],[0],[1],[],[],[]] (by decide+kernel) mixed ?_)|(refine yac.introT (id:=3) (yfb) (by decide+kernel) mixed ?_)|(refine yac.intro (id:=5) [[18],[17],[18],[],[],[]] [[],[0],[1],[],[],[]] (by decide+kernel) mixed ?_)|(refine yac.introT (id:=5) (yfb) (by decide+kernel) mixed ?_)|(refine yac.intro (id:=12) [[42,43],[41,43],[41,42],[42,43],[43],[],[]] [[],[0],[0,1],[1,2],[2],[],[]] (by decide+kernel) mixed ?_)|(refine yac.introT (id:=12) (yhy) (by decide+kernel) mixed ?_)|skip);simp only [go_sem,sevalprocAttr,↓reduceIte,reduceCtorEq,yfb,yhy]|apply yab<;>(intro h_;(try simp only [h_]);revert h_)|apply And.intro|with_reducible intro h_|trivial|simp only [go_sem,la2];omega)
   all_goals exact LeA.refl _
end Go.Proofs.YtjpnnnognoaaiaaDoor
set_option linter.unusedSimpArgs false
set_option linter.unusedVariables false
namespace Go.Proofs.YtjpnnnognoaaiaaDoor
def fitB (v l:Int):Bool:=decide (-l<=v)&&decide (v<=l)
def yfu (p:List (Int×Int)):Prop:= ∀t∈p,-1125899906842624<=t.2/\t.2<=1125899906842624
def mrg (f:Int->Int->Int) (p q:List (Int×Int)):List (Int×Int):=match p,q with
 |[],[]=>[]
 |(e,a)::p,[]=>(e,f a 0)::mrg f p []
 |[],(e,b)::q=>(e,f 0 b)::mrg f [] q
 |(e,a)::p,(e',b)::q=>if e<e' then (e,f a 0)::mrg f p ((e',b)::q) else if e'<e then (e',f 0 b)::mrg f ((e,a)::p) q else (e,f a b)::mrg f p q
termination_by p.length+q.length
def ycd (l:List (Int×Int)):Bool:=l.all fun t=>fitB t.2 1125899906842624
def nz (l:List (Int×Int)):List (Int×Int):=l.filter fun t=>t.2 !=0
def addF (a b:Int):Int:=a+b
def negF (_ b:Int):Int:= -b
def shP (k:Int) (p:List (Int×Int)):List (Int×Int):=p.map fun t=>(t.1+k,t.2)
def mrgN (f:Int->Int->Int):Nat->List (Int×Int)->List (Int×Int)->List (Int×Int)
 |0,_,_=>[]
 |n+1,p,q=>match p,q with
  |[],[]=>[]
  |(e,a)::p,[]=>(e,f a 0)::mrgN f n p []
  |[],(e,b)::q=>(e,f 0 b)::mrgN f n [] q
  |(e,a)::p,(e',b)::q=>if e<e' then (e,f a 0)::mrgN f n p ((e',b)::q) else if e'<e then (e',f 0 b)::mrgN f n ((e,a)::p) q else (e,f a b)::mrgN f n p q
theorem ydb (f:Int->Int->Int): ∀(n:Nat) (p q:List (Int×Int)),p.length+q.length<=n->mrgN f n p q=mrg f p q
 |0,p,q,h=>by
  obtain rfl:p=[]:=List.length_eq_zero_iff.1 (by omega)
  obtain rfl:q=[]:=List.length_eq_zero_iff.1 (by omega)
  simp [mrgN,mrg]
 |n+1,[],[],_=>by simp [mrgN,mrg]
 |n+1,(e,a)::p,[],h=>by
  simp only [List.length_cons,List.length_nil] at h
  simp only [mrgN];unfold mrg;rw [ydb f n p [] (by simp;omega)]
 |n+1,[],(e,b)::q,h=>by
  simp only [List.length_cons,List.length_nil] at h
  simp only [mrgN];unfold mrg;rw [ydb f n [] q (by simp;omega)]
 |n+1,(e,a)::p,(e',b)::q,h=>by
  simp only [List.length_cons] at h
  simp only [mrgN];unfold mrg
  rw [ydb f n p ((e',b)::q) (by simp;omega),ydb f n ((e,a)::p) q (by simp;omega),ydb f n p q (by omega)]
def pgB (p:List (Int×Int)):Bool:=(p.all fun t=>fitB t.1 1048575&&fitB t.2 1125899906842624)&&decide (p.length<=500000)&&(match p with|a::b::_=>decide (a.1<=b.1)|_=>true)
theorem yve {p:List (Int×Int)} (h:pgB p=true):yfu p:=fun t ht=>by
 simp only [pgB,Bool.and_eq_true,List.all_eq_true] at h
 have:=(h.1.1 t ht).2
 simp only [fitB,Bool.and_eq_true,decide_eq_true_eq] at this
 omega
theorem y2l {p:List (Int×Int)} (h:pgB p=true): ∀t∈p,-1048575<=t.1/\t.1<=1048575:=fun t ht=>by
 simp only [pgB,Bool.and_eq_true,List.all_eq_true] at h
 have:=(h.1.1 t ht).1
 simp only [fitB,Bool.and_eq_true,decide_eq_true_eq] at this
 omega
theorem yph {p:List (Int×Int)} (h:pgB p=true):p.length<=500000:=by
 simp only [pgB,Bool.and_eq_true,decide_eq_true_eq] at h;exact h.1.2
theorem y8s {p:List (Int×Int)} (h:pgB p=true):1<p.length->(p.getD 0 (0,0)).1<=(p.getD 1 (0,0)).1:=by
 simp only [pgB,Bool.and_eq_true] at h
 have h:=h.2
 match p,h with
 |[],_=>intro h;simp at h
 |[_],_=>intro h;simp at h
 |a::b::r,h=>intro _;simpa using h
def yfv (neg:Bool) (p:List (Int×Int)):List (Int×Int):=if neg then nz (mrgN negF p.length [] p) else p
def ym2 (q p:List (Int×Int)):List (Int×Int):=mrgN addF (q.length+p.length) q p
def rsM:Nat->List Int->List Int->Int->Option (List (Int×Int))
 |0,_,_,_=>none
 |n+1,s,m,L=>if 0<L/\0<s.length then some [] else if L<=62 then (if yag s m L then (match badO s m with
   |some c=>match rsM n (smS s c.toNat) (smM s m c.toNat) (smLp s m c.toNat L),rsM n (swS s c.toNat) (swM s m c.toNat) L with
    |some p,some q=>if pgB p&&pgB (shP 1 p)&&ycd (mrgN negF (shP 1 p).length [] (shP 1 p))&&pgB (yfv (decide (s.getD c.toNat 0<0)) (shP 1 p))&&pgB q&&ycd (ym2 q (yfv (decide (s.getD c.toNat 0<0)) (shP 1 p))) then some (nz (ym2 q (yfv (decide (s.getD c.toNat 0<0)) (shP 1 p)))) else none
    |_,_=>none
   |none=>if ((yak s m).length:Int)+L=1 then some [(0,1)] else some []) else some []) else none
end Go.Proofs.YtjpnnnognoaaiaaDoor
set_option linter.unusedSimpArgs false
set_option linter.unusedVariables false
namespace Go.Proofs.YtjpnnnognoaaiaaDoor
open Go Go.RowKit
set_option maxRecDepth 100000
set_option maxHeartbeats 4000000
def tmC (p:List (Int×Int)):List AV:=p.flatMap fun t=>[I t.1,I t.2]
abbrev tmA (p:List (Int×Int)):AV:= .ro 2 p.length (.lst (tmC p))
abbrev plA (b:Bool) (p:List (Int×Int)):AV:= .agg [.bool b,tmA p]
attribute [go_sem] tmA plA
theorem ydr (p:List (Int×Int)):(tmC p).length=2*p.length:=by
 unfold tmC;induction p with
 |nil=>rfl
 |cons x p ih=>simp [ih];omega
theorem ycj (p:List (Int×Int)) (i:Nat) (h:i<p.length):(tmC p).getD (i*2) .any=I (p.getD i (0,0)).1:=by
 unfold tmC;induction p generalizing i with
 |nil=>simp at h
 |cons x p ih=>
  cases i with
  |zero=>simp
  |succ i=>
   have:=ih i (by simpa using h)
   simp only [List.flatMap_cons,List.getD_cons_succ]
   rw [show (i+1)*2=i*2+1+1 by omega]
   simpa using this
theorem ydy (p:List (Int×Int)) (i:Nat) (h:i<p.length):(tmC p).getD (i*2+1) .any=I (p.getD i (0,0)).2:=by
 unfold tmC;induction p generalizing i with
 |nil=>simp at h
 |cons x p ih=>
  cases i with
  |zero=>simp
  |succ i=>
   have:=ih i (by simpa using h)
   simp only [List.flatMap_cons,List.getD_cons_succ]
   rw [show (i+1)*2+1=i*2+1+1+1 by omega]
   simpa using this
theorem ydz (v l:Int) (h0:0<=l) (h1:l<=9000000000000000000):Fn Tryd.prog 32 [I v,I l] (.bool (fitB v l)):=by
 unfold fitB
 refine Fn.intro [.tmp 4] Tryd.func32 rfl rfl (by decide) (by simp [Tryd.ntmps32]) ?_;rw [Tryd.ntmps32]
 repeat' (first|omega|(try apply yaa);simp only [go_sem,sevalprocAttr]|apply yab<;>(intro h_;(try simp only [h_]);revert h_)|apply And.intro|with_reducible intro h_|trivial|simp only [go_sem,la2];omega)
 all_goals simp_all
 all_goals omega
theorem ykm {p:List (Int×Int)} {x:AV} (h:x∈tmC p): ∃n,x=I n:=by
 unfold tmC at h
 obtain ⟨t,_,ht⟩:=List.mem_flatMap.1 h
 simp only [List.mem_cons,List.not_mem_nil,or_false] at ht
 rcases ht with e|e<;>exact ⟨_,e⟩
theorem ym3 (p:List (Int×Int)):(tmC p).all p1=true:=List.all_eq_true.2 fun x hx=>by obtain ⟨n,rfl⟩:=ykm hx;rfl
theorem yd0 (H:Hp) (p:List (Int×Int)):(tmC p).all (s3 H)=true:=List.all_eq_true.2 fun x hx=>by obtain ⟨n,rfl⟩:=ykm hx;rfl
theorem y62 (p:List (Int×Int)):(tmC p).all yb5=true:=List.all_eq_true.2 fun x hx=>by obtain ⟨n,rfl⟩:=ykm hx;rfl
theorem y40 (i:Nat) (p:List (Int×Int)):(tmC p).map (cutV i)=tmC p:=by
 conv=>rhs;rw [←List.map_id (tmC p)]
 exact List.map_congr_left fun x hx=>by obtain ⟨n,rfl⟩:=ykm hx;rfl
theorem y1o (H:Hp) (n:Nat) (p:List (Int×Int)):(tmC p).map (snap H (n+1))=tmC p:=ya3 (ym3 p) H n
theorem yya (H:Hp) (n:Nat) (p:List (Int×Int)):(∀x∈tmC p,yau H (n+1) x)=True:=yaw (ym3 p) H n
theorem y41 (H:Hp) (n:Nat) (p:List (Int×Int)):(tmC p).map (frzV H (n+1))=tmC p:=ybb (ym3 p) H n
theorem y1p (H:Hp) (n:Nat) (p:List (Int×Int)):(∀x∈tmC p,frzP H (n+1) x)=True:=ya4 (ym3 p) H n
theorem yl1 (p:List (Int×Int)) (e c:Int):tmC p++[AV.int .i64 e,AV.int .i64 c]=tmC (p++[(e,c)]):=by simp [tmC]
attribute [go_sem] yd0 y62 y40 y1o yya y41 y1p ydr
theorem y42 (fr:Fr):unl (lft fr)=fr:=by
 induction fr with
 |nil=>rfl
 |cons q r ih=>
  obtain ⟨t,x⟩:=q
  simp only [lft,unl]
  rw [if_pos (by omega),ih,Nat.add_sub_cancel]
theorem y1q (i:Nat) (fr:Fr):fcut i (lft fr)=lft (fcut i fr):=by
 induction fr with
 |nil=>rfl
 |cons q r ih=>obtain ⟨t,x⟩:=q;simp only [lft,fcut,ih]
attribute [go_sem] y42 y1q
theorem yju {p:List (Int×Int)} (h:yfu p) {i:Nat} (hi:i<p.length): -1125899906842624<=(p.getD i (0,0)).2/\(p.getD i (0,0)).2<=1125899906842624:=h _ (by simp [hi])
end Go.Proofs.YtjpnnnognoaaiaaDoor
