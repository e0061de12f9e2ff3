/- Layer 19: the first bad crossing. -/
import Derived.Test.YtcnilhcplgiidaaDoorZd
import Derived.Test.YtcnilhcplgiidaaDoorMi4
import Derived.Test.YtcnilhcplgiidaaDoorPl
set_option linter.unusedSimpArgs false
set_option linter.unusedVariables false
namespace Go.Proofs.YtcnilhcplgiidaaDoor
open Go Go.RowKit
set_option maxRecDepth 100000
set_option maxHeartbeats 4000000
def yj5 (s m:List Int) (L:Int):Int×Bool:=if yaj s m L then (match badO s m with|some c=>(c,false)|none=>(-1,true)) else (-1,false)
theorem ylr {α:Type} (l:List α) (k:Nat) (d:α) (h:k<l.length):l.drop k=l.getD k d::l.drop (k+1):=by
 rw [List.drop_eq_getElem_cons h];simp [h]
theorem yg4 (s m:List Int) (L:Int):Fn Tryd.prog 31 [dgA s m L] (.tup [I (yj5 s m L).1, .bool (yj5 s m L).2]):=by
 refine Fn.intro [.tmp 2, .tmp 3] Tryd.func31 rfl rfl (by decide) (by simp [Tryd.ntmps31]) ?_;rw [Tryd.ntmps31]
 repeat' (first|omega|(try apply yaa);simp only [go_sem,sevalprocAttr]|apply yad<;>(intro h_;(try simp only [h_]);revert h_)|apply yac|apply yab|apply gspI|apply And.intro|with_reducible intro h_|trivial|simp only [go_sem,la2];omega)
 refine ⟨yag.fn rfl (yb6 s m L) ?_⟩
 have hS:=ygy s m L
 unfold yd6 at hS
 have hsl:=ydx s m
 unfold yj5
 cases hv:yaj s m L with
 |false=>
  repeat' (first|omega|(try apply yaa);simp only [go_sem,sevalprocAttr]|apply yad<;>(intro h_;(try simp only [h_]);revert h_)|apply yac|apply yab|apply gspI|apply And.intro|with_reducible intro h_|trivial|simp only [go_sem,la2];omega)
 |true=>
  rw [hv,if_pos rfl] at hS
  have v1:=yat hv
  have h64:=v1.s64
  have hl:=v1.len
  have hmem:=fun l (hl:l∈yae s m)=>ydy v1.prd hl
  unfold badO
  repeat' (first|omega|(try apply yaa);simp only [go_sem,sevalprocAttr]|apply yad<;>(intro h_;(try simp only [h_]);revert h_)|apply yac|apply yab|apply gspI|apply And.intro|with_reducible intro h_|trivial|simp only [go_sem,la2];omega)
  refine ⟨yag.fn rfl hS ?_⟩
  repeat' (first|omega|(try apply yaa);simp only [go_sem,sevalprocAttr]|apply yad<;>(intro h_;(try simp only [h_]);revert h_)|apply yac|apply yab|apply gspI|apply And.intro|with_reducible intro h_|trivial|simp only [go_sem,la2];omega)
  generalize yae s m=ls at*
  refine ya0.intro (fun n fr H=> ∃(i:Nat) (v:List Bool),i<=ls.length/\n=ls.length-i/\v.length=s.length/\ycx v (ls.drop i)=ycx (List.replicate s.length false) ls/\fr=[(19,I i),(18,I ls.length),(17,roLL ls),(4, .sl 1 1 0 s.length)]/\H=[(1, .cells 4 (.bools v))]) ?_ ?_
  ·refine ⟨_,_,_,?_,0,List.replicate s.length false,by omega,rfl,by simp,rfl,rfl,rfl⟩
   refine Wk.sub ?_ ?_<;>simp only [go_sem,sevalprocAttr]
  rintro n fr H ⟨i,v,hi,rfl,hvl,hbad,rfl,rfl⟩
  by_cases hil:i<ls.length
  ·have hg:=ym8 ls i hil
   have hme:=hmem (ls.getD i []) (by simp [hil])
   rw [ylr ls i [] hil] at hbad
   generalize ls.getD i []=l at*
   repeat' (first|omega|(try apply yaa);simp only [go_sem,sevalprocAttr,hg]|apply yad<;>(intro h_;(try simp only [h_]);revert h_)|apply yac|apply yab|apply gspI|apply And.intro|with_reducible intro h_|trivial|simp only [go_sem,la2];omega)
   refine ya0.intro (fun n fr H=> ∃(k:Nat) (v':List Bool),k<=l.length/\n=l.length-k/\v'.length=s.length/\badS v' (l.drop k)=badS v l/\fr=[(25,I k),(24,I l.length),(23,roI l),(19,I i),(18,I ls.length),(17,roLL ls),(4, .sl 1 1 0 s.length)]/\H=[(1, .cells 4 (.bools v'))]) ?_ ?_
   ·refine ⟨_,_,_,?_,0,v,by omega,rfl,hvl,rfl,rfl,rfl⟩
    refine Wk.sub ?_ ?_<;>simp only [go_sem,sevalprocAttr]
   rintro n fr H ⟨k,v',hk,rfl,hvl',hbs,rfl,rfl⟩
   by_cases hkl:k<l.length
   ·have hx:=hme.2 (l.getD k 0) (by simp [hkl])
    rw [ylr l k 0 hkl] at hbs
    have e1:(l.getD k 0).tdiv 4=l.getD k 0/4:=ych hx.1
    have e2:(l.getD k 0).tmod 2=l.getD k 0 % 2:=ykt hx.1
    have hstep: ¬(v'.getD (l.getD k 0/4).toNat false=false/\l.getD k 0 % 2=0)->badS (v'.set (l.getD k 0/4).toNat true) (l.drop (k+1))=badS v l:=fun hn=>by
     rw [←hbs];simp only [badS];rw [if_neg hn]
    have hhit:(v'.getD (l.getD k 0/4).toNat false=false/\l.getD k 0 % 2=0)->ycx (List.replicate s.length false) ls=some (l.getD k 0/4):=fun hn=>by
     rw [←hbad]
     simp only [badS] at hbs
     rw [if_pos hn] at hbs
     simp only [ycx,←hbs]
    repeat' (first|omega|(try apply yaa);simp only [go_sem,sevalprocAttr,e1,e2]|apply yad<;>(intro h_;(try simp only [h_]);revert h_)|apply yac|apply yab|apply gspI|apply And.intro|with_reducible intro h_|trivial|simp only [go_sem,la2];omega)
    ·rw [hhit ⟨by assumption,by assumption⟩]
    ·rw [hhit ⟨by assumption,by assumption⟩]
    all_goals refine ⟨_,_,_,?_,?_,⟨k+1,v'.set (l.getD k 0/4).toNat true,by omega,rfl,by simp [hvl'],hstep (by simp_all),rfl,rfl⟩⟩
    all_goals first|omega|refine Wk.sub ?_ ?_<;>simp only [go_sem,sevalprocAttr]
   ·obtain rfl:k=l.length:=by omega
    rw [List.drop_length] at hbs
    repeat' (first|omega|(try apply yaa);simp only [go_sem,sevalprocAttr]|apply yad<;>(intro h_;(try simp only [h_]);revert h_)|apply yac|apply yab|apply gspI|apply And.intro|with_reducible intro h_|trivial|simp only [go_sem,la2];omega)
    refine ⟨_,_,_,?_,?_,⟨i+1,v',by omega,rfl,hvl',?_,rfl,rfl⟩⟩
    ·omega
    ·refine Wk.sub ?_ ?_<;>simp only [go_sem,sevalprocAttr]
    ·rw [←hbad];simp only [ycx,←hbs,badS]
  ·obtain rfl:i=ls.length:=by omega
   rw [List.drop_length] at hbad
   rw [←hbad]
   repeat' (first|omega|(try apply yaa);simp only [go_sem,sevalprocAttr]|apply yad<;>(intro h_;(try simp only [h_]);revert h_)|apply yac|apply yab|apply gspI|apply And.intro|with_reducible intro h_|trivial|simp only [go_sem,la2];omega)
end Go.Proofs.YtcnilhcplgiidaaDoor
set_option linter.unusedSimpArgs false
set_option linter.unusedVariables false
namespace Go.Proofs.YtcnilhcplgiidaaDoor
open Go Go.RowKit
set_option maxRecDepth 100000
set_option maxHeartbeats 4000000
def yd0:Tr:= .node [(0, .node [(1, .node [(2, .node [(3, .node [(4, .node [(5, .done)])])])]),(2, .node [(1, .node [(3, .node [(4, .node [(5, .done)])])])])]),(1, .node [(0, .node [(2, .node [(3, .node [(4, .node [(5, .done)])])])])])]
def yf9:Tr:= .node [(0, .node [(1, .node [(2, .node [(3, .node [(4, .node [(5, .node [(6, .done)])])])]),(3, .node [(2, .node [(4, .node [(5, .node [(6, .done)])])]),(4, .node [(2, .node [(5, .node [(6, .done)])])])])]),(2, .node [(1, .node [(3, .node [(4, .node [(5, .node [(6, .done)])])])]),(3, .node [(1, .node [(4, .node [(5, .node [(6, .done)])])])])]),(3, .node [(1, .node [(2, .node [(4, .node [(5, .node [(6, .done)])])]),(4, .node [(2, .node [(5, .node [(6, .done)])])])]),(2, .node [(1, .node [(4, .node [(5, .node [(6, .done)])])])])])]),(1, .node [(0, .node [(2, .node [(3, .node [(4, .node [(5, .node [(6, .done)])])])]),(3, .node [(2, .node [(4, .node [(5, .node [(6, .done)])])]),(4, .node [(2, .node [(5, .node [(6, .done)])])])])]),(2, .node [(0, .node [(3, .node [(4, .node [(5, .node [(6, .done)])])])])])]),(2, .node [(0, .node [(1, .node [(3, .node [(4, .node [(5, .node [(6, .done)])])])]),(3, .node [(1, .node [(4, .node [(5, .node [(6, .done)])])])])]),(1, .node [(0, .node [(3, .node [(4, .node [(5, .node [(6, .done)])])])])])])]
theorem ygz:LeA (.agg [.nils, .nils,I 0]) (dgA [] [] 0):=LeA.aggL (.cons (LeA.nils (by omega) rfl) (.cons (LeA.nils (by omega) rfl) (.cons (LeA.refl _) .nil)))
def resA (s m:List Int) (L:Int):AV:=if yaj s m L then (match badO s m with
    |some c=> .tup [dgA (swS s c.toNat) (swM s m c.toNat) L,dgA (smS s c.toNat) (smM s m c.toNat) (smLp s m c.toNat L),I c,I 0]
    |none=> .tup [dgA [] [] 0,dgA [] [] 0,I (-1),I 12]) else .tup [dgA [] [] 0,dgA [] [] 0,I (-1),I 1]
theorem yqv (s m:List Int) (L:Int) (hL:yaj s m L=true->L<=62):Fn Tryd.prog 59 [dgA s m L] (resA s m L):=by
 have hD:=yg4 s m L
 unfold yj5 at hD
 unfold resA
 cases hv:yaj s m L with
 |false=>
  rw [hv] at hD
  simp only [Bool.false_eq_true,if_false] at hD⊢
  refine Fn.introL [.cell 2 24, .cell 3 24, .tmp 4, .tmp 5] Tryd.func59 rfl rfl (by decide) (by simp [Tryd.ntmps59]) ?_;rw [Tryd.ntmps59]
  repeat' (first|omega|(try apply yaa);simp only [go_sem,sevalprocAttr]|apply yad<;>(intro h_;(try simp only [h_]);revert h_)|apply yac|apply yab|apply gspI|apply And.intro|with_reducible intro h_|trivial|simp only [go_sem,la2];omega)
  refine ⟨yag.fn rfl hD ?_⟩
  repeat' (first|omega|(first|apply yaa|(refine yaf.intro (id:=3) [[14],[13],[14],[],[],[]] [[],[0],[1],[],[],[]] (by decide+kernel) mixed ?_)|(refine yaf.introT (id:=3) (yd0) (by decide+kernel) mixed ?_)|(refine yaf.intro (id:=5) [[18],[17],[18],[],[],[]] [[],[0],[1],[],[],[]] (by decide+kernel) mixed ?_)|(refine yaf.introT (id:=5) (yd0) (by decide+kernel) mixed ?_)|(refine yaf.intro (id:=12) [[42,43],[41,43],[41,42],[42,43],[43],[],[]] [[],[0],[0,1],[1,2],[2],[],[]] (by decide+kernel) mixed ?_)|(refine yaf.introT (id:=12) (yf9) (by decide+kernel) mixed ?_)|skip);simp only [go_sem,sevalprocAttr,↓reduceIte,reduceCtorEq,yd0,yf9]|apply yad<;>(intro h_;(try simp only [h_]);revert h_)|apply yac|apply yab|apply gspI|apply And.intro|with_reducible intro h_|trivial|simp only [go_sem,la2];omega)
  all_goals exact LeA.tupL (.cons ygz (.cons ygz (.cons (LeA.refl _) (.cons (LeA.refl _) .nil))))
 |true=>
  have hL:=hL hv
  have v1:=yat hv
  rw [hv] at hD
  simp only [if_true] at hD⊢
  cases hbo:badO s m with
  |none=>
   rw [hbo] at hD
   simp only at hD⊢
   refine Fn.introL [.cell 2 24, .cell 3 24, .tmp 4, .tmp 5] Tryd.func59 rfl rfl (by decide) (by simp [Tryd.ntmps59]) ?_;rw [Tryd.ntmps59]
   repeat' (first|omega|(try apply yaa);simp only [go_sem,sevalprocAttr]|apply yad<;>(intro h_;(try simp only [h_]);revert h_)|apply yac|apply yab|apply gspI|apply And.intro|with_reducible intro h_|trivial|simp only [go_sem,la2];omega)
   refine ⟨yag.fn rfl hD ?_⟩
   repeat' (first|omega|(first|apply yaa|(refine yaf.intro (id:=3) [[14],[13],[14],[],[],[]] [[],[0],[1],[],[],[]] (by decide+kernel) mixed ?_)|(refine yaf.introT (id:=3) (yd0) (by decide+kernel) mixed ?_)|(refine yaf.intro (id:=5) [[18],[17],[18],[],[],[]] [[],[0],[1],[],[],[]] (by decide+kernel) mixed ?_)|(refine yaf.introT (id:=5) (yd0) (by decide+kernel) mixed ?_)|(refine yaf.intro (id:=12) [[42,43],[41,43],[41,42],[42,43],[43],[],[]] [[],[0],[0,1],[1,2],[2],[],[]] (by decide+kernel) mixed ?_)|(refine yaf.introT (id:=12) (yf9) (by decide+kernel) mixed ?_)|skip);simp only [go_sem,sevalprocAttr,↓reduceIte,reduceCtorEq,yd0,yf9]|apply yad<;>(intro h_;(try simp only [h_]);revert h_)|apply yac|apply yab|apply gspI|apply And.intro|with_reducible intro h_|trivial|simp only [go_sem,la2];omega)
   all_goals exact LeA.tupL (.cons ygz (.cons ygz (.cons (LeA.refl _) (.cons (LeA.refl _) .nil))))
  |some c=>
   rw [hbo] at hD
   simp only at hD⊢
   obtain ⟨c0,c1⟩:=yfl v1.prd hbo
   obtain ⟨c,rfl⟩: ∃n:Nat,c=n:=⟨c.toNat,by omega⟩
   have hsm:=ytb s m L c (by omega) hL hv _ rfl
   have hsw:=ys7 s m L c (by omega) (by omega) hv
   refine Fn.introL [.cell 2 24, .cell 3 24, .tmp 4, .tmp 5] Tryd.func59 rfl rfl (by decide) (by simp [Tryd.ntmps59]) ?_;rw [Tryd.ntmps59]
   repeat' (first|omega|(try apply yaa);simp only [go_sem,sevalprocAttr]|apply yad<;>(intro h_;(try simp only [h_]);revert h_)|apply yac|apply yab|apply gspI|apply And.intro|with_reducible intro h_|trivial|simp only [go_sem,la2];omega)
   refine ⟨yag.fn rfl hD ?_⟩
   repeat' (first|omega|(try apply yaa);simp only [go_sem,sevalprocAttr]|apply yad<;>(intro h_;(try simp only [h_]);revert h_)|apply yac|apply yab|apply gspI|apply And.intro|with_reducible intro h_|trivial|simp only [go_sem,la2];omega)
   refine ⟨yag.fn rfl hsm ?_⟩
   repeat' (first|omega|(try apply yaa);simp only [go_sem,sevalprocAttr]|apply yad<;>(intro h_;(try simp only [h_]);revert h_)|apply yac|apply yab|apply gspI|apply And.intro|with_reducible intro h_|trivial|simp only [go_sem,la2];omega)
   refine ⟨yag.fn rfl hsw ?_⟩
   repeat' (first|omega|(first|apply yaa|(refine yaf.intro (id:=3) [[14],[13],[14],[],[],[]] [[],[0],[1],[],[],[]] (by decide+kernel) mixed ?_)|(refine yaf.introT (id:=3) (yd0) (by decide+kernel) mixed ?_)|(refine yaf.intro (id:=5) [[18],[17],[18],[],[],[]] [[],[0],[1],[],[],[]] (by decide+kernel) mixed ?_)|(refine yaf.introT (id:=5) (yd0) (by decide+kernel) mixed ?_)|(refine yaf.intro (id:=12) [[42,43],[41,43],[41,42],[42,43],[43],[],[]] [[],[0],[0,1],[1,2],[2],[],[]] (by decide+kernel) mixed ?_)|(refine yaf.introT (id:=12) (yf9) (by decide+kernel) mixed ?_)|skip);simp only [go_sem,sevalprocAttr,↓reduceIte,reduceCtorEq,yd0,yf9]|apply yad<;>(intro h_;(try simp only [h_]);revert h_)|apply yac|apply yab|apply gspI|apply And.intro|with_reducible intro h_|trivial|simp only [go_sem,la2];omega)
   all_goals exact LeA.refl _
end Go.Proofs.YtcnilhcplgiidaaDoor
set_option linter.unusedSimpArgs false
set_option linter.unusedVariables false
namespace Go.Proofs.YtcnilhcplgiidaaDoor
def fitB (v l:Int):Bool:=decide (-l<=v)&&decide (v<=l)
def yg0 (p:List (Int×Int)):Prop:= ∀t∈p,-1125899906842624<=t.2/\t.2<=1125899906842624
def mrg (f:Int->Int->Int) (p q:List (Int×Int)):List (Int×Int):=match p,q with
 |[],[]=>[]
 |(e,a)::p,[]=>(e,f a 0)::mrg f p []
 |[],(e,b)::q=>(e,f 0 b)::mrg f [] q
 |(e,a)::p,(e',b)::q=>if e<e' then (e,f a 0)::mrg f p ((e',b)::q) else if e'<e then (e',f 0 b)::mrg f ((e,a)::p) q else (e,f a b)::mrg f p q
termination_by p.length+q.length
def yb1 (l:List (Int×Int)):Bool:=l.all fun t=>fitB t.2 1125899906842624
def nz (l:List (Int×Int)):List (Int×Int):=l.filter fun t=>t.2 !=0
def addF (a b:Int):Int:=a+b
def negF (_ b:Int):Int:= -b
def shP (k:Int) (p:List (Int×Int)):List (Int×Int):=p.map fun t=>(t.1+k,t.2)
def mrgN (f:Int->Int->Int):Nat->List (Int×Int)->List (Int×Int)->List (Int×Int)
 |0,_,_=>[]
 |n+1,p,q=>match p,q with
  |[],[]=>[]
  |(e,a)::p,[]=>(e,f a 0)::mrgN f n p []
  |[],(e,b)::q=>(e,f 0 b)::mrgN f n [] q
  |(e,a)::p,(e',b)::q=>if e<e' then (e,f a 0)::mrgN f n p ((e',b)::q) else if e'<e then (e',f 0 b)::mrgN f n ((e,a)::p) q else (e,f a b)::mrgN f n p q
theorem yci (f:Int->Int->Int): ∀(n:Nat) (p q:List (Int×Int)),p.length+q.length<=n->mrgN f n p q=mrg f p q
 |0,p,q,h=>by
  obtain rfl:p=[]:=List.length_eq_zero_iff.1 (by omega)
  obtain rfl:q=[]:=List.length_eq_zero_iff.1 (by omega)
  simp [mrgN,mrg]
 |n+1,[],[],_=>by simp [mrgN,mrg]
 |n+1,(e,a)::p,[],h=>by
  simp only [List.length_cons,List.length_nil] at h
  simp only [mrgN];unfold mrg;rw [yci f n p [] (by simp;omega)]
 |n+1,[],(e,b)::q,h=>by
  simp only [List.length_cons,List.length_nil] at h
  simp only [mrgN];unfold mrg;rw [yci f n [] q (by simp;omega)]
 |n+1,(e,a)::p,(e',b)::q,h=>by
  simp only [List.length_cons] at h
  simp only [mrgN];unfold mrg
  rw [yci f n p ((e',b)::q) (by simp;omega),yci f n ((e,a)::p) q (by simp;omega),yci f n p q (by omega)]
def pgB (p:List (Int×Int)):Bool:=(p.all fun t=>fitB t.1 1048575&&fitB t.2 1125899906842624)&&decide (p.length<=500000)&&(match p with|a::b::_=>decide (a.1<=b.1)|_=>true)
theorem yqw {p:List (Int×Int)} (h:pgB p=true):yg0 p:=fun t ht=>by
 simp only [pgB,Bool.and_eq_true,List.all_eq_true] at h
 have:=(h.1.1 t ht).2
 simp only [fitB,Bool.and_eq_true,decide_eq_true_eq] at this
 omega
theorem ywt {p:List (Int×Int)} (h:pgB p=true): ∀t∈p,-1048575<=t.1/\t.1<=1048575:=fun t ht=>by
 simp only [pgB,Bool.and_eq_true,List.all_eq_true] at h
 have:=(h.1.1 t ht).1
 simp only [fitB,Bool.and_eq_true,decide_eq_true_eq] at this
 omega
theorem yl6 {p:List (Int×Int)} (h:pgB p=true):p.length<=500000:=by
 simp only [pgB,Bool.and_eq_true,decide_eq_true_eq] at h;exact h.1.2
theorem y1d {p:List (Int×Int)} (h:pgB p=true):1<p.length->(p.getD 0 (0,0)).1<=(p.getD 1 (0,0)).1:=by
 simp only [pgB,Bool.and_eq_true] at h
 have h:=h.2
 match p,h with
 |[],_=>intro h;simp at h
 |[_],_=>intro h;simp at h
 |a::b::r,h=>intro _;simpa using h
def yei (neg:Bool) (p:List (Int×Int)):List (Int×Int):=if neg then nz (mrgN negF p.length [] p) else p
def yj6 (q p:List (Int×Int)):List (Int×Int):=mrgN addF (q.length+p.length) q p
def rsM:Nat->List Int->List Int->Int->Option (List (Int×Int))
 |0,_,_,_=>none
 |n+1,s,m,L=>if 0<L/\0<s.length then some [] else if L<=62 then (if yaj s m L then (match badO s m with
   |some c=>match rsM n (smS s c.toNat) (smM s m c.toNat) (smLp s m c.toNat L),rsM n (swS s c.toNat) (swM s m c.toNat) L with
    |some p,some q=>if pgB p&&pgB (shP 1 p)&&yb1 (mrgN negF (shP 1 p).length [] (shP 1 p))&&pgB (yei (decide (s.getD c.toNat 0<0)) (shP 1 p))&&pgB q&&yb1 (yj6 q (yei (decide (s.getD c.toNat 0<0)) (shP 1 p))) then some (nz (yj6 q (yei (decide (s.getD c.toNat 0<0)) (shP 1 p)))) else none
    |_,_=>none
   |none=>if ((yae s m).length:Int)+L=1 then some [(0,1)] else some []) else some []) else none
end Go.Proofs.YtcnilhcplgiidaaDoor
