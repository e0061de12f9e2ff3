/- Layer 19: a diagram is resolved at its first bad crossing. -/
import Derived.Test.YtjpnnnognoaaiaaGreatDoorZd
import Derived.Test.YtjpnnnognoaaiaaGreatDoorZe
import Derived.Test.YtjpnnnognoaaiaaGreatDoorPl
import Derived.Test.YtjpnnnognoaaiaaGreatDoorZa
import Derived.Test.YtjpnnnognoaaiaaGreatDoorZb
set_option linter.unusedSimpArgs false
set_option linter.unusedVariables false
namespace Go.Proofs.YtjpnnnognoaaiaaGreatDoor
open Go Go.RowKit
set_option maxRecDepth 100000
set_option maxHeartbeats 4000000
def yfe:Tr:= .node [(0, .node [(1,trD [2,3,4,5]),(2,trD [1,3,4,5])]),(1,trD [0,2,3,4,5])]
def yhv:Tr:= .node [(0, .node [(1, .node [(2,trD [3,4,5,6]),(3, .node [(2,trD [4,5,6]),(4,trD [2,5,6])])]),(2, .node [(1,trD [3,4,5,6]),(3,trD [1,4,5,6])]),(3, .node [(1, .node [(2,trD [4,5,6]),(4,trD [2,5,6])]),(2,trD [1,4,5,6])])]),(1, .node [(0, .node [(2,trD [3,4,5,6]),(3, .node [(2,trD [4,5,6]),(4,trD [2,5,6])])]),(2,trD [0,3,4,5,6])]),(2, .node [(0, .node [(1,trD [3,4,5,6]),(3,trD [1,4,5,6])]),(1,trD [0,3,4,5,6])])]
theorem yiv:LeA (.agg [.nils, .nils,I 0]) (dgA [] [] 0):=LeA.aggL (.cons (LeA.nils (by omega) rfl) (.cons (LeA.nils (by omega) rfl) (.cons (LeA.refl _) .nil)))
def resA (s m:List Int) (L:Int):AV:=if yaf s m L then (match badO s m with
    |some c=> .tup [dgA (swS s c.toNat) (swM s m c.toNat) L,dgA (smS s c.toNat) (smM s m c.toNat) (smLp s m c.toNat L),I c,I 0]
    |none=> .tup [dgA [] [] 0,dgA [] [] 0,I (-1),I 12]) else .tup [dgA [] [] 0,dgA [] [] 0,I (-1),I 1]
theorem yvt (s m:List Int) (L:Int) (hL:yaf s m L=true->L<=62):Fn Tryz.prog 104 [dgA s m L] (resA s m L):=by
 have hD:=yi9 s m L
 unfold ymx at hD
 unfold resA
 cases hv:yaf s m L with
 |false=>
  rw [hv] at hD
  simp only [Bool.false_eq_true,if_false] at hD⊢
  refine Fn.introL [.cell 2 24, .cell 3 24, .tmp 4, .tmp 5] Tryz.func104 rfl rfl (by decide) (by simp [Tryz.ntmps104]) ?_;rw [Tryz.ntmps104]
  repeat' (first|omega|(try apply yaa);simp only [go_sem,sevalprocAttr]|apply yab<;>(intro h_;(try simp only [h_]);revert h_)|apply And.intro|with_reducible intro h_|trivial|simp only [go_sem,la2];omega)
  refine ⟨yad.fn rfl hD ?_⟩
  repeat' (first|omega|(first|apply yaa|(refine yac.intro (id:=3) [[14],[13],[14],[],[],[]] [[],[0],[1],[],[],[]] (by decide+kernel) mixed ?_)|(refine yac.introT (id:=3) (yfe) (by decide+kernel) mixed ?_)|(refine yac.intro (id:=5) [[18],[17],[18],[],[],[]] [[],[0],[1],[],[],[]] (by decide+kernel) mixed ?_)|(refine yac.introT (id:=5) (yfe) (by decide+kernel) mixed ?_)|(refine yac.intro (id:=12) [[42,43],[41,43],[41,42],[42,43],[43],[],[]] [[],[0],[0,1],[1,2],[2],[],[]] (by decide+kernel) mixed ?_)|(refine yac.introT (id:=12) (yhv) (by decide+kernel) mixed ?_)|skip);simp only [go_sem,sevalprocAttr,↓reduceIte,reduceCtorEq,yfe,yhv]|apply yab<;>(intro h_;(try simp only [h_]);revert h_)|apply And.intro|with_reducible intro h_|trivial|simp only [go_sem,la2];omega)
  all_goals exact LeA.tupL (.cons yiv (.cons yiv (.cons (LeA.refl _) (.cons (LeA.refl _) .nil))))
 |true=>
  have hL:=hL hv
  have v1:=yal hv
  rw [hv] at hD
  simp only [if_true] at hD⊢
  cases hbo:badO s m with
  |none=>
   rw [hbo] at hD
   simp only at hD⊢
   refine Fn.introL [.cell 2 24, .cell 3 24, .tmp 4, .tmp 5] Tryz.func104 rfl rfl (by decide) (by simp [Tryz.ntmps104]) ?_;rw [Tryz.ntmps104]
   repeat' (first|omega|(try apply yaa);simp only [go_sem,sevalprocAttr]|apply yab<;>(intro h_;(try simp only [h_]);revert h_)|apply And.intro|with_reducible intro h_|trivial|simp only [go_sem,la2];omega)
   refine ⟨yad.fn rfl hD ?_⟩
   repeat' (first|omega|(first|apply yaa|(refine yac.intro (id:=3) [[14],[13],[14],[],[],[]] [[],[0],[1],[],[],[]] (by decide+kernel) mixed ?_)|(refine yac.introT (id:=3) (yfe) (by decide+kernel) mixed ?_)|(refine yac.intro (id:=5) [[18],[17],[18],[],[],[]] [[],[0],[1],[],[],[]] (by decide+kernel) mixed ?_)|(refine yac.introT (id:=5) (yfe) (by decide+kernel) mixed ?_)|(refine yac.intro (id:=12) [[42,43],[41,43],[41,42],[42,43],[43],[],[]] [[],[0],[0,1],[1,2],[2],[],[]] (by decide+kernel) mixed ?_)|(refine yac.introT (id:=12) (yhv) (by decide+kernel) mixed ?_)|skip);simp only [go_sem,sevalprocAttr,↓reduceIte,reduceCtorEq,yfe,yhv]|apply yab<;>(intro h_;(try simp only [h_]);revert h_)|apply And.intro|with_reducible intro h_|trivial|simp only [go_sem,la2];omega)
   all_goals exact LeA.tupL (.cons yiv (.cons yiv (.cons (LeA.refl _) (.cons (LeA.refl _) .nil))))
  |some c=>
   rw [hbo] at hD
   simp only at hD⊢
   obtain ⟨c0,c1⟩:=yit v1.prd hbo
   obtain ⟨c,rfl⟩: ∃n:Nat,c=n:=⟨c.toNat,by omega⟩
   have hsm:=yyk s m L c (by omega) hL hv _ rfl
   have hsw:=yyg s m L c (by omega) (by omega) hv
   refine Fn.introL [.cell 2 24, .cell 3 24, .tmp 4, .tmp 5] Tryz.func104 rfl rfl (by decide) (by simp [Tryz.ntmps104]) ?_;rw [Tryz.ntmps104]
   repeat' (first|omega|(try apply yaa);simp only [go_sem,sevalprocAttr]|apply yab<;>(intro h_;(try simp only [h_]);revert h_)|apply And.intro|with_reducible intro h_|trivial|simp only [go_sem,la2];omega)
   refine ⟨yad.fn rfl hD ?_⟩
   repeat' (first|omega|(try apply yaa);simp only [go_sem,sevalprocAttr]|apply yab<;>(intro h_;(try simp only [h_]);revert h_)|apply And.intro|with_reducible intro h_|trivial|simp only [go_sem,la2];omega)
   refine ⟨yad.fn rfl hsm ?_⟩
   repeat' (first|omega|(try apply yaa);simp only [go_sem,sevalprocAttr]|apply yab<;>(intro h_;(try simp only [h_]);revert h_)|apply And.intro|with_reducible intro h_|trivial|simp only [go_sem,la2];omega)
   refine ⟨yad.fn rfl hsw ?_⟩
   repeat' (first|omega|(first|apply yaa|(refine yac.intro (id:=3) [[14],[13],[14],[],[],[]] [[],[0],[1],[],[],[]] (by decide+kernel) mixed ?_)|(refine yac.introT (id:=3) (yfe) (by decide+kernel) mixed ?_)|(refine yac.intro (id:=5) [[18],[17],[18],[],[],[]] [[],[0],[1],[],[],[]] (by decide+kernel) mixed ?_)|(refine yac.introT (id:=5) (yfe) (by decide+kernel) mixed ?_)|(refine yac.intro (id:=12) [[42,43],[41,43],[41,42],[42,43],[43],[],[]] [[],[0],[0,1],[1,2],[2],[],[]] (by decide+kernel) mixed ?_)|(refine yac.introT (id:=12) (yhv) (by decide+kernel) mixed ?_)|skip);simp only [go_sem,sevalprocAttr,↓reduceIte,reduceCtorEq,yfe,yhv]|apply yab<;>(intro h_;(try simp only [h_]);revert h_)|apply And.intro|with_reducible intro h_|trivial|simp only [go_sem,la2];omega)
   all_goals exact LeA.refl _
end Go.Proofs.YtjpnnnognoaaiaaGreatDoor
set_option linter.unusedSimpArgs false
set_option linter.unusedVariables false
namespace Go.Proofs.YtjpnnnognoaaiaaGreatDoor
def fitB (v l:Int):Bool:=decide (-l<=v)&&decide (v<=l)
def yff (p:List (Int×Int)):Prop:= ∀t∈p,-1125899906842624<=t.2/\t.2<=1125899906842624
def mrg (f:Int->Int->Int) (p q:List (Int×Int)):List (Int×Int):=match p,q with
 |[],[]=>[]
 |(e,a)::p,[]=>(e,f a 0)::mrg f p []
 |[],(e,b)::q=>(e,f 0 b)::mrg f [] q
 |(e,a)::p,(e',b)::q=>if e<e' then (e,f a 0)::mrg f p ((e',b)::q) else if e'<e then (e',f 0 b)::mrg f ((e,a)::p) q else (e,f a b)::mrg f p q
termination_by p.length+q.length
def ycm (l:List (Int×Int)):Bool:=l.all fun t=>fitB t.2 1125899906842624
def nz (l:List (Int×Int)):List (Int×Int):=l.filter fun t=>t.2 !=0
def addF (a b:Int):Int:=a+b
def negF (_ b:Int):Int:= -b
def shP (k:Int) (p:List (Int×Int)):List (Int×Int):=p.map fun t=>(t.1+k,t.2)
def mrgN (f:Int->Int->Int):Nat->List (Int×Int)->List (Int×Int)->List (Int×Int)
 |0,_,_=>[]
 |n+1,p,q=>match p,q with
  |[],[]=>[]
  |(e,a)::p,[]=>(e,f a 0)::mrgN f n p []
  |[],(e,b)::q=>(e,f 0 b)::mrgN f n [] q
  |(e,a)::p,(e',b)::q=>if e<e' then (e,f a 0)::mrgN f n p ((e',b)::q) else if e'<e then (e',f 0 b)::mrgN f n ((e,a)::p) q else (e,f a b)::mrgN f n p q
theorem ydd (f:Int->Int->Int): ∀(n:Nat) (p q:List (Int×Int)),p.length+q.length<=n->mrgN f n p q=mrg f p q
 |0,p,q,h=>by
  obtain rfl:p=[]:=List.length_eq_zero_iff.1 (by omega)
  obtain rfl:q=[]:=List.length_eq_zero_iff.1 (by omega)
  simp [mrgN,mrg]
 |n+1,[],[],_=>by simp [mrgN,mrg]
 |n+1,(e,a)::p,[],h=>by
  simp only [List.length_cons,List.length_nil] at h
  simp only [mrgN];unfold mrg;rw [ydd f n p [] (by simp;omega)]
 |n+1,[],(e,b)::q,h=>by
  simp only [List.length_cons,List.length_nil] at h
  simp only [mrgN];unfold mrg;rw [ydd f n [] q (by simp;omega)]
 |n+1,(e,a)::p,(e',b)::q,h=>by
  simp only [List.length_cons] at h
  simp only [mrgN];unfold mrg
  rw [ydd f n p ((e',b)::q) (by simp;omega),ydd f n ((e,a)::p) q (by simp;omega),ydd f n p q (by omega)]
def pgB (p:List (Int×Int)):Bool:=(p.all fun t=>fitB t.1 1048575&&fitB t.2 1125899906842624)&&decide (p.length<=500000)&&(match p with|a::b::_=>decide (a.1<=b.1)|_=>true)
theorem yvu {p:List (Int×Int)} (h:pgB p=true):yff p:=fun t ht=>by
 simp only [pgB,Bool.and_eq_true,List.all_eq_true] at h
 have:=(h.1.1 t ht).2
 simp only [fitB,Bool.and_eq_true,decide_eq_true_eq] at this
 omega
theorem y27 {p:List (Int×Int)} (h:pgB p=true): ∀t∈p,-1048575<=t.1/\t.1<=1048575:=fun t ht=>by
 simp only [pgB,Bool.and_eq_true,List.all_eq_true] at h
 have:=(h.1.1 t ht).1
 simp only [fitB,Bool.and_eq_true,decide_eq_true_eq] at this
 omega
theorem ypi {p:List (Int×Int)} (h:pgB p=true):p.length<=500000:=by
 simp only [pgB,Bool.and_eq_true,decide_eq_true_eq] at h;exact h.1.2
theorem y9b {p:List (Int×Int)} (h:pgB p=true):1<p.length->(p.getD 0 (0,0)).1<=(p.getD 1 (0,0)).1:=by
 simp only [pgB,Bool.and_eq_true] at h
 have h:=h.2
 match p,h with
 |[],_=>intro h;simp at h
 |[_],_=>intro h;simp at h
 |a::b::r,h=>intro _;simpa using h
def yfy (neg:Bool) (p:List (Int×Int)):List (Int×Int):=if neg then nz (mrgN negF p.length [] p) else p
def ymy (q p:List (Int×Int)):List (Int×Int):=mrgN addF (q.length+p.length) q p
def rsM:Nat->List Int->List Int->Int->Option (List (Int×Int))
 |0,_,_,_=>none
 |n+1,s,m,L=>if 0<L/\0<s.length then some [] else if L<=62 then (if yaf s m L then (match badO s m with
   |some c=>match rsM n (smS s c.toNat) (smM s m c.toNat) (smLp s m c.toNat L),rsM n (swS s c.toNat) (swM s m c.toNat) L with
    |some p,some q=>if pgB p&&pgB (shP 1 p)&&ycm (mrgN negF (shP 1 p).length [] (shP 1 p))&&pgB (yfy (decide (s.getD c.toNat 0<0)) (shP 1 p))&&pgB q&&ycm (ymy q (yfy (decide (s.getD c.toNat 0<0)) (shP 1 p))) then some (nz (ymy q (yfy (decide (s.getD c.toNat 0<0)) (shP 1 p)))) else none
    |_,_=>none
   |none=>if ((yaj s m).length:Int)+L=1 then some [(0,1)] else some []) else some []) else none
def pz2 (q:List (Int×Int)) (low e c:Int):Nat->List Int->List Int
 |0,zs=>zs
 |j+1,zs=>(pz2 q low e c j zs).set (e+(q.getD j (0,0)).1-low).toNat ((pz2 q low e c j zs).getD (e+(q.getD j (0,0)).1-low).toNat 0+c*(q.getD j (0,0)).2)
def pz1 (p q:List (Int×Int)) (low:Int):Nat->List Int->List Int
 |0,zs=>zs
 |i+1,zs=>pz2 q low (p.getD i (0,0)).1 (p.getD i (0,0)).2 q.length (pz1 p q low i zs)
theorem yke (q:List (Int×Int)) (low e c:Int): ∀j zs,(pz2 q low e c j zs).length=zs.length
 |0,zs=>rfl
 |j+1,zs=>by simp only [pz2,List.length_set];exact yke q low e c j zs
theorem yhw (p q:List (Int×Int)) (low:Int): ∀i zs,(pz1 p q low i zs).length=zs.length
 |0,zs=>rfl
 |i+1,zs=>by simp only [pz1];rw [yke,yhw]
def tmI:Int->List Int->List (Int×Int)
 |_,[]=>[]
 |e,c::r=>if c=0 then tmI (e+1) r else (e,c)::tmI (e+1) r
theorem yqv: ∀(e:Int) (l:List Int) (c:Int),tmI e (l++[c])=tmI e l++(if c=0 then [] else [(e+l.length,c)])
 |e,[],c=>by simp only [List.nil_append,tmI,List.length_nil];split<;>simp
 |e,x::l,c=>by
  have:=yqv (e+1) l c
  simp only [List.cons_append,tmI,this,List.length_cons]
  have h:e+1+(l.length:Int)=e+((l.length+1:Nat):Int):=by omega
  rw [h]
  split<;>split<;>simp
theorem ytn: ∀(e:Int) (l:List Int),(tmI e l).length<=l.length
 |_,[]=>Nat.le_refl _
 |e,c::r=>by
  have:=ytn (e+1) r
  simp only [tmI];split<;>simp only [List.length_cons]<;>omega
abbrev lowE (p:List (Int×Int)):Int:=(p.getD 0 (0,0)).1
abbrev yce (p:List (Int×Int)):Int:=(p.getD (p.length-1) (0,0)).1
def mulZ (p q:List (Int×Int)):List Int:=pz1 p q (lowE p+lowE q) p.length (List.replicate (yce p+yce q-(lowE p+lowE q)+1).toNat 0)
end Go.Proofs.YtjpnnnognoaaiaaGreatDoor
set_option linter.unusedSimpArgs false
set_option linter.unusedVariables false
namespace Go.Proofs.YtjpnnnognoaaiaaGreatDoor
open Go Go.RowKit
set_option maxRecDepth 100000
set_option maxHeartbeats 4000000
def tmC (p:List (Int×Int)):List AV:=p.flatMap fun t=>[I t.1,I t.2]
abbrev tmA (p:List (Int×Int)):AV:= .ro 2 p.length (.lst (tmC p))
abbrev plA (b:Bool) (p:List (Int×Int)):AV:= .agg [.bool b,tmA p]
attribute [go_sem] tmA plA
theorem yc0 (p:List (Int×Int)):(tmC p).length=2*p.length:=by
 unfold tmC;induction p with
 |nil=>rfl
 |cons x p ih=>simp [ih];omega
theorem yct (p:List (Int×Int)) (i:Nat) (h:i<p.length):(tmC p).getD (i*2) .any=I (p.getD i (0,0)).1:=by
 unfold tmC;induction p generalizing i with
 |nil=>simp at h
 |cons x p ih=>
  cases i with
  |zero=>simp
  |succ i=>
   have:=ih i (by simpa using h)
   simp only [List.flatMap_cons,List.getD_cons_succ]
   rw [show (i+1)*2=i*2+1+1 by omega]
   simpa using this
theorem yez (p:List (Int×Int)) (i:Nat) (h:i<p.length):(tmC p).getD (i*2+1) .any=I (p.getD i (0,0)).2:=by
 unfold tmC;induction p generalizing i with
 |nil=>simp at h
 |cons x p ih=>
  cases i with
  |zero=>simp
  |succ i=>
   have:=ih i (by simpa using h)
   simp only [List.flatMap_cons,List.getD_cons_succ]
   rw [show (i+1)*2+1=i*2+1+1+1 by omega]
   simpa using this
theorem yf7 (v l:Int) (h0:0<=l) (h1:l<=9000000000000000000):Fn Tryz.prog 59 [I v,I l] (.bool (fitB v l)):=by
 unfold fitB
 refine Fn.intro [.tmp 4] Tryz.func59 rfl rfl (by decide) (by simp [Tryz.ntmps59]) ?_;rw [Tryz.ntmps59]
 repeat' (first|omega|(try apply yaa);simp only [go_sem,sevalprocAttr]|apply yab<;>(intro h_;(try simp only [h_]);revert h_)|apply And.intro|with_reducible intro h_|trivial|simp only [go_sem,la2];omega)
 all_goals simp_all
 all_goals omega
theorem ykf {p:List (Int×Int)} {x:AV} (h:x∈tmC p): ∃n,x=I n:=by
 unfold tmC at h
 obtain ⟨t,_,ht⟩:=List.mem_flatMap.1 h
 simp only [List.mem_cons,List.not_mem_nil,or_false] at ht
 rcases ht with e|e<;>exact ⟨_,e⟩
theorem ymz (p:List (Int×Int)):(tmC p).all p1=true:=List.all_eq_true.2 fun x hx=>by obtain ⟨n,rfl⟩:=ykf hx;rfl
theorem yde (H:Hp) (p:List (Int×Int)):(tmC p).all (s3 H)=true:=List.all_eq_true.2 fun x hx=>by obtain ⟨n,rfl⟩:=ykf hx;rfl
theorem y7p (p:List (Int×Int)):(tmC p).all yb6=true:=List.all_eq_true.2 fun x hx=>by obtain ⟨n,rfl⟩:=ykf hx;rfl
theorem y5q (i:Nat) (p:List (Int×Int)):(tmC p).map (cutV i)=tmC p:=by
 conv=>rhs;rw [←List.map_id (tmC p)]
 exact List.map_congr_left fun x hx=>by obtain ⟨n,rfl⟩:=ykf hx;rfl
theorem y17 (H:Hp) (n:Nat) (p:List (Int×Int)):(tmC p).map (snap H (n+1))=tmC p:=ya4 (ymz p) H n
theorem yoy (H:Hp) (n:Nat) (p:List (Int×Int)):(∀x∈tmC p,yat H (n+1) x)=True:=yau (ymz p) H n
theorem y5r (H:Hp) (n:Nat) (p:List (Int×Int)):(tmC p).map (frzV H (n+1))=tmC p:=ybc (ymz p) H n
theorem y18 (H:Hp) (n:Nat) (p:List (Int×Int)):(∀x∈tmC p,frzP H (n+1) x)=True:=ya5 (ymz p) H n
theorem yiw (p:List (Int×Int)) (e c:Int):tmC p++[AV.int .i64 e,AV.int .i64 c]=tmC (p++[(e,c)]):=by simp [tmC]
attribute [go_sem] yde y7p y5q y17 yoy y5r y18 yc0
theorem y5s (fr:Fr):unl (lft fr)=fr:=by
 induction fr with
 |nil=>rfl
 |cons q r ih=>
  obtain ⟨t,x⟩:=q
  simp only [lft,unl]
  rw [if_pos (by omega),ih,Nat.add_sub_cancel]
theorem y19 (i:Nat) (fr:Fr):fcut i (lft fr)=lft (fcut i fr):=by
 induction fr with
 |nil=>rfl
 |cons q r ih=>obtain ⟨t,x⟩:=q;simp only [lft,fcut,ih]
attribute [go_sem] y5s y19
theorem yf8 {p:List (Int×Int)} (h:yff p) {i:Nat} (hi:i<p.length): -1125899906842624<=(p.getD i (0,0)).2/\(p.getD i (0,0)).2<=1125899906842624:=h _ (by simp [hi])
end Go.Proofs.YtjpnnnognoaaiaaGreatDoor
set_option linter.unusedSimpArgs false
set_option linter.unusedVariables false
namespace Go.Proofs.YtjpnnnognoaaiaaGreatDoor
open Go Go.RowKit
set_option maxRecDepth 100000
set_option maxHeartbeats 4000000
abbrev cmbH (g:Nat) (p q acc:List (Int×Int)) (fits:Bool):Hp:=[(6, .cells 4 (.lst [.bool fits])),(5, .cells 34 (.lst [.bool false, .sl 2 4 0 acc.length])),(4, .cells 62 (.lst (tmC acc))),(3, .cells 34 (.lst [.bool false, .nils])),(2, .cells 71 (.lst [.fn g []])),(1, .cells 34 (.lst [.bool false,tmA q])),(0, .cells 34 (.lst [.bool false,tmA p]))]
theorem yg3 (fr:Fr) (K:AV->Fr->Hp->Prop) (g:Nat) (p q acc:List (Int×Int)) (fits:Bool) (e a b c:Int) (hg:Fn Tryz.prog g [I a,I b] (I c)) (hl:acc.length<=1000000)
  (hk0:c=0->K (.tup []) fr (cmbH g p q acc (fits&&fitB c 1125899906842624))) (hk1:c≠0->K (.tup []) (fcut 4 fr) [(4, .cells 62 (.lst (tmC (acc++[(e,c)])))),(7, .cells 62 (.lst [I e,I c])),(6, .cells 4 (.lst [.bool (fits&&fitB c 1125899906842624)])),(5, .cells 34 (.lst [.bool false, .sl 2 4 0 (acc.length+1)])),(3, .cells 34 (.lst [.bool false, .nils])),(2, .cells 71 (.lst [.fn g []])),(1, .cells 34 (.lst [.bool false,tmA q])),(0, .cells 34 (.lst [.bool false,tmA p]))]):yda Tryz.prog 111 [I e,I a,I b, .ptr 2 0, .ptr 6 0, .ptr 5 0] fr (cmbH g p q acc fits) K:=by
 unfold cmbH at*
 have hw:=yf7 c 1125899906842624 (by omega) (by omega)
 refine yda.intro [] Tryz.func111 rfl rfl (by decide) (by simp [Tryz.ntmps111]) ?_;rw [Tryz.ntmps111]
 repeat' (first|omega|(try apply yaa);simp only [go_sem,sevalprocAttr]|apply yab<;>(intro h_;(try simp only [h_]);revert h_)|apply And.intro|with_reducible intro h_|trivial|simp only [go_sem,la2];omega)
 refine ⟨yad.fn rfl hg ?_⟩
 cases fits
 ·repeat' (first|omega|(try apply yaa);simp only [go_sem,sevalprocAttr]|apply yab<;>(intro h_;(try simp only [h_]);revert h_)|apply And.intro|with_reducible intro h_|trivial|simp only [go_sem,la2];omega)
  ·rw [yiw];exact hk1 (by assumption)
  ·exact hk0 (by assumption)
 ·repeat' (first|omega|(try apply yaa);simp only [go_sem,sevalprocAttr]|apply yab<;>(intro h_;(try simp only [h_]);revert h_)|apply And.intro|with_reducible intro h_|trivial|simp only [go_sem,la2];omega)
  refine ⟨yad.fn rfl hw ?_⟩
  repeat' (first|omega|(try apply yaa);simp only [go_sem,sevalprocAttr]|apply yab<;>(intro h_;(try simp only [h_]);revert h_)|apply And.intro|with_reducible intro h_|trivial|simp only [go_sem,la2];omega)
  ·rw [yiw];exact hk1 (by assumption)
  ·exact hk0 (by assumption)
theorem ypj {f:Int->Int->Int} {p q:List (Int×Int)} {i j:Nat} (hi:i<p.length) (h:j=q.length\/(p.getD i (0,0)).1<(q.getD j (0,0)).1) (hj:j<=q.length):mrg f (p.drop i) (q.drop j)=((p.getD i (0,0)).1,f (p.getD i (0,0)).2 0)::mrg f (p.drop (i+1)) (q.drop j):=by
 rw [List.drop_eq_getElem_cons hi]
 have e:p.getD i (0,0)=p[i]:=by simp [hi]
 rw [e] at h⊢
 rcases Nat.lt_or_ge j q.length with g|g
 ·rw [List.drop_eq_getElem_cons g]
  have e2:q.getD j (0,0)=q[j]:=by simp [g]
  rw [e2] at h
  conv=>lhs;unfold mrg
  rw [if_pos (by omega)]
 ·rw [List.drop_of_length_le g]
  conv=>lhs;unfold mrg
theorem ypk {f:Int->Int->Int} {p q:List (Int×Int)} {i j:Nat} (hj:j<q.length) (h:i=p.length\/(q.getD j (0,0)).1<(p.getD i (0,0)).1) (hi:i<=p.length):mrg f (p.drop i) (q.drop j)=((q.getD j (0,0)).1,f 0 (q.getD j (0,0)).2)::mrg f (p.drop i) (q.drop (j+1)):=by
 rw [List.drop_eq_getElem_cons hj]
 have e:q.getD j (0,0)=q[j]:=by simp [hj]
 rw [e] at h⊢
 rcases Nat.lt_or_ge i p.length with g|g
 ·rw [List.drop_eq_getElem_cons g]
  have e2:p.getD i (0,0)=p[i]:=by simp [g]
  rw [e2] at h
  conv=>lhs;unfold mrg
  rw [if_neg (by omega),if_pos (by omega)]
 ·rw [List.drop_of_length_le g]
  conv=>lhs;unfold mrg
theorem yyn {f:Int->Int->Int} {p q:List (Int×Int)} {i j:Nat} (hi:i<p.length) (hj:j<q.length) (h:(q.getD j (0,0)).1=(p.getD i (0,0)).1):mrg f (p.drop i) (q.drop j)=((p.getD i (0,0)).1,f (p.getD i (0,0)).2 (q.getD j (0,0)).2)::mrg f (p.drop (i+1)) (q.drop (j+1)):=by
 rw [List.drop_eq_getElem_cons hi,List.drop_eq_getElem_cons hj]
 have e:p.getD i (0,0)=p[i]:=by simp [hi]
 have e2:q.getD j (0,0)=q[j]:=by simp [hj]
 rw [e,e2] at h⊢
 conv=>lhs;unfold mrg
 rw [if_neg (by omega),if_neg (by omega)]
theorem yg4 {c e:Int} (l:List (Int×Int)) (h:c=0):nz (l++[(e,c)])=nz l:=by unfold nz;rw [List.filter_append];simp [h]
theorem yg5 {c e:Int} (l:List (Int×Int)) (h:c≠0):nz (l++[(e,c)])=nz l++[(e,c)]:=by unfold nz;rw [List.filter_append];simp [h]
theorem ycf (l:List (Int×Int)) (e c:Int):ycm (l++[(e,c)])=(ycm l&&fitB c 1125899906842624):=by unfold ycm;simp
end Go.Proofs.YtjpnnnognoaaiaaGreatDoor
