/- slices.Sort on a short row of integers of the call's own. -/
import Derived.Test.YtngegnonblbdhaaDoorZc
import Derived.Test.YtngegnonblbdhaaDoorZp
import Derived.Test.YtngegnonblbdhaaDoorGc
import Derived.Laws.IdiomRangeMap
import Derived.Laws.BytesString
namespace Go.Proofs.YtngegnonblbdhaaDoor
open Go Go.RowKit
set_option maxHeartbeats 8000000
set_option maxRecDepth 100000
set_option linter.unusedVariables false
set_option linter.unusedSimpArgs false
def yc8:List (List Nat):=[[17],[16],[],[],[21,24,25,26,27,28],[20,24,25,26,27,28],[24,25,26,27,28],[24,25,26,27,28],[20,21,22,23,25,26],[20,21,22,23,24],[20,21,22,23,24],[20,21,22,23],[20,21,22,23],[],[]]
def yc9:List (List Nat):=[[],[0],[],[],[],[4],[],[],[4,5,6,7],[4,5,6,7,8],[4,5,6,7,8],[4,5,6,7],[4,5,6,7],[],[]]
def yda:List (List Nat):=[[34,35,36,37,38,39,40,41,42,43,44,45,46],[33,35,36,37,38,39,40,41,42,43,44,45,46],[33,34,36,37,38,39,40,41,42,43,44,45,46,47],[33,34,35,38,39,40,41,42,43,44,45,46,47],[33,34,35,38,39,40,41,42,43,44,45,46,47],[33,34,35,36,37,39,40,43,44,45,46],[33,34,35,36,37,38,43,44,45,46],[33,34,35,36,37,38,43,44,45,46],[33,34,35,36,37,43,44,45,46],[33,34,35,36,37,43,44,45,46],[33,34,35,36,37,38,39,40,41,42,44],[33,34,35,36,37,38,39,40,41,42,43],[33,34,35,36,37,38,39,40,41,42],[33,34,35,36,37,38,39,40,41,42],[35,36,37],[35,36,37],[],[]]
def ydb:List (List Nat):=[[],[0],[0,1],[0,1,2],[0,1,2],[0,1,2,3,4],[0,1,2,3,4,5],[0,1,2,3,4,5],[0,1,2,3,4],[0,1,2,3,4],[0,1,2,3,4,5,6,7,8,9],[0,1,2,3,4,5,6,7,8,9,10],[0,1,2,3,4,5,6,7,8,9],[0,1,2,3,4,5,6,7,8,9],[2,3,4],[2,3,4],[],[]]
theorem Wk.appS {F A fr:Fr} {H:Hp} (hA:subF F H A) (h2: ∀t,1000000<=t->fget F t=fget (lft fr) t) (hl:A.all (fun q=>decide (q.1<1000000))=true):Wk F H (A++lft fr) H:=by
 have key: ∀t,(t<1000000->fget (A++lft fr) t= .any\/fget (A++lft fr) t=fget F t)/\(1000000<=t->fget (A++lft fr) t=fget F t):=by
  induction A with
  |nil=>
   intro t
   refine ⟨fun h=> .inl ?_,fun h=>(h2 t h).symm⟩
   rw [List.nil_append,ydf,if_neg (by omega)]
  |cons q A ih=>
   obtain ⟨t',x⟩:=q
   obtain ⟨g1,_,g3⟩:=hA
   simp only [List.all_cons,Bool.and_eq_true,decide_eq_true_eq] at hl
   have:=ih g3 hl.2
   intro t
   rw [List.cons_append]
   simp only [fget]
   split
   ·rename_i e
    subst e
    exact ⟨fun _=> .inr g1.symm,fun h=>absurd h (by omega)⟩
   ·exact this t
 intro B w0 Mx N w ρ a hs
 refine ⟨ρ,hs.below,hs.hB,hs.mx,hs.own,hs.objs,hs.inj,fun t=>?_,hs.defers,hs.size⟩
 have:=hs.frv t
 rcases Nat.lt_or_ge t 1000000 with h|h
 ·rcases (key t).1 h with e|e<;>rw [e]
  ·exact .any _
  ·exact this
 ·rw [(key t).2 h];exact this
def dis (l:List Int) (n:Nat):Prop:= ∀a b,a<n->b<n->a≠b->l.getD a 0≠l.getD b 0
theorem ygo {l:List Int} {n j:Nat} (hl:l.length=n) (h0:0<j) (hj:j<n) (x:Nat):((l.set j (l.getD (j-1) 0)).set (j-1) (l.getD j 0)).getD x 0=l.getD (if x=j then j-1 else if x=j-1 then j else x) 0:=by
 by_cases h1:x=j
 ·subst h1
  rw [if_pos rfl,yag (by omega),yam (by omega)]
 ·rw [if_neg h1]
  by_cases h2:x=j-1
  ·subst h2
   rw [if_pos rfl,yam (by rw [List.length_set];omega)]
  ·rw [if_neg h2,yag (by omega),yag (by omega)]
theorem yx5 {n j a b:Nat} (h0:0<j) (hj:j<n) (ha:a<n) (hb:b<n) (hab:a≠b):(if a=j then j-1 else if a=j-1 then j else a)≠(if b=j then j-1 else if b=j-1 then j else b)/\(if a=j then j-1 else if a=j-1 then j else a)<n/\(if b=j then j-1 else if b=j-1 then j else b)<n:=by
 (repeat' split)<;>omega
theorem y01 {l:List Int} {n j:Nat} (hl:l.length=n) (h0:0<j) (hj:j<n):dis ((l.set j (l.getD (j-1) 0)).set (j-1) (l.getD j 0)) n↔dis l n:=by
 constructor
 ·intro h a b ha hb hab
  obtain ⟨s1,s2,s3⟩:=yx5 h0 hj ha hb hab
  have h1:=h _ _ s2 s3 s1
  rw [ygo hl h0 hj,ygo hl h0 hj] at h1
  have e: ∀x,(if (if x=j then j-1 else if x=j-1 then j else x)=j then j-1 else if (if x=j then j-1 else if x=j-1 then j else x)=j-1 then j else (if x=j then j-1 else if x=j-1 then j else x))=x:=fun x=>by
   (repeat' split)<;>omega
  rw [e,e] at h1
  exact h1
 ·intro h a b ha hb hab
  obtain ⟨s1,s2,s3⟩:=yx5 h0 hj ha hb hab
  rw [ygo hl h0 hj,ygo hl h0 hj]
  exact h _ _ s2 s3 s1
def srtI (l:List Int) (i j:Nat):Prop:= ∀a b,a<b->b<i->b≠j->l.getD a 0<=l.getD b 0
theorem y02 {l:List Int} {n i j:Nat} (hl:l.length=n) (h0:0<j) (hj:j<=i) (hi:i<n) (h:srtI l (i+1) j) (hlt:l.getD j 0<l.getD (j-1) 0):srtI ((l.set j (l.getD (j-1) 0)).set (j-1) (l.getD j 0)) (i+1) (j-1):=by
 intro a b hab hb hbj
 rw [ygo hl h0 (by omega),ygo hl h0 (by omega)]
 by_cases b1:b=j
 ·rw [if_pos b1,if_neg (by omega)]
  by_cases a1:a=j-1
  ·rw [if_pos a1];omega
  ·rw [if_neg a1];exact h _ _ (by omega) (by omega) (by omega)
 ·rw [if_neg b1,if_neg hbj]
  refine h _ _ ?_ hb b1
  split
  ·omega
  ·split<;>omega
theorem yqy {l:List Int} {i j:Nat} (h:srtI l (i+1) j) (hd:j=0\/ ¬l.getD j 0<l.getD (j-1) 0):srtI l (i+1) (i+1):=by
 intro a b hab hb _
 by_cases b1:b=j
 ·subst b1
  rcases hd with e|hd
  ·omega
  ·by_cases a1:a=b-1
   ·subst a1;omega
   ·have:=h a (b-1) (by omega) (by omega) (by omega);omega
 ·exact h a b hab hb b1
theorem yo0 (x:Int):Fn Tryd.prog 90 [I x] (.bool false):=by
 refine Fn.intro [.tmp 2] Tryd.func90 rfl rfl (by decide) (by simp [Tryd.ntmps90]) ?_;rw [Tryd.ntmps90]
 repeat' (first|omega|(try apply yaa);simp only [go_sem,sevalprocAttr]|apply yab<;>(intro h_;(try simp only [h_]);revert h_)|apply And.intro|with_reducible intro h_|trivial|simp only [go_sem,la2];omega)
theorem y03 (x y:Int):Fn Tryd.prog 70 [I x,I y] (.bool (decide (x<y))):=by
 have h1:=yo0 x
 have h2:=yo0 y
 refine Fn.intro [.tmp 4] Tryd.func70 rfl rfl (by decide) (by simp [Tryd.ntmps70]) ?_;rw [Tryd.ntmps70]
 repeat' (first|omega|(try apply yaa);simp only [go_sem,sevalprocAttr,h1]|(refine ⟨yad.fn (r:=?_) rfl ?_ ?_⟩;rotate_left;assumption)|(refine ⟨yav.fn (r:=?_) rfl ?_ ?_⟩;rotate_left;assumption)|apply yab<;>(intro h_;(try simp only [h_]);revert h_)|apply And.intro|with_reducible intro h_|trivial|simp only [go_sem,la2];omega)
abbrev stH (l:List Int) (o:Hp):Hp:=(5, .cells 3 (.ints l))::o
theorem yr5 (n:Nat) (o:Hp) (ho:o=[]\/ ∃q,o=[(4, .cells 3 (.ints q))]) (l:List Int) (hl:l.length=n) (hn0:0<n) (hn:n<=100) {fr:Fr} {K:AV->Fr->Hp->Prop}
  (hK: ∀l':List Int,l'.length=n->srtI l' n n->(dis l' n↔dis l n)->K (.tup []) fr (stH l' o)):
  ya7 Tryd.prog 64 [.sl 1 5 0 n,I 0,I n] fr (stH l o) K:=by
 refine ya7.intro [] Tryd.func64 rfl rfl (by decide) (by simp [Tryd.ntmps64]) ?_;rw [Tryd.ntmps64]
 repeat' (first|omega|(try apply yaa);simp only [go_sem,sevalprocAttr]|apply yab<;>(intro h_;(try simp only [h_]);revert h_)|apply And.intro|with_reducible intro h_|trivial|simp only [go_sem,la2];omega)
 refine yak.intro (fun m fr' H=> ∃(i:Nat) (l':List Int),1<=i/\i<=n/\l'.length=n/\srtI l' i i/\(dis l' n↔dis l n)/\m=n-i/\fr'=[(6,I i),(2,I n),(1,I 0),(0, .sl 1 5 0 n)]++lft fr/\H=stH l' o) ?_ ?_
 ·refine ⟨_,_,_,?_,1,l,by omega,by omega,hl,fun a b h1 h2=>by omega,Iff.rfl,rfl,rfl,rfl⟩
  refine Wk.appS ?_ (fun t ht=>?_) rfl<;>(simp only [go_sem,sevalprocAttr])
  all_goals repeat rw [if_neg (by omega)]
 rintro m fr' H ⟨i,l',hi1,hi,hl',hs,hd,rfl,rfl,rfl⟩
 by_cases hin:i<n
 ·have bi:decide ((i:Int)<n)=true:=by simp;omega
  repeat' (first|omega|(first|apply yaa|(refine yac.intro (id:=4) yc8 yc9 (by decide+kernel) mixed ?_)|(refine yac.intro (id:=6) yda ydb (by decide+kernel) mixed ?_)|skip);simp only [go_sem,sevalprocAttr,bi,↓reduceIte,reduceCtorEq,yc8,yc9,yda,ydb]|apply yab<;>(intro h_;(try simp only [h_]);revert h_)|apply And.intro|with_reducible intro h_|trivial|simp only [go_sem,la2];omega)
  refine yak.intro (fun m fr' H=> ∃(j:Nat) (l':List Int),j<=i/\l'.length=n/\srtI l' (i+1) j/\(dis l' n↔dis l n)/\j=m/\fr'=[(7,I j),(6,I i),(2,I n),(1,I 0),(0, .sl 1 5 0 n)]++lft fr/\H=stH l' o) ?_ ?_
  ·refine ⟨_,_,_,?_,i,l',by omega,hl',fun a b h1 h2 h3=>hs a b h1 (by omega) (by omega),hd,rfl,rfl,rfl⟩
   refine Wk.appS ?_ (fun t ht=>?_) rfl<;>(simp only [go_sem,sevalprocAttr])
   all_goals repeat rw [if_neg (by omega)]
  clear hl' hs hd l'
  rintro m fr' H ⟨j,l',hj,hl',hs,hd,rfl,rfl,rfl⟩
  by_cases hj0:j=0
  ·subst hj0
   have hs2:=yqy hs (.inl rfl)
   repeat' (first|omega|(first|apply yaa|(refine yac.intro (id:=4) yc8 yc9 (by decide+kernel) mixed ?_)|(refine yac.intro (id:=6) yda ydb (by decide+kernel) mixed ?_)|skip);simp only [go_sem,sevalprocAttr,bi,↓reduceIte,reduceCtorEq,yc8,yc9,yda,ydb]|apply yab<;>(intro h_;(try simp only [h_]);revert h_)|apply And.intro|with_reducible intro h_|trivial|simp only [go_sem,la2];omega)
   refine ⟨_,_,_,?_,?_,i+1,l',by omega,by omega,hl',hs2,hd,rfl,rfl,rfl⟩
   ·omega
   ·refine Wk.appS (A:=[(6,I ((i+1:Nat):Int)),(2,I n),(1,I 0),(0, .sl 1 5 0 n)]) ?_ (fun t ht=>?_) rfl<;>(simp only [go_sem,sevalprocAttr])
    all_goals repeat rw [if_neg (by omega)]
  have bj:decide ((0:Int)<j)=true:=by simp;omega
  have ej:((j:Int)-1).toNat=j-1:=by omega
  have hL:=y03 (l'.getD j 0) (l'.getD (j-1) 0)
  by_cases hlt:l'.getD j 0<l'.getD (j-1) 0
  ·rw [decide_eq_true hlt] at hL
   have hs2:=y02 hl' (by omega) hj hin hs hlt
   have hd2:=(y01 hl' (by omega) (show j<n by omega)).trans hd
   rcases ho with rfl|⟨q,rfl⟩
   all_goals (repeat' (first|omega|(first|apply yaa|(refine yac.intro (id:=4) yc8 yc9 (by decide+kernel) mixed ?_)|(refine yac.intro (id:=6) yda ydb (by decide+kernel) mixed ?_)|skip);simp only [go_sem,sevalprocAttr,bj,ej,hl',↓reduceIte,reduceCtorEq,yc8,yc9,yda,ydb]|(refine ⟨yad.fn (r:=?_) rfl ?_ ?_⟩;rotate_left;assumption)|(refine ⟨yav.fn (r:=?_) rfl ?_ ?_⟩;rotate_left;assumption)|apply yab<;>(intro h_;(try simp only [h_]);revert h_)|apply And.intro|with_reducible intro h_|trivial|simp only [go_sem,la2];omega))
   all_goals (
    refine ⟨_,_,_,?_,?_,j-1,(l'.set j (l'.getD (j-1) 0)).set (j-1) (l'.getD j 0),by omega,by simp [hl'],hs2,hd2,rfl,rfl,rfl⟩
    ·omega
    ·refine Wk.appS (A:=[(7,I ((j-1:Nat):Int)),(6,I i),(2,I n),(1,I 0),(0, .sl 1 5 0 n)]) ?_ (fun t ht=>?_) rfl<;>(simp only [go_sem,sevalprocAttr])
     all_goals first
      |omega
      |(repeat rw [if_neg (by omega)]))
  ·rw [decide_eq_false hlt] at hL
   have hs2:=yqy hs (.inr hlt)
   rcases ho with rfl|⟨q,rfl⟩
   all_goals (repeat' (first|omega|(first|apply yaa|(refine yac.intro (id:=4) yc8 yc9 (by decide+kernel) mixed ?_)|(refine yac.intro (id:=6) yda ydb (by decide+kernel) mixed ?_)|skip);simp only [go_sem,sevalprocAttr,bj,ej,hl',↓reduceIte,reduceCtorEq,yc8,yc9,yda,ydb]|(refine ⟨yad.fn (r:=?_) rfl ?_ ?_⟩;rotate_left;assumption)|(refine ⟨yav.fn (r:=?_) rfl ?_ ?_⟩;rotate_left;assumption)|apply yab<;>(intro h_;(try simp only [h_]);revert h_)|apply And.intro|with_reducible intro h_|trivial|simp only [go_sem,la2];omega))
   all_goals (
    refine ⟨_,_,_,?_,?_,i+1,l',by omega,by omega,hl',hs2,hd,rfl,rfl,rfl⟩
    ·omega
    ·refine Wk.appS (A:=[(6,I ((i+1:Nat):Int)),(2,I n),(1,I 0),(0, .sl 1 5 0 n)]) ?_ (fun t ht=>?_) rfl<;>(simp only [go_sem,sevalprocAttr])
     all_goals repeat rw [if_neg (by omega)])
 ·obtain rfl:i=n:=by omega
  have bi:decide ((i:Int)<(i:Nat))=false:=by simp
  repeat' (first|omega|(first|apply yaa|(refine yac.intro (id:=4) yc8 yc9 (by decide+kernel) mixed ?_)|(refine yac.intro (id:=6) yda ydb (by decide+kernel) mixed ?_)|skip);simp only [go_sem,sevalprocAttr,bi,↓reduceIte,reduceCtorEq,yc8,yc9,yda,ydb]|apply yab<;>(intro h_;(try simp only [h_]);revert h_)|apply And.intro|with_reducible intro h_|trivial|simp only [go_sem,la2];omega)
  all_goals exact hK _ hl' hs hd
end Go.Proofs.YtngegnonblbdhaaDoor
namespace Go.Proofs.YtngegnonblbdhaaDoor
open Go Go.RowKit
set_option maxHeartbeats 8000000
set_option maxRecDepth 100000
set_option linter.unusedVariables false
set_option linter.unusedSimpArgs false
theorem yxo:Fn Tryd.prog 74 [.int .u64 4] (I 3):=by
 refine Fn.intro [.tmp 2] Tryd.func74 rfl rfl (by decide) (by simp [Tryd.ntmps74]) ?_;rw [Tryd.ntmps74]
 repeat' (first|omega|(try apply yaa);simp only [go_sem,sevalprocAttr]|apply yab<;>(intro h_;(try simp only [h_]);revert h_)|apply And.intro|with_reducible intro h_|trivial|simp only [go_sem,la2];omega)
theorem y04:Fn Tryd.prog 51 [.int .u64 4] (I 3):=by
 have h:=yxo
 refine Fn.intro [.tmp 2] Tryd.func51 rfl rfl (by decide) (by simp [Tryd.ntmps51]) ?_;rw [Tryd.ntmps51]
 repeat' (first|omega|(try apply yaa);simp only [go_sem,sevalprocAttr,h]|(refine ⟨yad.fn (r:=?_) rfl ?_ ?_⟩;rotate_left;assumption)|(refine ⟨yav.fn (r:=?_) rfl ?_ ?_⟩;rotate_left;assumption)|apply yab<;>(intro h_;(try simp only [h_]);revert h_)|apply And.intro|with_reducible intro h_|trivial|simp only [go_sem,la2];omega)
theorem yxp (o:Hp) (ho:o=[]\/ ∃q,o=[(4, .cells 3 (.ints q))]) (l:List Int) (hl:l.length=4) (z:Int) {fr:Fr} {K:AV->Fr->Hp->Prop}
  (hK: ∀l':List Int,l'.length=4->srtI l' 4 4->(dis l' 4↔dis l 4)->K (.tup []) fr (stH l' o)):
  ya7 Tryd.prog 50 [.sl 1 5 0 4,I 0,I 4,I z] fr (stH l o) K:=by
 refine ya7.intro [] Tryd.func50 rfl rfl (by decide) (by simp [Tryd.ntmps50]) ?_;rw [Tryd.ntmps50]
 repeat' (first|omega|(try apply yaa);simp only [go_sem,sevalprocAttr]|apply yab<;>(intro h_;(try simp only [h_]);revert h_)|apply And.intro|with_reducible intro h_|trivial|simp only [go_sem,la2];omega)
 refine yak.intro (fun m fr' H=>m=0/\fr'=[(3,I z),(2,I 4),(1,I 0),(0, .sl 1 5 0 4)]++lft fr/\H=stH l o) ?_ ?_
 ·refine ⟨_,_,_,?_,rfl,rfl,rfl⟩
  refine Wk.appS ?_ (fun t ht=>?_) rfl<;>(simp only [go_sem,sevalprocAttr])
  all_goals repeat rw [if_neg (by omega)]
 rintro m fr' H ⟨rfl,rfl,rfl⟩
 repeat' (first|omega|(try apply yaa);simp only [go_sem,sevalprocAttr]|apply yab<;>(intro h_;(try simp only [h_]);revert h_)|apply And.intro|with_reducible intro h_|trivial|simp only [go_sem,la2];omega)
 refine ⟨yad.inline (yr5 4 o ho l hl (by decide) (by decide) ?_)⟩
 intro l' h1 h2 h3
 repeat' (first|omega|(try apply yaa);simp only [go_sem,sevalprocAttr]|apply yab<;>(intro h_;(try simp only [h_]);revert h_)|apply And.intro|with_reducible intro h_|trivial|simp only [go_sem,la2];omega)
 all_goals exact hK l' h1 h2 h3
theorem ymf (o:Hp) (ho:o=[]\/ ∃q,o=[(4, .cells 3 (.ints q))]) (l:List Int) (hl:l.length=4) {fr:Fr} {K:AV->Fr->Hp->Prop}
  (hK: ∀l':List Int,l'.length=4->srtI l' 4 4->(dis l' 4↔dis l 4)->K (.tup []) fr (stH l' o)):
  ya7 Tryd.prog 37 [.sl 1 5 0 4] fr (stH l o) K:=by
 have h:=y04
 refine ya7.intro [] Tryd.func37 rfl rfl (by decide) (by simp [Tryd.ntmps37]) ?_;rw [Tryd.ntmps37]
 repeat' (first|omega|(try apply yaa);simp only [go_sem,sevalprocAttr]|apply yab<;>(intro h_;(try simp only [h_]);revert h_)|apply And.intro|with_reducible intro h_|trivial|simp only [go_sem,la2];omega)
 refine ⟨yad.fn rfl h ?_⟩
 repeat' (first|omega|(try apply yaa);simp only [go_sem,sevalprocAttr]|apply yab<;>(intro h_;(try simp only [h_]);revert h_)|apply And.intro|with_reducible intro h_|trivial|simp only [go_sem,la2];omega)
 refine ⟨yad.inline (yxp o ho l hl 3 ?_)⟩
 intro l' h1 h2 h3
 repeat' (first|omega|(try apply yaa);simp only [go_sem,sevalprocAttr]|apply yab<;>(intro h_;(try simp only [h_]);revert h_)|apply And.intro|with_reducible intro h_|trivial|simp only [go_sem,la2];omega)
 all_goals exact hK l' h1 h2 h3
end Go.Proofs.YtngegnonblbdhaaDoor
namespace Go.Proofs.YtngegnonblbdhaaDoor
set_option linter.unusedSimpArgs false
set_option linter.unusedVariables false
open Classical
theorem yur {l:List Int} (hs:srtI l 4 4) (h: ∀i,0<i->i<4->l.getD i 0≠l.getD (i-1) 0):dis l 4:=by
 have key: ∀a b,a<b->b<4->l.getD a 0<l.getD b 0:=fun a b hab hb=>by
  have h1:=hs (b-1) b (by omega) hb (by omega)
  have h2:=h b (by omega) hb
  by_cases e:a=b-1
  ·subst e;omega
  ·have h3:=hs a (b-1) (by omega) (by omega) (by omega)
   omega
 intro a b ha hb hab e
 rcases Nat.lt_or_gt_of_ne hab with h1|h1
 ·have:=key a b h1 hb;omega
 ·have:=key b a h1 ha;omega
def ycl (lf:List Int) (c:Nat):List Int:=(lf.drop (4*c)).take 4
theorem yus {lf:List Int} {n c:Nat} (h:lf.length=4*n) (hc:c<n):(ycl lf c).length=4:=by
 unfold ycl
 rw [List.length_take,List.length_drop];omega
theorem ymg {lf:List Int} {c i:Nat} (hi:i<4):(ycl lf c).getD i 0=lf.getD (4*c+i) 0:=by
 unfold ycl
 rw [List.getD_eq_getElem?_getD,List.getElem?_take,if_pos hi,List.getElem?_drop,List.getD_eq_getElem?_getD]
noncomputable def ngL (lf:List Int):Nat->List Int
 |0=>[]
 |c+1=>if dis (ycl lf c) 4 then ngL lf c else ngL lf c++[(c:Int)]
theorem yln (lf:List Int): ∀c,(ngL lf c).length<=c
 |0=>by simp [ngL]
 |c+1=>by
  have:=yln lf c
  simp only [ngL]
  split
  ·omega
  ·rw [List.length_append];simp;omega
theorem yqz {lf:List Int}: ∀k,(ngL lf k).length=0-> ∀c,c<k->dis (ycl lf c) 4
 |0,_,c,hc=>by omega
 |k+1,h,c,hc=>by
  simp only [ngL] at h
  split at h
  ·rename_i hd
   by_cases e:c=k
   ·subst e;exact hd
   ·exact yqz k h c (by omega)
  ·rw [List.length_append] at h;simp at h
theorem y2g {m:List Int} {n:Nat} (h:Sp.Dia m n) (h0:(ngL (lfN (yb0 m) m.length (yb0 m).length) n).length=0): ∀c,c<n-> ¬Sp.SC (Sp.phK Sp.siD (Sp.alD m) (4*n)) (4*c) (4*c+2)/\ ¬Sp.SC (Sp.phK Sp.siD (Sp.alD m) (4*n)) (4*c+1) (4*c+3):=fun c hc=>by
 have hd:=yqz n h0 c hc
 have d1:=hd 0 2 (by decide) (by decide) (by decide)
 have d2:=hd 1 3 (by decide) (by decide) (by decide)
 rw [ymg (by decide),ymg (by decide)] at d1 d2
 exact ⟨fun e=>d1 (yx4 h (by omega) (by omega) e),fun e=>d2 (yx4 h (by omega) (by omega) e)⟩
def altB (m:List Int):Nat->Bool
 |0=>true
 |k+1=>altB m k&& !((k:Int)% 2==m.getD k 0 % 2)
theorem ylo {m:List Int}: ∀{k x:Nat},altB m k=true->x<k->(x:Int)% 2≠m.getD x 0 % 2
 |k+1,x,h,hx=>by
  simp only [altB,Bool.and_eq_true,Bool.not_eq_true',beq_eq_false_iff_ne] at h
  by_cases e:x=k
  ·subst e;exact h.2
  ·exact ylo h.1 (by omega)
theorem yxq {m:List Int} {n:Nat} (h:Sp.Dia m n) (ha:altB m m.length=true): ∀x,x<4*n->Sp.alD m x % 2≠x % 2:=fun x hx=>by
 have hml:=h.prd.ok.1
 have h1:=ylo ha (x:=x) (by omega)
 have h2:=h.cast hx
 omega
end Go.Proofs.YtngegnonblbdhaaDoor
set_option linter.unusedSimpArgs false
set_option linter.unusedVariables false
namespace Go.Proofs.YtngegnonblbdhaaDoor
open Go Go.RowKit
set_option linter.unusedVariables false
section
variable {P:Program} {B:Nat} {w0:ya9} {Mx:Nat->Prop} {N:Nat} {fr:Fr} {H:Hp}
theorem awO.of {o:Oper} {K:Fr->Hp->Prop} (hc:cvOk P o.op=true) (hq:quF P H (evA fr) o.op=none) (ha:alF P (hnew H) (evA fr) o.op=none) (hx:awX P N o fr H K):awO P N o fr H K:=by
 unfold awO
 rw [hq,ha]
 exact ⟨hc,hx⟩
theorem Oper.wp_value {o:Oper} {a:Act} {w w':World} {v:Value} {K:Act->World->Prop} {Q:Exit->Act->World->Prop} (h:(execOp a.eval o).run P w= .ok (.value v) w') (hk:K (a.put o.dst v) w'):o.wp P a w K Q:=by
 unfold Oper.wp;rw [h];exact hk
end
end Go.Proofs.YtngegnonblbdhaaDoor
set_option linter.unusedSimpArgs false
set_option linter.unusedVariables false
namespace Go.Proofs.YtngegnonblbdhaaDoor
open Go Go.RowKit
set_option linter.unusedVariables false
section
variable {P:Program} {N:Nat} {fr:Fr} {H:Hp} {K:Fr->Hp->Prop} {o:Oper}
theorem SpL.ofX {ops:Array Oper} {r:List Oper} (hc:cvOk P o.op=true) (hq:quF P H (evA fr) o.op=none) (ha:alF P (hnew H) (evA fr) o.op=none) (hx:awX P N o fr H fun fr' H'=>awL P N ops r fr' H' K):SpL P N ops fr H K o r:=⟨awO.of hc hq ha hx⟩
end
end Go.Proofs.YtngegnonblbdhaaDoor
set_option linter.unusedSimpArgs false
set_option linter.unusedVariables false
namespace Go.Proofs.YtngegnonblbdhaaDoor
open Go Go.RowKit
set_option maxRecDepth 100000
set_option maxHeartbeats 4000000
section
variable {P:Program} {N:Nat} {fr:Fr} {H:Hp} {K:Fr->Hp->Prop} {o:Oper}
def zrL (l:List Int) (a n:Nat):List Int:=(List.range l.length).map fun i=>if a<=i/\i<a+n then 0 else l.getD i 0
theorem yin (l:List Int) (a n:Nat):(zrL l a n).length=l.length:=by simp [zrL]
theorem SpA.clear {t e id n a:Nat} {s:Operand} {l:List Int} (ho:o.op= .call {callee:= .builtin .clear,args:= #[s],argTypes:= #[t]}) (hd:dok o.dst N=true) (htk:tk P t= .slice e) (hze:tzv P e=some (.int .i64 0))
  (hs:evA fr s= .sl 1 id a n) (h1:hget H id=some (.cells 3 (.ints l))) (hn:a+n<=l.length) (hn0:0<n)
  (h:K (fput fr o.dst (.tup [])) (hset H id (.cells 3 (.ints (zrL l a n))))):SpA P N o K fr H:=by
 intro B w0 Mx w ρ ac hsim Q
 have hvs:=hsim.ev s
 rw [hs] at hvs
 obtain ⟨hsp,arr,hb,hl,hcs⟩:=hsim.objs id _ h1
 simp only [Cs.len] at hl hcs
 cases hqv:ac.eval s with
 |slice ad len cap=>
  rw [hqv] at hvs
  cases hvs with
  |sl es id' off' len' cap' hdd hc arr' t' ad' ha hb' hr=>
   have ead:(ρ id).add a=⟨(ρ id).block,(ρ id).off+a,none⟩:=ybx hsp a
   obtain ⟨news,hnews⟩: ∃news:List Value,news=List.replicate n (Value.int .i64 0):=⟨_,rfl⟩
   have hnl:news.length=n:=by rw [hnews,List.length_replicate]
   have hone: ∀z∈news,oneC z:=fun z hz=>by
    rw [hnews] at hz
    rw [(List.mem_replicate.1 hz).2]
    trivial
   obtain ⟨w',arr2,r1,r2,r3,r4,r5,r6,r7,r8,r9⟩:=yb6 (P:=P) (b:=(ρ id).block) (t:=3) (o:=(ρ id).off+a) news 0 w arr hb (by omega) hone
   have hch:=hsim.change (c':= .ints (zrL l a n)) h1 hb r2 r3 r4 r5 r6 r7 r8 (by simp [Cs.len,yin];omega) (fun j hj=>by
    simp only [Cs.len,yin] at hj
    rw [r9]
    simp only [zrL,Cs.get,List.getD_eq_getElem?_getD,List.getElem?_map,List.getElem?_range hj,Option.map_some,Option.getD_some]
    by_cases c1:a<=j/\j<a+n
    ·rw [if_pos c1,if_pos (by omega)]
     have e2:(ρ id).off+j-((ρ id).off+a+0)=j-a:=by omega
     rw [e2,hnews]
     refine ⟨.int .i64 0,by rw [List.getElem?_replicate,if_pos (by omega)], .int _ _⟩
    ·rw [if_neg c1,if_neg (by omega)]
     obtain ⟨u,g1,g2⟩:=hcs j hj
     exact ⟨u,g1,by simpa [Cs.get,List.getD_eq_getElem?_getD] using g2⟩)
   have hrun:(execOp ac.eval o).run P w= .ok (.value (.tuple #[])) w':=by
    have hc0:0<cap:=by omega
    have hst:(storeCells ad' news 0).run P w= .ok () w':=by
     rw [ha hc0,ead];exact r1
    obtain ⟨zv,z1,z2⟩:=yfd (P:=P) (w:=w) hze
    have z3:=yi6 z2
    subst z3
    have hzc:(Builtin.zeroCells (Value.int .i64 0).cells n).toList=news:=by
     rw [hnews]
     simp [Builtin.zeroCells,Value.cells,Nat.mod_one,List.map_const']
    have hcp:(Builtin.clear_ #[t] o.type #[ac.eval s]).run P w= .ok (.tuple #[]) w':=by
     obtain ⟨k,rfl⟩: ∃k,n=k+1:=⟨n-1,by omega⟩
     simp [Builtin.clear_,run_underlying (yat htk),hqv,z1,hzc,hst]
    simp [execOp,ho,resolve,invoke,builtin,hcp]
   exact Oper.wp_value hrun ⟨ρ,_,_,h,hch.put hd (.tup [] [] rfl fun i v x h _=>by simp at h)⟩
 |_=>rw [hqv] at hvs;cases hvs
theorem SpL.clear {ops:Array Oper} {rr:List Oper} {t e id n a:Nat} {s:Operand} {l:List Int} (ho:o.op= .call {callee:= .builtin .clear,args:= #[s],argTypes:= #[t]}) (hd:dok o.dst N=true) (htk:tk P t= .slice e) (hze:tzv P e=some (.int .i64 0))
  (hs:evA fr s= .sl 1 id a n) (h1:hget H id=some (.cells 3 (.ints l))) (hn:a+n<=l.length) (hn0:0<n)
  (h:awL P N ops rr (fput fr o.dst (.tup [])) (hset H id (.cells 3 (.ints (zrL l a n)))) K):SpL P N ops fr H K o rr:=by
 refine SpL.ofX ?_ ?_ ?_ ?_
 ·rw [ho];rfl
 ·rw [ho];rfl
 ·rw [ho];rfl
 ·unfold awX;rw [ho];exact ⟨rfl,SpA.clear (K:=fun fr' H'=>awL P N ops rr fr' H' K) ho hd htk hze hs h1 hn hn0 h⟩
end
end Go.Proofs.YtngegnonblbdhaaDoor
