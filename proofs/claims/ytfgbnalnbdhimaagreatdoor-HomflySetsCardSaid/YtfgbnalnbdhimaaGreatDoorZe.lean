/- Layer 12: the coefficient of a power. -/
import Derived.Test.YtfgbnalnbdhimaaGreatDoorZc
import Derived.Test.YtfgbnalnbdhimaaGreatDoorZa
import Derived.Test.YtfgbnalnbdhimaaGreatDoorZd
import Derived.Test.YtfgbnalnbdhimaaGreatDoorGc
namespace Go.Proofs.YtfgbnalnbdhimaaGreatDoor
open Go Go.RowKit
set_option maxRecDepth 100000
set_option maxHeartbeats 8000000
set_option linter.unusedVariables false
set_option linter.unusedSimpArgs false
def cmpI (a b:Int):Int:=if a<b then-1 else if b<a then 1 else 0
theorem yqd (a:Int):Fn Tryz.prog 104 [I a] (.bool false):=by
 have h:(a !=a)=false:=by simp
 refine Fn.intro [.tmp 2] Tryz.func104 rfl rfl (by decide) (by simp [Tryz.ntmps104]) ?_;rw [Tryz.ntmps104]
 repeat' (first|omega|(try apply yaa);simp only [go_sem,h]|apply yab<;>(intro h_;(try simp only [h_]);revert h_)|apply And.intro|with_reducible intro h_|trivial)
theorem yuz (a b:Int):Fn Tryz.prog 77 [I a,I b] (I (cmpI a b)):=by
 have ha:=yqd a
 have hb:=yqd b
 unfold cmpI
 by_cases h1:a<b
 ·rw [if_pos h1]
  have b1:decide (a<b)=true:=by simpa using h1
  refine Fn.intro [.tmp 4] Tryz.func77 rfl rfl (by decide) (by simp [Tryz.ntmps77]) ?_;rw [Tryz.ntmps77]
  repeat' (first|omega|(try apply yaa);simp only [go_sem,b1]|refine cgL ?_|refine cgD ?_|apply yab<;>(intro h_;(try simp only [h_]);revert h_)|apply And.intro|with_reducible intro h_|trivial)
 ·rw [if_neg h1]
  have b1:decide (a<b)=false:=by simpa using h1
  by_cases h2:b<a
  ·rw [if_pos h2]
   have b2:decide (b<a)=true:=by simpa using h2
   refine Fn.intro [.tmp 4] Tryz.func77 rfl rfl (by decide) (by simp [Tryz.ntmps77]) ?_;rw [Tryz.ntmps77]
   repeat' (first|omega|(try apply yaa);simp only [go_sem,b1,b2]|refine cgL ?_|refine cgD ?_|apply yab<;>(intro h_;(try simp only [h_]);revert h_)|apply And.intro|with_reducible intro h_|trivial)
  ·rw [if_neg h2]
   have b2:decide (b<a)=false:=by simpa using h2
   refine Fn.intro [.tmp 4] Tryz.func77 rfl rfl (by decide) (by simp [Tryz.ntmps77]) ?_;rw [Tryz.ntmps77]
   repeat' (first|omega|(try apply yaa);simp only [go_sem,b1,b2]|refine cgL ?_|refine cgD ?_|apply yab<;>(intro h_;(try simp only [h_]);revert h_)|apply And.intro|with_reducible intro h_|trivial)
theorem yqe (x c e:Int):Fn Tryz.prog 79 [.agg [I x,I c],I e] (I (cmpI x e)):=by
 have h:=yuz x e
 refine Fn.intro [.tmp 4] Tryz.func79 rfl rfl (by decide) (by simp [Tryz.ntmps79]) ?_;rw [Tryz.ntmps79]
 repeat' (first|omega|(try apply yaa);simp only [go_sem,h]|refine cgL ?_|refine cgD ?_|apply yab<;>(intro h_;(try simp only [h_]);revert h_)|apply And.intro|with_reducible intro h_|trivial)
def bsI (p:List (Int×Int)) (e:Int):Nat:=p.countP fun t=>decide (t.1<e)
theorem y55 {p:List (Int×Int)} {e:Int} {i:Nat} (hi:i<=p.length) (h1: ∀k,k<i->(p.getD k (0,0)).1<e) (h2: ∀k,i<=k->k<p.length-> ¬(p.getD k (0,0)).1<e):bsI p e=i:=by
 have e1:p=p.take i++p.drop i:=(List.take_append_drop i p).symm
 unfold bsI
 rw [e1,List.countP_append]
 have a:(p.take i).countP (fun t=>decide (t.1<e))=(p.take i).length:=by
  rw [List.countP_eq_length]
  intro t ht
  obtain ⟨k,hk,rfl⟩:=List.mem_iff_getElem.1 ht
  simp only [List.length_take] at hk
  have:=h1 k (by omega)
  rw [List.getElem_take]
  simp only [List.getD_eq_getElem?_getD,List.getElem?_eq_getElem (show k<p.length by omega),Option.getD_some] at this
  simpa using this
 have b:(p.drop i).countP (fun t=>decide (t.1<e))=0:=by
  rw [List.countP_eq_zero]
  intro t ht
  obtain ⟨k,hk,rfl⟩:=List.mem_iff_getElem.1 ht
  simp only [List.length_drop] at hk
  have:=h2 (i+k) (by omega) (by omega)
  rw [List.getElem_drop]
  simp only [List.getD_eq_getElem?_getD,List.getElem?_eq_getElem (show i+k<p.length by omega),Option.getD_some] at this
  simpa using this
 rw [a,b,List.length_take];omega
theorem ys6 {p:List (Int×Int)} (h:AscN p) {i j:Nat} (hij:i<j) (hj:j<p.length):(p.getD i (0,0)).1<(p.getD j (0,0)).1:=by
 have:=List.pairwise_iff_getElem.1 h.asc i j (by omega) hj hij
 simpa [List.getD_eq_getElem?_getD,List.getElem?_eq_getElem (show i<p.length by omega),List.getElem?_eq_getElem hj] using this
theorem yn4 {p:List (Int×Int)} (h:AscN p) (e:Int):bsI p e<=p.length/\(∀k,k<bsI p e->(p.getD k (0,0)).1<e)/\ ∀k,bsI p e<=k->k<p.length-> ¬(p.getD k (0,0)).1<e:=by
 have key: ∀n,n<=p.length-> ∃i,i<=n/\(∀k,k<i->(p.getD k (0,0)).1<e)/\ ∀k,i<=k->k<n-> ¬(p.getD k (0,0)).1<e:=fun n=>by
  induction n with
  |zero=>exact fun _=>⟨0,by omega,fun k hk=>by omega,fun k _ hk=>by omega⟩
  |succ n ih=>
   intro hn
   obtain ⟨i,h0,h1,h2⟩:=ih (by omega)
   by_cases hx:(p.getD n (0,0)).1<e
   ·have hin:i=n:=Nat.le_antisymm h0 (Nat.le_of_not_lt fun hlt=>h2 i (Nat.le_refl _) hlt (by have:=ys6 h hlt (by omega);omega))
    subst hin
    refine ⟨i+1,by omega,fun k hk=>?_,fun k hk hk2=>by omega⟩
    by_cases hki:k<i
    ·exact h1 k hki
    ·rw [show k=i by omega];exact hx
   ·refine ⟨i,by omega,h1,fun k hk hk2=>?_⟩
    by_cases hkn:k<n
    ·exact h2 k hk hkn
    ·rw [show k=n by omega];exact hx
 obtain ⟨i,h0,h1,h2⟩:=key p.length (Nat.le_refl _)
 rw [y55 h0 h1 h2]
 exact ⟨h0,h1,h2⟩
def bsB (p:List (Int×Int)) (e:Int):Bool:=decide (bsI p e<p.length)&&((p.getD (bsI p e) (0,0)).1==e)
theorem yu0 (p:List (Int×Int)) (e:Int) (h:AscN p) (hl:p.length<=1000000):Fn Tryz.prog 78 [tmA p,I e, .fn 79 []] (.tup [I (bsI p e), .bool (bsB p e)]):=by
 obtain ⟨s0,s1,s2⟩:=yn4 h e
 have hlen:=ya9 p
 refine Fn.intro [.tmp 6, .tmp 7] Tryz.func78 rfl rfl (by decide) (by simp [Tryz.ntmps78]) ?_;rw [Tryz.ntmps78]
 repeat' (first|omega|(try apply yaa);simp only [go_sem]|apply yab<;>(intro h_;(try simp only [h_]);revert h_)|apply And.intro|with_reducible intro h_|trivial)
 refine yai.intro (fun n fr H=> ∃i j:Nat,i<=bsI p e/\bsI p e<=j/\j<=p.length/\n=j-i/\fr=[(10,I j),(9,I i),(8,I p.length),(2, .fn 79 []),(1,I e),(0,tmA p)]/\H=[]) ?_ ?_
 ·refine ⟨_,_,_,Wk.sub ?_ ?_,0,p.length,by omega,s0,by omega,rfl,rfl,rfl⟩<;>(simp only [go_sem,yac])
 rintro n fr H ⟨i,j,hi,hj,hjl,rfl,rfl,rfl⟩
 by_cases hij:i<j
 ·have bij:decide ((i:Int)<j)=true:=by simpa using hij
  have e1:IntKind.u64.wrap ((i:Int)+j)=(i:Int)+j:=by rw [IntKind.wrap_u64];omega
  obtain ⟨k,hk⟩: ∃k:Nat,k=(i+j)/2:=⟨_,rfl⟩
  have e2:IntKind.i64.wrap (((i:Int)+j)/2^1)=(k:Nat):=by rw [IntWalk.i64_in _ (by omega)];omega
  have e3:IntKind.i64.wrap (((i:Int)+j)/2)=(k:Nat):=e2
  have hkl:k<p.length:=by omega
  have g0:=ybr p k hkl
  have g1:=yb5 p k hkl
  have hC:=yqe (p.getD k (0,0)).1 (p.getD k (0,0)).2 e
  by_cases hx:(p.getD k (0,0)).1<e
  ·have hb:decide (cmpI (p.getD k (0,0)).1 e<0)=true:=by unfold cmpI;rw [if_pos hx];rfl
   have hkb:k<bsI p e:=Nat.lt_of_not_le fun hle=>s2 k hle hkl hx
   repeat' (first|omega|(try apply yaa);simp only [go_sem,bij,e1,e2,e3,g0,g1,hlen]|apply yab<;>(intro h_;(try simp only [h_]);revert h_)|apply And.intro|with_reducible intro h_|trivial)
   refine ⟨yae.fn rfl hC ?_⟩
   repeat' (first|omega|(try apply yaa);simp only [go_sem,hb]|apply yab<;>(intro h_;(try simp only [h_]);revert h_)|apply And.intro|with_reducible intro h_|trivial)
   refine ⟨_,_,_,?_,Wk.sub ?_ ?_,k+1,j,by omega,by omega,by omega,rfl,rfl,rfl⟩
   ·omega
   ·simp only [go_sem,yac]
   ·simp only [go_sem]
  ·have hb:decide (cmpI (p.getD k (0,0)).1 e<0)=false:=by unfold cmpI;rw [if_neg hx];split<;>rfl
   have hkb:bsI p e<=k:=Nat.le_of_not_lt fun hlt=>hx (s1 k hlt)
   repeat' (first|omega|(try apply yaa);simp only [go_sem,bij,e1,e2,e3,g0,g1,hlen]|apply yab<;>(intro h_;(try simp only [h_]);revert h_)|apply And.intro|with_reducible intro h_|trivial)
   refine ⟨yae.fn rfl hC ?_⟩
   repeat' (first|omega|(try apply yaa);simp only [go_sem,hb]|apply yab<;>(intro h_;(try simp only [h_]);revert h_)|apply And.intro|with_reducible intro h_|trivial)
   refine ⟨_,_,_,?_,Wk.sub ?_ ?_,i,k,by omega,by omega,by omega,rfl,rfl,rfl⟩
   ·omega
   ·simp only [go_sem,yac]
   ·simp only [go_sem]
 ·obtain rfl:i=j:=by omega
  obtain rfl:i=bsI p e:=by omega
  have bij:decide (((bsI p e:Nat):Int)<(bsI p e:Nat))=false:=by simp
  by_cases hn:bsI p e<p.length
  ·have bn:decide (((bsI p e:Nat):Int)<(p.length:Nat))=true:=by simpa using hn
   have g0:=ybr p _ hn
   have g1:=yb5 p _ hn
   have hC:=yqe (p.getD (bsI p e) (0,0)).1 (p.getD (bsI p e) (0,0)).2 e
   have hx:=s2 _ (Nat.le_refl _) hn
   have hB:bsB p e=(cmpI (p.getD (bsI p e) (0,0)).1 e==0):=by
    unfold bsB cmpI
    rw [decide_eq_true hn,if_neg hx,Bool.true_and]
    by_cases h3:e<(p.getD (bsI p e) (0,0)).1
    ·rw [if_pos h3,beq_eq_false_iff_ne.2 (by omega)];rfl
    ·rw [if_neg h3,beq_iff_eq.2 (by omega)];rfl
   rw [hB]
   repeat' (first|omega|(try apply yaa);simp only [go_sem,bij,bn,g0,g1,hlen]|apply yab<;>(intro h_;(try simp only [h_]);revert h_)|apply And.intro|with_reducible intro h_|trivial)
   refine ⟨yae.fn rfl hC ?_⟩
   repeat' (first|omega|(try apply yaa);simp only [go_sem,bn]|apply yab<;>(intro h_;(try simp only [h_]);revert h_)|apply And.intro|with_reducible intro h_|trivial)
  ·have bn:decide (((bsI p e:Nat):Int)<(p.length:Nat))=false:=by simpa using hn
   have hB:bsB p e=false:=by unfold bsB;rw [decide_eq_false hn];rfl
   rw [hB]
   repeat' (first|omega|(try apply yaa);simp only [go_sem,bij,bn]|apply yab<;>(intro h_;(try simp only [h_]);revert h_)|apply And.intro|with_reducible intro h_|trivial)
theorem y36 {p:List (Int×Int)} {e:Int} (h:AscN p) (hb:bsB p e=true):bsI p e<p.length/\cfL p e=(p.getD (bsI p e) (0,0)).2:=by
 unfold bsB at hb
 simp only [Bool.and_eq_true,decide_eq_true_eq,beq_iff_eq] at hb
 refine ⟨hb.1,?_⟩
 have:=yd1 h (ya6 hb.1)
 rwa [hb.2] at this
theorem y37 {p:List (Int×Int)} {e:Int} (h:AscN p) (hb:bsB p e=false):cfL p e=0:=by
 refine ybz fun t ht e1=>?_
 obtain ⟨s0,s1,s2⟩:=yn4 h e
 obtain ⟨k,hk,rfl⟩:=List.mem_iff_getElem.1 ht
 have ek:p[k]=p.getD k (0,0):=by simp [hk]
 rw [ek] at e1
 have h1:bsI p e<=k:=Nat.le_of_not_lt fun hlt=>by have:=s1 k hlt;omega
 have h2:k<=bsI p e:=Nat.le_of_not_lt fun hlt=>s2 _ (Nat.le_refl _) (by omega) (by have:=ys6 h hlt hk;omega)
 obtain rfl:k=bsI p e:=by omega
 unfold bsB at hb
 rw [decide_eq_true hk,e1] at hb
 simp at hb
theorem ys7 (p:List (Int×Int)) (e:Int) (h:AscN p) (hl:p.length<=1000000):Fn Tryz.prog 45 [plA false p,I e] (I (cfL p e)):=by
 have hB:=yu0 p e h hl
 have hlen:=ya9 p
 cases hb:bsB p e with
 |true=>
  rw [hb] at hB
  obtain ⟨h1,h2⟩:=y36 h hb
  have g0:=ybr p _ h1
  have g1:=yb5 p _ h1
  rw [h2]
  refine Fn.intro [.tmp 4] Tryz.func45 rfl rfl (by decide) (by simp [Tryz.ntmps45]) ?_;rw [Tryz.ntmps45]
  repeat' (first|omega|(try apply yaa);simp only [go_sem,g1]|apply yab<;>(intro h_;(try simp only [h_]);revert h_)|apply And.intro|with_reducible intro h_|trivial)
  refine ⟨yae.fn rfl hB ?_⟩
  repeat' (first|omega|(try apply yaa);simp only [go_sem,g0,g1,hlen]|apply yab<;>(intro h_;(try simp only [h_]);revert h_)|apply And.intro|with_reducible intro h_|trivial)
 |false=>
  rw [hb] at hB
  rw [y37 h hb]
  refine Fn.intro [.tmp 4] Tryz.func45 rfl rfl (by decide) (by simp [Tryz.ntmps45]) ?_;rw [Tryz.ntmps45]
  repeat' (first|omega|(try apply yaa);simp only [go_sem,hlen]|apply yab<;>(intro h_;(try simp only [h_]);revert h_)|apply And.intro|with_reducible intro h_|trivial)
  refine ⟨yae.fn rfl hB ?_⟩
  repeat' (first|omega|(try apply yaa);simp only [go_sem,hlen]|apply yab<;>(intro h_;(try simp only [h_]);revert h_)|apply And.intro|with_reducible intro h_|trivial)
end Go.Proofs.YtfgbnalnbdhimaaGreatDoor
namespace Go.Proofs.YtfgbnalnbdhimaaGreatDoor
open Go Go.RowKit
set_option maxRecDepth 100000
set_option maxHeartbeats 8000000
set_option linter.unusedVariables false
set_option linter.unusedSimpArgs false
def yxt:TbA:=[(8,[[41,42,43,44,45,46,47,48],[41,42,43,44,45,46,47,48],[39,40,42,43,44,45,46],[39,40,41,44,45],[39,40,41,44,45],[39,40,41,42,43],[39,40,41,42,43],[39,40,41],[39,40],[39,40],[],[],[]],[[],[],[0,1],[0,1,2],[0,1,2],[0,1,2,3,4],[0,1,2,3,4],[0,1,2],[0,1],[0,1],[],[],[]])]
def yxu:TbA:=[(8,[[46,47,48,49],[45],[45],[45],[45],[],[52],[51],[],[]],[[],[0],[0],[0],[0],[],[],[6],[],[]]),(9,[[55,58,60],[55,58,60],[53,54,58,60],[58,60],[58,59,60,61,62],[53,54,55,56,57,60],[57,60],[53,54,55,56,57,58,59],[57],[57],[],[]],[[],[],[0,1],[],[],[0,1,2,3,4],[4],[0,1,2,3,4,5,6],[4],[4],[],[]]),(12,[[69],[69],[67,68],[],[],[],[],[]],[[],[],[0,1],[],[],[],[],[]]),(16,[[82,83,84,85,86,87,88,89],[81,84,85,87,88,89],[81,84,85,87,88,89],[81,82,83,87,88],[81,82,83,87,88],[81,87,88,89],[81,82,83,84,85,86],[81,82,83,84,85,86],[81,82,83,86],[],[]],[[],[0],[0],[0,1,2],[0,1,2],[0],[0,1,2,3,4,5],[0,1,2,3,4,5],[0,1,2,5],[],[]]),(23,[[104,107,108,109,110,111],[103,107,108,109,110,111],[107,108,109,110,111],[107,108,109,110,111],[103,104,105,106],[103,104,105,106],[103,104,105,106],[103,104,105,106],[103,104,105,106],[],[],[114],[113,12],[114],[]],[[],[0],[],[],[0,1,2,3],[0,1,2,3],[0,1,2,3],[0,1,2,3],[0,1,2,3],[],[],[],[11],[12],[]]),(24,[[117,120],[117,120],[115,116,120],[120],[120],[115,116,117,118,119],[],[]],[[],[],[0,1],[],[],[0,1,2,3,4],[],[]]),(31,[[146,147,149,150],[145,149,150],[145,149,150],[149,150],[145,146,147,148],[145,146,147,148],[],[]],[[],[0],[0],[],[0,1,2,3],[0,1,2,3],[],[]]),(32,[[153,154,155,156,157,158,159,160,161,162,163],[152,154,155,156,157,158,159,160,161,162,163],[152,153,155,158,159,160,161,162],[152,153,154,158,159,160,161,162],[152,153,158,159,160,161,162],[152,153,158,159,160,161,162],[152,153,154,155,156,157,160,161],[152,153,154,155,156,157,160,161],[152,153,154,155,156,157,158,159],[152,153,154,155,156,157,158,159],[152,153,154,155,156,157],[152,153],[],[]],[[],[0],[0,1],[0,1,2],[0,1],[0,1],[0,1,2,3,4,5],[0,1,2,3,4,5],[0,1,2,3,4,5,6,7],[0,1,2,3,4,5,6,7],[0,1,2,3,4,5],[0,1],[],[]])]
def yxv:TbT:=[(8, .node [(0,trP [1,2,3,4,5] (.node [(6,trD [7,8,9]),(7,trD [6,8,9])])),(1, .node [(0,trP [2,3,4,5] (.node [(6,trD [7,8,9]),(7,trD [6,8,9])])),(2, .node [(0,trP [3,4,5] (.node [(6,trD [7,8,9]),(7,trD [6,8,9])])),(3, .node [(0,trP [4,5] (.node [(6,trD [7,8,9]),(7,trD [6,8,9])])),(4,trP [0,5] (.node [(6,trD [7,8,9]),(7,trD [6,8,9])]))])])])]),(12, .node [(0, .node [(1,trD [2,3,4,5,6,7]),(2,trD [1,3,4,5,6,7])]),(2,trD [0,1,3,4,5,6,7])]),(24, .node [(0, .node [(1, .node [(2, .node [(3, .node [(4,trD [5,6,7]),(5,trD [4,6,7])]),(5,trD [3,4,6,7])]),(5,trD [2,3,4,6,7])]),(2, .node [(1, .node [(3, .node [(4,trD [5,6,7]),(5,trD [4,6,7])]),(5,trD [3,4,6,7])]),(5,trD [1,3,4,6,7])]),(5, .node [(1,trD [2,3,4,6,7]),(2,trD [1,3,4,6,7])])]),(2, .node [(0, .node [(1, .node [(3, .node [(4,trD [5,6,7]),(5,trD [4,6,7])]),(5,trD [3,4,6,7])]),(5,trD [1,3,4,6,7])]),(5,trD [0,1,3,4,6,7])]),(5, .node [(0, .node [(1,trD [2,3,4,6,7]),(2,trD [1,3,4,6,7])]),(2,trD [0,1,3,4,6,7])])])]
def y56:TbA:=[(1,[[5,6],[4],[4],[],[]],[[],[0],[0],[],[]]),(2,[[10],[10],[8,9],[],[],[],[],[],[],[],[],[],[],[]],[[],[],[0,1],[],[],[],[],[],[],[],[],[],[],[]])]
def y57:TbT:=[(1, .node [(0,trD [1,2,3,4]),(1, .node [(0,trD [2,3,4]),(2,trD [0,3,4])])]),(2, .node [(0, .node [(1,trD [2,3,4,5,6,7,8,9,10,11,12,13]),(2,trD [1,3,4,5,6,7,8,9,10,11,12,13])]),(2,trD [0,1,3,4,5,6,7,8,9,10,11,12,13])])]
theorem ydl (p:List (Int×Int)):Fn Tryz.prog 19 [plA false p] (.bool false):=by
 refine Fn.intro [.tmp 2] Tryz.func19 rfl rfl (by decide) (by simp [Tryz.ntmps19]) ?_;rw [Tryz.ntmps19]
 repeat' (first|omega|(try apply yaa);simp only [go_sem]|apply yab<;>(intro h_;(try simp only [h_]);revert h_)|apply And.intro|with_reducible intro h_|trivial)
def lSh (d:Int) (p:List (Int×Int)):List (Int×Int):=p.map fun t=>(t.1-d,t.2)
theorem ync (d:Int) (p:List (Int×Int)):(lSh d p).length=p.length:=by simp [lSh]
theorem yxw (p:List (Int×Int)) (d:Int) (hp:p.length<=1000000) (hd: -1000<=d/\d<=1000) (hb: ∀t∈p,(-1000<=t.1/\t.1<=1000)/\ -1125899906842624<=t.2/\t.2<=1125899906842624):
  Fn Tryz.prog 58 [plA false p, .agg [I d,I 1]] (.tup [plA false (lSh d p),I 0]):=by
 have hc:=ya9 p
 refine Fn.introL [.cell 4 32, .tmp 5] Tryz.func58 rfl rfl (by decide) (by simp [Tryz.ntmps58]) ?_;rw [Tryz.ntmps58]
 repeat' (first|omega|(first|apply yaa|refine tbN yxt ?_|skip);simp only [go_sem,hc]|refine cgL ?_|refine cgD ?_|apply yab<;>(intro h_;(try simp only [h_]);revert h_)|apply And.intro|with_reducible intro h_|trivial)
 refine yai.intro (fun n fr H=> ∃k:Nat,k<=p.length/\n=p.length-k/\fr=[(18,I k),(17,I p.length),(16,tmA p),(6, .ptr 4 0),(4, .ptr 2 0),(3, .ptr 1 0)]/\
  H=[(4, .cells 32 (.lst [.bool false, .sl 2 3 0 k])),(3, .cells 57 (.lst (tmC (lSh d (p.take k))))),(2, .cells 32 (.lst [.bool false, .nils])),(1, .cells 57 (.lst [I d,I 1]))]) ?_ ?_
 ·refine ⟨_,_,_,Wk.sub ?_ ?_,0,by omega,rfl,rfl,rfl⟩
  ·simp only [go_sem,yac]
  ·simp only [go_sem,yac,List.take_zero,lSh,List.map_nil,tmC]
   all_goals rfl
 rintro n fr H ⟨k,hk,rfl,rfl,rfl⟩
 have hl:(tmC (lSh d (p.take k))).length=2*k:=by rw [ya9,ync,List.length_take];omega
 by_cases hkl:k<p.length
 ·have bk:decide ((k:Int)<p.length)=true:=by simp;omega
  have g0:=ybr p k hkl
  have g1:=yb5 p k hkl
  have ht:=hb (p.getD k (0,0)) (by rw [List.getD_eq_getElem?_getD,List.getElem?_eq_getElem hkl];exact List.getElem_mem _)
  have et:p.take (k+1)=p.take k++[p.getD k (0,0)]:=by rw [List.take_succ_eq_append_getElem hkl];simp [hkl]
  have es:tmC (lSh d (p.take (k+1)))=tmC (lSh d (p.take k))++[I ((p.getD k (0,0)).1-d),I (p.getD k (0,0)).2]:=by
   rw [et]
   unfold lSh
   rw [List.map_append,yux]
   rfl
  generalize (p.getD k (0,0)).1=x at*
  generalize (p.getD k (0,0)).2=v at*
  clear hb
  have w1:=yc9 (x-d) 1048576 (by decide) (by decide)
  have wb:fitB (x-d) 1048576=true:=by unfold fitB;simp;omega
  rw [wb] at w1
  have m1:(v.tmod 1 !=0)=false:=by rw [bne_eq_false_iff_eq];exact Int.tmod_one v
  have q1:v.tdiv 1=v:=Int.tdiv_one v
  repeat' (first|omega|(first|apply yaa|refine tbN yxt ?_|skip);simp only [go_sem,bk,hc,g0,g1,hl,m1,q1]|refine cgL ?_|refine cgD ?_|apply yab<;>(intro h_;(try simp only [h_]);revert h_)|apply And.intro|with_reducible intro h_|trivial)
  have sw: ∀q:List (Int×Int),List.map (swV 3 16 4) (tmC q)=tmC q:=fun q=>(List.map_congr_left fun y hy=>by obtain ⟨n,rfl⟩:=yfm hy;rfl).trans (List.map_id _)
  refine ⟨_,_,_,?_,Wk.subS 3 16 (fr':=[(18,I ((k+1:Nat):Int)),(17,I p.length),(16,tmA p),(6, .ptr 4 0),(4, .ptr 2 0),(3, .ptr 1 0)]) (H':=[(4, .cells 32 (.lst [.bool false, .sl 2 3 0 (k+1)])),(3, .cells 57 (.lst (tmC (lSh d (p.take (k+1)))))),(2, .cells 32 (.lst [.bool false, .nils])),(1, .cells 57 (.lst [I d,I 1]))])
   (fr1:=[(18,I ((k+1:Nat):Int)),(17,I p.length),(16,tmA p),(6, .ptr 4 0),(4, .ptr 2 0),(3, .ptr 1 0)]) (H1:=[(4, .cells 32 (.lst [.bool false, .sl 2 16 0 (k+1)])),(16, .cells 57 (.lst (tmC (lSh d (p.take (k+1)))))),(2, .cells 32 (.lst [.bool false, .nils])),(1, .cells 57 (.lst [I d,I 1]))])
   rfl (by simp only [swH,swO,List.map_cons,List.map_nil,sw];rfl) rfl (by simp only [swH,swO,List.map_cons,List.map_nil,sw];rfl) ?_ ?_,k+1,by omega,rfl,rfl,rfl⟩
  ·omega
  ·simp only [go_sem,yac]
  ·simp only [go_sem,es,ysx,yac,List.all_append]
 ·obtain rfl:k=p.length:=by omega
  have bk:decide ((p.length:Int)<p.length)=false:=by simp
  rw [List.take_length] at hl⊢
  have hsl:=ync d p
  repeat' (first|omega|(try apply yaa);simp only [go_sem,bk,hl]|apply yab<;>(intro h_;(try simp only [h_]);revert h_)|apply And.intro|with_reducible intro h_|trivial)
  all_goals first
   |exact ye2 _ _ ‹_›
   |exact LeA.of (by rw [List.take_of_length_le (by omega),←hsl])
   |exact LeA.of (by rw [yf5,List.take_of_length_le (by omega),←hsl])
theorem y38 (p:List (Int×Int)) (d:Int) (hp:p.length<=1000000) (hd: -1000<=d/\d<=1000) (hb: ∀t∈p,(-1000<=t.1/\t.1<=1000)/\ -1125899906842624<=t.2/\t.2<=1125899906842624):
  Fn Tryz.prog 24 [plA false p,plA false [(d,1)]] (.tup [plA false (lSh d p),I 0]):=by
 have hc:=ya9 p
 have hD:=yxw p d hp hd hb
 by_cases h0:p.length=0
 ·obtain rfl:p=[]:=List.eq_nil_of_length_eq_zero h0
  refine Fn.introL [.cell 4 32, .tmp 5] Tryz.func24 rfl rfl (by decide) (by simp [Tryz.ntmps24]) ?_;rw [Tryz.ntmps24]
  repeat' (first|omega|(first|apply yaa|refine tbN yxu ?_|refine tbT yxv ?_|skip);simp only [go_sem,hc]|refine cgL ?_|refine cgD ?_|apply yab<;>(intro h_;(try simp only [h_]);revert h_)|apply And.intro|with_reducible intro h_|trivial)
  all_goals exact LeA.tupL (.cons (LeA.aggL (.cons (LeA.refl _) (.cons (LeA.nils (by omega) rfl) .nil))) (.cons (LeA.refl _) .nil))
 have b0:((p.length:Int)==0)=false:=by rw [beq_eq_false_iff_ne];omega
 refine Fn.introL [.cell 4 32, .tmp 5] Tryz.func24 rfl rfl (by decide) (by simp [Tryz.ntmps24]) ?_;rw [Tryz.ntmps24]
 repeat' (first|omega|(first|apply yaa|refine tbN yxu ?_|refine tbT yxv ?_|skip);simp only [go_sem,b0,hc]|refine cgL ?_|refine cgD ?_|apply yab<;>(intro h_;(try simp only [h_]);revert h_)|apply And.intro|with_reducible intro h_|trivial)
 all_goals exact LeA.refl _
theorem yqf (e c e':Int) (hc: -1125899906842624<=c/\c<=1125899906842624) (h0:c≠0) (he: -400<=e/\e<=400) (he': -400<=e'/\e'<=400):Fn Tryz.prog 23 [plA false [(e,c)],plA false [(e',1)]] (plA false [(e+e',c)]):=by
 have one: ∀(x y:Int),y≠0->yag [(x,y)] (cfL [(x,y)]):=fun x y hy=>⟨⟨by simp,fun t ht=>by simp only [List.mem_singleton] at ht;subst ht;exact hy⟩,fun _=>rfl⟩
 have sup: ∀(x y z:Int),cfL [(x,y)] z≠0->z=x:=fun x y z h=>by
  simp only [cfL,Int.add_zero] at h
  by_cases he:x=z
  ·exact he.symm
  ·rw [if_neg he] at h;exact absurd rfl h
 have bnd: ∀(x y z:Int),-1125899906842624<=y/\y<=1125899906842624-> -1125899906842624<=cfL [(x,y)] z/\cfL [(x,y)] z<=1125899906842624:=fun x y z h=>by
  simp only [cfL,Int.add_zero];split<;>omega
 obtain ⟨r,h1,h2⟩:=y35 (one e c h0) (one e' 1 (by decide)) (h:=cfL [(e+e',c)]) (fun z hz=>by have:=sup _ _ _ hz;omega) (fun z hz=>by have:=sup _ _ _ hz;omega) (fun z=>bnd _ _ _ hc) (fun z=>bnd _ _ _ (by decide)) (fun z=>by
  simp only [cvL,cfL,Int.add_zero]
  by_cases h:e'=z-e
  ·rw [if_pos h,if_pos (by omega),Int.mul_one]
  ·rw [if_neg h,if_neg (by omega),Int.mul_zero]) (fun z=>bnd _ _ _ hc) (by simp) (by simp) (by simp [yah,lowE];try omega)
 obtain rfl:r=[(e+e',c)]:=AscN.ext h1.asc (one _ _ h0).asc fun z=>h1.cf z
 exact h2
theorem yxx (n:Int) (hn: -1000<=n/\n<=1000):Fn Tryz.prog 50 [I 1,I n] (I 1):=by
 refine Fn.intro [.tmp 4] Tryz.func50 rfl rfl (by decide) (by simp [Tryz.ntmps50]) ?_;rw [Tryz.ntmps50]
 by_cases h:n.tmod 2=0
 ·have b:(n.tmod 2==0)=true:=by rw [beq_iff_eq];exact h
  repeat' (first|omega|(try apply yaa);simp only [go_sem,b]|refine cgL ?_|refine cgD ?_|apply yab<;>(intro h_;(try simp only [h_]);revert h_)|apply And.intro|with_reducible intro h_|trivial)
 ·have b:(n.tmod 2==0)=false:=by rw [beq_eq_false_iff_ne];exact h
  repeat' (first|omega|(try apply yaa);simp only [go_sem,b]|refine cgL ?_|refine cgD ?_|apply yab<;>(intro h_;(try simp only [h_]);revert h_)|apply And.intro|with_reducible intro h_|trivial)
theorem ys8 (e:Int):AscN [(e,(1:Int))]:=⟨by simp,fun t ht=>by simp only [List.mem_singleton] at ht;subst ht;exact Int.one_ne_zero⟩
theorem yqg (e:Int):Fn Tryz.prog 20 [plA false [(e,1)]] (.bool true):=by
 have hL:=yjn [(e,1)] (by simp)
 have hH:=yky [(e,1)] (by simp) (by simp)
 have hC:=ys7 [(e,1)] e (ys8 e) (by simp)
 have c1:cfL [(e,(1:Int))] e=1:=by simp [cfL]
 rw [c1] at hC
 rw [show ([(e,(1:Int))].getD 0 (0,0)).1=e from rfl] at hL
 rw [show ([(e,(1:Int))].getD ([(e,(1:Int))].length-1) (0,0)).1=e from rfl] at hH
 refine Fn.intro [.tmp 2] Tryz.func20 rfl rfl (by decide) (by simp [Tryz.ntmps20]) ?_;rw [Tryz.ntmps20]
 repeat' (first|omega|(first|apply yaa|refine tbN y56 ?_|refine tbT y57 ?_|skip);simp only [go_sem,yac]|refine cgL ?_|refine cgD ?_|apply yab<;>(intro h_;(try simp only [h_]);revert h_)|apply And.intro|with_reducible intro h_|trivial)
end Go.Proofs.YtfgbnalnbdhimaaGreatDoor
namespace Go.Proofs.YtfgbnalnbdhimaaGreatDoor
open Go Go.RowKit
set_option maxRecDepth 100000
set_option maxHeartbeats 8000000
set_option linter.unusedVariables false
set_option linter.unusedSimpArgs false
def y58:TbA:=[(11,[[67,68,69],[66],[66],[66],[],[],[73,74,75],[72],[72],[72],[],[],[80,84,85,86,87,88,89],[80,84,85,86,87,88,89],[78,79,84,85,86,87,88,89],[84,85,86,87,88,89],[84,85,86,87,88,89],[84,85,86,87,88,89],[78,79,80,81,82,83,86],[78,79,80,81,82,83,86],[78,79,80,81,82,83,84,85],[78,79,80,81,82,83],[78,79,80,81,82,83],[78,79,80,81,82,83],[],[],[],[]],[[],[0],[0],[0],[],[],[],[6],[6],[6],[],[],[],[],[12,13],[],[],[],[12,13,14,15,16,17],[12,13,14,15,16,17],[12,13,14,15,16,17,18,19],[12,13,14,15,16,17],[12,13,14,15,16,17],[12,13,14,15,16,17],[],[],[],[]]),(12,[[94,95,96,97,98,99,100,101,102,103,104,105],[93,96,100,101,102,103,104,105],[93,96,100,101,102,103,104,105],[93,94,95,100,101,102,103,104,105],[93,100,101,102,103,104,105],[93,100,101,102,103,104,105],[93,100,101,102,103,104,105],[93,94,95,96,97,98,99,102],[93,94,95,96,97,98,99,102],[93,94,95,96,97,98,99,100,101],[93,94,95,96,97,98,99],[93,94,95,96,97,98,99],[93,94,95,96,97,98,99],[]],[[],[0],[0],[0,1,2],[0],[0],[0],[0,1,2,3,4,5,6],[0,1,2,3,4,5,6],[0,1,2,3,4,5,6,7,8],[0,1,2,3,4,5,6],[0,1,2,3,4,5,6],[0,1,2,3,4,5,6],[]]),(14,[[111,112,113],[110],[110],[110],[],[],[118,122,123,124,125,126,127],[118,122,123,124,125,126,127],[116,117,122,123,124,125,126,127],[122,123,124,125,126,127],[122,123,124,125,126,127],[122,123,124,125,126,127],[116,117,118,119,120,121,124],[116,117,118,119,120,121,124],[116,117,118,119,120,121,122,123],[116,117,118,119,120,121],[116,117,118,119,120,121],[116,117,118,119,120,121],[],[],[]],[[],[0],[0],[0],[],[],[],[],[6,7],[],[],[],[6,7,8,9,10,11],[6,7,8,9,10,11],[6,7,8,9,10,11,12,13],[6,7,8,9,10,11],[6,7,8,9,10,11],[6,7,8,9,10,11],[],[],[]]),(15,[[131,132,133,134,135,136,137,138,139,140,141,142],[130,133,137,138,139,140,141,142],[130,133,137,138,139,140,141,142],[130,131,132,137,138,139,140,141,142],[130,137,138,139,140,141,142],[130,137,138,139,140,141,142],[130,137,138,139,140,141,142],[130,131,132,133,134,135,136,139],[130,131,132,133,134,135,136,139],[130,131,132,133,134,135,136,137,138],[130,131,132,133,134,135,136],[130,131,132,133,134,135,136],[130,131,132,133,134,135,136],[]],[[],[0],[0],[0,1,2],[0],[0],[0],[0,1,2,3,4,5,6],[0,1,2,3,4,5,6],[0,1,2,3,4,5,6,7,8],[0,1,2,3,4,5,6],[0,1,2,3,4,5,6],[0,1,2,3,4,5,6],[]]),(8,[[42,43,44,45,46,47,48,49,50,51,52,53,54,55,56,57,58,59],[41,44,48,49,50,51,52,53,54,55,56,57,58,59],[41,44,48,49,50,51,52,53,54,55,56,57,58,59],[41,42,43,48,49,50,51,52,53,54,55,56,57,58,59],[41,48,49,50,51,52,53,54,55,56,57,58,59],[41,48,49,50,51,52,53,54,55,56,57,58,59],[41,48,49,50,51,52,53,54,55,56,57,58,59],[41,42,43,44,45,46,47,50,54,55,56,57,58,59],[41,42,43,44,45,46,47,50,54,55,56,57,58,59],[41,42,43,44,45,46,47,48,49,54,55,56,57,58,59],[41,42,43,44,45,46,47,54,55,56,57,58,59],[41,42,43,44,45,46,47,54,55,56,57,58,59],[41,42,43,44,45,46,47,54,55,56,57,58,59],[41,42,43,44,45,46,47,48,49,50,51,52,53,56],[41,42,43,44,45,46,47,48,49,50,51,52,53,56],[41,42,43,44,45,46,47,48,49,50,51,52,53,54,55],[41,42,43,44,45,46,47,48,49,50,51,52,53],[41,42,43,44,45,46,47,48,49,50,51,52,53],[41,42,43,44,45,46,47,48,49,50,51,52,53],[]],[[],[0],[0],[0,1,2],[0],[0],[0],[0,1,2,3,4,5,6],[0,1,2,3,4,5,6],[0,1,2,3,4,5,6,7,8],[0,1,2,3,4,5,6],[0,1,2,3,4,5,6],[0,1,2,3,4,5,6],[0,1,2,3,4,5,6,7,8,9,10,11,12],[0,1,2,3,4,5,6,7,8,9,10,11,12],[0,1,2,3,4,5,6,7,8,9,10,11,12,13,14],[0,1,2,3,4,5,6,7,8,9,10,11,12],[0,1,2,3,4,5,6,7,8,9,10,11,12],[0,1,2,3,4,5,6,7,8,9,10,11,12],[]])]
def y59:TbA:=[(12,[[94,95,96,97,98,99,100,101,102,103,104,105],[93,96,100,101,102,103,104,105],[93,96,100,101,102,103,104,105],[93,94,95,100,101,102,103,104,105],[93,100,101,102,103,104,105],[93,100,101,102,103,104,105],[93,100,101,102,103,104,105],[93,94,95,96,97,98,99,102],[93,94,95,96,97,98,99,102],[93,94,95,96,97,98,99,100,101],[93,94,95,96,97,98,99],[93,94,95,96,97,98,99],[93,94,95,96,97,98,99],[]],[[],[0],[0],[0,1,2],[0],[0],[0],[0,1,2,3,4,5,6],[0,1,2,3,4,5,6],[0,1,2,3,4,5,6,7,8],[0,1,2,3,4,5,6],[0,1,2,3,4,5,6],[0,1,2,3,4,5,6],[]]),(15,[[131,132,133,134,135,136,137,138,139,140,141,142],[130,133,137,138,139,140,141,142],[130,133,137,138,139,140,141,142],[130,131,132,137,138,139,140,141,142],[130,137,138,139,140,141,142],[130,137,138,139,140,141,142],[130,137,138,139,140,141,142],[130,131,132,133,134,135,136,139],[130,131,132,133,134,135,136,139],[130,131,132,133,134,135,136,137,138],[130,131,132,133,134,135,136],[130,131,132,133,134,135,136],[130,131,132,133,134,135,136],[]],[[],[0],[0],[0,1,2],[0],[0],[0],[0,1,2,3,4,5,6],[0,1,2,3,4,5,6],[0,1,2,3,4,5,6,7,8],[0,1,2,3,4,5,6],[0,1,2,3,4,5,6],[0,1,2,3,4,5,6],[]]),(8,[[42,43,44,45,46,47,48,49,50,51,52,53,54,55,56,57,58,59],[41,44,48,49,50,51,52,53,54,55,56,57,58,59],[41,44,48,49,50,51,52,53,54,55,56,57,58,59],[41,42,43,48,49,50,51,52,53,54,55,56,57,58,59],[41,48,49,50,51,52,53,54,55,56,57,58,59],[41,48,49,50,51,52,53,54,55,56,57,58,59],[41,48,49,50,51,52,53,54,55,56,57,58,59],[41,42,43,44,45,46,47,50,54,55,56,57,58,59],[41,42,43,44,45,46,47,50,54,55,56,57,58,59],[41,42,43,44,45,46,47,48,49,54,55,56,57,58,59],[41,42,43,44,45,46,47,54,55,56,57,58,59],[41,42,43,44,45,46,47,54,55,56,57,58,59],[41,42,43,44,45,46,47,54,55,56,57,58,59],[41,42,43,44,45,46,47,48,49,50,51,52,53,56],[41,42,43,44,45,46,47,48,49,50,51,52,53,56],[41,42,43,44,45,46,47,48,49,50,51,52,53,54,55],[41,42,43,44,45,46,47,48,49,50,51,52,53],[41,42,43,44,45,46,47,48,49,50,51,52,53],[41,42,43,44,45,46,47,48,49,50,51,52,53],[]],[[],[0],[0],[0,1,2],[0],[0],[0],[0,1,2,3,4,5,6],[0,1,2,3,4,5,6],[0,1,2,3,4,5,6,7,8],[0,1,2,3,4,5,6],[0,1,2,3,4,5,6],[0,1,2,3,4,5,6],[0,1,2,3,4,5,6,7,8,9,10,11,12],[0,1,2,3,4,5,6,7,8,9,10,11,12],[0,1,2,3,4,5,6,7,8,9,10,11,12,13,14],[0,1,2,3,4,5,6,7,8,9,10,11,12],[0,1,2,3,4,5,6,7,8,9,10,11,12],[0,1,2,3,4,5,6,7,8,9,10,11,12],[]])]
abbrev lpB (x:AV):AObj:= .cells 32 (.lst [.bool false,x])
theorem y39 {N:Int} {p q:List (Int×Int)} (hp:OkT N p) (hq:OkT N q) (hN:N<=1000):Fn Tryz.prog 22 [plA false p,plA false q] (plO (addO p q)):=by
 have l1:=hp.len hN
 have l2:=hq.len hN
 have hc:=ylz p q 52 addF hp.fit hq.fit (by omega) (by omega) (fun a b h1 h2 h3 h4=>y33 a b h1 h2 h3 h4)
 have e:(if ycj (mrg addF p q)=true then plA false (nz (mrg addF p q)) else plA true [])=plO (addO p q):=by unfold addO;split<;>rfl
 rw [e] at hc
 cases ho:addO p q with
 |none=>
  rw [ho,show plO none=plA true [] from rfl] at hc
  rw [show plO none=plA true [] from rfl]
  refine Fn.intro [.cell 4 32] Tryz.func22 rfl rfl (by decide) (by simp [Tryz.ntmps22]) ?_;rw [Tryz.ntmps22]
  repeat' (first|omega|(try apply yaa);simp only [go_sem]|apply yab<;>(intro h_;(try simp only [h_]);revert h_)|apply And.intro|with_reducible intro h_|trivial)
  refine ⟨yae.fn rfl hc ?_⟩
  repeat' (first|omega|(try apply yaa);simp only [go_sem]|apply yab<;>(intro h_;(try simp only [h_]);revert h_)|apply And.intro|with_reducible intro h_|trivial)
 |some r=>
  rw [ho,show plO (some r)=plA false r from rfl] at hc
  rw [show plO (some r)=plA false r from rfl]
  refine Fn.intro [.cell 4 32] Tryz.func22 rfl rfl (by decide) (by simp [Tryz.ntmps22]) ?_;rw [Tryz.ntmps22]
  repeat' (first|omega|(try apply yaa);simp only [go_sem]|apply yab<;>(intro h_;(try simp only [h_]);revert h_)|apply And.intro|with_reducible intro h_|trivial)
  refine ⟨yae.fn rfl hc ?_⟩
  repeat' (first|omega|(try apply yaa);simp only [go_sem]|apply yab<;>(intro h_;(try simp only [h_]);revert h_)|apply And.intro|with_reducible intro h_|trivial)
theorem y07 (p:List (Int×Int)) (g:Nat):Fn Tryz.prog 26 [plA false p,plA true [], .fn g []] (plA true []):=by
 refine Fn.introL [.cell 6 32] Tryz.func26 rfl rfl (by decide) (by simp [Tryz.ntmps26]) ?_;rw [Tryz.ntmps26]
 repeat' (first|omega|(first|apply yaa|refine tbN y58 ?_|refine tbL y59 ?_|skip);simp only [go_sem,yac]|refine cgL ?_|refine cgD ?_|apply yab<;>(intro h_;(try simp only [h_]);revert h_)|apply And.intro|with_reducible intro h_|trivial)
 all_goals first|exact LeA.refl _|exact LeA.aggL (.cons (LeA.refl _) (.cons (LeA.nils (by omega) rfl) .nil))
theorem y4a (p:List (Int×Int)):Fn Tryz.prog 22 [plA false p,plA true []] (plA true []):=by
 have hc:=y07 p 52
 refine Fn.intro [.cell 4 32] Tryz.func22 rfl rfl (by decide) (by simp [Tryz.ntmps22]) ?_;rw [Tryz.ntmps22]
 repeat' (first|omega|(try apply yaa);simp only [go_sem]|apply yab<;>(intro h_;(try simp only [h_]);revert h_)|apply And.intro|with_reducible intro h_|trivial)
 refine ⟨yae.fn rfl hc ?_⟩
 repeat' (first|omega|(try apply yaa);simp only [go_sem]|apply yab<;>(intro h_;(try simp only [h_]);revert h_)|apply And.intro|with_reducible intro h_|trivial)
theorem ys9 {N:Int} {p:List (Int×Int)} {m:Option (List (Int×Int))} (hp:OkT N p) (hm: ∀q,m=some q->OkT N q) (hN:N<=1000):Fn Tryz.prog 22 [plA false p,plO m] (plO (m.bind (addO p))):=by
 cases m with
 |none=>exact y4a p
 |some q=>exact y39 hp (hm q rfl) hN
theorem y08:Fn Tryz.prog 19 [plA true []] (.bool true):=by
 refine Fn.intro [.tmp 2] Tryz.func19 rfl rfl (by decide) (by simp [Tryz.ntmps19]) ?_;rw [Tryz.ntmps19]
 repeat' (first|omega|(try apply yaa);simp only [go_sem]|apply yab<;>(intro h_;(try simp only [h_]);revert h_)|apply And.intro|with_reducible intro h_|trivial)
theorem yqh (m:Option (List (Int×Int))):Fn Tryz.prog 19 [plO m] (.bool m.isNone):=by
 cases m with
 |none=>exact y08
 |some q=>exact ydl q
end Go.Proofs.YtfgbnalnbdhimaaGreatDoor
set_option linter.unusedSimpArgs false
set_option linter.unusedVariables false
namespace Go.Proofs.YtfgbnalnbdhimaaGreatDoor
open Go Go.RowKit
section
variable {P:Program} {α β:Type}
def ybq (P:Program) (s:Sem α):Prop:=(∃r,∀w,s.run P w= .ok r w)\/ ∀w r w1,s.run P w≠ .ok r w1
theorem ybq.pure (x:α):ybq P (Pure.pure x:Sem α):= .inl ⟨x,fun w=>by simp⟩
theorem ybq.stuck (x:String):ybq P (stuck x:Sem α):= .inr fun w r w1 h=>by simp [Go.stuck] at h
theorem ybq.bind {s:Sem α} {f:α->Sem β} (h:ybq P s) (hf: ∀x,ybq P (f x)):ybq P (s>>=f):=by
 rcases h with ⟨r,hr⟩|hn
 ·rcases hf r with ⟨q,hq⟩|hm
  ·exact .inl ⟨q,fun w=>by rw [Sem.run_bind,hr w,Result.andThen_ok,hq w]⟩
  ·exact .inr fun w q w1 h=>by rw [Sem.run_bind,hr w,Result.andThen_ok] at h;exact hm _ _ _ h
 ·refine .inr fun w q w1 h=>?_
  rw [Sem.run_bind] at h
  cases hs:s.run P w with
  |ok r w2=>exact hn _ _ _ hs
  |halt x w2=>rw [hs] at h;simp at h
theorem ybq.size (t:Nat):ybq P (sizeOf t):=by
 cases h:P.info? t with
 |some i=>exact .inl ⟨i.size,fun w=>by simp [sizeOf,typeInfo,h]⟩
 |none=>exact .inr fun w r w1 g=>by simp [sizeOf,typeInfo,h,Go.stuck] at g
theorem ybq.bound (x:Value) (y:Nat) (c:BoundsCode):ybq P (Instr.sliceBound x y c):=by
 unfold Instr.sliceBound
 refine .bind ?_ fun p=>?_
 ·cases x
  case int k n=>exact .pure _
  case pointer a=>cases a<;>first|exact .stuck _|exact .inr fun w r w1 g=>by simp [asIntOf,unsupported] at g
  all_goals exact .stuck _
 ·obtain ⟨k,i⟩:=p
  simp only
  split
  ·exact .pure _
  ·exact .inr fun w r w1 g=>by
    simp [boundsPanic,runtimePanic,goPanic] at g
    split at g<;>(try split at g)<;>cases g
theorem ybq.bounds (b:Bool) (len cap:Nat) (lo hi mx:Option Value):ybq P (Instr.sliceBounds b len cap lo hi mx):=by
 unfold Instr.sliceBounds
 cases lo<;>cases hi<;>cases mx<;>dsimp only
 all_goals repeat (first|exact .pure _|exact .bound _ _ _|exact .stuck _|refine .bind ?_ fun _=>?_)
theorem ybq.of_run {s s':Sem α} (h: ∀w,s.run P w=s'.run P w) (hs:ybq P s'):ybq P s:=by
 rcases hs with ⟨r,hr⟩|hn
 ·exact .inl ⟨r,fun w=>by rw [h,hr]⟩
 ·exact .inr fun w r w1 g=>hn w r w1 (by rw [←h];exact g)
theorem ybq.slice {t:Nat} {e:Nat} (h:tk P t= .slice e) (x:Value) (lo hi mx:Option Value):ybq P (Instr.sliceAt t x lo hi mx):=by
 refine .of_run (fun w=>ycv (yax h) (by simp) x lo hi mx) ?_
 cases x
 case slice a len cap=>
  refine .of_run (s':=do
   let (l,h,m)←Instr.sliceBounds true len cap lo hi mx
   let size←sizeOf e
   Pure.pure (Value.slice (if m=l then a else a.map (·.add (l*size))) (h-l) (m-l))) (fun w=>?_) (.bind (.bounds _ _ _ _ _ _) fun _=> .bind (.size _) fun _=> .pure _)
  simp [Instr.slice,run_underlying (yax h)]
 all_goals exact .inr fun w r w1 g=>by simp [Instr.slice,run_underlying (yax h),Go.stuck] at g
def yl3 (P:Program):Op->Bool
 | .move _| .assign _=>true
 | .slice t _ _ _ none=>match tk P t with
   | .slice _=>true
   |_=>false
 |_=>false
theorem yrn {o:Oper} (h:yl3 P o.op=true) (ev:Operand->Value):ybq P (execOp ev o):=by
 cases ho:o.op with
 |move x=>simp only [execOp,ho];exact .pure _
 |assign x=>simp only [execOp,ho];exact .pure _
 |slice t x lo hi mx=>
  rw [ho] at h
  cases mx with
  |some _=>cases h
  |none=>
   simp only [yl3] at h
   split at h
   ·rename_i e hk
    simp only [execOp,ho]
    exact .bind (.slice hk _ _ _ _) fun _=> .pure _
   ·cases h
 |_=>rw [ho] at h;cases h
theorem yxy {o:Oper} (h:yl3 P o.op=true) {N:Nat} {fr:Fr} {H:Hp} {K:Fr->Hp->Prop} (hq:awO P N o fr H K): ∃p r,quF P H (evA fr) o.op=some (p,r)/\p/\dok o.dst N=true/\K (fput fr o.dst r) H:=by
 obtain ⟨_,hq⟩:=hq
 split at hq
 ·rename_i p r e;exact ⟨p,r,e,hq⟩
 ·rename_i e
  exfalso
  cases ho:o.op with
  |move x=>rw [ho] at e;simp [quF,opF] at e
  |assign x=>rw [ho] at e;simp [quF,opF] at e
  |slice t x lo hi mx=>
   simp only [ho,alF,awX,spOp] at hq
   exact absurd hq.1 (by decide)
  |_=>rw [ho] at h;cases h
end

def y7v (Q:Act->World->Prop):Exit->Act->World->Prop
 | .normal,a,w=>Q a w
 |_,_,_=>False
end Go.Proofs.YtfgbnalnbdhimaaGreatDoor
set_option linter.unusedSimpArgs false
set_option linter.unusedVariables false
namespace Go.Proofs.YtfgbnalnbdhimaaGreatDoor
open Go Go.RowKit
set_option maxRecDepth 100000
set_option maxHeartbeats 8000000
theorem ya2.cut {P:Program} {N:Nat} {ops:Array Oper} {id:Nat} {fr:Fr} {H:Hp} {y:Code} {Q:Exit->Fr->Hp->Prop} (fr1:Fr) (H1:Hp) (h1:ya2 P N id ops fr H fun e fr' H'=>e= .normal/\Wk fr' H' fr1 H1) (h2:WpA P N y fr1 H1 Q):ya2 P N id ops fr H (yfa Q fun fr' H'=>WpA P N y fr' H' Q):=
 ⟨fun B w0 Mx w ρ a hs=>wp_mono (h1.out B w0 Mx w ρ a hs) (by
  rintro e a' w' ⟨ρ',fr',H',⟨rfl,hw⟩,hs'⟩
  obtain ⟨ρ2,hs2⟩:=hw _ _ _ _ _ _ _ hs'
  exact ⟨ρ2,fr1,H1,h2,hs2⟩)⟩
def yhv (P:Program) (N:Nat) (c:Code) (Q:Exit->Fr->Hp->Prop) (Inv:Nat->Fr->Hp->Prop):Prop:= ∀fr H,(∃n fr0 H0,Wk fr H fr0 H0/\Inv n fr0 H0)->yai P N c fr H Q
theorem yhv.of {P:Program} {N:Nat} {c:Code} {Q:Exit->Fr->Hp->Prop} {Inv:Nat->Fr->Hp->Prop} (hr: ∀n fr H,Inv n fr H->WpA P N c fr H (yfa Q fun fr' H'=> ∃m fr1 H1,m<n/\Wk fr' H' fr1 H1/\Inv m fr1 H1)):yhv P N c Q Inv:=fun fr H h0=>yai.intro Inv h0 hr
theorem yhv.share {P:Program} {N:Nat} {c:Code} {Q:Exit->Fr->Hp->Prop} (Inv:Nat->Fr->Hp->Prop) {G:Prop} (h1:yhv P N c Q Inv->G) (h2: ∀n fr H,Inv n fr H->WpA P N c fr H (yfa Q fun fr' H'=> ∃m fr1 H1,m<n/\Wk fr' H' fr1 H1/\Inv m fr1 H1)):G:=h1 (yhv.of h2)
end Go.Proofs.YtfgbnalnbdhimaaGreatDoor
namespace Go.Proofs.YtfgbnalnbdhimaaGreatDoor
open Go Go.RowKit
set_option maxRecDepth 100000
set_option maxHeartbeats 8000000
set_option linter.unusedVariables false
set_option linter.unusedSimpArgs false
def ybm:TbA:=[(8,[[46,47,48,49],[45],[45],[45],[45],[],[52],[51],[],[]],[[],[0],[0],[0],[0],[],[],[6],[],[]]),(9,[[55,58,60],[55,58,60],[53,54,58,60],[58,60],[58,59,60,61,62],[53,54,55,56,57,60],[57,60],[53,54,55,56,57,58,59],[57],[57],[],[]],[[],[],[0,1],[],[],[0,1,2,3,4],[4],[0,1,2,3,4,5,6],[4],[4],[],[]]),(12,[[69],[69],[67,68],[],[],[],[],[]],[[],[],[0,1],[],[],[],[],[]]),(16,[[82,83,84,85,86,87,88,89],[81,84,85,87,88,89],[81,84,85,87,88,89],[81,82,83,87,88],[81,82,83,87,88],[81,87,88,89],[81,82,83,84,85,86],[81,82,83,84,85,86],[81,82,83,86],[],[]],[[],[0],[0],[0,1,2],[0,1,2],[0],[0,1,2,3,4,5],[0,1,2,3,4,5],[0,1,2,5],[],[]]),(23,[[104,107,108,109,110,111],[103,107,108,109,110,111],[107,108,109,110,111],[107,108,109,110,111],[103,104,105,106],[103,104,105,106],[103,104,105,106],[103,104,105,106],[103,104,105,106],[],[],[114],[113,12],[114],[]],[[],[0],[],[],[0,1,2,3],[0,1,2,3],[0,1,2,3],[0,1,2,3],[0,1,2,3],[],[],[],[11],[12],[]]),(24,[[117,120],[117,120],[115,116,120],[120],[120],[115,116,117,118,119],[],[]],[[],[],[0,1],[],[],[0,1,2,3,4],[],[]]),(31,[[146,147,149,150],[145,149,150],[145,149,150],[149,150],[145,146,147,148],[145,146,147,148],[],[]],[[],[0],[0],[],[0,1,2,3],[0,1,2,3],[],[]]),(32,[[153,154,155,156,157,158,159,160,161,162,163],[152,154,155,156,157,158,159,160,161,162,163],[152,153,155,158,159,160,161,162],[152,153,154,158,159,160,161,162],[152,153,158,159,160,161,162],[152,153,158,159,160,161,162],[152,153,154,155,156,157,160,161],[152,153,154,155,156,157,160,161],[152,153,154,155,156,157,158,159],[152,153,154,155,156,157,158,159],[152,153,154,155,156,157],[152,153],[],[]],[[],[0],[0,1],[0,1,2],[0,1],[0,1],[0,1,2,3,4,5],[0,1,2,3,4,5],[0,1,2,3,4,5,6,7],[0,1,2,3,4,5,6,7],[0,1,2,3,4,5],[0,1],[],[]])]
def ybn:TbT:=[(8, .node [(0,trP [1,2,3,4,5] (.node [(6,trD [7,8,9]),(7,trD [6,8,9])])),(1, .node [(0,trP [2,3,4,5] (.node [(6,trD [7,8,9]),(7,trD [6,8,9])])),(2, .node [(0,trP [3,4,5] (.node [(6,trD [7,8,9]),(7,trD [6,8,9])])),(3, .node [(0,trP [4,5] (.node [(6,trD [7,8,9]),(7,trD [6,8,9])])),(4,trP [0,5] (.node [(6,trD [7,8,9]),(7,trD [6,8,9])]))])])])]),(12, .node [(0, .node [(1,trD [2,3,4,5,6,7]),(2,trD [1,3,4,5,6,7])]),(2,trD [0,1,3,4,5,6,7])]),(24, .node [(0, .node [(1, .node [(2, .node [(3, .node [(4,trD [5,6,7]),(5,trD [4,6,7])]),(5,trD [3,4,6,7])]),(5,trD [2,3,4,6,7])]),(2, .node [(1, .node [(3, .node [(4,trD [5,6,7]),(5,trD [4,6,7])]),(5,trD [3,4,6,7])]),(5,trD [1,3,4,6,7])]),(5, .node [(1,trD [2,3,4,6,7]),(2,trD [1,3,4,6,7])])]),(2, .node [(0, .node [(1, .node [(3, .node [(4,trD [5,6,7]),(5,trD [4,6,7])]),(5,trD [3,4,6,7])]),(5,trD [1,3,4,6,7])]),(5,trD [0,1,3,4,6,7])]),(5, .node [(0, .node [(1,trD [2,3,4,6,7]),(2,trD [1,3,4,6,7])]),(2,trD [0,1,3,4,6,7])])])]
theorem yxz (x:Int) (h0: -4611686018427387904<=x) (h1:x<=4611686018427387904):Fn Tryz.prog 59 [I x] (wdA x):=by
 refine Fn.introL [.cell 2 97] Tryz.func59 rfl rfl (by decide) (by simp [Tryz.ntmps59]) ?_;rw [Tryz.ntmps59]
 have e1:IntKind.u64.wrap (x/2^63)=x/18446744073709551616 % 18446744073709551616:=by rw [IntKind.wrap_u64];omega
 have e3:IntKind.u64.wrap (x/9223372036854775808)=x/18446744073709551616 % 18446744073709551616:=by rw [IntKind.wrap_u64];omega
 have e2:IntKind.u64.wrap x=x % 18446744073709551616:=by rw [IntKind.wrap_u64]
 repeat' (first|omega|(try apply yaa);simp only [go_sem,e1,e2,e3]|apply yab<;>(intro h_;(try simp only [h_]);revert h_)|apply And.intro|with_reducible intro h_|trivial)
 all_goals exact LeA.refl _
theorem yqi {q:List (Int×Int)} {low lq:Int} {zs:List Int} {i:Nat} (h:dvS q low lq zs i=none): ∀k,dvS q low lq zs (i+k)=none
 |0=>h
 |k+1=>by rw [←Nat.add_assoc];simp only [dvS,yqi h k]
theorem y4b {T q:List (Int×Int)} (hT:OkT 500 T) (hq:OkT 500 q) (hq2:2<=q.length) (hq1:(q.getD 0 (0,0)).2=1):
  Fn Tryz.prog 24 [plA false T,plA false q] (.tup [plA false (divO T q).1,I (divO T q).2]):=by
 have hc:=ya9 T
 have hcq:=ya9 q
 have lT:=hT.len (by decide)
 have lQ:=hq.len (by decide)
 have c1:((q.length:Int)==0)=false:=by rw [beq_eq_false_iff_ne];omega
 have c2:((q.length:Int)==1)=false:=by rw [beq_eq_false_iff_ne];omega
 by_cases h0:T.length=0
 ·have ed:divO T q=([],0):=by unfold divO;rw [if_pos h0]
  rw [ed]
  obtain rfl:T=[]:=List.eq_nil_of_length_eq_zero h0
  refine Fn.introL [.cell 4 32, .tmp 5] Tryz.func24 rfl rfl (by decide) (by simp [Tryz.ntmps24]) ?_;rw [Tryz.ntmps24]
  repeat' (first|omega|(first|apply yaa|refine tbN ybm ?_|refine tbT ybn ?_|skip);simp only [go_sem,c1,c2,hc,hcq]|refine cgL ?_|refine cgD ?_|apply yab<;>(intro h_;(try simp only [h_]);revert h_)|apply And.intro|with_reducible intro h_|trivial)
  all_goals exact LeA.tupL (.cons (LeA.aggL (.cons (LeA.refl _) (.cons (LeA.nils (by omega) rfl) .nil))) (.cons (LeA.refl _) .nil))
 have c0:((T.length:Int)==0)=false:=by rw [beq_eq_false_iff_ne];omega
 have b1:=yd2 hT (by omega)
 have b2:=yd2 hq (by omega)
 have L1:=yl1 T (by omega)
 have H1:=yjm T (by omega) (by omega)
 have L2:=yl1 q (by omega)
 have H2:=yjm q (by omega) (by omega)
 have hTe: ∀i,i<T.length->lowE T<=(T.getD i (0,0)).1/\(T.getD i (0,0)).1<=yah T:=fun i hi=>ydh hT.asc (ya6 hi)
 have hqe: ∀i,i<q.length->lowE q<=(q.getD i (0,0)).1/\(q.getD i (0,0)).1<=yah q:=fun i hi=>ydh hq.asc (ya6 hi)
 have ed:divO T q=if yah T-lowE T-(yah q-lowE q)<0 then ([],10) else dvE q (lowE T) (lowE q) (rs0 (lowE T) T T.length (List.replicate (yah T-lowE T+1).toNat 0)) (yah T-lowE T-(yah q-lowE q)+1).toNat:=by unfold divO;rw [if_neg h0]
 rw [ed]
 clear ed
 rw [show (T.getD 0 (0,0)).1=lowE T from rfl] at L1
 rw [show (T.getD (T.length-1) (0,0)).1=yah T from rfl] at H1
 rw [show (q.getD 0 (0,0)).1=lowE q from rfl] at L2
 rw [show (q.getD (q.length-1) (0,0)).1=yah q from rfl] at H2
 generalize lowE T=lo at*
 generalize yah T=hi at*
 generalize lowE q=lq at*
 generalize yah q=hiq at*
 by_cases hs:hi-lo-(hiq-lq)<0
 ·have bs:decide (hi-lo-(hiq-lq)<0)=true:=by rw [decide_eq_true_iff];exact hs
  rw [if_pos hs]
  refine Fn.introL [.cell 4 32, .tmp 5] Tryz.func24 rfl rfl (by decide) (by simp [Tryz.ntmps24]) ?_;rw [Tryz.ntmps24]
  repeat' (first|omega|(first|apply yaa|refine tbN ybm ?_|refine tbT ybn ?_|skip);simp only [go_sem,c0,c1,c2,bs,hc,hcq]|refine cgL ?_|refine cgD ?_|apply yab<;>(intro h_;(try simp only [h_]);revert h_)|apply And.intro|with_reducible intro h_|trivial)
  all_goals exact LeA.tupL (.cons (LeA.aggL (.cons (LeA.refl _) (.cons (LeA.nils (by omega) rfl) .nil))) (.cons (LeA.refl _) .nil))
 have bs:decide (hi-lo-(hiq-lq)<0)=false:=by rw [decide_eq_false_iff_not];exact hs
 rw [if_neg hs]
 obtain ⟨W,hW⟩: ∃W,(hi-lo+1).toNat=W:=⟨_,rfl⟩
 obtain ⟨n,hn⟩: ∃n,(hi-lo-(hiq-lq)+1).toNat=n:=⟨_,rfl⟩
 obtain ⟨st,hst⟩: ∃st,hi-lo-(hiq-lq)=st:=⟨_,rfl⟩
 rw [hW,hn]
 refine Fn.introL [.cell 4 32, .tmp 5] Tryz.func24 rfl rfl (by decide) (by simp [Tryz.ntmps24]) ?_;rw [Tryz.ntmps24]
 repeat' (first|omega|(first|apply yaa|refine tbN ybm ?_|refine tbT ybn ?_|skip);simp only [go_sem,c0,c1,c2,bs,hc,hcq,yqb,hW,hst]|refine cgL ?_|refine cgD ?_|apply yab<;>(intro h_;(try simp only [h_]);revert h_)|apply And.intro|with_reducible intro h_|trivial)
 refine yai.intro (fun m fr H=> ∃i:Nat,i<=T.length/\m=T.length-i/\fr=[(77,I i),(76,I T.length),(75,tmA T),(7, .sl 2 9 0 W),(6,I st),(4, .ptr 2 0),(3, .ptr 1 0),(2, .ptr 0 0)]/\
  H=[(9, .cells 97 (.lst (wdC (rs0 lo T i (List.replicate W 0))))),(2,lpB .nils),(1,lpB (tmA q)),(0,lpB (tmA T))]) ?_ ?_
 ·refine ⟨_,_,_,Wk.sub ?_ ?_,0,by omega,rfl,rfl,rfl⟩
  ·simp only [go_sem,yac]
  ·simp only [go_sem,yac,rs0]
 rintro m fr H ⟨i,hil,rfl,rfl,rfl⟩
 have hzl:=ysk lo T i (List.replicate W 0)
 rw [List.length_replicate] at hzl
 by_cases hi':i<T.length
 ·have t0:=ybr T i hi'
  have t1:=yb5 T i hi'
  have hx:=hTe i hi'
  have hci:=yda hT.fit hi'
  have eR:rs0 lo T (i+1) (List.replicate W 0)=(rs0 lo T i (List.replicate W 0)).set ((T.getD i (0,0)).1-lo).toNat (T.getD i (0,0)).2:=rfl
  have hw:=yxz (T.getD i (0,0)).2 (by omega) (by omega)
  have hS:=yna (rs0 lo T i (List.replicate W 0)) ((T.getD i (0,0)).1-lo).toNat (T.getD i (0,0)).2
  have hwl:=yfn (rs0 lo T i (List.replicate W 0))
  have bi:decide ((i:Int)<T.length)=true:=by rw [decide_eq_true_iff];omega
  clear hTe hqe
  generalize (T.getD i (0,0)).1=x at*
  generalize (T.getD i (0,0)).2=c at*
  generalize rs0 lo T i (List.replicate W 0)=zs at*
  repeat' (first|omega|(first|apply yaa|refine tbN ybm ?_|refine tbT ybn ?_|skip);simp only [go_sem,bi,t0,t1,hc,hcq,hS]|refine cgL ?_|refine cgD ?_|apply yab<;>(intro h_;(try simp only [h_]);revert h_)|apply And.intro|with_reducible intro h_|trivial)
  refine ⟨_,_,_,?_,Wk.sub ?_ ?_,i+1,by omega,rfl,rfl,rfl⟩
  ·omega
  ·simp only [go_sem,yac]
  ·rw [eR]
   simp only [go_sem,yac]
 obtain rfl:i=T.length:=by omega
 have bi:decide ((T.length:Int)<T.length)=false:=by simp
 have hns:(n:Int)=st+1:=by omega
 generalize rs0 lo T T.length (List.replicate W 0)=zs at*
 clear hTe
 repeat' (first|omega|(first|apply yaa|refine tbN ybm ?_|refine tbT ybn ?_|skip);simp only [go_sem,bi,hc,hcq]|refine cgL ?_|refine cgD ?_|apply yab<;>(intro h_;(try simp only [h_]);revert h_)|apply And.intro|with_reducible intro h_|trivial)
 refine yai.intro (fun m fr H=> ∃(i:Nat) (R:List Int) (r:List (Int×Int)),i<=n/\m=n-i/\dvS q lo lq zs i=some (R,r)/\fr=[(94,I i),(93,I (st+1)),(10, .ptr 10 0),(7, .sl 2 9 0 W),(6,I st),(4, .ptr 2 0),(3, .ptr 1 0),(2, .ptr 0 0)]/\
  ((r=[]/\H=[(10,lpB .nils),(9, .cells 97 (.lst (wdC R))),(2,lpB .nils),(1,lpB (tmA q)),(0,lpB (tmA T))])\/
   H=[(12, .cells 57 (.lst (tmC r))),(10,lpB (.sl 2 12 0 r.length)),(9, .cells 97 (.lst (wdC R))),(2,lpB .nils),(1,lpB (tmA q)),(0,lpB (tmA T))])) ?_ ?_
 ·refine ⟨_,_,_,Wk.sub ?_ ?_,0,zs,[],by omega,rfl,rfl,rfl, .inl ⟨rfl,rfl⟩⟩
  ·simp only [go_sem,yac]
  ·simp only [go_sem,yac]
 rintro m fr H ⟨i,R,r,hi,rfl,hd,rfl,hcase⟩
 obtain ⟨hRl,hrl⟩:=ym2 hd
 by_cases hin:i<n
 ·have bi:decide ((i:Int)<st+1)=true:=by rw [decide_eq_true_iff];omega
  have g0:=yel R i (by omega)
  have g1:=yem R i (by omega)
  have u1:=yb5 q 0 (by omega)
  rw [hq1,Nat.zero_mul,Nat.zero_add] at u1
  have hZ:=ykx (R.getD i 0)
  have hQ:=y06 (R.getD i 0)
  have hwl:=yfn R
  have hlt:=ya9 r
  have hds:dvS q lo lq zs (i+1)=if sgW (R.getD i 0)=0 then some (R,r) else if fitB (sgW (R.getD i 0)) 1125899906842624 then some (pz2 q lq i (-sgW (R.getD i 0)) q.length R,r++[(lo-lq+i,sgW (R.getD i 0))]) else none:=by simp only [dvS,hd]
  generalize R.getD i 0=z at*
  generalize sgW z=c at*
  by_cases hz:c=0
  ·have bz:(c==0)=true:=by rw [beq_iff_eq];exact hz
   rw [if_pos hz] at hds
   rw [bz] at hZ
   rcases hcase with ⟨rfl,rfl⟩|rfl
   ·repeat' (first|omega|(first|apply yaa|refine tbN ybm ?_|refine tbT ybn ?_|skip);simp only [go_sem,bi,g0,g1,hc,hcq]|refine cgL ?_|refine cgD ?_|apply yab<;>(intro h_;(try simp only [h_]);revert h_)|apply And.intro|with_reducible intro h_|trivial)
    refine ⟨_,_,_,?_,Wk.sub ?_ ?_,i+1,R,[],by omega,rfl,hds,rfl, .inl ⟨rfl,rfl⟩⟩
    ·omega
    ·simp only [go_sem,yac]
    ·simp only [go_sem,yac]
   ·repeat' (first|omega|(first|apply yaa|refine tbN ybm ?_|refine tbT ybn ?_|skip);simp only [go_sem,bi,g0,g1,hc,hcq]|refine cgL ?_|refine cgD ?_|apply yab<;>(intro h_;(try simp only [h_]);revert h_)|apply And.intro|with_reducible intro h_|trivial)
    refine ⟨_,_,_,?_,Wk.sub ?_ ?_,i+1,R,r,by omega,rfl,hds,rfl, .inr rfl⟩
    ·omega
    ·simp only [go_sem,yac]
    ·simp only [go_sem,yac]
  have bz:(c==0)=false:=by rw [beq_eq_false_iff_ne];exact hz
  rw [if_neg hz] at hds
  rw [bz] at hZ
  have hW2:=yc9 (lo-lq+i) 1048576 (by decide) (by decide)
  rw [ybx.2 (by omega)] at hW2
  cases hf:fitB c 1125899906842624 with
  |false=>
   rw [hf,if_neg (by simp)] at hds hQ
   have hE:dvE q lo lq zs n=([],10):=by
    have:=yqi hds (n-(i+1))
    rw [show i+1+(n-(i+1))=n by omega] at this
    unfold dvE;rw [this]
   rw [hE]
   rcases hcase with ⟨rfl,rfl⟩|rfl
   ·repeat' (first|omega|(first|apply yaa|refine tbN ybm ?_|refine tbT ybn ?_|skip);simp only [go_sem,bi,g0,g1,u1,hc,hcq]|refine cgL ?_|refine cgD ?_|apply yab<;>(intro h_;(try simp only [h_]);revert h_)|apply And.intro|with_reducible intro h_|trivial)
    all_goals exact LeA.tupL (.cons (LeA.aggL (.cons (LeA.refl _) (.cons (LeA.nils (by omega) rfl) .nil))) (.cons (LeA.refl _) .nil))
   ·repeat' (first|omega|(first|apply yaa|refine tbN ybm ?_|refine tbT ybn ?_|skip);simp only [go_sem,bi,g0,g1,u1,hc,hcq]|refine cgL ?_|refine cgD ?_|apply yab<;>(intro h_;(try simp only [h_]);revert h_)|apply And.intro|with_reducible intro h_|trivial)
    all_goals exact LeA.tupL (.cons (LeA.aggL (.cons (LeA.refl _) (.cons (LeA.nils (by omega) rfl) .nil))) (.cons (LeA.refl _) .nil))
  |true=>
  rw [hf,if_pos rfl] at hds hQ
  have hcb:=ybx.1 hf
  have hlr:(r++[(lo-lq+(i:Int),c)]).length=r.length+1:=by simp
  apply yhv.share (P:=Tryz.prog) (N:=182) (fun m fr H=> ∃j:Nat,j<=q.length/\m=q.length-j/\fr=[(141,I j),(140,I q.length),(139,tmA q),(12,I c),(11,I i),(94,I i),(93,I (st+1)),(10, .ptr 10 0),(7, .sl 2 9 0 W),(6,I st),(4, .ptr 2 0),(3, .ptr 1 0),(2, .ptr 0 0)]/\
   H=[(12, .cells 57 (.lst (tmC (r++[(lo-lq+(i:Int),c)])))),(10,lpB (.sl 2 12 0 (r.length+1))),(9, .cells 97 (.lst (wdC (pz2 q lq i (-c) j R)))),(2,lpB .nils),(1,lpB (tmA q)),(0,lpB (tmA T))])
  ·intro hl
   rcases hcase with ⟨rfl,rfl⟩|rfl
   ·repeat' (first|omega|(first|apply yaa|refine tbN ybm ?_|refine tbT ybn ?_|skip);simp only [go_sem,bi,g0,g1,u1,hc,hcq]|refine cgL ?_|refine cgD ?_|apply yab<;>(intro h_;(try simp only [h_]);revert h_)|apply And.intro|with_reducible intro h_|trivial)
    refine hl _ _ ⟨_,_,_,Wk.sub ?_ ?_,0,by omega,rfl,rfl,rfl⟩
    ·simp only [go_sem,yac]
    ·simp only [go_sem,yac,pz2,List.nil_append,tmC,List.flatMap_cons,List.flatMap_nil,List.append_nil]
   ·repeat' (first|omega|(first|apply yaa|refine tbN ybm ?_|refine tbT ybn ?_|skip);simp only [go_sem,bi,g0,g1,u1,hc,hcq,hlt,ys3]|refine cgL ?_|refine cgD ?_|apply yab<;>(intro h_;(try simp only [h_]);revert h_)|apply And.intro|with_reducible intro h_|trivial)
    refine hl _ _ ⟨_,_,_,Wk.sub ?_ ?_,0,by omega,rfl,rfl,rfl⟩
    ·simp only [go_sem,yac]
    ·rw [←yf6]
     simp only [go_sem,yac,pz2,List.all_append]
  ·rintro m fr H ⟨j,hj,rfl,rfl,rfl⟩
   have hz2:=yfh q lq i (-c) j R
   by_cases hjl:j<q.length
   ·have s0:=ybr q j hjl
    have s1:=yb5 q j hjl
    have hqj:=hqe j hjl
    have hcj:=yda hq.fit hjl
    have bj:decide ((j:Int)<q.length)=true:=by rw [decide_eq_true_iff];omega
    have eQ:pz2 q lq i (-c) (j+1) R=(pz2 q lq i (-c) j R).set ((i:Int)+(q.getD j (0,0)).1-lq).toNat ((pz2 q lq i (-c) j R).getD ((i:Int)+(q.getD j (0,0)).1-lq).toNat 0+ -c*(q.getD j (0,0)).2):=rfl
    generalize (q.getD j (0,0)).1=e2 at*
    generalize (q.getD j (0,0)).2=c2 at*
    generalize pz2 q lq i (-c) j R=R2 at*
    obtain ⟨k,hk⟩: ∃k,((i:Int)+e2-lq).toNat=k:=⟨_,rfl⟩
    rw [hk] at eQ
    have hkW:k<R2.length:=by omega
    have w0:=yel R2 k hkW
    have w1:=yem R2 k hkW
    have hwl2:=yfn R2
    have hP:=yl0 (0-c) c2 (by omega) (by omega) (by omega) (by omega)
    rw [show (0-c)*c2= -c*c2 by rw [Int.zero_sub]] at hP
    have hA:=ys0 (R2.getD k 0) (-c*c2)
    have hSet:=yna R2 k (R2.getD k 0+ -c*c2)
    generalize R2.getD k 0+ -c*c2=z2 at*
    generalize R2.getD k 0=z3 at*
    generalize-c*c2=z4 at*
    clear hqe
    repeat' (first|omega|(first|apply yaa|refine tbN ybm ?_|refine tbT ybn ?_|skip);simp only [go_sem,bj,s0,s1,hc,hcq,hk,w0,w1,hSet]|refine cgL ?_|refine cgD ?_|apply yab<;>(intro h_;(try simp only [h_]);revert h_)|apply And.intro|with_reducible intro h_|trivial)
    refine ⟨_,_,_,?_,Wk.sub ?_ ?_,j+1,by omega,rfl,rfl,rfl⟩
    ·omega
    ·simp only [go_sem,yac]
    ·rw [eQ]
     simp only [go_sem,yac]
   ·obtain rfl:j=q.length:=by omega
    have bj:decide ((q.length:Int)<q.length)=false:=by simp
    repeat' (first|omega|(first|apply yaa|refine tbN ybm ?_|refine tbT ybn ?_|skip);simp only [go_sem,bj,hc,hcq]|refine cgL ?_|refine cgD ?_|apply yab<;>(intro h_;(try simp only [h_]);revert h_)|apply And.intro|with_reducible intro h_|trivial)
    refine ⟨_,_,_,?_,Wk.sub ?_ ?_,i+1,_,_,by omega,rfl,hds,rfl, .inr rfl⟩
    ·omega
    ·simp only [go_sem,yac]
    ·rw [hlr]
     simp only [go_sem,yac]
 obtain rfl:i=n:=by omega
 have bi:decide ((i:Int)<st+1)=false:=by rw [decide_eq_false_iff_not];omega
 have hE:dvE q lo lq zs i=if (R.drop i).all (fun z=>sgW z==0) then (r,0) else ([],10):=by unfold dvE;rw [hd]
 rw [hE]
 clear hE hqe
 have hwl:=yfn R
 have hlt:=ya9 r
 have es:(st+1).toNat=i:=by omega
 have eW:(W:Int)-(st+1)=((W-i:Nat):Int):=by omega
 rcases hcase with ⟨rfl,rfl⟩|rfl
 ·repeat' (first|omega|(first|apply yaa|refine tbN ybm ?_|refine tbT ybn ?_|skip);simp only [go_sem,bi,hc,hcq,es,eW]|refine cgL ?_|refine cgD ?_|apply yab<;>(intro h_;(try simp only [h_]);revert h_)|apply And.intro|with_reducible intro h_|trivial)
  refine yai.intro (fun m fr H=> ∃k:Nat,k<=W-i/\m=W-i-k/\((R.drop i).take k).all (fun z=>sgW z==0)=true/\fr=[(172,I k),(171,I ((W-i:Nat):Int)),(170, .sl 2 9 (i*2) (W-i)),(10, .ptr 10 0),(4, .ptr 2 0)]/\
   H=[(10,lpB .nils),(9, .cells 97 (.lst (wdC R))),(2,lpB .nils)]) ?_ ?_
  ·refine ⟨_,_,_,Wk.sub ?_ ?_,0,by omega,rfl,rfl,rfl,rfl⟩
   ·simp only [go_sem,yac]
   ·simp only [go_sem,yac]
  rintro m fr H ⟨k,hk,rfl,hall,rfl,rfl⟩
  by_cases hkl:k<W-i
  ·have g0:=yel R (i+k) (by omega)
   have g1:=yem R (i+k) (by omega)
   have hZ:=ykx (R.getD (i+k) 0)
   have bk:decide ((k:Int)<((W-i:Nat):Int))=true:=by rw [decide_eq_true_iff];omega
   have ek:=ygr (l:=R.drop i) (k:=k) (by rw [List.length_drop];omega)
   have eg:(R.drop i).getD k 0=R.getD (i+k) 0:=by simp [List.getD_eq_getElem?_getD]
   have ei:i*2+k*2=(i+k)*2:=by omega
   have hall':((R.drop i).take (k+1)).all (fun z=>sgW z==0)=(sgW (R.getD (i+k) 0)==0):=by rw [ek,List.all_append,hall,eg];simp
   have hno:(sgW (R.getD (i+k) 0)==0)=false->(R.drop i).all (fun z=>sgW z==0)=false:=fun h=>by
    rw [←List.take_append_drop (k+1) (R.drop i),List.all_append,hall',h,Bool.false_and]
   generalize R.getD (i+k) 0=z at*
   cases hz:sgW z==0 with
   |true=>
    rw [hz] at hZ hall'
    repeat' (first|omega|(first|apply yaa|refine tbN ybm ?_|refine tbT ybn ?_|skip);simp only [go_sem,bk,g0,g1,ei,hwl]|refine cgL ?_|refine cgD ?_|apply yab<;>(intro h_;(try simp only [h_]);revert h_)|apply And.intro|with_reducible intro h_|trivial)
    refine ⟨_,_,_,?_,Wk.sub ?_ ?_,k+1,by omega,rfl,hall',rfl,rfl⟩
    ·omega
    ·simp only [go_sem,yac]
    ·simp only [go_sem,yac]
   |false=>
    rw [hz] at hZ
    rw [hno hz,if_neg (by simp)]
    repeat' (first|omega|(first|apply yaa|refine tbN ybm ?_|refine tbT ybn ?_|skip);simp only [go_sem,bk,g0,g1,ei,hwl]|refine cgL ?_|refine cgD ?_|apply yab<;>(intro h_;(try simp only [h_]);revert h_)|apply And.intro|with_reducible intro h_|trivial)
    all_goals exact LeA.tupL (.cons (LeA.aggL (.cons (LeA.refl _) (.cons (LeA.nils (by omega) rfl) .nil))) (.cons (LeA.refl _) .nil))
  ·obtain rfl:k=W-i:=by omega
   have bk:decide (((W-i:Nat):Int)<((W-i:Nat):Int))=false:=by simp
   rw [List.take_of_length_le (by rw [List.length_drop];omega)] at hall
   rw [hall,if_pos rfl]
   repeat' (first|omega|(first|apply yaa|refine tbN ybm ?_|refine tbT ybn ?_|skip);simp only [go_sem,bk,hwl]|refine cgL ?_|refine cgD ?_|apply yab<;>(intro h_;(try simp only [h_]);revert h_)|apply And.intro|with_reducible intro h_|trivial)
   all_goals exact LeA.tupL (.cons (LeA.aggL (.cons (LeA.refl _) (.cons (LeA.nils (by omega) rfl) .nil))) (.cons (LeA.refl _) .nil))
 ·repeat' (first|omega|(first|apply yaa|refine tbN ybm ?_|refine tbT ybn ?_|skip);simp only [go_sem,bi,hc,hcq,es,eW]|refine cgL ?_|refine cgD ?_|apply yab<;>(intro h_;(try simp only [h_]);revert h_)|apply And.intro|with_reducible intro h_|trivial)
  refine yai.intro (fun m fr H=> ∃k:Nat,k<=W-i/\m=W-i-k/\((R.drop i).take k).all (fun z=>sgW z==0)=true/\fr=[(172,I k),(171,I ((W-i:Nat):Int)),(170, .sl 2 9 (i*2) (W-i)),(10, .ptr 10 0),(4, .ptr 2 0)]/\
   H=[(12, .cells 57 (.lst (tmC r))),(10,lpB (.sl 2 12 0 r.length)),(9, .cells 97 (.lst (wdC R))),(2,lpB .nils)]) ?_ ?_
  ·refine ⟨_,_,_,Wk.sub ?_ ?_,0,by omega,rfl,rfl,rfl,rfl⟩
   ·simp only [go_sem,yac]
   ·simp only [go_sem,yac]
  rintro m fr H ⟨k,hk,rfl,hall,rfl,rfl⟩
  by_cases hkl:k<W-i
  ·have g0:=yel R (i+k) (by omega)
   have g1:=yem R (i+k) (by omega)
   have hZ:=ykx (R.getD (i+k) 0)
   have bk:decide ((k:Int)<((W-i:Nat):Int))=true:=by rw [decide_eq_true_iff];omega
   have ek:=ygr (l:=R.drop i) (k:=k) (by rw [List.length_drop];omega)
   have eg:(R.drop i).getD k 0=R.getD (i+k) 0:=by simp [List.getD_eq_getElem?_getD]
   have ei:i*2+k*2=(i+k)*2:=by omega
   have hall':((R.drop i).take (k+1)).all (fun z=>sgW z==0)=(sgW (R.getD (i+k) 0)==0):=by rw [ek,List.all_append,hall,eg];simp
   have hno:(sgW (R.getD (i+k) 0)==0)=false->(R.drop i).all (fun z=>sgW z==0)=false:=fun h=>by
    rw [←List.take_append_drop (k+1) (R.drop i),List.all_append,hall',h,Bool.false_and]
   generalize R.getD (i+k) 0=z at*
   cases hz:sgW z==0 with
   |true=>
    rw [hz] at hZ hall'
    repeat' (first|omega|(first|apply yaa|refine tbN ybm ?_|refine tbT ybn ?_|skip);simp only [go_sem,bk,g0,g1,ei,hwl]|refine cgL ?_|refine cgD ?_|apply yab<;>(intro h_;(try simp only [h_]);revert h_)|apply And.intro|with_reducible intro h_|trivial)
    refine ⟨_,_,_,?_,Wk.sub ?_ ?_,k+1,by omega,rfl,hall',rfl,rfl⟩
    ·omega
    ·simp only [go_sem,yac]
    ·simp only [go_sem,yac]
   |false=>
    rw [hz] at hZ
    rw [hno hz,if_neg (by simp)]
    repeat' (first|omega|(first|apply yaa|refine tbN ybm ?_|refine tbT ybn ?_|skip);simp only [go_sem,bk,g0,g1,ei,hwl]|refine cgL ?_|refine cgD ?_|apply yab<;>(intro h_;(try simp only [h_]);revert h_)|apply And.intro|with_reducible intro h_|trivial)
    all_goals exact LeA.tupL (.cons (LeA.aggL (.cons (LeA.refl _) (.cons (LeA.nils (by omega) rfl) .nil))) (.cons (LeA.refl _) .nil))
  ·obtain rfl:k=W-i:=by omega
   have bk:decide (((W-i:Nat):Int)<((W-i:Nat):Int))=false:=by simp
   rw [List.take_of_length_le (by rw [List.length_drop];omega)] at hall
   rw [hall,if_pos rfl]
   repeat' (first|omega|(first|apply yaa|refine tbN ybm ?_|refine tbT ybn ?_|skip);simp only [go_sem,bk,hwl,hlt]|refine cgL ?_|refine cgD ?_|apply yab<;>(intro h_;(try simp only [h_]);revert h_)|apply And.intro|with_reducible intro h_|trivial)
   all_goals first
    |exact ye2 _ _ ‹_›
    |exact LeA.of (by rw [List.take_of_length_le (by omega)])
    |exact LeA.of (by rw [yf5,List.take_of_length_le (by omega)])
end Go.Proofs.YtfgbnalnbdhimaaGreatDoor
set_option linter.unusedSimpArgs false
set_option linter.unusedVariables false
namespace Go.Proofs.YtfgbnalnbdhimaaGreatDoor
open Go Go.RowKit
section
variable {P:Program}
def yl4 (P:Program):Op->Bool
 | .binOp .add _ _ _ _| .binOp .sub _ _ _ _| .binOp .mul _ _ _ _=>true
 |o=>yl3 P o
theorem yro {o:Oper} {ev:Operand->Value} {op:BinOp} {t:TypeId} {x y:Operand} {t':TypeId} (ho:o.op= .binOp op t x y t') (hop:op= .add\/op= .sub\/op= .mul) {k k':IntKind} {a b:Int} (hx:ev x= .int k a) (hy:ev y= .int k' b):ybq P (execOp ev o):=by
 by_cases hk:k=k'
 ·subst hk
  rcases hop with rfl|rfl|rfl
  ·exact .inl ⟨.value (.int k (k.wrap (a+b))),fun w=>by simp only [execOp,ho,hx,hy];simp [ybl,binOp,Op.intArith]⟩
  ·exact .inl ⟨.value (.int k (k.wrap (a-b))),fun w=>by simp only [execOp,ho,hx,hy];simp [ybl,binOp,Op.intArith]⟩
  ·exact .inl ⟨.value (.int k (k.wrap (a*b))),fun w=>by simp only [execOp,ho,hx,hy];simp [ybl,binOp,Op.intArith]⟩
 ·refine .inr fun w r w1 h=>?_
  simp only [execOp,ho,hx,hy] at h
  rcases hop with rfl|rfl|rfl<;>simp [ybl,binOp,hk,Go.stuck] at h
theorem yx0 {o:Oper} {ev:Operand->Value} {op:BinOp} {t:TypeId} {x y:Operand} {t':TypeId} (ho:o.op= .binOp op t x y t') (hop:op= .add) {a b:ByteArray} (hx:ev x= .string a) (hy:ev y= .string b):ybq P (execOp ev o):=by
 subst hop
 by_cases hk:(9223372036854775807:Int)<(a.size:Int)+b.size
 ·refine .inr fun w r w1 h=>?_
  simp only [execOp,ho,hx,hy] at h
  simp [yce,binOp,Op.stringOp,unsupported,hk] at h
 ·exact .inl ⟨.value (.string (a++b)),fun w=>by simp only [execOp,ho,hx,hy];simp [yce,binOp,Op.stringOp];omega⟩
theorem yqj {o:Oper} (h:yl4 P o.op=true) {w:World} {M:Nat->Prop} {ρ:Nat->Addr} {D:Nat->Prop} {a:Act} {fr:Fr} {H:Hp} (hev: ∀x,VR w M ρ D (a.eval x) (evA fr x)) {p:Prop} {r:AV} (hq:quF P H (evA fr) o.op=some (p,r)):ybq P (execOp a.eval o):=by
 cases ho:o.op with
 |binOp op t x y t'=>
  rw [ho] at h hq
  simp only [quF,opF] at hq
  have hop:op= .add\/op= .sub\/op= .mul:=by cases op<;>simp_all [yl4,yl3]
  have hx:=hev x
  have hy:=hev y
  generalize evA fr x=X at*
  generalize evA fr y=Y at*
  cases X with
  |int k n=>
   cases Y with
   |int k' n'=>exact yro ho hop hx.int_inv hy.int_inv
   |_=>exfalso;rcases hop with rfl|rfl|rfl<;>simp [binF,yfo,yeu] at hq
  |str b=>
   cases Y with
   |str b'=>
    rcases hop with rfl|rfl|rfl
    ·exact yx0 ho rfl hx.str_inv hy.str_inv
    ·simp [binF] at hq
    ·simp [binF] at hq
   |_=>exfalso;rcases hop with rfl|rfl|rfl<;>simp [binF,yfo,yeu] at hq
  |agg xs=>
   exfalso
   cases Y with
   |agg ys=>
    simp only [binF,yeu] at hq
    rcases hop with rfl|rfl|rfl<;>(repeat' split at hq)<;>simp_all
   |_=>rcases hop with rfl|rfl|rfl<;>simp [binF,yfo,yeu] at hq
  |_=>exfalso;cases Y<;>rcases hop with rfl|rfl|rfl<;>simp [binF,yfo,yeu] at hq
 |_=>rw [ho] at h;exact yrn (by rw [ho];exact h) a.eval
theorem yu1 {o:Oper} (h:yl4 P o.op=true) {N:Nat} {fr:Fr} {H:Hp} {K:Fr->Hp->Prop} (hq:awO P N o fr H K): ∃p r,quF P H (evA fr) o.op=some (p,r)/\p/\dok o.dst N=true/\K (fput fr o.dst r) H:=by
 cases ho:o.op with
 |binOp op t x y t'=>
  obtain ⟨_,hq⟩:=hq
  rw [←ho]
  split at hq
  ·rename_i p r e;exact ⟨p,r,e,hq⟩
  ·rename_i e
   exfalso
   simp only [ho,alF,awX,spOp] at hq
   exact absurd hq.1 (by decide)
 |_=>rw [←ho];exact yxy (by rw [ho] at h;rw [ho];exact h) hq
end

end Go.Proofs.YtfgbnalnbdhimaaGreatDoor
set_option linter.unusedSimpArgs false
set_option linter.unusedVariables false
namespace Go.Proofs.YtfgbnalnbdhimaaGreatDoor
open Go Go.RowKit
section
variable {P:Program}
def yqk (P:Program):Op->Bool
 | .fieldAddr _ _ _=>true
 |o=>yl4 P o
section
variable {w:World} {M:Nat->Prop} {ρ:Nat->Addr} {D:Nat->Prop}
theorem yog {s f:Nat} {u:Value} {x:AV} {p:Prop} {r:AV} (hu:VR w M ρ D u x) (h:yff P s x f=some (p,r)):
  ∃z,∀w',(Instr.fieldAt s u f).run P w'= .ok z w':=by
 unfold yff at h
 split at h
 ·rename_i fs hk
  split at h
  ·rename_i ft o hf
   split at h
   ·rename_i m hm
    obtain ⟨gs,g,h1,h2,h3,h4⟩:=yj8 hk hf
    subst h3 h4
    have hz:=fun w'=>yap hm w'
    split at h
    ·cases h
     obtain ⟨rfl,hd⟩:=hu.ptr_inv
     exact ⟨_,fun w'=>by simp [Instr.fieldAt,run_underlying h1,h2,Instr.sureAddr,fieldPlace,hz];rfl⟩
    ·cases h
     cases hu with
     |rp c off a x hb hm' hj hv=>
      exact ⟨_,fun w'=>by simp [Instr.fieldAt,run_underlying h1,h2,Instr.sureAddr,fieldPlace,hz];rfl⟩
    ·cases h
   ·cases h
  ·cases h
 ·cases h
end
theorem yql {o:Oper} (h:yqk P o.op=true) {w:World} {M:Nat->Prop} {ρ:Nat->Addr} {D:Nat->Prop} {a:Act} {fr:Fr} {H:Hp} (hev: ∀x,VR w M ρ D (a.eval x) (evA fr x)) {p:Prop} {r:AV} (hq:quF P H (evA fr) o.op=some (p,r)) (hp:p):ybq P (execOp a.eval o):=by
 cases ho:o.op with
 |fieldAddr s x f=>
  rw [ho] at hq
  simp only [quF,opF] at hq
  obtain ⟨z,hz⟩:=yog (hev x) hq
  exact .inl ⟨.value z,fun w'=>by simp [execOp,ho,hz]⟩
 |_=>rw [ho] at h;exact yqj (by rw [ho];exact h) hev hq
theorem yu2 {o:Oper} (h:yqk P o.op=true) {N:Nat} {fr:Fr} {H:Hp} {K:Fr->Hp->Prop} (hq:awO P N o fr H K): ∃p r,quF P H (evA fr) o.op=some (p,r)/\p/\dok o.dst N=true/\K (fput fr o.dst r) H:=by
 cases ho:o.op with
 |fieldAddr s x f=>
  obtain ⟨_,hq⟩:=hq
  rw [←ho]
  split at hq
  ·rename_i p r e;exact ⟨p,r,e,hq⟩
  ·rename_i e
   exfalso
   simp only [ho,alF,awX,spOp] at hq
   exact absurd hq.1 (by decide)
 |_=>rw [←ho];exact yu1 (by rw [ho] at h;rw [ho];exact h) hq
end

end Go.Proofs.YtfgbnalnbdhimaaGreatDoor
