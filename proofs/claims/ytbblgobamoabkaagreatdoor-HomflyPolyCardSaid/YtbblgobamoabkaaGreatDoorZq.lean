/- The reference of layer 13: a term is added to a list in order. -/
import Derived.Test.YtbblgobamoabkaaGreatDoorZp
import Derived.Test.YtbblgobamoabkaaGreatDoorZc
import Derived.Test.YtbblgobamoabkaaGreatDoorOe1
import Derived.Test.YtbblgobamoabkaaGreatDoorZb
namespace Go.Proofs.YtbblgobamoabkaaGreatDoor
open Go Go.RowKit
set_option maxRecDepth 100000
set_option maxHeartbeats 8000000
set_option linter.unusedVariables false
set_option linter.unusedSimpArgs false
def yb3:Tr:= .node [(0,trP [1,2,3,4] (.node [(5, .node [(6, .node [(7, .node [(8,trD [9,10,11]),(9,trD [8,10,11])]),(9,trD [7,8,10,11])]),(9,trD [6,7,8,10,11])]),(6, .node [(5, .node [(7, .node [(8,trD [9,10,11]),(9,trD [8,10,11])]),(9,trD [7,8,10,11])]),(9,trD [5,7,8,10,11])]),(9, .node [(5,trD [6,7,8,10,11]),(6,trD [5,7,8,10,11])])])),(1, .node [(0,trP [2,3,4] (.node [(5, .node [(6, .node [(7, .node [(8,trD [9,10,11]),(9,trD [8,10,11])]),(9,trD [7,8,10,11])]),(9,trD [6,7,8,10,11])]),(6, .node [(5, .node [(7, .node [(8,trD [9,10,11]),(9,trD [8,10,11])]),(9,trD [7,8,10,11])]),(9,trD [5,7,8,10,11])]),(9, .node [(5,trD [6,7,8,10,11]),(6,trD [5,7,8,10,11])])])),(2,trP [0,3,4] (.node [(5, .node [(6, .node [(7, .node [(8,trD [9,10,11]),(9,trD [8,10,11])]),(9,trD [7,8,10,11])]),(9,trD [6,7,8,10,11])]),(6, .node [(5, .node [(7, .node [(8,trD [9,10,11]),(9,trD [8,10,11])]),(9,trD [7,8,10,11])]),(9,trD [5,7,8,10,11])]),(9, .node [(5,trD [6,7,8,10,11]),(6,trD [5,7,8,10,11])])]))])]
def yb4:List (List Nat):=[[22,23],[21],[21],[],[],[27,31,32],[26,31,32],[31,32],[31,32],[31,32],[26,27,28,29,30],[26,27,28,29,30],[],[],[],[37,41,42],[36,41,42],[41,42],[41,42],[41,42],[36,37,38,39,40],[36,37,38,39,40],[],[]]
def yb5:List (List Nat):=[[],[0],[0],[],[],[],[5],[],[],[],[5,6,7,8,9],[5,6,7,8,9],[],[],[],[],[15],[],[],[],[15,16,17,18,19],[15,16,17,18,19],[],[]]
def yb6:List (List Nat):=[[49,50,51,52,53,54,55,56,57],[48,50,51,52,53,54,55,56,57],[48,49,51,55,56],[48,49,50,55,56],[48,49,55,56],[48,49,55,56],[48,49,55,56],[48,49,50,51,52,53,54],[48,49,50,51,52,53,54],[48,49],[],[],[]]
def yb7:List (List Nat):=[[],[0],[0,1],[0,1,2],[0,1],[0,1],[0,1],[0,1,2,3,4,5,6],[0,1,2,3,4,5,6],[0,1],[],[],[]]
def yb8:List (List Nat):=[[62,63,64,66,67,69,70,71],[61,63,66,67,69,70,71],[61,62,66,67,69,70,71],[61,66,67,69,70,71],[66,67,69,70,71],[61,62,63,64,65,69,70,71],[61,62,63,64,65,69,70,71],[69,70,71],[61,62,63,64,65,66,67,68,70],[61,62,63,64,65,66,67,68,69],[61,62,63,64,65,66,67,68],[],[]]
def yb9:List (List Nat):=[[],[0],[0,1],[0],[],[0,1,2,3,4],[0,1,2,3,4],[],[0,1,2,3,4,5,6,7],[0,1,2,3,4,5,6,7,8],[0,1,2,3,4,5,6,7],[],[]]
def yhv:Tr:=trP [0,1,2,3,4] (.node [(5, .node [(6, .node [(7, .node [(8,trD [9,10,11]),(9,trD [8,10,11])]),(9,trD [7,8,10,11])]),(9,trD [6,7,8,10,11])]),(6, .node [(5, .node [(7, .node [(8,trD [9,10,11]),(9,trD [8,10,11])]),(9,trD [7,8,10,11])]),(9,trD [5,7,8,10,11])]),(9, .node [(5,trD [6,7,8,10,11]),(6,trD [5,7,8,10,11])])])
def yhw:Tr:=trP [0,1,2,3] (.node [(4, .node [(5, .node [(6,trD [7,8,9,10,11,12]),(7, .node [(6,trD [8,9,10,11,12]),(8,trD [6,9,10,11,12])])]),(7, .node [(5, .node [(6,trD [8,9,10,11,12]),(8,trD [6,9,10,11,12])]),(8,trD [5,6,9,10,11,12])])]),(7, .node [(4, .node [(5, .node [(6,trD [8,9,10,11,12]),(8,trD [6,9,10,11,12])]),(8,trD [5,6,9,10,11,12])]),(8,trD [4,5,6,9,10,11,12])])])
def yhx:Tr:=trP [1,2,3,8,9,10] (.node [(0, .node [(4,trD [5,6,7,11,12]),(5, .node [(4,trD [6,7,11,12]),(6,trD [4,7,11,12])])]),(5, .node [(0, .node [(4,trD [6,7,11,12]),(6,trD [4,7,11,12])]),(6,trD [0,4,7,11,12])])])
theorem yit: ∀(S:List (Int×Int)) (i:Nat),(bvC S).take (i*3)=bvC (S.take i)
 |[],i=>by simp [bvC]
 |t::S,0=>by simp [bvC]
 |t::S,i+1=>by
  rw [show (i+1)*3=i*3+1+1+1 by omega]
  simp only [bvC,List.take_succ_cons,yit S i]
theorem yiu: ∀(S:List (Int×Int)) (i:Nat),(bvC S).drop (i*3)=bvC (S.drop i)
 |[],i=>by simp [bvC]
 |t::S,0=>by simp [bvC]
 |t::S,i+1=>by
  rw [show (i+1)*3=i*3+1+1+1 by omega]
  simp only [bvC,List.drop_succ_cons,yiu S i]
theorem yth: ∀(S:List (Int×Int)) (i:Nat) (z:Int),(bvC S).set (i*3+2) (.int .i64 z)=bvC (S.set i ((S.getD i (0,0)).1,z))
 |[],i,z=>by simp [bvC]
 |t::S,0,z=>by simp [bvC]
 |t::S,i+1,z=>by
  rw [show (i+1)*3+2=(i*3+2)+1+1+1 by omega]
  simp only [bvC,List.set_cons_succ,yth S i z,List.getD_cons_succ]
theorem ybd (S:List (Int×Int)) (f:AV->Bool) (h: ∀n,f (.int .i64 n)=true):(bvC S).all f=true:=List.all_eq_true.2 fun x hx=>by obtain ⟨n,rfl⟩:=ye7 hx;exact h n
theorem yqs (S:List (Int×Int)) (i:Nat):(S.drop i).take (S.length-i)=S.drop i:=List.take_of_length_le (by simp)
theorem yqt (S:List (Int×Int)) (i:Nat):(bvC (S.drop i)).take ((S.length-i)*3)=bvC (S.drop i):=List.take_of_length_le (by rw [yal,List.length_drop];omega)
theorem yyl {S:List (Int×Int)} {i:Nat} (h:i<=S.length):(bvC (S.take i)).length=i*3:=by rw [yal,List.length_take];omega
theorem yba (H:Hp) (n:Nat) (S:List (Int×Int)):(∀x∈bvC S,yas H (n+1) x)=True:=eq_true fun x hx=>yfl H n hx
theorem yti {S:List (Int×Int)} {i:Nat} (h:i<=S.length):(S.take i).length=i:=by rw [List.length_take];omega
structure Ins3 (S:List (Int×Int)) (i:Nat) (t:Int×Int) (R:List (Int×Int)):Prop where
 len:R.length=i+1+(S.length-i)
 q1:bvC (S.take i)++[.int .i64 (bvA t.1), .int .i64 (bvZ t.1), .int .i64 t.2]=bvC (S.take i++[t])
 q2:bvC (S.take i++[t])++bvC (S.drop i)=bvC R
 q6:(bvC R).take ((i+1+(S.length-i))*3)=bvC R
 q8:(bvC R).length=(i+1+(S.length-i))*3
 q9:(bvC (S.drop i)).length=(S.length-i)*3
 qa:(bvC (S.take i++[t])).length=(i+1)*3
theorem ytj {S:List (Int×Int)} {i:Nat} (h:i<=S.length) (t:Int×Int):Ins3 S i t (S.take i++t::S.drop i):=by
 have hl:(S.take i++t::S.drop i).length=i+1+(S.length-i):=by simp;omega
 have h8:(bvC (S.take i++t::S.drop i)).length=(i+1+(S.length-i))*3:=by rw [yal,hl];omega
 refine ⟨hl,?_,?_,List.take_of_length_le (by omega),h8,by rw [yal,List.length_drop];omega,by rw [yal,List.length_append,List.length_take];simp only [List.length_cons,List.length_nil];omega⟩
 ·rw [ycz];rfl
 ·rw [←ycz,List.append_assoc];rfl
theorem y6r (e e':Int):e=e'↔bvA e=bvA e'/\bvZ e=bvZ e':=by
 constructor
 ·rintro rfl;exact ⟨rfl,rfl⟩
 ·rintro ⟨h1,h2⟩
  have:=ycb e
  rw [h1,h2,ycb] at this
  exact this.symm
abbrev tA (t:Int×Int):AV:= .agg [I (bvA t.1),I (bvZ t.1),I t.2]
theorem ytk (u t:Int×Int):Fn Tryz.prog 149 [tA u,tA t] (.bool (decide (u.1<t.1))):=by
 have h:=yu6 (bvA u.1) (bvZ u.1) u.2 (bvA t.1) (bvZ t.1) t.2
 have e:(decide (bvA u.1<bvA t.1)||(decide (bvA u.1=bvA t.1)&&decide (bvZ u.1<bvZ t.1)))=decide (u.1<t.1):=by
  rw [Bool.eq_iff_iff]
  simp only [Bool.or_eq_true,Bool.and_eq_true,decide_eq_true_eq]
  exact (ymh u.1 t.1).symm
 rwa [e] at h
theorem y1e (S:List (Int×Int)) (t:Int×Int) (hl:S.length<=100000) (ht: -2305843009213693952<=t.2/\t.2<=2305843009213693952) (hS: ∀u∈S,-2305843009213693952<=u.2/\u.2<=2305843009213693952):
  Fn Tryz.prog 119 [bvT S,tA t] (bvT (insR S t)):=by
 have hle:=yta S t.1
 have hlen:=yal S
 refine Fn.introL [.tmp 4] Tryz.func119 rfl rfl (by decide) (by simp [Tryz.ntmps119]) ?_;rw [Tryz.ntmps119]
 repeat' (first|omega|(try apply yaa);simp only [go_sem,sevalprocAttr]|apply yab<;>(intro h_;(try simp only [h_]);revert h_)|apply And.intro|with_reducible intro h_|trivial|simp only [go_sem,la2];omega)
 refine yaj.intro (fun n fr H=> ∃k:Nat,k<=insK S t.1/\n=insK S t.1-k/\fr=[(5,I k),(3, .ptr 0 0),(0,bvT S)]/\H=[(0, .cells 84 (.lst [I (bvA t.1),I (bvZ t.1),I t.2]))]) ?_ ?_
 ·refine ⟨_,_,_,?_,0,by omega,rfl,rfl,rfl⟩
  refine Wk.sub ?_ ?_<;>(simp only [go_sem,sevalprocAttr,yad])
 rintro n fr H ⟨k,hk,rfl,rfl,rfl⟩
 by_cases hkl:k<insK S t.1
 ·have c0:decide ((k:Int)<S.length)=true:=by simp;omega
  obtain ⟨g0,g1,g2⟩:=ybs S k (by omega)
  have hB:=ytk (S.getD k (0,0)) t
  rw [decide_eq_true (ytb S t.1 k hkl)] at hB
  repeat' (first|omega|(first|apply yaa|(refine yac.intro (id:=2) [[8,9],[7],[7],[],[],[13,16],[12,16],[16],[16],[12,13,14,15],[],[]] [[],[0],[0],[],[],[],[5],[],[],[5,6,7,8],[],[]] (by decide+kernel) mixed ?_)|(refine yac.introT (id:=2) (yb3) (by decide+kernel) mixed ?_)|(refine yac.intro (id:=4) yb4 yb5 (by decide+kernel) mixed ?_)|(refine yac.intro (id:=6) yb6 yb7 (by decide+kernel) mixed ?_)|(refine yac.intro (id:=8) yb8 yb9 (by decide+kernel) mixed ?_)|skip);simp only [go_sem,sevalprocAttr,c0,g0,g1,g2,hlen,↓reduceIte,reduceCtorEq,yb3,yb4,yb5,yb6,yb7,yb8,yb9]|apply yab<;>(intro h_;(try simp only [h_]);revert h_)|apply And.intro|with_reducible intro h_|trivial|simp only [go_sem,la2];omega)
  refine ⟨yai.fn rfl hB ?_⟩
  simp only [go_sem,sevalprocAttr,c0,g0,g1,g2,hlen,yad]
  repeat' (first|omega|(first|apply yaa|(refine yac.intro (id:=2) [[8,9],[7],[7],[],[],[13,16],[12,16],[16],[16],[12,13,14,15],[],[]] [[],[0],[0],[],[],[],[5],[],[],[5,6,7,8],[],[]] (by decide+kernel) mixed ?_)|(refine yac.introT (id:=2) (yb3) (by decide+kernel) mixed ?_)|(refine yac.intro (id:=4) yb4 yb5 (by decide+kernel) mixed ?_)|(refine yac.intro (id:=6) yb6 yb7 (by decide+kernel) mixed ?_)|(refine yac.intro (id:=8) yb8 yb9 (by decide+kernel) mixed ?_)|skip);simp only [go_sem,sevalprocAttr,c0,g0,g1,g2,hlen,↓reduceIte,reduceCtorEq,yb3,yb4,yb5,yb6,yb7,yb8,yb9]|apply yab<;>(intro h_;(try simp only [h_]);revert h_)|apply And.intro|with_reducible intro h_|trivial|simp only [go_sem,la2];omega)
  refine ⟨_,_,_,?_,?_,⟨k+1,by omega,rfl,rfl,rfl⟩⟩
  ·omega
  ·refine Wk.sub ?_ ?_<;>(simp only [go_sem,sevalprocAttr,yad])
 obtain rfl:k=insK S t.1:=by omega
 obtain ⟨i1,i2⟩:=ymq S t
 generalize hI:insK S t.1=i at*
 by_cases hin:i<S.length
 ·have c0:decide ((i:Int)<S.length)=true:=by simp;omega
  obtain ⟨g0,g1,g2⟩:=ybs S i hin
  have hge:=ytc S t.1 (by omega)
  rw [hI] at hge
  have hB:=ytk (S.getD i (0,0)) t
  rw [decide_eq_false hge] at hB
  have hti:=hS _ (ycd hin)
  have hset:=yth S i ((S.getD i (0,0)).2+t.2)
  by_cases he:(S.getD i (0,0)).1=t.1
  ·have ep:=i1 ⟨hin,he⟩
   rw [he] at hset g0 g1
   have cA:(bvA t.1==bvA t.1)=true:=by simp
   have cZ:(bvZ t.1==bvZ t.1)=true:=by simp
   rw [ep]
   rw [show tA (S.getD i (0,0))= .agg [I (bvA t.1),I (bvZ t.1),I (S.getD i (0,0)).2] by unfold tA;rw [he]] at hB
   have el:(S.set i (t.1,(S.getD i (0,0)).2+t.2)).length=S.length:=by simp
   have hlen2:=yal (S.set i (t.1,(S.getD i (0,0)).2+t.2))
   rw [show bvT (S.set i (t.1,(S.getD i (0,0)).2+t.2))= .ro 3 S.length (.lst (bvC (S.set i (t.1,(S.getD i (0,0)).2+t.2)))) by show AV.ro 3 _ _=_;rw [el]]
   rw [el] at hlen2
   have htk:(bvC (S.set i (t.1,(S.getD i (0,0)).2+t.2))).take (S.length*3)=bvC (S.set i (t.1,(S.getD i (0,0)).2+t.2)):=List.take_of_length_le (by omega)
   generalize (S.getD i (0,0)).2=c at*
   generalize S.set i (t.1,c+t.2)=R at*
   repeat' (first|omega|(first|apply yaa|(refine yac.intro (id:=2) [[8,9],[7],[7],[],[],[13,16],[12,16],[16],[16],[12,13,14,15],[],[]] [[],[0],[0],[],[],[],[5],[],[],[5,6,7,8],[],[]] (by decide+kernel) mixed ?_)|(refine yac.introT (id:=2) (yb3) (by decide+kernel) mixed ?_)|(refine yac.intro (id:=4) yb4 yb5 (by decide+kernel) mixed ?_)|(refine yac.intro (id:=6) yb6 yb7 (by decide+kernel) mixed ?_)|(refine yac.intro (id:=8) yb8 yb9 (by decide+kernel) mixed ?_)|skip);simp only [go_sem,sevalprocAttr,c0,g0,g1,g2,hlen,↓reduceIte,reduceCtorEq,yb3,yb4,yb5,yb6,yb7,yb8,yb9]|apply yab<;>(intro h_;(try simp only [h_]);revert h_)|apply And.intro|with_reducible intro h_|trivial|simp only [go_sem,la2];omega)
   refine ⟨yai.fn rfl hB ?_⟩
   simp only [go_sem,sevalprocAttr,c0,g0,g1,g2,hlen,yad]
   repeat' (first|omega|(first|apply yaa|(refine yac.intro (id:=2) [[8,9],[7],[7],[],[],[13,16],[12,16],[16],[16],[12,13,14,15],[],[]] [[],[0],[0],[],[],[],[5],[],[],[5,6,7,8],[],[]] (by decide+kernel) mixed ?_)|(refine yac.introT (id:=2) (yb3) (by decide+kernel) mixed ?_)|(refine yac.intro (id:=4) yb4 yb5 (by decide+kernel) mixed ?_)|(refine yac.intro (id:=6) yb6 yb7 (by decide+kernel) mixed ?_)|(refine yac.intro (id:=8) yb8 yb9 (by decide+kernel) mixed ?_)|skip);simp only [go_sem,sevalprocAttr,c0,g0,g1,g2,hlen,cA,cZ,hset,hlen2,htk,yad,ybd,ycq,ya8,yba,Nat.sub_zero,↓reduceIte,reduceCtorEq,yb3,yb4,yb5,yb6,yb7,yb8,yb9]|apply yab<;>(intro h_;(try simp only [h_]);revert h_)|apply And.intro|with_reducible intro h_|trivial|simp only [go_sem,la2];omega)
   all_goals exact LeA.refl _
  ·have ep:=i2 fun h=>he h.2
   have cAZ:(bvA (S.getD i (0,0)).1==bvA t.1)=false\/(bvA (S.getD i (0,0)).1==bvA t.1)=true/\(bvZ (S.getD i (0,0)).1==bvZ t.1)=false:=by
    by_cases h1:bvA (S.getD i (0,0)).1=bvA t.1
    ·exact .inr ⟨by rw [beq_iff_eq];exact h1,by rw [beq_eq_false_iff_ne];exact fun h2=>he ((y6r _ _).2 ⟨h1,h2⟩)⟩
    ·exact .inl (by rw [beq_eq_false_iff_ne];exact h1)
   rw [ep]
   have hR:=ytj hle t
   generalize S.take i++t::S.drop i=R at hR⊢
   obtain ⟨r0,r1,r2,r6,r8,r9,ra⟩:=hR
   rw [show bvT R= .ro 3 (i+1+(S.length-i)) (.lst (bvC R)) by show AV.ro 3 _ _=_;rw [r0]]
   have tl:=yyl hle
   have tk:=yti hle
   rw [show tA (S.getD i (0,0))= .agg [I (bvA (S.getD i (0,0)).1),I (bvZ (S.getD i (0,0)).1),I (S.getD i (0,0)).2] from rfl,show tA t= .agg [I (bvA t.1),I (bvZ t.1),I t.2] from rfl] at hB
   generalize (S.getD i (0,0)).1=e at*
   generalize (S.getD i (0,0)).2=c at*
   rcases cAZ with cA|⟨cA,cZ⟩
   ·repeat' (first|omega|(first|apply yaa|(refine yac.intro (id:=2) [[8,9],[7],[7],[],[],[13,16],[12,16],[16],[16],[12,13,14,15],[],[]] [[],[0],[0],[],[],[],[5],[],[],[5,6,7,8],[],[]] (by decide+kernel) mixed ?_)|(refine yac.introT (id:=2) (yb3) (by decide+kernel) mixed ?_)|(refine yac.intro (id:=4) yb4 yb5 (by decide+kernel) mixed ?_)|(refine yac.intro (id:=6) yb6 yb7 (by decide+kernel) mixed ?_)|(refine yac.intro (id:=8) yb8 yb9 (by decide+kernel) mixed ?_)|skip);simp only [go_sem,sevalprocAttr,c0,g0,g1,g2,hlen,↓reduceIte,reduceCtorEq,yb3,yb4,yb5,yb6,yb7,yb8,yb9]|apply yab<;>(intro h_;(try simp only [h_]);revert h_)|apply And.intro|with_reducible intro h_|trivial|simp only [go_sem,la2];omega)
    refine ⟨yai.fn rfl hB ?_⟩
    simp only [go_sem,sevalprocAttr,c0,g0,g1,g2,hlen,yad]
    repeat' (first|omega|(first|apply yaa|(refine yac.introE (id:=2) (yhv) (by decide+kernel) mixed ?_)|(refine yac.intro (id:=2) [[8,9],[7],[7],[],[],[13,16],[12,16],[16],[16],[12,13,14,15],[],[]] [[],[0],[0],[],[],[],[5],[],[],[5,6,7,8],[],[]] (by decide+kernel) mixed ?_)|(refine yac.introT (id:=2) (yb3) (by decide+kernel) mixed ?_)|(refine yac.intro (id:=4) yb4 yb5 (by decide+kernel) mixed ?_)|(refine yac.introE (id:=6) (yhw) (by decide+kernel) mixed ?_)|(refine yac.intro (id:=6) yb6 yb7 (by decide+kernel) mixed ?_)|(refine yac.introE (id:=8) (yhx) (by decide+kernel) mixed ?_)|(refine yac.intro (id:=8) yb8 yb9 (by decide+kernel) mixed ?_)|skip);simp only [go_sem,sevalprocAttr,tl,tk,r1,r2,r6,r8,r9,ra,ya8,yba,yad,c0,cA,g0,g1,g2,ybd,Nat.sub_zero,yit,yiu,yqt,yqs,ycq,hlen,↓reduceIte,reduceCtorEq,yb3,yb4,yb5,yb6,yb7,yb8,yb9,yhv,yhw,yhx]|apply yab<;>(intro h_;(try simp only [h_]);revert h_)|apply And.intro|with_reducible intro h_|trivial|simp only [go_sem,la2];omega)
    all_goals exact LeA.refl _
   ·repeat' (first|omega|(first|apply yaa|(refine yac.intro (id:=2) [[8,9],[7],[7],[],[],[13,16],[12,16],[16],[16],[12,13,14,15],[],[]] [[],[0],[0],[],[],[],[5],[],[],[5,6,7,8],[],[]] (by decide+kernel) mixed ?_)|(refine yac.introT (id:=2) (yb3) (by decide+kernel) mixed ?_)|(refine yac.intro (id:=4) yb4 yb5 (by decide+kernel) mixed ?_)|(refine yac.intro (id:=6) yb6 yb7 (by decide+kernel) mixed ?_)|(refine yac.intro (id:=8) yb8 yb9 (by decide+kernel) mixed ?_)|skip);simp only [go_sem,sevalprocAttr,c0,g0,g1,g2,hlen,↓reduceIte,reduceCtorEq,yb3,yb4,yb5,yb6,yb7,yb8,yb9]|apply yab<;>(intro h_;(try simp only [h_]);revert h_)|apply And.intro|with_reducible intro h_|trivial|simp only [go_sem,la2];omega)
    refine ⟨yai.fn rfl hB ?_⟩
    simp only [go_sem,sevalprocAttr,c0,g0,g1,g2,hlen,yad]
    repeat' (first|omega|(first|apply yaa|(refine yac.introE (id:=2) (yhv) (by decide+kernel) mixed ?_)|(refine yac.intro (id:=2) [[8,9],[7],[7],[],[],[13,16],[12,16],[16],[16],[12,13,14,15],[],[]] [[],[0],[0],[],[],[],[5],[],[],[5,6,7,8],[],[]] (by decide+kernel) mixed ?_)|(refine yac.introT (id:=2) (yb3) (by decide+kernel) mixed ?_)|(refine yac.intro (id:=4) yb4 yb5 (by decide+kernel) mixed ?_)|(refine yac.introE (id:=6) (yhw) (by decide+kernel) mixed ?_)|(refine yac.intro (id:=6) yb6 yb7 (by decide+kernel) mixed ?_)|(refine yac.introE (id:=8) (yhx) (by decide+kernel) mixed ?_)|(refine yac.intro (id:=8) yb8 yb9 (by decide+kernel) mixed ?_)|skip);simp only [go_sem,sevalprocAttr,tl,tk,r1,r2,r6,r8,r9,ra,ya8,yba,yad,c0,cA,cZ,g0,g1,g2,ybd,Nat.sub_zero,yit,yiu,yqt,yqs,ycq,hlen,↓reduceIte,reduceCtorEq,yb3,yb4,yb5,yb6,yb7,yb8,yb9,yhv,yhw,yhx]|apply yab<;>(intro h_;(try simp only [h_]);revert h_)|apply And.intro|with_reducible intro h_|trivial|simp only [go_sem,la2];omega)
    all_goals exact LeA.refl _
 ·have c0:decide ((i:Int)<S.length)=false:=by simp;omega
  have ep:=i2 fun h=>hin h.1
  rw [ep]
  have hR:=ytj hle t
  generalize S.take i++t::S.drop i=R at hR⊢
  obtain ⟨r0,r1,r2,r6,r8,r9,ra⟩:=hR
  rw [show bvT R= .ro 3 (i+1+(S.length-i)) (.lst (bvC R)) by show AV.ro 3 _ _=_;rw [r0]]
  have tl:=yyl hle
  have tk:=yti hle
  repeat' (first|omega|(first|apply yaa|(refine yac.introE (id:=2) (yhv) (by decide+kernel) mixed ?_)|(refine yac.intro (id:=2) [[8,9],[7],[7],[],[],[13,16],[12,16],[16],[16],[12,13,14,15],[],[]] [[],[0],[0],[],[],[],[5],[],[],[5,6,7,8],[],[]] (by decide+kernel) mixed ?_)|(refine yac.introT (id:=2) (yb3) (by decide+kernel) mixed ?_)|(refine yac.intro (id:=4) yb4 yb5 (by decide+kernel) mixed ?_)|(refine yac.introE (id:=6) (yhw) (by decide+kernel) mixed ?_)|(refine yac.intro (id:=6) yb6 yb7 (by decide+kernel) mixed ?_)|(refine yac.introE (id:=8) (yhx) (by decide+kernel) mixed ?_)|(refine yac.intro (id:=8) yb8 yb9 (by decide+kernel) mixed ?_)|skip);simp only [go_sem,sevalprocAttr,tl,tk,r1,r2,r6,r8,r9,ra,ya8,yba,yad,c0,ybd,Nat.sub_zero,yit,yiu,yqt,yqs,ycq,hlen,↓reduceIte,reduceCtorEq,yb3,yb4,yb5,yb6,yb7,yb8,yb9,yhv,yhw,yhx]|apply yab<;>(intro h_;(try simp only [h_]);revert h_)|apply And.intro|with_reducible intro h_|trivial|simp only [go_sem,la2];omega)
  all_goals exact LeA.refl _
end Go.Proofs.YtbblgobamoabkaaGreatDoor
set_option linter.unusedSimpArgs false
set_option linter.unusedVariables false
namespace Go.Proofs.YtbblgobamoabkaaGreatDoor
open Go Go.RowKit
inductive LeFr:Fr->Fr->Prop
 |nil:LeFr [] []
 |cons {i:Nat} {x y:AV} {fr fr':Fr}:LeA x y->LeFr fr fr'->LeFr ((i,x)::fr) ((i,y)::fr')
theorem LeFr.refl: ∀fr:Fr,LeFr fr fr
 |[]=> .nil
 |(_,x)::fr=> .cons (LeA.refl x) (LeFr.refl fr)
theorem LeFr.get {fr fr':Fr} (h:LeFr fr fr') (t:Nat):LeA (fget fr t) (fget fr' t):=by
 induction h with
 |nil=>exact LeA.refl _
 |cons h1 _ ih=>
  simp only [fget]
  split
  ·exact h1
  ·exact ih
theorem Wk.le {fr fr':Fr} {H:Hp} (h:LeFr fr fr'):Wk fr H fr' H:=fun _ _ _ _ _ ρ _ hs=>⟨ρ,hs.reslot fun t=>(h.get t).out _ _ _ _ _ (hs.frv t)⟩
end Go.Proofs.YtbblgobamoabkaaGreatDoor
set_option linter.unusedSimpArgs false
set_option linter.unusedVariables false
namespace Go.Proofs.YtbblgobamoabkaaGreatDoor
open Go Go.RowKit
theorem y39 (Mx:Nat->Prop) (H:Hp) (ρ:Nat->Addr) (i j:Nat):MM Mx (swH i j H) (fun k=>ρ (swI i j k))=MM Mx H ρ:=by
 funext b
 apply propext
 constructor
 ·rintro (g|⟨id,o,g1,g2,g3⟩)
  ·exact .inl g
  ·rw [yn9] at g1
   obtain ⟨o',h1,h2⟩:=Option.map_eq_some_iff.1 g1
   subst h2
   exact .inr ⟨_,o',h1,by rw [yd9] at g2;exact g2,g3⟩
 ·rintro (g|⟨id,o,g1,g2,g3⟩)
  ·exact .inl g
  ·exact .inr ⟨swI i j id,swO i j o,by rw [ye3,g1];rfl,by rw [yd9];exact g2,by show (ρ (swI i j (swI i j id))).block=b;rw [ydf];exact g3⟩
theorem FnO.swap {P:Program} {f:Nat} {args:List AV} {r:AV} {H0:Hp} (h:FnO P f args r H0) (i j:Nat) {r':AV} {H':Hp} (er:swV i j 4 r=r') (eH:swH i j H0=H'):FnO P f args r' H':=by
 subst er eH
 refine ⟨h.1,fun w Mx vs h1 h2 h3=>(h.2 w Mx vs h1 h2 h3).mono ?_⟩
 rintro e w' ⟨v,ρ',rfl,hs,hv⟩
 refine ⟨v,fun k=>ρ' (swI i j k),rfl,hs.swap i j,?_⟩
 rw [y39]
 exact yux (fun k hk=>by
  obtain ⟨o,ho⟩:=hk
  exact ⟨⟨swO i j o,by rw [ye3,ho];rfl⟩,by show ρ' (swI i j (swI i j k))=ρ' k;rw [ydf]⟩) 4 _ _ hv
theorem yym {w w':World} {Mx:Nat->Prop} {ρ':Nat->Addr} {a0:Act} {t id es n:Nat} {l:List AV} {w1:ybj} (hs:Sim w.heap.size w1 Mx 0 w' ρ' [] [(id, .cells t (.lst l))] a0) (hes:0<es) (hn:l.length=n*es) (hI: ∀x∈l,∃k,x=I k) {v:Value}
  (hv:VR w' (MM Mx [(id, .cells t (.lst l))] ρ') ρ' (DD [(id, .cells t (.lst l))]) v (.sl es id 0 n)):VR w' (fun b=>b<w.heap.size) ρ0 (fun _=>False) v (.ro es n (.lst l)):=by
 have hr:=hs.objs id _ (show hget [(id,AObj.cells t (.lst l))] id=some (.cells t (.lst l)) by simp [hget])
 have ho:=hs.own id _ (show hget [(id,AObj.cells t (.lst l))] id=some (.cells t (.lst l)) by simp [hget]) rfl
 have hlt:=hr.lt rfl
 obtain ⟨g1,arr,g2,g3,g4⟩:=hr
 obtain ⟨x,k1,k2⟩:=yg7 (My:=fun b=>b<w.heap.size) (ρ0:=ρ0) (c:= .lst l) (c':= .lst l) g1 g2 g3 rfl fun j hj=>by
  obtain ⟨u,q1,q2⟩:=g4 j hj
  refine ⟨u,q1,?_⟩
  have hjl:j<l.length:=by simpa [Cs.len] using hj
  obtain ⟨k,hk⟩:=hI l[j] (List.getElem_mem hjl)
  have e:(Cs.lst l).get j=I k:=by simp only [Cs.get,List.getD_eq_getElem?_getD,List.getElem?_eq_getElem hjl,Option.getD_some,hk]
  rw [e] at q2⊢
  cases q2
  exact .int _ _
 cases hv with
 |sl _ _ _ _ cap hd hc arr' t' ad ha hb hr'=>
  refine .ro es n (.lst l) (some ad) cap x (by simp [Cs.len];omega) hc hes (fun h0=>⟨ad,rfl,?_⟩) fun j hj=>k2 j (by simpa [Cs.len] using hj)
  have e:=ha (by omega)
  rw [show (ρ' id).add 0=ρ' id from rfl] at e
  subst e
  exact ⟨hlt,fun hb=>by omega,fun j hj=>k1 j (by simpa [Cs.len] using hj)⟩
theorem FnN.ofC {P:Program} {f:Nat} {args:List AV} {n t id es:Nat} {l:List AV} (h:FnO P f args (.sl es id 0 n) [(id, .cells t (.lst l))]) (hes:0<es) (hn:l.length=n*es) (hI: ∀x∈l,∃k,x=I k):FnN P f args (.ro es n (.lst l)):=by
 refine ⟨h.1,fun w Mx vs h1 h2 h3=>(h.2 w Mx vs h1 h2 h3).mono ?_⟩
 rintro e w' ⟨v,ρ',rfl,hs,hv⟩
 exact ⟨v,rfl,hs.below,yym hs hes hn hI hv⟩
theorem FnN.ofAB {P:Program} {f:Nat} {args:List AV} {n t id es:Nat} {b:Bool} {l:List AV} (h:FnO P f args (.agg [.sl es id 0 n, .bool b]) [(id, .cells t (.lst l))]) (hes:0<es) (hn:l.length=n*es) (hI: ∀x∈l,∃k,x=I k):FnN P f args (.agg [.ro es n (.lst l), .bool b]):=by
 refine ⟨h.1,fun w Mx vs h1 h2 h3=>(h.2 w Mx vs h1 h2 h3).mono ?_⟩
 rintro e w' ⟨v,ρ',rfl,hs,hv⟩
 refine ⟨v,rfl,hs.below,?_⟩
 cases hv with
 |agg vs xs hl hx=>
  refine .agg vs _ hl fun i v' x' hi hx'=>?_
  match i,hx' with
  |0,hx'=>
   cases hx'
   exact yym hs hes hn hI (hx 0 v' _ hi rfl)
  |1,hx'=>
   cases hx'
   have hv1:=hx 1 v' _ hi rfl
   cases hv1
   exact .bool _
  |i+2,hx'=>cases hx'
theorem FnN.le {P:Program} {f:Nat} {args:List AV} {r r':AV} (h:FnN P f args r) (hle:LeA r r'):FnN P f args r':=
 ⟨h.1,fun w Mx vs h1 h2 h3=>(h.2 w Mx vs h1 h2 h3).mono fun _ _ ⟨v,e1,e2,e3⟩=>⟨v,e1,e2,hle.out _ _ _ _ v e3⟩⟩
theorem FnN.ofE {P:Program} {f:Nat} {args:List AV} {b:Bool} (h:FnO P f args (.agg [.nils, .bool b]) []):FnN P f args (.agg [.nils, .bool b]):=by
 refine ⟨h.1,fun w Mx vs h1 h2 h3=>(h.2 w Mx vs h1 h2 h3).mono ?_⟩
 rintro e w' ⟨v,ρ',rfl,hs,hv⟩
 refine ⟨v,rfl,hs.below,?_⟩
 cases hv with
 |agg vs xs hl hx=>
  refine .agg vs _ hl fun i v' x' hi hx'=>?_
  match i,hx' with
  |0,hx'=>
   cases hx'
   have hv1:=hx 0 v' _ hi rfl
   cases hv1
   exact .nils
  |1,hx'=>
   cases hx'
   have hv1:=hx 1 v' _ hi rfl
   cases hv1
   exact .bool _
  |i+2,hx'=>cases hx'
end Go.Proofs.YtbblgobamoabkaaGreatDoor
