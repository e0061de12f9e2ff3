/- Layer 12: polynomials: sums. -/
import Derived.Test.YtngegnonblbdhaaDoorZc
set_option linter.unusedSimpArgs false
set_option linter.unusedVariables false
namespace Go.Proofs.YtngegnonblbdhaaDoor
open Go Go.RowKit
set_option maxRecDepth 100000
set_option maxHeartbeats 4000000
abbrev cmbH (g:Nat) (p q acc:List (Int×Int)) (fits:Bool):Hp:=[(6, .cells 4 (.lst [.bool fits])),(5, .cells 36 (.lst [.bool false, .sl 2 4 0 acc.length])),(4, .cells 57 (.lst (tmC acc))),(3, .cells 36 (.lst [.bool false, .nils])),(2, .cells 66 (.lst [.fn g []])),(1, .cells 36 (.lst [.bool false,tmA q])),(0, .cells 36 (.lst [.bool false,tmA p]))]
theorem yfo (fr:Fr) (K:AV->Fr->Hp->Prop) (g:Nat) (p q acc:List (Int×Int)) (fits:Bool) (e a b c:Int) (hg:Fn Tryd.prog g [I a,I b] (I c)) (hl:acc.length<=1000000)
  (hk0:c=0->K (.tup []) fr (cmbH g p q acc (fits&&fitB c 1125899906842624))) (hk1:c≠0->K (.tup []) (fcut 4 fr) [(4, .cells 57 (.lst (tmC (acc++[(e,c)])))),(7, .cells 57 (.lst [I e,I c])),(6, .cells 4 (.lst [.bool (fits&&fitB c 1125899906842624)])),(5, .cells 36 (.lst [.bool false, .sl 2 4 0 (acc.length+1)])),(3, .cells 36 (.lst [.bool false, .nils])),(2, .cells 66 (.lst [.fn g []])),(1, .cells 36 (.lst [.bool false,tmA q])),(0, .cells 36 (.lst [.bool false,tmA p]))]):ya7 Tryd.prog 58 [I e,I a,I b, .ptr 2 0, .ptr 6 0, .ptr 5 0] fr (cmbH g p q acc fits) K:=by
 unfold cmbH at*
 have hw:=yer c 1125899906842624 (by omega) (by omega)
 refine ya7.intro [] Tryd.func58 rfl rfl (by decide) (by simp [Tryd.ntmps58]) ?_;rw [Tryd.ntmps58]
 repeat' (first|omega|(try apply yaa);simp only [go_sem,sevalprocAttr]|apply yab<;>(intro h_;(try simp only [h_]);revert h_)|apply And.intro|with_reducible intro h_|trivial|simp only [go_sem,la2];omega)
 refine ⟨yad.fn rfl hg ?_⟩
 cases fits
 ·repeat' (first|omega|(try apply yaa);simp only [go_sem,sevalprocAttr]|apply yab<;>(intro h_;(try simp only [h_]);revert h_)|apply And.intro|with_reducible intro h_|trivial|simp only [go_sem,la2];omega)
  ·rw [yg3];exact hk1 (by assumption)
  ·exact hk0 (by assumption)
 ·repeat' (first|omega|(try apply yaa);simp only [go_sem,sevalprocAttr]|apply yab<;>(intro h_;(try simp only [h_]);revert h_)|apply And.intro|with_reducible intro h_|trivial|simp only [go_sem,la2];omega)
  refine ⟨yad.fn rfl hw ?_⟩
  repeat' (first|omega|(try apply yaa);simp only [go_sem,sevalprocAttr]|apply yab<;>(intro h_;(try simp only [h_]);revert h_)|apply And.intro|with_reducible intro h_|trivial|simp only [go_sem,la2];omega)
  ·rw [yg3];exact hk1 (by assumption)
  ·exact hk0 (by assumption)
theorem ymo {f:Int->Int->Int} {p q:List (Int×Int)} {i j:Nat} (hi:i<p.length) (h:j=q.length\/(p.getD i (0,0)).1<(q.getD j (0,0)).1) (hj:j<=q.length):mrg f (p.drop i) (q.drop j)=((p.getD i (0,0)).1,f (p.getD i (0,0)).2 0)::mrg f (p.drop (i+1)) (q.drop j):=by
 rw [List.drop_eq_getElem_cons hi]
 have e:p.getD i (0,0)=p[i]:=by simp [hi]
 rw [e] at h⊢
 rcases Nat.lt_or_ge j q.length with g|g
 ·rw [List.drop_eq_getElem_cons g]
  have e2:q.getD j (0,0)=q[j]:=by simp [g]
  rw [e2] at h
  conv=>lhs;unfold mrg
  rw [if_pos (by omega)]
 ·rw [List.drop_of_length_le g]
  conv=>lhs;unfold mrg
theorem ymp {f:Int->Int->Int} {p q:List (Int×Int)} {i j:Nat} (hj:j<q.length) (h:i=p.length\/(q.getD j (0,0)).1<(p.getD i (0,0)).1) (hi:i<=p.length):mrg f (p.drop i) (q.drop j)=((q.getD j (0,0)).1,f 0 (q.getD j (0,0)).2)::mrg f (p.drop i) (q.drop (j+1)):=by
 rw [List.drop_eq_getElem_cons hj]
 have e:q.getD j (0,0)=q[j]:=by simp [hj]
 rw [e] at h⊢
 rcases Nat.lt_or_ge i p.length with g|g
 ·rw [List.drop_eq_getElem_cons g]
  have e2:p.getD i (0,0)=p[i]:=by simp [g]
  rw [e2] at h
  conv=>lhs;unfold mrg
  rw [if_neg (by omega),if_pos (by omega)]
 ·rw [List.drop_of_length_le g]
  conv=>lhs;unfold mrg
theorem yt4 {f:Int->Int->Int} {p q:List (Int×Int)} {i j:Nat} (hi:i<p.length) (hj:j<q.length) (h:(q.getD j (0,0)).1=(p.getD i (0,0)).1):mrg f (p.drop i) (q.drop j)=((p.getD i (0,0)).1,f (p.getD i (0,0)).2 (q.getD j (0,0)).2)::mrg f (p.drop (i+1)) (q.drop (j+1)):=by
 rw [List.drop_eq_getElem_cons hi,List.drop_eq_getElem_cons hj]
 have e:p.getD i (0,0)=p[i]:=by simp [hi]
 have e2:q.getD j (0,0)=q[j]:=by simp [hj]
 rw [e,e2] at h⊢
 conv=>lhs;unfold mrg
 rw [if_neg (by omega),if_neg (by omega)]
theorem yfp {c e:Int} (l:List (Int×Int)) (h:c=0):nz (l++[(e,c)])=nz l:=by unfold nz;rw [List.filter_append];simp [h]
theorem yfq {c e:Int} (l:List (Int×Int)) (h:c≠0):nz (l++[(e,c)])=nz l++[(e,c)]:=by unfold nz;rw [List.filter_append];simp [h]
theorem ybq (l:List (Int×Int)) (e c:Int):yc2 (l++[(e,c)])=(yc2 l&&fitB c 1125899906842624):=by unfold yc2;simp
end Go.Proofs.YtngegnonblbdhaaDoor
set_option linter.unusedSimpArgs false
set_option linter.unusedVariables false
namespace Go.Proofs.YtngegnonblbdhaaDoor
open Go Go.RowKit
set_option maxRecDepth 100000
set_option maxHeartbeats 16000000
def yco:List (List Nat):=[[67,68,69],[66],[66],[66],[],[],[73,74,75],[72],[72],[72],[],[],[80,84,85,86,87,88,89],[80,84,85,86,87,88,89],[78,79,84,85,86,87,88,89],[84,85,86,87,88,89],[84,85,86,87,88,89],[84,85,86,87,88,89],[78,79,80,81,82,83,86],[78,79,80,81,82,83,86],[78,79,80,81,82,83,84,85],[78,79,80,81,82,83],[78,79,80,81,82,83],[78,79,80,81,82,83],[],[],[],[]]
def ycp:List (List Nat):=[[],[0],[0],[0],[],[],[],[6],[6],[6],[],[],[],[],[12,13],[],[],[],[12,13,14,15,16,17],[12,13,14,15,16,17],[12,13,14,15,16,17,18,19],[12,13,14,15,16,17],[12,13,14,15,16,17],[12,13,14,15,16,17],[],[],[],[]]
def ybi:List (List Nat):=[[94,95,96,97,98,99,100,101,102,103,104,105],[93,96,100,101,102,103,104,105],[93,96,100,101,102,103,104,105],[93,94,95,100,101,102,103,104,105],[93,100,101,102,103,104,105],[93,100,101,102,103,104,105],[93,100,101,102,103,104,105],[93,94,95,96,97,98,99,102],[93,94,95,96,97,98,99,102],[93,94,95,96,97,98,99,100,101],[93,94,95,96,97,98,99],[93,94,95,96,97,98,99],[93,94,95,96,97,98,99],[]]
def yay:List (List Nat):=[[],[0],[0],[0,1,2],[0],[0],[0],[0,1,2,3,4,5,6],[0,1,2,3,4,5,6],[0,1,2,3,4,5,6,7,8],[0,1,2,3,4,5,6],[0,1,2,3,4,5,6],[0,1,2,3,4,5,6],[]]
def ycq:List (List Nat):=[[111,112,113],[110],[110],[110],[],[],[118,122,123,124,125,126,127],[118,122,123,124,125,126,127],[116,117,122,123,124,125,126,127],[122,123,124,125,126,127],[122,123,124,125,126,127],[122,123,124,125,126,127],[116,117,118,119,120,121,124],[116,117,118,119,120,121,124],[116,117,118,119,120,121,122,123],[116,117,118,119,120,121],[116,117,118,119,120,121],[116,117,118,119,120,121],[],[],[]]
def ycr:List (List Nat):=[[],[0],[0],[0],[],[],[],[],[6,7],[],[],[],[6,7,8,9,10,11],[6,7,8,9,10,11],[6,7,8,9,10,11,12,13],[6,7,8,9,10,11],[6,7,8,9,10,11],[6,7,8,9,10,11],[],[],[]]
def ybj:List (List Nat):=[[131,132,133,134,135,136,137,138,139,140,141,142],[130,133,137,138,139,140,141,142],[130,133,137,138,139,140,141,142],[130,131,132,137,138,139,140,141,142],[130,137,138,139,140,141,142],[130,137,138,139,140,141,142],[130,137,138,139,140,141,142],[130,131,132,133,134,135,136,139],[130,131,132,133,134,135,136,139],[130,131,132,133,134,135,136,137,138],[130,131,132,133,134,135,136],[130,131,132,133,134,135,136],[130,131,132,133,134,135,136],[]]
def ybk:List (List Nat):=[[42,43,44,45,46,47,48,49,50,51,52,53,54,55,56,57,58,59],[41,44,48,49,50,51,52,53,54,55,56,57,58,59],[41,44,48,49,50,51,52,53,54,55,56,57,58,59],[41,42,43,48,49,50,51,52,53,54,55,56,57,58,59],[41,48,49,50,51,52,53,54,55,56,57,58,59],[41,48,49,50,51,52,53,54,55,56,57,58,59],[41,48,49,50,51,52,53,54,55,56,57,58,59],[41,42,43,44,45,46,47,50,54,55,56,57,58,59],[41,42,43,44,45,46,47,50,54,55,56,57,58,59],[41,42,43,44,45,46,47,48,49,54,55,56,57,58,59],[41,42,43,44,45,46,47,54,55,56,57,58,59],[41,42,43,44,45,46,47,54,55,56,57,58,59],[41,42,43,44,45,46,47,54,55,56,57,58,59],[41,42,43,44,45,46,47,48,49,50,51,52,53,56],[41,42,43,44,45,46,47,48,49,50,51,52,53,56],[41,42,43,44,45,46,47,48,49,50,51,52,53,54,55],[41,42,43,44,45,46,47,48,49,50,51,52,53],[41,42,43,44,45,46,47,48,49,50,51,52,53],[41,42,43,44,45,46,47,48,49,50,51,52,53],[]]
def ybl:List (List Nat):=[[],[0],[0],[0,1,2],[0],[0],[0],[0,1,2,3,4,5,6],[0,1,2,3,4,5,6],[0,1,2,3,4,5,6,7,8],[0,1,2,3,4,5,6],[0,1,2,3,4,5,6],[0,1,2,3,4,5,6],[0,1,2,3,4,5,6,7,8,9,10,11,12],[0,1,2,3,4,5,6,7,8,9,10,11,12],[0,1,2,3,4,5,6,7,8,9,10,11,12,13,14],[0,1,2,3,4,5,6,7,8,9,10,11,12],[0,1,2,3,4,5,6,7,8,9,10,11,12],[0,1,2,3,4,5,6,7,8,9,10,11,12],[]]
theorem yrx (p q:List (Int×Int)) (g:Nat) (f:Int->Int->Int) (hp:ye4 p) (hq:ye4 q) (hpl:p.length<=500000) (hql:q.length<=500000) (hg: ∀a b:Int,-1125899906842624<=a->a<=1125899906842624-> -1125899906842624<=b->b<=1125899906842624->Fn Tryd.prog g [I a,I b] (I (f a b))):
  Fn Tryd.prog 45 [plA false p,plA false q, .fn g []] (if yc2 (mrg f p q) then plA false (nz (mrg f p q)) else plA true []):=by
 refine Fn.introL [.cell 6 36] Tryd.func45 rfl rfl (by decide) (by simp [Tryd.ntmps45]) ?_;rw [Tryd.ntmps45]
 repeat' (first|omega|(first|apply yaa|(refine yac.intro (id:=11) yco ycp (by decide+kernel) mixed ?_)|(refine yac.intro (id:=12) ybi yay (by decide+kernel) mixed ?_)|(refine yac.introL (id:=12) ybi yay (by decide+kernel) mixed ?_)|(refine yac.intro (id:=14) ycq ycr (by decide+kernel) mixed ?_)|(refine yac.intro (id:=15) ybj yay (by decide+kernel) mixed ?_)|(refine yac.introL (id:=15) ybj yay (by decide+kernel) mixed ?_)|(refine yac.intro (id:=8) ybk ybl (by decide+kernel) mixed ?_)|(refine yac.introL (id:=8) ybk ybl (by decide+kernel) mixed ?_)|skip);simp only [go_sem,sevalprocAttr,↓reduceIte,reduceCtorEq,yco,ycp,ybi,yay,ycq,ycr,ybj,ybk,ybl]|apply yab<;>(intro h_;(try simp only [h_]);revert h_)|apply And.intro|with_reducible intro h_|trivial|simp only [go_sem,la2];omega)
 refine yak.intro (fun n fr H=> ∃(i j:Nat) (done:List (Int×Int)),i<=p.length/\j<=q.length/\n=(p.length-i)+(q.length-j)/\done.length<=i+j/\done++mrg f (p.drop i) (q.drop j)=mrg f p q/\fr=[(11,I j),(10,I i),(9, .fn 58 [.ptr 2 0, .ptr 6 0, .ptr 5 0]),(8, .ptr 6 0),(7, .ptr 5 0),(6, .ptr 3 0),(4, .ptr 1 0),(3, .ptr 0 0)]/\H=cmbH g p q (nz done) (yc2 done)) ?_ ?_
 ·refine ⟨_,_,_,?_,0,0,[],by omega,by omega,rfl,by simp,rfl,rfl,rfl⟩
  unfold cmbH
  refine Wk.sub ?_ ?_<;>simp only [go_sem,sevalprocAttr]
  all_goals simp [nz,yc2,tmC]
 rintro n fr H ⟨i,j,done,hi,hj,rfl,hdl,hdone,rfl,rfl⟩
 have hnl:(nz done).length<=1000000:=by have:=List.length_filter_le (fun t:Int×Int=>t.2 !=0) done;unfold nz;omega
 have t0:=fun h=>ydg p i h
 have t1:=fun h=>yfl p i h
 have u0:=fun h=>ydg q j h
 have u1:=fun h=>yfl q j h
 unfold cmbH
 by_cases hil:i<p.length
 ·have fp:=yet hp hil
  have t0:=t0 hil
  have t1:=t1 hil
  by_cases hjl:j<q.length
  ·have fq:=yet hq hjl
   have u0:=u0 hjl
   have u1:=u1 hjl
   by_cases he:(p.getD i (0,0)).1<(q.getD j (0,0)).1
   ·have bi:decide ((i:Int)<p.length)=true:=by simp;omega
    have bj:((j:Int)==q.length)=false:=by simp;omega
    have be1:decide ((p.getD i (0,0)).1<(q.getD j (0,0)).1)=true:=by exact decide_eq_true he
    repeat' (first|omega|(first|apply yaa|(refine yac.intro (id:=11) yco ycp (by decide+kernel) mixed ?_)|(refine yac.introL (id:=12) ybi yay (by decide+kernel) mixed ?_)|(refine yac.intro (id:=12) ybi yay (by decide+kernel) mixed ?_)|(refine yac.intro (id:=14) ycq ycr (by decide+kernel) mixed ?_)|(refine yac.introL (id:=15) ybj yay (by decide+kernel) mixed ?_)|(refine yac.intro (id:=15) ybj yay (by decide+kernel) mixed ?_)|(refine yac.introL (id:=8) ybk ybl (by decide+kernel) mixed ?_)|(refine yac.intro (id:=8) ybk ybl (by decide+kernel) mixed ?_)|skip);simp only [go_sem,sevalprocAttr,t0,t1,u0,u1,bi,bj,be1,↓reduceIte,reduceCtorEq,yco,ycp,ybi,yay,ycq,ycr,ybj,ybk,ybl]|apply yab<;>(intro h_;(try simp only [h_]);revert h_)|apply And.intro|with_reducible intro h_|trivial|simp only [go_sem,la2];omega)
    refine ⟨yad.inline (yfo _ _ g p q (nz done) (yc2 done) (p.getD i (0,0)).1 (p.getD i (0,0)).2 0 _ (hg _ _ (by omega) (by omega) (by omega) (by omega)) hnl (fun h0=>?_) (fun h1=>?_))⟩
    ·repeat' (first|omega|(try apply yaa);simp only [go_sem,sevalprocAttr]|apply yab<;>(intro h_;(try simp only [h_]);revert h_)|apply And.intro|with_reducible intro h_|trivial|simp only [go_sem,la2];omega)
     refine ⟨_,_,_,?_,?_,⟨i+1,j,done++[((p.getD i (0,0)).1,f (p.getD i (0,0)).2 0)],by omega,by omega,rfl,by simp;omega,by rw [←hdone,ymo hil (.inr he) hj];simp,rfl,rfl⟩⟩
     ·omega
     ·rw [yfp done h0,ybq]
      refine Wk.sub ?_ ?_<;>(simp only [go_sem,sevalprocAttr,List.length_append])
    ·repeat' (first|omega|(try apply yaa);simp only [go_sem,sevalprocAttr]|apply yab<;>(intro h_;(try simp only [h_]);revert h_)|apply And.intro|with_reducible intro h_|trivial|simp only [go_sem,la2];omega)
     refine ⟨_,_,_,?_,?_,⟨i+1,j,done++[((p.getD i (0,0)).1,f (p.getD i (0,0)).2 0)],by omega,by omega,rfl,by simp;omega,by rw [←hdone,ymo hil (.inr he) hj];simp,rfl,rfl⟩⟩
     ·omega
     ·rw [yfq done h1,ybq]
      refine Wk.sub ?_ ?_<;>(simp only [go_sem,sevalprocAttr,List.length_append])
   ·by_cases he2:(q.getD j (0,0)).1<(p.getD i (0,0)).1
    ·have bi:decide ((i:Int)<p.length)=true:=by simp;omega
     have bin:((i:Int)==p.length)=false:=by simp;omega
     have bj:((j:Int)==q.length)=false:=by simp;omega
     have be1:decide ((p.getD i (0,0)).1<(q.getD j (0,0)).1)=false:=by exact decide_eq_false (by omega)
     have be2:decide ((q.getD j (0,0)).1<(p.getD i (0,0)).1)=true:=by exact decide_eq_true he2
     repeat' (first|omega|(first|apply yaa|(refine yac.intro (id:=11) yco ycp (by decide+kernel) mixed ?_)|(refine yac.introL (id:=12) ybi yay (by decide+kernel) mixed ?_)|(refine yac.intro (id:=12) ybi yay (by decide+kernel) mixed ?_)|(refine yac.intro (id:=14) ycq ycr (by decide+kernel) mixed ?_)|(refine yac.introL (id:=15) ybj yay (by decide+kernel) mixed ?_)|(refine yac.intro (id:=15) ybj yay (by decide+kernel) mixed ?_)|(refine yac.introL (id:=8) ybk ybl (by decide+kernel) mixed ?_)|(refine yac.intro (id:=8) ybk ybl (by decide+kernel) mixed ?_)|skip);simp only [go_sem,sevalprocAttr,t0,t1,u0,u1,bi,bin,bj,be1,be2,↓reduceIte,reduceCtorEq,yco,ycp,ybi,yay,ycq,ycr,ybj,ybk,ybl]|apply yab<;>(intro h_;(try simp only [h_]);revert h_)|apply And.intro|with_reducible intro h_|trivial|simp only [go_sem,la2];omega)
     refine ⟨yad.inline (yfo _ _ g p q (nz done) (yc2 done) (q.getD j (0,0)).1 0 (q.getD j (0,0)).2 _ (hg _ _ (by omega) (by omega) (by omega) (by omega)) hnl (fun h0=>?_) (fun h1=>?_))⟩
     ·repeat' (first|omega|(try apply yaa);simp only [go_sem,sevalprocAttr]|apply yab<;>(intro h_;(try simp only [h_]);revert h_)|apply And.intro|with_reducible intro h_|trivial|simp only [go_sem,la2];omega)
      refine ⟨_,_,_,?_,?_,⟨i,j+1,done++[((q.getD j (0,0)).1,f 0 (q.getD j (0,0)).2)],by omega,by omega,rfl,by simp;omega,by rw [←hdone,ymp hjl (.inr he2) hi];simp,rfl,rfl⟩⟩
      ·omega
      ·rw [yfp done h0,ybq]
       refine Wk.sub ?_ ?_<;>(simp only [go_sem,sevalprocAttr,List.length_append])
     ·repeat' (first|omega|(try apply yaa);simp only [go_sem,sevalprocAttr]|apply yab<;>(intro h_;(try simp only [h_]);revert h_)|apply And.intro|with_reducible intro h_|trivial|simp only [go_sem,la2];omega)
      refine ⟨_,_,_,?_,?_,⟨i,j+1,done++[((q.getD j (0,0)).1,f 0 (q.getD j (0,0)).2)],by omega,by omega,rfl,by simp;omega,by rw [←hdone,ymp hjl (.inr he2) hi];simp,rfl,rfl⟩⟩
      ·omega
      ·rw [yfq done h1,ybq]
       refine Wk.sub ?_ ?_<;>(simp only [go_sem,sevalprocAttr,List.length_append])
    ·have bi:decide ((i:Int)<p.length)=true:=by simp;omega
     have bin:((i:Int)==p.length)=false:=by simp;omega
     have bj:((j:Int)==q.length)=false:=by simp;omega
     have be1:decide ((p.getD i (0,0)).1<(q.getD j (0,0)).1)=false:=by exact decide_eq_false (by omega)
     have be2:decide ((q.getD j (0,0)).1<(p.getD i (0,0)).1)=false:=by exact decide_eq_false (by omega)
     repeat' (first|omega|(first|apply yaa|(refine yac.intro (id:=11) yco ycp (by decide+kernel) mixed ?_)|(refine yac.introL (id:=12) ybi yay (by decide+kernel) mixed ?_)|(refine yac.intro (id:=12) ybi yay (by decide+kernel) mixed ?_)|(refine yac.intro (id:=14) ycq ycr (by decide+kernel) mixed ?_)|(refine yac.introL (id:=15) ybj yay (by decide+kernel) mixed ?_)|(refine yac.intro (id:=15) ybj yay (by decide+kernel) mixed ?_)|(refine yac.introL (id:=8) ybk ybl (by decide+kernel) mixed ?_)|(refine yac.intro (id:=8) ybk ybl (by decide+kernel) mixed ?_)|skip);simp only [go_sem,sevalprocAttr,t0,t1,u0,u1,bi,bin,bj,be1,be2,↓reduceIte,reduceCtorEq,yco,ycp,ybi,yay,ycq,ycr,ybj,ybk,ybl]|apply yab<;>(intro h_;(try simp only [h_]);revert h_)|apply And.intro|with_reducible intro h_|trivial|simp only [go_sem,la2];omega)
     refine ⟨yad.inline (yfo _ _ g p q (nz done) (yc2 done) (p.getD i (0,0)).1 (p.getD i (0,0)).2 (q.getD j (0,0)).2 _ (hg _ _ (by omega) (by omega) (by omega) (by omega)) hnl (fun h0=>?_) (fun h1=>?_))⟩
     ·repeat' (first|omega|(try apply yaa);simp only [go_sem,sevalprocAttr]|apply yab<;>(intro h_;(try simp only [h_]);revert h_)|apply And.intro|with_reducible intro h_|trivial|simp only [go_sem,la2];omega)
      refine ⟨_,_,_,?_,?_,⟨i+1,j+1,done++[((p.getD i (0,0)).1,f (p.getD i (0,0)).2 (q.getD j (0,0)).2)],by omega,by omega,rfl,by simp;omega,by rw [←hdone,yt4 hil hjl (by omega)];simp,rfl,rfl⟩⟩
      ·omega
      ·rw [yfp done h0,ybq]
       refine Wk.sub ?_ ?_<;>(simp only [go_sem,sevalprocAttr,List.length_append])
     ·repeat' (first|omega|(try apply yaa);simp only [go_sem,sevalprocAttr]|apply yab<;>(intro h_;(try simp only [h_]);revert h_)|apply And.intro|with_reducible intro h_|trivial|simp only [go_sem,la2];omega)
      refine ⟨_,_,_,?_,?_,⟨i+1,j+1,done++[((p.getD i (0,0)).1,f (p.getD i (0,0)).2 (q.getD j (0,0)).2)],by omega,by omega,rfl,by simp;omega,by rw [←hdone,yt4 hil hjl (by omega)];simp,rfl,rfl⟩⟩
      ·omega
      ·rw [yfq done h1,ybq]
       refine Wk.sub ?_ ?_<;>(simp only [go_sem,sevalprocAttr,List.length_append])
  ·obtain rfl:j=q.length:=by omega
   have bi:decide ((i:Int)<p.length)=true:=by simp;omega
   have bj:((q.length:Int)==q.length)=true:=by simp
   repeat' (first|omega|(first|apply yaa|(refine yac.intro (id:=11) yco ycp (by decide+kernel) mixed ?_)|(refine yac.introL (id:=12) ybi yay (by decide+kernel) mixed ?_)|(refine yac.intro (id:=12) ybi yay (by decide+kernel) mixed ?_)|(refine yac.intro (id:=14) ycq ycr (by decide+kernel) mixed ?_)|(refine yac.introL (id:=15) ybj yay (by decide+kernel) mixed ?_)|(refine yac.intro (id:=15) ybj yay (by decide+kernel) mixed ?_)|(refine yac.introL (id:=8) ybk ybl (by decide+kernel) mixed ?_)|(refine yac.intro (id:=8) ybk ybl (by decide+kernel) mixed ?_)|skip);simp only [go_sem,sevalprocAttr,t0,t1,bi,bj,↓reduceIte,reduceCtorEq,yco,ycp,ybi,yay,ycq,ycr,ybj,ybk,ybl]|apply yab<;>(intro h_;(try simp only [h_]);revert h_)|apply And.intro|with_reducible intro h_|trivial|simp only [go_sem,la2];omega)
   refine ⟨yad.inline (yfo _ _ g p q (nz done) (yc2 done) (p.getD i (0,0)).1 (p.getD i (0,0)).2 0 _ (hg _ _ (by omega) (by omega) (by omega) (by omega)) hnl (fun h0=>?_) (fun h1=>?_))⟩
   ·repeat' (first|omega|(try apply yaa);simp only [go_sem,sevalprocAttr]|apply yab<;>(intro h_;(try simp only [h_]);revert h_)|apply And.intro|with_reducible intro h_|trivial|simp only [go_sem,la2];omega)
    refine ⟨_,_,_,?_,?_,⟨i+1,q.length,done++[((p.getD i (0,0)).1,f (p.getD i (0,0)).2 0)],by omega,by omega,rfl,by simp;omega,by rw [←hdone,ymo hil (.inl rfl) hj];simp,rfl,rfl⟩⟩
    ·omega
    ·rw [yfp done h0,ybq]
     refine Wk.sub ?_ ?_<;>(simp only [go_sem,sevalprocAttr,List.length_append])
   ·repeat' (first|omega|(try apply yaa);simp only [go_sem,sevalprocAttr]|apply yab<;>(intro h_;(try simp only [h_]);revert h_)|apply And.intro|with_reducible intro h_|trivial|simp only [go_sem,la2];omega)
    refine ⟨_,_,_,?_,?_,⟨i+1,q.length,done++[((p.getD i (0,0)).1,f (p.getD i (0,0)).2 0)],by omega,by omega,rfl,by simp;omega,by rw [←hdone,ymo hil (.inl rfl) hj];simp,rfl,rfl⟩⟩
    ·omega
    ·rw [yfq done h1,ybq]
     refine Wk.sub ?_ ?_<;>(simp only [go_sem,sevalprocAttr,List.length_append])
 ·obtain rfl:i=p.length:=by omega
  by_cases hjl:j<q.length
  ·have fq:=yet hq hjl
   have u0:=u0 hjl
   have u1:=u1 hjl
   have bi:decide ((p.length:Int)<p.length)=false:=by simp
   have bin:((p.length:Int)==p.length)=true:=by simp
   have bj:((j:Int)==q.length)=false:=by simp;omega
   have bjl:decide ((j:Int)<q.length)=true:=by simp;omega
   repeat' (first|omega|(first|apply yaa|(refine yac.intro (id:=11) yco ycp (by decide+kernel) mixed ?_)|(refine yac.introL (id:=12) ybi yay (by decide+kernel) mixed ?_)|(refine yac.intro (id:=12) ybi yay (by decide+kernel) mixed ?_)|(refine yac.intro (id:=14) ycq ycr (by decide+kernel) mixed ?_)|(refine yac.introL (id:=15) ybj yay (by decide+kernel) mixed ?_)|(refine yac.intro (id:=15) ybj yay (by decide+kernel) mixed ?_)|(refine yac.introL (id:=8) ybk ybl (by decide+kernel) mixed ?_)|(refine yac.intro (id:=8) ybk ybl (by decide+kernel) mixed ?_)|skip);simp only [go_sem,sevalprocAttr,u0,u1,bi,bin,bj,bjl,↓reduceIte,reduceCtorEq,yco,ycp,ybi,yay,ycq,ycr,ybj,ybk,ybl]|apply yab<;>(intro h_;(try simp only [h_]);revert h_)|apply And.intro|with_reducible intro h_|trivial|simp only [go_sem,la2];omega)
   refine ⟨yad.inline (yfo _ _ g p q (nz done) (yc2 done) (q.getD j (0,0)).1 0 (q.getD j (0,0)).2 _ (hg _ _ (by omega) (by omega) (by omega) (by omega)) hnl (fun h0=>?_) (fun h1=>?_))⟩
   ·repeat' (first|omega|(try apply yaa);simp only [go_sem,sevalprocAttr]|apply yab<;>(intro h_;(try simp only [h_]);revert h_)|apply And.intro|with_reducible intro h_|trivial|simp only [go_sem,la2];omega)
    refine ⟨_,_,_,?_,?_,⟨p.length,j+1,done++[((q.getD j (0,0)).1,f 0 (q.getD j (0,0)).2)],by omega,by omega,rfl,by simp;omega,by rw [←hdone,ymp hjl (.inl rfl) hi];simp,rfl,rfl⟩⟩
    ·omega
    ·rw [yfp done h0,ybq]
     refine Wk.sub ?_ ?_<;>(simp only [go_sem,sevalprocAttr,List.length_append])
   ·repeat' (first|omega|(try apply yaa);simp only [go_sem,sevalprocAttr]|apply yab<;>(intro h_;(try simp only [h_]);revert h_)|apply And.intro|with_reducible intro h_|trivial|simp only [go_sem,la2];omega)
    refine ⟨_,_,_,?_,?_,⟨p.length,j+1,done++[((q.getD j (0,0)).1,f 0 (q.getD j (0,0)).2)],by omega,by omega,rfl,by simp;omega,by rw [←hdone,ymp hjl (.inl rfl) hi];simp,rfl,rfl⟩⟩
    ·omega
    ·rw [yfq done h1,ybq]
     refine Wk.sub ?_ ?_<;>(simp only [go_sem,sevalprocAttr,List.length_append])
  ·obtain rfl:j=q.length:=by omega
   rw [List.drop_length,List.drop_length] at hdone
   have hd:mrg f p q=done:=by rw [←hdone];simp [mrg]
   rw [hd]
   repeat' (first|omega|(try apply yaa);simp only [go_sem,sevalprocAttr]|apply yab<;>(intro h_;(try simp only [h_]);revert h_)|apply And.intro|with_reducible intro h_|trivial|simp only [go_sem,la2];omega)
   all_goals first
    |(rw [if_pos (by assumption)];exact LeA.refl _)
    |(rw [if_neg (by simp only [*];decide)];exact LeA.aggL (.cons (LeA.refl _) (.cons (LeA.nils (by omega) rfl) .nil)))
    |(rw [if_pos (by assumption),List.take_of_length_le (by rw [yb9];omega)];exact LeA.refl _)
end Go.Proofs.YtngegnonblbdhaaDoor
