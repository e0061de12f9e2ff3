/- Layer 12: polynomials combined. -/
import Derived.Test.YtbblgobamoabkaaGreatDoorZz
set_option linter.unusedSimpArgs false
set_option linter.unusedVariables false
namespace Go.Proofs.YtbblgobamoabkaaGreatDoor
open Go Go.RowKit
set_option maxRecDepth 100000
set_option maxHeartbeats 16000000
def yda:List (List Nat):=[[67,68,69],[66],[66],[66],[],[],[73,74,75],[72],[72],[72],[],[],[80,84,85,86,87,88,89],[80,84,85,86,87,88,89],[78,79,84,85,86,87,88,89],[84,85,86,87,88,89],[84,85,86,87,88,89],[84,85,86,87,88,89],[78,79,80,81,82,83,86],[78,79,80,81,82,83,86],[78,79,80,81,82,83,84,85],[78,79,80,81,82,83],[78,79,80,81,82,83],[78,79,80,81,82,83],[],[],[],[]]
def ydb:List (List Nat):=[[],[0],[0],[0],[],[],[],[6],[6],[6],[],[],[],[],[12,13],[],[],[],[12,13,14,15,16,17],[12,13,14,15,16,17],[12,13,14,15,16,17,18,19],[12,13,14,15,16,17],[12,13,14,15,16,17],[12,13,14,15,16,17],[],[],[],[]]
def yb4:List (List Nat):=[[94,95,96,97,98,99,100,101,102,103,104,105],[93,96,100,101,102,103,104,105],[93,96,100,101,102,103,104,105],[93,94,95,100,101,102,103,104,105],[93,100,101,102,103,104,105],[93,100,101,102,103,104,105],[93,100,101,102,103,104,105],[93,94,95,96,97,98,99,102],[93,94,95,96,97,98,99,102],[93,94,95,96,97,98,99,100,101],[93,94,95,96,97,98,99],[93,94,95,96,97,98,99],[93,94,95,96,97,98,99],[]]
def ya8:List (List Nat):=[[],[0],[0],[0,1,2],[0],[0],[0],[0,1,2,3,4,5,6],[0,1,2,3,4,5,6],[0,1,2,3,4,5,6,7,8],[0,1,2,3,4,5,6],[0,1,2,3,4,5,6],[0,1,2,3,4,5,6],[]]
def ydc:List (List Nat):=[[111,112,113],[110],[110],[110],[],[],[118,122,123,124,125,126,127],[118,122,123,124,125,126,127],[116,117,122,123,124,125,126,127],[122,123,124,125,126,127],[122,123,124,125,126,127],[122,123,124,125,126,127],[116,117,118,119,120,121,124],[116,117,118,119,120,121,124],[116,117,118,119,120,121,122,123],[116,117,118,119,120,121],[116,117,118,119,120,121],[116,117,118,119,120,121],[],[],[]]
def ydd:List (List Nat):=[[],[0],[0],[0],[],[],[],[],[6,7],[],[],[],[6,7,8,9,10,11],[6,7,8,9,10,11],[6,7,8,9,10,11,12,13],[6,7,8,9,10,11],[6,7,8,9,10,11],[6,7,8,9,10,11],[],[],[]]
def yb5:List (List Nat):=[[131,132,133,134,135,136,137,138,139,140,141,142],[130,133,137,138,139,140,141,142],[130,133,137,138,139,140,141,142],[130,131,132,137,138,139,140,141,142],[130,137,138,139,140,141,142],[130,137,138,139,140,141,142],[130,137,138,139,140,141,142],[130,131,132,133,134,135,136,139],[130,131,132,133,134,135,136,139],[130,131,132,133,134,135,136,137,138],[130,131,132,133,134,135,136],[130,131,132,133,134,135,136],[130,131,132,133,134,135,136],[]]
def yb6:List (List Nat):=[[42,43,44,45,46,47,48,49,50,51,52,53,54,55,56,57,58,59],[41,44,48,49,50,51,52,53,54,55,56,57,58,59],[41,44,48,49,50,51,52,53,54,55,56,57,58,59],[41,42,43,48,49,50,51,52,53,54,55,56,57,58,59],[41,48,49,50,51,52,53,54,55,56,57,58,59],[41,48,49,50,51,52,53,54,55,56,57,58,59],[41,48,49,50,51,52,53,54,55,56,57,58,59],[41,42,43,44,45,46,47,50,54,55,56,57,58,59],[41,42,43,44,45,46,47,50,54,55,56,57,58,59],[41,42,43,44,45,46,47,48,49,54,55,56,57,58,59],[41,42,43,44,45,46,47,54,55,56,57,58,59],[41,42,43,44,45,46,47,54,55,56,57,58,59],[41,42,43,44,45,46,47,54,55,56,57,58,59],[41,42,43,44,45,46,47,48,49,50,51,52,53,56],[41,42,43,44,45,46,47,48,49,50,51,52,53,56],[41,42,43,44,45,46,47,48,49,50,51,52,53,54,55],[41,42,43,44,45,46,47,48,49,50,51,52,53],[41,42,43,44,45,46,47,48,49,50,51,52,53],[41,42,43,44,45,46,47,48,49,50,51,52,53],[]]
def yb7:List (List Nat):=[[],[0],[0],[0,1,2],[0],[0],[0],[0,1,2,3,4,5,6],[0,1,2,3,4,5,6],[0,1,2,3,4,5,6,7,8],[0,1,2,3,4,5,6],[0,1,2,3,4,5,6],[0,1,2,3,4,5,6],[0,1,2,3,4,5,6,7,8,9,10,11,12],[0,1,2,3,4,5,6,7,8,9,10,11,12],[0,1,2,3,4,5,6,7,8,9,10,11,12,13,14],[0,1,2,3,4,5,6,7,8,9,10,11,12],[0,1,2,3,4,5,6,7,8,9,10,11,12],[0,1,2,3,4,5,6,7,8,9,10,11,12],[]]
theorem ymg (p q:List (Int×Int)) (g:Nat) (f:Int->Int->Int) (hp:yev p) (hq:yev q) (hpl:p.length<=500000) (hql:q.length<=500000) (hg: ∀a b:Int,-1125899906842624<=a->a<=1125899906842624-> -1125899906842624<=b->b<=1125899906842624->Fn Tryz.prog g [I a,I b] (I (f a b))):
  Fn Tryz.prog 60 [plA false p,plA false q, .fn g []] (if ycd (mrg f p q) then plA false (nz (mrg f p q)) else plA true []):=by
 refine Fn.introL [.cell 6 47] Tryz.func60 rfl rfl (by decide) (by simp [Tryz.ntmps60]) ?_;rw [Tryz.ntmps60]
 repeat' (first|omega|(first|apply yaa|(refine yac.intro (id:=11) yda ydb (by decide+kernel) mixed ?_)|(refine yac.intro (id:=12) yb4 ya8 (by decide+kernel) mixed ?_)|(refine yac.introL (id:=12) yb4 ya8 (by decide+kernel) mixed ?_)|(refine yac.intro (id:=14) ydc ydd (by decide+kernel) mixed ?_)|(refine yac.intro (id:=15) yb5 ya8 (by decide+kernel) mixed ?_)|(refine yac.introL (id:=15) yb5 ya8 (by decide+kernel) mixed ?_)|(refine yac.intro (id:=8) yb6 yb7 (by decide+kernel) mixed ?_)|(refine yac.introL (id:=8) yb6 yb7 (by decide+kernel) mixed ?_)|skip);simp only [go_sem,sevalprocAttr,↓reduceIte,reduceCtorEq,yda,ydb,yb4,ya8,ydc,ydd,yb5,yb6,yb7]|apply yab<;>(intro h_;(try simp only [h_]);revert h_)|apply And.intro|with_reducible intro h_|trivial|simp only [go_sem,la2];omega)
 refine yal.intro (fun n fr H=> ∃(i j:Nat) (done:List (Int×Int)),i<=p.length/\j<=q.length/\n=(p.length-i)+(q.length-j)/\done.length<=i+j/\done++mrg f (p.drop i) (q.drop j)=mrg f p q/\fr=[(11,I j),(10,I i),(9, .fn 101 [.ptr 2 0, .ptr 6 0, .ptr 5 0]),(8, .ptr 6 0),(7, .ptr 5 0),(6, .ptr 3 0),(4, .ptr 1 0),(3, .ptr 0 0)]/\H=cmbH g p q (nz done) (ycd done)) ?_ ?_
 ·refine ⟨_,_,_,?_,0,0,[],by omega,by omega,rfl,by simp,rfl,rfl,rfl⟩
  unfold cmbH
  refine Wk.sub ?_ ?_<;>simp only [go_sem,sevalprocAttr]
  all_goals simp [nz,ycd,tmC]
 rintro n fr H ⟨i,j,done,hi,hj,rfl,hdl,hdone,rfl,rfl⟩
 have hnl:(nz done).length<=1000000:=by have:=List.length_filter_le (fun t:Int×Int=>t.2 !=0) done;unfold nz;omega
 have t0:=fun h=>ybk p i h
 have t1:=fun h=>ycw p i h
 have u0:=fun h=>ybk q j h
 have u1:=fun h=>ycw q j h
 unfold cmbH
 by_cases hil:i<p.length
 ·have fp:=yfp hp hil
  have t0:=t0 hil
  have t1:=t1 hil
  by_cases hjl:j<q.length
  ·have fq:=yfp hq hjl
   have u0:=u0 hjl
   have u1:=u1 hjl
   by_cases he:(p.getD i (0,0)).1<(q.getD j (0,0)).1
   ·have bi:decide ((i:Int)<p.length)=true:=by simp;omega
    have bj:((j:Int)==q.length)=false:=by simp;omega
    have be1:decide ((p.getD i (0,0)).1<(q.getD j (0,0)).1)=true:=by exact decide_eq_true he
    repeat' (first|omega|(first|apply yaa|(refine yac.intro (id:=11) yda ydb (by decide+kernel) mixed ?_)|(refine yac.introL (id:=12) yb4 ya8 (by decide+kernel) mixed ?_)|(refine yac.intro (id:=12) yb4 ya8 (by decide+kernel) mixed ?_)|(refine yac.intro (id:=14) ydc ydd (by decide+kernel) mixed ?_)|(refine yac.introL (id:=15) yb5 ya8 (by decide+kernel) mixed ?_)|(refine yac.intro (id:=15) yb5 ya8 (by decide+kernel) mixed ?_)|(refine yac.introL (id:=8) yb6 yb7 (by decide+kernel) mixed ?_)|(refine yac.intro (id:=8) yb6 yb7 (by decide+kernel) mixed ?_)|skip);simp only [go_sem,sevalprocAttr,t0,t1,u0,u1,bi,bj,be1,↓reduceIte,reduceCtorEq,yda,ydb,yb4,ya8,ydc,ydd,yb5,yb6,yb7]|apply yab<;>(intro h_;(try simp only [h_]);revert h_)|apply And.intro|with_reducible intro h_|trivial|simp only [go_sem,la2];omega)
    refine ⟨yad.inline (ygs _ _ g p q (nz done) (ycd done) (p.getD i (0,0)).1 (p.getD i (0,0)).2 0 _ (hg _ _ (by omega) (by omega) (by omega) (by omega)) hnl (fun h0=>?_) (fun h1=>?_))⟩
    ·repeat' (first|omega|(try apply yaa);simp only [go_sem,sevalprocAttr]|apply yab<;>(intro h_;(try simp only [h_]);revert h_)|apply And.intro|with_reducible intro h_|trivial|simp only [go_sem,la2];omega)
     refine ⟨_,_,_,?_,?_,⟨i+1,j,done++[((p.getD i (0,0)).1,f (p.getD i (0,0)).2 0)],by omega,by omega,rfl,by simp;omega,by rw [←hdone,yox hil (.inr he) hj];simp,rfl,rfl⟩⟩
     ·omega
     ·rw [ygt done h0,yb9]
      refine Wk.sub ?_ ?_<;>(simp only [go_sem,sevalprocAttr,List.length_append])
    ·repeat' (first|omega|(try apply yaa);simp only [go_sem,sevalprocAttr]|apply yab<;>(intro h_;(try simp only [h_]);revert h_)|apply And.intro|with_reducible intro h_|trivial|simp only [go_sem,la2];omega)
     refine ⟨_,_,_,?_,?_,⟨i+1,j,done++[((p.getD i (0,0)).1,f (p.getD i (0,0)).2 0)],by omega,by omega,rfl,by simp;omega,by rw [←hdone,yox hil (.inr he) hj];simp,rfl,rfl⟩⟩
     ·omega
     ·rw [ygu done h1,yb9]
      refine Wk.sub ?_ ?_<;>(simp only [go_sem,sevalprocAttr,List.length_append])
   ·by_cases he2:(q.getD j (0,0)).1<(p.getD i (0,0)).1
    ·have bi:decide ((i:Int)<p.length)=true:=by simp;omega
     have bin:((i:Int)==p.length)=false:=by simp;omega
     have bj:((j:Int)==q.length)=false:=by simp;omega
     have be1:decide ((p.getD i (0,0)).1<(q.getD j (0,0)).1)=false:=by exact decide_eq_false (by omega)
     have be2:decide ((q.getD j (0,0)).1<(p.getD i (0,0)).1)=true:=by exact decide_eq_true he2
     repeat' (first|omega|(first|apply yaa|(refine yac.intro (id:=11) yda ydb (by decide+kernel) mixed ?_)|(refine yac.introL (id:=12) yb4 ya8 (by decide+kernel) mixed ?_)|(refine yac.intro (id:=12) yb4 ya8 (by decide+kernel) mixed ?_)|(refine yac.intro (id:=14) ydc ydd (by decide+kernel) mixed ?_)|(refine yac.introL (id:=15) yb5 ya8 (by decide+kernel) mixed ?_)|(refine yac.intro (id:=15) yb5 ya8 (by decide+kernel) mixed ?_)|(refine yac.introL (id:=8) yb6 yb7 (by decide+kernel) mixed ?_)|(refine yac.intro (id:=8) yb6 yb7 (by decide+kernel) mixed ?_)|skip);simp only [go_sem,sevalprocAttr,t0,t1,u0,u1,bi,bin,bj,be1,be2,↓reduceIte,reduceCtorEq,yda,ydb,yb4,ya8,ydc,ydd,yb5,yb6,yb7]|apply yab<;>(intro h_;(try simp only [h_]);revert h_)|apply And.intro|with_reducible intro h_|trivial|simp only [go_sem,la2];omega)
     refine ⟨yad.inline (ygs _ _ g p q (nz done) (ycd done) (q.getD j (0,0)).1 0 (q.getD j (0,0)).2 _ (hg _ _ (by omega) (by omega) (by omega) (by omega)) hnl (fun h0=>?_) (fun h1=>?_))⟩
     ·repeat' (first|omega|(try apply yaa);simp only [go_sem,sevalprocAttr]|apply yab<;>(intro h_;(try simp only [h_]);revert h_)|apply And.intro|with_reducible intro h_|trivial|simp only [go_sem,la2];omega)
      refine ⟨_,_,_,?_,?_,⟨i,j+1,done++[((q.getD j (0,0)).1,f 0 (q.getD j (0,0)).2)],by omega,by omega,rfl,by simp;omega,by rw [←hdone,yoy hjl (.inr he2) hi];simp,rfl,rfl⟩⟩
      ·omega
      ·rw [ygt done h0,yb9]
       refine Wk.sub ?_ ?_<;>(simp only [go_sem,sevalprocAttr,List.length_append])
     ·repeat' (first|omega|(try apply yaa);simp only [go_sem,sevalprocAttr]|apply yab<;>(intro h_;(try simp only [h_]);revert h_)|apply And.intro|with_reducible intro h_|trivial|simp only [go_sem,la2];omega)
      refine ⟨_,_,_,?_,?_,⟨i,j+1,done++[((q.getD j (0,0)).1,f 0 (q.getD j (0,0)).2)],by omega,by omega,rfl,by simp;omega,by rw [←hdone,yoy hjl (.inr he2) hi];simp,rfl,rfl⟩⟩
      ·omega
      ·rw [ygu done h1,yb9]
       refine Wk.sub ?_ ?_<;>(simp only [go_sem,sevalprocAttr,List.length_append])
    ·have bi:decide ((i:Int)<p.length)=true:=by simp;omega
     have bin:((i:Int)==p.length)=false:=by simp;omega
     have bj:((j:Int)==q.length)=false:=by simp;omega
     have be1:decide ((p.getD i (0,0)).1<(q.getD j (0,0)).1)=false:=by exact decide_eq_false (by omega)
     have be2:decide ((q.getD j (0,0)).1<(p.getD i (0,0)).1)=false:=by exact decide_eq_false (by omega)
     repeat' (first|omega|(first|apply yaa|(refine yac.intro (id:=11) yda ydb (by decide+kernel) mixed ?_)|(refine yac.introL (id:=12) yb4 ya8 (by decide+kernel) mixed ?_)|(refine yac.intro (id:=12) yb4 ya8 (by decide+kernel) mixed ?_)|(refine yac.intro (id:=14) ydc ydd (by decide+kernel) mixed ?_)|(refine yac.introL (id:=15) yb5 ya8 (by decide+kernel) mixed ?_)|(refine yac.intro (id:=15) yb5 ya8 (by decide+kernel) mixed ?_)|(refine yac.introL (id:=8) yb6 yb7 (by decide+kernel) mixed ?_)|(refine yac.intro (id:=8) yb6 yb7 (by decide+kernel) mixed ?_)|skip);simp only [go_sem,sevalprocAttr,t0,t1,u0,u1,bi,bin,bj,be1,be2,↓reduceIte,reduceCtorEq,yda,ydb,yb4,ya8,ydc,ydd,yb5,yb6,yb7]|apply yab<;>(intro h_;(try simp only [h_]);revert h_)|apply And.intro|with_reducible intro h_|trivial|simp only [go_sem,la2];omega)
     refine ⟨yad.inline (ygs _ _ g p q (nz done) (ycd done) (p.getD i (0,0)).1 (p.getD i (0,0)).2 (q.getD j (0,0)).2 _ (hg _ _ (by omega) (by omega) (by omega) (by omega)) hnl (fun h0=>?_) (fun h1=>?_))⟩
     ·repeat' (first|omega|(try apply yaa);simp only [go_sem,sevalprocAttr]|apply yab<;>(intro h_;(try simp only [h_]);revert h_)|apply And.intro|with_reducible intro h_|trivial|simp only [go_sem,la2];omega)
      refine ⟨_,_,_,?_,?_,⟨i+1,j+1,done++[((p.getD i (0,0)).1,f (p.getD i (0,0)).2 (q.getD j (0,0)).2)],by omega,by omega,rfl,by simp;omega,by rw [←hdone,yy6 hil hjl (by omega)];simp,rfl,rfl⟩⟩
      ·omega
      ·rw [ygt done h0,yb9]
       refine Wk.sub ?_ ?_<;>(simp only [go_sem,sevalprocAttr,List.length_append])
     ·repeat' (first|omega|(try apply yaa);simp only [go_sem,sevalprocAttr]|apply yab<;>(intro h_;(try simp only [h_]);revert h_)|apply And.intro|with_reducible intro h_|trivial|simp only [go_sem,la2];omega)
      refine ⟨_,_,_,?_,?_,⟨i+1,j+1,done++[((p.getD i (0,0)).1,f (p.getD i (0,0)).2 (q.getD j (0,0)).2)],by omega,by omega,rfl,by simp;omega,by rw [←hdone,yy6 hil hjl (by omega)];simp,rfl,rfl⟩⟩
      ·omega
      ·rw [ygu done h1,yb9]
       refine Wk.sub ?_ ?_<;>(simp only [go_sem,sevalprocAttr,List.length_append])
  ·obtain rfl:j=q.length:=by omega
   have bi:decide ((i:Int)<p.length)=true:=by simp;omega
   have bj:((q.length:Int)==q.length)=true:=by simp
   repeat' (first|omega|(first|apply yaa|(refine yac.intro (id:=11) yda ydb (by decide+kernel) mixed ?_)|(refine yac.introL (id:=12) yb4 ya8 (by decide+kernel) mixed ?_)|(refine yac.intro (id:=12) yb4 ya8 (by decide+kernel) mixed ?_)|(refine yac.intro (id:=14) ydc ydd (by decide+kernel) mixed ?_)|(refine yac.introL (id:=15) yb5 ya8 (by decide+kernel) mixed ?_)|(refine yac.intro (id:=15) yb5 ya8 (by decide+kernel) mixed ?_)|(refine yac.introL (id:=8) yb6 yb7 (by decide+kernel) mixed ?_)|(refine yac.intro (id:=8) yb6 yb7 (by decide+kernel) mixed ?_)|skip);simp only [go_sem,sevalprocAttr,t0,t1,bi,bj,↓reduceIte,reduceCtorEq,yda,ydb,yb4,ya8,ydc,ydd,yb5,yb6,yb7]|apply yab<;>(intro h_;(try simp only [h_]);revert h_)|apply And.intro|with_reducible intro h_|trivial|simp only [go_sem,la2];omega)
   refine ⟨yad.inline (ygs _ _ g p q (nz done) (ycd done) (p.getD i (0,0)).1 (p.getD i (0,0)).2 0 _ (hg _ _ (by omega) (by omega) (by omega) (by omega)) hnl (fun h0=>?_) (fun h1=>?_))⟩
   ·repeat' (first|omega|(try apply yaa);simp only [go_sem,sevalprocAttr]|apply yab<;>(intro h_;(try simp only [h_]);revert h_)|apply And.intro|with_reducible intro h_|trivial|simp only [go_sem,la2];omega)
    refine ⟨_,_,_,?_,?_,⟨i+1,q.length,done++[((p.getD i (0,0)).1,f (p.getD i (0,0)).2 0)],by omega,by omega,rfl,by simp;omega,by rw [←hdone,yox hil (.inl rfl) hj];simp,rfl,rfl⟩⟩
    ·omega
    ·rw [ygt done h0,yb9]
     refine Wk.sub ?_ ?_<;>(simp only [go_sem,sevalprocAttr,List.length_append])
   ·repeat' (first|omega|(try apply yaa);simp only [go_sem,sevalprocAttr]|apply yab<;>(intro h_;(try simp only [h_]);revert h_)|apply And.intro|with_reducible intro h_|trivial|simp only [go_sem,la2];omega)
    refine ⟨_,_,_,?_,?_,⟨i+1,q.length,done++[((p.getD i (0,0)).1,f (p.getD i (0,0)).2 0)],by omega,by omega,rfl,by simp;omega,by rw [←hdone,yox hil (.inl rfl) hj];simp,rfl,rfl⟩⟩
    ·omega
    ·rw [ygu done h1,yb9]
     refine Wk.sub ?_ ?_<;>(simp only [go_sem,sevalprocAttr,List.length_append])
 ·obtain rfl:i=p.length:=by omega
  by_cases hjl:j<q.length
  ·have fq:=yfp hq hjl
   have u0:=u0 hjl
   have u1:=u1 hjl
   have bi:decide ((p.length:Int)<p.length)=false:=by simp
   have bin:((p.length:Int)==p.length)=true:=by simp
   have bj:((j:Int)==q.length)=false:=by simp;omega
   have bjl:decide ((j:Int)<q.length)=true:=by simp;omega
   repeat' (first|omega|(first|apply yaa|(refine yac.intro (id:=11) yda ydb (by decide+kernel) mixed ?_)|(refine yac.introL (id:=12) yb4 ya8 (by decide+kernel) mixed ?_)|(refine yac.intro (id:=12) yb4 ya8 (by decide+kernel) mixed ?_)|(refine yac.intro (id:=14) ydc ydd (by decide+kernel) mixed ?_)|(refine yac.introL (id:=15) yb5 ya8 (by decide+kernel) mixed ?_)|(refine yac.intro (id:=15) yb5 ya8 (by decide+kernel) mixed ?_)|(refine yac.introL (id:=8) yb6 yb7 (by decide+kernel) mixed ?_)|(refine yac.intro (id:=8) yb6 yb7 (by decide+kernel) mixed ?_)|skip);simp only [go_sem,sevalprocAttr,u0,u1,bi,bin,bj,bjl,↓reduceIte,reduceCtorEq,yda,ydb,yb4,ya8,ydc,ydd,yb5,yb6,yb7]|apply yab<;>(intro h_;(try simp only [h_]);revert h_)|apply And.intro|with_reducible intro h_|trivial|simp only [go_sem,la2];omega)
   refine ⟨yad.inline (ygs _ _ g p q (nz done) (ycd done) (q.getD j (0,0)).1 0 (q.getD j (0,0)).2 _ (hg _ _ (by omega) (by omega) (by omega) (by omega)) hnl (fun h0=>?_) (fun h1=>?_))⟩
   ·repeat' (first|omega|(try apply yaa);simp only [go_sem,sevalprocAttr]|apply yab<;>(intro h_;(try simp only [h_]);revert h_)|apply And.intro|with_reducible intro h_|trivial|simp only [go_sem,la2];omega)
    refine ⟨_,_,_,?_,?_,⟨p.length,j+1,done++[((q.getD j (0,0)).1,f 0 (q.getD j (0,0)).2)],by omega,by omega,rfl,by simp;omega,by rw [←hdone,yoy hjl (.inl rfl) hi];simp,rfl,rfl⟩⟩
    ·omega
    ·rw [ygt done h0,yb9]
     refine Wk.sub ?_ ?_<;>(simp only [go_sem,sevalprocAttr,List.length_append])
   ·repeat' (first|omega|(try apply yaa);simp only [go_sem,sevalprocAttr]|apply yab<;>(intro h_;(try simp only [h_]);revert h_)|apply And.intro|with_reducible intro h_|trivial|simp only [go_sem,la2];omega)
    refine ⟨_,_,_,?_,?_,⟨p.length,j+1,done++[((q.getD j (0,0)).1,f 0 (q.getD j (0,0)).2)],by omega,by omega,rfl,by simp;omega,by rw [←hdone,yoy hjl (.inl rfl) hi];simp,rfl,rfl⟩⟩
    ·omega
    ·rw [ygu done h1,yb9]
     refine Wk.sub ?_ ?_<;>(simp only [go_sem,sevalprocAttr,List.length_append])
  ·obtain rfl:j=q.length:=by omega
   rw [List.drop_length,List.drop_length] at hdone
   have hd:mrg f p q=done:=by rw [←hdone];simp [mrg]
   rw [hd]
   repeat' (first|omega|(try apply yaa);simp only [go_sem,sevalprocAttr]|apply yab<;>(intro h_;(try simp only [h_]);revert h_)|apply And.intro|with_reducible intro h_|trivial|simp only [go_sem,la2];omega)
   all_goals first
    |(rw [if_pos (by assumption)];exact LeA.refl _)
    |(rw [if_neg (by simp only [*];decide)];exact LeA.aggL (.cons (LeA.refl _) (.cons (LeA.nils (by omega) rfl) .nil)))
    |(rw [if_pos (by assumption),List.take_of_length_le (by rw [ybm];omega)];exact LeA.refl _)
end Go.Proofs.YtbblgobamoabkaaGreatDoor
set_option linter.unusedSimpArgs false
set_option linter.unusedVariables false
namespace Go.Proofs.YtbblgobamoabkaaGreatDoor
open Go Go.RowKit
set_option maxRecDepth 100000
set_option maxHeartbeats 8000000
theorem y5v (a b:Int) (h1: -1125899906842624<=a) (h2:a<=1125899906842624) (h3: -1125899906842624<=b) (h4:b<=1125899906842624):Fn Tryz.prog 90 [I a,I b] (I (addF a b)):=by
 unfold addF
 refine Fn.intro [.tmp 4] Tryz.func90 rfl rfl (by decide) (by simp [Tryz.ntmps90]) ?_;rw [Tryz.ntmps90]
 repeat' (first|omega|(try apply yaa);simp only [go_sem,sevalprocAttr]|apply yab<;>(intro h_;(try simp only [h_]);revert h_)|apply And.intro|with_reducible intro h_|trivial|simp only [go_sem,la2];omega)
theorem yy7 (p q:List (Int×Int)) (hp:yev p) (hq:yev q) (hpl:p.length<=500000) (hql:q.length<=500000) (hok:ycd (mrg addF p q)=true):Fn Tryz.prog 56 [plA false p,plA false q] (plA false (nz (mrg addF p q))):=by
 have hc:=ymg p q 90 addF hp hq hpl hql (fun a b h1 h2 h3 h4=>y5v a b h1 h2 h3 h4)
 rw [if_pos hok] at hc
 refine Fn.intro [.cell 4 47] Tryz.func56 rfl rfl (by decide) (by simp [Tryz.ntmps56]) ?_;rw [Tryz.ntmps56]
 repeat' (first|omega|(try apply yaa);simp only [go_sem,sevalprocAttr]|apply yab<;>(intro h_;(try simp only [h_]);revert h_)|apply And.intro|with_reducible intro h_|trivial|simp only [go_sem,la2];omega)
 refine ⟨yad.fn rfl hc ?_⟩
 repeat' (first|omega|(try apply yaa);simp only [go_sem,sevalprocAttr]|apply yab<;>(intro h_;(try simp only [h_]);revert h_)|apply And.intro|with_reducible intro h_|trivial|simp only [go_sem,la2];omega)
end Go.Proofs.YtbblgobamoabkaaGreatDoor
set_option linter.unusedSimpArgs false
set_option linter.unusedVariables false
namespace Go.Proofs.YtbblgobamoabkaaGreatDoor
open Go Go.RowKit
set_option maxRecDepth 100000
theorem y7e {p q:List (Int×Int)} {f g:Int->Int} (hp:yai p f) (hq:yai q g) (hs: ∀e,f e≠0-> -1000<=e/\e<=1000) (ht: ∀e,g e≠0-> -1000<=e/\e<=1000)
  (hf: ∀e,-562949953421312<=f e/\f e<=562949953421312) (hg: ∀e,-562949953421312<=g e/\g e<=562949953421312):
  ∃r,yai r (fun e=>f e+g e)/\Fn Tryz.prog 56 [plA false p,plA false q] (plA false r):=by
 have ha:=y4z addF p q hp.asc.asc hq.asc.asc
 have hc: ∀x,cfL (mrg addF p q) x=f x+g x:=fun x=>by rw [y40 addF rfl p q hp.asc.asc hq.asc.asc,hp.cf,hq.cf];rfl
 refine ⟨nz (mrg addF p q),⟨yxl ha,fun e=>by rw [yxk,hc]⟩,yy7 p q (hp.fits fun e=>by have:=hf e;omega) (hq.fits fun e=>by have:=hg e;omega) (by have:=hp.len hs;omega) (by have:=hq.len ht;omega) ?_⟩
 unfold ycd
 rw [List.all_eq_true]
 intro t ht
 have:=y1t ha ht
 rw [hc] at this
 have h1:=hf t.1
 have h2:=hg t.1
 exact yp7 (by omega) (by omega)
end Go.Proofs.YtbblgobamoabkaaGreatDoor
