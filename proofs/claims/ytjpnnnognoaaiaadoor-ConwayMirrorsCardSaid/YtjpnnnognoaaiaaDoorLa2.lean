/- Layer 12: polynomials combined. -/
import Derived.Test.YtjpnnnognoaaiaaDoorLa1
set_option linter.unusedSimpArgs false
set_option linter.unusedVariables false
namespace Go.Proofs.YtjpnnnognoaaiaaDoor
open Go Go.RowKit
set_option maxRecDepth 100000
set_option maxHeartbeats 16000000
def ydj:List (List Nat):=[[67,68,69],[66],[66],[66],[],[],[73,74,75],[72],[72],[72],[],[],[80,84,85,86,87,88,89],[80,84,85,86,87,88,89],[78,79,84,85,86,87,88,89],[84,85,86,87,88,89],[84,85,86,87,88,89],[84,85,86,87,88,89],[78,79,80,81,82,83,86],[78,79,80,81,82,83,86],[78,79,80,81,82,83,84,85],[78,79,80,81,82,83],[78,79,80,81,82,83],[78,79,80,81,82,83],[],[],[],[]]
def ydk:List (List Nat):=[[],[0],[0],[0],[],[],[],[6],[6],[6],[],[],[],[],[12,13],[],[],[],[12,13,14,15,16,17],[12,13,14,15,16,17],[12,13,14,15,16,17,18,19],[12,13,14,15,16,17],[12,13,14,15,16,17],[12,13,14,15,16,17],[],[],[],[]]
def yb6:List (List Nat):=[[94,95,96,97,98,99,100,101,102,103,104,105],[93,96,100,101,102,103,104,105],[93,96,100,101,102,103,104,105],[93,94,95,100,101,102,103,104,105],[93,100,101,102,103,104,105],[93,100,101,102,103,104,105],[93,100,101,102,103,104,105],[93,94,95,96,97,98,99,102],[93,94,95,96,97,98,99,102],[93,94,95,96,97,98,99,100,101],[93,94,95,96,97,98,99],[93,94,95,96,97,98,99],[93,94,95,96,97,98,99],[]]
def ya8:List (List Nat):=[[],[0],[0],[0,1,2],[0],[0],[0],[0,1,2,3,4,5,6],[0,1,2,3,4,5,6],[0,1,2,3,4,5,6,7,8],[0,1,2,3,4,5,6],[0,1,2,3,4,5,6],[0,1,2,3,4,5,6],[]]
def ydl:List (List Nat):=[[111,112,113],[110],[110],[110],[],[],[118,122,123,124,125,126,127],[118,122,123,124,125,126,127],[116,117,122,123,124,125,126,127],[122,123,124,125,126,127],[122,123,124,125,126,127],[122,123,124,125,126,127],[116,117,118,119,120,121,124],[116,117,118,119,120,121,124],[116,117,118,119,120,121,122,123],[116,117,118,119,120,121],[116,117,118,119,120,121],[116,117,118,119,120,121],[],[],[]]
def ydm:List (List Nat):=[[],[0],[0],[0],[],[],[],[],[6,7],[],[],[],[6,7,8,9,10,11],[6,7,8,9,10,11],[6,7,8,9,10,11,12,13],[6,7,8,9,10,11],[6,7,8,9,10,11],[6,7,8,9,10,11],[],[],[]]
def yb7:List (List Nat):=[[131,132,133,134,135,136,137,138,139,140,141,142],[130,133,137,138,139,140,141,142],[130,133,137,138,139,140,141,142],[130,131,132,137,138,139,140,141,142],[130,137,138,139,140,141,142],[130,137,138,139,140,141,142],[130,137,138,139,140,141,142],[130,131,132,133,134,135,136,139],[130,131,132,133,134,135,136,139],[130,131,132,133,134,135,136,137,138],[130,131,132,133,134,135,136],[130,131,132,133,134,135,136],[130,131,132,133,134,135,136],[]]
def yb8:List (List Nat):=[[42,43,44,45,46,47,48,49,50,51,52,53,54,55,56,57,58,59],[41,44,48,49,50,51,52,53,54,55,56,57,58,59],[41,44,48,49,50,51,52,53,54,55,56,57,58,59],[41,42,43,48,49,50,51,52,53,54,55,56,57,58,59],[41,48,49,50,51,52,53,54,55,56,57,58,59],[41,48,49,50,51,52,53,54,55,56,57,58,59],[41,48,49,50,51,52,53,54,55,56,57,58,59],[41,42,43,44,45,46,47,50,54,55,56,57,58,59],[41,42,43,44,45,46,47,50,54,55,56,57,58,59],[41,42,43,44,45,46,47,48,49,54,55,56,57,58,59],[41,42,43,44,45,46,47,54,55,56,57,58,59],[41,42,43,44,45,46,47,54,55,56,57,58,59],[41,42,43,44,45,46,47,54,55,56,57,58,59],[41,42,43,44,45,46,47,48,49,50,51,52,53,56],[41,42,43,44,45,46,47,48,49,50,51,52,53,56],[41,42,43,44,45,46,47,48,49,50,51,52,53,54,55],[41,42,43,44,45,46,47,48,49,50,51,52,53],[41,42,43,44,45,46,47,48,49,50,51,52,53],[41,42,43,44,45,46,47,48,49,50,51,52,53],[]]
def yb9:List (List Nat):=[[],[0],[0],[0,1,2],[0],[0],[0],[0,1,2,3,4,5,6],[0,1,2,3,4,5,6],[0,1,2,3,4,5,6,7,8],[0,1,2,3,4,5,6],[0,1,2,3,4,5,6],[0,1,2,3,4,5,6],[0,1,2,3,4,5,6,7,8,9,10,11,12],[0,1,2,3,4,5,6,7,8,9,10,11,12],[0,1,2,3,4,5,6,7,8,9,10,11,12,13,14],[0,1,2,3,4,5,6,7,8,9,10,11,12],[0,1,2,3,4,5,6,7,8,9,10,11,12],[0,1,2,3,4,5,6,7,8,9,10,11,12],[]]
theorem yiy (p q:List (Int×Int)) (g:Nat) (f:Int->Int->Int) (hp:yfu p) (hq:yfu q) (hpl:p.length<=500000) (hql:q.length<=500000) (hg: ∀a b:Int,-1125899906842624<=a->a<=1125899906842624-> -1125899906842624<=b->b<=1125899906842624->Fn Tryd.prog g [I a,I b] (I (f a b))):
  Fn Tryd.prog 30 [plA false p,plA false q, .fn g []] (if ycd (mrg f p q) then plA false (nz (mrg f p q)) else plA true []):=by
 refine Fn.introL [.cell 6 29] Tryd.func30 rfl rfl (by decide) (by simp [Tryd.ntmps30]) ?_;rw [Tryd.ntmps30]
 repeat' (first|omega|(first|apply yaa|(refine yac.intro (id:=11) ydj ydk (by decide+kernel) mixed ?_)|(refine yac.intro (id:=12) yb6 ya8 (by decide+kernel) mixed ?_)|(refine yac.introL (id:=12) yb6 ya8 (by decide+kernel) mixed ?_)|(refine yac.intro (id:=14) ydl ydm (by decide+kernel) mixed ?_)|(refine yac.intro (id:=15) yb7 ya8 (by decide+kernel) mixed ?_)|(refine yac.introL (id:=15) yb7 ya8 (by decide+kernel) mixed ?_)|(refine yac.intro (id:=8) yb8 yb9 (by decide+kernel) mixed ?_)|(refine yac.introL (id:=8) yb8 yb9 (by decide+kernel) mixed ?_)|skip);simp only [go_sem,sevalprocAttr,↓reduceIte,reduceCtorEq,ydj,ydk,yb6,ya8,ydl,ydm,yb7,yb8,yb9]|apply yab<;>(intro h_;(try simp only [h_]);revert h_)|apply And.intro|with_reducible intro h_|trivial|simp only [go_sem,la2];omega)
 refine ya0.intro (fun n fr H=> ∃(i j:Nat) (done:List (Int×Int)),i<=p.length/\j<=q.length/\n=(p.length-i)+(q.length-j)/\done.length<=i+j/\done++mrg f (p.drop i) (q.drop j)=mrg f p q/\fr=[(11,I j),(10,I i),(9, .fn 53 [.ptr 2 0, .ptr 6 0, .ptr 5 0]),(8, .ptr 6 0),(7, .ptr 5 0),(6, .ptr 3 0),(4, .ptr 1 0),(3, .ptr 0 0)]/\H=cmbH g p q (nz done) (ycd done)) ?_ ?_
 ·refine ⟨_,_,_,?_,0,0,[],by omega,by omega,rfl,by simp,rfl,rfl,rfl⟩
  unfold cmbH
  refine Wk.sub ?_ ?_<;>simp only [go_sem,sevalprocAttr]
  all_goals simp [nz,ycd,tmC]
 rintro n fr H ⟨i,j,done,hi,hj,rfl,hdl,hdone,rfl,rfl⟩
 have hnl:(nz done).length<=1000000:=by have:=List.length_filter_le (fun t:Int×Int=>t.2 !=0) done;unfold nz;omega
 have t0:=fun h=>ycj p i h
 have t1:=fun h=>ydy p i h
 have u0:=fun h=>ycj q j h
 have u1:=fun h=>ydy q j h
 unfold cmbH
 by_cases hil:i<p.length
 ·have fp:=yju hp hil
  have t0:=t0 hil
  have t1:=t1 hil
  by_cases hjl:j<q.length
  ·have fq:=yju hq hjl
   have u0:=u0 hjl
   have u1:=u1 hjl
   by_cases he:(p.getD i (0,0)).1<(q.getD j (0,0)).1
   ·have bi:decide ((i:Int)<p.length)=true:=by simp;omega
    have bj:((j:Int)==q.length)=false:=by simp;omega
    have be1:decide ((p.getD i (0,0)).1<(q.getD j (0,0)).1)=true:=by exact decide_eq_true he
    repeat' (first|omega|(first|apply yaa|(refine yac.intro (id:=11) ydj ydk (by decide+kernel) mixed ?_)|(refine yac.introL (id:=12) yb6 ya8 (by decide+kernel) mixed ?_)|(refine yac.intro (id:=12) yb6 ya8 (by decide+kernel) mixed ?_)|(refine yac.intro (id:=14) ydl ydm (by decide+kernel) mixed ?_)|(refine yac.introL (id:=15) yb7 ya8 (by decide+kernel) mixed ?_)|(refine yac.intro (id:=15) yb7 ya8 (by decide+kernel) mixed ?_)|(refine yac.introL (id:=8) yb8 yb9 (by decide+kernel) mixed ?_)|(refine yac.intro (id:=8) yb8 yb9 (by decide+kernel) mixed ?_)|skip);simp only [go_sem,sevalprocAttr,t0,t1,u0,u1,bi,bj,be1,↓reduceIte,reduceCtorEq,ydj,ydk,yb6,ya8,ydl,ydm,yb7,yb8,yb9]|apply yab<;>(intro h_;(try simp only [h_]);revert h_)|apply And.intro|with_reducible intro h_|trivial|simp only [go_sem,la2];omega)
    refine ⟨yae.inline (yg0 _ _ g p q (nz done) (ycd done) (p.getD i (0,0)).1 (p.getD i (0,0)).2 0 _ (hg _ _ (by omega) (by omega) (by omega) (by omega)) hnl (fun h0=>?_) (fun h1=>?_))⟩
    ·repeat' (first|omega|(try apply yaa);simp only [go_sem,sevalprocAttr]|apply yab<;>(intro h_;(try simp only [h_]);revert h_)|apply And.intro|with_reducible intro h_|trivial|simp only [go_sem,la2];omega)
     refine ⟨_,_,_,?_,?_,⟨i+1,j,done++[((p.getD i (0,0)).1,f (p.getD i (0,0)).2 0)],by omega,by omega,rfl,by simp;omega,by rw [←hdone,ypi hil (.inr he) hj];simp,rfl,rfl⟩⟩
     ·omega
     ·rw [yg1 done h0,yce]
      refine Wk.sub ?_ ?_<;>(simp only [go_sem,sevalprocAttr,List.length_append])
    ·repeat' (first|omega|(try apply yaa);simp only [go_sem,sevalprocAttr]|apply yab<;>(intro h_;(try simp only [h_]);revert h_)|apply And.intro|with_reducible intro h_|trivial|simp only [go_sem,la2];omega)
     refine ⟨_,_,_,?_,?_,⟨i+1,j,done++[((p.getD i (0,0)).1,f (p.getD i (0,0)).2 0)],by omega,by omega,rfl,by simp;omega,by rw [←hdone,ypi hil (.inr he) hj];simp,rfl,rfl⟩⟩
     ·omega
     ·rw [yg2 done h1,yce]
      refine Wk.sub ?_ ?_<;>(simp only [go_sem,sevalprocAttr,List.length_append])
   ·by_cases he2:(q.getD j (0,0)).1<(p.getD i (0,0)).1
    ·have bi:decide ((i:Int)<p.length)=true:=by simp;omega
     have bin:((i:Int)==p.length)=false:=by simp;omega
     have bj:((j:Int)==q.length)=false:=by simp;omega
     have be1:decide ((p.getD i (0,0)).1<(q.getD j (0,0)).1)=false:=by exact decide_eq_false (by omega)
     have be2:decide ((q.getD j (0,0)).1<(p.getD i (0,0)).1)=true:=by exact decide_eq_true he2
     repeat' (first|omega|(first|apply yaa|(refine yac.intro (id:=11) ydj ydk (by decide+kernel) mixed ?_)|(refine yac.introL (id:=12) yb6 ya8 (by decide+kernel) mixed ?_)|(refine yac.intro (id:=12) yb6 ya8 (by decide+kernel) mixed ?_)|(refine yac.intro (id:=14) ydl ydm (by decide+kernel) mixed ?_)|(refine yac.introL (id:=15) yb7 ya8 (by decide+kernel) mixed ?_)|(refine yac.intro (id:=15) yb7 ya8 (by decide+kernel) mixed ?_)|(refine yac.introL (id:=8) yb8 yb9 (by decide+kernel) mixed ?_)|(refine yac.intro (id:=8) yb8 yb9 (by decide+kernel) mixed ?_)|skip);simp only [go_sem,sevalprocAttr,t0,t1,u0,u1,bi,bin,bj,be1,be2,↓reduceIte,reduceCtorEq,ydj,ydk,yb6,ya8,ydl,ydm,yb7,yb8,yb9]|apply yab<;>(intro h_;(try simp only [h_]);revert h_)|apply And.intro|with_reducible intro h_|trivial|simp only [go_sem,la2];omega)
     refine ⟨yae.inline (yg0 _ _ g p q (nz done) (ycd done) (q.getD j (0,0)).1 0 (q.getD j (0,0)).2 _ (hg _ _ (by omega) (by omega) (by omega) (by omega)) hnl (fun h0=>?_) (fun h1=>?_))⟩
     ·repeat' (first|omega|(try apply yaa);simp only [go_sem,sevalprocAttr]|apply yab<;>(intro h_;(try simp only [h_]);revert h_)|apply And.intro|with_reducible intro h_|trivial|simp only [go_sem,la2];omega)
      refine ⟨_,_,_,?_,?_,⟨i,j+1,done++[((q.getD j (0,0)).1,f 0 (q.getD j (0,0)).2)],by omega,by omega,rfl,by simp;omega,by rw [←hdone,ypj hjl (.inr he2) hi];simp,rfl,rfl⟩⟩
      ·omega
      ·rw [yg1 done h0,yce]
       refine Wk.sub ?_ ?_<;>(simp only [go_sem,sevalprocAttr,List.length_append])
     ·repeat' (first|omega|(try apply yaa);simp only [go_sem,sevalprocAttr]|apply yab<;>(intro h_;(try simp only [h_]);revert h_)|apply And.intro|with_reducible intro h_|trivial|simp only [go_sem,la2];omega)
      refine ⟨_,_,_,?_,?_,⟨i,j+1,done++[((q.getD j (0,0)).1,f 0 (q.getD j (0,0)).2)],by omega,by omega,rfl,by simp;omega,by rw [←hdone,ypj hjl (.inr he2) hi];simp,rfl,rfl⟩⟩
      ·omega
      ·rw [yg2 done h1,yce]
       refine Wk.sub ?_ ?_<;>(simp only [go_sem,sevalprocAttr,List.length_append])
    ·have bi:decide ((i:Int)<p.length)=true:=by simp;omega
     have bin:((i:Int)==p.length)=false:=by simp;omega
     have bj:((j:Int)==q.length)=false:=by simp;omega
     have be1:decide ((p.getD i (0,0)).1<(q.getD j (0,0)).1)=false:=by exact decide_eq_false (by omega)
     have be2:decide ((q.getD j (0,0)).1<(p.getD i (0,0)).1)=false:=by exact decide_eq_false (by omega)
     repeat' (first|omega|(first|apply yaa|(refine yac.intro (id:=11) ydj ydk (by decide+kernel) mixed ?_)|(refine yac.introL (id:=12) yb6 ya8 (by decide+kernel) mixed ?_)|(refine yac.intro (id:=12) yb6 ya8 (by decide+kernel) mixed ?_)|(refine yac.intro (id:=14) ydl ydm (by decide+kernel) mixed ?_)|(refine yac.introL (id:=15) yb7 ya8 (by decide+kernel) mixed ?_)|(refine yac.intro (id:=15) yb7 ya8 (by decide+kernel) mixed ?_)|(refine yac.introL (id:=8) yb8 yb9 (by decide+kernel) mixed ?_)|(refine yac.intro (id:=8) yb8 yb9 (by decide+kernel) mixed ?_)|skip);simp only [go_sem,sevalprocAttr,t0,t1,u0,u1,bi,bin,bj,be1,be2,↓reduceIte,reduceCtorEq,ydj,ydk,yb6,ya8,ydl,ydm,yb7,yb8,yb9]|apply yab<;>(intro h_;(try simp only [h_]);revert h_)|apply And.intro|with_reducible intro h_|trivial|simp only [go_sem,la2];omega)
     refine ⟨yae.inline (yg0 _ _ g p q (nz done) (ycd done) (p.getD i (0,0)).1 (p.getD i (0,0)).2 (q.getD j (0,0)).2 _ (hg _ _ (by omega) (by omega) (by omega) (by omega)) hnl (fun h0=>?_) (fun h1=>?_))⟩
     ·repeat' (first|omega|(try apply yaa);simp only [go_sem,sevalprocAttr]|apply yab<;>(intro h_;(try simp only [h_]);revert h_)|apply And.intro|with_reducible intro h_|trivial|simp only [go_sem,la2];omega)
      refine ⟨_,_,_,?_,?_,⟨i+1,j+1,done++[((p.getD i (0,0)).1,f (p.getD i (0,0)).2 (q.getD j (0,0)).2)],by omega,by omega,rfl,by simp;omega,by rw [←hdone,yyb hil hjl (by omega)];simp,rfl,rfl⟩⟩
      ·omega
      ·rw [yg1 done h0,yce]
       refine Wk.sub ?_ ?_<;>(simp only [go_sem,sevalprocAttr,List.length_append])
     ·repeat' (first|omega|(try apply yaa);simp only [go_sem,sevalprocAttr]|apply yab<;>(intro h_;(try simp only [h_]);revert h_)|apply And.intro|with_reducible intro h_|trivial|simp only [go_sem,la2];omega)
      refine ⟨_,_,_,?_,?_,⟨i+1,j+1,done++[((p.getD i (0,0)).1,f (p.getD i (0,0)).2 (q.getD j (0,0)).2)],by omega,by omega,rfl,by simp;omega,by rw [←hdone,yyb hil hjl (by omega)];simp,rfl,rfl⟩⟩
      ·omega
      ·rw [yg2 done h1,yce]
       refine Wk.sub ?_ ?_<;>(simp only [go_sem,sevalprocAttr,List.length_append])
  ·obtain rfl:j=q.length:=by omega
   have bi:decide ((i:Int)<p.length)=true:=by simp;omega
   have bj:((q.length:Int)==q.length)=true:=by simp
   repeat' (first|omega|(first|apply yaa|(refine yac.intro (id:=11) ydj ydk (by decide+kernel) mixed ?_)|(refine yac.introL (id:=12) yb6 ya8 (by decide+kernel) mixed ?_)|(refine yac.intro (id:=12) yb6 ya8 (by decide+kernel) mixed ?_)|(refine yac.intro (id:=14) ydl ydm (by decide+kernel) mixed ?_)|(refine yac.introL (id:=15) yb7 ya8 (by decide+kernel) mixed ?_)|(refine yac.intro (id:=15) yb7 ya8 (by decide+kernel) mixed ?_)|(refine yac.introL (id:=8) yb8 yb9 (by decide+kernel) mixed ?_)|(refine yac.intro (id:=8) yb8 yb9 (by decide+kernel) mixed ?_)|skip);simp only [go_sem,sevalprocAttr,t0,t1,bi,bj,↓reduceIte,reduceCtorEq,ydj,ydk,yb6,ya8,ydl,ydm,yb7,yb8,yb9]|apply yab<;>(intro h_;(try simp only [h_]);revert h_)|apply And.intro|with_reducible intro h_|trivial|simp only [go_sem,la2];omega)
   refine ⟨yae.inline (yg0 _ _ g p q (nz done) (ycd done) (p.getD i (0,0)).1 (p.getD i (0,0)).2 0 _ (hg _ _ (by omega) (by omega) (by omega) (by omega)) hnl (fun h0=>?_) (fun h1=>?_))⟩
   ·repeat' (first|omega|(try apply yaa);simp only [go_sem,sevalprocAttr]|apply yab<;>(intro h_;(try simp only [h_]);revert h_)|apply And.intro|with_reducible intro h_|trivial|simp only [go_sem,la2];omega)
    refine ⟨_,_,_,?_,?_,⟨i+1,q.length,done++[((p.getD i (0,0)).1,f (p.getD i (0,0)).2 0)],by omega,by omega,rfl,by simp;omega,by rw [←hdone,ypi hil (.inl rfl) hj];simp,rfl,rfl⟩⟩
    ·omega
    ·rw [yg1 done h0,yce]
     refine Wk.sub ?_ ?_<;>(simp only [go_sem,sevalprocAttr,List.length_append])
   ·repeat' (first|omega|(try apply yaa);simp only [go_sem,sevalprocAttr]|apply yab<;>(intro h_;(try simp only [h_]);revert h_)|apply And.intro|with_reducible intro h_|trivial|simp only [go_sem,la2];omega)
    refine ⟨_,_,_,?_,?_,⟨i+1,q.length,done++[((p.getD i (0,0)).1,f (p.getD i (0,0)).2 0)],by omega,by omega,rfl,by simp;omega,by rw [←hdone,ypi hil (.inl rfl) hj];simp,rfl,rfl⟩⟩
    ·omega
    ·rw [yg2 done h1,yce]
     refine Wk.sub ?_ ?_<;>(simp only [go_sem,sevalprocAttr,List.length_append])
 ·obtain rfl:i=p.length:=by omega
  by_cases hjl:j<q.length
  ·have fq:=yju hq hjl
   have u0:=u0 hjl
   have u1:=u1 hjl
   have bi:decide ((p.length:Int)<p.length)=false:=by simp
   have bin:((p.length:Int)==p.length)=true:=by simp
   have bj:((j:Int)==q.length)=false:=by simp;omega
   have bjl:decide ((j:Int)<q.length)=true:=by simp;omega
   repeat' (first|omega|(first|apply yaa|(refine yac.intro (id:=11) ydj ydk (by decide+kernel) mixed ?_)|(refine yac.introL (id:=12) yb6 ya8 (by decide+kernel) mixed ?_)|(refine yac.intro (id:=12) yb6 ya8 (by decide+kernel) mixed ?_)|(refine yac.intro (id:=14) ydl ydm (by decide+kernel) mixed ?_)|(refine yac.introL (id:=15) yb7 ya8 (by decide+kernel) mixed ?_)|(refine yac.intro (id:=15) yb7 ya8 (by decide+kernel) mixed ?_)|(refine yac.introL (id:=8) yb8 yb9 (by decide+kernel) mixed ?_)|(refine yac.intro (id:=8) yb8 yb9 (by decide+kernel) mixed ?_)|skip);simp only [go_sem,sevalprocAttr,u0,u1,bi,bin,bj,bjl,↓reduceIte,reduceCtorEq,ydj,ydk,yb6,ya8,ydl,ydm,yb7,yb8,yb9]|apply yab<;>(intro h_;(try simp only [h_]);revert h_)|apply And.intro|with_reducible intro h_|trivial|simp only [go_sem,la2];omega)
   refine ⟨yae.inline (yg0 _ _ g p q (nz done) (ycd done) (q.getD j (0,0)).1 0 (q.getD j (0,0)).2 _ (hg _ _ (by omega) (by omega) (by omega) (by omega)) hnl (fun h0=>?_) (fun h1=>?_))⟩
   ·repeat' (first|omega|(try apply yaa);simp only [go_sem,sevalprocAttr]|apply yab<;>(intro h_;(try simp only [h_]);revert h_)|apply And.intro|with_reducible intro h_|trivial|simp only [go_sem,la2];omega)
    refine ⟨_,_,_,?_,?_,⟨p.length,j+1,done++[((q.getD j (0,0)).1,f 0 (q.getD j (0,0)).2)],by omega,by omega,rfl,by simp;omega,by rw [←hdone,ypj hjl (.inl rfl) hi];simp,rfl,rfl⟩⟩
    ·omega
    ·rw [yg1 done h0,yce]
     refine Wk.sub ?_ ?_<;>(simp only [go_sem,sevalprocAttr,List.length_append])
   ·repeat' (first|omega|(try apply yaa);simp only [go_sem,sevalprocAttr]|apply yab<;>(intro h_;(try simp only [h_]);revert h_)|apply And.intro|with_reducible intro h_|trivial|simp only [go_sem,la2];omega)
    refine ⟨_,_,_,?_,?_,⟨p.length,j+1,done++[((q.getD j (0,0)).1,f 0 (q.getD j (0,0)).2)],by omega,by omega,rfl,by simp;omega,by rw [←hdone,ypj hjl (.inl rfl) hi];simp,rfl,rfl⟩⟩
    ·omega
    ·rw [yg2 done h1,yce]
     refine Wk.sub ?_ ?_<;>(simp only [go_sem,sevalprocAttr,List.length_append])
  ·obtain rfl:j=q.length:=by omega
   rw [List.drop_length,List.drop_length] at hdone
   have hd:mrg f p q=done:=by rw [←hdone];simp [mrg]
   rw [hd]
   repeat' (first|omega|(try apply yaa);simp only [go_sem,sevalprocAttr]|apply yab<;>(intro h_;(try simp only [h_]);revert h_)|apply And.intro|with_reducible intro h_|trivial|simp only [go_sem,la2];omega)
   all_goals first
    |(rw [if_pos (by assumption)];exact LeA.refl _)
    |(rw [if_neg (by simp only [*];decide)];exact LeA.aggL (.cons (LeA.refl _) (.cons (LeA.nils (by omega) rfl) .nil)))
    |(rw [if_pos (by assumption),List.take_of_length_le (by rw [ydr];omega)];exact LeA.refl _)
end Go.Proofs.YtjpnnnognoaaiaaDoor
