/- Layer 12: polynomials combined. -/
import Derived.Test.YthohfoombimbeaaGreatDoorZf
set_option linter.unusedSimpArgs false
set_option linter.unusedVariables false
namespace Go.Proofs.YthohfoombimbeaaGreatDoor
open Go Go.RowKit
set_option maxRecDepth 99999
set_option maxHeartbeats 16000000
def Zj:fc:=[(11,[[67,68,69],[66],[66],[66],[],[],[73,74,75],[72],[72],[72],[],[],[80,84,85,86,87,88,89],[80,84,85,86,87,88,89],[78,79,84,85,86,87,88,89],[84,85,86,87,88,89],[84,85,86,87,88,89],[84,85,86,87,88,89],[78,79,80,81,82,83,86],[78,79,80,81,82,83,86],[78,79,80,81,82,83,84,85],[78,79,80,81,82,83],[78,79,80,81,82,83],[78,79,80,81,82,83],[],[],[],[]],[[],[0],[0],[0],[],[],[],[6],[6],[6],[],[],[],[],[12,13],[],[],[],[12,13,14,15,16,17],[12,13,14,15,16,17],[12,13,14,15,16,17,18,19],[12,13,14,15,16,17],[12,13,14,15,16,17],[12,13,14,15,16,17],[],[],[],[]]),(12,[[94,95,96,97,98,99,100,101,102,103,104,105],[93,96,100,101,102,103,104,105],[93,96,100,101,102,103,104,105],[93,94,95,100,101,102,103,104,105],[93,100,101,102,103,104,105],[93,100,101,102,103,104,105],[93,100,101,102,103,104,105],[93,94,95,96,97,98,99,102],[93,94,95,96,97,98,99,102],[93,94,95,96,97,98,99,100,101],[93,94,95,96,97,98,99],[93,94,95,96,97,98,99],[93,94,95,96,97,98,99],[]],[[],[0],[0],[0,1,2],[0],[0],[0],[0,1,2,3,4,5,6],[0,1,2,3,4,5,6],[0,1,2,3,4,5,6,7,8],[0,1,2,3,4,5,6],[0,1,2,3,4,5,6],[0,1,2,3,4,5,6],[]]),(14,[[111,112,113],[110],[110],[110],[],[],[118,122,123,124,125,126,127],[118,122,123,124,125,126,127],[116,117,122,123,124,125,126,127],[122,123,124,125,126,127],[122,123,124,125,126,127],[122,123,124,125,126,127],[116,117,118,119,120,121,124],[116,117,118,119,120,121,124],[116,117,118,119,120,121,122,123],[116,117,118,119,120,121],[116,117,118,119,120,121],[116,117,118,119,120,121],[],[],[]],[[],[0],[0],[0],[],[],[],[],[6,7],[],[],[],[6,7,8,9,10,11],[6,7,8,9,10,11],[6,7,8,9,10,11,12,13],[6,7,8,9,10,11],[6,7,8,9,10,11],[6,7,8,9,10,11],[],[],[]]),(15,[[131,132,133,134,135,136,137,138,139,140,141,142],[130,133,137,138,139,140,141,142],[130,133,137,138,139,140,141,142],[130,131,132,137,138,139,140,141,142],[130,137,138,139,140,141,142],[130,137,138,139,140,141,142],[130,137,138,139,140,141,142],[130,131,132,133,134,135,136,139],[130,131,132,133,134,135,136,139],[130,131,132,133,134,135,136,137,138],[130,131,132,133,134,135,136],[130,131,132,133,134,135,136],[130,131,132,133,134,135,136],[]],[[],[0],[0],[0,1,2],[0],[0],[0],[0,1,2,3,4,5,6],[0,1,2,3,4,5,6],[0,1,2,3,4,5,6,7,8],[0,1,2,3,4,5,6],[0,1,2,3,4,5,6],[0,1,2,3,4,5,6],[]]),(8,[[42,43,44,45,46,47,48,49,50,51,52,53,54,55,56,57,58,59],[41,44,48,49,50,51,52,53,54,55,56,57,58,59],[41,44,48,49,50,51,52,53,54,55,56,57,58,59],[41,42,43,48,49,50,51,52,53,54,55,56,57,58,59],[41,48,49,50,51,52,53,54,55,56,57,58,59],[41,48,49,50,51,52,53,54,55,56,57,58,59],[41,48,49,50,51,52,53,54,55,56,57,58,59],[41,42,43,44,45,46,47,50,54,55,56,57,58,59],[41,42,43,44,45,46,47,50,54,55,56,57,58,59],[41,42,43,44,45,46,47,48,49,54,55,56,57,58,59],[41,42,43,44,45,46,47,54,55,56,57,58,59],[41,42,43,44,45,46,47,54,55,56,57,58,59],[41,42,43,44,45,46,47,54,55,56,57,58,59],[41,42,43,44,45,46,47,48,49,50,51,52,53,56],[41,42,43,44,45,46,47,48,49,50,51,52,53,56],[41,42,43,44,45,46,47,48,49,50,51,52,53,54,55],[41,42,43,44,45,46,47,48,49,50,51,52,53],[41,42,43,44,45,46,47,48,49,50,51,52,53],[41,42,43,44,45,46,47,48,49,50,51,52,53],[]],[[],[0],[0],[0,1,2],[0],[0],[0],[0,1,2,3,4,5,6],[0,1,2,3,4,5,6],[0,1,2,3,4,5,6,7,8],[0,1,2,3,4,5,6],[0,1,2,3,4,5,6],[0,1,2,3,4,5,6],[0,1,2,3,4,5,6,7,8,9,10,11,12],[0,1,2,3,4,5,6,7,8,9,10,11,12],[0,1,2,3,4,5,6,7,8,9,10,11,12,13,14],[0,1,2,3,4,5,6,7,8,9,10,11,12],[0,1,2,3,4,5,6,7,8,9,10,11,12],[0,1,2,3,4,5,6,7,8,9,10,11,12],[]])]
def u7:fc:=[(12,[[94,95,96,97,98,99,100,101,102,103,104,105],[93,96,100,101,102,103,104,105],[93,96,100,101,102,103,104,105],[93,94,95,100,101,102,103,104,105],[93,100,101,102,103,104,105],[93,100,101,102,103,104,105],[93,100,101,102,103,104,105],[93,94,95,96,97,98,99,102],[93,94,95,96,97,98,99,102],[93,94,95,96,97,98,99,100,101],[93,94,95,96,97,98,99],[93,94,95,96,97,98,99],[93,94,95,96,97,98,99],[]],[[],[0],[0],[0,1,2],[0],[0],[0],[0,1,2,3,4,5,6],[0,1,2,3,4,5,6],[0,1,2,3,4,5,6,7,8],[0,1,2,3,4,5,6],[0,1,2,3,4,5,6],[0,1,2,3,4,5,6],[]]),(15,[[131,132,133,134,135,136,137,138,139,140,141,142],[130,133,137,138,139,140,141,142],[130,133,137,138,139,140,141,142],[130,131,132,137,138,139,140,141,142],[130,137,138,139,140,141,142],[130,137,138,139,140,141,142],[130,137,138,139,140,141,142],[130,131,132,133,134,135,136,139],[130,131,132,133,134,135,136,139],[130,131,132,133,134,135,136,137,138],[130,131,132,133,134,135,136],[130,131,132,133,134,135,136],[130,131,132,133,134,135,136],[]],[[],[0],[0],[0,1,2],[0],[0],[0],[0,1,2,3,4,5,6],[0,1,2,3,4,5,6],[0,1,2,3,4,5,6,7,8],[0,1,2,3,4,5,6],[0,1,2,3,4,5,6],[0,1,2,3,4,5,6],[]]),(8,[[42,43,44,45,46,47,48,49,50,51,52,53,54,55,56,57,58,59],[41,44,48,49,50,51,52,53,54,55,56,57,58,59],[41,44,48,49,50,51,52,53,54,55,56,57,58,59],[41,42,43,48,49,50,51,52,53,54,55,56,57,58,59],[41,48,49,50,51,52,53,54,55,56,57,58,59],[41,48,49,50,51,52,53,54,55,56,57,58,59],[41,48,49,50,51,52,53,54,55,56,57,58,59],[41,42,43,44,45,46,47,50,54,55,56,57,58,59],[41,42,43,44,45,46,47,50,54,55,56,57,58,59],[41,42,43,44,45,46,47,48,49,54,55,56,57,58,59],[41,42,43,44,45,46,47,54,55,56,57,58,59],[41,42,43,44,45,46,47,54,55,56,57,58,59],[41,42,43,44,45,46,47,54,55,56,57,58,59],[41,42,43,44,45,46,47,48,49,50,51,52,53,56],[41,42,43,44,45,46,47,48,49,50,51,52,53,56],[41,42,43,44,45,46,47,48,49,50,51,52,53,54,55],[41,42,43,44,45,46,47,48,49,50,51,52,53],[41,42,43,44,45,46,47,48,49,50,51,52,53],[41,42,43,44,45,46,47,48,49,50,51,52,53],[]],[[],[0],[0],[0,1,2],[0],[0],[0],[0,1,2,3,4,5,6],[0,1,2,3,4,5,6],[0,1,2,3,4,5,6,7,8],[0,1,2,3,4,5,6],[0,1,2,3,4,5,6],[0,1,2,3,4,5,6],[0,1,2,3,4,5,6,7,8,9,10,11,12],[0,1,2,3,4,5,6,7,8,9,10,11,12],[0,1,2,3,4,5,6,7,8,9,10,11,12,13,14],[0,1,2,3,4,5,6,7,8,9,10,11,12],[0,1,2,3,4,5,6,7,8,9,10,11,12],[0,1,2,3,4,5,6,7,8,9,10,11,12],[]])]
def Ej:fc:=[(11,[[67,68,69],[66],[66],[66],[],[],[73,74,75],[72],[72],[72],[],[],[80,84,85,86,87,88,89],[80,84,85,86,87,88,89],[78,79,84,85,86,87,88,89],[84,85,86,87,88,89],[84,85,86,87,88,89],[84,85,86,87,88,89],[78,79,80,81,82,83,86],[78,79,80,81,82,83,86],[78,79,80,81,82,83,84,85],[78,79,80,81,82,83],[78,79,80,81,82,83],[78,79,80,81,82,83],[],[],[],[]],[[],[0],[0],[0],[],[],[],[6],[6],[6],[],[],[],[],[12,13],[],[],[],[12,13,14,15,16,17],[12,13,14,15,16,17],[12,13,14,15,16,17,18,19],[12,13,14,15,16,17],[12,13,14,15,16,17],[12,13,14,15,16,17],[],[],[],[]]),(14,[[111,112,113],[110],[110],[110],[],[],[118,122,123,124,125,126,127],[118,122,123,124,125,126,127],[116,117,122,123,124,125,126,127],[122,123,124,125,126,127],[122,123,124,125,126,127],[122,123,124,125,126,127],[116,117,118,119,120,121,124],[116,117,118,119,120,121,124],[116,117,118,119,120,121,122,123],[116,117,118,119,120,121],[116,117,118,119,120,121],[116,117,118,119,120,121],[],[],[]],[[],[0],[0],[0],[],[],[],[],[6,7],[],[],[],[6,7,8,9,10,11],[6,7,8,9,10,11],[6,7,8,9,10,11,12,13],[6,7,8,9,10,11],[6,7,8,9,10,11],[6,7,8,9,10,11],[],[],[]])]
theorem TX(p q:List (Int×Int))(g:Nat)(f:Int->Int->Int)(hp:wZ p)(hq:wZ q)(gq:p.length<=500000)(qJ:q.length<=500000)(hg:∀a b:Int,-1125899906842624<=a->a<=1125899906842624-> -1125899906842624<=b->b<=1125899906842624->Fn Tryz.prog g [I a,I b] (I (f a b))):
  Fn Tryz.prog 31 [plA false p,plA false q,.fn g []] (if rJ (dR f p q) then plA false (nz (dR f p q)) else plA true []):=by
 refine Fn.av [.cell 6 34] Tryz.func31 rfl rfl (by decide) (by simp[Tryz.ntmps31]) ?_;rw[Tryz.ntmps31]
 repeat' (first|omega|(first|apply ah|refine aw Zj ?_|refine cY u7 ?_|skip);simp only[go_sem]|apply ag<;>(intro h_;(try simp only[h_]);revert h_)|apply zO|with_reducible intro h_|trivial)
 refine dr.intro (fun n fr H=>∃(i j:Nat) (done:List (Int×Int)),i<=p.length/\j<=q.length/\n=(p.length-i)+(q.length-j)/\done.length<=i+j/\done++dR f (p.drop i) (q.drop j)=dR f p q/\fr=[(11,I j),(10,I i),(9,.fn 70 [.ptr 2 0,.ptr 6 0,.ptr 5 0]),(8,.ptr 6 0),(7,.ptr 5 0),(6,.ptr 3 0),(4,.ptr 1 0),(3,.ptr 0 0)]/\H=ug g p q (nz done) (rJ done)) ?_ ?_
 ·refine⟨_,_,_,?_,0,0,[],by omega,by omega,rfl,by simp,rfl,rfl,rfl⟩;unfold ug;refine Wk.sub ?_ ?_<;>simp only[go_sem]
  all_goals simp[nz,rJ,e9]
 rintro n fr H ⟨i,j,done,hi,hj,rfl,nK,gB,rfl,rfl⟩;have lg:(nz done).length<=1000000:=by have:=List.length_filter_le (fun t:Int×Int=>t.2 !=0) done;unfold nz;omega
 have t0:=fun h=>ve p i h;have t1:=fun h=>Bd p i h;have u0:=fun h=>ve q j h;have u1:=fun h=>Bd q j h;unfold ug;by_cases iN:i<p.length
 ·have fp:=ES hp iN;have t0:=t0 iN;have t1:=t1 iN;by_cases dH:j<q.length
  ·have fq:=ES hq dH;have u0:=u0 dH;have u1:=u1 dH;by_cases he:(p.getD i (0,0)).1<(q.getD j (0,0)).1
   ·have bi:decide ((i:Int)<p.length)=true:=by simp;omega
    have bj:((j:Int)==q.length)=false:=by simp;omega
    have AR:decide ((p.getD i (0,0)).1<(q.getD j (0,0)).1)=true:=by exact decide_eq_true he
    repeat' (first|omega|(first|apply ah|refine aw Ej ?_|refine cY u7 ?_|refine aw u7 ?_|skip);simp only[go_sem,t0,t1,u0,u1,bi,bj,AR]|apply ag<;>(intro h_;(try simp only[h_]);revert h_)|apply zO|with_reducible intro h_|trivial)
    refine⟨aL.inline (EG _ _ g p q (nz done) (rJ done) (p.getD i (0,0)).1 (p.getD i (0,0)).2 0 _ (hg _ _ (by omega) (by omega) (by omega) (by omega)) lg (fun h0=>?_) (fun h1=>?_))⟩
    ·repeat' (first|omega|(try apply ah);simp only[go_sem]|apply ag<;>(intro h_;(try simp only[h_]);revert h_)|apply zO|with_reducible intro h_|trivial)
     refine⟨_,_,_,?_,?_,⟨i+1,j,done++[((p.getD i (0,0)).1,f (p.getD i (0,0)).2 0)],by omega,by omega,rfl,by simp;omega,by rw[<-gB,HL iN (.inr he) hj];simp,rfl,rfl⟩⟩
     ·omega
     ·rw[EF done h0,xi];refine Wk.sub ?_ ?_<;>(simp only[go_sem,zG])
    ·repeat' (first|omega|(try apply ah);simp only[go_sem]|apply ag<;>(intro h_;(try simp only[h_]);revert h_)|apply zO|with_reducible intro h_|trivial)
     refine⟨_,_,_,?_,?_,⟨i+1,j,done++[((p.getD i (0,0)).1,f (p.getD i (0,0)).2 0)],by omega,by omega,rfl,by simp;omega,by rw[<-gB,HL iN (.inr he) hj];simp,rfl,rfl⟩⟩
     ·omega
     ·rw[EE done h1,xi];refine Wk.sub ?_ ?_<;>(simp only[go_sem,zG])
   ·by_cases DO:(q.getD j (0,0)).1<(p.getD i (0,0)).1
    ·have bi:decide ((i:Int)<p.length)=true:=by simp;omega
     have bin:((i:Int)==p.length)=false:=by simp;omega
     have bj:((j:Int)==q.length)=false:=by simp;omega
     have AR:decide ((p.getD i (0,0)).1<(q.getD j (0,0)).1)=false:=by exact decide_eq_false (by omega)
     have Qm:decide ((q.getD j (0,0)).1<(p.getD i (0,0)).1)=true:=by exact decide_eq_true DO
     repeat' (first|omega|(first|apply ah|refine aw Ej ?_|refine cY u7 ?_|refine aw u7 ?_|skip);simp only[go_sem,t0,t1,u0,u1,bi,bin,bj,AR,Qm]|apply ag<;>(intro h_;(try simp only[h_]);revert h_)|apply zO|with_reducible intro h_|trivial)
     refine⟨aL.inline (EG _ _ g p q (nz done) (rJ done) (q.getD j (0,0)).1 0 (q.getD j (0,0)).2 _ (hg _ _ (by omega) (by omega) (by omega) (by omega)) lg (fun h0=>?_) (fun h1=>?_))⟩
     ·repeat' (first|omega|(try apply ah);simp only[go_sem]|apply ag<;>(intro h_;(try simp only[h_]);revert h_)|apply zO|with_reducible intro h_|trivial)
      refine⟨_,_,_,?_,?_,⟨i,j+1,done++[((q.getD j (0,0)).1,f 0 (q.getD j (0,0)).2)],by omega,by omega,rfl,by simp;omega,by rw[<-gB,HK dH (.inr DO) hi];simp,rfl,rfl⟩⟩
      ·omega
      ·rw[EF done h0,xi];refine Wk.sub ?_ ?_<;>(simp only[go_sem,zG])
     ·repeat' (first|omega|(try apply ah);simp only[go_sem]|apply ag<;>(intro h_;(try simp only[h_]);revert h_)|apply zO|with_reducible intro h_|trivial)
      refine⟨_,_,_,?_,?_,⟨i,j+1,done++[((q.getD j (0,0)).1,f 0 (q.getD j (0,0)).2)],by omega,by omega,rfl,by simp;omega,by rw[<-gB,HK dH (.inr DO) hi];simp,rfl,rfl⟩⟩
      ·omega
      ·rw[EE done h1,xi];refine Wk.sub ?_ ?_<;>(simp only[go_sem,zG])
    ·have bi:decide ((i:Int)<p.length)=true:=by simp;omega
     have bin:((i:Int)==p.length)=false:=by simp;omega
     have bj:((j:Int)==q.length)=false:=by simp;omega
     have AR:decide ((p.getD i (0,0)).1<(q.getD j (0,0)).1)=false:=by exact decide_eq_false (by omega)
     have Qm:decide ((q.getD j (0,0)).1<(p.getD i (0,0)).1)=false:=by exact decide_eq_false (by omega)
     repeat' (first|omega|(first|apply ah|refine aw Ej ?_|refine cY u7 ?_|refine aw u7 ?_|skip);simp only[go_sem,t0,t1,u0,u1,bi,bin,bj,AR,Qm]|apply ag<;>(intro h_;(try simp only[h_]);revert h_)|apply zO|with_reducible intro h_|trivial)
     refine⟨aL.inline (EG _ _ g p q (nz done) (rJ done) (p.getD i (0,0)).1 (p.getD i (0,0)).2 (q.getD j (0,0)).2 _ (hg _ _ (by omega) (by omega) (by omega) (by omega)) lg (fun h0=>?_) (fun h1=>?_))⟩
     ·repeat' (first|omega|(try apply ah);simp only[go_sem]|apply ag<;>(intro h_;(try simp only[h_]);revert h_)|apply zO|with_reducible intro h_|trivial)
      refine⟨_,_,_,?_,?_,⟨i+1,j+1,done++[((p.getD i (0,0)).1,f (p.getD i (0,0)).2 (q.getD j (0,0)).2)],by omega,by omega,rfl,by simp;omega,by rw[<-gB,Vg iN dH (by omega)];simp,rfl,rfl⟩⟩
      ·omega
      ·rw[EF done h0,xi];refine Wk.sub ?_ ?_<;>(simp only[go_sem,zG])
     ·repeat' (first|omega|(try apply ah);simp only[go_sem]|apply ag<;>(intro h_;(try simp only[h_]);revert h_)|apply zO|with_reducible intro h_|trivial)
      refine⟨_,_,_,?_,?_,⟨i+1,j+1,done++[((p.getD i (0,0)).1,f (p.getD i (0,0)).2 (q.getD j (0,0)).2)],by omega,by omega,rfl,by simp;omega,by rw[<-gB,Vg iN dH (by omega)];simp,rfl,rfl⟩⟩
      ·omega
      ·rw[EE done h1,xi];refine Wk.sub ?_ ?_<;>(simp only[go_sem,zG])
  ·obtain rfl:j=q.length:=by omega
   have bi:decide ((i:Int)<p.length)=true:=by simp;omega
   have bj:((q.length:Int)==q.length)=true:=by simp
   repeat' (first|omega|(first|apply ah|refine aw Ej ?_|refine cY u7 ?_|refine aw u7 ?_|skip);simp only[go_sem,t0,t1,bi,bj]|apply ag<;>(intro h_;(try simp only[h_]);revert h_)|apply zO|with_reducible intro h_|trivial)
   refine⟨aL.inline (EG _ _ g p q (nz done) (rJ done) (p.getD i (0,0)).1 (p.getD i (0,0)).2 0 _ (hg _ _ (by omega) (by omega) (by omega) (by omega)) lg (fun h0=>?_) (fun h1=>?_))⟩
   ·repeat' (first|omega|(try apply ah);simp only[go_sem]|apply ag<;>(intro h_;(try simp only[h_]);revert h_)|apply zO|with_reducible intro h_|trivial)
    refine⟨_,_,_,?_,?_,⟨i+1,q.length,done++[((p.getD i (0,0)).1,f (p.getD i (0,0)).2 0)],by omega,by omega,rfl,by simp;omega,by rw[<-gB,HL iN (.inl rfl) hj];simp,rfl,rfl⟩⟩
    ·omega
    ·rw[EF done h0,xi];refine Wk.sub ?_ ?_<;>(simp only[go_sem,zG])
   ·repeat' (first|omega|(try apply ah);simp only[go_sem]|apply ag<;>(intro h_;(try simp only[h_]);revert h_)|apply zO|with_reducible intro h_|trivial)
    refine⟨_,_,_,?_,?_,⟨i+1,q.length,done++[((p.getD i (0,0)).1,f (p.getD i (0,0)).2 0)],by omega,by omega,rfl,by simp;omega,by rw[<-gB,HL iN (.inl rfl) hj];simp,rfl,rfl⟩⟩
    ·omega
    ·rw[EE done h1,xi];refine Wk.sub ?_ ?_<;>(simp only[go_sem,zG])
 ·obtain rfl:i=p.length:=by omega
  by_cases dH:j<q.length
  ·have fq:=ES hq dH;have u0:=u0 dH;have u1:=u1 dH;have bi:decide ((p.length:Int)<p.length)=false:=by simp
   have bin:((p.length:Int)==p.length)=true:=by simp
   have bj:((j:Int)==q.length)=false:=by simp;omega
   have bjl:decide ((j:Int)<q.length)=true:=by simp;omega
   repeat' (first|omega|(first|apply ah|refine aw Ej ?_|refine cY u7 ?_|refine aw u7 ?_|skip);simp only[go_sem,u0,u1,bi,bin,bj,bjl]|apply ag<;>(intro h_;(try simp only[h_]);revert h_)|apply zO|with_reducible intro h_|trivial)
   refine⟨aL.inline (EG _ _ g p q (nz done) (rJ done) (q.getD j (0,0)).1 0 (q.getD j (0,0)).2 _ (hg _ _ (by omega) (by omega) (by omega) (by omega)) lg (fun h0=>?_) (fun h1=>?_))⟩
   ·repeat' (first|omega|(try apply ah);simp only[go_sem]|apply ag<;>(intro h_;(try simp only[h_]);revert h_)|apply zO|with_reducible intro h_|trivial)
    refine⟨_,_,_,?_,?_,⟨p.length,j+1,done++[((q.getD j (0,0)).1,f 0 (q.getD j (0,0)).2)],by omega,by omega,rfl,by simp;omega,by rw[<-gB,HK dH (.inl rfl) hi];simp,rfl,rfl⟩⟩
    ·omega
    ·rw[EF done h0,xi];refine Wk.sub ?_ ?_<;>(simp only[go_sem,zG])
   ·repeat' (first|omega|(try apply ah);simp only[go_sem]|apply ag<;>(intro h_;(try simp only[h_]);revert h_)|apply zO|with_reducible intro h_|trivial)
    refine⟨_,_,_,?_,?_,⟨p.length,j+1,done++[((q.getD j (0,0)).1,f 0 (q.getD j (0,0)).2)],by omega,by omega,rfl,by simp;omega,by rw[<-gB,HK dH (.inl rfl) hi];simp,rfl,rfl⟩⟩
    ·omega
    ·rw[EE done h1,xi];refine Wk.sub ?_ ?_<;>(simp only[go_sem,zG])
  ·obtain rfl:j=q.length:=by omega
   rw[List.drop_length,List.drop_length]at gB;have hd:dR f p q=done:=by rw[<-gB];simp[dR]
   rw[hd]
   repeat' (first|omega|(try apply ah);simp only[go_sem]|apply ag<;>(intro h_;(try simp only[h_]);revert h_)|apply zO|with_reducible intro h_|trivial)
   all_goals first
    |(rw[zM (by assumption)];exact aT.refl _)
    |(rw[zL (by simp only[*];decide)];exact aT.pK (.cons (aT.refl _) (.cons (aT.nils (by omega) rfl) .nil)))
    |(rw[zM (by assumption),zU (by rw[yb7];omega)];exact aT.refl _)
theorem y7n(a b:Int)(h1: -1125899906842624<=a)(h2:a<=1125899906842624)(h3: -1125899906842624<=b)(h4:b<=1125899906842624):Fn Tryz.prog 68 [I a,I b] (I (pL a b)):=by
 unfold pL;refine Fn.intro [.tmp 4] Tryz.func68 rfl rfl (by decide) (by simp[Tryz.ntmps68]) ?_;rw[Tryz.ntmps68]
 repeat' (first|omega|(try apply ah);simp only[go_sem]|apply ag<;>(intro h_;(try simp only[h_]);revert h_)|apply zO|with_reducible intro h_|trivial)
theorem Zi(p q:List (Int×Int))(hp:wZ p)(hq:wZ q)(gq:p.length<=500000)(qJ:q.length<=500000)(dt:rJ (dR pL p q)=true):Fn Tryz.prog 25 [plA false p,plA false q] (plA false (nz (dR pL p q))):=by
 have hc:=TX p q 68 pL hp hq gq qJ (fun a b h1 h2 h3 h4=>y7n a b h1 h2 h3 h4);rw[zM dt]at hc;refine Fn.intro [.cell 4 34] Tryz.func25 rfl rfl (by decide) (by simp[Tryz.ntmps25]) ?_;rw[Tryz.ntmps25]
 repeat' (first|omega|(try apply ah);simp only[go_sem]|apply ag<;>(intro h_;(try simp only[h_]);revert h_)|apply zO|with_reducible intro h_|trivial)
 refine⟨aL.fn rfl hc ?_⟩
 repeat' (first|omega|(try apply ah);simp only[go_sem]|apply ag<;>(intro h_;(try simp only[h_]);revert h_)|apply zO|with_reducible intro h_|trivial)
theorem UU(x:Nat)(h:x<9223372036854775808):El (x:Int) 1=((x % 2:Nat):Int):=by
 unfold El;have h1:(BitVec.ofInt 64 (x:Int)&&&BitVec.ofInt 64 1).toNat=x % 2:=by
  rw[BitVec.toNat_and];have e1:(BitVec.ofInt 64 (x:Int)).toNat=x:=by simp[BitVec.toNat_ofInt];omega
  have e2:(BitVec.ofInt 64 1).toNat=1:=by decide
  rw[e1,e2,Nat.and_one_is_mod]
 rw[h1];exact Mw (by unfold InI;omega)
theorem Zh(b c:Nat)(hb:b<=100000)(hc:c<=60):Fn Tryz.prog 22 [I c,.rp (.lst [I b]) 0] (.bool (cV b c)):=by
 have e0:(b:Int)/2^c=((b/2^c:Nat):Int):=by simp
 have aC:b/2^c<=b:=Nat.div_le_self _ _;have e1:=UU (b/2^c) (by omega);have e2:(((b/2^c % 2:Nat):Int)==1)=cV b c:=by
  unfold cV;by_cases h:b/2^c % 2=1
  ·simp[h]
  ·have:((b/2^c % 2:Nat):Int)≠1:=by omega
   rw[zX.2 this,zX.2 h]
 refine Fn.intro [.tmp 3] Tryz.func22 rfl rfl (by decide) (by simp[Tryz.ntmps22]) ?_;rw[Tryz.ntmps22]
 repeat' (first|omega|(try apply ah);simp only[go_sem,e0,e1,e2,zD]|apply ag<;>(intro h_;(try simp only[h_]);revert h_)|apply zO|with_reducible intro h_|trivial)
theorem Zg:Fn Tryz.prog 23 [I (-2),.ro 1 5 (.ints [-1,0,0,0,-1])] (plA false [(-2,-1),(2,-1)]):=by
 have h:=G5 (-2) [-1,0,0,0,-1] (by decide) (by decide) (by decide);rw[show gF (-2) [-1,0,0,0,-1]=[(-2,-1),(2,-1)] by decide]at h;exact h
theorem y3z(q:List (Int×Int)):Fn Tryz.prog 24 [.agg [.bool false,.nils],plA false q] (plA false []):=by
 refine Fn.av [.cell 4 34] Tryz.func24 rfl rfl (by decide) (by simp[Tryz.ntmps24]) ?_;rw[Tryz.ntmps24]
 repeat' (first|omega|(try apply ah);simp only[go_sem]|apply ag<;>(intro h_;(try simp only[h_]);revert h_)|apply zO|with_reducible intro h_|trivial)
 all_goals exact aT.pK (.cons (aT.refl _) (.cons (aT.nils (by omega) rfl) .nil))
theorem fe.ok{p:List (Int×Int)}{f:Int->Int}(h:fe p f)(hs:∀e,f e≠0-> -1000<=e/\e<=1000)(hb:∀e,-1125899906842624<=f e/\f e<=1125899906842624):K8 p:=by
 refine⟨h.fits hb,by have:=h.len hs;omega,fun i j lk hj=>?_,fun i hi=>?_⟩
 ·by_cases e:i=j
  ·subst e;exact Int.le_refl _
  ·have:=List.pairwise_iff_getElem.1 h.asc.asc i j (by omega) hj (by omega)
   simp only[zB,zJ hj,zJ (show i<p.length by omega),Option.getD_some];omega
 ·have:=hs _ (h.mem (xO hi)).2
  omega
theorem Qh:dA [(-2,-1),(2,-1)]:=⟨by decide,by decide⟩
theorem y7o{p q:List (Int×Int)}{f g h:Int->Int}(hp:fe p f)(hq:fe q g)(hs:∀e,f e≠0-> -1000<=e/\e<=1000)(jI:∀e,g e≠0-> -1000<=e/\e<=1000)
  (hb:∀e,-1125899906842624<=f e/\f e<=1125899906842624) (oz:∀e,-1125899906842624<=g e/\g e<=1125899906842624) (hh:∀e,tg p g e=h e) (hb3:∀e,-1125899906842624<=h e/\h e<=1125899906842624)
  (kY:0<p.length) (mD:0<q.length) (hd:lE p+lE q-(bf p+bf q)<=64+4*(p.length:Int)*q.length):
  ∃r,fe r h/\Fn Tryz.prog 24 [plA false p,plA false q] (plA false r):=by
 have a0:=hs _ (hp.mem (xO (i:=0) kY)).2;have a1:=hs _ (hp.mem (xO (i:=p.length-1) (by omega))).2;have b0:=jI _ (hq.mem (xO (i:=0) mD)).2;have b1:=jI _ (hq.mem (xO (i:=q.length-1) (by omega))).2;have hgq:bM q=g:=funext hq.cf;have hc:∀e,bM (gF (bf p+bf q) (oU p q)) e=h e:=fun e=>by rw[y6r hp.asc hq.asc,hgq,hh]
 refine⟨_,⟨LH _ _,hc⟩,Zk p q (hp.ok hs hb) (hq.ok jI oz) kY mD ?_ ?_ ?_ hd fun z hz=>?_⟩
 ·unfold bf;omega
 ·unfold lE;omega
 ·unfold bf lE;omega
 ·obtain⟨i,hi,rfl⟩:=List.mem_iff_getElem.1 hz;have h1:=Iz (bf p+bf q) (oU p q) (bf p+bf q+i);rw[zM (by omega),show (bf p+bf q+(i:Int)-(bf p+bf q)).toNat=i by omega,hc]at h1;have h2:(oU p q).getD i 0=(oU p q)[i]:=by simp[zB,hi]
  rw[<-h2,<-h1];exact hb3 _
theorem Zf{p:List (Int×Int)}{f:Int->Int}(hp:fe p f)(hs:∀e,f e≠0-> -1000<=e/\e<=1000)(hb:∀e,-281474976710656<=f e/\f e<=281474976710656)(hd:0<p.length->lE p-bf p+4<=64+8*(p.length:Int)):
  ∃q,fe q (fE f)/\Fn Tryz.prog 24 [plA false p,plA false [(-2,-1),(2,-1)]] (plA false q):=by
 by_cases kY:0<p.length
 ·have hq:fe [(-2,-1),(2,-1)] (bM [(-2,-1),(2,-1)]):=⟨Qh,fun _=>rfl⟩;refine y7o hp hq hs (fun e he=>?_) (fun e=>by have:=hb e;omega) (fun e=>?_) (h:=fE f) (fun e=>by rw[Ho,show bM p=f from funext hp.cf]) (fun e=>?_) kY (by decide) ?_
  ·simp only[bM]at he;by_cases h1:(-2:Int)=e
   ·omega
   ·rw[zL h1]at he;by_cases h2:(2:Int)=e
    ·omega
    ·rw[zL h2]at he;exact zzA rfl he
  ·simp only[bM];split<;>split<;>omega
  ·have h1:=hb (e+2);have h2:=hb (e-2);unfold fE;omega
  ·have:=hd kY
   have e1:lE [((-2:Int),(-1:Int)),(2,-1)]=2:=rfl;have e2:bf [((-2:Int),(-1:Int)),(2,-1)]= -2:=rfl;rw[e1,e2,show ([((-2:Int),(-1:Int)),(2,-1)]:List (Int×Int)).length=2 from rfl];omega
 ·obtain rfl:p=[]:=List.length_eq_zero_iff.1 (by omega);refine⟨[],fe.nil.congr fun e=>?_,y7m _⟩;have h1:=hp.cf (e+2);have h2:=hp.cf (e-2);simp only[bM]at h1 h2;unfold fE;rw[<-h1,<-h2];rfl
def Il(f:Int->Int):List (Int×Int):=gF (-1000) ((List.range 2001).map fun (i:Nat)=>f ((i:Int)-1000))
theorem CY{f:Int->Int}(hs:∀e,f e≠0-> -1000<=e/\e<=1000):fe (Il f) f:=by
 refine⟨LH _ _,fun e=>?_⟩;unfold Il;rw[Iz];by_cases h0:f e=0
 ·rw[h0]
  split
  ·by_cases h1:(e- -1000).toNat<2001
   ·simp only[zB,zR,List.getElem?_range h1,Option.map_some,Option.getD_some];rw[show (((e- -1000).toNat:Nat):Int)-1000=e by omega,h0]
   ·rw[zB,zS (by simp;omega)];rfl
  ·rfl
 ·have:=hs e h0
  rw[zM (by omega)];have h1:(e- -1000).toNat<2001:=by omega
  simp only[zB,zR,List.getElem?_range h1,Option.map_some,Option.getD_some];rw[show (((e- -1000).toNat:Nat):Int)-1000=e by omega]
theorem fe.eq{p:List (Int×Int)}{f:Int->Int}(h:fe p f)(hs:∀e,f e≠0-> -1000<=e/\e<=1000):p=Il f:=
 dA.ext h.asc (CY hs).asc fun e=>by rw[h.cf,(CY hs).cf]
def pD(m:List Int)(n L:Nat):List (Int×Int):=Il (dF m n L 1)
theorem xa{m:List Int}{n L:Nat}(hp:jo m n)(hn:n<=9)(hL:L<=20){j:Nat}(hj:1<=j){e:Int}(he:dF m n L j e≠0): -1000<=e/\e<=1000:=by
 have h1:=CZ hp he;omega
theorem IQ{m:List Int}{n L:Nat}(hp:jo m n)(hn:n<=9)(hL:L<=20){j:Nat}(hj:1<=j)(e:Int): -70368744177664<=dF m n L j e/\dF m n L j e<=70368744177664:=by
 have h1:=y3g hp (L:=L) (j:=j) (M:=37) (by omega) e;have h2:2^(37+n)<=2^46:=Nat.pow_le_pow_right (by omega) (by omega);omega
theorem y30{m:List Int}{n L K j:Nat}{r:List Int}(h:de m n L K (j:Int)=some r)(hK:K<=512)(hn:n<=9)(x:Nat)(hx:x<=n+1)(e:Int): -10000<=lU n r x e/\lU n r x e<=10000:=by
 unfold lU
 have:=Lo (f:=fun y=>if e=(n:Int)-2*y then r.getD y 0 else 0) (b:=512) (n:=x) fun y hy=>by
  have:=Nb h (x:=y) (by omega)
  split<;>omega
 omega
theorem y31{n:Nat}{r:List Int}(hn:n<=9){x:Nat}(hx:x<=n+1){e:Int}(he:lU n r x e≠0): -1000<=e/\e<=1000:=by
 obtain⟨y,hy,h⟩:=K4 he;by_cases h1:e=(n:Int)-2*y
 ·omega
 ·exact zzA (zL h1) h
theorem ZM{p q:List (Int×Int)}{f g:Int->Int}(hp:fe p f)(hq:fe q g)(hs:∀e,f e≠0-> -1000<=e/\e<=1000)(ht:∀e,g e≠0-> -1000<=e/\e<=1000)
  (hf:∀e,-562949953421312<=f e/\f e<=562949953421312) (hg:∀e,-562949953421312<=g e/\g e<=562949953421312):
  ∃r,fe r (fun e=>f e+g e)/\Fn Tryz.prog 25 [plA false p,plA false q] (plA false r):=by
 have ha:=RQ pL p q hp.asc.asc hq.asc.asc;have hc:∀x,bM (dR pL p q) x=f x+g x:=fun x=>by rw[you pL rfl p q hp.asc.asc hq.asc.asc,hp.cf,hq.cf];rfl
 refine⟨nz (dR pL p q),⟨QK ha,fun e=>by rw[QL,hc]⟩,Zi p q (hp.fits fun e=>by have:=hf e;omega) (hq.fits fun e=>by have:=hg e;omega) (by have:=hp.len hs;omega) (by have:=hq.len ht;omega) ?_⟩;unfold rJ;rw[zZ];intro t ht
 have:=SE ha ht
 rw[hc]at this;have h1:=hf t.1;have h2:=hg t.1;exact Mf (by omega) (by omega)
theorem M3(H:Hp)(i j:Nat):hget (H++[(i,.gone)]) j=match hget H j with|some o=>some o|none=>if i=j then some .gone else none:=by
 induction H with
 |nil=>simp[hget]
 |cons p H ih=>
  obtain⟨k,o⟩:=p;rw[List.cons_append];simp only[hget];by_cases e:k=j
  ·rw[zM e,zM e]
  ·rw[zL e,zL e];exact ih
theorem Wk.gone{fr:Fr}{H:Hp}(i:Nat)(h:hget H i=none):Wk fr H fr (H++[(i,.gone)]):=by
 intro B w0 Mx N w ρ a hs;have up:∀j o,hget H j=some o->hget (H++[(i,.gone)]) j=some o:=fun j o hj=>by rw[M3,hj]
 have dn:∀j o,hget (H++[(i,.gone)]) j=some o->o= .gone\/hget H j=some o:=fun j o hj=>by
  rw[M3]at hj;cases hq:hget H j with
  |some o'=>rw[hq]at hj;exact .inr hj
  |none=>
   rw[hq]at hj;simp only at hj
   split at hj
   ·cases hj;exact .inl rfl
   ·cases hj
 have dl:∀j o,hget (H++[(i,.gone)]) j=some o->o.live=true->hget H j=some o:=fun j o hj hl=>by
  rcases dn j o hj with rfl|h2
  ·cases hl
  ·exact h2
 have hM:∀b,¬MM Mx H ρ b->¬MM Mx (H++[(i,.gone)]) ρ b:=fun b hn hm=>hn (by
  rcases hm with h1|⟨id,o,h1,h2,h3⟩
  ·exact .inl h1
  ·exact .inr ⟨id,o,dl id o h1 h2,h2,h3⟩)
 have hc:∀{v:Value} {x:AV},VR w (MM Mx H ρ) ρ (DD H) v x->VR w (MM Mx (H++[(i,.gone)]) ρ) ρ (DD (H++[(i,.gone)])) v x:=fun hv=>
  hv.carry (zA _) (fun b _ hm=>⟨rfl,hM b hm⟩) (fun id hd=>⟨let ⟨o,ho⟩:=hd;⟨o,up id o ho⟩,rfl,fun arr t ha=>⟨arr,ha,rfl⟩⟩)
 refine⟨ρ,hs.below,hs.hB,hs.mx,fun id o h1 h2=>hs.own id o (dl id o h1 h2) h2,fun id o h1=>?_,fun id o bO o' h1 h2 h3 h4 h5=>hs.inj id o bO o' (dl _ _ h1 h2) h2 (dl _ _ h3 h4) h4 h5,fun t=>hc (hs.frv t),hs.defers,hs.size⟩;rcases dn id o h1 with rfl|h2
 ·trivial
 have hr:=hs.objs id o h2;cases o with
 |gone=>trivial
 |cells t c=>
  obtain⟨g1,arr,g2,g3,g4⟩:=hr;exact⟨g1,arr,g2,g3,fun j hj=>let ⟨u,hu,hv⟩:=g4 j hj;⟨u,hu,hc hv⟩⟩
 |gmap t ck l=>
  obtain⟨es,g1,g2,g3⟩:=hr;exact⟨es,g1,g2,fun j e' q he hl=>let ⟨k1,k2,k3⟩:=g3 j e' q he hl;⟨k1,k2,hc k3⟩⟩
 |iter dB s sn la=>
  obtain⟨g1,g2,g3⟩:=hr;obtain⟨om,vX⟩:=g1;exact⟨⟨om,up dB om vX⟩,g2,g3⟩
 |imap t l=>
  obtain⟨g0,es,ck,g1,g2,g3⟩:=hr;exact⟨g0,es,ck,g1,g2,fun j e' k x he hl=>let ⟨k1,k2,k3⟩:=g3 j e' k x he hl;⟨k1,hc k2,k3⟩⟩
 |fmap t c=>exact hr
def lR(T:List (Nat×List Int)):Hp:=T.map fun q=>(q.1,AObj.cells 3 (.ints q.2))
theorem xQ(i:Nat)(r:List Int)(T:List (Nat×List Int)):lR ((i,r)::T)=(i,AObj.cells 3 (.ints r))::lR T:=rfl
def kK:List (Nat×List Int)->Nat->List Int->List (Nat×List Int)
 |[],_,_=>[]
 |(i,r)::T,j,r'=>if i=j then (i,r')::T else (i,r)::kK T j r'
theorem Mc(T:List (Nat×List Int))(j:Nat)(r:List Int)(o:AObj)(h:hget (lR T) j=some o)(i:Nat):hget (lR (kK T j r)) i=if i=j then some (.cells 3 (.ints r)) else hget (lR T) i:=by
 induction T with
 |nil=>cases h
 |cons q T ih=>
  obtain⟨k,x⟩:=q;rw[xQ]at h⊢;simp only[hget,kK]at h⊢;by_cases e:k=j
  ·subst e;rw[zM rfl,xQ];simp only[hget];by_cases e2:k=i
   ·subst e2;simp
   ·rw[zL e2,zL e2,zL (fun h=>e2 h.symm)]
  ·rw[zL e]at h⊢;rw[xQ];simp only[hget];by_cases e2:k=i
   ·subst e2;rw[zM rfl,zM rfl,zL e]
   ·rw[zL e2,zL e2];exact ih h
def TOk(T:List (Nat×List Int)):Prop:=∀q∈T,hget (lR T) q.1=some (.cells 3 (.ints q.2))
theorem E4{v:AV}:∀(E:List (Int×AV)) (n:Int),jW (fH E n v) n=some v
 |[],n=>by simp[jW,fH]
 |q::E,n=>by
  unfold fH
  split
  ·simp[jW]
  ·rename_i h
   have:=E4 (v:=v) E n
   unfold jW at this⊢;have e:(q.1==n)=false:=by simpa using h
   simp only[List.find?_cons,e];exact this
theorem Bg{v:AV}{n c:Int}(hc:c≠n):∀(E:List (Int×AV)),jW (fH E n v) c=jW E c
 |[]=>by
  have e:(n==c)=false:=by simpa using fun h=>hc h.symm
  simp[jW,fH,e]
 |q::E=>by
  unfold fH
  split
  ·rename_i h
   have e:(n==c)=false:=by simpa using fun h=>hc h.symm
   have e2:(q.1==c)=false:=by rw[h];exact e
   simp[jW,List.find?_cons,e,e2]
  ·have:=Bg (v:=v) hc E
   unfold jW at this⊢;simp only[List.find?_cons];cases q.1==c
   ·exact this
   ·rfl
structure qd(n:Nat)(E:List (Int×AV))(T:List (Nat×List Int))(f:Int->Option (List Int)):Prop where
 no:∀c,f c=none->jW E c=none
 yes:∀c r,f c=some r->∃id,jW E c=some (.sl 1 id 0 (n+1))/\hget (lR T) id=some (.cells 3 (.ints r))/\r.length=n+1
 inj:∀c c' id,jW E c=some (.sl 1 id 0 (n+1))->jW E c'=some (.sl 1 id 0 (n+1))->c=c'
 nd:(T.map (·.1)).Nodup
 low:∀q∈T,4<=q.1
 mem:∀q∈E,∃id,q.2= .sl 1 id 0 (n+1)/\(hget (lR T) id).isSome=true
theorem IZ{T:List (Nat×List Int)}{i:Nat}{o:AObj}(h:hget (lR T) i=some o):∃r,(i,r)∈T/\o= .cells 3 (.ints r):=by
 induction T with
 |nil=>cases h
 |cons q T ih=>
  obtain⟨k,x⟩:=q;rw[xQ]at h;simp only[hget]at h
  split at h
  ·rename_i e;subst e;cases h;exact⟨x,zE ..,rfl⟩
  ·obtain⟨r,h1,h2⟩:=ih h;exact⟨r,zF _ h1,h2⟩
theorem qd.new{n:Nat}{E:List (Int×AV)}{T:List (Nat×List Int)}{f:Int->Option (List Int)}(h:qd n E T f){c:Int}(hf:f c=none){id:Nat}(hid:∀q∈T,q.1<id)(h3:4<=id){r:List Int}(hr:r.length=n+1):
  qd n (fH E c (.sl 1 id 0 (n+1))) ((id,r)::T) (fun x=>if x=c then some r else f x):=by
 have yb:∀i o,hget (lR T) i=some o->hget (lR ((id,r)::T)) i=some o:=fun i o hi=>by
  obtain⟨x,hx,_⟩:=IZ hi
  have:=hid _ hx
  rw[xQ];simp only[hget];rw[zL (by omega)];exact hi
 have dB:∀c' i,jW E c'=some (.sl 1 i 0 (n+1))->i≠id:=fun c' i hi e=>by
  subst e;unfold jW at hi;obtain⟨q,hq,p6⟩:=zzB.1 hi;obtain⟨j,e1,e2⟩:=h.mem q (List.mem_of_find?_eq_some hq);rw[p6]at e1;cases e1;obtain⟨o,ho⟩:=Option.isSome_iff_exists.1 e2;obtain⟨x,hx,_⟩:=IZ ho
  have:=hid _ hx
  omega
 refine⟨fun c' lI=>?_,fun c' r' lI=>?_,fun c1 c2 i h1 h2=>?_,?_,fun q hq=>?_,fun q hq=>?_⟩
 ·by_cases e:c'=c
  ·subst e;simp at lI
  ·rw[Bg e];simp only[zL e]at lI;exact h.no c' lI
 ·by_cases e:c'=c
  ·subst e;simp only[if_true,Option.some.injEq]at lI;subst lI;exact⟨id,E4 _ _,by rw[xQ];simp[hget],hr⟩
  ·simp only[zL e]at lI;obtain⟨i,a1,a2,a3⟩:=h.yes c' r' lI;exact⟨i,by rw[Bg e];exact a1,yb i _ a2,a3⟩
 ·by_cases e1:c1=c
  ·by_cases e2:c2=c
   ·rw[e1,e2]
   ·rw[e1,E4]at h1;rw[Bg e2]at h2;cases h1;exact zzA rfl (dB c2 _ h2)
  ·by_cases e2:c2=c
   ·rw[e2,E4]at h2;rw[Bg e1]at h1;cases h2;exact zzA rfl (dB c1 _ h1)
   ·rw[Bg e1]at h1;rw[Bg e2]at h2;exact h.inj c1 c2 i h1 h2
 ·rw[List.map_cons,List.nodup_cons];refine⟨fun hm=>?_,h.nd⟩;obtain⟨q,hq,e⟩:=zzE.1 hm
  have:=hid q hq
  simp only at e;omega
 ·rcases zzD.1 hq with rfl|hq
  ·exact h3
  ·exact h.low q hq
 ·obtain⟨k,x⟩:=q;rcases Th hq with hq|hq
  ·obtain⟨i,a1,a2⟩:=h.mem _ hq;obtain⟨o,ho⟩:=Option.isSome_iff_exists.1 a2;exact⟨i,a1,by rw[yb i o ho];rfl⟩
  ·cases hq;exact⟨id,rfl,by rw[xQ];simp[hget]⟩
theorem y32{T:List (Nat×List Int)}{j:Nat}{r:List Int}{q:Nat×List Int}(h:q∈kK T j r):∃r',(q.1,r')∈T:=by
 induction T with
 |nil=>cases h
 |cons p T ih=>
  obtain⟨i,x⟩:=p;unfold kK at h
  split at h
  ·rcases zzD.1 h with rfl|h
   ·exact⟨x,zE ..⟩
   ·exact⟨q.2,zF _ h⟩
  ·rcases zzD.1 h with rfl|h
   ·exact⟨x,zE ..⟩
   ·obtain⟨r',hr⟩:=ih h;exact⟨r',zF _ hr⟩
theorem Bc:∀{T:List (Nat×List Int)},(T.map (·.1)).Nodup->TOk T
 |[],_,q,hq=>by cases hq
 |(i,r)::T,h,q,hq=>by
  rw[List.map_cons,List.nodup_cons]at h;rw[xQ];simp only[hget];rcases zzD.1 hq with rfl|hq
  ·simp
  ·have:i≠q.1:=fun e=>h.1 (e▸zzE.2 ⟨q,hq,rfl⟩)
   rw[zL this];exact Bc h.2 q hq
theorem y33(T:List (Nat×List Int))(j:Nat)(r:List Int):(kK T j r).map (·.1)=T.map (·.1):=by
 induction T with
 |nil=>rfl
 |cons p T ih=>
  obtain⟨i,x⟩:=p;unfold kK
  split
  ·rfl
  ·rw[List.map_cons,List.map_cons,ih]
theorem qd.e8{n:Nat}{E:List (Int×AV)}{T:List (Nat×List Int)}{f:Int->Option (List Int)}(h:qd n E T f){c:Int}{id:Nat}{r r':List Int}(hf:f c=some r)(hl:jW E c=some (.sl 1 id 0 (n+1)))(hg:hget (lR T) id=some (.cells 3 (.ints r)))(hr:r'.length=n+1):
  qd n E (kK T id r') (fun x=>if x=c then some r' else f x):=by
 refine⟨fun c' lI=>?_,fun c' x lI=>?_,h.inj,by rw[y33];exact h.nd,fun q hq=>?_,fun q hq=>?_⟩
 ·by_cases e:c'=c
  ·subst e;simp at lI
  ·simp only[zL e]at lI;exact h.no c' lI
 ·by_cases e:c'=c
  ·subst e;simp only[if_true,Option.some.injEq]at lI;subst lI;exact⟨id,hl,by rw[Mc T id r' _ hg,zM rfl],hr⟩
  ·simp only[zL e]at lI;obtain⟨i,a1,a2,a3⟩:=h.yes c' x lI
   have:i≠id:=fun e2=>by subst e2;exact e (h.inj c' c i a1 hl)
   exact⟨i,a1,by rw[Mc T id r' _ hg,zL this];exact a2,a3⟩
 ·obtain⟨x,hx⟩:=y32 hq;exact h.low (q.1,x) hx
 ·obtain⟨i,a1,a2⟩:=h.mem q hq;refine⟨i,a1,?_⟩;rw[Mc T id r' _ hg]
  split
  ·rfl
  ·exact a2
def fF(T:List (Nat×List Int)):Hp:=lR T++[(3,.gone)]
theorem MZ:fF []=[(3,.gone)]:=rfl
theorem zo(i:Nat)(r:List Int)(T:List (Nat×List Int)):fF ((i,r)::T)=(i,AObj.cells 3 (.ints r))::fF T:=rfl
theorem Ba(T:List (Nat×List Int)){i:Nat}(h:i≠3):hget (fF T) i=hget (lR T) i:=by
 unfold fF;rw[M3];cases hget (lR T) i with
 |some o=>rfl
 |none=>simp[show¬(3=i) by omega]
theorem Yf(T:List (Nat×List Int))(j:Nat)(r:List Int)(hj:j≠3):hset (fF T) j (.cells 3 (.ints r))=fF (kK T j r):=by
 induction T with
 |nil=>simp[fF,lR,hset,kK,show¬(3=j) by omega]
 |cons q T ih=>
  obtain⟨i,x⟩:=q;rw[zo];simp only[hset,kK]
  split
  ·rfl
  ·rw[ih,zo]
theorem y0k(T:List (Nat×List Int)):4<=hnew (fF T):=by
 induction T with
 |nil=>simp[fF,lR,hnew]
 |cons q T ih=>obtain⟨i,x⟩:=q;rw[zo];simp only[hnew];omega
theorem Sv(T:List (Nat×List Int))(i:Nat)(o:AObj)(h:hget (fF T) i=some o):i<hnew (fF T):=by
 rcases zY i (hnew (fF T)) with g|g
 ·exact g
 ·rw[EP g]at h;cases h
theorem YB(HF:Hp)(T:List (Nat×List Int)):ye7 HF (fF T)=True:=by
 induction T with
 |nil=>simp[fF,lR,ye7,uo]
 |cons q T ih=>obtain⟨i,r⟩:=q;rw[zo];simp only[ye7,uo,ih,and_self]
theorem Uf(HF:Hp)(h3:hget HF 3=none):∀(T:List (Nat×List Int)),(∀q∈T,hget HF q.1=none)->fg HF (fF T)=fF T
 |[],_=>by simp[fF,lR,fg,h3,gM]
 |(i,r)::T,h=>by
  rw[zo];simp only[fg,h (i,r) (zE ..),gM];rw[Uf HF h3 T fun q hq=>h q (zF _ hq)]
theorem M7{H H':Hp}(h3:hget H 3=some .gone):∀(T:List (Nat×List Int)),(∀q∈T,hget H q.1=some (.cells 3 (.ints q.2)))->subH H H' (fF T)
 |[],_=>⟨h3,rfl,trivial⟩
 |(i,r)::T,h=>⟨h (i,r) (zE ..),rfl,M7 h3 T fun q hq=>h q (zF _ hq)⟩
theorem Em{T:List (Nat×List Int)}(h:∀q∈T,4<=q.1):hget (fF T) 3=some .gone:=by
 induction T with
 |nil=>rfl
 |cons q T ih=>
  obtain⟨i,r⟩:=q
  have:=h (i,r) (zE ..)
  rw[zo];simp only[hget];rw[zL (by omega),ih fun q hq=>h q (zF _ hq)]
theorem qd.nil(n:Nat):qd n [] [] (fun _=>none):=
 ⟨fun _ _=>rfl,(fun _ _ h=>by cases h),(fun _ _ _ h=>by simp[jW]at h),by simp,(fun _ h=>by cases h),(fun _ h=>by cases h)⟩
theorem y0l(T:List (Nat×List Int)){f:(Nat×AObj)->Bool}(h1:∀i r,f (i,.cells 3 (.ints r))=true)(h2:f (3,.gone)=true):(fF T).all f=true:=by
 induction T with
 |nil=>simp[fF,lR,h2]
 |cons q T ih=>obtain⟨i,r⟩:=q;rw[zo,List.all_cons,h1,ih];rfl
theorem Ue{dl:List Nat}(T:List (Nat×List Int))(h:∀i∈dl,i≠3/\ ∀q∈T,q.1≠i):yai dl (fF T)=fF T:=by
 have nc:∀i,i∉dl->dl.contains i=false:=fun i hi=>by simpa using hi
 induction T with
 |nil=>
  have:dl.contains 3=false:=nc 3 fun h3=>(h 3 h3).1 rfl
  simp only[MZ,yai,this,Bool.false_eq_true,if_false]
 |cons q T ih=>
  obtain⟨i,r⟩:=q
  have:dl.contains i=false:=nc i fun hi=>(h i hi).2 (i,r) (zE ..) rfl
  rw[zo];simp only[yai,this,Bool.false_eq_true,if_false];rw[ih fun j hj=>⟨(h j hj).1,fun q hq=>(h j hj).2 q (zF _ hq)⟩]
end Go.Proofs.YthohfoombimbeaaGreatDoor
