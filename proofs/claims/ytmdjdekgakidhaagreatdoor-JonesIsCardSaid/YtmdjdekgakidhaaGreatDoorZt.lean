/- Layer 12: polynomials combined. -/
import Derived.Test.YtmdjdekgakidhaaGreatDoorZs
import Derived.Test.YtmdjdekgakidhaaGreatDoorZk
import Derived.Test.YtmdjdekgakidhaaGreatDoorGb
set_option linter.unusedSimpArgs false
set_option linter.unusedVariables false
namespace Go.Proofs.YtmdjdekgakidhaaGreatDoor
open Go Go.RowKit
set_option maxRecDepth 100000
set_option maxHeartbeats 16000000
def pU:List (List Nat):=[[67,68,69],[66],[66],[66],[],[],[73,74,75],[72],[72],[72],[],[],[80,84,85,86,87,88,89],[80,84,85,86,87,88,89],[78,79,84,85,86,87,88,89],[84,85,86,87,88,89],[84,85,86,87,88,89],[84,85,86,87,88,89],[78,79,80,81,82,83,86],[78,79,80,81,82,83,86],[78,79,80,81,82,83,84,85],[78,79,80,81,82,83],[78,79,80,81,82,83],[78,79,80,81,82,83],[],[],[],[]]
def pT:List (List Nat):=[[],[0],[0],[0],[],[],[],[6],[6],[6],[],[],[],[],[12,13],[],[],[],[12,13,14,15,16,17],[12,13,14,15,16,17],[12,13,14,15,16,17,18,19],[12,13,14,15,16,17],[12,13,14,15,16,17],[12,13,14,15,16,17],[],[],[],[]]
def lI:List (List Nat):=[[94,95,96,97,98,99,100,101,102,103,104,105],[93,96,100,101,102,103,104,105],[93,96,100,101,102,103,104,105],[93,94,95,100,101,102,103,104,105],[93,100,101,102,103,104,105],[93,100,101,102,103,104,105],[93,100,101,102,103,104,105],[93,94,95,96,97,98,99,102],[93,94,95,96,97,98,99,102],[93,94,95,96,97,98,99,100,101],[93,94,95,96,97,98,99],[93,94,95,96,97,98,99],[93,94,95,96,97,98,99],[]]
def gh:List (List Nat):=[[],[0],[0],[0,1,2],[0],[0],[0],[0,1,2,3,4,5,6],[0,1,2,3,4,5,6],[0,1,2,3,4,5,6,7,8],[0,1,2,3,4,5,6],[0,1,2,3,4,5,6],[0,1,2,3,4,5,6],[]]
def pR:List (List Nat):=[[111,112,113],[110],[110],[110],[],[],[118,122,123,124,125,126,127],[118,122,123,124,125,126,127],[116,117,122,123,124,125,126,127],[122,123,124,125,126,127],[122,123,124,125,126,127],[122,123,124,125,126,127],[116,117,118,119,120,121,124],[116,117,118,119,120,121,124],[116,117,118,119,120,121,122,123],[116,117,118,119,120,121],[116,117,118,119,120,121],[116,117,118,119,120,121],[],[],[]]
def pQ:List (List Nat):=[[],[0],[0],[0],[],[],[],[],[6,7],[],[],[],[6,7,8,9,10,11],[6,7,8,9,10,11],[6,7,8,9,10,11,12,13],[6,7,8,9,10,11],[6,7,8,9,10,11],[6,7,8,9,10,11],[],[],[]]
def lH:List (List Nat):=[[131,132,133,134,135,136,137,138,139,140,141,142],[130,133,137,138,139,140,141,142],[130,133,137,138,139,140,141,142],[130,131,132,137,138,139,140,141,142],[130,137,138,139,140,141,142],[130,137,138,139,140,141,142],[130,137,138,139,140,141,142],[130,131,132,133,134,135,136,139],[130,131,132,133,134,135,136,139],[130,131,132,133,134,135,136,137,138],[130,131,132,133,134,135,136],[130,131,132,133,134,135,136],[130,131,132,133,134,135,136],[]]
def lD:List (List Nat):=[[42,43,44,45,46,47,48,49,50,51,52,53,54,55,56,57,58,59],[41,44,48,49,50,51,52,53,54,55,56,57,58,59],[41,44,48,49,50,51,52,53,54,55,56,57,58,59],[41,42,43,48,49,50,51,52,53,54,55,56,57,58,59],[41,48,49,50,51,52,53,54,55,56,57,58,59],[41,48,49,50,51,52,53,54,55,56,57,58,59],[41,48,49,50,51,52,53,54,55,56,57,58,59],[41,42,43,44,45,46,47,50,54,55,56,57,58,59],[41,42,43,44,45,46,47,50,54,55,56,57,58,59],[41,42,43,44,45,46,47,48,49,54,55,56,57,58,59],[41,42,43,44,45,46,47,54,55,56,57,58,59],[41,42,43,44,45,46,47,54,55,56,57,58,59],[41,42,43,44,45,46,47,54,55,56,57,58,59],[41,42,43,44,45,46,47,48,49,50,51,52,53,56],[41,42,43,44,45,46,47,48,49,50,51,52,53,56],[41,42,43,44,45,46,47,48,49,50,51,52,53,54,55],[41,42,43,44,45,46,47,48,49,50,51,52,53],[41,42,43,44,45,46,47,48,49,50,51,52,53],[41,42,43,44,45,46,47,48,49,50,51,52,53],[]]
def lM:List (List Nat):=[[],[0],[0],[0,1,2],[0],[0],[0],[0,1,2,3,4,5,6],[0,1,2,3,4,5,6],[0,1,2,3,4,5,6,7,8],[0,1,2,3,4,5,6],[0,1,2,3,4,5,6],[0,1,2,3,4,5,6],[0,1,2,3,4,5,6,7,8,9,10,11,12],[0,1,2,3,4,5,6,7,8,9,10,11,12],[0,1,2,3,4,5,6,7,8,9,10,11,12,13,14],[0,1,2,3,4,5,6,7,8,9,10,11,12],[0,1,2,3,4,5,6,7,8,9,10,11,12],[0,1,2,3,4,5,6,7,8,9,10,11,12],[]]
theorem Qe (p q:List (Int×Int)) (g:Nat) (f:Int->Int->Int) (hp:sz p) (hq:sz q) (iI:p.length<=500000) (yV:q.length<=500000) (hg: ∀a b:Int,-1125899906842624<=a->a<=1125899906842624-> -1125899906842624<=b->b<=1125899906842624->Fn Tryz.prog g [I a,I b] (I (f a b))):
  Fn Tryz.prog 93 [plA false p,plA false q, .fn g []] (if nO (mrg f p q) then plA false (nz (mrg f p q)) else plA true []):=by
 refine Fn.ai [.cell 6 29] Tryz.func93 rfl rfl (by decide) (by simp [Tryz.ntmps93]) ?_;rw [Tryz.ntmps93]
 repeat' (first|omega|(first|apply ag|(refine aj.intro (id:=11) pU pT (by decide+kernel) mixed ?_)|(refine aj.intro (id:=12) lI gh (by decide+kernel) mixed ?_)|(refine aj.ai (id:=12) lI gh (by decide+kernel) mixed ?_)|(refine aj.intro (id:=14) pR pQ (by decide+kernel) mixed ?_)|(refine aj.intro (id:=15) lH gh (by decide+kernel) mixed ?_)|(refine aj.ai (id:=15) lH gh (by decide+kernel) mixed ?_)|(refine aj.intro (id:=8) lD lM (by decide+kernel) mixed ?_)|(refine aj.ai (id:=8) lD lM (by decide+kernel) mixed ?_)|skip);simp only [go_sem,sevalprocAttr,↓reduceIte,reduceCtorEq,pU,pT,lI,gh,pR,pQ,lH,lD,lM]|apply ae<;>(intro h_;(try simp only [h_]);revert h_)|apply And.intro|with_reducible intro h_|trivial|simp only [go_sem,ah];omega)
 refine aR.intro (fun n fr H=> ∃(i j:Nat) (done:List (Int×Int)),i<=p.length/\j<=q.length/\n=(p.length-i)+(q.length-j)/\done.length<=i+j/\done++mrg f (p.drop i) (q.drop j)=mrg f p q/\fr=[(11,I j),(10,I i),(9, .fn 127 [.ptr 2 0, .ptr 6 0, .ptr 5 0]),(8, .ptr 6 0),(7, .ptr 5 0),(6, .ptr 3 0),(4, .ptr 1 0),(3, .ptr 0 0)]/\H=pL g p q (nz done) (nO done)) ?_ ?_
 ·refine ⟨_,_,_,?_,0,0,[],by omega,by omega,rfl,by simp,rfl,rfl,rfl⟩;unfold pL;refine Wk.sub ?_ ?_<;>simp only [go_sem,sevalprocAttr]
  all_goals simp [nz,nO,dr]
 rintro n fr H ⟨i,j,done,hi,hj,rfl,xc,eK,rfl,rfl⟩;have iJ:(nz done).length<=1000000:=by have:=List.length_filter_le (fun t:Int×Int=>t.2 !=0) done;unfold nz;omega
 have t0:=fun h=>kJ p i h;have t1:=fun h=>nP p i h;have u0:=fun h=>kJ q j h;have u1:=fun h=>nP q j h;unfold pL;by_cases bH:i<p.length
 ·have fp:=At hp bH;have t0:=t0 bH;have t1:=t1 bH;by_cases b9:j<q.length
  ·have fq:=At hq b9;have u0:=u0 b9;have u1:=u1 b9;by_cases he:(p.getD i (0,0)).1<(q.getD j (0,0)).1
   ·have bi:decide ((i:Int)<p.length)=true:=by simp;omega
    have bj:((j:Int)==q.length)=false:=by simp;omega
    have vX:decide ((p.getD i (0,0)).1<(q.getD j (0,0)).1)=true:=by exact decide_eq_true he
    repeat' (first|omega|(first|apply ag|(refine aj.intro (id:=11) pU pT (by decide+kernel) mixed ?_)|(refine aj.ai (id:=12) lI gh (by decide+kernel) mixed ?_)|(refine aj.intro (id:=12) lI gh (by decide+kernel) mixed ?_)|(refine aj.intro (id:=14) pR pQ (by decide+kernel) mixed ?_)|(refine aj.ai (id:=15) lH gh (by decide+kernel) mixed ?_)|(refine aj.intro (id:=15) lH gh (by decide+kernel) mixed ?_)|(refine aj.ai (id:=8) lD lM (by decide+kernel) mixed ?_)|(refine aj.intro (id:=8) lD lM (by decide+kernel) mixed ?_)|skip);simp only [go_sem,sevalprocAttr,t0,t1,u0,u1,bi,bj,vX,↓reduceIte,reduceCtorEq,pU,pT,lI,gh,pR,pQ,lH,lD,lM]|apply ae<;>(intro h_;(try simp only [h_]);revert h_)|apply And.intro|with_reducible intro h_|trivial|simp only [go_sem,ah];omega)
    refine ⟨au.inline (Af _ _ g p q (nz done) (nO done) (p.getD i (0,0)).1 (p.getD i (0,0)).2 0 _ (hg _ _ (by omega) (by omega) (by omega) (by omega)) iJ (fun h0=>?_) (fun h1=>?_))⟩
    ·repeat' (first|omega|(try apply ag);simp only [go_sem,sevalprocAttr]|apply ae<;>(intro h_;(try simp only [h_]);revert h_)|apply And.intro|with_reducible intro h_|trivial|simp only [go_sem,ah];omega)
     refine ⟨_,_,_,?_,?_,⟨i+1,j,done++[((p.getD i (0,0)).1,f (p.getD i (0,0)).2 0)],by omega,by omega,rfl,by simp;omega,by rw [←eK,CZ bH (.inr he) hj];simp,rfl,rfl⟩⟩
     ·omega
     ·rw [Ae done h0,sR];refine Wk.sub ?_ ?_<;>(simp only [go_sem,sevalprocAttr,zzF])
    ·repeat' (first|omega|(try apply ag);simp only [go_sem,sevalprocAttr]|apply ae<;>(intro h_;(try simp only [h_]);revert h_)|apply And.intro|with_reducible intro h_|trivial|simp only [go_sem,ah];omega)
     refine ⟨_,_,_,?_,?_,⟨i+1,j,done++[((p.getD i (0,0)).1,f (p.getD i (0,0)).2 0)],by omega,by omega,rfl,by simp;omega,by rw [←eK,CZ bH (.inr he) hj];simp,rfl,rfl⟩⟩
     ·omega
     ·rw [Ad done h1,sR];refine Wk.sub ?_ ?_<;>(simp only [go_sem,sevalprocAttr,zzF])
   ·by_cases kb:(q.getD j (0,0)).1<(p.getD i (0,0)).1
    ·have bi:decide ((i:Int)<p.length)=true:=by simp;omega
     have bin:((i:Int)==p.length)=false:=by simp;omega
     have bj:((j:Int)==q.length)=false:=by simp;omega
     have vX:decide ((p.getD i (0,0)).1<(q.getD j (0,0)).1)=false:=by exact decide_eq_false (by omega)
     have MH:decide ((q.getD j (0,0)).1<(p.getD i (0,0)).1)=true:=by exact decide_eq_true kb
     repeat' (first|omega|(first|apply ag|(refine aj.intro (id:=11) pU pT (by decide+kernel) mixed ?_)|(refine aj.ai (id:=12) lI gh (by decide+kernel) mixed ?_)|(refine aj.intro (id:=12) lI gh (by decide+kernel) mixed ?_)|(refine aj.intro (id:=14) pR pQ (by decide+kernel) mixed ?_)|(refine aj.ai (id:=15) lH gh (by decide+kernel) mixed ?_)|(refine aj.intro (id:=15) lH gh (by decide+kernel) mixed ?_)|(refine aj.ai (id:=8) lD lM (by decide+kernel) mixed ?_)|(refine aj.intro (id:=8) lD lM (by decide+kernel) mixed ?_)|skip);simp only [go_sem,sevalprocAttr,t0,t1,u0,u1,bi,bin,bj,vX,MH,↓reduceIte,reduceCtorEq,pU,pT,lI,gh,pR,pQ,lH,lD,lM]|apply ae<;>(intro h_;(try simp only [h_]);revert h_)|apply And.intro|with_reducible intro h_|trivial|simp only [go_sem,ah];omega)
     refine ⟨au.inline (Af _ _ g p q (nz done) (nO done) (q.getD j (0,0)).1 0 (q.getD j (0,0)).2 _ (hg _ _ (by omega) (by omega) (by omega) (by omega)) iJ (fun h0=>?_) (fun h1=>?_))⟩
     ·repeat' (first|omega|(try apply ag);simp only [go_sem,sevalprocAttr]|apply ae<;>(intro h_;(try simp only [h_]);revert h_)|apply And.intro|with_reducible intro h_|trivial|simp only [go_sem,ah];omega)
      refine ⟨_,_,_,?_,?_,⟨i,j+1,done++[((q.getD j (0,0)).1,f 0 (q.getD j (0,0)).2)],by omega,by omega,rfl,by simp;omega,by rw [←eK,CY b9 (.inr kb) hi];simp,rfl,rfl⟩⟩
      ·omega
      ·rw [Ae done h0,sR];refine Wk.sub ?_ ?_<;>(simp only [go_sem,sevalprocAttr,zzF])
     ·repeat' (first|omega|(try apply ag);simp only [go_sem,sevalprocAttr]|apply ae<;>(intro h_;(try simp only [h_]);revert h_)|apply And.intro|with_reducible intro h_|trivial|simp only [go_sem,ah];omega)
      refine ⟨_,_,_,?_,?_,⟨i,j+1,done++[((q.getD j (0,0)).1,f 0 (q.getD j (0,0)).2)],by omega,by omega,rfl,by simp;omega,by rw [←eK,CY b9 (.inr kb) hi];simp,rfl,rfl⟩⟩
      ·omega
      ·rw [Ad done h1,sR];refine Wk.sub ?_ ?_<;>(simp only [go_sem,sevalprocAttr,zzF])
    ·have bi:decide ((i:Int)<p.length)=true:=by simp;omega
     have bin:((i:Int)==p.length)=false:=by simp;omega
     have bj:((j:Int)==q.length)=false:=by simp;omega
     have vX:decide ((p.getD i (0,0)).1<(q.getD j (0,0)).1)=false:=by exact decide_eq_false (by omega)
     have MH:decide ((q.getD j (0,0)).1<(p.getD i (0,0)).1)=false:=by exact decide_eq_false (by omega)
     repeat' (first|omega|(first|apply ag|(refine aj.intro (id:=11) pU pT (by decide+kernel) mixed ?_)|(refine aj.ai (id:=12) lI gh (by decide+kernel) mixed ?_)|(refine aj.intro (id:=12) lI gh (by decide+kernel) mixed ?_)|(refine aj.intro (id:=14) pR pQ (by decide+kernel) mixed ?_)|(refine aj.ai (id:=15) lH gh (by decide+kernel) mixed ?_)|(refine aj.intro (id:=15) lH gh (by decide+kernel) mixed ?_)|(refine aj.ai (id:=8) lD lM (by decide+kernel) mixed ?_)|(refine aj.intro (id:=8) lD lM (by decide+kernel) mixed ?_)|skip);simp only [go_sem,sevalprocAttr,t0,t1,u0,u1,bi,bin,bj,vX,MH,↓reduceIte,reduceCtorEq,pU,pT,lI,gh,pR,pQ,lH,lD,lM]|apply ae<;>(intro h_;(try simp only [h_]);revert h_)|apply And.intro|with_reducible intro h_|trivial|simp only [go_sem,ah];omega)
     refine ⟨au.inline (Af _ _ g p q (nz done) (nO done) (p.getD i (0,0)).1 (p.getD i (0,0)).2 (q.getD j (0,0)).2 _ (hg _ _ (by omega) (by omega) (by omega) (by omega)) iJ (fun h0=>?_) (fun h1=>?_))⟩
     ·repeat' (first|omega|(try apply ag);simp only [go_sem,sevalprocAttr]|apply ae<;>(intro h_;(try simp only [h_]);revert h_)|apply And.intro|with_reducible intro h_|trivial|simp only [go_sem,ah];omega)
      refine ⟨_,_,_,?_,?_,⟨i+1,j+1,done++[((p.getD i (0,0)).1,f (p.getD i (0,0)).2 (q.getD j (0,0)).2)],by omega,by omega,rfl,by simp;omega,by rw [←eK,RN bH b9 (by omega)];simp,rfl,rfl⟩⟩
      ·omega
      ·rw [Ae done h0,sR];refine Wk.sub ?_ ?_<;>(simp only [go_sem,sevalprocAttr,zzF])
     ·repeat' (first|omega|(try apply ag);simp only [go_sem,sevalprocAttr]|apply ae<;>(intro h_;(try simp only [h_]);revert h_)|apply And.intro|with_reducible intro h_|trivial|simp only [go_sem,ah];omega)
      refine ⟨_,_,_,?_,?_,⟨i+1,j+1,done++[((p.getD i (0,0)).1,f (p.getD i (0,0)).2 (q.getD j (0,0)).2)],by omega,by omega,rfl,by simp;omega,by rw [←eK,RN bH b9 (by omega)];simp,rfl,rfl⟩⟩
      ·omega
      ·rw [Ad done h1,sR];refine Wk.sub ?_ ?_<;>(simp only [go_sem,sevalprocAttr,zzF])
  ·obtain rfl:j=q.length:=by omega
   have bi:decide ((i:Int)<p.length)=true:=by simp;omega
   have bj:((q.length:Int)==q.length)=true:=by simp
   repeat' (first|omega|(first|apply ag|(refine aj.intro (id:=11) pU pT (by decide+kernel) mixed ?_)|(refine aj.ai (id:=12) lI gh (by decide+kernel) mixed ?_)|(refine aj.intro (id:=12) lI gh (by decide+kernel) mixed ?_)|(refine aj.intro (id:=14) pR pQ (by decide+kernel) mixed ?_)|(refine aj.ai (id:=15) lH gh (by decide+kernel) mixed ?_)|(refine aj.intro (id:=15) lH gh (by decide+kernel) mixed ?_)|(refine aj.ai (id:=8) lD lM (by decide+kernel) mixed ?_)|(refine aj.intro (id:=8) lD lM (by decide+kernel) mixed ?_)|skip);simp only [go_sem,sevalprocAttr,t0,t1,bi,bj,↓reduceIte,reduceCtorEq,pU,pT,lI,gh,pR,pQ,lH,lD,lM]|apply ae<;>(intro h_;(try simp only [h_]);revert h_)|apply And.intro|with_reducible intro h_|trivial|simp only [go_sem,ah];omega)
   refine ⟨au.inline (Af _ _ g p q (nz done) (nO done) (p.getD i (0,0)).1 (p.getD i (0,0)).2 0 _ (hg _ _ (by omega) (by omega) (by omega) (by omega)) iJ (fun h0=>?_) (fun h1=>?_))⟩
   ·repeat' (first|omega|(try apply ag);simp only [go_sem,sevalprocAttr]|apply ae<;>(intro h_;(try simp only [h_]);revert h_)|apply And.intro|with_reducible intro h_|trivial|simp only [go_sem,ah];omega)
    refine ⟨_,_,_,?_,?_,⟨i+1,q.length,done++[((p.getD i (0,0)).1,f (p.getD i (0,0)).2 0)],by omega,by omega,rfl,by simp;omega,by rw [←eK,CZ bH (.inl rfl) hj];simp,rfl,rfl⟩⟩
    ·omega
    ·rw [Ae done h0,sR];refine Wk.sub ?_ ?_<;>(simp only [go_sem,sevalprocAttr,zzF])
   ·repeat' (first|omega|(try apply ag);simp only [go_sem,sevalprocAttr]|apply ae<;>(intro h_;(try simp only [h_]);revert h_)|apply And.intro|with_reducible intro h_|trivial|simp only [go_sem,ah];omega)
    refine ⟨_,_,_,?_,?_,⟨i+1,q.length,done++[((p.getD i (0,0)).1,f (p.getD i (0,0)).2 0)],by omega,by omega,rfl,by simp;omega,by rw [←eK,CZ bH (.inl rfl) hj];simp,rfl,rfl⟩⟩
    ·omega
    ·rw [Ad done h1,sR];refine Wk.sub ?_ ?_<;>(simp only [go_sem,sevalprocAttr,zzF])
 ·obtain rfl:i=p.length:=by omega
  by_cases b9:j<q.length
  ·have fq:=At hq b9;have u0:=u0 b9;have u1:=u1 b9;have bi:decide ((p.length:Int)<p.length)=false:=by simp
   have bin:((p.length:Int)==p.length)=true:=by simp
   have bj:((j:Int)==q.length)=false:=by simp;omega
   have ZA:decide ((j:Int)<q.length)=true:=by simp;omega
   repeat' (first|omega|(first|apply ag|(refine aj.intro (id:=11) pU pT (by decide+kernel) mixed ?_)|(refine aj.ai (id:=12) lI gh (by decide+kernel) mixed ?_)|(refine aj.intro (id:=12) lI gh (by decide+kernel) mixed ?_)|(refine aj.intro (id:=14) pR pQ (by decide+kernel) mixed ?_)|(refine aj.ai (id:=15) lH gh (by decide+kernel) mixed ?_)|(refine aj.intro (id:=15) lH gh (by decide+kernel) mixed ?_)|(refine aj.ai (id:=8) lD lM (by decide+kernel) mixed ?_)|(refine aj.intro (id:=8) lD lM (by decide+kernel) mixed ?_)|skip);simp only [go_sem,sevalprocAttr,u0,u1,bi,bin,bj,ZA,↓reduceIte,reduceCtorEq,pU,pT,lI,gh,pR,pQ,lH,lD,lM]|apply ae<;>(intro h_;(try simp only [h_]);revert h_)|apply And.intro|with_reducible intro h_|trivial|simp only [go_sem,ah];omega)
   refine ⟨au.inline (Af _ _ g p q (nz done) (nO done) (q.getD j (0,0)).1 0 (q.getD j (0,0)).2 _ (hg _ _ (by omega) (by omega) (by omega) (by omega)) iJ (fun h0=>?_) (fun h1=>?_))⟩
   ·repeat' (first|omega|(try apply ag);simp only [go_sem,sevalprocAttr]|apply ae<;>(intro h_;(try simp only [h_]);revert h_)|apply And.intro|with_reducible intro h_|trivial|simp only [go_sem,ah];omega)
    refine ⟨_,_,_,?_,?_,⟨p.length,j+1,done++[((q.getD j (0,0)).1,f 0 (q.getD j (0,0)).2)],by omega,by omega,rfl,by simp;omega,by rw [←eK,CY b9 (.inl rfl) hi];simp,rfl,rfl⟩⟩
    ·omega
    ·rw [Ae done h0,sR];refine Wk.sub ?_ ?_<;>(simp only [go_sem,sevalprocAttr,zzF])
   ·repeat' (first|omega|(try apply ag);simp only [go_sem,sevalprocAttr]|apply ae<;>(intro h_;(try simp only [h_]);revert h_)|apply And.intro|with_reducible intro h_|trivial|simp only [go_sem,ah];omega)
    refine ⟨_,_,_,?_,?_,⟨p.length,j+1,done++[((q.getD j (0,0)).1,f 0 (q.getD j (0,0)).2)],by omega,by omega,rfl,by simp;omega,by rw [←eK,CY b9 (.inl rfl) hi];simp,rfl,rfl⟩⟩
    ·omega
    ·rw [Ad done h1,sR];refine Wk.sub ?_ ?_<;>(simp only [go_sem,sevalprocAttr,zzF])
  ·obtain rfl:j=q.length:=by omega
   rw [List.drop_length,List.drop_length] at eK;have hd:mrg f p q=done:=by rw [←eK];simp [mrg]
   rw [hd]
   repeat' (first|omega|(try apply ag);simp only [go_sem,sevalprocAttr]|apply ae<;>(intro h_;(try simp only [h_]);revert h_)|apply And.intro|with_reducible intro h_|trivial|simp only [go_sem,ah];omega)
   all_goals first
    |(rw [if_pos (by assumption)];exact az.refl _)
    |(rw [if_neg (by simp only [*];decide)];exact az.iA (.cons (az.refl _) (.cons (az.nils (by omega) rfl) .nil)))
    |(rw [if_pos (by assumption),List.take_of_length_le (by rw [ya9];omega)];exact az.refl _)
theorem J4 (a b:Int) (h1: -1125899906842624<=a) (h2:a<=1125899906842624) (h3: -1125899906842624<=b) (h4:b<=1125899906842624):Fn Tryz.prog 131 [I a,I b] (I (lr a b)):=by
 unfold lr;refine Fn.intro [.tmp 4] Tryz.func131 rfl rfl (by decide) (by simp [Tryz.ntmps131]) ?_;rw [Tryz.ntmps131]
 repeat' (first|omega|(try apply ag);simp only [go_sem,sevalprocAttr]|apply ae<;>(intro h_;(try simp only [h_]);revert h_)|apply And.intro|with_reducible intro h_|trivial|simp only [go_sem,ah];omega)
theorem I8 (p q:List (Int×Int)) (hp:sz p) (hq:sz q) (iI:p.length<=500000) (yV:q.length<=500000) (cE:nO (mrg lr p q)=true):Fn Tryz.prog 96 [plA false p,plA false q] (plA false (nz (mrg lr p q))):=by
 have hc:=Qe p q 131 lr hp hq iI yV (fun a b h1 h2 h3 h4=>J4 a b h1 h2 h3 h4);rw [if_pos cE] at hc;refine Fn.intro [.cell 4 29] Tryz.func96 rfl rfl (by decide) (by simp [Tryz.ntmps96]) ?_;rw [Tryz.ntmps96]
 repeat' (first|omega|(try apply ag);simp only [go_sem,sevalprocAttr]|apply ae<;>(intro h_;(try simp only [h_]);revert h_)|apply And.intro|with_reducible intro h_|trivial|simp only [go_sem,ah];omega)
 refine ⟨au.fn rfl hc ?_⟩
 repeat' (first|omega|(try apply ag);simp only [go_sem,sevalprocAttr]|apply ae<;>(intro h_;(try simp only [h_]);revert h_)|apply And.intro|with_reducible intro h_|trivial|simp only [go_sem,ah];omega)
def sD:List (List Nat):=[[],[],[],[],[],[52,53,54,55,56],[52,53,54,55,56],[52,53,54,55,56],[52,53,54,55,56],[52,53,54,55,56],[47,48,49,50,51],[47,48,49,50,51],[47,48,49,50,51],[47,48,49,50,51],[47,48,49,50,51],[],[]]
def sC:List (List Nat):=[[],[],[],[],[],[],[],[],[],[],[5,6,7,8,9],[5,6,7,8,9],[5,6,7,8,9],[5,6,7,8,9],[5,6,7,8,9],[],[]]
theorem J3 (a b:Int) (h3: -1125899906842624<=b) (h4:b<=1125899906842624):Fn Tryz.prog 94 [I a,I b] (I (kU a b)):=by
 unfold kU;refine Fn.intro [.tmp 4] Tryz.func94 rfl rfl (by decide) (by simp [Tryz.ntmps94]) ?_;rw [Tryz.ntmps94]
 repeat' (first|omega|(try apply ag);simp only [go_sem,sevalprocAttr]|apply ae<;>(intro h_;(try simp only [h_]);revert h_)|apply And.intro|with_reducible intro h_|trivial|simp only [go_sem,ah];omega)
theorem IC (q:List (Int×Int)) (hq:sz q) (yV:q.length<=500000) (cE:nO (mrg kU [] q)=true):Fn Tryz.prog 52 [plA false q] (plA false (nz (mrg kU [] q))):=by
 have hc:=Qe [] q 94 kU (fun _ h=>by cases h) hq (by simp) yV (fun a b h1 h2 h3 h4=>J3 a b h3 h4);rw [if_pos cE] at hc;have uv:=hc.arg (args':=[.agg [.bool false, .nils],plA false q, .fn 94 []]) (.cons (az.iA (.cons (az.refl _) (.cons (az.nils (by omega) rfl) .nil))) (.cons (az.refl _) (.cons (az.refl _) .nil)))
 refine Fn.intro [.cell 2 29] Tryz.func52 rfl rfl (by decide) (by simp [Tryz.ntmps52]) ?_;rw [Tryz.ntmps52]
 repeat' (first|omega|(try apply ag);simp only [go_sem,sevalprocAttr]|apply ae<;>(intro h_;(try simp only [h_]);revert h_)|apply And.intro|with_reducible intro h_|trivial|simp only [go_sem,ah];omega)
 refine ⟨au.fn rfl uv ?_⟩
 repeat' (first|omega|(try apply ag);simp only [go_sem,sevalprocAttr]|apply ae<;>(intro h_;(try simp only [h_]);revert h_)|apply And.intro|with_reducible intro h_|trivial|simp only [go_sem,ah];omega)
theorem WQ (e pN:Int) (h1: -1125899906842624<=e) (h2:e<=1125899906842624) (h3: -1125899906842624<=pN) (h4:pN<=1125899906842624):Fn Tryz.prog 92 [I e, .rp (.lst [I pN]) 0] (I (e+pN)):=by
 refine Fn.intro [.tmp 3] Tryz.func92 rfl rfl (by decide) (by simp [Tryz.ntmps92]) ?_;rw [Tryz.ntmps92]
 repeat' (first|omega|(try apply ag);simp only [go_sem,sevalprocAttr]|apply ae<;>(intro h_;(try simp only [h_]);revert h_)|apply And.intro|with_reducible intro h_|trivial|simp only [go_sem,ah];omega)
theorem Ww (p:List (Int×Int)) (k:Int) (mZ: -1048576<=k) (rE:k<=1048576) (hp: ∀t∈p,-1048576<=t.1/\t.1<=1048576) (hf: ∀t∈p,gH (t.1+k) 1048576=true) (xl:1<p.length->(p.getD 0 (0,0)).1<=(p.getD 1 (0,0)).1) (hl:p.length<=500000):
  Fn Tryz.prog 46 [plA false p, .fn 92 [.rp (.lst [I k]) 0]] (plA false (jM k p)):=by
 refine Fn.ai [.cell 4 29] Tryz.func46 rfl rfl (by decide) (by simp [Tryz.ntmps46]) ?_;rw [Tryz.ntmps46]
 repeat' (first|omega|(try apply ag);simp only [go_sem,sevalprocAttr]|apply ae<;>(intro h_;(try simp only [h_]);revert h_)|apply And.intro|with_reducible intro h_|trivial|simp only [go_sem,ah];omega)
 refine aR.intro (fun n fr H=> ∃i:Nat,i<=p.length/\n=p.length-i/\fr=[(20,I i),(19,I p.length),(18,tmA p),(5, .ptr 3 0),(4, .ptr 1 0),(2, .ptr 0 0),(1, .fn 92 [.rp (.lst [I k]) 0])]/\H=[(3, .cells 29 (.lst [.bool false, .sl 2 2 0 i])),(2, .cells 62 (.lst (dr (jM k (p.take i))))),(1, .cells 29 (.lst [.bool false, .nils])),(0, .cells 29 (.lst [.bool false,tmA p]))]) ?_ ?_
 ·refine ⟨_,_,_,?_,0,by omega,rfl,rfl,rfl⟩;refine Wk.sub ?_ ?_<;>simp only [go_sem,sevalprocAttr]
  all_goals simp [jM,dr]
 rintro n fr H ⟨i,hi,rfl,rfl,rfl⟩;by_cases bH:i<p.length
 ·have t0:=kJ p i bH;have t1:=nP p i bH;have hm:p.getD i (0,0)∈p:=by simp [bH]
  have bi:decide ((i:Int)<p.length)=true:=by simp;omega
  have sY:=hp _ hm;have hs:=WQ (p.getD i (0,0)).1 k (by omega) (by omega) (by omega) (by omega);have hw:=wD ((p.getD i (0,0)).1+k) 1048576 (by omega) (by omega);rw [hf _ hm] at hw
  repeat' (first|omega|(first|apply ag|(refine aj.intro (id:=12) sD sC (by decide+kernel) mixed ?_)|skip);simp only [go_sem,sevalprocAttr,t0,t1,bi,↓reduceIte,reduceCtorEq,sD,sC]|apply ae<;>(intro h_;(try simp only [h_]);revert h_)|apply And.intro|with_reducible intro h_|trivial|simp only [go_sem,ah];omega)
  refine ⟨au.fn rfl hs ?_⟩
  repeat' (first|omega|(first|apply ag|(refine aj.intro (id:=12) sD sC (by decide+kernel) mixed ?_)|skip);simp only [go_sem,sevalprocAttr,t0,t1,bi,↓reduceIte,reduceCtorEq,sD,sC]|apply ae<;>(intro h_;(try simp only [h_]);revert h_)|apply And.intro|with_reducible intro h_|trivial|simp only [go_sem,ah];omega)
  refine ⟨au.fn rfl hw ?_⟩
  repeat' (first|omega|(first|apply ag|(refine aj.intro (id:=12) sD sC (by decide+kernel) mixed ?_)|skip);simp only [go_sem,sevalprocAttr,t0,t1,bi,↓reduceIte,reduceCtorEq,sD,sC]|apply ae<;>(intro h_;(try simp only [h_]);revert h_)|apply And.intro|with_reducible intro h_|trivial|simp only [go_sem,ah];omega)
  ·simp [jM];omega
  refine ⟨_,_,_,?_,?_,⟨i+1,by omega,rfl,rfl,rfl⟩⟩
  ·omega
  ·have e:jM k (p.take (i+1))=jM k (p.take i)++[((p.getD i (0,0)).1+k,(p.getD i (0,0)).2)]:=by
    unfold jM;rw [List.take_add_one,List.map_append,zzI bH];simp [bH]
   rw [wC,←e];refine Wk.sub ?_ ?_<;>simp only [go_sem,sevalprocAttr]
 ·obtain rfl:i=p.length:=by omega
  rw [List.take_length];have bi:decide ((p.length:Int)<p.length)=false:=by simp
  have hle:(jM k p).length=p.length:=by simp [jM]
  by_cases h2:1<p.length
  ·have t0:=kJ (jM k p) 0 (by omega);have t1:=kJ (jM k p) 1 (by omega);have b2:decide ((1:Int)<p.length)=true:=by simp;omega
   have b3:decide (((jM k p).getD 1 (0,0)).1<((jM k p).getD 0 (0,0)).1)=false:=by
    have:=xl h2
    unfold jM
    match p,h2 with
    |x::y::r,_=>simp at this⊢;omega
   repeat' (first|omega|(first|apply ag|(refine aj.intro (id:=12) sD sC (by decide+kernel) mixed ?_)|skip);simp only [go_sem,sevalprocAttr,t0,t1,bi,b2,b3,↓reduceIte,reduceCtorEq,sD,sC]|apply ae<;>(intro h_;(try simp only [h_]);revert h_)|apply And.intro|with_reducible intro h_|trivial|simp only [go_sem,ah];omega)
   all_goals (rw [List.take_of_length_le (by rw [ya9,hle];omega),hle];exact az.refl _)
  ·have b2:decide ((1:Int)<p.length)=false:=by simp;omega
   repeat' (first|omega|(first|apply ag|(refine aj.intro (id:=12) sD sC (by decide+kernel) mixed ?_)|skip);simp only [go_sem,sevalprocAttr,bi,b2,↓reduceIte,reduceCtorEq,sD,sC]|apply ae<;>(intro h_;(try simp only [h_]);revert h_)|apply And.intro|with_reducible intro h_|trivial|simp only [go_sem,ah];omega)
   all_goals (rw [List.take_of_length_le (by rw [ya9,hle];omega),hle];exact az.refl _)
theorem Ve (p:List (Int×Int)) (k:Int) (mZ: -1048576<=k) (rE:k<=1048576) (hp: ∀t∈p,-1048576<=t.1/\t.1<=1048576) (hf: ∀t∈p,gH (t.1+k) 1048576=true) (xl:1<p.length->(p.getD 0 (0,0)).1<=(p.getD 1 (0,0)).1) (hl:p.length<=500000):
  Fn Tryz.prog 51 [plA false p,I k] (plA false (jM k p)):=by
 have hm:=Ww p k mZ rE hp hf xl hl;have hw:=wD k 2097152 (by omega) (by omega);rw [show gH k 2097152=true by unfold gH;simp;omega] at hw;refine Fn.intro [.cell 4 29] Tryz.func51 rfl rfl (by decide) (by simp [Tryz.ntmps51]) ?_;rw [Tryz.ntmps51]
 repeat' (first|omega|(try apply ag);simp only [go_sem,sevalprocAttr]|apply ae<;>(intro h_;(try simp only [h_]);revert h_)|apply And.intro|with_reducible intro h_|trivial|simp only [go_sem,ah];omega)
 refine ⟨au.fn rfl hw ?_⟩
 repeat' (first|omega|(try apply ag);simp only [go_sem,sevalprocAttr]|apply ae<;>(intro h_;(try simp only [h_]);revert h_)|apply And.intro|with_reducible intro h_|trivial|simp only [go_sem,ah];omega)
 refine ⟨au.jU [1] rfl (by simp only [go_sem,sevalprocAttr]) (by simp only [go_sem,sevalprocAttr]) (by simp only [go_sem,sevalprocAttr]) (by simp only [go_sem,sevalprocAttr]) rfl rfl rfl (au.fn rfl hm ?_)⟩
 repeat' (first|omega|(try apply ag);simp only [go_sem,sevalprocAttr]|apply ae<;>(intro h_;(try simp only [h_]);revert h_)|apply And.intro|with_reducible intro h_|trivial|simp only [go_sem,ah];omega)
def uP:List (List Nat):=[[13,14,4],[12,4],[12,4],[4],[4],[17,4],[16,4],[12,13,14,15,11,16,17],[17],[]]
def fP (m:List Int) (n L:Nat) (w e:Int):Int:=(if w % 2=0 then 1 else-1)*cu m n L 1 (e+3*w)
def ks (m:List Int) (n L:Nat) (w:Int):List (Int×Int):=bS (fP m n L w)
theorem uO {s:List Int} (hs:oU s s.length): ∀c,c<=s.length-> -(c:Int)<=wrS s c/\wrS s c<=c:=fun c=>by
 induction c with
 |zero=>intro _;simp [wrS]
 |succ c ih=>
  intro hc
  have:=ih (by omega)
  have:=hs c (by omega)
  simp only [wrS];omega
theorem Rr {m:List Int} {n L:Nat} (hp:bD m n) (hn:n<=9) (hL:L<=20) {e:Int} (he:cu m n L 1 e≠0): -100<=e/\e<=100:=by
 have h1:=Aj hp he;have h2:=sL hp (fun _=>true);have h3:=sL hp (fun _=>false);omega
theorem qL {m:List Int} {n L:Nat} {w:Int} (hp:bD m n) (hn:n<=9) (hL:L<=20) (hw: -9<=w/\w<=9) {e:Int} (he:fP m n L w e≠0): -200<=e/\e<=200:=by
 have:=Rr hp hn hL (e:=e+3*w) (fun h=>he (by unfold fP;rw [h];omega))
 omega
theorem yj {m:List Int} {n L:Nat} {w:Int} (hp:bD m n) (hn:n<=9) (hL:L<=20) (e:Int): -70368744177664<=fP m n L w e/\fP m n L w e<=70368744177664:=by
 have:=DL hp hn hL (j:=1) (by omega) (e+3*w)
 unfold fP;split<;>omega
theorem Df {m:List Int} {n L:Nat} {w:Int} (hp:bD m n) (hn:n<=9) (hL:L<=20) (hw: -9<=w/\w<=9):aV (ks m n L w) (fP m n L w):=nQ fun e he=>by have:=qL hp hn hL hw he;omega
theorem Rq (k:Int): ∀(p:List (Int×Int)) (e:Int),cfL (jM k p) e=cfL p (e-k)
 |[],_=>rfl
 |t::p,e=>by
  have ih:=Rq k p e;rw [show jM k (t::p)=(t.1+k,t.2)::jM k p from rfl];simp only [cfL];by_cases h:t.1=e-k
  ·rw [if_pos (by omega),if_pos h,ih]
  ·rw [if_neg (by omega),if_neg h,ih]
theorem Vd {p:List (Int×Int)} {f:Int->Int} (k:Int) (hk: -1000<=k/\k<=1000) (h:aV p f) (hs: ∀e,f e≠0-> -1000<=e/\e<=1000):
  aV (jM k p) (fun e=>f (e-k))/\Fn Tryz.prog 51 [plA false p,I k] (plA false (jM k p)):=by
 have hr: ∀t∈p,-1000<=t.1/\t.1<=1000:=fun t ht=>hs _ (h.mem ht).2;refine ⟨⟨⟨?_,fun t ht=>?_⟩,fun e=>by rw [Rq,h.cf]⟩,Ve p k (by omega) (by omega) (fun t ht=>by have:=hr t ht;omega) (fun t ht=>by have:=hr t ht;unfold gH;simp;omega) (fun h2=>?_) (by have:=h.len hs;omega)⟩
 ·unfold jM;rw [List.pairwise_map];exact h.asc.asc.imp fun fy=>by show _<_;omega
 ·obtain ⟨u,hu,rfl⟩:=List.mem_map.1 ht;exact h.asc.nz u hu
 ·have:=List.pairwise_iff_getElem.1 h.asc.asc 0 1 (by omega) h2 (by omega)
  simp only [zzB,zzI h2,zzI (show 0<p.length by omega),Option.getD_some];omega
theorem IB {p:List (Int×Int)} {f:Int->Int} (h:aV p f) (hs: ∀e,f e≠0-> -1000<=e/\e<=1000) (hb: ∀e,-1125899906842624<=f e/\f e<=1125899906842624):
  ∃q,aV q (fun e=> -f e)/\Fn Tryz.prog 52 [plA false p] (plA false q):=by
 have ha:=NI kU [] p .nil h.asc.asc;refine ⟨_,⟨Sn ha,fun e=>?_⟩,IC p (h.fits hb) (by have:=h.len hs;omega) ?_⟩
 ·rw [So,GK kU rfl [] p .nil h.asc.asc,h.cf];rfl
 ·unfold nO;refine List.all_eq_true.2 fun t ht=>?_;have h1:=Hb ha ht;rw [GK kU rfl [] p .nil h.asc.asc,h.cf] at h1;have h2:=hb t.1;rw [←h1];unfold gH kU;simp;omega
theorem Ht (s m:List Int) (L:Nat) (hs:s.length<=9) (hL:L<=20) (hv:cX s m L=true) (av: ¬(s.length=0/\L=0)):Fn Tryz.prog 17 [dgA s m L] (.tup [plA false (ks m s.length L (wrS s s.length)),I 0]):=by
 have hV:=vh s m L;rw [hv] at hV;have v1:=jb hv;have hp:=dI hv;have hO:=Om s m L (by omega);rw [if_pos hv] at hO;have cI:=zL m s.length s.length;have Yu:=WS (Gg m s.length s.length (zzA _)) cI;have hB:=Uz s m L _ hs hL hv Yu av;have hW:=Xd s m L hv;have wM:=uO v1.sg s.length (zzA _)
 have Cy:aV (kE m s.length L) (cu m s.length L 1):=nQ fun e he=>tu hp hs hL (by omega) he;generalize wrS s s.length=w at*;obtain ⟨h1,hS⟩:=Vd (-3*w) (by omega) Cy fun e he=>tu hp hs hL (by omega) he;have Zp: ∀e,cu m s.length L 1 (e- -3*w)≠0-> -1000<=e/\e<=1000:=fun e he=>by have:=Rr hp hs hL he;omega
 obtain ⟨q,h2,hN⟩:=IB h1 Zp fun e=>by have:=DL hp hs hL (j:=1) (by omega) (e- -3*w);omega
 have pw: ∀e,fP m s.length L w e≠0-> -1000<=e/\e<=1000:=fun e he=>by have:=qL hp hs hL (by omega) he;omega
 generalize kE m s.length L=p at*;generalize ib m s.length s.length=o at*;by_cases oz:w % 2=0
 ·have e1:jM (-3*w) p=ks m s.length L w:=(h1.congr fun e=>by unfold fP;rw [if_pos oz,Int.one_mul,show e- -3*w=e+3*w by omega]).eq pw;rw [e1] at hS;have b1:(w.tmod 2 !=0)=false:=by rw [bne_eq_false_iff_eq];exact Int.tmod_eq_zero_of_dvd (by omega)
  refine Fn.ai [.cell 2 29, .tmp 3] Tryz.func17 rfl rfl (by decide) (by simp [Tryz.ntmps17]) ?_;rw [Tryz.ntmps17]
  repeat' (first|omega|(first|apply ag|(refine aj.intro (id:=3) uP [[],[0],[0],[],[],[],[5],[0,1,2,3,4,5,6],[6],[]] (by decide+kernel) mixed ?_)|skip);simp only [go_sem,sevalprocAttr,↓reduceIte,reduceCtorEq,uP]|apply ae<;>(intro h_;(try simp only [h_]);revert h_)|apply And.intro|with_reducible intro h_|trivial|simp only [go_sem,ah];omega)
  refine ⟨au.fn rfl hV ?_⟩
  repeat' (first|omega|(first|apply ag|(refine aj.intro (id:=3) uP [[],[0],[0],[],[],[],[5],[0,1,2,3,4,5,6],[6],[]] (by decide+kernel) mixed ?_)|skip);simp only [go_sem,sevalprocAttr,↓reduceIte,reduceCtorEq,uP]|apply ae<;>(intro h_;(try simp only [h_]);revert h_)|apply And.intro|with_reducible intro h_|trivial|simp only [go_sem,ah];omega)
  refine ⟨bI.fn rfl hO ?_⟩;simp only [go_sem,sevalprocAttr];refine ⟨bI.fn rfl hB ?_⟩;simp only [go_sem,sevalprocAttr]
  repeat' (first|omega|(try apply ag);simp only [go_sem,sevalprocAttr,b1]|(refine ⟨au.fn (r:=?_) rfl ?_ ?_⟩;rotate_left;assumption)|(refine ⟨bI.fn (r:=?_) rfl ?_ ?_⟩;rotate_left;assumption)|apply ae<;>(intro h_;(try simp only [h_]);revert h_)|apply And.intro|with_reducible intro h_|trivial|simp only [go_sem,ah];omega)
  all_goals exact az.refl _
 ·have e1:q=ks m s.length L w:=(h2.congr fun e=>by unfold fP;rw [if_neg oz,show e- -3*w=e+3*w by omega];omega).eq pw;rw [e1] at hN;have b1:(w.tmod 2 !=0)=true:=by rw [bne_iff_ne];intro h;exact oz (Int.emod_eq_zero_of_dvd (Int.dvd_of_tmod_eq_zero h))
  refine Fn.ai [.cell 2 29, .tmp 3] Tryz.func17 rfl rfl (by decide) (by simp [Tryz.ntmps17]) ?_;rw [Tryz.ntmps17]
  repeat' (first|omega|(first|apply ag|(refine aj.intro (id:=3) uP [[],[0],[0],[],[],[],[5],[0,1,2,3,4,5,6],[6],[]] (by decide+kernel) mixed ?_)|skip);simp only [go_sem,sevalprocAttr,↓reduceIte,reduceCtorEq,uP]|apply ae<;>(intro h_;(try simp only [h_]);revert h_)|apply And.intro|with_reducible intro h_|trivial|simp only [go_sem,ah];omega)
  refine ⟨au.fn rfl hV ?_⟩
  repeat' (first|omega|(first|apply ag|(refine aj.intro (id:=3) uP [[],[0],[0],[],[],[],[5],[0,1,2,3,4,5,6],[6],[]] (by decide+kernel) mixed ?_)|skip);simp only [go_sem,sevalprocAttr,↓reduceIte,reduceCtorEq,uP]|apply ae<;>(intro h_;(try simp only [h_]);revert h_)|apply And.intro|with_reducible intro h_|trivial|simp only [go_sem,ah];omega)
  refine ⟨bI.fn rfl hO ?_⟩;simp only [go_sem,sevalprocAttr];refine ⟨bI.fn rfl hB ?_⟩;simp only [go_sem,sevalprocAttr]
  repeat' (first|omega|(try apply ag);simp only [go_sem,sevalprocAttr,b1]|(refine ⟨au.fn (r:=?_) rfl ?_ ?_⟩;rotate_left;assumption)|(refine ⟨bI.fn (r:=?_) rfl ?_ ?_⟩;rotate_left;assumption)|apply ae<;>(intro h_;(try simp only [h_]);revert h_)|apply And.intro|with_reducible intro h_|trivial|simp only [go_sem,ah];omega)
  all_goals exact az.refl _
section
variable {P:Program} {B:Nat} {w0:gU} {Mx:Nat->Prop} {N:Nat}
end
end Go.Proofs.YtmdjdekgakidhaaGreatDoor
