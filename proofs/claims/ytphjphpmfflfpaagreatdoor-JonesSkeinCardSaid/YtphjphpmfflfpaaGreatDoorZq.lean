/- Layer 12: polynomials: sums. -/
import Derived.Test.YtphjphpmfflfpaaGreatDoorZd
set_option linter.unusedSimpArgs false
set_option linter.unusedVariables false
namespace Go.Proofs.YtphjphpmfflfpaaGreatDoor
open Go Go.RowKit
set_option maxRecDepth 100000
set_option maxHeartbeats 4000000
abbrev qb (g:Nat) (p q acc:List (Int×Int)) (fits:Bool):Hp:=[(6, .cells 4 (.lst [.bool fits])),(5, .cells 29 (.lst [.bool false, .sl 2 4 0 acc.length])),(4, .cells 75 (.lst (dA acc))),(3, .cells 29 (.lst [.bool false, .nils])),(2, .cells 115 (.lst [.fn g []])),(1, .cells 29 (.lst [.bool false,tmA q])),(0, .cells 29 (.lst [.bool false,tmA p]))]
theorem AE (fr:Fr) (K:AV->Fr->Hp->Prop) (g:Nat) (p q acc:List (Int×Int)) (fits:Bool) (e a b c:Int) (hg:Fn Tryz.prog g [I a,I b] (I c)) (hl:acc.length<=1000000)
  (pT:c=0->K (.tup []) fr (qb g p q acc (fits&&gP c 1125899906842624))) (nN:c≠0->K (.tup []) (fcut 4 fr) [(4, .cells 75 (.lst (dA (acc++[(e,c)])))),(7, .cells 75 (.lst [I e,I c])),(6, .cells 4 (.lst [.bool (fits&&gP c 1125899906842624)])),(5, .cells 29 (.lst [.bool false, .sl 2 4 0 (acc.length+1)])),(3, .cells 29 (.lst [.bool false, .nils])),(2, .cells 115 (.lst [.fn g []])),(1, .cells 29 (.lst [.bool false,tmA q])),(0, .cells 29 (.lst [.bool false,tmA p]))]):gu Tryz.prog 150 [I e,I a,I b, .ptr 2 0, .ptr 6 0, .ptr 5 0] fr (qb g p q acc fits) K:=by
 unfold qb at*;have hw:=tR c 1125899906842624 (by omega) (by omega);refine gu.intro [] Tryz.func150 rfl rfl (by decide) (by simp [Tryz.ntmps150]) ?_;rw [Tryz.ntmps150]
 repeat' (first|omega|(try apply aj);simp only [go_sem,sevalprocAttr]|apply ag<;>(intro h_;(try simp only [h_]);revert h_)|apply ah|apply ai|apply ae|apply And.intro|with_reducible intro h_|trivial|simp only [go_sem,ak];omega)
 refine ⟨az.fn rfl hg ?_⟩;cases fits
 ·repeat' (first|omega|(try apply aj);simp only [go_sem,sevalprocAttr]|apply ag<;>(intro h_;(try simp only [h_]);revert h_)|apply ah|apply ai|apply ae|apply And.intro|with_reducible intro h_|trivial|simp only [go_sem,ak];omega)
  ·rw [yG];exact nN (by assumption)
  ·exact pT (by assumption)
 ·repeat' (first|omega|(try apply aj);simp only [go_sem,sevalprocAttr]|apply ag<;>(intro h_;(try simp only [h_]);revert h_)|apply ah|apply ai|apply ae|apply And.intro|with_reducible intro h_|trivial|simp only [go_sem,ak];omega)
  refine ⟨az.fn rfl hw ?_⟩
  repeat' (first|omega|(try apply aj);simp only [go_sem,sevalprocAttr]|apply ag<;>(intro h_;(try simp only [h_]);revert h_)|apply ah|apply ai|apply ae|apply And.intro|with_reducible intro h_|trivial|simp only [go_sem,ak];omega)
  ·rw [yG];exact nN (by assumption)
  ·exact pT (by assumption)
theorem Dr {f:Int->Int->Int} {p q:List (Int×Int)} {i j:Nat} (hi:i<p.length) (h:j=q.length\/(p.getD i (0,0)).1<(q.getD j (0,0)).1) (hj:j<=q.length):mrg f (p.drop i) (q.drop j)=((p.getD i (0,0)).1,f (p.getD i (0,0)).2 0)::mrg f (p.drop (i+1)) (q.drop j):=by
 rw [List.drop_eq_getElem_cons hi];have e:p.getD i (0,0)=p[i]:=by simp [hi]
 rw [e] at h⊢;rcases Nat.lt_or_ge j q.length with g|g
 ·rw [List.drop_eq_getElem_cons g];have e2:q.getD j (0,0)=q[j]:=by simp [g]
  rw [e2] at h
  conv=>lhs;unfold mrg
  rw [if_pos (by omega)]
 ·rw [List.drop_of_length_le g]
  conv=>lhs;unfold mrg
theorem Dq {f:Int->Int->Int} {p q:List (Int×Int)} {i j:Nat} (hj:j<q.length) (h:i=p.length\/(q.getD j (0,0)).1<(p.getD i (0,0)).1) (hi:i<=p.length):mrg f (p.drop i) (q.drop j)=((q.getD j (0,0)).1,f 0 (q.getD j (0,0)).2)::mrg f (p.drop i) (q.drop (j+1)):=by
 rw [List.drop_eq_getElem_cons hj];have e:q.getD j (0,0)=q[j]:=by simp [hj]
 rw [e] at h⊢;rcases Nat.lt_or_ge i p.length with g|g
 ·rw [List.drop_eq_getElem_cons g];have e2:p.getD i (0,0)=p[i]:=by simp [g]
  rw [e2] at h
  conv=>lhs;unfold mrg
  rw [if_neg (by omega),if_pos (by omega)]
 ·rw [List.drop_of_length_le g]
  conv=>lhs;unfold mrg
theorem Q4 {f:Int->Int->Int} {p q:List (Int×Int)} {i j:Nat} (hi:i<p.length) (hj:j<q.length) (h:(q.getD j (0,0)).1=(p.getD i (0,0)).1):mrg f (p.drop i) (q.drop j)=((p.getD i (0,0)).1,f (p.getD i (0,0)).2 (q.getD j (0,0)).2)::mrg f (p.drop (i+1)) (q.drop (j+1)):=by
 rw [List.drop_eq_getElem_cons hi,List.drop_eq_getElem_cons hj];have e:p.getD i (0,0)=p[i]:=by simp [hi]
 have e2:q.getD j (0,0)=q[j]:=by simp [hj]
 rw [e,e2] at h⊢
 conv=>lhs;unfold mrg
 rw [if_neg (by omega),if_neg (by omega)]
theorem AD {c e:Int} (l:List (Int×Int)) (h:c=0):nz (l++[(e,c)])=nz l:=by unfold nz;rw [List.filter_append];simp [h]
theorem AA {c e:Int} (l:List (Int×Int)) (h:c≠0):nz (l++[(e,c)])=nz l++[(e,c)]:=by unfold nz;rw [List.filter_append];simp [h]
theorem sZ (l:List (Int×Int)) (e c:Int):mD (l++[(e,c)])=(mD l&&gP c 1125899906842624):=by unfold mD;simp
set_option maxHeartbeats 16000000
def qo:List (List Nat):=[[67,68,69],[66],[66],[66],[],[],[73,74,75],[72],[72],[72],[],[],[80,84,85,86,87,88,89],[80,84,85,86,87,88,89],[78,79,84,85,86,87,88,89],[84,85,86,87,88,89],[84,85,86,87,88,89],[84,85,86,87,88,89],[78,79,80,81,82,83,86],[78,79,80,81,82,83,86],[78,79,80,81,82,83,84,85],[78,79,80,81,82,83],[78,79,80,81,82,83],[78,79,80,81,82,83],[],[],[],[]]
def qn:List (List Nat):=[[],[0],[0],[0],[],[],[],[6],[6],[6],[],[],[],[],[12,13],[],[],[],[12,13,14,15,16,17],[12,13,14,15,16,17],[12,13,14,15,16,17,18,19],[12,13,14,15,16,17],[12,13,14,15,16,17],[12,13,14,15,16,17],[],[],[],[]]
def ma:List (List Nat):=[[94,95,96,97,98,99,100,101,102,103,104,105],[93,96,100,101,102,103,104,105],[93,96,100,101,102,103,104,105],[93,94,95,100,101,102,103,104,105],[93,100,101,102,103,104,105],[93,100,101,102,103,104,105],[93,100,101,102,103,104,105],[93,94,95,96,97,98,99,102],[93,94,95,96,97,98,99,102],[93,94,95,96,97,98,99,100,101],[93,94,95,96,97,98,99],[93,94,95,96,97,98,99],[93,94,95,96,97,98,99],[]]
def ga:List (List Nat):=[[],[0],[0],[0,1,2],[0],[0],[0],[0,1,2,3,4,5,6],[0,1,2,3,4,5,6],[0,1,2,3,4,5,6,7,8],[0,1,2,3,4,5,6],[0,1,2,3,4,5,6],[0,1,2,3,4,5,6],[]]
def qm:List (List Nat):=[[111,112,113],[110],[110],[110],[],[],[118,122,123,124,125,126,127],[118,122,123,124,125,126,127],[116,117,122,123,124,125,126,127],[122,123,124,125,126,127],[122,123,124,125,126,127],[122,123,124,125,126,127],[116,117,118,119,120,121,124],[116,117,118,119,120,121,124],[116,117,118,119,120,121,122,123],[116,117,118,119,120,121],[116,117,118,119,120,121],[116,117,118,119,120,121],[],[],[]]
def qk:List (List Nat):=[[],[0],[0],[0],[],[],[],[],[6,7],[],[],[],[6,7,8,9,10,11],[6,7,8,9,10,11],[6,7,8,9,10,11,12,13],[6,7,8,9,10,11],[6,7,8,9,10,11],[6,7,8,9,10,11],[],[],[]]
def l9:List (List Nat):=[[131,132,133,134,135,136,137,138,139,140,141,142],[130,133,137,138,139,140,141,142],[130,133,137,138,139,140,141,142],[130,131,132,137,138,139,140,141,142],[130,137,138,139,140,141,142],[130,137,138,139,140,141,142],[130,137,138,139,140,141,142],[130,131,132,133,134,135,136,139],[130,131,132,133,134,135,136,139],[130,131,132,133,134,135,136,137,138],[130,131,132,133,134,135,136],[130,131,132,133,134,135,136],[130,131,132,133,134,135,136],[]]
def l8:List (List Nat):=[[42,43,44,45,46,47,48,49,50,51,52,53,54,55,56,57,58,59],[41,44,48,49,50,51,52,53,54,55,56,57,58,59],[41,44,48,49,50,51,52,53,54,55,56,57,58,59],[41,42,43,48,49,50,51,52,53,54,55,56,57,58,59],[41,48,49,50,51,52,53,54,55,56,57,58,59],[41,48,49,50,51,52,53,54,55,56,57,58,59],[41,48,49,50,51,52,53,54,55,56,57,58,59],[41,42,43,44,45,46,47,50,54,55,56,57,58,59],[41,42,43,44,45,46,47,50,54,55,56,57,58,59],[41,42,43,44,45,46,47,48,49,54,55,56,57,58,59],[41,42,43,44,45,46,47,54,55,56,57,58,59],[41,42,43,44,45,46,47,54,55,56,57,58,59],[41,42,43,44,45,46,47,54,55,56,57,58,59],[41,42,43,44,45,46,47,48,49,50,51,52,53,56],[41,42,43,44,45,46,47,48,49,50,51,52,53,56],[41,42,43,44,45,46,47,48,49,50,51,52,53,54,55],[41,42,43,44,45,46,47,48,49,50,51,52,53],[41,42,43,44,45,46,47,48,49,50,51,52,53],[41,42,43,44,45,46,47,48,49,50,51,52,53],[]]
def l7:List (List Nat):=[[],[0],[0],[0,1,2],[0],[0],[0],[0,1,2,3,4,5,6],[0,1,2,3,4,5,6],[0,1,2,3,4,5,6,7,8],[0,1,2,3,4,5,6],[0,1,2,3,4,5,6],[0,1,2,3,4,5,6],[0,1,2,3,4,5,6,7,8,9,10,11,12],[0,1,2,3,4,5,6,7,8,9,10,11,12],[0,1,2,3,4,5,6,7,8,9,10,11,12,13,14],[0,1,2,3,4,5,6,7,8,9,10,11,12],[0,1,2,3,4,5,6,7,8,9,10,11,12],[0,1,2,3,4,5,6,7,8,9,10,11,12],[]]
theorem Iq (p q:List (Int×Int)) (g:Nat) (f:Int->Int->Int) (hp:qi p) (hq:qi q) (jK:p.length<=500000) (xf:q.length<=500000) (hg: ∀a b:Int,-1125899906842624<=a->a<=1125899906842624-> -1125899906842624<=b->b<=1125899906842624->Fn Tryz.prog g [I a,I b] (I (f a b))):
  Fn Tryz.prog 96 [plA false p,plA false q, .fn g []] (if mD (mrg f p q) then plA false (nz (mrg f p q)) else plA true []):=by
 refine Fn.au [.cell 6 29] Tryz.func96 rfl rfl (by decide) (by simp [Tryz.ntmps96]) ?_;rw [Tryz.ntmps96]
 repeat' (first|omega|(first|apply aj|(refine an.intro (id:=11) qo qn (by decide+kernel) mixed ?_)|(refine an.intro (id:=12) ma ga (by decide+kernel) mixed ?_)|(refine an.au (id:=12) ma ga (by decide+kernel) mixed ?_)|(refine an.intro (id:=14) qm qk (by decide+kernel) mixed ?_)|(refine an.intro (id:=15) l9 ga (by decide+kernel) mixed ?_)|(refine an.au (id:=15) l9 ga (by decide+kernel) mixed ?_)|(refine an.intro (id:=8) l8 l7 (by decide+kernel) mixed ?_)|(refine an.au (id:=8) l8 l7 (by decide+kernel) mixed ?_)|skip);simp only [go_sem,sevalprocAttr,↓reduceIte,reduceCtorEq,qo,qn,ma,ga,qm,qk,l9,l8,l7]|apply ag<;>(intro h_;(try simp only [h_]);revert h_)|apply ah|apply ai|apply ae|apply And.intro|with_reducible intro h_|trivial|simp only [go_sem,ak];omega)
 refine bN.intro (fun n fr H=> ∃(i j:Nat) (done:List (Int×Int)),i<=p.length/\j<=q.length/\n=(p.length-i)+(q.length-j)/\done.length<=i+j/\done++mrg f (p.drop i) (q.drop j)=mrg f p q/\fr=[(11,I j),(10,I i),(9, .fn 150 [.ptr 2 0, .ptr 6 0, .ptr 5 0]),(8, .ptr 6 0),(7, .ptr 5 0),(6, .ptr 3 0),(4, .ptr 1 0),(3, .ptr 0 0)]/\H=qb g p q (nz done) (mD done)) ?_ ?_
 ·refine ⟨_,_,_,?_,0,0,[],by omega,by omega,rfl,by simp,rfl,rfl,rfl⟩;unfold qb;refine Wk.sub ?_ ?_<;>simp only [go_sem,sevalprocAttr]
  all_goals simp [nz,mD,dA]
 rintro n fr H ⟨i,j,done,hi,hj,rfl,Fz,eg,rfl,rfl⟩;have iO:(nz done).length<=1000000:=by have:=List.length_filter_le (fun t:Int×Int=>t.2 !=0) done;unfold nz;omega
 have t0:=fun h=>oF p i h;have t1:=fun h=>s6 p i h;have u0:=fun h=>oF q j h;have u1:=fun h=>s6 q j h;unfold qb;by_cases fS:i<p.length
 ·have fp:=AN hp fS;have t0:=t0 fS;have t1:=t1 fS;by_cases bY:j<q.length
  ·have fq:=AN hq bY;have u0:=u0 bY;have u1:=u1 bY;by_cases he:(p.getD i (0,0)).1<(q.getD j (0,0)).1
   ·have bi:decide ((i:Int)<p.length)=true:=by simp;omega
    have bj:((j:Int)==q.length)=false:=by simp;omega
    have vZ:decide ((p.getD i (0,0)).1<(q.getD j (0,0)).1)=true:=by exact decide_eq_true he
    repeat' (first|omega|(first|apply aj|(refine an.intro (id:=11) qo qn (by decide+kernel) mixed ?_)|(refine an.au (id:=12) ma ga (by decide+kernel) mixed ?_)|(refine an.intro (id:=12) ma ga (by decide+kernel) mixed ?_)|(refine an.intro (id:=14) qm qk (by decide+kernel) mixed ?_)|(refine an.au (id:=15) l9 ga (by decide+kernel) mixed ?_)|(refine an.intro (id:=15) l9 ga (by decide+kernel) mixed ?_)|(refine an.au (id:=8) l8 l7 (by decide+kernel) mixed ?_)|(refine an.intro (id:=8) l8 l7 (by decide+kernel) mixed ?_)|skip);simp only [go_sem,sevalprocAttr,t0,t1,u0,u1,bi,bj,vZ,↓reduceIte,reduceCtorEq,qo,qn,ma,ga,qm,qk,l9,l8,l7]|apply ag<;>(intro h_;(try simp only [h_]);revert h_)|apply ah|apply ai|apply ae|apply And.intro|with_reducible intro h_|trivial|simp only [go_sem,ak];omega)
    refine ⟨az.inline (AE _ _ g p q (nz done) (mD done) (p.getD i (0,0)).1 (p.getD i (0,0)).2 0 _ (hg _ _ (by omega) (by omega) (by omega) (by omega)) iO (fun h0=>?_) (fun h1=>?_))⟩
    ·repeat' (first|omega|(try apply aj);simp only [go_sem,sevalprocAttr]|apply ag<;>(intro h_;(try simp only [h_]);revert h_)|apply ah|apply ai|apply ae|apply And.intro|with_reducible intro h_|trivial|simp only [go_sem,ak];omega)
     refine ⟨_,_,_,?_,?_,⟨i+1,j,done++[((p.getD i (0,0)).1,f (p.getD i (0,0)).2 0)],by omega,by omega,rfl,by simp;omega,by rw [←eg,Dr fS (.inr he) hj];simp,rfl,rfl⟩⟩
     ·omega
     ·rw [AD done h0,sZ];refine Wk.sub ?_ ?_<;>(simp only [go_sem,sevalprocAttr,List.length_append])
    ·repeat' (first|omega|(try apply aj);simp only [go_sem,sevalprocAttr]|apply ag<;>(intro h_;(try simp only [h_]);revert h_)|apply ah|apply ai|apply ae|apply And.intro|with_reducible intro h_|trivial|simp only [go_sem,ak];omega)
     refine ⟨_,_,_,?_,?_,⟨i+1,j,done++[((p.getD i (0,0)).1,f (p.getD i (0,0)).2 0)],by omega,by omega,rfl,by simp;omega,by rw [←eg,Dr fS (.inr he) hj];simp,rfl,rfl⟩⟩
     ·omega
     ·rw [AA done h1,sZ];refine Wk.sub ?_ ?_<;>(simp only [go_sem,sevalprocAttr,List.length_append])
   ·by_cases ky:(q.getD j (0,0)).1<(p.getD i (0,0)).1
    ·have bi:decide ((i:Int)<p.length)=true:=by simp;omega
     have bin:((i:Int)==p.length)=false:=by simp;omega
     have bj:((j:Int)==q.length)=false:=by simp;omega
     have vZ:decide ((p.getD i (0,0)).1<(q.getD j (0,0)).1)=false:=by exact decide_eq_false (by omega)
     have Me:decide ((q.getD j (0,0)).1<(p.getD i (0,0)).1)=true:=by exact decide_eq_true ky
     repeat' (first|omega|(first|apply aj|(refine an.intro (id:=11) qo qn (by decide+kernel) mixed ?_)|(refine an.au (id:=12) ma ga (by decide+kernel) mixed ?_)|(refine an.intro (id:=12) ma ga (by decide+kernel) mixed ?_)|(refine an.intro (id:=14) qm qk (by decide+kernel) mixed ?_)|(refine an.au (id:=15) l9 ga (by decide+kernel) mixed ?_)|(refine an.intro (id:=15) l9 ga (by decide+kernel) mixed ?_)|(refine an.au (id:=8) l8 l7 (by decide+kernel) mixed ?_)|(refine an.intro (id:=8) l8 l7 (by decide+kernel) mixed ?_)|skip);simp only [go_sem,sevalprocAttr,t0,t1,u0,u1,bi,bin,bj,vZ,Me,↓reduceIte,reduceCtorEq,qo,qn,ma,ga,qm,qk,l9,l8,l7]|apply ag<;>(intro h_;(try simp only [h_]);revert h_)|apply ah|apply ai|apply ae|apply And.intro|with_reducible intro h_|trivial|simp only [go_sem,ak];omega)
     refine ⟨az.inline (AE _ _ g p q (nz done) (mD done) (q.getD j (0,0)).1 0 (q.getD j (0,0)).2 _ (hg _ _ (by omega) (by omega) (by omega) (by omega)) iO (fun h0=>?_) (fun h1=>?_))⟩
     ·repeat' (first|omega|(try apply aj);simp only [go_sem,sevalprocAttr]|apply ag<;>(intro h_;(try simp only [h_]);revert h_)|apply ah|apply ai|apply ae|apply And.intro|with_reducible intro h_|trivial|simp only [go_sem,ak];omega)
      refine ⟨_,_,_,?_,?_,⟨i,j+1,done++[((q.getD j (0,0)).1,f 0 (q.getD j (0,0)).2)],by omega,by omega,rfl,by simp;omega,by rw [←eg,Dq bY (.inr ky) hi];simp,rfl,rfl⟩⟩
      ·omega
      ·rw [AD done h0,sZ];refine Wk.sub ?_ ?_<;>(simp only [go_sem,sevalprocAttr,List.length_append])
     ·repeat' (first|omega|(try apply aj);simp only [go_sem,sevalprocAttr]|apply ag<;>(intro h_;(try simp only [h_]);revert h_)|apply ah|apply ai|apply ae|apply And.intro|with_reducible intro h_|trivial|simp only [go_sem,ak];omega)
      refine ⟨_,_,_,?_,?_,⟨i,j+1,done++[((q.getD j (0,0)).1,f 0 (q.getD j (0,0)).2)],by omega,by omega,rfl,by simp;omega,by rw [←eg,Dq bY (.inr ky) hi];simp,rfl,rfl⟩⟩
      ·omega
      ·rw [AA done h1,sZ];refine Wk.sub ?_ ?_<;>(simp only [go_sem,sevalprocAttr,List.length_append])
    ·have bi:decide ((i:Int)<p.length)=true:=by simp;omega
     have bin:((i:Int)==p.length)=false:=by simp;omega
     have bj:((j:Int)==q.length)=false:=by simp;omega
     have vZ:decide ((p.getD i (0,0)).1<(q.getD j (0,0)).1)=false:=by exact decide_eq_false (by omega)
     have Me:decide ((q.getD j (0,0)).1<(p.getD i (0,0)).1)=false:=by exact decide_eq_false (by omega)
     repeat' (first|omega|(first|apply aj|(refine an.intro (id:=11) qo qn (by decide+kernel) mixed ?_)|(refine an.au (id:=12) ma ga (by decide+kernel) mixed ?_)|(refine an.intro (id:=12) ma ga (by decide+kernel) mixed ?_)|(refine an.intro (id:=14) qm qk (by decide+kernel) mixed ?_)|(refine an.au (id:=15) l9 ga (by decide+kernel) mixed ?_)|(refine an.intro (id:=15) l9 ga (by decide+kernel) mixed ?_)|(refine an.au (id:=8) l8 l7 (by decide+kernel) mixed ?_)|(refine an.intro (id:=8) l8 l7 (by decide+kernel) mixed ?_)|skip);simp only [go_sem,sevalprocAttr,t0,t1,u0,u1,bi,bin,bj,vZ,Me,↓reduceIte,reduceCtorEq,qo,qn,ma,ga,qm,qk,l9,l8,l7]|apply ag<;>(intro h_;(try simp only [h_]);revert h_)|apply ah|apply ai|apply ae|apply And.intro|with_reducible intro h_|trivial|simp only [go_sem,ak];omega)
     refine ⟨az.inline (AE _ _ g p q (nz done) (mD done) (p.getD i (0,0)).1 (p.getD i (0,0)).2 (q.getD j (0,0)).2 _ (hg _ _ (by omega) (by omega) (by omega) (by omega)) iO (fun h0=>?_) (fun h1=>?_))⟩
     ·repeat' (first|omega|(try apply aj);simp only [go_sem,sevalprocAttr]|apply ag<;>(intro h_;(try simp only [h_]);revert h_)|apply ah|apply ai|apply ae|apply And.intro|with_reducible intro h_|trivial|simp only [go_sem,ak];omega)
      refine ⟨_,_,_,?_,?_,⟨i+1,j+1,done++[((p.getD i (0,0)).1,f (p.getD i (0,0)).2 (q.getD j (0,0)).2)],by omega,by omega,rfl,by simp;omega,by rw [←eg,Q4 fS bY (by omega)];simp,rfl,rfl⟩⟩
      ·omega
      ·rw [AD done h0,sZ];refine Wk.sub ?_ ?_<;>(simp only [go_sem,sevalprocAttr,List.length_append])
     ·repeat' (first|omega|(try apply aj);simp only [go_sem,sevalprocAttr]|apply ag<;>(intro h_;(try simp only [h_]);revert h_)|apply ah|apply ai|apply ae|apply And.intro|with_reducible intro h_|trivial|simp only [go_sem,ak];omega)
      refine ⟨_,_,_,?_,?_,⟨i+1,j+1,done++[((p.getD i (0,0)).1,f (p.getD i (0,0)).2 (q.getD j (0,0)).2)],by omega,by omega,rfl,by simp;omega,by rw [←eg,Q4 fS bY (by omega)];simp,rfl,rfl⟩⟩
      ·omega
      ·rw [AA done h1,sZ];refine Wk.sub ?_ ?_<;>(simp only [go_sem,sevalprocAttr,List.length_append])
  ·obtain rfl:j=q.length:=by omega
   have bi:decide ((i:Int)<p.length)=true:=by simp;omega
   have bj:((q.length:Int)==q.length)=true:=by simp
   repeat' (first|omega|(first|apply aj|(refine an.intro (id:=11) qo qn (by decide+kernel) mixed ?_)|(refine an.au (id:=12) ma ga (by decide+kernel) mixed ?_)|(refine an.intro (id:=12) ma ga (by decide+kernel) mixed ?_)|(refine an.intro (id:=14) qm qk (by decide+kernel) mixed ?_)|(refine an.au (id:=15) l9 ga (by decide+kernel) mixed ?_)|(refine an.intro (id:=15) l9 ga (by decide+kernel) mixed ?_)|(refine an.au (id:=8) l8 l7 (by decide+kernel) mixed ?_)|(refine an.intro (id:=8) l8 l7 (by decide+kernel) mixed ?_)|skip);simp only [go_sem,sevalprocAttr,t0,t1,bi,bj,↓reduceIte,reduceCtorEq,qo,qn,ma,ga,qm,qk,l9,l8,l7]|apply ag<;>(intro h_;(try simp only [h_]);revert h_)|apply ah|apply ai|apply ae|apply And.intro|with_reducible intro h_|trivial|simp only [go_sem,ak];omega)
   refine ⟨az.inline (AE _ _ g p q (nz done) (mD done) (p.getD i (0,0)).1 (p.getD i (0,0)).2 0 _ (hg _ _ (by omega) (by omega) (by omega) (by omega)) iO (fun h0=>?_) (fun h1=>?_))⟩
   ·repeat' (first|omega|(try apply aj);simp only [go_sem,sevalprocAttr]|apply ag<;>(intro h_;(try simp only [h_]);revert h_)|apply ah|apply ai|apply ae|apply And.intro|with_reducible intro h_|trivial|simp only [go_sem,ak];omega)
    refine ⟨_,_,_,?_,?_,⟨i+1,q.length,done++[((p.getD i (0,0)).1,f (p.getD i (0,0)).2 0)],by omega,by omega,rfl,by simp;omega,by rw [←eg,Dr fS (.inl rfl) hj];simp,rfl,rfl⟩⟩
    ·omega
    ·rw [AD done h0,sZ];refine Wk.sub ?_ ?_<;>(simp only [go_sem,sevalprocAttr,List.length_append])
   ·repeat' (first|omega|(try apply aj);simp only [go_sem,sevalprocAttr]|apply ag<;>(intro h_;(try simp only [h_]);revert h_)|apply ah|apply ai|apply ae|apply And.intro|with_reducible intro h_|trivial|simp only [go_sem,ak];omega)
    refine ⟨_,_,_,?_,?_,⟨i+1,q.length,done++[((p.getD i (0,0)).1,f (p.getD i (0,0)).2 0)],by omega,by omega,rfl,by simp;omega,by rw [←eg,Dr fS (.inl rfl) hj];simp,rfl,rfl⟩⟩
    ·omega
    ·rw [AA done h1,sZ];refine Wk.sub ?_ ?_<;>(simp only [go_sem,sevalprocAttr,List.length_append])
 ·obtain rfl:i=p.length:=by omega
  by_cases bY:j<q.length
  ·have fq:=AN hq bY;have u0:=u0 bY;have u1:=u1 bY;have bi:decide ((p.length:Int)<p.length)=false:=by simp
   have bin:((p.length:Int)==p.length)=true:=by simp
   have bj:((j:Int)==q.length)=false:=by simp;omega
   have Zg:decide ((j:Int)<q.length)=true:=by simp;omega
   repeat' (first|omega|(first|apply aj|(refine an.intro (id:=11) qo qn (by decide+kernel) mixed ?_)|(refine an.au (id:=12) ma ga (by decide+kernel) mixed ?_)|(refine an.intro (id:=12) ma ga (by decide+kernel) mixed ?_)|(refine an.intro (id:=14) qm qk (by decide+kernel) mixed ?_)|(refine an.au (id:=15) l9 ga (by decide+kernel) mixed ?_)|(refine an.intro (id:=15) l9 ga (by decide+kernel) mixed ?_)|(refine an.au (id:=8) l8 l7 (by decide+kernel) mixed ?_)|(refine an.intro (id:=8) l8 l7 (by decide+kernel) mixed ?_)|skip);simp only [go_sem,sevalprocAttr,u0,u1,bi,bin,bj,Zg,↓reduceIte,reduceCtorEq,qo,qn,ma,ga,qm,qk,l9,l8,l7]|apply ag<;>(intro h_;(try simp only [h_]);revert h_)|apply ah|apply ai|apply ae|apply And.intro|with_reducible intro h_|trivial|simp only [go_sem,ak];omega)
   refine ⟨az.inline (AE _ _ g p q (nz done) (mD done) (q.getD j (0,0)).1 0 (q.getD j (0,0)).2 _ (hg _ _ (by omega) (by omega) (by omega) (by omega)) iO (fun h0=>?_) (fun h1=>?_))⟩
   ·repeat' (first|omega|(try apply aj);simp only [go_sem,sevalprocAttr]|apply ag<;>(intro h_;(try simp only [h_]);revert h_)|apply ah|apply ai|apply ae|apply And.intro|with_reducible intro h_|trivial|simp only [go_sem,ak];omega)
    refine ⟨_,_,_,?_,?_,⟨p.length,j+1,done++[((q.getD j (0,0)).1,f 0 (q.getD j (0,0)).2)],by omega,by omega,rfl,by simp;omega,by rw [←eg,Dq bY (.inl rfl) hi];simp,rfl,rfl⟩⟩
    ·omega
    ·rw [AD done h0,sZ];refine Wk.sub ?_ ?_<;>(simp only [go_sem,sevalprocAttr,List.length_append])
   ·repeat' (first|omega|(try apply aj);simp only [go_sem,sevalprocAttr]|apply ag<;>(intro h_;(try simp only [h_]);revert h_)|apply ah|apply ai|apply ae|apply And.intro|with_reducible intro h_|trivial|simp only [go_sem,ak];omega)
    refine ⟨_,_,_,?_,?_,⟨p.length,j+1,done++[((q.getD j (0,0)).1,f 0 (q.getD j (0,0)).2)],by omega,by omega,rfl,by simp;omega,by rw [←eg,Dq bY (.inl rfl) hi];simp,rfl,rfl⟩⟩
    ·omega
    ·rw [AA done h1,sZ];refine Wk.sub ?_ ?_<;>(simp only [go_sem,sevalprocAttr,List.length_append])
  ·obtain rfl:j=q.length:=by omega
   rw [List.drop_length,List.drop_length] at eg;have hd:mrg f p q=done:=by rw [←eg];simp [mrg]
   rw [hd]
   repeat' (first|omega|(try apply aj);simp only [go_sem,sevalprocAttr]|apply ag<;>(intro h_;(try simp only [h_]);revert h_)|apply ah|apply ai|apply ae|apply And.intro|with_reducible intro h_|trivial|simp only [go_sem,ak];omega)
   all_goals first
    |(rw [if_pos (by assumption)];exact aM.refl _)
    |(rw [if_neg (by simp only [*];decide)];exact aM.j7 (.cons (aM.refl _) (.cons (aM.nils (by omega) rfl) .nil)))
    |(rw [if_pos (by assumption),List.take_of_length_le (by rw [ybu];omega)];exact aM.refl _)
theorem Va (a b:Int) (h1: -1125899906842624<=a) (h2:a<=1125899906842624) (h3: -1125899906842624<=b) (h4:b<=1125899906842624):Fn Tryz.prog 168 [I a,I b] (I (lU a b)):=by
 unfold lU;refine Fn.intro [.tmp 4] Tryz.func168 rfl rfl (by decide) (by simp [Tryz.ntmps168]) ?_;rw [Tryz.ntmps168]
 repeat' (first|omega|(try apply aj);simp only [go_sem,sevalprocAttr]|apply ag<;>(intro h_;(try simp only [h_]);revert h_)|apply ah|apply ai|apply ae|apply And.intro|with_reducible intro h_|trivial|simp only [go_sem,ak];omega)
theorem Jq (p q:List (Int×Int)) (hp:qi p) (hq:qi q) (jK:p.length<=500000) (xf:q.length<=500000) (ct:mD (mrg lU p q)=true):Fn Tryz.prog 130 [plA false p,plA false q] (plA false (nz (mrg lU p q))):=by
 have hc:=Iq p q 168 lU hp hq jK xf (fun a b h1 h2 h3 h4=>Va a b h1 h2 h3 h4);rw [if_pos ct] at hc;refine Fn.intro [.cell 4 29] Tryz.func130 rfl rfl (by decide) (by simp [Tryz.ntmps130]) ?_;rw [Tryz.ntmps130]
 repeat' (first|omega|(try apply aj);simp only [go_sem,sevalprocAttr]|apply ag<;>(intro h_;(try simp only [h_]);revert h_)|apply ah|apply ai|apply ae|apply And.intro|with_reducible intro h_|trivial|simp only [go_sem,ak];omega)
 refine ⟨az.fn rfl hc ?_⟩
 repeat' (first|omega|(try apply aj);simp only [go_sem,sevalprocAttr]|apply ag<;>(intro h_;(try simp only [h_]);revert h_)|apply ah|apply ai|apply ae|apply And.intro|with_reducible intro h_|trivial|simp only [go_sem,ak];omega)
end Go.Proofs.YtphjphpmfflfpaaGreatDoor
