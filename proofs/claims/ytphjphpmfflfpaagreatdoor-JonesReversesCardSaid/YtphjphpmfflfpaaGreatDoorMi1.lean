/- Layer 6: moved diagrams, switched crossings. -/
import Derived.Test.YtphjphpmfflfpaaGreatDoorZa
import Derived.Test.YtphjphpmfflfpaaGreatDoorZb
set_option linter.unusedSimpArgs false
set_option linter.unusedVariables false
namespace Go.Proofs.YtphjphpmfflfpaaGreatDoor
open Go Go.RowKit
set_option maxRecDepth 100000
set_option maxHeartbeats 4000000
def uO:List (List Nat):=[[18,19,20,21,22,23,8],[18,19,20,21,22,23,8],[18,19,20,21,22,23,8],[18,19,20,21,22,23,8],[14,15,16,17,22,23,8],[14,15,16,17,22,23,8],[14,15,16,17,22,23,8],[14,15,16,17,22,23,8],[14,15,16,17,18,19,20,21,8],[14,15,16,17,18,19,20,21,8],[8],[14,15,16,17,18,19,20,21,22,23,24],[]]
def uN:List (List Nat):=[[],[],[],[],[0,1,2,3],[0,1,2,3],[0,1,2,3],[0,1,2,3],[0,1,2,3,4,5,6,7],[0,1,2,3,4,5,6,7],[],[0,1,2,3,4,5,6,7,8,9,10],[]]
def uM:List (List Nat):=[[35,36,37,38,39,40],[35,36,37,38,39,40],[33,34,36,37,38,39,40],[33,34,35,37,38,39],[33,34,35,36,38],[33,34,35,36,37],[33,34,35,36],[33,34,35],[],[]]
def uL:List (List Nat):=[[53,54,55,56,57,58],[53,54,55,56,57,58],[51,52,54,56,57],[51,52,53,56,57],[51,52,56,57],[51,52,53,54,55,57],[51,52,53,54,55,56],[51,52],[],[]]
theorem ZV (g:Nat) (cap:List AV) (ke:Int->Int->Int) (h:Int) (h0:0<=h) (h1:h<=10000) (aC:(cap.all p1)=true) (hf:Fn Tryz.prog g ([I (h/4),I (h % 4)]++cap) (I (ke (h/4) (h % 4)))):
  Fn Tryz.prog 151 [I h, .rp (.lst [.fn g cap]) 0] (I (dB h (ke (h/4) (h % 4)))):=by
 have e1:h.tmod 4=h % 4:=C7 h0;have e2:h.tdiv 4=h/4:=zd h0;refine Fn.intro [.tmp 3] Tryz.func151 rfl rfl (by decide) (by simp [Tryz.ntmps151]) ?_;rw [Tryz.ntmps151]
 repeat' (first|omega|(try apply ag);simp only [go_sem,sevalprocAttr,e1,e2]|apply ah<;>(intro h_;(try simp only [h_]);revert h_)|apply ai|apply aj|apply ae|apply And.intro|with_reducible intro h_|trivial|simp only [go_sem,ak];omega)
 refine ⟨aA.fn ?_ hf ?_⟩
 ·simp only [List.all_cons,iU aC];rfl
 repeat' (first|omega|(try apply ag);simp only [go_sem,sevalprocAttr]|apply ah<;>(intro h_;(try simp only [h_]);revert h_)|apply ai|apply aj|apply ae|apply And.intro|with_reducible intro h_|trivial|simp only [go_sem,ak];omega)
 refine ⟨aA.fn rfl (Kh h _ h0 (by omega)) ?_⟩
 repeat' (first|omega|(try apply ag);simp only [go_sem,sevalprocAttr]|apply ah<;>(intro h_;(try simp only [h_]);revert h_)|apply ai|apply aj|apply ae|apply And.intro|with_reducible intro h_|trivial|simp only [go_sem,ak];omega)
theorem GY (s m:List Int) (L:Int) (g1 g2:Nat) (c1 c2:List AV) (ke:Int->Int->Int) (sg:Int->Int) (hs:s.length<=1000) (hm:kh m s.length) (aC:(c1.all p1)=true) (aJ:(c2.all p1)=true)
  (hb: ∀c x:Int,0<=c->c<s.length->0<=x->x<4->Fn Tryz.prog g1 ([I c,I x]++c1) (I (ke c x))) (hg: ∀c:Nat,c<s.length->Fn Tryz.prog g2 ([I c]++c2) (I (sg c))/\InI (s.getD c 0*sg c)):
  Fn Tryz.prog 99 [dgA s m L, .fn g1 c1, .fn g2 c2] (dgA (iF s sg s.length) (j7 m (fun h=>dB h (ke (h/4) (h % 4))) m.length) L):=by
 have iw:=hm.1
 have zN: ∀h:Int,0<=h->h<4*s.length->Fn Tryz.prog 151 [I h, .rp (.lst [.fn g1 c1]) 0] (I (dB h (ke (h/4) (h % 4)))):=fun h h0 h1=>
  ZV g1 c1 ke h h0 (by omega) aC (hb _ _ (by omega) (by omega) (by omega) (by omega))
 refine Fn.intro [.cell 6 24] Tryz.func99 rfl rfl (by decide) (by simp [Tryz.ntmps99]) ?_;rw [Tryz.ntmps99]
 repeat' (first|omega|(first|apply ag|(refine an.intro (id:=2) uO uN (by decide+kernel) mixed ?_)|(refine an.intro (id:=6) uM [[],[],[0,1],[0,1,2],[0,1,2,3],[0,1,2,3,4],[0,1,2,3],[0,1,2],[],[]] (by decide+kernel) mixed ?_)|(refine an.intro (id:=11) uL [[],[],[0,1],[0,1,2],[0,1],[0,1,2,3,4],[0,1,2,3,4,5],[0,1],[],[]] (by decide+kernel) mixed ?_)|skip);simp only [go_sem,sevalprocAttr,jZ aC,iU aC,jY aC,ib aC,jX aC,iE aC,iC aC,ij aC,ik aC,jZ aJ,iU aJ,jY aJ,ib aJ,jX aJ,iE aJ,iC aJ,ij aJ,ik aJ,↓reduceIte,reduceCtorEq,uO,uN,uM,uL]|apply ah<;>(intro h_;(try simp only [h_]);revert h_)|apply ai|apply aj|apply ae|apply And.intro|with_reducible intro h_|trivial|simp only [go_sem,ak];omega)
 refine bV.intro (fun n fr H=> ∃k:Nat,k<=s.length/\n=s.length-k/\fr=[(28,I k),(27,I s.length),(26,roI s),(8, .ptr 14 0),(7, .fn 151 [.ptr 1 0]),(6, .ptr 2 0),(3, .ptr 0 0),(2, .fn g2 c2)]/\
  H=[(14, .cells 24 (.lst [.sl 1 6 0 s.length, .sl 1 10 0 m.length,I L])),(10, .cells 3 (.ints (List.replicate m.length 0))),(6, .cells 3 (.ints (iF s sg k++List.replicate (s.length-k) 0))),(2, .cells 24 (.lst [.nils, .nils,I 0])),(1, .cells 115 (.lst [.fn g1 c1])),(0, .cells 24 (.lst [roI s,roI m,I L]))]) ?_ ?_
 ·refine ⟨_,_,_,?_,0,by omega,rfl,rfl,rfl⟩;refine Wk.sub ?_ ?_<;>simp only [go_sem,sevalprocAttr]
  all_goals simp [iF,ib aC,ib aJ]
 rintro n fr H ⟨k,hk,rfl,rfl,rfl⟩;have gl:=sv s sg k;by_cases bN:k<s.length
 ·obtain ⟨vv,po⟩:=hg k bN
  repeat' (first|omega|(first|apply ag|(refine an.intro (id:=2) uO uN (by decide+kernel) mixed ?_)|(refine an.intro (id:=6) uM [[],[],[0,1],[0,1,2],[0,1,2,3],[0,1,2,3,4],[0,1,2,3],[0,1,2],[],[]] (by decide+kernel) mixed ?_)|(refine an.intro (id:=11) uL [[],[],[0,1],[0,1,2],[0,1],[0,1,2,3,4],[0,1,2,3,4,5],[0,1],[],[]] (by decide+kernel) mixed ?_)|skip);simp only [go_sem,sevalprocAttr,jZ aC,iU aC,jY aC,ib aC,jX aC,iE aC,iC aC,ij aC,ik aC,jZ aJ,iU aJ,jY aJ,ib aJ,jX aJ,iE aJ,iC aJ,ij aJ,ik aJ,↓reduceIte,reduceCtorEq,uO,uN,uM,uL]|apply ah<;>(intro h_;(try simp only [h_]);revert h_)|apply ai|apply aj|apply ae|apply And.intro|with_reducible intro h_|trivial|simp only [go_sem,ak];omega)
  refine ⟨bC.fn (by simp only [List.all_cons,iU aJ];rfl) vv ?_⟩;unfold InI at po
  repeat' (first|omega|(try apply ag);simp only [go_sem,sevalprocAttr,jZ aC,iU aC,jY aC,ib aC,jX aC,iE aC,iC aC,ij aC,ik aC,jZ aJ,iU aJ,jY aJ,ib aJ,jX aJ,iE aJ,iC aJ,ij aJ,ik aJ]|apply ah<;>(intro h_;(try simp only [h_]);revert h_)|apply ai|apply aj|apply ae|apply And.intro|with_reducible intro h_|trivial|simp only [go_sem,ak];omega)
  all_goals first|omega|skip
  refine ⟨_,_,_,?_,?_,⟨k+1,by omega,rfl,rfl,rfl⟩⟩
  ·omega
  ·refine Wk.sub ?_ ?_<;>simp only [go_sem,sevalprocAttr]
   all_goals simp only [ib aC,ib aJ,and_self,and_true,Od s sg s.length k bN]
 obtain rfl:k=s.length:=by omega
 rw [Nat.sub_self,List.replicate_zero,List.append_nil] at*
 repeat' (first|omega|(first|apply ag|(refine an.intro (id:=2) uO uN (by decide+kernel) mixed ?_)|(refine an.intro (id:=6) uM [[],[],[0,1],[0,1,2],[0,1,2,3],[0,1,2,3,4],[0,1,2,3],[0,1,2],[],[]] (by decide+kernel) mixed ?_)|(refine an.intro (id:=11) uL [[],[],[0,1],[0,1,2],[0,1],[0,1,2,3,4],[0,1,2,3,4,5],[0,1],[],[]] (by decide+kernel) mixed ?_)|skip);simp only [go_sem,sevalprocAttr,jZ aC,iU aC,jY aC,ib aC,jX aC,iE aC,iC aC,ij aC,ik aC,jZ aJ,iU aJ,jY aJ,ib aJ,jX aJ,iE aJ,iC aJ,ij aJ,ik aJ,↓reduceIte,reduceCtorEq,uO,uN,uM,uL]|apply ah<;>(intro h_;(try simp only [h_]);revert h_)|apply ai|apply aj|apply ae|apply And.intro|with_reducible intro h_|trivial|simp only [go_sem,ak];omega)
 refine bV.intro (fun n fr H=> ∃k:Nat,k<=m.length/\n=m.length-k/\fr=[(46,I k),(45,I m.length),(44,roI m),(8, .ptr 14 0),(7, .fn 151 [.ptr 1 0]),(6, .ptr 2 0),(3, .ptr 0 0)]/\
  H=[(14, .cells 24 (.lst [.sl 1 6 0 s.length, .sl 1 10 0 m.length,I L])),(10, .cells 3 (.ints (j7 m (fun h=>dB h (ke (h/4) (h % 4))) k))),(6, .cells 3 (.ints (iF s sg s.length))),(2, .cells 24 (.lst [.nils, .nils,I 0])),(1, .cells 115 (.lst [.fn g1 c1])),(0, .cells 24 (.lst [roI s,roI m,I L]))]) ?_ ?_
 ·refine ⟨_,_,_,?_,0,by omega,rfl,rfl,rfl⟩;refine Wk.sub ?_ ?_<;>simp only [go_sem,sevalprocAttr]
  all_goals simp [j7,ib aC]
 rintro n fr H ⟨k,hk,rfl,rfl,rfl⟩;have ml:=GS m (fun h=>dB h (ke (h/4) (h % 4))) k;by_cases bN:k<m.length
 ·have oK:=hm.2 k (by omega);have Xc:=zN k (by omega) (by omega);have Pn:=zN (m.getD k 0) oK.1 oK.2;have Xg:=LH (h:=k) (b:=ke (k/4) (k % 4)) (n:=s.length) (by omega) (by omega)
  repeat' (first|omega|(first|apply ag|(refine an.intro (id:=2) uO uN (by decide+kernel) mixed ?_)|(refine an.intro (id:=6) uM [[],[],[0,1],[0,1,2],[0,1,2,3],[0,1,2,3,4],[0,1,2,3],[0,1,2],[],[]] (by decide+kernel) mixed ?_)|(refine an.intro (id:=11) uL [[],[],[0,1],[0,1,2],[0,1],[0,1,2,3,4],[0,1,2,3,4,5],[0,1],[],[]] (by decide+kernel) mixed ?_)|skip);simp only [go_sem,sevalprocAttr,jZ aC,iU aC,jY aC,ib aC,jX aC,iE aC,iC aC,ij aC,ik aC,jZ aJ,iU aJ,jY aJ,ib aJ,jX aJ,iE aJ,iC aJ,ij aJ,ik aJ,↓reduceIte,reduceCtorEq,uO,uN,uM,uL]|apply ah<;>(intro h_;(try simp only [h_]);revert h_)|apply ai|apply aj|apply ae|apply And.intro|with_reducible intro h_|trivial|simp only [go_sem,ak];omega)
  refine ⟨bC.flat rfl (by simp only [go_sem,sevalprocAttr,jZ aC,iU aC,jY aC,ib aC,jX aC,iE aC,iC aC,ij aC,ik aC,jZ aJ,iU aJ,jY aJ,ib aJ,jX aJ,iE aJ,iC aJ,ij aJ,ik aJ]) (by simp only [go_sem,sevalprocAttr,jZ aC,iU aC,jY aC,ib aC,jX aC,iE aC,iC aC,ij aC,ik aC,jZ aJ,iU aJ,jY aJ,ib aJ,jX aJ,iE aJ,iC aJ,ij aJ,ik aJ]) Xc rfl ?_⟩
  repeat' (first|omega|(try apply ag);simp only [go_sem,sevalprocAttr,jZ aC,iU aC,jY aC,ib aC,jX aC,iE aC,iC aC,ij aC,ik aC,jZ aJ,iU aJ,jY aJ,ib aJ,jX aJ,iE aJ,iC aJ,ij aJ,ik aJ]|apply ah<;>(intro h_;(try simp only [h_]);revert h_)|apply ai|apply aj|apply ae|apply And.intro|with_reducible intro h_|trivial|simp only [go_sem,ak];omega)
  refine ⟨bC.flat rfl (by simp only [go_sem,sevalprocAttr,jZ aC,iU aC,jY aC,ib aC,jX aC,iE aC,iC aC,ij aC,ik aC,jZ aJ,iU aJ,jY aJ,ib aJ,jX aJ,iE aJ,iC aJ,ij aJ,ik aJ]) (by simp only [go_sem,sevalprocAttr,jZ aC,iU aC,jY aC,ib aC,jX aC,iE aC,iC aC,ij aC,ik aC,jZ aJ,iU aJ,jY aJ,ib aJ,jX aJ,iE aJ,iC aJ,ij aJ,ik aJ]) Pn rfl ?_⟩
  repeat' (first|omega|(try apply ag);simp only [go_sem,sevalprocAttr,jZ aC,iU aC,jY aC,ib aC,jX aC,iE aC,iC aC,ij aC,ik aC,jZ aJ,iU aJ,jY aJ,ib aJ,jX aJ,iE aJ,iC aJ,ij aJ,ik aJ]|apply ah<;>(intro h_;(try simp only [h_]);revert h_)|apply ai|apply aj|apply ae|apply And.intro|with_reducible intro h_|trivial|simp only [go_sem,ak];omega)
  refine ⟨_,_,_,?_,?_,⟨k+1,by omega,rfl,rfl,rfl⟩⟩
  ·omega
  ·refine Wk.sub ?_ ?_<;>simp only [go_sem,sevalprocAttr]
   all_goals simp only [ib aC,j7,and_self,and_true]
 ·obtain rfl:k=m.length:=by omega
  repeat' (first|omega|(first|apply ag|(refine an.intro (id:=2) uO uN (by decide+kernel) mixed ?_)|(refine an.intro (id:=6) uM [[],[],[0,1],[0,1,2],[0,1,2,3],[0,1,2,3,4],[0,1,2,3],[0,1,2],[],[]] (by decide+kernel) mixed ?_)|(refine an.intro (id:=11) uL [[],[],[0,1],[0,1,2],[0,1],[0,1,2,3,4],[0,1,2,3,4,5],[0,1],[],[]] (by decide+kernel) mixed ?_)|skip);simp only [go_sem,sevalprocAttr,jZ aC,iU aC,jY aC,ib aC,jX aC,iE aC,iC aC,ij aC,ik aC,jZ aJ,iU aJ,jY aJ,ib aJ,jX aJ,iE aJ,iC aJ,ij aJ,ik aJ,↓reduceIte,reduceCtorEq,uO,uN,uM,uL]|apply ah<;>(intro h_;(try simp only [h_]);revert h_)|apply ai|apply aj|apply ae|apply And.intro|with_reducible intro h_|trivial|simp only [go_sem,ak];omega)
  ·exact List.take_of_length_le (by omega)
  ·exact List.take_of_length_le (by omega)
end Go.Proofs.YtphjphpmfflfpaaGreatDoor
