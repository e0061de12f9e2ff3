/- Layer 1: valid diagrams. -/
import Derived.Test.YtjpbeacamoijhaaGreatDoorZw
import Derived.Test.YtjpbeacamoijhaaGreatDoorZb
import Derived.Test.YtjpbeacamoijhaaGreatDoorZa
set_option linter.unusedSimpArgs false
set_option linter.unusedVariables false
namespace Go.Proofs.YtjpbeacamoijhaaGreatDoor
open Go Go.RowKit
set_option maxRecDepth 100000
set_option maxHeartbeats 4000000
def UJ:Tr:= .node [(0, .node [(1, .node [(2, .node [(3,trD [4,5,6]),(4,trD [3,5,6])]),(3, .node [(2,trD [4,5,6]),(4,trD [2,5,6])]),(4, .node [(2,trD [3,5,6]),(3,trD [2,5,6])])]),(3, .node [(1, .node [(2,trD [4,5,6]),(4,trD [2,5,6])]),(4,trD [1,2,5,6])]),(4, .node [(1, .node [(2,trD [3,5,6]),(3,trD [2,5,6])]),(3,trD [1,2,5,6])])]),(1, .node [(0, .node [(2, .node [(3,trD [4,5,6]),(4,trD [3,5,6])]),(3, .node [(2,trD [4,5,6]),(4,trD [2,5,6])]),(4, .node [(2,trD [3,5,6]),(3,trD [2,5,6])])]),(3, .node [(0, .node [(2,trD [4,5,6]),(4,trD [2,5,6])]),(4,trD [0,2,5,6])]),(4, .node [(0, .node [(2,trD [3,5,6]),(3,trD [2,5,6])]),(3,trD [0,2,5,6])])]),(3, .node [(0, .node [(1, .node [(2,trD [4,5,6]),(4,trD [2,5,6])]),(4,trD [1,2,5,6])]),(1, .node [(0, .node [(2,trD [4,5,6]),(4,trD [2,5,6])]),(4,trD [0,2,5,6])]),(4, .node [(0,trD [1,2,5,6]),(1,trD [0,2,5,6])])]),(4, .node [(0, .node [(1, .node [(2,trD [3,5,6]),(3,trD [2,5,6])]),(3,trD [1,2,5,6])]),(1, .node [(0, .node [(2,trD [3,5,6]),(3,trD [2,5,6])]),(3,trD [0,2,5,6])]),(3, .node [(0,trD [1,2,5,6]),(1,trD [0,2,5,6])])])]
theorem yP (s m:List Int) (L:Int):Fn Tryz.prog 39 [dgA s m L] (.bool (bI s m L)):=by
 refine Fn.intro [.tmp 2] Tryz.func39 rfl rfl (by decide) (by simp [Tryz.ntmps39]) ?_;rw [Tryz.ntmps39]
 repeat' (first|omega|(try apply ah);simp only [go_sem,sevalprocAttr]|apply ag<;>(intro h_;(try simp only [h_]);revert h_)|apply And.intro|with_reducible intro h_|trivial|simp only [go_sem,ai];omega)
 ·exact tQ (by omega)
 rotate_left
 ·exact tQ (by omega)
 ·exact tQ (by omega)
 ·exact tQ (by omega)
 refine dn.intro (fun n fr H=> ∃k:Nat,k<=s.length/\n=s.length-k/\sL s k/\fr=[(34,I k),(33,I s.length),(32,roI s),(3,I s.length),(1, .ptr 0 0)]/\H=[(0, .cells 24 (.lst [roI s,roI m,I L]))]) ?_ ?_
 ·refine ⟨_,_,_,?_,0,by omega,rfl,(fun i hi=>by omega),rfl,rfl⟩;refine Wk.sub ?_ ?_<;>simp only [go_sem,sevalprocAttr]
 rintro n fr H ⟨k,hk,rfl,oi,rfl,rfl⟩
 repeat' (first|omega|(try apply ah);simp only [go_sem,sevalprocAttr]|apply ag<;>(intro h_;(try simp only [h_]);revert h_)|apply And.intro|with_reducible intro h_|trivial|simp only [go_sem,ai];omega)
 ·exact tQ fun hv=>by have:=hv.2.2.2.2.1 k (by omega);omega
 ·refine ⟨_,_,_,?_,?_,⟨k+1,by omega,rfl,Mw oi (by omega),rfl,rfl⟩⟩
  ·omega
  ·refine Wk.sub ?_ ?_<;>simp only [go_sem,sevalprocAttr]
 ·refine ⟨_,_,_,?_,?_,⟨k+1,by omega,rfl,Mw oi (by omega),rfl,rfl⟩⟩
  ·omega
  ·refine Wk.sub ?_ ?_<;>simp only [go_sem,sevalprocAttr]
 obtain rfl:k=s.length:=by omega
 refine dn.intro (fun n fr H=> ∃k:Nat,k<=m.length/\n=m.length-k/\yd s m k/\fr=[(48,I k),(47,I m.length),(46,roI m),(3,I s.length),(1, .ptr 0 0)]/\H=[(0, .cells 24 (.lst [roI s,roI m,I L]))]) ?_ ?_
 ·refine ⟨_,_,_,?_,0,by omega,rfl,(fun i hi=>by omega),rfl,rfl⟩;refine Wk.sub ?_ ?_<;>simp only [go_sem,sevalprocAttr]
 rintro n fr H ⟨h,hh,rfl,zj,rfl,rfl⟩
 repeat' (first|omega|(first|apply ah|(refine bd.intro (id:=15) [[76,78,79],[75,78,79],[78,79],[75,76,77,79],[75,76,77,78],[],[]] [[],[0],[],[0,1,2],[0,1,2,3],[],[]] (by decide+kernel) mixed ?_)|(refine bd.bY (id:=15) (UJ) (by decide+kernel) mixed ?_)|skip);simp only [go_sem,sevalprocAttr,↓reduceIte,reduceCtorEq,UJ]|apply ag<;>(intro h_;(try simp only [h_]);revert h_)|apply And.intro|with_reducible intro h_|trivial|simp only [go_sem,ai];omega)
 ·exact tQ fun hv=>by have:=hv.2.2.2.2.2 h (by omega);omega
 ·have h4:m.getD h 0<4*s.length:=by assumption
  refine ⟨c8.fn rfl (Mt s m L h (by omega) (by omega) (by omega)) ?_⟩
  repeat' (first|omega|(try apply ah);simp only [go_sem,sevalprocAttr]|apply ag<;>(intro h_;(try simp only [h_]);revert h_)|apply And.intro|with_reducible intro h_|trivial|simp only [go_sem,ai];omega)
  refine ⟨c8.fn rfl (Mt s m L (m.getD h 0) (by assumption) h4 (by omega)) ?_⟩
  repeat' (first|omega|(try apply ah);simp only [go_sem,sevalprocAttr]|apply ag<;>(intro h_;(try simp only [h_]);revert h_)|apply And.intro|with_reducible intro h_|trivial|simp only [go_sem,ai];omega)
  ·exact tQ fun hv=>by have:=hv.2.2.2.2.2 h (by omega);simp_all
  ·refine ⟨_,_,_,?_,?_,⟨h+1,by omega,rfl,TX zj ⟨by assumption,h4,by assumption,by assumption,by assumption⟩,rfl,rfl⟩⟩
   ·omega
   ·refine Wk.sub ?_ ?_<;>simp only [go_sem,sevalprocAttr]
 ·exact tQ fun hv=>by have:=hv.2.2.2.2.2 h (by omega);omega
 ·exact tQ fun hv=>by have:=hv.2.2.2.2.2 h (by omega);omega
 ·exact tQ fun hv=>by have:=hv.2.2.2.2.2 h (by omega);omega
 ·have hm:m.length=4*s.length:=by omega
  obtain rfl:h=4*s.length:=by omega
  refine ⟨aO.fn rfl (YN s m L (by omega) ⟨hm,fun i hi=>⟨(zj i hi).1,(zj i hi).2.1⟩⟩) ?_⟩
  repeat' (first|omega|(try apply ah);simp only [go_sem,sevalprocAttr]|apply ag<;>(intro h_;(try simp only [h_]);revert h_)|apply And.intro|with_reducible intro h_|trivial|simp only [go_sem,ai];omega)
  exact vbT ⟨by omega,hm,by assumption,by assumption,oi,zj⟩
abbrev dgC (s m:List Int) (L:Int):Cs:= .lst [roI s,roI m,I L]
attribute [go_sem] dgC
def x7:List (List Nat):=[[18,19,20,21,22,23,8],[18,19,20,21,22,23,8],[18,19,20,21,22,23,8],[18,19,20,21,22,23,8],[14,15,16,17,22,23,8],[14,15,16,17,22,23,8],[14,15,16,17,22,23,8],[14,15,16,17,22,23,8],[14,15,16,17,18,19,20,21,8],[14,15,16,17,18,19,20,21,8],[8],[14,15,16,17,18,19,20,21,22,23,24],[]]
def x6:List (List Nat):=[[],[],[],[],[0,1,2,3],[0,1,2,3],[0,1,2,3],[0,1,2,3],[0,1,2,3,4,5,6,7],[0,1,2,3,4,5,6,7],[],[0,1,2,3,4,5,6,7,8,9,10],[]]
def xZ:List (List Nat):=[[35,36,37,38,39,40],[35,36,37,38,39,40],[33,34,36,37,38,39,40],[33,34,35,37,38,39],[33,34,35,36,38],[33,34,35,36,37],[33,34,35,36],[33,34,35],[],[]]
def xY:List (List Nat):=[[53,54,55,56,57,58],[53,54,55,56,57,58],[51,52,54,56,57],[51,52,53,56,57],[51,52,56,57],[51,52,53,54,55,57],[51,52,53,54,55,56],[51,52],[],[]]
theorem y1r (g:Nat) (cap:List AV) (qG:Int->Int->Int) (h:Int) (h0:0<=h) (h1:h<=10000) (aB:(cap.all p1)=true) (hf:Fn Tryz.prog g ([I (h/4),I (h % 4)]++cap) (I (qG (h/4) (h % 4)))):
  Fn Tryz.prog 109 [I h, .rp (.lst [.fn g cap]) 0] (I (cd h (qG (h/4) (h % 4)))):=by
 have e1:h.tmod 4=h % 4:=QS h0;have e2:h.tdiv 4=h/4:=tN h0;refine Fn.intro [.tmp 3] Tryz.func109 rfl rfl (by decide) (by simp [Tryz.ntmps109]) ?_;rw [Tryz.ntmps109]
 repeat' (first|omega|(try apply ah);simp only [go_sem,sevalprocAttr,e1,e2]|apply ag<;>(intro h_;(try simp only [h_]);revert h_)|apply And.intro|with_reducible intro h_|trivial|simp only [go_sem,ai];omega)
 refine ⟨aO.fn ?_ hf ?_⟩
 ·simp only [List.all_cons,l8 aB];rfl
 repeat' (first|omega|(try apply ah);simp only [go_sem,sevalprocAttr]|apply ag<;>(intro h_;(try simp only [h_]);revert h_)|apply And.intro|with_reducible intro h_|trivial|simp only [go_sem,ai];omega)
 refine ⟨aO.fn rfl (Lz h _ h0 (by omega)) ?_⟩
 repeat' (first|omega|(try apply ah);simp only [go_sem,sevalprocAttr]|apply ag<;>(intro h_;(try simp only [h_]);revert h_)|apply And.intro|with_reducible intro h_|trivial|simp only [go_sem,ai];omega)
theorem Ly (s m:List Int) (L:Int) (g1 g2:Nat) (c1 c2:List AV) (qG:Int->Int->Int) (sg:Int->Int) (hs:s.length<=1000) (hm:pf m s.length) (aB:(c1.all p1)=true) (aU:(c2.all p1)=true)
  (hb: ∀c x:Int,0<=c->c<s.length->0<=x->x<4->Fn Tryz.prog g1 ([I c,I x]++c1) (I (qG c x))) (hg: ∀c:Nat,c<s.length->Fn Tryz.prog g2 ([I c]++c2) (I (sg c))/\InI (s.getD c 0*sg c)):
  Fn Tryz.prog 66 [dgA s m L, .fn g1 c1, .fn g2 c2] (dgA (gU s sg s.length) (jw m (fun h=>cd h (qG (h/4) (h % 4))) m.length) L):=by
 have iX:=hm.1
 have JM: ∀h:Int,0<=h->h<4*s.length->Fn Tryz.prog 109 [I h, .rp (.lst [.fn g1 c1]) 0] (I (cd h (qG (h/4) (h % 4)))):=fun h h0 h1=>
  y1r g1 c1 qG h h0 (by omega) aB (hb _ _ (by omega) (by omega) (by omega) (by omega))
 refine Fn.intro [.cell 6 24] Tryz.func66 rfl rfl (by decide) (by simp [Tryz.ntmps66]) ?_;rw [Tryz.ntmps66]
 repeat' (first|omega|(first|apply ah|(refine bd.intro (id:=2) x7 x6 (by decide+kernel) mixed ?_)|(refine bd.intro (id:=6) xZ [[],[],[0,1],[0,1,2],[0,1,2,3],[0,1,2,3,4],[0,1,2,3],[0,1,2],[],[]] (by decide+kernel) mixed ?_)|(refine bd.intro (id:=11) xY [[],[],[0,1],[0,1,2],[0,1],[0,1,2,3,4],[0,1,2,3,4,5],[0,1],[],[]] (by decide+kernel) mixed ?_)|skip);simp only [go_sem,sevalprocAttr,nO aB,l8 aB,nN aB,lf aB,nM aB,mh aB,mj aB,mc aB,mg aB,nO aU,l8 aU,nN aU,lf aU,nM aU,mh aU,mj aU,mc aU,mg aU,↓reduceIte,reduceCtorEq,x7,x6,xZ,xY]|apply ag<;>(intro h_;(try simp only [h_]);revert h_)|apply And.intro|with_reducible intro h_|trivial|simp only [go_sem,ai];omega)
 refine dn.intro (fun n fr H=> ∃k:Nat,k<=s.length/\n=s.length-k/\fr=[(28,I k),(27,I s.length),(26,roI s),(8, .ptr 14 0),(7, .fn 109 [.ptr 1 0]),(6, .ptr 2 0),(3, .ptr 0 0),(2, .fn g2 c2)]/\
  H=[(14, .cells 24 (.lst [.sl 1 6 0 s.length, .sl 1 10 0 m.length,I L])),(10, .cells 3 (.ints (List.replicate m.length 0))),(6, .cells 3 (.ints (gU s sg k++List.replicate (s.length-k) 0))),(2, .cells 24 (.lst [.nils, .nils,I 0])),(1, .cells 101 (.lst [.fn g1 c1])),(0, .cells 24 (.lst [roI s,roI m,I L]))]) ?_ ?_
 ·refine ⟨_,_,_,?_,0,by omega,rfl,rfl,rfl⟩;refine Wk.sub ?_ ?_<;>simp only [go_sem,sevalprocAttr]
  all_goals simp [gU,lf aB,lf aU]
 rintro n fr H ⟨k,hk,rfl,rfl,rfl⟩;have gl:=sd s sg k;by_cases cT:k<s.length
 ·obtain ⟨AM,zq⟩:=hg k cT
  repeat' (first|omega|(first|apply ah|(refine bd.intro (id:=2) x7 x6 (by decide+kernel) mixed ?_)|(refine bd.intro (id:=6) xZ [[],[],[0,1],[0,1,2],[0,1,2,3],[0,1,2,3,4],[0,1,2,3],[0,1,2],[],[]] (by decide+kernel) mixed ?_)|(refine bd.intro (id:=11) xY [[],[],[0,1],[0,1,2],[0,1],[0,1,2,3,4],[0,1,2,3,4,5],[0,1],[],[]] (by decide+kernel) mixed ?_)|skip);simp only [go_sem,sevalprocAttr,nO aB,l8 aB,nN aB,lf aB,nM aB,mh aB,mj aB,mc aB,mg aB,nO aU,l8 aU,nN aU,lf aU,nM aU,mh aU,mj aU,mc aU,mg aU,↓reduceIte,reduceCtorEq,x7,x6,xZ,xY]|apply ag<;>(intro h_;(try simp only [h_]);revert h_)|apply And.intro|with_reducible intro h_|trivial|simp only [go_sem,ai];omega)
  refine ⟨c8.fn (by simp only [List.all_cons,l8 aU];rfl) AM ?_⟩;unfold InI at zq
  repeat' (first|omega|(try apply ah);simp only [go_sem,sevalprocAttr,nO aB,l8 aB,nN aB,lf aB,nM aB,mh aB,mj aB,mc aB,mg aB,nO aU,l8 aU,nN aU,lf aU,nM aU,mh aU,mj aU,mc aU,mg aU]|apply ag<;>(intro h_;(try simp only [h_]);revert h_)|apply And.intro|with_reducible intro h_|trivial|simp only [go_sem,ai];omega)
  all_goals first|omega|skip
  refine ⟨_,_,_,?_,?_,⟨k+1,by omega,rfl,rfl,rfl⟩⟩
  ·omega
  ·refine Wk.sub ?_ ?_<;>simp only [go_sem,sevalprocAttr]
   all_goals simp only [lf aB,lf aU,and_self,and_true,y7h s sg s.length k cT]
 obtain rfl:k=s.length:=by omega
 rw [Nat.sub_self,List.replicate_zero,List.append_nil] at*
 repeat' (first|omega|(first|apply ah|(refine bd.intro (id:=2) x7 x6 (by decide+kernel) mixed ?_)|(refine bd.intro (id:=6) xZ [[],[],[0,1],[0,1,2],[0,1,2,3],[0,1,2,3,4],[0,1,2,3],[0,1,2],[],[]] (by decide+kernel) mixed ?_)|(refine bd.intro (id:=11) xY [[],[],[0,1],[0,1,2],[0,1],[0,1,2,3,4],[0,1,2,3,4,5],[0,1],[],[]] (by decide+kernel) mixed ?_)|skip);simp only [go_sem,sevalprocAttr,nO aB,l8 aB,nN aB,lf aB,nM aB,mh aB,mj aB,mc aB,mg aB,nO aU,l8 aU,nN aU,lf aU,nM aU,mh aU,mj aU,mc aU,mg aU,↓reduceIte,reduceCtorEq,x7,x6,xZ,xY]|apply ag<;>(intro h_;(try simp only [h_]);revert h_)|apply And.intro|with_reducible intro h_|trivial|simp only [go_sem,ai];omega)
 refine dn.intro (fun n fr H=> ∃k:Nat,k<=m.length/\n=m.length-k/\fr=[(46,I k),(45,I m.length),(44,roI m),(8, .ptr 14 0),(7, .fn 109 [.ptr 1 0]),(6, .ptr 2 0),(3, .ptr 0 0)]/\
  H=[(14, .cells 24 (.lst [.sl 1 6 0 s.length, .sl 1 10 0 m.length,I L])),(10, .cells 3 (.ints (jw m (fun h=>cd h (qG (h/4) (h % 4))) k))),(6, .cells 3 (.ints (gU s sg s.length))),(2, .cells 24 (.lst [.nils, .nils,I 0])),(1, .cells 101 (.lst [.fn g1 c1])),(0, .cells 24 (.lst [roI s,roI m,I L]))]) ?_ ?_
 ·refine ⟨_,_,_,?_,0,by omega,rfl,rfl,rfl⟩;refine Wk.sub ?_ ?_<;>simp only [go_sem,sevalprocAttr]
  all_goals simp [jw,lf aB]
 rintro n fr H ⟨k,hk,rfl,rfl,rfl⟩;have ml:=Et m (fun h=>cd h (qG (h/4) (h % 4))) k;by_cases cT:k<m.length
 ·have p6:=hm.2 k (by omega);have VZ:=JM k (by omega) (by omega);have NI:=JM (m.getD k 0) p6.1 p6.2;have DG:=EN (h:=k) (b:=qG (k/4) (k % 4)) (n:=s.length) (by omega) (by omega)
  repeat' (first|omega|(first|apply ah|(refine bd.intro (id:=2) x7 x6 (by decide+kernel) mixed ?_)|(refine bd.intro (id:=6) xZ [[],[],[0,1],[0,1,2],[0,1,2,3],[0,1,2,3,4],[0,1,2,3],[0,1,2],[],[]] (by decide+kernel) mixed ?_)|(refine bd.intro (id:=11) xY [[],[],[0,1],[0,1,2],[0,1],[0,1,2,3,4],[0,1,2,3,4,5],[0,1],[],[]] (by decide+kernel) mixed ?_)|skip);simp only [go_sem,sevalprocAttr,nO aB,l8 aB,nN aB,lf aB,nM aB,mh aB,mj aB,mc aB,mg aB,nO aU,l8 aU,nN aU,lf aU,nM aU,mh aU,mj aU,mc aU,mg aU,↓reduceIte,reduceCtorEq,x7,x6,xZ,xY]|apply ag<;>(intro h_;(try simp only [h_]);revert h_)|apply And.intro|with_reducible intro h_|trivial|simp only [go_sem,ai];omega)
  refine ⟨c8.flat rfl (by simp only [go_sem,sevalprocAttr,nO aB,l8 aB,nN aB,lf aB,nM aB,mh aB,mj aB,mc aB,mg aB,nO aU,l8 aU,nN aU,lf aU,nM aU,mh aU,mj aU,mc aU,mg aU]) (by simp only [go_sem,sevalprocAttr,nO aB,l8 aB,nN aB,lf aB,nM aB,mh aB,mj aB,mc aB,mg aB,nO aU,l8 aU,nN aU,lf aU,nM aU,mh aU,mj aU,mc aU,mg aU]) VZ rfl ?_⟩
  repeat' (first|omega|(try apply ah);simp only [go_sem,sevalprocAttr,nO aB,l8 aB,nN aB,lf aB,nM aB,mh aB,mj aB,mc aB,mg aB,nO aU,l8 aU,nN aU,lf aU,nM aU,mh aU,mj aU,mc aU,mg aU]|apply ag<;>(intro h_;(try simp only [h_]);revert h_)|apply And.intro|with_reducible intro h_|trivial|simp only [go_sem,ai];omega)
  refine ⟨c8.flat rfl (by simp only [go_sem,sevalprocAttr,nO aB,l8 aB,nN aB,lf aB,nM aB,mh aB,mj aB,mc aB,mg aB,nO aU,l8 aU,nN aU,lf aU,nM aU,mh aU,mj aU,mc aU,mg aU]) (by simp only [go_sem,sevalprocAttr,nO aB,l8 aB,nN aB,lf aB,nM aB,mh aB,mj aB,mc aB,mg aB,nO aU,l8 aU,nN aU,lf aU,nM aU,mh aU,mj aU,mc aU,mg aU]) NI rfl ?_⟩
  repeat' (first|omega|(try apply ah);simp only [go_sem,sevalprocAttr,nO aB,l8 aB,nN aB,lf aB,nM aB,mh aB,mj aB,mc aB,mg aB,nO aU,l8 aU,nN aU,lf aU,nM aU,mh aU,mj aU,mc aU,mg aU]|apply ag<;>(intro h_;(try simp only [h_]);revert h_)|apply And.intro|with_reducible intro h_|trivial|simp only [go_sem,ai];omega)
  refine ⟨_,_,_,?_,?_,⟨k+1,by omega,rfl,rfl,rfl⟩⟩
  ·omega
  ·refine Wk.sub ?_ ?_<;>simp only [go_sem,sevalprocAttr]
   all_goals simp only [lf aB,jw,and_self,and_true]
 ·obtain rfl:k=m.length:=by omega
  repeat' (first|omega|(first|apply ah|(refine bd.intro (id:=2) x7 x6 (by decide+kernel) mixed ?_)|(refine bd.intro (id:=6) xZ [[],[],[0,1],[0,1,2],[0,1,2,3],[0,1,2,3,4],[0,1,2,3],[0,1,2],[],[]] (by decide+kernel) mixed ?_)|(refine bd.intro (id:=11) xY [[],[],[0,1],[0,1,2],[0,1],[0,1,2,3,4],[0,1,2,3,4,5],[0,1],[],[]] (by decide+kernel) mixed ?_)|skip);simp only [go_sem,sevalprocAttr,nO aB,l8 aB,nN aB,lf aB,nM aB,mh aB,mj aB,mc aB,mg aB,nO aU,l8 aU,nN aU,lf aU,nM aU,mh aU,mj aU,mc aU,mg aU,↓reduceIte,reduceCtorEq,x7,x6,xZ,xY]|apply ag<;>(intro h_;(try simp only [h_]);revert h_)|apply And.intro|with_reducible intro h_|trivial|simp only [go_sem,ai];omega)
  ·exact List.take_of_length_le (by omega)
  ·exact List.take_of_length_le (by omega)
theorem MG (s m:List Int) (L:Int) (g:Nat) (cc:List AV) (ch:Int->Bool) (c x:Int) (h0:0<=c) (h1:c<s.length) (aB:cc.all p1=true) (hf:Fn Tryz.prog g (I c::cc) (.bool (ch c))):
  Fn Tryz.prog 107 [I c,I x, .rp (.lst [.fn g cc]) 0, .rp (dgC s m L) 0] (I (rP s ch c)):=by
 unfold rP;refine Fn.intro [.tmp 6] Tryz.func107 rfl rfl (by decide) (by simp [Tryz.ntmps107]) ?_;rw [Tryz.ntmps107]
 repeat' (first|omega|(try apply ah);simp only [go_sem,sevalprocAttr]|apply ag<;>(intro h_;(try simp only [h_]);revert h_)|apply And.intro|with_reducible intro h_|trivial|simp only [go_sem,ai];omega)
 refine ⟨aO.fn (by simp only [List.all_cons,l8 aB];rfl) hf ?_⟩
 repeat' (first|omega|(try apply ah);simp only [go_sem,sevalprocAttr]|apply ag<;>(intro h_;(try simp only [h_]);revert h_)|apply And.intro|with_reducible intro h_|trivial|simp only [go_sem,ai];omega)
 all_goals simp_all
theorem ME (g:Nat) (cc:List AV) (ch:Int->Bool) (c:Int) (aB:cc.all p1=true) (hf:Fn Tryz.prog g (I c::cc) (.bool (ch c))):
  Fn Tryz.prog 108 [I c, .rp (.lst [.fn g cc]) 0] (I (rO ch c)):=by
 unfold rO;refine Fn.intro [.tmp 3] Tryz.func108 rfl rfl (by decide) (by simp [Tryz.ntmps108]) ?_;rw [Tryz.ntmps108]
 repeat' (first|omega|(try apply ah);simp only [go_sem,sevalprocAttr]|apply ag<;>(intro h_;(try simp only [h_]);revert h_)|apply And.intro|with_reducible intro h_|trivial|simp only [go_sem,ai];omega)
 refine ⟨aO.fn (by simp only [List.all_cons,l8 aB];rfl) hf ?_⟩
 repeat' (first|omega|(try apply ah);simp only [go_sem,sevalprocAttr]|apply ag<;>(intro h_;(try simp only [h_]);revert h_)|apply And.intro|with_reducible intro h_|trivial|simp only [go_sem,ai];omega)
 all_goals simp_all
theorem TF (s m:List Int) (L:Int) (g:Nat) (cc:List AV) (ch:Int->Bool) (hs:s.length<=1000) (oi:sL s s.length) (hm:pf m s.length) (aB:cc.all p1=true) (hf: ∀c:Int,0<=c->c<s.length->Fn Tryz.prog g (I c::cc) (.bool (ch c))):
  Fn Tryz.prog 63 [dgA s m L, .fn g cc] (dgA (ni s ch) (td s m ch) L):=by
 have Wh:=Ly s m L 107 108 [.rp (.lst [.fn g cc]) 0, .rp (dgC s m L) 0] [.rp (.lst [.fn g cc]) 0] (fun c _=>rP s ch c) (rO ch) hs hm rfl rfl
  (fun c x c0 c1 _ _=>MG s m L g cc ch c x c0 c1 aB (hf c c0 c1)) (fun c hc=>⟨ME g cc ch c aB (hf c (by omega) (by omega)),by
   have:=oi c hc;unfold rO InI;split<;>rcases this with h|h<;>rw [h]<;>omega⟩)
 refine Fn.intro [.cell 4 24] Tryz.func63 rfl rfl (by decide) (by simp [Tryz.ntmps63]) ?_;rw [Tryz.ntmps63]
 repeat' (first|omega|(try apply ah);simp only [go_sem,sevalprocAttr]|apply ag<;>(intro h_;(try simp only [h_]);revert h_)|apply And.intro|with_reducible intro h_|trivial|simp only [go_sem,ai];omega)
 refine ⟨aO.Ki [0,1] rfl (by simp only [go_sem,sevalprocAttr,mc aB,mg aB,mh aB,mj aB]) (by simp only [go_sem,sevalprocAttr,mc aB,mg aB,mh aB,mj aB]) (by simp only [go_sem,sevalprocAttr,mc aB,mg aB,mh aB,mj aB]) (by simp only [go_sem,sevalprocAttr,mc aB,mg aB,mh aB,mj aB]) ?_ rfl rfl (aO.fn ?_ Wh ?_)⟩
 ·rfl
 ·rfl
 repeat' (first|omega|(try apply ah);simp only [go_sem,sevalprocAttr]|apply ag<;>(intro h_;(try simp only [h_]);revert h_)|apply And.intro|with_reducible intro h_|trivial|simp only [go_sem,ai];omega)
theorem YH (x c:Int):Fn Tryz.prog 143 [I x, .rp (.lst [I c]) 0] (.bool (x==c)):=by
 refine Fn.intro [.tmp 3] Tryz.func143 rfl rfl (by decide) (by simp [Tryz.ntmps143]) ?_;rw [Tryz.ntmps143]
 repeat' (first|omega|(try apply ah);simp only [go_sem,sevalprocAttr]|apply ag<;>(intro h_;(try simp only [h_]);revert h_)|apply And.intro|with_reducible intro h_|trivial|simp only [go_sem,ai];omega)
abbrev yaak:AV:= .agg [.nils, .nils,I 0]
attribute [go_sem] yaak
theorem y1s (s m:List Int) (L c:Int) (h0:0<=c) (h1:c<s.length) (hv:bI s m L=true):Fn Tryz.prog 96 [dgA s m L,I c] (.tup [dgA (ni s (· ==c)) (td s m (· ==c)) L,I 0]):=by
 have v1:=dr hv;have yC:=v1.s64;have hf:=TF s m L 143 [.rp (.lst [I c]) 0] (· ==c) (by omega) v1.sg v1.dB.ok rfl (fun x _ _=>YH x c);refine Fn.intro [.cell 4 24, .tmp 5] Tryz.func96 rfl rfl (by decide) (by simp [Tryz.ntmps96]) ?_;rw [Tryz.ntmps96]
 repeat' (first|omega|(try apply ah);simp only [go_sem,sevalprocAttr]|apply ag<;>(intro h_;(try simp only [h_]);revert h_)|apply And.intro|with_reducible intro h_|trivial|simp only [go_sem,ai];omega)
 refine ⟨aO.fn rfl (yP s m L) ?_⟩;rw [hv]
 repeat' (first|omega|(try apply ah);simp only [go_sem,sevalprocAttr]|apply ag<;>(intro h_;(try simp only [h_]);revert h_)|apply And.intro|with_reducible intro h_|trivial|simp only [go_sem,ai];omega)
 refine ⟨aO.Ki [1] rfl (by simp only [go_sem,sevalprocAttr]) (by simp only [go_sem,sevalprocAttr]) (by simp only [go_sem,sevalprocAttr]) (by simp only [go_sem,sevalprocAttr]) rfl rfl rfl (aO.fn rfl hf ?_)⟩
 repeat' (first|omega|(try apply ah);simp only [go_sem,sevalprocAttr]|apply ag<;>(intro h_;(try simp only [h_]);revert h_)|apply And.intro|with_reducible intro h_|trivial|simp only [go_sem,ai];omega)
theorem y1t (l:List Int) (h:0<l.length) (hb:l.length<=100000):AW Tryz.prog 141 [roI l] (.sl 1 0 0 l.length) [(0, .cells 3 (.ints l))]:=by
 refine AW.intro [.tmp 2] Tryz.func141 rfl rfl (by decide) (by simp [Tryz.ntmps141]) ?_;rw [Tryz.ntmps141]
 repeat' (first|omega|(try apply ah);simp only [go_sem,sevalprocAttr]|apply ag<;>(intro h_;(try simp only [h_]);revert h_)|apply And.intro|with_reducible intro h_|trivial|simp only [go_sem,ai];omega)
end Go.Proofs.YtjpbeacamoijhaaGreatDoor
