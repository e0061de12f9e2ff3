/- Layer 17: the law TransferTorus. -/
import Derived.Test.YtmdjdekgakidhaaDoorZr
import Derived.Test.YtmdjdekgakidhaaDoorZt
namespace Go.Proofs.YtmdjdekgakidhaaDoor
open Go Go.RowKit
set_option maxRecDepth 100000
set_option maxHeartbeats 8000000
set_option linter.unusedVariables false
set_option linter.unusedSimpArgs false
def ycr:List (List Nat):=[[36,37,38,39,40,41,42,43,44,45,46,47],[36,37,38,39,40,41,42,43,44,45,46,47],[34,35,39,40,41,42,43,44,45,46,47],[34,35,39,40,41,42,43,44,45,46,47],[34,35,39,40,41,42,43,44,45,46,47],[34,35,36,37,38,41,42,43,44,45,46,47,48],[34,35,36,37,38,41,42,43,44,45,46,47,48],[34,35,36,37,38,39,40,43,44,45,46,47,48],[34,35,36,37,38,39,40,43,44,45,46,47,48],[34,35,36,37,38,39,40,41,42,45,46,47],[34,35,36,37,38,39,40,41,42,45,46,47],[34,35,36,37,38,39,40,41,42,43,44,48],[34,35,36,37,38,39,40,41,42,43,44,48],[34,35,36,37,38,39,40,41,42,43,44,48],[39,40,41,42,45,46,47],[39,40,41,42,45,46,47],[],[]]
def ycs:List (List Nat):=[[],[],[0,1],[0,1],[0,1],[0,1,2,3,4],[0,1,2,3,4],[0,1,2,3,4,5,6],[0,1,2,3,4,5,6],[0,1,2,3,4,5,6,7,8],[0,1,2,3,4,5,6,7,8],[0,1,2,3,4,5,6,7,8,9,10],[0,1,2,3,4,5,6,7,8,9,10],[0,1,2,3,4,5,6,7,8,9,10],[5,6,7,8,11,12,13],[5,6,7,8,11,12,13],[],[]]
def yct:List (List Nat):=[[52,53,54,55,56,57,58,59,60,61],[52,53,54,55,56,57,58,59,60,61],[50,51,55,56,57,58,59,60,61],[50,51,55,56,57,58,59,60,61],[50,51,55,56,57,58,59,60,61],[50,51,52,53,54,57,58,59,60,61,62],[50,51,52,53,54,57,58,59,60,61,62],[50,51,52,53,54,55,56,58,59,60,61,62],[50,51,52,53,54,55,56,57,59,60,61],[50,51,52,53,54,55,56,57,58,62],[50,51,52,53,54,55,56,57,58,62],[50,51,52,53,54,55,56,57,58,62],[55,56,57,59,60,61],[55,56,57,59,60,61],[],[]]
def ycu:List (List Nat):=[[],[],[0,1],[0,1],[0,1],[0,1,2,3,4],[0,1,2,3,4],[0,1,2,3,4,5,6],[0,1,2,3,4,5,6,7],[0,1,2,3,4,5,6,7,8],[0,1,2,3,4,5,6,7,8],[0,1,2,3,4,5,6,7,8],[5,6,7,9,10,11],[5,6,7,9,10,11],[],[]]
def ycv:List (List Nat):=[[70,71,7],[69,7],[69,7],[7],[7],[74,7],[73,7],[69,70,71,72,68,73,74],[74],[]]
def ybx:Tr:= .node [(0, .node [(1, .node [(2, .node [(3, .node [(4, .node [(5, .node [(6, .node [(7, .node [(8, .node [(9, .node [(10, .done)])])])])]),(6, .node [(5, .node [(7, .node [(8, .node [(9, .node [(10, .done)])])])])])]),(6, .node [(4, .node [(5, .node [(7, .node [(8, .node [(9, .node [(10, .done)])])])])])])]),(4, .node [(3, .node [(5, .node [(6, .node [(7, .node [(8, .node [(9, .node [(10, .done)])])])])]),(6, .node [(5, .node [(7, .node [(8, .node [(9, .node [(10, .done)])])])])])]),(5, .node [(3, .node [(6, .node [(7, .node [(8, .node [(9, .node [(10, .done)])])])])]),(6, .node [(3, .node [(7, .node [(8, .node [(9, .node [(10, .done)])])])]),(7, .node [(3, .node [(8, .node [(9, .node [(10, .done)])])])])])]),(6, .node [(3, .node [(5, .node [(7, .node [(8, .node [(9, .node [(10, .done)])])])])]),(5, .node [(3, .node [(7, .node [(8, .node [(9, .node [(10, .done)])])])]),(7, .node [(3, .node [(8, .node [(9, .node [(10, .done)])])])])])])]),(6, .node [(3, .node [(4, .node [(5, .node [(7, .node [(8, .node [(9, .node [(10, .done)])])])])])]),(4, .node [(3, .node [(5, .node [(7, .node [(8, .node [(9, .node [(10, .done)])])])])]),(5, .node [(3, .node [(7, .node [(8, .node [(9, .node [(10, .done)])])])]),(7, .node [(3, .node [(8, .node [(9, .node [(10, .done)])])])])])])])])])])]
def ye7:Tr:= .node [(2, .node [(3, .node [(4, .node [(7, .node [(8, .node [(9, .node [(10, .node [(11, .node [(12, .node [(13, .node [(0, .node [(1, .node [(5, .node [(6, .node [(14, .node [(15, .node [(16, .node [(17, .done)])])])]),(14, .node [(6, .node [(15, .node [(16, .node [(17, .done)])])]),(15, .node [(6, .node [(16, .node [(17, .done)])])])])]),(14, .node [(5, .node [(6, .node [(15, .node [(16, .node [(17, .done)])])]),(15, .node [(6, .node [(16, .node [(17, .done)])])])]),(15, .node [(5, .node [(6, .node [(16, .node [(17, .done)])])])])])]),(5, .node [(1, .node [(6, .node [(14, .node [(15, .node [(16, .node [(17, .done)])])])]),(14, .node [(6, .node [(15, .node [(16, .node [(17, .done)])])]),(15, .node [(6, .node [(16, .node [(17, .done)])])])])]),(6, .node [(1, .node [(14, .node [(15, .node [(16, .node [(17, .done)])])])])])])]),(5, .node [(0, .node [(1, .node [(6, .node [(14, .node [(15, .node [(16, .node [(17, .done)])])])]),(14, .node [(6, .node [(15, .node [(16, .node [(17, .done)])])]),(15, .node [(6, .node [(16, .node [(17, .done)])])])])]),(6, .node [(1, .node [(14, .node [(15, .node [(16, .node [(17, .done)])])])])])]),(6, .node [(0, .node [(1, .node [(14, .node [(15, .node [(16, .node [(17, .done)])])])])])])])])])])])])])])])])])]
def ye8:Tr:= .node [(2, .node [(3, .node [(4, .node [(7, .node [(8, .node [(9, .node [(10, .node [(11, .node [(0, .node [(1, .node [(5, .node [(6, .node [(12, .node [(13, .node [(14, .node [(15, .done)])])])]),(12, .node [(6, .node [(13, .node [(14, .node [(15, .done)])])]),(13, .node [(6, .node [(14, .node [(15, .done)])])])])]),(12, .node [(5, .node [(6, .node [(13, .node [(14, .node [(15, .done)])])]),(13, .node [(6, .node [(14, .node [(15, .done)])])])]),(13, .node [(5, .node [(6, .node [(14, .node [(15, .done)])])])])])]),(5, .node [(1, .node [(6, .node [(12, .node [(13, .node [(14, .node [(15, .done)])])])]),(12, .node [(6, .node [(13, .node [(14, .node [(15, .done)])])]),(13, .node [(6, .node [(14, .node [(15, .done)])])])])]),(6, .node [(1, .node [(12, .node [(13, .node [(14, .node [(15, .done)])])])])])])]),(5, .node [(0, .node [(1, .node [(6, .node [(12, .node [(13, .node [(14, .node [(15, .done)])])])]),(12, .node [(6, .node [(13, .node [(14, .node [(15, .done)])])]),(13, .node [(6, .node [(14, .node [(15, .done)])])])])]),(6, .node [(1, .node [(12, .node [(13, .node [(14, .node [(15, .done)])])])])])]),(6, .node [(0, .node [(1, .node [(12, .node [(13, .node [(14, .node [(15, .done)])])])])])])])])])])])])])])])]
def ye9:Tr:= .node [(0, .node [(1, .node [(2, .node [(3, .node [(4, .node [(5, .node [(6, .node [(7, .node [(8, .node [(9, .done)])])]),(7, .node [(6, .node [(8, .node [(9, .done)])]),(8, .node [(6, .node [(9, .done)])])])]),(6, .node [(5, .node [(7, .node [(8, .node [(9, .done)])])]),(7, .node [(5, .node [(8, .node [(9, .done)])])])]),(7, .node [(5, .node [(6, .node [(8, .node [(9, .done)])]),(8, .node [(6, .node [(9, .done)])])]),(6, .node [(5, .node [(8, .node [(9, .done)])])])])])]),(7, .node [(3, .node [(4, .node [(5, .node [(6, .node [(8, .node [(9, .done)])]),(8, .node [(6, .node [(9, .done)])])]),(6, .node [(5, .node [(8, .node [(9, .done)])])])])])])]),(7, .node [(2, .node [(3, .node [(4, .node [(5, .node [(6, .node [(8, .node [(9, .done)])]),(8, .node [(6, .node [(9, .done)])])]),(6, .node [(5, .node [(8, .node [(9, .done)])])])])])])])]),(7, .node [(1, .node [(2, .node [(3, .node [(4, .node [(5, .node [(6, .node [(8, .node [(9, .done)])]),(8, .node [(6, .node [(9, .done)])])]),(6, .node [(5, .node [(8, .node [(9, .done)])])])])])])])])]),(1, .node [(0, .node [(2, .node [(3, .node [(4, .node [(5, .node [(6, .node [(7, .node [(8, .node [(9, .done)])])]),(7, .node [(6, .node [(8, .node [(9, .done)])]),(8, .node [(6, .node [(9, .done)])])])]),(6, .node [(5, .node [(7, .node [(8, .node [(9, .done)])])]),(7, .node [(5, .node [(8, .node [(9, .done)])])])]),(7, .node [(5, .node [(6, .node [(8, .node [(9, .done)])]),(8, .node [(6, .node [(9, .done)])])]),(6, .node [(5, .node [(8, .node [(9, .done)])])])])])]),(7, .node [(3, .node [(4, .node [(5, .node [(6, .node [(8, .node [(9, .done)])]),(8, .node [(6, .node [(9, .done)])])]),(6, .node [(5, .node [(8, .node [(9, .done)])])])])])])]),(7, .node [(2, .node [(3, .node [(4, .node [(5, .node [(6, .node [(8, .node [(9, .done)])]),(8, .node [(6, .node [(9, .done)])])]),(6, .node [(5, .node [(8, .node [(9, .done)])])])])])])])]),(2, .node [(0, .node [(3, .node [(4, .node [(5, .node [(6, .node [(7, .node [(8, .node [(9, .done)])])]),(7, .node [(6, .node [(8, .node [(9, .done)])]),(8, .node [(6, .node [(9, .done)])])])]),(6, .node [(5, .node [(7, .node [(8, .node [(9, .done)])])]),(7, .node [(5, .node [(8, .node [(9, .done)])])])]),(7, .node [(5, .node [(6, .node [(8, .node [(9, .done)])]),(8, .node [(6, .node [(9, .done)])])]),(6, .node [(5, .node [(8, .node [(9, .done)])])])])])]),(7, .node [(3, .node [(4, .node [(5, .node [(6, .node [(8, .node [(9, .done)])]),(8, .node [(6, .node [(9, .done)])])]),(6, .node [(5, .node [(8, .node [(9, .done)])])])])])])]),(7, .node [(0, .node [(3, .node [(4, .node [(5, .node [(6, .node [(8, .node [(9, .done)])]),(8, .node [(6, .node [(9, .done)])])]),(6, .node [(5, .node [(8, .node [(9, .done)])])])])])])])]),(7, .node [(0, .node [(2, .node [(3, .node [(4, .node [(5, .node [(6, .node [(8, .node [(9, .done)])]),(8, .node [(6, .node [(9, .done)])])]),(6, .node [(5, .node [(8, .node [(9, .done)])])])])])])]),(2, .node [(0, .node [(3, .node [(4, .node [(5, .node [(6, .node [(8, .node [(9, .done)])]),(8, .node [(6, .node [(9, .done)])])]),(6, .node [(5, .node [(8, .node [(9, .done)])])])])])])])])]),(7, .node [(0, .node [(1, .node [(2, .node [(3, .node [(4, .node [(5, .node [(6, .node [(8, .node [(9, .done)])]),(8, .node [(6, .node [(9, .done)])])]),(6, .node [(5, .node [(8, .node [(9, .done)])])])])])])])]),(1, .node [(0, .node [(2, .node [(3, .node [(4, .node [(5, .node [(6, .node [(8, .node [(9, .done)])]),(8, .node [(6, .node [(9, .done)])])]),(6, .node [(5, .node [(8, .node [(9, .done)])])])])])])]),(2, .node [(0, .node [(3, .node [(4, .node [(5, .node [(6, .node [(8, .node [(9, .done)])]),(8, .node [(6, .node [(9, .done)])])]),(6, .node [(5, .node [(8, .node [(9, .done)])])])])])])])])])]
theorem y39 (n:Nat) (hn:n<41):tmI (-(4*(n:Int)+4)) (rwT (4*n+4) (tuR n))=yam (tuR n):=by
 refine yap.eq ⟨yfk _ _,fun e=>?_⟩ fun e he=>yh8 hn he
 rw [yfl]
 have hs:tuR n e≠0-> -(4*(n:Int)+4)<=e/\e<=4*n+4:=fun h=>by have:=ynb h;omega
 split
 ·by_cases h:e<=4*(n:Int)+4
  ·rw [yek (by omega)]
   congr 1;omega
  ·rw [List.getD_eq_getElem?_getD,List.getElem?_eq_none (by rw [yhf];omega)]
   exact (Classical.byContradiction fun h0: ¬tuR n e=0=>h (hs h0).2).symm
 ·exact (Classical.byContradiction fun h0: ¬tuR n e=0=>by have:=(hs h0).1;omega).symm
theorem y5x:brP [] 0 2=yam (tuR 0):=by
 unfold brP
 congr 1
 funext e
 rw [yqx]
 simp only [dpw,dml,tuR,tuF]
 repeat' split
 all_goals omega
theorem yle (z:Int) (hz:0<=z/\z<=255):Fn Tryd.prog 3 [.int .u8 z] (.bool true):=by
 have hA:=yuh
 obtain ⟨n,hn⟩: ∃n:Nat,z.tmod 41=n:=⟨(z % 41).toNat,by rw [Int.tmod_eq_emod_of_nonneg hz.1];omega⟩
 have hn41:n<41:=by
  rw [Int.tmod_eq_emod_of_nonneg hz.1] at hn
  omega
 have hw:IntKind.i64.wrap z=z:=IntWalk.i64_in _ (by omega)
 have hTo:=yz1 n (by omega)
 have hOf:=yok (-(4*(n:Int)+4)) (rwT (4*n+4) (tuR n)) (by rw [yhf];omega) (by rw [yhf];omega) (fun c hc=>by
  obtain ⟨i,_,rfl⟩:=List.mem_map.1 hc
  have:=yju n ((i:Int)-(4*n+4:Nat));omega)
 rw [y39 n hn41] at hOf
 have hP:yap (yam (tuR n)) (tuR n):=ye6 fun e he=>yh8 hn41 he
 have hPl:(yam (tuR n)).length<=1000000:=by have:=hP.len (fun e he=>yh8 hn41 he);omega
 have hEq:=yz7 (yam (tuR n)) hPl
 generalize rwT (4*n+4) (tuR n)=R at hTo hOf
 have e4:(4*(n:Int)).toNat=4*n:=by omega
 have m0:=y6t n
 refine Fn.intro [.tmp 2] Tryd.func3 rfl rfl (by decide) (by simp [Tryd.ntmps3]) ?_;rw [Tryd.ntmps3]
 repeat' (first|omega|(try apply yaa);simp only [go_sem,sevalprocAttr]|apply yae<;>(intro h_;(try simp only [h_]);revert h_)|apply yad|apply yab|apply gspI|apply And.intro|with_reducible intro h_|trivial|simp only [go_sem,la2];omega)
 refine ⟨yaf.fn rfl hA ?_⟩
 repeat' (first|omega|(try apply yaa);simp only [go_sem,sevalprocAttr,hw,hn,e4]|apply yae<;>(intro h_;(try simp only [h_]);revert h_)|apply yad|apply yab|apply gspI|apply And.intro|with_reducible intro h_|trivial|simp only [go_sem,la2];omega)
 refine yak.intro (fun n' fr H=> ∃c:Nat,c<=n/\n'=n-c/\
  ((c=0/\fr=[(21,I 0),(20,I n),(4, .ptr 1 0),(3,I n)]/\H=[(1, .cells 25 (.lst [.nils, .sl 1 0 0 (4*n),I 0])),(0, .cells 3 (.ints (tuM n 0)))])\/
   (0<c/\fr=[(21,I c),(20,I n),(4, .ptr 1 0),(3,I n)]/\H=[(3, .cells 3 (.ints (tuS c))),(1, .cells 25 (.lst [.sl 1 3 0 c, .sl 1 0 0 (4*n),I 0])),(0, .cells 3 (.ints (tuM n c)))]))) ?_ ?_
 ·refine ⟨_,_,_,Wk.sub ?_ ?_,0,by omega,rfl, .inl ⟨rfl,rfl,rfl⟩⟩
  ·simp only [go_sem,sevalprocAttr]
  ·simp only [go_sem,sevalprocAttr,m0]
 rintro n' fr H ⟨c,hc,rfl,hcase⟩
 by_cases hcn:c<n
 ·have bc:decide ((c:Int)<n)=true:=by simp;omega
  have bc0:decide ((0:Int)<n)=true:=by simp;omega
  have ml:=ysz n c
  have ss:=yzv c
  have sl:=yb1 c
  have h3:((c:Int)+1).tmod n=(nxV n c:Nat):=by rw [Int.tmod_eq_emod_of_nonneg (by omega)];exact yw2 hcn
  have h30:(1:Int).tmod n=(nxV n 0:Nat):=by rw [Int.tmod_eq_emod_of_nonneg (by omega)];have:=yw2 (n:=n) (c:=0) (by omega);simpa using this
  have hx:nxV n c<n:=by unfold nxV;split<;>omega
  have st:=yzu hcn
  obtain ⟨x,hxx⟩: ∃x,nxV n c=x:=⟨_,rfl⟩
  rw [hxx] at h3 hx st
  have f1:(4*(c:Int)+2).toNat=4*c+2:=by omega
  have f2:(4*(x:Int)+3).toNat=4*x+3:=by omega
  have f3:(4*(c:Int)+1).toNat=4*c+1:=by omega
  have f4:(4*(x:Int)).toNat=4*x:=by omega
  rcases hcase with ⟨rfl,rfl,rfl⟩|⟨h0,rfl,rfl⟩
  ·rw [hxx] at h30
   have st0:=st
   simp only [Nat.mul_zero,Nat.zero_add,Int.natCast_zero,Int.mul_zero,Int.zero_add] at st0
   repeat' (first|omega|(try apply yaa);simp only [go_sem,sevalprocAttr,bc0,h30]|apply yae<;>(intro h_;(try simp only [h_]);revert h_)|apply yad|apply yab|apply gspI|apply And.intro|with_reducible intro h_|trivial|simp only [go_sem,la2];omega)
   refine yac.cut [(6,I (4*(x:Int))),(5,I 0),(21,I 0),(20,I n),(4, .ptr 1 0),(3,I n)] [(3, .cells 3 (.ints (tuS 1))),(1, .cells 25 (.lst [.sl 1 3 0 1, .sl 1 0 0 (4*n),I 0])),(0, .cells 3 (.ints (((tuM n 0).set 2 (4*(x:Int)+3)).set (4*x+3) 2)))] ?_ ?_
   ·repeat' (first|omega|(first|apply yaa|(refine yac.introF (id:=10) (ye7) (by decide+kernel) mixed ?_)|(refine yac.intro (id:=10) ycr ycs (by decide+kernel) mixed ?_)|(refine yac.introF (id:=11) (ye8) (by decide+kernel) mixed ?_)|(refine yac.intro (id:=11) yct ycu (by decide+kernel) mixed ?_)|(refine yac.introF (id:=15) (ye9) (by decide+kernel) mixed ?_)|(refine yac.intro (id:=15) ycv [[],[0],[0],[],[],[],[5],[0,1,2,3,4,5,6],[6],[]] (by decide+kernel) mixed ?_)|(refine yac.introF (id:=17) (ybx) (by decide+kernel) mixed ?_)|(refine yac.intro (id:=17) [[],[],[],[84,85,86,87],[83,86],[83,86],[83,84,85],[83],[],[],[]] [[],[],[],[],[3],[3],[3,4,5],[3],[],[],[]] (by decide+kernel) mixed ?_)|(refine yac.introT (id:=17) (ybx) (by decide+kernel) mixed ?_)|skip);simp only [go_sem,sevalprocAttr,f2,ml,List.length_set,↓reduceIte,reduceCtorEq,ycr,ycs,yct,ycu,ycv,ybx,ye7,ye8,ye9]|apply yae<;>(intro h_;(try simp only [h_]);revert h_)|apply yad|apply yab|apply gspI|apply And.intro|with_reducible intro h_|trivial|simp only [go_sem,la2];omega)
    all_goals (refine Wk.sub ?_ ?_<;>(simp only [go_sem,sevalprocAttr,tuS])<;>rfl)
   repeat' (first|omega|(try apply yaa);simp only [go_sem,sevalprocAttr,bc0]|apply yae<;>(intro h_;(try simp only [h_]);revert h_)|apply yad|apply yab|apply gspI|apply And.intro|with_reducible intro h_|trivial|simp only [go_sem,la2];omega)
   refine yac.cutE [(21,I 0),(20,I n),(4, .ptr 1 0),(3,I n)] [(3, .cells 3 (.ints (tuS 1))),(1, .cells 25 (.lst [.sl 1 3 0 1, .sl 1 0 0 (4*n),I 0])),(0, .cells 3 (.ints (tuM n 1)))] ?_ ?_
   ·repeat' (first|omega|(first|apply yaa|(refine yac.introF (id:=10) (ye7) (by decide+kernel) mixed ?_)|(refine yac.intro (id:=10) ycr ycs (by decide+kernel) mixed ?_)|(refine yac.introF (id:=11) (ye8) (by decide+kernel) mixed ?_)|(refine yac.intro (id:=11) yct ycu (by decide+kernel) mixed ?_)|(refine yac.introF (id:=15) (ye9) (by decide+kernel) mixed ?_)|(refine yac.intro (id:=15) ycv [[],[0],[0],[],[],[],[5],[0,1,2,3,4,5,6],[6],[]] (by decide+kernel) mixed ?_)|(refine yac.introF (id:=17) (ybx) (by decide+kernel) mixed ?_)|(refine yac.intro (id:=17) [[],[],[],[84,85,86,87],[83,86],[83,86],[83,84,85],[83],[],[],[]] [[],[],[],[],[3],[3],[3,4,5],[3],[],[],[]] (by decide+kernel) mixed ?_)|(refine yac.introT (id:=17) (ybx) (by decide+kernel) mixed ?_)|skip);simp only [go_sem,sevalprocAttr,f4,ml,List.length_set,↓reduceIte,reduceCtorEq,ycr,ycs,yct,ycu,ycv,ybx,ye7,ye8,ye9]|apply yae<;>(intro h_;(try simp only [h_]);revert h_)|apply yad|apply yab|apply gspI|apply And.intro|with_reducible intro h_|trivial|simp only [go_sem,la2];omega)
    all_goals (refine Wk.sub ?_ ?_<;>(simp only [go_sem,sevalprocAttr,st0]))
   repeat' (first|omega|(try apply yaa);simp only [go_sem,sevalprocAttr,bc0]|apply yae<;>(intro h_;(try simp only [h_]);revert h_)|apply yad|apply yab|apply gspI|apply And.intro|with_reducible intro h_|trivial|simp only [go_sem,la2];omega)
   refine ⟨_,_,_,?_,Wk.sub ?_ ?_,1,by omega,rfl, .inr ⟨by omega,rfl,rfl⟩⟩
   ·omega
   ·simp only [go_sem,sevalprocAttr]
   ·simp only [go_sem,sevalprocAttr]
  ·repeat' (first|omega|(try apply yaa);simp only [go_sem,sevalprocAttr,bc,h3,sl]|apply yae<;>(intro h_;(try simp only [h_]);revert h_)|apply yad|apply yab|apply gspI|apply And.intro|with_reducible intro h_|trivial|simp only [go_sem,la2];omega)
   refine yac.cut [(6,I (4*(x:Int))),(5,I c),(21,I c),(20,I n),(4, .ptr 1 0),(3,I n)] [(3, .cells 3 (.ints (tuS (c+1)))),(1, .cells 25 (.lst [.sl 1 3 0 (c+1), .sl 1 0 0 (4*n),I 0])),(0, .cells 3 (.ints (((tuM n c).set (4*c+2) (4*(x:Int)+3)).set (4*x+3) (4*(c:Int)+2))))] ?_ ?_
   ·repeat' (first|omega|(first|apply yaa|(refine yac.introF (id:=10) (ye7) (by decide+kernel) mixed ?_)|(refine yac.intro (id:=10) ycr ycs (by decide+kernel) mixed ?_)|(refine yac.introF (id:=11) (ye8) (by decide+kernel) mixed ?_)|(refine yac.intro (id:=11) yct ycu (by decide+kernel) mixed ?_)|(refine yac.introF (id:=15) (ye9) (by decide+kernel) mixed ?_)|(refine yac.intro (id:=15) ycv [[],[0],[0],[],[],[],[5],[0,1,2,3,4,5,6],[6],[]] (by decide+kernel) mixed ?_)|(refine yac.introF (id:=17) (ybx) (by decide+kernel) mixed ?_)|(refine yac.intro (id:=17) [[],[],[],[84,85,86,87],[83,86],[83,86],[83,84,85],[83],[],[],[]] [[],[],[],[],[3],[3],[3,4,5],[3],[],[],[]] (by decide+kernel) mixed ?_)|(refine yac.introT (id:=17) (ybx) (by decide+kernel) mixed ?_)|skip);simp only [go_sem,sevalprocAttr,f1,f2,ml,List.length_set,↓reduceIte,reduceCtorEq,ycr,ycs,yct,ycu,ycv,ybx,ye7,ye8,ye9]|apply yae<;>(intro h_;(try simp only [h_]);revert h_)|apply yad|apply yab|apply gspI|apply And.intro|with_reducible intro h_|trivial|simp only [go_sem,la2];omega)
    all_goals (refine Wk.sub ?_ ?_<;>(simp only [go_sem,sevalprocAttr,ss]))
   repeat' (first|omega|(try apply yaa);simp only [go_sem,sevalprocAttr,bc]|apply yae<;>(intro h_;(try simp only [h_]);revert h_)|apply yad|apply yab|apply gspI|apply And.intro|with_reducible intro h_|trivial|simp only [go_sem,la2];omega)
   refine yac.cutE [(21,I c),(20,I n),(4, .ptr 1 0),(3,I n)] [(3, .cells 3 (.ints (tuS (c+1)))),(1, .cells 25 (.lst [.sl 1 3 0 (c+1), .sl 1 0 0 (4*n),I 0])),(0, .cells 3 (.ints (tuM n (c+1))))] ?_ ?_
   ·repeat' (first|omega|(first|apply yaa|(refine yac.introF (id:=10) (ye7) (by decide+kernel) mixed ?_)|(refine yac.intro (id:=10) ycr ycs (by decide+kernel) mixed ?_)|(refine yac.introF (id:=11) (ye8) (by decide+kernel) mixed ?_)|(refine yac.intro (id:=11) yct ycu (by decide+kernel) mixed ?_)|(refine yac.introF (id:=15) (ye9) (by decide+kernel) mixed ?_)|(refine yac.intro (id:=15) ycv [[],[0],[0],[],[],[],[5],[0,1,2,3,4,5,6],[6],[]] (by decide+kernel) mixed ?_)|(refine yac.introF (id:=17) (ybx) (by decide+kernel) mixed ?_)|(refine yac.intro (id:=17) [[],[],[],[84,85,86,87],[83,86],[83,86],[83,84,85],[83],[],[],[]] [[],[],[],[],[3],[3],[3,4,5],[3],[],[],[]] (by decide+kernel) mixed ?_)|(refine yac.introT (id:=17) (ybx) (by decide+kernel) mixed ?_)|skip);simp only [go_sem,sevalprocAttr,f3,f4,ml,List.length_set,↓reduceIte,reduceCtorEq,ycr,ycs,yct,ycu,ycv,ybx,ye7,ye8,ye9]|apply yae<;>(intro h_;(try simp only [h_]);revert h_)|apply yad|apply yab|apply gspI|apply And.intro|with_reducible intro h_|trivial|simp only [go_sem,la2];omega)
    all_goals (refine Wk.sub ?_ ?_<;>(simp only [go_sem,sevalprocAttr,st]))
   repeat' (first|omega|(try apply yaa);simp only [go_sem,sevalprocAttr,bc]|apply yae<;>(intro h_;(try simp only [h_]);revert h_)|apply yad|apply yab|apply gspI|apply And.intro|with_reducible intro h_|trivial|simp only [go_sem,la2];omega)
   refine ⟨_,_,_,?_,Wk.sub ?_ ?_,c+1,by omega,rfl, .inr ⟨by omega,rfl,rfl⟩⟩
   ·omega
   ·simp only [go_sem,sevalprocAttr]
   ·simp only [go_sem,sevalprocAttr]
 obtain rfl:c=n:=by omega
 have bc:decide ((c:Int)<(c:Nat))=false:=by simp
 rcases hcase with ⟨rfl,rfl,rfl⟩|⟨h0,rfl,rfl⟩
 ·have m00:tuM 0 0=[]:=rfl
  have hO:=ylc [] [] 2 (by decide)
  rw [if_pos (by decide+kernel:ybb [] [] 2=true)] at hO
  have hO:Fn Tryd.prog 6 [.agg [.nils,roI [],I 2]] (roI []):=Fn.args hO (.cons (LeA.aggL (.cons (LeA.nils (by decide) rfl) (.cons (LeA.refl _) (.cons (LeA.refl _) .nil)))) .nil)
  have hB:=yi0 [] [] 2 [] (by decide) (by decide) (by decide+kernel) (by decide) (by decide)
  rw [show (([]:List Int)).length=0 from rfl,y5x] at hB
  have hB:Fn Tryd.prog 5 [.agg [.nils,roI [],I 2],roI []] (.tup [plA false (yam (tuR 0)),I 0]):=Fn.args hB (.cons (LeA.aggL (.cons (LeA.nils (by decide) rfl) (.cons (LeA.refl _) (.cons (LeA.refl _) .nil)))) (.cons (LeA.refl _) .nil))
  refine yaa _ _ _ _ ?_
  simp only [go_sem,sevalprocAttr,bc,m00]
  refine WpA.wk (Wk.frzB [0] (by simp only [go_sem,sevalprocAttr,m00,Nat.le_refl]) (by simp only [go_sem,sevalprocAttr,m00,Nat.le_refl]) rfl rfl) ?_
  repeat' (first|omega|(first|apply yaa|(refine yac.intro (id:=10) ycr ycs (by decide+kernel) mixed ?_)|(refine yac.intro (id:=11) yct ycu (by decide+kernel) mixed ?_)|(refine yac.intro (id:=15) ycv [[],[0],[0],[],[],[],[5],[0,1,2,3,4,5,6],[6],[]] (by decide+kernel) mixed ?_)|(refine yac.intro (id:=17) [[],[],[],[84,85,86,87],[83,86],[83,86],[83,84,85],[83],[],[],[]] [[],[],[],[],[3],[3],[3,4,5],[3],[],[],[]] (by decide+kernel) mixed ?_)|(refine yac.introT (id:=17) (ybx) (by decide+kernel) mixed ?_)|skip);simp only [go_sem,sevalprocAttr,bc,↓reduceIte,reduceCtorEq,ycr,ycs,yct,ycu,ycv,ybx]|(refine ⟨yaf.fn (r:=?_) rfl ?_ ?_⟩;rotate_left;assumption)|(refine ⟨ybh.fn (r:=?_) rfl ?_ ?_⟩;rotate_left;assumption)|apply yae<;>(intro h_;(try simp only [h_]);revert h_)|apply yad|apply yab|apply gspI|apply And.intro|with_reducible intro h_|trivial|simp only [go_sem,la2];omega)
 ·have b0:((c:Int)==0)=false:=by simp;omega
  rw [y3r]
  have lM:=y3q c
  have lS:=yb1 c
  have wM:=List.take_of_length_le (Nat.le_of_eq lM)
  have wS:=List.take_of_length_le (Nat.le_of_eq lS)
  have hO:=ylc (tuS c) (tuX c) 0 (by rw [lS];omega)
  rw [if_pos (tu_v hn41 h0),lS,yw5 hn41 c (Nat.le_refl _)] at hO
  have hB:=y33 hn41 h0
  refine yaa _ _ _ _ ?_
  simp only [go_sem,sevalprocAttr,bc]
  refine WpA.wk (Wk.frzB [0,3] (by simp only [go_sem,sevalprocAttr,wM,wS,lM,lS,Nat.le_refl]) (by simp only [go_sem,sevalprocAttr,wM,wS,lM,lS,Nat.le_refl]) rfl rfl) ?_
  generalize tuX c=M at*
  generalize tuS c=T at*
  generalize tuO c=O at*
  generalize yam (tuR c)=p at*
  have rS:roI T= .ro 1 c (.ints T):=by unfold roI;rw [lS]
  have rM:roI M= .ro 1 (4*c) (.ints M):=by unfold roI;rw [lM]
  unfold dgA at hO hB
  rw [rS,rM] at hO hB
  repeat' (first|omega|(first|apply yaa|(refine yac.intro (id:=10) ycr ycs (by decide+kernel) mixed ?_)|(refine yac.intro (id:=11) yct ycu (by decide+kernel) mixed ?_)|(refine yac.intro (id:=15) ycv [[],[0],[0],[],[],[],[5],[0,1,2,3,4,5,6],[6],[]] (by decide+kernel) mixed ?_)|(refine yac.intro (id:=17) [[],[],[],[84,85,86,87],[83,86],[83,86],[83,84,85],[83],[],[],[]] [[],[],[],[],[3],[3],[3,4,5],[3],[],[],[]] (by decide+kernel) mixed ?_)|(refine yac.introT (id:=17) (ybx) (by decide+kernel) mixed ?_)|skip);simp only [go_sem,sevalprocAttr,bc,b0,wM,wS,↓reduceIte,reduceCtorEq,ycr,ycs,yct,ycu,ycv,ybx]|(refine ⟨yaf.fn (r:=?_) rfl ?_ ?_⟩;rotate_left;assumption)|(refine ⟨ybh.fn (r:=?_) rfl ?_ ?_⟩;rotate_left;assumption)|apply yae<;>(intro h_;(try simp only [h_]);revert h_)|apply yad|apply yab|apply gspI|apply And.intro|with_reducible intro h_|trivial|simp only [go_sem,la2];omega)
end Go.Proofs.YtmdjdekgakidhaaDoor
