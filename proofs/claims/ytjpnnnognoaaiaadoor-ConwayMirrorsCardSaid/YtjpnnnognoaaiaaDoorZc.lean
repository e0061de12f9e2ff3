/- Layer 6: moved diagrams, switched crossings. -/
import Derived.Test.YtjpnnnognoaaiaaDoorZb
import Derived.Test.YtjpnnnognoaaiaaDoorZa
set_option linter.unusedSimpArgs false
set_option linter.unusedVariables false
namespace Go.Proofs.YtjpnnnognoaaiaaDoor
open Go Go.RowKit
set_option maxRecDepth 100000
set_option maxHeartbeats 4000000
def yec:List (List Nat):=[[18,19,20,21,22,23,8],[18,19,20,21,22,23,8],[18,19,20,21,22,23,8],[18,19,20,21,22,23,8],[14,15,16,17,22,23,8],[14,15,16,17,22,23,8],[14,15,16,17,22,23,8],[14,15,16,17,22,23,8],[14,15,16,17,18,19,20,21,8],[14,15,16,17,18,19,20,21,8],[8],[14,15,16,17,18,19,20,21,22,23,24],[]]
def yed:List (List Nat):=[[],[],[],[],[0,1,2,3],[0,1,2,3],[0,1,2,3],[0,1,2,3],[0,1,2,3,4,5,6,7],[0,1,2,3,4,5,6,7],[],[0,1,2,3,4,5,6,7,8,9,10],[]]
def yee:List (List Nat):=[[35,36,37,38,39,40],[35,36,37,38,39,40],[33,34,36,37,38,39,40],[33,34,35,37,38,39],[33,34,35,36,38],[33,34,35,36,37],[33,34,35,36],[33,34,35],[],[]]
def yef:List (List Nat):=[[53,54,55,56,57,58],[53,54,55,56,57,58],[51,52,54,56,57],[51,52,53,56,57],[51,52,56,57],[51,52,53,54,55,57],[51,52,53,54,55,56],[51,52],[],[]]
theorem yx2 (g:Nat) (cap:List AV) (by':Int->Int->Int) (h:Int) (h0:0<=h) (h1:h<=10000) (hp1:(cap.all p1)=true) (hf:Fn Tryd.prog g ([I (h/4),I (h % 4)]++cap) (I (by' (h/4) (h % 4)))):
  Fn Tryd.prog 51 [I h, .rp (.lst [.fn g cap]) 0] (I (yao h (by' (h/4) (h % 4)))):=by
 have e1:h.tmod 4=h % 4:=ynt h0
 have e2:h.tdiv 4=h/4:=yda h0
 refine Fn.intro [.tmp 3] Tryd.func51 rfl rfl (by decide) (by simp [Tryd.ntmps51]) ?_;rw [Tryd.ntmps51]
 repeat' (first|omega|(try apply yaa);simp only [go_sem,sevalprocAttr,e1,e2]|apply yab<;>(intro h_;(try simp only [h_]);revert h_)|apply And.intro|with_reducible intro h_|trivial|simp only [go_sem,la2];omega)
 refine ⟨yae.fn ?_ hf ?_⟩
 ·simp only [List.all_cons,ybk hp1];rfl
 repeat' (first|omega|(try apply yaa);simp only [go_sem,sevalprocAttr]|apply yab<;>(intro h_;(try simp only [h_]);revert h_)|apply And.intro|with_reducible intro h_|trivial|simp only [go_sem,la2];omega)
 refine ⟨yae.fn rfl (ynv h _ h0 (by omega)) ?_⟩
 repeat' (first|omega|(try apply yaa);simp only [go_sem,sevalprocAttr]|apply yab<;>(intro h_;(try simp only [h_]);revert h_)|apply And.intro|with_reducible intro h_|trivial|simp only [go_sem,la2];omega)
theorem ynw (s m:List Int) (L:Int) (g1 g2:Nat) (c1 c2:List AV) (by':Int->Int->Int) (sg:Int->Int) (hs:s.length<=1000) (hm:yb1 m s.length) (hp1:(c1.all p1)=true) (hp2:(c2.all p1)=true)
  (hb: ∀c x:Int,0<=c->c<s.length->0<=x->x<4->Fn Tryd.prog g1 ([I c,I x]++c1) (I (by' c x))) (hg: ∀c:Nat,c<s.length->Fn Tryd.prog g2 ([I c]++c2) (I (sg c))/\InI (s.getD c 0*sg c)):
  Fn Tryd.prog 25 [dgA s m L, .fn g1 c1, .fn g2 c2] (dgA (sgM s sg s.length) (mvM m (fun h=>yao h (by' (h/4) (h % 4))) m.length) L):=by
 have hml:=hm.1
 have hto: ∀h:Int,0<=h->h<4*s.length->Fn Tryd.prog 51 [I h, .rp (.lst [.fn g1 c1]) 0] (I (yao h (by' (h/4) (h % 4)))):=fun h h0 h1=>
  yx2 g1 c1 by' h h0 (by omega) hp1 (hb _ _ (by omega) (by omega) (by omega) (by omega))
 refine Fn.intro [.cell 6 24] Tryd.func25 rfl rfl (by decide) (by simp [Tryd.ntmps25]) ?_;rw [Tryd.ntmps25]
 repeat' (first|omega|(first|apply yaa|(refine yac.intro (id:=2) yec yed (by decide+kernel) mixed ?_)|(refine yac.intro (id:=6) yee [[],[],[0,1],[0,1,2],[0,1,2,3],[0,1,2,3,4],[0,1,2,3],[0,1,2],[],[]] (by decide+kernel) mixed ?_)|(refine yac.intro (id:=11) yef [[],[],[0,1],[0,1,2],[0,1],[0,1,2,3,4],[0,1,2,3,4,5],[0,1],[],[]] (by decide+kernel) mixed ?_)|skip);simp only [go_sem,sevalprocAttr,yby hp1,ybk hp1,ybz hp1,ybg hp1,yb0 hp1,ya3 hp1,yaw hp1,ybb hp1,ya4 hp1,yby hp2,ybk hp2,ybz hp2,ybg hp2,yb0 hp2,ya3 hp2,yaw hp2,ybb hp2,ya4 hp2,↓reduceIte,reduceCtorEq,yec,yed,yee,yef]|apply yab<;>(intro h_;(try simp only [h_]);revert h_)|apply And.intro|with_reducible intro h_|trivial|simp only [go_sem,la2];omega)
 refine ya0.intro (fun n fr H=> ∃k:Nat,k<=s.length/\n=s.length-k/\fr=[(28,I k),(27,I s.length),(26,roI s),(8, .ptr 14 0),(7, .fn 51 [.ptr 1 0]),(6, .ptr 2 0),(3, .ptr 0 0),(2, .fn g2 c2)]/\
  H=[(14, .cells 24 (.lst [.sl 1 6 0 s.length, .sl 1 10 0 m.length,I L])),(10, .cells 3 (.ints (List.replicate m.length 0))),(6, .cells 3 (.ints (sgM s sg k++List.replicate (s.length-k) 0))),(2, .cells 24 (.lst [.nils, .nils,I 0])),(1, .cells 49 (.lst [.fn g1 c1])),(0, .cells 24 (.lst [roI s,roI m,I L]))]) ?_ ?_
 ·refine ⟨_,_,_,?_,0,by omega,rfl,rfl,rfl⟩
  refine Wk.sub ?_ ?_<;>simp only [go_sem,sevalprocAttr]
  all_goals simp [sgM,ybg hp1,ybg hp2]
 rintro n fr H ⟨k,hk,rfl,rfl,rfl⟩
 have gl:=yb3 s sg k
 by_cases hkl:k<s.length
 ·obtain ⟨hg1,hg2⟩:=hg k hkl
  repeat' (first|omega|(first|apply yaa|(refine yac.intro (id:=2) yec yed (by decide+kernel) mixed ?_)|(refine yac.intro (id:=6) yee [[],[],[0,1],[0,1,2],[0,1,2,3],[0,1,2,3,4],[0,1,2,3],[0,1,2],[],[]] (by decide+kernel) mixed ?_)|(refine yac.intro (id:=11) yef [[],[],[0,1],[0,1,2],[0,1],[0,1,2,3,4],[0,1,2,3,4,5],[0,1],[],[]] (by decide+kernel) mixed ?_)|skip);simp only [go_sem,sevalprocAttr,yby hp1,ybk hp1,ybz hp1,ybg hp1,yb0 hp1,ya3 hp1,yaw hp1,ybb hp1,ya4 hp1,yby hp2,ybk hp2,ybz hp2,ybg hp2,yb0 hp2,ya3 hp2,yaw hp2,ybb hp2,ya4 hp2,↓reduceIte,reduceCtorEq,yec,yed,yee,yef]|apply yab<;>(intro h_;(try simp only [h_]);revert h_)|apply And.intro|with_reducible intro h_|trivial|simp only [go_sem,la2];omega)
  refine ⟨ya6.fn (by simp only [List.all_cons,ybk hp2];rfl) hg1 ?_⟩
  unfold InI at hg2
  repeat' (first|omega|(try apply yaa);simp only [go_sem,sevalprocAttr,yby hp1,ybk hp1,ybz hp1,ybg hp1,yb0 hp1,ya3 hp1,yaw hp1,ybb hp1,ya4 hp1,yby hp2,ybk hp2,ybz hp2,ybg hp2,yb0 hp2,ya3 hp2,yaw hp2,ybb hp2,ya4 hp2]|apply yab<;>(intro h_;(try simp only [h_]);revert h_)|apply And.intro|with_reducible intro h_|trivial|simp only [go_sem,la2];omega)
  all_goals first|omega|skip
  refine ⟨_,_,_,?_,?_,⟨k+1,by omega,rfl,rfl,rfl⟩⟩
  ·omega
  ·refine Wk.sub ?_ ?_<;>simp only [go_sem,sevalprocAttr]
   all_goals simp only [ybg hp1,ybg hp2,and_self,and_true,y4r s sg s.length k hkl]
 obtain rfl:k=s.length:=by omega
 rw [Nat.sub_self,List.replicate_zero,List.append_nil] at*
 repeat' (first|omega|(first|apply yaa|(refine yac.intro (id:=2) yec yed (by decide+kernel) mixed ?_)|(refine yac.intro (id:=6) yee [[],[],[0,1],[0,1,2],[0,1,2,3],[0,1,2,3,4],[0,1,2,3],[0,1,2],[],[]] (by decide+kernel) mixed ?_)|(refine yac.intro (id:=11) yef [[],[],[0,1],[0,1,2],[0,1],[0,1,2,3,4],[0,1,2,3,4,5],[0,1],[],[]] (by decide+kernel) mixed ?_)|skip);simp only [go_sem,sevalprocAttr,yby hp1,ybk hp1,ybz hp1,ybg hp1,yb0 hp1,ya3 hp1,yaw hp1,ybb hp1,ya4 hp1,yby hp2,ybk hp2,ybz hp2,ybg hp2,yb0 hp2,ya3 hp2,yaw hp2,ybb hp2,ya4 hp2,↓reduceIte,reduceCtorEq,yec,yed,yee,yef]|apply yab<;>(intro h_;(try simp only [h_]);revert h_)|apply And.intro|with_reducible intro h_|trivial|simp only [go_sem,la2];omega)
 refine ya0.intro (fun n fr H=> ∃k:Nat,k<=m.length/\n=m.length-k/\fr=[(46,I k),(45,I m.length),(44,roI m),(8, .ptr 14 0),(7, .fn 51 [.ptr 1 0]),(6, .ptr 2 0),(3, .ptr 0 0)]/\
  H=[(14, .cells 24 (.lst [.sl 1 6 0 s.length, .sl 1 10 0 m.length,I L])),(10, .cells 3 (.ints (mvM m (fun h=>yao h (by' (h/4) (h % 4))) k))),(6, .cells 3 (.ints (sgM s sg s.length))),(2, .cells 24 (.lst [.nils, .nils,I 0])),(1, .cells 49 (.lst [.fn g1 c1])),(0, .cells 24 (.lst [roI s,roI m,I L]))]) ?_ ?_
 ·refine ⟨_,_,_,?_,0,by omega,rfl,rfl,rfl⟩
  refine Wk.sub ?_ ?_<;>simp only [go_sem,sevalprocAttr]
  all_goals simp [mvM,ybg hp1]
 rintro n fr H ⟨k,hk,rfl,rfl,rfl⟩
 have ml:=yhx m (fun h=>yao h (by' (h/4) (h % 4))) k
 by_cases hkl:k<m.length
 ·have hmr:=hm.2 k (by omega)
  have ht1:=hto k (by omega) (by omega)
  have ht2:=hto (m.getD k 0) hmr.1 hmr.2
  have hr1:=yhm (h:=k) (b:=by' (k/4) (k % 4)) (n:=s.length) (by omega) (by omega)
  repeat' (first|omega|(first|apply yaa|(refine yac.intro (id:=2) yec yed (by decide+kernel) mixed ?_)|(refine yac.intro (id:=6) yee [[],[],[0,1],[0,1,2],[0,1,2,3],[0,1,2,3,4],[0,1,2,3],[0,1,2],[],[]] (by decide+kernel) mixed ?_)|(refine yac.intro (id:=11) yef [[],[],[0,1],[0,1,2],[0,1],[0,1,2,3,4],[0,1,2,3,4,5],[0,1],[],[]] (by decide+kernel) mixed ?_)|skip);simp only [go_sem,sevalprocAttr,yby hp1,ybk hp1,ybz hp1,ybg hp1,yb0 hp1,ya3 hp1,yaw hp1,ybb hp1,ya4 hp1,yby hp2,ybk hp2,ybz hp2,ybg hp2,yb0 hp2,ya3 hp2,yaw hp2,ybb hp2,ya4 hp2,↓reduceIte,reduceCtorEq,yec,yed,yee,yef]|apply yab<;>(intro h_;(try simp only [h_]);revert h_)|apply And.intro|with_reducible intro h_|trivial|simp only [go_sem,la2];omega)
  refine ⟨ya6.flat rfl (by simp only [go_sem,sevalprocAttr,yby hp1,ybk hp1,ybz hp1,ybg hp1,yb0 hp1,ya3 hp1,yaw hp1,ybb hp1,ya4 hp1,yby hp2,ybk hp2,ybz hp2,ybg hp2,yb0 hp2,ya3 hp2,yaw hp2,ybb hp2,ya4 hp2]) (by simp only [go_sem,sevalprocAttr,yby hp1,ybk hp1,ybz hp1,ybg hp1,yb0 hp1,ya3 hp1,yaw hp1,ybb hp1,ya4 hp1,yby hp2,ybk hp2,ybz hp2,ybg hp2,yb0 hp2,ya3 hp2,yaw hp2,ybb hp2,ya4 hp2]) ht1 rfl ?_⟩
  repeat' (first|omega|(try apply yaa);simp only [go_sem,sevalprocAttr,yby hp1,ybk hp1,ybz hp1,ybg hp1,yb0 hp1,ya3 hp1,yaw hp1,ybb hp1,ya4 hp1,yby hp2,ybk hp2,ybz hp2,ybg hp2,yb0 hp2,ya3 hp2,yaw hp2,ybb hp2,ya4 hp2]|apply yab<;>(intro h_;(try simp only [h_]);revert h_)|apply And.intro|with_reducible intro h_|trivial|simp only [go_sem,la2];omega)
  refine ⟨ya6.flat rfl (by simp only [go_sem,sevalprocAttr,yby hp1,ybk hp1,ybz hp1,ybg hp1,yb0 hp1,ya3 hp1,yaw hp1,ybb hp1,ya4 hp1,yby hp2,ybk hp2,ybz hp2,ybg hp2,yb0 hp2,ya3 hp2,yaw hp2,ybb hp2,ya4 hp2]) (by simp only [go_sem,sevalprocAttr,yby hp1,ybk hp1,ybz hp1,ybg hp1,yb0 hp1,ya3 hp1,yaw hp1,ybb hp1,ya4 hp1,yby hp2,ybk hp2,ybz hp2,ybg hp2,yb0 hp2,ya3 hp2,yaw hp2,ybb hp2,ya4 hp2]) ht2 rfl ?_⟩
  repeat' (first|omega|(try apply yaa);simp only [go_sem,sevalprocAttr,yby hp1,ybk hp1,ybz hp1,ybg hp1,yb0 hp1,ya3 hp1,yaw hp1,ybb hp1,ya4 hp1,yby hp2,ybk hp2,ybz hp2,ybg hp2,yb0 hp2,ya3 hp2,yaw hp2,ybb hp2,ya4 hp2]|apply yab<;>(intro h_;(try simp only [h_]);revert h_)|apply And.intro|with_reducible intro h_|trivial|simp only [go_sem,la2];omega)
  refine ⟨_,_,_,?_,?_,⟨k+1,by omega,rfl,rfl,rfl⟩⟩
  ·omega
  ·refine Wk.sub ?_ ?_<;>simp only [go_sem,sevalprocAttr]
   all_goals simp only [ybg hp1,mvM,and_self,and_true]
 ·obtain rfl:k=m.length:=by omega
  repeat' (first|omega|(first|apply yaa|(refine yac.intro (id:=2) yec yed (by decide+kernel) mixed ?_)|(refine yac.intro (id:=6) yee [[],[],[0,1],[0,1,2],[0,1,2,3],[0,1,2,3,4],[0,1,2,3],[0,1,2],[],[]] (by decide+kernel) mixed ?_)|(refine yac.intro (id:=11) yef [[],[],[0,1],[0,1,2],[0,1],[0,1,2,3,4],[0,1,2,3,4,5],[0,1],[],[]] (by decide+kernel) mixed ?_)|skip);simp only [go_sem,sevalprocAttr,yby hp1,ybk hp1,ybz hp1,ybg hp1,yb0 hp1,ya3 hp1,yaw hp1,ybb hp1,ya4 hp1,yby hp2,ybk hp2,ybz hp2,ybg hp2,yb0 hp2,ya3 hp2,yaw hp2,ybb hp2,ya4 hp2,↓reduceIte,reduceCtorEq,yec,yed,yee,yef]|apply yab<;>(intro h_;(try simp only [h_]);revert h_)|apply And.intro|with_reducible intro h_|trivial|simp only [go_sem,la2];omega)
  ·exact List.take_of_length_le (by omega)
  ·exact List.take_of_length_le (by omega)
end Go.Proofs.YtjpnnnognoaaiaaDoor
set_option linter.unusedSimpArgs false
set_option linter.unusedVariables false
namespace Go.Proofs.YtjpnnnognoaaiaaDoor
open Go Go.RowKit
set_option maxRecDepth 100000
set_option maxHeartbeats 4000000
theorem y6z (s m:List Int) (L:Int) (g:Nat) (cc:List AV) (ch:Int->Bool) (c x:Int) (h0:0<=c) (h1:c<s.length) (hp1:cc.all p1=true) (hf:Fn Tryd.prog g (I c::cc) (.bool (ch c))):
  Fn Tryd.prog 49 [I c,I x, .rp (.lst [.fn g cc]) 0, .rp (dgC s m L) 0] (I (exBy s ch c)):=by
 unfold exBy
 refine Fn.intro [.tmp 6] Tryd.func49 rfl rfl (by decide) (by simp [Tryd.ntmps49]) ?_;rw [Tryd.ntmps49]
 repeat' (first|omega|(try apply yaa);simp only [go_sem,sevalprocAttr]|apply yab<;>(intro h_;(try simp only [h_]);revert h_)|apply And.intro|with_reducible intro h_|trivial|simp only [go_sem,la2];omega)
 refine ⟨yae.fn (by simp only [List.all_cons,ybk hp1];rfl) hf ?_⟩
 repeat' (first|omega|(try apply yaa);simp only [go_sem,sevalprocAttr]|apply yab<;>(intro h_;(try simp only [h_]);revert h_)|apply And.intro|with_reducible intro h_|trivial|simp only [go_sem,la2];omega)
 all_goals simp_all
theorem y60 (g:Nat) (cc:List AV) (ch:Int->Bool) (c:Int) (hp1:cc.all p1=true) (hf:Fn Tryd.prog g (I c::cc) (.bool (ch c))):
  Fn Tryd.prog 50 [I c, .rp (.lst [.fn g cc]) 0] (I (exSg ch c)):=by
 unfold exSg
 refine Fn.intro [.tmp 3] Tryd.func50 rfl rfl (by decide) (by simp [Tryd.ntmps50]) ?_;rw [Tryd.ntmps50]
 repeat' (first|omega|(try apply yaa);simp only [go_sem,sevalprocAttr]|apply yab<;>(intro h_;(try simp only [h_]);revert h_)|apply And.intro|with_reducible intro h_|trivial|simp only [go_sem,la2];omega)
 refine ⟨yae.fn (by simp only [List.all_cons,ybk hp1];rfl) hf ?_⟩
 repeat' (first|omega|(try apply yaa);simp only [go_sem,sevalprocAttr]|apply yab<;>(intro h_;(try simp only [h_]);revert h_)|apply And.intro|with_reducible intro h_|trivial|simp only [go_sem,la2];omega)
 all_goals simp_all
theorem ylf (s m:List Int) (L:Int) (g:Nat) (cc:List AV) (ch:Int->Bool) (hs:s.length<=1000) (hso:ych s s.length) (hm:yb1 m s.length) (hp1:cc.all p1=true) (hf: ∀c:Int,0<=c->c<s.length->Fn Tryd.prog g (I c::cc) (.bool (ch c))):
  Fn Tryd.prog 22 [dgA s m L, .fn g cc] (dgA (exS s ch) (exM s m ch) L):=by
 have hmv:=ynw s m L 49 50 [.rp (.lst [.fn g cc]) 0, .rp (dgC s m L) 0] [.rp (.lst [.fn g cc]) 0] (fun c _=>exBy s ch c) (exSg ch) hs hm rfl rfl
  (fun c x c0 c1 _ _=>y6z s m L g cc ch c x c0 c1 hp1 (hf c c0 c1)) (fun c hc=>⟨y60 g cc ch c hp1 (hf c (by omega) (by omega)),by
   have:=hso c hc;unfold exSg InI;split<;>rcases this with h|h<;>rw [h]<;>omega⟩)
 refine Fn.intro [.cell 4 24] Tryd.func22 rfl rfl (by decide) (by simp [Tryd.ntmps22]) ?_;rw [Tryd.ntmps22]
 repeat' (first|omega|(try apply yaa);simp only [go_sem,sevalprocAttr]|apply yab<;>(intro h_;(try simp only [h_]);revert h_)|apply And.intro|with_reducible intro h_|trivial|simp only [go_sem,la2];omega)
 refine ⟨yae.frz [0,1] rfl (by simp only [go_sem,sevalprocAttr,ybb hp1,ya4 hp1,ya3 hp1,yaw hp1]) (by simp only [go_sem,sevalprocAttr,ybb hp1,ya4 hp1,ya3 hp1,yaw hp1]) (by simp only [go_sem,sevalprocAttr,ybb hp1,ya4 hp1,ya3 hp1,yaw hp1]) (by simp only [go_sem,sevalprocAttr,ybb hp1,ya4 hp1,ya3 hp1,yaw hp1]) ?_ rfl rfl (yae.fn ?_ hmv ?_)⟩
 ·rfl
 ·rfl
 repeat' (first|omega|(try apply yaa);simp only [go_sem,sevalprocAttr]|apply yab<;>(intro h_;(try simp only [h_]);revert h_)|apply And.intro|with_reducible intro h_|trivial|simp only [go_sem,la2];omega)
end Go.Proofs.YtjpnnnognoaaiaaDoor
set_option linter.unusedSimpArgs false
set_option linter.unusedVariables false
namespace Go.Proofs.YtjpnnnognoaaiaaDoor
open Go Go.RowKit
set_option maxRecDepth 100000
set_option maxHeartbeats 4000000
theorem ysq (x c:Int):Fn Tryd.prog 73 [I x, .rp (.lst [I c]) 0] (.bool (x==c)):=by
 refine Fn.intro [.tmp 3] Tryd.func73 rfl rfl (by decide) (by simp [Tryd.ntmps73]) ?_;rw [Tryd.ntmps73]
 repeat' (first|omega|(try apply yaa);simp only [go_sem,sevalprocAttr]|apply yab<;>(intro h_;(try simp only [h_]);revert h_)|apply And.intro|with_reducible intro h_|trivial|simp only [go_sem,la2];omega)
abbrev y61:AV:= .agg [.nils, .nils,I 0]
attribute [go_sem] y61
theorem yx3 (s m:List Int) (L c:Int) (h0:0<=c) (h1:c<s.length) (hv:yag s m L=true):Fn Tryd.prog 63 [dgA s m L,I c] (.tup [dgA (exS s (· ==c)) (exM s m (· ==c)) L,I 0]):=by
 have v1:=yan hv
 have h64:=v1.s64
 have hf:=ylf s m L 73 [.rp (.lst [I c]) 0] (· ==c) (by omega) v1.sg v1.prd.ok rfl (fun x _ _=>ysq x c)
 refine Fn.intro [.cell 4 24, .tmp 5] Tryd.func63 rfl rfl (by decide) (by simp [Tryd.ntmps63]) ?_;rw [Tryd.ntmps63]
 repeat' (first|omega|(try apply yaa);simp only [go_sem,sevalprocAttr]|apply yab<;>(intro h_;(try simp only [h_]);revert h_)|apply And.intro|with_reducible intro h_|trivial|simp only [go_sem,la2];omega)
 refine ⟨yae.fn rfl (ybs s m L) ?_⟩
 rw [hv]
 repeat' (first|omega|(try apply yaa);simp only [go_sem,sevalprocAttr]|apply yab<;>(intro h_;(try simp only [h_]);revert h_)|apply And.intro|with_reducible intro h_|trivial|simp only [go_sem,la2];omega)
 refine ⟨yae.frz [1] rfl (by simp only [go_sem,sevalprocAttr]) (by simp only [go_sem,sevalprocAttr]) (by simp only [go_sem,sevalprocAttr]) (by simp only [go_sem,sevalprocAttr]) rfl rfl rfl (yae.fn rfl hf ?_)⟩
 repeat' (first|omega|(try apply yaa);simp only [go_sem,sevalprocAttr]|apply yab<;>(intro h_;(try simp only [h_]);revert h_)|apply And.intro|with_reducible intro h_|trivial|simp only [go_sem,la2];omega)
end Go.Proofs.YtjpnnnognoaaiaaDoor
set_option linter.unusedSimpArgs false
set_option linter.unusedVariables false
namespace Go.Proofs.YtjpnnnognoaaiaaDoor
open Go Go.RowKit
set_option maxRecDepth 100000
set_option maxHeartbeats 4000000
theorem yx4 (l:List Int) (h:0<l.length) (hb:l.length<=100000):FnO Tryd.prog 71 [roI l] (.sl 1 0 0 l.length) [(0, .cells 3 (.ints l))]:=by
 refine FnO.intro [.tmp 2] Tryd.func71 rfl rfl (by decide) (by simp [Tryd.ntmps71]) ?_;rw [Tryd.ntmps71]
 repeat' (first|omega|(try apply yaa);simp only [go_sem,sevalprocAttr]|apply yab<;>(intro h_;(try simp only [h_]);revert h_)|apply And.intro|with_reducible intro h_|trivial|simp only [go_sem,la2];omega)
end Go.Proofs.YtjpnnnognoaaiaaDoor
