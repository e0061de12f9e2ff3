/- Layer 6: moved diagrams, switched crossings. -/
import Derived.Test.YtmdjdekgakidhaaGreatDoorZp
import Derived.Test.YtmdjdekgakidhaaGreatDoorZe
set_option linter.unusedSimpArgs false
set_option linter.unusedVariables false
namespace Go.Proofs.YtmdjdekgakidhaaGreatDoor
open Go Go.RowKit
set_option maxRecDepth 100000
set_option maxHeartbeats 4000000
def yed:List (List Nat):=[[18,19,20,21,22,23,8],[18,19,20,21,22,23,8],[18,19,20,21,22,23,8],[18,19,20,21,22,23,8],[14,15,16,17,22,23,8],[14,15,16,17,22,23,8],[14,15,16,17,22,23,8],[14,15,16,17,22,23,8],[14,15,16,17,18,19,20,21,8],[14,15,16,17,18,19,20,21,8],[8],[14,15,16,17,18,19,20,21,22,23,24],[]]
def yee:List (List Nat):=[[],[],[],[],[0,1,2,3],[0,1,2,3],[0,1,2,3],[0,1,2,3],[0,1,2,3,4,5,6,7],[0,1,2,3,4,5,6,7],[],[0,1,2,3,4,5,6,7,8,9,10],[]]
def yef:List (List Nat):=[[35,36,37,38,39,40],[35,36,37,38,39,40],[33,34,36,37,38,39,40],[33,34,35,37,38,39],[33,34,35,36,38],[33,34,35,36,37],[33,34,35,36],[33,34,35],[],[]]
def yeg:List (List Nat):=[[53,54,55,56,57,58],[53,54,55,56,57,58],[51,52,54,56,57],[51,52,53,56,57],[51,52,56,57],[51,52,53,54,55,57],[51,52,53,54,55,56],[51,52],[],[]]
theorem y11 (g:Nat) (cap:List AV) (by':Int->Int->Int) (h:Int) (h0:0<=h) (h1:h<=10000) (hp1:(cap.all p1)=true) (hf:Fn Tryz.prog g ([I (h/4),I (h % 4)]++cap) (I (by' (h/4) (h % 4)))):
  Fn Tryz.prog 124 [I h, .rp (.lst [.fn g cap]) 0] (I (ybu h (by' (h/4) (h % 4)))):=by
 have e1:h.tmod 4=h % 4:=yvd h0
 have e2:h.tdiv 4=h/4:=ykw h0
 refine Fn.intro [.tmp 3] Tryz.func124 rfl rfl (by decide) (by simp [Tryz.ntmps124]) ?_;rw [Tryz.ntmps124]
 repeat' (first|omega|(try apply yaa);simp only [go_sem,sevalprocAttr,e1,e2]|apply yad<;>(intro h_;(try simp only [h_]);revert h_)|apply yac|apply yab|apply gspI|apply And.intro|with_reducible intro h_|trivial|simp only [go_sem,la2];omega)
 refine ⟨yaf.fn ?_ hf ?_⟩
 ·simp only [List.all_cons,ybk hp1];rfl
 repeat' (first|omega|(try apply yaa);simp only [go_sem,sevalprocAttr]|apply yad<;>(intro h_;(try simp only [h_]);revert h_)|apply yac|apply yab|apply gspI|apply And.intro|with_reducible intro h_|trivial|simp only [go_sem,la2];omega)
 refine ⟨yaf.fn rfl (ywi h _ h0 (by omega)) ?_⟩
 repeat' (first|omega|(try apply yaa);simp only [go_sem,sevalprocAttr]|apply yad<;>(intro h_;(try simp only [h_]);revert h_)|apply yac|apply yab|apply gspI|apply And.intro|with_reducible intro h_|trivial|simp only [go_sem,la2];omega)
theorem y88 (s m:List Int) (L:Int) (g1 g2:Nat) (c1 c2:List AV) (by':Int->Int->Int) (sg:Int->Int) (hs:s.length<=1000) (hm:ybb m s.length) (hp1:(c1.all p1)=true) (hp2:(c2.all p1)=true)
  (hb: ∀c x:Int,0<=c->c<s.length->0<=x->x<4->Fn Tryz.prog g1 ([I c,I x]++c1) (I (by' c x))) (hg: ∀c:Nat,c<s.length->Fn Tryz.prog g2 ([I c]++c2) (I (sg c))/\InI (s.getD c 0*sg c)):
  Fn Tryz.prog 86 [dgA s m L, .fn g1 c1, .fn g2 c2] (dgA (sgM s sg s.length) (mvM m (fun h=>ybu h (by' (h/4) (h % 4))) m.length) L):=by
 have hml:=hm.1
 have hto: ∀h:Int,0<=h->h<4*s.length->Fn Tryz.prog 124 [I h, .rp (.lst [.fn g1 c1]) 0] (I (ybu h (by' (h/4) (h % 4)))):=fun h h0 h1=>
  y11 g1 c1 by' h h0 (by omega) hp1 (hb _ _ (by omega) (by omega) (by omega) (by omega))
 refine Fn.intro [.cell 6 24] Tryz.func86 rfl rfl (by decide) (by simp [Tryz.ntmps86]) ?_;rw [Tryz.ntmps86]
 repeat' (first|omega|(first|apply yaa|(refine yae.intro (id:=2) yed yee (by decide+kernel) mixed ?_)|(refine yae.intro (id:=6) yef [[],[],[0,1],[0,1,2],[0,1,2,3],[0,1,2,3,4],[0,1,2,3],[0,1,2],[],[]] (by decide+kernel) mixed ?_)|(refine yae.intro (id:=11) yeg [[],[],[0,1],[0,1,2],[0,1],[0,1,2,3,4],[0,1,2,3,4,5],[0,1],[],[]] (by decide+kernel) mixed ?_)|skip);simp only [go_sem,sevalprocAttr,ybv hp1,ybk hp1,ybw hp1,ybe hp1,ybx hp1,yay hp1,yas hp1,ya6 hp1,yaw hp1,ybv hp2,ybk hp2,ybw hp2,ybe hp2,ybx hp2,yay hp2,yas hp2,ya6 hp2,yaw hp2,↓reduceIte,reduceCtorEq,yed,yee,yef,yeg]|apply yad<;>(intro h_;(try simp only [h_]);revert h_)|apply yac|apply yab|apply gspI|apply And.intro|with_reducible intro h_|trivial|simp only [go_sem,la2];omega)
 refine yai.intro (fun n fr H=> ∃k:Nat,k<=s.length/\n=s.length-k/\fr=[(28,I k),(27,I s.length),(26,roI s),(8, .ptr 14 0),(7, .fn 124 [.ptr 1 0]),(6, .ptr 2 0),(3, .ptr 0 0),(2, .fn g2 c2)]/\
  H=[(14, .cells 24 (.lst [.sl 1 6 0 s.length, .sl 1 10 0 m.length,I L])),(10, .cells 3 (.ints (List.replicate m.length 0))),(6, .cells 3 (.ints (sgM s sg k++List.replicate (s.length-k) 0))),(2, .cells 24 (.lst [.nils, .nils,I 0])),(1, .cells 117 (.lst [.fn g1 c1])),(0, .cells 24 (.lst [roI s,roI m,I L]))]) ?_ ?_
 ·refine ⟨_,_,_,?_,0,by omega,rfl,rfl,rfl⟩
  refine Wk.sub ?_ ?_<;>simp only [go_sem,sevalprocAttr]
  all_goals simp [sgM,ybe hp1,ybe hp2]
 rintro n fr H ⟨k,hk,rfl,rfl,rfl⟩
 have gl:=yh4 s sg k
 by_cases hkl:k<s.length
 ·obtain ⟨hg1,hg2⟩:=hg k hkl
  repeat' (first|omega|(first|apply yaa|(refine yae.intro (id:=2) yed yee (by decide+kernel) mixed ?_)|(refine yae.intro (id:=6) yef [[],[],[0,1],[0,1,2],[0,1,2,3],[0,1,2,3,4],[0,1,2,3],[0,1,2],[],[]] (by decide+kernel) mixed ?_)|(refine yae.intro (id:=11) yeg [[],[],[0,1],[0,1,2],[0,1],[0,1,2,3,4],[0,1,2,3,4,5],[0,1],[],[]] (by decide+kernel) mixed ?_)|skip);simp only [go_sem,sevalprocAttr,ybv hp1,ybk hp1,ybw hp1,ybe hp1,ybx hp1,yay hp1,yas hp1,ya6 hp1,yaw hp1,ybv hp2,ybk hp2,ybw hp2,ybe hp2,ybx hp2,yay hp2,yas hp2,ya6 hp2,yaw hp2,↓reduceIte,reduceCtorEq,yed,yee,yef,yeg]|apply yad<;>(intro h_;(try simp only [h_]);revert h_)|apply yac|apply yab|apply gspI|apply And.intro|with_reducible intro h_|trivial|simp only [go_sem,la2];omega)
  refine ⟨yak.fn (by simp only [List.all_cons,ybk hp2];rfl) hg1 ?_⟩
  unfold InI at hg2
  repeat' (first|omega|(try apply yaa);simp only [go_sem,sevalprocAttr,ybv hp1,ybk hp1,ybw hp1,ybe hp1,ybx hp1,yay hp1,yas hp1,ya6 hp1,yaw hp1,ybv hp2,ybk hp2,ybw hp2,ybe hp2,ybx hp2,yay hp2,yas hp2,ya6 hp2,yaw hp2]|apply yad<;>(intro h_;(try simp only [h_]);revert h_)|apply yac|apply yab|apply gspI|apply And.intro|with_reducible intro h_|trivial|simp only [go_sem,la2];omega)
  all_goals first|omega|skip
  refine ⟨_,_,_,?_,?_,⟨k+1,by omega,rfl,rfl,rfl⟩⟩
  ·omega
  ·refine Wk.sub ?_ ?_<;>simp only [go_sem,sevalprocAttr]
   all_goals simp only [ybe hp1,ybe hp2,and_self,and_true,y7k s sg s.length k hkl]
 obtain rfl:k=s.length:=by omega
 rw [Nat.sub_self,List.replicate_zero,List.append_nil] at*
 repeat' (first|omega|(first|apply yaa|(refine yae.intro (id:=2) yed yee (by decide+kernel) mixed ?_)|(refine yae.intro (id:=6) yef [[],[],[0,1],[0,1,2],[0,1,2,3],[0,1,2,3,4],[0,1,2,3],[0,1,2],[],[]] (by decide+kernel) mixed ?_)|(refine yae.intro (id:=11) yeg [[],[],[0,1],[0,1,2],[0,1],[0,1,2,3,4],[0,1,2,3,4,5],[0,1],[],[]] (by decide+kernel) mixed ?_)|skip);simp only [go_sem,sevalprocAttr,ybv hp1,ybk hp1,ybw hp1,ybe hp1,ybx hp1,yay hp1,yas hp1,ya6 hp1,yaw hp1,ybv hp2,ybk hp2,ybw hp2,ybe hp2,ybx hp2,yay hp2,yas hp2,ya6 hp2,yaw hp2,↓reduceIte,reduceCtorEq,yed,yee,yef,yeg]|apply yad<;>(intro h_;(try simp only [h_]);revert h_)|apply yac|apply yab|apply gspI|apply And.intro|with_reducible intro h_|trivial|simp only [go_sem,la2];omega)
 refine yai.intro (fun n fr H=> ∃k:Nat,k<=m.length/\n=m.length-k/\fr=[(46,I k),(45,I m.length),(44,roI m),(8, .ptr 14 0),(7, .fn 124 [.ptr 1 0]),(6, .ptr 2 0),(3, .ptr 0 0)]/\
  H=[(14, .cells 24 (.lst [.sl 1 6 0 s.length, .sl 1 10 0 m.length,I L])),(10, .cells 3 (.ints (mvM m (fun h=>ybu h (by' (h/4) (h % 4))) k))),(6, .cells 3 (.ints (sgM s sg s.length))),(2, .cells 24 (.lst [.nils, .nils,I 0])),(1, .cells 117 (.lst [.fn g1 c1])),(0, .cells 24 (.lst [roI s,roI m,I L]))]) ?_ ?_
 ·refine ⟨_,_,_,?_,0,by omega,rfl,rfl,rfl⟩
  refine Wk.sub ?_ ?_<;>simp only [go_sem,sevalprocAttr]
  all_goals simp [mvM,ybe hp1]
 rintro n fr H ⟨k,hk,rfl,rfl,rfl⟩
 have ml:=ykv m (fun h=>ybu h (by' (h/4) (h % 4))) k
 by_cases hkl:k<m.length
 ·have hmr:=hm.2 k (by omega)
  have ht1:=hto k (by omega) (by omega)
  have ht2:=hto (m.getD k 0) hmr.1 hmr.2
  have hr1:=yhv (h:=k) (b:=by' (k/4) (k % 4)) (n:=s.length) (by omega) (by omega)
  repeat' (first|omega|(first|apply yaa|(refine yae.intro (id:=2) yed yee (by decide+kernel) mixed ?_)|(refine yae.intro (id:=6) yef [[],[],[0,1],[0,1,2],[0,1,2,3],[0,1,2,3,4],[0,1,2,3],[0,1,2],[],[]] (by decide+kernel) mixed ?_)|(refine yae.intro (id:=11) yeg [[],[],[0,1],[0,1,2],[0,1],[0,1,2,3,4],[0,1,2,3,4,5],[0,1],[],[]] (by decide+kernel) mixed ?_)|skip);simp only [go_sem,sevalprocAttr,ybv hp1,ybk hp1,ybw hp1,ybe hp1,ybx hp1,yay hp1,yas hp1,ya6 hp1,yaw hp1,ybv hp2,ybk hp2,ybw hp2,ybe hp2,ybx hp2,yay hp2,yas hp2,ya6 hp2,yaw hp2,↓reduceIte,reduceCtorEq,yed,yee,yef,yeg]|apply yad<;>(intro h_;(try simp only [h_]);revert h_)|apply yac|apply yab|apply gspI|apply And.intro|with_reducible intro h_|trivial|simp only [go_sem,la2];omega)
  refine ⟨yak.flat rfl (by simp only [go_sem,sevalprocAttr,ybv hp1,ybk hp1,ybw hp1,ybe hp1,ybx hp1,yay hp1,yas hp1,ya6 hp1,yaw hp1,ybv hp2,ybk hp2,ybw hp2,ybe hp2,ybx hp2,yay hp2,yas hp2,ya6 hp2,yaw hp2]) (by simp only [go_sem,sevalprocAttr,ybv hp1,ybk hp1,ybw hp1,ybe hp1,ybx hp1,yay hp1,yas hp1,ya6 hp1,yaw hp1,ybv hp2,ybk hp2,ybw hp2,ybe hp2,ybx hp2,yay hp2,yas hp2,ya6 hp2,yaw hp2]) ht1 rfl ?_⟩
  repeat' (first|omega|(try apply yaa);simp only [go_sem,sevalprocAttr,ybv hp1,ybk hp1,ybw hp1,ybe hp1,ybx hp1,yay hp1,yas hp1,ya6 hp1,yaw hp1,ybv hp2,ybk hp2,ybw hp2,ybe hp2,ybx hp2,yay hp2,yas hp2,ya6 hp2,yaw hp2]|apply yad<;>(intro h_;(try simp only [h_]);revert h_)|apply yac|apply yab|apply gspI|apply And.intro|with_reducible intro h_|trivial|simp only [go_sem,la2];omega)
  refine ⟨yak.flat rfl (by simp only [go_sem,sevalprocAttr,ybv hp1,ybk hp1,ybw hp1,ybe hp1,ybx hp1,yay hp1,yas hp1,ya6 hp1,yaw hp1,ybv hp2,ybk hp2,ybw hp2,ybe hp2,ybx hp2,yay hp2,yas hp2,ya6 hp2,yaw hp2]) (by simp only [go_sem,sevalprocAttr,ybv hp1,ybk hp1,ybw hp1,ybe hp1,ybx hp1,yay hp1,yas hp1,ya6 hp1,yaw hp1,ybv hp2,ybk hp2,ybw hp2,ybe hp2,ybx hp2,yay hp2,yas hp2,ya6 hp2,yaw hp2]) ht2 rfl ?_⟩
  repeat' (first|omega|(try apply yaa);simp only [go_sem,sevalprocAttr,ybv hp1,ybk hp1,ybw hp1,ybe hp1,ybx hp1,yay hp1,yas hp1,ya6 hp1,yaw hp1,ybv hp2,ybk hp2,ybw hp2,ybe hp2,ybx hp2,yay hp2,yas hp2,ya6 hp2,yaw hp2]|apply yad<;>(intro h_;(try simp only [h_]);revert h_)|apply yac|apply yab|apply gspI|apply And.intro|with_reducible intro h_|trivial|simp only [go_sem,la2];omega)
  refine ⟨_,_,_,?_,?_,⟨k+1,by omega,rfl,rfl,rfl⟩⟩
  ·omega
  ·refine Wk.sub ?_ ?_<;>simp only [go_sem,sevalprocAttr]
   all_goals simp only [ybe hp1,mvM,and_self,and_true]
 ·obtain rfl:k=m.length:=by omega
  repeat' (first|omega|(first|apply yaa|(refine yae.intro (id:=2) yed yee (by decide+kernel) mixed ?_)|(refine yae.intro (id:=6) yef [[],[],[0,1],[0,1,2],[0,1,2,3],[0,1,2,3,4],[0,1,2,3],[0,1,2],[],[]] (by decide+kernel) mixed ?_)|(refine yae.intro (id:=11) yeg [[],[],[0,1],[0,1,2],[0,1],[0,1,2,3,4],[0,1,2,3,4,5],[0,1],[],[]] (by decide+kernel) mixed ?_)|skip);simp only [go_sem,sevalprocAttr,ybv hp1,ybk hp1,ybw hp1,ybe hp1,ybx hp1,yay hp1,yas hp1,ya6 hp1,yaw hp1,ybv hp2,ybk hp2,ybw hp2,ybe hp2,ybx hp2,yay hp2,yas hp2,ya6 hp2,yaw hp2,↓reduceIte,reduceCtorEq,yed,yee,yef,yeg]|apply yad<;>(intro h_;(try simp only [h_]);revert h_)|apply yac|apply yab|apply gspI|apply And.intro|with_reducible intro h_|trivial|simp only [go_sem,la2];omega)
  ·exact List.take_of_length_le (by omega)
  ·exact List.take_of_length_le (by omega)
end Go.Proofs.YtmdjdekgakidhaaGreatDoor
set_option linter.unusedSimpArgs false
set_option linter.unusedVariables false
namespace Go.Proofs.YtmdjdekgakidhaaGreatDoor
open Go Go.RowKit
set_option maxRecDepth 100000
set_option maxHeartbeats 4000000
theorem yaa6 (s m:List Int) (L:Int) (g:Nat) (cc:List AV) (ch:Int->Bool) (c x:Int) (h0:0<=c) (h1:c<s.length) (hp1:cc.all p1=true) (hf:Fn Tryz.prog g (I c::cc) (.bool (ch c))):
  Fn Tryz.prog 85 [I c,I x, .rp (.lst [.fn g cc]) 0, .rp (dgC s m L) 0] (I (exBy s ch c)):=by
 unfold exBy
 refine Fn.intro [.tmp 6] Tryz.func85 rfl rfl (by decide) (by simp [Tryz.ntmps85]) ?_;rw [Tryz.ntmps85]
 repeat' (first|omega|(try apply yaa);simp only [go_sem,sevalprocAttr]|apply yad<;>(intro h_;(try simp only [h_]);revert h_)|apply yac|apply yab|apply gspI|apply And.intro|with_reducible intro h_|trivial|simp only [go_sem,la2];omega)
 refine ⟨yaf.fn (by simp only [List.all_cons,ybk hp1];rfl) hf ?_⟩
 repeat' (first|omega|(try apply yaa);simp only [go_sem,sevalprocAttr]|apply yad<;>(intro h_;(try simp only [h_]);revert h_)|apply yac|apply yab|apply gspI|apply And.intro|with_reducible intro h_|trivial|simp only [go_sem,la2];omega)
 all_goals simp_all
theorem yaa7 (g:Nat) (cc:List AV) (ch:Int->Bool) (c:Int) (hp1:cc.all p1=true) (hf:Fn Tryz.prog g (I c::cc) (.bool (ch c))):
  Fn Tryz.prog 87 [I c, .rp (.lst [.fn g cc]) 0] (I (exSg ch c)):=by
 unfold exSg
 refine Fn.intro [.tmp 3] Tryz.func87 rfl rfl (by decide) (by simp [Tryz.ntmps87]) ?_;rw [Tryz.ntmps87]
 repeat' (first|omega|(try apply yaa);simp only [go_sem,sevalprocAttr]|apply yad<;>(intro h_;(try simp only [h_]);revert h_)|apply yac|apply yab|apply gspI|apply And.intro|with_reducible intro h_|trivial|simp only [go_sem,la2];omega)
 refine ⟨yaf.fn (by simp only [List.all_cons,ybk hp1];rfl) hf ?_⟩
 repeat' (first|omega|(try apply yaa);simp only [go_sem,sevalprocAttr]|apply yad<;>(intro h_;(try simp only [h_]);revert h_)|apply yac|apply yab|apply gspI|apply And.intro|with_reducible intro h_|trivial|simp only [go_sem,la2];omega)
 all_goals simp_all
theorem yuv (s m:List Int) (L:Int) (g:Nat) (cc:List AV) (ch:Int->Bool) (hs:s.length<=1000) (hso:ydk s s.length) (hm:ybb m s.length) (hp1:cc.all p1=true) (hf: ∀c:Int,0<=c->c<s.length->Fn Tryz.prog g (I c::cc) (.bool (ch c))):
  Fn Tryz.prog 44 [dgA s m L, .fn g cc] (dgA (exS s ch) (exM s m ch) L):=by
 have hmv:=y88 s m L 85 87 [.rp (.lst [.fn g cc]) 0, .rp (dgC s m L) 0] [.rp (.lst [.fn g cc]) 0] (fun c _=>exBy s ch c) (exSg ch) hs hm rfl rfl
  (fun c x c0 c1 _ _=>yaa6 s m L g cc ch c x c0 c1 hp1 (hf c c0 c1)) (fun c hc=>⟨yaa7 g cc ch c hp1 (hf c (by omega) (by omega)),by
   have:=hso c hc;unfold exSg InI;split<;>rcases this with h|h<;>rw [h]<;>omega⟩)
 refine Fn.intro [.cell 4 24] Tryz.func44 rfl rfl (by decide) (by simp [Tryz.ntmps44]) ?_;rw [Tryz.ntmps44]
 repeat' (first|omega|(try apply yaa);simp only [go_sem,sevalprocAttr]|apply yad<;>(intro h_;(try simp only [h_]);revert h_)|apply yac|apply yab|apply gspI|apply And.intro|with_reducible intro h_|trivial|simp only [go_sem,la2];omega)
 refine ⟨yaf.frz [0,1] rfl (by simp only [go_sem,sevalprocAttr,ya6 hp1,yaw hp1,yay hp1,yas hp1]) (by simp only [go_sem,sevalprocAttr,ya6 hp1,yaw hp1,yay hp1,yas hp1]) (by simp only [go_sem,sevalprocAttr,ya6 hp1,yaw hp1,yay hp1,yas hp1]) (by simp only [go_sem,sevalprocAttr,ya6 hp1,yaw hp1,yay hp1,yas hp1]) ?_ rfl rfl (yaf.fn ?_ hmv ?_)⟩
 ·rfl
 ·rfl
 repeat' (first|omega|(try apply yaa);simp only [go_sem,sevalprocAttr]|apply yad<;>(intro h_;(try simp only [h_]);revert h_)|apply yac|apply yab|apply gspI|apply And.intro|with_reducible intro h_|trivial|simp only [go_sem,la2];omega)
end Go.Proofs.YtmdjdekgakidhaaGreatDoor
set_option linter.unusedSimpArgs false
set_option linter.unusedVariables false
namespace Go.Proofs.YtmdjdekgakidhaaGreatDoor
open Go Go.RowKit
set_option maxRecDepth 100000
set_option maxHeartbeats 4000000
theorem yyc (x:Int):Fn Tryz.prog 45 [I x] (.bool true):=by
 refine Fn.intro [.tmp 2] Tryz.func45 rfl rfl (by decide) (by simp [Tryz.ntmps45]) ?_;rw [Tryz.ntmps45]
 repeat' (first|omega|(try apply yaa);simp only [go_sem,sevalprocAttr]|apply yad<;>(intro h_;(try simp only [h_]);revert h_)|apply yac|apply yab|apply gspI|apply And.intro|with_reducible intro h_|trivial|simp only [go_sem,la2];omega)
theorem y12 (s m:List Int) (L:Int) (hv:yah s m L=true):Fn Tryz.prog 12 [dgA s m L] (.tup [dgA (exS s fun _=>true) (exM s m fun _=>true) L,I 0]):=by
 have v1:=ya8 hv
 have h64:=v1.s64
 have hf:=yuv s m L 45 [] (fun _=>true) (by omega) v1.sg v1.prd.ok rfl (fun x _ _=>yyc x)
 have hV:=ycc s m L
 rw [hv] at hV
 refine Fn.intro [.cell 2 24, .tmp 3] Tryz.func12 rfl rfl (by decide) (by simp [Tryz.ntmps12]) ?_;rw [Tryz.ntmps12]
 repeat' (first|omega|(try apply yaa);simp only [go_sem,sevalprocAttr]|apply yad<;>(intro h_;(try simp only [h_]);revert h_)|apply yac|apply yab|apply gspI|apply And.intro|with_reducible intro h_|trivial|simp only [go_sem,la2];omega)
 refine ⟨yaf.fn rfl hV ?_⟩
 repeat' (first|omega|(try apply yaa);simp only [go_sem,sevalprocAttr]|apply yad<;>(intro h_;(try simp only [h_]);revert h_)|apply yac|apply yab|apply gspI|apply And.intro|with_reducible intro h_|trivial|simp only [go_sem,la2];omega)
 refine ⟨yaf.fn rfl hf ?_⟩
 repeat' (first|omega|(try apply yaa);simp only [go_sem,sevalprocAttr]|apply yad<;>(intro h_;(try simp only [h_]);revert h_)|apply yac|apply yab|apply gspI|apply And.intro|with_reducible intro h_|trivial|simp only [go_sem,la2];omega)
end Go.Proofs.YtmdjdekgakidhaaGreatDoor
