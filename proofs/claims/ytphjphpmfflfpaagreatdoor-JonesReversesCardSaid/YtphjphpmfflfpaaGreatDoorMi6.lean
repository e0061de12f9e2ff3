/- Layer 6: exchange. -/
import Derived.Test.YtphjphpmfflfpaaGreatDoorMi1
set_option linter.unusedSimpArgs false
set_option linter.unusedVariables false
namespace Go.Proofs.YtphjphpmfflfpaaGreatDoor
open Go Go.RowKit
set_option maxRecDepth 100000
set_option maxHeartbeats 4000000
theorem LX (s m:List Int) (L:Int) (g:Nat) (cc:List AV) (ch:Int->Bool) (c x:Int) (h0:0<=c) (h1:c<s.length) (aC:cc.all p1=true) (hf:Fn Tryz.prog g (I c::cc) (.bool (ch c))):
  Fn Tryz.prog 126 [I c,I x, .rp (.lst [.fn g cc]) 0, .rp (dgC s m L) 0] (I (uy s ch c)):=by
 unfold uy;refine Fn.intro [.tmp 6] Tryz.func126 rfl rfl (by decide) (by simp [Tryz.ntmps126]) ?_;rw [Tryz.ntmps126]
 repeat' (first|omega|(try apply ag);simp only [go_sem,sevalprocAttr]|apply ah<;>(intro h_;(try simp only [h_]);revert h_)|apply ai|apply aj|apply ae|apply And.intro|with_reducible intro h_|trivial|simp only [go_sem,ak];omega)
 refine ⟨aA.fn (by simp only [List.all_cons,iU aC];rfl) hf ?_⟩
 repeat' (first|omega|(try apply ag);simp only [go_sem,sevalprocAttr]|apply ah<;>(intro h_;(try simp only [h_]);revert h_)|apply ai|apply aj|apply ae|apply And.intro|with_reducible intro h_|trivial|simp only [go_sem,ak];omega)
 all_goals simp_all
theorem LW (g:Nat) (cc:List AV) (ch:Int->Bool) (c:Int) (aC:cc.all p1=true) (hf:Fn Tryz.prog g (I c::cc) (.bool (ch c))):
  Fn Tryz.prog 127 [I c, .rp (.lst [.fn g cc]) 0] (I (rW ch c)):=by
 unfold rW;refine Fn.intro [.tmp 3] Tryz.func127 rfl rfl (by decide) (by simp [Tryz.ntmps127]) ?_;rw [Tryz.ntmps127]
 repeat' (first|omega|(try apply ag);simp only [go_sem,sevalprocAttr]|apply ah<;>(intro h_;(try simp only [h_]);revert h_)|apply ai|apply aj|apply ae|apply And.intro|with_reducible intro h_|trivial|simp only [go_sem,ak];omega)
 refine ⟨aA.fn (by simp only [List.all_cons,iU aC];rfl) hf ?_⟩
 repeat' (first|omega|(try apply ag);simp only [go_sem,sevalprocAttr]|apply ah<;>(intro h_;(try simp only [h_]);revert h_)|apply ai|apply aj|apply ae|apply And.intro|with_reducible intro h_|trivial|simp only [go_sem,ak];omega)
 all_goals simp_all
theorem Yi (s m:List Int) (L:Int) (g:Nat) (cc:List AV) (ch:Int->Bool) (hs:s.length<=1000) (jJ:ru s s.length) (hm:kh m s.length) (aC:cc.all p1=true) (hf: ∀c:Int,0<=c->c<s.length->Fn Tryz.prog g (I c::cc) (.bool (ch c))):
  Fn Tryz.prog 66 [dgA s m L, .fn g cc] (dgA (pA s ch) (AD s m ch) L):=by
 have hmv:=GY s m L 126 127 [.rp (.lst [.fn g cc]) 0, .rp (dgC s m L) 0] [.rp (.lst [.fn g cc]) 0] (fun c _=>uy s ch c) (rW ch) hs hm rfl rfl
  (fun c x c0 c1 _ _=>LX s m L g cc ch c x c0 c1 aC (hf c c0 c1)) (fun c hc=>⟨LW g cc ch c aC (hf c (by omega) (by omega)),by
   have:=jJ c hc;unfold rW InI;split<;>rcases this with h|h<;>rw [h]<;>omega⟩)
 refine Fn.intro [.cell 4 24] Tryz.func66 rfl rfl (by decide) (by simp [Tryz.ntmps66]) ?_;rw [Tryz.ntmps66]
 repeat' (first|omega|(try apply ag);simp only [go_sem,sevalprocAttr]|apply ah<;>(intro h_;(try simp only [h_]);revert h_)|apply ai|apply aj|apply ae|apply And.intro|with_reducible intro h_|trivial|simp only [go_sem,ak];omega)
 refine ⟨aA.ln [0,1] rfl (by simp only [go_sem,sevalprocAttr,ij aC,ik aC,iE aC,iC aC]) (by simp only [go_sem,sevalprocAttr,ij aC,ik aC,iE aC,iC aC]) (by simp only [go_sem,sevalprocAttr,ij aC,ik aC,iE aC,iC aC]) (by simp only [go_sem,sevalprocAttr,ij aC,ik aC,iE aC,iC aC]) ?_ rfl rfl (aA.fn ?_ hmv ?_)⟩
 ·rfl
 ·rfl
 repeat' (first|omega|(try apply ag);simp only [go_sem,sevalprocAttr]|apply ah<;>(intro h_;(try simp only [h_]);revert h_)|apply ai|apply aj|apply ae|apply And.intro|with_reducible intro h_|trivial|simp only [go_sem,ak];omega)
end Go.Proofs.YtphjphpmfflfpaaGreatDoor
