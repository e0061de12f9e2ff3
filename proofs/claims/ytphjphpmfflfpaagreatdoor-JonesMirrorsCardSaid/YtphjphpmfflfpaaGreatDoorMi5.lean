/- Layer 6: Mirror, Reflect, Reverse. -/
import Derived.Test.YtphjphpmfflfpaaGreatDoorMi6
set_option linter.unusedSimpArgs false
set_option linter.unusedVariables false
namespace Go.Proofs.YtphjphpmfflfpaaGreatDoor
open Go Go.RowKit
set_option maxRecDepth 100000
set_option maxHeartbeats 4000000
theorem y2q (x:Int):Fn Tryz.prog 67 [I x] (.bool true):=by
 refine Fn.intro [.tmp 2] Tryz.func67 rfl rfl (by decide) (by simp [Tryz.ntmps67]) ?_;rw [Tryz.ntmps67]
 repeat' (first|omega|(try apply ag);simp only [go_sem,sevalprocAttr]|apply ah<;>(intro h_;(try simp only [h_]);revert h_)|apply ai|apply aj|apply ae|apply And.intro|with_reducible intro h_|trivial|simp only [go_sem,ak];omega)
theorem ZU (s m:List Int) (L:Int) (hv:bF s m L=true):Fn Tryz.prog 18 [dgA s m L] (.tup [dgA (pA s fun _=>true) (AD s m fun _=>true) L,I 0]):=by
 have v1:=cK hv;have qh:=v1.s64;have hf:=Yi s m L 67 [] (fun _=>true) (by omega) v1.sg v1.prd.ok rfl (fun x _ _=>y2q x);have hV:=l8 s m L;rw [hv] at hV;refine Fn.intro [.cell 2 24, .tmp 3] Tryz.func18 rfl rfl (by decide) (by simp [Tryz.ntmps18]) ?_;rw [Tryz.ntmps18]
 repeat' (first|omega|(try apply ag);simp only [go_sem,sevalprocAttr]|apply ah<;>(intro h_;(try simp only [h_]);revert h_)|apply ai|apply aj|apply ae|apply And.intro|with_reducible intro h_|trivial|simp only [go_sem,ak];omega)
 refine ⟨aA.fn rfl hV ?_⟩
 repeat' (first|omega|(try apply ag);simp only [go_sem,sevalprocAttr]|apply ah<;>(intro h_;(try simp only [h_]);revert h_)|apply ai|apply aj|apply ae|apply And.intro|with_reducible intro h_|trivial|simp only [go_sem,ak];omega)
 refine ⟨aA.fn rfl hf ?_⟩
 repeat' (first|omega|(try apply ag);simp only [go_sem,sevalprocAttr]|apply ah<;>(intro h_;(try simp only [h_]);revert h_)|apply ai|apply aj|apply ae|apply And.intro|with_reducible intro h_|trivial|simp only [go_sem,ak];omega)
theorem Yh (c x:Int) (h0:0<=x) (h1:x<4):Fn Tryz.prog 98 [I c,I x] (I (4-2*x)):=by
 refine Fn.intro [.tmp 4] Tryz.func98 rfl rfl (by decide) (by simp [Tryz.ntmps98]) ?_;rw [Tryz.ntmps98]
 repeat' (first|omega|(try apply ag);simp only [go_sem,sevalprocAttr]|apply ah<;>(intro h_;(try simp only [h_]);revert h_)|apply ai|apply aj|apply ae|apply And.intro|with_reducible intro h_|trivial|simp only [go_sem,ak];omega)
theorem Yg (c:Int):Fn Tryz.prog 100 [I c] (I (-1)):=by
 refine Fn.intro [.tmp 2] Tryz.func100 rfl rfl (by decide) (by simp [Tryz.ntmps100]) ?_;rw [Tryz.ntmps100]
 repeat' (first|omega|(try apply ag);simp only [go_sem,sevalprocAttr]|apply ah<;>(intro h_;(try simp only [h_]);revert h_)|apply ai|apply aj|apply ae|apply And.intro|with_reducible intro h_|trivial|simp only [go_sem,ak];omega)
theorem y2r (s m:List Int) (L:Int) (hv:bF s m L=true):Fn Tryz.prog 40 [dgA s m L] (.tup [dgA (iF s (fun _=> -1) s.length) (j7 m (fun h=>dB h (4-2*(h % 4))) m.length) L,I 0]):=by
 have v1:=cK hv;have qh:=v1.s64;have hf:=GY s m L 98 100 [] [] (fun _ x=>4-2*x) (fun _=> -1) (by omega) v1.prd.ok rfl rfl (fun c x _ _ h0 h1=>Yh c x h0 h1) (fun c hc=>⟨Yg c,by
  have:=v1.sg c hc;unfold InI;rcases this with h|h<;>rw [h]<;>omega⟩)
 have hV:=l8 s m L;rw [hv] at hV;refine Fn.intro [.cell 2 24, .tmp 3] Tryz.func40 rfl rfl (by decide) (by simp [Tryz.ntmps40]) ?_;rw [Tryz.ntmps40]
 repeat' (first|omega|(try apply ag);simp only [go_sem,sevalprocAttr]|apply ah<;>(intro h_;(try simp only [h_]);revert h_)|apply ai|apply aj|apply ae|apply And.intro|with_reducible intro h_|trivial|simp only [go_sem,ak];omega)
 refine ⟨aA.fn rfl hV ?_⟩
 repeat' (first|omega|(try apply ag);simp only [go_sem,sevalprocAttr]|apply ah<;>(intro h_;(try simp only [h_]);revert h_)|apply ai|apply aj|apply ae|apply And.intro|with_reducible intro h_|trivial|simp only [go_sem,ak];omega)
 refine ⟨aA.fn rfl hf ?_⟩
 repeat' (first|omega|(try apply ag);simp only [go_sem,sevalprocAttr]|apply ah<;>(intro h_;(try simp only [h_]);revert h_)|apply ai|apply aj|apply ae|apply And.intro|with_reducible intro h_|trivial|simp only [go_sem,ak];omega)
theorem YA (c x:Int):Fn Tryz.prog 101 [I c,I x] (I 2):=by
 refine Fn.intro [.tmp 4] Tryz.func101 rfl rfl (by decide) (by simp [Tryz.ntmps101]) ?_;rw [Tryz.ntmps101]
 repeat' (first|omega|(try apply ag);simp only [go_sem,sevalprocAttr]|apply ah<;>(intro h_;(try simp only [h_]);revert h_)|apply ai|apply aj|apply ae|apply And.intro|with_reducible intro h_|trivial|simp only [go_sem,ak];omega)
theorem Yz (c:Int):Fn Tryz.prog 102 [I c] (I 1):=by
 refine Fn.intro [.tmp 2] Tryz.func102 rfl rfl (by decide) (by simp [Tryz.ntmps102]) ?_;rw [Tryz.ntmps102]
 repeat' (first|omega|(try apply ag);simp only [go_sem,sevalprocAttr]|apply ah<;>(intro h_;(try simp only [h_]);revert h_)|apply ai|apply aj|apply ae|apply And.intro|with_reducible intro h_|trivial|simp only [go_sem,ak];omega)
theorem y2s (s m:List Int) (L:Int) (hv:bF s m L=true):Fn Tryz.prog 41 [dgA s m L] (.tup [dgA (iF s (fun _=>1) s.length) (j7 m (fun h=>dB h 2) m.length) L,I 0]):=by
 have v1:=cK hv;have qh:=v1.s64;have hf:=GY s m L 101 102 [] [] (fun _ _=>2) (fun _=>1) (by omega) v1.prd.ok rfl rfl (fun c x _ _ _ _=>YA c x) (fun c hc=>⟨Yz c,by
  have:=v1.sg c hc;unfold InI;rcases this with h|h<;>rw [h]<;>omega⟩)
 have hV:=l8 s m L;rw [hv] at hV;refine Fn.intro [.cell 2 24, .tmp 3] Tryz.func41 rfl rfl (by decide) (by simp [Tryz.ntmps41]) ?_;rw [Tryz.ntmps41]
 repeat' (first|omega|(try apply ag);simp only [go_sem,sevalprocAttr]|apply ah<;>(intro h_;(try simp only [h_]);revert h_)|apply ai|apply aj|apply ae|apply And.intro|with_reducible intro h_|trivial|simp only [go_sem,ak];omega)
 refine ⟨aA.fn rfl hV ?_⟩
 repeat' (first|omega|(try apply ag);simp only [go_sem,sevalprocAttr]|apply ah<;>(intro h_;(try simp only [h_]);revert h_)|apply ai|apply aj|apply ae|apply And.intro|with_reducible intro h_|trivial|simp only [go_sem,ak];omega)
 refine ⟨aA.fn rfl hf ?_⟩
 repeat' (first|omega|(try apply ag);simp only [go_sem,sevalprocAttr]|apply ah<;>(intro h_;(try simp only [h_]);revert h_)|apply ai|apply aj|apply ae|apply And.intro|with_reducible intro h_|trivial|simp only [go_sem,ak];omega)
end Go.Proofs.YtphjphpmfflfpaaGreatDoor
