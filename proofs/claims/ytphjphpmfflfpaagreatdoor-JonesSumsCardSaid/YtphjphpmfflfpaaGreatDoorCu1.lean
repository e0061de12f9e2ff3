/- Layer 7: connected sums. -/
import Derived.Test.YtphjphpmfflfpaaGreatDoorUn1
import Derived.Test.YtphjphpmfflfpaaGreatDoorCv
import Derived.Test.YtphjphpmfflfpaaGreatDoorZb
namespace Go.Proofs.YtphjphpmfflfpaaGreatDoor
open Go Go.RowKit
set_option maxRecDepth 100000
set_option maxHeartbeats 8000000
set_option linter.unusedVariables false
set_option linter.unusedSimpArgs false
def A4:List (List Nat):=[[25,26,29,30,31,32,33,35,8],[25,26,29,30,31,32,33,35,8],[23,24,29,30,31,32,33,35,8],[23,24,29,30,31,32,33,35,8],[29,30,31,32,33,35,8],[29,30,31,32,33,35,8],[23,24,25,26,27,28,31,32,35,8],[23,24,25,26,27,28,31,32,35,8],[23,24,25,26,27,28,29,30,35,8],[23,24,25,26,27,28,29,30,35,8],[23,24,25,26,27,28,35,8],[35,8],[23,24,25,26,27,28,29,30,31,32,33,34,8],[8],[23,24,25,26,27,28,29,30,31,32,33,34,35,36],[]]
def A3:List (List Nat):=[[],[],[0,1],[0,1],[],[],[0,1,2,3,4,5],[0,1,2,3,4,5],[0,1,2,3,4,5,6,7],[0,1,2,3,4,5,6,7],[0,1,2,3,4,5],[],[0,1,2,3,4,5,6,7,8,9,10,11],[],[0,1,2,3,4,5,6,7,8,9,10,11,12,13],[]]
def A2:List (List Nat):=[[45,46,47,48,49,52,53,54],[45,46,47,48,49,52,53,54],[43,44,48,52,53,54],[43,44,48,52,53,54],[43,44,48,52,53,54],[43,44,45,46,47,52,53,54],[43,44,52,53,54],[52,53,54],[52,53,54],[43,44,45,46,47,48,49,50,51],[43,44,45,46,47,48,49,50,51],[43,44,45,46,47,48,49,50,51],[],[],[]]
def A1:List (List Nat):=[[],[],[0,1],[0,1],[0,1],[0,1,2,3,4],[0,1],[],[],[0,1,2,3,4,5,6,7,8],[0,1,2,3,4,5,6,7,8],[0,1,2,3,4,5,6,7,8],[],[],[]]
def UH:List (List Nat):=[[9,12,13,14,15],[8,12,13,14,15],[12,13,14,15],[12,13,14,15],[8,9,10,11,13,6],[8,9,10,11,12,6],[8,9,10,11,6],[8,9,10,11,6],[12,13,14,15],[]]
theorem y2w (s m:List Int) (L:Int) (s' m':List Int) (L' K:Int) (hs:s.length+s'.length<=64) (h0:0<s.length+s'.length) (hm:m.length=4*s.length) (Ac:m'.length=4*s'.length) (hb: ∀i,i<m'.length->0<=m'.getD i 0/\m'.getD i 0<=1000) (hK:K<=64):
  oU Tryz.prog 59 [dgA s m L,dgA s' m' L',I K] (.tup [.agg [.sl 1 8 0 (s.length+s'.length), .sl 1 14 0 (m.length+m'.length),I K],I 0]) [(14, .cells 3 (.ints (rv m m' m'.length))),(8, .cells 3 (.ints (s++s')))]:=by
 have b1:decide (64<(s.length:Int)+s'.length)=false:=by simp;omega
 have b2:decide (64<K)=false:=by simp;omega
 have c1:=HQ s s' (by omega) (by omega) (by omega);have c2:=HQ m m' (by omega) (by omega) (by omega);refine oU.intro [.cell 6 24, .tmp 7] Tryz.func59 rfl rfl (by decide) (by simp [Tryz.ntmps59]) ?_;rw [Tryz.ntmps59]
 repeat' (first|omega|(first|apply ag|(refine an.intro (id:=3) A4 A3 (by decide+kernel) mixed ?_)|(refine an.intro (id:=7) A2 A1 (by decide+kernel) mixed ?_)|skip);simp only [go_sem,sevalprocAttr,b1,b2,↓reduceIte,reduceCtorEq,A4,A3,A2,A1]|apply ah<;>(intro h_;(try simp only [h_]);revert h_)|apply ai|apply aj|apply ae|apply And.intro|with_reducible intro h_|trivial|simp only [go_sem,ak];omega)
 refine ⟨bC.own (h:=c1) (by simp only [go_sem,sevalprocAttr]) (by simp only [go_sem,sevalprocAttr];try rfl) ?_⟩;simp only [go_sem,sevalprocAttr];refine ⟨bC.own (h:=c2) (by simp only [go_sem,sevalprocAttr]) (by simp only [go_sem,sevalprocAttr];try rfl) ?_⟩;simp only [go_sem,sevalprocAttr]
 repeat' (first|omega|(first|apply ag|(refine an.intro (id:=3) A4 A3 (by decide+kernel) mixed ?_)|(refine an.intro (id:=7) A2 A1 (by decide+kernel) mixed ?_)|skip);simp only [go_sem,sevalprocAttr,↓reduceIte,reduceCtorEq,A4,A3,A2,A1]|apply ah<;>(intro h_;(try simp only [h_]);revert h_)|apply ai|apply aj|apply ae|apply And.intro|with_reducible intro h_|trivial|simp only [go_sem,ak];omega)
 refine bV.intro (fun n fr H=> ∃k:Nat,k<=m'.length/\n=m'.length-k/\fr=[(40,I k),(39,I m'.length),(8, .ptr 17 0),(6, .ptr 2 0),(4, .ptr 1 0),(3, .ptr 0 0)]/\
  H=[(17, .cells 24 (.lst [.sl 1 8 0 (s.length+s'.length), .sl 1 14 0 (m.length+m'.length),I K])),(14, .cells 3 (.ints (rv m m' k))),(8, .cells 3 (.ints (s++s'))),(2, .cells 24 (.lst [.nils, .nils,I 0])),(1, .cells 24 (.lst [roI s',roI m',I L'])),(0, .cells 24 (.lst [roI s,roI m,I L]))]) ?_ ?_
 ·refine ⟨_,_,_,?_,0,by omega,rfl,rfl,rfl⟩;rw [xI];refine Wk.sub ?_ ?_<;>simp only [go_sem,sevalprocAttr]
  all_goals simp_all
 rintro n fr H ⟨k,hk,rfl,rfl,rfl⟩;have ul:=JF m m' k;by_cases bN:k<m'.length
 ·have e1:((m.length:Int)+k).toNat=m.length+k:=by omega
  have e2:=R5 m m' k bN;have gZ:=hb k bN
  repeat' (first|omega|(first|apply ag|(refine an.intro (id:=3) A4 A3 (by decide+kernel) mixed ?_)|(refine an.intro (id:=7) A2 A1 (by decide+kernel) mixed ?_)|skip);simp only [go_sem,sevalprocAttr,e1,e2,↓reduceIte,reduceCtorEq,A4,A3,A2,A1]|apply ah<;>(intro h_;(try simp only [h_]);revert h_)|apply ai|apply aj|apply ae|apply And.intro|with_reducible intro h_|trivial|simp only [go_sem,ak];omega)
  refine ⟨_,_,_,?_,?_,⟨k+1,by omega,rfl,rfl,rfl⟩⟩
  ·omega
  ·rw [←VV m m' k bN];refine Wk.sub ?_ ?_<;>(simp only [go_sem,sevalprocAttr])
   all_goals simp_all
 ·obtain rfl:k=m'.length:=by omega
  repeat' (first|omega|(try apply ag);simp only [go_sem,sevalprocAttr]|apply ah<;>(intro h_;(try simp only [h_]);revert h_)|apply ai|apply aj|apply ae|apply And.intro|with_reducible intro h_|trivial|simp only [go_sem,ak];omega)
theorem YD (s m:List Int) (L x:Int) (hx:0<=x/\x<4*s.length) (hs:s.length<=1000):Fn Tryz.prog 129 [dgA s m L,I x] (.bool (aw s x)):=by
 have e1:x.tmod 4=x % 4:=C7 hx.1;have e2:x.tdiv 4=x/4:=zd hx.1;refine Fn.intro [.tmp 4] Tryz.func129 rfl rfl (by decide) (by simp [Tryz.ntmps129]) ?_;rw [Tryz.ntmps129]
 repeat' (first|omega|(try apply ag);simp only [go_sem,sevalprocAttr,e1,e2]|apply ah<;>(intro h_;(try simp only [h_]);revert h_)|apply ai|apply aj|apply ae|apply And.intro|with_reducible intro h_|trivial|simp only [go_sem,ak];omega)
 all_goals (simp_all [aw])
theorem VU (s m:List Int) (L x:Int) (hx:0<=x/\x<m.length) (hm:m.length=4*s.length) (hs:s.length<=1000):Fn Tryz.prog 70 [dgA s m L,I x] (.bool (aw s x)):=by
 have hO:=YD s m L x (by omega) hs;have b1:(x== -1)=false:=by rw [beq_eq_false_iff_ne];omega
 have b2:decide (0<=x)=true:=by rw [decide_eq_true_iff];omega
 have b3:decide (x<m.length)=true:=by rw [decide_eq_true_iff];omega
 refine Fn.intro [.tmp 4] Tryz.func70 rfl rfl (by decide) (by simp [Tryz.ntmps70]) ?_;rw [Tryz.ntmps70]
 repeat' (first|omega|(try apply ag);simp only [go_sem,sevalprocAttr,b1,b2,b3]|(refine ⟨aA.fn (r:=?_) rfl ?_ ?_⟩;rotate_left;assumption)|(refine ⟨bC.fn (r:=?_) rfl ?_ ?_⟩;rotate_left;assumption)|apply ah<;>(intro h_;(try simp only [h_]);revert h_)|apply ai|apply aj|apply ae|apply And.intro|with_reducible intro h_|trivial|simp only [go_sem,ak];omega)
abbrev Yc (s m:List Int) (L:Int) (s' m':List Int) (L':Int) (M:List Int) (K:Int):Hp:=[(18, .cells 24 (.lst [.sl 1 11 0 (s.length+s'.length), .sl 1 17 0 (m.length+m'.length),I K])),(17, .cells 3 (.ints M)),(11, .cells 3 (.ints (s++s'))),(2, .cells 24 (.lst [.nils, .nils,I 0])),(1, .cells 24 (.lst [roI s',roI m',I L'])),(0, .cells 24 (.lst [roI s,roI m,I L]))]
theorem y2x (s m:List Int) (L:Int) (s' m':List Int) (L':Int) (M:List Int) (K:Int) (x y:Nat) (yy:Int) (zJ:yy=y) (hM:M.length=m.length+m'.length) (hx:x<M.length) (hy:y<M.length) (hl:M.length<=1000) (hp:0<=M.getD x 0/\M.getD x 0<M.length) (hq:0<=M.getD y 0/\M.getD y 0<M.length) {fr:Fr} {Q:AV->Fr->Hp->Prop}
  (hK:Q (.tup []) fr (Yc s m L s' m' L' (uA M x y) K)):
  fM Tryz.prog 71 [.sl 1 17 0 (m.length+m'.length),I x,I yy] fr (Yc s m L s' m' L' M K) Q:=by
 subst zJ;obtain ⟨p,zX⟩: ∃p,M.getD x 0=p:=⟨_,rfl⟩;obtain ⟨q,zT⟩: ∃q,M.getD y 0=q:=⟨_,rfl⟩;unfold uA at hK;rw [zX,zT] at hK;rw [zX] at hp;rw [zT] at hq;refine fM.intro [] Tryz.func71 rfl rfl (by decide) (by simp [Tryz.ntmps71]) ?_;rw [Tryz.ntmps71]
 repeat' (first|omega|(first|apply ag|(refine an.intro (id:=0) UH [[],[0],[],[],[0,1,2,3],[0,1,2,3,4],[0,1,2,3],[0,1,2,3],[4,5,6,7],[]] (by decide+kernel) mixed ?_)|skip);simp only [go_sem,sevalprocAttr,zX,zT,List.length_set,↓reduceIte,reduceCtorEq,UH]|apply ah<;>(intro h_;(try simp only [h_]);revert h_)|apply ai|apply aj|apply ae|apply And.intro|with_reducible intro h_|trivial|simp only [go_sem,ak];omega)
 all_goals exact hK
theorem Mp (s m:List Int) (L:Int) (s' m':List Int) (L':Int) (x y:Nat) (hv:bF s m L=true) (fN:bF s' m' L'=true) (hs:s.length+s'.length<=64) (hL:L+L'<=64) (hx:x<m.length) (hy:y<m'.length) (ox:aw s x=true) (oy:aw s' y=true):
  Fn Tryz.prog 20 [dgA s m L,I x,dgA s' m' L',I y] (.tup [dgA (s++s') (jl m m' x y) (L+L'),I 0]):=by
 have v1:=cK hv;have v2:=cK fN;have hV:=l8 s m L;rw [hv] at hV;have pz:=l8 s' m' L';rw [fN] at pz;have l1:=v1.len;have l2:=v2.len;have l3:=v1.l0;have l4:=v2.l0;have hE:=VU s m L x (by omega) l1 (by omega);rw [ox] at hE;have c8:=VU s' m' L' y (by omega) l2 (by omega);rw [oy] at c8;have hB:=y2w s m L s' m' L' (L+L') hs (by omega) l1 l2 (fun i hi=>by
  have:=v2.prd.ok.2 i (by omega)
  have:=v2.s64
  omega) hL
 rw [R4] at hB;have b1:((x:Int)== -1)=false:=by rw [beq_eq_false_iff_ne];omega
 have b2:((y:Int)== -1)=false:=by rw [beq_eq_false_iff_ne];omega
 refine Fn.aq [.cell 8 24, .tmp 9] Tryz.func20 rfl rfl (by decide) (by simp [Tryz.ntmps20]) ?_;rw [Tryz.ntmps20]
 repeat' (first|omega|(try apply ag);simp only [go_sem,sevalprocAttr,b1,b2]|(refine ⟨aA.fn (r:=?_) rfl ?_ ?_⟩;rotate_left;assumption)|(refine ⟨bC.fn (r:=?_) rfl ?_ ?_⟩;rotate_left;assumption)|apply ah<;>(intro h_;(try simp only [h_]);revert h_)|apply ai|apply aj|apply ae|apply And.intro|with_reducible intro h_|trivial|simp only [go_sem,ak];omega)
 refine ⟨aA.IZ rfl hB ?_⟩
 repeat' (first|omega|(try apply ag);simp only [go_sem,sevalprocAttr,b1,b2]|(refine ⟨aA.fn (r:=?_) rfl ?_ ?_⟩;rotate_left;assumption)|(refine ⟨bC.fn (r:=?_) rfl ?_ ?_⟩;rotate_left;assumption)|apply ah<;>(intro h_;(try simp only [h_]);revert h_)|apply ai|apply aj|apply ae|apply And.intro|with_reducible intro h_|trivial|simp only [go_sem,ak];omega)
 have sK:=bP (Sp.fR hv fN hs hL);have cL:(s++s').length=s.length+s'.length:=by simp
 rw [cL] at sK;have yf:=sK.ok.1;have px:=sK.ok.2 x (by omega);have py:=sK.ok.2 (m.length+y) (by omega);refine ⟨aA.inline (y2x s m L s' m' L' (Sp.bR m m') (L+L') x (m.length+y) _ (by simp) (by omega) (by omega) (by omega) (by omega) (by omega) (by omega) ?_)⟩;have bO:(jl m m' x y).length=m.length+m'.length:=by unfold jl;rw [Wq];omega
 have hcM:uA (Sp.bR m m') x (m.length+y)=jl m m' x y:=rfl;rw [hcM]
 repeat' (first|omega|(try apply ag);simp only [go_sem,sevalprocAttr]|apply ah<;>(intro h_;(try simp only [h_]);revert h_)|apply ai|apply aj|apply ae|apply And.intro|with_reducible intro h_|trivial|simp only [go_sem,ak];omega)
 all_goals exact aR.zx (.cons (aR.js (.cons (aR.of (by rw [List.take_of_length_le (by simp)])) (.cons (aR.of (by rw [bO,List.take_of_length_le (by omega)])) (.cons (aR.refl _) .nil)))) (.cons (aR.refl _) .nil))
end Go.Proofs.YtphjphpmfflfpaaGreatDoor
