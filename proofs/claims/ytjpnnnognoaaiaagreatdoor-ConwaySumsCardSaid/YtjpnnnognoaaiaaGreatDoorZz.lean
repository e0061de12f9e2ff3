/- Layer 7: connected sums. -/
import Derived.Test.YtjpnnnognoaaiaaGreatDoorUn1
import Derived.Test.YtjpnnnognoaaiaaGreatDoorCv
import Derived.Test.YtjpnnnognoaaiaaGreatDoorZf
namespace Go.Proofs.YtjpnnnognoaaiaaGreatDoor
open Go Go.RowKit
set_option maxRecDepth 100000
set_option maxHeartbeats 8000000
set_option linter.unusedVariables false
set_option linter.unusedSimpArgs false
def yia:List (List Nat):=[[25,26,29,30,31,32,33,35,8],[25,26,29,30,31,32,33,35,8],[23,24,29,30,31,32,33,35,8],[23,24,29,30,31,32,33,35,8],[29,30,31,32,33,35,8],[29,30,31,32,33,35,8],[23,24,25,26,27,28,31,32,35,8],[23,24,25,26,27,28,31,32,35,8],[23,24,25,26,27,28,29,30,35,8],[23,24,25,26,27,28,29,30,35,8],[23,24,25,26,27,28,35,8],[35,8],[23,24,25,26,27,28,29,30,31,32,33,34,8],[8],[23,24,25,26,27,28,29,30,31,32,33,34,35,36],[]]
def yib:List (List Nat):=[[],[],[0,1],[0,1],[],[],[0,1,2,3,4,5],[0,1,2,3,4,5],[0,1,2,3,4,5,6,7],[0,1,2,3,4,5,6,7],[0,1,2,3,4,5],[],[0,1,2,3,4,5,6,7,8,9,10,11],[],[0,1,2,3,4,5,6,7,8,9,10,11,12,13],[]]
def yic:List (List Nat):=[[45,46,47,48,49,52,53,54],[45,46,47,48,49,52,53,54],[43,44,48,52,53,54],[43,44,48,52,53,54],[43,44,48,52,53,54],[43,44,45,46,47,52,53,54],[43,44,52,53,54],[52,53,54],[52,53,54],[43,44,45,46,47,48,49,50,51],[43,44,45,46,47,48,49,50,51],[43,44,45,46,47,48,49,50,51],[],[],[]]
def yid:List (List Nat):=[[],[],[0,1],[0,1],[0,1],[0,1,2,3,4],[0,1],[],[],[0,1,2,3,4,5,6,7,8],[0,1,2,3,4,5,6,7,8],[0,1,2,3,4,5,6,7,8],[],[],[]]
def yz5:List (List Nat):=[[9,12,13,14,15],[8,12,13,14,15],[12,13,14,15],[12,13,14,15],[8,9,10,11,13,6],[8,9,10,11,12,6],[8,9,10,11,6],[8,9,10,11,6],[12,13,14,15],[]]
theorem ywd (s m:List Int) (L:Int) (s' m':List Int) (L' K:Int) (hs:s.length+s'.length<=64) (h0:0<s.length+s'.length) (hm:m.length=4*s.length) (hm':m'.length=4*s'.length) (hb: ∀i,i<m'.length->0<=m'.getD i 0/\m'.getD i 0<=1000) (hK:K<=64):
  FnO Tryz.prog 61 [dgA s m L,dgA s' m' L',I K] (.tup [.agg [.sl 1 8 0 (s.length+s'.length), .sl 1 14 0 (m.length+m'.length),I K],I 0]) [(14, .cells 3 (.ints (unK m m' m'.length))),(8, .cells 3 (.ints (s++s')))]:=by
 have b1:decide (64<(s.length:Int)+s'.length)=false:=by simp;omega
 have b2:decide (64<K)=false:=by simp;omega
 have c1:=ygh s s' (by omega) (by omega) (by omega)
 have c2:=ygh m m' (by omega) (by omega) (by omega)
 refine FnO.intro [.cell 6 24, .tmp 7] Tryz.func61 rfl rfl (by decide) (by simp [Tryz.ntmps61]) ?_;rw [Tryz.ntmps61]
 repeat' (first|omega|(first|apply yaa|(refine yac.intro (id:=3) yia yib (by decide+kernel) mixed ?_)|(refine yac.intro (id:=7) yic yid (by decide+kernel) mixed ?_)|skip);simp only [go_sem,sevalprocAttr,b1,b2,↓reduceIte,reduceCtorEq,yia,yib,yic,yid]|apply yab<;>(intro h_;(try simp only [h_]);revert h_)|apply And.intro|with_reducible intro h_|trivial|simp only [go_sem,la2];omega)
 refine ⟨yap.own (h:=c1) (by simp only [go_sem,sevalprocAttr]) (by simp only [go_sem,sevalprocAttr];try rfl) ?_⟩
 simp only [go_sem,sevalprocAttr]
 refine ⟨yap.own (h:=c2) (by simp only [go_sem,sevalprocAttr]) (by simp only [go_sem,sevalprocAttr];try rfl) ?_⟩
 simp only [go_sem,sevalprocAttr]
 repeat' (first|omega|(first|apply yaa|(refine yac.intro (id:=3) yia yib (by decide+kernel) mixed ?_)|(refine yac.intro (id:=7) yic yid (by decide+kernel) mixed ?_)|skip);simp only [go_sem,sevalprocAttr,↓reduceIte,reduceCtorEq,yia,yib,yic,yid]|apply yab<;>(intro h_;(try simp only [h_]);revert h_)|apply And.intro|with_reducible intro h_|trivial|simp only [go_sem,la2];omega)
 refine yaz.intro (fun n fr H=> ∃k:Nat,k<=m'.length/\n=m'.length-k/\fr=[(40,I k),(39,I m'.length),(8, .ptr 17 0),(6, .ptr 2 0),(4, .ptr 1 0),(3, .ptr 0 0)]/\
  H=[(17, .cells 24 (.lst [.sl 1 8 0 (s.length+s'.length), .sl 1 14 0 (m.length+m'.length),I K])),(14, .cells 3 (.ints (unK m m' k))),(8, .cells 3 (.ints (s++s'))),(2, .cells 24 (.lst [.nils, .nils,I 0])),(1, .cells 24 (.lst [roI s',roI m',I L'])),(0, .cells 24 (.lst [roI s,roI m,I L]))]) ?_ ?_
 ·refine ⟨_,_,_,?_,0,by omega,rfl,rfl,rfl⟩
  rw [y3s]
  refine Wk.sub ?_ ?_<;>simp only [go_sem,sevalprocAttr]
  all_goals simp_all
 rintro n fr H ⟨k,hk,rfl,rfl,rfl⟩
 have ul:=yoc m m' k
 by_cases hkl:k<m'.length
 ·have e1:((m.length:Int)+k).toNat=m.length+k:=by omega
  have e2:=ysb m m' k hkl
  have hb1:=hb k hkl
  repeat' (first|omega|(first|apply yaa|(refine yac.intro (id:=3) yia yib (by decide+kernel) mixed ?_)|(refine yac.intro (id:=7) yic yid (by decide+kernel) mixed ?_)|skip);simp only [go_sem,sevalprocAttr,e1,e2,↓reduceIte,reduceCtorEq,yia,yib,yic,yid]|apply yab<;>(intro h_;(try simp only [h_]);revert h_)|apply And.intro|with_reducible intro h_|trivial|simp only [go_sem,la2];omega)
  refine ⟨_,_,_,?_,?_,⟨k+1,by omega,rfl,rfl,rfl⟩⟩
  ·omega
  ·rw [←yut m m' k hkl]
   refine Wk.sub ?_ ?_<;>(simp only [go_sem,sevalprocAttr])
   all_goals simp_all
 ·obtain rfl:k=m'.length:=by omega
  repeat' (first|omega|(try apply yaa);simp only [go_sem,sevalprocAttr]|apply yab<;>(intro h_;(try simp only [h_]);revert h_)|apply And.intro|with_reducible intro h_|trivial|simp only [go_sem,la2];omega)
theorem ysd (s m:List Int) (L x:Int) (hx:0<=x/\x<4*s.length) (hs:s.length<=1000):Fn Tryz.prog 118 [dgA s m L,I x] (.bool (outB s x)):=by
 have e1:x.tmod 4=x % 4:=ynt hx.1
 have e2:x.tdiv 4=x/4:=ydc hx.1
 refine Fn.intro [.tmp 4] Tryz.func118 rfl rfl (by decide) (by simp [Tryz.ntmps118]) ?_;rw [Tryz.ntmps118]
 repeat' (first|omega|(try apply yaa);simp only [go_sem,sevalprocAttr,e1,e2]|apply yab<;>(intro h_;(try simp only [h_]);revert h_)|apply And.intro|with_reducible intro h_|trivial|simp only [go_sem,la2];omega)
 all_goals (simp_all [outB])
theorem yod (s m:List Int) (L x:Int) (hx:0<=x/\x<m.length) (hm:m.length=4*s.length) (hs:s.length<=1000):Fn Tryz.prog 60 [dgA s m L,I x] (.bool (outB s x)):=by
 have hO:=ysd s m L x (by omega) hs
 have b1:(x== -1)=false:=by rw [beq_eq_false_iff_ne];omega
 have b2:decide (0<=x)=true:=by rw [decide_eq_true_iff];omega
 have b3:decide (x<m.length)=true:=by rw [decide_eq_true_iff];omega
 refine Fn.intro [.tmp 4] Tryz.func60 rfl rfl (by decide) (by simp [Tryz.ntmps60]) ?_;rw [Tryz.ntmps60]
 repeat' (first|omega|(try apply yaa);simp only [go_sem,sevalprocAttr,b1,b2,b3]|(refine ⟨yad.fn (r:=?_) rfl ?_ ?_⟩;rotate_left;assumption)|(refine ⟨yap.fn (r:=?_) rfl ?_ ?_⟩;rotate_left;assumption)|apply yab<;>(intro h_;(try simp only [h_]);revert h_)|apply And.intro|with_reducible intro h_|trivial|simp only [go_sem,la2];omega)
abbrev cuH (s m:List Int) (L:Int) (s' m':List Int) (L':Int) (M:List Int) (K:Int):Hp:=[(18, .cells 24 (.lst [.sl 1 11 0 (s.length+s'.length), .sl 1 17 0 (m.length+m'.length),I K])),(17, .cells 3 (.ints M)),(11, .cells 3 (.ints (s++s'))),(2, .cells 24 (.lst [.nils, .nils,I 0])),(1, .cells 24 (.lst [roI s',roI m',I L'])),(0, .cells 24 (.lst [roI s,roI m,I L]))]
theorem ywe (s m:List Int) (L:Int) (s' m':List Int) (L':Int) (M:List Int) (K:Int) (x y:Nat) (yy:Int) (hyy:yy=y) (hM:M.length=m.length+m'.length) (hx:x<M.length) (hy:y<M.length) (hl:M.length<=1000) (hp:0<=M.getD x 0/\M.getD x 0<M.length) (hq:0<=M.getD y 0/\M.getD y 0<M.length) {fr:Fr} {Q:AV->Fr->Hp->Prop}
  (hK:Q (.tup []) fr (cuH s m L s' m' L' (crM M x y) K)):
  yda Tryz.prog 62 [.sl 1 17 0 (m.length+m'.length),I x,I yy] fr (cuH s m L s' m' L' M K) Q:=by
 subst hyy
 obtain ⟨p,hpe⟩: ∃p,M.getD x 0=p:=⟨_,rfl⟩
 obtain ⟨q,hqe⟩: ∃q,M.getD y 0=q:=⟨_,rfl⟩
 unfold crM at hK
 rw [hpe,hqe] at hK
 rw [hpe] at hp
 rw [hqe] at hq
 refine yda.intro [] Tryz.func62 rfl rfl (by decide) (by simp [Tryz.ntmps62]) ?_;rw [Tryz.ntmps62]
 repeat' (first|omega|(first|apply yaa|(refine yac.intro (id:=0) yz5 [[],[0],[],[],[0,1,2,3],[0,1,2,3,4],[0,1,2,3],[0,1,2,3],[4,5,6,7],[]] (by decide+kernel) mixed ?_)|skip);simp only [go_sem,sevalprocAttr,hpe,hqe,List.length_set,↓reduceIte,reduceCtorEq,yz5]|apply yab<;>(intro h_;(try simp only [h_]);revert h_)|apply And.intro|with_reducible intro h_|trivial|simp only [go_sem,la2];omega)
 all_goals exact hK
theorem y8j (s m:List Int) (L:Int) (s' m':List Int) (L':Int) (x y:Nat) (hv:yaf s m L=true) (hv':yaf s' m' L'=true) (hs:s.length+s'.length<=64) (hL:L+L'<=64) (hx:x<m.length) (hy:y<m'.length) (ox:outB s x=true) (oy:outB s' y=true):
  Fn Tryz.prog 20 [dgA s m L,I x,dgA s' m' L',I y] (.tup [dgA (s++s') (csM m m' x y) (L+L'),I 0]):=by
 have v1:=yal hv
 have v2:=yal hv'
 have hV:=ybw s m L
 rw [hv] at hV
 have hV':=ybw s' m' L'
 rw [hv'] at hV'
 have l1:=v1.len
 have l2:=v2.len
 have l3:=v1.l0
 have l4:=v2.l0
 have hE:=yod s m L x (by omega) l1 (by omega)
 rw [ox] at hE
 have hE':=yod s' m' L' y (by omega) l2 (by omega)
 rw [oy] at hE'
 have hB:=ywd s m L s' m' L' (L+L') hs (by omega) l1 l2 (fun i hi=>by
  have:=v2.prd.ok.2 i (by omega)
  have:=v2.s64
  omega) hL
 rw [ysc] at hB
 have b1:((x:Int)== -1)=false:=by rw [beq_eq_false_iff_ne];omega
 have b2:((y:Int)== -1)=false:=by rw [beq_eq_false_iff_ne];omega
 refine Fn.introL [.cell 8 24, .tmp 9] Tryz.func20 rfl rfl (by decide) (by simp [Tryz.ntmps20]) ?_;rw [Tryz.ntmps20]
 repeat' (first|omega|(try apply yaa);simp only [go_sem,sevalprocAttr,b1,b2]|(refine ⟨yad.fn (r:=?_) rfl ?_ ?_⟩;rotate_left;assumption)|(refine ⟨yap.fn (r:=?_) rfl ?_ ?_⟩;rotate_left;assumption)|apply yab<;>(intro h_;(try simp only [h_]);revert h_)|apply And.intro|with_reducible intro h_|trivial|simp only [go_sem,la2];omega)
 refine ⟨yad.fno rfl hB ?_⟩
 repeat' (first|omega|(try apply yaa);simp only [go_sem,sevalprocAttr,b1,b2]|(refine ⟨yad.fn (r:=?_) rfl ?_ ?_⟩;rotate_left;assumption)|(refine ⟨yap.fn (r:=?_) rfl ?_ ?_⟩;rotate_left;assumption)|apply yab<;>(intro h_;(try simp only [h_]);revert h_)|apply And.intro|with_reducible intro h_|trivial|simp only [go_sem,la2];omega)
 have hvu:=pmOk (Sp.valid_union hv hv' hs hL)
 have hsl:(s++s').length=s.length+s'.length:=by simp
 rw [hsl] at hvu
 have hul:=hvu.ok.1
 have px:=hvu.ok.2 x (by omega)
 have py:=hvu.ok.2 (m.length+y) (by omega)
 refine ⟨yad.inline (ywe s m L s' m' L' (Sp.unM m m') (L+L') x (m.length+y) _ (by simp) (by omega) (by omega) (by omega) (by omega) (by omega) (by omega) ?_)⟩
 have hcl:(csM m m' x y).length=m.length+m'.length:=by unfold csM;rw [yur];omega
 have hcM:crM (Sp.unM m m') x (m.length+y)=csM m m' x y:=rfl
 rw [hcM]
 repeat' (first|omega|(try apply yaa);simp only [go_sem,sevalprocAttr]|apply yab<;>(intro h_;(try simp only [h_]);revert h_)|apply And.intro|with_reducible intro h_|trivial|simp only [go_sem,la2];omega)
 all_goals exact LeA.tupL (.cons (LeA.aggL (.cons (LeA.of (by rw [List.take_of_length_le (by simp)])) (.cons (LeA.of (by rw [hcl,List.take_of_length_le (by omega)])) (.cons (LeA.refl _) .nil)))) (.cons (LeA.refl _) .nil))
end Go.Proofs.YtjpnnnognoaaiaaGreatDoor
namespace Go.Proofs.YtjpnnnognoaaiaaGreatDoor
open Go Go.RowKit
set_option maxRecDepth 100000
set_option maxHeartbeats 8000000
set_option linter.unusedVariables false
set_option linter.unusedSimpArgs false
def endB (s m:List Int) (L x:Int):Bool:=if x= -1 then decide (0<L) else decide (0<=x)&&(decide (x<m.length)&&outB s x)
theorem yi5 (s m:List Int) (L x:Int) (hm:m.length=4*s.length) (hs:s.length<=1000):Fn Tryz.prog 60 [dgA s m L,I x] (.bool (endB s m L x)):=by
 by_cases h:x= -1
 ·unfold endB
  rw [if_pos h]
  have b1:(x== -1)=true:=by rw [beq_iff_eq];exact h
  refine Fn.intro [.tmp 4] Tryz.func60 rfl rfl (by decide) (by simp [Tryz.ntmps60]) ?_;rw [Tryz.ntmps60]
  repeat' (first|omega|(try apply yaa);simp only [go_sem,sevalprocAttr,b1]|(refine ⟨yad.fn (r:=?_) rfl ?_ ?_⟩;rotate_left;assumption)|(refine ⟨yap.fn (r:=?_) rfl ?_ ?_⟩;rotate_left;assumption)|apply yab<;>(intro h_;(try simp only [h_]);revert h_)|apply And.intro|with_reducible intro h_|trivial|simp only [go_sem,la2];omega)
 have b1:(x== -1)=false:=by rw [beq_eq_false_iff_ne];exact h
 by_cases h0:0<=x
 ·by_cases h1:x<m.length
  ·have e:endB s m L x=outB s x:=by unfold endB;rw [if_neg h,decide_eq_true h0,decide_eq_true h1,Bool.true_and,Bool.true_and]
   rw [e]
   exact yod s m L x ⟨h0,h1⟩ hm hs
  ·have b2:decide (0<=x)=true:=decide_eq_true h0
   have b3:decide (x<m.length)=false:=decide_eq_false h1
   have e:endB s m L x=false:=by unfold endB;rw [if_neg h,b3,Bool.false_and,Bool.and_false]
   rw [e]
   refine Fn.intro [.tmp 4] Tryz.func60 rfl rfl (by decide) (by simp [Tryz.ntmps60]) ?_;rw [Tryz.ntmps60]
   repeat' (first|omega|(try apply yaa);simp only [go_sem,sevalprocAttr,b1,b2,b3]|(refine ⟨yad.fn (r:=?_) rfl ?_ ?_⟩;rotate_left;assumption)|(refine ⟨yap.fn (r:=?_) rfl ?_ ?_⟩;rotate_left;assumption)|apply yab<;>(intro h_;(try simp only [h_]);revert h_)|apply And.intro|with_reducible intro h_|trivial|simp only [go_sem,la2];omega)
 ·have b2:decide (0<=x)=false:=decide_eq_false h0
  have e:endB s m L x=false:=by unfold endB;rw [if_neg h,b2,Bool.false_and]
  rw [e]
  refine Fn.intro [.tmp 4] Tryz.func60 rfl rfl (by decide) (by simp [Tryz.ntmps60]) ?_;rw [Tryz.ntmps60]
  repeat' (first|omega|(try apply yaa);simp only [go_sem,sevalprocAttr,b1,b2]|(refine ⟨yad.fn (r:=?_) rfl ?_ ?_⟩;rotate_left;assumption)|(refine ⟨yap.fn (r:=?_) rfl ?_ ?_⟩;rotate_left;assumption)|apply yab<;>(intro h_;(try simp only [h_]);revert h_)|apply And.intro|with_reducible intro h_|trivial|simp only [go_sem,la2];omega)
section
variable (s m:List Int) (L:Int) (s' m':List Int) (L' x y:Int) (hv:yaf s m L=true) (hv':yaf s' m' L'=true)
include hv hv'
theorem yuu (he:endB s m L x=false\/endB s' m' L' y=false):Fn Tryz.prog 20 [dgA s m L,I x,dgA s' m' L',I y] (.tup [.agg [.nils, .nils,I 0],I 2]):=by
 have v1:=yal hv
 have v2:=yal hv'
 have hV:=ybw s m L
 rw [hv] at hV
 have hV':=ybw s' m' L'
 rw [hv'] at hV'
 have hE:=yi5 s m L x v1.len (by have:=v1.s64;omega)
 have hE':=yi5 s' m' L' y v2.len (by have:=v2.s64;omega)
 cases h1:endB s m L x with
 |false=>
  rw [h1] at hE
  refine Fn.intro [.cell 8 24, .tmp 9] Tryz.func20 rfl rfl (by decide) (by simp [Tryz.ntmps20]) ?_;rw [Tryz.ntmps20]
  repeat' (first|omega|(try apply yaa);simp only [go_sem,sevalprocAttr,hE]|(refine ⟨yad.fn (r:=?_) rfl ?_ ?_⟩;rotate_left;assumption)|(refine ⟨yap.fn (r:=?_) rfl ?_ ?_⟩;rotate_left;assumption)|apply yab<;>(intro h_;(try simp only [h_]);revert h_)|apply And.intro|with_reducible intro h_|trivial|simp only [go_sem,la2];omega)
 |true=>
  have h2:endB s' m' L' y=false:=by rcases he with h|h;rw [h] at h1;cases h1;exact h
  rw [h1] at hE
  rw [h2] at hE'
  refine Fn.intro [.cell 8 24, .tmp 9] Tryz.func20 rfl rfl (by decide) (by simp [Tryz.ntmps20]) ?_;rw [Tryz.ntmps20]
  repeat' (first|omega|(try apply yaa);simp only [go_sem,sevalprocAttr,hE]|(refine ⟨yad.fn (r:=?_) rfl ?_ ?_⟩;rotate_left;assumption)|(refine ⟨yap.fn (r:=?_) rfl ?_ ?_⟩;rotate_left;assumption)|apply yab<;>(intro h_;(try simp only [h_]);revert h_)|apply And.intro|with_reducible intro h_|trivial|simp only [go_sem,la2];omega)
theorem y6u (h1:endB s m L x=true) (h2:endB s' m' L' y=true) (hxy:x= -1\/y= -1) (hs:s.length+s'.length<=64) (hL:L+L'<=64):
  Fn Tryz.prog 20 [dgA s m L,I x,dgA s' m' L',I y] (.tup [dgA (s++s') (Sp.unM m m') (L+L'-1),I 0]):=by
 have v1:=yal hv
 have v2:=yal hv'
 have hV:=ybw s m L
 rw [hv] at hV
 have hV':=ybw s' m' L'
 rw [hv'] at hV'
 have l1:=v1.len
 have l2:=v2.len
 have l3:=v1.l0
 have l4:=v2.l0
 have hE:=yi5 s m L x l1 (by omega)
 rw [h1] at hE
 have hE':=yi5 s' m' L' y l2 (by omega)
 rw [h2] at hE'
 have hB:=yz4 s m L s' m' L' (L+L'-1) hs (by omega) (by omega) (fun i hi=>by
  have:=v2.prd.ok.2 i (by omega)
  have:=v2.s64
  omega) (by omega)
 rw [ysc,show m++m'.map (fun x=>x+(m.length:Int))=Sp.unM m m' from rfl] at hB
 have bxy:(x== -1)=true\/((x== -1)=false/\(y== -1)=true):=by
  by_cases h:x= -1
  ·exact .inl (by rw [beq_iff_eq];exact h)
  ·exact .inr ⟨by rw [beq_eq_false_iff_ne];exact h,by rw [beq_iff_eq];omega⟩
 rcases bxy with b1|⟨b1,b2⟩
 ·refine Fn.intro [.cell 8 24, .tmp 9] Tryz.func20 rfl rfl (by decide) (by simp [Tryz.ntmps20]) ?_;rw [Tryz.ntmps20]
  repeat' (first|omega|(try apply yaa);simp only [go_sem,sevalprocAttr,b1]|(refine ⟨yad.fn (r:=?_) rfl ?_ ?_⟩;rotate_left;assumption)|(refine ⟨yap.fn (r:=?_) rfl ?_ ?_⟩;rotate_left;assumption)|apply yab<;>(intro h_;(try simp only [h_]);revert h_)|apply And.intro|with_reducible intro h_|trivial|simp only [go_sem,la2];omega)
 ·refine Fn.intro [.cell 8 24, .tmp 9] Tryz.func20 rfl rfl (by decide) (by simp [Tryz.ntmps20]) ?_;rw [Tryz.ntmps20]
  repeat' (first|omega|(try apply yaa);simp only [go_sem,sevalprocAttr,b1,b2]|(refine ⟨yad.fn (r:=?_) rfl ?_ ?_⟩;rotate_left;assumption)|(refine ⟨yap.fn (r:=?_) rfl ?_ ?_⟩;rotate_left;assumption)|apply yab<;>(intro h_;(try simp only [h_]);revert h_)|apply And.intro|with_reducible intro h_|trivial|simp only [go_sem,la2];omega)
end
end Go.Proofs.YtjpnnnognoaaiaaGreatDoor
