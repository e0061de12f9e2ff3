/- Layer 7: connected sums. -/
import Derived.Test.YtmdjdekgakidhaaGreatDoorUn1
import Derived.Test.YtmdjdekgakidhaaGreatDoorZw
import Derived.Test.YtmdjdekgakidhaaGreatDoorZm
import Derived.Test.YtmdjdekgakidhaaGreatDoorZv
namespace Go.Proofs.YtmdjdekgakidhaaGreatDoor
open Go Go.RowKit
set_option maxRecDepth 100000
set_option maxHeartbeats 8000000
set_option linter.unusedVariables false
set_option linter.unusedSimpArgs false
def yir:List (List Nat):=[[25,26,29,30,31,32,33,35,8],[25,26,29,30,31,32,33,35,8],[23,24,29,30,31,32,33,35,8],[23,24,29,30,31,32,33,35,8],[29,30,31,32,33,35,8],[29,30,31,32,33,35,8],[23,24,25,26,27,28,31,32,35,8],[23,24,25,26,27,28,31,32,35,8],[23,24,25,26,27,28,29,30,35,8],[23,24,25,26,27,28,29,30,35,8],[23,24,25,26,27,28,35,8],[35,8],[23,24,25,26,27,28,29,30,31,32,33,34,8],[8],[23,24,25,26,27,28,29,30,31,32,33,34,35,36],[]]
def yis:List (List Nat):=[[],[],[0,1],[0,1],[],[],[0,1,2,3,4,5],[0,1,2,3,4,5],[0,1,2,3,4,5,6,7],[0,1,2,3,4,5,6,7],[0,1,2,3,4,5],[],[0,1,2,3,4,5,6,7,8,9,10,11],[],[0,1,2,3,4,5,6,7,8,9,10,11,12,13],[]]
def yit:List (List Nat):=[[45,46,47,48,49,52,53,54],[45,46,47,48,49,52,53,54],[43,44,48,52,53,54],[43,44,48,52,53,54],[43,44,48,52,53,54],[43,44,45,46,47,52,53,54],[43,44,52,53,54],[52,53,54],[52,53,54],[43,44,45,46,47,48,49,50,51],[43,44,45,46,47,48,49,50,51],[43,44,45,46,47,48,49,50,51],[],[],[]]
def yiu:List (List Nat):=[[],[],[0,1],[0,1],[0,1],[0,1,2,3,4],[0,1],[],[],[0,1,2,3,4,5,6,7,8],[0,1,2,3,4,5,6,7,8],[0,1,2,3,4,5,6,7,8],[],[],[]]
def y10:List (List Nat):=[[9,12,13,14,15],[8,12,13,14,15],[12,13,14,15],[12,13,14,15],[8,9,10,11,13,6],[8,9,10,11,12,6],[8,9,10,11,6],[8,9,10,11,6],[12,13,14,15],[]]
theorem yya (s m:List Int) (L:Int) (s' m':List Int) (L' K:Int) (hs:s.length+s'.length<=64) (h0:0<s.length+s'.length) (hm:m.length=4*s.length) (hm':m'.length=4*s'.length) (hb: ∀i,i<m'.length->0<=m'.getD i 0/\m'.getD i 0<=1000) (hK:K<=64):
  FnO Tryz.prog 34 [dgA s m L,dgA s' m' L',I K] (.tup [.agg [.sl 1 8 0 (s.length+s'.length), .sl 1 14 0 (m.length+m'.length),I K],I 0]) [(14, .cells 3 (.ints (unK m m' m'.length))),(8, .cells 3 (.ints (s++s')))]:=by
 have b1:decide (64<(s.length:Int)+s'.length)=false:=by simp;omega
 have b2:decide (64<K)=false:=by simp;omega
 have c1:=ygk s s' (by omega) (by omega) (by omega)
 have c2:=ygk m m' (by omega) (by omega) (by omega)
 refine FnO.intro [.cell 6 24, .tmp 7] Tryz.func34 rfl rfl (by decide) (by simp [Tryz.ntmps34]) ?_;rw [Tryz.ntmps34]
 repeat' (first|omega|(first|apply yaa|(refine yae.intro (id:=3) yir yis (by decide+kernel) mixed ?_)|(refine yae.intro (id:=7) yit yiu (by decide+kernel) mixed ?_)|skip);simp only [go_sem,sevalprocAttr,b1,b2,↓reduceIte,reduceCtorEq,yir,yis,yit,yiu]|apply yad<;>(intro h_;(try simp only [h_]);revert h_)|apply yac|apply yab|apply gspI|apply And.intro|with_reducible intro h_|trivial|simp only [go_sem,la2];omega)
 refine ⟨yak.own (h:=c1) (by simp only [go_sem,sevalprocAttr]) (by simp only [go_sem,sevalprocAttr];try rfl) ?_⟩
 simp only [go_sem,sevalprocAttr]
 refine ⟨yak.own (h:=c2) (by simp only [go_sem,sevalprocAttr]) (by simp only [go_sem,sevalprocAttr];try rfl) ?_⟩
 simp only [go_sem,sevalprocAttr]
 repeat' (first|omega|(first|apply yaa|(refine yae.intro (id:=3) yir yis (by decide+kernel) mixed ?_)|(refine yae.intro (id:=7) yit yiu (by decide+kernel) mixed ?_)|skip);simp only [go_sem,sevalprocAttr,↓reduceIte,reduceCtorEq,yir,yis,yit,yiu]|apply yad<;>(intro h_;(try simp only [h_]);revert h_)|apply yac|apply yab|apply gspI|apply And.intro|with_reducible intro h_|trivial|simp only [go_sem,la2];omega)
 refine yai.intro (fun n fr H=> ∃k:Nat,k<=m'.length/\n=m'.length-k/\fr=[(40,I k),(39,I m'.length),(8, .ptr 17 0),(6, .ptr 2 0),(4, .ptr 1 0),(3, .ptr 0 0)]/\
  H=[(17, .cells 24 (.lst [.sl 1 8 0 (s.length+s'.length), .sl 1 14 0 (m.length+m'.length),I K])),(14, .cells 3 (.ints (unK m m' k))),(8, .cells 3 (.ints (s++s'))),(2, .cells 24 (.lst [.nils, .nils,I 0])),(1, .cells 24 (.lst [roI s',roI m',I L'])),(0, .cells 24 (.lst [roI s,roI m,I L]))]) ?_ ?_
 ·refine ⟨_,_,_,?_,0,by omega,rfl,rfl,rfl⟩
  rw [y5z]
  refine Wk.sub ?_ ?_<;>simp only [go_sem,sevalprocAttr]
  all_goals simp_all
 rintro n fr H ⟨k,hk,rfl,rfl,rfl⟩
 have ul:=yps m m' k
 by_cases hkl:k<m'.length
 ·have e1:((m.length:Int)+k).toNat=m.length+k:=by omega
  have e2:=yt7 m m' k hkl
  have hb1:=hb k hkl
  repeat' (first|omega|(first|apply yaa|(refine yae.intro (id:=3) yir yis (by decide+kernel) mixed ?_)|(refine yae.intro (id:=7) yit yiu (by decide+kernel) mixed ?_)|skip);simp only [go_sem,sevalprocAttr,e1,e2,↓reduceIte,reduceCtorEq,yir,yis,yit,yiu]|apply yad<;>(intro h_;(try simp only [h_]);revert h_)|apply yac|apply yab|apply gspI|apply And.intro|with_reducible intro h_|trivial|simp only [go_sem,la2];omega)
  refine ⟨_,_,_,?_,?_,⟨k+1,by omega,rfl,rfl,rfl⟩⟩
  ·omega
  ·rw [←yww m m' k hkl]
   refine Wk.sub ?_ ?_<;>(simp only [go_sem,sevalprocAttr])
   all_goals simp_all
 ·obtain rfl:k=m'.length:=by omega
  repeat' (first|omega|(try apply yaa);simp only [go_sem,sevalprocAttr]|apply yad<;>(intro h_;(try simp only [h_]);revert h_)|apply yac|apply yab|apply gspI|apply And.intro|with_reducible intro h_|trivial|simp only [go_sem,la2];omega)
theorem yt8 (s m:List Int) (L x:Int) (hx:0<=x/\x<4*s.length) (hs:s.length<=1000):Fn Tryz.prog 89 [dgA s m L,I x] (.bool (outB s x)):=by
 have e1:x.tmod 4=x % 4:=yvd hx.1
 have e2:x.tdiv 4=x/4:=ykw hx.1
 refine Fn.intro [.tmp 4] Tryz.func89 rfl rfl (by decide) (by simp [Tryz.ntmps89]) ?_;rw [Tryz.ntmps89]
 repeat' (first|omega|(try apply yaa);simp only [go_sem,sevalprocAttr,e1,e2]|apply yad<;>(intro h_;(try simp only [h_]);revert h_)|apply yac|apply yab|apply gspI|apply And.intro|with_reducible intro h_|trivial|simp only [go_sem,la2];omega)
 all_goals (simp_all [outB])
theorem ypt (s m:List Int) (L x:Int) (hx:0<=x/\x<m.length) (hm:m.length=4*s.length) (hs:s.length<=1000):Fn Tryz.prog 48 [dgA s m L,I x] (.bool (outB s x)):=by
 have hO:=yt8 s m L x (by omega) hs
 have b1:(x== -1)=false:=by rw [beq_eq_false_iff_ne];omega
 have b2:decide (0<=x)=true:=by rw [decide_eq_true_iff];omega
 have b3:decide (x<m.length)=true:=by rw [decide_eq_true_iff];omega
 refine Fn.intro [.tmp 4] Tryz.func48 rfl rfl (by decide) (by simp [Tryz.ntmps48]) ?_;rw [Tryz.ntmps48]
 repeat' (first|omega|(try apply yaa);simp only [go_sem,sevalprocAttr,b1,b2,b3]|(refine ⟨yaf.fn (r:=?_) rfl ?_ ?_⟩;rotate_left;assumption)|(refine ⟨yak.fn (r:=?_) rfl ?_ ?_⟩;rotate_left;assumption)|apply yad<;>(intro h_;(try simp only [h_]);revert h_)|apply yac|apply yab|apply gspI|apply And.intro|with_reducible intro h_|trivial|simp only [go_sem,la2];omega)
abbrev cuH (s m:List Int) (L:Int) (s' m':List Int) (L':Int) (M:List Int) (K:Int):Hp:=[(18, .cells 24 (.lst [.sl 1 11 0 (s.length+s'.length), .sl 1 17 0 (m.length+m'.length),I K])),(17, .cells 3 (.ints M)),(11, .cells 3 (.ints (s++s'))),(2, .cells 24 (.lst [.nils, .nils,I 0])),(1, .cells 24 (.lst [roI s',roI m',I L'])),(0, .cells 24 (.lst [roI s,roI m,I L]))]
theorem yyb (s m:List Int) (L:Int) (s' m':List Int) (L':Int) (M:List Int) (K:Int) (x y:Nat) (yy:Int) (hyy:yy=y) (hM:M.length=m.length+m'.length) (hx:x<M.length) (hy:y<M.length) (hl:M.length<=1000) (hp:0<=M.getD x 0/\M.getD x 0<M.length) (hq:0<=M.getD y 0/\M.getD y 0<M.length) {fr:Fr} {Q:AV->Fr->Hp->Prop}
  (hK:Q (.tup []) fr (cuH s m L s' m' L' (crM M x y) K)):
  ybh Tryz.prog 49 [.sl 1 17 0 (m.length+m'.length),I x,I yy] fr (cuH s m L s' m' L' M K) Q:=by
 subst hyy
 obtain ⟨p,hpe⟩: ∃p,M.getD x 0=p:=⟨_,rfl⟩
 obtain ⟨q,hqe⟩: ∃q,M.getD y 0=q:=⟨_,rfl⟩
 unfold crM at hK
 rw [hpe,hqe] at hK
 rw [hpe] at hp
 rw [hqe] at hq
 refine ybh.intro [] Tryz.func49 rfl rfl (by decide) (by simp [Tryz.ntmps49]) ?_;rw [Tryz.ntmps49]
 repeat' (first|omega|(first|apply yaa|(refine yae.intro (id:=0) y10 [[],[0],[],[],[0,1,2,3],[0,1,2,3,4],[0,1,2,3],[0,1,2,3],[4,5,6,7],[]] (by decide+kernel) mixed ?_)|skip);simp only [go_sem,sevalprocAttr,hpe,hqe,List.length_set,↓reduceIte,reduceCtorEq,y10]|apply yad<;>(intro h_;(try simp only [h_]);revert h_)|apply yac|apply yab|apply gspI|apply And.intro|with_reducible intro h_|trivial|simp only [go_sem,la2];omega)
 all_goals exact hK
theorem yaa5 (s m:List Int) (L:Int) (s' m':List Int) (L':Int) (x y:Nat) (hv:yah s m L=true) (hv':yah s' m' L'=true) (hs:s.length+s'.length<=64) (hL:L+L'<=64) (hx:x<m.length) (hy:y<m'.length) (ox:outB s x=true) (oy:outB s' y=true):
  Fn Tryz.prog 14 [dgA s m L,I x,dgA s' m' L',I y] (.tup [dgA (s++s') (csM m m' x y) (L+L'),I 0]):=by
 have v1:=ya8 hv
 have v2:=ya8 hv'
 have hV:=ycc s m L
 rw [hv] at hV
 have hV':=ycc s' m' L'
 rw [hv'] at hV'
 have l1:=v1.len
 have l2:=v2.len
 have l3:=v1.l0
 have l4:=v2.l0
 have hE:=ypt s m L x (by omega) l1 (by omega)
 rw [ox] at hE
 have hE':=ypt s' m' L' y (by omega) l2 (by omega)
 rw [oy] at hE'
 have hB:=yya s m L s' m' L' (L+L') hs (by omega) l1 l2 (fun i hi=>by
  have:=v2.prd.ok.2 i (by omega)
  have:=v2.s64
  omega) hL
 rw [ym9] at hB
 have b1:((x:Int)== -1)=false:=by rw [beq_eq_false_iff_ne];omega
 have b2:((y:Int)== -1)=false:=by rw [beq_eq_false_iff_ne];omega
 refine Fn.introL [.cell 8 24, .tmp 9] Tryz.func14 rfl rfl (by decide) (by simp [Tryz.ntmps14]) ?_;rw [Tryz.ntmps14]
 repeat' (first|omega|(try apply yaa);simp only [go_sem,sevalprocAttr,b1,b2]|(refine ⟨yaf.fn (r:=?_) rfl ?_ ?_⟩;rotate_left;assumption)|(refine ⟨yak.fn (r:=?_) rfl ?_ ?_⟩;rotate_left;assumption)|apply yad<;>(intro h_;(try simp only [h_]);revert h_)|apply yac|apply yab|apply gspI|apply And.intro|with_reducible intro h_|trivial|simp only [go_sem,la2];omega)
 refine ⟨yaf.fno rfl hB ?_⟩
 repeat' (first|omega|(try apply yaa);simp only [go_sem,sevalprocAttr,b1,b2]|(refine ⟨yaf.fn (r:=?_) rfl ?_ ?_⟩;rotate_left;assumption)|(refine ⟨yak.fn (r:=?_) rfl ?_ ?_⟩;rotate_left;assumption)|apply yad<;>(intro h_;(try simp only [h_]);revert h_)|apply yac|apply yab|apply gspI|apply And.intro|with_reducible intro h_|trivial|simp only [go_sem,la2];omega)
 have hvu:=pmOk (Sp.valid_union hv hv' hs hL)
 have hsl:(s++s').length=s.length+s'.length:=by simp
 rw [hsl] at hvu
 have hul:=hvu.ok.1
 have px:=hvu.ok.2 x (by omega)
 have py:=hvu.ok.2 (m.length+y) (by omega)
 refine ⟨yaf.inline (yyb s m L s' m' L' (Sp.unM m m') (L+L') x (m.length+y) _ (by simp) (by omega) (by omega) (by omega) (by omega) (by omega) (by omega) ?_)⟩
 have hcl:(csM m m' x y).length=m.length+m'.length:=by unfold csM;rw [ywr];omega
 have hcM:crM (Sp.unM m m') x (m.length+y)=csM m m' x y:=rfl
 rw [hcM]
 repeat' (first|omega|(try apply yaa);simp only [go_sem,sevalprocAttr]|apply yad<;>(intro h_;(try simp only [h_]);revert h_)|apply yac|apply yab|apply gspI|apply And.intro|with_reducible intro h_|trivial|simp only [go_sem,la2];omega)
 all_goals exact LeA.tupL (.cons (LeA.aggL (.cons (LeA.of (by rw [List.take_of_length_le (by simp)])) (.cons (LeA.of (by rw [hcl,List.take_of_length_le (by omega)])) (.cons (LeA.refl _) .nil)))) (.cons (LeA.refl _) .nil))
end Go.Proofs.YtmdjdekgakidhaaGreatDoor
namespace Go.Proofs.YtmdjdekgakidhaaGreatDoor
open Go Go.RowKit
set_option maxRecDepth 100000
set_option maxHeartbeats 8000000
set_option linter.unusedVariables false
set_option linter.unusedSimpArgs false
def endB (s m:List Int) (L x:Int):Bool:=if x= -1 then decide (0<L) else decide (0<=x)&&(decide (x<m.length)&&outB s x)
theorem yjn (s m:List Int) (L x:Int) (hm:m.length=4*s.length) (hs:s.length<=1000):Fn Tryz.prog 48 [dgA s m L,I x] (.bool (endB s m L x)):=by
 by_cases h:x= -1
 ·unfold endB
  rw [if_pos h]
  have b1:(x== -1)=true:=by rw [beq_iff_eq];exact h
  refine Fn.intro [.tmp 4] Tryz.func48 rfl rfl (by decide) (by simp [Tryz.ntmps48]) ?_;rw [Tryz.ntmps48]
  repeat' (first|omega|(try apply yaa);simp only [go_sem,sevalprocAttr,b1]|(refine ⟨yaf.fn (r:=?_) rfl ?_ ?_⟩;rotate_left;assumption)|(refine ⟨yak.fn (r:=?_) rfl ?_ ?_⟩;rotate_left;assumption)|apply yad<;>(intro h_;(try simp only [h_]);revert h_)|apply yac|apply yab|apply gspI|apply And.intro|with_reducible intro h_|trivial|simp only [go_sem,la2];omega)
 have b1:(x== -1)=false:=by rw [beq_eq_false_iff_ne];exact h
 by_cases h0:0<=x
 ·by_cases h1:x<m.length
  ·have e:endB s m L x=outB s x:=by unfold endB;rw [if_neg h,decide_eq_true h0,decide_eq_true h1,Bool.true_and,Bool.true_and]
   rw [e]
   exact ypt s m L x ⟨h0,h1⟩ hm hs
  ·have b2:decide (0<=x)=true:=decide_eq_true h0
   have b3:decide (x<m.length)=false:=decide_eq_false h1
   have e:endB s m L x=false:=by unfold endB;rw [if_neg h,b3,Bool.false_and,Bool.and_false]
   rw [e]
   refine Fn.intro [.tmp 4] Tryz.func48 rfl rfl (by decide) (by simp [Tryz.ntmps48]) ?_;rw [Tryz.ntmps48]
   repeat' (first|omega|(try apply yaa);simp only [go_sem,sevalprocAttr,b1,b2,b3]|(refine ⟨yaf.fn (r:=?_) rfl ?_ ?_⟩;rotate_left;assumption)|(refine ⟨yak.fn (r:=?_) rfl ?_ ?_⟩;rotate_left;assumption)|apply yad<;>(intro h_;(try simp only [h_]);revert h_)|apply yac|apply yab|apply gspI|apply And.intro|with_reducible intro h_|trivial|simp only [go_sem,la2];omega)
 ·have b2:decide (0<=x)=false:=decide_eq_false h0
  have e:endB s m L x=false:=by unfold endB;rw [if_neg h,b2,Bool.false_and]
  rw [e]
  refine Fn.intro [.tmp 4] Tryz.func48 rfl rfl (by decide) (by simp [Tryz.ntmps48]) ?_;rw [Tryz.ntmps48]
  repeat' (first|omega|(try apply yaa);simp only [go_sem,sevalprocAttr,b1,b2]|(refine ⟨yaf.fn (r:=?_) rfl ?_ ?_⟩;rotate_left;assumption)|(refine ⟨yak.fn (r:=?_) rfl ?_ ?_⟩;rotate_left;assumption)|apply yad<;>(intro h_;(try simp only [h_]);revert h_)|apply yac|apply yab|apply gspI|apply And.intro|with_reducible intro h_|trivial|simp only [go_sem,la2];omega)
section
variable (s m:List Int) (L:Int) (s' m':List Int) (L' x y:Int) (hv:yah s m L=true) (hv':yah s' m' L'=true)
include hv hv'
theorem ywx (he:endB s m L x=false\/endB s' m' L' y=false):Fn Tryz.prog 14 [dgA s m L,I x,dgA s' m' L',I y] (.tup [.agg [.nils, .nils,I 0],I 2]):=by
 have v1:=ya8 hv
 have v2:=ya8 hv'
 have hV:=ycc s m L
 rw [hv] at hV
 have hV':=ycc s' m' L'
 rw [hv'] at hV'
 have hE:=yjn s m L x v1.len (by have:=v1.s64;omega)
 have hE':=yjn s' m' L' y v2.len (by have:=v2.s64;omega)
 cases h1:endB s m L x with
 |false=>
  rw [h1] at hE
  refine Fn.intro [.cell 8 24, .tmp 9] Tryz.func14 rfl rfl (by decide) (by simp [Tryz.ntmps14]) ?_;rw [Tryz.ntmps14]
  repeat' (first|omega|(try apply yaa);simp only [go_sem,sevalprocAttr,hE]|(refine ⟨yaf.fn (r:=?_) rfl ?_ ?_⟩;rotate_left;assumption)|(refine ⟨yak.fn (r:=?_) rfl ?_ ?_⟩;rotate_left;assumption)|apply yad<;>(intro h_;(try simp only [h_]);revert h_)|apply yac|apply yab|apply gspI|apply And.intro|with_reducible intro h_|trivial|simp only [go_sem,la2];omega)
 |true=>
  have h2:endB s' m' L' y=false:=by rcases he with h|h;rw [h] at h1;cases h1;exact h
  rw [h1] at hE
  rw [h2] at hE'
  refine Fn.intro [.cell 8 24, .tmp 9] Tryz.func14 rfl rfl (by decide) (by simp [Tryz.ntmps14]) ?_;rw [Tryz.ntmps14]
  repeat' (first|omega|(try apply yaa);simp only [go_sem,sevalprocAttr,hE]|(refine ⟨yaf.fn (r:=?_) rfl ?_ ?_⟩;rotate_left;assumption)|(refine ⟨yak.fn (r:=?_) rfl ?_ ?_⟩;rotate_left;assumption)|apply yad<;>(intro h_;(try simp only [h_]);revert h_)|apply yac|apply yab|apply gspI|apply And.intro|with_reducible intro h_|trivial|simp only [go_sem,la2];omega)
theorem y87 (h1:endB s m L x=true) (h2:endB s' m' L' y=true) (hxy:x= -1\/y= -1) (hs:s.length+s'.length<=64) (hL:L+L'<=64):
  Fn Tryz.prog 14 [dgA s m L,I x,dgA s' m' L',I y] (.tup [dgA (s++s') (Sp.unM m m') (L+L'-1),I 0]):=by
 have v1:=ya8 hv
 have v2:=ya8 hv'
 have hV:=ycc s m L
 rw [hv] at hV
 have hV':=ycc s' m' L'
 rw [hv'] at hV'
 have l1:=v1.len
 have l2:=v2.len
 have l3:=v1.l0
 have l4:=v2.l0
 have hE:=yjn s m L x l1 (by omega)
 rw [h1] at hE
 have hE':=yjn s' m' L' y l2 (by omega)
 rw [h2] at hE'
 have hB:=yqr s m L s' m' L' (L+L'-1) hs (by omega) (by omega) (fun i hi=>by
  have:=v2.prd.ok.2 i (by omega)
  have:=v2.s64
  omega) (by omega)
 rw [ym9,show m++m'.map (fun x=>x+(m.length:Int))=Sp.unM m m' from rfl] at hB
 have bxy:(x== -1)=true\/((x== -1)=false/\(y== -1)=true):=by
  by_cases h:x= -1
  ·exact .inl (by rw [beq_iff_eq];exact h)
  ·exact .inr ⟨by rw [beq_eq_false_iff_ne];exact h,by rw [beq_iff_eq];omega⟩
 rcases bxy with b1|⟨b1,b2⟩
 ·refine Fn.intro [.cell 8 24, .tmp 9] Tryz.func14 rfl rfl (by decide) (by simp [Tryz.ntmps14]) ?_;rw [Tryz.ntmps14]
  repeat' (first|omega|(try apply yaa);simp only [go_sem,sevalprocAttr,b1]|(refine ⟨yaf.fn (r:=?_) rfl ?_ ?_⟩;rotate_left;assumption)|(refine ⟨yak.fn (r:=?_) rfl ?_ ?_⟩;rotate_left;assumption)|apply yad<;>(intro h_;(try simp only [h_]);revert h_)|apply yac|apply yab|apply gspI|apply And.intro|with_reducible intro h_|trivial|simp only [go_sem,la2];omega)
 ·refine Fn.intro [.cell 8 24, .tmp 9] Tryz.func14 rfl rfl (by decide) (by simp [Tryz.ntmps14]) ?_;rw [Tryz.ntmps14]
  repeat' (first|omega|(try apply yaa);simp only [go_sem,sevalprocAttr,b1,b2]|(refine ⟨yaf.fn (r:=?_) rfl ?_ ?_⟩;rotate_left;assumption)|(refine ⟨yak.fn (r:=?_) rfl ?_ ?_⟩;rotate_left;assumption)|apply yad<;>(intro h_;(try simp only [h_]);revert h_)|apply yac|apply yab|apply gspI|apply And.intro|with_reducible intro h_|trivial|simp only [go_sem,la2];omega)
end
end Go.Proofs.YtmdjdekgakidhaaGreatDoor
set_option linter.unusedSimpArgs false
set_option linter.unusedVariables false
namespace Go.Proofs.YtmdjdekgakidhaaGreatDoor
open Go Go.RowKit
set_option maxRecDepth 100000
set_option maxHeartbeats 4000000
end Go.Proofs.YtmdjdekgakidhaaGreatDoor
set_option linter.unusedSimpArgs false
set_option linter.unusedVariables false
namespace Go.Proofs.YtmdjdekgakidhaaGreatDoor
open Go Go.RowKit
set_option maxRecDepth 100000
set_option maxHeartbeats 8000000
theorem y46 (s m:List Int) (L:Int) (s' m':List Int) (L':Int) (hv:yah s m L=true) (hv':yah s' m' L'=true) (hs:s.length+s'.length<=64) (hL:L+L'<=64):
  Fn Tryz.prog 8 [dgA s m L,dgA s' m' L'] (.tup [dgA (s++s') (Sp.unM m m') (L+L'),I 0]):=by
 have v1:=ya8 hv
 have v2:=ya8 hv'
 have hV:=ycc s m L
 rw [hv] at hV
 have hV':=ycc s' m' L'
 rw [hv'] at hV'
 have l1:=v1.len
 have l2:=v2.len
 have l3:=v1.l0
 have l4:=v2.l0
 have hB:=yqr s m L s' m' L' (L+L') hs (by omega) (by omega) (fun i hi=>by
  have:=v2.prd.ok.2 i (by omega)
  have:=v2.s64
  omega) hL
 rw [ym9] at hB
 refine Fn.introL [.cell 4 24, .tmp 5] Tryz.func8 rfl rfl (by decide) (by simp [Tryz.ntmps8]) ?_;rw [Tryz.ntmps8]
 repeat' (first|omega|(try apply yaa);simp only [go_sem,sevalprocAttr]|apply yad<;>(intro h_;(try simp only [h_]);revert h_)|apply yac|apply yab|apply gspI|apply And.intro|with_reducible intro h_|trivial|simp only [go_sem,la2];omega)
 refine ⟨yaf.fn rfl hV ?_⟩
 repeat' (first|omega|(try apply yaa);simp only [go_sem,sevalprocAttr]|apply yad<;>(intro h_;(try simp only [h_]);revert h_)|apply yac|apply yab|apply gspI|apply And.intro|with_reducible intro h_|trivial|simp only [go_sem,la2];omega)
 refine ⟨yaf.fn rfl hV' ?_⟩
 repeat' (first|omega|(try apply yaa);simp only [go_sem,sevalprocAttr]|apply yad<;>(intro h_;(try simp only [h_]);revert h_)|apply yac|apply yab|apply gspI|apply And.intro|with_reducible intro h_|trivial|simp only [go_sem,la2];omega)
 refine ⟨yaf.fn rfl hB ?_⟩
 repeat' (first|omega|(try apply yaa);simp only [go_sem,sevalprocAttr]|apply yad<;>(intro h_;(try simp only [h_]);revert h_)|apply yac|apply yab|apply gspI|apply And.intro|with_reducible intro h_|trivial|simp only [go_sem,la2];omega)
 all_goals exact LeA.of (by simp [Sp.unM])
end Go.Proofs.YtmdjdekgakidhaaGreatDoor
