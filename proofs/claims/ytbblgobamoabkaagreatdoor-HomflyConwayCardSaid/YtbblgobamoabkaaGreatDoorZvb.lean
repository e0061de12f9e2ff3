/- Layer 12: Term. -/
import Derived.Test.YtbblgobamoabkaaGreatDoorZf
import Derived.Test.YtbblgobamoabkaaGreatDoorZx
import Derived.Test.YtbblgobamoabkaaGreatDoorGb
import Derived.Test.YtbblgobamoabkaaGreatDoorZd
import Derived.Test.YtbblgobamoabkaaGreatDoorZb
set_option linter.unusedSimpArgs false
set_option linter.unusedVariables false
namespace Go.Proofs.YtbblgobamoabkaaGreatDoor
open Go Go.RowKit
set_option maxHeartbeats 8000000
set_option maxRecDepth 100000
theorem yjz (c e:Int) (h0: -1125899906842624<=c/\c<=1125899906842624) (h1: -1048576<=e/\e<=1048576):Fn Tryz.prog 20 [I c,I e] (plA false (trm c e)):=by
 have hw1:=yc4 c 1125899906842624 (by omega) (by omega)
 have hw2:=yc4 e 1048576 (by omega) (by omega)
 rw [yp7 (by omega) (by omega)] at hw1 hw2
 unfold trm
 by_cases h:c=0
 ·have bz:(c==0)=true:=by simpa using h
  rw [if_pos h]
  refine Fn.introL [.cell 4 47] Tryz.func20 rfl rfl (by decide) (by simp [Tryz.ntmps20]) ?_;rw [Tryz.ntmps20]
  repeat' (first|omega|(try apply yaa);simp only [go_sem,sevalprocAttr,bz]|apply yab<;>(intro h_;(try simp only [h_]);revert h_)|apply And.intro|with_reducible intro h_|trivial|simp only [go_sem,la2];omega)
  all_goals exact LeA.aggL (.cons (LeA.refl _) (.cons (LeA.nils (by omega) rfl) .nil))
 ·have bz:(c==0)=false:=by rw [beq_eq_false_iff_ne];exact h
  rw [if_neg h]
  refine Fn.introL [.cell 4 47] Tryz.func20 rfl rfl (by decide) (by simp [Tryz.ntmps20]) ?_;rw [Tryz.ntmps20]
  repeat' (first|omega|(try apply yaa);simp only [go_sem,sevalprocAttr,bz]|apply yab<;>(intro h_;(try simp only [h_]);revert h_)|apply And.intro|with_reducible intro h_|trivial|simp only [go_sem,la2];omega)
  refine ⟨yad.fn rfl hw1 ?_⟩
  repeat' (first|omega|(try apply yaa);simp only [go_sem,sevalprocAttr]|apply yab<;>(intro h_;(try simp only [h_]);revert h_)|apply And.intro|with_reducible intro h_|trivial|simp only [go_sem,la2];omega)
  refine ⟨yad.fn rfl hw2 ?_⟩
  repeat' (first|omega|(try apply yaa);simp only [go_sem,sevalprocAttr]|apply yab<;>(intro h_;(try simp only [h_]);revert h_)|apply And.intro|with_reducible intro h_|trivial|simp only [go_sem,la2];omega)
  all_goals exact LeA.of rfl
end Go.Proofs.YtbblgobamoabkaaGreatDoor
set_option linter.unusedSimpArgs false
set_option linter.unusedVariables false
namespace Go.Proofs.YtbblgobamoabkaaGreatDoor
open Go Go.RowKit
set_option maxRecDepth 100000
set_option maxHeartbeats 8000000
theorem yni (p:List (Int×Int)) (h:0<p.length):Fn Tryz.prog 84 [plA false p] (I (p.getD 0 (0,0)).1):=by
 have hc:=ybm p
 have e:=ybk p 0 h
 rw [Nat.zero_mul] at e
 have b0:((p.length:Int)==0)=false:=by rw [beq_eq_false_iff_ne];omega
 refine Fn.intro [.tmp 2] Tryz.func84 rfl rfl (by decide) (by simp [Tryz.ntmps84]) ?_;rw [Tryz.ntmps84]
 repeat' (first|omega|(try apply yaa);simp only [go_sem,sevalprocAttr,b0,e,hc]|apply yab<;>(intro h_;(try simp only [h_]);revert h_)|apply And.intro|with_reducible intro h_|trivial|simp only [go_sem,la2];omega)
theorem yq1 (p:List (Int×Int)) (h:0<p.length) (hp:p.length<=1000000):Fn Tryz.prog 85 [plA false p] (I (p.getD (p.length-1) (0,0)).1):=by
 have hc:=ybm p
 have e:=ybk p (p.length-1) (by omega)
 have b0:((p.length:Int)==0)=false:=by rw [beq_eq_false_iff_ne];omega
 have e1:((p.length:Int)-1).toNat=p.length-1:=by omega
 refine Fn.intro [.tmp 2] Tryz.func85 rfl rfl (by decide) (by simp [Tryz.ntmps85]) ?_;rw [Tryz.ntmps85]
 repeat' (first|omega|(try apply yaa);simp only [go_sem,sevalprocAttr,b0,e,e1,hc]|apply yab<;>(intro h_;(try simp only [h_]);revert h_)|apply And.intro|with_reducible intro h_|trivial|simp only [go_sem,la2];omega)
end Go.Proofs.YtbblgobamoabkaaGreatDoor
set_option linter.unusedSimpArgs false
set_option linter.unusedVariables false
namespace Go.Proofs.YtbblgobamoabkaaGreatDoor
open Go Go.RowKit
set_option maxRecDepth 100000
set_option maxHeartbeats 8000000
theorem y5w (p:List (Int×Int)):Fn Tryz.prog 86 [plA false p] (.bool ((p.length:Int)==0)):=by
 refine Fn.intro [.tmp 2] Tryz.func86 rfl rfl (by decide) (by simp [Tryz.ntmps86]) ?_;rw [Tryz.ntmps86]
 repeat' (first|omega|(try apply yaa);simp only [go_sem,sevalprocAttr]|apply yab<;>(intro h_;(try simp only [h_]);revert h_)|apply And.intro|with_reducible intro h_|trivial|simp only [go_sem,la2];omega)
end Go.Proofs.YtbblgobamoabkaaGreatDoor
set_option linter.unusedSimpArgs false
set_option linter.unusedVariables false
namespace Go.Proofs.YtbblgobamoabkaaGreatDoor
open Go Go.RowKit
section
variable {P:Program} {B:Nat} {w0:ybh} {Mx:Nat->Prop} {N:Nat}
end
end Go.Proofs.YtbblgobamoabkaaGreatDoor
namespace Go.Proofs.YtbblgobamoabkaaGreatDoor
open Go Go.RowKit
set_option maxRecDepth 100000
set_option maxHeartbeats 8000000
set_option linter.unusedVariables false
set_option linter.unusedSimpArgs false
def cmpI (a b:Int):Int:=if a<b then-1 else if b<a then 1 else 0
theorem yq2 (a:Int):Fn Tryz.prog 152 [I a] (.bool false):=by
 have h:(a !=a)=false:=by simp
 refine Fn.intro [.tmp 2] Tryz.func152 rfl rfl (by decide) (by simp [Tryz.ntmps152]) ?_;rw [Tryz.ntmps152]
 repeat' (first|omega|(try apply yaa);simp only [go_sem,sevalprocAttr,h]|apply yab<;>(intro h_;(try simp only [h_]);revert h_)|apply And.intro|with_reducible intro h_|trivial|simp only [go_sem,la2];omega)
theorem yvi (a b:Int):Fn Tryz.prog 126 [I a,I b] (I (cmpI a b)):=by
 have ha:=yq2 a
 have hb:=yq2 b
 unfold cmpI
 by_cases h1:a<b
 ·rw [if_pos h1]
  have b1:decide (a<b)=true:=by simpa using h1
  refine Fn.intro [.tmp 4] Tryz.func126 rfl rfl (by decide) (by simp [Tryz.ntmps126]) ?_;rw [Tryz.ntmps126]
  repeat' (first|omega|(try apply yaa);simp only [go_sem,sevalprocAttr,b1]|(refine ⟨yad.fn (r:=?_) rfl ?_ ?_⟩;rotate_left;assumption)|(refine ⟨yag.fn (r:=?_) rfl ?_ ?_⟩;rotate_left;assumption)|apply yab<;>(intro h_;(try simp only [h_]);revert h_)|apply And.intro|with_reducible intro h_|trivial|simp only [go_sem,la2];omega)
 ·rw [if_neg h1]
  have b1:decide (a<b)=false:=by simpa using h1
  by_cases h2:b<a
  ·rw [if_pos h2]
   have b2:decide (b<a)=true:=by simpa using h2
   refine Fn.intro [.tmp 4] Tryz.func126 rfl rfl (by decide) (by simp [Tryz.ntmps126]) ?_;rw [Tryz.ntmps126]
   repeat' (first|omega|(try apply yaa);simp only [go_sem,sevalprocAttr,b1,b2]|(refine ⟨yad.fn (r:=?_) rfl ?_ ?_⟩;rotate_left;assumption)|(refine ⟨yag.fn (r:=?_) rfl ?_ ?_⟩;rotate_left;assumption)|apply yab<;>(intro h_;(try simp only [h_]);revert h_)|apply And.intro|with_reducible intro h_|trivial|simp only [go_sem,la2];omega)
  ·rw [if_neg h2]
   have b2:decide (b<a)=false:=by simpa using h2
   refine Fn.intro [.tmp 4] Tryz.func126 rfl rfl (by decide) (by simp [Tryz.ntmps126]) ?_;rw [Tryz.ntmps126]
   repeat' (first|omega|(try apply yaa);simp only [go_sem,sevalprocAttr,b1,b2]|(refine ⟨yad.fn (r:=?_) rfl ?_ ?_⟩;rotate_left;assumption)|(refine ⟨yag.fn (r:=?_) rfl ?_ ?_⟩;rotate_left;assumption)|apply yab<;>(intro h_;(try simp only [h_]);revert h_)|apply And.intro|with_reducible intro h_|trivial|simp only [go_sem,la2];omega)
theorem yq3 (x c e:Int):Fn Tryz.prog 128 [.agg [I x,I c],I e] (I (cmpI x e)):=by
 have h:=yvi x e
 refine Fn.intro [.tmp 4] Tryz.func128 rfl rfl (by decide) (by simp [Tryz.ntmps128]) ?_;rw [Tryz.ntmps128]
 repeat' (first|omega|(try apply yaa);simp only [go_sem,sevalprocAttr,h]|(refine ⟨yad.fn (r:=?_) rfl ?_ ?_⟩;rotate_left;assumption)|(refine ⟨yag.fn (r:=?_) rfl ?_ ?_⟩;rotate_left;assumption)|apply yab<;>(intro h_;(try simp only [h_]);revert h_)|apply And.intro|with_reducible intro h_|trivial|simp only [go_sem,la2];omega)
def bsI (p:List (Int×Int)) (e:Int):Nat:=p.countP fun t=>decide (t.1<e)
theorem y7f {p:List (Int×Int)} {e:Int} {i:Nat} (hi:i<=p.length) (h1: ∀k,k<i->(p.getD k (0,0)).1<e) (h2: ∀k,i<=k->k<p.length-> ¬(p.getD k (0,0)).1<e):bsI p e=i:=by
 have e1:p=p.take i++p.drop i:=(List.take_append_drop i p).symm
 unfold bsI
 rw [e1,List.countP_append]
 have a:(p.take i).countP (fun t=>decide (t.1<e))=(p.take i).length:=by
  rw [List.countP_eq_length]
  intro t ht
  obtain ⟨k,hk,rfl⟩:=List.mem_iff_getElem.1 ht
  simp only [List.length_take] at hk
  have:=h1 k (by omega)
  rw [List.getElem_take]
  simp only [List.getD_eq_getElem?_getD,List.getElem?_eq_getElem (show k<p.length by omega),Option.getD_some] at this
  simpa using this
 have b:(p.drop i).countP (fun t=>decide (t.1<e))=0:=by
  rw [List.countP_eq_zero]
  intro t ht
  obtain ⟨k,hk,rfl⟩:=List.mem_iff_getElem.1 ht
  simp only [List.length_drop] at hk
  have:=h2 (i+k) (by omega) (by omega)
  rw [List.getElem_drop]
  simp only [List.getD_eq_getElem?_getD,List.getElem?_eq_getElem (show i+k<p.length by omega),Option.getD_some] at this
  simpa using this
 rw [a,b,List.length_take];omega
theorem ytr {p:List (Int×Int)} (h:AscN p) {i j:Nat} (hij:i<j) (hj:j<p.length):(p.getD i (0,0)).1<(p.getD j (0,0)).1:=by
 have:=List.pairwise_iff_getElem.1 h.asc i j (by omega) hj hij
 simpa [List.getD_eq_getElem?_getD,List.getElem?_eq_getElem (show i<p.length by omega),List.getElem?_eq_getElem hj] using this
theorem yog {p:List (Int×Int)} (h:AscN p) (e:Int):bsI p e<=p.length/\(∀k,k<bsI p e->(p.getD k (0,0)).1<e)/\ ∀k,bsI p e<=k->k<p.length-> ¬(p.getD k (0,0)).1<e:=by
 have key: ∀n,n<=p.length-> ∃i,i<=n/\(∀k,k<i->(p.getD k (0,0)).1<e)/\ ∀k,i<=k->k<n-> ¬(p.getD k (0,0)).1<e:=fun n=>by
  induction n with
  |zero=>exact fun _=>⟨0,by omega,fun k hk=>by omega,fun k _ hk=>by omega⟩
  |succ n ih=>
   intro hn
   obtain ⟨i,h0,h1,h2⟩:=ih (by omega)
   by_cases hx:(p.getD n (0,0)).1<e
   ·have hin:i=n:=Nat.le_antisymm h0 (Nat.le_of_not_lt fun hlt=>h2 i (Nat.le_refl _) hlt (by have:=ytr h hlt (by omega);omega))
    subst hin
    refine ⟨i+1,by omega,fun k hk=>?_,fun k hk hk2=>by omega⟩
    by_cases hki:k<i
    ·exact h1 k hki
    ·rw [show k=i by omega];exact hx
   ·refine ⟨i,by omega,h1,fun k hk hk2=>?_⟩
    by_cases hkn:k<n
    ·exact h2 k hk hkn
    ·rw [show k=n by omega];exact hx
 obtain ⟨i,h0,h1,h2⟩:=key p.length (Nat.le_refl _)
 rw [y7f h0 h1 h2]
 exact ⟨h0,h1,h2⟩
def bsB (p:List (Int×Int)) (e:Int):Bool:=decide (bsI p e<p.length)&&((p.getD (bsI p e) (0,0)).1==e)
theorem yvj (p:List (Int×Int)) (e:Int) (h:AscN p) (hl:p.length<=1000000):Fn Tryz.prog 127 [tmA p,I e, .fn 128 []] (.tup [I (bsI p e), .bool (bsB p e)]):=by
 obtain ⟨s0,s1,s2⟩:=yog h e
 have hlen:=ybm p
 refine Fn.intro [.tmp 6, .tmp 7] Tryz.func127 rfl rfl (by decide) (by simp [Tryz.ntmps127]) ?_;rw [Tryz.ntmps127]
 repeat' (first|omega|(try apply yaa);simp only [go_sem,sevalprocAttr]|apply yab<;>(intro h_;(try simp only [h_]);revert h_)|apply And.intro|with_reducible intro h_|trivial|simp only [go_sem,la2];omega)
 refine yal.intro (fun n fr H=> ∃i j:Nat,i<=bsI p e/\bsI p e<=j/\j<=p.length/\n=j-i/\fr=[(10,I j),(9,I i),(8,I p.length),(2, .fn 128 []),(1,I e),(0,tmA p)]/\H=[]) ?_ ?_
 ·refine ⟨_,_,_,Wk.sub ?_ ?_,0,p.length,by omega,s0,by omega,rfl,rfl,rfl⟩<;>(simp only [go_sem,sevalprocAttr,yam])
 rintro n fr H ⟨i,j,hi,hj,hjl,rfl,rfl,rfl⟩
 by_cases hij:i<j
 ·have bij:decide ((i:Int)<j)=true:=by simpa using hij
  have e1:IntKind.u64.wrap ((i:Int)+j)=(i:Int)+j:=by rw [IntKind.wrap_u64];omega
  obtain ⟨k,hk⟩: ∃k:Nat,k=(i+j)/2:=⟨_,rfl⟩
  have e2:IntKind.i64.wrap (((i:Int)+j)/2^1)=(k:Nat):=by rw [IntWalk.i64_in _ (by omega)];omega
  have e3:IntKind.i64.wrap (((i:Int)+j)/2)=(k:Nat):=e2
  have hkl:k<p.length:=by omega
  have g0:=ybk p k hkl
  have g1:=ycw p k hkl
  have hC:=yq3 (p.getD k (0,0)).1 (p.getD k (0,0)).2 e
  by_cases hx:(p.getD k (0,0)).1<e
  ·have hb:decide (cmpI (p.getD k (0,0)).1 e<0)=true:=by unfold cmpI;rw [if_pos hx];rfl
   have hkb:k<bsI p e:=Nat.lt_of_not_le fun hle=>s2 k hle hkl hx
   repeat' (first|omega|(try apply yaa);simp only [go_sem,sevalprocAttr,bij,e1,e2,e3,g0,g1,hlen]|apply yab<;>(intro h_;(try simp only [h_]);revert h_)|apply And.intro|with_reducible intro h_|trivial|simp only [go_sem,la2];omega)
   refine ⟨yad.fn rfl hC ?_⟩
   repeat' (first|omega|(try apply yaa);simp only [go_sem,sevalprocAttr,hb]|apply yab<;>(intro h_;(try simp only [h_]);revert h_)|apply And.intro|with_reducible intro h_|trivial|simp only [go_sem,la2];omega)
   refine ⟨_,_,_,?_,Wk.sub ?_ ?_,k+1,j,by omega,by omega,by omega,rfl,rfl,rfl⟩
   ·omega
   ·simp only [go_sem,sevalprocAttr,yam]
   ·simp only [go_sem,sevalprocAttr]
  ·have hb:decide (cmpI (p.getD k (0,0)).1 e<0)=false:=by unfold cmpI;rw [if_neg hx];split<;>rfl
   have hkb:bsI p e<=k:=Nat.le_of_not_lt fun hlt=>hx (s1 k hlt)
   repeat' (first|omega|(try apply yaa);simp only [go_sem,sevalprocAttr,bij,e1,e2,e3,g0,g1,hlen]|apply yab<;>(intro h_;(try simp only [h_]);revert h_)|apply And.intro|with_reducible intro h_|trivial|simp only [go_sem,la2];omega)
   refine ⟨yad.fn rfl hC ?_⟩
   repeat' (first|omega|(try apply yaa);simp only [go_sem,sevalprocAttr,hb]|apply yab<;>(intro h_;(try simp only [h_]);revert h_)|apply And.intro|with_reducible intro h_|trivial|simp only [go_sem,la2];omega)
   refine ⟨_,_,_,?_,Wk.sub ?_ ?_,i,k,by omega,by omega,by omega,rfl,rfl,rfl⟩
   ·omega
   ·simp only [go_sem,sevalprocAttr,yam]
   ·simp only [go_sem,sevalprocAttr]
 ·obtain rfl:i=j:=by omega
  obtain rfl:i=bsI p e:=by omega
  have bij:decide (((bsI p e:Nat):Int)<(bsI p e:Nat))=false:=by simp
  by_cases hn:bsI p e<p.length
  ·have bn:decide (((bsI p e:Nat):Int)<(p.length:Nat))=true:=by simpa using hn
   have g0:=ybk p _ hn
   have g1:=ycw p _ hn
   have hC:=yq3 (p.getD (bsI p e) (0,0)).1 (p.getD (bsI p e) (0,0)).2 e
   have hx:=s2 _ (Nat.le_refl _) hn
   have hB:bsB p e=(cmpI (p.getD (bsI p e) (0,0)).1 e==0):=by
    unfold bsB cmpI
    rw [decide_eq_true hn,if_neg hx,Bool.true_and]
    by_cases h3:e<(p.getD (bsI p e) (0,0)).1
    ·rw [if_pos h3,beq_eq_false_iff_ne.2 (by omega)];rfl
    ·rw [if_neg h3,beq_iff_eq.2 (by omega)];rfl
   rw [hB]
   repeat' (first|omega|(try apply yaa);simp only [go_sem,sevalprocAttr,bij,bn,g0,g1,hlen]|apply yab<;>(intro h_;(try simp only [h_]);revert h_)|apply And.intro|with_reducible intro h_|trivial|simp only [go_sem,la2];omega)
   refine ⟨yad.fn rfl hC ?_⟩
   repeat' (first|omega|(try apply yaa);simp only [go_sem,sevalprocAttr,bn]|apply yab<;>(intro h_;(try simp only [h_]);revert h_)|apply And.intro|with_reducible intro h_|trivial|simp only [go_sem,la2];omega)
  ·have bn:decide (((bsI p e:Nat):Int)<(p.length:Nat))=false:=by simpa using hn
   have hB:bsB p e=false:=by unfold bsB;rw [decide_eq_false hn];rfl
   rw [hB]
   repeat' (first|omega|(try apply yaa);simp only [go_sem,sevalprocAttr,bij,bn]|apply yab<;>(intro h_;(try simp only [h_]);revert h_)|apply And.intro|with_reducible intro h_|trivial|simp only [go_sem,la2];omega)
theorem y5x {p:List (Int×Int)} {e:Int} (h:AscN p) (hb:bsB p e=true):bsI p e<p.length/\cfL p e=(p.getD (bsI p e) (0,0)).2:=by
 unfold bsB at hb
 simp only [Bool.and_eq_true,decide_eq_true_eq,beq_iff_eq] at hb
 refine ⟨hb.1,?_⟩
 have:=yf2 h (yce hb.1)
 rwa [hb.2] at this
theorem y5y {p:List (Int×Int)} {e:Int} (h:AscN p) (hb:bsB p e=false):cfL p e=0:=by
 refine ybj fun t ht e1=>?_
 obtain ⟨s0,s1,s2⟩:=yog h e
 obtain ⟨k,hk,rfl⟩:=List.mem_iff_getElem.1 ht
 have ek:p[k]=p.getD k (0,0):=by simp [hk]
 rw [ek] at e1
 have h1:bsI p e<=k:=Nat.le_of_not_lt fun hlt=>by have:=s1 k hlt;omega
 have h2:k<=bsI p e:=Nat.le_of_not_lt fun hlt=>s2 _ (Nat.le_refl _) (by omega) (by have:=ytr h hlt hk;omega)
 obtain rfl:k=bsI p e:=by omega
 unfold bsB at hb
 rw [decide_eq_true hk,e1] at hb
 simp at hb
theorem yts (p:List (Int×Int)) (e:Int) (h:AscN p) (hl:p.length<=1000000):Fn Tryz.prog 83 [plA false p,I e] (I (cfL p e)):=by
 have hB:=yvj p e h hl
 have hlen:=ybm p
 cases hb:bsB p e with
 |true=>
  rw [hb] at hB
  obtain ⟨h1,h2⟩:=y5x h hb
  have g0:=ybk p _ h1
  have g1:=ycw p _ h1
  rw [h2]
  refine Fn.intro [.tmp 4] Tryz.func83 rfl rfl (by decide) (by simp [Tryz.ntmps83]) ?_;rw [Tryz.ntmps83]
  repeat' (first|omega|(try apply yaa);simp only [go_sem,sevalprocAttr,g1]|apply yab<;>(intro h_;(try simp only [h_]);revert h_)|apply And.intro|with_reducible intro h_|trivial|simp only [go_sem,la2];omega)
  refine ⟨yad.fn rfl hB ?_⟩
  repeat' (first|omega|(try apply yaa);simp only [go_sem,sevalprocAttr,g0,g1,hlen]|apply yab<;>(intro h_;(try simp only [h_]);revert h_)|apply And.intro|with_reducible intro h_|trivial|simp only [go_sem,la2];omega)
 |false=>
  rw [hb] at hB
  rw [y5y h hb]
  refine Fn.intro [.tmp 4] Tryz.func83 rfl rfl (by decide) (by simp [Tryz.ntmps83]) ?_;rw [Tryz.ntmps83]
  repeat' (first|omega|(try apply yaa);simp only [go_sem,sevalprocAttr,hlen]|apply yab<;>(intro h_;(try simp only [h_]);revert h_)|apply And.intro|with_reducible intro h_|trivial|simp only [go_sem,la2];omega)
  refine ⟨yad.fn rfl hB ?_⟩
  repeat' (first|omega|(try apply yaa);simp only [go_sem,sevalprocAttr,hlen]|apply yab<;>(intro h_;(try simp only [h_]);revert h_)|apply And.intro|with_reducible intro h_|trivial|simp only [go_sem,la2];omega)
end Go.Proofs.YtbblgobamoabkaaGreatDoor
set_option linter.unusedSimpArgs false
set_option linter.unusedVariables false
namespace Go.Proofs.YtbblgobamoabkaaGreatDoor
open Go Go.RowKit
end Go.Proofs.YtbblgobamoabkaaGreatDoor
