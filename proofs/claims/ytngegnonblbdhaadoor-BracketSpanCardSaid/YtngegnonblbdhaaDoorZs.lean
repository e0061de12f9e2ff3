/- Layer 7: Nugatory, Reduced, Alternating. -/
import Derived.Test.YtngegnonblbdhaaDoorZr
import Derived.Test.YtngegnonblbdhaaDoorZl
import Derived.Test.YtngegnonblbdhaaDoorBr8
import Derived.Test.YtngegnonblbdhaaDoorZm
import Derived.Test.YtngegnonblbdhaaDoorZo
import Derived.Test.YtngegnonblbdhaaDoorZp
namespace Go.Proofs.YtngegnonblbdhaaDoor
open Go Go.RowKit
set_option maxRecDepth 100000
set_option maxHeartbeats 8000000
set_option linter.unusedVariables false
set_option linter.unusedSimpArgs false
def lfM (m:List Int):List Int:=lfN (yb0 m) m.length (yb0 m).length
theorem ypi (s m:List Int) (L:Int) (hv:yao s m L=true):Fn Tryd.prog 22 [dgA s m L] (roI (ngL (lfM m) s.length)):=by
 have v1:=yb8 hv
 have h64:=v1.s64
 have hl:=v1.len
 have hV:=ych s m L
 rw [hv] at hV
 have hF:=y05 s m L hv
 have lfl:(lfM m).length=m.length:=yim _ _ _
 change Fn _ _ _ (roI (lfM m)) at hF
 generalize lfM m=lf at*
 refine Fn.introL [.tmp 2] Tryd.func22 rfl rfl (by decide) (by simp [Tryd.ntmps22]) ?_;rw [Tryd.ntmps22]
 repeat' (first|omega|(try apply yaa);simp only [go_sem,sevalprocAttr]|apply yab<;>(intro h_;(try simp only [h_]);revert h_)|apply And.intro|with_reducible intro h_|trivial|simp only [go_sem,la2];omega)
 refine ⟨yad.fn rfl hV ?_⟩
 repeat' (first|omega|(try apply yaa);simp only [go_sem,sevalprocAttr]|apply yab<;>(intro h_;(try simp only [h_]);revert h_)|apply And.intro|with_reducible intro h_|trivial|simp only [go_sem,la2];omega)
 refine ⟨yad.fn rfl hF ?_⟩
 repeat' (first|omega|(try apply yaa);simp only [go_sem,sevalprocAttr]|apply yab<;>(intro h_;(try simp only [h_]);revert h_)|apply And.intro|with_reducible intro h_|trivial|simp only [go_sem,la2];omega)
 refine yak.intro (fun n' fr H=> ∃c:Nat,c<=s.length/\n'=s.length-c/\(((ngL lf c)=[]/\fr=[(15,I c),(14,I s.length),(4, .nils),(3,roI lf)]/\H=[])\/
  (fr=[(15,I c),(14,I s.length),(4, .sl 1 4 0 (ngL lf c).length),(3,roI lf)]/\H=[(4, .cells 3 (.ints (ngL lf c)))]))) ?_ ?_
 ·refine ⟨_,_,_,Wk.sub ?_ ?_,0,by omega,rfl, .inl ⟨rfl,rfl,rfl⟩⟩
  ·simp only [go_sem,sevalprocAttr]
  ·simp only [go_sem,sevalprocAttr]
 rintro n' fr H ⟨c,hc,rfl,hcase⟩
 by_cases hcn:c<s.length
 ·have bc:decide ((c:Int)<s.length)=true:=by simp;omega
  have hfl:=yus (n:=s.length) (by omega) hcn (lf:=lf)
  have hcl:=yut (ycl lf c) (by omega) (by omega)
  have e1:(4*(c:Int)).toNat=4*c:=by omega
  have e2:(4*(c:Int)+4).toNat=4*c+4:=by omega
  have e3:4*c+4-4*c=4:=by omega
  have ef:List.take 4 (List.drop (4*c) lf)=ycl lf c:=rfl
  have rF:roI (ycl lf c)= .ro 1 4 (.ints (ycl lf c)):=by show AV.ro 1 (ycl lf c).length _=_;rw [hfl]
  rw [rF,hfl] at hcl
  have hng:=yln lf c
  rcases hcase with ⟨hnil,rfl,rfl⟩|⟨rfl,rfl⟩
  ·repeat' (first|omega|(try apply yaa);simp only [go_sem,sevalprocAttr,bc,e1,e2,e3,lfl,ef]|apply yab<;>(intro h_;(try simp only [h_]);revert h_)|apply And.intro|with_reducible intro h_|trivial|simp only [go_sem,la2];omega)
   refine ⟨yad.fno rfl hcl ?_⟩
   simp only [go_sem,sevalprocAttr]
   refine WpA.wk (Wk.subS 0 5 (fr':=[(6, .sl 1 5 0 4),(5,I c),(15,I c),(14,I s.length),(4, .nils),(3,roI lf)]) (H':=stH (ycl lf c) []) (fr1:=[(6, .sl 1 0 0 4),(5,I c),(15,I c),(14,I s.length),(4, .nils),(3,roI lf)]) (H1:=[(0, .cells 3 (.ints (ycl lf c)))]) rfl rfl rfl rfl ?_ ?_) ?_
   ·simp only [go_sem,sevalprocAttr,lfl]
   ·simp only [go_sem,sevalprocAttr]
   repeat' (first|omega|(try apply yaa);simp only [go_sem,sevalprocAttr]|apply yab<;>(intro h_;(try simp only [h_]);revert h_)|apply And.intro|with_reducible intro h_|trivial|simp only [go_sem,la2];omega)
   refine ⟨yad.inline (ymf [] (.inl rfl) (ycl lf c) hfl ?_)⟩
   intro l1 q1 q2 q3
   repeat' (first|omega|(try apply yaa);simp only [go_sem,sevalprocAttr]|apply yab<;>(intro h_;(try simp only [h_]);revert h_)|apply And.intro|with_reducible intro h_|trivial|simp only [go_sem,la2];omega)
   refine ⟨yad.inline (yhy [] (.inl rfl) l1 q1 ?_)⟩
   intro l2 r q4 q5 q6 q7
   by_cases hr:r<4
   ·have br:decide ((r:Int)<4)=true:=by simp;omega
    have eN:ngL lf (c+1)=ngL lf c++[(c:Int)]:=by
     simp only [ngL]
     rw [if_neg fun hd=>?_]
     obtain ⟨i,i1,i2,i3⟩:=q6 hr
     exact q3.2 hd i (i-1) i2 (by omega) (by omega) i3
    repeat' (first|omega|(try apply yaa);simp only [go_sem,sevalprocAttr,br]|apply yab<;>(intro h_;(try simp only [h_]);revert h_)|apply And.intro|with_reducible intro h_|trivial|simp only [go_sem,la2];omega)
    have eN1:ngL lf (c+1)=[(c:Int)]:=by rw [eN,hnil];rfl
    refine ⟨_,_,_,?_,Wk.subS 4 7 (fr':=[(15,I ((c+1:Nat):Int)),(14,I s.length),(4, .sl 1 4 0 1),(3, .ro 1 m.length (.ints lf))]) (H':=[(4, .cells 3 (.ints [(c:Int)]))]) (fr1:=[(15,I ((c+1:Nat):Int)),(14,I s.length),(4, .sl 1 7 0 1),(3, .ro 1 m.length (.ints lf))]) (H1:=[(7, .cells 3 (.ints [(c:Int)]))]) rfl rfl rfl rfl ?_ ?_,c+1,by omega,rfl, .inr ⟨by rw [eN1];rfl,by rw [eN1]⟩⟩
    ·omega
    ·simp only [go_sem,sevalprocAttr,lfl]
    ·simp only [go_sem,sevalprocAttr]
   ·have br:decide ((r:Int)<4)=false:=by simp;omega
    have eN:ngL lf (c+1)=ngL lf c:=by
     simp only [ngL]
     rw [if_pos (q3.1 (yur q2 (q7 (by omega))))]
    repeat' (first|omega|(try apply yaa);simp only [go_sem,sevalprocAttr,br]|apply yab<;>(intro h_;(try simp only [h_]);revert h_)|apply And.intro|with_reducible intro h_|trivial|simp only [go_sem,la2];omega)
    refine ⟨_,_,_,?_,Wk.sub ?_ ?_,c+1,by omega,rfl, .inl ⟨by rw [eN];exact hnil,rfl,rfl⟩⟩
    ·omega
    ·simp only [go_sem,sevalprocAttr,lfl]
    ·simp only [go_sem,sevalprocAttr]
  ·repeat' (first|omega|(try apply yaa);simp only [go_sem,sevalprocAttr,bc,e1,e2,e3,lfl,ef]|apply yab<;>(intro h_;(try simp only [h_]);revert h_)|apply And.intro|with_reducible intro h_|trivial|simp only [go_sem,la2];omega)
   refine ⟨yad.fno rfl hcl ?_⟩
   simp only [go_sem,sevalprocAttr]
   repeat' (first|omega|(try apply yaa);simp only [go_sem,sevalprocAttr]|apply yab<;>(intro h_;(try simp only [h_]);revert h_)|apply And.intro|with_reducible intro h_|trivial|simp only [go_sem,la2];omega)
   refine ⟨yad.inline (ymf [(4, .cells 3 (.ints (ngL lf c)))] (.inr ⟨_,rfl⟩) (ycl lf c) hfl ?_)⟩
   intro l1 q1 q2 q3
   repeat' (first|omega|(try apply yaa);simp only [go_sem,sevalprocAttr]|apply yab<;>(intro h_;(try simp only [h_]);revert h_)|apply And.intro|with_reducible intro h_|trivial|simp only [go_sem,la2];omega)
   refine ⟨yad.inline (yhy [(4, .cells 3 (.ints (ngL lf c)))] (.inr ⟨_,rfl⟩) l1 q1 ?_)⟩
   intro l2 r q4 q5 q6 q7
   by_cases hr:r<4
   ·have br:decide ((r:Int)<4)=true:=by simp;omega
    have eN:ngL lf (c+1)=ngL lf c++[(c:Int)]:=by
     simp only [ngL]
     rw [if_neg fun hd=>?_]
     obtain ⟨i,i1,i2,i3⟩:=q6 hr
     exact q3.2 hd i (i-1) i2 (by omega) (by omega) i3
    repeat' (first|omega|(try apply yaa);simp only [go_sem,sevalprocAttr,br]|apply yab<;>(intro h_;(try simp only [h_]);revert h_)|apply And.intro|with_reducible intro h_|trivial|simp only [go_sem,la2];omega)
    refine ⟨_,_,_,?_,Wk.sub ?_ ?_,c+1,by omega,rfl, .inr ⟨rfl,rfl⟩⟩
    ·omega
    ·simp only [go_sem,sevalprocAttr,eN,lfl,List.length_append]
    ·simp only [go_sem,sevalprocAttr,eN]
   ·have br:decide ((r:Int)<4)=false:=by simp;omega
    have eN:ngL lf (c+1)=ngL lf c:=by
     simp only [ngL]
     rw [if_pos (q3.1 (yur q2 (q7 (by omega))))]
    repeat' (first|omega|(try apply yaa);simp only [go_sem,sevalprocAttr,br]|apply yab<;>(intro h_;(try simp only [h_]);revert h_)|apply And.intro|with_reducible intro h_|trivial|simp only [go_sem,la2];omega)
    refine ⟨_,_,_,?_,Wk.sub ?_ ?_,c+1,by omega,rfl, .inr ⟨rfl,rfl⟩⟩
    ·omega
    ·simp only [go_sem,sevalprocAttr,eN,lfl,List.length_append]
    ·simp only [go_sem,sevalprocAttr,eN]
 ·obtain rfl:c=s.length:=by omega
  have bc:decide ((s.length:Int)<s.length)=false:=by simp
  have hn:=yln lf s.length
  rcases hcase with ⟨hnil,rfl,rfl⟩|⟨rfl,rfl⟩
  ·rw [hnil]
   repeat' (first|omega|(try apply yaa);simp only [go_sem,sevalprocAttr,bc]|apply yab<;>(intro h_;(try simp only [h_]);revert h_)|apply And.intro|with_reducible intro h_|trivial|simp only [go_sem,la2];omega)
   all_goals exact LeA.nils (by omega) rfl
  ·generalize ngL lf s.length=l at*
   repeat' (first|omega|(try apply yaa);simp only [go_sem,sevalprocAttr,bc]|apply yab<;>(intro h_;(try simp only [h_]);revert h_)|apply And.intro|with_reducible intro h_|trivial|simp only [go_sem,la2];omega)
   all_goals exact LeA.of (by rw [List.take_of_length_le (Nat.le_refl _)])
theorem yr6 (s m:List Int) (L:Int) (hv:yao s m L=true): ∃b:Bool,Fn Tryd.prog 10 [dgA s m L] (.bool b)/\
  (b=true-> ∀c,c<s.length-> ¬Sp.SC (Sp.phK Sp.siD (Sp.alD m) (4*s.length)) (4*c) (4*c+2)/\ ¬Sp.SC (Sp.phK Sp.siD (Sp.alD m) (4*s.length)) (4*c+1) (4*c+3)):=by
 have v1:=yb8 hv
 have hD:Sp.Dia m s.length:=⟨v1.prd,fun x hx=>(v1.mt x hx).2.2.1⟩
 have hV:=ych s m L
 rw [hv] at hV
 have hN:=ypi s m L hv
 refine ⟨((ngL (lfM m) s.length).length:Int)==0,?_,fun hb=>y2g hD (by have h:((ngL (lfM m) s.length).length:Int)=0:=beq_iff_eq.1 hb;show (ngL (lfM m) s.length).length=0;omega)⟩
 generalize ngL (lfM m) s.length=l at*
 refine Fn.intro [.tmp 2] Tryd.func10 rfl rfl (by decide) (by simp [Tryd.ntmps10]) ?_;rw [Tryd.ntmps10]
 repeat' (first|omega|(try apply yaa);simp only [go_sem,sevalprocAttr,hV]|(refine ⟨yad.fn (r:=?_) rfl ?_ ?_⟩;rotate_left;assumption)|(refine ⟨yav.fn (r:=?_) rfl ?_ ?_⟩;rotate_left;assumption)|apply yab<;>(intro h_;(try simp only [h_]);revert h_)|apply And.intro|with_reducible intro h_|trivial|simp only [go_sem,la2];omega)
theorem ylp (s m:List Int) (L:Int) (hv:yao s m L=true):Fn Tryd.prog 11 [dgA s m L] (.bool (altB m m.length)):=by
 have v1:=yb8 hv
 have h64:=v1.s64
 have hl:=v1.len
 have hm:=v1.prd.ok
 have hV:=ych s m L
 rw [hv] at hV
 refine Fn.intro [.tmp 2] Tryd.func11 rfl rfl (by decide) (by simp [Tryd.ntmps11]) ?_;rw [Tryd.ntmps11]
 repeat' (first|omega|(try apply yaa);simp only [go_sem,sevalprocAttr]|apply yab<;>(intro h_;(try simp only [h_]);revert h_)|apply And.intro|with_reducible intro h_|trivial|simp only [go_sem,la2];omega)
 refine ⟨yad.fn rfl hV ?_⟩
 repeat' (first|omega|(try apply yaa);simp only [go_sem,sevalprocAttr]|apply yab<;>(intro h_;(try simp only [h_]);revert h_)|apply And.intro|with_reducible intro h_|trivial|simp only [go_sem,la2];omega)
 refine yak.intro (fun n' fr H=> ∃k:Nat,k<=m.length/\n'=m.length-k/\altB m k=true/\fr=[(11,I k),(10,I m.length),(9,roI m)]/\H=[]) ?_ ?_
 ·refine ⟨_,_,_,Wk.sub ?_ ?_,0,by omega,rfl,rfl,rfl,rfl⟩
  ·simp only [go_sem,sevalprocAttr]
  ·simp only [go_sem,sevalprocAttr]
 rintro n' fr H ⟨k,hk,rfl,ha,rfl,rfl⟩
 by_cases hkl:k<m.length
 ·have bk:decide ((k:Int)<m.length)=true:=by simp;omega
  have hr:=hm.2 k (by omega)
  have em:(m.getD k 0).tmod 2=m.getD k 0 % 2:=Int.tmod_eq_emod_of_nonneg hr.1
  have ek:(k:Int).tmod 2=(k:Int)% 2:=Int.tmod_eq_emod_of_nonneg (by omega)
  cases hb:((k:Int)% 2==m.getD k 0 % 2) with
  |true=>
   have hfl:altB m m.length=false:=by
    cases h:altB m m.length with
    |false=>rfl
    |true=>
     have:=ylo h hkl
     exact absurd (by simpa using hb) this
   repeat' (first|omega|(try apply yaa);simp only [go_sem,sevalprocAttr,bk,em,ek,hb,hfl]|apply yab<;>(intro h_;(try simp only [h_]);revert h_)|apply And.intro|with_reducible intro h_|trivial|simp only [go_sem,la2];omega)
  |false=>
   have ha2:altB m (k+1)=true:=by simp only [altB,ha,hb];rfl
   repeat' (first|omega|(try apply yaa);simp only [go_sem,sevalprocAttr,bk,em,ek,hb]|apply yab<;>(intro h_;(try simp only [h_]);revert h_)|apply And.intro|with_reducible intro h_|trivial|simp only [go_sem,la2];omega)
   refine ⟨_,_,_,?_,Wk.sub ?_ ?_,k+1,by omega,rfl,ha2,rfl,rfl⟩
   ·omega
   ·simp only [go_sem,sevalprocAttr]
   ·simp only [go_sem,sevalprocAttr]
 ·obtain rfl:k=m.length:=by omega
  have bk:decide ((m.length:Int)<m.length)=false:=by simp
  repeat' (first|omega|(try apply yaa);simp only [go_sem,sevalprocAttr,bk,ha]|apply yab<;>(intro h_;(try simp only [h_]);revert h_)|apply And.intro|with_reducible intro h_|trivial|simp only [go_sem,la2];omega)
end Go.Proofs.YtngegnonblbdhaaDoor
namespace Go.Proofs.YtngegnonblbdhaaDoor
open Go Go.RowKit
set_option maxRecDepth 100000
set_option maxHeartbeats 8000000
set_option linter.unusedVariables false
set_option linter.unusedSimpArgs false
theorem ylq {m:List Int} {n:Nat} {b:Bool} (h:AdqS m n b): ∀k,k<=n->adqN (mgB m (fun _=>b) n) k=true
 |0,_=>rfl
 |k+1,hk=>by
  simp only [adqN,Bool.and_eq_true,Bool.not_eq_true',beq_eq_false_iff_ne]
  exact ⟨ylq h k (by omega),h k (by omega)⟩
theorem ylr (s m:List Int) (L:Int):Fn Tryd.prog 3 [dgA s m L] (.bool true):=by
 have hA:=yr0
 have hG:=yr1 s m L
 have hV:=ych s m L
 cases hg:yms s m L with
 |true=>
  rw [hg] at hG
  refine Fn.intro [.tmp 2] Tryd.func3 rfl rfl (by decide) (by simp [Tryd.ntmps3]) ?_;rw [Tryd.ntmps3]
  repeat' (first|omega|(try apply yaa);simp only [go_sem,sevalprocAttr,hA]|(refine ⟨yad.fn (r:=?_) rfl ?_ ?_⟩;rotate_left;assumption)|(refine ⟨yav.fn (r:=?_) rfl ?_ ?_⟩;rotate_left;assumption)|apply yab<;>(intro h_;(try simp only [h_]);revert h_)|apply And.intro|with_reducible intro h_|trivial|simp only [go_sem,la2];omega)
 |false=>
 rw [hg] at hG
 cases hv:yao s m L with
 |false=>
  rw [hv] at hV
  refine Fn.intro [.tmp 2] Tryd.func3 rfl rfl (by decide) (by simp [Tryd.ntmps3]) ?_;rw [Tryd.ntmps3]
  repeat' (first|omega|(try apply yaa);simp only [go_sem,sevalprocAttr,hA]|(refine ⟨yad.fn (r:=?_) rfl ?_ ?_⟩;rotate_left;assumption)|(refine ⟨yav.fn (r:=?_) rfl ?_ ?_⟩;rotate_left;assumption)|apply yab<;>(intro h_;(try simp only [h_]);revert h_)|apply And.intro|with_reducible intro h_|trivial|simp only [go_sem,la2];omega)
 |true=>
 rw [hv] at hV
 have v1:=yb8 hv
 have l0:=v1.l0
 obtain ⟨k,hk,hkb,hGr⟩:=yxl s m L hv
 by_cases h1:k≠1
 ·have b1:((k:Int)!=1)=true:=by rw [bne_iff_ne];omega
  refine Fn.intro [.tmp 2] Tryd.func3 rfl rfl (by decide) (by simp [Tryd.ntmps3]) ?_;rw [Tryd.ntmps3]
  repeat' (first|omega|(try apply yaa);simp only [go_sem,sevalprocAttr,b1]|(refine ⟨yad.fn (r:=?_) rfl ?_ ?_⟩;rotate_left;assumption)|(refine ⟨yav.fn (r:=?_) rfl ?_ ?_⟩;rotate_left;assumption)|apply yab<;>(intro h_;(try simp only [h_]);revert h_)|apply And.intro|with_reducible intro h_|trivial|simp only [go_sem,la2];omega)
 obtain rfl:k=1:=by omega
 by_cases hL:0<L
 ·have b2:decide (0<L)=true:=decide_eq_true hL
  refine Fn.intro [.tmp 2] Tryd.func3 rfl rfl (by decide) (by simp [Tryd.ntmps3]) ?_;rw [Tryd.ntmps3]
  repeat' (first|omega|(try apply yaa);simp only [go_sem,sevalprocAttr,b2]|(refine ⟨yad.fn (r:=?_) rfl ?_ ?_⟩;rotate_left;assumption)|(refine ⟨yav.fn (r:=?_) rfl ?_ ?_⟩;rotate_left;assumption)|apply yab<;>(intro h_;(try simp only [h_]);revert h_)|apply And.intro|with_reducible intro h_|trivial|simp only [go_sem,la2];omega)
 obtain rfl:L=0:=by omega
 have hn:0<s.length:=by omega
 have hg2:=hg
 unfold yms at hg2
 simp only [Bool.or_eq_false_iff,Bool.and_eq_false_iff,decide_eq_false_iff_not] at hg2
 by_cases h14:14<s.length
 ·have hB:=ypg s m 0 hv (by omega) (.inl h14)
  have hS:=yxh s m 0 5 (by decide) hB
  have b3:decide ((14:Int)<s.length)=true:=by simp;omega
  refine Fn.intro [.tmp 2] Tryd.func3 rfl rfl (by decide) (by simp [Tryd.ntmps3]) ?_;rw [Tryd.ntmps3]
  repeat' (first|omega|(try apply yaa);simp only [go_sem,sevalprocAttr,b3]|(refine ⟨yad.fn (r:=?_) rfl ?_ ?_⟩;rotate_left;assumption)|(refine ⟨yav.fn (r:=?_) rfl ?_ ?_⟩;rotate_left;assumption)|apply yab<;>(intro h_;(try simp only [h_]);revert h_)|apply And.intro|with_reducible intro h_|trivial|simp only [go_sem,la2];omega)
 have hs9:s.length<=9:=by omega
 have hp:=pmOk hv
 have hB:=yg7 s m 0 hv (by omega) hs9 (by omega)
 have hP:=yqo hp hs9 (show 0<=20 by omega)
 have h0:=y0k hp v1.len (L:=0) (by omega) hs9 (by omega)
 have hsup: ∀e,brT m s.length 0 1 e≠0-> -1000<=e/\e<=1000:=fun e he=>ye9 hp hs9 (by omega) (by omega) he
 have hlen:=hP.asc.len (a:= -1000) (b:=1000) fun t ht=>hsup _ (hP.mem ht).2
 have hlo: -1000<=loG (brP m s.length 0)/\loG (brP m s.length 0)<=1000:=hsup _ (hP.mem (ybw h0)).2
 have hhi: -1000<=hiG (brP m s.length 0)/\hiG (brP m s.length 0)<=1000:=hsup _ (hP.mem (ybw (by omega))).2
 have hS:=y0m s m 0 _ (by omega) hlo hhi hB
 have hq1:=yi3 s m 0 true (by omega)
 have hq2:=yi3 s m 0 false (by omega)
 rw [hv] at hq1 hq2
 simp only [Bool.true_and,if_true,Bool.not_true,Bool.not_false] at hq1 hq2
 have hc: ∀x y,x<4*s.length->y<4*s.length->Sp.KK Sp.siD (Sp.alD m) (4*s.length) x y:=fun x y hx hy=>yxk hp (by omega) hx hy
 have hw:=yqt hv hn hc hP.asc hP.cf h0
 have hw':hiG (brP m s.length 0)-loG (brP m s.length 0)<=4*(s.length:Int):=hw
 obtain ⟨b,hRd,hRb⟩:=yr6 s m 0 hv
 have hAl:=ylp s m 0 hv
 have bw:decide (4*(s.length:Int)<hiG (brP m s.length 0)-loG (brP m s.length 0))=false:=by rw [decide_eq_false_iff_not];omega
 by_cases ha:b=true/\altB m m.length=true
 ·obtain ⟨rfl,ha⟩:=ha
  have hr:=hRb rfl
  have hal:=yxq (ycc hp) ha
  have he:=y0t hv hn hc hal hr hP.asc hP.cf h0
  have he':hiG (brP m s.length 0)-loG (brP m s.length 0)=4*(s.length:Int):=he
  have hq:=yqs hp hal hr
  rw [ylq (hq false) _ (Nat.le_refl _)] at hq1
  rw [ylq (hq true) _ (Nat.le_refl _)] at hq2
  rw [ha] at hAl
  rw [he'] at hS
  have be:(4*(s.length:Int)==4*(s.length:Int))=true:=beq_self_eq_true _
  have bw2:decide (4*(s.length:Int)<4*(s.length:Int))=false:=by simp
  generalize brP m s.length 0=p at*
  refine Fn.intro [.tmp 2] Tryd.func3 rfl rfl (by decide) (by simp [Tryd.ntmps3]) ?_;rw [Tryd.ntmps3]
  repeat' (first|omega|(try apply yaa);simp only [go_sem,sevalprocAttr,be,bw2]|(refine ⟨yad.fn (r:=?_) rfl ?_ ?_⟩;rotate_left;assumption)|(refine ⟨yav.fn (r:=?_) rfl ?_ ?_⟩;rotate_left;assumption)|apply yab<;>(intro h_;(try simp only [h_]);revert h_)|apply And.intro|with_reducible intro h_|trivial|simp only [go_sem,la2];omega)
 ·generalize adqN (mgB m (fun _=>false) s.length) s.length=q1 at*
  generalize adqN (mgB m (fun _=>true) s.length) s.length=q2 at*
  generalize hiG (brP m s.length 0)=hi at*
  generalize loG (brP m s.length 0)=lo at*
  generalize brP m s.length 0=p at*
  cases hb:b with
  |false=>
   rw [hb] at hRd
   refine Fn.intro [.tmp 2] Tryd.func3 rfl rfl (by decide) (by simp [Tryd.ntmps3]) ?_;rw [Tryd.ntmps3]
   repeat' (first|omega|(try apply yaa);simp only [go_sem,sevalprocAttr,bw]|(refine ⟨yad.fn (r:=?_) rfl ?_ ?_⟩;rotate_left;assumption)|(refine ⟨yav.fn (r:=?_) rfl ?_ ?_⟩;rotate_left;assumption)|apply yab<;>(intro h_;(try simp only [h_]);revert h_)|apply And.intro|with_reducible intro h_|trivial|simp only [go_sem,la2];omega)
  |true=>
   have ha2:altB m m.length=false:=by
    cases h:altB m m.length with
    |false=>rfl
    |true=>exact absurd ⟨hb,h⟩ ha
   rw [hb] at hRd
   rw [ha2] at hAl
   refine Fn.intro [.tmp 2] Tryd.func3 rfl rfl (by decide) (by simp [Tryd.ntmps3]) ?_;rw [Tryd.ntmps3]
   repeat' (first|omega|(try apply yaa);simp only [go_sem,sevalprocAttr,bw]|(refine ⟨yad.fn (r:=?_) rfl ?_ ?_⟩;rotate_left;assumption)|(refine ⟨yav.fn (r:=?_) rfl ?_ ?_⟩;rotate_left;assumption)|apply yab<;>(intro h_;(try simp only [h_]);revert h_)|apply And.intro|with_reducible intro h_|trivial|simp only [go_sem,la2];omega)
end Go.Proofs.YtngegnonblbdhaaDoor
