/- Layer 12: sums and products of polynomials that are known by their coefficients. -/
import Derived.Test.YtbblgobamoabkaaGreatDoorZy
import Derived.Test.YtbblgobamoabkaaGreatDoorZf
import Derived.Test.YtbblgobamoabkaaGreatDoorZl
import Derived.Test.YtbblgobamoabkaaGreatDoorZx
set_option linter.unusedSimpArgs false
set_option linter.unusedVariables false
namespace Go.Proofs.YtbblgobamoabkaaGreatDoor
open Go Go.RowKit
set_option maxRecDepth 100000
theorem yai.ok {p:List (Int×Int)} {f:Int->Int} (h:yai p f) (hs: ∀e,f e≠0-> -1000<=e/\e<=1000) (hb: ∀e,-1125899906842624<=f e/\f e<=1125899906842624):yq0 p:=by
 refine ⟨h.fits hb,by have:=h.len hs;omega,fun i j hij hj=>?_,fun i hi=>?_⟩
 ·by_cases e:i=j
  ·subst e;exact Int.le_refl _
  ·have:=List.pairwise_iff_getElem.1 h.asc.asc i j (by omega) hj (by omega)
   simp only [List.getD_eq_getElem?_getD,List.getElem?_eq_getElem hj,List.getElem?_eq_getElem (show i<p.length by omega),Option.getD_some]
   omega
 ·have:=hs _ (h.mem (yce hi)).2
  omega
theorem y5u {p q:List (Int×Int)} {f g h:Int->Int} (hp:yai p f) (hq:yai q g) (hs: ∀e,f e≠0-> -1000<=e/\e<=1000) (hs2: ∀e,g e≠0-> -1000<=e/\e<=1000)
  (hb: ∀e,-1125899906842624<=f e/\f e<=1125899906842624) (hb2: ∀e,-1125899906842624<=g e/\g e<=1125899906842624) (hh: ∀e,cvL p g e=h e) (hb3: ∀e,-1125899906842624<=h e/\h e<=1125899906842624)
  (hp0:0<p.length) (hq0:0<q.length) (hd:yb8 p+yb8 q-(lowE p+lowE q)<=64+4*(p.length:Int)*q.length):
  ∃r,yai r h/\Fn Tryz.prog 57 [plA false p,plA false q] (plA false r):=by
 have a0:=hs _ (hp.mem (yce (i:=0) hp0)).2
 have a1:=hs _ (hp.mem (yce (i:=p.length-1) (by omega))).2
 have b0:=hs2 _ (hq.mem (yce (i:=0) hq0)).2
 have b1:=hs2 _ (hq.mem (yce (i:=q.length-1) (by omega))).2
 have hgq:cfL q=g:=funext hq.cf
 have hc: ∀e,cfL (tmI (lowE p+lowE q) (mulZ p q)) e=h e:=fun e=>by rw [y41 hp.asc hq.asc,hgq,hh]
 refine ⟨_,⟨ym3 _ _,hc⟩,y7d p q (hp.ok hs hb) (hq.ok hs2 hb2) hp0 hq0 ?_ ?_ ?_ hd fun z hz=>?_⟩
 ·unfold lowE;omega
 ·unfold yb8;omega
 ·unfold lowE yb8;omega
 ·obtain ⟨i,hi,rfl⟩:=List.mem_iff_getElem.1 hz
  have h1:=yjr (lowE p+lowE q) (mulZ p q) (lowE p+lowE q+i)
  rw [if_pos (by omega),show (lowE p+lowE q+(i:Int)-(lowE p+lowE q)).toNat=i by omega,hc] at h1
  have h2:(mulZ p q).getD i 0=(mulZ p q)[i]:=by simp [List.getD_eq_getElem?_getD,hi]
  rw [←h2,←h1];exact hb3 _
end Go.Proofs.YtbblgobamoabkaaGreatDoor
set_option linter.unusedSimpArgs false
set_option linter.unusedVariables false
namespace Go.Proofs.YtbblgobamoabkaaGreatDoor
open Go Go.RowKit
set_option maxRecDepth 100000
set_option maxHeartbeats 4000000
abbrev cmbH (g:Nat) (p q acc:List (Int×Int)) (fits:Bool):Hp:=[(6, .cells 4 (.lst [.bool fits])),(5, .cells 47 (.lst [.bool false, .sl 2 4 0 acc.length])),(4, .cells 97 (.lst (tmC acc))),(3, .cells 47 (.lst [.bool false, .nils])),(2, .cells 99 (.lst [.fn g []])),(1, .cells 47 (.lst [.bool false,tmA q])),(0, .cells 47 (.lst [.bool false,tmA p]))]
theorem ygs (fr:Fr) (K:AV->Fr->Hp->Prop) (g:Nat) (p q acc:List (Int×Int)) (fits:Bool) (e a b c:Int) (hg:Fn Tryz.prog g [I a,I b] (I c)) (hl:acc.length<=1000000)
  (hk0:c=0->K (.tup []) fr (cmbH g p q acc (fits&&fitB c 1125899906842624))) (hk1:c≠0->K (.tup []) (fcut 4 fr) [(4, .cells 97 (.lst (tmC (acc++[(e,c)])))),(7, .cells 97 (.lst [I e,I c])),(6, .cells 4 (.lst [.bool (fits&&fitB c 1125899906842624)])),(5, .cells 47 (.lst [.bool false, .sl 2 4 0 (acc.length+1)])),(3, .cells 47 (.lst [.bool false, .nils])),(2, .cells 99 (.lst [.fn g []])),(1, .cells 47 (.lst [.bool false,tmA q])),(0, .cells 47 (.lst [.bool false,tmA p]))]):ybp Tryz.prog 101 [I e,I a,I b, .ptr 2 0, .ptr 6 0, .ptr 5 0] fr (cmbH g p q acc fits) K:=by
 unfold cmbH at*
 have hw:=yc4 c 1125899906842624 (by omega) (by omega)
 refine ybp.intro [] Tryz.func101 rfl rfl (by decide) (by simp [Tryz.ntmps101]) ?_;rw [Tryz.ntmps101]
 repeat' (first|omega|(try apply yaa);simp only [go_sem,sevalprocAttr]|apply yab<;>(intro h_;(try simp only [h_]);revert h_)|apply And.intro|with_reducible intro h_|trivial|simp only [go_sem,la2];omega)
 refine ⟨yad.fn rfl hg ?_⟩
 cases fits
 ·repeat' (first|omega|(try apply yaa);simp only [go_sem,sevalprocAttr]|apply yab<;>(intro h_;(try simp only [h_]);revert h_)|apply And.intro|with_reducible intro h_|trivial|simp only [go_sem,la2];omega)
  ·rw [yif];exact hk1 (by assumption)
  ·exact hk0 (by assumption)
 ·repeat' (first|omega|(try apply yaa);simp only [go_sem,sevalprocAttr]|apply yab<;>(intro h_;(try simp only [h_]);revert h_)|apply And.intro|with_reducible intro h_|trivial|simp only [go_sem,la2];omega)
  refine ⟨yad.fn rfl hw ?_⟩
  repeat' (first|omega|(try apply yaa);simp only [go_sem,sevalprocAttr]|apply yab<;>(intro h_;(try simp only [h_]);revert h_)|apply And.intro|with_reducible intro h_|trivial|simp only [go_sem,la2];omega)
  ·rw [yif];exact hk1 (by assumption)
  ·exact hk0 (by assumption)
theorem yox {f:Int->Int->Int} {p q:List (Int×Int)} {i j:Nat} (hi:i<p.length) (h:j=q.length\/(p.getD i (0,0)).1<(q.getD j (0,0)).1) (hj:j<=q.length):mrg f (p.drop i) (q.drop j)=((p.getD i (0,0)).1,f (p.getD i (0,0)).2 0)::mrg f (p.drop (i+1)) (q.drop j):=by
 rw [List.drop_eq_getElem_cons hi]
 have e:p.getD i (0,0)=p[i]:=by simp [hi]
 rw [e] at h⊢
 rcases Nat.lt_or_ge j q.length with g|g
 ·rw [List.drop_eq_getElem_cons g]
  have e2:q.getD j (0,0)=q[j]:=by simp [g]
  rw [e2] at h
  conv=>lhs;unfold mrg
  rw [if_pos (by omega)]
 ·rw [List.drop_of_length_le g]
  conv=>lhs;unfold mrg
theorem yoy {f:Int->Int->Int} {p q:List (Int×Int)} {i j:Nat} (hj:j<q.length) (h:i=p.length\/(q.getD j (0,0)).1<(p.getD i (0,0)).1) (hi:i<=p.length):mrg f (p.drop i) (q.drop j)=((q.getD j (0,0)).1,f 0 (q.getD j (0,0)).2)::mrg f (p.drop i) (q.drop (j+1)):=by
 rw [List.drop_eq_getElem_cons hj]
 have e:q.getD j (0,0)=q[j]:=by simp [hj]
 rw [e] at h⊢
 rcases Nat.lt_or_ge i p.length with g|g
 ·rw [List.drop_eq_getElem_cons g]
  have e2:p.getD i (0,0)=p[i]:=by simp [g]
  rw [e2] at h
  conv=>lhs;unfold mrg
  rw [if_neg (by omega),if_pos (by omega)]
 ·rw [List.drop_of_length_le g]
  conv=>lhs;unfold mrg
theorem yy6 {f:Int->Int->Int} {p q:List (Int×Int)} {i j:Nat} (hi:i<p.length) (hj:j<q.length) (h:(q.getD j (0,0)).1=(p.getD i (0,0)).1):mrg f (p.drop i) (q.drop j)=((p.getD i (0,0)).1,f (p.getD i (0,0)).2 (q.getD j (0,0)).2)::mrg f (p.drop (i+1)) (q.drop (j+1)):=by
 rw [List.drop_eq_getElem_cons hi,List.drop_eq_getElem_cons hj]
 have e:p.getD i (0,0)=p[i]:=by simp [hi]
 have e2:q.getD j (0,0)=q[j]:=by simp [hj]
 rw [e,e2] at h⊢
 conv=>lhs;unfold mrg
 rw [if_neg (by omega),if_neg (by omega)]
theorem ygt {c e:Int} (l:List (Int×Int)) (h:c=0):nz (l++[(e,c)])=nz l:=by unfold nz;rw [List.filter_append];simp [h]
theorem ygu {c e:Int} (l:List (Int×Int)) (h:c≠0):nz (l++[(e,c)])=nz l++[(e,c)]:=by unfold nz;rw [List.filter_append];simp [h]
theorem yb9 (l:List (Int×Int)) (e c:Int):ycd (l++[(e,c)])=(ycd l&&fitB c 1125899906842624):=by unfold ycd;simp
end Go.Proofs.YtbblgobamoabkaaGreatDoor
