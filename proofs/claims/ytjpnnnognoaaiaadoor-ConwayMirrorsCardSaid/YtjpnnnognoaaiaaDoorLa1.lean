/- Layer 12: polynomials: sums. -/
import Derived.Test.YtjpnnnognoaaiaaDoorZf
set_option linter.unusedSimpArgs false
set_option linter.unusedVariables false
namespace Go.Proofs.YtjpnnnognoaaiaaDoor
open Go Go.RowKit
set_option maxRecDepth 100000
set_option maxHeartbeats 4000000
abbrev cmbH (g:Nat) (p q acc:List (Int×Int)) (fits:Bool):Hp:=[(6, .cells 4 (.lst [.bool fits])),(5, .cells 29 (.lst [.bool false, .sl 2 4 0 acc.length])),(4, .cells 52 (.lst (tmC acc))),(3, .cells 29 (.lst [.bool false, .nils])),(2, .cells 49 (.lst [.fn g []])),(1, .cells 29 (.lst [.bool false,tmA q])),(0, .cells 29 (.lst [.bool false,tmA p]))]
theorem yg0 (fr:Fr) (K:AV->Fr->Hp->Prop) (g:Nat) (p q acc:List (Int×Int)) (fits:Bool) (e a b c:Int) (hg:Fn Tryd.prog g [I a,I b] (I c)) (hl:acc.length<=1000000)
  (hk0:c=0->K (.tup []) fr (cmbH g p q acc (fits&&fitB c 1125899906842624))) (hk1:c≠0->K (.tup []) (fcut 4 fr) [(4, .cells 52 (.lst (tmC (acc++[(e,c)])))),(7, .cells 52 (.lst [I e,I c])),(6, .cells 4 (.lst [.bool (fits&&fitB c 1125899906842624)])),(5, .cells 29 (.lst [.bool false, .sl 2 4 0 (acc.length+1)])),(3, .cells 29 (.lst [.bool false, .nils])),(2, .cells 49 (.lst [.fn g []])),(1, .cells 29 (.lst [.bool false,tmA q])),(0, .cells 29 (.lst [.bool false,tmA p]))]):yfq Tryd.prog 53 [I e,I a,I b, .ptr 2 0, .ptr 6 0, .ptr 5 0] fr (cmbH g p q acc fits) K:=by
 unfold cmbH at*
 have hw:=ydz c 1125899906842624 (by omega) (by omega)
 refine yfq.intro [] Tryd.func53 rfl rfl (by decide) (by simp [Tryd.ntmps53]) ?_;rw [Tryd.ntmps53]
 repeat' (first|omega|(try apply yaa);simp only [go_sem,sevalprocAttr]|apply yab<;>(intro h_;(try simp only [h_]);revert h_)|apply And.intro|with_reducible intro h_|trivial|simp only [go_sem,la2];omega)
 refine ⟨yae.fn rfl hg ?_⟩
 cases fits
 ·repeat' (first|omega|(try apply yaa);simp only [go_sem,sevalprocAttr]|apply yab<;>(intro h_;(try simp only [h_]);revert h_)|apply And.intro|with_reducible intro h_|trivial|simp only [go_sem,la2];omega)
  ·rw [yl1];exact hk1 (by assumption)
  ·exact hk0 (by assumption)
 ·repeat' (first|omega|(try apply yaa);simp only [go_sem,sevalprocAttr]|apply yab<;>(intro h_;(try simp only [h_]);revert h_)|apply And.intro|with_reducible intro h_|trivial|simp only [go_sem,la2];omega)
  refine ⟨yae.fn rfl hw ?_⟩
  repeat' (first|omega|(try apply yaa);simp only [go_sem,sevalprocAttr]|apply yab<;>(intro h_;(try simp only [h_]);revert h_)|apply And.intro|with_reducible intro h_|trivial|simp only [go_sem,la2];omega)
  ·rw [yl1];exact hk1 (by assumption)
  ·exact hk0 (by assumption)
theorem ypi {f:Int->Int->Int} {p q:List (Int×Int)} {i j:Nat} (hi:i<p.length) (h:j=q.length\/(p.getD i (0,0)).1<(q.getD j (0,0)).1) (hj:j<=q.length):mrg f (p.drop i) (q.drop j)=((p.getD i (0,0)).1,f (p.getD i (0,0)).2 0)::mrg f (p.drop (i+1)) (q.drop j):=by
 rw [List.drop_eq_getElem_cons hi]
 have e:p.getD i (0,0)=p[i]:=by simp [hi]
 rw [e] at h⊢
 rcases Nat.lt_or_ge j q.length with g|g
 ·rw [List.drop_eq_getElem_cons g]
  have e2:q.getD j (0,0)=q[j]:=by simp [g]
  rw [e2] at h
  conv=>lhs;unfold mrg
  rw [if_pos (by omega)]
 ·rw [List.drop_of_length_le g]
  conv=>lhs;unfold mrg
theorem ypj {f:Int->Int->Int} {p q:List (Int×Int)} {i j:Nat} (hj:j<q.length) (h:i=p.length\/(q.getD j (0,0)).1<(p.getD i (0,0)).1) (hi:i<=p.length):mrg f (p.drop i) (q.drop j)=((q.getD j (0,0)).1,f 0 (q.getD j (0,0)).2)::mrg f (p.drop i) (q.drop (j+1)):=by
 rw [List.drop_eq_getElem_cons hj]
 have e:q.getD j (0,0)=q[j]:=by simp [hj]
 rw [e] at h⊢
 rcases Nat.lt_or_ge i p.length with g|g
 ·rw [List.drop_eq_getElem_cons g]
  have e2:p.getD i (0,0)=p[i]:=by simp [g]
  rw [e2] at h
  conv=>lhs;unfold mrg
  rw [if_neg (by omega),if_pos (by omega)]
 ·rw [List.drop_of_length_le g]
  conv=>lhs;unfold mrg
theorem yyb {f:Int->Int->Int} {p q:List (Int×Int)} {i j:Nat} (hi:i<p.length) (hj:j<q.length) (h:(q.getD j (0,0)).1=(p.getD i (0,0)).1):mrg f (p.drop i) (q.drop j)=((p.getD i (0,0)).1,f (p.getD i (0,0)).2 (q.getD j (0,0)).2)::mrg f (p.drop (i+1)) (q.drop (j+1)):=by
 rw [List.drop_eq_getElem_cons hi,List.drop_eq_getElem_cons hj]
 have e:p.getD i (0,0)=p[i]:=by simp [hi]
 have e2:q.getD j (0,0)=q[j]:=by simp [hj]
 rw [e,e2] at h⊢
 conv=>lhs;unfold mrg
 rw [if_neg (by omega),if_neg (by omega)]
theorem yg1 {c e:Int} (l:List (Int×Int)) (h:c=0):nz (l++[(e,c)])=nz l:=by unfold nz;rw [List.filter_append];simp [h]
theorem yg2 {c e:Int} (l:List (Int×Int)) (h:c≠0):nz (l++[(e,c)])=nz l++[(e,c)]:=by unfold nz;rw [List.filter_append];simp [h]
theorem yce (l:List (Int×Int)) (e c:Int):ycd (l++[(e,c)])=(ycd l&&fitB c 1125899906842624):=by unfold ycd;simp
end Go.Proofs.YtjpnnnognoaaiaaDoor
