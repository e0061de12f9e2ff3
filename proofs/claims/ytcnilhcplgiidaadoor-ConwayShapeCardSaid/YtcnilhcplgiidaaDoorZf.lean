/- Layer 12: polynomials: terms. -/
import Derived.Test.YtcnilhcplgiidaaDoorZa
import Derived.Test.YtcnilhcplgiidaaDoorZe
import Derived.Test.YtcnilhcplgiidaaDoorZb
set_option linter.unusedSimpArgs false
set_option linter.unusedVariables false
namespace Go.Proofs.YtcnilhcplgiidaaDoor
open Go Go.RowKit
set_option maxRecDepth 100000
set_option maxHeartbeats 4000000
def tmC (p:List (Int×Int)):List AV:=p.flatMap fun t=>[I t.1,I t.2]
abbrev tmA (p:List (Int×Int)):AV:= .ro 2 p.length (.lst (tmC p))
abbrev plA (b:Bool) (p:List (Int×Int)):AV:= .agg [.bool b,tmA p]
attribute [go_sem] tmA plA
theorem yc4 (p:List (Int×Int)):(tmC p).length=2*p.length:=by
 unfold tmC;induction p with
 |nil=>rfl
 |cons x p ih=>simp [ih];omega
theorem yb7 (p:List (Int×Int)) (i:Nat) (h:i<p.length):(tmC p).getD (i*2) .any=I (p.getD i (0,0)).1:=by
 unfold tmC;induction p generalizing i with
 |nil=>simp at h
 |cons x p ih=>
  cases i with
  |zero=>simp
  |succ i=>
   have:=ih i (by simpa using h)
   simp only [List.flatMap_cons,List.getD_cons_succ]
   rw [show (i+1)*2=i*2+1+1 by omega]
   simpa using this
theorem ydm (p:List (Int×Int)) (i:Nat) (h:i<p.length):(tmC p).getD (i*2+1) .any=I (p.getD i (0,0)).2:=by
 unfold tmC;induction p generalizing i with
 |nil=>simp at h
 |cons x p ih=>
  cases i with
  |zero=>simp
  |succ i=>
   have:=ih i (by simpa using h)
   simp only [List.flatMap_cons,List.getD_cons_succ]
   rw [show (i+1)*2+1=i*2+1+1+1 by omega]
   simpa using this
theorem yep (v l:Int) (h0:0<=l) (h1:l<=9000000000000000000):Fn Tryd.prog 46 [I v,I l] (.bool (fitB v l)):=by
 unfold fitB
 refine Fn.intro [.tmp 4] Tryd.func46 rfl rfl (by decide) (by simp [Tryd.ntmps46]) ?_;rw [Tryd.ntmps46]
 repeat' (first|omega|(try apply yaa);simp only [go_sem,sevalprocAttr]|apply yad<;>(intro h_;(try simp only [h_]);revert h_)|apply yac|apply yab|apply gspI|apply And.intro|with_reducible intro h_|trivial|simp only [go_sem,la2];omega)
 all_goals simp_all
 all_goals omega
theorem yh8 {p:List (Int×Int)} {x:AV} (h:x∈tmC p): ∃n,x=I n:=by
 unfold tmC at h
 obtain ⟨t,_,ht⟩:=List.mem_flatMap.1 h
 simp only [List.mem_cons,List.not_mem_nil,or_false] at ht
 rcases ht with e|e<;>exact ⟨_,e⟩
theorem yj7 (p:List (Int×Int)):(tmC p).all p1=true:=List.all_eq_true.2 fun x hx=>by obtain ⟨n,rfl⟩:=yh8 hx;rfl
theorem yfm (H:Hp) (p:List (Int×Int)):(tmC p).all (s3 H)=true:=List.all_eq_true.2 fun x hx=>by obtain ⟨n,rfl⟩:=yh8 hx;rfl
theorem y0f (p:List (Int×Int)):(tmC p).all ybr=true:=List.all_eq_true.2 fun x hx=>by obtain ⟨n,rfl⟩:=yh8 hx;rfl
theorem yyw (i:Nat) (p:List (Int×Int)):(tmC p).map (cutV i)=tmC p:=by
 conv=>rhs;rw [←List.map_id (tmC p)]
 exact List.map_congr_left fun x hx=>by obtain ⟨n,rfl⟩:=yh8 hx;rfl
theorem yv2 (H:Hp) (n:Nat) (p:List (Int×Int)):(tmC p).map (snap H (n+1))=tmC p:=yax (yj7 p) H n
theorem ytc (H:Hp) (n:Nat) (p:List (Int×Int)):(∀x∈tmC p,yao H (n+1) x)=True:=yaq (yj7 p) H n
theorem yyx (H:Hp) (n:Nat) (p:List (Int×Int)):(tmC p).map (frzV H (n+1))=tmC p:=ya5 (yj7 p) H n
theorem yv3 (H:Hp) (n:Nat) (p:List (Int×Int)):(∀x∈tmC p,frzP H (n+1) x)=True:=yay (yj7 p) H n
theorem yja (p:List (Int×Int)) (e c:Int):tmC p++[AV.int .i64 e,AV.int .i64 c]=tmC (p++[(e,c)]):=by simp [tmC]
attribute [go_sem] yfm y0f yyw yv2 ytc yyx yv3 yc4
theorem yyy (fr:Fr):unl (lft fr)=fr:=by
 induction fr with
 |nil=>rfl
 |cons q r ih=>
  obtain ⟨t,x⟩:=q
  simp only [lft,unl]
  rw [if_pos (by omega),ih,Nat.add_sub_cancel]
theorem yv4 (i:Nat) (fr:Fr):fcut i (lft fr)=lft (fcut i fr):=by
 induction fr with
 |nil=>rfl
 |cons q r ih=>obtain ⟨t,x⟩:=q;simp only [lft,fcut,ih]
attribute [go_sem] yyy yv4
theorem yhj {p:List (Int×Int)} (h:yg0 p) {i:Nat} (hi:i<p.length): -1125899906842624<=(p.getD i (0,0)).2/\(p.getD i (0,0)).2<=1125899906842624:=h _ (by simp [hi])
end Go.Proofs.YtcnilhcplgiidaaDoor
set_option linter.unusedSimpArgs false
set_option linter.unusedVariables false
namespace Go.Proofs.YtcnilhcplgiidaaDoor
open Go Go.RowKit
set_option maxRecDepth 100000
set_option maxHeartbeats 4000000
abbrev cmbH (g:Nat) (p q acc:List (Int×Int)) (fits:Bool):Hp:=[(6, .cells 4 (.lst [.bool fits])),(5, .cells 29 (.lst [.bool false, .sl 2 4 0 acc.length])),(4, .cells 56 (.lst (tmC acc))),(3, .cells 29 (.lst [.bool false, .nils])),(2, .cells 58 (.lst [.fn g []])),(1, .cells 29 (.lst [.bool false,tmA q])),(0, .cells 29 (.lst [.bool false,tmA p]))]
theorem yfn (fr:Fr) (K:AV->Fr->Hp->Prop) (g:Nat) (p q acc:List (Int×Int)) (fits:Bool) (e a b c:Int) (hg:Fn Tryd.prog g [I a,I b] (I c)) (hl:acc.length<=1000000)
  (hk0:c=0->K (.tup []) fr (cmbH g p q acc (fits&&fitB c 1125899906842624))) (hk1:c≠0->K (.tup []) (fcut 4 fr) [(4, .cells 56 (.lst (tmC (acc++[(e,c)])))),(7, .cells 56 (.lst [I e,I c])),(6, .cells 4 (.lst [.bool (fits&&fitB c 1125899906842624)])),(5, .cells 29 (.lst [.bool false, .sl 2 4 0 (acc.length+1)])),(3, .cells 29 (.lst [.bool false, .nils])),(2, .cells 58 (.lst [.fn g []])),(1, .cells 29 (.lst [.bool false,tmA q])),(0, .cells 29 (.lst [.bool false,tmA p]))]):yc2 Tryd.prog 117 [I e,I a,I b, .ptr 2 0, .ptr 6 0, .ptr 5 0] fr (cmbH g p q acc fits) K:=by
 unfold cmbH at*
 have hw:=yep c 1125899906842624 (by omega) (by omega)
 refine yc2.intro [] Tryd.func117 rfl rfl (by decide) (by simp [Tryd.ntmps117]) ?_;rw [Tryd.ntmps117]
 repeat' (first|omega|(try apply yaa);simp only [go_sem,sevalprocAttr]|apply yad<;>(intro h_;(try simp only [h_]);revert h_)|apply yac|apply yab|apply gspI|apply And.intro|with_reducible intro h_|trivial|simp only [go_sem,la2];omega)
 refine ⟨yag.fn rfl hg ?_⟩
 cases fits
 ·repeat' (first|omega|(try apply yaa);simp only [go_sem,sevalprocAttr]|apply yad<;>(intro h_;(try simp only [h_]);revert h_)|apply yac|apply yab|apply gspI|apply And.intro|with_reducible intro h_|trivial|simp only [go_sem,la2];omega)
  ·rw [yja];exact hk1 (by assumption)
  ·exact hk0 (by assumption)
 ·repeat' (first|omega|(try apply yaa);simp only [go_sem,sevalprocAttr]|apply yad<;>(intro h_;(try simp only [h_]);revert h_)|apply yac|apply yab|apply gspI|apply And.intro|with_reducible intro h_|trivial|simp only [go_sem,la2];omega)
  refine ⟨yag.fn rfl hw ?_⟩
  repeat' (first|omega|(try apply yaa);simp only [go_sem,sevalprocAttr]|apply yad<;>(intro h_;(try simp only [h_]);revert h_)|apply yac|apply yab|apply gspI|apply And.intro|with_reducible intro h_|trivial|simp only [go_sem,la2];omega)
  ·rw [yja];exact hk1 (by assumption)
  ·exact hk0 (by assumption)
theorem yl7 {f:Int->Int->Int} {p q:List (Int×Int)} {i j:Nat} (hi:i<p.length) (h:j=q.length\/(p.getD i (0,0)).1<(q.getD j (0,0)).1) (hj:j<=q.length):mrg f (p.drop i) (q.drop j)=((p.getD i (0,0)).1,f (p.getD i (0,0)).2 0)::mrg f (p.drop (i+1)) (q.drop j):=by
 rw [List.drop_eq_getElem_cons hi]
 have e:p.getD i (0,0)=p[i]:=by simp [hi]
 rw [e] at h⊢
 rcases Nat.lt_or_ge j q.length with g|g
 ·rw [List.drop_eq_getElem_cons g]
  have e2:q.getD j (0,0)=q[j]:=by simp [g]
  rw [e2] at h
  conv=>lhs;unfold mrg
  rw [if_pos (by omega)]
 ·rw [List.drop_of_length_le g]
  conv=>lhs;unfold mrg
theorem yl8 {f:Int->Int->Int} {p q:List (Int×Int)} {i j:Nat} (hj:j<q.length) (h:i=p.length\/(q.getD j (0,0)).1<(p.getD i (0,0)).1) (hi:i<=p.length):mrg f (p.drop i) (q.drop j)=((q.getD j (0,0)).1,f 0 (q.getD j (0,0)).2)::mrg f (p.drop i) (q.drop (j+1)):=by
 rw [List.drop_eq_getElem_cons hj]
 have e:q.getD j (0,0)=q[j]:=by simp [hj]
 rw [e] at h⊢
 rcases Nat.lt_or_ge i p.length with g|g
 ·rw [List.drop_eq_getElem_cons g]
  have e2:p.getD i (0,0)=p[i]:=by simp [g]
  rw [e2] at h
  conv=>lhs;unfold mrg
  rw [if_neg (by omega),if_pos (by omega)]
 ·rw [List.drop_of_length_le g]
  conv=>lhs;unfold mrg
theorem ytd {f:Int->Int->Int} {p q:List (Int×Int)} {i j:Nat} (hi:i<p.length) (hj:j<q.length) (h:(q.getD j (0,0)).1=(p.getD i (0,0)).1):mrg f (p.drop i) (q.drop j)=((p.getD i (0,0)).1,f (p.getD i (0,0)).2 (q.getD j (0,0)).2)::mrg f (p.drop (i+1)) (q.drop (j+1)):=by
 rw [List.drop_eq_getElem_cons hi,List.drop_eq_getElem_cons hj]
 have e:p.getD i (0,0)=p[i]:=by simp [hi]
 have e2:q.getD j (0,0)=q[j]:=by simp [hj]
 rw [e,e2] at h⊢
 conv=>lhs;unfold mrg
 rw [if_neg (by omega),if_neg (by omega)]
theorem yfo {c e:Int} (l:List (Int×Int)) (h:c=0):nz (l++[(e,c)])=nz l:=by unfold nz;rw [List.filter_append];simp [h]
theorem yfp {c e:Int} (l:List (Int×Int)) (h:c≠0):nz (l++[(e,c)])=nz l++[(e,c)]:=by unfold nz;rw [List.filter_append];simp [h]
theorem ybw (l:List (Int×Int)) (e c:Int):yb1 (l++[(e,c)])=(yb1 l&&fitB c 1125899906842624):=by unfold yb1;simp
end Go.Proofs.YtcnilhcplgiidaaDoor
