/- The reference of layer 13: Times, Add, Shift. -/
import Derived.Test.YtbblgobamoabkaaGreatDoorBq2
namespace Go.Proofs.YtbblgobamoabkaaGreatDoor
open Go Go.RowKit
set_option maxRecDepth 100000
set_option maxHeartbeats 8000000
set_option linter.unusedVariables false
set_option linter.unusedSimpArgs false
def ybi:Tr:= .node [(0, .node [(1, .node [(2,trD [3,4,5,6,7]),(3,trD [2,4,5,6,7])]),(2, .node [(1,trD [3,4,5,6,7]),(3,trD [1,4,5,6,7])]),(3, .node [(1,trD [2,4,5,6,7]),(2,trD [1,4,5,6,7])])]),(2, .node [(0, .node [(1,trD [3,4,5,6,7]),(3,trD [1,4,5,6,7])]),(3,trD [0,1,4,5,6,7])]),(3, .node [(0, .node [(1,trD [2,4,5,6,7]),(2,trD [1,4,5,6,7])]),(2,trD [0,1,4,5,6,7])])]
def tmN (n:Int) (p:List (Int×Int)):List (Int×Int):=p.map fun t=>(t.1,t.2*n)
theorem yhy (n:Int) (p:List (Int×Int)):(tmN n p).length=p.length:=by simp [tmN]
theorem y4a (p:List (Int×Int)):tmN 1 p=p:=by
 unfold tmN
 rw [List.map_congr_left (g:=id) (fun t _=>by show (t.1,t.2*1)=t;rw [Int.mul_one]),List.map_id]
theorem y1f (n:Int) (p:List (Int×Int)) (i:Nat):(tmN n p).take i=tmN n (p.take i):=by simp [tmN,List.map_take]
theorem ynl (n:Int) (e:Int): ∀p:List (Int×Int),cfL (tmN n p) e=n*cfL p e
 |[]=>by simp [tmN,cfL]
 |t::p=>by
  have ih:=ynl n e p
  simp only [tmN,List.map_cons,cfL] at ih⊢
  rw [ih,Int.mul_add]
  congr 1
  split
  ·exact Int.mul_comm _ _
  ·simp
theorem yof (p:List (Int×Int)) (n:Int) (hp0:0<p.length) (hp:p.length<=100000) (hn: -1<=n/\n<=1) (hb: ∀t∈p,-1125899906842624<=t.2/\t.2<=1125899906842624):
  FnO Tryz.prog 79 [bqP p,I n] (.sl 3 0 0 p.length) [(0, .cells 84 (.lst (bvC (tmN n p))))]:=by
 have hlen:=yal p
 refine FnO.swap (r:= .sl 3 3 0 p.length) (H0:=[(3, .cells 84 (.lst (bvC (tmN n p))))]) ?_ 3 0 rfl (by simp only [swH,swO,yu7];rfl)
 refine FnO.intro [.tmp 4] Tryz.func79 rfl rfl (by decide) (by simp [Tryz.ntmps79]) ?_;rw [Tryz.ntmps79]
 repeat' (first|omega|(try apply yaa);simp only [go_sem,sevalprocAttr]|apply yab<;>(intro h_;(try simp only [h_]);revert h_)|apply And.intro|with_reducible intro h_|trivial|simp only [go_sem,la2];omega)
 refine yaj.intro (fun k fr H=> ∃i:Nat,i<=p.length/\k=p.length-i/\((i=0/\fr=[(6,I i),(5, .nils),(2, .ptr 0 0),(1,I n)]/\H=[(0,bqO (bvT p))])\/(0<i/\fr=[(6,I i),(5, .sl 3 3 0 i),(2, .ptr 0 0),(1,I n)]/\H=[(3, .cells 84 (.lst (bvC (tmN n (p.take i))))),(0,bqO (bvT p))]))) ?_ ?_
 ·refine ⟨_,_,_,?_,0,by omega,rfl, .inl ⟨rfl,rfl,rfl⟩⟩
  refine Wk.sub ?_ ?_<;>(simp only [go_sem,sevalprocAttr,yad])
 rintro k fr H ⟨i,hi,rfl,hcase⟩
 by_cases hil:i<p.length
 ·have bi:decide ((i:Int)<p.length)=true:=by simp;omega
  obtain ⟨g0,g1,g2⟩:=ybs p i hil
  have hm:=hb _ (ycd hil)
  have hcn: -1125899906842624<=(p.getD i (0,0)).2*n/\(p.getD i (0,0)).2*n<=1125899906842624:=by
   rcases (show n= -1\/n=0\/n=1 by omega) with rfl|rfl|rfl<;>omega
  have hnx:bvC (tmN n (p.take (i+1)))=bvC (tmN n (p.take i))++[I (bvA (p.getD i (0,0)).1),I (bvZ (p.getD i (0,0)).1),I ((p.getD i (0,0)).2*n)]:=by
   rw [ye8 hil]
   unfold tmN
   rw [List.map_append,ycz];rfl
  have hnc:(bvC (tmN n (p.take i))).length=3*i:=by rw [yal,yhy,List.length_take];omega
  have hn0:tmN n (p.take 0)=[]:=rfl
  generalize bvA (p.getD i (0,0)).1=x at*
  generalize bvZ (p.getD i (0,0)).1=y at*
  generalize (p.getD i (0,0)).2=c at*
  obtain ⟨cn,hcn'⟩: ∃cn,c*n=cn:=⟨_,rfl⟩
  rw [hcn'] at hcn hnx
  have b1: -9223372036854775808<=cn:=by omega
  have b2:cn<=9223372036854775807:=by omega
  rcases hcase with ⟨rfl,rfl,rfl⟩|⟨h0,rfl,rfl⟩
  ·rw [hn0] at hnx
   simp only [bvC,List.nil_append] at hnx
   repeat' (first|omega|(try apply yaa);simp only [go_sem,sevalprocAttr,bi,g0,g1,g2,hlen,hcn',b1,b2,yad]|apply yab<;>(intro h_;(try simp only [h_]);revert h_)|apply And.intro|with_reducible intro h_|trivial|simp only [go_sem,la2];omega)
   refine ⟨_,_,_,?_,?_,⟨1,by omega,rfl, .inr ⟨by omega,rfl,rfl⟩⟩⟩
   ·omega
   ·refine Wk.sub ?_ ?_<;>(simp only [go_sem,sevalprocAttr,yad,hnx])
  ·repeat' (first|omega|(try apply yaa);simp only [go_sem,sevalprocAttr,bi,g0,g1,g2,hlen,hnc,hcn',b1,b2,yad]|apply yab<;>(intro h_;(try simp only [h_]);revert h_)|apply And.intro|with_reducible intro h_|trivial|simp only [go_sem,la2];omega)
   refine ⟨_,_,_,?_,?_,⟨i+1,by omega,rfl, .inr ⟨by omega,rfl,rfl⟩⟩⟩
   ·omega
   ·refine Wk.sub ?_ ?_<;>(simp only [go_sem,sevalprocAttr,yad,hnx,ycq,List.all_append])
 ·obtain rfl:i=p.length:=by omega
  have bi:decide ((p.length:Int)<p.length)=false:=by simp
  rcases hcase with ⟨h1,_,_⟩|⟨h0,rfl,rfl⟩
  ·omega
  ·rw [List.take_length]
   repeat' (first|omega|(try apply yaa);simp only [go_sem,sevalprocAttr,bi,hlen,yad]|apply yab<;>(intro h_;(try simp only [h_]);revert h_)|apply And.intro|with_reducible intro h_|trivial|simp only [go_sem,la2];omega)
theorem yog (n:Int):Fn Tryz.prog 79 [bqP [],I n] .nils:=by
 refine Fn.introL [.tmp 4] Tryz.func79 rfl rfl (by decide) (by simp [Tryz.ntmps79]) ?_;rw [Tryz.ntmps79]
 repeat' (first|omega|(try apply yaa);simp only [go_sem,sevalprocAttr]|apply yab<;>(intro h_;(try simp only [h_]);revert h_)|apply And.intro|with_reducible intro h_|trivial|simp only [go_sem,la2];omega)
 refine yaj.intro (fun k fr H=>k=0/\fr=[(6,I 0),(5, .nils),(2, .ptr 0 0),(1,I n)]/\H=[(0,bqO (bvT []))]) ?_ ?_
 ·refine ⟨_,_,_,?_,rfl,rfl,rfl⟩
  refine Wk.sub ?_ ?_<;>(simp only [go_sem,sevalprocAttr,yad])
 rintro k fr H ⟨rfl,rfl,rfl⟩
 repeat' (first|omega|(try apply yaa);simp only [go_sem,sevalprocAttr]|apply yab<;>(intro h_;(try simp only [h_]);revert h_)|apply And.intro|with_reducible intro h_|trivial|simp only [go_sem,la2];omega)
 all_goals exact LeA.refl _
theorem y1g (p:List (Int×Int)) (n:Int) (hp:p.length<=100000) (hn: -1<=n/\n<=1) (hb: ∀t∈p,-1125899906842624<=t.2/\t.2<=1125899906842624):Fn Tryz.prog 79 [bqP p,I n] (bvT (tmN n p)):=by
 by_cases h0:p.length=0
 ·obtain rfl:p=[]:=List.eq_nil_of_length_eq_zero h0
  exact (yog n).le (LeA.nils (by decide) rfl)
 ·have h:=Fn.ofN (FnN.ofC (yof p n (by omega) hp hn hb) (by decide) (by rw [yal,yhy];omega) (fun x hx=>ye7 hx))
  show Fn _ _ _ (.ro 3 (tmN n p).length (.lst (bvC (tmN n p))))
  rw [yhy];exact h
theorem yyo (i j k:Nat) (p:List (Int×Int)):(bvC p).map (cutV i∘renV j (k+1))=bvC p:=yj9 (fun _=>rfl) p
theorem ybm (H:Hp) (n:Nat) (S:List (Int×Int)):(∀x∈bvC S,frzP H (n+1) x)=True:=eq_true fun x hx=>by obtain ⟨k,rfl⟩:=ye7 hx;trivial
theorem yyp (p q:List (Int×Int)) (n:Int) (hp:p.length<=50000) (hq:q.length<=50000) (hn: -1<=n/\n<=1) (hpb: ∀t∈p,-1125899906842624<=t.2/\t.2<=1125899906842624) (hqb: ∀t∈q,-1125899906842624<=t.2/\t.2<=1125899906842624) (h:yhd (p++tmN n q)):
  Fn Tryz.prog 48 [bqP p,bqP q,I n] (bqP (nz (sumR (p++tmN n q)))):=by
 have hO:=Fn.ofN (yhe _ h)
 have T2:=y1g q n (by omega) hn hqb
 have hlp:=yal p
 have hlq:=yal (tmN n q)
 have hlt:=yhy n q
 have hla:(p++tmN n q).length=p.length+(tmN n q).length:=by simp
 have hap:=ycz p (tmN n q)
 have hpa:bvT (p++tmN n q)= .ro 3 (p.length+(tmN n q).length) (.lst (bvC p++bvC (tmN n q))):=by show AV.ro 3 _ _=_;rw [hla,hap]
 by_cases h0:p.length=0
 ·obtain rfl:p=[]:=List.eq_nil_of_length_eq_zero h0
  have T1:=yog 1
  rw [List.nil_append] at hO⊢
  by_cases hq0:q.length=0
  ·obtain rfl:q=[]:=List.eq_nil_of_length_eq_zero hq0
   have hO0:Fn Tryz.prog 76 [.nils] (bqP (nz (sumR (tmN n [])))):=hO.arg (.cons (LeA.nils (by decide) rfl) .nil)
   have T3:Fn Tryz.prog 79 [bqP [],I n] (.ro 3 0 (.lst [])):=T2
   generalize nz (sumR (tmN n []))=r at*
   clear hO T2
   refine Fn.introL [.cell 6 40] Tryz.func48 rfl rfl (by decide) (by simp [Tryz.ntmps48]) ?_;rw [Tryz.ntmps48]
   repeat' (first|omega|(first|apply yaa|(refine yac.intro (id:=3) [[16,17],[16,17],[14,15,17],[14,15,16],[],[],[],[]] [[],[],[0,1],[0,1,2],[],[],[],[]] (by decide+kernel) mixed ?_)|(refine yac.introT (id:=3) (ybi) (by decide+kernel) mixed ?_)|skip);simp only [go_sem,sevalprocAttr,yad,↓reduceIte,reduceCtorEq,ybi]|apply yab<;>(intro h_;(try simp only [h_]);revert h_)|apply And.intro|with_reducible intro h_|trivial|simp only [go_sem,la2];omega)
   all_goals (first|refine ⟨yae.fn rfl T1 ?_⟩|refine ⟨yae.fn rfl T3 ?_⟩)
   all_goals (repeat' (first|omega|(first|apply yaa|(refine yac.intro (id:=3) [[16,17],[16,17],[14,15,17],[14,15,16],[],[],[],[]] [[],[],[0,1],[0,1,2],[],[],[],[]] (by decide+kernel) mixed ?_)|(refine yac.introT (id:=3) (ybi) (by decide+kernel) mixed ?_)|skip);simp only [go_sem,sevalprocAttr,yad,↓reduceIte,reduceCtorEq,ybi]|apply yab<;>(intro h_;(try simp only [h_]);revert h_)|apply And.intro|with_reducible intro h_|trivial|simp only [go_sem,la2];omega))
   all_goals (first|refine ⟨yae.fn rfl T1 ?_⟩|refine ⟨yae.fn rfl T3 ?_⟩)
   all_goals (repeat' (first|omega|(first|apply yaa|(refine yac.intro (id:=3) [[16,17],[16,17],[14,15,17],[14,15,16],[],[],[],[]] [[],[],[0,1],[0,1,2],[],[],[],[]] (by decide+kernel) mixed ?_)|(refine yac.introT (id:=3) (ybi) (by decide+kernel) mixed ?_)|skip);simp only [go_sem,sevalprocAttr,yad,↓reduceIte,reduceCtorEq,ybi]|apply yab<;>(intro h_;(try simp only [h_]);revert h_)|apply And.intro|with_reducible intro h_|trivial|simp only [go_sem,la2];omega))
   all_goals refine ⟨yae.fn rfl hO0 ?_⟩
   all_goals (repeat' (first|omega|(first|apply yaa|(refine yac.intro (id:=3) [[16,17],[16,17],[14,15,17],[14,15,16],[],[],[],[]] [[],[],[0,1],[0,1,2],[],[],[],[]] (by decide+kernel) mixed ?_)|(refine yac.introT (id:=3) (ybi) (by decide+kernel) mixed ?_)|skip);simp only [go_sem,sevalprocAttr,yad,↓reduceIte,reduceCtorEq,ybi]|apply yab<;>(intro h_;(try simp only [h_]);revert h_)|apply And.intro|with_reducible intro h_|trivial|simp only [go_sem,la2];omega))
   all_goals exact LeA.refl _
  ·generalize tmN n q=q' at*
   generalize nz (sumR q')=r at*
   have hcs:bvC q'≠[]:=fun e=>by rw [e] at hlq;simp at hlq;omega
   obtain ⟨x,l,hxl⟩: ∃x l,bvC q'=x::l:=by
    cases h:bvC q' with
    |nil=>exact absurd h hcs
    |cons x l=>exact ⟨x,l,rfl⟩
   have hall:=ybd q' ycr (fun _=>rfl)
   rw [hxl] at hlq hall
   rw [show bvT q'= .ro 3 q'.length (.lst (x::l)) by show AV.ro 3 _ (.lst (bvC q'))=_;rw [hxl]] at T2
   have hpo:0<q'.length:=by omega
   have hb2:q'.length<=1048576:=by omega
   have hql:=yal q'
   rw [Nat.mul_comm] at hql
   have htk:(bvC q').take (q'.length*3)=bvC q':=List.take_of_length_le (by omega)
   refine Fn.introL [.cell 6 40] Tryz.func48 rfl rfl (by decide) (by simp [Tryz.ntmps48]) ?_;rw [Tryz.ntmps48]
   repeat' (first|omega|(first|apply yaa|(refine yac.intro (id:=3) [[16,17],[16,17],[14,15,17],[14,15,16],[],[],[],[]] [[],[],[0,1],[0,1,2],[],[],[],[]] (by decide+kernel) mixed ?_)|(refine yac.introT (id:=3) (ybi) (by decide+kernel) mixed ?_)|skip);simp only [go_sem,sevalprocAttr,yad,↓reduceIte,reduceCtorEq,ybi]|apply yab<;>(intro h_;(try simp only [h_]);revert h_)|apply And.intro|with_reducible intro h_|trivial|simp only [go_sem,la2];omega)
   all_goals (first|refine ⟨yae.fn rfl T1 ?_⟩|refine ⟨yae.fn rfl T2 ?_⟩)
   all_goals (repeat' (first|omega|(first|apply yaa|(refine yac.intro (id:=3) [[16,17],[16,17],[14,15,17],[14,15,16],[],[],[],[]] [[],[],[0,1],[0,1,2],[],[],[],[]] (by decide+kernel) mixed ?_)|(refine yac.introT (id:=3) (ybi) (by decide+kernel) mixed ?_)|skip);simp only [go_sem,sevalprocAttr,hall,hpo,hb2,↓reduceIte,reduceCtorEq,ybi]|apply yab<;>(intro h_;(try simp only [h_]);revert h_)|apply And.intro|with_reducible intro h_|trivial|simp only [go_sem,la2];omega))
   all_goals (first|refine ⟨yae.fn rfl T1 ?_⟩|refine ⟨yae.fn rfl T2 ?_⟩)
   all_goals (repeat' (first|omega|(first|apply yaa|(refine yac.intro (id:=3) [[16,17],[16,17],[14,15,17],[14,15,16],[],[],[],[]] [[],[],[0,1],[0,1,2],[],[],[],[]] (by decide+kernel) mixed ?_)|(refine yac.introT (id:=3) (ybi) (by decide+kernel) mixed ?_)|skip);simp only [go_sem,sevalprocAttr,hall,hpo,hb2,↓reduceIte,reduceCtorEq,ybi]|apply yab<;>(intro h_;(try simp only [h_]);revert h_)|apply And.intro|with_reducible intro h_|trivial|simp only [go_sem,la2];omega))
   all_goals rw [←hxl]
   all_goals refine ⟨yae.frz [3] rfl (by simp only [go_sem,sevalprocAttr,htk,hql,yad,ybd,ya8,yba,ybm,Nat.le_refl]) (by simp only [go_sem,sevalprocAttr,htk,hql,yad,ybd,ya8,yba,ybm,Nat.le_refl]) (by simp only [go_sem,sevalprocAttr,htk,hql,yad,ybd,ya8,yba,ybm,Nat.le_refl]) (by simp only [go_sem,sevalprocAttr,htk,hql,yad,ybd,ya8,yba,ybm,Nat.le_refl]) rfl rfl rfl (yae.fn rfl hO ?_)⟩
   all_goals (repeat' (first|omega|(first|apply yaa|(refine yac.intro (id:=3) [[16,17],[16,17],[14,15,17],[14,15,16],[],[],[],[]] [[],[],[0,1],[0,1,2],[],[],[],[]] (by decide+kernel) mixed ?_)|(refine yac.introT (id:=3) (ybi) (by decide+kernel) mixed ?_)|skip);simp only [go_sem,sevalprocAttr,yad,↓reduceIte,reduceCtorEq,ybi]|apply yab<;>(intro h_;(try simp only [h_]);revert h_)|apply And.intro|with_reducible intro h_|trivial|simp only [go_sem,la2];omega))
   all_goals exact LeA.refl _
 ·have T1:=yof p 1 (by omega) (by omega) (by decide) hpb
  rw [y4a] at T1
  rw [hpa] at hO
  rw [←hap] at hO
  generalize tmN n q=q' at*
  generalize nz (sumR (p++q'))=r at*
  have hRl:=yal (p++q')
  rw [hla,Nat.mul_comm] at hRl
  clear hpa
  generalize p++q'=R at*
  have hb2:p.length+q'.length<=1048576:=by omega
  have hap':=hap.symm
  have htk:(bvC R).take ((p.length+q'.length)*3)=bvC R:=List.take_of_length_le (by omega)
  clear hap
  refine Fn.introL [.cell 6 40] Tryz.func48 rfl rfl (by decide) (by simp [Tryz.ntmps48]) ?_;rw [Tryz.ntmps48]
  repeat' (first|omega|(first|apply yaa|(refine yac.intro (id:=3) [[16,17],[16,17],[14,15,17],[14,15,16],[],[],[],[]] [[],[],[0,1],[0,1,2],[],[],[],[]] (by decide+kernel) mixed ?_)|(refine yac.introT (id:=3) (ybi) (by decide+kernel) mixed ?_)|skip);simp only [go_sem,sevalprocAttr,yad,↓reduceIte,reduceCtorEq,ybi]|apply yab<;>(intro h_;(try simp only [h_]);revert h_)|apply And.intro|with_reducible intro h_|trivial|simp only [go_sem,la2];omega)
  all_goals (first|refine ⟨yae.fno rfl T1 ?_⟩|refine ⟨yae.fn rfl T2 ?_⟩)
  all_goals (repeat' (first|omega|(first|apply yaa|(refine yac.intro (id:=3) [[16,17],[16,17],[14,15,17],[14,15,16],[],[],[],[]] [[],[],[0,1],[0,1,2],[],[],[],[]] (by decide+kernel) mixed ?_)|(refine yac.introT (id:=3) (ybi) (by decide+kernel) mixed ?_)|skip);simp only [go_sem,sevalprocAttr,hlp,hlq,yad,ybd,ycq,yyo,hb2,hap',↓reduceIte,reduceCtorEq,ybi]|apply yab<;>(intro h_;(try simp only [h_]);revert h_)|apply And.intro|with_reducible intro h_|trivial|simp only [go_sem,la2];omega))
  all_goals (first|refine ⟨yae.fno rfl T1 ?_⟩|refine ⟨yae.fn rfl T2 ?_⟩)
  all_goals (repeat' (first|omega|(first|apply yaa|(refine yac.intro (id:=3) [[16,17],[16,17],[14,15,17],[14,15,16],[],[],[],[]] [[],[],[0,1],[0,1,2],[],[],[],[]] (by decide+kernel) mixed ?_)|(refine yac.introT (id:=3) (ybi) (by decide+kernel) mixed ?_)|skip);simp only [go_sem,sevalprocAttr,hlp,hlq,yad,ybd,ycq,yyo,hb2,hap',↓reduceIte,reduceCtorEq,ybi]|apply yab<;>(intro h_;(try simp only [h_]);revert h_)|apply And.intro|with_reducible intro h_|trivial|simp only [go_sem,la2];omega))
  all_goals refine ⟨yae.frz [3] rfl (by simp only [go_sem,sevalprocAttr,htk,hRl,yad,ybd,ya8,yba,ybm,Nat.le_refl]) (by simp only [go_sem,sevalprocAttr,htk,hRl,yad,ybd,ya8,yba,ybm,Nat.le_refl]) (by simp only [go_sem,sevalprocAttr,htk,hRl,yad,ybd,ya8,yba,ybm,Nat.le_refl]) (by simp only [go_sem,sevalprocAttr,htk,hRl,yad,ybd,ya8,yba,ybm,Nat.le_refl]) rfl rfl rfl (yae.fn rfl hO ?_)⟩
  all_goals (repeat' (first|omega|(first|apply yaa|(refine yac.intro (id:=3) [[16,17],[16,17],[14,15,17],[14,15,16],[],[],[],[]] [[],[],[0,1],[0,1,2],[],[],[],[]] (by decide+kernel) mixed ?_)|(refine yac.introT (id:=3) (ybi) (by decide+kernel) mixed ?_)|skip);simp only [go_sem,sevalprocAttr,yad,↓reduceIte,reduceCtorEq,ybi]|apply yab<;>(intro h_;(try simp only [h_]);revert h_)|apply And.intro|with_reducible intro h_|trivial|simp only [go_sem,la2];omega))
  all_goals exact LeA.refl _
end Go.Proofs.YtbblgobamoabkaaGreatDoor
namespace Go.Proofs.YtbblgobamoabkaaGreatDoor
open Go Go.RowKit
set_option maxRecDepth 100000
set_option maxHeartbeats 8000000
set_option linter.unusedVariables false
set_option linter.unusedSimpArgs false
theorem yr1 (p:List (Int×Int)) (a z:Int) (hp:p.length<=50000) (ha: -2097152<=a/\a<=2097152) (hz: -2097152<=z/\z<=2097152) (hb: ∀t∈p,(-1048576<=bvA t.1+a/\bvA t.1+a<=1048576)/\ -1048576<=bvZ t.1+z/\bvZ t.1+z<=1048576) (h:yhd (bvSh (bvE a z) p)):
  Fn Tryz.prog 49 [bqP p,I a,I z] (bqP (nz (sumR (bvSh (bvE a z) p)))):=by
 have hO:=Fn.ofN (yhe _ h)
 have hlen:=yal p
 generalize hr:nz (sumR (bvSh (bvE a z) p))=r at*
 refine Fn.introL [.cell 6 40] Tryz.func49 rfl rfl (by decide) (by simp [Tryz.ntmps49]) ?_;rw [Tryz.ntmps49]
 repeat' (first|omega|(try apply yaa);simp only [go_sem,sevalprocAttr]|apply yab<;>(intro h_;(try simp only [h_]);revert h_)|apply And.intro|with_reducible intro h_|trivial|simp only [go_sem,la2];omega)
 refine yaj.intro (fun k fr H=> ∃i:Nat,i<=p.length/\k=p.length-i/\((i=0/\fr=[(8,I i),(7, .nils),(6, .ptr 1 0),(3, .ptr 0 0),(1,I a),(2,I z)]/\H=[(1,bqO .nils),(0,bqO (bvT p))])\/(0<i/\fr=[(8,I i),(7, .sl 3 4 0 i),(6, .ptr 1 0),(3, .ptr 0 0),(1,I a),(2,I z)]/\H=[(4, .cells 84 (.lst (bvC (bvSh (bvE a z) (p.take i))))),(1,bqO .nils),(0,bqO (bvT p))]))) ?_ ?_
 ·refine ⟨_,_,_,?_,0,by omega,rfl, .inl ⟨rfl,rfl,rfl⟩⟩
  refine Wk.sub ?_ ?_<;>(simp only [go_sem,sevalprocAttr,yad])
 rintro k fr H ⟨i,hi,rfl,hcase⟩
 by_cases hil:i<p.length
 ·have bi:decide ((i:Int)<p.length)=true:=by simp;omega
  obtain ⟨g0,g1,g2⟩:=ybs p i hil
  have ht:=hb _ (ycd hil)
  have hnx:bvC (bvSh (bvE a z) (p.take (i+1)))=bvC (bvSh (bvE a z) (p.take i))++[I (bvA (p.getD i (0,0)).1+a),I (bvZ (p.getD i (0,0)).1+z),I (p.getD i (0,0)).2]:=by
   rw [ye8 hil,yp6,ycz]
   congr 1
   have hs:=y1v (e:=(p.getD i (0,0)).1) (a:=a) (z:=z) (by omega)
   show [I (bvA ((p.getD i (0,0)).1+bvE a z)),I (bvZ ((p.getD i (0,0)).1+bvE a z)),I (p.getD i (0,0)).2]=_
   rw [hs.1,hs.2]
  have hnc:(bvC (bvSh (bvE a z) (p.take i))).length=3*i:=by rw [yal,ye6,List.length_take];omega
  have hn0:bvSh (bvE a z) (p.take 0)=[]:=rfl
  generalize bvA (p.getD i (0,0)).1=x at*
  generalize bvZ (p.getD i (0,0)).1=y at*
  generalize (p.getD i (0,0)).2=c at*
  rcases hcase with ⟨rfl,rfl,rfl⟩|⟨h0,rfl,rfl⟩
  ·rw [hn0] at hnx
   simp only [bvC,List.nil_append] at hnx
   repeat' (first|omega|(try apply yaa);simp only [go_sem,sevalprocAttr,bi,g0,g1,g2,hlen,yad]|apply yab<;>(intro h_;(try simp only [h_]);revert h_)|apply And.intro|with_reducible intro h_|trivial|simp only [go_sem,la2];omega)
   refine ⟨_,_,_,?_,?_,⟨1,by omega,rfl, .inr ⟨by omega,rfl,rfl⟩⟩⟩
   ·omega
   ·refine Wk.sub ?_ ?_<;>(simp only [go_sem,sevalprocAttr,yad,hnx])
  ·repeat' (first|omega|(try apply yaa);simp only [go_sem,sevalprocAttr,bi,g0,g1,g2,hlen,hnc,yad]|apply yab<;>(intro h_;(try simp only [h_]);revert h_)|apply And.intro|with_reducible intro h_|trivial|simp only [go_sem,la2];omega)
   refine ⟨_,_,_,?_,?_,⟨i+1,by omega,rfl, .inr ⟨by omega,rfl,rfl⟩⟩⟩
   ·omega
   ·refine Wk.sub ?_ ?_<;>(simp only [go_sem,sevalprocAttr,yad,hnx,ycq,List.all_append])
 ·obtain rfl:i=p.length:=by omega
  have bi:decide ((p.length:Int)<p.length)=false:=by simp
  rcases hcase with ⟨h1,rfl,rfl⟩|⟨h0,rfl,rfl⟩
  ·obtain rfl:p=[]:=List.eq_nil_of_length_eq_zero h1
   have hO0:Fn Tryz.prog 76 [.nils] (bqP r):=hO.arg (.cons (LeA.nils (by decide) rfl) .nil)
   repeat' (first|omega|(try apply yaa);simp only [go_sem,sevalprocAttr,bi,yad]|apply yab<;>(intro h_;(try simp only [h_]);revert h_)|apply And.intro|with_reducible intro h_|trivial|simp only [go_sem,la2];omega)
   refine ⟨yae.fn rfl hO0 ?_⟩
   repeat' (first|omega|(try apply yaa);simp only [go_sem,sevalprocAttr,yad]|apply yab<;>(intro h_;(try simp only [h_]);revert h_)|apply And.intro|with_reducible intro h_|trivial|simp only [go_sem,la2];omega)
   all_goals exact LeA.refl _
  ·rw [List.take_length]
   have hR:bvT (bvSh (bvE a z) p)= .ro 3 p.length (.lst (bvC (bvSh (bvE a z) p))):=by show AV.ro 3 _ _=_;rw [ye6]
   rw [hR] at hO
   have hRl:=yal (bvSh (bvE a z) p)
   rw [ye6,Nat.mul_comm] at hRl
   have htk:(bvC (bvSh (bvE a z) p)).take (p.length*3)=bvC (bvSh (bvE a z) p):=List.take_of_length_le (by omega)
   generalize bvSh (bvE a z) p=R at*
   repeat' (first|omega|(try apply yaa);simp only [go_sem,sevalprocAttr,bi,hlen,yad]|apply yab<;>(intro h_;(try simp only [h_]);revert h_)|apply And.intro|with_reducible intro h_|trivial|simp only [go_sem,la2];omega)
   refine ⟨yae.frz [4] rfl (by simp only [go_sem,sevalprocAttr,htk,hRl,yad,ybd,ya8,yba,ybm,Nat.le_refl]) (by simp only [go_sem,sevalprocAttr,htk,hRl,yad,ybd,ya8,yba,ybm,Nat.le_refl]) (by simp only [go_sem,sevalprocAttr,htk,hRl,yad,ybd,ya8,yba,ybm,Nat.le_refl]) (by simp only [go_sem,sevalprocAttr,htk,hRl,yad,ybd,ya8,yba,ybm,Nat.le_refl]) rfl rfl rfl (yae.fn rfl hO ?_)⟩
   repeat' (first|omega|(try apply yaa);simp only [go_sem,sevalprocAttr,yad]|apply yab<;>(intro h_;(try simp only [h_]);revert h_)|apply And.intro|with_reducible intro h_|trivial|simp only [go_sem,la2];omega)
   all_goals exact LeA.refl _
def mulR (p q:List (Int×Int)):List (Int×Int):=p.flatMap fun t=>q.map fun u=>(t.1+u.1,t.2*u.2)
def mul1 (t:Int×Int) (q:List (Int×Int)):List (Int×Int):=q.map fun u=>(t.1+u.1,t.2*u.2)
theorem yyq (p q:List (Int×Int)) (t:Int×Int):mulR (p++[t]) q=mulR p q++mul1 t q:=by simp [mulR,mul1]
theorem yyr (t u:Int×Int) (q:List (Int×Int)):mul1 t (q++[u])=mul1 t q++[(t.1+u.1,t.2*u.2)]:=by simp [mul1]
theorem yqv (p q:List (Int×Int)):(mulR p q).length=p.length*q.length:=by
 unfold mulR
 induction p with
 |nil=>simp
 |cons t p ih=>simp only [List.flatMap_cons,List.length_append,List.length_map,List.length_cons,ih,Nat.succ_mul];omega
theorem y1h (t:Int×Int) (q:List (Int×Int)):(mul1 t q).length=q.length:=by simp [mul1]
theorem yqw (t:Int×Int) (e:Int): ∀q:List (Int×Int),cfL (mul1 t q) e=t.2*cfL q (e-t.1)
 |[]=>by simp [mul1,cfL]
 |u::q=>by
  have ih:=yqw t e q
  simp only [mul1,List.map_cons,cfL] at ih⊢
  rw [ih,Int.mul_add]
  congr 1
  by_cases h:t.1+u.1=e
  ·rw [if_pos h,if_pos (by omega)]
  ·rw [if_neg h,if_neg (by omega),Int.mul_zero]
theorem yqx (q:List (Int×Int)) (e:Int): ∀p:List (Int×Int),cfL (mulR p q) e=cvL p (cfL q) e
 |[]=>rfl
 |t::p=>by
  have ih:=yqx q e p
  have h:mulR (t::p) q=mul1 t q++mulR p q:=by simp [mulR,mul1]
  rw [h,ye4,yqw,ih]
  rfl
end Go.Proofs.YtbblgobamoabkaaGreatDoor
