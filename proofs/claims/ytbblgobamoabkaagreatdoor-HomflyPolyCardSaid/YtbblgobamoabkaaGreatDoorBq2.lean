/- The reference of layer 13: Of. -/
import Derived.Test.YtbblgobamoabkaaGreatDoorZq
namespace Go.Proofs.YtbblgobamoabkaaGreatDoor
open Go Go.RowKit
set_option maxRecDepth 100000
set_option maxHeartbeats 8000000
set_option linter.unusedVariables false
set_option linter.unusedSimpArgs false
def ymr:List (List Nat):=[[56,57,58,59,60],[56,57,58,59,60],[54,55,57],[54,55,56],[54,55],[54,55],[54,55],[],[],[]]
structure yhd (l:List (Int×Int)):Prop where
 len:l.length<=100000
 tm: ∀t∈l,-2305843009213693952<=t.2/\t.2<=2305843009213693952
 part: ∀i e,-2305843009213693952<=cfL (l.take i) e/\cfL (l.take i) e<=2305843009213693952
 fin: ∀e,cfL l e≠0->(-1125899906842624<=cfL l e/\cfL l e<=1125899906842624)/\(-1048576<=bvA e/\bvA e<=1048576)/\ -1048576<=bvZ e/\bvZ e<=1048576
theorem yqu {l:List (Int×Int)} {t:Int×Int} (h:t∈sumR l):t.2=cfL l t.1:=by
 rw [←yqq,yim (yqr l) h]
theorem ye8 {p:List (Int×Int)} {i:Nat} (h:i<p.length):p.take (i+1)=p.take i++[p.getD i (0,0)]:=by
 rw [List.take_add_one,List.getD_eq_getElem?_getD,List.getElem?_eq_getElem h];rfl
theorem yyn {l:List (Int×Int)} {i:Nat} (h:i<l.length):sumR (l.take (i+1))=insR (sumR (l.take i)) (l.getD i (0,0)):=by
 rw [ye8 h,yyi]
theorem y5n (l:List (Int×Int)):(nz l).length<=l.length:=List.length_filter_le _ _
theorem y6s {e c:Int} (l:List (Int×Int)) (h:c=0):nz (l++[(e,c)])=nz l:=by unfold nz;rw [List.filter_append];simp [h]
theorem y6t {e c:Int} (l:List (Int×Int)) (h:c≠0):nz (l++[(e,c)])=nz l++[(e,c)]:=by unfold nz;rw [List.filter_append];simp [h]
theorem yu7 (i j k:Nat) (p:List (Int×Int)):(bvC p).map (swV i j (k+1))=bvC p:=by
 rw [List.map_congr_left (g:=id) (fun x hx=>by obtain ⟨n,rfl⟩:=ye7 hx;rfl),List.map_id]
abbrev bqP (p:List (Int×Int)):AV:= .agg [bvT p, .bool false]
abbrev bqO (x:AV):AObj:= .cells 40 (.lst [x, .bool false])
theorem yhe (l:List (Int×Int)) (h:yhd l):FnN Tryz.prog 76 [bvT l] (bqP (nz (sumR l))):=by
 have hlen:=yal l
 have key: ∀(r:AV) (H0:Hp),((nz (sumR l)=[]/\r= .agg [.nils, .bool false]/\H0=[])\/(nz (sumR l)≠[]/\r= .agg [.sl 3 3 0 (nz (sumR l)).length, .bool false]/\H0=[(3, .cells 84 (.lst (bvC (nz (sumR l)))))]))->FnO Tryz.prog 76 [bvT l] r H0:=fun r H0 hr=>by
  have hll:=h.len
  have hS: ∀i,(sumR (l.take i)).length<=100000/\ ∀u∈sumR (l.take i),-2305843009213693952<=u.2/\u.2<=2305843009213693952:=fun i=>by
   have h1:=y1d (l.take i)
   rw [List.length_take] at h1
   exact ⟨by omega,fun u hu=>by rw [yqu hu];exact h.part i _⟩
  refine FnO.intro [.cell 2 40] Tryz.func76 rfl rfl (by decide) (by simp [Tryz.ntmps76]) ?_;rw [Tryz.ntmps76]
  repeat' (first|omega|(try apply yaa);simp only [go_sem,sevalprocAttr]|apply yab<;>(intro h_;(try simp only [h_]);revert h_)|apply And.intro|with_reducible intro h_|trivial|simp only [go_sem,la2];omega)
  refine yaj.intro (fun n fr H=> ∃i:Nat,i<=l.length/\n=l.length-i/\fr=[(4,I i),(3,bvT (sumR (l.take i))),(2, .ptr 0 0),(0,bvT l)]/\H=[(0,bqO .nils)]) ?_ ?_
  ·refine ⟨_,_,_,?_,0,by omega,rfl,rfl,rfl⟩
   refine Wk.trans (Wk.sub (fr':=[(4,I 0),(3, .nils),(2, .ptr 0 0),(0,bvT l)]) ?_ ?_) (Wk.le (.cons (LeA.refl _) (.cons (LeA.nils (by decide) rfl) (LeFr.refl _))))<;>(simp only [go_sem,sevalprocAttr,yad])
  rintro n fr H ⟨i,hi,rfl,rfl,rfl⟩
  by_cases hil:i<l.length
  ·have bi:decide ((i:Int)<l.length)=true:=by simp;omega
   obtain ⟨g0,g1,g2⟩:=ybs l i hil
   have hP:=y1e (sumR (l.take i)) (l.getD i (0,0)) (hS i).1 (h.tm _ (ycd hil)) (hS i).2
   rw [←yyn hil] at hP
   rw [show tA (l.getD i (0,0))= .agg [I (bvA (l.getD i (0,0)).1),I (bvZ (l.getD i (0,0)).1),I (l.getD i (0,0)).2] from rfl] at hP
   generalize sumR (l.take i)=S at*
   generalize (l.getD i (0,0)).1=e at*
   generalize (l.getD i (0,0)).2=c at*
   repeat' (first|omega|(try apply yaa);simp only [go_sem,sevalprocAttr,bi,g0,g1,g2,hlen,yad]|apply yab<;>(intro h_;(try simp only [h_]);revert h_)|apply And.intro|with_reducible intro h_|trivial|simp only [go_sem,la2];omega)
   refine ⟨yae.fn rfl hP ?_⟩
   repeat' (first|omega|(try apply yaa);simp only [go_sem,sevalprocAttr,bi,yad]|apply yab<;>(intro h_;(try simp only [h_]);revert h_)|apply And.intro|with_reducible intro h_|trivial|simp only [go_sem,la2];omega)
   refine ⟨_,_,_,?_,?_,⟨i+1,by omega,rfl,rfl,rfl⟩⟩
   ·omega
   ·refine Wk.sub ?_ ?_<;>(simp only [go_sem,sevalprocAttr,yad])
  obtain rfl:i=l.length:=by omega
  have bi:decide ((l.length:Int)<l.length)=false:=by simp
  have hS':=hS l.length
  have hM: ∀u∈sumR l,u.2≠0->(-1125899906842624<=u.2/\u.2<=1125899906842624)/\(-1048576<=bvA u.1/\bvA u.1<=1048576)/\ -1048576<=bvZ u.1/\bvZ u.1<=1048576:=fun u hu hn=>by
   rw [yqu hu] at hn⊢
   exact h.fin _ hn
  rw [List.take_length] at hS'⊢
  clear hS
  generalize sumR l=S at*
  have hlS:=yal S
  repeat' (first|omega|(try apply yaa);simp only [go_sem,sevalprocAttr,bi,hlen,yad]|apply yab<;>(intro h_;(try simp only [h_]);revert h_)|apply And.intro|with_reducible intro h_|trivial|simp only [go_sem,la2];omega)
  refine yaj.intro (fun n fr H=> ∃i:Nat,i<=S.length/\n=S.length-i/\fr=[(6,I i),(5, .ptr 1 0),(3,bvT S),(2, .ptr 0 0)]/\((nz (S.take i)=[]/\H=[(1,bqO .nils),(0,bqO .nils)])\/(0<(nz (S.take i)).length/\H=[(3, .cells 84 (.lst (bvC (nz (S.take i))))),(1,bqO (.sl 3 3 0 (nz (S.take i)).length)),(0,bqO .nils)]))) ?_ ?_
  ·refine ⟨_,_,_,?_,0,by omega,rfl,rfl, .inl ⟨rfl,rfl⟩⟩
   refine Wk.sub ?_ ?_<;>(simp only [go_sem,sevalprocAttr,yad])
  clear hi bi hil
  rintro n fr H ⟨i,hi,rfl,rfl,hcase⟩
  have hnl:=y5n (S.take i)
  rw [List.length_take] at hnl
  have hnc:=yal (nz (S.take i))
  by_cases hil:i<S.length
  ·have bi:decide ((i:Int)<S.length)=true:=by simp;omega
   obtain ⟨g0,g1,g2⟩:=ybs S i hil
   have hm:=hM _ (ycd hil)
   have hsn:=ye8 hil
   have hnx: ∀e c,S.getD i (0,0)=(e,c)->nz (S.take (i+1))=if c=0 then nz (S.take i) else nz (S.take i)++[(e,c)]:=fun e c he=>by
    rw [hsn,he]
    split
    ·exact y6s _ ‹_›
    ·exact y6t _ ‹_›
   obtain ⟨e,c,hec⟩: ∃e c,S.getD i (0,0)=(e,c):=⟨_,_,rfl⟩
   have hnx:=hnx e c hec
   rw [hec] at g0 g1 g2 hm
   dsimp only at g0 g1 g2 hm
   by_cases h0:c=0
   ·have b0:(c==0)=true:=by simpa using h0
    rw [if_pos h0] at hnx
    rcases hcase with ⟨hnil,rfl⟩|⟨hpos,rfl⟩
    ·repeat' (first|omega|(try apply yaa);simp only [go_sem,sevalprocAttr,bi,b0,g0,g1,g2,hlS,yad]|apply yab<;>(intro h_;(try simp only [h_]);revert h_)|apply And.intro|with_reducible intro h_|trivial|simp only [go_sem,la2];omega)
     refine ⟨_,_,_,?_,?_,⟨i+1,by omega,rfl,rfl, .inl ⟨by rw [hnx];exact hnil,rfl⟩⟩⟩
     ·omega
     ·refine Wk.sub ?_ ?_<;>(simp only [go_sem,sevalprocAttr,yad])
    ·repeat' (first|omega|(try apply yaa);simp only [go_sem,sevalprocAttr,bi,b0,g0,g1,g2,hlS,yad]|apply yab<;>(intro h_;(try simp only [h_]);revert h_)|apply And.intro|with_reducible intro h_|trivial|simp only [go_sem,la2];omega)
     refine ⟨_,_,_,?_,?_,⟨i+1,by omega,rfl,rfl, .inr ⟨by rw [hnx];first|exact hpos|simp,rfl⟩⟩⟩
     ·omega
     ·rw [hnx]
      refine Wk.sub ?_ ?_<;>(simp only [go_sem,sevalprocAttr,yad])
   ·have b0:(c==0)=false:=by simpa using h0
    rw [if_neg h0] at hnx
    have hm:=hm h0
    have f1:=ykf c 1125899906842624 (by decide) (by decide)
    have f2:=ykf (bvA e) 1048576 (by decide) (by decide)
    have f3:=ykf (bvZ e) 1048576 (by decide) (by decide)
    rw [decide_eq_false (by omega),decide_eq_false (by omega),Bool.or_false] at f1 f2 f3
    rcases hcase with ⟨hnil,rfl⟩|⟨hpos,rfl⟩
    ·rw [hnil,List.nil_append] at hnx
     have e5:bvC [(e,c)]=[I (bvA e),I (bvZ e),I c]:=rfl
     repeat' (first|omega|(first|apply yaa|(refine yac.intro (id:=13) ymr [[],[],[0,1],[0,1,2],[0,1],[0,1],[0,1],[],[],[]] (by decide+kernel) mixed ?_)|skip);simp only [go_sem,sevalprocAttr,bi,b0,g0,g1,g2,hlS,yad,↓reduceIte,reduceCtorEq,ymr]|(refine ⟨yae.fn (r:=?_) rfl ?_ ?_⟩;rotate_left;assumption)|(refine ⟨yai.fn (r:=?_) rfl ?_ ?_⟩;rotate_left;assumption)|apply yab<;>(intro h_;(try simp only [h_]);revert h_)|apply And.intro|with_reducible intro h_|trivial|simp only [go_sem,la2];omega)
     all_goals (refine ⟨_,_,_,?_,?_,⟨i+1,by omega,rfl,rfl, .inr ⟨by rw [hnx];first|exact hpos|simp,rfl⟩⟩⟩)
     all_goals first|omega|skip
     all_goals rw [hnx]
     all_goals (refine Wk.subS 3 9 (fr1:=[(6,I ((i+1:Nat):Int)),(5, .ptr 1 0),(3,bvT S),(2, .ptr 0 0)]) (H1:=[(9, .cells 84 (.lst (bvC [(e,c)]))),(1,bqO (.sl 3 9 0 [(e,c)].length)),(0,bqO .nils)]) rfl rfl rfl rfl ?_ ?_<;>(simp only [go_sem,sevalprocAttr,e5,yad]))
    ·have e5:bvC (nz (S.take i)++[(e,c)])=bvC (nz (S.take i))++[I (bvA e),I (bvZ e),I c]:=by rw [ycz];rfl
     have e6:(nz (S.take i)++[(e,c)]).length=(nz (S.take i)).length+1:=by simp
     repeat' (first|omega|(first|apply yaa|(refine yac.intro (id:=13) ymr [[],[],[0,1],[0,1,2],[0,1],[0,1],[0,1],[],[],[]] (by decide+kernel) mixed ?_)|skip);simp only [go_sem,sevalprocAttr,bi,b0,g0,g1,g2,hlS,hnc,yad,↓reduceIte,reduceCtorEq,ymr]|(refine ⟨yae.fn (r:=?_) rfl ?_ ?_⟩;rotate_left;assumption)|(refine ⟨yai.fn (r:=?_) rfl ?_ ?_⟩;rotate_left;assumption)|apply yab<;>(intro h_;(try simp only [h_]);revert h_)|apply And.intro|with_reducible intro h_|trivial|simp only [go_sem,la2];omega)
     all_goals (refine ⟨_,_,_,?_,?_,⟨i+1,by omega,rfl,rfl, .inr ⟨by rw [hnx];first|exact hpos|simp,rfl⟩⟩⟩)
     all_goals first|omega|skip
     all_goals rw [hnx]
     all_goals (refine Wk.subS 3 11 (fr1:=[(6,I ((i+1:Nat):Int)),(5, .ptr 1 0),(3,bvT S),(2, .ptr 0 0)]) (H1:=[(11, .cells 84 (.lst (bvC (nz (S.take i)++[(e,c)])))),(1,bqO (.sl 3 11 0 (nz (S.take i)++[(e,c)]).length)),(0,bqO .nils)]) rfl (by simp only [swH,swO,List.map_cons,List.map_nil,yu7];rfl) rfl (by simp only [swH,swO,List.map_cons,List.map_nil,yu7];rfl) ?_ ?_<;>(simp only [go_sem,sevalprocAttr,e5,e6,yad,List.all_append]))
  ·obtain rfl:i=S.length:=by omega
   have bi:decide ((S.length:Int)<S.length)=false:=by simp
   rw [List.take_length] at hcase hnl hnc
   rcases hcase with ⟨hnil,rfl⟩|⟨hpos,rfl⟩
   ·rcases hr with ⟨_,rfl,rfl⟩|⟨hne,_,_⟩
    ·repeat' (first|omega|(try apply yaa);simp only [go_sem,sevalprocAttr,bi,yad]|apply yab<;>(intro h_;(try simp only [h_]);revert h_)|apply And.intro|with_reducible intro h_|trivial|simp only [go_sem,la2];omega)
    ·exact absurd hnil hne
   ·rcases hr with ⟨hnil,_,_⟩|⟨_,rfl,rfl⟩
    ·rw [hnil] at hpos;exact absurd hpos (by decide)
    ·repeat' (first|omega|(try apply yaa);simp only [go_sem,sevalprocAttr,bi,hnc,yad]|apply yab<;>(intro h_;(try simp only [h_]);revert h_)|apply And.intro|with_reducible intro h_|trivial|simp only [go_sem,la2];omega)
 by_cases h0:nz (sumR l)=[]
 ·have h1:=key _ _ (.inl ⟨h0,rfl,rfl⟩)
  rw [h0]
  exact (FnN.ofE h1).le (LeA.aggL (.cons (LeA.nils (by omega) rfl) (.cons (LeA.refl _) .nil)))
 ·have h1:=key _ _ (.inr ⟨h0,rfl,rfl⟩)
  exact FnN.ofAB h1 (by decide) (by rw [yal];omega) (fun x hx=>ye7 hx)
end Go.Proofs.YtbblgobamoabkaaGreatDoor
