/- The reference of layer 1: turns, faces. -/
import Derived.Test.YtbblgobamoabkaaGreatDoorZo
import Derived.Test.YtbblgobamoabkaaGreatDoorPl
set_option linter.unusedSimpArgs false
set_option linter.unusedVariables false
namespace Go.Proofs.YtbblgobamoabkaaGreatDoor
open Go Go.RowKit
set_option maxRecDepth 100000
set_option maxHeartbeats 8000000
theorem yq9 (h b:Int) (h0:0<=h) (h1:h<=100000):Fn Tryz.prog 116 [I h,I b] (I (ya1 h b)):=by
 have e1:h.tmod 4=h % 4:=Int.tmod_eq_emod_of_nonneg h0
 have e2: -4<b.tmod 4/\b.tmod 4<4:=⟨Int.lt_tmod_of_pos b (by decide),Int.tmod_lt_of_pos b (by decide)⟩
 have e4:(h % 4+b.tmod 4).tmod 4=if 0<=h % 4+b.tmod 4 then (h % 4+b.tmod 4)% 4 else h % 4+b.tmod 4:=by
  split
  ·exact Int.tmod_eq_emod_of_nonneg (by omega)
  ·rename_i hn
   have:(h % 4+b.tmod 4)= -(-(h % 4+b.tmod 4)):=by omega
   rw [this,Int.neg_tmod,Int.tmod_eq_emod_of_nonneg (by omega)]
   omega
 have e3:((h % 4+b.tmod 4).tmod 4+4).tmod 4=(h % 4+b.tmod 4+4)% 4:=by
  rw [e4,Int.tmod_eq_emod_of_nonneg (by split<;>omega)]
  split<;>omega
 unfold ya1
 refine Fn.intro [.tmp 4] Tryz.func116 rfl rfl (by decide) (by simp [Tryz.ntmps116]) ?_;rw [Tryz.ntmps116]
 repeat' (first|omega|(try apply yaa);simp only [go_sem,sevalprocAttr]|apply yab<;>(intro h_;(try simp only [h_]);revert h_)|apply And.intro|with_reducible intro h_|trivial|simp only [go_sem,la2];omega)
 all_goals try simp only [e1,e3]
 all_goals try (rw [e4];split<;>omega)
 all_goals try omega
theorem yj5 (s:List Int) (h:Int) (h0:0<=h) (h1:h<4*s.length) (hs:s.length<=1000):Fn Tryz.prog 34 [roI s,I h] (.bool (outB s h)):=by
 have e1:h.tmod 4=h % 4:=Int.tmod_eq_emod_of_nonneg h0
 have e2:h.tdiv 4=h/4:=Int.tdiv_eq_ediv_of_nonneg h0
 refine Fn.intro [.tmp 4] Tryz.func34 rfl rfl (by decide) (by simp [Tryz.ntmps34]) ?_;rw [Tryz.ntmps34]
 repeat' (first|omega|(try apply yaa);simp only [go_sem,sevalprocAttr]|apply yab<;>(intro h_;(try simp only [h_]);revert h_)|apply And.intro|with_reducible intro h_|trivial|simp only [go_sem,la2];omega)
 all_goals try simp only [e1,e2] at*
 all_goals try omega
 all_goals simp_all [outB]
theorem yra (m:List Int) (n h:Nat) (hn:n<=1000) (hml:m.length=4*n) (hm: ∀i,i<m.length->0<=m.getD i 0/\m.getD i 0<4*n) (hh:h<m.length):Fn Tryz.prog 72 [roI m,I h] (roI (orbF (yah m) m.length h)):=by
 have hnx: ∀g:Nat,g<m.length->Fn Tryz.prog 116 [I (m.getD g 0),I (-1)] (I (yah m g)):=fun g hg=>by
  have:=hm g hg
  exact yq9 _ _ (by omega) (by omega)
 have hrg: ∀g:Nat,g<m.length->0<=yah m g/\yah m g<4*n:=fun g hg=>yd3 (hm g hg).1 (hm g hg).2
 have hbig: ∀g:Nat,g<m.length->(g:Int)<m.length:=fun g hg=>by omega
 have hh':=hnx h hh
 refine Fn.intro [.tmp 4] Tryz.func72 rfl rfl (by decide) (by simp [Tryz.ntmps72]) ?_;rw [Tryz.ntmps72]
 repeat' (first|omega|(try apply yaa);simp only [go_sem,sevalprocAttr]|apply yab<;>(intro h_;(try simp only [h_]);revert h_)|apply And.intro|with_reducible intro h_|trivial|simp only [go_sem,la2];omega)
 refine ⟨yad.fn rfl hh' ?_⟩
 repeat' (first|omega|(try apply yaa);simp only [go_sem,sevalprocAttr]|apply yab<;>(intro h_;(try simp only [h_]);revert h_)|apply And.intro|with_reducible intro h_|trivial|simp only [go_sem,la2];omega)
 refine yal.intro (fun k fr H=> ∃(acc:List Int) (g:Nat),g<m.length/\0<acc.length/\acc.length+k=m.length+2/\acc++orbG (yah m) h (m.length+1-acc.length) g=orbF (yah m) m.length h/\fr=[(6,I g),(5, .sl 1 0 0 acc.length),(1,I h),(0,roI m)]/\H=[(0, .cells 3 (.ints acc))]) ?_ ?_
 ·have h2:=hrg h hh
  refine ⟨m.length+1,_,_,?_,[(h:Int)],(yah m h).toNat,by omega,by simp,by simp;omega,?_,rfl,rfl⟩
  ·refine Wk.sub ?_ ?_<;>simp only [go_sem,sevalprocAttr]
   all_goals omega
  ·rw [Int.toNat_of_nonneg h2.1];simp [orbF]
 rintro k fr H ⟨acc,g,hg,ha,hk,hacc,rfl,rfl⟩
 have hg':=hnx g hg
 have hr:=hrg g hg
 have key:((g:Int)=h\/m.length<acc.length)->acc=orbF (yah m) m.length h:=fun hc=>by
  rw [←hacc]
  rcases hc with e|e
  ·have:orbG (yah m) h (m.length+1-acc.length) g=[]:=by
    cases m.length+1-acc.length with
    |zero=>rfl
    |succ f=>simp [orbG,e]
   rw [this,List.append_nil]
  ·rw [show m.length+1-acc.length=0 by omega];simp [orbG]
 repeat' (first|omega|(try apply yaa);simp only [go_sem,sevalprocAttr]|apply yab<;>(intro h_;(try simp only [h_]);revert h_)|apply And.intro|with_reducible intro h_|trivial|simp only [go_sem,la2];omega)
 ·refine ⟨yad.fn rfl hg' ?_⟩
  repeat' (first|omega|(try apply yaa);simp only [go_sem,sevalprocAttr]|apply yab<;>(intro h_;(try simp only [h_]);revert h_)|apply And.intro|with_reducible intro h_|trivial|simp only [go_sem,la2];omega)
  refine ⟨k-1,_,_,?_,?_,⟨acc++[(g:Int)],(yah m g).toNat,by omega,by simp,by simp;omega,?_,rfl,rfl⟩⟩
  ·omega
  ·refine Wk.sub ?_ ?_<;>simp only [go_sem,sevalprocAttr]
   all_goals omega
  ·rw [←hacc,Int.toNat_of_nonneg hr.1,show m.length+1-acc.length=(m.length+1-(acc++[(g:Int)]).length)+1 by simp;omega]
   rw [orbG,if_neg (by omega)];simp
 all_goals first
  |exact congrArg List.length (key (by omega))
  |(rw [List.take_length];exact key (by omega))
end Go.Proofs.YtbblgobamoabkaaGreatDoor
set_option linter.unusedSimpArgs false
set_option linter.unusedVariables false
namespace Go.Proofs.YtbblgobamoabkaaGreatDoor
open Go Go.RowKit
set_option maxRecDepth 100000
set_option maxHeartbeats 8000000
def yde:List (List Nat):=[[38,39,40,41,42],[38,39,40,41,42],[36,37,39,8],[36,37,38,8],[36,37,8],[36,37,8],[36,37,8],[38,39,40,41,42],[]]
def ydf:List (List Nat):=[[44,47,48,49,50],[43,47,48,49,50],[47,48,49,50],[47,48,49,50],[43,44,45,46,48],[43,44,45,46,47],[43,44,45,46],[43,44,45,46],[],[]]
theorem ynm (m l:List Int): ∀h,(rlH m l h).length=l.length
 |0=>rfl
 |h+1=>by simp only [rlH,rl1,List.length_set];exact ynm m l h
theorem ynn (m:List Int) (n:Nat): ∀k,(rlP m n k).length=n
 |0=>by simp [rlP]
 |k+1=>by simp only [rlP];rw [ynm,ynn m n k]
theorem yzk (m:List Int) (n:Nat) (hn:n<=1000) (hm:yci m n):Fn Tryz.prog 35 [roI m] (roI (rlP m n n)):=by
 obtain ⟨hml,hmr⟩:=hm
 have e0:(m.length:Int).tdiv 4=n:=by rw [ycc (by omega)];omega
 refine Fn.intro [.tmp 2] Tryz.func35 rfl rfl (by decide) (by simp [Tryz.ntmps35]) ?_;rw [Tryz.ntmps35]
 repeat' (first|omega|(first|apply yaa|(refine yac.intro (id:=13) yde [[],[],[0,1],[0,1,2],[0,1],[0,1],[0,1],[2,3,4,5,6],[]] (by decide+kernel) mixed ?_)|(refine yac.intro (id:=14) ydf [[],[0],[],[],[0,1,2,3],[0,1,2,3,4],[0,1,2,3],[0,1,2,3],[],[]] (by decide+kernel) mixed ?_)|skip);simp only [go_sem,sevalprocAttr,e0,↓reduceIte,reduceCtorEq,yde,ydf]|apply yab<;>(intro h_;(try simp only [h_]);revert h_)|apply And.intro|with_reducible intro h_|trivial|simp only [go_sem,la2];omega)
 refine yal.intro (fun t fr H=> ∃k:Nat,k<=n/\t=n-k/\fr=[(5,I k),(4, .sl 1 0 0 n),(3,I n),(0,roI m)]/\H=[(0, .cells 3 (.ints ((List.range k).map (fun (i:Nat)=>(i:Int))++List.replicate (n-k) 0)))]) ?_ ?_
 ·refine ⟨_,_,_,?_,0,by omega,rfl,rfl,rfl⟩
  refine Wk.sub ?_ ?_<;>simp only [go_sem,sevalprocAttr]
  all_goals simp
 rintro t fr H ⟨k,hk,rfl,rfl,rfl⟩
 repeat' (first|omega|(first|apply yaa|(refine yac.intro (id:=13) yde [[],[],[0,1],[0,1,2],[0,1],[0,1],[0,1],[2,3,4,5,6],[]] (by decide+kernel) mixed ?_)|(refine yac.intro (id:=14) ydf [[],[0],[],[],[0,1,2,3],[0,1,2,3,4],[0,1,2,3],[0,1,2,3],[],[]] (by decide+kernel) mixed ?_)|skip);simp only [go_sem,sevalprocAttr,List.length_range,↓reduceIte,reduceCtorEq,yde,ydf]|apply yab<;>(intro h_;(try simp only [h_]);revert h_)|apply And.intro|with_reducible intro h_|trivial|simp only [go_sem,la2];omega)
 ·refine ⟨_,_,_,?_,?_,⟨k+1,by omega,rfl,rfl,rfl⟩⟩
  ·omega
  ·have e:((List.range k).map (fun (i:Nat)=>(i:Int))++List.replicate (n-k) 0).set k k=(List.range (k+1)).map (fun (i:Nat)=>(i:Int))++List.replicate (n-(k+1)) 0:=by
    rw [List.set_append,if_neg (by simp),show n-k=(n-(k+1))+1 by omega,List.replicate_succ]
    simp [List.range_succ]
   rw [e]
   refine Wk.sub ?_ ?_<;>simp only [go_sem,sevalprocAttr]
 obtain rfl:k=n:=by omega
 refine yal.intro (fun t fr H=> ∃q:Nat,q<=k/\t=k-q/\fr=[(6,I q),(4, .sl 1 0 0 k),(3,I k),(0,roI m)]/\H=[(0, .cells 3 (.ints (rlP m k q)))]) ?_ ?_
 ·refine ⟨_,_,_,?_,0,by omega,rfl,rfl,rfl⟩
  refine Wk.sub ?_ ?_<;>simp only [go_sem,sevalprocAttr]
  all_goals simp [rlP]
 rintro t fr H ⟨q,hq,rfl,rfl,rfl⟩
 have hpl:=ynn m k q
 by_cases hqk:q<k
 ·have bq:decide ((q:Int)<k)=true:=by simp;omega
  repeat' (first|omega|(first|apply yaa|(refine yac.intro (id:=13) yde [[],[],[0,1],[0,1,2],[0,1],[0,1],[0,1],[2,3,4,5,6],[]] (by decide+kernel) mixed ?_)|(refine yac.intro (id:=14) ydf [[],[0],[],[],[0,1,2,3],[0,1,2,3,4],[0,1,2,3],[0,1,2,3],[],[]] (by decide+kernel) mixed ?_)|skip);simp only [go_sem,sevalprocAttr,bq,↓reduceIte,reduceCtorEq,yde,ydf]|apply yab<;>(intro h_;(try simp only [h_]);revert h_)|apply And.intro|with_reducible intro h_|trivial|simp only [go_sem,la2];omega)
  refine yal.intro (fun t fr H=> ∃h:Nat,h<=4*k/\t=4*k-h/\fr=[(7,I h),(6,I q),(4, .sl 1 0 0 k),(3,I k),(0,roI m)]/\H=[(0, .cells 3 (.ints (rlH m (rlP m k q) h)))]) ?_ ?_
  ·refine ⟨_,_,_,?_,0,by omega,rfl,rfl,rfl⟩
   refine Wk.sub ?_ ?_<;>simp only [go_sem,sevalprocAttr]
   all_goals simp [rlH]
  rintro t fr H ⟨h,hh,rfl,rfl,rfl⟩
  have hhl:(rlH m (rlP m k q) h).length=k:=by rw [ynm,hpl]
  by_cases hhk:h<4*k
  ·have bh:decide ((h:Int)<m.length)=true:=by simp;omega
   have hr:=hmr h hhk
   have e1:(h:Int).tdiv 4=((h/4:Nat):Int):=by rw [ycc (by omega)];omega
   have e2:(m.getD h 0).tdiv 4=((m.getD h 0/4).toNat:Int):=by rw [ycc (by omega)];omega
   have e3:(m.getD h 0/4).toNat<k:=by omega
   repeat' (first|omega|(first|apply yaa|(refine yac.intro (id:=13) yde [[],[],[0,1],[0,1,2],[0,1],[0,1],[0,1],[2,3,4,5,6],[]] (by decide+kernel) mixed ?_)|(refine yac.intro (id:=14) ydf [[],[0],[],[],[0,1,2,3],[0,1,2,3,4],[0,1,2,3],[0,1,2,3],[],[]] (by decide+kernel) mixed ?_)|skip);simp only [go_sem,sevalprocAttr,bh,e1,e2,↓reduceIte,reduceCtorEq,yde,ydf]|apply yab<;>(intro h_;(try simp only [h_]);revert h_)|apply And.intro|with_reducible intro h_|trivial|simp only [go_sem,la2];omega)
   refine ⟨_,_,_,?_,?_,⟨h+1,by omega,rfl,rfl,rfl⟩⟩
   ·omega
   ·have em: ∀a b:Int,(if b<a then b else a)=min a b:=fun a b=>by split<;>omega
    have eh:rlH m (rlP m k q) (h+1)=((rlH m (rlP m k q) h).set (h/4) (min ((rlH m (rlP m k q) h).getD (h/4) 0) ((rlH m (rlP m k q) h).getD (m.getD h 0/4).toNat 0))).set (m.getD h 0/4).toNat (min ((rlH m (rlP m k q) h).getD (h/4) 0) ((rlH m (rlP m k q) h).getD (m.getD h 0/4).toNat 0)):=rfl
    rw [eh]
    simp only [em]
    refine Wk.sub ?_ ?_<;>simp only [go_sem,sevalprocAttr]
  ·obtain rfl:h=4*k:=by omega
   have bh:decide (((4*k:Nat):Int)<m.length)=false:=by simp;omega
   repeat' (first|omega|(first|apply yaa|(refine yac.intro (id:=13) yde [[],[],[0,1],[0,1,2],[0,1],[0,1],[0,1],[2,3,4,5,6],[]] (by decide+kernel) mixed ?_)|(refine yac.intro (id:=14) ydf [[],[0],[],[],[0,1,2,3],[0,1,2,3,4],[0,1,2,3],[0,1,2,3],[],[]] (by decide+kernel) mixed ?_)|skip);simp only [go_sem,sevalprocAttr,bh,↓reduceIte,reduceCtorEq,yde,ydf]|apply yab<;>(intro h_;(try simp only [h_]);revert h_)|apply And.intro|with_reducible intro h_|trivial|simp only [go_sem,la2];omega)
   refine ⟨_,_,_,?_,?_,⟨q+1,by omega,rfl,rfl,rfl⟩⟩
   ·omega
   ·rw [show rlP m k (q+1)=rlH m (rlP m k q) (4*k) from rfl]
    refine Wk.sub ?_ ?_<;>simp only [go_sem,sevalprocAttr]
 ·obtain rfl:q=k:=by omega
  have bq:decide ((q:Int)<q)=false:=by simp
  repeat' (first|omega|(first|apply yaa|(refine yac.intro (id:=13) yde [[],[],[0,1],[0,1,2],[0,1],[0,1],[0,1],[2,3,4,5,6],[]] (by decide+kernel) mixed ?_)|(refine yac.intro (id:=14) ydf [[],[0],[],[],[0,1,2,3],[0,1,2,3,4],[0,1,2,3],[0,1,2,3],[],[]] (by decide+kernel) mixed ?_)|skip);simp only [go_sem,sevalprocAttr,bq,↓reduceIte,reduceCtorEq,yde,ydf]|apply yab<;>(intro h_;(try simp only [h_]);revert h_)|apply And.intro|with_reducible intro h_|trivial|simp only [go_sem,la2];omega)
  all_goals first
   |omega
   |exact List.take_of_length_le (by omega)
end Go.Proofs.YtbblgobamoabkaaGreatDoor
