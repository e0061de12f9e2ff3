/- Layer 6: Reflect, Reverse. -/
import Derived.Test.YtjpbeacamoijhaaGreatDoorZvd
import Derived.Test.YtjpbeacamoijhaaGreatDoorZx
import Derived.Test.YtjpbeacamoijhaaGreatDoorPl
set_option linter.unusedSimpArgs false
set_option linter.unusedVariables false
namespace Go.Proofs.YtjpbeacamoijhaaGreatDoor
open Go Go.RowKit
set_option maxRecDepth 100000
set_option maxHeartbeats 4000000
theorem YF (c x:Int) (h0:0<=x) (h1:x<4):Fn Tryz.prog 65 [I c,I x] (I (4-2*x)):=by
 refine Fn.intro [.tmp 4] Tryz.func65 rfl rfl (by decide) (by simp [Tryz.ntmps65]) ?_;rw [Tryz.ntmps65]
 repeat' (first|omega|(try apply ah);simp only [go_sem,sevalprocAttr]|apply ag<;>(intro h_;(try simp only [h_]);revert h_)|apply And.intro|with_reducible intro h_|trivial|simp only [go_sem,ai];omega)
theorem YE (c:Int):Fn Tryz.prog 67 [I c] (I (-1)):=by
 refine Fn.intro [.tmp 2] Tryz.func67 rfl rfl (by decide) (by simp [Tryz.ntmps67]) ?_;rw [Tryz.ntmps67]
 repeat' (first|omega|(try apply ah);simp only [go_sem,sevalprocAttr]|apply ag<;>(intro h_;(try simp only [h_]);revert h_)|apply And.intro|with_reducible intro h_|trivial|simp only [go_sem,ai];omega)
theorem X6 (s m:List Int) (L:Int) (hv:bI s m L=true):Fn Tryz.prog 19 [dgA s m L] (.tup [dgA (gU s (fun _=> -1) s.length) (jw m (fun h=>cd h (4-2*(h % 4))) m.length) L,I 0]):=by
 have v1:=dr hv;have yC:=v1.s64;have hf:=Ly s m L 65 67 [] [] (fun _ x=>4-2*x) (fun _=> -1) (by omega) v1.dB.ok rfl rfl (fun c x _ _ h0 h1=>YF c x h0 h1) (fun c hc=>⟨YE c,by
  have:=v1.sg c hc;unfold InI;rcases this with h|h<;>rw [h]<;>omega⟩)
 have hV:=yP s m L;rw [hv] at hV;refine Fn.intro [.cell 2 24, .tmp 3] Tryz.func19 rfl rfl (by decide) (by simp [Tryz.ntmps19]) ?_;rw [Tryz.ntmps19]
 repeat' (first|omega|(try apply ah);simp only [go_sem,sevalprocAttr]|apply ag<;>(intro h_;(try simp only [h_]);revert h_)|apply And.intro|with_reducible intro h_|trivial|simp only [go_sem,ai];omega)
 refine ⟨aO.fn rfl hV ?_⟩
 repeat' (first|omega|(try apply ah);simp only [go_sem,sevalprocAttr]|apply ag<;>(intro h_;(try simp only [h_]);revert h_)|apply And.intro|with_reducible intro h_|trivial|simp only [go_sem,ai];omega)
 refine ⟨aO.fn rfl hf ?_⟩
 repeat' (first|omega|(try apply ah);simp only [go_sem,sevalprocAttr]|apply ag<;>(intro h_;(try simp only [h_]);revert h_)|apply And.intro|with_reducible intro h_|trivial|simp only [go_sem,ai];omega)
theorem YD (c x:Int):Fn Tryz.prog 68 [I c,I x] (I 2):=by
 refine Fn.intro [.tmp 4] Tryz.func68 rfl rfl (by decide) (by simp [Tryz.ntmps68]) ?_;rw [Tryz.ntmps68]
 repeat' (first|omega|(try apply ah);simp only [go_sem,sevalprocAttr]|apply ag<;>(intro h_;(try simp only [h_]);revert h_)|apply And.intro|with_reducible intro h_|trivial|simp only [go_sem,ai];omega)
theorem YC (c:Int):Fn Tryz.prog 69 [I c] (I 1):=by
 refine Fn.intro [.tmp 2] Tryz.func69 rfl rfl (by decide) (by simp [Tryz.ntmps69]) ?_;rw [Tryz.ntmps69]
 repeat' (first|omega|(try apply ah);simp only [go_sem,sevalprocAttr]|apply ag<;>(intro h_;(try simp only [h_]);revert h_)|apply And.intro|with_reducible intro h_|trivial|simp only [go_sem,ai];omega)
theorem X5 (s m:List Int) (L:Int) (hv:bI s m L=true):Fn Tryz.prog 20 [dgA s m L] (.tup [dgA (gU s (fun _=>1) s.length) (jw m (fun h=>cd h 2) m.length) L,I 0]):=by
 have v1:=dr hv;have yC:=v1.s64;have hf:=Ly s m L 68 69 [] [] (fun _ _=>2) (fun _=>1) (by omega) v1.dB.ok rfl rfl (fun c x _ _ _ _=>YD c x) (fun c hc=>⟨YC c,by
  have:=v1.sg c hc;unfold InI;rcases this with h|h<;>rw [h]<;>omega⟩)
 have hV:=yP s m L;rw [hv] at hV;refine Fn.intro [.cell 2 24, .tmp 3] Tryz.func20 rfl rfl (by decide) (by simp [Tryz.ntmps20]) ?_;rw [Tryz.ntmps20]
 repeat' (first|omega|(try apply ah);simp only [go_sem,sevalprocAttr]|apply ag<;>(intro h_;(try simp only [h_]);revert h_)|apply And.intro|with_reducible intro h_|trivial|simp only [go_sem,ai];omega)
 refine ⟨aO.fn rfl hV ?_⟩
 repeat' (first|omega|(try apply ah);simp only [go_sem,sevalprocAttr]|apply ag<;>(intro h_;(try simp only [h_]);revert h_)|apply And.intro|with_reducible intro h_|trivial|simp only [go_sem,ai];omega)
 refine ⟨aO.fn rfl hf ?_⟩
 repeat' (first|omega|(try apply ah);simp only [go_sem,sevalprocAttr]|apply ag<;>(intro h_;(try simp only [h_]);revert h_)|apply And.intro|with_reducible intro h_|trivial|simp only [go_sem,ai];omega)
set_option maxHeartbeats 8000000
theorem Rw (h b:Int) (h0:0<=h) (h1:h<=100000):Fn Tryz.prog 148 [I h,I b] (I (cd h b)):=by
 have e1:h.tmod 4=h % 4:=Int.tmod_eq_emod_of_nonneg h0;have e2: -4<b.tmod 4/\b.tmod 4<4:=⟨Int.lt_tmod_of_pos b (by decide),Int.tmod_lt_of_pos b (by decide)⟩;have e4:(h % 4+b.tmod 4).tmod 4=if 0<=h % 4+b.tmod 4 then (h % 4+b.tmod 4)% 4 else h % 4+b.tmod 4:=by
  split
  ·exact Int.tmod_eq_emod_of_nonneg (by omega)
  ·rename_i hn
   have:(h % 4+b.tmod 4)= -(-(h % 4+b.tmod 4)):=by omega
   rw [this,Int.neg_tmod,Int.tmod_eq_emod_of_nonneg (by omega)];omega
 have e3:((h % 4+b.tmod 4).tmod 4+4).tmod 4=(h % 4+b.tmod 4+4)% 4:=by
  rw [e4,Int.tmod_eq_emod_of_nonneg (by split<;>omega)]
  split<;>omega
 unfold cd;refine Fn.intro [.tmp 4] Tryz.func148 rfl rfl (by decide) (by simp [Tryz.ntmps148]) ?_;rw [Tryz.ntmps148]
 repeat' (first|omega|(try apply ah);simp only [go_sem,sevalprocAttr]|apply ag<;>(intro h_;(try simp only [h_]);revert h_)|apply And.intro|with_reducible intro h_|trivial|simp only [go_sem,ai];omega)
 all_goals try simp only [e1,e3]
 all_goals try (rw [e4];split<;>omega)
 all_goals try omega
theorem Ij (s:List Int) (h:Int) (h0:0<=h) (h1:h<4*s.length) (hs:s.length<=1000):Fn Tryz.prog 46 [roI s,I h] (.bool (ak s h)):=by
 have e1:h.tmod 4=h % 4:=Int.tmod_eq_emod_of_nonneg h0;have e2:h.tdiv 4=h/4:=Int.tdiv_eq_ediv_of_nonneg h0;refine Fn.intro [.tmp 4] Tryz.func46 rfl rfl (by decide) (by simp [Tryz.ntmps46]) ?_;rw [Tryz.ntmps46]
 repeat' (first|omega|(try apply ah);simp only [go_sem,sevalprocAttr]|apply ag<;>(intro h_;(try simp only [h_]);revert h_)|apply And.intro|with_reducible intro h_|trivial|simp only [go_sem,ai];omega)
 all_goals try simp only [e1,e2] at*
 all_goals try omega
 all_goals simp_all [ak]
theorem Rv (m:List Int) (n h:Nat) (hn:n<=1000) (iX:m.length=4*n) (hm: ∀i,i<m.length->0<=m.getD i 0/\m.getD i 0<4*n) (hh:h<m.length):Fn Tryz.prog 98 [roI m,I h] (roI (af (bT m) m.length h)):=by
 have uT: ∀g:Nat,g<m.length->Fn Tryz.prog 148 [I (m.getD g 0),I (-1)] (I (bT m g)):=fun g hg=>by
  have:=hm g hg
  exact Rw _ _ (by omega) (by omega)
 have Gb: ∀g:Nat,g<m.length->0<=bT m g/\bT m g<4*n:=fun g hg=>EN (hm g hg).1 (hm g hg).2;have OM: ∀g:Nat,g<m.length->(g:Int)<m.length:=fun g hg=>by omega
 have Ot:=uT h hh;refine Fn.intro [.tmp 4] Tryz.func98 rfl rfl (by decide) (by simp [Tryz.ntmps98]) ?_;rw [Tryz.ntmps98]
 repeat' (first|omega|(try apply ah);simp only [go_sem,sevalprocAttr]|apply ag<;>(intro h_;(try simp only [h_]);revert h_)|apply And.intro|with_reducible intro h_|trivial|simp only [go_sem,ai];omega)
 refine ⟨aO.fn rfl Ot ?_⟩
 repeat' (first|omega|(try apply ah);simp only [go_sem,sevalprocAttr]|apply ag<;>(intro h_;(try simp only [h_]);revert h_)|apply And.intro|with_reducible intro h_|trivial|simp only [go_sem,ai];omega)
 refine dn.intro (fun k fr H=> ∃(acc:List Int) (g:Nat),g<m.length/\0<acc.length/\acc.length+k=m.length+2/\acc++gV (bT m) h (m.length+1-acc.length) g=af (bT m) m.length h/\fr=[(6,I g),(5, .sl 1 0 0 acc.length),(1,I h),(0,roI m)]/\H=[(0, .cells 3 (.ints acc))]) ?_ ?_
 ·have h2:=Gb h hh;refine ⟨m.length+1,_,_,?_,[(h:Int)],(bT m h).toNat,by omega,by simp,by simp;omega,?_,rfl,rfl⟩
  ·refine Wk.sub ?_ ?_<;>simp only [go_sem,sevalprocAttr]
   all_goals omega
  ·rw [Int.toNat_of_nonneg h2.1];simp [af]
 rintro k fr H ⟨acc,g,hg,ha,hk,rL,rfl,rfl⟩;have qx:=uT g hg;have hr:=Gb g hg;have key:((g:Int)=h\/m.length<acc.length)->acc=af (bT m) m.length h:=fun hc=>by
  rw [←rL];rcases hc with e|e
  ·have:gV (bT m) h (m.length+1-acc.length) g=[]:=by
    cases m.length+1-acc.length with
    |zero=>rfl
    |succ f=>simp [gV,e]
   rw [this,List.append_nil]
  ·rw [show m.length+1-acc.length=0 by omega];simp [gV]
 repeat' (first|omega|(try apply ah);simp only [go_sem,sevalprocAttr]|apply ag<;>(intro h_;(try simp only [h_]);revert h_)|apply And.intro|with_reducible intro h_|trivial|simp only [go_sem,ai];omega)
 ·refine ⟨aO.fn rfl qx ?_⟩
  repeat' (first|omega|(try apply ah);simp only [go_sem,sevalprocAttr]|apply ag<;>(intro h_;(try simp only [h_]);revert h_)|apply And.intro|with_reducible intro h_|trivial|simp only [go_sem,ai];omega)
  refine ⟨k-1,_,_,?_,?_,⟨acc++[(g:Int)],(bT m g).toNat,by omega,by simp,by simp;omega,?_,rfl,rfl⟩⟩
  ·omega
  ·refine Wk.sub ?_ ?_<;>simp only [go_sem,sevalprocAttr]
   all_goals omega
  ·rw [←rL,Int.toNat_of_nonneg hr.1,show m.length+1-acc.length=(m.length+1-(acc++[(g:Int)]).length)+1 by simp;omega];rw [gV,if_neg (by omega)];simp
 all_goals first
  |exact congrArg List.length (key (by omega))
  |(rw [List.take_length];exact key (by omega))
def vj:List (List Nat):=[[38,39,40,41,42],[38,39,40,41,42],[36,37,39,8],[36,37,38,8],[36,37,8],[36,37,8],[36,37,8],[38,39,40,41,42],[]]
def vi:List (List Nat):=[[44,47,48,49,50],[43,47,48,49,50],[47,48,49,50],[47,48,49,50],[43,44,45,46,48],[43,44,45,46,47],[43,44,45,46],[43,44,45,46],[],[]]
theorem Lx (m l:List Int): ∀h,(qM m l h).length=l.length
 |0=>rfl
 |h+1=>by simp only [qM,vC,List.length_set];exact Lx m l h
theorem Lv (m:List Int) (n:Nat): ∀k,(bP m n k).length=n
 |0=>by simp [bP]
 |k+1=>by simp only [bP];rw [Lx,Lv m n k]
theorem y19 (m:List Int) (n:Nat) (hn:n<=1000) (hm:pf m n):Fn Tryz.prog 47 [roI m] (roI (bP m n n)):=by
 obtain ⟨iX,p6⟩:=hm;have e0:(m.length:Int).tdiv 4=n:=by rw [tN (by omega)];omega
 refine Fn.intro [.tmp 2] Tryz.func47 rfl rfl (by decide) (by simp [Tryz.ntmps47]) ?_;rw [Tryz.ntmps47]
 repeat' (first|omega|(first|apply ah|(refine bd.intro (id:=13) vj [[],[],[0,1],[0,1,2],[0,1],[0,1],[0,1],[2,3,4,5,6],[]] (by decide+kernel) mixed ?_)|(refine bd.intro (id:=14) vi [[],[0],[],[],[0,1,2,3],[0,1,2,3,4],[0,1,2,3],[0,1,2,3],[],[]] (by decide+kernel) mixed ?_)|skip);simp only [go_sem,sevalprocAttr,e0,↓reduceIte,reduceCtorEq,vj,vi]|apply ag<;>(intro h_;(try simp only [h_]);revert h_)|apply And.intro|with_reducible intro h_|trivial|simp only [go_sem,ai];omega)
 refine dn.intro (fun t fr H=> ∃k:Nat,k<=n/\t=n-k/\fr=[(5,I k),(4, .sl 1 0 0 n),(3,I n),(0,roI m)]/\H=[(0, .cells 3 (.ints ((List.range k).map (fun (i:Nat)=>(i:Int))++List.replicate (n-k) 0)))]) ?_ ?_
 ·refine ⟨_,_,_,?_,0,by omega,rfl,rfl,rfl⟩;refine Wk.sub ?_ ?_<;>simp only [go_sem,sevalprocAttr]
  all_goals simp
 rintro t fr H ⟨k,hk,rfl,rfl,rfl⟩
 repeat' (first|omega|(first|apply ah|(refine bd.intro (id:=13) vj [[],[],[0,1],[0,1,2],[0,1],[0,1],[0,1],[2,3,4,5,6],[]] (by decide+kernel) mixed ?_)|(refine bd.intro (id:=14) vi [[],[0],[],[],[0,1,2,3],[0,1,2,3,4],[0,1,2,3],[0,1,2,3],[],[]] (by decide+kernel) mixed ?_)|skip);simp only [go_sem,sevalprocAttr,List.length_range,↓reduceIte,reduceCtorEq,vj,vi]|apply ag<;>(intro h_;(try simp only [h_]);revert h_)|apply And.intro|with_reducible intro h_|trivial|simp only [go_sem,ai];omega)
 ·refine ⟨_,_,_,?_,?_,⟨k+1,by omega,rfl,rfl,rfl⟩⟩
  ·omega
  ·have e:((List.range k).map (fun (i:Nat)=>(i:Int))++List.replicate (n-k) 0).set k k=(List.range (k+1)).map (fun (i:Nat)=>(i:Int))++List.replicate (n-(k+1)) 0:=by
    rw [List.set_append,if_neg (by simp),show n-k=(n-(k+1))+1 by omega,List.replicate_succ];simp [List.range_succ]
   rw [e];refine Wk.sub ?_ ?_<;>simp only [go_sem,sevalprocAttr]
 obtain rfl:k=n:=by omega
 refine dn.intro (fun t fr H=> ∃q:Nat,q<=k/\t=k-q/\fr=[(6,I q),(4, .sl 1 0 0 k),(3,I k),(0,roI m)]/\H=[(0, .cells 3 (.ints (bP m k q)))]) ?_ ?_
 ·refine ⟨_,_,_,?_,0,by omega,rfl,rfl,rfl⟩;refine Wk.sub ?_ ?_<;>simp only [go_sem,sevalprocAttr]
  all_goals simp [bP]
 rintro t fr H ⟨q,hq,rfl,rfl,rfl⟩;have mD:=Lv m k q;by_cases hqk:q<k
 ·have bq:decide ((q:Int)<k)=true:=by simp;omega
  repeat' (first|omega|(first|apply ah|(refine bd.intro (id:=13) vj [[],[],[0,1],[0,1,2],[0,1],[0,1],[0,1],[2,3,4,5,6],[]] (by decide+kernel) mixed ?_)|(refine bd.intro (id:=14) vi [[],[0],[],[],[0,1,2,3],[0,1,2,3,4],[0,1,2,3],[0,1,2,3],[],[]] (by decide+kernel) mixed ?_)|skip);simp only [go_sem,sevalprocAttr,bq,↓reduceIte,reduceCtorEq,vj,vi]|apply ag<;>(intro h_;(try simp only [h_]);revert h_)|apply And.intro|with_reducible intro h_|trivial|simp only [go_sem,ai];omega)
  refine dn.intro (fun t fr H=> ∃h:Nat,h<=4*k/\t=4*k-h/\fr=[(7,I h),(6,I q),(4, .sl 1 0 0 k),(3,I k),(0,roI m)]/\H=[(0, .cells 3 (.ints (qM m (bP m k q) h)))]) ?_ ?_
  ·refine ⟨_,_,_,?_,0,by omega,rfl,rfl,rfl⟩;refine Wk.sub ?_ ?_<;>simp only [go_sem,sevalprocAttr]
   all_goals simp [qM]
  rintro t fr H ⟨h,hh,rfl,rfl,rfl⟩;have Ws:(qM m (bP m k q) h).length=k:=by rw [Lx,mD]
  by_cases hhk:h<4*k
  ·have bh:decide ((h:Int)<m.length)=true:=by simp;omega
   have hr:=p6 h hhk;have e1:(h:Int).tdiv 4=((h/4:Nat):Int):=by rw [tN (by omega)];omega
   have e2:(m.getD h 0).tdiv 4=((m.getD h 0/4).toNat:Int):=by rw [tN (by omega)];omega
   have e3:(m.getD h 0/4).toNat<k:=by omega
   repeat' (first|omega|(first|apply ah|(refine bd.intro (id:=13) vj [[],[],[0,1],[0,1,2],[0,1],[0,1],[0,1],[2,3,4,5,6],[]] (by decide+kernel) mixed ?_)|(refine bd.intro (id:=14) vi [[],[0],[],[],[0,1,2,3],[0,1,2,3,4],[0,1,2,3],[0,1,2,3],[],[]] (by decide+kernel) mixed ?_)|skip);simp only [go_sem,sevalprocAttr,bh,e1,e2,↓reduceIte,reduceCtorEq,vj,vi]|apply ag<;>(intro h_;(try simp only [h_]);revert h_)|apply And.intro|with_reducible intro h_|trivial|simp only [go_sem,ai];omega)
   refine ⟨_,_,_,?_,?_,⟨h+1,by omega,rfl,rfl,rfl⟩⟩
   ·omega
   ·have em: ∀a b:Int,(if b<a then b else a)=min a b:=fun a b=>by split<;>omega
    have eh:qM m (bP m k q) (h+1)=((qM m (bP m k q) h).set (h/4) (min ((qM m (bP m k q) h).getD (h/4) 0) ((qM m (bP m k q) h).getD (m.getD h 0/4).toNat 0))).set (m.getD h 0/4).toNat (min ((qM m (bP m k q) h).getD (h/4) 0) ((qM m (bP m k q) h).getD (m.getD h 0/4).toNat 0)):=rfl;rw [eh];simp only [em];refine Wk.sub ?_ ?_<;>simp only [go_sem,sevalprocAttr]
  ·obtain rfl:h=4*k:=by omega
   have bh:decide (((4*k:Nat):Int)<m.length)=false:=by simp;omega
   repeat' (first|omega|(first|apply ah|(refine bd.intro (id:=13) vj [[],[],[0,1],[0,1,2],[0,1],[0,1],[0,1],[2,3,4,5,6],[]] (by decide+kernel) mixed ?_)|(refine bd.intro (id:=14) vi [[],[0],[],[],[0,1,2,3],[0,1,2,3,4],[0,1,2,3],[0,1,2,3],[],[]] (by decide+kernel) mixed ?_)|skip);simp only [go_sem,sevalprocAttr,bh,↓reduceIte,reduceCtorEq,vj,vi]|apply ag<;>(intro h_;(try simp only [h_]);revert h_)|apply And.intro|with_reducible intro h_|trivial|simp only [go_sem,ai];omega)
   refine ⟨_,_,_,?_,?_,⟨q+1,by omega,rfl,rfl,rfl⟩⟩
   ·omega
   ·rw [show bP m k (q+1)=qM m (bP m k q) (4*k) from rfl];refine Wk.sub ?_ ?_<;>simp only [go_sem,sevalprocAttr]
 ·obtain rfl:q=k:=by omega
  have bq:decide ((q:Int)<q)=false:=by simp
  repeat' (first|omega|(first|apply ah|(refine bd.intro (id:=13) vj [[],[],[0,1],[0,1,2],[0,1],[0,1],[0,1],[2,3,4,5,6],[]] (by decide+kernel) mixed ?_)|(refine bd.intro (id:=14) vi [[],[0],[],[],[0,1,2,3],[0,1,2,3,4],[0,1,2,3],[0,1,2,3],[],[]] (by decide+kernel) mixed ?_)|skip);simp only [go_sem,sevalprocAttr,bq,↓reduceIte,reduceCtorEq,vj,vi]|apply ag<;>(intro h_;(try simp only [h_]);revert h_)|apply And.intro|with_reducible intro h_|trivial|simp only [go_sem,ai];omega)
  all_goals first
   |omega
   |exact List.take_of_length_le (by omega)
def cY (orb:Nat->List Int) (p:Nat->Bool) (k:Nat):List (List Int):=((List.range k).filter p).map orb
theorem Ic {orb:Nat->List Int} {p:Nat->Bool} {k:Nat} (h:p k=true):cY orb p (k+1)=cY orb p k++[orb k]:=by simp [cY,List.range_succ,List.filter_append,h]
theorem CZ {orb:Nat->List Int} {p:Nat->Bool} {k:Nat} (h:p k=false):cY orb p (k+1)=cY orb p k:=by simp [cY,List.range_succ,List.filter_append,h]
theorem Jr {x:Int} {l:List Int} {i:Nat} (h:i<l.length):me x (l.take (i+1))=(me x (l.take i)&&decide (x<=l.getD i 0)):=by
 unfold me;rw [List.take_succ_eq_append_getElem h,List.all_append];simp [h]
theorem TM (ls:List (List Int)) (l:List Int):ls.map ph++[AV.ro 1 l.length (.ints l)]=(ls++[l]).map ph:=by simp [ph]
theorem Ru (nx:Int->Int) (x:Int): ∀f g,(gV nx x f g).length<=f
 |0,_=>by simp [gV]
 |f+1,g=>by
  unfold gV
  split
  ·simp
  ·simp only [List.length_cons];have:=Ru nx x f (nx g);omega
theorem Rt (nx:Int->Int) (N:Nat) (x:Int):(af nx N x).length<=N+1:=by
 unfold af;simp only [List.length_cons];have:=Ru nx x N (nx x);omega
theorem y2a (m:List Int) (n:Nat) (hn:n<=1000) (iX:m.length=4*n) (hm: ∀i,i<m.length->0<=m.getD i 0/\m.getD i 0<4*n):Fn Tryz.prog 48 [roI m] (qi (cY (fun h=>af (bT m) m.length h) (fl m) m.length)):=by
 refine Fn.aH [.tmp 2] Tryz.func48 rfl rfl (by decide) (by simp [Tryz.ntmps48]) ?_;rw [Tryz.ntmps48]
 repeat' (first|omega|(try apply ah);simp only [go_sem,sevalprocAttr]|apply ag<;>(intro h_;(try simp only [h_]);revert h_)|apply And.intro|with_reducible intro h_|trivial|simp only [go_sem,ai];omega)
 refine dn.intro (fun t fr H=> ∃h:Nat,h<=m.length/\t=m.length-h/\((cY (fun h=>af (bT m) m.length h) (fl m) h=[]/\fr=[(4,I h),(3, .nils),(0,roI m)]/\H=[])\/
  (fr=[(4,I h),(3, .sl 1 1 0 (cY (fun h=>af (bT m) m.length h) (fl m) h).length),(0,roI m)]/\H=[(1, .cells 22 (.lst ((cY (fun h=>af (bT m) m.length h) (fl m) h).map ph)))]))) ?_ ?_
 ·refine ⟨_,_,_,?_,0,by omega,rfl, .inl ⟨rfl,rfl,rfl⟩⟩;refine Wk.sub ?_ ?_<;>simp only [go_sem,sevalprocAttr]
 rintro t fr H ⟨h,hh,rfl,nh⟩;have hlen:(cY (fun h=>af (bT m) m.length h) (fl m) h).length<=h:=by
  have:=List.length_filter_le (fl m) (List.range h)
  simp only [cY,List.length_map];simp only [List.length_range] at this;exact this
 have yu:(af (bT m) m.length h).length<=m.length+1:=Rt _ _ _;rcases nh with ⟨gZ,rfl,rfl⟩|⟨rfl,rfl⟩
 ·by_cases ay:h<m.length
  ·have bh:decide ((h:Int)<m.length)=true:=by simp;omega
   have hF:=Rv m n h hn iX hm ay
   repeat' (first|omega|(try apply ah);simp only [go_sem,sevalprocAttr,bh]|apply ag<;>(intro h_;(try simp only [h_]);revert h_)|apply And.intro|with_reducible intro h_|trivial|simp only [go_sem,ai];omega)
   refine ⟨aO.fn rfl hF ?_⟩
   repeat' (first|omega|(try apply ah);simp only [go_sem,sevalprocAttr]|apply ag<;>(intro h_;(try simp only [h_]);revert h_)|apply And.intro|with_reducible intro h_|trivial|simp only [go_sem,ai];omega)
   refine dn.intro (fun t fr H=> ∃i:Nat,i<=(af (bT m) m.length h).length/\t=(af (bT m) m.length h).length-i/\fr=[(7,I i),(6, .bool (me h ((af (bT m) m.length h).take i))),(5,roI (af (bT m) m.length h)),(4,I h),(3, .nils),(0,roI m)]/\H=[]) ?_ ?_
   ·refine ⟨_,_,_,?_,0,by omega,rfl,rfl,rfl⟩;refine Wk.sub ?_ ?_<;>simp only [go_sem,sevalprocAttr]
    all_goals simp [me]
   rintro t fr H ⟨i,hi,rfl,rfl,rfl⟩;by_cases pb:i<(af (bT m) m.length h).length
   ·have bi:decide ((i:Int)<(af (bT m) m.length h).length)=true:=by simp;omega
    have el:=Jr (x:=h) pb;cases hb:me h ((af (bT m) m.length h).take i) with
    |false=>
     rw [hb] at el
     repeat' (first|omega|(try apply ah);simp only [go_sem,sevalprocAttr,bi]|apply ag<;>(intro h_;(try simp only [h_]);revert h_)|apply And.intro|with_reducible intro h_|trivial|simp only [go_sem,ai];omega)
     refine ⟨_,_,_,?_,?_,⟨i+1,by omega,rfl,rfl,rfl⟩⟩
     ·omega
     ·rw [el];refine Wk.sub ?_ ?_<;>simp only [go_sem,sevalprocAttr]
    |true=>
     rw [hb] at el
     repeat' (first|omega|(try apply ah);simp only [go_sem,sevalprocAttr,bi]|apply ag<;>(intro h_;(try simp only [h_]);revert h_)|apply And.intro|with_reducible intro h_|trivial|simp only [go_sem,ai];omega)
     refine ⟨_,_,_,?_,?_,⟨i+1,by omega,rfl,rfl,rfl⟩⟩
     ·omega
     ·rw [el];refine Wk.sub ?_ ?_<;>simp only [go_sem,sevalprocAttr]
   ·obtain rfl:i=(af (bT m) m.length h).length:=by omega
    have bi:decide (((af (bT m) m.length h).length:Int)<(af (bT m) m.length h).length)=false:=by simp
    have ef:me h ((af (bT m) m.length h).take (af (bT m) m.length h).length)=fl m h:=by rw [List.take_length];rfl
    rw [ef];cases hb:fl m h with
    |false=>
     have eS:=CZ (orb:=fun h=>af (bT m) m.length h) hb
     repeat' (first|omega|(try apply ah);simp only [go_sem,sevalprocAttr,bi]|apply ag<;>(intro h_;(try simp only [h_]);revert h_)|apply And.intro|with_reducible intro h_|trivial|simp only [go_sem,ai];omega)
     refine ⟨_,_,_,?_,?_,⟨h+1,by omega,rfl, .inl ⟨by rw [eS];exact gZ,rfl,rfl⟩⟩⟩
     ·omega
     ·first|rw [eS]|skip
      refine Wk.sub ?_ ?_<;>simp only [go_sem,sevalprocAttr]
    |true=>
     have eS:=Ic (orb:=fun h=>af (bT m) m.length h) hb
     repeat' (first|omega|(try apply ah);simp only [go_sem,sevalprocAttr,bi,List.length_map]|apply ag<;>(intro h_;(try simp only [h_]);revert h_)|apply And.intro|with_reducible intro h_|trivial|simp only [go_sem,ai];omega)
     refine ⟨_,_,_,?_,?_,⟨h+1,by omega,rfl, .inr ⟨rfl,rfl⟩⟩⟩
     ·omega
     ·rw [eS];rw [gZ];refine Wk.sub ?_ ?_<;>simp only [go_sem,sevalprocAttr]
      all_goals first
       |rfl
       |exact ⟨rfl,rfl⟩
       |exact ⟨rfl,rfl,rfl⟩
  ·obtain rfl:h=m.length:=by omega
   have bh:decide ((m.length:Int)<m.length)=false:=by simp
   repeat' (first|omega|(try apply ah);simp only [go_sem,sevalprocAttr,bh]|apply ag<;>(intro h_;(try simp only [h_]);revert h_)|apply And.intro|with_reducible intro h_|trivial|simp only [go_sem,ai];omega)
   all_goals first
    |(rw [gZ];exact ca.nils (by omega) rfl)
    |exact ye _ _ _ _ h_
    |exact ye _ _ _ _ (List.mem_of_mem_take h_)
    |(rw [List.take_of_length_le (by simp)];exact ca.refl _)
 ·by_cases ay:h<m.length
  ·have bh:decide ((h:Int)<m.length)=true:=by simp;omega
   have hF:=Rv m n h hn iX hm ay
   repeat' (first|omega|(try apply ah);simp only [go_sem,sevalprocAttr,bh]|apply ag<;>(intro h_;(try simp only [h_]);revert h_)|apply And.intro|with_reducible intro h_|trivial|simp only [go_sem,ai];omega)
   refine ⟨aO.fn rfl hF ?_⟩
   repeat' (first|omega|(try apply ah);simp only [go_sem,sevalprocAttr]|apply ag<;>(intro h_;(try simp only [h_]);revert h_)|apply And.intro|with_reducible intro h_|trivial|simp only [go_sem,ai];omega)
   refine dn.intro (fun t fr H=> ∃i:Nat,i<=(af (bT m) m.length h).length/\t=(af (bT m) m.length h).length-i/\fr=[(7,I i),(6, .bool (me h ((af (bT m) m.length h).take i))),(5,roI (af (bT m) m.length h)),(4,I h),(3, .sl 1 1 0 (cY (fun h=>af (bT m) m.length h) (fl m) h).length),(0,roI m)]/\H=[(1, .cells 22 (.lst ((cY (fun h=>af (bT m) m.length h) (fl m) h).map ph)))]) ?_ ?_
   ·refine ⟨_,_,_,?_,0,by omega,rfl,rfl,rfl⟩;refine Wk.sub ?_ ?_<;>simp only [go_sem,sevalprocAttr]
    all_goals simp [me]
   rintro t fr H ⟨i,hi,rfl,rfl,rfl⟩;by_cases pb:i<(af (bT m) m.length h).length
   ·have bi:decide ((i:Int)<(af (bT m) m.length h).length)=true:=by simp;omega
    have el:=Jr (x:=h) pb;cases hb:me h ((af (bT m) m.length h).take i) with
    |false=>
     rw [hb] at el
     repeat' (first|omega|(try apply ah);simp only [go_sem,sevalprocAttr,bi]|apply ag<;>(intro h_;(try simp only [h_]);revert h_)|apply And.intro|with_reducible intro h_|trivial|simp only [go_sem,ai];omega)
     refine ⟨_,_,_,?_,?_,⟨i+1,by omega,rfl,rfl,rfl⟩⟩
     ·omega
     ·rw [el];refine Wk.sub ?_ ?_<;>simp only [go_sem,sevalprocAttr]
    |true=>
     rw [hb] at el
     repeat' (first|omega|(try apply ah);simp only [go_sem,sevalprocAttr,bi]|apply ag<;>(intro h_;(try simp only [h_]);revert h_)|apply And.intro|with_reducible intro h_|trivial|simp only [go_sem,ai];omega)
     refine ⟨_,_,_,?_,?_,⟨i+1,by omega,rfl,rfl,rfl⟩⟩
     ·omega
     ·rw [el];refine Wk.sub ?_ ?_<;>simp only [go_sem,sevalprocAttr]
   ·obtain rfl:i=(af (bT m) m.length h).length:=by omega
    have bi:decide (((af (bT m) m.length h).length:Int)<(af (bT m) m.length h).length)=false:=by simp
    have ef:me h ((af (bT m) m.length h).take (af (bT m) m.length h).length)=fl m h:=by rw [List.take_length];rfl
    rw [ef];cases hb:fl m h with
    |false=>
     have eS:=CZ (orb:=fun h=>af (bT m) m.length h) hb
     repeat' (first|omega|(try apply ah);simp only [go_sem,sevalprocAttr,bi]|apply ag<;>(intro h_;(try simp only [h_]);revert h_)|apply And.intro|with_reducible intro h_|trivial|simp only [go_sem,ai];omega)
     refine ⟨_,_,_,?_,?_,⟨h+1,by omega,rfl, .inr ⟨rfl,rfl⟩⟩⟩
     ·omega
     ·first|rw [eS]|skip
      refine Wk.sub ?_ ?_<;>simp only [go_sem,sevalprocAttr]
    |true=>
     have eS:=Ic (orb:=fun h=>af (bT m) m.length h) hb
     repeat' (first|omega|(try apply ah);simp only [go_sem,sevalprocAttr,bi,List.length_map]|apply ag<;>(intro h_;(try simp only [h_]);revert h_)|apply And.intro|with_reducible intro h_|trivial|simp only [go_sem,ai];omega)
     refine ⟨_,_,_,?_,?_,⟨h+1,by omega,rfl, .inr ⟨rfl,rfl⟩⟩⟩
     ·omega
     ·rw [eS];rw [TM];refine Wk.sub ?_ ?_<;>simp only [go_sem,sevalprocAttr]
      all_goals first
       |rfl
       |exact ⟨rfl,rfl⟩
       |exact ⟨rfl,rfl,rfl⟩
  ·obtain rfl:h=m.length:=by omega
   have bh:decide ((m.length:Int)<m.length)=false:=by simp
   repeat' (first|omega|(try apply ah);simp only [go_sem,sevalprocAttr,bh]|apply ag<;>(intro h_;(try simp only [h_]);revert h_)|apply And.intro|with_reducible intro h_|trivial|simp only [go_sem,ai];omega)
   all_goals first
    |(rw [gZ];exact ca.nils (by omega) rfl)
    |exact ye _ _ _ _ h_
    |exact ye _ _ _ _ (List.mem_of_mem_take h_)
    |(rw [List.take_of_length_le (by simp)];exact ca.refl _)
end Go.Proofs.YtjpbeacamoijhaaGreatDoor
