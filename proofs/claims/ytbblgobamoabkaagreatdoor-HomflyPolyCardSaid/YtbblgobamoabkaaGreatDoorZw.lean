/- The reference of layer 6: moved diagrams. -/
import Derived.Test.YtbblgobamoabkaaGreatDoorZv
import Derived.Test.YtbblgobamoabkaaGreatDoorZl
set_option linter.unusedSimpArgs false
set_option linter.unusedVariables false
namespace Go.Proofs.YtbblgobamoabkaaGreatDoor
open Go Go.RowKit
set_option maxRecDepth 100000
set_option maxHeartbeats 8000000
def yfp:List (List Nat):=[[60,61,62,63,64,65,66,67,68,69,70,71],[59,61,64,65,66,67,68,69,70,71],[59,60,64,65,66,67,68,69,70,71],[59,64,65,66,67,68,69,70,71],[59,64,65,66,67,68,69,70,71],[59,60,61,62,63,65,66,67,68,69],[59,60,61,62,63,64,67],[59,60,61,62,63,64,67],[59,60,61,62,63,64,65,66],[59,60,61,62,63,64],[59,60,61,62,63,64],[59,60,61,62,63],[59,60,61,62,63],[],[]]
def yfq:List (List Nat):=[[],[0],[0,1],[0],[0],[0,1,2,3,4],[0,1,2,3,4,5],[0,1,2,3,4,5],[0,1,2,3,4,5,6,7],[0,1,2,3,4,5],[0,1,2,3,4,5],[0,1,2,3,4],[0,1,2,3,4],[],[]]
def toL (to:Nat->Int) (k:Nat):List Int:=(List.range k).map to
theorem ykh (to:Nat->Int) (n k:Nat) (h:k<n):(toL to k++List.replicate (n-k) 0).set k (to k)=toL to (k+1)++List.replicate (n-(k+1)) 0:=by
 unfold toL
 rw [List.set_append,if_neg (by simp),show n-k=(n-(k+1))+1 by omega,List.replicate_succ]
 simp [List.range_succ]
theorem ygc (to:Nat->Int) (n k:Nat) (h:k<n):(toL to n).getD k 0=to k:=by simp [toL,h]
theorem ydy (to:Nat->Int) (n:Nat):(toL to n).length=n:=by simp [toL]
theorem yyv (s m tr:List Int) (L:Int) (hs:s.length<=1000) (hm:ybn m s.length) (htl:tr.length=s.length) (htr: ∀c,c<s.length-> -3<=tr.getD c 0/\tr.getD c 0<=3):
  FnO Tryz.prog 121 [dgA s m L,roI tr, .bool false] (.sl 1 2 0 m.length) [(2, .cells 3 (.ints (mvM m (fun h=>yar h (tr.getD (h/4).toNat 0)) m.length)))]:=by
 have hml:=hm.1
 have hto: ∀h:Nat,h<m.length->yar h (tr.getD ((h:Int)/4).toNat 0)=(h:Int)-(h:Int)% 4+(((h:Int)% 4+tr.getD (h/4) 0).tmod 4+4).tmod 4/\0<=yar h (tr.getD ((h:Int)/4).toNat 0)/\yar h (tr.getD ((h:Int)/4).toNat 0)<m.length:=fun h hh=>by
  have hb:=htr (h/4) (by omega)
  have eb:((h:Int)/4).toNat=h/4:=by omega
  rw [eb]
  have hr:=ydc (h:=(h:Int)) (b:=tr.getD (h/4) 0) (n:=s.length) (by omega) (by omega)
  refine ⟨?_,hr.1,by omega⟩
  unfold yar
  generalize tr.getD (h/4) 0=b at*
  have:b= -3\/b= -2\/b= -1\/b=0\/b=1\/b=2\/b=3:=by omega
  have h4:(h:Int)% 4=0\/(h:Int)% 4=1\/(h:Int)% 4=2\/(h:Int)% 4=3:=by omega
  rcases this with e|e|e|e|e|e|e<;>rcases h4 with g|g|g|g<;>rw [e,g]<;>congr 1
 generalize hT:(fun h:Nat=>yar h (tr.getD ((h:Int)/4).toNat 0))=T at*
 have hTh: ∀h:Nat,yar h (tr.getD ((h:Int)/4).toNat 0)=T h:=fun h=>by rw [←hT]
 simp only [hTh] at hto
 refine FnO.intro [.tmp 6] Tryz.func121 rfl rfl (by decide) (by simp [Tryz.ntmps121]) ?_;rw [Tryz.ntmps121]
 repeat' (first|omega|(try apply yaa);simp only [go_sem,sevalprocAttr]|apply yab<;>(intro h_;(try simp only [h_]);revert h_)|apply And.intro|with_reducible intro h_|trivial|simp only [go_sem,la2];omega)
 refine yaj.intro (fun n fr H=> ∃k:Nat,k<=m.length/\n=m.length-k/\fr=[(9,I k),(8, .sl 1 1 0 m.length),(7,I m.length),(3, .ptr 0 0),(2, .bool false),(1,roI tr)]/\H=[(1, .cells 3 (.ints (toL T k++List.replicate (m.length-k) 0))),(0, .cells 24 (.lst [roI s,roI m,I L]))]) ?_ ?_
 ·refine ⟨_,_,_,?_,0,by omega,rfl,rfl,rfl⟩
  refine Wk.sub ?_ ?_<;>simp only [go_sem,sevalprocAttr]
  all_goals simp [toL]
 rintro n fr H ⟨k,hk,rfl,rfl,rfl⟩
 have tl:=ydy T k
 by_cases hkl:k<m.length
 ·have bk:decide ((k:Int)<m.length)=true:=by simp;omega
  have e1:(k:Int).tmod 4=(k:Int)% 4:=yde (by omega)
  have e2:(k:Int).tdiv 4=((k/4:Nat):Int):=by rw [ybe (by omega)];omega
  have hb:=htr (k/4) (by omega)
  have h3:=hto k hkl
  have m1: -4<((k:Int)% 4+tr.getD (k/4) 0).tmod 4/\((k:Int)% 4+tr.getD (k/4) 0).tmod 4<4:=⟨Int.lt_tmod_of_pos _ (by decide),Int.tmod_lt_of_pos _ (by decide)⟩
  have m2: -4<(((k:Int)% 4+tr.getD (k/4) 0).tmod 4+4).tmod 4/\(((k:Int)% 4+tr.getD (k/4) 0).tmod 4+4).tmod 4<4:=⟨Int.lt_tmod_of_pos _ (by decide),Int.tmod_lt_of_pos _ (by decide)⟩
  repeat' (first|omega|(first|apply yaa|(refine yac.intro (id:=14) yfp yfq (by decide+kernel) mixed ?_)|skip);simp only [go_sem,sevalprocAttr,bk,e1,e2,tl,↓reduceIte,reduceCtorEq,yfp,yfq]|apply yab<;>(intro h_;(try simp only [h_]);revert h_)|apply And.intro|with_reducible intro h_|trivial|simp only [go_sem,la2];omega)
  all_goals first|omega|skip
  refine ⟨_,_,_,?_,?_,⟨k+1,by omega,rfl,rfl,rfl⟩⟩
  ·omega
  ·rw [←h3.1,ykh T m.length k hkl]
   refine Wk.sub ?_ ?_<;>simp only [go_sem,sevalprocAttr]
 obtain rfl:k=m.length:=by omega
 rw [Nat.sub_self,List.replicate_zero,List.append_nil] at*
 have bk:decide ((m.length:Int)<m.length)=false:=by simp
 repeat' (first|omega|(first|apply yaa|(refine yac.intro (id:=14) yfp yfq (by decide+kernel) mixed ?_)|skip);simp only [go_sem,sevalprocAttr,bk,↓reduceIte,reduceCtorEq,yfp,yfq]|apply yab<;>(intro h_;(try simp only [h_]);revert h_)|apply And.intro|with_reducible intro h_|trivial|simp only [go_sem,la2];omega)
 refine yaj.intro (fun n fr H=> ∃k:Nat,k<=m.length/\n=m.length-k/\fr=[(12,I k),(11, .sl 1 2 0 m.length),(8, .sl 1 1 0 m.length),(7,I m.length),(3, .ptr 0 0)]/\H=[(2, .cells 3 (.ints (mvM m (fun h=>yar h (tr.getD (h/4).toNat 0)) k))),(1, .cells 3 (.ints (toL T m.length))),(0, .cells 24 (.lst [roI s,roI m,I L]))]) ?_ ?_
 ·refine ⟨_,_,_,?_,0,by omega,rfl,rfl,rfl⟩
  refine Wk.sub ?_ ?_<;>simp only [go_sem,sevalprocAttr]
  all_goals simp [mvM]
 rintro n fr H ⟨k,hk,rfl,rfl,rfl⟩
 have ml:=yef m (fun h=>yar h (tr.getD (h/4).toNat 0)) k
 by_cases hkl:k<m.length
 ·have bk:decide ((k:Int)<m.length)=true:=by simp;omega
  have hmr:=hm.2 k (by omega)
  obtain ⟨q,hq⟩: ∃q:Nat,m.getD k 0=q:=⟨(m.getD k 0).toNat,by omega⟩
  have g1:=ygc T m.length k hkl
  have g2:=ygc T m.length q (by omega)
  have h3:=hto k hkl
  have eq: ∃t:Nat,T k=t:=⟨(T k).toNat,by omega⟩
  obtain ⟨t,ht⟩:=eq
  rw [ht] at g1
  repeat' (first|omega|(first|apply yaa|(refine yac.intro (id:=14) yfp yfq (by decide+kernel) mixed ?_)|skip);simp only [go_sem,sevalprocAttr,bk,hq,g1,g2,tl,ydy,↓reduceIte,reduceCtorEq,yfp,yfq]|apply yab<;>(intro h_;(try simp only [h_]);revert h_)|apply And.intro|with_reducible intro h_|trivial|simp only [go_sem,la2];omega)
  refine ⟨_,_,_,?_,?_,⟨k+1,by omega,rfl,rfl,rfl⟩⟩
  ·omega
  ·have e:mvM m (fun h=>yar h (tr.getD (h/4).toNat 0)) (k+1)=(mvM m (fun h=>yar h (tr.getD (h/4).toNat 0)) k).set t (T q):=by
    simp only [mvM]
    rw [hq,hTh k,hTh q,ht,Int.toNat_natCast]
   rw [e]
   refine Wk.sub ?_ ?_<;>simp only [go_sem,sevalprocAttr]
 ·obtain rfl:k=m.length:=by omega
  repeat' (first|omega|(first|apply yaa|(refine yac.intro (id:=14) yfp yfq (by decide+kernel) mixed ?_)|skip);simp only [go_sem,sevalprocAttr,bk,↓reduceIte,reduceCtorEq,yfp,yfq]|apply yab<;>(intro h_;(try simp only [h_]);revert h_)|apply And.intro|with_reducible intro h_|trivial|simp only [go_sem,la2];omega)
theorem yyw (s m tr:List Int) (L:Int) (hs:s.length<=1000) (hm:ybn m s.length) (htl:tr.length=s.length) (htr: ∀c,c<s.length-> -3<=tr.getD c 0/\tr.getD c 0<=3):
  FnN Tryz.prog 121 [dgA s m L,roI tr, .bool false] (roI (mvM m (fun h=>yar h (tr.getD (h/4).toNat 0)) m.length)):=by
 have h:=FnN.ofO (yyv s m tr L hs hm htl htr) (by rw [yef];exact Nat.le_refl _)
 rw [List.take_of_length_le (by rw [yef];exact Nat.le_refl _)] at h
 unfold roI
 rw [yef]
 exact h
end Go.Proofs.YtbblgobamoabkaaGreatDoor
set_option linter.unusedSimpArgs false
set_option linter.unusedVariables false
namespace Go.Proofs.YtbblgobamoabkaaGreatDoor
open Go Go.RowKit
set_option maxRecDepth 100000
set_option maxHeartbeats 8000000
def yfr:List (List Nat):=[[48,49,50,51,52],[47,49,51,52],[47,48,51,52],[47,51,52],[47,48,49,50],[47,48,49,50],[],[]]
theorem yjr {m:List Int} {f g:Int->Int} {n:Nat} (hm:ybn m n) (h: ∀x:Int,0<=x->x<4*n->f x=g x): ∀k,k<=m.length->mvM m f k=mvM m g k
 |0,_=>rfl
 |k+1,hk=>by
  have hl:=hm.1
  have hr:=hm.2 k (by omega)
  simp only [mvM]
  rw [yjr hm h k (by omega),h k (by omega) (by omega),h _ hr.1 hr.2]
def mkB (mk:List Bool) (c:Int):Bool:=mk.getD c.toNat false
theorem yoh (l:List Int) (to:Nat->Int) (k:Nat) (v:Int) (h:k<l.length) (hv:to k=v):(toL to k++l.drop k).set k v=toL to (k+1)++l.drop (k+1):=by
 have e:(l.drop k).set 0 v=v::l.drop (k+1):=by rw [List.drop_eq_getElem_cons h];rfl
 rw [List.set_append,if_neg (by simp [toL]),show k-(toL to k).length=0 by simp [toL],e]
 simp [toL,List.range_succ,hv]
theorem yyx (l:List Int) (to:Nat->Int) (k:Nat) (h:k<l.length) (hv:to k=l.getD k 0):toL to k++l.drop k=toL to (k+1)++l.drop (k+1):=by
 have e:l.drop k=l.getD k 0::l.drop (k+1):=yfo l k 0 h
 rw [e]
 simp [toL,List.range_succ,hv]
theorem yq4 (to:Nat->Int) (n k:Nat) (h:k<n) (hv:to k=0):toL to k++List.replicate (n-k) 0=toL to (k+1)++List.replicate (n-(k+1)) 0:=by
 rw [show n-k=(n-(k+1))+1 by omega,List.replicate_succ]
 simp [toL,List.range_succ,hv]
theorem y1j (l:List Int) (k:Nat) (a b:Int):(l.set k a).set k b=l.set k b:=by simp
theorem you (s m:List Int) (L:Int) (mk:List Bool) (h0:0<s.length) (hs:s.length<=1000) (hso:ycl s s.length) (hm:ybn m s.length) (hk:mk.length=s.length):
  Fn Tryz.prog 78 [dgA s m L, .ro 1 mk.length (.bools mk)] (dgA (exS s (mkB mk)) (exM s m (mkB mk)) L):=by
 refine Fn.intro [.cell 4 24] Tryz.func78 rfl rfl (by decide) (by simp [Tryz.ntmps78]) ?_;rw [Tryz.ntmps78]
 repeat' (first|omega|(try apply yaa);simp only [go_sem,sevalprocAttr]|apply yab<;>(intro h_;(try simp only [h_]);revert h_)|apply And.intro|with_reducible intro h_|trivial|simp only [go_sem,la2];omega)
 refine yaj.intro (fun n fr H=> ∃k:Nat,k<=s.length/\n=s.length-k/\fr=[(7,I k),(6, .sl 1 3 0 s.length),(5, .sl 1 2 0 s.length),(4, .ptr 1 0),(2, .ptr 0 0),(1, .ro 1 mk.length (.bools mk))]/\H=[(3, .cells 3 (.ints (toL (fun c=>s.getD c 0*exSg (mkB mk) c) k++s.drop k))),(2, .cells 3 (.ints (toL (fun c=>exBy s (mkB mk) c) k++List.replicate (s.length-k) 0))),(1, .cells 24 (.lst [.nils, .nils,I 0])),(0, .cells 24 (.lst [roI s,roI m,I L]))]) ?_ ?_
 ·refine ⟨_,_,_,?_,0,by omega,rfl,rfl,rfl⟩
  refine Wk.sub ?_ ?_<;>simp only [go_sem,sevalprocAttr]
  all_goals simp [toL]
 rintro n fr H ⟨k,hkk,rfl,rfl,rfl⟩
 have tl1:=ydy (fun c=>s.getD c 0*exSg (mkB mk) c) k
 have tl2:=ydy (fun c=>exBy s (mkB mk) c) k
 by_cases hkl:k<s.length
 ·have bk:decide ((k:Int)<s.length)=true:=by simp;omega
  have hsg:=hso k hkl
  cases hb:mk.getD k false with
  |false=>
   have e1:s.getD k 0*exSg (mkB mk) k=s.getD k 0:=by unfold exSg mkB;rw [Int.toNat_natCast,hb];simp
   have e2:exBy s (mkB mk) k=0:=by unfold exBy mkB;rw [Int.toNat_natCast,hb];simp
   repeat' (first|omega|(first|apply yaa|(refine yac.intro (id:=11) yfr [[],[0],[0,1],[0],[0,1,2,3],[0,1,2,3],[],[]] (by decide+kernel) mixed ?_)|skip);simp only [go_sem,sevalprocAttr,bk,hb,↓reduceIte,reduceCtorEq,yfr]|apply yab<;>(intro h_;(try simp only [h_]);revert h_)|apply And.intro|with_reducible intro h_|trivial|simp only [go_sem,la2];omega)
   refine ⟨_,_,_,?_,?_,⟨k+1,by omega,rfl,rfl,rfl⟩⟩
   ·omega
   ·rw [yyx s (fun c=>s.getD c 0*exSg (mkB mk) c) k hkl e1,yq4 (fun c=>exBy s (mkB mk) c) s.length k hkl e2]
    refine Wk.sub ?_ ?_<;>simp only [go_sem,sevalprocAttr]
  |true=>
   repeat' (first|omega|(first|apply yaa|(refine yac.intro (id:=11) yfr [[],[0],[0,1],[0],[0,1,2,3],[0,1,2,3],[],[]] (by decide+kernel) mixed ?_)|skip);simp only [go_sem,sevalprocAttr,bk,hb,tl1,tl2,List.length_drop,↓reduceIte,reduceCtorEq,yfr]|apply yab<;>(intro h_;(try simp only [h_]);revert h_)|apply And.intro|with_reducible intro h_|trivial|simp only [go_sem,la2];omega)
   ·have h1:s.getD k 0=1:=h_
    refine ⟨_,_,_,?_,?_,⟨k+1,by omega,rfl,rfl,rfl⟩⟩
    ·omega
    ·have eA:(toL (fun c=>exBy s (mkB mk) c) k++List.replicate (s.length-k) 0).set k (-3)=toL (fun c=>exBy s (mkB mk) c) (k+1)++List.replicate (s.length-(k+1)) 0:=by
      rw [←ykh (fun c=>exBy s (mkB mk) c) s.length k hkl]
      congr 1
      unfold exBy mkB;rw [Int.toNat_natCast,hb,h1];simp
     rw [y1j,yoh s (fun c=>s.getD c 0*exSg (mkB mk) c) k _ hkl (show s.getD k 0*exSg (mkB mk) k=0-s.getD k 0 by unfold exSg mkB;rw [Int.toNat_natCast,hb];simp),eA]
     refine Wk.sub ?_ ?_<;>simp only [go_sem,sevalprocAttr]
   ·have h1: ¬s.getD k 0=1:=h_
    refine ⟨_,_,_,?_,?_,⟨k+1,by omega,rfl,rfl,rfl⟩⟩
    ·omega
    ·have eA:(toL (fun c=>exBy s (mkB mk) c) k++List.replicate (s.length-k) 0).set k (-1)=toL (fun c=>exBy s (mkB mk) c) (k+1)++List.replicate (s.length-(k+1)) 0:=by
      rw [←ykh (fun c=>exBy s (mkB mk) c) s.length k hkl]
      congr 1
      unfold exBy mkB;rw [Int.toNat_natCast,hb,if_neg h1];simp
     rw [yoh s (fun c=>s.getD c 0*exSg (mkB mk) c) k _ hkl (show s.getD k 0*exSg (mkB mk) k=0-s.getD k 0 by unfold exSg mkB;rw [Int.toNat_natCast,hb];simp),eA]
     refine Wk.sub ?_ ?_<;>simp only [go_sem,sevalprocAttr]
 ·obtain rfl:k=s.length:=by omega
  have bk:decide ((s.length:Int)<s.length)=false:=by simp
  have htr: ∀c,c<s.length-> -3<=(toL (fun c=>exBy s (mkB mk) c) s.length).getD c 0/\(toL (fun c=>exBy s (mkB mk) c) s.length).getD c 0<=3:=fun c hc=>by
   rw [ygc _ _ _ hc];unfold exBy;split
   ·split<;>omega
   ·omega
  have hmv:=yyw s m (toL (fun c=>exBy s (mkB mk) c) s.length) L hs hm (ydy _ _) htr
  have ec:mvM m (fun h=>yar h ((toL (fun c=>exBy s (mkB mk) c) s.length).getD (h/4).toNat 0)) m.length=exM s m (mkB mk):=yjr hm (fun x x0 x1=>by
   show yar x _=yar x _
   rw [ygc _ _ _ (by omega),Int.toNat_of_nonneg (by omega)]) _ (Nat.le_refl _)
  rw [ec] at hmv
  have es:toL (fun c=>s.getD c 0*exSg (mkB mk) c) s.length=exS s (mkB mk):=rfl
  have el:(exS s (mkB mk)).length=s.length:=by unfold exS;rw [yho]
  rw [List.drop_length,List.append_nil,Nat.sub_self,List.replicate_zero,List.append_nil,es]
  repeat' (first|omega|(first|apply yaa|(refine yac.intro (id:=11) yfr [[],[0],[0,1],[0],[0,1,2,3],[0,1,2,3],[],[]] (by decide+kernel) mixed ?_)|skip);simp only [go_sem,sevalprocAttr,bk,↓reduceIte,reduceCtorEq,yfr]|apply yab<;>(intro h_;(try simp only [h_]);revert h_)|apply And.intro|with_reducible intro h_|trivial|simp only [go_sem,la2];omega)
  have tk:List.take s.length (toL (fun c=>exBy s (mkB mk) c) s.length)=toL (fun c=>exBy s (mkB mk) c) s.length:=List.take_of_length_le (by rw [ydy];exact Nat.le_refl _)
  have tk2:List.take s.length (exS s (mkB mk))=exS s (mkB mk):=List.take_of_length_le (by omega)
  refine ⟨yai.new (h:=hmv) rfl (by simp only [go_sem,sevalprocAttr,ydy,Nat.le_refl,tk]) (by simp only [go_sem,sevalprocAttr,ydy,Nat.le_refl,tk];try rfl) ?_⟩
  repeat' (first|omega|(first|apply yaa|(refine yac.intro (id:=11) yfr [[],[0],[0,1],[0],[0,1,2,3],[0,1,2,3],[],[]] (by decide+kernel) mixed ?_)|skip);simp only [go_sem,sevalprocAttr,bk,tk2,↓reduceIte,reduceCtorEq,yfr]|apply yab<;>(intro h_;(try simp only [h_]);revert h_)|apply And.intro|with_reducible intro h_|trivial|simp only [go_sem,la2];omega)
theorem yq5 (s m:List Int) (L:Int) (c:Nat) (hc:c<s.length) (hs:s.length<=1000) (hso:ycl s s.length) (hm:ybn m s.length):
  Fn Tryz.prog 46 [dgA s m L,I c] (dgA (exS s (· ==(c:Int))) (exM s m (· ==(c:Int))) L):=by
 have h:=you s m L ((List.replicate s.length false).set c true) (by omega) hs hso hm (by simp)
 have ec: ∀x:Int,0<=x->x<s.length->mkB ((List.replicate s.length false).set c true) x=(x==(c:Int)):=fun x h0 h1=>by
  unfold mkB
  by_cases e:x=c
  ·subst e;simp [hc]
  ·have e2:(x==(c:Int))=false:=by simpa using e
   rw [e2,List.getD_eq_getElem?_getD,List.getElem?_set_ne (by omega)]
   simp [show x.toNat<s.length by omega]
 have e1:exS s (mkB ((List.replicate s.length false).set c true))=exS s (· ==(c:Int)):=by
  unfold exS sgM
  refine List.map_congr_left fun x hx=>?_
  have hx':x<s.length:=by simpa using hx
  unfold exSg
  rw [ec x (by omega) (by omega)]
 have e2:exM s m (mkB ((List.replicate s.length false).set c true))=exM s m (· ==(c:Int)):=by
  unfold exM
  refine yjr hm (fun x h0 h1=>?_) _ (Nat.le_refl _)
  unfold exBy
  rw [ec (x/4) (by omega) (by omega)]
 rw [e1,e2] at h
 have hl:((List.replicate s.length false).set c true).length=s.length:=by simp
 rw [hl] at h
 have h':Fn Tryz.prog 78 [dgA s m L, .ro 1 s.length (.bools (((List.replicate s.length false).set c true).take s.length))] (dgA (exS s (· ==(c:Int))) (exM s m (· ==(c:Int))) L):=by
  rw [List.take_of_length_le (by omega)];exact h
 refine Fn.intro [.cell 4 24] Tryz.func46 rfl rfl (by decide) (by simp [Tryz.ntmps46]) ?_;rw [Tryz.ntmps46]
 repeat' (first|omega|(try apply yaa);simp only [go_sem,sevalprocAttr]|apply yab<;>(intro h_;(try simp only [h_]);revert h_)|apply And.intro|with_reducible intro h_|trivial|simp only [go_sem,la2];omega)
 refine ⟨yae.frz [2] rfl (by simp only [go_sem,sevalprocAttr,hl,Nat.le_refl]) (by simp only [go_sem,sevalprocAttr,hl,Nat.le_refl]) (by simp only [go_sem,sevalprocAttr,hl,Nat.le_refl]) (by simp only [go_sem,sevalprocAttr,hl,Nat.le_refl]) rfl rfl rfl (yae.fn rfl h' ?_)⟩
 repeat' (first|omega|(try apply yaa);simp only [go_sem,sevalprocAttr]|apply yab<;>(intro h_;(try simp only [h_]);revert h_)|apply And.intro|with_reducible intro h_|trivial|simp only [go_sem,la2];omega)
end Go.Proofs.YtbblgobamoabkaaGreatDoor
