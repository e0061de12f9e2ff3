/- Layer 15: the circles of a state, by parents. -/
import Derived.Test.YtngegnonblbdhaaDoorZf
import Derived.Test.YtngegnonblbdhaaDoorZb
set_option linter.unusedSimpArgs false
set_option linter.unusedVariables false
namespace Go.Proofs.YtngegnonblbdhaaDoor
open Go Go.RowKit
set_option maxRecDepth 100000
set_option maxHeartbeats 8000000
def ykn:List (List Nat):=[[11,12,13,14,15,16,17,18],[10,12,13,14,15,16,17,18],[10,11,13,14,15,16],[10,11,12,14],[10,11,12,13],[10,11,12],[10,11,12],[10,11],[10,11],[],[]]
def yeu:Tr:= .node [(0, .node [(1, .node [(2, .node [(3,trD [4,5,6,7]),(4,trD [3,5,6,7])]),(3, .node [(2,trD [4,5,6,7]),(4,trD [2,5,6,7])]),(4, .node [(2,trD [3,5,6,7]),(3,trD [2,5,6,7])])]),(3, .node [(1, .node [(2,trD [4,5,6,7]),(4,trD [2,5,6,7])]),(4,trD [1,2,5,6,7])]),(4, .node [(1, .node [(2,trD [3,5,6,7]),(3,trD [2,5,6,7])]),(3,trD [1,2,5,6,7])])]),(1, .node [(0, .node [(2, .node [(3,trD [4,5,6,7]),(4,trD [3,5,6,7])]),(3, .node [(2,trD [4,5,6,7]),(4,trD [2,5,6,7])]),(4, .node [(2,trD [3,5,6,7]),(3,trD [2,5,6,7])])]),(3, .node [(0, .node [(2,trD [4,5,6,7]),(4,trD [2,5,6,7])]),(4,trD [0,2,5,6,7])]),(4, .node [(0, .node [(2,trD [3,5,6,7]),(3,trD [2,5,6,7])]),(3,trD [0,2,5,6,7])])]),(3, .node [(0, .node [(1, .node [(2,trD [4,5,6,7]),(4,trD [2,5,6,7])]),(4,trD [1,2,5,6,7])]),(1, .node [(0, .node [(2,trD [4,5,6,7]),(4,trD [2,5,6,7])]),(4,trD [0,2,5,6,7])]),(4, .node [(0,trD [1,2,5,6,7]),(1,trD [0,2,5,6,7])])]),(4, .node [(0, .node [(1, .node [(2,trD [3,5,6,7]),(3,trD [2,5,6,7])]),(3,trD [1,2,5,6,7])]),(1, .node [(0, .node [(2,trD [3,5,6,7]),(3,trD [2,5,6,7])]),(3,trD [0,2,5,6,7])]),(3, .node [(0,trD [1,2,5,6,7]),(1,trD [0,2,5,6,7])])])]
theorem yid: ∀fr:Fr,unl (lft fr)=fr
 |[]=>rfl
 |(s,x)::r=>by simp [lft,unl,yid r]
attribute [go_sem] yid
theorem Wk.low {F G:Fr} {H:Hp} (h1: ∀t,t<1000000->fget G t= .any\/fget G t=fget F t) (h2: ∀t,1000000<=t->fget G t=fget F t):Wk F H G H:=by
 intro B w0 Mx N w ρ a hs
 refine ⟨ρ,hs.below,hs.hB,hs.mx,hs.own,hs.objs,hs.inj,fun t=>?_,hs.defers,hs.size⟩
 have:=hs.frv t
 rcases Nat.lt_or_ge t 1000000 with h|h
 ·rcases h1 t h with e|e
  ·rw [e];exact .any _
  ·rw [e];exact this
 ·rw [h2 t h];exact this
theorem Wk.low2 {F fr:Fr} {H:Hp} {x y:AV} (h0:fget F 0=x) (h1:fget F 1=y) (h2: ∀t,1000000<=t->fget F t=fget (lft fr) t):Wk F H ((0,x)::(1,y)::lft fr) H:=by
 refine Wk.low (fun t ht=>?_) (fun t ht=>?_)
 ·by_cases e0:t=0
  ·subst e0;right;simp [fget,h0]
  ·by_cases e1:t=1
   ·subst e1;right;simp [fget,h1]
   ·left;simp only [fget];rw [if_neg (by omega),if_neg (by omega),ydf,if_neg (by omega)]
 ·simp only [fget];rw [if_neg (by omega),if_neg (by omega),h2 t ht]
abbrev mgH (s m:List Int) (L:Int) (l:List Int) (c:Int):Hp:=[(4, .cells 67 (.lst [.fn 33 [.ptr 2 0]])),(3, .cells 3 (.lst [I c])),(2, .cells 22 (.lst [.sl 1 1 0 m.length])),(1, .cells 3 (.ints l)),(0, .cells 24 (.lst [roI s,roI m,I L]))]
theorem yhs (s m:List Int) (L:Int) (l R:List Int) (c:Int) (hu:UF l R m.length) (h:Nat) (hh:h<m.length) (hm:m.length<=100000) {fr:Fr} {K:AV->Fr->Hp->Prop}
  (hK: ∀l',UF l' R m.length->(∀x,x<m.length->l.getD x 0=R.getD x 0->l'.getD x 0=R.getD x 0)->K (I (R.getD h 0)) fr (mgH s m L l' c)):
  ya7 Tryd.prog 33 [I h, .ptr 2 0] fr (mgH s m L l c) K:=by
 obtain ⟨rk,hrk⟩:=hu.rank
 refine ya7.intro [.tmp 3] Tryd.func33 rfl rfl (by decide) (by simp [Tryd.ntmps33]) ?_;rw [Tryd.ntmps33]
 repeat' (first|omega|(try apply yaa);simp only [go_sem,sevalprocAttr]|apply yab<;>(intro h_;(try simp only [h_]);revert h_)|apply And.intro|with_reducible intro h_|trivial|simp only [go_sem,la2];omega)
 refine yak.intro (fun n fr' H=> ∃(l':List Int) (x:Nat),UF l' R m.length/\(∀x:Nat,x<m.length->l'.getD x 0≠x->rk (l'.getD x 0).toNat<rk x)/\x<m.length/\R.getD x 0=R.getD h 0/\(∀x,x<m.length->l.getD x 0=R.getD x 0->l'.getD x 0=R.getD x 0)/\n=rk x/\fr'=(0,I x)::(1, .ptr 2 0)::lft fr/\H=mgH s m L l' c) ?_ ?_
 ·refine ⟨_,_,_,?_,l,h,hu,hrk,hh,rfl,fun _ _ e=>e,rfl,rfl,rfl⟩
  refine Wk.low2 rfl rfl (fun t ht=>?_)
  simp only [fget]
  repeat rw [if_neg (by omega)]
 rintro n fr' H ⟨l',x,hu',hr',hx,hRx,hd,rfl,rfl,rfl⟩
 have hl:=hu'.len
 have r1:=hu'.rng x hx
 have r2:=hu'.rng (l'.getD x 0).toNat (by omega)
 by_cases e:l'.getD x 0=x
 ·have b0:(l'.getD x 0 !=(x:Int))=false:=by rw [e];simp
  have hRr:R.getD h 0=x:=by rw [←hRx];exact (hu'.root x hx).1 e
  rw [hRr] at hK
  repeat' (first|omega|(first|apply yaa|(refine yac.intro (id:=2) ykn [[],[0],[0,1],[0,1,2],[0,1,2,3],[0,1,2],[0,1,2],[0,1],[0,1],[],[]] (by decide+kernel) mixed ?_)|skip);simp only [go_sem,sevalprocAttr,b0,↓reduceIte,reduceCtorEq,ykn]|apply yab<;>(intro h_;(try simp only [h_]);revert h_)|apply And.intro|with_reducible intro h_|trivial|simp only [go_sem,la2];omega)
  all_goals exact hK l' hu' hd
 ·have b0:(l'.getD x 0 !=(x:Int))=true:=by simpa [bne] using e
  have hh2:=hu'.half hx e
  obtain ⟨q1,q2,q3⟩:=hu'.halfR hr' hx e
  have hRy:=hu'.same (l'.getD x 0).toNat (by omega)
  rw [hu'.same x hx] at hRy
  obtain ⟨y,hy⟩: ∃y:Nat,l'.getD (l'.getD x 0).toNat 0=y:=⟨(l'.getD (l'.getD x 0).toNat 0).toNat,by omega⟩
  rw [hy] at hh2 q1 q2 q3 r2 hRy
  rw [Int.toNat_natCast] at q2 hRy
  have e3:(l'.set x (y:Int)).getD x 0=y:=ybf (by omega)
  repeat' (first|omega|(first|apply yaa|(refine yac.intro (id:=2) ykn [[],[0],[0,1],[0,1,2],[0,1,2,3],[0,1,2],[0,1,2],[0,1],[0,1],[],[]] (by decide+kernel) mixed ?_)|skip);simp only [go_sem,sevalprocAttr,b0,e3,hy,↓reduceIte,reduceCtorEq,ykn]|apply yab<;>(intro h_;(try simp only [h_]);revert h_)|apply And.intro|with_reducible intro h_|trivial|simp only [go_sem,la2];omega)
  refine ⟨_,_,_,q2,?_,l'.set x y,y,hh2,q1,by omega,hRy.trans hRx,fun z hz ez=>q3 z hz (hd z hz ez),rfl,rfl,rfl⟩
  refine Wk.low2 rfl rfl (fun t ht=>?_)
  simp only [fget]
  repeat rw [if_neg (by omega)]
theorem yev (s m:List Int) (L:Int) (l R:List Int) (c:Int) (hu:UF l R m.length) (hc:c=roots R) (g h:Nat) (hg:g<m.length) (hh:h<m.length) (hm:m.length<=100000) {fr:Fr} {K:AV->Fr->Hp->Prop}
  (hK: ∀l' r,UF l' (yaj R g h) m.length->K r fr (mgH s m L l' (roots (yaj R g h)))):
  ya7 Tryd.prog 34 [I g,I h, .ptr 4 0, .ptr 2 0, .ptr 3 0] fr (mgH s m L l c) K:=by
 have g1:=hu.rep.rng g hg
 have h1:=hu.rep.rng h hh
 have hrl:roots R<=m.length:=by
  have:=List.countP_le_length (p:=fun x=>R.getD x 0==(x:Int)) (l:=List.range R.length)
  rw [List.length_range] at this
  have h2:=hu.rep.len
  unfold roots
  omega
 obtain ⟨rg,hrg⟩: ∃rg:Nat,R.getD g 0=rg:=⟨(R.getD g 0).toNat,by omega⟩
 obtain ⟨rh,hrh⟩: ∃rh:Nat,R.getD h 0=rh:=⟨(R.getD h 0).toNat,by omega⟩
 refine ya7.intro [] Tryd.func34 rfl rfl (by decide) (by simp [Tryd.ntmps34]) ?_;rw [Tryd.ntmps34]
 repeat' (first|omega|(first|apply yaa|(refine yac.introT (id:=0) (yeu) (by decide+kernel) mixed ?_)|(refine yac.intro (id:=0) [[8,10,11],[7,10,11],[10,11],[7,8,9,11],[7,8,9,10],[],[],[]] [[],[0],[],[0,1,2],[0,1,2,3],[],[],[]] (by decide+kernel) mixed ?_)|skip);simp only [go_sem,sevalprocAttr,hc,↓reduceIte,reduceCtorEq,yeu]|apply yab<;>(intro h_;(try simp only [h_]);revert h_)|apply And.intro|with_reducible intro h_|trivial|simp only [go_sem,la2];omega)
 all_goals refine ⟨yad.inline (yhs s m L l R _ hu g hg hm ?_)⟩
 all_goals intro l1 hu1 hd1
 all_goals (repeat' (first|omega|(first|apply yaa|(refine yac.introT (id:=0) (yeu) (by decide+kernel) mixed ?_)|(refine yac.intro (id:=0) [[8,10,11],[7,10,11],[10,11],[7,8,9,11],[7,8,9,10],[],[],[]] [[],[0],[],[0,1,2],[0,1,2,3],[],[],[]] (by decide+kernel) mixed ?_)|skip);simp only [go_sem,sevalprocAttr,hrg,↓reduceIte,reduceCtorEq,yeu]|apply yab<;>(intro h_;(try simp only [h_]);revert h_)|apply And.intro|with_reducible intro h_|trivial|simp only [go_sem,la2];omega))
 all_goals refine ⟨yad.inline (yhs s m L l1 R _ hu1 h hh hm ?_)⟩
 all_goals intro l2 hu2 hd2
 all_goals have hl2:=hu2.len
 all_goals (
  by_cases e:R.getD g 0=R.getD h 0
  ·have ej:yaj R g h=R:=by unfold yaj;rw [if_pos e]
   rw [ej] at hK
   have b0:((rg:Int)!=rh)=false:=by rw [←hrg,←hrh,e];simp
   rw [hrh]
   repeat' (first|omega|(first|apply yaa|(refine yac.introT (id:=0) (yeu) (by decide+kernel) mixed ?_)|(refine yac.intro (id:=0) [[8,10,11],[7,10,11],[10,11],[7,8,9,11],[7,8,9,10],[],[],[]] [[],[0],[],[0,1,2],[0,1,2,3],[],[],[]] (by decide+kernel) mixed ?_)|skip);simp only [go_sem,sevalprocAttr,b0,↓reduceIte,reduceCtorEq,yeu]|apply yab<;>(intro h_;(try simp only [h_]);revert h_)|apply And.intro|with_reducible intro h_|trivial|simp only [go_sem,la2];omega)
   all_goals exact hK _ _ hu2
  ·have hj:=hu2.join hg hh e
   rw [hrg,hrh,Int.toNat_natCast] at hj
   have b0:((rg:Int)!=rh)=true:=by rw [←hrg,←hrh];simpa [bne] using e
   have hcr:=yi2 hu2.rep hg hh e
   have hc1:(roots R:Int)-1=roots (yaj R g h):=by omega
   rw [hrh]
   repeat' (first|omega|(first|apply yaa|(refine yac.introT (id:=0) (yeu) (by decide+kernel) mixed ?_)|(refine yac.intro (id:=0) [[8,10,11],[7,10,11],[10,11],[7,8,9,11],[7,8,9,10],[],[],[]] [[],[0],[],[0,1,2],[0,1,2,3],[],[],[]] (by decide+kernel) mixed ?_)|skip);simp only [go_sem,sevalprocAttr,b0,hc1,↓reduceIte,reduceCtorEq,yeu]|apply yab<;>(intro h_;(try simp only [h_]);revert h_)|apply And.intro|with_reducible intro h_|trivial|simp only [go_sem,la2];omega)
   all_goals exact hK _ _ hj)
end Go.Proofs.YtngegnonblbdhaaDoor
set_option linter.unusedSimpArgs false
set_option linter.unusedVariables false
namespace Go.Proofs.YtngegnonblbdhaaDoor
open Go Go.RowKit
set_option maxRecDepth 100000
set_option maxHeartbeats 8000000
def ygi:Tr:= .node [(0, .node [(1, .node [(2,trD [3,4,5,6]),(3,trD [2,4,5,6])]),(2, .node [(1,trD [3,4,5,6]),(3, .node [(1,trD [4,5,6]),(4,trD [1,5,6])])]),(3, .node [(1,trD [2,4,5,6]),(2, .node [(1,trD [4,5,6]),(4,trD [1,5,6])])])]),(1, .node [(0, .node [(2,trD [3,4,5,6]),(3,trD [2,4,5,6])]),(2, .node [(0,trD [3,4,5,6]),(3, .node [(0,trD [4,5,6]),(4,trD [0,5,6])])]),(3, .node [(0,trD [2,4,5,6]),(2, .node [(0,trD [4,5,6]),(4,trD [0,5,6])])])]),(2, .node [(0, .node [(1,trD [3,4,5,6]),(3, .node [(1,trD [4,5,6]),(4,trD [1,5,6])])]),(1, .node [(0,trD [3,4,5,6]),(3, .node [(0,trD [4,5,6]),(4,trD [0,5,6])])]),(3, .node [(0, .node [(1,trD [4,5,6]),(4,trD [1,5,6])]),(1, .node [(0,trD [4,5,6]),(4,trD [0,5,6])]),(4, .node [(0,trD [1,5,6]),(1,trD [0,5,6])])])]),(3, .node [(0, .node [(1,trD [2,4,5,6]),(2, .node [(1,trD [4,5,6]),(4,trD [1,5,6])])]),(1, .node [(0,trD [2,4,5,6]),(2, .node [(0,trD [4,5,6]),(4,trD [0,5,6])])]),(2, .node [(0, .node [(1,trD [4,5,6]),(4,trD [1,5,6])]),(1, .node [(0,trD [4,5,6]),(4,trD [0,5,6])]),(4, .node [(0,trD [1,5,6]),(1,trD [0,5,6])])])])]
def ygj:Tr:= .node [(0, .node [(1,trD [2,3]),(2,trD [1,3])]),(1,trD [0,2,3])]
def inR (N k:Nat):List Int:=(List.range N).map fun x=>if x<k then (x:Int) else 0
theorem yqg (N k:Nat):(inR N k).length=N:=by simp [inR]
theorem y3a (N:Nat):inR N 0=List.replicate N 0:=by
 apply List.ext_getElem?
 intro i
 by_cases h:i<N<;>simp [inR,h]
theorem y0a (N k:Nat) (h:k<N):(inR N k).set k (k:Int)=inR N (k+1):=by
 apply List.ext_getElem?
 intro i
 rw [List.getElem?_set,yqg]
 by_cases e:k=i
 ·subst e;simp [inR,h]
 ·rw [if_neg e]
  by_cases hi:i<N
  ·simp only [inR,List.getElem?_map,List.getElem?_range hi,Option.map_some]
   by_cases h2:i<k
   ·rw [if_pos h2,if_pos (by omega)]
   ·rw [if_neg h2,if_neg (by omega)]
  ·simp [inR,hi]
theorem yw3 (N:Nat):inR N N=(List.range N).map (Nat.cast:Nat->Int):=by
 apply List.ext_getElem?
 intro i
 by_cases h:i<N<;>simp [inR,h]
abbrev jcl:AV:= .fn 34 [.ptr 4 0, .ptr 2 0, .ptr 3 0]
theorem yoe (s m:List Int) (L:Int) (g:Nat) (cc:List AV) (ch:Nat->Bool) (hs:s.length<=1000) (hm:ybt m s.length) (hp1:cc.all p1=true) (hf: ∀c:Nat,c<s.length->Fn Tryd.prog g (I c::cc) (.bool (ch c))):
  Fn Tryd.prog 20 [dgA s m L, .fn g cc] (.tup [roI (mgB m ch s.length),I (roots (mgB m ch s.length))]):=by
 have hml:=hm.1
 refine Fn.introL [.tmp 4, .tmp 5] Tryd.func20 rfl rfl (by decide) (by simp [Tryd.ntmps20]) ?_;rw [Tryd.ntmps20]
 repeat' (first|omega|(try apply yaa);simp only [go_sem,sevalprocAttr]|apply yab<;>(intro h_;(try simp only [h_]);revert h_)|apply And.intro|with_reducible intro h_|trivial|simp only [go_sem,la2];omega)
 refine yak.intro (fun n fr H=> ∃k:Nat,k<=m.length/\n=m.length-k/\fr=[(21,I k),(20,I m.length),(6, .ptr 2 0),(2, .ptr 0 0),(1, .fn g cc)]/\H=[(2, .cells 22 (.lst [.sl 1 1 0 m.length])),(1, .cells 3 (.ints (inR m.length k))),(0, .cells 24 (.lst [roI s,roI m,I L]))]) ?_ ?_
 ·refine ⟨_,_,_,?_,0,by omega,rfl,rfl,rfl⟩
  rw [y3a]
  refine Wk.sub ?_ ?_<;>(simp only [go_sem,sevalprocAttr,ye2 hp1,ye3 hp1])
  all_goals trace_state
 rintro n fr H ⟨k,hk,rfl,rfl,rfl⟩
 have il:=yqg m.length k
 by_cases hkl:k<m.length
 ·repeat' (first|omega|(try apply yaa);simp only [go_sem,sevalprocAttr]|apply yab<;>(intro h_;(try simp only [h_]);revert h_)|apply And.intro|with_reducible intro h_|trivial|simp only [go_sem,la2];omega)
  rw [y0a m.length k hkl]
  refine ⟨_,_,_,?_,?_,⟨k+1,by omega,rfl,rfl,rfl⟩⟩
  ·omega
  ·refine Wk.sub ?_ ?_<;>(simp only [go_sem,sevalprocAttr,ye2 hp1,ye3 hp1])
   all_goals simp_all
 obtain rfl:k=m.length:=by omega
 repeat' (first|omega|(try apply yaa);simp only [go_sem,sevalprocAttr]|apply yab<;>(intro h_;(try simp only [h_]);revert h_)|apply And.intro|with_reducible intro h_|trivial|simp only [go_sem,la2];omega)
 refine yak.intro (fun n fr H=> ∃(k:Nat) (l:List Int),k<=m.length/\n=m.length-k/\UF l (mgA m k) m.length/\fr=[(36,I k),(35,I m.length),(34,roI m),(10,jcl),(9, .ptr 4 0),(8, .ptr 3 0),(6, .ptr 2 0),(2, .ptr 0 0),(1, .fn g cc)]/\H=mgH s m L l (roots (mgA m k))) ?_ ?_
 ·refine ⟨_,_,_,?_,0,inR m.length m.length,by omega,rfl,by rw [yw3];exact UF.init _,rfl,rfl⟩
  have h0:(roots (mgA m 0):Int)=m.length:=by rw [mgA,yrt]
  refine Wk.sub ?_ ?_<;>(simp only [go_sem,sevalprocAttr,ye2 hp1,ye3 hp1,h0])
 rintro n fr H ⟨k,l,hk,rfl,hu,rfl,rfl⟩
 have hul:=hu.len
 by_cases hkl:k<m.length
 ·have hmr:=hm.2 k (by omega)
  by_cases hlt:(k:Int)<m.getD k 0
  ·have b0:decide ((k:Int)<m.getD k 0)=true:=by simpa using hlt
   obtain ⟨y,hy⟩: ∃y:Nat,m.getD k 0=y:=⟨(m.getD k 0).toNat,by omega⟩
   have eA:mgA m (k+1)=yaj (mgA m k) k y:=by simp only [mgA,if_pos hlt];rw [hy,Int.toNat_natCast]
   rw [hy] at b0 hmr
   repeat' (first|omega|(try apply yaa);simp only [go_sem,sevalprocAttr,b0,hy]|apply yab<;>(intro h_;(try simp only [h_]);revert h_)|apply And.intro|with_reducible intro h_|trivial|simp only [go_sem,la2];omega)
   refine ⟨yad.inline (yev s m L l (mgA m k) _ hu rfl k y hkl (by omega) (by omega) ?_)⟩
   intro l' r hu'
   rw [←eA] at hu'⊢
   repeat' (first|omega|(try apply yaa);simp only [go_sem,sevalprocAttr]|apply yab<;>(intro h_;(try simp only [h_]);revert h_)|apply And.intro|with_reducible intro h_|trivial|simp only [go_sem,la2];omega)
   refine ⟨_,_,_,?_,?_,⟨k+1,l',by omega,rfl,hu',rfl,rfl⟩⟩
   ·omega
   ·refine Wk.sub ?_ ?_<;>(simp only [go_sem,sevalprocAttr,ye2 hp1,ye3 hp1])
    all_goals simp_all
  ·have b0:decide ((k:Int)<m.getD k 0)=false:=by simpa using hlt
   have eA:mgA m (k+1)=mgA m k:=by simp only [mgA,if_neg hlt]
   repeat' (first|omega|(try apply yaa);simp only [go_sem,sevalprocAttr,b0]|apply yab<;>(intro h_;(try simp only [h_]);revert h_)|apply And.intro|with_reducible intro h_|trivial|simp only [go_sem,la2];omega)
   refine ⟨_,_,_,?_,?_,⟨k+1,l,by omega,rfl,by rw [eA];exact hu,rfl,rfl⟩⟩
   ·omega
   ·refine Wk.sub ?_ ?_<;>(simp only [go_sem,sevalprocAttr,ye2 hp1,ye3 hp1,eA])
    all_goals simp_all
 obtain rfl:k=m.length:=by omega
 repeat' (first|omega|(try apply yaa);simp only [go_sem,sevalprocAttr]|apply yab<;>(intro h_;(try simp only [h_]);revert h_)|apply And.intro|with_reducible intro h_|trivial|simp only [go_sem,la2];omega)
 refine yak.intro (fun n fr H=> ∃(k:Nat) (l:List Int),k<=s.length/\n=s.length-k/\UF l (mgB m ch k) m.length/\fr=[(52,I k),(51,I s.length),(10,jcl),(9, .ptr 4 0),(8, .ptr 3 0),(6, .ptr 2 0),(2, .ptr 0 0),(1, .fn g cc)]/\H=mgH s m L l (roots (mgB m ch k))) ?_ ?_
 ·refine ⟨_,_,_,?_,0,l,by omega,rfl,hu,rfl,rfl⟩
  refine Wk.sub ?_ ?_<;>(simp only [go_sem,sevalprocAttr,ye2 hp1,ye3 hp1])
  all_goals simp_all [mgB]
 clear hu hul hkl hk l
 rintro n fr H ⟨k,l,hk,rfl,hu,rfl,rfl⟩
 have hul:=hu.len
 by_cases hkl:k<s.length
 ·have hfk:=hf k hkl
  have c1:(4*(k:Int)+1)=((4*k+1:Nat):Int):=by omega
  have c2:(4*(k:Int)+2)=((4*k+2:Nat):Int):=by omega
  have c3:(4*(k:Int)+3)=((4*k+3:Nat):Int):=by omega
  have c0:(4*(k:Int))=((4*k:Nat):Int):=by omega
  cases hch:ch k with
  |true=>
   have eB:mgB m ch (k+1)=yaj (yaj (mgB m ch k) (4*k+1) (4*k+2)) (4*k+3) (4*k):=by simp only [mgB,hch,if_true]
   rw [hch] at hfk
   repeat' (first|omega|(try apply yaa);simp only [go_sem,sevalprocAttr]|apply yab<;>(intro h_;(try simp only [h_]);revert h_)|apply And.intro|with_reducible intro h_|trivial|simp only [go_sem,la2];omega)
   refine ⟨yad.fn (by simp only [List.all_cons,yxx hp1];rfl) hfk ?_⟩
   repeat' (first|omega|(try apply yaa);simp only [go_sem,sevalprocAttr]|apply yab<;>(intro h_;(try simp only [h_]);revert h_)|apply And.intro|with_reducible intro h_|trivial|simp only [go_sem,la2];omega)
   rw [c1,c2]
   refine ⟨yad.inline (yev s m L l (mgB m ch k) _ hu rfl (4*k+1) (4*k+2) (by omega) (by omega) (by omega) ?_)⟩
   intro l1 r1 hu1
   repeat' (first|omega|(try apply yaa);simp only [go_sem,sevalprocAttr]|apply yab<;>(intro h_;(try simp only [h_]);revert h_)|apply And.intro|with_reducible intro h_|trivial|simp only [go_sem,la2];omega)
   rw [c3,c0]
   refine ⟨yad.inline (yev s m L l1 _ _ hu1 rfl (4*k+3) (4*k) (by omega) (by omega) (by omega) ?_)⟩
   intro l2 r2 hu2
   rw [←eB] at hu2⊢
   repeat' (first|omega|(try apply yaa);simp only [go_sem,sevalprocAttr]|apply yab<;>(intro h_;(try simp only [h_]);revert h_)|apply And.intro|with_reducible intro h_|trivial|simp only [go_sem,la2];omega)
   refine ⟨_,_,_,?_,?_,⟨k+1,l2,by omega,rfl,hu2,rfl,rfl⟩⟩
   ·omega
   ·refine Wk.sub ?_ ?_<;>(simp only [go_sem,sevalprocAttr,ye2 hp1,ye3 hp1])
    all_goals simp_all
  |false=>
   have eB:mgB m ch (k+1)=yaj (yaj (mgB m ch k) (4*k) (4*k+1)) (4*k+2) (4*k+3):=by simp only [mgB,hch];rfl
   rw [hch] at hfk
   repeat' (first|omega|(try apply yaa);simp only [go_sem,sevalprocAttr]|apply yab<;>(intro h_;(try simp only [h_]);revert h_)|apply And.intro|with_reducible intro h_|trivial|simp only [go_sem,la2];omega)
   refine ⟨yad.fn (by simp only [List.all_cons,yxx hp1];rfl) hfk ?_⟩
   repeat' (first|omega|(try apply yaa);simp only [go_sem,sevalprocAttr]|apply yab<;>(intro h_;(try simp only [h_]);revert h_)|apply And.intro|with_reducible intro h_|trivial|simp only [go_sem,la2];omega)
   rw [c1,c0]
   refine ⟨yad.inline (yev s m L l (mgB m ch k) _ hu rfl (4*k) (4*k+1) (by omega) (by omega) (by omega) ?_)⟩
   intro l1 r1 hu1
   repeat' (first|omega|(try apply yaa);simp only [go_sem,sevalprocAttr]|apply yab<;>(intro h_;(try simp only [h_]);revert h_)|apply And.intro|with_reducible intro h_|trivial|simp only [go_sem,la2];omega)
   rw [c2,c3]
   refine ⟨yad.inline (yev s m L l1 _ _ hu1 rfl (4*k+2) (4*k+3) (by omega) (by omega) (by omega) ?_)⟩
   intro l2 r2 hu2
   rw [←eB] at hu2⊢
   repeat' (first|omega|(try apply yaa);simp only [go_sem,sevalprocAttr]|apply yab<;>(intro h_;(try simp only [h_]);revert h_)|apply And.intro|with_reducible intro h_|trivial|simp only [go_sem,la2];omega)
   refine ⟨_,_,_,?_,?_,⟨k+1,l2,by omega,rfl,hu2,rfl,rfl⟩⟩
   ·omega
   ·refine Wk.sub ?_ ?_<;>(simp only [go_sem,sevalprocAttr,ye2 hp1,ye3 hp1])
    all_goals simp_all
 obtain rfl:k=s.length:=by omega
 repeat' (first|omega|(try apply yaa);simp only [go_sem,sevalprocAttr]|apply yab<;>(intro h_;(try simp only [h_]);revert h_)|apply And.intro|with_reducible intro h_|trivial|simp only [go_sem,la2];omega)
 obtain ⟨R,hR⟩: ∃R,R=mgB m ch s.length:=⟨_,rfl⟩
 rw [←hR] at hu⊢
 refine yak.intro (fun n fr H=> ∃(k:Nat) (l:List Int),k<=m.length/\n=m.length-k/\UF l R m.length/\(∀x,x<k->l.getD x 0=R.getD x 0)/\fr=[(91,I k),(90,I m.length),(9, .ptr 4 0),(8, .ptr 3 0),(6, .ptr 2 0)]/\H=mgH s m L l (roots R)) ?_ ?_
 ·refine ⟨_,_,_,?_,0,l,by omega,rfl,hu,(fun x hx=>absurd hx (by omega)),rfl,rfl⟩
  refine Wk.sub ?_ ?_<;>(simp only [go_sem,sevalprocAttr,ye2 hp1,ye3 hp1])
  all_goals simp_all
 clear hu hul hkl hk l
 rintro n fr H ⟨k,l,hk,rfl,hu,hd,rfl,rfl⟩
 have hul:=hu.len
 by_cases hkl:k<m.length
 ·repeat' (first|omega|(first|apply yaa|(refine yac.introT (id:=28) (ygi) (by decide+kernel) mixed ?_)|(refine yac.intro (id:=28) [[95,96,97,98],[94,96,97,98],[94,95,97],[94,95,96],[94,95],[],[]] [[],[0],[0,1],[0,1,2],[0,1],[],[]] (by decide+kernel) mixed ?_)|(refine yac.introT (id:=30) (ygj) (by decide+kernel) mixed ?_)|(refine yac.intro (id:=30) [[102],[101,4],[102],[]] [[],[0],[1],[]] (by decide+kernel) mixed ?_)|skip);simp only [go_sem,sevalprocAttr,hul,↓reduceIte,reduceCtorEq,ygi,ygj]|apply yab<;>(intro h_;(try simp only [h_]);revert h_)|apply And.intro|with_reducible intro h_|trivial|simp only [go_sem,la2];omega)
  all_goals refine ⟨yad.inline (yhs s m L l R _ hu k hkl (by omega) ?_)⟩
  all_goals (
   intro l1 hu1 hd1
   have hul1:=hu1.len
   repeat' (first|omega|(first|apply yaa|(refine yac.introT (id:=28) (ygi) (by decide+kernel) mixed ?_)|(refine yac.intro (id:=28) [[95,96,97,98],[94,96,97,98],[94,95,97],[94,95,96],[94,95],[],[]] [[],[0],[0,1],[0,1,2],[0,1],[],[]] (by decide+kernel) mixed ?_)|(refine yac.introT (id:=30) (ygj) (by decide+kernel) mixed ?_)|(refine yac.intro (id:=30) [[102],[101,4],[102],[]] [[],[0],[1],[]] (by decide+kernel) mixed ?_)|skip);simp only [go_sem,sevalprocAttr,hul1,↓reduceIte,reduceCtorEq,ygi,ygj]|apply yab<;>(intro h_;(try simp only [h_]);revert h_)|apply And.intro|with_reducible intro h_|trivial|simp only [go_sem,la2];omega))
  all_goals (
   refine ⟨_,_,_,?_,?_,⟨k+1,l1.set k (R.getD k 0),by omega,rfl,hu1.put hkl,?_,rfl,rfl⟩⟩
   ·omega
   ·refine Wk.sub ?_ ?_<;>(simp only [go_sem,sevalprocAttr])
    all_goals simp_all
   ·intro x hx
    by_cases e:k=x
    ·subst e;exact ybf (by omega)
    ·rw [ybo e];exact hd1 x (by omega) (hd x (by omega)))
 obtain rfl:k=m.length:=by omega
 have hfin:l=R:=by
  have:=hu.rep.len
  apply List.ext_getElem?
  intro i
  by_cases hi:i<m.length
  ·have:=hd i hi
   simpa [List.getD_eq_getElem?_getD,List.getElem?_eq_getElem (show i<l.length by omega),List.getElem?_eq_getElem (show i<R.length by omega)] using this
  ·rw [List.getElem?_eq_none (by omega),List.getElem?_eq_none (by omega)]
 subst hfin
 repeat' (first|omega|(first|apply yaa|(refine yac.intro (id:=28) [[95,96,97,98],[94,96,97,98],[94,95,97],[94,95,96],[94,95],[],[]] [[],[0],[0,1],[0,1,2],[0,1],[],[]] (by decide+kernel) mixed ?_)|(refine yac.introT (id:=28) (ygi) (by decide+kernel) mixed ?_)|(refine yac.intro (id:=30) [[102],[101,4],[102],[]] [[],[0],[1],[]] (by decide+kernel) mixed ?_)|(refine yac.introT (id:=30) (ygj) (by decide+kernel) mixed ?_)|skip);simp only [go_sem,sevalprocAttr,hul,↓reduceIte,reduceCtorEq,ygi,ygj]|apply yab<;>(intro h_;(try simp only [h_]);revert h_)|apply And.intro|with_reducible intro h_|trivial|simp only [go_sem,la2];omega)
 all_goals exact LeA.of (by rw [List.take_of_length_le (by omega)])
end Go.Proofs.YtngegnonblbdhaaDoor
