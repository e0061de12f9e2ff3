/- Layers 12 and 13: division by a power of the variable; the powers of a single term. -/
import Derived.Test.YtbblgobamoabkaaGreatDoorZz
import Derived.Test.YtbblgobamoabkaaGreatDoorZva
import Derived.Test.YtbblgobamoabkaaGreatDoorZvb
namespace Go.Proofs.YtbblgobamoabkaaGreatDoor
open Go Go.RowKit
set_option maxRecDepth 100000
set_option maxHeartbeats 8000000
set_option linter.unusedVariables false
set_option linter.unusedSimpArgs false
def ymh:List (List Nat):=[[41,42,43,44,45,46,47,48],[41,42,43,44,45,46,47,48],[39,40,42,43,44,45,46],[39,40,41,44,45],[39,40,41,44,45],[39,40,41,42,43],[39,40,41,42,43],[39,40,41],[39,40],[39,40],[],[],[]]
def ymi:List (List Nat):=[[],[],[0,1],[0,1,2],[0,1,2],[0,1,2,3,4],[0,1,2,3,4],[0,1,2],[0,1],[0,1],[],[],[]]
def ymj:Tr:= .node [(0,trP [1,2,3,4,5] (.node [(6,trD [7,8,9]),(7,trD [6,8,9])])),(1, .node [(0,trP [2,3,4,5] (.node [(6,trD [7,8,9]),(7,trD [6,8,9])])),(2, .node [(0,trP [3,4,5] (.node [(6,trD [7,8,9]),(7,trD [6,8,9])])),(3, .node [(0,trP [4,5] (.node [(6,trD [7,8,9]),(7,trD [6,8,9])])),(4,trP [0,5] (.node [(6,trD [7,8,9]),(7,trD [6,8,9])]))])])])]
def ymk:List (List Nat):=[[55,58,60],[55,58,60],[53,54,58,60],[58,60],[58,59,60,61,62],[53,54,55,56,57,60],[57,60],[53,54,55,56,57,58,59],[57],[57],[],[]]
def yml:Tr:= .node [(0, .node [(1,trD [2,3,4,5,6,7]),(2,trD [1,3,4,5,6,7])]),(2,trD [0,1,3,4,5,6,7])]
def ymm:List (List Nat):=[[82,83,84,85,86,87,88,89],[81,84,85,87,88,89],[81,84,85,87,88,89],[81,82,83,87,88],[81,82,83,87,88],[81,87,88,89],[81,82,83,84,85,86],[81,82,83,84,85,86],[81,82,83,86],[],[]]
def ymn:List (List Nat):=[[],[0],[0],[0,1,2],[0,1,2],[0],[0,1,2,3,4,5],[0,1,2,3,4,5],[0,1,2,5],[],[]]
def ymo:List (List Nat):=[[104,107,108,109,110,111],[103,107,108,109,110,111],[107,108,109,110,111],[107,108,109,110,111],[103,104,105,106],[103,104,105,106],[103,104,105,106],[103,104,105,106],[103,104,105,106],[],[],[114],[113,12],[114],[]]
def ymp:List (List Nat):=[[],[0],[],[],[0,1,2,3],[0,1,2,3],[0,1,2,3],[0,1,2,3],[0,1,2,3],[],[],[],[11],[12],[]]
def ymq:List (List Nat):=[[117,120],[117,120],[115,116,120],[120],[120],[115,116,117,118,119],[],[]]
def yj0:Tr:= .node [(0, .node [(1, .node [(2, .node [(3, .node [(4,trD [5,6,7]),(5,trD [4,6,7])]),(5,trD [3,4,6,7])]),(5,trD [2,3,4,6,7])]),(2, .node [(1, .node [(3, .node [(4,trD [5,6,7]),(5,trD [4,6,7])]),(5,trD [3,4,6,7])]),(5,trD [1,3,4,6,7])]),(5, .node [(1,trD [2,3,4,6,7]),(2,trD [1,3,4,6,7])])]),(2, .node [(0, .node [(1, .node [(3, .node [(4,trD [5,6,7]),(5,trD [4,6,7])]),(5,trD [3,4,6,7])]),(5,trD [1,3,4,6,7])]),(5,trD [0,1,3,4,6,7])]),(5, .node [(0, .node [(1,trD [2,3,4,6,7]),(2,trD [1,3,4,6,7])]),(2,trD [0,1,3,4,6,7])])]
def yj1:List (List Nat):=[[146,147,149,150],[145,149,150],[145,149,150],[149,150],[145,146,147,148],[145,146,147,148],[],[]]
def yj2:List (List Nat):=[[153,154,155,156,157,158,159,160,161,162,163],[152,154,155,156,157,158,159,160,161,162,163],[152,153,155,158,159,160,161,162],[152,153,154,158,159,160,161,162],[152,153,158,159,160,161,162],[152,153,158,159,160,161,162],[152,153,154,155,156,157,160,161],[152,153,154,155,156,157,160,161],[152,153,154,155,156,157,158,159],[152,153,154,155,156,157,158,159],[152,153,154,155,156,157],[152,153],[],[]]
def yj3:List (List Nat):=[[],[0],[0,1],[0,1,2],[0,1],[0,1],[0,1,2,3,4,5],[0,1,2,3,4,5],[0,1,2,3,4,5,6,7],[0,1,2,3,4,5,6,7],[0,1,2,3,4,5],[0,1],[],[]]
def ytt:Tr:= .node [(0,trD [1,2,3,4]),(1, .node [(0,trD [2,3,4]),(2,trD [0,3,4])])]
def ytu:Tr:= .node [(0, .node [(1,trD [2,3,4,5,6,7,8,9,10,11,12,13]),(2,trD [1,3,4,5,6,7,8,9,10,11,12,13])]),(2,trD [0,1,3,4,5,6,7,8,9,10,11,12,13])]
def ytv:List (List Nat):=[[5,6,8,10,12],[4,8,10,12],[4,8,10,12],[8,10,12],[4,5,6,7,10,12],[10,12],[4,5,6,7,8,9,12],[12],[4,5,6,7,8,9,10,11],[],[],[]]
def ytw:List (List Nat):=[[],[0],[0],[],[0,1,2,3],[],[0,1,2,3,4,5],[],[0,1,2,3,4,5,6,7],[],[],[]]
theorem yj4 (p:List (Int×Int)):Fn Tryz.prog 53 [plA false p] (.bool false):=by
 refine Fn.intro [.tmp 2] Tryz.func53 rfl rfl (by decide) (by simp [Tryz.ntmps53]) ?_;rw [Tryz.ntmps53]
 repeat' (first|omega|(try apply yaa);simp only [go_sem,sevalprocAttr]|apply yab<;>(intro h_;(try simp only [h_]);revert h_)|apply And.intro|with_reducible intro h_|trivial|simp only [go_sem,la2];omega)
def lSh (d:Int) (p:List (Int×Int)):List (Int×Int):=p.map fun t=>(t.1-d,t.2)
theorem ytx (d:Int) (p:List (Int×Int)):(lSh d p).length=p.length:=by simp [lSh]
theorem yy8 (d:Int): ∀(p:List (Int×Int)) (e:Int),cfL (lSh d p) e=cfL p (e+d)
 |[],_=>rfl
 |t::p,e=>by
  have ih:=yy8 d p e
  simp only [lSh,List.map_cons,cfL] at ih⊢
  rw [ih]
  by_cases h:t.1-d=e
  ·rw [if_pos h,if_pos (by omega)]
  ·rw [if_neg h,if_neg (by omega)]
theorem y5z {d:Int} {p:List (Int×Int)} (h:AscN p):AscN (lSh d p):=by
 refine ⟨?_,fun t ht=>?_⟩
 ·unfold lSh
  rw [List.pairwise_map]
  exact h.asc.imp fun {a b} hab=>by show a.1-d<b.1-d;omega
 ·obtain ⟨u,hu,rfl⟩:=List.mem_map.1 ht
  exact h.nz u hu
theorem yy9 (p:List (Int×Int)) (d:Int) (hp:p.length<=1000000) (hd: -1000<=d/\d<=1000) (hb: ∀t∈p,(-1000<=t.1/\t.1<=1000)/\ -1125899906842624<=t.2/\t.2<=1125899906842624):
  Fn Tryz.prog 96 [plA false p, .agg [I d,I 1]] (.tup [plA false (lSh d p),I 0]):=by
 have hc:=ybm p
 refine Fn.introL [.cell 4 47, .tmp 5] Tryz.func96 rfl rfl (by decide) (by simp [Tryz.ntmps96]) ?_;rw [Tryz.ntmps96]
 repeat' (first|omega|(first|apply yaa|(refine yac.intro (id:=8) ymh ymi (by decide+kernel) mixed ?_)|skip);simp only [go_sem,sevalprocAttr,hc,↓reduceIte,reduceCtorEq,ymh,ymi]|(refine ⟨yad.fn (r:=?_) rfl ?_ ?_⟩;rotate_left;assumption)|(refine ⟨yag.fn (r:=?_) rfl ?_ ?_⟩;rotate_left;assumption)|apply yab<;>(intro h_;(try simp only [h_]);revert h_)|apply And.intro|with_reducible intro h_|trivial|simp only [go_sem,la2];omega)
 refine yal.intro (fun n fr H=> ∃k:Nat,k<=p.length/\n=p.length-k/\fr=[(18,I k),(17,I p.length),(16,tmA p),(6, .ptr 4 0),(4, .ptr 2 0),(3, .ptr 1 0)]/\
  H=[(4, .cells 47 (.lst [.bool false, .sl 2 3 0 k])),(3, .cells 97 (.lst (tmC (lSh d (p.take k))))),(2, .cells 47 (.lst [.bool false, .nils])),(1, .cells 97 (.lst [I d,I 1]))]) ?_ ?_
 ·refine ⟨_,_,_,Wk.sub ?_ ?_,0,by omega,rfl,rfl,rfl⟩
  ·simp only [go_sem,sevalprocAttr,yam]
  ·simp only [go_sem,sevalprocAttr,yam,List.take_zero,lSh,List.map_nil,tmC]
   all_goals rfl
 rintro n fr H ⟨k,hk,rfl,rfl,rfl⟩
 have hl:(tmC (lSh d (p.take k))).length=2*k:=by rw [ybm,ytx,List.length_take];omega
 by_cases hkl:k<p.length
 ·have bk:decide ((k:Int)<p.length)=true:=by simp;omega
  have g0:=ybk p k hkl
  have g1:=ycw p k hkl
  have ht:=hb (p.getD k (0,0)) (by rw [List.getD_eq_getElem?_getD,List.getElem?_eq_getElem hkl];exact List.getElem_mem _)
  have et:p.take (k+1)=p.take k++[p.getD k (0,0)]:=by rw [List.take_succ_eq_append_getElem hkl];simp [hkl]
  have es:tmC (lSh d (p.take (k+1)))=tmC (lSh d (p.take k))++[I ((p.getD k (0,0)).1-d),I (p.getD k (0,0)).2]:=by
   rw [et]
   unfold lSh
   rw [List.map_append,yvh]
   rfl
  generalize (p.getD k (0,0)).1=x at*
  generalize (p.getD k (0,0)).2=v at*
  clear hb
  have w1:=yc4 (x-d) 1048576 (by decide) (by decide)
  have wb:fitB (x-d) 1048576=true:=by unfold fitB;simp;omega
  rw [wb] at w1
  have m1:(v.tmod 1 !=0)=false:=by rw [bne_eq_false_iff_eq];exact Int.tmod_one v
  have q1:v.tdiv 1=v:=Int.tdiv_one v
  repeat' (first|omega|(first|apply yaa|(refine yac.intro (id:=8) ymh ymi (by decide+kernel) mixed ?_)|skip);simp only [go_sem,sevalprocAttr,bk,hc,g0,g1,hl,m1,q1,↓reduceIte,reduceCtorEq,ymh,ymi]|(refine ⟨yad.fn (r:=?_) rfl ?_ ?_⟩;rotate_left;assumption)|(refine ⟨yag.fn (r:=?_) rfl ?_ ?_⟩;rotate_left;assumption)|apply yab<;>(intro h_;(try simp only [h_]);revert h_)|apply And.intro|with_reducible intro h_|trivial|simp only [go_sem,la2];omega)
  have sw: ∀q:List (Int×Int),List.map (swV 3 16 4) (tmC q)=tmC q:=fun q=>(List.map_congr_left fun y hy=>by obtain ⟨n,rfl⟩:=yho hy;rfl).trans (List.map_id _)
  refine ⟨_,_,_,?_,Wk.subS 3 16 (fr':=[(18,I ((k+1:Nat):Int)),(17,I p.length),(16,tmA p),(6, .ptr 4 0),(4, .ptr 2 0),(3, .ptr 1 0)]) (H':=[(4, .cells 47 (.lst [.bool false, .sl 2 3 0 (k+1)])),(3, .cells 97 (.lst (tmC (lSh d (p.take (k+1)))))),(2, .cells 47 (.lst [.bool false, .nils])),(1, .cells 97 (.lst [I d,I 1]))])
   (fr1:=[(18,I ((k+1:Nat):Int)),(17,I p.length),(16,tmA p),(6, .ptr 4 0),(4, .ptr 2 0),(3, .ptr 1 0)]) (H1:=[(4, .cells 47 (.lst [.bool false, .sl 2 16 0 (k+1)])),(16, .cells 97 (.lst (tmC (lSh d (p.take (k+1)))))),(2, .cells 47 (.lst [.bool false, .nils])),(1, .cells 97 (.lst [I d,I 1]))])
   rfl (by simp only [swH,swO,List.map_cons,List.map_nil,sw];rfl) rfl (by simp only [swH,swO,List.map_cons,List.map_nil,sw];rfl) ?_ ?_,k+1,by omega,rfl,rfl,rfl⟩
  ·omega
  ·simp only [go_sem,sevalprocAttr,yam]
  ·simp only [go_sem,sevalprocAttr,es,ytn,yam,List.all_append]
 ·obtain rfl:k=p.length:=by omega
  have bk:decide ((p.length:Int)<p.length)=false:=by simp
  rw [List.take_length] at hl⊢
  have hsl:=ytx d p
  repeat' (first|omega|(try apply yaa);simp only [go_sem,sevalprocAttr,bk,hl]|apply yab<;>(intro h_;(try simp only [h_]);revert h_)|apply And.intro|with_reducible intro h_|trivial|simp only [go_sem,la2];omega)
  all_goals first
   |exact yja _ _ ‹_›
   |exact LeA.of (by rw [List.take_of_length_le (by omega),←hsl])
   |exact LeA.of (by rw [yld,List.take_of_length_le (by omega),←hsl])
theorem y50 (p:List (Int×Int)) (d:Int) (hp:p.length<=1000000) (hd: -1000<=d/\d<=1000) (hb: ∀t∈p,(-1000<=t.1/\t.1<=1000)/\ -1125899906842624<=t.2/\t.2<=1125899906842624):
  Fn Tryz.prog 58 [plA false p,plA false [(d,1)]] (.tup [plA false (lSh d p),I 0]):=by
 have hc:=ybm p
 have hD:=yy9 p d hp hd hb
 by_cases h0:p.length=0
 ·obtain rfl:p=[]:=List.eq_nil_of_length_eq_zero h0
  refine Fn.introL [.cell 4 47, .tmp 5] Tryz.func58 rfl rfl (by decide) (by simp [Tryz.ntmps58]) ?_;rw [Tryz.ntmps58]
  repeat' (first|omega|(first|apply yaa|(refine yac.intro (id:=8) [[46,47,48,49],[45],[45],[45],[45],[],[52],[51],[],[]] [[],[0],[0],[0],[0],[],[],[6],[],[]] (by decide+kernel) mixed ?_)|(refine yac.introT (id:=8) (ymj) (by decide+kernel) mixed ?_)|(refine yac.intro (id:=9) ymk [[],[],[0,1],[],[],[0,1,2,3,4],[4],[0,1,2,3,4,5,6],[4],[4],[],[]] (by decide+kernel) mixed ?_)|(refine yac.intro (id:=12) [[69],[69],[67,68],[],[],[],[],[]] [[],[],[0,1],[],[],[],[],[]] (by decide+kernel) mixed ?_)|(refine yac.introT (id:=12) (yml) (by decide+kernel) mixed ?_)|(refine yac.intro (id:=16) ymm ymn (by decide+kernel) mixed ?_)|(refine yac.intro (id:=23) ymo ymp (by decide+kernel) mixed ?_)|(refine yac.intro (id:=24) ymq [[],[],[0,1],[],[],[0,1,2,3,4],[],[]] (by decide+kernel) mixed ?_)|(refine yac.introT (id:=24) (yj0) (by decide+kernel) mixed ?_)|(refine yac.intro (id:=31) yj1 [[],[0],[0],[],[0,1,2,3],[0,1,2,3],[],[]] (by decide+kernel) mixed ?_)|(refine yac.intro (id:=32) yj2 yj3 (by decide+kernel) mixed ?_)|skip);simp only [go_sem,sevalprocAttr,hc,↓reduceIte,reduceCtorEq,yj0,yj1,yj2,yj3,ymj,ymk,yml,ymm,ymn,ymo,ymp,ymq]|(refine ⟨yad.fn (r:=?_) rfl ?_ ?_⟩;rotate_left;assumption)|(refine ⟨yag.fn (r:=?_) rfl ?_ ?_⟩;rotate_left;assumption)|apply yab<;>(intro h_;(try simp only [h_]);revert h_)|apply And.intro|with_reducible intro h_|trivial|simp only [go_sem,la2];omega)
  all_goals exact LeA.tupL (.cons (LeA.aggL (.cons (LeA.refl _) (.cons (LeA.nils (by omega) rfl) .nil))) (.cons (LeA.refl _) .nil))
 have b0:((p.length:Int)==0)=false:=by rw [beq_eq_false_iff_ne];omega
 refine Fn.introL [.cell 4 47, .tmp 5] Tryz.func58 rfl rfl (by decide) (by simp [Tryz.ntmps58]) ?_;rw [Tryz.ntmps58]
 repeat' (first|omega|(first|apply yaa|(refine yac.intro (id:=8) [[46,47,48,49],[45],[45],[45],[45],[],[52],[51],[],[]] [[],[0],[0],[0],[0],[],[],[6],[],[]] (by decide+kernel) mixed ?_)|(refine yac.introT (id:=8) (ymj) (by decide+kernel) mixed ?_)|(refine yac.intro (id:=9) ymk [[],[],[0,1],[],[],[0,1,2,3,4],[4],[0,1,2,3,4,5,6],[4],[4],[],[]] (by decide+kernel) mixed ?_)|(refine yac.intro (id:=12) [[69],[69],[67,68],[],[],[],[],[]] [[],[],[0,1],[],[],[],[],[]] (by decide+kernel) mixed ?_)|(refine yac.introT (id:=12) (yml) (by decide+kernel) mixed ?_)|(refine yac.intro (id:=16) ymm ymn (by decide+kernel) mixed ?_)|(refine yac.intro (id:=23) ymo ymp (by decide+kernel) mixed ?_)|(refine yac.intro (id:=24) ymq [[],[],[0,1],[],[],[0,1,2,3,4],[],[]] (by decide+kernel) mixed ?_)|(refine yac.introT (id:=24) (yj0) (by decide+kernel) mixed ?_)|(refine yac.intro (id:=31) yj1 [[],[0],[0],[],[0,1,2,3],[0,1,2,3],[],[]] (by decide+kernel) mixed ?_)|(refine yac.intro (id:=32) yj2 yj3 (by decide+kernel) mixed ?_)|skip);simp only [go_sem,sevalprocAttr,b0,hc,↓reduceIte,reduceCtorEq,yj0,yj1,yj2,yj3,ymj,ymk,yml,ymm,ymn,ymo,ymp,ymq]|(refine ⟨yad.fn (r:=?_) rfl ?_ ?_⟩;rotate_left;assumption)|(refine ⟨yag.fn (r:=?_) rfl ?_ ?_⟩;rotate_left;assumption)|apply yab<;>(intro h_;(try simp only [h_]);revert h_)|apply And.intro|with_reducible intro h_|trivial|simp only [go_sem,la2];omega)
 all_goals exact LeA.refl _
theorem yq4 (e c e':Int) (hc: -1125899906842624<=c/\c<=1125899906842624) (h0:c≠0) (he: -400<=e/\e<=400) (he': -400<=e'/\e'<=400):Fn Tryz.prog 57 [plA false [(e,c)],plA false [(e',1)]] (plA false [(e+e',c)]):=by
 have one: ∀(x y:Int),y≠0->yai [(x,y)] (cfL [(x,y)]):=fun x y hy=>⟨⟨by simp,fun t ht=>by simp only [List.mem_singleton] at ht;subst ht;exact hy⟩,fun _=>rfl⟩
 have sup: ∀(x y z:Int),cfL [(x,y)] z≠0->z=x:=fun x y z h=>by
  simp only [cfL,Int.add_zero] at h
  by_cases he:x=z
  ·exact he.symm
  ·rw [if_neg he] at h;exact absurd rfl h
 have bnd: ∀(x y z:Int),-1125899906842624<=y/\y<=1125899906842624-> -1125899906842624<=cfL [(x,y)] z/\cfL [(x,y)] z<=1125899906842624:=fun x y z h=>by
  simp only [cfL,Int.add_zero];split<;>omega
 obtain ⟨r,h1,h2⟩:=y5u (one e c h0) (one e' 1 (by decide)) (h:=cfL [(e+e',c)]) (fun z hz=>by have:=sup _ _ _ hz;omega) (fun z hz=>by have:=sup _ _ _ hz;omega) (fun z=>bnd _ _ _ hc) (fun z=>bnd _ _ _ (by decide)) (fun z=>by
  simp only [cvL,cfL,Int.add_zero]
  by_cases h:e'=z-e
  ·rw [if_pos h,if_pos (by omega),Int.mul_one]
  ·rw [if_neg h,if_neg (by omega),Int.mul_zero]) (fun z=>bnd _ _ _ hc) (by simp) (by simp) (by simp [yb8,lowE];try omega)
 obtain rfl:r=[(e+e',c)]:=AscN.ext h1.asc (one _ _ h0).asc fun z=>h1.cf z
 exact h2
theorem yza (n:Int) (hn: -1000<=n/\n<=1000):Fn Tryz.prog 88 [I 1,I n] (I 1):=by
 refine Fn.intro [.tmp 4] Tryz.func88 rfl rfl (by decide) (by simp [Tryz.ntmps88]) ?_;rw [Tryz.ntmps88]
 by_cases h:n.tmod 2=0
 ·have b:(n.tmod 2==0)=true:=by rw [beq_iff_eq];exact h
  repeat' (first|omega|(try apply yaa);simp only [go_sem,sevalprocAttr,b]|(refine ⟨yad.fn (r:=?_) rfl ?_ ?_⟩;rotate_left;assumption)|(refine ⟨yag.fn (r:=?_) rfl ?_ ?_⟩;rotate_left;assumption)|apply yab<;>(intro h_;(try simp only [h_]);revert h_)|apply And.intro|with_reducible intro h_|trivial|simp only [go_sem,la2];omega)
 ·have b:(n.tmod 2==0)=false:=by rw [beq_eq_false_iff_ne];exact h
  repeat' (first|omega|(try apply yaa);simp only [go_sem,sevalprocAttr,b]|(refine ⟨yad.fn (r:=?_) rfl ?_ ?_⟩;rotate_left;assumption)|(refine ⟨yag.fn (r:=?_) rfl ?_ ?_⟩;rotate_left;assumption)|apply yab<;>(intro h_;(try simp only [h_]);revert h_)|apply And.intro|with_reducible intro h_|trivial|simp only [go_sem,la2];omega)
theorem yty (e:Int):AscN [(e,(1:Int))]:=⟨by simp,fun t ht=>by simp only [List.mem_singleton] at ht;subst ht;exact Int.one_ne_zero⟩
theorem y2f (e:Int):Fn Tryz.prog 54 [plA false [(e,1)]] (.bool true):=by
 have hL:=yni [(e,1)] (by simp)
 have hH:=yq1 [(e,1)] (by simp) (by simp)
 have hC:=yts [(e,1)] e (yty e) (by simp)
 have c1:cfL [(e,(1:Int))] e=1:=by simp [cfL]
 rw [c1] at hC
 rw [show ([(e,(1:Int))].getD 0 (0,0)).1=e from rfl] at hL
 rw [show ([(e,(1:Int))].getD ([(e,(1:Int))].length-1) (0,0)).1=e from rfl] at hH
 refine Fn.intro [.tmp 2] Tryz.func54 rfl rfl (by decide) (by simp [Tryz.ntmps54]) ?_;rw [Tryz.ntmps54]
 repeat' (first|omega|(first|apply yaa|(refine yac.intro (id:=1) [[5,6],[4],[4],[],[]] [[],[0],[0],[],[]] (by decide+kernel) mixed ?_)|(refine yac.introT (id:=1) (ytt) (by decide+kernel) mixed ?_)|(refine yac.intro (id:=2) [[10],[10],[8,9],[],[],[],[],[],[],[],[],[],[],[]] [[],[],[0,1],[],[],[],[],[],[],[],[],[],[],[]] (by decide+kernel) mixed ?_)|(refine yac.introT (id:=2) (ytu) (by decide+kernel) mixed ?_)|skip);simp only [go_sem,sevalprocAttr,yam,↓reduceIte,reduceCtorEq,ytt,ytu]|(refine ⟨yad.fn (r:=?_) rfl ?_ ?_⟩;rotate_left;assumption)|(refine ⟨yag.fn (r:=?_) rfl ?_ ?_⟩;rotate_left;assumption)|apply yab<;>(intro h_;(try simp only [h_]);revert h_)|apply And.intro|with_reducible intro h_|trivial|simp only [go_sem,la2];omega)
theorem ynj (e n:Int) (he:0<=e/\e<=1) (hn: -1000<=n/\n<=1000):Fn Tryz.prog 87 [I n, .rp (.lst [.bool false,tmA [(e,1)]]) 0] (plA false [(e*n,1)]):=by
 have hL:=yni [(e,1)] (by simp)
 have hC:=yts [(e,1)] e (yty e) (by simp)
 have c1:cfL [(e,(1:Int))] e=1:=by simp [cfL]
 rw [c1] at hC
 rw [show ([(e,(1:Int))].getD 0 (0,0)).1=e from rfl] at hL
 have hP:=yza n hn
 have hen: -1000<=e*n/\e*n<=1000:=by
  rcases (show e=0\/e=1 by omega) with rfl|rfl<;>omega
 have hT:=yjz 1 (e*n) (by decide) (by omega)
 rw [show trm 1 (e*n)=[(e*n,1)] from if_neg (by decide)] at hT
 have hen1: -9223372036854775808<=e*n:=by omega
 have hen2:e*n<=9223372036854775807:=by omega
 refine Fn.introL [.cell 3 47] Tryz.func87 rfl rfl (by decide) (by simp [Tryz.ntmps87]) ?_;rw [Tryz.ntmps87]
 repeat' (first|omega|(first|apply yaa|(refine yac.intro (id:=1) ytv ytw (by decide+kernel) mixed ?_)|skip);simp only [go_sem,sevalprocAttr,yam,↓reduceIte,reduceCtorEq,ytv,ytw]|(refine ⟨yad.fn (r:=?_) rfl ?_ ?_⟩;rotate_left;assumption)|(refine ⟨yag.fn (r:=?_) rfl ?_ ?_⟩;rotate_left;assumption)|apply yab<;>(intro h_;(try simp only [h_]);revert h_)|apply And.intro|with_reducible intro h_|trivial|simp only [go_sem,la2];omega)
 all_goals exact LeA.refl _
end Go.Proofs.YtbblgobamoabkaaGreatDoor
