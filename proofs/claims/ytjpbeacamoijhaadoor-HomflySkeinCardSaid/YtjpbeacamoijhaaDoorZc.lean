/- Layer 13: sums are small; terms. -/
import Derived.Test.YtjpbeacamoijhaaDoorZb
namespace Go.Proofs.YtjpbeacamoijhaaDoor
open Go Go.RowKit
set_option maxRecDepth 100000
set_option maxHeartbeats 8000000
set_option linter.unusedVariables false
set_option linter.unusedSimpArgs false
def yy6:List (List Nat):=[[9,10,11,13,14,15],[9,10,11,13,14,15],[7,8,13,14,15],[7,8,13,14,15],[7,8,13,14,15],[13,14,15],[7,8,9,10,11,12,4],[7,8,9,10,11,12,4],[7,8,9,10,11,12,4],[13,14,15],[]]
def yy7:List (List Nat):=[[],[],[0,1],[0,1],[0,1],[],[0,1,2,3,4,5],[0,1,2,3,4,5],[0,1,2,3,4,5],[6,7,8],[]]
def bvC:List (Int×Int)->List AV
 |[]=>[]
 |t::r=>I (bvA t.1)::I (bvZ t.1)::I t.2::bvC r
theorem ybt: ∀p:List (Int×Int),(bvC p).length=3*p.length
 |[]=>rfl
 |t::r=>by simp only [bvC,List.length_cons,ybt r];omega
theorem yn6: ∀p q:List (Int×Int),bvC (p++q)=bvC p++bvC q
 |[],_=>rfl
 |t::r,q=>by simp only [List.cons_append,bvC,yn6 r q]
theorem ye4: ∀(p:List (Int×Int)) (i:Nat),i<p.length->(bvC p).getD (i*3) .any=I (bvA (p.getD i (0,0)).1)/\(bvC p).getD (i*3+1) .any=I (bvZ (p.getD i (0,0)).1)/\(bvC p).getD (i*3+2) .any=I (p.getD i (0,0)).2
 |[],i,h=>by simp at h
 |t::r,0,_=>⟨rfl,rfl,rfl⟩
 |t::r,i+1,h=>by
  have ih:=ye4 r i (by simpa using h)
  simp only [bvC]
  rw [show (i+1)*3=i*3+1+1+1 by omega,show i*3+1+1+1+1=i*3+1+1+1+1 from rfl,show i*3+1+1+1+2=i*3+2+1+1+1 by omega]
  simp only [List.getD_cons_succ]
  exact ih
theorem yap (H:Hp): ∀p:List (Int×Int),(bvC p).all (s3 H)=true
 |[]=>rfl
 |t::r=>by simp only [bvC,List.all_cons,yap H r,Bool.and_true];rfl
abbrev bvT (p:List (Int×Int)):AV:= .ro 3 p.length (.lst (bvC p))
abbrev bvP (b:Bool) (p:List (Int×Int)):AV:= .agg [.bool b,bvT p]
theorem ytf (h l:Int) (hh: -4611686018427387904<=h/\h<=4611686018427387904) (hl:0<=l/\l<=4611686018427387904) (hv: -1125899906842624<=h*33554432+l/\h*33554432+l<=1125899906842624):Fn Tryd.prog 59 [.agg [I h,I l]] (.tup [I (h*33554432+l), .bool true]):=by
 have hla:=yy5 l (by unfold InI;omega)
 obtain ⟨g,hg⟩: ∃g,g=h+l/33554432:=⟨_,rfl⟩
 obtain ⟨r,hr⟩: ∃r,r=l % 33554432:=⟨_,rfl⟩
 rw [←hr] at hla
 have hS:g*33554432+r=h*33554432+l:=by omega
 have hgb: -67108864<=g/\g<=67108864:=by omega
 have h1:=yb4 g 67108864 (by decide) (by decide)
 have h2:=yb4 (h*33554432+l) 1125899906842624 (by decide) (by decide)
 rw [decide_eq_true (by omega),decide_eq_true (by omega),Bool.and_self] at h1 h2
 refine Fn.introL [.tmp 2, .tmp 3] Tryd.func59 rfl rfl (by decide) (by simp [Tryd.ntmps59]) ?_;rw [Tryd.ntmps59]
 have eg:h+l/2^25=g:=by rw [hg];rfl
 have eg2:h+l/33554432=g:=hg.symm
 have eS:g*2^25+r=h*33554432+l:=by rw [←hS];rfl
 repeat' (first|omega|(first|apply yaa|(refine yaf.intro (id:=1) yy6 yy7 (by decide+kernel) mixed ?_)|skip);simp only [go_sem,sevalprocAttr,hla,eg,eg2,↓reduceIte,reduceCtorEq,yy6,yy7]|apply yab<;>(intro h_;(try simp only [h_]);revert h_)|apply And.intro|with_reducible intro h_|trivial|simp only [go_sem,la2];omega)
 refine ⟨yad.fn rfl h1 ?_⟩
 repeat' (first|omega|(try apply yaa);simp only [go_sem,sevalprocAttr,eS,hS]|apply yab<;>(intro h_;(try simp only [h_]);revert h_)|apply And.intro|with_reducible intro h_|trivial|simp only [go_sem,la2];omega)
 refine ⟨yad.fn rfl h2 ?_⟩
 repeat' (first|omega|(try apply yaa);simp only [go_sem,sevalprocAttr]|apply yab<;>(intro h_;(try simp only [h_]);revert h_)|apply And.intro|with_reducible intro h_|trivial|simp only [go_sem,la2];omega)
 all_goals exact LeA.refl _
theorem yl3 (c a z:Int) (hc:c≠0) (hcb: -1125899906842624<=c/\c<=1125899906842624) (ha: -1048576<=a/\a<=1048576) (hz: -1048576<=z/\z<=1048576):Fn Tryd.prog 51 [I c,I a,I z] (bvP false [(bvE a z,c)]):=by
 have eA:bvA (bvE a z)=a:=ycu (by omega)
 have eZ:bvZ (bvE a z)=z:=ybk (by omega)
 have h1:=yb4 c 1125899906842624 (by decide) (by decide)
 have h2:=yb4 a 1048576 (by decide) (by decide)
 have h3:=yb4 z 1048576 (by decide) (by decide)
 rw [decide_eq_true (by omega),decide_eq_true (by omega),Bool.and_self] at h1 h2 h3
 have bc:(c==0)=false:=by rw [beq_eq_false_iff_ne];exact hc
 refine Fn.introL [.cell 6 33] Tryd.func51 rfl rfl (by decide) (by simp [Tryd.ntmps51]) ?_;rw [Tryd.ntmps51]
 repeat' (first|omega|(try apply yaa);simp only [go_sem,sevalprocAttr,bc]|(refine ⟨yad.fn (r:=?_) rfl ?_ ?_⟩;rotate_left;assumption)|(refine ⟨yan.fn (r:=?_) rfl ?_ ?_⟩;rotate_left;assumption)|apply yab<;>(intro h_;(try simp only [h_]);revert h_)|apply And.intro|with_reducible intro h_|trivial|simp only [go_sem,la2];omega)
 all_goals exact LeA.of (by show _=AV.agg [.bool false, .ro 3 1 (.lst [I (bvA (bvE a z)),I (bvZ (bvE a z)),I c])];rw [eA,eZ])
end Go.Proofs.YtjpbeacamoijhaaDoor
namespace Go.Proofs.YtjpbeacamoijhaaDoor
open Go Go.RowKit
set_option maxRecDepth 100000
set_option maxHeartbeats 8000000
set_option linter.unusedVariables false
set_option linter.unusedSimpArgs false
def bvSh (d:Int) (p:List (Int×Int)):List (Int×Int):=p.map fun t=>(t.1+d,t.2)
theorem y2v (d:Int) (p q:List (Int×Int)):bvSh d (p++q)=bvSh d p++bvSh d q:=by simp [bvSh]
theorem yl4 (d:Int) (p:List (Int×Int)):(bvSh d p).length=p.length:=by simp [bvSh]
theorem y9r {e a z:Int} (h: -4194304<=bvZ e+z/\bvZ e+z<=4194304):bvA (e+bvE a z)=bvA e+a/\bvZ (e+bvE a z)=bvZ e+z:=by
 have h1:=yn5 (bvA e) (bvZ e) a z
 rw [ycf] at h1
 rw [h1,ycu (by omega),ybk (by omega)]
 exact ⟨rfl,rfl⟩
theorem yn7 {f:AV->AV} (hf: ∀x:Int,f (I x)=I x): ∀p:List (Int×Int),(bvC p).map f=bvC p
 |[]=>rfl
 |t::r=>by simp only [bvC,List.map_cons,hf,yn7 hf r]
theorem yum (id:Nat) (p:List (Int×Int)):(bvC p).map (cutV id)=bvC p:=yn7 (fun _=>rfl) p
theorem yro (H:Hp) (n:Nat) (p:List (Int×Int)):(bvC p).map (snap H (n+1))=bvC p:=yn7 (fun _=>rfl) p
theorem yun {x:AV}: ∀{p:List (Int×Int)},x∈bvC p-> ∃n,x=I n
 |[],h=>by cases h
 |t::r,h=>by
  simp only [bvC,List.mem_cons] at h
  rcases h with h|h|h|h
  ·exact ⟨_,h⟩
  ·exact ⟨_,h⟩
  ·exact ⟨_,h⟩
  ·exact yun h
theorem yjx (H:Hp) (n:Nat) {p:List (Int×Int)} {x:AV} (h:x∈bvC p):yay H (n+1) x:=by
 obtain ⟨m,rfl⟩:=yun h
 trivial
theorem ycy (p:List (Int×Int)) (a z:Int) (hp:p.length<=100000) (ha: -2097152<=a/\a<=2097152) (hz: -2097152<=z/\z<=2097152) (hb: ∀t∈p,(-1048576<=bvA t.1+a/\bvA t.1+a<=1048576)/\ -1048576<=bvZ t.1+z/\bvZ t.1+z<=1048576):
  Fn Tryd.prog 11 [bvP false p,I a,I z] (bvP false (bvSh (bvE a z) p)):=by
 have hc:=ybt p
 by_cases h0:p.length=0
 ·obtain rfl:p=[]:=List.eq_nil_of_length_eq_zero h0
  refine Fn.introL [.cell 6 33] Tryd.func11 rfl rfl (by decide) (by simp [Tryd.ntmps11]) ?_;rw [Tryd.ntmps11]
  repeat' (first|omega|(try apply yaa);simp only [go_sem,sevalprocAttr]|apply yab<;>(intro h_;(try simp only [h_]);revert h_)|apply And.intro|with_reducible intro h_|trivial|simp only [go_sem,la2];omega)
  all_goals exact LeA.refl _
 have b0:((p.length:Int)==0)=false:=by rw [beq_eq_false_iff_ne];omega
 have h1:=yb4 a 2097152 (by decide) (by decide)
 have h2:=yb4 z 2097152 (by decide) (by decide)
 rw [decide_eq_true (by omega),decide_eq_true (by omega),Bool.and_self] at h1 h2
 refine Fn.introL [.cell 6 33] Tryd.func11 rfl rfl (by decide) (by simp [Tryd.ntmps11]) ?_;rw [Tryd.ntmps11]
 repeat' (first|omega|(try apply yaa);simp only [go_sem,sevalprocAttr,b0,hc]|(refine ⟨yad.fn (r:=?_) rfl ?_ ?_⟩;rotate_left;assumption)|(refine ⟨yan.fn (r:=?_) rfl ?_ ?_⟩;rotate_left;assumption)|apply yab<;>(intro h_;(try simp only [h_]);revert h_)|apply And.intro|with_reducible intro h_|trivial|simp only [go_sem,la2];omega)
 refine yat.intro (fun n fr H=> ∃k:Nat,k<=p.length/\n=p.length-k/\fr=[(36,I k),(35,I p.length),(34,bvT p),(7, .ptr 3 0),(6, .ptr 1 0),(1,I a),(2,I z)]/\
  H=[(3, .cells 33 (.lst [.bool false, .sl 3 2 0 k])),(2, .cells 56 (.lst (bvC (bvSh (bvE a z) (p.take k))))),(1, .cells 33 (.lst [.bool false, .nils]))]) ?_ ?_
 ·refine ⟨_,_,_,Wk.sub ?_ ?_,0,by omega,rfl,rfl,rfl⟩
  ·simp only [go_sem,sevalprocAttr,yap]
  ·simp only [go_sem,sevalprocAttr,yap,List.take_zero,bvSh,List.map_nil,bvC]
   all_goals rfl
 rintro n fr H ⟨k,hk,rfl,rfl,rfl⟩
 have hl:(bvC (bvSh (bvE a z) (p.take k))).length=3*k:=by rw [ybt,yl4,List.length_take];omega
 by_cases hkl:k<p.length
 ·have bk:decide ((k:Int)<p.length)=true:=by simp;omega
  obtain ⟨g0,g1,g2⟩:=ye4 p k hkl
  have ht:=hb (p.getD k (0,0)) (by rw [List.getD_eq_getElem?_getD,List.getElem?_eq_getElem hkl];exact List.getElem_mem _)
  have et:p.take (k+1)=p.take k++[p.getD k (0,0)]:=by rw [List.take_succ_eq_append_getElem hkl];simp [hkl]
  have es:bvC (bvSh (bvE a z) (p.take (k+1)))=bvC (bvSh (bvE a z) (p.take k))++[I (bvA (p.getD k (0,0)).1+a),I (bvZ (p.getD k (0,0)).1+z),I (p.getD k (0,0)).2]:=by
   rw [et,y2v,yn6]
   congr 1
   have hs:=y9r (e:=(p.getD k (0,0)).1) (a:=a) (z:=z) (by omega)
   show [I (bvA ((p.getD k (0,0)).1+bvE a z)),I (bvZ ((p.getD k (0,0)).1+bvE a z)),I (p.getD k (0,0)).2]=_
   rw [hs.1,hs.2]
  generalize bvA (p.getD k (0,0)).1=x at*
  generalize bvZ (p.getD k (0,0)).1=y at*
  generalize (p.getD k (0,0)).2=v at*
  have w1:=yb4 (x+a) 1048576 (by decide) (by decide)
  have w2:=yb4 (y+z) 1048576 (by decide) (by decide)
  rw [decide_eq_true (by omega),decide_eq_true (by omega),Bool.and_self] at w1 w2
  clear h1 h2
  repeat' (first|omega|(try apply yaa);simp only [go_sem,sevalprocAttr,bk,hc,g0,g1,g2,hl]|(refine ⟨yad.fn (r:=?_) rfl ?_ ?_⟩;rotate_left;assumption)|(refine ⟨yan.fn (r:=?_) rfl ?_ ?_⟩;rotate_left;assumption)|apply yab<;>(intro h_;(try simp only [h_]);revert h_)|apply And.intro|with_reducible intro h_|trivial|simp only [go_sem,la2];omega)
  refine ⟨_,_,_,?_,Wk.sub ?_ ?_,k+1,by omega,rfl,rfl,rfl⟩
  ·omega
  ·simp only [go_sem,sevalprocAttr,yap]
  ·simp only [go_sem,sevalprocAttr,es,yum,yap,List.all_append]
 ·obtain rfl:k=p.length:=by omega
  have bk:decide ((p.length:Int)<p.length)=false:=by simp
  rw [List.take_length] at hl⊢
  have hsl:=yl4 (bvE a z) p
  clear h1 h2
  repeat' (first|omega|(try apply yaa);simp only [go_sem,sevalprocAttr,bk,hl]|apply yab<;>(intro h_;(try simp only [h_]);revert h_)|apply And.intro|with_reducible intro h_|trivial|simp only [go_sem,la2];omega)
  all_goals first
   |exact yjx _ _ ‹_›
   |exact LeA.of (by rw [yro,List.take_of_length_le (by omega),←hsl])
end Go.Proofs.YtjpbeacamoijhaaDoor
