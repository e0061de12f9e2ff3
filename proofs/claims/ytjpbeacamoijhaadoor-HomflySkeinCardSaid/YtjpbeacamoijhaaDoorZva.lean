/- Layer 13: the text of a polynomial in two variables, as a contract. -/
import Derived.Test.YtjpbeacamoijhaaDoorBt2
import Derived.Test.YtjpbeacamoijhaaDoorZc
import Derived.Test.YtjpbeacamoijhaaDoorZa
import Derived.Test.YtjpbeacamoijhaaDoorZy
import Derived.Test.YtjpbeacamoijhaaDoorZu
import Derived.Test.YtjpbeacamoijhaaDoorPl
set_option linter.unusedSimpArgs false
set_option linter.unusedVariables false
namespace Go.Proofs.YtjpbeacamoijhaaDoor
open Go Go.RowKit
set_option maxRecDepth 100000
set_option maxHeartbeats 4000000
def cok2 (p:List (Int×Int)):Prop:= ∀k,k<p.length->(-4611686018427387904<=bvA (p.getD k (0,0)).1/\bvA (p.getD k (0,0)).1<=4611686018427387904)/\(-4611686018427387904<=bvZ (p.getD k (0,0)).1/\bvZ (p.getD k (0,0)).1<=4611686018427387904)/\ -4611686018427387904<=(p.getD k (0,0)).2/\(p.getD k (0,0)).2<=4611686018427387904
theorem ypj (p:List (Int×Int)) (n1 n2:ByteArray) (hp0:0<p.length) (hr:cok2 p) (hn1:n1.size<=1000) (hn2:n2.size<=1000) (hpl:p.length<=1000000):
  Fn Tryd.prog 17 [bvP false p, .str n1, .str n2] (.str ⟨(yds n1.data.toList n2.data.toList p p.length).toArray⟩):=by
 refine ⟨⟨_,Tryd.func17,rfl,by decide⟩,fun w Mx vs hMx hl hv=>?_⟩
 match vs,hl with
 |[v0,v1,v2],_=>
  have h0:=hv 0 v0 _ rfl rfl
  have h1:=(hv 1 v1 _ rfl rfl).str_inv
  have h2:=(hv 2 v2 _ rfl rfl).str_inv
  subst h1 h2
  obtain ⟨us,rfl,hul,hu⟩:=h0.agg_inv
  match us,hul with
  |[u0,u1],_=>
   have k0:=(hu 0 u0 _ rfl rfl).bool_inv
   have k1:=hu 1 u1 _ rfl rfl
   subst k0
   cases k1 with
   |ro _ _ _ ad cap x hlen hcap _ hcell hx=>
    obtain ⟨a,rfl,hb,_,hj⟩:=hcell hp0
    have hcl:(Cs.lst (bvC p)).len=3*p.length:=ybt p
    refine (ywx p n1 n2 a cap w hp0 hMx.1 hb (fun k hk=>?_) hr hn1 hn2 hpl).mono ?_
    ·have e0:=hx (k*3) (by omega)
     have e1:=hx (k*3+1) (by omega)
     have e2:=hx (k*3+2) (by omega)
     obtain ⟨g0,g1,g2⟩:=ye4 p k hk
     rw [show (Cs.lst (bvC p)).get (k*3)=(bvC p).getD (k*3) .any from rfl,g0] at e0
     rw [show (Cs.lst (bvC p)).get (k*3+1)=(bvC p).getD (k*3+1) .any from rfl,g1] at e1
     rw [show (Cs.lst (bvC p)).get (k*3+2)=(bvC p).getD (k*3+2) .any from rfl,g2] at e2
     refine ⟨?_,?_,?_⟩
     ·rw [hj _ (by omega),e0.int_inv]
     ·rw [hj _ (by omega),e1.int_inv]
     ·rw [hj _ (by omega),e2.int_inv]
    ·rintro e w' ⟨rfl,hb'⟩
     exact ⟨_,rfl,hb', .str _⟩
end Go.Proofs.YtjpbeacamoijhaaDoor
set_option linter.unusedSimpArgs false
set_option linter.unusedVariables false
namespace Go.Proofs.YtjpbeacamoijhaaDoor
open Go Go.RowKit
theorem Fn.args {P:Program} {f:Nat} {xs ys:List AV} {r:AV} (h:Fn P f ys r) (hl:LeL xs ys):Fn P f xs r:=
 ⟨h.1,fun w Mx vs hm hlen hv=>h.2 w Mx vs hm (hlen.trans hl.len) fun i v y hi hy=>by
  obtain ⟨x,hx⟩: ∃x,xs[i]?=some x:=by
   have:i<ys.length:=(List.getElem?_eq_some_iff.1 hy).1
   exact ⟨_,List.getElem?_eq_getElem (by rw [hl.len];exact this)⟩
  exact (hl.get i x y hx hy).out _ _ _ _ v (hv i v x hi hx)⟩
end Go.Proofs.YtjpbeacamoijhaaDoor
namespace Go.Proofs.YtjpbeacamoijhaaDoor
open Go Go.RowKit
set_option maxRecDepth 100000
set_option maxHeartbeats 8000000
set_option linter.unusedVariables false
set_option linter.unusedSimpArgs false
theorem ysp:Fn Tryd.prog 16 [] (dgA [1,1,1] [9,4,7,10,1,8,11,2,5,0,3,6] ((0:Nat):Int)):=by
 refine Fn.introL [.cell 0 24] Tryd.func16 rfl rfl (by decide) (by simp [Tryd.ntmps16]) ?_;rw [Tryd.ntmps16]
 repeat' (first|omega|(try apply yaa);simp only [go_sem,sevalprocAttr]|apply yab<;>(intro h_;(try simp only [h_]);revert h_)|apply And.intro|with_reducible intro h_|trivial|simp only [go_sem,la2];omega)
 all_goals exact LeA.refl _
theorem y6x:Fn Tryd.prog 17 [bvP false [(bvE 2 0,2),(bvE 2 2,1),(bvE 4 0,-1)], .str ⟨#[97]⟩, .str ⟨#[122]⟩] (.str ⟨#[50,97,94,50,43,97,94,50,122,94,50,45,97,94,52]⟩):=by
 have h:=ypj [(bvE 2 0,2),(bvE 2 2,1),(bvE 4 0,-1)] ⟨#[97]⟩ ⟨#[122]⟩ (by decide) (fun k hk=>by
  match k,hk with
  |0,_=>decide
  |1,_=>decide
  |2,_=>decide) (by decide) (by decide) (by decide)
 rw [show (yds (⟨#[97]⟩:ByteArray).data.toList (⟨#[122]⟩:ByteArray).data.toList [(bvE 2 0,2),(bvE 2 2,1),(bvE 4 0,-1)] [(bvE 2 0,(2:Int)),(bvE 2 2,1),(bvE 4 0,-1)].length)=[50,97,94,50,43,97,94,50,122,94,50,45,97,94,52] by decide+kernel] at h
 exact h
theorem y6y:Fn Tryd.prog 17 [bvP false [(bvE (-1) (-1),1),(bvE 1 (-1),-1)], .str ⟨#[97]⟩, .str ⟨#[122]⟩] (.str ⟨#[97,94,45,49,122,94,45,49,45,97,122,94,45,49]⟩):=by
 have h:=ypj [(bvE (-1) (-1),1),(bvE 1 (-1),-1)] ⟨#[97]⟩ ⟨#[122]⟩ (by decide) (fun k hk=>by
  match k,hk with
  |0,_=>decide
  |1,_=>decide) (by decide) (by decide) (by decide)
 rw [show (yds (⟨#[97]⟩:ByteArray).data.toList (⟨#[122]⟩:ByteArray).data.toList [(bvE (-1) (-1),1),(bvE 1 (-1),-1)] [(bvE (-1) (-1),(1:Int)),(bvE 1 (-1),-1)].length)=[97,94,45,49,122,94,45,49,45,97,122,94,45,49] by decide+kernel] at h
 exact h
theorem yno:Fn Tryd.prog 5 [] (.bool true):=by
 have h1:=ysp
 have h2:=yme ⟨by decide+kernel,by decide,by decide,by decide⟩ y6u
 have h3:Fn Tryd.prog 15 [.agg [.nils, .nils,I 2]] (.tup [bvP false [(bvE (-1) (-1),1),(bvE 1 (-1),-1)],I 0]):=
  Fn.args (yme ⟨by decide+kernel,by decide,by decide,by decide⟩ y8l) (.cons (LeA.aggL (.cons (LeA.nils (by decide) rfl) (.cons (LeA.nils (by decide) rfl) (.cons (LeA.refl _) .nil)))) .nil)
 have h4:=y6x
 have h5:=y6y
 refine Fn.introL [.tmp 0] Tryd.func5 rfl rfl (by decide) (by simp [Tryd.ntmps5]) ?_;rw [Tryd.ntmps5]
 repeat' (first|omega|(try apply yaa);simp only [go_sem,sevalprocAttr,yap]|(refine ⟨yad.fn (r:=?_) rfl ?_ ?_⟩;rotate_left;assumption)|(refine ⟨yan.fn (r:=?_) rfl ?_ ?_⟩;rotate_left;assumption)|apply yab<;>(intro h_;(try simp only [h_]);revert h_)|apply And.intro|with_reducible intro h_|trivial|simp only [go_sem,la2];omega)
 all_goals exact LeA.refl _
def smB (s m:List Int) (L:Int):Bool:=(decide (6<s.length)&&decide (s.length<=14))||decide (300<m.length)||decide (80<s.length)||(decide (8<L)&&decide (L<=64))
theorem ysq (s m:List Int) (L:Int):Fn Tryd.prog 6 [dgA s m L] (I (if smB s m L then 0 else 1)):=by
 obtain ⟨b1,e1⟩: ∃b,decide ((6:Int)<s.length)=b:=⟨_,rfl⟩
 obtain ⟨b2,e2⟩: ∃b,decide ((s.length:Int)<=14)=b:=⟨_,rfl⟩
 obtain ⟨b3,e3⟩: ∃b,decide ((300:Int)<m.length)=b:=⟨_,rfl⟩
 obtain ⟨b4,e4⟩: ∃b,decide ((80:Int)<s.length)=b:=⟨_,rfl⟩
 obtain ⟨b5,e5⟩: ∃b,decide (8<L)=b:=⟨_,rfl⟩
 obtain ⟨b6,e6⟩: ∃b,decide (L<=64)=b:=⟨_,rfl⟩
 have f1:decide (6<s.length)=b1:=by rw [←e1];exact decide_eq_decide.2 (by omega)
 have f2:decide (s.length<=14)=b2:=by rw [←e2];exact decide_eq_decide.2 (by omega)
 have f3:decide (300<m.length)=b3:=by rw [←e3];exact decide_eq_decide.2 (by omega)
 have f4:decide (80<s.length)=b4:=by rw [←e4];exact decide_eq_decide.2 (by omega)
 unfold smB
 rw [f1,f2,f3,f4,e5,e6]
 clear f1 f2 f3 f4
 cases b1<;>cases b2<;>cases b3<;>cases b4<;>cases b5<;>cases b6
 all_goals
  refine Fn.intro [.tmp 2] Tryd.func6 rfl rfl (by decide) (by simp [Tryd.ntmps6]) ?_;rw [Tryd.ntmps6]
  repeat' (first|omega|(try apply yaa);simp only [go_sem,sevalprocAttr,e1,e2,e3,e4,e5,e6]|apply yab<;>(intro h_;(try simp only [h_]);revert h_)|apply And.intro|with_reducible intro h_|trivial|simp only [go_sem,la2];omega)
theorem yg6 {s m:List Int} {L:Nat} (h:yc8 s m L) {p:List (Int×Int)} (hp:yaw p (Hs.hfE s m L)):Fn Tryd.prog 10 [dgA s m L] (.tup [bvP false p, .bool true]):=by
 have h1:=yme h hp
 refine Fn.introL [.cell 2 33, .tmp 3] Tryd.func10 rfl rfl (by decide) (by simp [Tryd.ntmps10]) ?_;rw [Tryd.ntmps10]
 repeat' (first|omega|(try apply yaa);simp only [go_sem,sevalprocAttr,yap]|(refine ⟨yad.fn (r:=?_) rfl ?_ ?_⟩;rotate_left;assumption)|(refine ⟨yan.fn (r:=?_) rfl ?_ ?_⟩;rotate_left;assumption)|apply yab<;>(intro h_;(try simp only [h_]);revert h_)|apply And.intro|with_reducible intro h_|trivial|simp only [go_sem,la2];omega)
 all_goals exact LeA.refl _
end Go.Proofs.YtjpbeacamoijhaaDoor
namespace Go.Proofs.YtjpbeacamoijhaaDoor
open Go Go.RowKit
set_option linter.unusedVariables false
set_option linter.unusedSimpArgs false
theorem ypk {s m:List Int} {l:Nat} (hg:smB s m l=false) (hv:yai s m l=true) (hn:s.length<=6) (h0:0<s.length\/0<l):yc8 s m l:=by
 have v1:=yal hv
 have hl1:=v1.l64
 simp only [smB,Bool.or_eq_false_iff,Bool.and_eq_false_iff,decide_eq_false_iff_not] at hg
 exact ⟨hv,by omega,by omega,h0⟩
theorem yh9 {p:List (Int×Int)} {f:Int->Int} (h:yaw p f) (d:Int):yaw (bvSh d p) (fun e=>f (e-d)):=h.shift d
end Go.Proofs.YtjpbeacamoijhaaDoor
namespace Go.Proofs.YtjpbeacamoijhaaDoor
open Go Go.RowKit
set_option maxRecDepth 100000
set_option maxHeartbeats 4000000
set_option linter.unusedVariables false
set_option linter.unusedSimpArgs false
def y0r:List (List Nat):=[[17,20,21,22,23],[16,20,21,22,23],[20,21,22,23],[20,21,22,23],[16,17,18,19,21],[16,17,18,19,20],[16,17,18,19],[16,17,18,19],[]]
theorem ysr:eq3 Tryd.prog 56=true:=by decide+kernel
theorem y6z (p:List (Int×Int)) (hl:p.length<=1000000):Fn Tryd.prog 28 [bvT p,bvT p] (.bool true):=by
 have hlen:=ybt p
 have b0:((p.length:Int)!=p.length)=false:=by simp
 refine Fn.intro [.tmp 4] Tryd.func28 rfl rfl (by decide) (by simp [Tryd.ntmps28]) ?_;rw [Tryd.ntmps28]
 repeat' (first|omega|(try apply yaa);simp only [go_sem,sevalprocAttr,b0,yap]|apply yab<;>(intro h_;(try simp only [h_]);revert h_)|apply And.intro|with_reducible intro h_|trivial|simp only [go_sem,la2];omega)
 refine yat.intro (fun n fr H=> ∃k:Nat,k<=p.length/\n=p.length-k/\fr=[(13,I k),(12,I p.length),(1,bvT p),(0,bvT p)]/\H=[]) ?_ ?_
 ·refine ⟨_,_,_,?_,0,by omega,rfl,rfl,rfl⟩
  refine Wk.sub ?_ ?_<;>(simp only [go_sem,sevalprocAttr,yap])
 rintro n fr H ⟨k,hk,rfl,rfl,rfl⟩
 by_cases hkl:k<p.length
 ·obtain ⟨g0,g1,g2⟩:=ye4 p k hkl
  have bk:decide ((k:Int)<p.length)=true:=by simp;omega
  generalize bvA (p.getD k (0,0)).1=x at*
  generalize bvZ (p.getD k (0,0)).1=y at*
  generalize (p.getD k (0,0)).2=v at*
  repeat' (first|omega|(first|apply yaa|(refine yaf.intro (id:=6) y0r [[],[0],[],[],[0,1,2,3],[0,1,2,3,4],[0,1,2,3],[0,1,2,3],[]] (by decide+kernel) mixed ?_)|skip);simp only [go_sem,sevalprocAttr,bk,g0,g1,g2,hlen,ysr,↓reduceIte,reduceCtorEq,y0r]|apply yab<;>(intro h_;(try simp only [h_]);revert h_)|apply And.intro|with_reducible intro h_|trivial|simp only [go_sem,la2];omega)
  all_goals (first|exact ysr|skip)
  all_goals
   refine ⟨_,_,_,?_,?_,⟨k+1,by omega,rfl,rfl,rfl⟩⟩
   ·omega
   ·refine Wk.sub ?_ ?_<;>(simp only [go_sem,sevalprocAttr,yap])
 ·obtain rfl:k=p.length:=by omega
  have bk:decide ((p.length:Int)<p.length)=false:=by simp
  repeat' (first|omega|(try apply yaa);simp only [go_sem,sevalprocAttr,bk]|apply yab<;>(intro h_;(try simp only [h_]);revert h_)|apply And.intro|with_reducible intro h_|trivial|simp only [go_sem,la2];omega)
theorem ypl (p:List (Int×Int)) (hl:p.length<=1000000):Fn Tryd.prog 13 [bvP false p,bvP false p] (.bool true):=by
 have hS:=y6z p hl
 refine Fn.intro [.tmp 4] Tryd.func13 rfl rfl (by decide) (by simp [Tryd.ntmps13]) ?_;rw [Tryd.ntmps13]
 repeat' (first|omega|(try apply yaa);simp only [go_sem,sevalprocAttr,yap]|apply yab<;>(intro h_;(try simp only [h_]);revert h_)|apply And.intro|with_reducible intro h_|trivial|simp only [go_sem,la2];omega)
 refine ⟨yad.fn rfl hS ?_⟩
 repeat' (first|omega|(try apply yaa);simp only [go_sem,sevalprocAttr]|apply yab<;>(intro h_;(try simp only [h_]);revert h_)|apply And.intro|with_reducible intro h_|trivial|simp only [go_sem,la2];omega)
end Go.Proofs.YtjpbeacamoijhaaDoor
set_option linter.unusedSimpArgs false
set_option linter.unusedVariables false
namespace Go.Proofs.YtjpbeacamoijhaaDoor
open Go Go.RowKit
set_option maxRecDepth 100000
set_option maxHeartbeats 8000000
theorem y3g (h b:Int) (h0:0<=h) (h1:h<=100000):Fn Tryd.prog 55 [I h,I b] (I (ybb h b)):=by
 have e1:h.tmod 4=h % 4:=Int.tmod_eq_emod_of_nonneg h0
 have e2: -4<b.tmod 4/\b.tmod 4<4:=⟨Int.lt_tmod_of_pos b (by decide),Int.tmod_lt_of_pos b (by decide)⟩
 have e4:(h % 4+b.tmod 4).tmod 4=if 0<=h % 4+b.tmod 4 then (h % 4+b.tmod 4)% 4 else h % 4+b.tmod 4:=by
  split
  ·exact Int.tmod_eq_emod_of_nonneg (by omega)
  ·rename_i hn
   have:(h % 4+b.tmod 4)= -(-(h % 4+b.tmod 4)):=by omega
   rw [this,Int.neg_tmod,Int.tmod_eq_emod_of_nonneg (by omega)]
   omega
 have e3:((h % 4+b.tmod 4).tmod 4+4).tmod 4=(h % 4+b.tmod 4+4)% 4:=by
  rw [e4,Int.tmod_eq_emod_of_nonneg (by split<;>omega)]
  split<;>omega
 unfold ybb
 refine Fn.intro [.tmp 4] Tryd.func55 rfl rfl (by decide) (by simp [Tryd.ntmps55]) ?_;rw [Tryd.ntmps55]
 repeat' (first|omega|(try apply yaa);simp only [go_sem,sevalprocAttr]|apply yab<;>(intro h_;(try simp only [h_]);revert h_)|apply And.intro|with_reducible intro h_|trivial|simp only [go_sem,la2];omega)
 all_goals try simp only [e1,e3]
 all_goals try (rw [e4];split<;>omega)
 all_goals try omega
theorem yvh (s:List Int) (h:Int) (h0:0<=h) (h1:h<4*s.length) (hs:s.length<=1000):Fn Tryd.prog 18 [roI s,I h] (.bool (outB s h)):=by
 have e1:h.tmod 4=h % 4:=Int.tmod_eq_emod_of_nonneg h0
 have e2:h.tdiv 4=h/4:=Int.tdiv_eq_ediv_of_nonneg h0
 refine Fn.intro [.tmp 4] Tryd.func18 rfl rfl (by decide) (by simp [Tryd.ntmps18]) ?_;rw [Tryd.ntmps18]
 repeat' (first|omega|(try apply yaa);simp only [go_sem,sevalprocAttr]|apply yab<;>(intro h_;(try simp only [h_]);revert h_)|apply And.intro|with_reducible intro h_|trivial|simp only [go_sem,la2];omega)
 all_goals try simp only [e1,e2] at*
 all_goals try omega
 all_goals simp_all [outB]
theorem yss (m:List Int) (n h:Nat) (hn:n<=1000) (hml:m.length=4*n) (hm: ∀i,i<m.length->0<=m.getD i 0/\m.getD i 0<4*n) (hh:h<m.length):Fn Tryd.prog 40 [roI m,I h] (roI (orbF (yaj m) m.length h)):=by
 have hnx: ∀g:Nat,g<m.length->Fn Tryd.prog 55 [I (m.getD g 0),I (-1)] (I (yaj m g)):=fun g hg=>by
  have:=hm g hg
  exact y3g _ _ (by omega) (by omega)
 have hrg: ∀g:Nat,g<m.length->0<=yaj m g/\yaj m g<4*n:=fun g hg=>yfx (hm g hg).1 (hm g hg).2
 have hbig: ∀g:Nat,g<m.length->(g:Int)<m.length:=fun g hg=>by omega
 have hh':=hnx h hh
 refine Fn.intro [.tmp 4] Tryd.func40 rfl rfl (by decide) (by simp [Tryd.ntmps40]) ?_;rw [Tryd.ntmps40]
 repeat' (first|omega|(try apply yaa);simp only [go_sem,sevalprocAttr]|apply yab<;>(intro h_;(try simp only [h_]);revert h_)|apply And.intro|with_reducible intro h_|trivial|simp only [go_sem,la2];omega)
 refine ⟨yad.fn rfl hh' ?_⟩
 repeat' (first|omega|(try apply yaa);simp only [go_sem,sevalprocAttr]|apply yab<;>(intro h_;(try simp only [h_]);revert h_)|apply And.intro|with_reducible intro h_|trivial|simp only [go_sem,la2];omega)
 refine yat.intro (fun k fr H=> ∃(acc:List Int) (g:Nat),g<m.length/\0<acc.length/\acc.length+k=m.length+2/\acc++orbG (yaj m) h (m.length+1-acc.length) g=orbF (yaj m) m.length h/\fr=[(6,I g),(5, .sl 1 0 0 acc.length),(1,I h),(0,roI m)]/\H=[(0, .cells 3 (.ints acc))]) ?_ ?_
 ·have h2:=hrg h hh
  refine ⟨m.length+1,_,_,?_,[(h:Int)],(yaj m h).toNat,by omega,by simp,by simp;omega,?_,rfl,rfl⟩
  ·refine Wk.sub ?_ ?_<;>simp only [go_sem,sevalprocAttr]
   all_goals omega
  ·rw [Int.toNat_of_nonneg h2.1];simp [orbF]
 rintro k fr H ⟨acc,g,hg,ha,hk,hacc,rfl,rfl⟩
 have hg':=hnx g hg
 have hr:=hrg g hg
 have key:((g:Int)=h\/m.length<acc.length)->acc=orbF (yaj m) m.length h:=fun hc=>by
  rw [←hacc]
  rcases hc with e|e
  ·have:orbG (yaj m) h (m.length+1-acc.length) g=[]:=by
    cases m.length+1-acc.length with
    |zero=>rfl
    |succ f=>simp [orbG,e]
   rw [this,List.append_nil]
  ·rw [show m.length+1-acc.length=0 by omega];simp [orbG]
 repeat' (first|omega|(try apply yaa);simp only [go_sem,sevalprocAttr]|apply yab<;>(intro h_;(try simp only [h_]);revert h_)|apply And.intro|with_reducible intro h_|trivial|simp only [go_sem,la2];omega)
 ·refine ⟨yad.fn rfl hg' ?_⟩
  repeat' (first|omega|(try apply yaa);simp only [go_sem,sevalprocAttr]|apply yab<;>(intro h_;(try simp only [h_]);revert h_)|apply And.intro|with_reducible intro h_|trivial|simp only [go_sem,la2];omega)
  refine ⟨k-1,_,_,?_,?_,⟨acc++[(g:Int)],(yaj m g).toNat,by omega,by simp,by simp;omega,?_,rfl,rfl⟩⟩
  ·omega
  ·refine Wk.sub ?_ ?_<;>simp only [go_sem,sevalprocAttr]
   all_goals omega
  ·rw [←hacc,Int.toNat_of_nonneg hr.1,show m.length+1-acc.length=(m.length+1-(acc++[(g:Int)]).length)+1 by simp;omega]
   rw [orbG,if_neg (by omega)];simp
 all_goals first
  |exact congrArg List.length (key (by omega))
  |(rw [List.take_length];exact key (by omega))
end Go.Proofs.YtjpbeacamoijhaaDoor
set_option linter.unusedSimpArgs false
set_option linter.unusedVariables false
namespace Go.Proofs.YtjpbeacamoijhaaDoor
open Go Go.RowKit
set_option maxRecDepth 100000
set_option maxHeartbeats 8000000
def ydm:List (List Nat):=[[38,39,40,41,42],[38,39,40,41,42],[36,37,39,8],[36,37,38,8],[36,37,8],[36,37,8],[36,37,8],[38,39,40,41,42],[]]
def ydn:List (List Nat):=[[44,47,48,49,50],[43,47,48,49,50],[47,48,49,50],[47,48,49,50],[43,44,45,46,48],[43,44,45,46,47],[43,44,45,46],[43,44,45,46],[],[]]
theorem yoj (m l:List Int): ∀h,(rlH m l h).length=l.length
 |0=>rfl
 |h+1=>by simp only [rlH,rl1,List.length_set];exact yoj m l h
theorem yok (m:List Int) (n:Nat): ∀k,(rlP m n k).length=n
 |0=>by simp [rlP]
 |k+1=>by simp only [rlP];rw [yoj,yok m n k]
theorem y0s (m:List Int) (n:Nat) (hn:n<=1000) (hm:ybu m n):Fn Tryd.prog 19 [roI m] (roI (rlP m n n)):=by
 obtain ⟨hml,hmr⟩:=hm
 have e0:(m.length:Int).tdiv 4=n:=by rw [yb9 (by omega)];omega
 refine Fn.intro [.tmp 2] Tryd.func19 rfl rfl (by decide) (by simp [Tryd.ntmps19]) ?_;rw [Tryd.ntmps19]
 repeat' (first|omega|(first|apply yaa|(refine yaf.intro (id:=13) ydm [[],[],[0,1],[0,1,2],[0,1],[0,1],[0,1],[2,3,4,5,6],[]] (by decide+kernel) mixed ?_)|(refine yaf.intro (id:=14) ydn [[],[0],[],[],[0,1,2,3],[0,1,2,3,4],[0,1,2,3],[0,1,2,3],[],[]] (by decide+kernel) mixed ?_)|skip);simp only [go_sem,sevalprocAttr,e0,↓reduceIte,reduceCtorEq,ydm,ydn]|apply yab<;>(intro h_;(try simp only [h_]);revert h_)|apply And.intro|with_reducible intro h_|trivial|simp only [go_sem,la2];omega)
 refine yat.intro (fun t fr H=> ∃k:Nat,k<=n/\t=n-k/\fr=[(5,I k),(4, .sl 1 0 0 n),(3,I n),(0,roI m)]/\H=[(0, .cells 3 (.ints ((List.range k).map (fun (i:Nat)=>(i:Int))++List.replicate (n-k) 0)))]) ?_ ?_
 ·refine ⟨_,_,_,?_,0,by omega,rfl,rfl,rfl⟩
  refine Wk.sub ?_ ?_<;>simp only [go_sem,sevalprocAttr]
  all_goals simp
 rintro t fr H ⟨k,hk,rfl,rfl,rfl⟩
 repeat' (first|omega|(first|apply yaa|(refine yaf.intro (id:=13) ydm [[],[],[0,1],[0,1,2],[0,1],[0,1],[0,1],[2,3,4,5,6],[]] (by decide+kernel) mixed ?_)|(refine yaf.intro (id:=14) ydn [[],[0],[],[],[0,1,2,3],[0,1,2,3,4],[0,1,2,3],[0,1,2,3],[],[]] (by decide+kernel) mixed ?_)|skip);simp only [go_sem,sevalprocAttr,List.length_range,↓reduceIte,reduceCtorEq,ydm,ydn]|apply yab<;>(intro h_;(try simp only [h_]);revert h_)|apply And.intro|with_reducible intro h_|trivial|simp only [go_sem,la2];omega)
 ·refine ⟨_,_,_,?_,?_,⟨k+1,by omega,rfl,rfl,rfl⟩⟩
  ·omega
  ·have e:((List.range k).map (fun (i:Nat)=>(i:Int))++List.replicate (n-k) 0).set k k=(List.range (k+1)).map (fun (i:Nat)=>(i:Int))++List.replicate (n-(k+1)) 0:=by
    rw [List.set_append,if_neg (by simp),show n-k=(n-(k+1))+1 by omega,List.replicate_succ]
    simp [List.range_succ]
   rw [e]
   refine Wk.sub ?_ ?_<;>simp only [go_sem,sevalprocAttr]
 obtain rfl:k=n:=by omega
 refine yat.intro (fun t fr H=> ∃q:Nat,q<=k/\t=k-q/\fr=[(6,I q),(4, .sl 1 0 0 k),(3,I k),(0,roI m)]/\H=[(0, .cells 3 (.ints (rlP m k q)))]) ?_ ?_
 ·refine ⟨_,_,_,?_,0,by omega,rfl,rfl,rfl⟩
  refine Wk.sub ?_ ?_<;>simp only [go_sem,sevalprocAttr]
  all_goals simp [rlP]
 rintro t fr H ⟨q,hq,rfl,rfl,rfl⟩
 have hpl:=yok m k q
 by_cases hqk:q<k
 ·have bq:decide ((q:Int)<k)=true:=by simp;omega
  repeat' (first|omega|(first|apply yaa|(refine yaf.intro (id:=13) ydm [[],[],[0,1],[0,1,2],[0,1],[0,1],[0,1],[2,3,4,5,6],[]] (by decide+kernel) mixed ?_)|(refine yaf.intro (id:=14) ydn [[],[0],[],[],[0,1,2,3],[0,1,2,3,4],[0,1,2,3],[0,1,2,3],[],[]] (by decide+kernel) mixed ?_)|skip);simp only [go_sem,sevalprocAttr,bq,↓reduceIte,reduceCtorEq,ydm,ydn]|apply yab<;>(intro h_;(try simp only [h_]);revert h_)|apply And.intro|with_reducible intro h_|trivial|simp only [go_sem,la2];omega)
  refine yat.intro (fun t fr H=> ∃h:Nat,h<=4*k/\t=4*k-h/\fr=[(7,I h),(6,I q),(4, .sl 1 0 0 k),(3,I k),(0,roI m)]/\H=[(0, .cells 3 (.ints (rlH m (rlP m k q) h)))]) ?_ ?_
  ·refine ⟨_,_,_,?_,0,by omega,rfl,rfl,rfl⟩
   refine Wk.sub ?_ ?_<;>simp only [go_sem,sevalprocAttr]
   all_goals simp [rlH]
  rintro t fr H ⟨h,hh,rfl,rfl,rfl⟩
  have hhl:(rlH m (rlP m k q) h).length=k:=by rw [yoj,hpl]
  by_cases hhk:h<4*k
  ·have bh:decide ((h:Int)<m.length)=true:=by simp;omega
   have hr:=hmr h hhk
   have e1:(h:Int).tdiv 4=((h/4:Nat):Int):=by rw [yb9 (by omega)];omega
   have e2:(m.getD h 0).tdiv 4=((m.getD h 0/4).toNat:Int):=by rw [yb9 (by omega)];omega
   have e3:(m.getD h 0/4).toNat<k:=by omega
   repeat' (first|omega|(first|apply yaa|(refine yaf.intro (id:=13) ydm [[],[],[0,1],[0,1,2],[0,1],[0,1],[0,1],[2,3,4,5,6],[]] (by decide+kernel) mixed ?_)|(refine yaf.intro (id:=14) ydn [[],[0],[],[],[0,1,2,3],[0,1,2,3,4],[0,1,2,3],[0,1,2,3],[],[]] (by decide+kernel) mixed ?_)|skip);simp only [go_sem,sevalprocAttr,bh,e1,e2,↓reduceIte,reduceCtorEq,ydm,ydn]|apply yab<;>(intro h_;(try simp only [h_]);revert h_)|apply And.intro|with_reducible intro h_|trivial|simp only [go_sem,la2];omega)
   refine ⟨_,_,_,?_,?_,⟨h+1,by omega,rfl,rfl,rfl⟩⟩
   ·omega
   ·have em: ∀a b:Int,(if b<a then b else a)=min a b:=fun a b=>by split<;>omega
    have eh:rlH m (rlP m k q) (h+1)=((rlH m (rlP m k q) h).set (h/4) (min ((rlH m (rlP m k q) h).getD (h/4) 0) ((rlH m (rlP m k q) h).getD (m.getD h 0/4).toNat 0))).set (m.getD h 0/4).toNat (min ((rlH m (rlP m k q) h).getD (h/4) 0) ((rlH m (rlP m k q) h).getD (m.getD h 0/4).toNat 0)):=rfl
    rw [eh]
    simp only [em]
    refine Wk.sub ?_ ?_<;>simp only [go_sem,sevalprocAttr]
  ·obtain rfl:h=4*k:=by omega
   have bh:decide (((4*k:Nat):Int)<m.length)=false:=by simp;omega
   repeat' (first|omega|(first|apply yaa|(refine yaf.intro (id:=13) ydm [[],[],[0,1],[0,1,2],[0,1],[0,1],[0,1],[2,3,4,5,6],[]] (by decide+kernel) mixed ?_)|(refine yaf.intro (id:=14) ydn [[],[0],[],[],[0,1,2,3],[0,1,2,3,4],[0,1,2,3],[0,1,2,3],[],[]] (by decide+kernel) mixed ?_)|skip);simp only [go_sem,sevalprocAttr,bh,↓reduceIte,reduceCtorEq,ydm,ydn]|apply yab<;>(intro h_;(try simp only [h_]);revert h_)|apply And.intro|with_reducible intro h_|trivial|simp only [go_sem,la2];omega)
   refine ⟨_,_,_,?_,?_,⟨q+1,by omega,rfl,rfl,rfl⟩⟩
   ·omega
   ·rw [show rlP m k (q+1)=rlH m (rlP m k q) (4*k) from rfl]
    refine Wk.sub ?_ ?_<;>simp only [go_sem,sevalprocAttr]
 ·obtain rfl:q=k:=by omega
  have bq:decide ((q:Int)<q)=false:=by simp
  repeat' (first|omega|(first|apply yaa|(refine yaf.intro (id:=13) ydm [[],[],[0,1],[0,1,2],[0,1],[0,1],[0,1],[2,3,4,5,6],[]] (by decide+kernel) mixed ?_)|(refine yaf.intro (id:=14) ydn [[],[0],[],[],[0,1,2,3],[0,1,2,3,4],[0,1,2,3],[0,1,2,3],[],[]] (by decide+kernel) mixed ?_)|skip);simp only [go_sem,sevalprocAttr,bq,↓reduceIte,reduceCtorEq,ydm,ydn]|apply yab<;>(intro h_;(try simp only [h_]);revert h_)|apply And.intro|with_reducible intro h_|trivial|simp only [go_sem,la2];omega)
  all_goals first
   |omega
   |exact List.take_of_length_le (by omega)
end Go.Proofs.YtjpbeacamoijhaaDoor
