/- Layer 12: the text of a polynomial, as a contract. -/
import Derived.Test.YtmdjdekgakidhaaDoorTx3
import Derived.Test.YtmdjdekgakidhaaDoorZl
import Derived.Test.YtmdjdekgakidhaaDoorZa
import Derived.Test.YtmdjdekgakidhaaDoorZe
import Derived.Test.YtmdjdekgakidhaaDoorTb1
import Derived.Test.YtmdjdekgakidhaaDoorZr
set_option linter.unusedSimpArgs false
set_option linter.unusedVariables false
namespace Go.Proofs.YtmdjdekgakidhaaDoor
open Go Go.RowKit
set_option maxRecDepth 100000
set_option maxHeartbeats 4000000
def cok (p:List (Int×Int)):Prop:= ∀k,k<p.length-> -4611686018427387904<=(p.getD k (0,0)).1/\(p.getD k (0,0)).1<=4611686018427387904/\ -4611686018427387904<=(p.getD k (0,0)).2/\(p.getD k (0,0)).2<=4611686018427387904
def txtB (name:List UInt8) (p:List (Int×Int)):List UInt8:=if p.length=0 then [48] else txtN name p p.length
theorem yz4 (name:ByteArray):Fn Tryd.prog 13 [plA false [], .str name] (.str ⟨#[48]⟩):=by
 refine Fn.intro [.tmp 4] Tryd.func13 rfl rfl (by decide) (by simp [Tryd.ntmps13]) ?_;rw [Tryd.ntmps13]
 repeat' (first|omega|(try apply yaa);simp only [go_sem,sevalprocAttr]|apply yae<;>(intro h_;(try simp only [h_]);revert h_)|apply yad|apply yab|apply gspI|apply And.intro|with_reducible intro h_|trivial|simp only [go_sem,la2];omega)
theorem yz5 (p:List (Int×Int)) (name:ByteArray) (hp0:0<p.length) (hr:cok p) (hn:name.size<=1000) (hpl:p.length<=1000000):
  Fn Tryd.prog 13 [plA false p, .str name] (.str ⟨(txtN name.data.toList p p.length).toArray⟩):=by
 refine ⟨⟨_,Tryd.func13,rfl,by decide⟩,fun w Mx vs hMx hl hv=>?_⟩
 match vs,hl with
 |[v0,v1],_=>
  have h0:=hv 0 v0 _ rfl rfl
  have h1:=(hv 1 v1 _ rfl rfl).str_inv
  subst h1
  obtain ⟨us,rfl,hul,hu⟩:=h0.agg_inv
  match us,hul with
  |[u0,u1],_=>
   have k0:=(hu 0 u0 _ rfl rfl).bool_inv
   have k1:=hu 1 u1 _ rfl rfl
   subst k0
   cases k1 with
   |ro _ _ _ ad cap x hlen hcap _ hcell hx=>
    obtain ⟨a,rfl,hb,_,hj⟩:=hcell hp0
    have hcl:(Cs.lst (tmC p)).len=2*p.length:=ycg p
    refine (yxf p name a cap w hp0 hMx.1 hb (fun k hk=>?_) hr hn hpl).mono ?_
    ·have e0:=hx (k*2) (by omega)
     have e1:=hx (k*2+1) (by omega)
     rw [show (Cs.lst (tmC p)).get (k*2)=(tmC p).getD (k*2) .any from rfl,yec p k hk] at e0
     rw [show (Cs.lst (tmC p)).get (k*2+1)=(tmC p).getD (k*2+1) .any from rfl,yh3 p k hk] at e1
     refine ⟨?_,?_⟩
     ·rw [hj _ (by omega),e0.int_inv]
     ·rw [hj _ (by omega),e1.int_inv]
    ·rintro e w' ⟨rfl,hb'⟩
     exact ⟨_,rfl,hb', .str _⟩
theorem y38 (p:List (Int×Int)) (name:ByteArray) (hr:cok p) (hn:name.size<=1000) (hpl:p.length<=1000000):
  Fn Tryd.prog 13 [plA false p, .str name] (.str ⟨(txtB name.data.toList p).toArray⟩):=by
 unfold txtB
 split
 ·obtain rfl:p=[]:=List.eq_nil_of_length_eq_zero (by assumption)
  exact yz4 name
 ·exact yz5 p name (by omega) hr hn hpl
end Go.Proofs.YtmdjdekgakidhaaDoor
set_option linter.unusedSimpArgs false
set_option linter.unusedVariables false
namespace Go.Proofs.YtmdjdekgakidhaaDoor
open Go Go.RowKit
set_option maxRecDepth 100000
set_option maxHeartbeats 8000000
def yjz:List (List Nat):=[[18,21,22,23,24],[17,21,22,23,24],[21,22,23,24],[21,22,23,24],[17,18,19,20,22],[17,18,19,20,21],[17,18,19,20],[17,18,19,20],[]]
theorem yz6 (a b:List Int) (hl:a.length<=1000000):Fn Tryd.prog 12 [roI a,roI b] (.bool (decide (a=b))):=by
 refine Fn.intro [.tmp 4] Tryd.func12 rfl rfl (by decide) (by simp [Tryd.ntmps12]) ?_;rw [Tryd.ntmps12]
 by_cases hab:a.length=b.length
 case neg=>
  have b0:((a.length:Int)!=b.length)=true:=by simp;omega
  have e:decide (a=b)=false:=decide_eq_false fun e=>hab (by rw [e])
  rw [e]
  repeat' (first|omega|(first|apply yaa|(refine yac.intro (id:=6) yjz [[],[0],[],[],[0,1,2,3],[0,1,2,3,4],[0,1,2,3],[0,1,2,3],[]] (by decide+kernel) mixed ?_)|skip);simp only [go_sem,sevalprocAttr,b0,↓reduceIte,reduceCtorEq,yjz]|apply yae<;>(intro h_;(try simp only [h_]);revert h_)|apply yad|apply yab|apply gspI|apply And.intro|with_reducible intro h_|trivial|simp only [go_sem,la2];omega)
 have b0:((a.length:Int)!=b.length)=false:=by simp;omega
 repeat' (first|omega|(first|apply yaa|(refine yac.intro (id:=6) yjz [[],[0],[],[],[0,1,2,3],[0,1,2,3,4],[0,1,2,3],[0,1,2,3],[]] (by decide+kernel) mixed ?_)|skip);simp only [go_sem,sevalprocAttr,b0,↓reduceIte,reduceCtorEq,yjz]|apply yae<;>(intro h_;(try simp only [h_]);revert h_)|apply yad|apply yab|apply gspI|apply And.intro|with_reducible intro h_|trivial|simp only [go_sem,la2];omega)
 refine yak.intro (fun n fr H=> ∃i:Nat,i<=a.length/\n=a.length-i/\(∀j,j<i->a.getD j 0=b.getD j 0)/\fr=[(5,I i),(1,roI b),(0,roI a)]/\H=[]) ?_ ?_
 ·refine ⟨_,_,_,?_,0,by omega,rfl,fun j hj=>by omega,rfl,rfl⟩
  refine Wk.sub ?_ ?_<;>simp only [go_sem,sevalprocAttr]
 rintro n fr H ⟨i,hi,rfl,hj,rfl,rfl⟩
 repeat' (first|omega|(first|apply yaa|(refine yac.intro (id:=6) yjz [[],[0],[],[],[0,1,2,3],[0,1,2,3,4],[0,1,2,3],[0,1,2,3],[]] (by decide+kernel) mixed ?_)|skip);simp only [go_sem,sevalprocAttr,↓reduceIte,reduceCtorEq,yjz]|apply yae<;>(intro h_;(try simp only [h_]);revert h_)|apply yad|apply yab|apply gspI|apply And.intro|with_reducible intro h_|trivial|simp only [go_sem,la2];omega)
 ·exact (decide_eq_false fun e=>h_ (by rw [e])).symm
 ·have h2:=h_
  refine ⟨_,_,_,?_,?_,⟨i+1,by omega,rfl,fun j hj'=>?_,rfl,rfl⟩⟩
  ·omega
  ·refine Wk.sub ?_ ?_<;>simp only [go_sem,sevalprocAttr]
  ·by_cases e:j=i
   ·subst e;exact h2
   ·exact hj j (by omega)
 ·obtain rfl:i=a.length:=by omega
  refine (decide_eq_true (List.ext_getElem hab fun j h1 h2=>?_)).symm
  have:=hj j h1
  simpa [h1,h2] using this
end Go.Proofs.YtmdjdekgakidhaaDoor
namespace Go.Proofs.YtmdjdekgakidhaaDoor
open Go Go.RowKit
set_option maxRecDepth 100000
set_option maxHeartbeats 8000000
set_option linter.unusedVariables false
set_option linter.unusedSimpArgs false
theorem yrl:Fn Tryd.prog 10 [] (dgA [1,1,1] [9,4,7,10,1,8,11,2,5,0,3,6] 0):=by
 refine Fn.introL [.cell 0 25] Tryd.func10 rfl rfl (by decide) (by simp [Tryd.ntmps10]) ?_;rw [Tryd.ntmps10]
 repeat' (first|omega|(try apply yaa);simp only [go_sem,sevalprocAttr]|apply yae<;>(intro h_;(try simp only [h_]);revert h_)|apply yad|apply yab|apply gspI|apply And.intro|with_reducible intro h_|trivial|simp only [go_sem,la2];omega)
 all_goals exact LeA.refl _
theorem yh9:ybb [1,1,1] [9,4,7,10,1,8,11,2,5,0,3,6] 0=true:=by decide+kernel
theorem y5u:Fn Tryd.prog 6 [dgA [1,1,1] [9,4,7,10,1,8,11,2,5,0,3,6] 0] (.ro 1 3 (.ints [0,1,2])):=by
 have h:=ylc [1,1,1] [9,4,7,10,1,8,11,2,5,0,3,6] 0 (by decide)
 rw [if_pos yh9,show orN [9,4,7,10,1,8,11,2,5,0,3,6] ([1,1,1]:List Int).length ([1,1,1]:List Int).length=[0,1,2] by decide+kernel] at h
 exact h
theorem y5v:Fn Tryd.prog 11 [dgA [1,1,1] [9,4,7,10,1,8,11,2,5,0,3,6] 0, .ro 1 3 (.ints [0,1,2])] (.tup [I 4,I 0]):=by
 have h:=yqw [1,1,1] [9,4,7,10,1,8,11,2,5,0,3,6] 0 [0,1,2] (by decide) (by decide)
 unfold widA at h
 rw [if_pos yh9,if_pos (by decide+kernel),show wdN [9,4,7,10,1,8,11,2,5,0,3,6] [0,1,2] ([0,1,2]:List Int).length=4 by decide+kernel] at h
 exact h
theorem y65:Fn Tryd.prog 5 [dgA [1,1,1] [9,4,7,10,1,8,11,2,5,0,3,6] 0, .ro 1 3 (.ints [0,1,2])] (.tup [plA false [(-7,1),(-3,-1),(5,-1)],I 0]):=by
 have h:=yi0 [1,1,1] [9,4,7,10,1,8,11,2,5,0,3,6] 0 [0,1,2] (by decide) (by decide) yh9 (by decide+kernel) (by decide)
 rw [y5t (s:=[1,1,1]) (m:=[9,4,7,10,1,8,11,2,5,0,3,6]) (L:=0) yh9 (by decide) (by decide) (p:=[(-7,1),(-3,-1),(5,-1)]) ⟨by decide,by decide⟩ 14 (by decide) (by decide) (by decide+kernel)] at h
 exact h
theorem y66:Fn Tryd.prog 13 [plA false [(-7,1),(-3,-1),(5,-1)], .str ⟨#[97]⟩] (.str ⟨#[97,94,45,55,45,97,94,45,51,45,97,94,53]⟩):=by
 have h:=y38 [(-7,1),(-3,-1),(5,-1)] ⟨#[97]⟩ (fun k hk=>by
  match k,hk with
  |0,_=>decide
  |1,_=>decide
  |2,_=>decide) (by decide) (by decide)
 rw [show (⟨#[97]⟩:ByteArray).data.toList=[97] from rfl,show txtB [97] [(-7,1),(-3,-1),(5,-1)]=[97,94,45,55,45,97,94,45,51,45,97,94,53] by decide+kernel] at h
 exact h
theorem yuh:Fn Tryd.prog 4 [] (.bool true):=by
 have hT:=yrl
 have hO:=y5u
 have hW:=y5v
 have hB:=y65
 have hX:=y66
 have hI:=yz6 [0,1,2] [0,1,2] (by decide)
 rw [show decide (([0,1,2]:List Int)=[0,1,2])=true from rfl] at hI
 refine Fn.introL [.tmp 0] Tryd.func4 rfl rfl (by decide) (by simp [Tryd.ntmps4]) ?_;rw [Tryd.ntmps4]
 repeat' (first|omega|(try apply yaa);simp only [go_sem,sevalprocAttr,hT]|(refine ⟨yaf.fn (r:=?_) rfl ?_ ?_⟩;rotate_left;assumption)|(refine ⟨ybh.fn (r:=?_) rfl ?_ ?_⟩;rotate_left;assumption)|apply yae<;>(intro h_;(try simp only [h_]);revert h_)|apply yad|apply yab|apply gspI|apply And.intro|with_reducible intro h_|trivial|simp only [go_sem,la2];omega)
 refine ⟨yaf.frz [1] rfl (by simp only [go_sem,sevalprocAttr,Nat.le_refl]) (by simp only [go_sem,sevalprocAttr,Nat.le_refl]) (by simp only [go_sem,sevalprocAttr,Nat.le_refl]) (by simp only [go_sem,sevalprocAttr,Nat.le_refl]) rfl rfl rfl (yaf.fn rfl hI ?_)⟩
 repeat' (first|omega|(try apply yaa);simp only [go_sem,sevalprocAttr,hT]|(refine ⟨yaf.fn (r:=?_) rfl ?_ ?_⟩;rotate_left;assumption)|(refine ⟨ybh.fn (r:=?_) rfl ?_ ?_⟩;rotate_left;assumption)|apply yae<;>(intro h_;(try simp only [h_]);revert h_)|apply yad|apply yab|apply gspI|apply And.intro|with_reducible intro h_|trivial|simp only [go_sem,la2];omega)
 all_goals exact LeA.refl _
end Go.Proofs.YtmdjdekgakidhaaDoor
set_option linter.unusedSimpArgs false
set_option linter.unusedVariables false
namespace Go.Proofs.YtmdjdekgakidhaaDoor
open Go Go.RowKit
set_option maxRecDepth 100000
set_option maxHeartbeats 4000000
def yxg:List (List Nat):=[[17,20,21,22,23],[16,20,21,22,23],[20,21,22,23],[20,21,22,23],[16,17,18,19,21],[16,17,18,19,20],[16,17,18,19],[16,17,18,19],[]]
theorem yq2:eq2 Tryd.prog 50=true:=by decide+kernel
theorem y5w (p:List (Int×Int)) (hl:p.length<=1000000):Fn Tryd.prog 18 [.ro 2 p.length (.lst (tmC p)), .ro 2 p.length (.lst (tmC p))] (.bool true):=by
 have hlen:=ycg p
 have b0:((p.length:Int)!=p.length)=false:=by simp
 refine Fn.intro [.tmp 4] Tryd.func18 rfl rfl (by decide) (by simp [Tryd.ntmps18]) ?_;rw [Tryd.ntmps18]
 repeat' (first|omega|(try apply yaa);simp only [go_sem,sevalprocAttr,b0]|apply yae<;>(intro h_;(try simp only [h_]);revert h_)|apply yad|apply yab|apply gspI|apply And.intro|with_reducible intro h_|trivial|simp only [go_sem,la2];omega)
 refine yak.intro (fun n fr H=> ∃k:Nat,k<=p.length/\n=p.length-k/\fr=[(13,I k),(12,I p.length),(1, .ro 2 p.length (.lst (tmC p))),(0, .ro 2 p.length (.lst (tmC p)))]/\H=[]) ?_ ?_
 ·refine ⟨_,_,_,?_,0,by omega,rfl,rfl,rfl⟩
  refine Wk.sub ?_ ?_<;>(simp only [go_sem,sevalprocAttr,ya0])
 rintro n fr H ⟨k,hk,rfl,rfl,rfl⟩
 by_cases hkl:k<p.length
 ·have g0:=yec p k hkl
  have g1:=yh3 p k hkl
  have b1:((p.getD k (0,0)).1==(p.getD k (0,0)).1)=true:=by simp
  have b2:((p.getD k (0,0)).2==(p.getD k (0,0)).2)=true:=by simp
  repeat' (first|omega|(first|apply yaa|(refine yac.intro (id:=6) yxg [[],[0],[],[],[0,1,2,3],[0,1,2,3,4],[0,1,2,3],[0,1,2,3],[]] (by decide+kernel) mixed ?_)|skip);simp only [go_sem,sevalprocAttr,g0,g1,hlen,b1,b2,yq2,↓reduceIte,reduceCtorEq,yxg]|apply yae<;>(intro h_;(try simp only [h_]);revert h_)|apply yad|apply yab|apply gspI|apply And.intro|with_reducible intro h_|trivial|simp only [go_sem,la2];omega)
  all_goals (first|exact yq2|skip)
  refine ⟨_,_,_,?_,?_,⟨k+1,by omega,rfl,rfl,rfl⟩⟩
  ·omega
  ·refine Wk.sub ?_ ?_<;>(simp only [go_sem,sevalprocAttr,ya0])
 ·obtain rfl:k=p.length:=by omega
  repeat' (first|omega|(try apply yaa);simp only [go_sem,sevalprocAttr]|apply yae<;>(intro h_;(try simp only [h_]);revert h_)|apply yad|apply yab|apply gspI|apply And.intro|with_reducible intro h_|trivial|simp only [go_sem,la2];omega)
theorem yz7 (p:List (Int×Int)) (hl:p.length<=1000000):Fn Tryd.prog 8 [plA false p,plA false p] (.bool true):=by
 have hS:=y5w p hl
 refine Fn.intro [.tmp 4] Tryd.func8 rfl rfl (by decide) (by simp [Tryd.ntmps8]) ?_;rw [Tryd.ntmps8]
 repeat' (first|omega|(try apply yaa);simp only [go_sem,sevalprocAttr,ya0]|apply yae<;>(intro h_;(try simp only [h_]);revert h_)|apply yad|apply yab|apply gspI|apply And.intro|with_reducible intro h_|trivial|simp only [go_sem,la2];omega)
 refine ⟨yaf.fn rfl hS ?_⟩
 repeat' (first|omega|(try apply yaa);simp only [go_sem,sevalprocAttr]|apply yae<;>(intro h_;(try simp only [h_]);revert h_)|apply yad|apply yab|apply gspI|apply And.intro|with_reducible intro h_|trivial|simp only [go_sem,la2];omega)
end Go.Proofs.YtmdjdekgakidhaaDoor
set_option linter.unusedSimpArgs false
set_option linter.unusedVariables false
namespace Go.Proofs.YtmdjdekgakidhaaDoor
open Go Go.RowKit
theorem Fn.args {P:Program} {f:Nat} {xs ys:List AV} {r:AV} (h:Fn P f ys r) (hl:LeL xs ys):Fn P f xs r:=
 ⟨h.1,fun w Mx vs hm hlen hv=>h.2 w Mx vs hm (hlen.trans hl.len) fun i v y hi hy=>by
  obtain ⟨x,hx⟩: ∃x,xs[i]?=some x:=by
   have:i<ys.length:=(List.getElem?_eq_some_iff.1 hy).1
   exact ⟨_,List.getElem?_eq_getElem (by rw [hl.len];exact this)⟩
  exact (hl.get i x y hx hy).out _ _ _ _ v (hv i v x hi hx)⟩
end Go.Proofs.YtmdjdekgakidhaaDoor
set_option linter.unusedSimpArgs false
set_option linter.unusedVariables false
namespace Go.Proofs.YtmdjdekgakidhaaDoor
open Go Go.RowKit
theorem Wk.frzB (ids:List Nat) {fr fr':Fr} {H H':Hp} (h1:ycy (hsel H ids) fr) (h2:yca (hsel H ids) H) (hfr:frzF (hsel H ids) fr=fr') (hH:frzH (hsel H ids) H=H'):Wk fr H fr' H':=by
 subst hfr;subst hH
 exact fun _ _ _ _ _ ρ _ hs=>⟨ρ,hs.freeze (fun i o=>yd5 i o) h1 h2⟩
end Go.Proofs.YtmdjdekgakidhaaDoor
