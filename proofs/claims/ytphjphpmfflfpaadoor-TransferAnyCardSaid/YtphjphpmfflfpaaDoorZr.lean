/- Layer 12: the text of a polynomial, as a contract. -/
import Derived.Test.YtphjphpmfflfpaaDoorTx3
import Derived.Test.YtphjphpmfflfpaaDoorZl
import Derived.Test.YtphjphpmfflfpaaDoorZa
import Derived.Test.YtphjphpmfflfpaaDoorZd
import Derived.Test.YtphjphpmfflfpaaDoorTb1
import Derived.Test.YtphjphpmfflfpaaDoorZq
import Derived.Test.YtphjphpmfflfpaaDoorZj
set_option linter.unusedSimpArgs false
set_option linter.unusedVariables false
namespace Go.Proofs.YtphjphpmfflfpaaDoor
open Go Go.RowKit
set_option maxRecDepth 100000
set_option maxHeartbeats 4000000
def cok (p:List (Int×Int)):Prop:= ∀k,k<p.length-> -4611686018427387904<=(p.getD k (0,0)).1/\(p.getD k (0,0)).1<=4611686018427387904/\ -4611686018427387904<=(p.getD k (0,0)).2/\(p.getD k (0,0)).2<=4611686018427387904
def txtB (name:List UInt8) (p:List (Int×Int)):List UInt8:=if p.length=0 then [48] else txtN name p p.length
theorem y2i (name:ByteArray):Fn Tryd.prog 21 [plA false [], .str name] (.str ⟨#[48]⟩):=by
 refine Fn.intro [.tmp 4] Tryd.func21 rfl rfl (by decide) (by simp [Tryd.ntmps21]) ?_;rw [Tryd.ntmps21]
 repeat' (first|omega|(try apply yaa);simp only [go_sem,sevalprocAttr]|apply yad<;>(intro h_;(try simp only [h_]);revert h_)|apply yac|apply yab|apply gspI|apply And.intro|with_reducible intro h_|trivial|simp only [go_sem,la2];omega)
theorem y2j (p:List (Int×Int)) (name:ByteArray) (hp0:0<p.length) (hr:cok p) (hn:name.size<=1000) (hpl:p.length<=1000000):
  Fn Tryd.prog 21 [plA false p, .str name] (.str ⟨(txtN name.data.toList p p.length).toArray⟩):=by
 refine ⟨⟨_,Tryd.func21,rfl,by decide⟩,fun w Mx vs hMx hl hv=>?_⟩
 match vs,hl with
 |[v0,v1],_=>
  have h0:=hv 0 v0 _ rfl rfl
  have h1:=(hv 1 v1 _ rfl rfl).str_inv
  subst h1
  obtain ⟨us,rfl,hul,hu⟩:=h0.agg_inv
  match us,hul with
  |[u0,u1],_=>
   have k0:=(hu 0 u0 _ rfl rfl).bool_inv
   have k1:=hu 1 u1 _ rfl rfl
   subst k0
   cases k1 with
   |ro _ _ _ ad cap x hlen hcap _ hcell hx=>
    obtain ⟨a,rfl,hb,_,hj⟩:=hcell hp0
    have hcl:(Cs.lst (tmC p)).len=2*p.length:=ycl p
    refine (yzh p name a cap w hp0 hMx.1 hb (fun k hk=>?_) hr hn hpl).mono ?_
    ·have e0:=hx (k*2) (by omega)
     have e1:=hx (k*2+1) (by omega)
     rw [show (Cs.lst (tmC p)).get (k*2)=(tmC p).getD (k*2) .any from rfl,yeg p k hk] at e0
     rw [show (Cs.lst (tmC p)).get (k*2+1)=(tmC p).getD (k*2+1) .any from rfl,yh4 p k hk] at e1
     refine ⟨?_,?_⟩
     ·rw [hj _ (by omega),e0.int_inv]
     ·rw [hj _ (by omega),e1.int_inv]
    ·rintro e w' ⟨rfl,hb'⟩
     exact ⟨_,rfl,hb', .str _⟩
theorem y6g (p:List (Int×Int)) (name:ByteArray) (hr:cok p) (hn:name.size<=1000) (hpl:p.length<=1000000):
  Fn Tryd.prog 21 [plA false p, .str name] (.str ⟨(txtB name.data.toList p).toArray⟩):=by
 unfold txtB
 split
 ·obtain rfl:p=[]:=List.eq_nil_of_length_eq_zero (by assumption)
  exact y2i name
 ·exact y2j p name (by omega) hr hn hpl
end Go.Proofs.YtphjphpmfflfpaaDoor
set_option linter.unusedSimpArgs false
set_option linter.unusedVariables false
namespace Go.Proofs.YtphjphpmfflfpaaDoor
open Go Go.RowKit
set_option maxRecDepth 100000
set_option maxHeartbeats 8000000
def yj5:List (List Nat):=[[18,21,22,23,24],[17,21,22,23,24],[21,22,23,24],[21,22,23,24],[17,18,19,20,22],[17,18,19,20,21],[17,18,19,20],[17,18,19,20],[]]
theorem y2k (a b:List Int) (hl:a.length<=1000000):Fn Tryd.prog 20 [roI a,roI b] (.bool (decide (a=b))):=by
 refine Fn.intro [.tmp 4] Tryd.func20 rfl rfl (by decide) (by simp [Tryd.ntmps20]) ?_;rw [Tryd.ntmps20]
 by_cases hab:a.length=b.length
 case neg=>
  have b0:((a.length:Int)!=b.length)=true:=by simp;omega
  have e:decide (a=b)=false:=decide_eq_false fun e=>hab (by rw [e])
  rw [e]
  repeat' (first|omega|(first|apply yaa|(refine yae.intro (id:=6) yj5 [[],[0],[],[],[0,1,2,3],[0,1,2,3,4],[0,1,2,3],[0,1,2,3],[]] (by decide+kernel) mixed ?_)|skip);simp only [go_sem,sevalprocAttr,b0,↓reduceIte,reduceCtorEq,yj5]|apply yad<;>(intro h_;(try simp only [h_]);revert h_)|apply yac|apply yab|apply gspI|apply And.intro|with_reducible intro h_|trivial|simp only [go_sem,la2];omega)
 have b0:((a.length:Int)!=b.length)=false:=by simp;omega
 repeat' (first|omega|(first|apply yaa|(refine yae.intro (id:=6) yj5 [[],[0],[],[],[0,1,2,3],[0,1,2,3,4],[0,1,2,3],[0,1,2,3],[]] (by decide+kernel) mixed ?_)|skip);simp only [go_sem,sevalprocAttr,b0,↓reduceIte,reduceCtorEq,yj5]|apply yad<;>(intro h_;(try simp only [h_]);revert h_)|apply yac|apply yab|apply gspI|apply And.intro|with_reducible intro h_|trivial|simp only [go_sem,la2];omega)
 refine yai.intro (fun n fr H=> ∃i:Nat,i<=a.length/\n=a.length-i/\(∀j,j<i->a.getD j 0=b.getD j 0)/\fr=[(5,I i),(1,roI b),(0,roI a)]/\H=[]) ?_ ?_
 ·refine ⟨_,_,_,?_,0,by omega,rfl,fun j hj=>by omega,rfl,rfl⟩
  refine Wk.sub ?_ ?_<;>simp only [go_sem,sevalprocAttr]
 rintro n fr H ⟨i,hi,rfl,hj,rfl,rfl⟩
 repeat' (first|omega|(first|apply yaa|(refine yae.intro (id:=6) yj5 [[],[0],[],[],[0,1,2,3],[0,1,2,3,4],[0,1,2,3],[0,1,2,3],[]] (by decide+kernel) mixed ?_)|skip);simp only [go_sem,sevalprocAttr,↓reduceIte,reduceCtorEq,yj5]|apply yad<;>(intro h_;(try simp only [h_]);revert h_)|apply yac|apply yab|apply gspI|apply And.intro|with_reducible intro h_|trivial|simp only [go_sem,la2];omega)
 ·exact (decide_eq_false fun e=>h_ (by rw [e])).symm
 ·have h2:=h_
  refine ⟨_,_,_,?_,?_,⟨i+1,by omega,rfl,fun j hj'=>?_,rfl,rfl⟩⟩
  ·omega
  ·refine Wk.sub ?_ ?_<;>simp only [go_sem,sevalprocAttr]
  ·by_cases e:j=i
   ·subst e;exact h2
   ·exact hj j (by omega)
 ·obtain rfl:i=a.length:=by omega
  refine (decide_eq_true (List.ext_getElem hab fun j h1 h2=>?_)).symm
  have:=hj j h1
  simpa [h1,h2] using this
end Go.Proofs.YtphjphpmfflfpaaDoor
namespace Go.Proofs.YtphjphpmfflfpaaDoor
open Go Go.RowKit
set_option maxRecDepth 100000
set_option maxHeartbeats 8000000
set_option linter.unusedVariables false
set_option linter.unusedSimpArgs false
theorem ytd:Fn Tryd.prog 19 [] (dgA [1,1,1] [9,4,7,10,1,8,11,2,5,0,3,6] 0):=by
 refine Fn.introL [.cell 0 31] Tryd.func19 rfl rfl (by decide) (by simp [Tryd.ntmps19]) ?_;rw [Tryd.ntmps19]
 repeat' (first|omega|(try apply yaa);simp only [go_sem,sevalprocAttr]|apply yad<;>(intro h_;(try simp only [h_]);revert h_)|apply yac|apply yab|apply gspI|apply And.intro|with_reducible intro h_|trivial|simp only [go_sem,la2];omega)
 all_goals exact LeA.refl _
theorem yib:yal [1,1,1] [9,4,7,10,1,8,11,2,5,0,3,6] 0=true:=by decide+kernel
theorem y75:Fn Tryd.prog 18 [dgA [1,1,1] [9,4,7,10,1,8,11,2,5,0,3,6] 0] (.ro 1 3 (.ints [0,1,2])):=by
 have h:=yr7 [1,1,1] [9,4,7,10,1,8,11,2,5,0,3,6] 0 (by decide)
 rw [if_pos yib,show orN [9,4,7,10,1,8,11,2,5,0,3,6] ([1,1,1]:List Int).length ([1,1,1]:List Int).length=[0,1,2] by decide+kernel] at h
 exact h
theorem y76:Fn Tryd.prog 11 [dgA [1,1,1] [9,4,7,10,1,8,11,2,5,0,3,6] 0, .ro 1 3 (.ints [0,1,2])] (.tup [I 4,I 0]):=by
 have h:=yr6 [1,1,1] [9,4,7,10,1,8,11,2,5,0,3,6] 0 [0,1,2] (by decide) (by decide)
 unfold widA at h
 rw [if_pos yib,if_pos (by decide+kernel),show wdN [9,4,7,10,1,8,11,2,5,0,3,6] [0,1,2] ([0,1,2]:List Int).length=4 by decide+kernel] at h
 exact h
theorem y9c:Fn Tryd.prog 6 [dgA [1,1,1] [9,4,7,10,1,8,11,2,5,0,3,6] 0, .ro 1 3 (.ints [0,1,2])] (.tup [plA false [(-7,1),(-3,-1),(5,-1)],I 0]):=by
 have h:=yr8 [1,1,1] [9,4,7,10,1,8,11,2,5,0,3,6] 0 [0,1,2] (by decide) (by decide) yib (by decide+kernel) (by decide)
 rw [y74 (s:=[1,1,1]) (m:=[9,4,7,10,1,8,11,2,5,0,3,6]) (L:=0) yib (by decide) (by decide) (p:=[(-7,1),(-3,-1),(5,-1)]) ⟨by decide,by decide⟩ 14 (by decide) (by decide) (by decide+kernel)] at h
 exact h
theorem y9d:Fn Tryd.prog 21 [plA false [(-7,1),(-3,-1),(5,-1)], .str ⟨#[97]⟩] (.str ⟨#[97,94,45,55,45,97,94,45,51,45,97,94,53]⟩):=by
 have h:=y6g [(-7,1),(-3,-1),(5,-1)] ⟨#[97]⟩ (fun k hk=>by
  match k,hk with
  |0,_=>decide
  |1,_=>decide
  |2,_=>decide) (by decide) (by decide)
 rw [show (⟨#[97]⟩:ByteArray).data.toList=[97] from rfl,show txtB [97] [(-7,1),(-3,-1),(5,-1)]=[97,94,45,55,45,97,94,45,51,45,97,94,53] by decide+kernel] at h
 exact h
theorem yv9:Fn Tryd.prog 5 [] (.bool true):=by
 have hT:=ytd
 have hO:=y75
 have hW:=y76
 have hB:=y9c
 have hX:=y9d
 have hI:=y2k [0,1,2] [0,1,2] (by decide)
 rw [show decide (([0,1,2]:List Int)=[0,1,2])=true from rfl] at hI
 refine Fn.introL [.tmp 0] Tryd.func5 rfl rfl (by decide) (by simp [Tryd.ntmps5]) ?_;rw [Tryd.ntmps5]
 repeat' (first|omega|(try apply yaa);simp only [go_sem,sevalprocAttr,hT]|(refine ⟨yaf.fn (r:=?_) rfl ?_ ?_⟩;rotate_left;assumption)|(refine ⟨ya4.fn (r:=?_) rfl ?_ ?_⟩;rotate_left;assumption)|apply yad<;>(intro h_;(try simp only [h_]);revert h_)|apply yac|apply yab|apply gspI|apply And.intro|with_reducible intro h_|trivial|simp only [go_sem,la2];omega)
 refine ⟨yaf.frz [1] rfl (by simp only [go_sem,sevalprocAttr,Nat.le_refl]) (by simp only [go_sem,sevalprocAttr,Nat.le_refl]) (by simp only [go_sem,sevalprocAttr,Nat.le_refl]) (by simp only [go_sem,sevalprocAttr,Nat.le_refl]) rfl rfl rfl (yaf.fn rfl hI ?_)⟩
 repeat' (first|omega|(try apply yaa);simp only [go_sem,sevalprocAttr,hT]|(refine ⟨yaf.fn (r:=?_) rfl ?_ ?_⟩;rotate_left;assumption)|(refine ⟨ya4.fn (r:=?_) rfl ?_ ?_⟩;rotate_left;assumption)|apply yad<;>(intro h_;(try simp only [h_]);revert h_)|apply yac|apply yab|apply gspI|apply And.intro|with_reducible intro h_|trivial|simp only [go_sem,la2];omega)
 all_goals exact LeA.refl _
end Go.Proofs.YtphjphpmfflfpaaDoor
namespace Go.Proofs.YtphjphpmfflfpaaDoor
set_option linter.unusedSimpArgs false
set_option linter.unusedVariables false
section
variable {m:List Int} {n:Nat} (hp:PmOk m n)
include hp
end
section
variable {s m:List Int} {L:Int} (hv:ymm s m L)
include hv
end
end Go.Proofs.YtphjphpmfflfpaaDoor
