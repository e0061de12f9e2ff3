/- Layer 12: the text of a polynomial, as a contract. -/
import Derived.Test.YtphjphpmfflfpaaDoorTx3
import Derived.Test.YtphjphpmfflfpaaDoorZl
import Derived.Test.YtphjphpmfflfpaaDoorZa
import Derived.Test.YtphjphpmfflfpaaDoorZe
import Derived.Test.YtphjphpmfflfpaaDoorTb1
import Derived.Test.YtphjphpmfflfpaaDoorZp
import Derived.Test.YtphjphpmfflfpaaDoorZf
set_option linter.unusedSimpArgs false
set_option linter.unusedVariables false
namespace Go.Proofs.YtphjphpmfflfpaaDoor
open Go Go.RowKit
set_option maxRecDepth 100000
set_option maxHeartbeats 4000000
def cok (p:List (Int×Int)):Prop:= ∀k,k<p.length-> -4611686018427387904<=(p.getD k (0,0)).1/\(p.getD k (0,0)).1<=4611686018427387904/\ -4611686018427387904<=(p.getD k (0,0)).2/\(p.getD k (0,0)).2<=4611686018427387904
def txtB (name:List UInt8) (p:List (Int×Int)):List UInt8:=if p.length=0 then [48] else txtN name p p.length
theorem yys (name:ByteArray):Fn Tryd.prog 21 [plA false [], .str name] (.str ⟨#[48]⟩):=by
 refine Fn.intro [.tmp 4] Tryd.func21 rfl rfl (by decide) (by simp [Tryd.ntmps21]) ?_;rw [Tryd.ntmps21]
 repeat' (first|omega|(try apply yaa);simp only [go_sem,sevalprocAttr]|apply yad<;>(intro h_;(try simp only [h_]);revert h_)|apply yac|apply yab|apply gspI|apply And.intro|with_reducible intro h_|trivial|simp only [go_sem,la2];omega)
theorem yyt (p:List (Int×Int)) (name:ByteArray) (hp0:0<p.length) (hr:cok p) (hn:name.size<=1000) (hpl:p.length<=1000000):
  Fn Tryd.prog 21 [plA false p, .str name] (.str ⟨(txtN name.data.toList p p.length).toArray⟩):=by
 refine ⟨⟨_,Tryd.func21,rfl,by decide⟩,fun w Mx vs hMx hl hv=>?_⟩
 match vs,hl with
 |[v0,v1],_=>
  have h0:=hv 0 v0 _ rfl rfl
  have h1:=(hv 1 v1 _ rfl rfl).str_inv
  subst h1
  obtain ⟨us,rfl,hul,hu⟩:=h0.agg_inv
  match us,hul with
  |[u0,u1],_=>
   have k0:=(hu 0 u0 _ rfl rfl).bool_inv
   have k1:=hu 1 u1 _ rfl rfl
   subst k0
   cases k1 with
   |ro _ _ _ ad cap x hlen hcap _ hcell hx=>
    obtain ⟨a,rfl,hb,_,hj⟩:=hcell hp0
    have hcl:(Cs.lst (tmC p)).len=2*p.length:=ycf p
    refine (yvx p name a cap w hp0 hMx.1 hb (fun k hk=>?_) hr hn hpl).mono ?_
    ·have e0:=hx (k*2) (by omega)
     have e1:=hx (k*2+1) (by omega)
     rw [show (Cs.lst (tmC p)).get (k*2)=(tmC p).getD (k*2) .any from rfl,yd4 p k hk] at e0
     rw [show (Cs.lst (tmC p)).get (k*2+1)=(tmC p).getD (k*2+1) .any from rfl,yhb p k hk] at e1
     refine ⟨?_,?_⟩
     ·rw [hj _ (by omega),e0.int_inv]
     ·rw [hj _ (by omega),e1.int_inv]
    ·rintro e w' ⟨rfl,hb'⟩
     exact ⟨_,rfl,hb', .str _⟩
theorem y2n (p:List (Int×Int)) (name:ByteArray) (hr:cok p) (hn:name.size<=1000) (hpl:p.length<=1000000):
  Fn Tryd.prog 21 [plA false p, .str name] (.str ⟨(txtB name.data.toList p).toArray⟩):=by
 unfold txtB
 split
 ·obtain rfl:p=[]:=List.eq_nil_of_length_eq_zero (by assumption)
  exact yys name
 ·exact yyt p name (by omega) hr hn hpl
end Go.Proofs.YtphjphpmfflfpaaDoor
set_option linter.unusedSimpArgs false
set_option linter.unusedVariables false
namespace Go.Proofs.YtphjphpmfflfpaaDoor
open Go Go.RowKit
set_option maxRecDepth 100000
set_option maxHeartbeats 8000000
def yi2:List (List Nat):=[[18,21,22,23,24],[17,21,22,23,24],[21,22,23,24],[21,22,23,24],[17,18,19,20,22],[17,18,19,20,21],[17,18,19,20],[17,18,19,20],[]]
theorem yyu (a b:List Int) (hl:a.length<=1000000):Fn Tryd.prog 20 [roI a,roI b] (.bool (decide (a=b))):=by
 refine Fn.intro [.tmp 4] Tryd.func20 rfl rfl (by decide) (by simp [Tryd.ntmps20]) ?_;rw [Tryd.ntmps20]
 by_cases hab:a.length=b.length
 case neg=>
  have b0:((a.length:Int)!=b.length)=true:=by simp;omega
  have e:decide (a=b)=false:=decide_eq_false fun e=>hab (by rw [e])
  rw [e]
  repeat' (first|omega|(first|apply yaa|(refine yae.intro (id:=6) yi2 [[],[0],[],[],[0,1,2,3],[0,1,2,3,4],[0,1,2,3],[0,1,2,3],[]] (by decide+kernel) mixed ?_)|skip);simp only [go_sem,sevalprocAttr,b0,↓reduceIte,reduceCtorEq,yi2]|apply yad<;>(intro h_;(try simp only [h_]);revert h_)|apply yac|apply yab|apply gspI|apply And.intro|with_reducible intro h_|trivial|simp only [go_sem,la2];omega)
 have b0:((a.length:Int)!=b.length)=false:=by simp;omega
 repeat' (first|omega|(first|apply yaa|(refine yae.intro (id:=6) yi2 [[],[0],[],[],[0,1,2,3],[0,1,2,3,4],[0,1,2,3],[0,1,2,3],[]] (by decide+kernel) mixed ?_)|skip);simp only [go_sem,sevalprocAttr,b0,↓reduceIte,reduceCtorEq,yi2]|apply yad<;>(intro h_;(try simp only [h_]);revert h_)|apply yac|apply yab|apply gspI|apply And.intro|with_reducible intro h_|trivial|simp only [go_sem,la2];omega)
 refine yak.intro (fun n fr H=> ∃i:Nat,i<=a.length/\n=a.length-i/\(∀j,j<i->a.getD j 0=b.getD j 0)/\fr=[(5,I i),(1,roI b),(0,roI a)]/\H=[]) ?_ ?_
 ·refine ⟨_,_,_,?_,0,by omega,rfl,fun j hj=>by omega,rfl,rfl⟩
  refine Wk.sub ?_ ?_<;>simp only [go_sem,sevalprocAttr]
 rintro n fr H ⟨i,hi,rfl,hj,rfl,rfl⟩
 repeat' (first|omega|(first|apply yaa|(refine yae.intro (id:=6) yi2 [[],[0],[],[],[0,1,2,3],[0,1,2,3,4],[0,1,2,3],[0,1,2,3],[]] (by decide+kernel) mixed ?_)|skip);simp only [go_sem,sevalprocAttr,↓reduceIte,reduceCtorEq,yi2]|apply yad<;>(intro h_;(try simp only [h_]);revert h_)|apply yac|apply yab|apply gspI|apply And.intro|with_reducible intro h_|trivial|simp only [go_sem,la2];omega)
 ·exact (decide_eq_false fun e=>h_ (by rw [e])).symm
 ·have h2:=h_
  refine ⟨_,_,_,?_,?_,⟨i+1,by omega,rfl,fun j hj'=>?_,rfl,rfl⟩⟩
  ·omega
  ·refine Wk.sub ?_ ?_<;>simp only [go_sem,sevalprocAttr]
  ·by_cases e:j=i
   ·subst e;exact h2
   ·exact hj j (by omega)
 ·obtain rfl:i=a.length:=by omega
  refine (decide_eq_true (List.ext_getElem hab fun j h1 h2=>?_)).symm
  have:=hj j h1
  simpa [h1,h2] using this
end Go.Proofs.YtphjphpmfflfpaaDoor
namespace Go.Proofs.YtphjphpmfflfpaaDoor
open Go Go.RowKit
set_option maxRecDepth 100000
set_option maxHeartbeats 8000000
set_option linter.unusedVariables false
set_option linter.unusedSimpArgs false
theorem yql:Fn Tryd.prog 19 [] (dgA [1,1,1] [9,4,7,10,1,8,11,2,5,0,3,6] 0):=by
 refine Fn.introL [.cell 0 31] Tryd.func19 rfl rfl (by decide) (by simp [Tryd.ntmps19]) ?_;rw [Tryd.ntmps19]
 repeat' (first|omega|(try apply yaa);simp only [go_sem,sevalprocAttr]|apply yad<;>(intro h_;(try simp only [h_]);revert h_)|apply yac|apply yab|apply gspI|apply And.intro|with_reducible intro h_|trivial|simp only [go_sem,la2];omega)
 all_goals exact LeA.refl _
theorem yhf:ybc [1,1,1] [9,4,7,10,1,8,11,2,5,0,3,6] 0=true:=by decide+kernel
theorem y36:Fn Tryd.prog 18 [dgA [1,1,1] [9,4,7,10,1,8,11,2,5,0,3,6] 0] (.ro 1 3 (.ints [0,1,2])):=by
 have h:=yyq [1,1,1] [9,4,7,10,1,8,11,2,5,0,3,6] 0 (by decide)
 rw [if_pos yhf,show orN [9,4,7,10,1,8,11,2,5,0,3,6] ([1,1,1]:List Int).length ([1,1,1]:List Int).length=[0,1,2] by decide+kernel] at h
 exact h
theorem y37:Fn Tryd.prog 11 [dgA [1,1,1] [9,4,7,10,1,8,11,2,5,0,3,6] 0, .ro 1 3 (.ints [0,1,2])] (.tup [I 4,I 0]):=by
 have h:=yfr [1,1,1] [9,4,7,10,1,8,11,2,5,0,3,6] 0 [0,1,2] (by decide) (by decide)
 unfold widA at h
 rw [if_pos yhf,if_pos (by decide+kernel),show wdN [9,4,7,10,1,8,11,2,5,0,3,6] [0,1,2] ([0,1,2]:List Int).length=4 by decide+kernel] at h
 exact h
theorem y46:Fn Tryd.prog 6 [dgA [1,1,1] [9,4,7,10,1,8,11,2,5,0,3,6] 0, .ro 1 3 (.ints [0,1,2])] (.tup [plA false [(-7,1),(-3,-1),(5,-1)],I 0]):=by
 have h:=yh5 [1,1,1] [9,4,7,10,1,8,11,2,5,0,3,6] 0 [0,1,2] (by decide) (by decide) yhf (by decide+kernel) (by decide)
 rw [y30 (s:=[1,1,1]) (m:=[9,4,7,10,1,8,11,2,5,0,3,6]) (L:=0) yhf (by decide) (by decide) (p:=[(-7,1),(-3,-1),(5,-1)]) ⟨by decide,by decide⟩ 14 (by decide) (by decide) (by decide+kernel)] at h
 exact h
theorem y47:Fn Tryd.prog 21 [plA false [(-7,1),(-3,-1),(5,-1)], .str ⟨#[97]⟩] (.str ⟨#[97,94,45,55,45,97,94,45,51,45,97,94,53]⟩):=by
 have h:=y2n [(-7,1),(-3,-1),(5,-1)] ⟨#[97]⟩ (fun k hk=>by
  match k,hk with
  |0,_=>decide
  |1,_=>decide
  |2,_=>decide) (by decide) (by decide)
 rw [show (⟨#[97]⟩:ByteArray).data.toList=[97] from rfl,show txtB [97] [(-7,1),(-3,-1),(5,-1)]=[97,94,45,55,45,97,94,45,51,45,97,94,53] by decide+kernel] at h
 exact h
theorem ytd:Fn Tryd.prog 5 [] (.bool true):=by
 have hT:=yql
 have hO:=y36
 have hW:=y37
 have hB:=y46
 have hX:=y47
 have hI:=yyu [0,1,2] [0,1,2] (by decide)
 rw [show decide (([0,1,2]:List Int)=[0,1,2])=true from rfl] at hI
 refine Fn.introL [.tmp 0] Tryd.func5 rfl rfl (by decide) (by simp [Tryd.ntmps5]) ?_;rw [Tryd.ntmps5]
 repeat' (first|omega|(try apply yaa);simp only [go_sem,sevalprocAttr,hT]|(refine ⟨yaf.fn (r:=?_) rfl ?_ ?_⟩;rotate_left;assumption)|(refine ⟨ya2.fn (r:=?_) rfl ?_ ?_⟩;rotate_left;assumption)|apply yad<;>(intro h_;(try simp only [h_]);revert h_)|apply yac|apply yab|apply gspI|apply And.intro|with_reducible intro h_|trivial|simp only [go_sem,la2];omega)
 refine ⟨yaf.frz [1] rfl (by simp only [go_sem,sevalprocAttr,Nat.le_refl]) (by simp only [go_sem,sevalprocAttr,Nat.le_refl]) (by simp only [go_sem,sevalprocAttr,Nat.le_refl]) (by simp only [go_sem,sevalprocAttr,Nat.le_refl]) rfl rfl rfl (yaf.fn rfl hI ?_)⟩
 repeat' (first|omega|(try apply yaa);simp only [go_sem,sevalprocAttr,hT]|(refine ⟨yaf.fn (r:=?_) rfl ?_ ?_⟩;rotate_left;assumption)|(refine ⟨ya2.fn (r:=?_) rfl ?_ ?_⟩;rotate_left;assumption)|apply yad<;>(intro h_;(try simp only [h_]);revert h_)|apply yac|apply yab|apply gspI|apply And.intro|with_reducible intro h_|trivial|simp only [go_sem,la2];omega)
 all_goals exact LeA.refl _
end Go.Proofs.YtphjphpmfflfpaaDoor
namespace Go.Proofs.YtphjphpmfflfpaaDoor
open Go Go.RowKit
set_option maxRecDepth 100000
set_option maxHeartbeats 8000000
set_option linter.unusedVariables false
set_option linter.unusedSimpArgs false
theorem ylk (k:Int):LeA (.tup [.agg [.bool false, .nils],I k]) (.tup [plA false [],I k]):=LeA.tupL (.cons (LeA.aggL (.cons (LeA.refl _) (.cons (LeA.nils (es:=2) (by decide) rfl) .nil))) (.cons (LeA.refl _) .nil))
theorem y2o (m:List Int) (o:List Int) (ho:o.length<=1000) (hv:ybc [] m 0=true) (hp:ycv o 0=true):Fn Tryd.prog 6 [dgA [] m 0,roI o] (.tup [plA false [],I 8]):=by
 have hW:=yfr [] m 0 o (by simp) (by omega)
 unfold widA at hW
 rw [if_pos hv,if_pos (show ycv o ([]:List Int).length=true from hp)] at hW
 refine Fn.introL [.cell 4 25, .tmp 5] Tryd.func6 rfl rfl (by decide) (by simp [Tryd.ntmps6]) ?_;rw [Tryd.ntmps6]
 repeat' (first|omega|(try apply yaa);simp only [go_sem,sevalprocAttr,hv]|(refine ⟨yaf.fn (r:=?_) rfl ?_ ?_⟩;rotate_left;assumption)|(refine ⟨ya2.fn (r:=?_) rfl ?_ ?_⟩;rotate_left;assumption)|apply yad<;>(intro h_;(try simp only [h_]);revert h_)|apply yac|apply yab|apply gspI|apply And.intro|with_reducible intro h_|trivial|simp only [go_sem,la2];omega)
 all_goals exact ylk 8
theorem yr7 (s m:List Int) (L:Int) (o:List Int) (hs:s.length<=1000) (ho:o.length<=1000) (hv:ybc s m L=true) (hp:ycv o s.length=true) (hne: ¬(s.length=0/\L=0)) (h5:20<wdN m o o.length\/20<L):Fn Tryd.prog 6 [dgA s m L,roI o] (.tup [plA false [],I 5]):=by
 have hW:=yfr s m L o hs (by omega)
 unfold widA at hW
 rw [if_pos hv,if_pos hp] at hW
 have bE:(((s.length:Int)==0)=false)\/(((s.length:Int)==0)=true/\(L==0)=false):=by
  by_cases h1:s.length=0
  ·exact .inr ⟨by simpa using h1,by rw [beq_eq_false_iff_ne];omega⟩
  ·exact .inl (by rw [beq_eq_false_iff_ne];omega)
 have b5:(decide (20<wdN m o o.length)=true)\/(decide (20<wdN m o o.length)=false/\decide (20<L)=true):=by
  simp only [decide_eq_true_eq,decide_eq_false_iff_not];omega
 rcases bE with b0|⟨b0,b1⟩<;>rcases b5 with b2|⟨b2,b3⟩
 ·refine Fn.introL [.cell 4 25, .tmp 5] Tryd.func6 rfl rfl (by decide) (by simp [Tryd.ntmps6]) ?_;rw [Tryd.ntmps6]
  repeat' (first|omega|(try apply yaa);simp only [go_sem,sevalprocAttr,b0,b2]|(refine ⟨yaf.fn (r:=?_) rfl ?_ ?_⟩;rotate_left;assumption)|(refine ⟨ya2.fn (r:=?_) rfl ?_ ?_⟩;rotate_left;assumption)|apply yad<;>(intro h_;(try simp only [h_]);revert h_)|apply yac|apply yab|apply gspI|apply And.intro|with_reducible intro h_|trivial|simp only [go_sem,la2];omega)
  all_goals exact ylk 5
 ·refine Fn.introL [.cell 4 25, .tmp 5] Tryd.func6 rfl rfl (by decide) (by simp [Tryd.ntmps6]) ?_;rw [Tryd.ntmps6]
  repeat' (first|omega|(try apply yaa);simp only [go_sem,sevalprocAttr,b0,b2,b3]|(refine ⟨yaf.fn (r:=?_) rfl ?_ ?_⟩;rotate_left;assumption)|(refine ⟨ya2.fn (r:=?_) rfl ?_ ?_⟩;rotate_left;assumption)|apply yad<;>(intro h_;(try simp only [h_]);revert h_)|apply yac|apply yab|apply gspI|apply And.intro|with_reducible intro h_|trivial|simp only [go_sem,la2];omega)
  all_goals exact ylk 5
 ·refine Fn.introL [.cell 4 25, .tmp 5] Tryd.func6 rfl rfl (by decide) (by simp [Tryd.ntmps6]) ?_;rw [Tryd.ntmps6]
  repeat' (first|omega|(try apply yaa);simp only [go_sem,sevalprocAttr,b0,b1,b2]|(refine ⟨yaf.fn (r:=?_) rfl ?_ ?_⟩;rotate_left;assumption)|(refine ⟨ya2.fn (r:=?_) rfl ?_ ?_⟩;rotate_left;assumption)|apply yad<;>(intro h_;(try simp only [h_]);revert h_)|apply yac|apply yab|apply gspI|apply And.intro|with_reducible intro h_|trivial|simp only [go_sem,la2];omega)
  all_goals exact ylk 5
 ·refine Fn.introL [.cell 4 25, .tmp 5] Tryd.func6 rfl rfl (by decide) (by simp [Tryd.ntmps6]) ?_;rw [Tryd.ntmps6]
  repeat' (first|omega|(try apply yaa);simp only [go_sem,sevalprocAttr,b0,b1,b2,b3]|(refine ⟨yaf.fn (r:=?_) rfl ?_ ?_⟩;rotate_left;assumption)|(refine ⟨ya2.fn (r:=?_) rfl ?_ ?_⟩;rotate_left;assumption)|apply yad<;>(intro h_;(try simp only [h_]);revert h_)|apply yac|apply yab|apply gspI|apply And.intro|with_reducible intro h_|trivial|simp only [go_sem,la2];omega)
  all_goals exact ylk 5
theorem yp1:Fn Tryd.prog 7 [plA false []] (.bool true):=by
 refine Fn.intro [.tmp 2] Tryd.func7 rfl rfl (by decide) (by simp [Tryd.ntmps7]) ?_;rw [Tryd.ntmps7]
 repeat' (first|omega|(try apply yaa);simp only [go_sem,sevalprocAttr]|apply yad<;>(intro h_;(try simp only [h_]);revert h_)|apply yac|apply yab|apply gspI|apply And.intro|with_reducible intro h_|trivial|simp only [go_sem,la2];omega)
end Go.Proofs.YtphjphpmfflfpaaDoor
set_option linter.unusedSimpArgs false
set_option linter.unusedVariables false
namespace Go.Proofs.YtphjphpmfflfpaaDoor
open Go Go.RowKit
set_option maxRecDepth 100000
set_option maxHeartbeats 4000000
def yv6:List (List Nat):=[[17,20,21,22,23],[16,20,21,22,23],[20,21,22,23],[20,21,22,23],[16,17,18,19,21],[16,17,18,19,20],[16,17,18,19],[16,17,18,19],[]]
theorem yp2:eq2 Tryd.prog 56=true:=by decide+kernel
theorem y38 (p:List (Int×Int)) (hl:p.length<=1000000):Fn Tryd.prog 35 [.ro 2 p.length (.lst (tmC p)), .ro 2 p.length (.lst (tmC p))] (.bool true):=by
 have hlen:=ycf p
 have b0:((p.length:Int)!=p.length)=false:=by simp
 refine Fn.intro [.tmp 4] Tryd.func35 rfl rfl (by decide) (by simp [Tryd.ntmps35]) ?_;rw [Tryd.ntmps35]
 repeat' (first|omega|(try apply yaa);simp only [go_sem,sevalprocAttr,b0]|apply yad<;>(intro h_;(try simp only [h_]);revert h_)|apply yac|apply yab|apply gspI|apply And.intro|with_reducible intro h_|trivial|simp only [go_sem,la2];omega)
 refine yak.intro (fun n fr H=> ∃k:Nat,k<=p.length/\n=p.length-k/\fr=[(13,I k),(12,I p.length),(1, .ro 2 p.length (.lst (tmC p))),(0, .ro 2 p.length (.lst (tmC p)))]/\H=[]) ?_ ?_
 ·refine ⟨_,_,_,?_,0,by omega,rfl,rfl,rfl⟩
  refine Wk.sub ?_ ?_<;>(simp only [go_sem,sevalprocAttr,yap])
 rintro n fr H ⟨k,hk,rfl,rfl,rfl⟩
 by_cases hkl:k<p.length
 ·have g0:=yd4 p k hkl
  have g1:=yhb p k hkl
  have b1:((p.getD k (0,0)).1==(p.getD k (0,0)).1)=true:=by simp
  have b2:((p.getD k (0,0)).2==(p.getD k (0,0)).2)=true:=by simp
  repeat' (first|omega|(first|apply yaa|(refine yae.intro (id:=6) yv6 [[],[0],[],[],[0,1,2,3],[0,1,2,3,4],[0,1,2,3],[0,1,2,3],[]] (by decide+kernel) mixed ?_)|skip);simp only [go_sem,sevalprocAttr,g0,g1,hlen,b1,b2,yp2,↓reduceIte,reduceCtorEq,yv6]|apply yad<;>(intro h_;(try simp only [h_]);revert h_)|apply yac|apply yab|apply gspI|apply And.intro|with_reducible intro h_|trivial|simp only [go_sem,la2];omega)
  all_goals (first|exact yp2|skip)
  refine ⟨_,_,_,?_,?_,⟨k+1,by omega,rfl,rfl,rfl⟩⟩
  ·omega
  ·refine Wk.sub ?_ ?_<;>(simp only [go_sem,sevalprocAttr,yap])
 ·obtain rfl:k=p.length:=by omega
  repeat' (first|omega|(try apply yaa);simp only [go_sem,sevalprocAttr]|apply yad<;>(intro h_;(try simp only [h_]);revert h_)|apply yac|apply yab|apply gspI|apply And.intro|with_reducible intro h_|trivial|simp only [go_sem,la2];omega)
theorem yyv (p:List (Int×Int)) (hl:p.length<=1000000):Fn Tryd.prog 12 [plA false p,plA false p] (.bool true):=by
 have hS:=y38 p hl
 refine Fn.intro [.tmp 4] Tryd.func12 rfl rfl (by decide) (by simp [Tryd.ntmps12]) ?_;rw [Tryd.ntmps12]
 repeat' (first|omega|(try apply yaa);simp only [go_sem,sevalprocAttr,yap]|apply yad<;>(intro h_;(try simp only [h_]);revert h_)|apply yac|apply yab|apply gspI|apply And.intro|with_reducible intro h_|trivial|simp only [go_sem,la2];omega)
 refine ⟨yaf.fn rfl hS ?_⟩
 repeat' (first|omega|(try apply yaa);simp only [go_sem,sevalprocAttr]|apply yad<;>(intro h_;(try simp only [h_]);revert h_)|apply yac|apply yab|apply gspI|apply And.intro|with_reducible intro h_|trivial|simp only [go_sem,la2];omega)
end Go.Proofs.YtphjphpmfflfpaaDoor
set_option linter.unusedSimpArgs false
set_option linter.unusedVariables false
namespace Go.Proofs.YtphjphpmfflfpaaDoor
open Go Go.RowKit
theorem Fn.args {P:Program} {f:Nat} {xs ys:List AV} {r:AV} (h:Fn P f ys r) (hl:LeL xs ys):Fn P f xs r:=
 ⟨h.1,fun w Mx vs hm hlen hv=>h.2 w Mx vs hm (hlen.trans hl.len) fun i v y hi hy=>by
  obtain ⟨x,hx⟩: ∃x,xs[i]?=some x:=by
   have:i<ys.length:=(List.getElem?_eq_some_iff.1 hy).1
   exact ⟨_,List.getElem?_eq_getElem (by rw [hl.len];exact this)⟩
  exact (hl.get i x y hx hy).out _ _ _ _ v (hv i v x hi hx)⟩
end Go.Proofs.YtphjphpmfflfpaaDoor
set_option linter.unusedSimpArgs false
set_option linter.unusedVariables false
namespace Go.Proofs.YtphjphpmfflfpaaDoor
open Go Go.RowKit
section
variable {P:Program}
def yll (P:Program):Op->Bool
 | .binOp .add _ _ _ _| .binOp .sub _ _ _ _| .binOp .mul _ _ _ _=>true
 |o=>yim P o
theorem yqm {o:Oper} {ev:Operand->Value} {op:BinOp} {t:TypeId} {x y:Operand} {t':TypeId} (ho:o.op= .binOp op t x y t') (hop:op= .add\/op= .sub\/op= .mul) {k k':IntKind} {a b:Int} (hx:ev x= .int k a) (hy:ev y= .int k' b):ybg P (execOp ev o):=by
 by_cases hk:k=k'
 ·subst hk
  rcases hop with rfl|rfl|rfl
  ·exact .inl ⟨.value (.int k (k.wrap (a+b))),fun w=>by simp only [execOp,ho,hx,hy];simp [ya5,binOp,Op.intArith]⟩
  ·exact .inl ⟨.value (.int k (k.wrap (a-b))),fun w=>by simp only [execOp,ho,hx,hy];simp [ya5,binOp,Op.intArith]⟩
  ·exact .inl ⟨.value (.int k (k.wrap (a*b))),fun w=>by simp only [execOp,ho,hx,hy];simp [ya5,binOp,Op.intArith]⟩
 ·refine .inr fun w r w1 h=>?_
  simp only [execOp,ho,hx,hy] at h
  rcases hop with rfl|rfl|rfl<;>simp [ya5,binOp,hk,Go.stuck] at h
theorem yv7 {o:Oper} {ev:Operand->Value} {op:BinOp} {t:TypeId} {x y:Operand} {t':TypeId} (ho:o.op= .binOp op t x y t') (hop:op= .add) {a b:ByteArray} (hx:ev x= .string a) (hy:ev y= .string b):ybg P (execOp ev o):=by
 subst hop
 by_cases hk:(9223372036854775807:Int)<(a.size:Int)+b.size
 ·refine .inr fun w r w1 h=>?_
  simp only [execOp,ho,hx,hy] at h
  simp [yb0,binOp,Op.stringOp,unsupported,hk] at h
 ·exact .inl ⟨.value (.string (a++b)),fun w=>by simp only [execOp,ho,hx,hy];simp [yb0,binOp,Op.stringOp];omega⟩
theorem yp3 {o:Oper} (h:yll P o.op=true) {w:World} {M:Nat->Prop} {ρ:Nat->Addr} {D:Nat->Prop} {a:Act} {fr:Fr} {H:Hp} (hev: ∀x,VR w M ρ D (a.eval x) (evA fr x)) {p:Prop} {r:AV} (hq:quF P H (evA fr) o.op=some (p,r)):ybg P (execOp a.eval o):=by
 cases ho:o.op with
 |binOp op t x y t'=>
  rw [ho] at h hq
  simp only [quF,opF] at hq
  have hop:op= .add\/op= .sub\/op= .mul:=by cases op<;>simp_all [yll,yim]
  have hx:=hev x
  have hy:=hev y
  generalize evA fr x=X at*
  generalize evA fr y=Y at*
  cases X with
  |int k n=>
   cases Y with
   |int k' n'=>exact yqm ho hop hx.int_inv hy.int_inv
   |_=>exfalso;rcases hop with rfl|rfl|rfl<;>simp [binF,yfa,yeh] at hq
  |str b=>
   cases Y with
   |str b'=>
    rcases hop with rfl|rfl|rfl
    ·exact yv7 ho rfl hx.str_inv hy.str_inv
    ·simp [binF] at hq
    ·simp [binF] at hq
   |_=>exfalso;rcases hop with rfl|rfl|rfl<;>simp [binF,yfa,yeh] at hq
  |agg xs=>
   exfalso
   cases Y with
   |agg ys=>
    simp only [binF,yeh] at hq
    rcases hop with rfl|rfl|rfl<;>(repeat' split at hq)<;>simp_all
   |_=>rcases hop with rfl|rfl|rfl<;>simp [binF,yfa,yeh] at hq
  |_=>exfalso;cases Y<;>rcases hop with rfl|rfl|rfl<;>simp [binF,yfa,yeh] at hq
 |_=>rw [ho] at h;exact yjh (by rw [ho];exact h) a.eval
theorem yte {o:Oper} (h:yll P o.op=true) {N:Nat} {fr:Fr} {H:Hp} {K:Fr->Hp->Prop} (hq:awO P N o fr H K): ∃p r,quF P H (evA fr) o.op=some (p,r)/\p/\dok o.dst N=true/\K (fput fr o.dst r) H:=by
 cases ho:o.op with
 |binOp op t x y t'=>
  obtain ⟨_,hq⟩:=hq
  rw [←ho]
  split at hq
  ·rename_i p r e;exact ⟨p,r,e,hq⟩
  ·rename_i e
   exfalso
   simp only [ho,alF,awX,spOp] at hq
   exact absurd hq.1 (by decide)
 |_=>rw [←ho];exact ymx (by rw [ho] at h;rw [ho];exact h) hq
end
def eagF (P:Program) (ops:Array Oper) (listed:Array Bool):List (Nat×Tr)->Bool
 |[(i,_)]=>Region.free .any ops listed i&&(Region.ready .any ops listed).contains i&&(match ops[i]? with|some o=>o.guard.isNone&&yll P o.op|none=>false)
 |_=>false
mutual
def chkF (P:Program) (ops:Array Oper) (listed:Array Bool):Nat->Tr->Bool
 |0, .done=>(Region.ready .any ops listed).isEmpty
 |f+1, .node l=>(eagF P ops listed l||(!(Region.ready .any ops listed).isEmpty&&(Region.ready .any ops listed==l.map (·.1))))&&ynk P ops listed f l
 |_,_=>false
def ynk (P:Program) (ops:Array Oper) (listed:Array Bool) (f:Nat):List (Nat×Tr)->Bool
 |[]=>true
 |(i,t)::r=>chkF P ops (listed.setIfInBounds i true) f t&&ynk P ops listed f r
end
theorem yh6 {P:Program} {ops:Array Oper} {listed:Array Bool} {f:Nat}: ∀(l:List (Nat×Tr)),ynk P ops listed f l=true-> ∀q∈l,chkF P ops (listed.setIfInBounds q.1 true) f q.2=true
 |[],_,q,hq=>by cases hq
 |(i,t)::r,h,q,hq=>by
  simp only [ynk,Bool.and_eq_true] at h
  rcases List.mem_cons.1 hq with e|e
  ·subst e;exact h.1
  ·exact yh6 r h.2 q e
theorem yv8 {P:Program} {N:Nat} {ops:Array Oper} {B:Nat} {w0:ya1} {Mx:Nat->Prop} {K:Fr->Hp->Prop} (hsel:Region.noSelect ops=true) (Q:Exit->Act->World->Prop) (hP: ∀c a w,¬Q (.panic c) a w) (hQ: ∀a' w' ρ' fr' H',K fr' H'->Sim B w0 Mx N w' ρ' fr' H' a'->Q .normal a' w'): ∀(f:Nat) (t:Tr) (listed:Array Bool) (w:World) (ρ:Nat->Addr) (fr:Fr) (H:Hp) (a:Act),chkF P ops listed f t=true->awT P N ops t fr H K->Sim B w0 Mx N w ρ fr H a->wpAny P .any ops Q f listed a w:=by
 intro f
 induction f with
 |zero=>
  intro t listed w ρ fr H a hc h hs
  cases t with
  |done=>
   simp only [chkF,List.isEmpty_iff] at hc
   simp only [awT] at h
   exact ⟨hc,hQ _ _ ρ _ _ h hs⟩
  |node l=>simp [chkF] at hc
 |succ f ih=>
  intro t listed w ρ fr H a hc h hs
  cases t with
  |done=>simp [chkF] at hc
  |node l=>
   simp only [chkF,Bool.and_eq_true,Bool.or_eq_true] at hc
   obtain ⟨hc1,hc2⟩:=hc
   simp only [awT] at h
   rcases hc1 with hc1|hc1
   ·unfold eagF at hc1
    split at hc1
    ·rename_i i t'
     simp only [Bool.and_eq_true] at hc1
     obtain ⟨⟨hf,hr⟩,ho⟩:=hc1
     cases hoi:ops[i]? with
     |none=>rw [hoi] at ho;cases ho
     |some o=>
      rw [hoi] at ho
      simp only [Bool.and_eq_true,Option.isNone_iff_eq_none] at ho
      have h1:=yd0 _ h (i,t') (List.mem_singleton.2 rfl)
      have h2:=yh6 _ hc2 (i,t') (List.mem_singleton.2 rfl)
      simp only [hoi,Option.toList_some,awL,ho.1] at h1
      obtain ⟨p,r,hq,hp,hd,hk⟩:=yte ho.2 h1
      obtain ⟨v,hrun,hv⟩:=yek (P:=P) (o:=o) (a:=a) hs.objs hs.ev (fun s d x e=>by rw [e] at ho;cases ho.2) hq hp
      have hw:Region.wanted o (yielded ops a.tmps)=true:=by simp [Region.wanted,ho.1]
      have hy:Yields P ops o v a:= .inl ⟨hw,fun w'=>by
       rcases yp3 ho.2 hs.ev hq with ⟨r',hr'⟩|hn
       ·have:=hr' w;rw [hrun] at this;cases this;exact hr' w'
       ·exact absurd hrun (hn _ _ _)⟩
      exact wpAny_take hoi hsel hf hr (fun c a w h=>absurd h (hP c _ _)) hy (ih t' _ w ρ _ _ _ h2 hk (hs.put hd hv))
    ·cases hc1
   ·simp only [Bool.and_eq_true,Bool.not_eq_true',beq_iff_eq] at hc1
    refine ⟨fun hnil=>by rw [hnil] at hc1;simp at hc1,fun i hi=>?_⟩
    rw [hc1.2] at hi
    obtain ⟨q,hq,rfl⟩:=List.mem_map.1 hi
    have h1:=yd0 l h q hq
    have h2:=yh6 l hc2 q hq
    have hr:q.1∈Region.ready .any ops listed:=by rw [hc1.2];exact List.mem_map_of_mem hq
    obtain ⟨_,o,g2,_⟩:=mem_ready.1 hr
    rw [g2] at h1
    exact yg1 g2 h1 hs _ _ fun a' w' ρ' fr' H' hk hs'=>ih q.2 _ w' ρ' fr' H' a' h2 hk hs'
theorem yae.introF {P:Program} {N:Nat} {ops:Array Oper} {id:Nat} {fr:Fr} {H:Hp} {Q:Exit->Fr->Hp->Prop} (t:Tr) (hchk:(chkF P ops (Array.replicate ops.size false) ops.size t&&Region.noSelect ops)=true) (hm:P.follows .mixedOrders=true)
  (h:awT P N ops t fr H (Q .normal)):yae P N id ops fr H Q:=by
 simp only [Bool.and_eq_true] at hchk
 refine ⟨fun B w0 Mx w ρ a hs=>wp_mono (wp_region_any (Q:=yzd fun a' w'=> ∃ρ' fr' H',Q .normal fr' H'/\Sim B w0 Mx N w' ρ' fr' H' a') hm (yv8 hchk.2 _ (fun _ _ _ h=>h) (fun _ _ ρ' fr' H' hk hs'=>⟨ρ',fr',H',hk,hs'⟩) ops.size t _ _ ρ fr H a hchk.1 h hs.draw)) fun e a' w' h=>?_⟩
 cases e<;>first|exact h|exact h.elim
end Go.Proofs.YtphjphpmfflfpaaDoor
