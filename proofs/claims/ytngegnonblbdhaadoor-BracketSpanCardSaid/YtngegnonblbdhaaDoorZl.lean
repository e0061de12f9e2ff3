/- Layer 12: the text of a polynomial, as a contract. -/
import Derived.Test.YtngegnonblbdhaaDoorTx3
import Derived.Test.YtngegnonblbdhaaDoorZc
import Derived.Test.YtngegnonblbdhaaDoorZk
import Derived.Test.YtngegnonblbdhaaDoorZg
import Derived.Test.YtngegnonblbdhaaDoorZj
import Derived.Test.YtngegnonblbdhaaDoorZh
set_option linter.unusedSimpArgs false
set_option linter.unusedVariables false
namespace Go.Proofs.YtngegnonblbdhaaDoor
open Go Go.RowKit
set_option maxRecDepth 100000
set_option maxHeartbeats 4000000
def cok (p:List (Int×Int)):Prop:= ∀k,k<p.length-> -4611686018427387904<=(p.getD k (0,0)).1/\(p.getD k (0,0)).1<=4611686018427387904/\ -4611686018427387904<=(p.getD k (0,0)).2/\(p.getD k (0,0)).2<=4611686018427387904
def txtB (name:List UInt8) (p:List (Int×Int)):List UInt8:=if p.length=0 then [48] else txtN name p p.length
theorem yxd (name:ByteArray):Fn Tryd.prog 14 [plA false [], .str name] (.str ⟨#[48]⟩):=by
 refine Fn.intro [.tmp 4] Tryd.func14 rfl rfl (by decide) (by simp [Tryd.ntmps14]) ?_;rw [Tryd.ntmps14]
 repeat' (first|omega|(try apply yaa);simp only [go_sem,sevalprocAttr]|apply yab<;>(intro h_;(try simp only [h_]);revert h_)|apply And.intro|with_reducible intro h_|trivial|simp only [go_sem,la2];omega)
theorem yxe (p:List (Int×Int)) (name:ByteArray) (hp0:0<p.length) (hr:cok p) (hn:name.size<=1000) (hpl:p.length<=1000000):
  Fn Tryd.prog 14 [plA false p, .str name] (.str ⟨(txtN name.data.toList p p.length).toArray⟩):=by
 refine ⟨⟨_,Tryd.func14,rfl,by decide⟩,fun w Mx vs hMx hl hv=>?_⟩
 match vs,hl with
 |[v0,v1],_=>
  have h0:=hv 0 v0 _ rfl rfl
  have h1:=(hv 1 v1 _ rfl rfl).str_inv
  subst h1
  obtain ⟨us,rfl,hul,hu⟩:=h0.agg_inv
  match us,hul with
  |[u0,u1],_=>
   have k0:=(hu 0 u0 _ rfl rfl).bool_inv
   have k1:=hu 1 u1 _ rfl rfl
   subst k0
   cases k1 with
   |ro _ _ _ ad cap x hlen hcap _ hcell hx=>
    obtain ⟨a,rfl,hb,_,hj⟩:=hcell hp0
    have hcl:(Cs.lst (tmC p)).len=2*p.length:=yb9 p
    refine (yuf p name a cap w hp0 hMx.1 hb (fun k hk=>?_) hr hn hpl).mono ?_
    ·have e0:=hx (k*2) (by omega)
     have e1:=hx (k*2+1) (by omega)
     rw [show (Cs.lst (tmC p)).get (k*2)=(tmC p).getD (k*2) .any from rfl,ydg p k hk] at e0
     rw [show (Cs.lst (tmC p)).get (k*2+1)=(tmC p).getD (k*2+1) .any from rfl,yfl p k hk] at e1
     refine ⟨?_,?_⟩
     ·rw [hj _ (by omega),e0.int_inv]
     ·rw [hj _ (by omega),e1.int_inv]
    ·rintro e w' ⟨rfl,hb'⟩
     exact ⟨_,rfl,hb', .str _⟩
theorem yql (p:List (Int×Int)) (name:ByteArray) (hr:cok p) (hn:name.size<=1000) (hpl:p.length<=1000000):
  Fn Tryd.prog 14 [plA false p, .str name] (.str ⟨(txtB name.data.toList p).toArray⟩):=by
 unfold txtB
 split
 ·obtain rfl:p=[]:=List.eq_nil_of_length_eq_zero (by assumption)
  exact yxd name
 ·exact yxe p name (by omega) hr hn hpl
end Go.Proofs.YtngegnonblbdhaaDoor
set_option linter.unusedSimpArgs false
set_option linter.unusedVariables false
namespace Go.Proofs.YtngegnonblbdhaaDoor
open Go Go.RowKit
set_option maxRecDepth 100000
set_option maxHeartbeats 8000000
theorem yok:Fn Tryd.prog 13 [] (dgA [1,1,1] [9,4,7,10,1,8,11,2,5,0,3,6] 0):=by
 refine Fn.introL [.cell 0 24] Tryd.func13 rfl rfl (by decide) (by simp [Tryd.ntmps13]) ?_;rw [Tryd.ntmps13]
 repeat' (first|omega|(try apply yaa);simp only [go_sem,sevalprocAttr]|apply yab<;>(intro h_;(try simp only [h_]);revert h_)|apply And.intro|with_reducible intro h_|trivial|simp only [go_sem,la2];omega)
 all_goals exact LeA.refl _
theorem y3d:Fn Tryd.prog 14 [plA false [(3,-1)], .str ⟨#[65]⟩] (.str ⟨#[45,65,94,51]⟩):=by
 have h:=yql [(3,-1)] ⟨#[65]⟩ (fun k hk=>by
  match k,hk with
  |0,_=>decide) (by decide) (by decide)
 rw [show (⟨#[65]⟩:ByteArray).data.toList=[65] from rfl,show txtB [65] [(3,-1)]=[45,65,94,51] by decide+kernel] at h
 exact h
theorem y3e:Fn Tryd.prog 14 [plA false [(-7,1),(-3,-1),(5,-1)], .str ⟨#[65]⟩] (.str ⟨#[65,94,45,55,45,65,94,45,51,45,65,94,53]⟩):=by
 have h:=yql [(-7,1),(-3,-1),(5,-1)] ⟨#[65]⟩ (fun k hk=>by
  match k,hk with
  |0,_=>decide
  |1,_=>decide
  |2,_=>decide) (by decide) (by decide)
 rw [show (⟨#[65]⟩:ByteArray).data.toList=[65] from rfl,show txtB [65] [(-7,1),(-3,-1),(5,-1)]=[65,94,45,55,45,65,94,45,51,45,65,94,53] by decide+kernel] at h
 exact h
theorem yr0:Fn Tryd.prog 4 [] (.bool true):=by
 have h1:=y17
 have h3:=y18
 refine Fn.introL [.tmp 0] Tryd.func4 rfl rfl (by decide) (by simp [Tryd.ntmps4]) ?_;rw [Tryd.ntmps4]
 repeat' (first|omega|(try apply yaa);simp only [go_sem,sevalprocAttr]|apply yab<;>(intro h_;(try simp only [h_]);revert h_)|apply And.intro|with_reducible intro h_|trivial|simp only [go_sem,la2];omega)
 refine ⟨yad.frz [0,1] rfl (by simp only [go_sem,sevalprocAttr]) (by simp only [go_sem,sevalprocAttr]) (by simp only [go_sem,sevalprocAttr]) (by simp only [go_sem,sevalprocAttr]) rfl rfl rfl (yad.fn rfl h1 ?_)⟩
 repeat' (first|omega|(try apply yaa);simp only [go_sem,sevalprocAttr]|apply yab<;>(intro h_;(try simp only [h_]);revert h_)|apply And.intro|with_reducible intro h_|trivial|simp only [go_sem,la2];omega)
 refine ⟨yad.fn rfl yok ?_⟩
 repeat' (first|omega|(try apply yaa);simp only [go_sem,sevalprocAttr]|apply yab<;>(intro h_;(try simp only [h_]);revert h_)|apply And.intro|with_reducible intro h_|trivial|simp only [go_sem,la2];omega)
 refine ⟨yad.fn rfl h3 ?_⟩
 repeat' (first|omega|(try apply yaa);simp only [go_sem,sevalprocAttr]|apply yab<;>(intro h_;(try simp only [h_]);revert h_)|apply And.intro|with_reducible intro h_|trivial|simp only [go_sem,la2];omega)
 refine ⟨yad.fn rfl y3d ?_⟩
 repeat' (first|omega|(try apply yaa);simp only [go_sem,sevalprocAttr]|apply yab<;>(intro h_;(try simp only [h_]);revert h_)|apply And.intro|with_reducible intro h_|trivial|simp only [go_sem,la2];omega)
 refine ⟨yad.fn rfl y3e ?_⟩
 repeat' (first|omega|(try apply yaa);simp only [go_sem,sevalprocAttr]|apply yab<;>(intro h_;(try simp only [h_]);revert h_)|apply And.intro|with_reducible intro h_|trivial|simp only [go_sem,la2];omega)
 all_goals exact LeA.refl _
end Go.Proofs.YtngegnonblbdhaaDoor
set_option linter.unusedSimpArgs false
set_option linter.unusedVariables false
namespace Go.Proofs.YtngegnonblbdhaaDoor
open Go Go.RowKit
set_option maxHeartbeats 8000000
set_option maxRecDepth 100000
def ymq:List (List Nat):=[[25,26,29,30,31,32,33,34],[24,29,30,31,32,33,34],[24,29,30,31,32,33,34],[29,30,31,32,33,34],[29,30,31,32,33,34],[24,25,26,27,28,30,31,32],[24,25,26,27,28,29],[24,25,26,27,28,29],[24,25,26,27,28,29],[24,25,26,27,28],[24,25,26,27,28],[]]
def ymr:List (List Nat):=[[],[0],[0],[],[],[0,1,2,3,4],[0,1,2,3,4,5],[0,1,2,3,4,5],[0,1,2,3,4,5],[0,1,2,3,4],[0,1,2,3,4],[]]
theorem yol (p:Bool) (c:Nat):Fn Tryd.prog 21 [I c, .rp (.lst [.bool p]) 0] (.bool (!p)):=by
 refine Fn.intro [.tmp 3] Tryd.func21 rfl rfl (by decide) (by simp [Tryd.ntmps21]) ?_;rw [Tryd.ntmps21]
 repeat' (first|omega|(try apply yaa);simp only [go_sem,sevalprocAttr]|apply yab<;>(intro h_;(try simp only [h_]);revert h_)|apply And.intro|with_reducible intro h_|trivial|simp only [go_sem,la2];omega)
def adqN (R:List Int):Nat->Bool
 |0=>true
 |k+1=>adqN R k&& !(R.getD (4*k) 0==R.getD (4*k+2) 0)
theorem ymb {R:List Int}: ∀{k n:Nat},k<=n->adqN R n=true->adqN R k=true
 |k,0,h,_=>by have:k=0:=by omega
              subst this;rfl
 |k,n+1,h,ht=>by
  by_cases e:k=n+1
  ·subst e;exact ht
  ·simp only [adqN,Bool.and_eq_true] at ht
   exact ymb (by omega) ht.1
theorem yi3 (s m:List Int) (L:Int) (p:Bool) (hs:s.length<=14):
  Fn Tryd.prog 9 [dgA s m L, .bool p] (.tup [.bool (yao s m L&&adqN (mgB m (fun _=> !p) s.length) s.length),I (if yao s m L then 0 else 1)]):=by
 have hV:=ych s m L
 cases hv:yao s m L with
 |false=>
  rw [hv] at hV
  simp only [Bool.false_eq_true,if_false,Bool.false_and]
  refine Fn.introL [.tmp 4, .tmp 5] Tryd.func9 rfl rfl (by decide) (by simp [Tryd.ntmps9]) ?_;rw [Tryd.ntmps9]
  repeat' (first|omega|(try apply yaa);simp only [go_sem,sevalprocAttr]|apply yab<;>(intro h_;(try simp only [h_]);revert h_)|apply And.intro|with_reducible intro h_|trivial|simp only [go_sem,la2];omega)
  refine ⟨yad.fn rfl hV ?_⟩
  repeat' (first|omega|(try apply yaa);simp only [go_sem,sevalprocAttr]|apply yab<;>(intro h_;(try simp only [h_]);revert h_)|apply And.intro|with_reducible intro h_|trivial|simp only [go_sem,la2];omega)
  all_goals exact LeA.refl _
 |true=>
  rw [hv] at hV
  simp only [if_true,Bool.true_and]
  have v1:=yb8 hv
  have hM:=yoe s m L 21 [.rp (.lst [.bool p]) 0] (fun _=> !p) (by omega) v1.prd.ok rfl (fun c _=>yol p c)
  have hrl: ∀k,(mgB m (fun _=> !p) k).length=m.length:=by
   have ha: ∀k,(mgA m k).length=m.length:=by
    intro k
    induction k with
    |zero=>simp [mgA]
    |succ k ih=>simp only [mgA];split<;>simp [yfz,ih]
   intro k
   induction k with
   |zero=>simp [mgB,ha]
   |succ k ih=>simp only [mgB];split<;>simp [yfz,ih]
  have hRl:=hrl s.length
  have hml:=v1.len
  generalize mgB m (fun _=> !p) s.length=R at*
  refine Fn.introL [.tmp 4, .tmp 5] Tryd.func9 rfl rfl (by decide) (by simp [Tryd.ntmps9]) ?_;rw [Tryd.ntmps9]
  repeat' (first|omega|(try apply yaa);simp only [go_sem,sevalprocAttr]|apply yab<;>(intro h_;(try simp only [h_]);revert h_)|apply And.intro|with_reducible intro h_|trivial|simp only [go_sem,la2];omega)
  refine ⟨yad.fn rfl hV ?_⟩
  repeat' (first|omega|(try apply yaa);simp only [go_sem,sevalprocAttr]|apply yab<;>(intro h_;(try simp only [h_]);revert h_)|apply And.intro|with_reducible intro h_|trivial|simp only [go_sem,la2];omega)
  refine ⟨yad.frz [1] rfl (by simp only [go_sem,sevalprocAttr]) (by simp only [go_sem,sevalprocAttr]) (by simp only [go_sem,sevalprocAttr]) (by simp only [go_sem,sevalprocAttr]) rfl rfl rfl (yad.fn rfl hM ?_)⟩
  repeat' (first|omega|(try apply yaa);simp only [go_sem,sevalprocAttr]|apply yab<;>(intro h_;(try simp only [h_]);revert h_)|apply And.intro|with_reducible intro h_|trivial|simp only [go_sem,la2];omega)
  refine yak.intro (fun n fr H=> ∃k:Nat,k<=s.length/\n=s.length-k/\adqN R k=true/\fr=[(21,I k),(20,I s.length),(6,roI R)]/\H=[]) ?_ ?_
  ·refine ⟨_,_,_,?_,0,by omega,rfl,rfl,rfl,rfl⟩
   refine Wk.sub ?_ ?_<;>simp only [go_sem,sevalprocAttr]
   all_goals simp_all
  rintro n fr H ⟨k,hk,rfl,hd,rfl,rfl⟩
  by_cases hkl:k<s.length
  ·have e0:(4*(k:Int)).toNat=4*k:=by omega
   have e2:(4*(k:Int)+2).toNat=4*k+2:=by omega
   cases hq:(R.getD (4*k) 0==R.getD (4*k+2) 0) with
   |true=>
    have hf:adqN R s.length=false:=by
     cases hz:adqN R s.length with
     |false=>rfl
     |true=>
      have:=ymb (k:=k+1) (by omega) hz
      simp only [adqN,hq,Bool.not_true,Bool.and_false,Bool.false_eq_true] at this
    rw [hf]
    repeat' (first|omega|(first|apply yaa|(refine yac.intro (id:=7) ymq ymr (by decide+kernel) mixed ?_)|skip);simp only [go_sem,sevalprocAttr,e0,e2,hq,↓reduceIte,reduceCtorEq,ymq,ymr]|apply yab<;>(intro h_;(try simp only [h_]);revert h_)|apply And.intro|with_reducible intro h_|trivial|simp only [go_sem,la2];omega)
    all_goals exact LeA.refl _
   |false=>
    repeat' (first|omega|(first|apply yaa|(refine yac.intro (id:=7) ymq ymr (by decide+kernel) mixed ?_)|skip);simp only [go_sem,sevalprocAttr,e0,e2,hq,↓reduceIte,reduceCtorEq,ymq,ymr]|apply yab<;>(intro h_;(try simp only [h_]);revert h_)|apply And.intro|with_reducible intro h_|trivial|simp only [go_sem,la2];omega)
    refine ⟨_,_,_,?_,?_,⟨k+1,by omega,rfl,by simp only [adqN,hd,hq];rfl,rfl,rfl⟩⟩
    ·omega
    ·refine Wk.sub ?_ ?_<;>simp only [go_sem,sevalprocAttr]
     all_goals simp_all
  ·obtain rfl:k=s.length:=by omega
   rw [hd]
   repeat' (first|omega|(try apply yaa);simp only [go_sem,sevalprocAttr]|apply yab<;>(intro h_;(try simp only [h_]);revert h_)|apply And.intro|with_reducible intro h_|trivial|simp only [go_sem,la2];omega)
   all_goals exact LeA.refl _
end Go.Proofs.YtngegnonblbdhaaDoor
set_option linter.unusedSimpArgs false
set_option linter.unusedVariables false
namespace Go.Proofs.YtngegnonblbdhaaDoor
open Go Go.RowKit
set_option maxRecDepth 100000
set_option maxHeartbeats 8000000
theorem yjo:LeA (.agg [.bool false, .nils]) (plA false []):=LeA.aggL (.cons (LeA.refl _) (.cons (LeA.nils (by omega) rfl) .nil))
theorem ypg (s m:List Int) (L:Int) (hv:yao s m L=true) (h0: ¬(s.length=0/\L=0)) (h:14<s.length\/20<L):Fn Tryd.prog 12 [dgA s m L] (.tup [plA false [],I 5]):=by
 have hV:=ych s m L
 rw [hv] at hV
 by_cases hs:s.length=0
 ·have b0:((s.length:Int)==0)=true:=by simp [hs]
  have b1:(L==0)=false:=by rw [beq_eq_false_iff_ne];omega
  have b2:decide ((14:Int)<s.length)=false:=by simp;omega
  have b3:decide ((20:Int)<L)=true:=by simp;omega
  refine Fn.introL [.cell 2 36, .tmp 3] Tryd.func12 rfl rfl (by decide) (by simp [Tryd.ntmps12]) ?_;rw [Tryd.ntmps12]
  repeat' (first|omega|(try apply yaa);simp only [go_sem,sevalprocAttr]|apply yab<;>(intro h_;(try simp only [h_]);revert h_)|apply And.intro|with_reducible intro h_|trivial|simp only [go_sem,la2];omega)
  all_goals refine ⟨yad.fn rfl hV ?_⟩
  all_goals (repeat' (first|omega|(try apply yaa);simp only [go_sem,sevalprocAttr,b0,b1,b2,b3]|apply yab<;>(intro h_;(try simp only [h_]);revert h_)|apply And.intro|with_reducible intro h_|trivial|simp only [go_sem,la2];omega))
  all_goals exact LeA.tupL (.cons yjo (.cons (LeA.refl _) .nil))
 ·have b0:((s.length:Int)==0)=false:=by rw [beq_eq_false_iff_ne];omega
  by_cases h14:14<s.length
  ·have b2:decide ((14:Int)<s.length)=true:=by simp;omega
   refine Fn.introL [.cell 2 36, .tmp 3] Tryd.func12 rfl rfl (by decide) (by simp [Tryd.ntmps12]) ?_;rw [Tryd.ntmps12]
   repeat' (first|omega|(try apply yaa);simp only [go_sem,sevalprocAttr]|apply yab<;>(intro h_;(try simp only [h_]);revert h_)|apply And.intro|with_reducible intro h_|trivial|simp only [go_sem,la2];omega)
   all_goals refine ⟨yad.fn rfl hV ?_⟩
   all_goals (repeat' (first|omega|(try apply yaa);simp only [go_sem,sevalprocAttr,b0,b2]|apply yab<;>(intro h_;(try simp only [h_]);revert h_)|apply And.intro|with_reducible intro h_|trivial|simp only [go_sem,la2];omega))
   all_goals exact LeA.tupL (.cons yjo (.cons (LeA.refl _) .nil))
  ·have b2:decide ((14:Int)<s.length)=false:=by simp;omega
   have b3:decide ((20:Int)<L)=true:=by simp;omega
   refine Fn.introL [.cell 2 36, .tmp 3] Tryd.func12 rfl rfl (by decide) (by simp [Tryd.ntmps12]) ?_;rw [Tryd.ntmps12]
   repeat' (first|omega|(try apply yaa);simp only [go_sem,sevalprocAttr]|apply yab<;>(intro h_;(try simp only [h_]);revert h_)|apply And.intro|with_reducible intro h_|trivial|simp only [go_sem,la2];omega)
   all_goals refine ⟨yad.fn rfl hV ?_⟩
   all_goals (repeat' (first|omega|(try apply yaa);simp only [go_sem,sevalprocAttr,b0,b2,b3]|apply yab<;>(intro h_;(try simp only [h_]);revert h_)|apply And.intro|with_reducible intro h_|trivial|simp only [go_sem,la2];omega))
   all_goals exact LeA.tupL (.cons yjo (.cons (LeA.refl _) .nil))
def yms (s m:List Int) (L:Int):Bool:=(decide (9<s.length)&&decide (s.length<=14))||(decide (60<m.length)||(decide (10<L)&&decide (L<=20)))
theorem yr1 (s m:List Int) (L:Int):Fn Tryd.prog 5 [dgA s m L] (.bool (yms s m L)):=by
 have e1:decide ((9:Int)<s.length)=decide (9<s.length):=decide_eq_decide.2 (by omega)
 have e2:decide ((s.length:Int)<=14)=decide (s.length<=14):=decide_eq_decide.2 (by omega)
 have e3:decide ((60:Int)<m.length)=decide (60<m.length):=decide_eq_decide.2 (by omega)
 unfold yms
 generalize decide (9<s.length)=x1 at*
 generalize decide (s.length<=14)=x2 at*
 generalize decide (60<m.length)=x3 at*
 obtain ⟨x4,e4⟩: ∃x,decide (10<L)=x:=⟨_,rfl⟩
 obtain ⟨x5,e5⟩: ∃x,decide (L<=20)=x:=⟨_,rfl⟩
 rw [e4,e5]
 refine Fn.intro [.tmp 2] Tryd.func5 rfl rfl (by decide) (by simp [Tryd.ntmps5]) ?_;rw [Tryd.ntmps5]
 cases x1<;>cases x2<;>cases x3<;>cases x4<;>cases x5
 all_goals (repeat' (first|omega|(try apply yaa);simp only [go_sem,sevalprocAttr,e1,e2,e3,e4,e5]|apply yab<;>(intro h_;(try simp only [h_]);revert h_)|apply And.intro|with_reducible intro h_|trivial|simp only [go_sem,la2];omega))
end Go.Proofs.YtngegnonblbdhaaDoor
namespace Go.Proofs.YtngegnonblbdhaaDoor
set_option linter.unusedSimpArgs false
set_option linter.unusedVariables false
theorem y19 {k i:Nat} (h:k<2^i):chB k i=false:=by unfold chB;rw [Nat.div_eq_of_lt h];rfl
theorem y0h {k i c:Nat} (hc:c<i):chB (2^i+k) c=chB k c:=by
 unfold chB
 obtain ⟨d,rfl⟩: ∃d,i=c+(d+1):=⟨i-c-1,by omega⟩
 rw [Nat.pow_add,Nat.mul_add_div (Nat.pow_pos (by omega)),Nat.pow_succ]
 congr 1;omega
theorem y0i {k i:Nat} (h:k<2^i):chB (2^i+k) i=true:=by
 unfold chB
 have:=Nat.mul_add_div (m:=2^i) (Nat.pow_pos (by omega)) 1 k
 rw [Nat.mul_one,Nat.div_eq_of_lt h] at this
 rw [this];rfl
end Go.Proofs.YtngegnonblbdhaaDoor
namespace Go.Proofs.YtngegnonblbdhaaDoor
set_option linter.unusedSimpArgs false
set_option linter.unusedVariables false
def evL:List (Int×Int)->Int
 |[]=>0
 |t::p=>t.2+evL p
def evF (f:Int->Int) (M:Nat):Int:=sm (fun i=>f ((i:Int)-M)) (2*M+1)
theorem yqm (M:Nat): ∀(p:List (Int×Int)),(∀t∈p,-(M:Int)<=t.1/\t.1<=M)->evF (cfL p) M=evL p
 |[],_=>by unfold evF;simp only [cfL,evL];rw [ybp];omega
 |t::p,h=>by
  have ih:=yqm M p fun u hu=>h u (List.mem_cons_of_mem _ hu)
  have ht:=h t (List.mem_cons_self ..)
  unfold evF at ih⊢
  simp only [cfL,evL]
  rw [yc7,ih,ygh (a:=(t.1+M).toNat) (by omega) fun x hx hne=>if_neg (by omega),if_pos (by omega)]
theorem ylg (M:Nat): ∀(j:Nat) (a:Int),-(M:Int)+2*j<=a->a+2*j<=M->evF (fun e=>dpw j (e-a)) M=(-2)^j
 |0,a,h1,h2=>by
  unfold evF
  simp only [dpw]
  rw [ygh (a:=(a+M).toNat) (by omega) fun x hx hne=>if_neg (by omega),if_pos (by omega)];rfl
 |j+1,a,h1,h2=>by
  have e1:=ylg M j (a-2) (by omega) (by omega)
  have e2:=ylg M j (a+2) (by omega) (by omega)
  have:evF (fun e=>dpw (j+1) (e-a)) M=evF (fun e=> -1*dpw j (e-(a-2))+ -1*dpw j (e-(a+2))) M:=by
   unfold evF
   refine ybb fun x hx=>?_
   simp only [dpw,dml]
   rw [show (x:Int)-M-a+2=(x:Int)-M-(a-2) by omega,show (x:Int)-M-a-2=(x:Int)-M-(a+2) by omega];omega
  rw [this]
  unfold evF at e1 e2⊢
  rw [yc7,yke,yke,e1,e2,Int.pow_succ];omega
theorem y0j {K:Nat} {c:Nat->Nat} {w:Nat->Int} (j M:Nat) (h: ∀k,k<K->j<=c k-> -(M:Int)+2*((c k:Int)-j)<=w k/\w k+2*((c k:Int)-j)<=M):evF (hrT K c w j) M=sm (fun k=>if j<=c k then (-2)^(c k-j) else 0) K:=by
 unfold evF hrT
 rw [yld]
 refine ybb fun k hk=>?_
 by_cases hj:j<=c k
 ·have:=h k hk hj
  simp only [if_pos hj]
  exact ylg M (c k-j) (w k) (by omega) (by omega)
 ·simp only [if_neg hj];rw [ybp];omega
def stX (n i k:Nat) (c:Nat):Nat:=if c<i then nb01 (chB k c) else if c<n then 2 else 0
section
variable {m:List Int} {n:Nat} (hp:PmOk m n)
include hp
theorem yx1 (hn:0<n) (L:Nat): ∀i,i<=n->sm (fun k=>(-2:Int)^(cir3 m n (stX n i k)+L-1)) (2^i)=(-1)^i*(-2:Int)^(cir3 m n (stX n 0 0)+L-1)
 |0,_=>by simp [sm]
 |i+1,hi=>by
  have ih:=yx1 hn L i (by omega)
  rw [Nat.pow_succ,Nat.mul_two,ynx,←yc7]
  have key:sm (fun k=>(-2:Int)^(cir3 m n (stX n (i+1) k)+L-1)+(-2:Int)^(cir3 m n (stX n (i+1) (2^i+k))+L-1)) (2^i)=sm (fun k=> -1*(-2:Int)^(cir3 m n (stX n i k)+L-1)) (2^i):=by
   refine ybb fun k hk=>?_
   obtain ⟨K,t0,ht0,h3⟩:=ykm hp (stX n i k) (c:=i) (by omega)
   have e0:stX n (i+1) k=fun x=>if x=i then 0 else stX n i k x:=by
    funext x
    unfold stX
    by_cases e:x=i
    ·subst e;rw [if_pos (by omega),if_pos rfl,y19 hk];rfl
    ·rw [if_neg e]
     by_cases h:x<i
     ·rw [if_pos (by omega),if_pos h]
     ·rw [if_neg (by omega),if_neg h]
   have e1:stX n (i+1) (2^i+k)=fun x=>if x=i then 1 else stX n i k x:=by
    funext x
    unfold stX
    by_cases e:x=i
    ·subst e;rw [if_pos (by omega),if_pos rfl,y0i hk];rfl
    ·rw [if_neg e]
     by_cases h:x<i
     ·rw [if_pos (by omega),if_pos h,y0h h]
     ·rw [if_neg (by omega),if_neg h]
   have e2:stX n i k=fun x=>if x=i then 2 else stX n i k x:=by
    funext x
    by_cases e:x=i
    ·subst e;rw [if_pos rfl];unfold stX;rw [if_neg (by omega),if_pos (by omega)]
    ·rw [if_neg e]
   have h0:=h3 0 (by omega)
   have h1:=h3 1 (by omega)
   have h2:=h3 2 (by omega)
   rw [←e0] at h0
   rw [←e1] at h1
   rw [←e2] at h2
   have p0:=yk8 n (yfm hp (stX n (i+1) k)) hn
   have p1:=yk8 n (yfm hp (stX n (i+1) (2^i+k))) hn
   have hK:1<=K:=by
    change 1<=cir3 m n _ at p0
    change 1<=cir3 m n _ at p1
    rw [h0] at p0;rw [h1] at p1
    split at p0<;>split at p1<;>omega
   obtain ⟨q,hq⟩: ∃q,K+L-1=q:=⟨_,rfl⟩
   have hq1:K+1+L-1=q+1:=by omega
   rw [h0,h1,h2]
   rcases (show t0=0\/t0=1\/t0=2 by omega) with rfl|rfl|rfl<;>
   simp only [if_true,if_false,Nat.reduceEqDiff,reduceIte,reduceCtorEq]<;>
   simp [hq,hq1,Int.pow_succ]<;>omega
  rw [key,yke,ih,Int.pow_succ]
  rw [Int.mul_comm ((-1)^i) (-1),Int.mul_assoc]
theorem yxf (k:Nat):cir3 m n (stX n n k)=cirS m n (chB k):=by
 have:stX n n k=fun c=>nb01 (if c<n then chB k c else false):=by
  funext c
  unfold stX
  by_cases h:c<n
  ·rw [if_pos h,if_pos h]
  ·rw [if_neg h,if_neg h,if_neg h];rfl
 rw [this,←yd4 hp]
 unfold cirS
 rw [ydw fun c hc=>if_pos hc]
theorem y2a (hn:0<n) (L:Nat):sm (fun k=>(-2:Int)^(cN m n L k-1)) (2^n)=(-1)^n*(-2:Int)^(cir3 m n (stX n 0 0)+L-1):=by
 have:=yx1 hp hn L n (Nat.le_refl _)
 rw [←this]
 exact ybb fun k _=>by rw [yxf hp];rfl
end
section
variable {s m:List Int} {L:Int} (hv:yhq s m L)
include hv
end
end Go.Proofs.YtngegnonblbdhaaDoor
