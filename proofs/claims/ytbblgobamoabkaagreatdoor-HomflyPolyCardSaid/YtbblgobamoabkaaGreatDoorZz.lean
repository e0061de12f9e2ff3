/- Layer 13: the text of a polynomial in two variables, as a contract. -/
import Derived.Test.YtbblgobamoabkaaGreatDoorBt2
import Derived.Test.YtbblgobamoabkaaGreatDoorZc
import Derived.Test.YtbblgobamoabkaaGreatDoorBq2
import Derived.Test.YtbblgobamoabkaaGreatDoorZs
import Derived.Test.YtbblgobamoabkaaGreatDoorZp
set_option linter.unusedSimpArgs false
set_option linter.unusedVariables false
namespace Go.Proofs.YtbblgobamoabkaaGreatDoor
open Go Go.RowKit
set_option maxRecDepth 100000
set_option maxHeartbeats 4000000
def cok2 (p:List (Int×Int)):Prop:= ∀k,k<p.length->(-4611686018427387904<=bvA (p.getD k (0,0)).1/\bvA (p.getD k (0,0)).1<=4611686018427387904)/\(-4611686018427387904<=bvZ (p.getD k (0,0)).1/\bvZ (p.getD k (0,0)).1<=4611686018427387904)/\ -4611686018427387904<=(p.getD k (0,0)).2/\(p.getD k (0,0)).2<=4611686018427387904
theorem yjt (p:List (Int×Int)) (n1 n2:ByteArray) (hp0:0<p.length) (hr:cok2 p) (hn1:n1.size<=1000) (hn2:n2.size<=1000) (hpl:p.length<=1000000):
  Fn Tryz.prog 12 [bvP false p, .str n1, .str n2] (.str ⟨(yb2 n1.data.toList n2.data.toList p p.length).toArray⟩):=by
 refine ⟨⟨_,Tryz.func12,rfl,by decide⟩,fun w Mx vs hMx hl hv=>?_⟩
 match vs,hl with
 |[v0,v1,v2],_=>
  have h0:=hv 0 v0 _ rfl rfl
  have h1:=(hv 1 v1 _ rfl rfl).str_inv
  have h2:=(hv 2 v2 _ rfl rfl).str_inv
  subst h1 h2
  obtain ⟨us,rfl,hul,hu⟩:=h0.agg_inv
  match us,hul with
  |[u0,u1],_=>
   have k0:=(hu 0 u0 _ rfl rfl).bool_inv
   have k1:=hu 1 u1 _ rfl rfl
   subst k0
   cases k1 with
   |ro _ _ _ ad cap x hlen hcap _ hcell hx=>
    obtain ⟨a,rfl,hb,_,hj⟩:=hcell hp0
    have hcl:(Cs.lst (bvC p)).len=3*p.length:=yal p
    refine (yvf p n1 n2 a cap w hp0 hMx.1 hb (fun k hk=>?_) hr hn1 hn2 hpl).mono ?_
    ·have e0:=hx (k*3) (by omega)
     have e1:=hx (k*3+1) (by omega)
     have e2:=hx (k*3+2) (by omega)
     obtain ⟨g0,g1,g2⟩:=ybs p k hk
     rw [show (Cs.lst (bvC p)).get (k*3)=(bvC p).getD (k*3) .any from rfl,g0] at e0
     rw [show (Cs.lst (bvC p)).get (k*3+1)=(bvC p).getD (k*3+1) .any from rfl,g1] at e1
     rw [show (Cs.lst (bvC p)).get (k*3+2)=(bvC p).getD (k*3+2) .any from rfl,g2] at e2
     refine ⟨?_,?_,?_⟩
     ·rw [hj _ (by omega),e0.int_inv]
     ·rw [hj _ (by omega),e1.int_inv]
     ·rw [hj _ (by omega),e2.int_inv]
    ·rintro e w' ⟨rfl,hb'⟩
     exact ⟨_,rfl,hb', .str _⟩
end Go.Proofs.YtbblgobamoabkaaGreatDoor
namespace Go.Proofs.YtbblgobamoabkaaGreatDoor
open Go Go.RowKit
set_option maxRecDepth 100000
set_option maxHeartbeats 8000000
set_option linter.unusedVariables false
set_option linter.unusedSimpArgs false
def yfs:List (List Nat):=[[58,59,60,61,63,64,65,66],[57,59,60,63,64,65],[57,58,63,64,65],[57,58,63,64,65],[57,63,64,65],[63,64,65,66],[57,58,59,60,61,62,64,65],[57,58,59,60,61,62,63],[57,58,59,60,61,62,63],[57,62],[],[]]
def yft:List (List Nat):=[[],[0],[0,1],[0,1],[0],[],[0,1,2,3,4,5],[0,1,2,3,4,5,6],[0,1,2,3,4,5,6],[0,5],[],[]]
theorem yh2 (a b:List UInt8):(⟨a.toArray⟩:ByteArray)++⟨b.toArray⟩=⟨(a++b).toArray⟩:=by
 apply ByteArray.ext;simp
theorem yiy (a:List UInt8):(⟨a.toArray⟩:ByteArray).size=a.length:=by simp [ByteArray.size]
theorem y4h: ∀k:Fin 10,(⟨#[48,49,50,51,52,53,54,55,56,57]⟩:ByteArray).extract k.val (k.val+1)=⟨#[UInt8.ofNat (48+k.val)]⟩:=by decide+kernel
theorem yol: ∀u:Nat,u<=9223372036854775807->Fn Tryz.prog 42 [I u] (.str ⟨(Lib.decDigits u).toArray⟩):=fun u=>by
 induction u using Nat.strongRecOn with
 |_ u ih=>
  intro hu
  have b0:decide ((u:Int)<0)=false:=by simp
  have e1:(u:Int).tmod 10=((u % 10:Nat):Int):=by rw [Int.tmod_eq_emod_of_nonneg (by omega)];omega
  have e2:(u:Int).tdiv 10=((u/10:Nat):Int):=by rw [Int.tdiv_eq_ediv_of_nonneg (by omega)];omega
  have e3:(((u % 10:Nat):Int)+1).toNat=u % 10+1:=by omega
  have e4:=y4h ⟨u % 10,by omega⟩
  simp only at e4
  have esz:(⟨#[48,49,50,51,52,53,54,55,56,57]⟩:ByteArray).size=10:=rfl
  by_cases h:u<10
  ·have b1:decide ((u:Int)<10)=true:=by simp;omega
   rw [Lib.decDigits,dif_pos h]
   refine Fn.intro [.tmp 2] Tryz.func42 rfl rfl (by decide) (by simp [Tryz.ntmps42]) ?_;rw [Tryz.ntmps42]
   repeat' (first|omega|(try apply yaa);simp only [go_sem,sevalprocAttr,b0,b1,e1,e2,e3,e4,esz,Int.toNat_natCast]|apply yab<;>(intro h_;(try simp only [h_]);revert h_)|apply And.intro|with_reducible intro h_|trivial|simp only [go_sem,la2];omega)
   all_goals (rw [Nat.mod_eq_of_lt h])
  ·have b1:decide ((u:Int)<10)=false:=by simp;omega
   have hr:=ih (u/10) (by omega) (by omega)
   have hl:=Lib.itoa_length_le ((u/10:Nat):Int) (by omega) (by omega)
   rw [Lib.itoa_nonneg] at hl
   rw [Lib.decDigits,dif_neg h]
   have sz1:=yiy (Lib.decDigits (u/10))
   have ap:=yh2 (Lib.decDigits (u/10)) [UInt8.ofNat (48+u % 10)]
   have sz2:(⟨#[UInt8.ofNat (48+u % 10)]⟩:ByteArray).size=1:=rfl
   refine Fn.intro [.tmp 2] Tryz.func42 rfl rfl (by decide) (by simp [Tryz.ntmps42]) ?_;rw [Tryz.ntmps42]
   repeat' (first|omega|(try apply yaa);simp only [go_sem,sevalprocAttr,b0,b1,e1,e2,e3,e4,esz,Int.toNat_natCast]|apply yab<;>(intro h_;(try simp only [h_]);revert h_)|apply And.intro|with_reducible intro h_|trivial|simp only [go_sem,la2];omega)
   refine ⟨yae.fn rfl hr ?_⟩
   repeat' (first|omega|(try apply yaa);simp only [go_sem,sevalprocAttr,b0,b1,sz1,sz2,ap]|apply yab<;>(intro h_;(try simp only [h_]);revert h_)|apply And.intro|with_reducible intro h_|trivial|simp only [go_sem,la2];omega)
   all_goals exact ap
theorem ylo (n:Int) (h0: -9223372036854775807<=n) (h1:n<=9223372036854775807):Fn Tryz.prog 42 [I n] (.str ⟨(Lib.itoa n).toArray⟩):=by
 by_cases h:n<0
 ·have hr:=yol n.natAbs (by omega)
  rw [show ((n.natAbs:Nat):Int)=0-n by omega] at hr
  have b0:decide (n<0)=true:=by simpa using h
  have hl:=Lib.itoa_length_le ((n.natAbs:Nat):Int) (by omega) (by omega)
  rw [Lib.itoa_nonneg] at hl
  have sz1:=yiy (Lib.decDigits n.natAbs)
  have sz2:(⟨#[45]⟩:ByteArray).size=1:=rfl
  have ap:=yh2 [45] (Lib.decDigits n.natAbs)
  unfold Lib.itoa
  rw [if_pos h]
  refine Fn.intro [.tmp 2] Tryz.func42 rfl rfl (by decide) (by simp [Tryz.ntmps42]) ?_;rw [Tryz.ntmps42]
  repeat' (first|omega|(try apply yaa);simp only [go_sem,sevalprocAttr,b0]|apply yab<;>(intro h_;(try simp only [h_]);revert h_)|apply And.intro|with_reducible intro h_|trivial|simp only [go_sem,la2];omega)
  refine ⟨yae.fn rfl hr ?_⟩
  repeat' (first|omega|(try apply yaa);simp only [go_sem,sevalprocAttr,b0,sz1,sz2,ap]|apply yab<;>(intro h_;(try simp only [h_]);revert h_)|apply And.intro|with_reducible intro h_|trivial|simp only [go_sem,la2];omega)
  all_goals exact ap
 ·have hr:=yol n.toNat (by omega)
  rw [show ((n.toNat:Nat):Int)=n by omega] at hr
  unfold Lib.itoa
  rw [if_neg h]
  exact hr
theorem yrb (nm:List UInt8) (e:Int) (hn:nm.length<=1000) (h0: -4611686018427387904<=e) (h1:e<=4611686018427387904):Fn Tryz.prog 43 [.str ⟨nm.toArray⟩,I e] (.str ⟨(powT nm e).toArray⟩):=by
 by_cases he0:e=0
 ·subst he0
  have e1:powT nm 0=[]:=by simp [powT]
  rw [e1]
  refine Fn.intro [.tmp 4] Tryz.func43 rfl rfl (by decide) (by simp [Tryz.ntmps43]) ?_;rw [Tryz.ntmps43]
  repeat' (first|omega|(try apply yaa);simp only [go_sem,sevalprocAttr]|apply yab<;>(intro h_;(try simp only [h_]);revert h_)|apply And.intro|with_reducible intro h_|trivial|simp only [go_sem,la2];omega)
 ·have b0:(e==0)=false:=by simpa using he0
  by_cases he1:e=1
  ·subst he1
   have e1:powT nm 1=nm:=by simp [powT]
   rw [e1]
   refine Fn.intro [.tmp 4] Tryz.func43 rfl rfl (by decide) (by simp [Tryz.ntmps43]) ?_;rw [Tryz.ntmps43]
   repeat' (first|omega|(try apply yaa);simp only [go_sem,sevalprocAttr]|apply yab<;>(intro h_;(try simp only [h_]);revert h_)|apply And.intro|with_reducible intro h_|trivial|simp only [go_sem,la2];omega)
  ·have b1:(e==1)=false:=by simpa using he1
   have e1:powT nm e=nm++[94]++Lib.itoa e:=by simp [powT,he0,he1]
   have hD:=ylo e (by omega) (by omega)
   have hl:=Lib.itoa_length_le e (by omega) (by omega)
   rw [e1]
   have sz1:=yiy nm
   have sz2:(⟨#[94]⟩:ByteArray).size=1:=rfl
   have ap:=yh2 nm [94]
   have sz3:=yiy (nm++[94])
   have sz4:=yiy (Lib.itoa e)
   have ap2:=yh2 (nm++[94]) (Lib.itoa e)
   have sl:(nm++[94]).length=nm.length+1:=by simp
   refine Fn.intro [.tmp 4] Tryz.func43 rfl rfl (by decide) (by simp [Tryz.ntmps43]) ?_;rw [Tryz.ntmps43]
   repeat' (first|omega|(try apply yaa);simp only [go_sem,sevalprocAttr,b0,b1,sz1,sz2,ap,sz3,sz4,ap2,sl]|(refine ⟨yae.fn (r:=?_) rfl ?_ ?_⟩;rotate_left;assumption)|(refine ⟨yai.fn (r:=?_) rfl ?_ ?_⟩;rotate_left;assumption)|apply yab<;>(intro h_;(try simp only [h_]);revert h_)|apply And.intro|with_reducible intro h_|trivial|simp only [go_sem,la2];omega)
theorem yrc (P:Prop) [Decidable P]:(decide P=true/\P=True)\/(decide P=false/\P=False):=by
 by_cases h:P
 ·exact .inl ⟨decide_eq_true h,eq_true h⟩
 ·exact .inr ⟨decide_eq_false h,eq_false h⟩
theorem yh3 (a b:Int):((a==b)=true/\(a=b)=True)\/((a==b)=false/\(a=b)=False):=yrc (a=b)
theorem yom {n1 n2:List UInt8} {p:List (Int×Int)} (hn1:n1.length<=1000) (hn2:n2.length<=1000) (hr:cok2 p): ∀i,i<=p.length->(yb2 n1 n2 p i).length<=3000*i
 |0,_=>by simp [yb2]
 |i+1,h=>by
  have h1:=yom hn1 hn2 hr i (by omega)
  have h2:=yok (k:=i) hn1 hn2 (hr i (by omega))
  simp only [yb2,List.length_append];omega
theorem yvg (p:List (Int×Int)) (n1 n2:List UInt8) (hp0:0<p.length) (hr:cok2 p) (hn1:n1.length<=1000) (hn2:n2.length<=1000) (hpl:p.length<=100000):
  Fn Tryz.prog 13 [bqP p, .str ⟨n1.toArray⟩, .str ⟨n2.toArray⟩] (.str ⟨(yb2 n1 n2 p p.length).toArray⟩):=by
 have bp:((p.length:Int)==0)=false:=by rw [beq_eq_false_iff_ne];omega
 have hlen:=yal p
 refine Fn.intro [.tmp 6] Tryz.func13 rfl rfl (by decide) (by simp [Tryz.ntmps13]) ?_;rw [Tryz.ntmps13]
 repeat' (first|omega|(first|apply yaa|(refine yac.intro (id:=18) yfs yft (by decide+kernel) mixed ?_)|skip);simp only [go_sem,sevalprocAttr,bp,hlen,↓reduceIte,reduceCtorEq,yfs,yft]|apply yab<;>(intro h_;(try simp only [h_]);revert h_)|apply And.intro|with_reducible intro h_|trivial|simp only [go_sem,la2];omega)
 refine yaj.intro (fun n fr H=> ∃i:Nat,i<=p.length/\n=p.length-i/\fr=[(8,I i),(7, .str ⟨(yb2 n1 n2 p i).toArray⟩),(3, .ptr 0 0),(1, .str ⟨n1.toArray⟩),(2, .str ⟨n2.toArray⟩)]/\H=[(0,bqO (bvT p))]) ?_ ?_
 ·refine ⟨_,_,_,?_,0,by omega,rfl,rfl,rfl⟩
  refine Wk.sub ?_ ?_<;>(simp only [go_sem,sevalprocAttr,yad])
  all_goals rfl
 rintro n fr H ⟨i,hi,rfl,rfl,rfl⟩
 by_cases hil:i<p.length
 ·obtain ⟨g0,g1,g2⟩:=ybs p i hil
  have bi:decide ((i:Int)<p.length)=true:=by simp;omega
  obtain ⟨r1,r2,r3⟩:=hr i hil
  have htl:=yom hn1 hn2 hr i hi
  have hnx:yb2 n1 n2 p (i+1)=yb2 n1 n2 p i++ycj n1 n2 i (bvA (p.getD i (0,0)).1) (bvZ (p.getD i (0,0)).1) (p.getD i (0,0)).2:=rfl
  generalize bvA (p.getD i (0,0)).1=x at*
  generalize bvZ (p.getD i (0,0)).1=z at*
  generalize (p.getD i (0,0)).2=c at*
  have hX:=yrb n1 x hn1 r1.1 r1.2
  have hZ:=yrb n2 z hn2 r2.1 r2.2
  have lX:=yfa hn1 r1.1 r1.2
  have lZ:=yfa hn2 r2.1 r2.2
  have hC:=ylo c (by omega) (by omega)
  have lC:=Lib.itoa_length_le c (by omega) (by omega)
  have hY:=ylo (0-c) (by omega) (by omega)
  have lY:=Lib.itoa_length_le (0-c) (by omega) (by omega)
  generalize yb2 n1 n2 p i=acc at*
  unfold ycj at hnx
  generalize powT n1 x=tx at*
  generalize powT n2 z=tz at*
  clear hr
  rcases yrc (c<0) with ⟨b1,d1⟩|⟨b1,d1⟩
  ·rcases yh3 (0-c) 1 with ⟨b6,d6⟩|⟨b6,d6⟩
   all_goals rcases yh3 x 0 with ⟨b3,d3⟩|⟨b3,d3⟩
   all_goals rcases yh3 z 0 with ⟨b4,d4⟩|⟨b4,d4⟩
   all_goals (simp only [d1,d6,d3,d4,if_true,if_false,ne_eq,not_true_eq_false,not_false_eq_true,and_true,and_false,and_self,true_and,false_and,List.nil_append,List.append_nil] at hnx)
   all_goals (repeat' (first|omega|(first|apply yaa|(refine yac.intro (id:=18) yfs yft (by decide+kernel) mixed ?_)|skip);simp only [go_sem,sevalprocAttr,g0,g1,g2,hlen,bi,b1,b6,b3,b4,bne,yh2,yiy,↓reduceIte,reduceCtorEq,yfs,yft]|(refine ⟨yae.fn (r:=?_) rfl ?_ ?_⟩;rotate_left;assumption)|(refine ⟨yai.fn (r:=?_) rfl ?_ ?_⟩;rotate_left;assumption)|apply yab<;>(intro h_;(try simp only [h_]);revert h_)|apply And.intro|with_reducible intro h_|trivial|simp only [go_sem,la2];omega))
   all_goals (refine ⟨_,_,_,?_,?_,⟨i+1,by omega,rfl,rfl,rfl⟩⟩)
   all_goals first|omega|skip
   all_goals (refine Wk.sub ?_ ?_<;>(simp only [go_sem,sevalprocAttr,yad]))
   all_goals (rw [hnx];try simp)
  ·rcases yrc ((0:Int)<i) with ⟨b2,d2⟩|⟨b2,d2⟩
   all_goals (rw [show ((0:Int)<(i:Int))=(0<i) by simp] at d2)
   all_goals rcases yh3 c 1 with ⟨b6,d6⟩|⟨b6,d6⟩
   all_goals rcases yh3 x 0 with ⟨b3,d3⟩|⟨b3,d3⟩
   all_goals rcases yh3 z 0 with ⟨b4,d4⟩|⟨b4,d4⟩
   all_goals (simp only [d1,d2,d6,d3,d4,if_true,if_false,ne_eq,not_true_eq_false,not_false_eq_true,and_true,and_false,and_self,true_and,false_and,List.nil_append,List.append_nil] at hnx)
   all_goals (repeat' (first|omega|(first|apply yaa|(refine yac.intro (id:=18) yfs yft (by decide+kernel) mixed ?_)|skip);simp only [go_sem,sevalprocAttr,g0,g1,g2,hlen,bi,b1,b2,b6,b3,b4,bne,yh2,yiy,↓reduceIte,reduceCtorEq,yfs,yft]|(refine ⟨yae.fn (r:=?_) rfl ?_ ?_⟩;rotate_left;assumption)|(refine ⟨yai.fn (r:=?_) rfl ?_ ?_⟩;rotate_left;assumption)|apply yab<;>(intro h_;(try simp only [h_]);revert h_)|apply And.intro|with_reducible intro h_|trivial|simp only [go_sem,la2];omega))
   all_goals (refine ⟨_,_,_,?_,?_,⟨i+1,by omega,rfl,rfl,rfl⟩⟩)
   all_goals first|omega|skip
   all_goals (refine Wk.sub ?_ ?_<;>(simp only [go_sem,sevalprocAttr,yad]))
   all_goals (rw [hnx];try simp)
 ·obtain rfl:i=p.length:=by omega
  have bi:decide ((p.length:Int)<p.length)=false:=by simp
  repeat' (first|omega|(first|apply yaa|(refine yac.intro (id:=18) yfs yft (by decide+kernel) mixed ?_)|skip);simp only [go_sem,sevalprocAttr,bi,hlen,↓reduceIte,reduceCtorEq,yfs,yft]|apply yab<;>(intro h_;(try simp only [h_]);revert h_)|apply And.intro|with_reducible intro h_|trivial|simp only [go_sem,la2];omega)
end Go.Proofs.YtbblgobamoabkaaGreatDoor
namespace Go.Proofs.YtbblgobamoabkaaGreatDoor
open Sp
set_option linter.unusedSimpArgs false
set_option linter.unusedVariables false
set_option maxRecDepth 100000
def shL (d c:Int) (p:List (Int×Int)):List (Int×Int):=p.map fun t=>(t.1+d,c*t.2)
theorem yh4 (d c:Int): ∀(p:List (Int×Int)) (e:Int),cfL (shL d c p) e=c*cfL p (e-d)
 |[],_=>by simp [shL,cfL]
 |t::p,e=>by
  have ih:=yh4 d c p e
  simp only [shL,List.map_cons,cfL] at ih⊢
  rw [ih,Int.mul_add]
  by_cases h:t.1+d=e
  ·rw [if_pos h,if_pos (by omega)]
  ·rw [if_neg h,if_neg (by omega)];simp
def xeL:Nat->List (Int×Int)
 |0=>[(0,1)]
 |n+1=>nz (sumR (shL (bvE (-1) (-1)) 1 (xeL n)++shL (bvE 1 (-1)) (-1) (xeL n)))
theorem yy3: ∀n:Nat,n<=900->yak (xeL n) (Hs.XE (n+1))
 |0,_=>Hs.XE_1
 |n+1,h=>by
  have ih:=yy3 n (by omega)
  refine ygb fun e=>?_
  rw [ye4,yh4,yh4,ih.cf,ih.cf,Hs.XE_S n (by omega)]
  omega
def hmT:Nat->List Int->List Int->Nat->Option (List (Int×Int))
 |0,_,_,_=>none
 |f+1,s,m,l=>match badO s m with
  |none=>some (xeL (l+(yam s m).length-1))
  |some c=>match hmT f (swS s c.toNat) (swM s m c.toNat) l,hmT f (smS s c.toNat) (smM s m c.toNat) (smLp s m c.toNat l).toNat with
   |some p,some q=>some (nz (sumR (shL (bvE (2*s.getD c.toNat 0) 0) 1 p++shL (bvE (s.getD c.toNat 0) 1) (s.getD c.toNat 0) q)))
   |_,_=>none
theorem yy4: ∀s m l,ybg s m l-> ∀f p,hmT f s m l=some p->yak p (hTr s m l):=by
 refine yga (fun s m l h hb f p hp=>?_) fun s m l c l' h hb hc hsg hl' h1 e1 h2 e2 i1 i2 f p hp=>?_
 ·cases f with
  |zero=>cases hp
  |succ f=>
   unfold hmT at hp
   rw [hb] at hp
   cases hp
   have h3:=yby s m
   have h4:=(ya1 h.val).len
   have h5:=h.len
   have h6:1<=l+(yam s m).length:=by
    rcases h.pos with h3|h3
    ·have:=strands_pos (ya1 h.val) h3;omega
    ·omega
   have:=yy3 (l+(yam s m).length-1) (by omega)
   rw [Nat.sub_add_cancel h6] at this
   exact this.congr fun e=>(ygw hb e).symm
 ·cases f with
  |zero=>cases hp
  |succ f=>
   unfold hmT at hp
   rw [hb] at hp
   dsimp only at hp
   rw [Int.toNat_natCast,hl',Int.toNat_natCast] at hp
   split at hp
   ·rename_i p1 q1 g1 g2
    cases hp
    have j1:=i1 f p1 g1
    have j2:=i2 f q1 g2
    have hlen:=h.len
    have hl2:=h2.len
    refine ygb fun e=>?_
    rw [ye4,yh4,yh4,j1.cf,j2.cf,ygx h hb hc hl' h1 h2 e2,Int.one_mul]
   ·cases hp
theorem y4i:yak [(bvE 2 0,2),(bvE 2 2,1),(bvE 4 0,-1)] (hTr [1,1,1] [9,4,7,10,1,8,11,2,5,0,3,6] 0):=
 yy4 _ _ _ ⟨by decide+kernel,by decide,by decide,by decide⟩ 20 _ (by decide+kernel)
theorem y5r:yak [(bvE (-1) (-1),1),(bvE 1 (-1),-1)] (hTr [] [] 2):=
 yy4 _ _ _ ⟨by decide+kernel,by decide,by decide,by decide⟩ 20 _ (by decide+kernel)
end Go.Proofs.YtbblgobamoabkaaGreatDoor
namespace Go.Proofs.YtbblgobamoabkaaGreatDoor
open Go Go.RowKit
set_option maxRecDepth 100000
set_option maxHeartbeats 8000000
set_option linter.unusedVariables false
set_option linter.unusedSimpArgs false
theorem yrd:Fn Tryz.prog 26 [] (dgA [1,1,1] [9,4,7,10,1,8,11,2,5,0,3,6] ((0:Nat):Int)):=by
 refine Fn.introL [.cell 0 24] Tryz.func26 rfl rfl (by decide) (by simp [Tryz.ntmps26]) ?_;rw [Tryz.ntmps26]
 repeat' (first|omega|(try apply yaa);simp only [go_sem,sevalprocAttr]|apply yab<;>(intro h_;(try simp only [h_]);revert h_)|apply And.intro|with_reducible intro h_|trivial|simp only [go_sem,la2];omega)
 all_goals exact LeA.refl _
theorem y4j:Fn Tryz.prog 12 [bvP false [(bvE 2 0,2),(bvE 2 2,1),(bvE 4 0,-1)], .str ⟨#[97]⟩, .str ⟨#[122]⟩] (.str ⟨#[50,97,94,50,43,97,94,50,122,94,50,45,97,94,52]⟩):=by
 have h:=yjt [(bvE 2 0,2),(bvE 2 2,1),(bvE 4 0,-1)] ⟨#[97]⟩ ⟨#[122]⟩ (by decide) (fun k hk=>by
  match k,hk with
  |0,_=>decide
  |1,_=>decide
  |2,_=>decide) (by decide) (by decide) (by decide)
 rw [show (yb2 (⟨#[97]⟩:ByteArray).data.toList (⟨#[122]⟩:ByteArray).data.toList [(bvE 2 0,2),(bvE 2 2,1),(bvE 4 0,-1)] [(bvE 2 0,(2:Int)),(bvE 2 2,1),(bvE 4 0,-1)].length)=[50,97,94,50,43,97,94,50,122,94,50,45,97,94,52] by decide+kernel] at h
 exact h
theorem y4k:Fn Tryz.prog 12 [bvP false [(bvE (-1) (-1),1),(bvE 1 (-1),-1)], .str ⟨#[97]⟩, .str ⟨#[122]⟩] (.str ⟨#[97,94,45,49,122,94,45,49,45,97,122,94,45,49]⟩):=by
 have h:=yjt [(bvE (-1) (-1),1),(bvE 1 (-1),-1)] ⟨#[97]⟩ ⟨#[122]⟩ (by decide) (fun k hk=>by
  match k,hk with
  |0,_=>decide
  |1,_=>decide) (by decide) (by decide) (by decide)
 rw [show (yb2 (⟨#[97]⟩:ByteArray).data.toList (⟨#[122]⟩:ByteArray).data.toList [(bvE (-1) (-1),1),(bvE 1 (-1),-1)] [(bvE (-1) (-1),(1:Int)),(bvE 1 (-1),-1)].length)=[97,94,45,49,122,94,45,49,45,97,122,94,45,49] by decide+kernel] at h
 exact h
theorem yvh:Fn Tryz.prog 6 [] (.bool true):=by
 have h1:=yrd
 have h2:=ylm yiv ⟨by decide+kernel,by decide,by decide,by decide⟩ (by decide) y4i
 have h3:Fn Tryz.prog 8 [.agg [.nils, .nils,I 2]] (.tup [bvP false [(bvE (-1) (-1),1),(bvE 1 (-1),-1)],I 0]):=
  Fn.args (ylm yiv ⟨by decide+kernel,by decide,by decide,by decide⟩ (by decide) y5r) (.cons (LeA.aggL (.cons (LeA.nils (by decide) rfl) (.cons (LeA.nils (by decide) rfl) (.cons (LeA.refl _) .nil)))) .nil)
 have h4:=y4j
 have h5:=y4k
 refine Fn.introL [.tmp 0] Tryz.func6 rfl rfl (by decide) (by simp [Tryz.ntmps6]) ?_;rw [Tryz.ntmps6]
 repeat' (first|omega|(try apply yaa);simp only [go_sem,sevalprocAttr,yad]|(refine ⟨yae.fn (r:=?_) rfl ?_ ?_⟩;rotate_left;assumption)|(refine ⟨yai.fn (r:=?_) rfl ?_ ?_⟩;rotate_left;assumption)|apply yab<;>(intro h_;(try simp only [h_]);revert h_)|apply And.intro|with_reducible intro h_|trivial|simp only [go_sem,la2];omega)
 all_goals exact LeA.refl _
def smB (s m:List Int) (L:Int):Bool:=(decide (6<s.length)&&decide (s.length<=14))||decide (300<m.length)||decide (80<s.length)||(decide (8<L)&&decide (L<=64))
theorem yvi (s m:List Int) (L:Int):Fn Tryz.prog 7 [dgA s m L] (I (if smB s m L then 0 else 1)):=by
 obtain ⟨b1,e1⟩: ∃b,decide ((6:Int)<s.length)=b:=⟨_,rfl⟩
 obtain ⟨b2,e2⟩: ∃b,decide ((s.length:Int)<=14)=b:=⟨_,rfl⟩
 obtain ⟨b3,e3⟩: ∃b,decide ((300:Int)<m.length)=b:=⟨_,rfl⟩
 obtain ⟨b4,e4⟩: ∃b,decide ((80:Int)<s.length)=b:=⟨_,rfl⟩
 obtain ⟨b5,e5⟩: ∃b,decide (8<L)=b:=⟨_,rfl⟩
 obtain ⟨b6,e6⟩: ∃b,decide (L<=64)=b:=⟨_,rfl⟩
 have f1:decide (6<s.length)=b1:=by rw [←e1];exact decide_eq_decide.2 (by omega)
 have f2:decide (s.length<=14)=b2:=by rw [←e2];exact decide_eq_decide.2 (by omega)
 have f3:decide (300<m.length)=b3:=by rw [←e3];exact decide_eq_decide.2 (by omega)
 have f4:decide (80<s.length)=b4:=by rw [←e4];exact decide_eq_decide.2 (by omega)
 unfold smB
 rw [f1,f2,f3,f4,e5,e6]
 clear f1 f2 f3 f4
 cases b1<;>cases b2<;>cases b3<;>cases b4<;>cases b5<;>cases b6
 all_goals
  refine Fn.intro [.tmp 2] Tryz.func7 rfl rfl (by decide) (by simp [Tryz.ntmps7]) ?_;rw [Tryz.ntmps7]
  repeat' (first|omega|(try apply yaa);simp only [go_sem,sevalprocAttr,e1,e2,e3,e4,e5,e6]|apply yab<;>(intro h_;(try simp only [h_]);revert h_)|apply And.intro|with_reducible intro h_|trivial|simp only [go_sem,la2];omega)
end Go.Proofs.YtbblgobamoabkaaGreatDoor
namespace Go.Proofs.YtbblgobamoabkaaGreatDoor
open Go Go.RowKit
set_option linter.unusedVariables false
set_option linter.unusedSimpArgs false
theorem yy5 {s m:List Int} {l:Nat} (hg:smB s m l=false) (hv:yap s m l=true) (hn:s.length<=6) (h0:0<s.length\/0<l):ybg s m l:=by
 have v1:=ya1 hv
 have hl1:=v1.l64
 simp only [smB,Bool.or_eq_false_iff,Bool.and_eq_false_iff,decide_eq_false_iff_not] at hg
 exact ⟨hv,by omega,by omega,h0⟩
end Go.Proofs.YtbblgobamoabkaaGreatDoor
