/- Layer 13: the text of a polynomial in two variables, as a contract. -/
import Derived.Test.YtjpbeacamoijhaaGreatDoorBt2
import Derived.Test.YtjpbeacamoijhaaGreatDoorZc
import Derived.Test.YtjpbeacamoijhaaGreatDoorZb
import Derived.Test.YtjpbeacamoijhaaGreatDoorZvb
import Derived.Test.YtjpbeacamoijhaaGreatDoorZw
import Derived.Test.YtjpbeacamoijhaaGreatDoorZh
import Derived.Test.YtjpbeacamoijhaaGreatDoorZx
set_option linter.unusedSimpArgs false
set_option linter.unusedVariables false
namespace Go.Proofs.YtjpbeacamoijhaaGreatDoor
open Go Go.RowKit
set_option maxRecDepth 100000
set_option maxHeartbeats 4000000
def Pd (p:List (Int×Int)):Prop:= ∀k,k<p.length->(-4611686018427387904<=aN (p.getD k (0,0)).1/\aN (p.getD k (0,0)).1<=4611686018427387904)/\(-4611686018427387904<=az (p.getD k (0,0)).1/\az (p.getD k (0,0)).1<=4611686018427387904)/\ -4611686018427387904<=(p.getD k (0,0)).2/\(p.getD k (0,0)).2<=4611686018427387904
theorem S6 (p:List (Int×Int)) (n1 n2:ByteArray) (ud:0<p.length) (hr:Pd p) (kd:n1.size<=1000) (jB:n2.size<=1000) (mD:p.length<=1000000):
  Fn Tryz.prog 14 [jo false p, .str n1, .str n2] (.str ⟨(tL n1.data.toList n2.data.toList p p.length).toArray⟩):=by
 refine ⟨⟨_,Tryz.func14,rfl,by decide⟩,fun w Mx vs rM hl hv=>?_⟩
 match vs,hl with
 |[v0,v1,v2],_=>
  have h0:=hv 0 v0 _ rfl rfl;have h1:=(hv 1 v1 _ rfl rfl).c9;have h2:=(hv 2 v2 _ rfl rfl).c9;subst h1 h2;obtain ⟨us,rfl,hul,hu⟩:=h0.bg
  match us,hul with
  |[u0,u1],_=>
   have k0:=(hu 0 u0 _ rfl rfl).bool_inv;have k1:=hu 1 u1 _ rfl rfl;subst k0;cases k1 with
   |ro _ _ _ ad cap x hlen pA _ iY hx=>
    obtain ⟨a,rfl,hb,_,hj⟩:=iY ud;have aY:(Cs.lst (bvC p)).len=3*p.length:=pg p;refine (X9 p n1 n2 a cap w ud rM.1 hb (fun k hk=>?_) hr kd jB mD).mono ?_
    ·have e0:=hx (k*3) (by omega);have e1:=hx (k*3+1) (by omega);have e2:=hx (k*3+2) (by omega);obtain ⟨g0,g1,g2⟩:=yO p k hk;rw [show (Cs.lst (bvC p)).get (k*3)=(bvC p).getD (k*3) .any from rfl,g0] at e0;rw [show (Cs.lst (bvC p)).get (k*3+1)=(bvC p).getD (k*3+1) .any from rfl,g1] at e1;rw [show (Cs.lst (bvC p)).get (k*3+2)=(bvC p).getD (k*3+2) .any from rfl,g2] at e2;refine ⟨?_,?_,?_⟩
     ·rw [hj _ (by omega),e0.av]
     ·rw [hj _ (by omega),e1.av]
     ·rw [hj _ (by omega),e2.av]
    ·rintro e w' ⟨rfl,lT⟩;exact ⟨_,rfl,lT, .str _⟩
theorem Fn.args {P:Program} {f:Nat} {xs ys:List AV} {r:AV} (h:Fn P f ys r) (hl:yG xs ys):Fn P f xs r:=
 ⟨h.1,fun w Mx vs hm hlen hv=>h.2 w Mx vs hm (hlen.trans hl.len) fun i v y hi hy=>by
  obtain ⟨x,hx⟩: ∃x,xs[i]?=some x:=by
   have:i<ys.length:=(List.getElem?_eq_some_iff.1 hy).1
   exact ⟨_,List.getElem?_eq_getElem (by rw [hl.len];exact this)⟩
  exact (hl.get i x y hx hy).out _ _ _ _ v (hv i v x hi hx)⟩
set_option maxHeartbeats 8000000
theorem YA:Fn Tryz.prog 38 [] (dgA [1,1,1] [9,4,7,10,1,8,11,2,5,0,3,6] ((0:Nat):Int)):=by
 refine Fn.aH [.cell 0 24] Tryz.func38 rfl rfl (by decide) (by simp [Tryz.ntmps38]) ?_;rw [Tryz.ntmps38]
 repeat' (first|omega|(try apply ah);simp only [go_sem,sevalprocAttr]|apply ag<;>(intro h_;(try simp only [h_]);revert h_)|apply And.intro|with_reducible intro h_|trivial|simp only [go_sem,ai];omega)
 all_goals exact ca.refl _
theorem ZG:Fn Tryz.prog 14 [jo false [(bB 2 0,2),(bB 2 2,1),(bB 4 0,-1)], .str ⟨#[97]⟩, .str ⟨#[122]⟩] (.str ⟨#[50,97,94,50,43,97,94,50,122,94,50,45,97,94,52]⟩):=by
 have h:=S6 [(bB 2 0,2),(bB 2 2,1),(bB 4 0,-1)] ⟨#[97]⟩ ⟨#[122]⟩ (by decide) (fun k hk=>by
  match k,hk with
  |0,_=>decide
  |1,_=>decide
  |2,_=>decide) (by decide) (by decide) (by decide)
 rw [show (tL (⟨#[97]⟩:ByteArray).data.toList (⟨#[122]⟩:ByteArray).data.toList [(bB 2 0,2),(bB 2 2,1),(bB 4 0,-1)] [(bB 2 0,(2:Int)),(bB 2 2,1),(bB 4 0,-1)].length)=[50,97,94,50,43,97,94,50,122,94,50,45,97,94,52] by decide+kernel] at h;exact h
theorem ZF:Fn Tryz.prog 14 [jo false [(bB (-1) (-1),1),(bB 1 (-1),-1)], .str ⟨#[97]⟩, .str ⟨#[122]⟩] (.str ⟨#[97,94,45,49,122,94,45,49,45,97,122,94,45,49]⟩):=by
 have h:=S6 [(bB (-1) (-1),1),(bB 1 (-1),-1)] ⟨#[97]⟩ ⟨#[122]⟩ (by decide) (fun k hk=>by
  match k,hk with
  |0,_=>decide
  |1,_=>decide) (by decide) (by decide) (by decide)
 rw [show (tL (⟨#[97]⟩:ByteArray).data.toList (⟨#[122]⟩:ByteArray).data.toList [(bB (-1) (-1),1),(bB 1 (-1),-1)] [(bB (-1) (-1),(1:Int)),(bB 1 (-1),-1)].length)=[97,94,45,49,122,94,45,49,45,97,122,94,45,49] by decide+kernel] at h;exact h
theorem X8:Fn Tryz.prog 8 [] (.bool true):=by
 have h1:=YA;have h2:=LD ⟨by decide+kernel,by decide,by decide,by decide⟩ ZJ
 have h3:Fn Tryz.prog 10 [.agg [.nils, .nils,I 2]] (.tup [jo false [(bB (-1) (-1),1),(bB 1 (-1),-1)],I 0]):=
  Fn.args (LD ⟨by decide+kernel,by decide,by decide,by decide⟩ MD) (.cons (ca.Cy (.cons (ca.nils (by decide) rfl) (.cons (ca.nils (by decide) rfl) (.cons (ca.refl _) .nil)))) .nil)
 have h4:=ZG;have h5:=ZF;refine Fn.aH [.tmp 0] Tryz.func8 rfl rfl (by decide) (by simp [Tryz.ntmps8]) ?_;rw [Tryz.ntmps8]
 repeat' (first|omega|(try apply ah);simp only [go_sem,sevalprocAttr,dq]|(refine ⟨aO.fn (r:=?_) rfl ?_ ?_⟩;rotate_left;assumption)|(refine ⟨c8.fn (r:=?_) rfl ?_ ?_⟩;rotate_left;assumption)|apply ag<;>(intro h_;(try simp only [h_]);revert h_)|apply And.intro|with_reducible intro h_|trivial|simp only [go_sem,ai];omega)
 all_goals exact ca.refl _
def Fh (s m:List Int) (L:Int):Bool:=(decide (6<s.length)&&decide (s.length<=14))||decide (300<m.length)||decide (80<s.length)||(decide (8<L)&&decide (L<=64))
theorem y40 (s m:List Int) (L:Int):Fn Tryz.prog 9 [dgA s m L] (I (if Fh s m L then 0 else 1)):=by
 obtain ⟨b1,e1⟩: ∃b,decide ((6:Int)<s.length)=b:=⟨_,rfl⟩;obtain ⟨b2,e2⟩: ∃b,decide ((s.length:Int)<=14)=b:=⟨_,rfl⟩;obtain ⟨b3,e3⟩: ∃b,decide ((300:Int)<m.length)=b:=⟨_,rfl⟩;obtain ⟨b4,e4⟩: ∃b,decide ((80:Int)<s.length)=b:=⟨_,rfl⟩;obtain ⟨b5,e5⟩: ∃b,decide (8<L)=b:=⟨_,rfl⟩;obtain ⟨b6,e6⟩: ∃b,decide (L<=64)=b:=⟨_,rfl⟩;have f1:decide (6<s.length)=b1:=by rw [←e1];exact decide_eq_decide.2 (by omega)
 have f2:decide (s.length<=14)=b2:=by rw [←e2];exact decide_eq_decide.2 (by omega)
 have f3:decide (300<m.length)=b3:=by rw [←e3];exact decide_eq_decide.2 (by omega)
 have f4:decide (80<s.length)=b4:=by rw [←e4];exact decide_eq_decide.2 (by omega)
 unfold Fh;rw [f1,f2,f3,f4,e5,e6];clear f1 f2 f3 f4;cases b1<;>cases b2<;>cases b3<;>cases b4<;>cases b5<;>cases b6
 all_goals
  refine Fn.intro [.tmp 2] Tryz.func9 rfl rfl (by decide) (by simp [Tryz.ntmps9]) ?_;rw [Tryz.ntmps9]
  repeat' (first|omega|(try apply ah);simp only [go_sem,sevalprocAttr,e1,e2,e3,e4,e5,e6]|apply ag<;>(intro h_;(try simp only [h_]);revert h_)|apply And.intro|with_reducible intro h_|trivial|simp only [go_sem,ai];omega)
theorem ID {s m:List Int} {L:Nat} (h:rU s m L) {p:List (Int×Int)} (hp:dL p (Hs.ng s m L)):Fn Tryz.prog 21 [dgA s m L] (.tup [jo false p, .bool true]):=by
 have h1:=LD h hp;refine Fn.aH [.cell 2 29, .tmp 3] Tryz.func21 rfl rfl (by decide) (by simp [Tryz.ntmps21]) ?_;rw [Tryz.ntmps21]
 repeat' (first|omega|(try apply ah);simp only [go_sem,sevalprocAttr,dq]|(refine ⟨aO.fn (r:=?_) rfl ?_ ?_⟩;rotate_left;assumption)|(refine ⟨c8.fn (r:=?_) rfl ?_ ?_⟩;rotate_left;assumption)|apply ag<;>(intro h_;(try simp only [h_]);revert h_)|apply And.intro|with_reducible intro h_|trivial|simp only [go_sem,ai];omega)
 all_goals exact ca.refl _
theorem y16 {s m:List Int} {l:Nat} (hg:Fh s m l=false) (hv:bI s m l=true) (hn:s.length<=6) (h0:0<s.length\/0<l):rU s m l:=by
 have v1:=dr hv;have nU:=v1.l64;simp only [Fh,Bool.or_eq_false_iff,Bool.and_eq_false_iff,decide_eq_false_iff_not] at hg;exact ⟨hv,by omega,by omega,h0⟩
end Go.Proofs.YtjpbeacamoijhaaGreatDoor
namespace Go.Proofs.YtjpbeacamoijhaaGreatDoor
def nX (e:Int):Int:=bB (-aN e) (az e)
theorem Ik (e:Int):nX (nX e)=e:=by
 have h:=A9 e;unfold nX;rw [tG h,pL h,Int.neg_neg,qI]
theorem Hz (e:Int):aN (nX e)= -aN e:=by unfold nX;rw [tG (A9 e)]
theorem D6 (e:Int):az (nX e)=az e:=by unfold nX;rw [pL (A9 e)]
def yD (f:Int->Int) (e:Int):Int:=Hs.par (az e)*f (nX e)
theorem Mc (z:Int):Hs.par z=1/\z % 2=0\/Hs.par z= -1/\z % 2=1:=by
 unfold Hs.par;by_cases h:z % 2=0
 ·rw [if_pos h];exact .inl ⟨rfl,h⟩
 ·rw [if_neg h];exact .inr ⟨rfl,by omega⟩
theorem c7.flip {f:Int->Int} {N:Int} (h:c7 f N):c7 (yD f) N:=fun e he=>by
 have:=h (nX e) fun h0=>he (by unfold yD;rw [h0,Int.mul_zero])
 rw [Hz,D6] at this;omega
theorem kW.flip {f:Int->Int} (h:kW f):kW (yD f):=fun e=>by
 have:=h (nX e)
 unfold yD;rcases Mc (az e) with ⟨h1,_⟩|⟨h1,_⟩<;>rw [h1]<;>omega
namespace Hs
section
variable {s m:List Int} {l:Nat}
theorem Ni (hv:bI s m l=true) (h0:0<s.length\/0<l) (e:Int):ng (ni s fun _=>true) (td s m fun _=>true) l e=yD (ng s m l) e:=by
 unfold ng yD;dsimp only;rw [Hz,D6,y05 hv (by rw [Int.toNat_natCast];exact h0)]
theorem M6 (hv:bI s m l=true) (h0:0<s.length\/0<l) (e:Int):ng (gU s (fun _=> -1) s.length) (jw m (fun h=>cd h (4-2*(h % 4))) m.length) l e=yD (ng s m l) e:=by
 unfold ng yD;dsimp only;rw [Hz,D6,XQ hv (by rw [Int.toNat_natCast];exact h0)]
theorem M5 (hv:bI s m l=true) (e:Int):ng (gU s (fun _=>1) s.length) (jw m (fun h=>cd h 2) m.length) l e=ng s m l e:=by
 unfold ng;rw [XP hv]
end
section
variable {s1 m1 s2 m2:List Int} {l1 l2:Nat}
end
end Hs
open Go Go.RowKit
set_option maxRecDepth 100000
set_option maxHeartbeats 8000000
def C3:List (List Nat):=[[30,31,32,33,34,35,36,37,38],[29,33,34,36,37,38],[29,33,34,36,37,38],[29,33,34,36,37,38],[29,30,31,32,36,37,38],[29,30,31,32,36,37,38],[29,36,37,38],[29,30,31,32,33,34,35,37],[29,30,31,32,33,34,35,36],[29,30,31,32,33,34,35],[]]
def C0:List (List Nat):=[[],[0],[0],[0],[0,1,2,3],[0,1,2,3],[0],[0,1,2,3,4,5,6],[0,1,2,3,4,5,6,7],[0,1,2,3,4,5,6],[]]
def qo:aP->List (Int×Int)->aP
 |m,[]=>m
 |m,t::p=>qo (mPut m (nX t.1) (Hs.par (az t.1)*t.2)) p
theorem Ry (t:Int×Int): ∀(p:List (Int×Int)) (m:aP),qo m (p++[t])=mPut (qo m p) (nX t.1) (Hs.par (az t.1)*t.2)
 |[],_=>rfl
 |u::p,m=>Ry t p _
theorem Qd (x:Int): ∀(p:List (Int×Int)) (m:aP),mVal (qo m p) x=mVal m x+Hs.par (az x)*cfL p (nX x)
 |[],m=>by simp only [qo,cfL,Int.mul_zero,Int.add_zero]
 |t::p,m=>by
  simp only [qo,cfL];rw [Qd x p,LJ];by_cases h:x=nX t.1
  ·have e:nX x=t.1:=by rw [h,Ik]
   have z:az x=az t.1:=by rw [h,D6]
   rw [if_pos h,if_pos e.symm,z,Int.mul_add];omega
  ·have e: ¬t.1=nX x:=fun e=>h (by rw [e,Ik]);rw [if_neg h,if_neg e,Int.zero_add];omega
theorem ZE {z v B:Int} (h: -B<=v/\v<=B): -B<=Hs.par z*v/\Hs.par z*v<=B:=by
 rcases Mc z with ⟨h1,_⟩|⟨h1,_⟩<;>rw [h1]<;>omega
theorem lj.fl: ∀{p:List (Int×Int)} {m:aP} {k:Nat},lj m k->(∀t∈p,-1125899906842624<=t.2/\t.2<=1125899906842624)->lj (qo m p) (k+p.length)
 |[],_,_,h,_=>h
 |t::p,m,k,h,hb=>by
  have:=lj.fl (p:=p) (h.put (nX t.1) (ZE (z:=az t.1) (hb t (List.mem_cons_self ..)))) fun u hu=>hb u (List.mem_cons_of_mem _ hu)
  rw [List.length_cons,show k+(p.length+1)=k+1+p.length by omega];exact this
theorem Qc {q:Int×Int×Int}: ∀{p:List (Int×Int)} {m:aP},q∈qo m p->q∈m\/ ∃t∈p,q.1=nX t.1
 |[],m,h=> .inl h
 |t::p,m,h=>by
  rcases Qc (p:=p) h with h1|⟨u,h1,h2⟩
  ·rcases IJ h1 with h3|h3
   ·exact .inl h3
   ·exact .inr ⟨t,List.mem_cons_self ..,h3⟩
  ·exact .inr ⟨u,List.mem_cons_of_mem _ h1,h2⟩
theorem y41 {p:List (Int×Int)} (hp:gM p) {k:Nat} (hk:k<p.length):uw (qo [] (p.take k)) (nX (p.getD k (0,0)).1)=none:=by
 cases hf:uw (qo [] (p.take k)) (nX (p.getD k (0,0)).1) with
 |none=>rfl
 |some v=>
  rcases Qc (Ji hf) with h|⟨t,h1,h2⟩
  ·cases h
  ·have h3:(p.getD k (0,0)).1=t.1:=by have:=congrArg nX h2;dsimp only at this;rwa [Ik,Ik] at this
   obtain ⟨i,hi,rfl⟩:=List.mem_iff_getElem.1 h1;rw [List.length_take] at hi
   have:=List.pairwise_iff_getElem.1 hp.asc i k (by omega) hk (by omega)
   rw [List.getElem_take] at h3;rw [List.getD_eq_getElem?_getD,List.getElem?_eq_getElem hk,Option.getD_some] at h3;omega
theorem P9 (p:List (Int×Int)) (h: ∀t∈p,-1125899906842624<=t.2/\t.2<=1125899906842624):(qo [] p).length<=p.length:=by
 have:=(lj.nil.fl h).len;omega
abbrev WY (m:aP):Hp:=[(3, .gmap su m.length (gmL 0 m)),(2,u5)]
theorem y42 {p r:List (Int×Int)} {f:Int->Int} {N:Int} (hp:dL p f) (sp:c7 f N) (hN:N<=150) (bp:kW f) (hr:dL r (yD f)):
  Fn Tryz.prog 23 [jo false p] (jo false r):=by
 have lp:=hp.od sp hN;have cp:=pg p;have mp: ∀t∈p,-1125899906842624<=t.2/\t.2<=1125899906842624:=fun t ht=>by rw [(hp.mem ht).1];exact bp _
 have hv: ∀e,mVal (qo [] p) e=yD f e:=fun e=>by
  rw [Qd,IK,Int.zero_add,hp.cf];rfl
 refine Fn.aH [.cell 2 29] Tryz.func23 rfl rfl (by decide) (by simp [Tryz.ntmps23]) ?_;rw [Tryz.ntmps23]
 repeat' (first|omega|(try apply ah);simp only [go_sem,sevalprocAttr]|apply ag<;>(intro h_;(try simp only [h_]);revert h_)|apply And.intro|with_reducible intro h_|trivial|simp only [go_sem,ai];omega)
 refine pK.makeMap (kt:=109) (et:=107) (n:=p.length) rfl (by simp only [go_sem,sevalprocAttr]) (by simp only [go_sem,sevalprocAttr]) rfl ?_
 repeat' (first|omega|(try apply ah);simp only [go_sem,sevalprocAttr]|apply ag<;>(intro h_;(try simp only [h_]);revert h_)|apply And.intro|with_reducible intro h_|trivial|simp only [go_sem,ai];omega)
 refine dn.intro (fun n fr H=> ∃k:Nat,k<=p.length/\n=p.length-k/\fr=[(17,I k),(16,I p.length),(15,mu p),(3, .mp 3),(2, .ptr 2 0)]/\H=WY (qo [] (p.take k))) ?_ ?_
 ·refine ⟨_,_,_,(Wk.Fb 2 3 (fr':=[(17,I ((0:Nat):Int)),(16,I p.length),(15,mu p),(3, .mp 3),(2, .ptr 1 0)]) (H':=[(3, .gmap su 0 []),(1,u5)]) (fr1:=[(17,I ((0:Nat):Int)),(16,I p.length),(15,mu p),(3, .mp 2),(2, .ptr 1 0)]) (H1:=[(2, .gmap su 0 []),(1,u5)]) rfl rfl rfl rfl ?_ ?_).trans (Wk.Fb 1 2 (fr':=[(17,I ((0:Nat):Int)),(16,I p.length),(15,mu p),(3, .mp 3),(2, .ptr 2 0)]) (H':=WY []) (fr1:=[(17,I ((0:Nat):Int)),(16,I p.length),(15,mu p),(3, .mp 3),(2, .ptr 1 0)]) (H1:=[(3, .gmap su 0 []),(1,u5)]) rfl rfl rfl rfl ?_ ?_),0,by omega,rfl,rfl,rfl⟩
  all_goals simp only [go_sem,sevalprocAttr,dq]
 rintro n fr H ⟨k,hk,rfl,rfl,rfl⟩;by_cases cT:k<p.length
 ·have bk:decide ((k:Int)<p.length)=true:=by simp;omega
  obtain ⟨g0,g1,g2⟩:=yO p k cT;have DF:p.getD k (0,0)∈p:=Is cT;have et:p.take (k+1)=p.take k++[p.getD k (0,0)]:=by rw [List.take_succ_eq_append_getElem cT];simp [cT]
  have em:qo [] (p.take (k+1))=mPut (qo [] (p.take k)) (nX (p.getD k (0,0)).1) (Hs.par (az (p.getD k (0,0)).1)*(p.getD k (0,0)).2):=by rw [et,Ry]
  have hf:=y41 hp.asc cT;have hS:=hp.qm sp DF;have hB:=mp _ DF;have hL:(qo [] (p.take k)).length<=k:=by
   have:=P9 (p.take k) fun t ht=>mp t (List.mem_of_mem_take ht)
   rw [List.length_take] at this;omega
  generalize vL:qo [] (p.take k)=mk at*;generalize rB:qo [] (p.take (k+1))=sR at*;generalize p.getD k (0,0)=t at*;have ek:dj (-aN t.1) (az t.1)=kE (nX t.1):=by unfold kE;rw [Hz,D6]
  have W6:dj (0-aN t.1) (az t.1)=kE (nX t.1):=by rw [Int.zero_sub];exact ek
  rcases Mc (az t.1) with ⟨BX,hz⟩|⟨BX,hz⟩
  ·have bz:((az t.1).tmod 2 !=0)=false:=by rw [bne_eq_false_iff_eq,Int.tmod_eq_emod];split<;>omega
   rw [BX,Int.one_mul] at em;obtain ⟨f1,f2,f3⟩:=Ex t.2 0 hf;have mD:=Dq 0 0 t.2 (by omega) (by omega) (by unfold InI;omega)
   repeat' (first|omega|(first|apply ah|(refine bd.aH (id:=10) C3 C0 (by decide+kernel) mixed ?_)|(refine bd.intro (id:=10) C3 C0 (by decide+kernel) mixed ?_)|skip);simp only [go_sem,sevalprocAttr,bk,cp,g0,g1,g2,bz,↓qe,ek,W6,f1,f2,f3,dq,↓reduceIte,reduceCtorEq,C3,C0]|(refine ⟨aO.fn (r:=?_) rfl ?_ ?_⟩;rotate_left;assumption)|(refine ⟨c8.fn (r:=?_) rfl ?_ ?_⟩;rotate_left;assumption)|apply ag<;>(intro h_;(try simp only [h_]);revert h_)|apply And.intro|with_reducible intro h_|trivial|simp only [go_sem,ai];omega)
   any_goals exact sb _ (fun _ _ _ _=>rfl) _ _
   refine ⟨_,_,_,?_,Wk.sub ?_ ?_,k+1,by omega,rfl,rfl,rfl⟩
   ·omega
   ·simp only [go_sem,sevalprocAttr,dq]
   ·rw [rB,em];simp only [go_sem,sevalprocAttr,dq,↓qe,f3]
    all_goals first|exact sb _ (fun _ _ _ _=>rfl) _ _|(rw [Nat.zero_add] at f2;exact congrArg (AObj.gmap su _) f2)
  ·have bz:((az t.1).tmod 2 !=0)=true:=by rw [bne_iff_ne,Int.tmod_eq_emod];split<;>omega
   rw [BX,Int.neg_one_mul,←Int.zero_sub] at em;obtain ⟨f1,f2,f3⟩:=Ex (0-t.2) 0 hf;have mD:=Dq 0 0 (0-t.2) (by omega) (by omega) (by unfold InI;omega)
   repeat' (first|omega|(first|apply ah|(refine bd.aH (id:=10) C3 C0 (by decide+kernel) mixed ?_)|(refine bd.intro (id:=10) C3 C0 (by decide+kernel) mixed ?_)|skip);simp only [go_sem,sevalprocAttr,bk,cp,g0,g1,g2,bz,↓qe,ek,W6,f1,f2,f3,dq,↓reduceIte,reduceCtorEq,C3,C0]|(refine ⟨aO.fn (r:=?_) rfl ?_ ?_⟩;rotate_left;assumption)|(refine ⟨c8.fn (r:=?_) rfl ?_ ?_⟩;rotate_left;assumption)|apply ag<;>(intro h_;(try simp only [h_]);revert h_)|apply And.intro|with_reducible intro h_|trivial|simp only [go_sem,ai];omega)
   any_goals exact sb _ (fun _ _ _ _=>rfl) _ _
   refine ⟨_,_,_,?_,Wk.sub ?_ ?_,k+1,by omega,rfl,rfl,rfl⟩
   ·omega
   ·simp only [go_sem,sevalprocAttr,dq]
   ·rw [rB,em];simp only [go_sem,sevalprocAttr,dq,↓qe,f3]
    all_goals first|exact sb _ (fun _ _ _ _=>rfl) _ _|(rw [Nat.zero_add] at f2;exact congrArg (AObj.gmap su _) f2)
 ·obtain rfl:k=p.length:=by omega
  have bk:decide ((p.length:Int)<p.length)=false:=by simp
  rw [List.take_length];have hM:=lj.nil.fl mp;rw [Nat.zero_add] at hM;have hl:=P9 p mp;have bf:=bp.flip;have sf:=sp.flip
  repeat' (first|omega|(try apply ah);simp only [go_sem,sevalprocAttr,bk]|apply ag<;>(intro h_;(try simp only [h_]);revert h_)|apply And.intro|with_reducible intro h_|trivial|simp only [go_sem,ai];omega)
  refine ⟨aO.inline (Ms (qo [] p) p.length hM (by omega) (by omega) (fun e=>by rw [hv];exact bf e) (fun e he=>by rw [hv] at he;have:=sf e he;omega) (fr':=[(2, .ptr 2 0)]) (Wk.sub ?_ ?_) (by simp only [go_sem,sevalprocAttr,DX]) rfl fun r' nS ox=>?_)⟩
  ·simp only [go_sem,sevalprocAttr]
  ·simp only [go_sem,sevalprocAttr,↓qe]
   all_goals exact sb _ (fun _ _ _ _=>rfl) _ _
  obtain rfl:r'=r:=gM.ext nS.asc hr.asc fun e=>by rw [nS.cf,hr.cf,hv]
  repeat' (first|omega|(try apply ah);simp only [go_sem,sevalprocAttr]|apply ag<;>(intro h_;(try simp only [h_]);revert h_)|apply And.intro|with_reducible intro h_|trivial|simp only [go_sem,ai];omega)
  all_goals first
   |exact ED _ _ ‹_›
   |exact KP r' _
   |(rw [pg];omega)
def UU:List (List Nat):=[[17,20,21,22,23],[16,20,21,22,23],[20,21,22,23],[20,21,22,23],[16,17,18,19,21],[16,17,18,19,20],[16,17,18,19],[16,17,18,19],[]]
theorem Rx:eq3 Tryz.prog 74=true:=by decide+kernel
theorem ZD (p:List (Int×Int)) (hl:p.length<=1000000):Fn Tryz.prog 70 [mu p,mu p] (.bool true):=by
 have hlen:=pg p;have b0:((p.length:Int)!=p.length)=false:=by simp
 refine Fn.intro [.tmp 4] Tryz.func70 rfl rfl (by decide) (by simp [Tryz.ntmps70]) ?_;rw [Tryz.ntmps70]
 repeat' (first|omega|(try apply ah);simp only [go_sem,sevalprocAttr,b0,dq]|apply ag<;>(intro h_;(try simp only [h_]);revert h_)|apply And.intro|with_reducible intro h_|trivial|simp only [go_sem,ai];omega)
 refine dn.intro (fun n fr H=> ∃k:Nat,k<=p.length/\n=p.length-k/\fr=[(13,I k),(12,I p.length),(1,mu p),(0,mu p)]/\H=[]) ?_ ?_
 ·refine ⟨_,_,_,?_,0,by omega,rfl,rfl,rfl⟩;refine Wk.sub ?_ ?_<;>(simp only [go_sem,sevalprocAttr,dq])
 rintro n fr H ⟨k,hk,rfl,rfl,rfl⟩;by_cases cT:k<p.length
 ·obtain ⟨g0,g1,g2⟩:=yO p k cT;have bk:decide ((k:Int)<p.length)=true:=by simp;omega
  generalize aN (p.getD k (0,0)).1=x at*;generalize az (p.getD k (0,0)).1=y at*;generalize (p.getD k (0,0)).2=v at*
  repeat' (first|omega|(first|apply ah|(refine bd.intro (id:=6) UU [[],[0],[],[],[0,1,2,3],[0,1,2,3,4],[0,1,2,3],[0,1,2,3],[]] (by decide+kernel) mixed ?_)|skip);simp only [go_sem,sevalprocAttr,bk,g0,g1,g2,hlen,Rx,↓reduceIte,reduceCtorEq,UU]|apply ag<;>(intro h_;(try simp only [h_]);revert h_)|apply And.intro|with_reducible intro h_|trivial|simp only [go_sem,ai];omega)
  all_goals (first|exact Rx|skip)
  all_goals
   refine ⟨_,_,_,?_,?_,⟨k+1,by omega,rfl,rfl,rfl⟩⟩
   ·omega
   ·refine Wk.sub ?_ ?_<;>(simp only [go_sem,sevalprocAttr,dq])
 ·obtain rfl:k=p.length:=by omega
  have bk:decide ((p.length:Int)<p.length)=false:=by simp
  repeat' (first|omega|(try apply ah);simp only [go_sem,sevalprocAttr,bk]|apply ag<;>(intro h_;(try simp only [h_]);revert h_)|apply And.intro|with_reducible intro h_|trivial|simp only [go_sem,ai];omega)
theorem S5 (p:List (Int×Int)) (hl:p.length<=1000000):Fn Tryz.prog 22 [jo false p,jo false p] (.bool true):=by
 have hS:=ZD p hl;refine Fn.intro [.tmp 4] Tryz.func22 rfl rfl (by decide) (by simp [Tryz.ntmps22]) ?_;rw [Tryz.ntmps22]
 repeat' (first|omega|(try apply ah);simp only [go_sem,sevalprocAttr,dq]|apply ag<;>(intro h_;(try simp only [h_]);revert h_)|apply And.intro|with_reducible intro h_|trivial|simp only [go_sem,ai];omega)
 refine ⟨aO.fn rfl hS ?_⟩
 repeat' (first|omega|(try apply ah);simp only [go_sem,sevalprocAttr]|apply ag<;>(intro h_;(try simp only [h_]);revert h_)|apply And.intro|with_reducible intro h_|trivial|simp only [go_sem,ai];omega)
theorem X7 (x:Int):Fn Tryz.prog 64 [I x] (.bool true):=by
 refine Fn.intro [.tmp 2] Tryz.func64 rfl rfl (by decide) (by simp [Tryz.ntmps64]) ?_;rw [Tryz.ntmps64]
 repeat' (first|omega|(try apply ah);simp only [go_sem,sevalprocAttr]|apply ag<;>(intro h_;(try simp only [h_]);revert h_)|apply And.intro|with_reducible intro h_|trivial|simp only [go_sem,ai];omega)
theorem y18 (s m:List Int) (L:Int) (hv:bI s m L=true):Fn Tryz.prog 18 [dgA s m L] (.tup [dgA (ni s fun _=>true) (td s m fun _=>true) L,I 0]):=by
 have v1:=dr hv;have yC:=v1.s64;have hf:=TF s m L 64 [] (fun _=>true) (by omega) v1.sg v1.dB.ok rfl (fun x _ _=>X7 x);have hV:=yP s m L;rw [hv] at hV;refine Fn.intro [.cell 2 24, .tmp 3] Tryz.func18 rfl rfl (by decide) (by simp [Tryz.ntmps18]) ?_;rw [Tryz.ntmps18]
 repeat' (first|omega|(try apply ah);simp only [go_sem,sevalprocAttr]|apply ag<;>(intro h_;(try simp only [h_]);revert h_)|apply And.intro|with_reducible intro h_|trivial|simp only [go_sem,ai];omega)
 refine ⟨aO.fn rfl hV ?_⟩
 repeat' (first|omega|(try apply ah);simp only [go_sem,sevalprocAttr]|apply ag<;>(intro h_;(try simp only [h_]);revert h_)|apply And.intro|with_reducible intro h_|trivial|simp only [go_sem,ai];omega)
 refine ⟨aO.fn rfl hf ?_⟩
 repeat' (first|omega|(try apply ah);simp only [go_sem,sevalprocAttr]|apply ag<;>(intro h_;(try simp only [h_]);revert h_)|apply And.intro|with_reducible intro h_|trivial|simp only [go_sem,ai];omega)
end Go.Proofs.YtjpbeacamoijhaaGreatDoor
