/- Plain: the Conway polynomial of a sum along loops. -/
import Derived.Test.YtjpnnnognoaaiaaGreatDoorHs22
import Derived.Test.YtjpnnnognoaaiaaGreatDoorZf
namespace Go.Proofs.YtjpnnnognoaaiaaGreatDoor
set_option linter.unusedSimpArgs false
set_option linter.unusedVariables false
namespace Hs
open Sp (Sph siD PermN itn SC alD)
theorem y8h {s1 m1 s2 m2:List Int} {L1 L2:Int} (h1:yaf s1 m1 L1=true) (h2:yaf s2 m2 L2=true):Two (shD (s1++s2) (Sp.unM m1 m2)) (shD s1 m1) (shD s2 m2) (2*s1.length) (2*s2.length):=by
 have v1:=yal h1
 have v2:=yal h2
 have hl:=v1.len
 have hl2:=v2.len
 have hsl:(s1++s2).length=s1.length+s2.length:=by simp
 have nxv: ∀z w,(Sp.unM m1 m2).getD z 0=((w:Nat):Int)->cod (alD (Sp.unM m1 m2) z)=cod w:=fun z w h=>by unfold alD;rw [h,Int.toNat_natCast]
 refine ⟨hsl,fun c hc=>(yh8 c).1 hc,fun c _=>(yh8 c).2,fun a ha hne=>?_,fun a ha hne=>?_,fun h=>?_,fun h=>?_,⟨fun h=>?_,fun h=>?_⟩⟩
 ·have ha':a<2*s1.length:=ha
  have lo:=ybk (D:=shD s1 m1) ha
  have lo':outH (shD s1 m1) a<4*s1.length:=lo
  show cod (alD (Sp.unM m1 m2) (outH (shD (s1++s2) (Sp.unM m1 m2)) a))=_
  rw [ywa (m1:=m1) _ ha',nxv _ (inH (shD s1 m1) ((shD s1 m1).nx a)) (by rw [Sp.unM_l (by omega),←ycq v1 ha',(yc6 v1 lo).2.1]),yfg]
 ·have ha':a<2*s2.length:=ha
  have lo:=ybk (D:=shD s2 m2) ha
  have lo':outH (shD s2 m2) a<4*s2.length:=lo
  show cod (alD (Sp.unM m1 m2) (outH (shD (s1++s2) (Sp.unM m1 m2)) (2*s1.length+a)))=2*s1.length+_
  rw [ywb (m2:=m2),←hl,nxv _ (4*s1.length+inH (shD s2 m2) ((shD s2 m2).nx a)) (by
   rw [Sp.unM_r (by omega),hl]
   have e1:=(yc6 v2 lo).2.1
   have e2:=ycq v2 ha'
   rw [←e2];omega),yob,yfg]
 ·have:2*s1.length<2*s1.length:=h;omega
 ·have:2*s2.length<2*s2.length:=h;omega
 ·have:2*s1.length<2*s1.length:=h;omega
 ·have:2*s2.length<2*s2.length:=h;omega
theorem ynl {D:Sh} {X X':Int->Int->Nat->Int} {n l:Nat} (hn:0<n\/0<l) (h: ∀i j k,0<=j->1<=k+l->X i j k=X' i j k) {st:Nat->Nat}:run X D (List.range (2*n)) (Z0 st 0)=run X' D (List.range (2*n)) (Z0 st 0):=by
 by_cases hl:0<l
 ·exact yhj (j0:=0) (k0:=0) (fun i j k hj _=>h i j k hj (by omega)) _ _ (Int.le_refl _) (Nat.le_refl _)
 ·have hn0:0<n:=hn.resolve_right hl
  rw [ynk (2*n) (by omega)]
  exact yi4 (fun i j k hj hk=>h i j k hj (by omega)) _
theorem HF_uni {s1 m1 s2 m2:List Int} {l1 l2:Nat} (h1:yaf s1 m1 l1=true) (h2:yaf s2 m2 l2=true) (hn:s1.length+s2.length<=64) (hL:(l1:Int)+l2<=64) (n1:0<s1.length\/0<l1) (n2:0<s2.length\/0<l2) (hl:0<l1+l2) (hv:yaf (s1++s2) (Sp.unM m1 m2) ((l1:Int)+l2-1)=true) (p:Nat):
  HF (Xc p) (s1++s2) (Sp.unM m1 m2) ((l1:Int)+l2-1)=sm (fun t=>HF (Xc t) s1 m1 l1*HF (Xc ((p:Int)-t)) s2 m2 l2) (p+1):=by
 have v1:=yal h1
 have v2:=yal h2
 have T:=y8h h1 h2
 have k1:=ybo v1
 have k2:=ybo v2
 have hsl:(s1++s2).length=s1.length+s2.length:=by simp
 have hk:((l1:Int)+l2-1).toNat=l1+l2-1:=by omega
 have e0:HF (Xc p) (s1++s2) (Sp.unM m1 m2) ((l1:Int)+l2-1)=run (Xc p) (shD (s1++s2) (Sp.unM m1 m2)) (List.range (2*(s1++s2).length)) (Z0 (fun _=>1) (l1+l2-1)):=by unfold HF;rw [hk]
 rw [e0]
 have hcov:Cov (shD (s1++s2) (Sp.unM m1 m2)) (List.range (2*s1.length)++(List.range (2*s2.length)).map fun a=>2*(shD s1 m1).n+a) (Z0 (fun _=>1) (l1+l2-1)):=by
  have en:(shD (s1++s2) (Sp.unM m1 m2)).n=s1.length+s2.length:=hsl
  have e1:(shD s1 m1).n=s1.length:=rfl
  refine ⟨fun a ha=>?_,fun a ha _=>?_⟩
  ·rw [en]
   rcases List.mem_append.1 ha with h|h
   ·have:=List.mem_range.1 h;omega
   ·obtain ⟨b,hb,rfl⟩:=List.mem_map.1 h
    have:=List.mem_range.1 hb;omega
  ·rw [en] at ha
   by_cases h:a<2*s1.length
   ·exact List.mem_append_left _ (List.mem_range.2 h)
   ·exact List.mem_append_right _ (List.mem_map.2 ⟨a-2*s1.length,List.mem_range.2 (by omega),by omega⟩)
 have e1:=ord (ybo (yal hv)) (yfr hv) (ygn p) (yfh _ (fun _=> .inl (Nat.le_refl _)) _) (yel (shD (s1++s2) (Sp.unM m1 m2)) (fun _=>1) (l1+l2-1)) hcov
 refine e1.trans ?_
 have ke: ∀{D:Sh} {X:Int->Int->Nat->Int} (B:List Nat) (l:Nat),run X D B (Z0 (fun _=>1) l)=run (fun i j k=>X i j (k+l)) D B (Z0 (fun _=>1) 0):=fun {D X} B l=>by
  have:=ykx (D:=D) (X:=X) l B (Z0 (fun _=>1) 0)
  rw [←this]
  congr 1
  show WS.mk _ _ _ _ _=WS.mk _ _ _ _ _
  congr 1;show l=0+l;omega
 rw [ke]
 refine (yzz k1 k2 T (by show¬2*s1.length<2*s1.length;omega) (fun i j k=>Xc p i j (k+(l1+l2-1))) (L1:=List.range (2*s1.length)) (L2:=List.range (2*s2.length)) (fun a ha=>List.mem_range.1 ha) (fun a ha=>List.mem_range.1 ha) (S:=Z0 (fun _=>1) 0) (S1:=Z0 (fun _=>1) 0) (S2:=Z0 (fun _=>1) 0) ⟨fun _ _=>rfl,fun _=>rfl,fun _ _=>rfl,fun _=>rfl,rfl,rfl,rfl⟩).trans ?_
 have c1: ∀t:Int,HF (Xc t) s1 m1 l1=run (fun i j k=>Xc t i j (k+l1)) (shD s1 m1) (List.range (2*s1.length)) (Z0 (fun _=>1) 0):=fun t=>by
  unfold HF
  rw [Int.toNat_natCast,ke]
 have c2: ∀t:Int,HF (Xc t) s2 m2 l2=run (fun i j k=>Xc t i j (k+l2)) (shD s2 m2) (List.range (2*s2.length)) (Z0 (fun _=>1) 0):=fun t=>by
  unfold HF
  rw [Int.toNat_natCast,ke]
 have st: ∀i j k,0<=j->1<=k+l1->run (fun i' j' k'=>Xc p (i+i') (j+j') (k+k'+(l1+l2-1))) (shD s2 m2) (List.range (2*s2.length)) (Z0 (fun _=>1) 0)=sm (fun t=>Xc t i j (k+l1)*HF (Xc ((p:Int)-t)) s2 m2 l2) (p+1):=fun i j k hj hk=>by
  have e2:run (fun i' j' k'=>Xc p (i+i') (j+j') (k+k'+(l1+l2-1))) (shD s2 m2) (List.range (2*s2.length)) (Z0 (fun _=>1) 0)=run (fun i' j' k'=>sm (fun t=>Xc t i j (k+l1)*Xc ((p:Int)-t) i' j' (k'+l2)) (p+1)) (shD s2 m2) (List.range (2*s2.length)) (Z0 (fun _=>1) 0):=by
   refine ynl n2 fun i' j' k' hj' hk'=>?_
   by_cases hkk:k+l1=1/\k'+l2=1
   ·by_cases hjp:j<=p
    ·obtain ⟨t,rfl⟩: ∃t:Nat,j=t:=⟨j.toNat,by omega⟩
     rw [ym7 (a:=t) (by omega) fun u _ hu=>?_]
     ·unfold Xc
      rw [if_pos (c:=k+l1=1/\(t:Int)=t) ⟨hkk.1,rfl⟩,Int.one_mul]
      have:(k+k'+(l1+l2-1)=1/\(t:Int)+j'=p)↔(k'+l2=1/\j'=(p:Int)-t):=by omega
      simp only [this]
     ·unfold Xc
      rw [if_neg (c:=k+l1=1/\(t:Int)=u) (by omega),Int.zero_mul]
    ·rw [show sm (fun t=>Xc t i j (k+l1)*Xc ((p:Int)-t) i' j' (k'+l2)) (p+1)=sm (fun _=>0) (p+1) from ycc fun t ht=>by
      unfold Xc
      rw [if_neg (c:=k+l1=1/\j=(t:Int)) (by omega),Int.zero_mul]]
     rw [sm_0]
     unfold Xc
     exact if_neg (by omega)
   ·rw [show sm (fun t=>Xc t i j (k+l1)*Xc ((p:Int)-t) i' j' (k'+l2)) (p+1)=sm (fun _=>0) (p+1) from ycc fun t ht=>by
     unfold Xc
     by_cases h:k+l1=1
     ·rw [if_neg (c:=k'+l2=1/\j'=(p:Int)-t) (by omega),Int.mul_zero]
     ·rw [if_neg (c:=k+l1=1/\j=(t:Int)) (by omega),Int.zero_mul]]
    rw [sm_0]
    unfold Xc
    exact if_neg (by omega)
  rw [e2]
  have hl:=yky (D:=shD s2 m2) (List.range (2*s2.length)) (Z0 (fun _=>1) 0)
  rw [hl.sm (fun t (q:Int×Int×Nat)=>Xc t i j (k+l1)*Xc ((p:Int)-t) q.1 q.2.1 (q.2.2+l2)) (p+1)]
  refine ycc fun t _=>?_
  refine (hl.mul (Xc t i j (k+l1)) fun q=>Xc ((p:Int)-t) q.1 q.2.1 (q.2.2+l2)).trans ?_
  rw [c2]
 rw [ynl n1 st]
 have hl:=yky (D:=shD s1 m1) (List.range (2*s1.length)) (Z0 (fun _=>1) 0)
 rw [hl.sm (fun t (q:Int×Int×Nat)=>Xc t q.1 q.2.1 (q.2.2+l1)*HF (Xc ((p:Int)-t)) s2 m2 l2) (p+1)]
 refine ycc fun t _=>?_
 have:(fun q:Int×Int×Nat=>Xc t q.1 q.2.1 (q.2.2+l1)*HF (Xc ((p:Int)-t)) s2 m2 l2)=fun q=>HF (Xc ((p:Int)-t)) s2 m2 l2*Xc t q.1 q.2.1 (q.2.2+l1):=by funext q;rw [Int.mul_comm]
 rw [this]
 refine (hl.mul (HF (Xc ((p:Int)-t)) s2 m2 l2) fun q=>Xc t q.1 q.2.1 (q.2.2+l1)).trans ?_
 rw [c1,Int.mul_comm]
end Hs
end Go.Proofs.YtjpnnnognoaaiaaGreatDoor
set_option linter.unusedSimpArgs false
set_option linter.unusedVariables false
namespace Go.Proofs.YtjpnnnognoaaiaaGreatDoor
open Go Go.RowKit
set_option maxRecDepth 100000
set_option maxHeartbeats 4000000
def yz2:List (List Nat):=[[17,20,21,22,23],[16,20,21,22,23],[20,21,22,23],[20,21,22,23],[16,17,18,19,21],[16,17,18,19,20],[16,17,18,19],[16,17,18,19],[]]
theorem ysa:eq2 Tryz.prog 62=true:=by decide+kernel
theorem y8i (p:List (Int×Int)) (hl:p.length<=1000000):Fn Tryz.prog 43 [.ro 2 p.length (.lst (tmC p)), .ro 2 p.length (.lst (tmC p))] (.bool true):=by
 have hlen:=yc0 p
 have b0:((p.length:Int)!=p.length)=false:=by simp
 refine Fn.intro [.tmp 4] Tryz.func43 rfl rfl (by decide) (by simp [Tryz.ntmps43]) ?_;rw [Tryz.ntmps43]
 repeat' (first|omega|(try apply yaa);simp only [go_sem,sevalprocAttr,b0]|apply yab<;>(intro h_;(try simp only [h_]);revert h_)|apply And.intro|with_reducible intro h_|trivial|simp only [go_sem,la2];omega)
 refine yaz.intro (fun n fr H=> ∃k:Nat,k<=p.length/\n=p.length-k/\fr=[(13,I k),(12,I p.length),(1, .ro 2 p.length (.lst (tmC p))),(0, .ro 2 p.length (.lst (tmC p)))]/\H=[]) ?_ ?_
 ·refine ⟨_,_,_,?_,0,by omega,rfl,rfl,rfl⟩
  refine Wk.sub ?_ ?_<;>(simp only [go_sem,sevalprocAttr,yde])
 rintro n fr H ⟨k,hk,rfl,rfl,rfl⟩
 by_cases hkl:k<p.length
 ·have g0:=yct p k hkl
  have g1:=yez p k hkl
  have b1:((p.getD k (0,0)).1==(p.getD k (0,0)).1)=true:=by simp
  have b2:((p.getD k (0,0)).2==(p.getD k (0,0)).2)=true:=by simp
  repeat' (first|omega|(first|apply yaa|(refine yac.intro (id:=6) yz2 [[],[0],[],[],[0,1,2,3],[0,1,2,3,4],[0,1,2,3],[0,1,2,3],[]] (by decide+kernel) mixed ?_)|skip);simp only [go_sem,sevalprocAttr,g0,g1,hlen,b1,b2,ysa,↓reduceIte,reduceCtorEq,yz2]|apply yab<;>(intro h_;(try simp only [h_]);revert h_)|apply And.intro|with_reducible intro h_|trivial|simp only [go_sem,la2];omega)
  all_goals (first|exact ysa|skip)
  refine ⟨_,_,_,?_,?_,⟨k+1,by omega,rfl,rfl,rfl⟩⟩
  ·omega
  ·refine Wk.sub ?_ ?_<;>(simp only [go_sem,sevalprocAttr,yde])
 ·obtain rfl:k=p.length:=by omega
  repeat' (first|omega|(try apply yaa);simp only [go_sem,sevalprocAttr]|apply yab<;>(intro h_;(try simp only [h_]);revert h_)|apply And.intro|with_reducible intro h_|trivial|simp only [go_sem,la2];omega)
theorem y2y (p:List (Int×Int)) (hl:p.length<=1000000):Fn Tryz.prog 13 [plA false p,plA false p] (.bool true):=by
 have hS:=y8i p hl
 refine Fn.intro [.tmp 4] Tryz.func13 rfl rfl (by decide) (by simp [Tryz.ntmps13]) ?_;rw [Tryz.ntmps13]
 repeat' (first|omega|(try apply yaa);simp only [go_sem,sevalprocAttr,yde]|apply yab<;>(intro h_;(try simp only [h_]);revert h_)|apply And.intro|with_reducible intro h_|trivial|simp only [go_sem,la2];omega)
 refine ⟨yad.fn rfl hS ?_⟩
 repeat' (first|omega|(try apply yaa);simp only [go_sem,sevalprocAttr]|apply yab<;>(intro h_;(try simp only [h_]);revert h_)|apply And.intro|with_reducible intro h_|trivial|simp only [go_sem,la2];omega)
end Go.Proofs.YtjpnnnognoaaiaaGreatDoor
