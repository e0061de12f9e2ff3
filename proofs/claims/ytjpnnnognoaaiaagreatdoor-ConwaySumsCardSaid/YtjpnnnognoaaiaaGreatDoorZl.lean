/- Layer 12: the product of two polynomials, where its exponents lie close. -/
import Derived.Test.YtjpnnnognoaaiaaGreatDoorZk
set_option linter.unusedSimpArgs false
set_option linter.unusedVariables false
namespace Go.Proofs.YtjpnnnognoaaiaaGreatDoor
open Go Go.RowKit
set_option maxHeartbeats 8000000
set_option maxRecDepth 100000
def yh0:List (List Nat):=[[33,36,38,5],[33,36,38,5],[31,32,36,38,5],[36,38,5],[36,37,38,39,40,5],[31,32,33,34,35,38,5],[35,38,5],[31,32,33,34,35,36,37,5],[35,5],[35,5],[31,32,33,34,35,36,37,38,39,40],[40],[]]
def yh1:List (List Nat):=[[],[],[0,1],[],[],[0,1,2,3,4],[4],[0,1,2,3,4,5,6],[4],[4],[0,1,2,3,4,5,6,7,8,9],[9],[]]
structure yq4 (p:List (Int×Int)):Prop where
 fits:yff p
 len:p.length<=100000
 asc: ∀i j,i<=j->j<p.length->(p.getD i (0,0)).1<=(p.getD j (0,0)).1
 exp: ∀i,i<p.length-> -1000000<=(p.getD i (0,0)).1/\(p.getD i (0,0)).1<=1000000
theorem yyz {l:List Int} {k:Nat} (h:k<l.length):l.take (k+1)=l.take k++[l.getD k 0]:=by
 rw [List.take_succ_eq_append_getElem h];simp [h]
theorem y52 (i:Nat) (p:List Int):(wdC p).map (cutV i)=wdC p:=by
 conv=>rhs;rw [←List.map_id (wdC p)]
 exact List.map_congr_left fun x hx=>by obtain ⟨n,rfl⟩:=ytx hx;rfl
theorem y7t (p q:List (Int×Int)) (hp:yq4 p) (hq:yq4 q) (hp0:0<p.length) (hq0:0<q.length) (hlo: -1048576<=lowE p+lowE q) (hhi:yce p+yce q<=1048576)
  (hsp:yce p+yce q-(lowE p+lowE q)<1048576) (hde:yce p+yce q-(lowE p+lowE q)<=64+4*p.length*q.length) (hz: ∀z∈mulZ p q,-1125899906842624<=z/\z<=1125899906842624):
  Fn Tryz.prog 18 [plA false p,plA false q] (plA false (tmI (lowE p+lowE q) (mulZ p q))):=by
 have L1:=yyx p hp0
 have L2:=yyx q hq0
 have H1:=yty p hp0 (by have:=hp.len;omega)
 have H2:=yty q hq0 (by have:=hq.len;omega)
 have a1:=hp.asc 0 (p.length-1) (by omega) (by omega)
 have a2:=hq.asc 0 (q.length-1) (by omega) (by omega)
 have x1:=hp.exp 0 hp0
 have x2:=hq.exp 0 hq0
 have x3:=hp.exp (p.length-1) (by omega)
 have x4:=hq.exp (q.length-1) (by omega)
 have pl:=hp.len
 have ql:=hq.len
 have hx: ∀i j,i<p.length->j<q.length->lowE p+lowE q<=(p.getD i (0,0)).1+(q.getD j (0,0)).1/\(p.getD i (0,0)).1+(q.getD j (0,0)).1<=yce p+yce q:=fun i j hi hj=>by
  have b1:=hp.asc 0 i (by omega) hi
  have b2:=hq.asc 0 j (by omega) hj
  have b3:=hp.asc i (p.length-1) (by omega) (by omega)
  have b4:=hq.asc j (q.length-1) (by omega) (by omega)
  unfold lowE yce
  omega
 have hpe: ∀i,i<p.length-> -2000000<=(p.getD i (0,0)).1/\(p.getD i (0,0)).1<=2000000:=fun i hi=>by have:=hp.exp i hi;omega
 have hqe: ∀i,i<q.length-> -2000000<=(q.getD i (0,0)).1/\(q.getD i (0,0)).1<=2000000:=fun i hi=>by have:=hq.exp i hi;omega
 have hpr:p.length*q.length<=100000*100000:=Nat.mul_le_mul pl ql
 have hpc:(4:Int)*p.length*q.length=4*((p.length*q.length:Nat):Int):=by rw [Int.natCast_mul,Int.mul_assoc]
 unfold mulZ at hz⊢
 unfold lowE yce at*
 generalize (p.getD 0 (0,0)).1=lp at*
 generalize (q.getD 0 (0,0)).1=lq at*
 generalize (p.getD (p.length-1) (0,0)).1=hp' at*
 generalize (q.getD (q.length-1) (0,0)).1=hq' at*
 have b0:((p.length:Int)==0)=false:=by rw [beq_eq_false_iff_ne];omega
 have b1:((q.length:Int)==0)=false:=by rw [beq_eq_false_iff_ne];omega
 have b2:decide (lp+lq< -1048576)=false:=by simp;omega
 have b3:decide (1048576<hp'+hq')=false:=by simp;omega
 have b4:decide (64+4*(p.length:Int)*q.length<hp'+hq'-(lp+lq))=false:=by simp;omega
 refine Fn.introL [.cell 4 34] Tryz.func18 rfl rfl (by decide) (by simp [Tryz.ntmps18]) ?_;rw [Tryz.ntmps18]
 repeat' (first|omega|(first|apply yaa|(refine yac.intro (id:=5) yh0 yh1 (by decide+kernel) mixed ?_)|skip);simp only [go_sem,sevalprocAttr,b0,b1,↓reduceIte,reduceCtorEq,yh0,yh1]|apply yab<;>(intro h_;(try simp only [h_]);revert h_)|apply And.intro|with_reducible intro h_|trivial|simp only [go_sem,la2];omega)
 refine ⟨yap.fn rfl L1 ?_⟩
 simp only [go_sem,sevalprocAttr]
 refine ⟨yap.fn rfl L2 ?_⟩
 simp only [go_sem,sevalprocAttr]
 repeat' (first|omega|(first|apply yaa|(refine yac.intro (id:=5) yh0 yh1 (by decide+kernel) mixed ?_)|skip);simp only [go_sem,sevalprocAttr,b0,b1,↓reduceIte,reduceCtorEq,yh0,yh1]|apply yab<;>(intro h_;(try simp only [h_]);revert h_)|apply And.intro|with_reducible intro h_|trivial|simp only [go_sem,la2];omega)
 refine ⟨yap.fn rfl H1 ?_⟩
 simp only [go_sem,sevalprocAttr]
 refine ⟨yap.fn rfl H2 ?_⟩
 simp only [go_sem,sevalprocAttr]
 repeat' (first|omega|(first|apply yaa|(refine yac.intro (id:=5) yh0 yh1 (by decide+kernel) mixed ?_)|skip);simp only [go_sem,sevalprocAttr,b2,b3,b4,y2o,↓reduceIte,reduceCtorEq,yh0,yh1]|apply yab<;>(intro h_;(try simp only [h_]);revert h_)|apply And.intro|with_reducible intro h_|trivial|simp only [go_sem,la2];omega)
 obtain ⟨N,hN⟩: ∃N:Nat,(hp'+hq'-(lp+lq)+1).toNat=N:=⟨_,rfl⟩
 rw [hN] at hz⊢
 refine ⟨yad.inline (ypc p q (lp+lq) (List.replicate N 0) N (by simp) (by omega) (by omega) hp.fits hq.fits (by omega) (by omega) (fun i j hi hj=>by have:=hx i j hi hj;omega) hpe hqe
  (fun H' g0 g1 g2 g13 g14 g15=>y29 (by simp only [go_sem,sevalprocAttr,g0,g1,g2,g13,g14,g15])) ?_)⟩
 have hzl:=yhw p q (lp+lq) p.length (List.replicate N 0)
 rw [List.length_replicate] at hzl
 generalize pz1 p q (lp+lq) p.length (List.replicate N 0)=zs at*
 have hwl:=ytw zs
 repeat' (first|omega|(try apply yaa);simp only [go_sem,sevalprocAttr]|apply yab<;>(intro h_;(try simp only [h_]);revert h_)|apply And.intro|with_reducible intro h_|trivial|simp only [go_sem,la2];omega)
 refine yaz.intro (fun n fr H=> ∃k:Nat,k<=N/\n=N-k/\fr=[(75,I k),(74,I N),(73, .sl 2 14 0 N),(8, .ptr 18 0),(5, .ptr 13 0),(4, .ptr 2 0)]/\
  ((tmI (lp+lq) (zs.take k)=[]/\H=[(18, .cells 34 (.lst [.bool false, .nils])),(14, .cells 78 (.lst (wdC zs))),(13, .cells 3 (.lst [I (lp+lq)])),(2, .cells 34 (.lst [.bool false, .nils]))])\/
   H=[(21, .cells 62 (.lst (tmC (tmI (lp+lq) (zs.take k))))),(18, .cells 34 (.lst [.bool false, .sl 2 21 0 (tmI (lp+lq) (zs.take k)).length])),(14, .cells 78 (.lst (wdC zs))),(13, .cells 3 (.lst [I (lp+lq)])),(2, .cells 34 (.lst [.bool false, .nils]))])) ?_ ?_
 ·refine ⟨_,_,_,?_,0,by omega,rfl,rfl, .inl ⟨by simp [tmI],rfl⟩⟩
  refine Wk.sub ?_ ?_<;>(simp only [go_sem,sevalprocAttr,yde])
  all_goals simp_all
 rintro n fr H ⟨k,hk,rfl,rfl,hc⟩
 have htl:=ytn (lp+lq) (zs.take k)
 rw [List.length_take] at htl
 by_cases hkl:k<N
 ·have g0:=yq2 zs k (by omega)
  have g1:=yq3 zs k (by omega)
  have hzk:=hz (zs.getD k 0) (by simp [List.getD_eq_getElem?_getD,List.getElem?_eq_getElem (show k<zs.length by omega)])
  have hS:=y2n (zs.getD k 0) hzk.1 hzk.2
  have eT:=yqv (lp+lq) (zs.take k) (zs.getD k 0)
  rw [←yyz (by omega),List.length_take,show min k zs.length=k by omega] at eT
  generalize zs.getD k 0=z at*
  have hlen:=yc0 (tmI (lp+lq) (zs.take k))
  by_cases hz0:z=0
  ·subst hz0
   rw [if_pos rfl,List.append_nil] at eT
   rcases hc with ⟨hn,rfl⟩|rfl
   ·repeat' (first|omega|(try apply yaa);simp only [go_sem,sevalprocAttr,g0,g1,hwl]|apply yab<;>(intro h_;(try simp only [h_]);revert h_)|apply And.intro|with_reducible intro h_|trivial|simp only [go_sem,la2];omega)
    refine ⟨yad.fn rfl hS ?_⟩
    repeat' (first|omega|(try apply yaa);simp only [go_sem,sevalprocAttr]|apply yab<;>(intro h_;(try simp only [h_]);revert h_)|apply And.intro|with_reducible intro h_|trivial|simp only [go_sem,la2];omega)
    refine ⟨_,_,_,?_,?_,⟨k+1,by omega,rfl,rfl, .inl ⟨by rw [eT];exact hn,rfl⟩⟩⟩
    ·omega
    ·refine Wk.sub ?_ ?_<;>(simp only [go_sem,sevalprocAttr,yde])
     all_goals simp_all
   ·repeat' (first|omega|(try apply yaa);simp only [go_sem,sevalprocAttr,g0,g1,hwl]|apply yab<;>(intro h_;(try simp only [h_]);revert h_)|apply And.intro|with_reducible intro h_|trivial|simp only [go_sem,la2];omega)
    refine ⟨yad.fn rfl hS ?_⟩
    repeat' (first|omega|(try apply yaa);simp only [go_sem,sevalprocAttr]|apply yab<;>(intro h_;(try simp only [h_]);revert h_)|apply And.intro|with_reducible intro h_|trivial|simp only [go_sem,la2];omega)
    refine ⟨_,_,_,?_,?_,⟨k+1,by omega,rfl,rfl, .inr rfl⟩⟩
    ·omega
    ·rw [eT]
     refine Wk.sub ?_ ?_<;>(simp only [go_sem,sevalprocAttr,yde])
     all_goals simp_all
  ·rw [if_neg hz0] at eT
   have bz:(z !=0)=true:=by simpa using hz0
   rcases hc with ⟨hn,rfl⟩|rfl
   ·rw [hn,List.nil_append] at eT
    repeat' (first|omega|(try apply yaa);simp only [go_sem,sevalprocAttr,g0,g1,hwl]|apply yab<;>(intro h_;(try simp only [h_]);revert h_)|apply And.intro|with_reducible intro h_|trivial|simp only [go_sem,la2];omega)
    refine ⟨yad.fn rfl hS ?_⟩
    repeat' (first|omega|(try apply yaa);simp only [go_sem,sevalprocAttr,bz]|apply yab<;>(intro h_;(try simp only [h_]);revert h_)|apply And.intro|with_reducible intro h_|trivial|simp only [go_sem,la2];omega)
    refine ⟨_,_,_,?_,?_,⟨k+1,by omega,rfl,rfl, .inr rfl⟩⟩
    ·omega
    ·rw [eT]
     refine Wk.sub ?_ ?_<;>(simp only [go_sem,sevalprocAttr,yde])
     all_goals rfl
   ·repeat' (first|omega|(try apply yaa);simp only [go_sem,sevalprocAttr,g0,g1,hwl]|apply yab<;>(intro h_;(try simp only [h_]);revert h_)|apply And.intro|with_reducible intro h_|trivial|simp only [go_sem,la2];omega)
    refine ⟨yad.fn rfl hS ?_⟩
    repeat' (first|omega|(try apply yaa);simp only [go_sem,sevalprocAttr,bz,hlen,y52]|apply yab<;>(intro h_;(try simp only [h_]);revert h_)|apply And.intro|with_reducible intro h_|trivial|simp only [go_sem,la2];omega)
    rw [yiw]
    refine ⟨_,_,_,?_,?_,⟨k+1,by omega,rfl,rfl, .inr rfl⟩⟩
    ·omega
    ·rw [eT]
     refine Wk.sub ?_ ?_<;>(simp only [go_sem,sevalprocAttr,yde,List.length_append])
     all_goals simp_all
 ·obtain rfl:k=N:=by omega
  rw [List.take_of_length_le (by omega)] at hc htl
  rcases hc with ⟨hn,rfl⟩|rfl
  ·repeat' (first|omega|(try apply yaa);simp only [go_sem,sevalprocAttr]|apply yab<;>(intro h_;(try simp only [h_]);revert h_)|apply And.intro|with_reducible intro h_|trivial|simp only [go_sem,la2];omega)
   all_goals rw [hn]
   all_goals exact LeA.aggL (.cons (LeA.refl _) (.cons (LeA.nils (by omega) rfl) .nil))
  ·have hlen:=yc0 (tmI (lp+lq) zs)
   repeat' (first|omega|(try apply yaa);simp only [go_sem,sevalprocAttr,yoy]|apply yab<;>(intro h_;(try simp only [h_]);revert h_)|apply And.intro|with_reducible intro h_|trivial|simp only [go_sem,la2];omega)
   all_goals exact LeA.of (by rw [List.take_of_length_le (by omega)])
end Go.Proofs.YtjpnnnognoaaiaaGreatDoor
set_option linter.unusedSimpArgs false
set_option linter.unusedVariables false
namespace Go.Proofs.YtjpnnnognoaaiaaGreatDoor
open Go Go.RowKit
set_option maxHeartbeats 8000000
set_option maxRecDepth 100000
theorem ytz (q:List (Int×Int)):Fn Tryz.prog 18 [plA false [],plA false q] (plA false []):=by
 refine Fn.introL [.cell 4 34] Tryz.func18 rfl rfl (by decide) (by simp [Tryz.ntmps18]) ?_;rw [Tryz.ntmps18]
 repeat' (first|omega|(try apply yaa);simp only [go_sem,sevalprocAttr]|apply yab<;>(intro h_;(try simp only [h_]);revert h_)|apply And.intro|with_reducible intro h_|trivial|simp only [go_sem,la2];omega)
 all_goals exact LeA.aggL (.cons (LeA.refl _) (.cons (LeA.nils (by omega) rfl) .nil))
end Go.Proofs.YtjpnnnognoaaiaaGreatDoor
