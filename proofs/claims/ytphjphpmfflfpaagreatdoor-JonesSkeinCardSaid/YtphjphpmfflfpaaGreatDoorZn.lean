/- Layer 12: products of polynomials. -/
import Derived.Test.YtphjphpmfflfpaaGreatDoorZm
set_option linter.unusedSimpArgs false
set_option linter.unusedVariables false
namespace Go.Proofs.YtphjphpmfflfpaaGreatDoor
open Go Go.RowKit
set_option maxHeartbeats 8000000
set_option maxRecDepth 100000
def DB:List (List Nat):=[[7,8,9,10,11,12,13,14,15,16,17],[6,8,10,11,12,13,14,15,16,17],[6,7,10,11,12,13,14,15,16,17],[6,10,11,12,13,14,15,16,17],[6,7,8,9,11,12,13,16],[6,7,8,9,10,12,16],[6,7,8,9,10,11,16],[6,7,8,9,10,16],[6,7,8,9,16],[6,7,8,9,16],[6,7,8,9,10,11,12,13,14,15],[6,7,8,9],[],[]]
def DA:List (List Nat):=[[],[0],[0,1],[0],[0,1,2,3],[0,1,2,3,4],[0,1,2,3,4,5],[0,1,2,3,4],[0,1,2,3],[0,1,2,3],[0,1,2,3,4,5,6,7,8,9],[0,1,2,3],[],[]]
def ym:List (List Nat):=[[25,26,27,28,29,30,31,32,33,34],[24,27,28,30,31,32,33,34],[24,27,28,30,31,32,33,34],[24,25,26,30,31,32,33,34],[24,25,26,30,31,32,33,34],[24,30,31,32,33,34],[24,25,26,27,28,29,32,33],[24,25,26,27,28,29,32,33],[24,25,26,27,28,29,30,31],[24,25,26,27,28,29,30,31],[24,25,26,27,28,29],[]]
def yk:List (List Nat):=[[],[0],[0],[0,1,2],[0,1,2],[0],[0,1,2,3,4,5],[0,1,2,3,4,5],[0,1,2,3,4,5,6,7],[0,1,2,3,4,5,6,7],[0,1,2,3,4,5],[]]
abbrev Rt (p q:List (Int×Int)) (low:Int) (N:Nat) (zs:List Int) (e1 c1 e2 c2:Int):Hp:=(19, .cells 75 (.lst [I e2,I c2]))::(18, .cells 75 (.lst [I e1,I c1]))::(17, .cells 29 (.lst [.bool false,tmA q]))::(16, .cells 29 (.lst [.bool false,tmA p]))::rD p q low N zs
theorem WX (p q:List (Int×Int)) (low:Int) (zs:List Int) (e1 c1 e2 c2 e w:Int) (N:Nat) (hN:zs.length=N) (hl: -2000000<=low/\low<=2000000) (he:low<=e/\e<low+N) (Sz:N<=4000000) {fr:Fr} {K:AV->Fr->Hp->Prop}
  (hK:K (.tup []) fr ((20, .cells 81 (.lst [.int .u64 (w/18446744073709551616 % 18446744073709551616), .int .u64 (w % 18446744073709551616)]))::Rt p q low N (zs.set (e-low).toNat (zs.getD (e-low).toNat 0+w)) e1 c1 e2 c2)):
  gu Tryz.prog 63 [I e,wdA w, .ptr 15 0, .ptr 13 0] fr (Rt p q low N zs e1 c1 e2 c2) K:=by
 have hi:(e-low).toNat<zs.length:=by omega
 have g0:=Ol zs (e-low).toNat hi;have g1:=Ok zs (e-low).toNat hi;have gl:=MY zs;have hA:=U9 (zs.getD (e-low).toNat 0) w;have hS:=U8 zs (e-low).toNat (zs.getD (e-low).toNat 0+w);generalize hk:(e-low).toNat=k at*;refine gu.intro [] Tryz.func63 rfl rfl (by decide) (by simp [Tryz.ntmps63]) ?_;rw [Tryz.ntmps63]
 repeat' (first|omega|(first|apply aj|(refine an.intro (id:=1) DB DA (by decide+kernel) mixed ?_)|skip);simp only [go_sem,sevalprocAttr,g0,g1,hk,↓reduceIte,reduceCtorEq,DB,DA]|apply ag<;>(intro h_;(try simp only [h_]);revert h_)|apply ah|apply ai|apply ae|apply And.intro|with_reducible intro h_|trivial|simp only [go_sem,ak];omega)
 refine ⟨cg.fn rfl hA ?_⟩;simp only [go_sem,sevalprocAttr,g0,g1,hk,hS]
 repeat' (first|omega|(first|apply aj|(refine an.intro (id:=1) DB DA (by decide+kernel) mixed ?_)|skip);simp only [go_sem,sevalprocAttr,g0,g1,hk,hS,↓reduceIte,reduceCtorEq,DB,DA]|apply ag<;>(intro h_;(try simp only [h_]);revert h_)|apply ah|apply ai|apply ae|apply And.intro|with_reducible intro h_|trivial|simp only [go_sem,ak];omega)
 all_goals exact hK
theorem Qo {H:Hp}: ∀{fr:Fr},fr.all (fun q=>s3 H q.2)=true-> ∀t,fget fr t= .any\/s3 H (fget fr t)=true
 |[],_,t=> .inl rfl
 |(s,x)::r,h,t=>by
  simp only [List.all_cons,Bool.and_eq_true] at h;simp only [fget]
  split
  ·exact .inr h.1
  ·exact Qo h.2 t
theorem T7 (p q:List (Int×Int)) (low:Int) (zs:List Int) (N:Nat) (hN:zs.length=N) (hl: -2000000<=low/\low<=2000000) (Sz:N<=4000000) (hp:qi p) (hq:qi q) (jK:p.length<=500000) (xf:q.length<=500000)
  (hx: ∀i j,i<p.length->j<q.length->low<=(p.getD i (0,0)).1+(q.getD j (0,0)).1/\(p.getD i (0,0)).1+(q.getD j (0,0)).1<low+N) (KW: ∀i,i<p.length-> -2000000<=(p.getD i (0,0)).1/\(p.getD i (0,0)).1<=2000000) (KS: ∀i,i<q.length-> -2000000<=(q.getD i (0,0)).1/\(q.getD i (0,0)).1<=2000000)
  {fr:Fr} {K:AV->Fr->Hp->Prop} (c7: ∀H':Hp,(hget H' 0).isSome=true->(hget H' 1).isSome=true->(hget H' 2).isSome=true->(hget H' 13).isSome=true->(hget H' 14).isSome=true->(hget H' 15).isSome=true-> ∀t,fget fr t= .any\/s3 H' (fget fr t)=true)
  (hK:K (.tup []) fr ((17, .cells 29 (.lst [.bool false,tmA q]))::(16, .cells 29 (.lst [.bool false,tmA p]))::rD p q low N (oO p q low p.length zs))):
  gu Tryz.prog 62 [plA false p,plA false q, .fn 63 [.ptr 15 0, .ptr 13 0]] fr (rD p q low N zs) K:=by
 have o9:=ybu p;have uF:=ybu q;refine gu.intro [] Tryz.func62 rfl rfl (by decide) (by simp [Tryz.ntmps62]) ?_;rw [Tryz.ntmps62]
 repeat' (first|omega|(try apply aj);simp only [go_sem,sevalprocAttr]|apply ag<;>(intro h_;(try simp only [h_]);revert h_)|apply ah|apply ai|apply ae|apply And.intro|with_reducible intro h_|trivial|simp only [go_sem,ak];omega)
 refine bN.intro (fun n fr' H=> ∃i:Nat,i<=p.length/\n=p.length-i/\fr'=[(13,I i),(12,I p.length),(11,tmA p),(4, .ptr 17 0),(3, .ptr 16 0),(2, .fn 63 [.ptr 15 0, .ptr 13 0])]++lft fr/\H=(17, .cells 29 (.lst [.bool false,tmA q]))::(16, .cells 29 (.lst [.bool false,tmA p]))::rD p q low N (oO p q low i zs)) ?_ ?_
 ·refine ⟨_,_,_,?_,0,by omega,rfl,rfl,rfl⟩;refine Wk.app ?_ ?_ (c7 _ rfl rfl rfl rfl rfl rfl) (fun t ht=>?_) rfl<;>(simp only [go_sem,sevalprocAttr,yav,oO])
  all_goals repeat rw [if_neg (by omega)]
 rintro n fr' H ⟨i,hi,rfl,rfl,rfl⟩;by_cases fS:i<p.length
 ·have t0:=oF p i fS;have t1:=s6 p i fS;have XY:=KW i fS;have CK:=AN hp fS;have zb:=fun j=>hx i j fS;have eP:oO p q low (i+1) zs=pz2 q low (p.getD i (0,0)).1 (p.getD i (0,0)).2 q.length (oO p q low i zs):=rfl;obtain ⟨e1,sf⟩: ∃e1,e1=(p.getD i (0,0)).1:=⟨_,rfl⟩;obtain ⟨c1,gm⟩: ∃c1,c1=(p.getD i (0,0)).2:=⟨_,rfl⟩;rw [←sf] at t0 XY zb eP;rw [←gm] at t1 CK eP;clear sf gm
  have BH:=Al p q low i zs;rw [hN] at BH;generalize oO p q low i zs=zs1 at*
  repeat' (first|omega|(try apply aj);simp only [go_sem,sevalprocAttr,t0,t1,o9]|apply ag<;>(intro h_;(try simp only [h_]);revert h_)|apply ah|apply ai|apply ae|apply And.intro|with_reducible intro h_|trivial|simp only [go_sem,ak];omega)
  refine bN.intro (fun n fr' H=> ∃j:Nat,j<=q.length/\n=q.length-j/\fr'=[(20,I j),(19,I q.length),(18,tmA q),(7, .ptr 18 0),(13,I i),(12,I p.length),(11,tmA p),(4, .ptr 17 0),(3, .ptr 16 0),(2, .fn 63 [.ptr 15 0, .ptr 13 0])]++lft fr/\H=(18, .cells 75 (.lst [I e1,I c1]))::(17, .cells 29 (.lst [.bool false,tmA q]))::(16, .cells 29 (.lst [.bool false,tmA p]))::rD p q low N (pz2 q low e1 c1 j zs1)) ?_ ?_
  ·refine ⟨_,_,_,?_,0,by omega,rfl,rfl,rfl⟩;refine Wk.app ?_ ?_ (c7 _ rfl rfl rfl rfl rfl rfl) (fun t ht=>?_) rfl<;>(simp only [go_sem,sevalprocAttr,yav,pz2])
   all_goals repeat rw [if_neg (by omega)]
  rintro n fr' H ⟨j,hj,rfl,rfl,rfl⟩;by_cases bY:j<q.length
  ·have s0:=oF q j bY;have s1:=s6 q j bY;have XQ:=KS j bY;have Yv:=AN hq bY;have RH:=zb j bY;have eQ:pz2 q low e1 c1 (j+1) zs1=(pz2 q low e1 c1 j zs1).set (e1+(q.getD j (0,0)).1-low).toNat ((pz2 q low e1 c1 j zs1).getD (e1+(q.getD j (0,0)).1-low).toNat 0+c1*(q.getD j (0,0)).2):=rfl;obtain ⟨e2,ky⟩: ∃e2,e2=(q.getD j (0,0)).1:=⟨_,rfl⟩;obtain ⟨c2,pX⟩: ∃c2,c2=(q.getD j (0,0)).2:=⟨_,rfl⟩
   rw [←ky] at s0 XQ RH eQ;rw [←pX] at s1 Yv eQ;clear ky pX;have mh:=D9 q low e1 c1 j zs1;rw [BH] at mh;have hP:=S6 c1 c2 (by omega) (by omega) (by omega) (by omega)
   repeat' (first|omega|(first|apply aj|(refine an.au (id:=7) ym yk (by decide+kernel) mixed ?_)|(refine an.intro (id:=7) ym yk (by decide+kernel) mixed ?_)|skip);simp only [go_sem,sevalprocAttr,s0,s1,uF,↓reduceIte,reduceCtorEq,ym,yk]|apply ag<;>(intro h_;(try simp only [h_]);revert h_)|apply ah|apply ai|apply ae|apply And.intro|with_reducible intro h_|trivial|simp only [go_sem,ak];omega)
   refine ⟨cg.fn rfl hP ?_⟩;simp only [go_sem,sevalprocAttr,s0,s1,uF]
   repeat' (first|omega|(first|apply aj|(refine an.au (id:=7) ym yk (by decide+kernel) mixed ?_)|(refine an.intro (id:=7) ym yk (by decide+kernel) mixed ?_)|skip);simp only [go_sem,sevalprocAttr,s0,s1,uF,↓reduceIte,reduceCtorEq,ym,yk]|apply ag<;>(intro h_;(try simp only [h_]);revert h_)|apply ah|apply ai|apply ae|apply And.intro|with_reducible intro h_|trivial|simp only [go_sem,ak];omega)
   refine ⟨az.inline (WX p q low (pz2 q low e1 c1 j zs1) e1 c1 e2 c2 (e1+e2) (c1*c2) N mh hl RH Sz ?_)⟩;rw [←eQ]
   repeat' (first|omega|(try apply aj);simp only [go_sem,sevalprocAttr]|apply ag<;>(intro h_;(try simp only [h_]);revert h_)|apply ah|apply ai|apply ae|apply And.intro|with_reducible intro h_|trivial|simp only [go_sem,ak];omega)
   refine ⟨_,_,_,?_,?_,⟨j+1,by omega,rfl,rfl,rfl⟩⟩
   ·omega
   ·refine Wk.app (A:=[(20,I ((j+1:Nat):Int)),(19,I q.length),(18,tmA q),(7, .ptr 18 0),(13,I i),(12,I p.length),(11,tmA p),(4, .ptr 17 0),(3, .ptr 16 0),(2, .fn 63 [.ptr 15 0, .ptr 13 0])]) ?_ ?_ (c7 _ rfl rfl rfl rfl rfl rfl) (fun t ht=>?_) rfl<;>(simp only [go_sem,sevalprocAttr,yav])
    all_goals first|omega|repeat rw [if_neg (by omega)]
  ·obtain rfl:j=q.length:=by omega
   repeat' (first|omega|(try apply aj);simp only [go_sem,sevalprocAttr]|apply ag<;>(intro h_;(try simp only [h_]);revert h_)|apply ah|apply ai|apply ae|apply And.intro|with_reducible intro h_|trivial|simp only [go_sem,ak];omega)
   refine ⟨_,_,_,?_,?_,⟨i+1,by omega,rfl,rfl,rfl⟩⟩
   ·omega
   ·rw [eP];refine Wk.app (A:=[(13,I ((i+1:Nat):Int)),(12,I p.length),(11,tmA p),(4, .ptr 17 0),(3, .ptr 16 0),(2, .fn 63 [.ptr 15 0, .ptr 13 0])]) ?_ ?_ (c7 _ rfl rfl rfl rfl rfl rfl) (fun t ht=>?_) rfl<;>(simp only [go_sem,sevalprocAttr,yav])
    all_goals first|omega|repeat rw [if_neg (by omega)]
 ·obtain rfl:i=p.length:=by omega
  repeat' (first|omega|(try apply aj);simp only [go_sem,sevalprocAttr]|apply ag<;>(intro h_;(try simp only [h_]);revert h_)|apply ah|apply ai|apply ae|apply And.intro|with_reducible intro h_|trivial|simp only [go_sem,ak];omega)
  all_goals exact hK
def yj:List (List Nat):=[[33,36,38,5],[33,36,38,5],[31,32,36,38,5],[36,38,5],[36,37,38,39,40,5],[31,32,33,34,35,38,5],[35,38,5],[31,32,33,34,35,36,37,5],[35,5],[35,5],[31,32,33,34,35,36,37,38,39,40],[40],[]]
def yi:List (List Nat):=[[],[],[0,1],[],[],[0,1,2,3,4],[4],[0,1,2,3,4,5,6],[4],[4],[0,1,2,3,4,5,6,7,8,9],[9],[]]
structure Gh (p:List (Int×Int)):Prop where
 fits:qi p
 len:p.length<=100000
 asc: ∀i j,i<=j->j<p.length->(p.getD i (0,0)).1<=(p.getD j (0,0)).1
 exp: ∀i,i<p.length-> -1000000<=(p.getD i (0,0)).1/\(p.getD i (0,0)).1<=1000000
theorem Ic {l:List Int} {k:Nat} (h:k<l.length):l.take (k+1)=l.take k++[l.getD k 0]:=by
 rw [List.take_succ_eq_append_getElem h];simp [h]
theorem UH (i:Nat) (p:List Int):(kL p).map (cutV i)=kL p:=by
 conv=>rhs;rw [←List.map_id (kL p)]
 exact List.map_congr_left fun x hx=>by obtain ⟨n,rfl⟩:=MX hx;rfl
theorem Jp (p q:List (Int×Int)) (hp:Gh p) (hq:Gh q) (jq:0<p.length) (oW:0<q.length) (kx: -1048576<=aI p+aI q) (vP:fm p+fm q<=1048576)
  (dT:fm p+fm q-(aI p+aI q)<1048576) (hde:fm p+fm q-(aI p+aI q)<=64+4*p.length*q.length) (hz: ∀z∈lC p q,-1125899906842624<=z/\z<=1125899906842624):
  Fn Tryz.prog 16 [plA false p,plA false q] (plA false (tmI (aI p+aI q) (lC p q))):=by
 have L1:=Gi p jq;have L2:=Gi q oW;have H1:=GO p jq (by have:=hp.len;omega);have H2:=GO q oW (by have:=hq.len;omega);have a1:=hp.asc 0 (p.length-1) (by omega) (by omega);have a2:=hq.asc 0 (q.length-1) (by omega) (by omega);have x1:=hp.exp 0 jq;have x2:=hq.exp 0 oW;have x3:=hp.exp (p.length-1) (by omega);have x4:=hq.exp (q.length-1) (by omega);have pl:=hp.len;have ql:=hq.len
 have hx: ∀i j,i<p.length->j<q.length->aI p+aI q<=(p.getD i (0,0)).1+(q.getD j (0,0)).1/\(p.getD i (0,0)).1+(q.getD j (0,0)).1<=fm p+fm q:=fun i j hi hj=>by
  have b1:=hp.asc 0 i (by omega) hi;have b2:=hq.asc 0 j (by omega) hj;have b3:=hp.asc i (p.length-1) (by omega) (by omega);have b4:=hq.asc j (q.length-1) (by omega) (by omega);unfold aI fm;omega
 have KW: ∀i,i<p.length-> -2000000<=(p.getD i (0,0)).1/\(p.getD i (0,0)).1<=2000000:=fun i hi=>by have:=hp.exp i hi;omega
 have KS: ∀i,i<q.length-> -2000000<=(q.getD i (0,0)).1/\(q.getD i (0,0)).1<=2000000:=fun i hi=>by have:=hq.exp i hi;omega
 have Ca:p.length*q.length<=100000*100000:=Nat.mul_le_mul pl ql;have R0:(4:Int)*p.length*q.length=4*((p.length*q.length:Nat):Int):=by rw [Int.natCast_mul,Int.mul_assoc]
 unfold lC at hz⊢;unfold aI fm at*;generalize (p.getD 0 (0,0)).1=lp at*;generalize (q.getD 0 (0,0)).1=lq at*;generalize (p.getD (p.length-1) (0,0)).1=df at*;generalize (q.getD (q.length-1) (0,0)).1=ti at*;have b0:((p.length:Int)==0)=false:=by rw [beq_eq_false_iff_ne];omega
 have b1:((q.length:Int)==0)=false:=by rw [beq_eq_false_iff_ne];omega
 have b2:decide (lp+lq< -1048576)=false:=by simp;omega
 have b3:decide (1048576<df+ti)=false:=by simp;omega
 have b4:decide (64+4*(p.length:Int)*q.length<df+ti-(lp+lq))=false:=by simp;omega
 refine Fn.au [.cell 4 29] Tryz.func16 rfl rfl (by decide) (by simp [Tryz.ntmps16]) ?_;rw [Tryz.ntmps16]
 repeat' (first|omega|(first|apply aj|(refine an.intro (id:=5) yj yi (by decide+kernel) mixed ?_)|skip);simp only [go_sem,sevalprocAttr,b0,b1,↓reduceIte,reduceCtorEq,yj,yi]|apply ag<;>(intro h_;(try simp only [h_]);revert h_)|apply ah|apply ai|apply ae|apply And.intro|with_reducible intro h_|trivial|simp only [go_sem,ak];omega)
 refine ⟨cg.fn rfl L1 ?_⟩;simp only [go_sem,sevalprocAttr];refine ⟨cg.fn rfl L2 ?_⟩;simp only [go_sem,sevalprocAttr]
 repeat' (first|omega|(first|apply aj|(refine an.intro (id:=5) yj yi (by decide+kernel) mixed ?_)|skip);simp only [go_sem,sevalprocAttr,b0,b1,↓reduceIte,reduceCtorEq,yj,yi]|apply ag<;>(intro h_;(try simp only [h_]);revert h_)|apply ah|apply ai|apply ae|apply And.intro|with_reducible intro h_|trivial|simp only [go_sem,ak];omega)
 refine ⟨cg.fn rfl H1 ?_⟩;simp only [go_sem,sevalprocAttr];refine ⟨cg.fn rfl H2 ?_⟩;simp only [go_sem,sevalprocAttr]
 repeat' (first|omega|(first|apply aj|(refine an.intro (id:=5) yj yi (by decide+kernel) mixed ?_)|skip);simp only [go_sem,sevalprocAttr,b2,b3,b4,VF,↓reduceIte,reduceCtorEq,yj,yi]|apply ag<;>(intro h_;(try simp only [h_]);revert h_)|apply ah|apply ai|apply ae|apply And.intro|with_reducible intro h_|trivial|simp only [go_sem,ak];omega)
 obtain ⟨N,hN⟩: ∃N:Nat,(df+ti-(lp+lq)+1).toNat=N:=⟨_,rfl⟩;rw [hN] at hz⊢
 refine ⟨az.inline (T7 p q (lp+lq) (List.replicate N 0) N (by simp) (by omega) (by omega) hp.fits hq.fits (by omega) (by omega) (fun i j hi hj=>by have:=hx i j hi hj;omega) KW KS
  (fun H' g0 g1 g2 g13 g14 g15=>Qo (by simp only [go_sem,sevalprocAttr,g0,g1,g2,g13,g14,g15])) ?_)⟩
 have BH:=Al p q (lp+lq) p.length (List.replicate N 0);rw [List.length_replicate] at BH;generalize oO p q (lp+lq) p.length (List.replicate N 0)=zs at*;have wV:=MY zs
 repeat' (first|omega|(try apply aj);simp only [go_sem,sevalprocAttr]|apply ag<;>(intro h_;(try simp only [h_]);revert h_)|apply ah|apply ai|apply ae|apply And.intro|with_reducible intro h_|trivial|simp only [go_sem,ak];omega)
 refine bN.intro (fun n fr H=> ∃k:Nat,k<=N/\n=N-k/\fr=[(75,I k),(74,I N),(73, .sl 2 14 0 N),(8, .ptr 18 0),(5, .ptr 13 0),(4, .ptr 2 0)]/\
  ((tmI (lp+lq) (zs.take k)=[]/\H=[(18, .cells 29 (.lst [.bool false, .nils])),(14, .cells 81 (.lst (kL zs))),(13, .cells 3 (.lst [I (lp+lq)])),(2, .cells 29 (.lst [.bool false, .nils]))])\/
   H=[(21, .cells 75 (.lst (dA (tmI (lp+lq) (zs.take k))))),(18, .cells 29 (.lst [.bool false, .sl 2 21 0 (tmI (lp+lq) (zs.take k)).length])),(14, .cells 81 (.lst (kL zs))),(13, .cells 3 (.lst [I (lp+lq)])),(2, .cells 29 (.lst [.bool false, .nils]))])) ?_ ?_
 ·refine ⟨_,_,_,?_,0,by omega,rfl,rfl, .inl ⟨by simp [tmI],rfl⟩⟩;refine Wk.sub ?_ ?_<;>(simp only [go_sem,sevalprocAttr,yav])
  all_goals simp_all
 rintro n fr H ⟨k,hk,rfl,rfl,hc⟩;have vG:=D8 (lp+lq) (zs.take k);rw [List.length_take] at vG;by_cases bJ:k<N
 ·have g0:=Ol zs k (by omega);have g1:=Ok zs k (by omega);have E7:=hz (zs.getD k 0) (by simp [List.getD_eq_getElem?_getD,List.getElem?_eq_getElem (show k<zs.length by omega)]);have hS:=VG (zs.getD k 0) E7.1 E7.2;have eT:=Ey (lp+lq) (zs.take k) (zs.getD k 0);rw [←Ic (by omega),List.length_take,show min k zs.length=k by omega] at eT;generalize zs.getD k 0=z at*
  have hlen:=ybu (tmI (lp+lq) (zs.take k));by_cases iz:z=0
  ·subst iz;rw [if_pos rfl,List.append_nil] at eT;rcases hc with ⟨hn,rfl⟩|rfl
   ·repeat' (first|omega|(try apply aj);simp only [go_sem,sevalprocAttr,g0,g1,wV]|apply ag<;>(intro h_;(try simp only [h_]);revert h_)|apply ah|apply ai|apply ae|apply And.intro|with_reducible intro h_|trivial|simp only [go_sem,ak];omega)
    refine ⟨az.fn rfl hS ?_⟩
    repeat' (first|omega|(try apply aj);simp only [go_sem,sevalprocAttr]|apply ag<;>(intro h_;(try simp only [h_]);revert h_)|apply ah|apply ai|apply ae|apply And.intro|with_reducible intro h_|trivial|simp only [go_sem,ak];omega)
    refine ⟨_,_,_,?_,?_,⟨k+1,by omega,rfl,rfl, .inl ⟨by rw [eT];exact hn,rfl⟩⟩⟩
    ·omega
    ·refine Wk.sub ?_ ?_<;>(simp only [go_sem,sevalprocAttr,yav])
     all_goals simp_all
   ·repeat' (first|omega|(try apply aj);simp only [go_sem,sevalprocAttr,g0,g1,wV]|apply ag<;>(intro h_;(try simp only [h_]);revert h_)|apply ah|apply ai|apply ae|apply And.intro|with_reducible intro h_|trivial|simp only [go_sem,ak];omega)
    refine ⟨az.fn rfl hS ?_⟩
    repeat' (first|omega|(try apply aj);simp only [go_sem,sevalprocAttr]|apply ag<;>(intro h_;(try simp only [h_]);revert h_)|apply ah|apply ai|apply ae|apply And.intro|with_reducible intro h_|trivial|simp only [go_sem,ak];omega)
    refine ⟨_,_,_,?_,?_,⟨k+1,by omega,rfl,rfl, .inr rfl⟩⟩
    ·omega
    ·rw [eT];refine Wk.sub ?_ ?_<;>(simp only [go_sem,sevalprocAttr,yav])
     all_goals simp_all
  ·rw [if_neg iz] at eT;have bz:(z !=0)=true:=by simpa using iz
   rcases hc with ⟨hn,rfl⟩|rfl
   ·rw [hn,List.nil_append] at eT
    repeat' (first|omega|(try apply aj);simp only [go_sem,sevalprocAttr,g0,g1,wV]|apply ag<;>(intro h_;(try simp only [h_]);revert h_)|apply ah|apply ai|apply ae|apply And.intro|with_reducible intro h_|trivial|simp only [go_sem,ak];omega)
    refine ⟨az.fn rfl hS ?_⟩
    repeat' (first|omega|(try apply aj);simp only [go_sem,sevalprocAttr,bz]|apply ag<;>(intro h_;(try simp only [h_]);revert h_)|apply ah|apply ai|apply ae|apply And.intro|with_reducible intro h_|trivial|simp only [go_sem,ak];omega)
    refine ⟨_,_,_,?_,?_,⟨k+1,by omega,rfl,rfl, .inr rfl⟩⟩
    ·omega
    ·rw [eT];refine Wk.sub ?_ ?_<;>(simp only [go_sem,sevalprocAttr,yav])
     all_goals rfl
   ·repeat' (first|omega|(try apply aj);simp only [go_sem,sevalprocAttr,g0,g1,wV]|apply ag<;>(intro h_;(try simp only [h_]);revert h_)|apply ah|apply ai|apply ae|apply And.intro|with_reducible intro h_|trivial|simp only [go_sem,ak];omega)
    refine ⟨az.fn rfl hS ?_⟩
    repeat' (first|omega|(try apply aj);simp only [go_sem,sevalprocAttr,bz,hlen,UH]|apply ag<;>(intro h_;(try simp only [h_]);revert h_)|apply ah|apply ai|apply ae|apply And.intro|with_reducible intro h_|trivial|simp only [go_sem,ak];omega)
    rw [yG];refine ⟨_,_,_,?_,?_,⟨k+1,by omega,rfl,rfl, .inr rfl⟩⟩
    ·omega
    ·rw [eT];refine Wk.sub ?_ ?_<;>(simp only [go_sem,sevalprocAttr,yav,List.length_append])
     all_goals simp_all
 ·obtain rfl:k=N:=by omega
  rw [List.take_of_length_le (by omega)] at hc vG;rcases hc with ⟨hn,rfl⟩|rfl
  ·repeat' (first|omega|(try apply aj);simp only [go_sem,sevalprocAttr]|apply ag<;>(intro h_;(try simp only [h_]);revert h_)|apply ah|apply ai|apply ae|apply And.intro|with_reducible intro h_|trivial|simp only [go_sem,ak];omega)
   all_goals rw [hn]
   all_goals exact aM.j7 (.cons (aM.refl _) (.cons (aM.nils (by omega) rfl) .nil))
  ·have hlen:=ybu (tmI (lp+lq) zs)
   repeat' (first|omega|(try apply aj);simp only [go_sem,sevalprocAttr,yh7]|apply ag<;>(intro h_;(try simp only [h_]);revert h_)|apply ah|apply ai|apply ae|apply And.intro|with_reducible intro h_|trivial|simp only [go_sem,ak];omega)
   all_goals exact aM.of (by rw [List.take_of_length_le (by omega)])
theorem Az {v l:Int} (h0: -l<=v) (h1:v<=l):gP v l=true:=by unfold gP;simp;omega
theorem FV (low:Int) (cs:List Int) (hl: -1000000<=low/\low+cs.length<=1000000) (hn:cs.length<=100000) (hc: ∀c∈cs,-1125899906842624<=c/\c<=1125899906842624):
  Fn Tryz.prog 45 [I low,roI cs] (plA false (tmI low cs)):=by
 refine Fn.au [.cell 4 29] Tryz.func45 rfl rfl (by decide) (by simp [Tryz.ntmps45]) ?_;rw [Tryz.ntmps45]
 repeat' (first|omega|(try apply aj);simp only [go_sem,sevalprocAttr]|apply ag<;>(intro h_;(try simp only [h_]);revert h_)|apply ah|apply ai|apply ae|apply And.intro|with_reducible intro h_|trivial|simp only [go_sem,ak];omega)
 refine bN.intro (fun n fr H=> ∃k:Nat,k<=cs.length/\n=cs.length-k/\fr=[(10,I k),(9,I cs.length),(8,roI cs),(5, .ptr 1 0),(4, .ptr 0 0),(0,I low)]/\
  ((tmI low (cs.take k)=[]/\H=[(1, .cells 29 (.lst [.bool false, .nils])),(0, .cells 29 (.lst [.bool false, .nils]))])\/
   H=[(3, .cells 75 (.lst (dA (tmI low (cs.take k))))),(1, .cells 29 (.lst [.bool false, .sl 2 3 0 (tmI low (cs.take k)).length])),(0, .cells 29 (.lst [.bool false, .nils]))])) ?_ ?_
 ·refine ⟨_,_,_,?_,0,by omega,rfl,rfl, .inl ⟨by simp [tmI],rfl⟩⟩;refine Wk.sub ?_ ?_<;>simp only [go_sem,sevalprocAttr]
  all_goals simp_all
 rintro n fr H ⟨k,hk,rfl,rfl,eh⟩;have vG:=D8 low (cs.take k);rw [List.length_take] at vG;by_cases bJ:k<cs.length
 ·have E7:=hc (cs.getD k 0) (by simp [List.getD_eq_getElem?_getD,List.getElem?_eq_getElem bJ]);have eT:=Ey low (cs.take k) (cs.getD k 0);rw [←Ic bJ,List.length_take,show min k cs.length=k by omega] at eT;have mU:=tR (cs.getD k 0) 1125899906842624 (by omega) (by omega);have mi:=tR (low+k) 1048576 (by omega) (by omega);rw [Az (by omega) (by omega)] at mU mi
  have bl:decide (1048576<low)=false:=by simp;omega
  have hlen:=ybu (tmI low (cs.take k));by_cases iz:cs.getD k 0=0
  ·have bz:(cs.getD k 0==0)=true:=by simpa using iz
   rw [if_pos iz,List.append_nil] at eT;rcases eh with ⟨hn,rfl⟩|rfl
   ·repeat' (first|omega|(try apply aj);simp only [go_sem,sevalprocAttr,bz]|apply ag<;>(intro h_;(try simp only [h_]);revert h_)|apply ah|apply ai|apply ae|apply And.intro|with_reducible intro h_|trivial|simp only [go_sem,ak];omega)
    refine ⟨_,_,_,?_,?_,⟨k+1,by omega,rfl,rfl, .inl ⟨by rw [eT];exact hn,rfl⟩⟩⟩
    ·omega
    ·refine Wk.sub ?_ ?_<;>(simp only [go_sem,sevalprocAttr,yav])
     all_goals simp_all
   ·repeat' (first|omega|(try apply aj);simp only [go_sem,sevalprocAttr,bz]|apply ag<;>(intro h_;(try simp only [h_]);revert h_)|apply ah|apply ai|apply ae|apply And.intro|with_reducible intro h_|trivial|simp only [go_sem,ak];omega)
    refine ⟨_,_,_,?_,?_,⟨k+1,by omega,rfl,rfl, .inr rfl⟩⟩
    ·omega
    ·rw [eT];refine Wk.sub ?_ ?_<;>(simp only [go_sem,sevalprocAttr,yav])
     all_goals simp_all
  ·have bz:(cs.getD k 0==0)=false:=by rw [beq_eq_false_iff_ne];exact iz
   rw [if_neg iz] at eT;rcases eh with ⟨hn,rfl⟩|rfl
   ·rw [hn,List.nil_append] at eT
    repeat' (first|omega|(try apply aj);simp only [go_sem,sevalprocAttr,bz]|apply ag<;>(intro h_;(try simp only [h_]);revert h_)|apply ah|apply ai|apply ae|apply And.intro|with_reducible intro h_|trivial|simp only [go_sem,ak];omega)
    refine ⟨az.fn rfl mU ?_⟩
    repeat' (first|omega|(try apply aj);simp only [go_sem,sevalprocAttr,bl]|apply ag<;>(intro h_;(try simp only [h_]);revert h_)|apply ah|apply ai|apply ae|apply And.intro|with_reducible intro h_|trivial|simp only [go_sem,ak];omega)
    refine ⟨az.fn rfl mi ?_⟩
    repeat' (first|omega|(try apply aj);simp only [go_sem,sevalprocAttr]|apply ag<;>(intro h_;(try simp only [h_]);revert h_)|apply ah|apply ai|apply ae|apply And.intro|with_reducible intro h_|trivial|simp only [go_sem,ak];omega)
    refine ⟨_,_,_,?_,?_,⟨k+1,by omega,rfl,rfl, .inr rfl⟩⟩
    ·omega
    ·rw [eT];refine Wk.sub ?_ ?_<;>(simp only [go_sem,sevalprocAttr,yav])
     all_goals first|rfl|simp_all
   ·repeat' (first|omega|(try apply aj);simp only [go_sem,sevalprocAttr,bz]|apply ag<;>(intro h_;(try simp only [h_]);revert h_)|apply ah|apply ai|apply ae|apply And.intro|with_reducible intro h_|trivial|simp only [go_sem,ak];omega)
    refine ⟨az.fn rfl mU ?_⟩
    repeat' (first|omega|(try apply aj);simp only [go_sem,sevalprocAttr,bl]|apply ag<;>(intro h_;(try simp only [h_]);revert h_)|apply ah|apply ai|apply ae|apply And.intro|with_reducible intro h_|trivial|simp only [go_sem,ak];omega)
    refine ⟨az.fn rfl mi ?_⟩
    repeat' (first|omega|(try apply aj);simp only [go_sem,sevalprocAttr,hlen]|apply ag<;>(intro h_;(try simp only [h_]);revert h_)|apply ah|apply ai|apply ae|apply And.intro|with_reducible intro h_|trivial|simp only [go_sem,ak];omega)
    rw [yG];refine ⟨_,_,_,?_,?_,⟨k+1,by omega,rfl,rfl, .inr rfl⟩⟩
    ·omega
    ·rw [eT];refine Wk.sub ?_ ?_<;>(simp only [go_sem,sevalprocAttr,yav,List.length_append])
     all_goals simp_all
 ·obtain rfl:k=cs.length:=by omega
  rw [List.take_of_length_le (Nat.le_refl _)] at eh vG;rcases eh with ⟨hn,rfl⟩|rfl
  ·repeat' (first|omega|(try apply aj);simp only [go_sem,sevalprocAttr]|apply ag<;>(intro h_;(try simp only [h_]);revert h_)|apply ah|apply ai|apply ae|apply And.intro|with_reducible intro h_|trivial|simp only [go_sem,ak];omega)
   all_goals rw [hn]
   all_goals exact aM.j7 (.cons (aM.refl _) (.cons (aM.nils (by omega) rfl) .nil))
  ·have hlen:=ybu (tmI low cs)
   repeat' (first|omega|(try apply aj);simp only [go_sem,sevalprocAttr,yh7]|apply ag<;>(intro h_;(try simp only [h_]);revert h_)|apply ah|apply ai|apply ae|apply And.intro|with_reducible intro h_|trivial|simp only [go_sem,ak];omega)
   all_goals exact aM.of (by rw [List.take_of_length_le (by omega)])
def yV (c e:Int):List (Int×Int):=if c=0 then [] else [(e,c)]
theorem UG (c e:Int) (h0: -1125899906842624<=c/\c<=1125899906842624) (h1: -1048576<=e/\e<=1048576):Fn Tryz.prog 131 [I c,I e] (plA false (yV c e)):=by
 have mU:=tR c 1125899906842624 (by omega) (by omega);have mi:=tR e 1048576 (by omega) (by omega);rw [Az (by omega) (by omega)] at mU mi;unfold yV;by_cases h:c=0
 ·have bz:(c==0)=true:=by simpa using h
  rw [if_pos h];refine Fn.au [.cell 4 29] Tryz.func131 rfl rfl (by decide) (by simp [Tryz.ntmps131]) ?_;rw [Tryz.ntmps131]
  repeat' (first|omega|(try apply aj);simp only [go_sem,sevalprocAttr,bz]|apply ag<;>(intro h_;(try simp only [h_]);revert h_)|apply ah|apply ai|apply ae|apply And.intro|with_reducible intro h_|trivial|simp only [go_sem,ak];omega)
  all_goals exact aM.j7 (.cons (aM.refl _) (.cons (aM.nils (by omega) rfl) .nil))
 ·have bz:(c==0)=false:=by rw [beq_eq_false_iff_ne];exact h
  rw [if_neg h];refine Fn.au [.cell 4 29] Tryz.func131 rfl rfl (by decide) (by simp [Tryz.ntmps131]) ?_;rw [Tryz.ntmps131]
  repeat' (first|omega|(try apply aj);simp only [go_sem,sevalprocAttr,bz]|apply ag<;>(intro h_;(try simp only [h_]);revert h_)|apply ah|apply ai|apply ae|apply And.intro|with_reducible intro h_|trivial|simp only [go_sem,ak];omega)
  refine ⟨az.fn rfl mU ?_⟩
  repeat' (first|omega|(try apply aj);simp only [go_sem,sevalprocAttr]|apply ag<;>(intro h_;(try simp only [h_]);revert h_)|apply ah|apply ai|apply ae|apply And.intro|with_reducible intro h_|trivial|simp only [go_sem,ak];omega)
  refine ⟨az.fn rfl mi ?_⟩
  repeat' (first|omega|(try apply aj);simp only [go_sem,sevalprocAttr]|apply ag<;>(intro h_;(try simp only [h_]);revert h_)|apply ah|apply ai|apply ae|apply And.intro|with_reducible intro h_|trivial|simp only [go_sem,ak];omega)
  all_goals exact aM.of rfl
theorem MW (q:List (Int×Int)):Fn Tryz.prog 16 [plA false [],plA false q] (plA false []):=by
 refine Fn.au [.cell 4 29] Tryz.func16 rfl rfl (by decide) (by simp [Tryz.ntmps16]) ?_;rw [Tryz.ntmps16]
 repeat' (first|omega|(try apply aj);simp only [go_sem,sevalprocAttr]|apply ag<;>(intro h_;(try simp only [h_]);revert h_)|apply ah|apply ai|apply ae|apply And.intro|with_reducible intro h_|trivial|simp only [go_sem,ak];omega)
 all_goals exact aM.j7 (.cons (aM.refl _) (.cons (aM.nils (by omega) rfl) .nil))
end Go.Proofs.YtphjphpmfflfpaaGreatDoor
namespace Go.Proofs.YtphjphpmfflfpaaGreatDoor
end Go.Proofs.YtphjphpmfflfpaaGreatDoor
