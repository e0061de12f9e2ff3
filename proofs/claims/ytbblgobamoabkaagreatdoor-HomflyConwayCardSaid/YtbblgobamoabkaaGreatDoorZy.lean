/- Layer 12: products of polynomials. -/
import Derived.Test.YtbblgobamoabkaaGreatDoorZx
import Derived.Test.YtbblgobamoabkaaGreatDoorZf
set_option linter.unusedSimpArgs false
set_option linter.unusedVariables false
namespace Go.Proofs.YtbblgobamoabkaaGreatDoor
open Go Go.RowKit
set_option maxHeartbeats 8000000
set_option maxRecDepth 100000
def yme:List (List Nat):=[[7,8,9,10,11,12,13,14,15,16,17],[6,8,10,11,12,13,14,15,16,17],[6,7,10,11,12,13,14,15,16,17],[6,10,11,12,13,14,15,16,17],[6,7,8,9,11,12,13,16],[6,7,8,9,10,12,16],[6,7,8,9,10,11,16],[6,7,8,9,10,16],[6,7,8,9,16],[6,7,8,9,16],[6,7,8,9,10,11,12,13,14,15],[6,7,8,9],[],[]]
def ymf:List (List Nat):=[[],[0],[0,1],[0],[0,1,2,3],[0,1,2,3,4],[0,1,2,3,4,5],[0,1,2,3,4],[0,1,2,3],[0,1,2,3],[0,1,2,3,4,5,6,7,8,9],[0,1,2,3],[],[]]
def yhp:List (List Nat):=[[25,26,27,28,29,30,31,32,33,34],[24,27,28,30,31,32,33,34],[24,27,28,30,31,32,33,34],[24,25,26,30,31,32,33,34],[24,25,26,30,31,32,33,34],[24,30,31,32,33,34],[24,25,26,27,28,29,32,33],[24,25,26,27,28,29,32,33],[24,25,26,27,28,29,30,31],[24,25,26,27,28,29,30,31],[24,25,26,27,28,29],[]]
def yhq:List (List Nat):=[[],[0],[0],[0,1,2],[0,1,2],[0],[0,1,2,3,4,5],[0,1,2,3,4,5],[0,1,2,3,4,5,6,7],[0,1,2,3,4,5,6,7],[0,1,2,3,4,5],[]]
abbrev prH (p q:List (Int×Int)) (low:Int) (N:Nat) (zs:List Int) (e1 c1 e2 c2:Int):Hp:=(19, .cells 97 (.lst [I e2,I c2]))::(18, .cells 97 (.lst [I e1,I c1]))::(17, .cells 47 (.lst [.bool false,tmA q]))::(16, .cells 47 (.lst [.bool false,tmA p]))::mulH p q low N zs
theorem yy4 (p q:List (Int×Int)) (low:Int) (zs:List Int) (e1 c1 e2 c2 e w:Int) (N:Nat) (hN:zs.length=N) (hl: -2000000<=low/\low<=2000000) (he:low<=e/\e<low+N) (hN2:N<=4000000) {fr:Fr} {K:AV->Fr->Hp->Prop}
  (hK:K (.tup []) fr ((20, .cells 131 (.lst [.int .u64 (w/18446744073709551616 % 18446744073709551616), .int .u64 (w % 18446744073709551616)]))::prH p q low N (zs.set (e-low).toNat (zs.getD (e-low).toNat 0+w)) e1 c1 e2 c2)):
  ybp Tryz.prog 93 [I e,wdA w, .ptr 15 0, .ptr 13 0] fr (prH p q low N zs e1 c1 e2 c2) K:=by
 have hi:(e-low).toNat<zs.length:=by omega
 have g0:=yqy zs (e-low).toNat hi
 have g1:=yqz zs (e-low).toNat hi
 have gl:=yto zs
 have hA:=y5p (zs.getD (e-low).toNat 0) w
 have hS:=y5s zs (e-low).toNat (zs.getD (e-low).toNat 0+w)
 generalize hk:(e-low).toNat=k at*
 refine ybp.intro [] Tryz.func93 rfl rfl (by decide) (by simp [Tryz.ntmps93]) ?_;rw [Tryz.ntmps93]
 repeat' (first|omega|(first|apply yaa|(refine yac.intro (id:=1) yme ymf (by decide+kernel) mixed ?_)|skip);simp only [go_sem,sevalprocAttr,g0,g1,hk,↓reduceIte,reduceCtorEq,yme,ymf]|apply yab<;>(intro h_;(try simp only [h_]);revert h_)|apply And.intro|with_reducible intro h_|trivial|simp only [go_sem,la2];omega)
 refine ⟨yag.fn rfl hA ?_⟩
 simp only [go_sem,sevalprocAttr,g0,g1,hk,hS]
 repeat' (first|omega|(first|apply yaa|(refine yac.intro (id:=1) yme ymf (by decide+kernel) mixed ?_)|skip);simp only [go_sem,sevalprocAttr,g0,g1,hk,hS,↓reduceIte,reduceCtorEq,yme,ymf]|apply yab<;>(intro h_;(try simp only [h_]);revert h_)|apply And.intro|with_reducible intro h_|trivial|simp only [go_sem,la2];omega)
 all_goals exact hK
theorem y2z {H:Hp}: ∀{fr:Fr},fr.all (fun q=>s3 H q.2)=true-> ∀t,fget fr t= .any\/s3 H (fget fr t)=true
 |[],_,t=> .inl rfl
 |(s,x)::r,h,t=>by
  simp only [List.all_cons,Bool.and_eq_true] at h
  simp only [fget]
  split
  ·exact .inr h.1
  ·exact y2z h.2 t
theorem yon (p q:List (Int×Int)) (low:Int) (zs:List Int) (N:Nat) (hN:zs.length=N) (hl: -2000000<=low/\low<=2000000) (hN2:N<=4000000) (hp:yev p) (hq:yev q) (hpl:p.length<=500000) (hql:q.length<=500000)
  (hx: ∀i j,i<p.length->j<q.length->low<=(p.getD i (0,0)).1+(q.getD j (0,0)).1/\(p.getD i (0,0)).1+(q.getD j (0,0)).1<low+N) (hpe: ∀i,i<p.length-> -2000000<=(p.getD i (0,0)).1/\(p.getD i (0,0)).1<=2000000) (hqe: ∀i,i<q.length-> -2000000<=(q.getD i (0,0)).1/\(q.getD i (0,0)).1<=2000000)
  {fr:Fr} {K:AV->Fr->Hp->Prop} (hfr: ∀H':Hp,(hget H' 0).isSome=true->(hget H' 1).isSome=true->(hget H' 2).isSome=true->(hget H' 13).isSome=true->(hget H' 14).isSome=true->(hget H' 15).isSome=true-> ∀t,fget fr t= .any\/s3 H' (fget fr t)=true)
  (hK:K (.tup []) fr ((17, .cells 47 (.lst [.bool false,tmA q]))::(16, .cells 47 (.lst [.bool false,tmA p]))::mulH p q low N (pz1 p q low p.length zs))):
  ybp Tryz.prog 92 [plA false p,plA false q, .fn 93 [.ptr 15 0, .ptr 13 0]] fr (mulH p q low N zs) K:=by
 have hcp:=ybm p
 have hcq:=ybm q
 refine ybp.intro [] Tryz.func92 rfl rfl (by decide) (by simp [Tryz.ntmps92]) ?_;rw [Tryz.ntmps92]
 repeat' (first|omega|(try apply yaa);simp only [go_sem,sevalprocAttr]|apply yab<;>(intro h_;(try simp only [h_]);revert h_)|apply And.intro|with_reducible intro h_|trivial|simp only [go_sem,la2];omega)
 refine yal.intro (fun n fr' H=> ∃i:Nat,i<=p.length/\n=p.length-i/\fr'=[(13,I i),(12,I p.length),(11,tmA p),(4, .ptr 17 0),(3, .ptr 16 0),(2, .fn 93 [.ptr 15 0, .ptr 13 0])]++lft fr/\H=(17, .cells 47 (.lst [.bool false,tmA q]))::(16, .cells 47 (.lst [.bool false,tmA p]))::mulH p q low N (pz1 p q low i zs)) ?_ ?_
 ·refine ⟨_,_,_,?_,0,by omega,rfl,rfl,rfl⟩
  refine Wk.app ?_ ?_ (hfr _ rfl rfl rfl rfl rfl rfl) (fun t ht=>?_) rfl<;>(simp only [go_sem,sevalprocAttr,yam,pz1])
  all_goals repeat rw [if_neg (by omega)]
 rintro n fr' H ⟨i,hi,rfl,rfl,rfl⟩
 by_cases hil:i<p.length
 ·have t0:=ybk p i hil
  have t1:=ycw p i hil
  have hpi:=hpe i hil
  have hci:=yfp hp hil
  have hxi:=fun j=>hx i j hil
  have eP:pz1 p q low (i+1) zs=pz2 q low (p.getD i (0,0)).1 (p.getD i (0,0)).2 q.length (pz1 p q low i zs):=rfl
  obtain ⟨e1,he1⟩: ∃e1,e1=(p.getD i (0,0)).1:=⟨_,rfl⟩
  obtain ⟨c1,hc1⟩: ∃c1,c1=(p.getD i (0,0)).2:=⟨_,rfl⟩
  rw [←he1] at t0 hpi hxi eP
  rw [←hc1] at t1 hci eP
  clear he1 hc1
  have hzl:=yhh p q low i zs
  rw [hN] at hzl
  generalize pz1 p q low i zs=zs1 at*
  repeat' (first|omega|(try apply yaa);simp only [go_sem,sevalprocAttr,t0,t1,hcp]|apply yab<;>(intro h_;(try simp only [h_]);revert h_)|apply And.intro|with_reducible intro h_|trivial|simp only [go_sem,la2];omega)
  refine yal.intro (fun n fr' H=> ∃j:Nat,j<=q.length/\n=q.length-j/\fr'=[(20,I j),(19,I q.length),(18,tmA q),(7, .ptr 18 0),(13,I i),(12,I p.length),(11,tmA p),(4, .ptr 17 0),(3, .ptr 16 0),(2, .fn 93 [.ptr 15 0, .ptr 13 0])]++lft fr/\H=(18, .cells 97 (.lst [I e1,I c1]))::(17, .cells 47 (.lst [.bool false,tmA q]))::(16, .cells 47 (.lst [.bool false,tmA p]))::mulH p q low N (pz2 q low e1 c1 j zs1)) ?_ ?_
  ·refine ⟨_,_,_,?_,0,by omega,rfl,rfl,rfl⟩
   refine Wk.app ?_ ?_ (hfr _ rfl rfl rfl rfl rfl rfl) (fun t ht=>?_) rfl<;>(simp only [go_sem,sevalprocAttr,yam,pz2])
   all_goals repeat rw [if_neg (by omega)]
  rintro n fr' H ⟨j,hj,rfl,rfl,rfl⟩
  by_cases hjl:j<q.length
  ·have s0:=ybk q j hjl
   have s1:=ycw q j hjl
   have hqj:=hqe j hjl
   have hcj:=yfp hq hjl
   have hxj:=hxi j hjl
   have eQ:pz2 q low e1 c1 (j+1) zs1=(pz2 q low e1 c1 j zs1).set (e1+(q.getD j (0,0)).1-low).toNat ((pz2 q low e1 c1 j zs1).getD (e1+(q.getD j (0,0)).1-low).toNat 0+c1*(q.getD j (0,0)).2):=rfl
   obtain ⟨e2,he2⟩: ∃e2,e2=(q.getD j (0,0)).1:=⟨_,rfl⟩
   obtain ⟨c2,hc2⟩: ∃c2,c2=(q.getD j (0,0)).2:=⟨_,rfl⟩
   rw [←he2] at s0 hqj hxj eQ
   rw [←hc2] at s1 hcj eQ
   clear he2 hc2
   have hz2:=yjq q low e1 c1 j zs1
   rw [hzl] at hz2
   have hP:=yvg c1 c2 (by omega) (by omega) (by omega) (by omega)
   repeat' (first|omega|(first|apply yaa|(refine yac.introL (id:=7) yhp yhq (by decide+kernel) mixed ?_)|(refine yac.intro (id:=7) yhp yhq (by decide+kernel) mixed ?_)|skip);simp only [go_sem,sevalprocAttr,s0,s1,hcq,↓reduceIte,reduceCtorEq,yhp,yhq]|apply yab<;>(intro h_;(try simp only [h_]);revert h_)|apply And.intro|with_reducible intro h_|trivial|simp only [go_sem,la2];omega)
   refine ⟨yag.fn rfl hP ?_⟩
   simp only [go_sem,sevalprocAttr,s0,s1,hcq]
   repeat' (first|omega|(first|apply yaa|(refine yac.introL (id:=7) yhp yhq (by decide+kernel) mixed ?_)|(refine yac.intro (id:=7) yhp yhq (by decide+kernel) mixed ?_)|skip);simp only [go_sem,sevalprocAttr,s0,s1,hcq,↓reduceIte,reduceCtorEq,yhp,yhq]|apply yab<;>(intro h_;(try simp only [h_]);revert h_)|apply And.intro|with_reducible intro h_|trivial|simp only [go_sem,la2];omega)
   refine ⟨yad.inline (yy4 p q low (pz2 q low e1 c1 j zs1) e1 c1 e2 c2 (e1+e2) (c1*c2) N hz2 hl hxj hN2 ?_)⟩
   rw [←eQ]
   repeat' (first|omega|(try apply yaa);simp only [go_sem,sevalprocAttr]|apply yab<;>(intro h_;(try simp only [h_]);revert h_)|apply And.intro|with_reducible intro h_|trivial|simp only [go_sem,la2];omega)
   refine ⟨_,_,_,?_,?_,⟨j+1,by omega,rfl,rfl,rfl⟩⟩
   ·omega
   ·refine Wk.app (A:=[(20,I ((j+1:Nat):Int)),(19,I q.length),(18,tmA q),(7, .ptr 18 0),(13,I i),(12,I p.length),(11,tmA p),(4, .ptr 17 0),(3, .ptr 16 0),(2, .fn 93 [.ptr 15 0, .ptr 13 0])]) ?_ ?_ (hfr _ rfl rfl rfl rfl rfl rfl) (fun t ht=>?_) rfl<;>(simp only [go_sem,sevalprocAttr,yam])
    all_goals first|omega|repeat rw [if_neg (by omega)]
  ·obtain rfl:j=q.length:=by omega
   repeat' (first|omega|(try apply yaa);simp only [go_sem,sevalprocAttr]|apply yab<;>(intro h_;(try simp only [h_]);revert h_)|apply And.intro|with_reducible intro h_|trivial|simp only [go_sem,la2];omega)
   refine ⟨_,_,_,?_,?_,⟨i+1,by omega,rfl,rfl,rfl⟩⟩
   ·omega
   ·rw [eP]
    refine Wk.app (A:=[(13,I ((i+1:Nat):Int)),(12,I p.length),(11,tmA p),(4, .ptr 17 0),(3, .ptr 16 0),(2, .fn 93 [.ptr 15 0, .ptr 13 0])]) ?_ ?_ (hfr _ rfl rfl rfl rfl rfl rfl) (fun t ht=>?_) rfl<;>(simp only [go_sem,sevalprocAttr,yam])
    all_goals first|omega|repeat rw [if_neg (by omega)]
 ·obtain rfl:i=p.length:=by omega
  repeat' (first|omega|(try apply yaa);simp only [go_sem,sevalprocAttr]|apply yab<;>(intro h_;(try simp only [h_]);revert h_)|apply And.intro|with_reducible intro h_|trivial|simp only [go_sem,la2];omega)
  all_goals exact hK
end Go.Proofs.YtbblgobamoabkaaGreatDoor
set_option linter.unusedSimpArgs false
set_option linter.unusedVariables false
namespace Go.Proofs.YtbblgobamoabkaaGreatDoor
open Go Go.RowKit
set_option maxHeartbeats 8000000
set_option maxRecDepth 100000
def yhr:List (List Nat):=[[33,36,38,5],[33,36,38,5],[31,32,36,38,5],[36,38,5],[36,37,38,39,40,5],[31,32,33,34,35,38,5],[35,38,5],[31,32,33,34,35,36,37,5],[35,5],[35,5],[31,32,33,34,35,36,37,38,39,40],[40],[]]
def yhs:List (List Nat):=[[],[],[0,1],[],[],[0,1,2,3,4],[4],[0,1,2,3,4,5,6],[4],[4],[0,1,2,3,4,5,6,7,8,9],[9],[]]
structure yq0 (p:List (Int×Int)):Prop where
 fits:yev p
 len:p.length<=100000
 asc: ∀i j,i<=j->j<p.length->(p.getD i (0,0)).1<=(p.getD j (0,0)).1
 exp: ∀i,i<p.length-> -1000000<=(p.getD i (0,0)).1/\(p.getD i (0,0)).1<=1000000
theorem yy5 {l:List Int} {k:Nat} (h:k<l.length):l.take (k+1)=l.take k++[l.getD k 0]:=by
 rw [List.take_succ_eq_append_getElem h];simp [h]
theorem y5t (i:Nat) (p:List Int):(wdC p).map (cutV i)=wdC p:=by
 conv=>rhs;rw [←List.map_id (wdC p)]
 exact List.map_congr_left fun x hx=>by obtain ⟨n,rfl⟩:=ytp hx;rfl
theorem y7d (p q:List (Int×Int)) (hp:yq0 p) (hq:yq0 q) (hp0:0<p.length) (hq0:0<q.length) (hlo: -1048576<=lowE p+lowE q) (hhi:yb8 p+yb8 q<=1048576)
  (hsp:yb8 p+yb8 q-(lowE p+lowE q)<1048576) (hde:yb8 p+yb8 q-(lowE p+lowE q)<=64+4*p.length*q.length) (hz: ∀z∈mulZ p q,-1125899906842624<=z/\z<=1125899906842624):
  Fn Tryz.prog 57 [plA false p,plA false q] (plA false (tmI (lowE p+lowE q) (mulZ p q))):=by
 have L1:=yy3 p hp0
 have L2:=yy3 q hq0
 have H1:=ytq p hp0 (by have:=hp.len;omega)
 have H2:=ytq q hq0 (by have:=hq.len;omega)
 have a1:=hp.asc 0 (p.length-1) (by omega) (by omega)
 have a2:=hq.asc 0 (q.length-1) (by omega) (by omega)
 have x1:=hp.exp 0 hp0
 have x2:=hq.exp 0 hq0
 have x3:=hp.exp (p.length-1) (by omega)
 have x4:=hq.exp (q.length-1) (by omega)
 have pl:=hp.len
 have ql:=hq.len
 have hx: ∀i j,i<p.length->j<q.length->lowE p+lowE q<=(p.getD i (0,0)).1+(q.getD j (0,0)).1/\(p.getD i (0,0)).1+(q.getD j (0,0)).1<=yb8 p+yb8 q:=fun i j hi hj=>by
  have b1:=hp.asc 0 i (by omega) hi
  have b2:=hq.asc 0 j (by omega) hj
  have b3:=hp.asc i (p.length-1) (by omega) (by omega)
  have b4:=hq.asc j (q.length-1) (by omega) (by omega)
  unfold lowE yb8
  omega
 have hpe: ∀i,i<p.length-> -2000000<=(p.getD i (0,0)).1/\(p.getD i (0,0)).1<=2000000:=fun i hi=>by have:=hp.exp i hi;omega
 have hqe: ∀i,i<q.length-> -2000000<=(q.getD i (0,0)).1/\(q.getD i (0,0)).1<=2000000:=fun i hi=>by have:=hq.exp i hi;omega
 have hpr:p.length*q.length<=100000*100000:=Nat.mul_le_mul pl ql
 have hpc:(4:Int)*p.length*q.length=4*((p.length*q.length:Nat):Int):=by rw [Int.natCast_mul,Int.mul_assoc]
 unfold mulZ at hz⊢
 unfold lowE yb8 at*
 generalize (p.getD 0 (0,0)).1=lp at*
 generalize (q.getD 0 (0,0)).1=lq at*
 generalize (p.getD (p.length-1) (0,0)).1=hp' at*
 generalize (q.getD (q.length-1) (0,0)).1=hq' at*
 have b0:((p.length:Int)==0)=false:=by rw [beq_eq_false_iff_ne];omega
 have b1:((q.length:Int)==0)=false:=by rw [beq_eq_false_iff_ne];omega
 have b2:decide (lp+lq< -1048576)=false:=by simp;omega
 have b3:decide (1048576<hp'+hq')=false:=by simp;omega
 have b4:decide (64+4*(p.length:Int)*q.length<hp'+hq'-(lp+lq))=false:=by simp;omega
 refine Fn.introL [.cell 4 47] Tryz.func57 rfl rfl (by decide) (by simp [Tryz.ntmps57]) ?_;rw [Tryz.ntmps57]
 repeat' (first|omega|(first|apply yaa|(refine yac.intro (id:=5) yhr yhs (by decide+kernel) mixed ?_)|skip);simp only [go_sem,sevalprocAttr,b0,b1,↓reduceIte,reduceCtorEq,yhr,yhs]|apply yab<;>(intro h_;(try simp only [h_]);revert h_)|apply And.intro|with_reducible intro h_|trivial|simp only [go_sem,la2];omega)
 refine ⟨yag.fn rfl L1 ?_⟩
 simp only [go_sem,sevalprocAttr]
 refine ⟨yag.fn rfl L2 ?_⟩
 simp only [go_sem,sevalprocAttr]
 repeat' (first|omega|(first|apply yaa|(refine yac.intro (id:=5) yhr yhs (by decide+kernel) mixed ?_)|skip);simp only [go_sem,sevalprocAttr,b0,b1,↓reduceIte,reduceCtorEq,yhr,yhs]|apply yab<;>(intro h_;(try simp only [h_]);revert h_)|apply And.intro|with_reducible intro h_|trivial|simp only [go_sem,la2];omega)
 refine ⟨yag.fn rfl H1 ?_⟩
 simp only [go_sem,sevalprocAttr]
 refine ⟨yag.fn rfl H2 ?_⟩
 simp only [go_sem,sevalprocAttr]
 repeat' (first|omega|(first|apply yaa|(refine yac.intro (id:=5) yhr yhs (by decide+kernel) mixed ?_)|skip);simp only [go_sem,sevalprocAttr,b2,b3,b4,y2e,↓reduceIte,reduceCtorEq,yhr,yhs]|apply yab<;>(intro h_;(try simp only [h_]);revert h_)|apply And.intro|with_reducible intro h_|trivial|simp only [go_sem,la2];omega)
 obtain ⟨N,hN⟩: ∃N:Nat,(hp'+hq'-(lp+lq)+1).toNat=N:=⟨_,rfl⟩
 rw [hN] at hz⊢
 refine ⟨yad.inline (yon p q (lp+lq) (List.replicate N 0) N (by simp) (by omega) (by omega) hp.fits hq.fits (by omega) (by omega) (fun i j hi hj=>by have:=hx i j hi hj;omega) hpe hqe
  (fun H' g0 g1 g2 g13 g14 g15=>y2z (by simp only [go_sem,sevalprocAttr,g0,g1,g2,g13,g14,g15])) ?_)⟩
 have hzl:=yhh p q (lp+lq) p.length (List.replicate N 0)
 rw [List.length_replicate] at hzl
 generalize pz1 p q (lp+lq) p.length (List.replicate N 0)=zs at*
 have hwl:=yto zs
 repeat' (first|omega|(try apply yaa);simp only [go_sem,sevalprocAttr]|apply yab<;>(intro h_;(try simp only [h_]);revert h_)|apply And.intro|with_reducible intro h_|trivial|simp only [go_sem,la2];omega)
 refine yal.intro (fun n fr H=> ∃k:Nat,k<=N/\n=N-k/\fr=[(75,I k),(74,I N),(73, .sl 2 14 0 N),(8, .ptr 18 0),(5, .ptr 13 0),(4, .ptr 2 0)]/\
  ((tmI (lp+lq) (zs.take k)=[]/\H=[(18, .cells 47 (.lst [.bool false, .nils])),(14, .cells 131 (.lst (wdC zs))),(13, .cells 3 (.lst [I (lp+lq)])),(2, .cells 47 (.lst [.bool false, .nils]))])\/
   H=[(21, .cells 97 (.lst (tmC (tmI (lp+lq) (zs.take k))))),(18, .cells 47 (.lst [.bool false, .sl 2 21 0 (tmI (lp+lq) (zs.take k)).length])),(14, .cells 131 (.lst (wdC zs))),(13, .cells 3 (.lst [I (lp+lq)])),(2, .cells 47 (.lst [.bool false, .nils]))])) ?_ ?_
 ·refine ⟨_,_,_,?_,0,by omega,rfl,rfl, .inl ⟨by simp [tmI],rfl⟩⟩
  refine Wk.sub ?_ ?_<;>(simp only [go_sem,sevalprocAttr,yam])
  all_goals simp_all
 rintro n fr H ⟨k,hk,rfl,rfl,hc⟩
 have htl:=ysp (lp+lq) (zs.take k)
 rw [List.length_take] at htl
 by_cases hkl:k<N
 ·have g0:=yqy zs k (by omega)
  have g1:=yqz zs k (by omega)
  have hzk:=hz (zs.getD k 0) (by simp [List.getD_eq_getElem?_getD,List.getElem?_eq_getElem (show k<zs.length by omega)])
  have hS:=y2b (zs.getD k 0) hzk.1 hzk.2
  have eT:=ypu (lp+lq) (zs.take k) (zs.getD k 0)
  rw [←yy5 (by omega),List.length_take,show min k zs.length=k by omega] at eT
  generalize zs.getD k 0=z at*
  have hlen:=ybm (tmI (lp+lq) (zs.take k))
  by_cases hz0:z=0
  ·subst hz0
   rw [if_pos rfl,List.append_nil] at eT
   rcases hc with ⟨hn,rfl⟩|rfl
   ·repeat' (first|omega|(try apply yaa);simp only [go_sem,sevalprocAttr,g0,g1,hwl]|apply yab<;>(intro h_;(try simp only [h_]);revert h_)|apply And.intro|with_reducible intro h_|trivial|simp only [go_sem,la2];omega)
    refine ⟨yad.fn rfl hS ?_⟩
    repeat' (first|omega|(try apply yaa);simp only [go_sem,sevalprocAttr]|apply yab<;>(intro h_;(try simp only [h_]);revert h_)|apply And.intro|with_reducible intro h_|trivial|simp only [go_sem,la2];omega)
    refine ⟨_,_,_,?_,?_,⟨k+1,by omega,rfl,rfl, .inl ⟨by rw [eT];exact hn,rfl⟩⟩⟩
    ·omega
    ·refine Wk.sub ?_ ?_<;>(simp only [go_sem,sevalprocAttr,yam])
     all_goals simp_all
   ·repeat' (first|omega|(try apply yaa);simp only [go_sem,sevalprocAttr,g0,g1,hwl]|apply yab<;>(intro h_;(try simp only [h_]);revert h_)|apply And.intro|with_reducible intro h_|trivial|simp only [go_sem,la2];omega)
    refine ⟨yad.fn rfl hS ?_⟩
    repeat' (first|omega|(try apply yaa);simp only [go_sem,sevalprocAttr]|apply yab<;>(intro h_;(try simp only [h_]);revert h_)|apply And.intro|with_reducible intro h_|trivial|simp only [go_sem,la2];omega)
    refine ⟨_,_,_,?_,?_,⟨k+1,by omega,rfl,rfl, .inr rfl⟩⟩
    ·omega
    ·rw [eT]
     refine Wk.sub ?_ ?_<;>(simp only [go_sem,sevalprocAttr,yam])
     all_goals simp_all
  ·rw [if_neg hz0] at eT
   have bz:(z !=0)=true:=by simpa using hz0
   rcases hc with ⟨hn,rfl⟩|rfl
   ·rw [hn,List.nil_append] at eT
    repeat' (first|omega|(try apply yaa);simp only [go_sem,sevalprocAttr,g0,g1,hwl]|apply yab<;>(intro h_;(try simp only [h_]);revert h_)|apply And.intro|with_reducible intro h_|trivial|simp only [go_sem,la2];omega)
    refine ⟨yad.fn rfl hS ?_⟩
    repeat' (first|omega|(try apply yaa);simp only [go_sem,sevalprocAttr,bz]|apply yab<;>(intro h_;(try simp only [h_]);revert h_)|apply And.intro|with_reducible intro h_|trivial|simp only [go_sem,la2];omega)
    refine ⟨_,_,_,?_,?_,⟨k+1,by omega,rfl,rfl, .inr rfl⟩⟩
    ·omega
    ·rw [eT]
     refine Wk.sub ?_ ?_<;>(simp only [go_sem,sevalprocAttr,yam])
     all_goals rfl
   ·repeat' (first|omega|(try apply yaa);simp only [go_sem,sevalprocAttr,g0,g1,hwl]|apply yab<;>(intro h_;(try simp only [h_]);revert h_)|apply And.intro|with_reducible intro h_|trivial|simp only [go_sem,la2];omega)
    refine ⟨yad.fn rfl hS ?_⟩
    repeat' (first|omega|(try apply yaa);simp only [go_sem,sevalprocAttr,bz,hlen,y5t]|apply yab<;>(intro h_;(try simp only [h_]);revert h_)|apply And.intro|with_reducible intro h_|trivial|simp only [go_sem,la2];omega)
    rw [yif]
    refine ⟨_,_,_,?_,?_,⟨k+1,by omega,rfl,rfl, .inr rfl⟩⟩
    ·omega
    ·rw [eT]
     refine Wk.sub ?_ ?_<;>(simp only [go_sem,sevalprocAttr,yam,List.length_append])
     all_goals simp_all
 ·obtain rfl:k=N:=by omega
  rw [List.take_of_length_le (by omega)] at hc htl
  rcases hc with ⟨hn,rfl⟩|rfl
  ·repeat' (first|omega|(try apply yaa);simp only [go_sem,sevalprocAttr]|apply yab<;>(intro h_;(try simp only [h_]);revert h_)|apply And.intro|with_reducible intro h_|trivial|simp only [go_sem,la2];omega)
   all_goals rw [hn]
   all_goals exact LeA.aggL (.cons (LeA.refl _) (.cons (LeA.nils (by omega) rfl) .nil))
  ·have hlen:=ybm (tmI (lp+lq) zs)
   repeat' (first|omega|(try apply yaa);simp only [go_sem,sevalprocAttr,yja]|apply yab<;>(intro h_;(try simp only [h_]);revert h_)|apply And.intro|with_reducible intro h_|trivial|simp only [go_sem,la2];omega)
   all_goals exact LeA.of (by rw [List.take_of_length_le (by omega)])
end Go.Proofs.YtbblgobamoabkaaGreatDoor
set_option linter.unusedSimpArgs false
set_option linter.unusedVariables false
namespace Go.Proofs.YtbblgobamoabkaaGreatDoor
open Go Go.RowKit
set_option maxHeartbeats 8000000
set_option maxRecDepth 100000
end Go.Proofs.YtbblgobamoabkaaGreatDoor
set_option linter.unusedSimpArgs false
set_option linter.unusedVariables false
namespace Go.Proofs.YtbblgobamoabkaaGreatDoor
end Go.Proofs.YtbblgobamoabkaaGreatDoor
