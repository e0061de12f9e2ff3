/- Plain: the circles of a union, and the product of two brackets. -/
import Derived.Test.YtphjphpmfflfpaaGreatDoorZg
import Derived.Test.YtphjphpmfflfpaaGreatDoorSs
namespace Go.Proofs.YtphjphpmfflfpaaGreatDoor
set_option linter.unusedSimpArgs false
set_option linter.unusedVariables false
theorem Tt (b:Bool) (x:Int) (n:Nat):bd b (x+4*n)=bd b x+4*n:=by
 unfold bd;rw [qo,pD,qo,pD,show (x+4*(n:Int))% 2=x % 2 by omega]
 split<;>omega
section
variable {m1 m2:List Int} {n1 n2:Nat}
theorem Ts (aC:aE m1 n1) (aJ:aE m2 n2) (dc:aE (Sp.bR m1 m2) (n1+n2)) (ch:Nat->Bool):aX (Sp.bR m1 m2) (n1+n2) ch=aX m1 n1 ch+aX m2 n2 (fun c=>ch (n1+c)):=by
 have l1:=aC.ok.1;have l2:=aJ.ok.1;have H1:=s7 (ch:=ch) aC.ok aC.inv aC.ne;have H2:=s7 (ch:=fun c=>ch (n1+c)) aJ.ok aJ.inv aJ.ne;have Ak:=l6 aC.ok aC.inv aC.ne ch;have tS:=l6 aJ.ok aJ.inv aJ.ne (fun c=>ch (n1+c));have hiu:=l6 dc.ok dc.inv dc.ne ch;unfold aX;generalize gj m1 ch n1=R1 at*;generalize gj m2 (fun c=>ch (n1+c)) n2=R2 at*;have r1:=H1.rep;have r2:=H2.rep
 obtain ⟨R,hR⟩: ∃R,R1++R2.map (fun x=>x+4*(n1:Int))=R:=⟨_,rfl⟩;have gl: ∀x,x<4*n1->R.getD x 0=R1.getD x 0:=fun x hx=>by rw [←hR];exact Sp.dS _ _ _ (by rw [r1.len];exact hx)
 have gr: ∀x,x<4*n2->R.getD (4*n1+x) 0=R2.getD x 0+4*n1:=fun x hx=>by
  rw [←hR,Sp.dR _ _ _ (by rw [r1.len];omega),r1.len,show 4*n1+x-4*n1=x by omega,T1 _ _ _ 0 _ (by rw [r2.len];exact hx)]
 have ml: ∀x,x<4*n1->(Sp.bR m1 m2).getD x 0=m1.getD x 0:=fun x hx=>Sp.oa (by omega);have mr: ∀x,x<4*n2->(Sp.bR m1 m2).getD (4*n1+x) 0=m2.getD x 0+4*n1:=fun x hx=>by
  have:=Sp.ti (m1:=m1) (m2:=m2) (i:=x) (by omega)
  rw [l1] at this;rw [this];omega
 have hlen:R.length=4*(n1+n2):=by rw [←hR];simp [r1.len,r2.len];omega
 have cs: ∀x,x<4*(n1+n2)->x<4*n1\/ ∃y,y<4*n2/\x=4*n1+y:=fun x hx=>by
  by_cases h:x<4*n1
  ·exact .inl h
  ·exact .inr ⟨x-4*n1,by omega,by omega⟩
 have rep:gG R (4*(n1+n2)):=by
  refine ⟨hlen,fun x hx=>?_,fun x hx=>?_⟩
  ·rcases cs x hx with h|⟨y,h,rfl⟩
   ·rw [gl x h];have:=r1.cn x h;omega
   ·rw [gr y h];have:=r2.cn y h;omega
  ·rcases cs x hx with h|⟨y,h,rfl⟩
   ·rw [gl x h]
    have:=r1.cn x h
    rw [gl _ (by omega),r1.idem x h]
   ·rw [gr y h]
    have:=r2.cn y h
    rw [show (R2.getD y 0+4*(n1:Int)).toNat=4*n1+(R2.getD y 0).toNat by omega,gr _ (by omega),r2.idem y h]
 have up1: ∀x y:Int,au n1 x->aL (fun x=>m1.getD x.toNat 0) (fun x=>bd (ch (x/4).toNat) x) x y->aL (fun x=>(Sp.bR m1 m2).getD x.toNat 0) (fun x=>bd (ch (x/4).toNat) x) x y:=fun x y hx h=>by
  induction h with
  |refl=>exact .refl _
  | @aH z h ih=>
    have hz:=h.cn Ak hx;unfold au at hz
    have:(Sp.bR m1 m2).getD z.toNat 0=m1.getD z.toNat 0:=ml _ (by omega)
    show aL _ _ x (m1.getD z.toNat 0);rw [←this];exact .aH ih
  |join _ ih=>exact .join ih
 have up2: ∀x y:Int,au n2 x->aL (fun x=>m2.getD x.toNat 0) (fun x=>bd (ch (n1+(x/4).toNat)) x) x y->aL (fun x=>(Sp.bR m1 m2).getD x.toNat 0) (fun x=>bd (ch (x/4).toNat) x) (x+4*n1) (y+4*n1):=fun x y hx h=>by
  induction h with
  |refl=>exact .refl _
  | @aH z h ih=>
    have hz:=h.cn tS hx;unfold au at hz
    have:(Sp.bR m1 m2).getD (z+4*(n1:Int)).toNat 0=m2.getD z.toNat 0+4*n1:=by
     rw [show (z+4*(n1:Int)).toNat=4*n1+z.toNat by omega];exact mr _ (by omega)
    show aL _ _ _ (m2.getD z.toNat 0+4*n1);rw [←this];exact .aH ih
  | @join z h ih=>
    have hz:=h.cn tS hx;unfold au at hz;have e1:=aL.join ih;rw [Tt,show ((z+4*(n1:Int))/4).toNat=n1+(z/4).toNat by omega] at e1;exact e1
 have Qe:dX (n1+n2) (fun x=>(Sp.bR m1 m2).getD x.toNat 0) (fun x=>bd (ch (x/4).toNat) x) R:=by
  refine dX.of hiu rep (fun x y hx hy e=>?_) (fun x hx=>?_) (fun x hx=>?_)
  ·rcases cs x hx with h|⟨x',h,rfl⟩<;>rcases cs y hy with g|⟨y',g,rfl⟩
   ·rw [gl x h,gl y g] at e;exact up1 x y (by unfold au;omega) ((H1.iff x y h g).1 e)
   ·rw [gl x h,gr y' g] at e
    have:=r1.cn x h;have:=r2.cn y' g;omega
   ·rw [gr x' h,gl y g] at e
    have:=r2.cn x' h;have:=r1.cn y g;omega
   ·rw [gr x' h,gr y' g] at e
    have:=up2 x' y' (by unfold au;omega) ((H2.iff x' y' h g).1 (by omega))
    rw [show ((4*n1+x':Nat):Int)=(x':Int)+4*n1 by omega,show ((4*n1+y':Nat):Int)=(y':Int)+4*n1 by omega];exact this
  ·simp only [Int.toNat_natCast];rcases cs x hx with h|⟨x',h,rfl⟩
   ·rw [ml x h,gl x h];have hm:=aC.ok.2 x h;rw [gl _ (by omega)];refine (H1.iff _ x (by omega) h).2 ?_;have h0:au n1 (x:Int):=by unfold au;omega
    have:=(aL.aH (mt:=fun x=>m1.getD x.toNat 0) (jn:=fun x=>bd (ch (x/4).toNat) x) (aL.refl (x:Int))).symm Ak h0
    simp only [Int.toNat_natCast] at this;rw [show (((m1.getD x 0).toNat:Nat):Int)=m1.getD x 0 by omega];exact this
   ·rw [mr x' h,gr x' h];have hm:=aJ.ok.2 x' h;rw [show (m2.getD x' 0+4*(n1:Int)).toNat=4*n1+(m2.getD x' 0).toNat by omega,gr _ (by omega)];have h0:au n2 (x':Int):=by unfold au;omega
    have:=(aL.aH (mt:=fun x=>m2.getD x.toNat 0) (jn:=fun x=>bd (ch (n1+(x/4).toNat)) x) (aL.refl (x':Int))).symm tS h0
    simp only [Int.toNat_natCast] at this;rw [(H2.iff (m2.getD x' 0).toNat x' (by omega) h).2 (by rw [show (((m2.getD x' 0).toNat:Nat):Int)=m2.getD x' 0 by omega];exact this)]
  ·rcases cs x hx with h|⟨x',h,rfl⟩
   ·have h0:au n1 (x:Int):=by unfold au;omega
    have hj:=Ak.jr x h0;unfold au at hj
    have:=(aL.join (mt:=fun x=>m1.getD x.toNat 0) (jn:=fun x=>bd (ch (x/4).toNat) x) (aL.refl (x:Int))).symm Ak h0
    rw [gl x h,gl _ (by omega)];exact (H1.iff _ x (by omega) h).2 (by rw [show (((bd (ch ((x:Int)/4).toNat) (x:Int)).toNat:Nat):Int)=bd (ch ((x:Int)/4).toNat) x by omega];exact this)
   ·have h0:au n2 (x':Int):=by unfold au;omega
    have hj:=tS.jr x' h0;unfold au at hj
    have:=(aL.join (mt:=fun x=>m2.getD x.toNat 0) (jn:=fun x=>bd (ch (n1+(x/4).toNat)) x) (aL.refl (x':Int))).symm tS h0
    rw [show ((4*n1+x':Nat):Int)=(x':Int)+4*n1 by omega,Tt,show (((x':Int)+4*(n1:Int))/4).toNat=n1+((x':Int)/4).toNat by omega,gr x' h];generalize bd (ch (n1+((x':Int)/4).toNat)) (x':Int)=z at*;rw [show (z+4*(n1:Int)).toNat=4*n1+z.toNat by omega,gr _ (by omega),(H2.iff z.toNat x' (by omega) h).2 (by rw [show ((z.toNat:Nat):Int)=z by omega];exact this)]
 have hru:roots (gj (Sp.bR m1 m2) ch (n1+n2))=roots R:=zp (s7 (ch:=ch) dc.ok dc.inv dc.ne) Qe;rw [hru];have e0:(roots R:Int)=roots R1+roots R2:=by
  unfold roots;rw [B1,B1,B1,hlen,r1.len,r2.len,show 4*(n1+n2)=4*n1+4*n2 by omega,Dn];congr 1
  ·exact dO fun x hx=>by rw [gl x hx]
  ·exact dO fun x hx=>by
    rw [gr x hx]
    have:((R2.getD x 0+4*(n1:Int)==((4*n1+x:Nat):Int))=(R2.getD x 0==(x:Int))):=by
     rw [Bool.eq_iff_iff,beq_iff_eq,beq_iff_eq];omega
    rw [this]
 omega
end
def q8 (f g:Int->Int) (M:Nat) (e:Int):Int:=sm (fun i=>f ((i:Int)-M)*g (e-((i:Int)-M))) (2*M+1)
theorem Wv (g:Int->Int) (M:Nat) (e:Int): ∀(p:List (Int×Int)),(∀t∈p,-(M:Int)<=t.1/\t.1<=M)->cvL p g e=q8 (cfL p) g M e
 |[],_=>by unfold q8;simp only [cvL,cfL,Int.zero_mul];rw [k8];omega
 |t::p,h=>by
  have ih:=Wv g M e p fun u hu=>h u (List.mem_cons_of_mem _ hu);have ht:=h t (List.mem_cons_self ..);simp only [cvL,ih];unfold q8;simp only [cfL,Int.add_mul];have key:sm (fun i:Nat=>(if t.1=(i:Int)-M then t.2 else 0)*g (e-((i:Int)-M))) (2*M+1)=t.2*g (e-t.1):=by
   rw [vJ (a:=(t.1+M).toNat) (by omega) fun x hx az=>by rw [if_neg (by omega),Int.zero_mul],if_pos (by omega),show (((t.1+(M:Int)).toNat:Nat):Int)-M=t.1 by omega]
  rw [nH,key]
theorem JJ (g:Int->Int) (M:Nat): ∀(j:Nat) (a e:Int),-(M:Int)+2*j<=a->a+2*j<=M->q8 (fun x=>dpw j (x-a)) g M e=dmn j g (e-a)
 |0,a,e,h1,h2=>by
  unfold q8;simp only [dpw,dmn];rw [vJ (a:=(a+M).toNat) (by omega) fun x hx az=>by rw [if_neg (by omega),Int.zero_mul],if_pos (by omega),Int.one_mul,show (((a+(M:Int)).toNat:Nat):Int)-M=a by omega]
 |j+1,a,e,h1,h2=>by
  have e1:=JJ g M j (a-2) e (by omega) (by omega);have e2:=JJ g M j (a+2) e (by omega) (by omega)
  have:q8 (fun x=>dpw (j+1) (x-a)) g M e= -1*q8 (fun x=>dpw j (x-(a-2))) g M e+ -1*q8 (fun x=>dpw j (x-(a+2))) g M e:=by
   unfold q8;rw [←sz,←sz,←nH];refine dO fun x hx=>?_;simp only [dpw,cS];rw [show (x:Int)-M-a+2=(x:Int)-M-(a-2) by omega,show (x:Int)-M-a-2=(x:Int)-M-(a+2) by omega,Int.sub_mul,Int.neg_mul];omega
  rw [this,e1,e2];simp only [dmn,cS];rw [show e-(a-2)=e-a+2 by omega,show e-(a+2)=e-a-2 by omega];omega
theorem U1 (F:Nat->Int->Int) (g:Int->Int) (M:Nat) (e:Int): ∀K,q8 (fun x=>sm (fun k=>F k x) K) g M e=sm (fun k=>q8 (F k) g M e) K
 |0=>by unfold q8;simp only [sm,Int.zero_mul];rw [k8];omega
 |K+1=>by
  have:=U1 F g M e K
  simp only [sm];rw [←this];unfold q8;rw [←nH];exact dO fun x _=>by rw [Int.add_mul]
theorem U0 (F:Nat->Int->Int) (K:Nat): ∀i e,dmn i (fun x=>sm (fun k=>F k x) K) e=sm (fun k=>dmn i (F k) e) K
 |0,e=>rfl
 |i+1,e=>by
  simp only [dmn,cS,U0 F K i];have h1:sm (fun k=> -dmn i (F k) (e+2)-dmn i (F k) (e-2)) K= -1*sm (fun k=>dmn i (F k) (e+2)) K+ -1*sm (fun k=>dmn i (F k) (e-2)) K:=by
   rw [←sz,←sz,←nH];exact dO fun k _=>by omega
  rw [h1];omega
theorem Wu (j:Nat) (w:Int): ∀i e,dmn i (fun x=>dpw j (x-w)) e=dpw (i+j) (e-w)
 |0,e=>by rw [Nat.zero_add];rfl
 |i+1,e=>by
  rw [show i+1+j=(i+j)+1 by omega];simp only [dmn,cS,dpw,Wu j w i];rw [show e+2-w=e-w+2 by omega,show e-2-w=e-w-2 by omega]
section
variable {m1 m2:List Int} {n1 n2 L1 L2:Nat}
theorem y7 {m:List Int} {n L:Nat} (hp:aE m n) (h0: ¬(n=0/\L=0)) (k:Nat):1<=cN m n L k:=by
 unfold cN;by_cases hn:0<n
 ·have:=vU hp (cA k) hn;omega
 ·omega
theorem Oq (aC:aE m1 n1) (aJ:aE m2 n2) (dc:aE (Sp.bR m1 m2) (n1+n2)) (h1: ¬(n1=0/\L1=0)) (h2: ¬(n2=0/\L2=0)) (Xk:n1<=9) (Qu:L1<=20) {p:List (Int×Int)} (hp: ∀t∈p,-(1000:Int)<=t.1/\t.1<=1000) (hc: ∀e,cfL p e=aU m1 n1 L1 1 e) (e:Int):
  cvL p (aU m2 n2 L2 1) e=aU (Sp.bR m1 m2) (n1+n2) (L1+L2) 2 e:=by
 rw [Wv _ 1000 e p hp,show cfL p=aU m1 n1 L1 1 from funext hc];have hN: ∀k1 k2,k1<2^n1->cN (Sp.bR m1 m2) (n1+n2) (L1+L2) (2^n1*k2+k1)=cN m1 n1 L1 k1+cN m2 n2 L2 k2:=fun k1 k2 hk=>by
  unfold cN;rw [Ts aC aJ dc];have e1:aX m1 n1 (cA (2^n1*k2+k1))=aX m1 n1 (cA k1):=by unfold aX;rw [xB fun c hc=>Ko hc]
  have e2:aX m2 n2 (fun c=>cA (2^n1*k2+k1) (n1+c))=aX m2 n2 (cA k2):=by unfold aX;rw [xB fun c _=>Vi hk]
  rw [e1,e2];omega
 have hW: ∀k1 k2,k1<2^n1->wB (n1+n2) (2^n1*k2+k1)=wB n1 k1+wB n2 k2:=fun k1 k2 hk=>by
  unfold wB;rw [Za hk];omega
 have hl: ∀x,aU m1 n1 L1 1 x=sm (fun k=>dpw (cN m1 n1 L1 k-1) (x-wB n1 k)) (2^n1):=fun x=>dO fun k _=>if_pos (y7 aC h1 k);have hr:aU m2 n2 L2 1=fun x=>sm (fun k=>dpw (cN m2 n2 L2 k-1) (x-wB n2 k)) (2^n2):=funext fun x=>dO fun k _=>if_pos (y7 aJ h2 k);rw [show aU m1 n1 L1 1=fun x=>sm (fun k=>dpw (cN m1 n1 L1 k-1) (x-wB n1 k)) (2^n1) from funext hl,U1]
 have s1:sm (fun k=>q8 (fun x=>dpw (cN m1 n1 L1 k-1) (x-wB n1 k)) (aU m2 n2 L2 1) 1000 e) (2^n1)=sm (fun k1=>sm (fun k2=>dpw (cN m1 n1 L1 k1+cN m2 n2 L2 k2-2) (e-(wB n1 k1+wB n2 k2))) (2^n2)) (2^n1):=dO fun k1 jG=>by
  have a:=F6 aC (L:=L1) k1;have b:=GK k1 n1;have c1:=y7 aC h1 k1;rw [JJ _ 1000 _ _ _ (by unfold wB;omega) (by unfold wB;omega),hr,U0];refine dO fun k2 _=>?_;have c2:=y7 aJ h2 k2;rw [Wu];congr 1<;>omega
 rw [s1,GI];unfold aU pc;rw [Nat.pow_add,Kp];refine dO fun k2 _=>dO fun k1 jG=>?_;have c1:=y7 aC h1 k1;have c2:=y7 aJ h2 k2;rw [hN k1 k2 jG,hW k1 k2 jG,if_pos (by omega)]
theorem Mv {m:List Int} {n L:Nat} (h: ∀k,k<2^n->2<=cN m n L k) (e:Int):cS (aU m n L 2) e=aU m n L 1 e:=by
 have h1:=Hg (K:=2^n) (c:=cN m n L) (w:=wB n) 1 e;have h0:sM (2^n) (cN m n L) (wB n) 1 e=0:=by
  have:sM (2^n) (cN m n L) (wB n) 1 e=sm (fun _=>0) (2^n):=dO fun k hk=>by
   have:=h k hk
   rw [if_neg];omega
  rw [this,k8];omega
 have h2:aU m n L 1 e=cS (aU m n L 2) e+sM (2^n) (cN m n L) (wB n) 1 e:=h1;rw [h2,h0];omega
theorem Wt {m:List Int} {n L:Nat} (hp:aE m n) (h0: ¬(n=0/\L=0)) {p:List (Int×Int)} (ha:b8 p) (hf: ∀e,cfL p e=aU m n L 1 e) (az:0<p.length):
  fv p-aS p<=8*n+4*L-4/\L<=p.length/\(0<n->L+1<=p.length)/\(p.length=1->fv p=aS p):=by
 have r:=GJ ha hf fun e he=>uZ hp he;have kB:=r _ (jW (p:=p) (i:=0) az);have yp:=r _ (jW (p:=p) (i:=p.length-1) (by omega));have h3:=Hf hp;have oJ:p≠[]:=fun h=>by rw [h] at az;simp at az
 refine ⟨by unfold fv aS;omega,?_,fun hn=>?_,fun h=>by unfold fv aS;rw [h]⟩
 ·by_cases hL:L=0
  ·omega
  ·have:=Dx (L-1) p (aU m n L L) ha (J9 hp L) (fun e=>by rw [hf,←De (L-1) (by omega),show L-(L-1)=1 by omega]) oJ
   omega
 ·--every state has L+1 circles
  have bH: ∀e,aU m n L L e=cS (aU m n L (L+1)) e:=fun e=>by
   have h1:aU m n L L e=cS (aU m n L (L+1)) e+sM (2^n) (cN m n L) (wB n) L e:=Hg L e;have h0:sM (2^n) (cN m n L) (wB n) L e=0:=by
    have:sM (2^n) (cN m n L) (wB n) L e=sm (fun _=>0) (2^n):=dO fun k hk=>by
     have:=vU hp (cA k) hn
     rw [if_neg];unfold cN;omega
    rw [this,k8];omega
   rw [h1,h0];omega
  have hd: ∀i e,dmn i (aU m n L L) e=dmn (i+1) (aU m n L (L+1)) e:=fun i=>by
   induction i with
   |zero=>exact bH
   |succ i ih=>intro e;show cS _ e=cS _ e;simp only [cS,ih]
  by_cases hL:L=0
  ·omega
  ·have:=Dx L p (aU m n L (L+1)) ha (J9 hp (L+1)) (fun e=>by
    rw [hf,show aU m n L 1 e=dmn (L-1) (aU m n L L) e by rw [←De (L-1) (by omega),show L-(L-1)=1 by omega],hd,show L-1+1=L by omega]) oJ
   omega
theorem Z9 {m m':List Int} {n n' L L':Nat} (hp:aE m n) (cQ:aE m' n') (h0: ¬(n=0/\L=0)) (h0': ¬(n'=0/\L'=0)) (hn:n+n'<=9) {p q:List (Int×Int)} (ha:b8 p) (hf: ∀e,cfL p e=aU m n L 1 e) (az:0<p.length)
  (eH:b8 q) (yv: ∀e,cfL q e=aU m' n' L' 1 e) (oJ:0<q.length):fv p+fv q-(aS p+aS q)<=64+4*(p.length:Int)*q.length:=by
 obtain ⟨a1,a2,a3,a4⟩:=Wt hp h0 ha hf az;obtain ⟨b1,b2,b3,b4⟩:=Wt cQ h0' eH yv oJ;rw [Int.mul_assoc,←Int.natCast_mul];by_cases aC:p.length=1
 ·rw [aC,Nat.one_mul]
  have:=a4 aC
  omega
 ·by_cases Cn:q.length=1
  ·rw [Cn,Nat.mul_one]
   have:=b4 Cn
   omega
  ·have:p.length+q.length<=p.length*q.length:=by
    obtain ⟨a,ha2⟩: ∃a,p.length=a+2:=⟨p.length-2,by omega⟩;obtain ⟨b,mv⟩: ∃b,q.length=b+2:=⟨q.length-2,by omega⟩;rw [ha2,mv,Nat.add_mul,Nat.mul_add]
    have:=Nat.zero_le (a*b)
    omega
   omega
end
end Go.Proofs.YtphjphpmfflfpaaGreatDoor
