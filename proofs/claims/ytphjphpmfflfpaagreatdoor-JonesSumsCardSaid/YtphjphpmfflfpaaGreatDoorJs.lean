/- Layer 18: products of Jones polynomials. -/
import Derived.Test.YtphjphpmfflfpaaGreatDoorZm
import Derived.Test.YtphjphpmfflfpaaGreatDoorKl1
import Derived.Test.YtphjphpmfflfpaaGreatDoorCv
namespace Go.Proofs.YtphjphpmfflfpaaGreatDoor
open Go Go.RowKit
set_option maxRecDepth 100000
set_option maxHeartbeats 8000000
set_option linter.unusedVariables false
set_option linter.unusedSimpArgs false
def shl (c k:Int) (p:List (Int×Int)):List (Int×Int):=p.map fun t=>(t.1-k,c*t.2)
theorem UX (c k:Int): ∀(p:List (Int×Int)) (e:Int),cfL (shl c k p) e=c*cfL p (e+k)
 |[],e=>by simp [shl,cfL]
 |t::p,e=>by
  have ih:=UX c k p e;rw [show shl c k (t::p)=(t.1-k,c*t.2)::shl c k p from rfl];simp only [cfL,ih];by_cases h:t.1=e+k
  ·rw [if_pos (by omega),if_pos h,Int.mul_add]
  ·rw [if_neg (by omega),if_neg h,Int.mul_add,Int.mul_zero]
theorem UW (c k:Int) (g:Int->Int): ∀(p:List (Int×Int)) (e:Int),cvL (shl c k p) g e=c*cvL p g (e+k)
 |[],e=>by simp [shl,cvL]
 |t::p,e=>by
  have ih:=UW c k g p e;rw [show shl c k (t::p)=(t.1-k,c*t.2)::shl c k p from rfl];simp only [cvL,ih];rw [show e-(t.1-k)=e+k-t.1 by omega,Int.mul_add,Int.mul_assoc]
theorem Wp (c k:Int) (g:Int->Int): ∀(p:List (Int×Int)) (e:Int),cvL p (fun x=>c*g (x+k)) e=c*cvL p g (e+k)
 |[],e=>by simp [cvL]
 |t::p,e=>by
  have ih:=Wp c k g p e;simp only [cvL,ih];rw [show e-t.1+k=e+k-t.1 by omega,Int.mul_add,Int.mul_left_comm]
theorem Je {c k:Int} (hc:c=1\/c= -1) {p p':List (Int×Int)} {f:Int->Int} (hp:bZ p f) (cQ:bZ p' (fun e=>c*f (e+k))):p'=shl c k p:=by
 refine b8.ext cQ.asc ⟨?_,fun t ht=>?_⟩ fun e=>by rw [cQ.cf,UX,hp.cf]
 ·unfold shl;rw [List.pairwise_map];exact hp.asc.asc.imp fun fC=>by show _<_;omega
 ·obtain ⟨u,hu,rfl⟩:=List.mem_map.1 ht
  have:=hp.asc.nz u hu
  show c*u.2≠0;rcases hc with rfl|rfl<;>omega
theorem zh (c k:Int) (p:List (Int×Int)):(shl c k p).length=p.length:=by simp [shl]
theorem Jd (c k:Int) {p:List (Int×Int)} (h:0<p.length):aS (shl c k p)=aS p-k/\fv (shl c k p)=fv p-k:=by
 have key: ∀i,i<p.length->((shl c k p).getD i (0,0)).1=(p.getD i (0,0)).1-k:=fun i hi=>by simp [shl,List.getD_eq_getElem?_getD,hi]
 unfold aS fv;rw [zh];exact ⟨key 0 h,key _ (by omega)⟩
def mS (w:Int):Int:=if w % 2=0 then 1 else-1
theorem A5 (w:Int):mS w=1\/mS w= -1:=by unfold mS;split<;>simp
theorem Nw (w v:Int):mS w*mS v=mS (w+v):=by unfold mS;split<;>split<;>split<;>omega
section
variable {m1 m2:List Int} {n1 n2 L1 L2:Nat} {w1 w2:Int}
theorem Ms (aC:aE m1 n1) (aJ:aE m2 n2) (dc:aE (Sp.bR m1 m2) (n1+n2)) (l1:m1.length=4*n1) (l2:m2.length=4*n2) (h1: ¬(n1=0/\L1=0)) (h2: ¬(n2=0/\L2=0)) (hn:n1+n2<=9) (Qu:L1<=9) (XW:L2<=9) (mj: -9<=w1/\w1<=9) (iV: -9<=w2/\w2<=9):
  ∃r,bZ r (fun e=>mS (w1+w2)*aU (Sp.bR m1 m2) (n1+n2) (L1+L2) 2 (e+3*(w1+w2)))/\Fn Tryz.prog 16 [plA false (cW m1 n1 L1 w1),plA false (cW m2 n2 L2 w2)] (plA false r):=by
 have b1:=JI aC (show n1<=9 by omega) (show L1<=20 by omega);have b2:=JI aJ (show n2<=9 by omega) (show L2<=20 by omega);have j1:=se (w:=w1) aC (show n1<=9 by omega) (show L1<=20 by omega) mj;have j2:=se (w:=w2) aJ (show n2<=9 by omega) (show L2<=20 by omega) iV;have s1: ∀e,dZ m1 n1 L1 w1 e≠0-> -1000<=e/\e<=1000:=fun e he=>by have:=mL aC (by omega) (by omega) mj he;omega
 have s2: ∀e,dZ m2 n2 L2 w2 e≠0-> -1000<=e/\e<=1000:=fun e he=>by have:=mL aJ (by omega) (by omega) iV he;omega
 have e1:=Je (A5 w1) b1 (k:=3*w1) j1;have e2:=Je (A5 w2) b2 (k:=3*w2) j2;have p1:=Ws aC l1 h1 (by omega) (show L1<=20 by omega);have p2:=Ws aJ l2 h2 (by omega) (show L2<=20 by omega);have d1:=Z9 aC aJ h1 h2 hn b1.asc b1.cf p1 b2.asc b2.cf p2
 refine Gw j1 j2 s1 s2 (fun e=>by have:=CZ (w:=w1) aC (show n1<=9 by omega) (show L1<=20 by omega) e;omega) (fun e=>by have:=CZ (w:=w2) aJ (show n2<=9 by omega) (show L2<=20 by omega) e;omega) (fun e=>?_) (fun e=>?_) (by rw [e1,zh];exact p1) (by rw [e2,zh];exact p2) ?_
 ·rw [e1,UW,show dZ m2 n2 L2 w2=fun x=>mS w2*aU m2 n2 L2 1 (x+3*w2) from rfl,Wp,←Int.mul_assoc,Nw,
   Oq aC aJ dc h1 h2 (by omega) (by omega) (fun t ht=>oW aC (by omega) (by omega) (j:=1) (by omega) (b1.mem ht).2) b1.cf,show e+3*w1+3*w2=e+3*(w1+w2) by omega]
 ·have:=zm dc hn (show L1+L2<=20 by omega) (j:=2) (by omega) (e+3*(w1+w2))
  rcases A5 (w1+w2) with h|h<;>rw [h]<;>omega
 ·have q1:=Jd (mS w1) (3*w1) p1;have q2:=Jd (mS w2) (3*w2) p2;rw [e1,e2,zh,zh,q1.1,q1.2,q2.1,q2.2];omega
theorem Mr (aC:aE m1 n1) (aJ:aE m2 n2) (dc:aE (Sp.bR m1 m2) (n1+n2)) (h1: ¬(n1=0/\L1=0)) (h2: ¬(n2=0/\L2=0)) (hn:n1+n2<=9) (Qu:L1<=9) (XW:L2<=9) {w:Int} (hw: -9<=w/\w<=9)
  {r:List (Int×Int)} (hr:bZ r (fun e=>mS w*aU (Sp.bR m1 m2) (n1+n2) (L1+L2) 2 (e+3*w))):Fn Tryz.prog 16 [plA false r,plA false [(-2,-1),(2,-1)]] (plA false (cW (Sp.bR m1 m2) (n1+n2) (L1+L2) w)):=by
 have hL:L1+L2<=20:=by omega
 have Io: ∀e,aU (Sp.bR m1 m2) (n1+n2) (L1+L2) 2 e≠0-> -500<=e/\e<=500:=fun e he=>by
  have h1:=uZ dc he;have h2:=qq dc (fun _=>true);have h3:=qq dc (fun _=>false);omega
 have r0:bZ (dN (aU (Sp.bR m1 m2) (n1+n2) (L1+L2) 2)) (aU (Sp.bR m1 m2) (n1+n2) (L1+L2) 2):=pH fun e he=>by have:=Io e he;omega
 have er:=Je (A5 w) r0 (k:=3*w) hr;obtain ⟨q,hq,hM⟩:=U8 hr (fun e he=>by
  have:=Io (e+3*w) (fun h=>he (by show mS w*_=0;rw [h];omega))
  omega) (fun e=>by
  have:=zm dc hn hL (j:=2) (by omega) (e+3*w)
  rcases A5 w with h|h<;>simp only [h]<;>omega) (fun h0=>by
  rw [er,zh] at h0;have d:=y4z dc hn r0.asc r0.cf h0;have q:=Jd (mS w) (3*w) h0;rw [er,zh,q.1,q.2];omega)
 have e1:q=cW (Sp.bR m1 m2) (n1+n2) (L1+L2) w:=(hq.congr fun e=>by
  have:=Mv (m:=Sp.bR m1 m2) (n:=n1+n2) (L:=L1+L2) (fun k _=>Mu aC aJ dc h1 h2 k) (e+3*w)
  show cS (fun e=>mS w*aU (Sp.bR m1 m2) (n1+n2) (L1+L2) 2 (e+3*w)) e=mS w*aU (Sp.bR m1 m2) (n1+n2) (L1+L2) 1 (e+3*w);rw [←this];unfold cS;show-(mS w*aU (Sp.bR m1 m2) (n1+n2) (L1+L2) 2 (e+2+3*w))-mS w*aU (Sp.bR m1 m2) (n1+n2) (L1+L2) 2 (e-2+3*w)=_;rw [show e+2+3*w=e+3*w+2 by omega,show e-2+3*w=e+3*w-2 by omega]
  rcases A5 w with h|h<;>rw [h]<;>omega).eq fun e he=>by have:=mL dc hn hL hw he;omega
 rw [←e1];exact hM
theorem Mq (aC:aE m1 n1) (aJ:aE m2 n2) (dc:aE (Sp.bR m1 m2) (n1+n2)) (hn:n1+n2<=9) (Qu:L1<=9) (XW:L2<=9) {w:Int} (hw: -9<=w/\w<=9) {x y:Nat} (hx:x<4*n1) (hy:y<4*n2)
  {r:List (Int×Int)} (hr:bZ r (fun e=>mS w*aU (Sp.bR m1 m2) (n1+n2) (L1+L2) 2 (e+3*w))):cW (jl m1 m2 x y) (n1+n2) (L1+L2) w=r:=by
 have Ir:=yH aC aJ dc hx hy;exact ((hr.congr fun e=>by rw [←FI aC aJ dc hx hy];rfl).eq fun e he=>by have:=mL (w:=w) Ir hn (show L1+L2<=20 by omega) hw he;omega).symm
end
theorem Wo (s1 s2:List Int):bq (s1++s2) (s1.length+s2.length)=bq s1 s1.length+bq s2 s2.length:=by
 have h1: ∀n,n<=s1.length->bq (s1++s2) n=bq s1 n:=fun n=>by
  induction n with
  |zero=>intro _;rfl
  |succ n ih=>intro hn;simp only [bq];rw [ih (by omega),Sp.dS _ _ _ (by omega)]
 have h2: ∀n,n<=s2.length->bq (s1++s2) (s1.length+n)=bq s1 s1.length+bq s2 n:=fun n=>by
  induction n with
  |zero=>intro _;rw [Nat.add_zero,h1 _ (Nat.le_refl _)];simp [bq]
  |succ n ih=>
   intro hn;rw [←Nat.add_assoc];simp only [bq];rw [ih (by omega),Sp.dR _ _ _ (by omega),show s1.length+n-s1.length=n by omega];omega
 exact h2 _ (Nat.le_refl _)
end Go.Proofs.YtphjphpmfflfpaaGreatDoor
