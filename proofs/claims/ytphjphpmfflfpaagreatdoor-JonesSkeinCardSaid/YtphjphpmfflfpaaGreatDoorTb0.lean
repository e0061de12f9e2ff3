/- Plain: powers of d as factors; the width of an order is at most twice the number of crossings. -/
import Derived.Test.YtphjphpmfflfpaaGreatDoorZo
import Derived.Test.YtphjphpmfflfpaaGreatDoorTd1
import Derived.Test.YtphjphpmfflfpaaGreatDoorTo1
namespace Go.Proofs.YtphjphpmfflfpaaGreatDoor
set_option linter.unusedVariables false
set_option linter.unusedSimpArgs false
theorem UO (p:List (Int×Int)) (g:Int->Int) (e:Int):cvL p (c9 g) e=c9 (cvL p g) e:=by
 induction p with
 |nil=>simp [cvL,c9]
 |cons t p ih=>
  simp only [cvL,ih,c9];rw [show e+2-t.1=e-t.1+2 by omega,show e-2-t.1=e-t.1-2 by omega,Int.mul_sub,Int.mul_neg];omega
theorem UN (p:List (Int×Int)) (e:Int):cvL p (dpw 0) e=cfL p e:=by
 induction p with
 |nil=>rfl
 |cons t p ih=>
  simp only [cvL,cfL,ih,dpw];congr 1;by_cases h:t.1=e
  ·rw [if_pos h,if_pos (by omega)];simp
  ·rw [if_neg h,if_neg (by omega)];simp
theorem GD (p:List (Int×Int)): ∀(j:Nat) (e:Int),cvL p (dpw j) e=dmn j (cfL p) e
 |0,e=>UN p e
 |j+1,e=>by
  have:dpw (j+1)=c9 (dpw j):=rfl
  rw [this,UO];exact yP (GD p j) e
theorem ME: ∀j:Nat,dpw j (2*(j:Int))≠0
 |0=>by simp [dpw]
 |j+1=>by
  have ih:=ME j;have h0:dpw j (2*(j:Int)+4)=0:=by
   by_cases h:dpw j (2*(j:Int)+4)=0
   ·exact h
   ·have:=wK j _ h;omega
  simp only [dpw,c9];rw [show 2*((j+1:Nat):Int)+2=2*(j:Int)+4 by omega,show 2*((j+1:Nat):Int)-2=2*(j:Int) by omega,h0];omega
theorem At {j:Nat} (hj:j<=100) {e:Int} (h:dpw j e≠0): -1000<=e/\e<=1000:=by have:=wK j e h;omega
theorem As {j:Nat} (hj:j<=20) (e:Int): -1048576<=dpw j e/\dpw j e<=1048576:=by
 have h:=D3 j e;have h2:2^j<=2^20:=Nat.pow_le_pow_right (by omega) hj;omega
theorem Hk {q:List (Int×Int)} {j:Nat} (h:bH q (dpw j)):j+1<=q.length/\fm q<=2*j/\ -(2*(j:Int))<=aI q:=by
 have aw:q≠[]:=fun e=>by
  subst e;exact ME j ((h.cf _).symm)
 have hr:=G6 h.asc h.cf (wK j);have oW:0<q.length:=List.length_pos_iff.2 aw;have a:=hr _ (lY (i:=0) oW);have b:=hr _ (lY (i:=q.length-1) (by omega));refine ⟨Ir j q (dpw 0) h.asc ⟨0,fun e he=>by have:=wK 0 e he;omega⟩ (fun e=>?_) aw,?_,?_⟩
 ·rw [h.cf];exact (DR j e).symm.trans (qZ (fun x=>rfl) j e)
 ·unfold fm;omega
 ·unfold aI;omega
theorem MD {m:List Int} {n:Nat} (hp:bd m n) (hn:0<n) (L:Nat) (e:Int):bA m n L 1 e=dmn L (bA m n 0 1) e:=by
 have key: ∀e,bA m n L (L+1) e=bA m n 0 1 e:=fun e=>by
  unfold bA oU;refine iQ fun k _=>?_;unfold cN
  have:=EF hp (da k) hn
  rw [if_pos (by omega),if_pos (by omega),show bF m n (da k)+L-(L+1)=bF m n (da k)+0-1 by omega]
 cases L with
 |zero=>rfl
 |succ L=>
  have h1:=G7 (m:=m) (n:=n) (L:=L+1) L (by omega) e;rw [show L+1-L=1 by omega] at h1;rw [h1];have h2: ∀e,bA m n (L+1) (L+1) e=dmn 1 (bA m n 0 1) e:=fun e=>by
   have h3:=On (K:=2^n) (c:=cN m n (L+1)) (w:=wB n) (L+1) e;have h0:zk (2^n) (cN m n (L+1)) (wB n) (L+1) e=0:=by
    have:zk (2^n) (cN m n (L+1)) (wB n) (L+1) e=sm (fun _=>0) (2^n):=iQ fun k _=>by
     rw [if_neg];rintro ⟨h2,_⟩
     have:=EF hp (da k) hn
     unfold cN at h2;omega
    rw [this,qx];omega
   rw [h0,Int.add_zero] at h3;exact h3.trans (yP key e)
  rw [qZ h2 L e,Hx]
theorem Hj (L:Nat) (e:Int):bA [] 0 (L+1) 1 e=dpw L e:=by
 have h0:bF [] 0 (da 0)=0:=rfl;have h1:bA [] 0 (L+1) 1 e=0+if 1<=cN [] 0 (L+1) 0 then dpw (cN [] 0 (L+1) 0-1) (e-wB 0 0) else 0:=rfl;rw [h1];unfold cN wB;rw [h0,if_pos (by omega),show 0+(L+1)-1=L by omega];simp [gR]
theorem QJ {m o:List Int} {c:Nat} (h: ∀s,s<4->m.getD (4*c+s) 0/4∈o): ∀s,s<=4->eN m o c s=s
 |0,_=>rfl
 |s+1,hs=>by simp only [eN,QJ h s (by omega),if_pos (h s (by omega))]
theorem UM {n:Nat} {o:List Int} (h:iE n o) (hl:o.length=n) {c:Nat} (hc:c<n):(c:Int)∈o:=by
 rcases Classical.em ((c:Int)∈o) with g|g
 ·exact g
 ·exfalso;have h1:((c:Int)::o).Nodup:=List.nodup_cons.2 ⟨g,h.nd⟩;have h2:=MK h1 (k:=(List.range n).map (Nat.cast:Nat->Int)) fun x hx=>by
   rcases List.mem_cons.1 hx with rfl|hx
   ·exact List.mem_map.2 ⟨c,List.mem_range.2 hc,rfl⟩
   ·have:=h.rg x hx
    exact List.mem_map.2 ⟨x.toNat,List.mem_range.2 (by omega),by omega⟩
  simp at h2;omega
theorem MC {m:List Int} {n:Nat} (hm:iP m n) {o:List Int} (h:iE n o) (hl:o.length=n): ∀r:List Int,(∀x∈r,0<=x/\x<n)->rfC m o r=0
 |[],_=>rfl
 |x::r,hr=>by
  have hx:=hr x (List.mem_cons_self ..);simp only [rfC,MC hm h hl r fun y hy=>hr y (List.mem_cons_of_mem _ hy)];rw [QJ (fun s hs=>by
   have:=hm.2 (4*x.toNat+s) (by omega)
   have h2:=UM h hl (c:=(m.getD (4*x.toNat+s) 0/4).toNat) (by omega);rwa [show (((m.getD (4*x.toNat+s) 0/4).toNat:Nat):Int)=m.getD (4*x.toNat+s) 0/4 by omega] at h2) 4 (Nat.le_refl _)]
  rfl
theorem A2 {m:List Int} {n:Nat} (hm:iP m n) (hi: ∀x:Nat,x<4*n->m.getD (m.getD x 0).toNat 0=x) {o:List Int} (h:iE n o) (hl:o.length=n): ∀k,k<=n->q9 m o k<=2*n:=by
 have h0:mC m o n=0:=by
  have:=QA hm hi h n (by omega)
  rw [List.take_of_length_le (by omega)] at this;rw [this];exact MC hm h hl o h.rg
 have hb: ∀d k,k+d=n->mC m o k<=4*(d:Int):=by
  intro d
  induction d with
  |zero=>intro k hk;obtain rfl:k=n:=by omega
         rw [h0];omega
  |succ d ih=>
   intro k hk;have h1:=ih (k+1) (by omega);have h2:=Ej m (o.take k) (o.getD k 0) 4;simp only [mC] at h1;omega
 intro k
 induction k with
 |zero=>intro _;simp only [q9];omega
 |succ k ih=>
  intro hk;have h1:=ih (by omega);have h2:=GG m o (k+1);have h3:=hb (n-(k+1)) (k+1) (by omega);simp only [q9];omega
end Go.Proofs.YtphjphpmfflfpaaGreatDoor
