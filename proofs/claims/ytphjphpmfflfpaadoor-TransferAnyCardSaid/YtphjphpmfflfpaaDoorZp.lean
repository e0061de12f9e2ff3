/- Plain: the width of an order is at most twice the number of crossings. -/
import Derived.Test.YtphjphpmfflfpaaDoorZo
import Derived.Test.YtphjphpmfflfpaaDoorZn
import Derived.Test.YtphjphpmfflfpaaDoorZj
namespace Go.Proofs.YtphjphpmfflfpaaDoor
set_option linter.unusedVariables false
set_option linter.unusedSimpArgs false
theorem yr4 {m o:List Int} {c:Nat} (h: ∀s,s<4->m.getD (4*c+s) 0/4∈o): ∀s,s<=4->eN m o c s=s
 |0,_=>rfl
 |s+1,hs=>by simp only [eN,yr4 h s (by omega),if_pos (h s (by omega))]
theorem yut {n:Nat} {o:List Int} (h:PrmL n o) (hl:o.length=n) {c:Nat} (hc:c<n):(c:Int)∈o:=by
 rcases Classical.em ((c:Int)∈o) with g|g
 ·exact g
 ·exfalso
  have h1:((c:Int)::o).Nodup:=List.nodup_cons.2 ⟨g,h.nd⟩
  have h2:=ytw h1 (k:=(List.range n).map (Nat.cast:Nat->Int)) fun x hx=>by
   rcases List.mem_cons.1 hx with rfl|hx
   ·exact List.mem_map.2 ⟨c,List.mem_range.2 hc,rfl⟩
   ·have:=h.rg x hx
    exact List.mem_map.2 ⟨x.toNat,List.mem_range.2 (by omega),by omega⟩
  simp at h2
  omega
theorem yob {m:List Int} {n:Nat} (hm:ya3 m n) {o:List Int} (h:PrmL n o) (hl:o.length=n): ∀r:List Int,(∀x∈r,0<=x/\x<n)->rfC m o r=0
 |[],_=>rfl
 |x::r,hr=>by
  have hx:=hr x (List.mem_cons_self ..)
  simp only [rfC,yob hm h hl r fun y hy=>hr y (List.mem_cons_of_mem _ hy)]
  rw [yr4 (fun s hs=>by
   have:=hm.2 (4*x.toNat+s) (by omega)
   have h2:=yut h hl (c:=(m.getD (4*x.toNat+s) 0/4).toNat) (by omega)
   rwa [show (((m.getD (4*x.toNat+s) 0/4).toNat:Nat):Int)=m.getD (4*x.toNat+s) 0/4 by omega] at h2) 4 (Nat.le_refl _)]
  rfl
theorem y89 {m:List Int} {n:Nat} (hm:ya3 m n) (hi: ∀x:Nat,x<4*n->m.getD (m.getD x 0).toNat 0=x) {o:List Int} (h:PrmL n o) (hl:o.length=n): ∀k,k<=n->wdN m o k<=2*n:=by
 have h0:ctN m o n=0:=by
  have:=ymp hm hi h n (by omega)
  rw [List.take_of_length_le (by omega)] at this
  rw [this];exact yob hm h hl o h.rg
 have hb: ∀d k,k+d=n->ctN m o k<=4*(d:Int):=by
  intro d
  induction d with
  |zero=>intro k hk;obtain rfl:k=n:=by omega
         rw [h0];omega
  |succ d ih=>
   intro k hk
   have h1:=ih (k+1) (by omega)
   have h2:=ygv m (o.take k) (o.getD k 0) 4
   simp only [ctN] at h1
   omega
 intro k
 induction k with
 |zero=>intro _;simp only [wdN];omega
 |succ k ih=>
  intro hk
  have h1:=ih (by omega)
  have h2:=ynr m o (k+1)
  have h3:=hb (n-(k+1)) (k+1) (by omega)
  simp only [wdN]
  omega
end Go.Proofs.YtphjphpmfflfpaaDoor
namespace Go.Proofs.YtphjphpmfflfpaaDoor
set_option linter.unusedVariables false
set_option linter.unusedSimpArgs false
theorem y59 (p:List (Int×Int)) (g:Int->Int) (e:Int):cvL p (dml g) e=dml (cvL p g) e:=by
 induction p with
 |nil=>simp [cvL,dml]
 |cons t p ih=>
  simp only [cvL,ih,dml]
  rw [show e+2-t.1=e-t.1+2 by omega,show e-2-t.1=e-t.1-2 by omega,Int.mul_sub,Int.mul_neg]
  omega
theorem y6a (p:List (Int×Int)) (e:Int):cvL p (dpw 0) e=cfL p e:=by
 induction p with
 |nil=>rfl
 |cons t p ih=>
  simp only [cvL,cfL,ih,dpw]
  congr 1
  by_cases h:t.1=e
  ·rw [if_pos h,if_pos (by omega)];simp
  ·rw [if_neg h,if_neg (by omega)];simp
theorem yj1 (p:List (Int×Int)): ∀(j:Nat) (e:Int),cvL p (dpw j) e=dmn j (cfL p) e
 |0,e=>y6a p e
 |j+1,e=>by
  have:dpw (j+1)=dml (dpw j):=rfl
  rw [this,y59]
  exact yd0 (yj1 p j) e
theorem yuu: ∀j:Nat,dpw j (2*(j:Int))≠0
 |0=>by simp [dpw]
 |j+1=>by
  have ih:=yuu j
  have h0:dpw j (2*(j:Int)+4)=0:=by
   by_cases h:dpw j (2*(j:Int)+4)=0
   ·exact h
   ·have:=ydl j _ h;omega
  simp only [dpw,dml]
  rw [show 2*((j+1:Nat):Int)+2=2*(j:Int)+4 by omega,show 2*((j+1:Nat):Int)-2=2*(j:Int) by omega,h0]
  omega
theorem yfo {j:Nat} (hj:j<=100) {e:Int} (h:dpw j e≠0): -1000<=e/\e<=1000:=by have:=ydl j e h;omega
theorem yfp {j:Nat} (hj:j<=20) (e:Int): -1048576<=dpw j e/\dpw j e<=1048576:=by
 have h:=yjm j e
 have h2:2^j<=2^20:=Nat.pow_le_pow_right (by omega) hj
 omega
theorem yh9 {q:List (Int×Int)} {j:Nat} (h:yas q (dpw j)):j+1<=q.length/\ya9 q<=2*j/\ -(2*(j:Int))<=lowE q:=by
 have hne:q≠[]:=fun e=>by
  subst e
  exact yuu j ((h.cf _).symm)
 have hr:=yuc h.asc h.cf (ydl j)
 have hq0:0<q.length:=List.length_pos_iff.2 hne
 have a:=hr _ (ycm (i:=0) hq0)
 have b:=hr _ (ycm (i:=q.length-1) (by omega))
 refine ⟨yh5 j q (dpw 0) h.asc ⟨0,fun e he=>by have:=ydl 0 e he;omega⟩ (fun e=>?_) hne,?_,?_⟩
 ·rw [h.cf]
  exact (yjw j e).symm.trans (ybh (fun x=>rfl) j e)
 ·unfold ya9;omega
 ·unfold lowE;omega
theorem yj2 {m:List Int} {n:Nat} (hp:PmOk m n) (hn:0<n) (L:Nat) (e:Int):brT m n L 1 e=dmn L (brT m n 0 1) e:=by
 have key: ∀e,brT m n L (L+1) e=brT m n 0 1 e:=fun e=>by
  unfold brT hrT
  refine yb3 fun k _=>?_
  unfold cN
  have:=yle hp (chB k) hn
  rw [if_pos (by omega),if_pos (by omega),show cirS m n (chB k)+L-(L+1)=cirS m n (chB k)+0-1 by omega]
 cases L with
 |zero=>rfl
 |succ L=>
  have h1:=yub (m:=m) (n:=n) (L:=L+1) L (by omega) e
  rw [show L+1-L=1 by omega] at h1
  rw [h1]
  have h2: ∀e,brT m n (L+1) (L+1) e=dmn 1 (brT m n 0 1) e:=fun e=>by
   have h3:=yq7 (K:=2^n) (c:=cN m n (L+1)) (w:=wB n) (L+1) e
   have h0:hrR (2^n) (cN m n (L+1)) (wB n) (L+1) e=0:=by
    have:hrR (2^n) (cN m n (L+1)) (wB n) (L+1) e=sm (fun _=>0) (2^n):=yb3 fun k _=>by
     rw [if_neg]
     rintro ⟨h2,_⟩
     have:=yle hp (chB k) hn
     unfold cN at h2;omega
    rw [this,yef];omega
   rw [h0,Int.add_zero] at h3
   exact h3.trans (yd0 key e)
  rw [ybh h2 L e,ylj]
theorem y2b (L:Nat) (e:Int):brT [] 0 (L+1) 1 e=dpw L e:=by
 have h0:cirS [] 0 (chB 0)=0:=rfl
 have h1:brT [] 0 (L+1) 1 e=0+if 1<=cN [] 0 (L+1) 0 then dpw (cN [] 0 (L+1) 0-1) (e-wB 0 0) else 0:=rfl
 rw [h1]
 unfold cN wB
 rw [h0,if_pos (by omega),show 0+(L+1)-1=L by omega]
 simp [cntB]
end Go.Proofs.YtphjphpmfflfpaaDoor
