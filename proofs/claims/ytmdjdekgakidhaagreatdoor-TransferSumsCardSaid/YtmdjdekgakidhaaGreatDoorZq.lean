/- Plain: the width of an order is at most twice the number of crossings. -/
import Derived.Test.YtmdjdekgakidhaaGreatDoorZp
import Derived.Test.YtmdjdekgakidhaaGreatDoorZo
import Derived.Test.YtmdjdekgakidhaaGreatDoorZk
namespace Go.Proofs.YtmdjdekgakidhaaGreatDoor
set_option linter.unusedVariables false
set_option linter.unusedSimpArgs false
theorem ytk {m o:List Int} {c:Nat} (h: ∀s,s<4->m.getD (4*c+s) 0/4∈o): ∀s,s<=4->eN m o c s=s
 |0,_=>rfl
 |s+1,hs=>by simp only [eN,ytk h s (by omega),if_pos (h s (by omega))]
theorem y8s {n:Nat} {o:List Int} (h:PrmL n o) (hl:o.length=n) {c:Nat} (hc:c<n):(c:Int)∈o:=by
 rcases Classical.em ((c:Int)∈o) with g|g
 ·exact g
 ·exfalso
  have h1:((c:Int)::o).Nodup:=List.nodup_cons.2 ⟨g,h.nd⟩
  have h2:=ywf h1 (k:=(List.range n).map (Nat.cast:Nat->Int)) fun x hx=>by
   rcases List.mem_cons.1 hx with rfl|hx
   ·exact List.mem_map.2 ⟨c,List.mem_range.2 hc,rfl⟩
   ·have:=h.rg x hx
    exact List.mem_map.2 ⟨x.toNat,List.mem_range.2 (by omega),by omega⟩
  simp at h2
  omega
theorem ypj {m:List Int} {n:Nat} (hm:ybb m n) {o:List Int} (h:PrmL n o) (hl:o.length=n): ∀r:List Int,(∀x∈r,0<=x/\x<n)->rfC m o r=0
 |[],_=>rfl
 |x::r,hr=>by
  have hx:=hr x (List.mem_cons_self ..)
  simp only [rfC,ypj hm h hl r fun y hy=>hr y (List.mem_cons_of_mem _ hy)]
  rw [ytk (fun s hs=>by
   have:=hm.2 (4*x.toNat+s) (by omega)
   have h2:=y8s h hl (c:=(m.getD (4*x.toNat+s) 0/4).toNat) (by omega)
   rwa [show (((m.getD (4*x.toNat+s) 0/4).toNat:Nat):Int)=m.getD (4*x.toNat+s) 0/4 by omega] at h2) 4 (Nat.le_refl _)]
  rfl
theorem wd_le {m:List Int} {n:Nat} (hm:ybb m n) (hi: ∀x:Nat,x<4*n->m.getD (m.getD x 0).toNat 0=x) {o:List Int} (h:PrmL n o) (hl:o.length=n): ∀k,k<=n->wdN m o k<=2*n:=by
 have h0:ctN m o n=0:=by
  have:=yq4 hm hi h n (by omega)
  rw [List.take_of_length_le (by omega)] at this
  rw [this];exact ypj hm h hl o h.rg
 have hb: ∀d k,k+d=n->ctN m o k<=4*(d:Int):=by
  intro d
  induction d with
  |zero=>intro k hk;obtain rfl:k=n:=by omega
         rw [h0];omega
  |succ d ih=>
   intro k hk
   have h1:=ih (k+1) (by omega)
   have h2:=yim m (o.take k) (o.getD k 0) 4
   simp only [ctN] at h1
   omega
 intro k
 induction k with
 |zero=>intro _;simp only [wdN];omega
 |succ k ih=>
  intro hk
  have h1:=ih (by omega)
  have h2:=yph m o (k+1)
  have h3:=hb (n-(k+1)) (k+1) (by omega)
  simp only [wdN]
  omega
end Go.Proofs.YtmdjdekgakidhaaGreatDoor
namespace Go.Proofs.YtmdjdekgakidhaaGreatDoor
set_option linter.unusedVariables false
set_option linter.unusedSimpArgs false
theorem y8t (p:List (Int×Int)) (g:Int->Int) (e:Int):cvL p (dml g) e=dml (cvL p g) e:=by
 induction p with
 |nil=>simp [cvL,dml]
 |cons t p ih=>
  simp only [cvL,ih,dml]
  rw [show e+2-t.1=e-t.1+2 by omega,show e-2-t.1=e-t.1-2 by omega,Int.mul_sub,Int.mul_neg]
  omega
theorem y8u (p:List (Int×Int)) (e:Int):cvL p (dpw 0) e=cfL p e:=by
 induction p with
 |nil=>rfl
 |cons t p ih=>
  simp only [cvL,cfL,ih,dpw]
  congr 1
  by_cases h:t.1=e
  ·rw [if_pos h,if_pos (by omega)];simp
  ·rw [if_neg h,if_neg (by omega)];simp
theorem ylf (p:List (Int×Int)): ∀(j:Nat) (e:Int),cvL p (dpw j) e=dmn j (cfL p) e
 |0,e=>y8u p e
 |j+1,e=>by
  have:dpw (j+1)=dml (dpw j):=rfl
  rw [this,y8t]
  exact ye1 (ylf p j) e
theorem ywl: ∀j:Nat,dpw j (2*(j:Int))≠0
 |0=>by simp [dpw]
 |j+1=>by
  have ih:=ywl j
  have h0:dpw j (2*(j:Int)+4)=0:=by
   by_cases h:dpw j (2*(j:Int)+4)=0
   ·exact h
   ·have:=yeo j _ h;omega
  simp only [dpw,dml]
  rw [show 2*((j+1:Nat):Int)+2=2*(j:Int)+4 by omega,show 2*((j+1:Nat):Int)-2=2*(j:Int) by omega,h0]
  omega
theorem ygu {j:Nat} (hj:j<=100) {e:Int} (h:dpw j e≠0): -1000<=e/\e<=1000:=by have:=yeo j e h;omega
theorem ygv {j:Nat} (hj:j<=20) (e:Int): -1048576<=dpw j e/\dpw j e<=1048576:=by
 have h:=yk1 j e
 have h2:2^j<=2^20:=Nat.pow_le_pow_right (by omega) hj
 omega
theorem yjl {q:List (Int×Int)} {j:Nat} (h:yao q (dpw j)):j+1<=q.length/\ybf q<=2*j/\ -(2*(j:Int))<=lowE q:=by
 have hne:q≠[]:=fun e=>by
  subst e
  exact ywl j ((h.cf _).symm)
 have hr:=yvt h.asc h.cf (yeo j)
 have hq0:0<q.length:=List.length_pos_iff.2 hne
 have a:=hr _ (yc5 (i:=0) hq0)
 have b:=hr _ (yc5 (i:=q.length-1) (by omega))
 refine ⟨yjh j q (dpw 0) h.asc ⟨0,fun e he=>by have:=yeo 0 e he;omega⟩ (fun e=>?_) hne,?_,?_⟩
 ·rw [h.cf]
  exact (yla j e).symm.trans (ybs (fun x=>rfl) j e)
 ·unfold ybf;omega
 ·unfold lowE;omega
theorem ylg {m:List Int} {n:Nat} (hp:PmOk m n) (hn:0<n) (L:Nat) (e:Int):brT m n L 1 e=dmn L (brT m n 0 1) e:=by
 have key: ∀e,brT m n L (L+1) e=brT m n 0 1 e:=fun e=>by
  unfold brT hrT
  refine yap fun k _=>?_
  unfold cN
  have:=yfm hp (chB k) hn
  rw [if_pos (by omega),if_pos (by omega),show cirS m n (chB k)+L-(L+1)=cirS m n (chB k)+0-1 by omega]
 cases L with
 |zero=>rfl
 |succ L=>
  have h1:=yvs (m:=m) (n:=n) (L:=L+1) L (by omega) e
  rw [show L+1-L=1 by omega] at h1
  rw [h1]
  have h2: ∀e,brT m n (L+1) (L+1) e=dmn 1 (brT m n 0 1) e:=fun e=>by
   have h3:=ymo (K:=2^n) (c:=cN m n (L+1)) (w:=wB n) (L+1) e
   have h0:hrR (2^n) (cN m n (L+1)) (wB n) (L+1) e=0:=by
    have:hrR (2^n) (cN m n (L+1)) (wB n) (L+1) e=sm (fun _=>0) (2^n):=yap fun k _=>by
     rw [if_neg]
     rintro ⟨h2,_⟩
     have:=yfm hp (chB k) hn
     unfold cN at h2;omega
    rw [this,yb1];omega
   rw [h0,Int.add_zero] at h3
   exact h3.trans (ye1 key e)
  rw [ybs h2 L e,ymt]
theorem y4r (L:Nat) (e:Int):brT [] 0 (L+1) 1 e=dpw L e:=by
 have h0:cirS [] 0 (chB 0)=0:=rfl
 have h1:brT [] 0 (L+1) 1 e=0+if 1<=cN [] 0 (L+1) 0 then dpw (cN [] 0 (L+1) 0-1) (e-wB 0 0) else 0:=rfl
 rw [h1]
 unfold cN wB
 rw [h0,if_pos (by omega),show 0+(L+1)-1=L by omega]
 simp [cntB]
end Go.Proofs.YtmdjdekgakidhaaGreatDoor
