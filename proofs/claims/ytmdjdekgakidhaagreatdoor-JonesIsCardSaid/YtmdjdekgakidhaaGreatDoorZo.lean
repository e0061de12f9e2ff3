/- Plain: the state behind a crossing: its ends, its pairing, its circles. -/
import Derived.Test.YtmdjdekgakidhaaGreatDoorZn
import Derived.Test.YtmdjdekgakidhaaGreatDoorZg
namespace Go.Proofs.YtmdjdekgakidhaaGreatDoor
set_option linter.unusedVariables false
set_option linter.unusedSimpArgs false
set_option linter.unusedSectionVars false
theorem OH (hs m:List Int) (j:Nat): ∀d,∃r,aJ hs m (j+d)=aJ hs m j++r
 |0=>⟨[],by simp⟩
 |d+1=>by
  obtain ⟨r,h⟩:=OH hs m j d;rw [←Nat.add_assoc];simp only [aJ]
  split
  ·exact ⟨r,h⟩
  ·exact ⟨r++[hs.getD (j+d) 0],by rw [h,List.append_assoc]⟩
theorem qh {hs m:List Int} {x k:Nat} (hx:x<k) (h:eW hs m x=none):(aJ hs m x).length<(aJ hs m k).length/\(aJ hs m k).getD (aJ hs m x).length 0=hs.getD x 0:=by
 obtain ⟨d,rfl⟩: ∃d,k=x+1+d:=⟨k-x-1,by omega⟩;obtain ⟨r,e⟩:=OH hs m (x+1) d;have e1:aJ hs m (x+1)=aJ hs m x++[hs.getD x 0]:=by simp only [aJ];rw [h];rfl
 rw [e,e1];refine ⟨by simp only [zzF,zzG,List.length_nil];omega,?_⟩;simp [zzB]
theorem tr {hs m:List Int}: ∀(k j:Nat),j<(aJ hs m k).length-> ∃x,x<k/\eW hs m x=none/\(aJ hs m x).length=j
 |0,j,h=>by simp [aJ] at h
 |k+1,j,h=>by
  simp only [aJ] at h
  split at h
  ·obtain ⟨x,h1,h2⟩:=tr k j h;exact ⟨x,by omega,h2⟩
  ·rename_i hg
   by_cases hj:j<(aJ hs m k).length
   ·obtain ⟨x,h1,h2⟩:=tr k j hj;exact ⟨x,by omega,h2⟩
   ·refine ⟨k,by omega,by simpa using hg,?_⟩;simp only [zzF,zzG,List.length_nil] at h;omega
theorem G6 {hs m:List Int} {x y:Nat} (hx:eW hs m x=none) (hy:eW hs m y=none) (h:(aJ hs m x).length=(aJ hs m y).length):x=y:=by
 rcases Nat.lt_trichotomy x y with h1|h1|h1
 ·have:=(qh h1 hx).1;omega
 ·exact h1
 ·have:=(qh h1 hy).1;omega
theorem OG {hs m:List Int} {l:List Bool}: ∀k,k<=l.length->(∀x,x<k->(l.getD x false=true↔eW hs m x≠none))->(aJ hs m k).length+(l.take k).count true=k
 |0,_,_=>by simp [aJ]
 |k+1,hk,h=>by
  have ih:=OG (l:=l) k (by omega) fun x hx=>h x (by omega);have bM:k<l.length:=by omega
  have h1:=h k (by omega);rw [List.take_add_one,zzI bM,List.count_append];simp only [zzB,zzI bM,Option.getD_some] at h1;simp only [aJ];cases hq:eW hs m k with
  |none=>
   rw [hq] at h1
   have:l[k]=false:=by cases h2:l[k] with
    |false=>rfl
    |true=>exact absurd rfl (h1.1 h2)
   simp [this];omega
  |some y=>
   rw [hq] at h1
   have:l[k]=true:=h1.2 (by simp)
   simp [this];omega
theorem Vp {l:List Int} (h: ∀i j,i<l.length->j<l.length->l.getD i 0=l.getD j 0->i=j):l.Nodup:=by
 unfold List.Nodup;rw [List.pairwise_iff_getElem];intro i j hi hj fG e
 have:=h i j hi hj (by simp [zzB,hi,hj,e])
 omega
theorem OE {n:Nat} {mt b b':Int->Int} (hi:Inv2 n mt b) (h: ∀x,aw n x->b x=b' x) {x y:Int} (hx:aw n x) (hc:bf mt b x y):bf mt b' x y:=by
 induction hc with
 |refl=>exact .refl _
 |aO _ ih=>exact .aO ih
 | @join y hc ih=>rw [h y (hc.cR hi hx)];exact .join ih
theorem WN {n:Nat} {mt b b':Int->Int} (hi:Inv2 n mt b) (pB:Inv2 n mt b') (h: ∀x,aw n x->b x=b' x):mI n mt b=mI n mt b':=by
 have h1:=uJ pB;exact yy (uJ hi) ⟨h1.rep,fun x y hx hy=>(h1.iff x y hx hy).trans ⟨OE pB (fun z hz=>(h z hz).symm) (by unfold aw;omega),OE hi h (by unfold aw;omega)⟩⟩
theorem F3 {arc:Nat->Nat} {glue index:Nat->Int} {W E:Nat} {en:Nat->Nat}: ∀k,(∀x,x<k->0<=index x->(pthN arc glue (W+1) [] (arc x)).2=en x)->(∀x y,x<k->y<k->0<=index x->index x=index y->x=y)->
  ∀x,x<k->0<=index x->(index x).toNat<E->(txN arc glue index W E k).getD (index x).toNat 0=97+index (en x)
 |0,_,_,x,hx,_,_=>by omega
 |k+1,h1,h2,x,hx,h0,hE=>by
  have ih:=F3 (E:=E) k (fun x hx=>h1 x (by omega)) (fun x y hx hy=>h2 x y (by omega) (by omega));simp only [txN]
  split
  ·rename_i hk
   have:x≠k:=fun e=>by rw [e] at h0;omega
   exact ih x (by omega) h0 hE
  ·rename_i hk
   by_cases e:x=k
   ·subst e;rw [zzB,List.getElem?_set,if_pos rfl,if_pos (by rw [wv];exact hE),h1 x (by omega) h0];rfl
   ·have av:(index k).toNat≠(index x).toNat:=fun e2=>e (h2 x k hx (by omega) h0 (by omega));rw [zzB,List.getElem?_set,if_neg av,←zzB];exact ih x (by omega) h0 hE
theorem PJ {W:Nat} {arc:Nat->Nat} {glue:Nat->Int}: ∀k,(∀x,x<k->0<=glue x)->endN W arc glue k=List.replicate W false
 |0,_=>rfl
 |k+1,h=>by simp only [endN];rw [if_pos (h k (by omega))];exact PJ k fun x hx=>h x (by omega)
theorem O5 {W:Nat} {arc:Nat->Nat} {glue:Nat->Int} (h0:0<=glue 0): ∀k,1<=(bA W arc glue (List.replicate W false) (k+1)).2
 |0=>by
  have hc: ¬(glue 0<0\/(bA W arc glue (List.replicate W false) 0).1.getD 0 false=true):=by
   rintro (h|h)
   ·omega
   ·simp only [bA] at h;by_cases hW:0<W<;>simp [zzB,hW] at h
  rw [bA,if_neg hc];exact Nat.le_add_left _ _
 |k+1=>by
  have ih:=O5 (W:=W) (arc:=arc) h0 k;rw [bA]
  split
  ·exact ih
  ·omega
section
variable {m:List Int} {n:Nat} {P:List Nat} {ends:List Int} {c:Nat} (hp:bD m n) (he:qH m n P ends) (hc:c<n) (aT:c∉P)
include hp he hc aT
theorem D8 (h:Int):h∈aE m ends c↔ ∃x,x<ends.length+4/\eW (bE ends c) m x=none/\h=(bE ends c).getD x 0:=by
 rw [sK];constructor
 ·rintro ⟨j,hj,rfl⟩;obtain ⟨x,hx,gx,rfl⟩:=tr _ j hj;exact ⟨x,hx,gx,(qh hx gx).2⟩
 ·rintro ⟨x,hx,gx,rfl⟩;exact ⟨_,(qh hx gx).1,(qh hx gx).2⟩
theorem Q2 {h:Int} (h1:aw n h) (h2:(h/4).toNat∈c::P) (h3: ¬(m.getD h.toNat 0/4).toNat∈P\/h/4=c):h∈bE ends c:=by
 rw [zE he hc aT];unfold aw at h1;rcases List.mem_cons.1 h2 with e|e
 ·right;exact ⟨h1.1,by omega⟩
 ·rcases h3 with h3|h3
  ·left;exact (he.mem h).2 ⟨by unfold aw;omega,e,h3⟩
  ·right;exact ⟨h1.1,h3⟩
theorem RG:qH m n (c::P) (aE m ends c):=by
 have hi:=tG hp.ok hp.inv hp.ne (fun _=>false);refine ⟨Vp fun i j hi hj e=>?_,fun h=>?_⟩
 ·obtain ⟨x,hx,gx,rfl⟩:=tr _ i hi;obtain ⟨y,hy,gy,rfl⟩:=tr _ j hj;rw [(qh hx gx).2,(qh hy gy).2] at e;rw [Ex (FM he hc aT) (by rw [qf];exact hx) (by rw [qf];exact hy) e]
 ·rw [D8 hp he hc aT];constructor
  ·rintro ⟨x,hx,gx,rfl⟩;obtain ⟨h1,h2⟩:=wh he hc aT hx;refine ⟨h1,h2,fun h3=>?_⟩;have h4:=JV hp he hc aT hx gx;have hr:aw n (m.getD ((bE ends c).getD x 0).toNat 0):=hi.mr _ h1;have pA:m.getD (m.getD ((bE ends c).getD x 0).toNat 0).toNat 0=(bE ends c).getD x 0:=hi.mm _ h1;refine h4 (Q2 hp he hc aT hr h3 ?_);rw [pA];by_cases h5:((bE ends c).getD x 0/4).toNat∈P
   ·right;have hm:(bE ends c).getD x 0∈bE ends c:=sK.2 ⟨x,by rw [qf];exact hx,rfl⟩;rcases (zE he hc aT _).1 hm with h6|⟨h6,h7⟩
    ·have h8:=((he.mem _).1 h6).2.2;rcases List.mem_cons.1 h3 with e|e
     ·unfold aw at hr;omega
     ·exact absurd e h8
    ·rw [h7] at h5;exact absurd h5 aT
   ·exact .inl h5
  ·rintro ⟨h1,h2,h3⟩;have hm:h∈bE ends c:=Q2 hp he hc aT h1 h2 (.inl fun g=>h3 (zzE _ g));obtain ⟨x,hx,rfl⟩:=sK.1 hm;rw [qf] at hx;refine ⟨x,hx,?_,rfl⟩;cases hq:eW (bE ends c) m x with
   |none=>rfl
   |some y=>
    obtain ⟨g1,g2,g3⟩:=yk hp he hc aT hx hq
    have:=(wh he hc aT (x:=y.toNat) (by omega)).2
    rw [g3] at this;exact absurd this h3
theorem F2 {x:Nat} (hx:x<ends.length+4):(c6 m ends c).getD x 0=if (eW (bE ends c) m x).isSome then-1 else ((aJ (bE ends c) m x).length:Int):=OI _ _ _ hx
theorem tD {x:Nat} (hx:x<ends.length+4) (h:eW (bE ends c) m x=none):(c6 m ends c).getD x 0=(aJ (bE ends c) m x).length:=by rw [F2 hp he hc aT hx,h];rfl
theorem NP {x:Nat} (hx:x<ends.length+4):(c6 m ends c).getD x 0<0↔eW (bE ends c) m x≠none:=by
 rw [F2 hp he hc aT hx];cases eW (bE ends c) m x<;>simp
theorem Ni:(aE m ends c).length<=ends.length+4:=G9 _ _ _
end
def df (m ends:List Int) (c:Nat) (T:List Nat) (b:Bool):List Nat:=
 (txN (fo ends.length T b) (fun x=>(aS m ends c).getD x 0) (fun x=>(c6 m ends c).getD x 0) (ends.length+4) (aE m ends c).length (ends.length+4)).map fun t=>(t-97).toNat
def ct (m ends:List Int) (c:Nat) (T:List Nat) (b:Bool):Nat:=
 (bA (ends.length+4) (fo ends.length T b) (fun x=>(aS m ends c).getD x 0) (endN (ends.length+4) (fo ends.length T b) (fun x=>(aS m ends c).getD x 0) (ends.length+4)) (ends.length+4)).2
theorem zD (m ends:List Int) (c:Nat) (T:List Nat) (b:Bool):ct m ends c T b<=ends.length+4:=Gs _ _ _ _ _
theorem JU (m ends:List Int) (c:Nat) (T:List Nat) (b:Bool):(df m ends c T b).length=(aE m ends c).length:=by unfold df;rw [List.length_map,wv]
section
variable {m:List Int} {n:Nat} {P:List Nat} {ends:List Int} {c:Nat} {T:List Nat} (hp:bD m n) (he:qH m n P ends) (hT:nr T ends.length) (hc:c<n) (aT:c∉P)
include hp he hT hc aT
theorem WM (ch:Nat->Bool):(∀k,k<ends.length+4->(aS m ends c).getD k 0<0-> ∃ys e,jV (fo ends.length T (ch c)) (fun x=>(aS m ends c).getD x 0) k ys e/\ys.length<=ends.length+4)/\
  (∀k,k<ends.length+4->0<=(aS m ends c).getD k 0->(bA (ends.length+4) (fo ends.length T (ch c)) (fun x=>(aS m ends c).getD x 0) (endN (ends.length+4) (fo ends.length T (ch c)) (fun x=>(aS m ends c).getD x 0) (ends.length+4)) k).1.getD k false=false->
   ∃zs,ti (fo ends.length T (ch c)) (fun x=>(aS m ends c).getD x 0) (bA (ends.length+4) (fo ends.length T (ch c)) (fun x=>(aS m ends c).getD x 0) (endN (ends.length+4) (fo ends.length T (ch c)) (fun x=>(aS m ends c).getD x 0) (ends.length+4)) k).1 k zs/\zs.length<=ends.length+4):=by
 obtain ⟨b,_,_,_,h4,h5,_⟩:=G8 (D9 hp he hT hc aT ch);exact ⟨fun k hk hg=>let ⟨ys,e,q1,q2,_⟩:=h4 k hk hg;⟨ys,e,q1,q2⟩,h5⟩
theorem AK (b:Bool) (j:Nat) (hj:j<(aE m ends c).length):97<=(txN (fo ends.length T b) (fun x=>(aS m ends c).getD x 0) (fun x=>(c6 m ends c).getD x 0) (ends.length+4) (aE m ends c).length (ends.length+4)).getD j 0:=by
 obtain ⟨_,_,_,_,h4,_⟩:=G8 (D9 hp he hT hc aT fun _=>b);obtain ⟨x,hx,hg,rfl⟩:=tr _ j hj;have rG: ∀x,x<ends.length+4->0<=(c6 m ends c).getD x 0->eW (bE ends c) m x=none:=fun x hx h0=>by
  cases hq:eW (bE ends c) m x with
  |none=>rfl
  |some y=>have:=(NP hp he hc aT hx).2 (by rw [hq];simp);omega
 obtain ⟨ys,e,q1,q2,q3,q4,q5⟩:=h4 x hx ((wu hp he hc aT hx).2 hg);have hi:=tD hp he hc aT hx hg;have kb:=tD hp he hc aT q3 ((wu hp he hc aT q3).1 q4)
 have:=F3 (arc:=fo ends.length T b) (glue:=fun x=>(aS m ends c).getD x 0) (index:=fun x=>(c6 m ends c).getD x 0) (W:=ends.length+4) (E:=(aE m ends c).length) (en:=fun x=>(pthN (fo ends.length T b) (fun x=>(aS m ends c).getD x 0) (ends.length+4+1) [] (fo ends.length T b x)).2) (ends.length+4) (fun _ _ _=>rfl) (fun x y hx hy h0 e=>by
  have gx:=rG x hx h0;have gy:=rG y hy (by omega);rw [tD hp he hc aT hx gx,tD hp he hc aT hy gy] at e;exact G6 gx gy (by omega)) x hx (by omega) (by rw [hi,zzC];exact hj)
 rw [yu q1 _ [] (by omega),hi,kb,zzC] at this;omega
theorem tC (ch:Nat->Bool):nr (df m ends c T (ch c)) (aE m ends c).length/\
  2*mI n (fun x=>m.getD x.toNat 0) (bST m (c::P) (aE m ends c) (df m ends c T (ch c)) ch)+2*ct m ends c T (ch c)+(aE m ends c).length=2*mI n (fun x=>m.getD x.toNat 0) (bST m P ends T ch)+ends.length+4:=by
 have E:=D9 hp he hT hc aT ch;obtain ⟨b,h1,h2,h3,h4,_,g,h6,h7,h8⟩:=G8 E;have LS:=RG hp he hc aT;have pC:=fun {x:Nat} (hx:x<ends.length+4)=>wu hp he hc aT hx
 have LR: ∀x,x<ends.length+4->eW (bE ends c) m x=none-> ∃e,e<ends.length+4/\eW (bE ends c) m e=none/\(pthN (fo ends.length T (ch c)) (fun x=>(aS m ends c).getD x 0) (ends.length+4+1) [] (fo ends.length T (ch c) x)).2=e/\b ((bE ends c).getD x 0)=(bE ends c).getD e 0:=fun x hx hg=>by
  obtain ⟨ys,e,q1,q2,q3,q4,q5⟩:=h4 x hx ((pC hx).2 hg);exact ⟨e,q3,(pC q3).1 q4,by rw [yu q1 _ [] (by omega)],q5⟩
 have rG: ∀x,x<ends.length+4->0<=(c6 m ends c).getD x 0->eW (bE ends c) m x=none:=fun x hx h0=>by
  cases hq:eW (bE ends c) m x with
  |none=>rfl
  |some y=>have:=(NP hp he hc aT hx).2 (by rw [hq];simp);omega
 have vE: ∀x,x<ends.length+4->eW (bE ends c) m x=none-> ∃e,e<ends.length+4/\eW (bE ends c) m e=none/\b ((bE ends c).getD x 0)=(bE ends c).getD e 0/\(df m ends c T (ch c)).getD (aJ (bE ends c) m x).length 0=(aJ (bE ends c) m e).length:=fun x hx hg=>by
  obtain ⟨e,q1,q2,q3,q4⟩:=LR x hx hg;have hi:=tD hp he hc aT hx hg;have kb:=tD hp he hc aT q1 q2;have hl:=(qh hx hg).1;refine ⟨e,q1,q2,q4,?_⟩
  have:=F3 (arc:=fo ends.length T (ch c)) (glue:=fun x=>(aS m ends c).getD x 0) (index:=fun x=>(c6 m ends c).getD x 0) (W:=ends.length+4) (E:=(aE m ends c).length) (en:=fun x=>(pthN (fo ends.length T (ch c)) (fun x=>(aS m ends c).getD x 0) (ends.length+4+1) [] (fo ends.length T (ch c) x)).2) (ends.length+4) (fun _ _ _=>rfl) (fun x y hx hy h0 e=>by
   have gx:=rG x hx h0;have gy:=rG y hy (by omega);rw [tD hp he hc aT hx gx,tD hp he hc aT hy gy] at e;exact G6 gx gy (by omega)) x hx (by omega) (by rw [hi,zzC];exact hl)
  rw [q3,hi,kb,zzC] at this;unfold df;rw [zzB,List.getElem?_map];rw [zzB] at this;have ax:(aJ (bE ends c) m x).length<(txN (fo ends.length T (ch c)) (fun x=>(aS m ends c).getD x 0) (fun x=>(c6 m ends c).getD x 0) (ends.length+4) (aE m ends c).length (ends.length+4)).length:=by rw [wv];exact hl
  rw [zzI ax] at this⊢;simp only [Option.getD_some,Option.map_some] at this⊢;rw [this];omega
 have mS:=fun {x:Nat} (hx:x<ends.length+4)=>(wh he hc aT hx).1;have oE:nr (df m ends c T (ch c)) (aE m ends c).length:=by
  refine ⟨JU _ _ _ _ _,fun j hj=>?_,fun j hj=>?_,fun j hj e=>?_⟩
  ·obtain ⟨x,hx,gx,rfl⟩:=tr _ j hj;obtain ⟨e,q1,q2,q3,q4⟩:=vE x hx gx;rw [q4];exact (qh q1 q2).1
  ·obtain ⟨x,hx,gx,rfl⟩:=tr _ j hj;obtain ⟨e,q1,q2,q3,q4⟩:=vE x hx gx;obtain ⟨e',p1,p2,p3,p4⟩:=vE e q1 q2;rw [q4,p4];rw [←q3,h1.jj _ (mS hx)] at p3;rw [E.inj x e' hx p1 p3]
  ·obtain ⟨x,hx,gx,rfl⟩:=tr _ j hj;obtain ⟨e',q1,q2,q3,q4⟩:=vE x hx gx;rw [q4] at e
   have:=G6 q2 gx e
   rw [this] at q3;exact h1.jf _ (mS hx) q3
 refine ⟨oE,?_⟩;have hb: ∀h,aw n h->bST m (c::P) (aE m ends c) (df m ends c T (ch c)) ch h=b h:=fun h hr=>by
  by_cases hm:h∈aE m ends c
  ·obtain ⟨x,hx,gx,rfl⟩:=(D8 hp he hc aT h).1 hm;obtain ⟨e,q1,q2,q3,q4⟩:=vE x hx gx;have g1:=qh hx gx
   have:=Ea hp LS oE ch g1.1
   rw [g1.2,q4,(qh q1 q2).2] at this;rw [this,q3]
  ·rw [wq hp LS oE ch hm];by_cases hh:h∈bE ends c
   ·obtain ⟨x,hx,rfl⟩:=sK.1 hh;rw [qf] at hx;rw [if_pos (wh he hc aT hx).2];refine (h3 x hx ?_).symm;rcases Int.lt_or_le ((aS m ends c).getD x 0) 0 with q|q
    ·exact absurd ((D8 hp he hc aT _).2 ⟨x,hx,(pC hx).1 q,rfl⟩) hm
    ·exact q
   ·have h9:b h=bST m P ends T ch h:=h2 h hr fun x hx e=>hh (sK.2 ⟨x,by rw [qf];exact hx,e.symm⟩);have Mw:h∉ends:=fun g=>hh ((zE he hc aT h).2 (.inl g));have xq:(h/4).toNat≠c:=fun e=>hh ((zE he hc aT h).2 (.inr ⟨hr.1,by have:=hr.1;omega⟩));rw [h9,wq hp he hT ch Mw];by_cases h12:(h/4).toNat∈P
    ·rw [if_pos h12,if_pos (zzE _ h12)]
    ·rw [if_neg h12,if_neg fun g=>by rcases List.mem_cons.1 g with e|e;exact xq e;exact h12 e]
 rw [WN (Gp hp LS oE ch) h1 hb];have dL:(bA (ends.length+4) (fo ends.length T (ch c)) (fun x=>(aS m ends c).getD x 0) (endN (ends.length+4) (fo ends.length T (ch c)) (fun x=>(aS m ends c).getD x 0) (ends.length+4)) (ends.length+4)).1.length=ends.length+4:=by rw [Ec,Ed]
 have iw:=OG (hs:=bE ends c) (m:=m) (l:=(bA (ends.length+4) (fo ends.length T (ch c)) (fun x=>(aS m ends c).getD x 0) (endN (ends.length+4) (fo ends.length T (ch c)) (fun x=>(aS m ends c).getD x 0) (ends.length+4)) (ends.length+4)).1) (ends.length+4) (by omega) fun x hx=>by
  rw [h8 x hx];constructor
  ·intro h e;have:=(pC hx).2 e;omega
  ·intro h;rcases Int.lt_or_le ((aS m ends c).getD x 0) 0 with q|q
   ·exact absurd ((pC hx).1 q) h
   ·exact q
 rw [List.take_of_length_le (by omega),←h7] at iw;unfold ct
 have:(aE m ends c).length+g=ends.length+4:=iw
 omega
theorem RF (b:Bool) (h0:aE m ends c=[]):1<=ct m ends c T b:=by
 have hg: ∀x,x<ends.length+4->0<=(aS m ends c).getD x 0:=fun x hx=>by
  rcases Int.lt_or_le ((aS m ends c).getD x 0) 0 with q|q
  ·have:=(D8 hp he hc aT _).2 ⟨x,hx,(wu hp he hc aT hx).1 q,rfl⟩
   rw [h0] at this;simp at this
  ·exact q
 unfold ct;rw [PJ _ hg];exact O5 (hg 0 (by omega)) (ends.length+3)
end
theorem Aa {m:List Int} {n:Nat} {P:List Nat} {ends:List Int} (hp:bD m n) (he:qH m n P ends) (hP: ∀c,c<n->c∈P):ends=[]:=by
 match ends,he with
 |[],_=>rfl
 |h::t,he=>
  obtain ⟨h1,_,h3⟩:=(he.mem h).1 (zzD ..);have hr:aw n (m.getD h.toNat 0):=(tG hp.ok hp.inv hp.ne (fun _=>false)).mr _ h1;unfold aw at hr;exact absurd (hP _ (by omega)) h3
theorem IM {k i:Nat} (h:k<2^i):e9 k i=false:=by unfold e9;rw [Nat.div_eq_of_lt h];rfl
theorem JT {k i c:Nat} (hc:c<i):e9 (2^i+k) c=e9 k c:=by
 unfold e9;obtain ⟨d,rfl⟩: ∃d,i=c+(d+1):=⟨i-c-1,by omega⟩;rw [Nat.pow_add,Nat.mul_add_div (Nat.pow_pos (by omega)),Nat.pow_succ];congr 1;omega
theorem JS {k i:Nat} (h:k<2^i):e9 (2^i+k) i=true:=by
 unfold e9
 have:=Nat.mul_add_div (m:=2^i) (Nat.pow_pos (by omega)) 1 k
 rw [Nat.mul_one,Nat.div_eq_of_lt h] at this;rw [this];rfl
theorem RE {l k:List Nat} (hn:l.Nodup) (Q:Nat->Nat->Prop) (h: ∀x∈l,∃y∈k,Q x y) (hi: ∀x x' y,x∈l->x'∈l->Q x y->Q x' y->x=x'):l.length<=k.length:=by
 have hc: ∀x:Nat,∃y,x∈l->y∈k/\Q x y:=fun x=>by
  by_cases hx:x∈l
  ·obtain ⟨y,h1,h2⟩:=h x hx;exact ⟨y,fun _=>⟨h1,h2⟩⟩
  ·exact ⟨0,fun h=>absurd h hx⟩
 have hf:=fun x=>Classical.choose_spec (hc x)
 have:l.length=(l.map fun x=>Classical.choose (hc x)).length:=by simp
 rw [this];refine sT (Im (fun x hx y hy e=>?_) hn) fun y hy=>?_
 ·have a:=(hf x hx).2;have b:=(hf y hy).2;rw [e] at a;exact hi x y _ hx hy a b
 ·obtain ⟨x,hx,rfl⟩:=List.mem_map.1 hy;exact (hf x hx).1
theorem Qh {b:Bool} {ch ch':Nat->Bool}: ∀{n:Nat},(∀c,c<n->ch c=ch' c)->difS b ch n=difS b ch' n
 |0,_=>rfl
 |n+1,h=>by simp only [difS];rw [Qh fun c hc=>h c (by omega),h n (by omega)]
theorem yC {f g:Int->Int} (h: ∀e,f e=g e) (e:Int):dw f e=dw g e:=by simp only [dw,h]
theorem qN {f g:Int->Int} (h: ∀e,f e=g e): ∀i e,dmn i f e=dmn i g e
 |0,e=>h e
 |i+1,e=>yC (qN h i) e
theorem G5 (f:Int->Int) (j:Nat): ∀i e,dmn i (dmn j f) e=dmn (i+j) f e
 |0,e=>by rw [Nat.zero_add];rfl
 |i+1,e=>by rw [Nat.add_right_comm];exact yC (G5 f j i) e
theorem PI (f:Int->Int) (a:Int): ∀i e,dmn i (fun x=>f (x-a)) e=dmn i f (e-a)
 |0,e=>rfl
 |i+1,e=>by
  simp only [dmn,dw,PI f a i];rw [show e+2-a=e-a+2 by omega,show e-2-a=e-a-2 by omega]
theorem O4: ∀i e,dmn i (fun _=>0) e=0
 |0,_=>rfl
 |i+1,e=>by simp only [dmn,dw,O4 i];rfl
theorem D7: ∀i e,dmn i (fun x=>if x=0 then 1 else 0) e=dpw i e
 |0,_=>rfl
 |i+1,e=>yC (D7 i) e
def jY (ch:Nat->Bool) (c:Nat) (b:Bool):Nat->Bool:=fun x=>if x=c then b else ch x
def psm (F:(Nat->Bool)->Int):List Nat->(Nat->Bool)->Int
 |[],ch=>F ch
 |c::r,ch=>psm F r (jY ch c false)+psm F r (jY ch c true)
theorem PH {F G:(Nat->Bool)->Int}: ∀(r:List Nat) (ch:Nat->Bool),(∀ch',(∀x,x∉r->ch' x=ch x)->F ch'=G ch')->psm F r ch=psm G r ch
 |[],ch,h=>h ch fun _ _=>rfl
 |c::r,ch,h=>by
  have key: ∀b,psm F r (jY ch c b)=psm G r (jY ch c b):=fun b=>PH r _ fun ch' h'=>h ch' fun x hx=>by
   rw [h' x fun g=>hx (zzE _ g)];exact if_neg fun (e:x=c)=>hx (by rw [e];exact zzD ..)
  simp only [psm,key]
theorem Eb (ch:Nat->Bool) {x y:Nat} (h:x≠y) (a b:Bool):jY (jY ch y a) x b=jY (jY ch x b) y a:=by
 funext z;unfold jY;by_cases e1:z=x
 ·subst e1;simp [h]
 ·simp [e1]
theorem Vo (F:(Nat->Bool)->Int) {l k:List Nat} (h:l.Perm k): ∀ch,psm F l ch=psm F k ch:=by
 induction h with
 |nil=>exact fun _=>rfl
 |cons x _ ih=>exact fun ch=>by simp only [psm,ih]
 |swap x y l=>
  intro ch;by_cases e:x=y
  ·rw [e]
  ·simp only [psm];rw [Eb ch e false false,Eb ch e false true,Eb ch e true false,Eb ch e true true];omega
 |trans _ _ h1 h2=>exact fun ch=>(h1 ch).trans (h2 ch)
def dtL:Nat->List Nat
 |0=>[]
 |n+1=>n::dtL n
theorem z8 {c:Nat}: ∀{n:Nat},c∈dtL n↔c<n
 |0=>by simp [dtL]
 |n+1=>by simp only [dtL,List.mem_cons,z8 (n:=n)];omega
theorem RD: ∀n,(dtL n).Nodup
 |0=>by simp [dtL]
 |n+1=>by
  simp only [dtL,List.nodup_cons];exact ⟨fun h=>by have:=z8.1 h;omega,RD n⟩
theorem Nh: ∀n,(dtL n).length=n
 |0=>rfl
 |n+1=>by simp [dtL,Nh n]
theorem F1 (F:(Nat->Bool)->Int): ∀(i:Nat) (ch:Nat->Bool),psm F (dtL i) ch=sm (fun k=>F (fun c=>if c<i then e9 k c else ch c)) (2^i)
 |0,ch=>by simp only [dtL,psm,Nat.pow_zero,sm,Int.zero_add];congr 1
 |i+1,ch=>by
  simp only [dtL,psm];rw [F1 F i,F1 F i,Nat.pow_succ,Nat.mul_two,O9];congr 1
  ·refine kK fun k hk=>?_;congr 1;funext c;by_cases e:c=i
   ·subst e;rw [if_neg (by omega),if_pos (by omega),IM hk];simp [jY]
   ·by_cases e2:c<i
    ·rw [if_pos e2,if_pos (by omega)]
    ·rw [if_neg e2,if_neg (by omega)];simp [jY,e]
  ·refine kK fun k hk=>?_;congr 1;funext c;by_cases e:c=i
   ·subst e;rw [if_neg (by omega),if_pos (by omega),JS hk];simp [jY]
   ·by_cases e2:c<i
    ·rw [if_pos e2,if_pos (by omega),JT e2]
    ·rw [if_neg e2,if_neg (by omega)];simp [jY,e]
theorem Ng {l:List Nat} {n:Nat} (hn:l.Nodup) (hl:l.length=n) (hr: ∀c∈l,c<n):l.Perm (dtL n):=by
 refine (List.perm_ext_iff_of_nodup hn (RD n)).2 fun a=>⟨fun h=>z8.2 (hr a h),fun h=>?_⟩;by_cases hm:a∈l
 ·exact hm
 ·exfalso;have h2:=sT (l:=a::l) (k:=dtL n) (List.nodup_cons.2 ⟨hm,hn⟩) fun y hy=>by
   rcases List.mem_cons.1 hy with rfl|hy
   ·exact h
   ·exact z8.2 (hr y hy)
  rw [Nh] at h2;simp at h2;omega
def vW (b:Bool):Int:=if b then-1 else 1
def wL (r:List Nat) (ch:Nat->Bool):Int:=(r.map fun c=>vW (ch c)).sum
theorem JR {l k:List Nat} (h:l.Perm k) (ch:Nat->Bool):wL l ch=wL k ch:=Hl (h.map _)
theorem Q1 (ch:Nat->Bool): ∀n,wL (dtL n) ch=n-2*(difS false ch n:Int)
 |0=>rfl
 |n+1=>by
  have:=Q1 ch n
  have e:wL (dtL (n+1)) ch=vW (ch n)+wL (dtL n) ch:=rfl;rw [e,this];simp only [difS,vW];cases ch n<;>simp<;>omega
def spN:List Nat->Nat
 |[]=>1
 |_::_=>0
def finR (m:List Int):List Nat->List Int->List Nat->(Int->Int)->Int->Int
 |[],_,_,f=>f
 |c::r,ends,T,f=>fun e=>
  finR m r (aE m ends c) (df m ends c T false) (dmn (ct m ends c T false-spN r) (fun e=>f (e-1))) e+
  finR m r (aE m ends c) (df m ends c T true) (dmn (ct m ends c T true-spN r) (fun e=>f (e- -1))) e
theorem sS (m:List Int): ∀(r:List Nat) (ends:List Int) (T:List Nat) {f g:Int->Int},(∀e,f e=g e)-> ∀e,finR m r ends T f e=finR m r ends T g e
 |[],_,_,f,g,h,e=>h e
 |c::r,ends,T,f,g,h,e=>by
  simp only [finR];rw [sS m r _ _ (qN (fun x=>h (x-1)) _),sS m r _ _ (qN (fun x=>h (x- -1)) _)]
theorem G4 (m:List Int): ∀(r:List Nat) (ends:List Int) (T:List Nat) (f g:Int->Int) (e:Int),finR m r ends T (fun x=>f x+g x) e=finR m r ends T f e+finR m r ends T g e
 |[],_,_,f,g,e=>rfl
 |c::r,ends,T,f,g,e=>by
  simp only [finR];rw [sS m r _ _ (DQ (fun x=>f (x-1)) (fun x=>g (x-1)) _),sS m r _ _ (DQ (fun x=>f (x- -1)) (fun x=>g (x- -1)) _),G4 m r,G4 m r];omega
def lR (m:List Int) (n:Nat) (P:List Nat) (ends:List Int) (T:List Nat) (r:List Nat) (ch:Nat->Bool):Nat:=(2*mI n (fun x=>m.getD x.toNat 0) (bST m P ends T ch)+ends.length+4*r.length-4*n)/2
theorem IL {n:Nat} {mt b:Int->Int} (hi:Inv2 n mt b) (h: ∀x,aw n x->b x=mt x):mI n mt b=2*n:=by
 have hR:=uJ hi;unfold mI;generalize crN mt b (4*n) (4*n)=R at*;have hc: ∀(x y:Int),aw n x->bf mt b x y->y=x\/y=mt x:=fun x y hx hc=>by
  induction hc with
  |refl=>exact .inl rfl
  |aO _ ih=>rcases ih with e|e<;>rw [e];exact .inr rfl;exact .inl (hi.mm _ hx)
  |join hc ih=>
   rw [h _ (hc.cR hi hx)];rcases ih with e|e<;>rw [e];exact .inr rfl;exact .inl (hi.mm _ hx)
 have y7: ∀x:Nat,x<4*n->aw n x:=fun x hx=>by unfold aw;omega
 have l5: ∀x:Nat,x<4*n->(mt x).toNat<4*n/\((mt x).toNat:Int)=mt x:=fun x hx=>by have:=hi.mr _ (y7 x hx);unfold aw at this;omega
 have La: ∀x:Nat,x<4*n->(if R.getD x 0==(x:Int) then (1:Int) else 0)+(if R.getD (mt x).toNat 0==((mt x).toNat:Int) then 1 else 0)=1:=fun x hx=>by
  obtain ⟨a1,a2⟩:=l5 x hx;have wJ:R.getD (mt x).toNat 0=R.getD x 0:=by
   refine (hR.iff _ _ a1 hx).2 ?_;rw [a2]
   have:=bf.aO (mt:=mt) (jn:=b) (bf.refl (mt x))
   rw [hi.mm _ (y7 x hx)] at this;exact this
  have E4:=hR.rep.cR x hx;have hid:=hR.rep.idem x hx;have h1:=hc x _ (y7 x hx) ((hR.iff x (R.getD x 0).toNat hx (by omega)).1 hid.symm);have av:=hi.mf _ (y7 x hx);rw [Int.toNat_of_nonneg E4.1] at h1;rw [wJ,a2];rcases h1 with e|e
  ·rw [e,if_pos (by simp),if_neg (by simp;exact fun e=>av e.symm)];rfl
  ·rw [e,if_neg (by simp;exact av),if_pos (by simp)];rfl
 unfold roots;rw [hR.rep.len];have h2:=HW (fun x=>R.getD x 0==(x:Int)) (4*n);have h3:=DT (fun x=>if R.getD x 0==(x:Int) then (1:Int) else 0) (N:=4*n) (fun x=>(mt x).toNat) (fun x hx=>(l5 x hx).1) fun x y hx hy e=>by
  have h1:=l5 x hx;have h2:=l5 y hy
  have:mt x=mt y:=by have e':(mt x).toNat=(mt y).toNat:=e;omega
  have:=congrArg mt this
  rw [hi.mm _ (y7 x hx),hi.mm _ (y7 y hy)] at this;omega
 have h4:=uZ (fun x=>if R.getD x 0==(x:Int) then (1:Int) else 0) (fun x=>if R.getD (mt x).toNat 0==((mt x).toNat:Int) then (1:Int) else 0) (4*n);rw [kK (g:=fun _=>1) La,qj] at h4;omega
structure pO (m:List Int) (n:Nat) (P:List Nat) (ends:List Int) (r:List Nat):Prop where
 he:qH m n P ends
 nd:r.Nodup
 dj: ∀c∈r,c∉P/\c<n
 al: ∀c,c<n->c∈P\/c∈r
section
variable {m:List Int} {n:Nat} (hp:bD m n)
include hp
theorem pO.step {P:List Nat} {ends:List Int} {c:Nat} {r:List Nat} (h:pO m n P ends (c::r)):pO m n (c::P) (aE m ends c) r:=by
 have h1:=h.dj c (zzD ..);have h2:=List.nodup_cons.1 h.nd;refine ⟨RG hp h.he h1.2 h1.1,h2.2,fun x hx=>?_,fun x hx=>?_⟩
 ·have h3:=h.dj x (zzE _ hx);refine ⟨fun g=>?_,h3.2⟩;rcases List.mem_cons.1 g with e|e
  ·rw [e] at hx;exact h2.1 hx
  ·exact h3.1 e
 ·rcases h.al x hx with g|g
  ·exact .inl (zzE _ g)
  ·rcases List.mem_cons.1 g with e|e
   ·rw [e];exact .inl (zzD ..)
   ·exact .inr e
omit hp in
theorem pO.init {r:List Nat} (hn:r.Nodup) (hl:r.length=n) (hr: ∀c∈r,c<n):pO m n [] [] r:=
 ⟨⟨by simp,by simp⟩,hn,fun c hc=>⟨by simp,hr c hc⟩,fun c hc=> .inr ((Ng hn hl hr).mem_iff.2 (z8.2 hc))⟩
theorem yt: ∀(r:List Nat) (P:List Nat) (ends:List Int) (T:List Nat),pO m n P ends r->nr T ends.length-> ∀ch:Nat->Bool,
  2*lR m n P ends T r ch+4*n=2*mI n (fun x=>m.getD x.toNat 0) (bST m P ends T ch)+ends.length+4*r.length/\(r≠[]->1<=lR m n P ends T r ch)/\(r=[]->lR m n P ends T r ch=0)/\
  ∀c r',r=c::r'->lR m n P ends T r ch=lR m n (c::P) (aE m ends c) (df m ends c T (ch c)) r' ch+ct m ends c T (ch c)
 |[],P,ends,T,h,hT,ch=>by
  have h0:=Aa hp h.he fun c hc=>by rcases h.al c hc with g|g;exact g;simp at g
  subst h0;have h1:=IL (Gp hp h.he hT ch) fun x hx=>by
   rw [wq hp h.he hT ch (by simp)];exact if_pos (by
    rcases h.al (x/4).toNat (by unfold aw at hx;omega) with g|g
    ·exact g
    ·simp at g)
  unfold lR;rw [h1];refine ⟨by simp only [List.length_nil];omega,fun h=>absurd rfl h,fun _=>by simp only [List.length_nil];omega,fun c r' e=>by simp at e⟩
 |c::r,P,ends,T,h,hT,ch=>by
  have h1:=h.dj c (zzD ..);have hs:=h.step hp;obtain ⟨q1,q2⟩:=tC hp h.he hT h1.2 h1.1 ch;obtain ⟨k1,k2,k3,_⟩:=yt r _ _ _ hs q1 ch;have key:2*mI n (fun x=>m.getD x.toNat 0) (bST m P ends T ch)+ends.length+4*(c::r).length=2*(lR m n (c::P) (aE m ends c) (df m ends c T (ch c)) r ch+ct m ends c T (ch c))+4*n:=by
   simp only [zzG];omega
  have e:lR m n P ends T (c::r) ch=lR m n (c::P) (aE m ends c) (df m ends c T (ch c)) r ch+ct m ends c T (ch c):=by
   conv=>lhs;unfold lR
   rw [key];omega
  refine ⟨by rw [key,e],fun _=>?_,fun h=>by simp at h,fun c' r' e'=>by cases e';exact e⟩;cases r with
  |nil=>
   have h0:=Aa hp hs.he fun c hc=>by rcases hs.al c hc with g|g;exact g;simp at g
   have:=RF hp h.he hT h1.2 h1.1 (ch c) h0
   omega
  |cons x r=>have:=k2 (by simp);omega
def yM:List Nat->Nat
 |[]=>0
 |_::_=>1
theorem O3: ∀(r:List Nat) (P:List Nat) (ends:List Int) (T:List Nat),pO m n P ends r->nr T ends.length-> ∀(f:Int->Int) (e:Int) (zj:Nat->Bool),
  finR m r ends T f e=psm (fun ch=>dmn (lR m n P ends T r ch-yM r) f (e-wL r ch)) r zj
 |[],P,ends,T,h,hT,f,e,zj=>by
  have:=(yt hp [] P ends T h hT zj).2.2.1 rfl
  simp only [finR,psm,yM,this,wL,List.map_nil,List.sum_nil,Int.sub_zero];rfl
 |c::r,P,ends,T,h,hT,f,e,zj=>by
  have h1:=h.dj c (zzD ..);have hs:=h.step hp;have za:=(List.nodup_cons.1 h.nd).1;simp only [finR,psm];have key: ∀b:Bool,finR m r (aE m ends c) (df m ends c T b) (dmn (ct m ends c T b-spN r) (fun x=>f (x-vW b))) e=psm (fun ch=>dmn (lR m n P ends T (c::r) ch-yM (c::r)) f (e-wL (c::r) ch)) r (jY zj c b):=fun b=>by
   have q1:=(tC hp h.he hT h1.2 h1.1 (fun _=>b)).1;rw [O3 r _ _ _ hs q1 _ e (jY zj c b)];refine PH r _ fun ch lf=>?_;have iL:ch c=b:=by rw [lf c za];exact if_pos rfl
   have e1:=(yt hp (c::r) P ends T h hT ch).2.2.2 c r rfl;obtain ⟨_,k2,k3,_⟩:=yt hp r _ _ _ hs q1 ch;rw [iL] at e1;have hw:wL (c::r) ch=vW b+wL r ch:=by simp only [wL,List.map_cons,List.sum_cons,iL]
   rw [G5,PI,e1,hw];rw [show e-wL r ch-vW b=e-(vW b+wL r ch) by omega];congr 1;cases r with
   |nil=>
    have h0:=Aa hp hs.he fun c hc=>by rcases hs.al c hc with g|g;exact g;simp at g
    have:=RF hp h.he hT h1.2 h1.1 b h0
    have:=k3 rfl
    simp only [spN,yM];omega
   |cons x r=>have:=k2 (by simp);simp only [spN,yM];omega
  have kf:=key false;have kt:=key true;simp only [vW,Bool.false_eq_true,if_false,if_true] at kf kt;rw [kf,kt]
theorem O2 (ch:Nat->Bool) {r:List Nat} (h:pO m n [] [] r) (hl:r.length=n):lR m n [] [] [] r ch=bT m n ch:=by
 have h1:=(yt hp r [] [] [] h ⟨rfl,fun x hx=>by simp at hx,fun x hx=>by simp at hx,fun x hx=>by simp at hx⟩ ch).1;have h2:mI n (fun x=>m.getD x.toNat 0) (bST m [] [] [] ch)=bT m n ch:=by
  have hi:=tG hp.ok hp.inv hp.ne ch;have e:bST m [] [] [] ch=fun x=>bO (ch (x/4).toNat) x:=by
   funext x;simp [bST,ndF]
  rw [e];exact yy (uJ hi) (FG hp.ok hp.inv hp.ne)
 rw [h2,hl] at h1;simp only [List.length_nil] at h1;omega
theorem JQ {r:List Nat} (hn:r.Nodup) (hl:r.length=n) (hr: ∀c∈r,c<n) (iK:0<n) (e:Int):finR m r [] [] (fun x=>if x=0 then 1 else 0) e=cu m n 0 1 e:=by
 have hS:=pO.init (m:=m) hn hl hr;have nB:=Ng hn hl hr;rw [O3 hp r [] [] [] hS ⟨rfl,fun x hx=>by simp at hx,fun x hx=>by simp at hx,fun x hx=>by simp at hx⟩ _ e (fun _=>false)];rw [Vo _ nB,F1];unfold cu rq;refine kK fun k hk=>?_;rw [O2 hp _ hS hl,JR nB,Q1,D7]
 have eI:yM r=1:=by cases r with
  |nil=>simp at hl;omega
  |cons _ _=>rfl
 have e1:bT m n (fun c=>if c<n then e9 k c else false)=bT m n (e9 k):=by unfold bT;rw [As fun c hc=>if_pos hc]
 have e2:difS false (fun c=>if c<n then e9 k c else false) n=bY k n:=by rw [Eo];exact Qh fun c hc=>if_pos hc
 have:=Ep hp (e9 k) iK
 rw [eI,e1,e2];unfold cN wB;rw [if_pos (by omega),Nat.add_zero]
def nmR (m:List Int):List Nat->List Int->List Nat->Nat
 |[],_,_=>1
 |c::r,ends,T=>2^ct m ends c T false*nmR m r (aE m ends c) (df m ends c T false)+2^ct m ends c T true*nmR m r (aE m ends c) (df m ends c T true)
omit hp in
theorem D6 (m:List Int): ∀(r:List Nat) (ends:List Int) (T:List Nat),1<=nmR m r ends T
 |[],_,_=>zzA _
 |c::r,ends,T=>by
  have h1:=D6 m r (aE m ends c) (df m ends c T false);have h2:1<=2^ct m ends c T false:=Nat.one_le_two_pow
  have:=Nat.mul_le_mul h2 h1
  simp only [nmR];omega
omit hp in
theorem IK (P:List Nat) (ends:List Int) (T:List Nat) (ch:Nat->Bool) (c:Nat) (b:Bool) (h:c∈P):bST m P ends T (jY ch c b)=bST m P ends T ch:=by
 funext x;unfold bST
 split
 ·rfl
 ·split
  ·rfl
  ·rename_i hn
   have:(x/4).toNat≠c:=fun e=>hn (e▸h)
   simp only [jY,if_neg this]
theorem RC: ∀(r:List Nat) (P:List Nat) (ends:List Int) (T:List Nat),pO m n P ends r->nr T ends.length-> ∀M:Nat,(∀ch,lR m n P ends T r ch<=M)->nmR m r ends T<=2^(r.length+M)
 |[],P,ends,T,h,hT,M,hM=>Nat.one_le_two_pow
 |c::r,P,ends,T,h,hT,M,hM=>by
  have h1:=h.dj c (zzD ..);have hs:=h.step hp;have key: ∀b:Bool,2^ct m ends c T b*nmR m r (aE m ends c) (df m ends c T b)<=2^(r.length+M):=fun b=>by
   have q1:=(tC hp h.he hT h1.2 h1.1 (fun _=>b)).1;have hk: ∀ch,lR m n (c::P) (aE m ends c) (df m ends c T b) r ch+ct m ends c T b<=M:=fun ch=>by
    have e1:=(yt hp (c::r) P ends T h hT (jY ch c b)).2.2.2 c r rfl;have e2:jY ch c b c=b:=if_pos rfl;have e3:lR m n (c::P) (aE m ends c) (df m ends c T b) r (jY ch c b)=lR m n (c::P) (aE m ends c) (df m ends c T b) r ch:=by
     unfold lR;rw [IK _ _ _ _ _ _ (zzD ..)]
    rw [e2,e3] at e1
    have:=hM (jY ch c b)
    omega
   have Ft:=hk (fun _=>false);have ih:=RC r _ _ _ hs q1 (M-ct m ends c T b) fun ch=>by have:=hk ch;omega
   refine Nat.le_trans (Nat.mul_le_mul_left _ ih) ?_;rw [←Nat.pow_add];exact Nat.pow_le_pow_right (by omega) (by omega)
  have kf:=key false;have kt:=key true;simp only [nmR,zzG]
  have:2^(r.length+1+M)=2^(r.length+M)+2^(r.length+M):=by rw [Nat.add_right_comm,Nat.pow_succ];omega
  omega
theorem Vn {r:List Nat} (hn:r.Nodup) (hl:r.length=n) (hr: ∀c∈r,c<n):nmR m r [] []<=2^(3*n):=by
 have hS:=pO.init (m:=m) hn hl hr
 have:=RC hp r [] [] [] hS ⟨rfl,fun x hx=>by simp at hx,fun x hx=>by simp at hx,fun x hx=>by simp at hx⟩ (2*n) fun ch=>by
  rw [O2 hp ch hS hl];exact sL hp ch
 rw [hl] at this;rwa [show 3*n=n+2*n by omega]
end
end Go.Proofs.YtmdjdekgakidhaaGreatDoor
